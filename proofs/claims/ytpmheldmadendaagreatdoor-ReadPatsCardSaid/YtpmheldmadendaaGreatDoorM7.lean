/-
  Texts Rd10 to Rd22 in one.
-/
import Derived.Test.YtpmheldmadendaaGreatDoorM6
open List (append_assoc drop_drop drop_length drop_zero foldl_append length_append length_cons length_drop length_map length_nil length_singleton length_take map_append map_cons mem_append mem_cons mem_cons_of_mem mem_cons_self mem_of_mem_take mem_singleton nil_append sum_cons take_add_one take_length take_succ_cons take_zero)
open Nat (add_mul le_refl le_trans lt_irrefl mul_le_mul_right zero_le)
namespace Go.Proofs.YtpmheldmadendaaGreatDoor
open Go Go.AM
set_option maxRecDepth 20000
set_option maxHeartbeats 4000000
theorem xR:∀s:Str,(∀c∈s,48≤c.toNat∧c.toNat≤57)→aC2 s 2147483648=2147483648
 | [],_=>rfl
 | c::s,h=>by
  have:=h c Bn;rw[aC2,show rU (2147483648*10+((c.toNat:Int)-48)) 2147483648=2147483648 by unfold rU;split<;>omega];exact xR s fun d q=>h d (A9 _ q)
theorem aN2:∀(s:Str) (k:Int),(∀c∈s,48≤c.toNat∧c.toNat≤57)→2147483648≤k→2147483648≤kR s k
 | [],k,_,h=>h
 | c::s,k,hs,h=>by
  have:=hs c Bn;rw[kR];split
  ·exact aN2 s _ (fun d q=>hs d (A9 _ q)) (by omega)
  ·exact h
theorem aI4:∀(s:Str) (k:Int),(∀c∈s,48≤c.toNat∧c.toNat≤57)→0≤k→k≤2147483647→aC2 s k=rU (kR s k) 2147483648
 | [],k,_,_,h=>by rw[aC2,kR];unfold rU;rw[η (by omega)]
 | c::s,k,hs,h0,h=>by
  have h1:=hs c Bn;have h2:∀d∈s,48≤d.toNat∧d.toNat≤57:=fun d q=>hs d (A9 _ q)
  rw[aC2,kR,ξ (by omega)];by_cases r:k*10+((c.toNat:Int)-48)≤2147483647
  ·rw[show rU (k*10+((c.toNat:Int)-48)) 2147483648=k*10+((c.toNat:Int)-48) by unfold rU;rw[η (by omega)]];exact aI4 s _ h2 (by omega) r
  ·rw[show rU (k*10+((c.toNat:Int)-48)) 2147483648=2147483648 by unfold rU;split<;>omega,xR s h2];have:=aN2 s (k*10+((c.toNat:Int)-48)) h2 (by omega);unfold rU;split<;>omega
theorem aQ2 (c:Nat):nmQ c 97 122=wiB c 97 122:=by
 unfold nmQ fiB wiB plB;rw[Bo];simp;omega
theorem aQ1 (c:Nat):nmQ c 65 90=wiB c 65 90:=by
 unfold nmQ fiB wiB plB;rw[Bo];simp;omega
theorem aQ3 (c:Nat) (h:wiB c 97 122=true):wiB c 65 90=false:=by
 unfold wiB at *;simp at *;omega
theorem aF5 {c:UInt8}{r:Str}(h:wiB c.toNat 65 90=true) (hs:sgB c.toNat=true):¬(c::r).take (cJ sgB (c::r))∈nY:=fun hm=>by
 rw[cJ,ξ hs,Bc] at hm;have:c=99∨c=100∨c=105∨c=108∨c=111:=by
  unfold nY at hm;simp only[Ap,List.cons.injEq,List.not_mem_nil,or_false] at hm;rcases hm with⟨h,_⟩ | ⟨h,_⟩ | ⟨h,_⟩ | ⟨h,_⟩ | ⟨h,_⟩ | ⟨h,_⟩ | ⟨h,_⟩<;>simp[h]
 unfold wiB at h;rcases this with rfl | rfl | rfl | rfl | rfl<;>exact absurd h (by decide)
theorem aOz (c:UInt8):b9 Tryz.prog 174 [I .u8 (c.toNat:Nat)] [] (B (dgB c.toNat)) []:=by
 have h:=oD aP2 c;rw[←aQ8 c];refine bM (n:=6) tok Tryz.func174 rfl rfl rfl ?_;exact sg rfl (sgh [(1,.pc (I .i64 (Lib.indexByte aP2 c)))] rfl (aD rtT))
def v8:Code→Code | .seq _ b=>b | c=>c
noncomputable def aRu (c:Code):Code:=v8 (v8 (v8 (v8 c)))
def aHe:TE→Int
 | .ok _=>0
 | .error e=>e
theorem aOq (c:UInt8) (r:Str) (hl:r.length≤4000):∃(k0:Int) (t0:Str) (v0:Int),b9 Tryz.prog 132 [Go.AM.T (c::r)] [] (.tup [.pa [.int .i64 k0,.str t0,.int .i64 v0,.int .i64 0],I .i64 (aHe (mW (c::r)))]) []∧∀k t v,mW (c::r)=.ok (k,t,v)→k0=k∧t0=t∧v0=v:=by
 have hSl:(c::r).length≤4001:=by rw[τ];omega
 have J:=wA 174 dgB (c::r) hSl (by kernel_rfl) fun d B=>aOz d
 have hw2:=wA 178 sgB (c::r) hSl (by kernel_rfl) fun d _=>aHy d
 have M:=aIa c;have O:=aH8 c;rw[aQ2] at M;rw[aQ1] at O;have ht1:(c::r).take 1=[c]:=rfl;by_cases B:dgB c.toNat=true
 ·have E:∀d∈(c::r).take (cJ dgB (c::r)),48≤d.toNat∧d.toNat≤57:=fun d B=>by
   obtain⟨j,hj⟩:=List.getElem?_of_mem B;rw[Ai] at hj;split at hj
   ·rename_i U;exact κ ((jS dgB (c::r) j (by omega) d hj).2 U)
   ·cases hj
  have A:mW (c::r)=if 2147483647<kR ((c::r).take (cJ dgB (c::r))) 0 then .error 11 else .ok (3,(c::r).take (cJ dgB (c::r)),kR ((c::r).take (cJ dgB (c::r))) 0):=by rw[mW,ξ B]
  have hnum:=aHv ((c::r).take (cJ dgB (c::r))) (by rw[Al];omega) E;rw[aI4 _ 0 E (by decide) (by decide)] at hnum;have hN1:0<cJ dgB (c::r):=by rw[cJ,ξ B];omega
  have hNl:=gY dgB (c::r);rw[A];clear E A M O hw2 ht1;generalize cJ dgB (c::r)=N at *;generalize c::r=S at *;generalize hK:kR (S.take N) 0=K at *;refine⟨3,S.take N,rU K 2147483648,?_,fun k t v h=>?_⟩
  ·refine bM (n:=67) tok Tryz.func132 rfl rfl rfl ?_;refine sg rfl (aA (sk 1 rfl (kc J ?_)));refine kz 1 rfl ?_;have dN:decide ((0:Int)<(N:Int))=true:=φ (by omega);refine sg rfl (aB rfl (fun _=>aA (aC mixed (akN 6 [] rfl (kc hnum ?_)))) (fun hb=>absurd (hb.symm.trans dN) (by decide)));refine akN 3 [] rfl (az (aA (sg rfl ?_)));by_cases hk:2147483647<K
   ·rw[ξ hk];refine aB rfl (fun _=>?_) (fun hb=>?_)
    ·exact sg rfl (aD (x8 trw))
    ·have:=Af hb;unfold rU at this;split at this<;>omega
   ·rw[η hk];refine aB rfl (fun hb=>?_) (fun _=>?_)
    ·have:=κ hb;unfold rU at this;split at this<;>omega
    ·exact aE (sg rfl (aD (x8 trw)))
  ·split at h
   ·cases h
   ·rename_i hk;cases h;exact⟨rfl,rfl,by unfold rU;rw[η (by omega)]⟩
 ·have hS1:1≤(c::r).length:=by rw[τ];omega
  have hN0:cJ dgB (c::r)=0:=by rw[cJ,η B]
  rw[hN0] at J;have A:mW (c::r)=if wiB c.toNat 97 122=true∨wiB c.toNat 65 90=true then qX (c::r) (wiB c.toNat 65 90) else if qB (c::r)=[] then .error 10 else .ok (4,qB (c::r),0):=by rw[mW,η B]
  have hnk:= @aF5 c r;have hsg:wiB c.toNat 97 122=true∨wiB c.toNat 65 90=true→sgB c.toNat=true:=fun h=>by
   rcases h with h | h
   ·have:=aJ2 c.toNat;rw[h] at this;simpa using this
   ·have:=aJ1 c.toNat;rw[h] at this;simpa using this
  have hlu:=aQ3 c.toNat;have hsy:qB (c::r)=(match s3.find? (fun x=>preB x (c::r)) with | some x=>x | none=>[]):=rfl;rw[A];clear A B;generalize c::r=S at *;generalize wiB c.toNat 97 122=lo at *;generalize wiB c.toNat 65 90=up at *;have kind:∃k:Int,k=if lo=true then 1 else if up=true then 2 else 0:=⟨_,rfl⟩
  obtain⟨kd,q⟩:=kind;have pre:∀(l:List C) (e:Int),AWp none Tryz.prog 67 (keys []) (aRu (Tryz.f132.body.getD .skip)) (mk [(0,Go.AM.T S),(2,.one (.vp 2 0)),(6,I .i64 kd)] [(2,.var 139 (aBg.map .c))]) (fun ex st=>(ex=.normal∨ex=.ret)∧Fin tr.flat Tryz.f132 st [] (.tup [.pa l,I .i64 e]) [])→b9 Tryz.prog 132 [Go.AM.T S] [] (.tup [.pa l,I .i64 e]) []:=fun l e h=>by
   refine bM (n:=67) tok Tryz.func132 rfl rfl rfl ?_;refine sg rfl (aA (sk 1 rfl (kc J ?_)));refine kz 1 rfl (sg rfl (aB rfl (fun hb=>absurd hb (by decide)) (fun _=>aE (sg rfl (lL (mk [(0,Go.AM.T S),(2,.one (.vp 2 0)),(6,I .i64 kd)] [(2,.var 139 (aBg.map .c))]) ?_ h)))));refine aF (sk 2 rfl ?_);rw[ht1];refine kc M ?_;refine kz 1 rfl (aB rfl (fun hb=>?_) (fun hb=>?_))
   ·rw[hb,ξ rfl] at q;subst q;exact ag [] rfl (.inl ⟨rfl,sl⟩)
   rw[hb,η π] at q;refine sk 2 rfl ?_;rw[ht1];refine kc O ?_;refine kz 1 rfl (aB rfl (fun hb=>?_) (fun hb=>?_))
   ·rw[hb,ξ rfl] at q;subst q;exact ag [] rfl (.inl ⟨rfl,sl⟩)
   ·rw[hb,η π] at q;subst q;exact aE (.inl ⟨rfl,sl⟩)
  clear M O J hN0;by_cases hn:lo=true∨up=true
  ·rw[ξ hn];have hsg:=hsg hn;have hkp:0<kd:=by
    rw[q];rcases hn with h | h
    ·rw[ξ h];decide
    ·rw[ξ h];split<;>decide
   have hW:=gY sgB S;have hky:=aLs;have hct:=mD nY (S.take (cJ sgB S)) (by decide);have hnk:=fun h=>hnk h hsg
   unfold qX;generalize cJ sgB S=N at *;have k5:∃k5:Int,k5=if S.take N∈nY then 5 else kd:=⟨_,rfl⟩
   obtain⟨k5,y⟩:=k5;have dk:decide ((0:Int)<kd)=true:=φ hkp;refine⟨k5,S.take N,0,pre _ _ ?_,fun k t v h=>?_⟩
   ·refine aA (sg rfl (aB rfl (fun _=>sk 3 rfl (kc hw2 ?_)) (fun hb=>absurd (hb.symm.trans dk) (by decide))));refine kz 4 rfl (lL (mk [(0,Go.AM.T S),(2,.one (.vp 2 0)),(7,.one (.vp 7 0))] [(2,.var 139 (aBg.map .c)),(7,.var 139 [.c (.int .i64 k5),.c (.str (S.take N)),.c (.int .i64 0),.c (.int .i64 0)])]) ?_ ?_)
    ·generalize nY=L at *;refine aA (aC mixed (kc hky ?_));refine akN 2 [] rfl (kc hct ?_);refine az (aB rfl (fun hb=>?_) (fun hb=>?_))
     ·rw[ξ (κ hb)] at y;subst y;exact ag [] rfl (.inl ⟨rfl,sl⟩)
     ·rw[η (Af hb)] at y;subst y;exact aE (.inl ⟨rfl,sl⟩)
    ·have hTl:(S.take N).length=N:=by rw[Al];omega
     generalize S.take N=X at *;refine aA (sg rfl ?_);rw[hTl];refine aB rfl (fun hb=>?_) (fun hb=>?_)
     ·rw[ξ (by have:=κ hb;omega)];exact sg rfl (aD (x8 trw))
     ·rw[η (by have:=Af hb;omega)];have e0:aHe (if up=true then(.ok (2,X,0):TE) else if X∈nY then .ok (5,X,0) else .ok (1,X,0))=0:=by
       split
       ·rfl
       ·split<;>rfl
      rw[e0];exact aE (sg rfl (aD (x8 trw)))
   ·split at h
    ·cases h
    split at h
    ·rename_i hu;cases h;rw[η (hnk hu)] at y;have hl:¬lo=true:=fun hl=>by rw[hlu hl] at hu;cases hu
     exact⟨by rw[y,q,η hl,ξ hu],rfl,rfl⟩
    ·rename_i hu;split at h
     ·rename_i hm;cases h;rw[ξ hm] at y;exact⟨y,rfl,rfl⟩
     ·rename_i hm;cases h;rw[η hm] at y;exact⟨by rw[y,q,ξ (hn.resolve_right hu)],rfl,rfl⟩
  ·rw[η hn];have hk0:kd=0:=by rw[q,η (fun h=>hn (.inl h)),η (fun h=>hn (.inr h))]
   subst hk0;have hsb:=aAw;have h13:s3.length≤13:=by decide
   refine⟨if qB S=[] then 0 else 4,qB S,0,pre _ _ ?_,fun k t v h=>?_⟩
   ·refine aA (sg rfl (aB rfl (fun hb=>absurd hb (by decide)) (fun _=>aE ?_)));have hne:∀x∈s3,¬x=[]:=by decide
    rw[hsy];clear hsy;generalize s3=L at *;have hkl:(L.map bD).length=L.length:=χ _;refine aA (aA (aC mixed (kc hsb ?_)));refine kz 2 rfl (aF (aM (fun i:Nat=>mk [(0,Go.AM.T S),(2,.one (.vp 2 0)),(54,.one (.c (.sl 1 (L.map bD)))),(55,I .i64 ((L.map bD).length:Nat)),(56,I .i64 i)] [(2,.var 139 (aBg.map .c))]) (fun i=>i≤L.length∧(L.take i).find? (fun x=>preB x S)=none) (fun i=>L.length-i) 0 ⟨Ae _,rfl⟩ sl ?_));rintro i ⟨hi,Y⟩;refine sg rfl (aA (aB rfl (fun hb=>?_) (fun hb=>?_)))
    ·have U:=ltD hb hkl;obtain⟨x,hx⟩:=aP U;have hx':=bG bD hx;have hpx:=oB S x;refine aE (aA (aF (sgh [(0,.row i (bD x))] rfl (sk 2 rfl (kc hpx ?_)))));refine az (aB rfl (fun hb=>?_) (fun hb=>?_))
     ·rw[jM Y hx hb];dsimp only;rw[η (hne x (Ag hx)),η (hne x (Ag hx))];exact sg rfl (aD (x8 trw))
     ·exact aE (ag [] rfl ⟨i+1,⟨U,jN Y hx hb⟩,by dsimp only;omega,sl⟩)
    ·have hge:=geD hb hkl hi;rw[hge,Az] at Y;rw[Y];dsimp only;rw[ξ rfl,ξ rfl];exact aL (sg rfl (aD (x8 trw)))
   ·split at h
    ·cases h
    ·rename_i hs;cases h;exact⟨η hs,rfl,rfl⟩
def blS:Str:=[32,9,10]
theorem aRd (c:UInt8):ixB blS c=blB c.toNat:=jD (p:=fun c=>ixB blS c=blB c.toNat) (by decide+kernel) c
theorem aDe {s:Str}(h:preB [45,45] s=true):cJ neB s=2+cJ neB (s.drop 2):=by
 unfold preB at h;rw[Aa] at h;have h2:=κ h.2
 match s,h2 with
 | a::b::r,h2=>
  have h2:[a,b]=[45,45]:=h2;cases h2;rw[cJ,ξ (by decide),cJ,ξ (by decide)];show cJ neB r+1+1=2+cJ neB r;omega
theorem aRb (c:UInt8):b9 Tryz.prog 131 [I .u8 (c.toNat:Nat)] [] (B (neB c.toNat)) []:=by
 have e:(!decide ((c.toNat:Int)=10))=neB c.toNat:=by
  unfold neB;by_cases h:c.toNat=10
  ·rw[φ h,φ (by omega)]
  ·rw[ψ h,ψ (by omega)]
 rw[←e];refine bM (n:=5) tok Tryz.func131 rfl rfl rfl ?_;exact sg rfl (sg rfl (aD rtT))
theorem aJh (S:Str):b9 Tryz.prog 79 [Go.AM.T S] [] (aAl (kA S)) []:=by
 refine bM (n:=65) tok Tryz.func79 rfl rfl rfl ?_;refine sg rfl (aFc ?_);refine aA (sg rfl (aB rfl (fun hb=>?_) (fun hb=>?_)))
 ·unfold kA;rw[ξ (by have:=κ hb;omega)];exact sg rfl (aD (aMd trw))
 have hl:S.length≤4000:=by have:=Af hb;omega
 have hA:kA S=aMh [] (lO S.length 0 (S.drop 0)):=by
  unfold kA;rw[η (by omega),B1];cases lO S.length 0 S<;>rfl
 refine aE (sg rfl (sg rfl (AWp.sub (Sub.own (t:=4) (id:=500) 139 4 rfl rfl) ?_)));refine aA (aFd ?_);refine aA (aF (aM (fun p:Nat×Nat×List Tk=>mk [(0,Go.AM.T S),(3,.one (.vp 3 0)),(4,.one (.hs 500 0 p.2.2.length p.2.2.length)),(5,I .i64 p.1)] [(3,.var 32 [.c (.int .i64 0),.c (.int .i64 0)]),(500,.arr 139 4 (p.2.2.map aJ) 0)]) (fun p=>p.1≤S.length∧S.length-p.1≤p.2.1∧p.2.2.length+(S.length-p.1)≤S.length∧kA S=aMh p.2.2 (lO p.2.1 p.1 (S.drop p.1))) (fun p=>p.2.1) (0,S.length,[]) ⟨Ae _,by dsimp only;omega,by dsimp only;simp,hA⟩ sl ?_));rintro⟨i,f,out⟩ ⟨hi,hf,aa,q⟩;dsimp only at hi hf aa q ⊢;have hout:(out.map aJ).length=out.length:=χ _;refine aA (sg rfl (aB rfl (fun hb=>?_) (fun hb=>?_)))
 ·have hlt:i<S.length:=by have:=κ hb;omega
  obtain⟨g,rfl⟩:∃g,f=g+1:=⟨f-1,by omega⟩
  obtain⟨c,r,A⟩:∃c r,S.drop i=c::r:=by
   cases h:S.drop i with
   | nil=>
    have:=congrArg List.length h;rw[Bf,length_nil] at this;omega
   | cons c r=>exact⟨c,r,rfl⟩
  have hci:S[i]?=some c:=by
   have:=congrArg (fun l=>l[0]?) A;simpa [Aj] using this
  have ab:(c::r).length=S.length-i:=by rw[←A,Bf]
  rw[τ] at ab;obtain⟨Y,t0,v0,ac,ad⟩:=aOq c r (by omega);have ae:=oD blS c;have M:=aRd c;unfold ixB at M;have af:=oB (c::r) [45,45];have ah:=wA 131 neB (c::r) (by rw[τ];omega) (by kernel_rfl) fun d _=>aRb d
  have U:=uA (c::r);have ai:= @qV c r;have aj:= @qW c r;have E:= @aDe (c::r);have y:j0 (c::r)=if blB c.toNat=true then 1 else if preB [45,45] (c::r)=true then 2+cJ neB ((c::r).drop 2) else 0:=rfl
  rw[A,lO] at q;have O:∀m:Nat,(c::r).drop m=S.drop (i+m):=fun m=>by rw[←A,Cp]
  rw[τ] at U;refine aE (aF (aA (sg rfl ?_)));rw[A];refine aF (skh 3 [(2,.byte i c)] rfl (kc ae ?_));refine kz 2 rfl ?_;rw[M];by_cases J:blB c.toNat=true
  ·rw[J];rw[ξ J] at y;rw[y,ξ (by decide),O] at q;exact aB rfl (fun _=>aA (agN [] rfl (aL ⟨(i+1,g,out),⟨by dsimp only;omega,by dsimp only;omega,by dsimp only;omega,q⟩,by dsimp only;omega,sl⟩))) (fun hb=>absurd hb (by decide))
  rw[η J] at y;rw[Bool.not_eq_true _ |>.mp J];refine aB rfl (fun hb=>absurd hb (by decide)) (fun _=>sk 1 rfl (kc af ?_));refine kz 1 rfl (aB rfl (fun hb=>?_) (fun hb=>?_))
  ·rw[ξ hb,←E hb] at y;have al:0<cJ neB (c::r):=by rw[E hb];omega
   rw[y,ξ al,O] at q;rw[y] at U;generalize cJ neB (c::r)=m at *;refine aA (aC mixed (akN 2 [] rfl (kc ah ?_)));exact akN 2 [] rfl (az (aL ⟨(i+m,g,out),⟨by dsimp only;omega,by dsimp only;omega,by dsimp only;omega,q⟩,by dsimp only;omega,sl⟩))
  ·rw[η (by rw[hb];exact π)] at y;rw[η (by rw[y];exact lt_irrefl 0)] at q;refine aE (sk 3 rfl ?_);rw[A];refine kc ac ?_;generalize mW (c::r)=o at *;cases o with
   | error e=>
    dsimp only at q;have he:=aj rfl;rw[q];exact kz 6 rfl (aA (sg rfl (aB rfl (fun _=>sg rfl (aD (aMd trw))) (fun hb=>absurd hb (by simp[aHe,he])))))
   | ok p=>
    obtain⟨k,t,v⟩:=p;obtain⟨e1,e2,e3⟩:=ad k t v rfl;subst e1 e2 e3;dsimp only at q;obtain⟨ht1,am⟩:=ai rfl;rw[τ] at am;rw[sO,O] at q;refine kz 6 rfl (aA (sg rfl (aB rfl (fun hb=>absurd hb (by simp[aHe])) (fun _=>aE (sg rfl (sgh [(1,.all),(2,.all)] rfl (agN [] rfl ?_)))))));have B:out.map aJ++[[.int .i64 Y,.str t0,.int .i64 v0,.int .i64 (i:Int)]]=(out++[(⟨Y,t0,v0,i⟩:Tk)]).map aJ:=by simp[aJ]
    exact⟨(i+t0.length,g,out++[⟨Y,t0,v0,i⟩]),⟨by dsimp only;omega,by dsimp only;omega,by dsimp only;rw[ζ,Ba];omega,q⟩,by dsimp only;omega,sl (he:=⟨rfl,rfl,Go.AM.hs_ren (by simp) (by simp),rfl,trivial⟩) (hh:=⟨⟨_,rfl,.var rfl⟩,⟨_,rfl,.arrS B⟩,trivial⟩)⟩
 ·have e:i=S.length:=by have:=Af hb;omega
  have hE:lO f i (S.drop i)=.ok [⟨6,[],0,i⟩]:=by
   rw[e,Ck];cases f<;>rfl
  rw[hE] at q;rw[q];have B:out.map aJ++[[.int .i64 6,.str [],.int .i64 0,.int .i64 (i:Int)]]=(out++[(⟨6,[],0,i⟩:Tk)]).map aJ:=by simp[aJ]
  refine aL (sgh [(4,.all)] rfl ?_);subst e;show AWp _ _ _ _ _ _ (aJr fun ex st=>(ex=.normal∨ex=.ret)∧Fin _ _ st _ (aAl (.ok (out++[⟨6,[],0,(S.length:Int)⟩]))) _);unfold aAl;dsimp only;rw[←B];refine AWp.sub (Sub.freeze (id:=500) rfl) (AWp.sub (cv 2 (out.map aJ++[[.int .i64 6,.str [],.int .i64 0,.int .i64 (S.length:Int)]])) ?_);exact aD (aMd trw)
mutual
def tn:Ty→Nat
 | .mk _ _ s a=>1+s.length+tns a
def tns:List Ty→Nat
 | []=>0
 | t::l=>tn t+tns l
end
theorem oY (t:Ty):1≤tn t:=by cases t;rw[tn];omega
theorem uW:∀l:List Ty,l.length≤tns l
 | []=>Ae _
 | t::l=>by rw[tns,τ];have:=uW l;have:=oY t;omega
theorem jQ:∀{l:List Ty}{t:Ty},t∈l→tn t≤tns l
 | u::l,t,h=>by
  rw[tns];rcases Ap.1 h with rfl | h
  ·omega
  ·have:=jQ h;omega
theorem tU (t:Ty) (ht:t.args.length≤1000000) (y:∀u∈t.args,b9 Tryz.prog 251 [tyV u] [] (tyV u) []):b9 Tryz.prog 251 [tyV t] [] (tyV t) []:=by
 obtain⟨f,n,s,a⟩:=t;have y:∀u∈a,b9 Tryz.prog 251 [tyV u] [] (tyV u) []:=y;have J:a.length≤1000000:=ht;have q:(cC a).length=a.length:=by rw[cV,χ]
 refine bM (n:=22) tok Tryz.func251 rfl rfl rfl ?_;refine sg rfl (sg rfl (AWp.sub (Sub.own (t:=3) (id:=600) 47 4 rfl rfl) ?_));refine aA (sg rfl (aF (aM (fun i:Nat=>mk [(1,.one (.vp 1 0)),(2,.one (.vp 2 0)),(3,.one (.hs 600 0 ((cC a).take i).length ((cC a).take i).length)),(7,.one (.c (.sl 4 (cC a)))),(8,I .i64 ((cC a).length:Int)),(9,I .i64 i)] [(600,.arr 47 4 ((cC a).take i) 0),(1,.var 47 ((bT (.mk f n s a)).map R.c)),(2,.var 47 [.c (.int .i64 0),.c (.int .i64 0),.c (.str []),.c .nl])]) (fun i=>i≤a.length) (fun i=>a.length-i) 0 (Ae _) sl ?_)));intro i hi;have M:((cC a).take i).length=i:=by rw[Al];omega
 refine sg rfl (aA (aB rfl (fun hb=>?_) (fun hb=>?_)))
 ·have r:=ltD hb q;obtain⟨u,hu⟩:=aP r;have A:(cC a)[i]?=some (bT u):=by rw[cV];exact bG bT hu
  have hc:=y u (Ag hu);have B:(cC a).take (i+1)=(cC a).take i++[bT u]:=by rw[Bk,A];rfl
  refine aE (aA (aF (sgh [(0,.row i (bT u))] rfl (aC mixed (ak 2 [] rfl (kc hc ?_))))));refine ak 3 [(3,.all)] rfl (az (ag [] rfl ⟨i+1,r,by dsimp only;omega,?_⟩));dsimp only;rw[B];exact sl
 have E:=geD hb q hi;subst E;rw[show(cC a).take a.length=cC a by rw[←q,Az]];refine aL (AWp.sub (Sub.freeze (id:=600) rfl) ?_);refine sg rfl (AWp.sub (vp 1 (bT (.mk f n s a))) ?_);exact sg rfl (aD (rtC trw))
mutual
def wfS:Ty→Bool
 | .mk f n s a=>(if f=4 then decide (n=0∧s=[]∧a.length=2) else if f=5 then decide (n=0∧a.length=1) else a.isEmpty)&&aJv a
def aJv:List Ty→Bool
 | []=>true
 | t::l=>wfS t&&aJv l
end
theorem wW:∀{l:List Ty}{t:Ty},aJv l=true→t∈l→wfS t=true
 | u::l,t,h,ht=>by
  rw[aJv,Aa] at h;rcases Ap.1 ht with rfl | ht
  ·exact h.1
  ·exact wW h.2 ht
theorem aIs {f n:Int}{s:Str}{a:List Ty}(h:wfS (.mk f n s a)=true):a.length≤2∧(∀u∈a,wfS u=true)∧(f=4→n=0∧s=[]∧∃u v,a=[u,v])∧(f=5→n=0∧∃u,a=[u])∧(¬f=4→¬f=5→a=[]):=by
 rw[wfS,Aa] at h;obtain⟨h1,h2⟩:=h;refine⟨?_,fun u hu=>wW h2 hu,fun c=>?_,fun q=>?_,fun c q=>?_⟩
 ·split at h1
  ·exact Nat.le_of_eq (κ h1).2.2
  ·split at h1
   ·rw[(κ h1).2];omega
   ·rw[List.isEmpty_iff.1 h1];simp
 ·rw[ξ c] at h1;obtain⟨r,a2,a3⟩:=κ h1
  match a,a3 with
  | [u,v],_=>exact⟨r,a2,u,v,rfl⟩
 ·rw[η (by omega),ξ q] at h1;obtain⟨r,a2⟩:=κ h1;exact⟨r,List.length_eq_one_iff.1 a2⟩
 ·rw[η c,η q] at h1;exact List.isEmpty_iff.1 h1
theorem aEf:∀(k:Nat) (t:Ty),tn t≤k→wfS t=true→b9 Tryz.prog 251 [tyV t] [] (tyV t) []
 | 0,t,h,_=>by have:=oY t;omega
 | k+1,t,h,hw=>by
  obtain⟨f,n,s,a⟩:=t;obtain⟨h1,h2,_⟩:=aIs hw;exact tU (.mk f n s a) (show a.length≤_ by omega) fun u hu=>aEf k u (by have hu:u∈a:=hu;have:=jQ hu;rw[tn] at h;omega) (h2 u hu)
theorem rG (a b:Ty):b9 Tryz.prog 252 [tyV a,tyV b] [] (tyV (kC a b)) []:=by
 refine bM (n:=9) tok Tryz.func252 rfl rfl rfl ?_;exact sg rfl (sgh [(2,.all)] rfl (aD (rtC trw)))
def kB (f:Int) (s:Str) (o:List Str) (x:Str):List Str:=if ¬x∈o∧(¬f=5∨¬x=s) then o++[x] else o
def uR (f:Int) (s:Str) (o:List Str) (l:List Str):List Str:=l.foldl (kB f s) o
mutual
def tfR:Ty→List Str
 | .mk f _ s a=>if f=2 then [s] else aIu f s a []
def aIu (f:Int) (s:Str):List Ty→List Str→List Str
 | [],o=>o
 | t::l,o=>aIu f s l (uR f s o (tfR t))
end
def tfL (f:Int) (s:Str) (l:List Ty) (o:List Str):List Str:=l.foldl (fun o t=>uR f s o (tfR t)) o
theorem uZ (f:Int) (s:Str):∀(l:List Ty) (o:List Str),aIu f s l o=tfL f s l o
 | [],o=>by rw[aIu];rfl
 | t::l,o=>by rw[aIu,uZ f s l];rfl
theorem aBu (f:Int) (s:Str) (o:List Str) (x:Str):(kB f s o x).length≤o.length+1:=by
 unfold kB;split
 ·simp
 ·omega
theorem n5 (f:Int) (s:Str):∀(l o:List Str),(uR f s o l).length≤o.length+l.length
 | [],o=>le_refl _
 | x::l,o=>by
  have h1:=n5 f s l (kB f s o x);have h2:=aBu f s o x;show(uR f s (kB f s o x) l).length≤_;rw[τ];omega
mutual
theorem oZ:∀t:Ty,(tfR t).length≤tn t
 | .mk f n s a=>by
  rw[tfR,tn];split
  ·simp;omega
  ·have:=uY f s a [];simp only[length_nil] at this;omega
theorem uY (f:Int) (s:Str):∀(l:List Ty) (o:List Str),(aIu f s l o).length≤o.length+tns l
 | [],o=>by rw[aIu,tns];exact le_refl _
 | t::l,o=>by
  rw[aIu,tns];have h1:=uY f s l (uR f s o (tfR t));have h2:=n5 f s (tfR t) o;have c:=oZ t;omega
end
theorem aBw {f:Int}{s:Str}{o l:List Str}{j:Nat}{x:Str}(h:l[j]?=some x):uR f s o (l.take (j+1))=kB f s (uR f s o (l.take j)) x:=by
 unfold uR;rw[Bk,h,foldl_append];rfl
theorem aF8 {f:Int}{s:Str}{o:List Str}{l:List Ty}{j:Nat}{x:Ty}(h:l[j]?=some x):tfL f s (l.take (j+1)) o=uR f s (tfL f s (l.take j) o) (tfR x):=by
 unfold tfL;rw[Bk,h,foldl_append];rfl
theorem x3:∀(l:List Ty) (i:Nat),tns (l.take i)≤tns l
 | [],i=>by simp
 | t::l,0=>by rw[take_zero,tns];omega
 | t::l,i+1=>by rw[Bc,tns,tns];have:=x3 l i;omega
theorem lB (t:Ty) (ht:t.args.length≤1000000000) (hL:∀i,(tfL t.form t.name (t.args.take i) []).length≤1000000000) (hU:∀u∈t.args,(tfR u).length≤1000000000) (ih:∀u∈t.args,b9 Tryz.prog 222 [tyV u] [] (dH (tfR u)) []):b9 Tryz.prog 222 [tyV t] [] (dH (tfR t)) []:=by
 obtain⟨f,n,s,a⟩:=t;have hal:a.length≤1000000000:=ht;have hL:∀i,(tfL f s (a.take i) []).length≤1000000000:=hL;have hU:∀u∈a,(tfR u).length≤1000000000:=hU;have ih:∀u∈a,b9 Tryz.prog 222 [tyV u] [] (dH (tfR u)) []:=ih;have aa:(cC a).length=a.length:=by rw[cV,χ]
 rw[tfR];refine bM (n:=50) tok Tryz.func222 rfl rfl rfl ?_;refine sg rfl (aA (sg rfl (aB rfl (fun hb=>?_) (fun hb=>?_))))
 ·have h2:f=2:=κ hb;rw[ξ h2];exact sgh [(2,.all)] rfl (aD rtT)
 ·have h2:¬f=2:=Af hb;rw[η h2,uZ] at *;refine aE (sg rfl (AWp.sub (Sub.own (t:=3) (id:=600) 9 1 rfl rfl) (AWp.sub (Sub.freeze (id:=600) rfl) ?_)));refine aA (sg rfl (aF (aM (fun i:Nat=>mk [(1,.one (.vp 1 0)),(3,.one (.hs 600 0 (tfL f s (a.take i) []).length (tfL f s (a.take i) []).length)),(15,.one (.c (.sl 4 (cC a)))),(16,I .i64 ((cC a).length:Int)),(17,I .i64 i)] [(600,.arr 9 1 ((tfL f s (a.take i) []).map bD) 2),(1,.var 47 ((bT (.mk f n s a)).map R.c))]) (fun i=>i≤a.length) (fun i=>a.length-i) 0 (Ae _) sl ?_)));intro i hi;refine sg rfl (aA (aB rfl (fun hb=>?_) (fun hb=>?_)))
  ·have ab:=ltD hb aa;obtain⟨u,hu⟩:=aP ab;have hu':(cC a)[i]?=some (bT u):=by rw[cV];exact bG bT hu
   have hm:=Ag hu;have hc:=ih u hm;have hul:=hU u hm;have J:=aF8 (f:=f) (s:=s) (o:=[]) hu;have hol:=hL i;generalize tfL f s (a.take i) []=o at J hol ⊢;have M:((tfR u).map bD).length=(tfR u).length:=χ _;generalize tfR u=r at hc hul J M;refine aE (aA (aF (sgh [(0,.row i (bT u))] rfl (sk 1 rfl (kc hc ?_)))));refine kz 2 rfl (aF (aM (fun j:Nat=>mk [(1,.one (.vp 1 0)),(3,.one (.hs 600 0 (uR f s o (r.take j)).length (uR f s o (r.take j)).length)),(15,.one (.c (.sl 4 (cC a)))),(16,I .i64 ((cC a).length:Int)),(17,I .i64 i),(22,dH r),(23,I .i64 ((r.map bD).length:Int)),(24,I .i64 j)] [(600,.arr 9 1 ((uR f s o (r.take j)).map bD) 2),(1,.var 47 ((bT (.mk f n s a)).map R.c))]) (fun j=>j≤r.length) (fun j=>r.length-j) 0 (Ae _) sl ?_));intro j hj;refine sg rfl (aA (aB rfl (fun hb=>?_) (fun hb=>?_)))
   ·have y:=ltD hb M;obtain⟨x,hx⟩:=aP y;have hx':=bG bD hx;have A:=aBw (f:=f) (s:=s) (o:=o) hx;have hpl:(uR f s o (r.take j)).length≤2000000000:=by
     have:=n5 f s (r.take j) o;rw[Al] at this;omega
    generalize uR f s o (r.take j)=q at A hpl ⊢;have B:=mD q x (by omega);have hkq:(q.map bD).length=q.length:=χ _;refine aE (aA (aF (sgh [(0,.row j (bD x))] rfl ?_)));by_cases E:x∈q
    ·rw[φ E] at B;have he:kB f s q x=q:=by unfold kB;rw[η (fun h=>h.1 E)]
     refine sk 2 rfl (kc B ?_);refine kz 12 rfl (aB rfl nofun (fun _=>aE (ag [] rfl ⟨j+1,y,by dsimp only;omega,?_⟩)));dsimp only;rw[A,he];exact sl
    rw[ψ E] at B;by_cases Y:f=5
    ·have d5:decide (f=5)=true:=φ Y;have d5':(!decide (f=5))=false:=by rw[d5];rfl
     refine sk 2 rfl (kc B ?_);refine ak 12 [(8,.bv false),(13,.bv false)] rfl (az (aB rfl (fun hb=>?_) (fun hb=>?_)))
     ·have O:¬x=s:=by simp at hb;exact hb
      have he:kB f s q x=q++[x]:=by unfold kB;rw[ξ ⟨E,.inr O⟩]
      refine ag [(2,.all)] rfl (AWp.sub (Sub.freeze (id:=600) rfl) ?_);refine ag [] rfl ⟨j+1,y,by dsimp only;omega,?_⟩;dsimp only;rw[A,he];exact sl (hh:=⟨⟨_,rfl,.arrS (by rw[Am];rfl)⟩,⟨_,rfl,.var rfl⟩,trivial⟩)
     ·have O:x=s:=by simp at hb;exact hb
      have he:kB f s q x=q:=by unfold kB;rw[η (fun h=>h.2.elim (fun h=>h Y) (fun h=>h O))]
      refine aE (ag [] rfl ⟨j+1,y,by dsimp only;omega,?_⟩);dsimp only;rw[A,he];exact sl
    ·have d5:decide (f=5)=false:=ψ Y;have d5':(!decide (f=5))=true:=by rw[d5];rfl
     have he:kB f s q x=q++[x]:=by unfold kB;rw[ξ ⟨E,.inl Y⟩]
     refine sk 2 rfl (kc B ?_);refine ak 12 [(8,.bv true),(13,.bv true)] rfl (az (aB rfl (fun _=>ag [(2,.all)] rfl (AWp.sub (Sub.freeze (id:=600) rfl) ?_)) nofun));refine ag [] rfl ⟨j+1,y,by dsimp only;omega,?_⟩;dsimp only;rw[A,he];exact sl (hh:=⟨⟨_,rfl,.arrS (by rw[Am];rfl)⟩,⟨_,rfl,.var rfl⟩,trivial⟩)
   have U:=geD hb M hj;subst U;rw[Az];refine aL (ag [] rfl ⟨i+1,ab,by dsimp only;omega,?_⟩);dsimp only;rw[J];exact sl
  have U:=geD hb aa hi;subst U;rw[Az];exact aL (sg rfl (aD (rtT (hc:=hs_all rfl rfl (by simp) rfl))))
theorem tV (t:Ty) (ht:tn t≤1000000000) (c:∀u,tn u<tn t→b9 Tryz.prog 222 [tyV u] [] (dH (tfR u)) []):b9 Tryz.prog 222 [tyV t] [] (dH (tfR t)) []:=by
 obtain⟨f,n,s,a⟩:=t;rw[tn] at ht c;have q:=uW a;refine lB (.mk f n s a) (show a.length≤_ by omega) (fun i=>?_) (fun u hu=>?_) fun u hu=>c u ?_
 ·have h1:=uY f s (a.take i) [];rw[uZ] at h1;have h2:=x3 a i;simp only[length_nil] at h1;show(tfL f s (a.take i) []).length≤_;omega
 ·have h1:=jQ (show u∈a from hu);have h2:=oZ u;omega
 ·have h1:=jQ (show u∈a from hu);omega
theorem yN:∀(k:Nat) (t:Ty),tn t≤k→tn t≤1000000000→b9 Tryz.prog 222 [tyV t] [] (dH (tfR t)) []
 | 0,t,h,_=>by have:=oY t;omega
 | k+1,t,h,hm=>tV t hm fun u hu=>yN k u (by omega) (by omega)
mutual
def fvm:Ty→Nat
 | .mk f n s a=>max (tfR (.mk f n s a)).length (aP0 a)
def aP0:List Ty→Nat
 | []=>0
 | t::l=>max (fvm t) (aP0 l)
end
theorem aN8 (t:Ty):(tfR t).length≤fvm t:=by cases t;rw[fvm];exact Nat.le_max_left ..
theorem y5:∀{l:List Ty}{t:Ty},t∈l→fvm t≤aP0 l
 | u::l,t,h=>by
  rw[aP0];rcases Ap.1 h with rfl | h
  ·exact Nat.le_max_left ..
  ·exact le_trans (y5 h) (Nat.le_max_right ..)
theorem aDr {f n:Int}{s:Str}{a:List Ty}{u:Ty}(h:u∈a):fvm u≤fvm (.mk f n s a):=by
 rw[fvm];exact le_trans (y5 h) (Nat.le_max_right ..)
theorem aBv {f:Int}{s:Str}{L:Nat}:∀{l:List Ty}{o:List Str},(∀u∈l,(tfR u).length≤L)→(tfL f s l o).length≤o.length+l.length*L
 | [],o,_=>by simp[tfL]
 | t::l,o,h=>by
  have h1:=aBv (f:=f) (s:=s) (l:=l) (o:=uR f s o (tfR t)) fun u hu=>h u (A9 _ hu)
  have h2:=n5 f s (tfR t) o;have c:=h t Bn;show(tfL f s l (uR f s o (tfR t))).length≤_;rw[τ,Nat.succ_mul];omega
theorem yM:∀(k:Nat) (t:Ty),tn t≤k→wfS t=true→fvm t≤400000000→b9 Tryz.prog 222 [tyV t] [] (dH (tfR t)) []
 | 0,t,h,_,_=>by have:=oY t;omega
 | k+1,t,h,hw,q=>by
  obtain⟨f,n,s,a⟩:=t;obtain⟨h1,h2,_⟩:=aIs hw;have hu:∀u∈a,(tfR u).length≤400000000:=fun u hu=>le_trans (aN8 u) (le_trans (aDr hu) q)
  refine lB (.mk f n s a) (show a.length≤_ by omega) (fun i=>?_) (fun u c=>le_trans (hu u c) (by decide)) fun u c=>?_
  ·have r:=aBv (f:=f) (s:=s) (l:=a.take i) (o:=[]) fun u c=>hu u (B3 c)
   rw[Al,length_nil] at r;have y:min i a.length*400000000≤2*400000000:=Au _ (by omega);show(tfL f s (a.take i) []).length≤_;omega
  ·have c:u∈a:=c;exact yM k u (by have:=jQ c;rw[tn] at h;omega) (h2 u c) (le_trans (aDr c) q)
def fw (t:Ty):Nat:=if wfS t=true∧fvm t≤tn t then fvm t else tn t
theorem aN7 (t:Ty):fw t≤tn t:=by
 unfold fw;split
 ·rename_i h;exact h.2
 ·exact le_refl _
theorem yO (t:Ty) (h:fw t≤400000000):b9 Tryz.prog 222 [tyV t] [] (dH (tfR t)) []:=by
 unfold fw at h;split at h
 ·rename_i c;exact yM (tn t) t (le_refl _) c.1 h
 ·exact yN (tn t) t (le_refl _) (by omega)
abbrev PE:=Int×Int
abbrev TR:=Except PE (Ty×List Tk)
def isT (t:Tk) (s:Str):Bool:=decide (t.kind=4)&&decide (t.text=s)
def cM:Str:=[40]
def pD:Str:=[41]
def aPb (t:Tk):Bool:=decide (t.kind=1) || (decide (t.kind=2) || isT t cM)
def aMz (s:Str):Ty:=.mk 3 0 s []
def aMx (s:Str):Ty:=.mk 2 0 s []
mutual
def dI:Nat→Nat→List Tk→TR
 | 0,_,_=>.error (12,0)
 | _+1,_,[]=>.error (12,0)
 | f+1,o,t::R=>
  if t.kind=2 then .ok (aMz t.text,R)
  else if t.kind=1 then .ok (aMx t.text,R)
  else if isT t cM=false then .error (12,t.pl)
  else if 40≤o then .error (13,t.pl)
  else qF (cL f (o+1) R)
def cL:Nat→Nat→List Tk→TR
 | 0,_,_=>.error (12,0)
 | f+1,o,R=>match dI f o R with
  | .error e=>.error e
  | .ok (x,R1)=>mE f o x R1
def mE:Nat→Nat→Ty→List Tk→TR
 | 0,_,_,_=>.error (12,0)
 | _+1,_,_,[]=>.error (12,0)
 | f+1,o,x,t::R=>
  if aPb t=true then(match dI f o (t::R) with
   | .error e=>.error e
   | .ok (a,R1)=>mE f o (kC x a) R1)
  else if isT t arrow=true then(match cL f o R with
   | .error e=>.error e
   | .ok (to,R1)=>.ok (aBt x to,R1))
  else .ok (x,t::R)
def qF:TR→TR
 | .error e=>.error e
 | .ok (_,[])=>.error (12,0)
 | .ok (x,t::R)=>if isT t pD=true then .ok (x,R) else .error (12,t.pl)
end
def lN (R:List Tk):Prop:=∃p e,R=p++[e]∧e.kind=6
theorem lN.ne {R:List Tk}(h:lN R):∃t R',R=t::R':=by
 obtain⟨p,e,rfl,_⟩:=h;cases p with
 | nil=>exact⟨e,[],rfl⟩
 | cons a p=>exact⟨a,p++[e],rfl⟩
theorem lN.tail {t:Tk}{R:List Tk}(h:lN (t::R)) (c:¬t.kind=6):lN R:=by
 obtain⟨p,e,hp,he⟩:=h;cases p with
 | nil=>
  obtain⟨rfl,_⟩:=List.cons.inj hp;exact absurd he c
 | cons a p=>
  obtain⟨_,rfl⟩:=List.cons.inj hp;exact⟨p,e,rfl,he⟩
def wt (R:List Tk):Nat:=(R.map fun t=>t.text.length+6).sum
theorem eR (t:Tk) (R:List Tk):wt (t::R)=t.text.length+6+wt R:=by unfold wt;rw[As,Bz]
theorem c9 {t:Tk}{s:Str}(h:isT t s=true):t.kind=4∧t.text=s:=by
 unfold isT at h;rw[Aa] at h;exact⟨κ h.1,κ h.2⟩
mutual
def nF:Ty→Bool
 | .mk f _ _ a=>!decide (f=5)&&nFs a
def nFs:List Ty→Bool
 | []=>true
 | t::l=>nF t&&nFs l
end
structure TOk (R:List Tk) (m:Nat) (x:Ty) (R':List Tk):Prop where
 e:lN R→lN R'
 s:∃p,R=p++R'∧m≤p.length
 w:wfS x=true∧nF x=true
theorem TOk.len {R R':List Tk}{m:Nat}{x:Ty}(h:TOk R m x R'):R'.length+m≤R.length:=by
 obtain⟨p,rfl,hp⟩:=h.s;rw[ζ];omega
abbrev WF (x:Ty):Prop:=wfS x=true∧nF x=true
theorem wV {a b:Ty}(ha:WF a) (hb:WF b):WF (kC a b):=by
 unfold kC;refine⟨?_,?_⟩
 ·rw[wfS,ξ rfl,aJv,aJv,aJv,ha.1,hb.1];rfl
 ·rw[nF,nFs,nFs,nFs,ha.2,hb.2];rfl
theorem aMv {a b:Ty}(ha:WF a) (hb:WF b):WF (aBt a b):=wV (wV ⟨rfl,rfl⟩ ha) hb
theorem aBs (a b:Ty):tn (kC a b)=1+(tn a+(tn b+0)):=by unfold kC;rw[tn,tns,tns,tns];rfl
theorem aMy (a b:Ty):tn (aBt a b)=5+tn a+tn b:=by
 unfold aBt;rw[aBs,aBs];have:tn (.mk 3 0 arrow [])=3:=by rw[tn,tns];rfl
 rw[this];omega
mutual
theorem j6:∀(f o:Nat) (R:List Tk) (x:Ty) (R':List Tk),dI f o R=.ok (x,R')→TOk R 1 x R'∧tn x+5+wt R'≤wt R
 | 0,_,_,_,_,h=>by rw[dI] at h;cases h
 | _+1,_,[],_,_,h=>by rw[dI] at h;cases h
 | f+1,o,t::R,x,R',h=>by
  rw[dI] at h;rw[eR];by_cases h2:t.kind=2
  ·rw[ξ h2] at h;cases h;refine⟨⟨fun he=>he.tail (by omega),⟨[t],rfl,le_refl _⟩,⟨rfl,rfl⟩⟩,?_⟩;unfold aMz;rw[tn,tns];omega
  rw[η h2] at h;by_cases h1:t.kind=1
  ·rw[ξ h1] at h;cases h;refine⟨⟨fun he=>he.tail (by omega),⟨[t],rfl,le_refl _⟩,⟨rfl,rfl⟩⟩,?_⟩;unfold aMx;rw[tn,tns];omega
  rw[η h1] at h;split at h
  ·cases h
  rename_i hp;have hp:=c9 (by simpa using hp:isT t cM=true);split at h
  ·cases h
  cases hw:cL f (o+1) R with
  | error e=>rw[hw,qF] at h;cases h
  | ok y=>
   obtain⟨y,R1⟩:=y;rw[hw] at h;obtain⟨⟨g1,⟨p,g2,g3⟩,g4⟩,g5⟩:=gO f (o+1) R y R1 hw;cases R1 with
   | nil=>rw[qF] at h;cases h
   | cons u R2=>
    rw[qF] at h;split at h
    ·rename_i hu;have hu:=c9 hu;cases h;rw[eR] at g5;refine⟨⟨fun he=>(g1 (he.tail (by omega))).tail (by omega),⟨t::(p++[u]),by rw[g2];simp,by simp⟩,g4⟩,by omega⟩
    ·cases h
theorem gO:∀(f o:Nat) (R:List Tk) (x:Ty) (R':List Tk),cL f o R=.ok (x,R')→TOk R 1 x R'∧tn x+5+wt R'≤wt R
 | 0,_,_,_,_,h=>by rw[cL] at h;cases h
 | f+1,o,R,x,R',h=>by
  rw[cL] at h;cases ha:dI f o R with
  | error e=>rw[ha] at h;cases h
  | ok y=>
   obtain⟨y,R1⟩:=y;rw[ha] at h;obtain⟨⟨g1,⟨p,g2,g3⟩,g4⟩,g5⟩:=j6 f o R y R1 ha;obtain⟨⟨c,⟨q,r,E⟩,A⟩,B⟩:=aFf f o y R1 x R' g4 h;exact⟨⟨fun he=>c (g1 he),⟨p++q,by rw[g2,r,Ar],by rw[ζ];omega⟩,A⟩,by omega⟩
theorem aFf:∀(f o:Nat) (y:Ty) (R:List Tk) (x:Ty) (R':List Tk),WF y→mE f o y R=.ok (x,R')→TOk R 0 x R'∧tn x+wt R'≤tn y+wt R
 | 0,_,_,_,_,_,_,h=>by rw[mE] at h;cases h
 | _+1,_,_,[],_,_,_,h=>by rw[mE] at h;cases h
 | f+1,o,y,t::R,x,R',hy,h=>by
  rw[mE] at h;split at h
  ·cases ha:dI f o (t::R) with
   | error e=>rw[ha] at h;cases h
   | ok a=>
    obtain⟨a,R1⟩:=a;rw[ha] at h;obtain⟨⟨g1,⟨p,g2,g3⟩,g4⟩,g5⟩:=j6 f o (t::R) a R1 ha;obtain⟨⟨c,⟨q,r,E⟩,A⟩,B⟩:=aFf f o (kC y a) R1 x R' (wV hy g4) h;rw[aBs] at B;exact⟨⟨fun he=>c (g1 he),⟨p++q,by rw[g2,r,Ar],Ae _⟩,A⟩,by omega⟩
  split at h
  ·rename_i ht;have ht:=c9 ht;cases ha:cL f o R with
   | error e=>rw[ha] at h;cases h
   | ok a=>
    obtain⟨a,R1⟩:=a;rw[ha] at h;cases h;obtain⟨⟨g1,⟨p,g2,g3⟩,g4⟩,g5⟩:=gO f o R a R' ha;rw[aMy,eR];exact⟨⟨fun he=>g1 (he.tail (by omega)),⟨t::p,by rw[g2];rfl,Ae _⟩,aMv hy g4⟩,by omega⟩
  ·cases h;exact⟨⟨id,⟨[],rfl,le_refl _⟩,hy⟩,le_refl _⟩
end
mutual
theorem fS:∀(f o:Nat) (R:List Tk) (e p:Int),dI f o R=.error (e,p)→¬e=0
 | 0,_,_,_,_,h=>by rw[dI] at h;cases h;decide
 | _+1,_,[],_,_,h=>by rw[dI] at h;cases h;decide
 | f+1,o,t::R,e,p,h=>by
  rw[dI] at h;split at h
  ·cases h
  split at h
  ·cases h
  split at h
  ·cases h;decide
  split at h
  ·cases h;decide
  cases hw:cL f (o+1) R with
  | error e'=>
   rw[hw,qF] at h;cases h;exact eS f (o+1) R e p hw
  | ok y=>
   obtain⟨y,R1⟩:=y;rw[hw] at h;cases R1 with
   | nil=>rw[qF] at h;cases h;decide
   | cons u R2=>
    rw[qF] at h;split at h
    ·cases h
    ·cases h;decide
theorem eS:∀(f o:Nat) (R:List Tk) (e p:Int),cL f o R=.error (e,p)→¬e=0
 | 0,_,_,_,_,h=>by rw[cL] at h;cases h;decide
 | f+1,o,R,e,p,h=>by
  rw[cL] at h;cases ha:dI f o R with
  | error e'=>
   rw[ha] at h;cases h;exact fS f o R e p ha
  | ok y=>
   rw[ha] at h;exact zG f o _ _ e p h
theorem zG:∀(f o:Nat) (x:Ty) (R:List Tk) (e p:Int),mE f o x R=.error (e,p)→¬e=0
 | 0,_,_,_,_,_,h=>by rw[mE] at h;cases h;decide
 | _+1,_,_,[],_,_,h=>by rw[mE] at h;cases h;decide
 | f+1,o,x,t::R,e,p,h=>by
  rw[mE] at h;split at h
  ·cases ha:dI f o (t::R) with
   | error e'=>
    rw[ha] at h;cases h;exact fS f o (t::R) e p ha
   | ok y=>
    rw[ha] at h;exact zG f o _ _ e p h
  split at h
  ·cases ha:cL f o R with
   | error e'=>
    rw[ha] at h;cases h;exact eS f o R e p ha
   | ok y=>
    rw[ha] at h;cases h
  ·cases h
end
theorem aK6 (s:Str):b9 Tryz.prog 111 [Go.AM.T s] [] (tyV (.mk 2 0 s [])) []:=by
 refine bM (n:=5) tok Tryz.func111 rfl rfl rfl ?_;exact sg rfl (sg rfl (aD (rtC trw)))
theorem aEc (s:Str):b9 Tryz.prog 240 [Go.AM.T s] [] (tyV (.mk 3 0 s [])) []:=by
 refine bM (n:=5) tok Tryz.func240 rfl rfl rfl ?_;exact sg rfl (sg rfl (aD (rtC trw)))
def uX (L:List Tk):V:=.one (.c (.sl 4 (L.map aJ)))
def tkV (t:Tk):V:=.pa (aJ t)
structure At (L:List Tk) (i:Nat) (R:List Tk):Prop where
 d:L.drop i=R
 e:lN R
 l:L.length≤4001
theorem At.lt {L:List Tk}{i:Nat}{R:List Tk}(h:At L i R):i+R.length=L.length∧1≤R.length:=by
 obtain⟨t,R',c⟩:=h.e.ne;have:=congrArg List.length h.d;rw[Bf] at this;have h1:1≤R.length:=by rw[c,τ];omega
 omega
theorem At.get {L:List Tk}{i:Nat}{t:Tk}{R:List Tk}(h:At L i (t::R)):L[i]?=some t:=by
 have:=congrArg (fun l=>l[0]?) h.d;simpa [Aj] using this
theorem At.to {L:List Tk}{i:Nat}{R p R':List Tk}(h:At L i R) (hs:R=p++R') (he:lN R'):At L (i+p.length) R'∧L.length-R'.length=i+p.length:=by
 have h1:=h.lt;refine⟨⟨?_,he,h.l⟩,?_⟩
 ·rw[←Cp,h.d,hs,List.drop_left]
 ·rw[hs,ζ] at h1;omega
theorem At.next {L:List Tk}{i:Nat}{t:Tk}{R:List Tk}(h:At L i (t::R)) (c:¬t.kind=6):At L (i+1) R∧L.length-R.length=i+1:=h.to (p:=[t]) rfl (h.e.tail c)
theorem At.ok {L:List Tk}{i m:Nat}{R R':List Tk}{x:Ty}(h:At L i R) (k:TOk R m x R'):At L (L.length-R'.length) R'∧i+m≤L.length-R'.length:=by
 obtain⟨p,hs,hp⟩:=k.s;obtain⟨g1,g2⟩:=h.to hs (k.e h.e);rw[g2];exact⟨g1,by omega⟩
def aC5 (o:List Str) (s:Str):List Str:=if s∈o then o else o++[s]
def mM (o l:List Str):List Str:=l.foldl aC5 o
theorem xU (o l m:List Str):mM o (l++m)=mM (mM o l) m:=by unfold mM;rw[foldl_append]
theorem kO:∀(l o:List Str),(mM o l).length≤o.length+l.length
 | [],o=>le_refl _
 | x::l,o=>by
  have:=kO l (aC5 o x);have h1:(aC5 o x).length≤o.length+1:=by unfold aC5;split<;>simp
  show(mM (aC5 o x) l).length≤_;rw[τ];omega
def oV (l:List Str):V:=.one (.hs 710 0 l.length l.length)
def oO (l:List Str):AObj:=.arr 9 1 (l.map bD) 1
structure Prd where
 cls:Str
 ty:Ty
def aT (p:Prd):List C:=[.str p.cls,.int .i64 p.ty.form,.int .i64 p.ty.n,.str p.ty.name,.sl 4 (cW p.ty)]
def yF:Str:=[44]
def darrow:Str:=[61,62]
def kL:Nat→Bool→List Tk→List Prd→Option (List Prd×List Tk)
 | 0,_,_,_=>none
 | _+1,_,[],_=>none
 | f+1,b,t::R,out=>
  if t.kind=2 then(match dI (3*R.length) (if b=true then 1 else 0) R with
   | .error _=>none
   | .ok (_,[])=>none
   | .ok (x,u::R2)=>if(b&&isT u yF)=true then kL f b R2 (out++[⟨t.text,x⟩]) else some (out++[⟨t.text,x⟩],u::R2))
  else none
abbrev PR:=Except PE (List Prd×List Tk)
def aFy (at':Int) (R0:List Tk) (out:List Prd):List Tk→PR
 | []=>.ok ([],R0)
 | u::R=>if isT u darrow=true then(if 16<out.length then .error (2,at') else .ok (out,R)) else .ok ([],R0)
def brP (at':Int) (R0:List Tk) (b:Bool) (out:List Prd):List Tk→PR
 | []=>.ok ([],R0)
 | u::R=>if b=true then(if isT u pD=true then aFy at' R0 out R else .ok ([],R0)) else aFy at' R0 out (u::R)
def oH (at':Int) (R0:List Tk) (b:Bool):Option (List Prd×List Tk)→PR
 | none=>.ok ([],R0)
 | some (out,R1)=>brP at' R0 b out R1
def dL:List Tk→PR
 | []=>.ok ([],[])
 | t::R=>oH t.pl (t::R) (isT t cM) (kL ((t::R).length+1) (isT t cM) (if isT t cM=true then R else t::R) [])
structure POk (R:List Tk) (out:List Prd) (R':List Tk) (m:Nat):Prop where
 e:lN R→lN R'
 s:∃p,R=p++R'∧m≤p.length
 w:∀p∈out,WF p.ty∧tn p.ty≤wt R
 l:out.length≤R.length
theorem oX {p R:List Tk}:wt R≤wt (p++R):=by unfold wt;rw[Am,List.sum_append];omega
theorem qR:∀(f:Nat) (b:Bool) (R:List Tk) (out:List Prd) (c:List Prd) (R':List Tk) (W n:Nat),wt R≤W→(∀p∈out,WF p.ty∧tn p.ty≤W)→out.length+R.length≤n→kL f b R out=some (c,R')→
  (lN R→lN R')∧(∃p,R=p++R'∧1≤p.length)∧(∀p∈c,WF p.ty∧tn p.ty≤W)∧c.length≤n
 | 0,_,_,_,_,_,_,_,_,_,_,h=>by rw[kL] at h;cases h
 | _+1,_,[],_,_,_,_,_,_,_,_,h=>by rw[kL] at h;cases h
 | f+1,b,t::R,out,c,R',W,n,B,ho,hn,h=>by
  rw[kL] at h;by_cases h2:t.kind=2
  ·rw[ξ h2] at h;have hok:=j6 (3*R.length) (if b=true then 1 else 0) R;generalize dI (3*R.length) (if b=true then 1 else 0) R=w at hok h;cases w with
   | error e=>cases h
   | ok y=>
    obtain⟨x,R1⟩:=y;obtain⟨⟨g1,⟨p,g2,g3⟩,g4⟩,g5⟩:=hok x R1 rfl;rw[eR] at B;rw[τ] at hn;have A:R1.length+1≤R.length:=by rw[g2,ζ];omega
    have r:∀q∈out++[(⟨t.text,x⟩:Prd)],WF q.ty∧tn q.ty≤W:=fun q hq=>by
     rcases Bi.1 hq with hq | hq
     ·exact ho q hq
     ·rw[Aw.1 hq];exact⟨g4,by show tn x≤W;omega⟩
    cases R1 with
    | nil=>cases h
    | cons u R2=>
     dsimp only at h;split at h
     ·rename_i hc;rw[Aa] at hc;have hu:=c9 hc.2;rw[eR] at g5;rw[τ] at A;obtain⟨E,⟨q,I,O⟩,J,M⟩:=qR f b R2 (out++[⟨t.text,x⟩]) c R' W n (by omega) r (by rw[ζ,Ba];omega) h;exact⟨fun he=>E ((g1 (he.tail (by omega))).tail (by omega)),⟨t::(p++u::q),by rw[g2,I];simp,by simp⟩,J,M⟩
     ·cases h;exact⟨fun he=>g1 (he.tail (by omega)),⟨t::p,by rw[g2];rfl,by simp⟩,r,by rw[ζ,Ba];omega⟩
  ·rw[η h2] at h;cases h
theorem aJp {a:Int}{R0 R1:List Tk}{out c:List Prd}{R':List Tk}(hs:(lN R0→lN R1)∧∃p,R0=p++R1) (ho:∀p∈out,WF p.ty∧tn p.ty≤wt R0) (hl:out.length≤R0.length) (h:aFy a R0 out R1=.ok (c,R')):POk R0 c R' 0:=by
 have q:POk R0 [] R0 0:=⟨id,⟨[],rfl,le_refl _⟩,fun p hp=>by(cases hp),Ae _⟩
 cases R1 with
 | nil=>rw[aFy] at h;cases h;exact q
 | cons u R=>
  rw[aFy] at h;split at h
  ·rename_i hu;split at h
   ·cases h
   ·cases h;obtain⟨h1,p,h2⟩:=hs;exact⟨fun he=>(h1 he).tail (by rw[(c9 hu).1];decide),⟨p++[u],by rw[h2];simp,Ae _⟩,ho,hl⟩
  ·cases h;exact q
theorem kJ {R:List Tk}{out:List Prd}{R':List Tk}(h:dL R=.ok (out,R')):POk R out R' 0:=by
 have r:POk R [] R 0:=⟨id,⟨[],rfl,le_refl _⟩,fun p hp=>by(cases hp),Ae _⟩
 cases R with
 | nil=>rw[dL] at h;cases h;exact r
 | cons t R=>
  rw[dL] at h;have c:(lN (t::R)→lN (if isT t cM=true then R else t::R))∧(∃p,t::R=p++(if isT t cM=true then R else t::R)):=by
   by_cases hb:isT t cM=true
   ·rw[ξ hb];exact⟨fun he=>he.tail (by rw[(c9 hb).1];decide),[t],rfl⟩
   ·rw[η hb];exact⟨id,[],rfl⟩
  have hw:wt (if isT t cM=true then R else t::R)≤wt (t::R):=by
   split
   ·rw[eR];omega
   ·exact le_refl _
  have hlen:(if isT t cM=true then R else t::R).length≤(t::R).length:=by split<;>simp
  have hok:=qR ((t::R).length+1) (isT t cM) (if isT t cM=true then R else t::R) [];generalize (if isT t cM=true then R else t::R)=Q at c hw hlen hok h;generalize isT t cM=b at hok h;cases hp:kL ((t::R).length+1) b Q [] with
  | none=>rw[hp,oH] at h;cases h;exact r
  | some y=>
   obtain⟨I,R1⟩:=y;rw[hp,oH] at h;obtain⟨J,⟨q,M,k3⟩,B,E⟩:=hok I R1 (wt (t::R)) (t::R).length hw (fun p hp=>by cases hp) (by rw[length_nil];omega) hp;obtain⟨h1,p,h2⟩:=c;have A:(lN (t::R)→lN R1)∧∃p,t::R=p++R1:=⟨fun he=>J (h1 he),p++q,by rw[h2,M,Ar]⟩
   cases R1 with
   | nil=>rw[brP] at h;cases h;exact r
   | cons u R2=>
    rw[brP] at h;split at h
    ·split at h
     ·rename_i hu;obtain⟨O,U,Y⟩:=A;exact aJp ⟨fun he=>(O he).tail (by rw[(c9 hu).1];decide),U++[u],by rw[Y];simp⟩ B E h
     ·cases h;exact r
    ·exact aJp A B E h
structure Sch where
 vars:List Str
 preds:List Prd
 ty:Ty
def gP (o:List Str) (ps:List Prd):List Str:=ps.foldl (fun o p=>mM o (tfR p.ty)) o
def aM2 (ps:List Prd) (x:Ty):List Str:=mM (gP [] ps) (tfR x)
abbrev SR:=Except PE (Sch×List Tk)
def qH (ps:List Prd):TR→SR
 | .error e=>.error e
 | .ok (x,R)=>.ok (⟨aM2 ps x,ps,x⟩,R)
def qI:PR→SR
 | .error e=>.error e
 | .ok (ps,R)=>qH ps (cL (3*R.length+2) 0 R)
def cZ (R:List Tk):SR:=qI (dL R)
theorem vS (o:List Str) (ps:List Prd) (p:Prd):gP o (ps++[p])=mM (gP o ps) (tfR p.ty):=by unfold gP;rw[foldl_append];rfl
theorem aDp {ps:List Prd}{i:Nat}{p:Prd}(h:ps[i]?=some p):gP [] (ps.take (i+1))=mM (gP [] (ps.take i)) (tfR p.ty):=by rw[Bk,h];exact vS _ _ _
theorem y3 {W:Nat}:∀(ps:List Prd) (o:List Str),(∀p∈ps,tn p.ty≤W)→(gP o ps).length≤o.length+ps.length*W
 | [],o,_=>by show o.length≤_;omega
 | p::ps,o,h=>by
  have h1:=y3 ps (mM o (tfR p.ty)) fun q hq=>h q (A9 _ hq)
  have h2:=kO (tfR p.ty) o;have c:=oZ p.ty;have r:=h p Bn;show(gP (mM o (tfR p.ty)) ps).length≤_;rw[τ,A2];omega
theorem zE {a:Int}{R0 R1:List Tk}{out:List Prd}{e p:Int}(h:aFy a R0 out R1=.error (e,p)):¬e=0:=by
 cases R1 with
 | nil=>rw[aFy] at h;cases h
 | cons u R=>
  rw[aFy] at h;split at h
  ·split at h
   ·cases h;decide
   ·cases h
  ·cases h
theorem iQ {R:List Tk}{e p:Int}(h:dL R=.error (e,p)):¬e=0:=by
 cases R with
 | nil=>rw[dL] at h;cases h
 | cons t R=>
  rw[dL] at h;cases hp:kL ((t::R).length+1) (isT t cM) (if isT t cM=true then R else t::R) [] with
  | none=>rw[hp,oH] at h;cases h
  | some y=>
   obtain⟨c,R1⟩:=y;rw[hp,oH] at h;cases R1 with
   | nil=>rw[brP] at h;cases h
   | cons u R2=>
    rw[brP] at h;split at h
    ·split at h
     ·exact zE h
     ·cases h
    ·exact zE h
theorem qG {R:List Tk}{e p:Int}(h:cZ R=.error (e,p)):¬e=0:=by
 unfold cZ at h;cases hp:dL R with
 | error e'=>rw[hp,qI] at h;cases h;exact iQ hp
 | ok y=>
  obtain⟨ps,R1⟩:=y;rw[hp,qI] at h;cases hw:cL (3*R1.length+2) 0 R1 with
  | error e'=>rw[hw,qH] at h;cases h;exact eS _ _ _ _ _ hw
  | ok y=>obtain⟨x,R2⟩:=y;rw[hw,qH] at h;cases h
section
variable {fn:Func}{st:St}{hin hout:List (Nat×AObj)}
theorem gS {a0 t0 I y U:Nat}{i0:TI}{q:List AM.R}{v0 w0:V}{ids0:List Nat}{Y:Nat}{v1 B:V}{M:List Nat}{a2 t2 J A aa:Nat}{i2:TI}{r:List AM.R}{v2 E:V}{O:List Nat}(hr:fn.results.toList=[.cell a0 t0,.tmp Y,.cell a2 t2]:=by rfl) (ab:tr.get t0=some i0:=by rfl) (ac:st.e a0=some (.one (.vp I y)):=by rfl) (ad:st.h I=some (.var U q):=by rfl) (ae:Nat.ble (y+i0.size) q.length=true:=by rfl) (af:gX i0 ((q.drop y).take i0.size)=some v0:=by rfl) (ag:st.e Y=some v1:=by rfl) (ah:tr.get t2=some i2:=by rfl) (ai:st.e a2=some (.one (.vp J A)):=by rfl) (aj:st.h J=some (.var aa r):=by rfl) (ak:Nat.ble (A+i2.size) r.length=true:=by rfl) (al:gX i2 ((r.drop A).take i2.size)=some v2:=by rfl)
  (am:Conv st.h ids0 v0 w0:=by first | exact .refl | exact .one (.c .nl .nil) | exact .one (.hs rfl (by first | rfl | assumption | simp) (by first | rfl | exact Go.AM.take_all (by first | assumption | rfl | (simp;done)) | exact Go.AM.take_map.symm) .nil) | ((first | apply Go.AM.Conv.pa | apply Go.AM.Conv.agg);repeat (first | exact .nil | apply Go.AM.PureL.c .refl | apply Go.AM.PureL.c .nl | (apply Go.AM.PureL.hs;rfl;(first | rfl | assumption | simp);(first | rfl | exact Go.AM.take_all (by first | assumption | rfl | (simp;done)) | exact Go.AM.take_map.symm))))) (an:Conv st.h M v1 B:=by first | exact .refl | exact .one (.c .nl .nil) | exact .one (.hs rfl (by first | rfl | assumption | simp) (by first | rfl | exact Go.AM.take_all (by first | assumption | rfl | (simp;done)) | exact Go.AM.take_map.symm) .nil) | ((first | apply Go.AM.Conv.pa | apply Go.AM.Conv.agg);repeat (first | exact .nil | apply Go.AM.PureL.c .refl | apply Go.AM.PureL.c .nl | (apply Go.AM.PureL.hs;rfl;(first | rfl | assumption | simp);(first | rfl | exact Go.AM.take_all (by first | assumption | rfl | (simp;done)) | exact Go.AM.take_map.symm))))) (ap:Conv st.h O v2 E:=by first | exact .refl | exact .one (.c .nl .nil) | exact .one (.hs rfl (by first | rfl | assumption | simp) (by first | rfl | exact Go.AM.take_all (by first | assumption | rfl | (simp;done)) | exact Go.AM.take_map.symm) .nil) | ((first | apply Go.AM.Conv.pa | apply Go.AM.Conv.agg);repeat (first | exact .nil | apply Go.AM.PureL.c .refl | apply Go.AM.PureL.c .nl | (apply Go.AM.PureL.hs;rfl;(first | rfl | assumption | simp);(first | rfl | exact Go.AM.take_all (by first | assumption | rfl | (simp;done)) | exact Go.AM.take_map.symm)))))
  (ho:eN (fun p=>∃o,st.h p.1=some o∧Ole (fun i=>i) o p.2) hout:=by repeat (first | exact trivial | refine⟨⟨_,rfl,by first | exact Go.AM.Ole.arr | exact Go.AM.Ole.var rfl | exact Go.AM.Ole.varS rfl⟩,?_⟩))
  (hok:(subset (V.tup [w0,B,E]).refs (keys hout)&&subset (eK hout) (keys hout)&&Go.AM.distinct (keys hout)&&subset (keys hin) (keys hout)&&(hin.all fun p=>p.2.plain)&&(hout.all fun p=>p.2.plain))=true:=by rfl):(Exit.ret=.normal∨Exit.ret=.ret)∧Fin tr.flat fn st hin (.tup [w0,B,E]) hout:=
 ⟨.inr rfl,⟨[v0,v1,v2],[w0,B,E],by rw[hr];exact .cell ac (Tr.get_ok trw ab) ad ae af (.tmp ag (.cell ai (Tr.get_ok trw ah) aj ak al (.nil))),.cons am (.cons an (.cons ap (.nil))),rfl⟩,ho,hok⟩
theorem aGj {J:Nat}{v0 w0:V}{ids0:List Nat}{M:Nat}{v1 y:V}{E:List Nat}{a2 t2 B r O:Nat}{i2:TI}{q:List AM.R}{v2 A:V}{I:List Nat}(hr:fn.results.toList=[.tmp J,.tmp M,.cell a2 t2]:=by rfl) (U:st.e J=some v0:=by rfl) (Y:st.e M=some v1:=by rfl) (aa:tr.get t2=some i2:=by rfl) (ab:st.e a2=some (.one (.vp B r)):=by rfl) (ac:st.h B=some (.var O q):=by rfl) (ad:Nat.ble (r+i2.size) q.length=true:=by rfl) (ae:gX i2 ((q.drop r).take i2.size)=some v2:=by rfl)
  (af:Conv st.h ids0 v0 w0:=by first | exact .refl | exact .one (.c .nl .nil) | exact .one (.hs rfl (by first | rfl | assumption | simp) (by first | rfl | exact Go.AM.take_all (by first | assumption | rfl | (simp;done)) | exact Go.AM.take_map.symm) .nil) | ((first | apply Go.AM.Conv.pa | apply Go.AM.Conv.agg);repeat (first | exact .nil | apply Go.AM.PureL.c .refl | apply Go.AM.PureL.c .nl | (apply Go.AM.PureL.hs;rfl;(first | rfl | assumption | simp);(first | rfl | exact Go.AM.take_all (by first | assumption | rfl | (simp;done)) | exact Go.AM.take_map.symm))))) (ag:Conv st.h E v1 y:=by first | exact .refl | exact .one (.c .nl .nil) | exact .one (.hs rfl (by first | rfl | assumption | simp) (by first | rfl | exact Go.AM.take_all (by first | assumption | rfl | (simp;done)) | exact Go.AM.take_map.symm) .nil) | ((first | apply Go.AM.Conv.pa | apply Go.AM.Conv.agg);repeat (first | exact .nil | apply Go.AM.PureL.c .refl | apply Go.AM.PureL.c .nl | (apply Go.AM.PureL.hs;rfl;(first | rfl | assumption | simp);(first | rfl | exact Go.AM.take_all (by first | assumption | rfl | (simp;done)) | exact Go.AM.take_map.symm))))) (ah:Conv st.h I v2 A:=by first | exact .refl | exact .one (.c .nl .nil) | exact .one (.hs rfl (by first | rfl | assumption | simp) (by first | rfl | exact Go.AM.take_all (by first | assumption | rfl | (simp;done)) | exact Go.AM.take_map.symm) .nil) | ((first | apply Go.AM.Conv.pa | apply Go.AM.Conv.agg);repeat (first | exact .nil | apply Go.AM.PureL.c .refl | apply Go.AM.PureL.c .nl | (apply Go.AM.PureL.hs;rfl;(first | rfl | assumption | simp);(first | rfl | exact Go.AM.take_all (by first | assumption | rfl | (simp;done)) | exact Go.AM.take_map.symm)))))
  (ho:eN (fun p=>∃o,st.h p.1=some o∧Ole (fun i=>i) o p.2) hout:=by repeat (first | exact trivial | refine⟨⟨_,rfl,by first | exact Go.AM.Ole.arr | exact Go.AM.Ole.var rfl | exact Go.AM.Ole.varS rfl⟩,?_⟩))
  (hok:(subset (V.tup [w0,y,A]).refs (keys hout)&&subset (eK hout) (keys hout)&&Go.AM.distinct (keys hout)&&subset (keys hin) (keys hout)&&(hin.all fun p=>p.2.plain)&&(hout.all fun p=>p.2.plain))=true:=by rfl):(Exit.ret=.normal∨Exit.ret=.ret)∧Fin tr.flat fn st hin (.tup [w0,y,A]) hout:=
 ⟨.inr rfl,⟨[v0,v1,v2],[w0,y,A],by rw[hr];exact .tmp U (.tmp Y (.cell ab (Tr.get_ok trw aa) ac ad ae (.nil))),.cons af (.cons ag (.cons ah (.nil))),rfl⟩,ho,hok⟩
theorem aGi {B:Nat}{v0 w0:V}{ids0:List Nat}{E:Nat}{v1 q:V}{y:List Nat}{I:Nat}{v2 r:V}{A:List Nat}(hr:fn.results.toList=[.tmp B,.tmp E,.tmp I]:=by rfl) (J:st.e B=some v0:=by rfl) (M:st.e E=some v1:=by rfl) (O:st.e I=some v2:=by rfl)
  (U:Conv st.h ids0 v0 w0:=by first | exact .refl | exact .one (.c .nl .nil) | exact .one (.hs rfl (by first | rfl | assumption | simp) (by first | rfl | exact Go.AM.take_all (by first | assumption | rfl | (simp;done)) | exact Go.AM.take_map.symm) .nil) | ((first | apply Go.AM.Conv.pa | apply Go.AM.Conv.agg);repeat (first | exact .nil | apply Go.AM.PureL.c .refl | apply Go.AM.PureL.c .nl | (apply Go.AM.PureL.hs;rfl;(first | rfl | assumption | simp);(first | rfl | exact Go.AM.take_all (by first | assumption | rfl | (simp;done)) | exact Go.AM.take_map.symm))))) (Y:Conv st.h y v1 q:=by first | exact .refl | exact .one (.c .nl .nil) | exact .one (.hs rfl (by first | rfl | assumption | simp) (by first | rfl | exact Go.AM.take_all (by first | assumption | rfl | (simp;done)) | exact Go.AM.take_map.symm) .nil) | ((first | apply Go.AM.Conv.pa | apply Go.AM.Conv.agg);repeat (first | exact .nil | apply Go.AM.PureL.c .refl | apply Go.AM.PureL.c .nl | (apply Go.AM.PureL.hs;rfl;(first | rfl | assumption | simp);(first | rfl | exact Go.AM.take_all (by first | assumption | rfl | (simp;done)) | exact Go.AM.take_map.symm))))) (aa:Conv st.h A v2 r:=by first | exact .refl | exact .one (.c .nl .nil) | exact .one (.hs rfl (by first | rfl | assumption | simp) (by first | rfl | exact Go.AM.take_all (by first | assumption | rfl | (simp;done)) | exact Go.AM.take_map.symm) .nil) | ((first | apply Go.AM.Conv.pa | apply Go.AM.Conv.agg);repeat (first | exact .nil | apply Go.AM.PureL.c .refl | apply Go.AM.PureL.c .nl | (apply Go.AM.PureL.hs;rfl;(first | rfl | assumption | simp);(first | rfl | exact Go.AM.take_all (by first | assumption | rfl | (simp;done)) | exact Go.AM.take_map.symm)))))
  (ho:eN (fun p=>∃o,st.h p.1=some o∧Ole (fun i=>i) o p.2) hout:=by repeat (first | exact trivial | refine⟨⟨_,rfl,by first | exact Go.AM.Ole.arr | exact Go.AM.Ole.var rfl | exact Go.AM.Ole.varS rfl⟩,?_⟩))
  (hok:(subset (V.tup [w0,q,r]).refs (keys hout)&&subset (eK hout) (keys hout)&&Go.AM.distinct (keys hout)&&subset (keys hin) (keys hout)&&(hin.all fun p=>p.2.plain)&&(hout.all fun p=>p.2.plain))=true:=by rfl):(Exit.ret=.normal∨Exit.ret=.ret)∧Fin tr.flat fn st hin (.tup [w0,q,r]) hout:=
 ⟨.inr rfl,⟨[v0,v1,v2],[w0,q,r],by rw[hr];exact .tmp J (.tmp M (.tmp O (.nil))),.cons U (.cons Y (.cons aa (.nil))),rfl⟩,ho,hok⟩
theorem aJ4 {a0 t0 B r J:Nat}{i0:TI}{q:List AM.R}{v0 w0:V}{ids0:List Nat}{M:Nat}{v1 y:V}{E:List Nat}{O:Nat}{v2 A:V}{I:List Nat}(hr:fn.results.toList=[.cell a0 t0,.tmp M,.tmp O]:=by rfl) (U:tr.get t0=some i0:=by rfl) (Y:st.e a0=some (.one (.vp B r)):=by rfl) (aa:st.h B=some (.var J q):=by rfl) (ab:Nat.ble (r+i0.size) q.length=true:=by rfl) (ac:gX i0 ((q.drop r).take i0.size)=some v0:=by rfl) (ad:st.e M=some v1:=by rfl) (ae:st.e O=some v2:=by rfl)
  (af:Conv st.h ids0 v0 w0:=by first | exact .refl | exact .one (.c .nl .nil) | exact .one (.hs rfl (by first | rfl | assumption | simp) (by first | rfl | exact Go.AM.take_all (by first | assumption | rfl | (simp;done)) | exact Go.AM.take_map.symm) .nil) | ((first | apply Go.AM.Conv.pa | apply Go.AM.Conv.agg);repeat (first | exact .nil | apply Go.AM.PureL.c .refl | apply Go.AM.PureL.c .nl | (apply Go.AM.PureL.hs;rfl;(first | rfl | assumption | simp);(first | rfl | exact Go.AM.take_all (by first | assumption | rfl | (simp;done)) | exact Go.AM.take_map.symm))))) (ag:Conv st.h E v1 y:=by first | exact .refl | exact .one (.c .nl .nil) | exact .one (.hs rfl (by first | rfl | assumption | simp) (by first | rfl | exact Go.AM.take_all (by first | assumption | rfl | (simp;done)) | exact Go.AM.take_map.symm) .nil) | ((first | apply Go.AM.Conv.pa | apply Go.AM.Conv.agg);repeat (first | exact .nil | apply Go.AM.PureL.c .refl | apply Go.AM.PureL.c .nl | (apply Go.AM.PureL.hs;rfl;(first | rfl | assumption | simp);(first | rfl | exact Go.AM.take_all (by first | assumption | rfl | (simp;done)) | exact Go.AM.take_map.symm))))) (ah:Conv st.h I v2 A:=by first | exact .refl | exact .one (.c .nl .nil) | exact .one (.hs rfl (by first | rfl | assumption | simp) (by first | rfl | exact Go.AM.take_all (by first | assumption | rfl | (simp;done)) | exact Go.AM.take_map.symm) .nil) | ((first | apply Go.AM.Conv.pa | apply Go.AM.Conv.agg);repeat (first | exact .nil | apply Go.AM.PureL.c .refl | apply Go.AM.PureL.c .nl | (apply Go.AM.PureL.hs;rfl;(first | rfl | assumption | simp);(first | rfl | exact Go.AM.take_all (by first | assumption | rfl | (simp;done)) | exact Go.AM.take_map.symm)))))
  (ho:eN (fun p=>∃o,st.h p.1=some o∧Ole (fun i=>i) o p.2) hout:=by repeat (first | exact trivial | refine⟨⟨_,rfl,by first | exact Go.AM.Ole.arr | exact Go.AM.Ole.var rfl | exact Go.AM.Ole.varS rfl⟩,?_⟩))
  (hok:(subset (V.tup [w0,y,A]).refs (keys hout)&&subset (eK hout) (keys hout)&&Go.AM.distinct (keys hout)&&subset (keys hin) (keys hout)&&(hin.all fun p=>p.2.plain)&&(hout.all fun p=>p.2.plain))=true:=by rfl):(Exit.ret=.normal∨Exit.ret=.ret)∧Fin tr.flat fn st hin (.tup [w0,y,A]) hout:=
 ⟨.inr rfl,⟨[v0,v1,v2],[w0,y,A],by rw[hr];exact .cell Y (Tr.get_ok trw U) aa ab ac (.tmp ad (.tmp ae (.nil))),.cons af (.cons ag (.cons ah (.nil))),rfl⟩,ho,hok⟩
theorem qL {a0 t0 A r E:Nat}{i0:TI}{q:List AM.R}{v0 w0:V}{ids0:List Nat}{I:Nat}{v1 y:V}{B:List Nat}(hr:fn.results.toList=[.cell a0 t0,.tmp I]:=by rfl) (J:tr.get t0=some i0:=by rfl) (M:st.e a0=some (.one (.vp A r)):=by rfl) (O:st.h A=some (.var E q):=by rfl) (U:Nat.ble (r+i0.size) q.length=true:=by rfl) (Y:gX i0 ((q.drop r).take i0.size)=some v0:=by rfl) (aa:st.e I=some v1:=by rfl)
  (ab:Conv st.h ids0 v0 w0:=by first | exact .refl | exact .one (.c .nl .nil) | exact .one (.hs rfl (by first | rfl | assumption | simp) (by first | rfl | exact Go.AM.take_all (by first | assumption | rfl | (simp;done)) | exact Go.AM.take_map.symm) .nil) | ((first | apply Go.AM.Conv.pa | apply Go.AM.Conv.agg);repeat (first | exact .nil | apply Go.AM.PureL.c .refl | apply Go.AM.PureL.c .nl | (apply Go.AM.PureL.hs;rfl;(first | rfl | assumption | simp);(first | rfl | exact Go.AM.take_all (by first | assumption | rfl | (simp;done)) | exact Go.AM.take_map.symm))))) (ac:Conv st.h B v1 y:=by first | exact .refl | exact .one (.c .nl .nil) | exact .one (.hs rfl (by first | rfl | assumption | simp) (by first | rfl | exact Go.AM.take_all (by first | assumption | rfl | (simp;done)) | exact Go.AM.take_map.symm) .nil) | ((first | apply Go.AM.Conv.pa | apply Go.AM.Conv.agg);repeat (first | exact .nil | apply Go.AM.PureL.c .refl | apply Go.AM.PureL.c .nl | (apply Go.AM.PureL.hs;rfl;(first | rfl | assumption | simp);(first | rfl | exact Go.AM.take_all (by first | assumption | rfl | (simp;done)) | exact Go.AM.take_map.symm)))))
  (ho:eN (fun p=>∃o,st.h p.1=some o∧Ole (fun i=>i) o p.2) hout:=by repeat (first | exact trivial | refine⟨⟨_,rfl,by first | exact Go.AM.Ole.arr | exact Go.AM.Ole.var rfl | exact Go.AM.Ole.varS rfl⟩,?_⟩))
  (hok:(subset (V.tup [w0,y]).refs (keys hout)&&subset (eK hout) (keys hout)&&Go.AM.distinct (keys hout)&&subset (keys hin) (keys hout)&&(hin.all fun p=>p.2.plain)&&(hout.all fun p=>p.2.plain))=true:=by rfl):(Exit.ret=.normal∨Exit.ret=.ret)∧Fin tr.flat fn st hin (.tup [w0,y]) hout:=
 ⟨.inr rfl,⟨[v0,v1],[w0,y],by rw[hr];exact .cell M (Tr.get_ok trw J) O U Y (.tmp aa (.nil)),.cons ab (.cons ac (.nil)),rfl⟩,ho,hok⟩
theorem sD {a0 t0 I y O:Nat}{i0:TI}{q:List AM.R}{v0 w0:V}{ids0:List Nat}{U t1 J A Y:Nat}{B:TI}{r:List AM.R}{v1 E:V}{M:List Nat}(hr:fn.results.toList=[.cell a0 t0,.cell U t1]:=by rfl) (aa:tr.get t0=some i0:=by rfl) (ab:st.e a0=some (.one (.vp I y)):=by rfl) (ac:st.h I=some (.var O q):=by rfl) (ad:Nat.ble (y+i0.size) q.length=true:=by rfl) (ae:gX i0 ((q.drop y).take i0.size)=some v0:=by rfl) (af:tr.get t1=some B:=by rfl) (ag:st.e U=some (.one (.vp J A)):=by rfl) (ah:st.h J=some (.var Y r):=by rfl) (ai:Nat.ble (A+B.size) r.length=true:=by rfl) (aj:gX B ((r.drop A).take B.size)=some v1:=by rfl)
  (ak:Conv st.h ids0 v0 w0:=by first | exact .refl | exact .one (.c .nl .nil) | exact .one (.hs rfl (by first | rfl | assumption | simp) (by first | rfl | exact Go.AM.take_all (by first | assumption | rfl | (simp;done)) | exact Go.AM.take_map.symm) .nil) | ((first | apply Go.AM.Conv.pa | apply Go.AM.Conv.agg);repeat (first | exact .nil | apply Go.AM.PureL.c .refl | apply Go.AM.PureL.c .nl | (apply Go.AM.PureL.hs;rfl;(first | rfl | assumption | simp);(first | rfl | exact Go.AM.take_all (by first | assumption | rfl | (simp;done)) | exact Go.AM.take_map.symm))))) (al:Conv st.h M v1 E:=by first | exact .refl | exact .one (.c .nl .nil) | exact .one (.hs rfl (by first | rfl | assumption | simp) (by first | rfl | exact Go.AM.take_all (by first | assumption | rfl | (simp;done)) | exact Go.AM.take_map.symm) .nil) | ((first | apply Go.AM.Conv.pa | apply Go.AM.Conv.agg);repeat (first | exact .nil | apply Go.AM.PureL.c .refl | apply Go.AM.PureL.c .nl | (apply Go.AM.PureL.hs;rfl;(first | rfl | assumption | simp);(first | rfl | exact Go.AM.take_all (by first | assumption | rfl | (simp;done)) | exact Go.AM.take_map.symm)))))
  (ho:eN (fun p=>∃o,st.h p.1=some o∧Ole (fun i=>i) o p.2) hout:=by repeat (first | exact trivial | refine⟨⟨_,rfl,by first | exact Go.AM.Ole.arr | exact Go.AM.Ole.var rfl | exact Go.AM.Ole.varS rfl⟩,?_⟩))
  (hok:(subset (V.tup [w0,E]).refs (keys hout)&&subset (eK hout) (keys hout)&&Go.AM.distinct (keys hout)&&subset (keys hin) (keys hout)&&(hin.all fun p=>p.2.plain)&&(hout.all fun p=>p.2.plain))=true:=by rfl):(Exit.ret=.normal∨Exit.ret=.ret)∧Fin tr.flat fn st hin (.tup [w0,E]) hout:=
 ⟨.inr rfl,⟨[v0,v1],[w0,E],by rw[hr];exact .cell ab (Tr.get_ok trw aa) ac ad ae (.cell ag (Tr.get_ok trw af) ah ai aj (.nil)),.cons ak (.cons al (.nil)),rfl⟩,ho,hok⟩
end
def mT (L:List Tk):Prop:=∀t∈L,t.kind=4→t.n=0
theorem u3 (t:Tk) (s:Str) (h:t.kind=4→t.n=0):b9 Tryz.prog 217 [tkV t,Go.AM.T s] [] (B (isT t s)) []:=by
 have e:aBl [.int .i64 t.kind,.str t.text,.int .i64 t.n,.int .i64 0] [.int .i64 4,.str s,.int .i64 0,.int .i64 0]=isT t s:=by
  unfold isT;simp only[aBl,ceq,decide_true,Bool.and_true];by_cases c:t.kind=4
  ·rw[h c];simp
  ·rw[ψ c];rfl
 rw[←e];refine bM (n:=10) tok Tryz.func217 rfl rfl rfl ?_;refine sg rfl (sg rfl (sk 3 rfl (k_ (g_ rfl rfl (aJ8 tok (by unfold aFp;kernel_rfl) rfl rfl (by decide) (tg rfl) rfl rfl rfl rfl)) ?_)));exact kz 1 rfl (aD rtT)
theorem lC (t:Tk) (e:Int):b9 Tryz.prog 219 [tkV t,I .i64 e] [] (atV e t.pl) []:=by
 refine bM (n:=9) tok Tryz.func219 rfl rfl rfl ?_;exact sg rfl (sg rfl (aD (rtC trw)))
theorem wU {t:Ty}(h:wfS t=true):b9 Tryz.prog 251 [tyV t] [] (tyV t) []:=aEf _ t (le_refl _) h
theorem aJi (a b:Ty) (ha:wfS a=true) (hb:wfS b=true):b9 Tryz.prog 249 [tyV a,.one (.c (.sl 4 [bT b]))] [] (tyV (kC a b)) []:=by
 have h1:=wU ha;have h2:=wU hb;have A:=rG a b;refine bM (n:=22) tok Tryz.func249 rfl rfl rfl ?_;refine sg rfl (sk 1 rfl (kc h1 ?_));refine kz 2 rfl (aA (sg rfl (aF (aM (fun i:Nat=>mk [(4,.one (.vp 4 0)),(5,.one (.vp 5 0)),(10,.one (.c (.sl 4 [bT b]))),(11,I .i64 1),(12,I .i64 i)] [(4,.var 47 [.c (.int .i64 0),.c (.int .i64 0),.c (.str []),.c .nl]),(5,.var 47 ((bT (if i=0 then a else kC a b)).map .c))]) (fun i=>i≤1) (fun i=>1-i) 0 (Ae _) sl ?_))));intro i hi;refine sg rfl (aA (aB rfl (fun q=>?_) (fun q=>?_)))
 ·have r:i=0:=by
   have:(i:Int)<1:=κ q;omega
  subst r;rw[ξ rfl];refine aE (aA (aF (sgh [(0,.row 0 (bT b))] rfl (aC mixed (ak 2 [] rfl (kc h2 ?_))))));refine kc A ?_;exact kz 1 rfl (ag [] rfl ⟨1,le_refl _,by dsimp only;omega,sl⟩)
 have y:i=1:=by
  have:¬(i:Int)<1:=Af q;omega
 subst y;exact aL (sg rfl (aD (rtC trw)))
theorem aO7 (a b:Ty) (ha:b9 Tryz.prog 251 [tyV a] [] (tyV a) []) (hb:b9 Tryz.prog 251 [tyV b] [] (tyV b) []):b9 Tryz.prog 250 [tyV b,.one (.c (.sl 4 [bT a]))] [] (tyV (aBt a b)) []:=by
 have h1:=aEc arrow;have h2:=rG (.mk 3 0 arrow []) a;have A:=rG (kC (.mk 3 0 arrow []) a) b;refine bM (n:=29) tok Tryz.func250 rfl rfl rfl ?_;refine sg rfl (sgh [(1,.pc (tyV b))] rfl (aA (sg rfl (aF (aM (fun i:Nat=>mk [(1,.one (.c (.sl 4 [bT a]))),(4,.one (.vp 4 0)),(5,.one (.vp 5 0)),(10,I .i64 1),(11,I .i64 i)] [(4,.var 47 [.c (.int .i64 0),.c (.int .i64 0),.c (.str []),.c .nl]),(5,.var 47 ((bT (if i=0 then b else aBt a b)).map .c))]) (fun i=>i≤1) (fun i=>1-i) 0 (Ae _) sl ?_)))));intro i hi;refine sg rfl (aA (aB rfl (fun q=>?_) (fun q=>?_)))
 ·have r:i=0:=by
   have:(i:Int)<1:=κ q;omega
  subst r;rw[ξ rfl];refine aE (aA (aF (sg rfl (aC mixed (kc h1 ?_)))));refine ak 8 [(7,.row 0 (bT a))] rfl (kc ha ?_);refine kc h2 ?_;refine ak 1 [] rfl (kc A ?_);exact kz 1 rfl (ag [] rfl ⟨1,le_refl _,by dsimp only;omega,sl⟩)
 have y:i=1:=by
  have:¬(i:Int)<1:=Af q;omega
 subst y;rw[η (by omega)];exact aL (sg rfl (aD (rtC trw)))
def tpV (L:List Tk):TR→V
 | .ok (x,R)=>.tup [tyV x,I .i64 ((L.length-R.length:Nat):Int),atV 0 0]
 | .error (e,p)=>.tup [tyV zTy,I .i64 0,atV e p]
theorem hY (L:List Tk) (x:Ty) (R:List Tk):tpV L (.ok (x,R))=.tup [tyV x,I .i64 ((L.length-R.length:Nat):Int),atV 0 0]:=rfl
def aFq (L:List Tk) (f:Nat):Prop:=∀(o:Nat) (R:List Tk) (i:Nat),At L i R→3*R.length≤f→o≤40→b9 Tryz.prog 215 [uX L,I .i64 (i:Nat),I .i64 (o:Nat)] [] (tpV L (dI f o R)) []
def zJ (L:List Tk) (f:Nat):Prop:=∀(o:Nat) (R:List Tk) (i:Nat),At L i R→3*R.length+2≤f→o≤40→b9 Tryz.prog 241 [uX L,I .i64 (i:Nat),I .i64 (o:Nat)] [] (tpV L (cL f o R)) []
theorem At.mem {L:List Tk}{i:Nat}{t:Tk}{R:List Tk}(h:At L i (t::R)):t∈L:=Ag h.get
theorem aLt (L:List Tk) (hZ:mT L) (f:Nat) (ih:zJ L f):aFq L (f+1):=by
 intro o R i c hf ho;have hkl:(L.map aJ).length=L.length:=χ _;have hLl:=c.l;obtain⟨t,R,rfl⟩:=c.e.ne;have M:=c.lt;have O:=c.get;have hti':=bG aJ O;rw[τ] at M hf;rw[dI];refine bM (n:=83) tok Tryz.func215 rfl rfl rfl ?_;refine sg rfl (aA (sgh [(2,.row i (aJ t))] rfl ?_));have hz:t.kind=4→t.n=0:=hZ t c.mem;have U:=u3 t cM hz;have Y:=lC t 12;have aa:=lC t 13;have B:=aEc t.text;have E:=aK6 t.text;refine aF (sg rfl (aB rfl (fun hb=>?_) (fun hb=>?_)))
 ·have h2:t.kind=2:=κ hb;rw[ξ h2];obtain⟨_,hn⟩:=c.next (by omega)
  rw[hY,hn];refine aA (aC mixed (akN 2 [] rfl (kc B ?_)));exact akN 6 [] rfl (az (aD gS))
 rw[η (Af hb)];refine sg rfl (aB rfl (fun hb=>?_) (fun hb=>?_))
 ·have h1:t.kind=1:=κ hb;rw[ξ h1];obtain⟨_,hn⟩:=c.next (by omega)
  rw[hY,hn];refine aA (aC mixed (akN 2 [] rfl (kc E ?_)));exact akN 6 [] rfl (az (aD gS))
 rw[η (Af hb)];refine sk 1 rfl (kc U ?_);refine kz 2 rfl ?_;cases hl:isT t cM with
 | false=>
  rw[ξ rfl];refine aB rfl (fun _=>sk 2 rfl (kc Y ?_)) (fun hb=>absurd hb (by decide));exact kz 3 rfl (aD gS)
 | true=>
 rw[η (by decide)];refine aB rfl (fun hb=>absurd hb (by decide)) (fun _=>sg rfl (aB rfl (fun hb=>?_) (fun hb=>?_)))
 ·rw[ξ (by have:=κ hb;omega)];refine sk 2 rfl (kc aa ?_);exact kz 3 rfl (aD gS)
 have I:¬40≤o:=by have:=Af hb;omega
 rw[η I];refine aE ?_;obtain⟨A,_⟩:=c.next (by rw[(c9 hl).1];decide)
 have ab:=ih (o+1) R (i+1) A (by omega) (by omega);have hok:=gO f (o+1) R;have r:=eS f (o+1) R;refine aA (aC mixed (akN 5 [] rfl (kc ab ?_)));generalize cL f (o+1) R=w at hok r ⊢;cases w with
 | error e=>
  obtain⟨e,p⟩:=e;have he:=r e p rfl;unfold tpV atV;refine akN 9 [] rfl (az ?_);rw[qF];exact aA (aF (sg rfl (aB rfl (fun _=>sg rfl (aD gS)) (fun hb=>absurd hb (by simp[he])))))
 | ok y=>
  obtain⟨x,R1⟩:=y;obtain⟨hT,_⟩:=hok x R1 rfl;obtain⟨q,hle⟩:=A.ok hT;obtain⟨u,R3,rfl⟩:=q.e.ne;rw[hY];generalize L.length-(u::R3).length=j at *;have ac:=q.get;have huj':=bG aJ ac;have hj:=q.lt;rw[τ] at hj;have J:=u3 u pD (hZ u q.mem);have ad:=lC u 12;refine kz 9 rfl (aA (aF (sg rfl (aB rfl (fun hb=>absurd hb (by decide)) (fun _=>skh 4 [(2,.row j (aJ u))] rfl (kc J ?_))))));refine kz 2 rfl ?_;rw[qF];cases hr:isT u pD with
  | false=>
   rw[η (by decide)];refine aB rfl (fun _=>skh 5 [(3,.row j (aJ u))] rfl (kc ad ?_)) (fun hb=>absurd hb (by decide));exact kz 3 rfl (aD gS)
  | true=>
   rw[ξ rfl];obtain⟨_,hn⟩:=q.next (by rw[(c9 hr).1];decide)
   rw[hY,hn];exact aB rfl (fun hb=>absurd hb (by decide)) (fun _=>aE (aA (agN [] rfl (aD gS))))
theorem aO1 (t:Tk) (c:t.kind=4→t.n=0):b9 Tryz.prog 248 [tkV t] [] (B (aPb t)) []:=by
 have hi:=u3 t cM c;unfold aPb;refine bM (n:=15) tok Tryz.func248 rfl rfl rfl ?_;refine sg rfl ?_;by_cases h2:t.kind=2
 ·have d1:decide (t.kind=1)=false:=ψ (by omega);have d2:decide (t.kind=2)=true:=φ h2;rw[d1,d2];exact sgh [(3,.bv true),(7,.bv true),(8,.bv true),(11,.bv true)] rfl (aD rtT)
 have d2:decide (t.kind=2)=false:=ψ h2;by_cases h1:t.kind=1
 ·have d1:decide (t.kind=1)=true:=φ h1;rw[d1];exact sgh [(3,.bv false),(7,.bv false),(8,.bv true),(11,.bv true)] rfl (aD rtT)
 ·have d1:decide (t.kind=1)=false:=ψ h1;rw[d1,d2,Bb,Bb];refine skh 10 [(3,.bv false),(7,.bv false),(8,.bv false)] rfl (kcG hi ?_);exact ak 2 [(8,.bv false),(11,.bv false)] rfl (az (aD rtT))
theorem aLo (L:List Tk) (hZ:mT L) (f:Nat) (aa:∀g,g≤f→aFq L g) (ab:∀g,g≤f→zJ L g):zJ L (f+1):=by
 intro o R i U hf ho;have hkl:(L.map aJ).length=L.length:=χ _;have hLl:=U.l;have J:=aa f (le_refl _) o R i U (by omega) ho;have hok:=j6 f o R;have A:=fS f o R;have ac:=U.lt;have key:∃W:TR,W=cL (f+1) o R:=⟨_,rfl⟩
 obtain⟨W,r⟩:=key;rw[←r];rw[cL] at r;refine bM (n:=80) tok Tryz.func241 rfl rfl rfl ?_;refine sg rfl (sg rfl (sk 3 rfl (kc J ?_)));have M:∀(x:Ty) (j e p:Int) (R1:List Tk) (g:Nat),((e=0∧p=0∧j=((L.length-R1.length:Nat):Int)∧At L (L.length-R1.length) R1∧WF x∧3*R1.length+1≤g∧g≤f∧W=mE g o x R1)∨(¬e=0∧W=.error (e,p)))→
   AWp none Tryz.prog 80 (keys ([]:List (Nat×AObj))) (v8 (v8 (v8 (Tryz.f241.body.getD .skip)))) (mk [(0,uX L),(1,I .i64 j),(2,I .i64 (o:Nat)),(6,.one (.vp 6 0)),(8,.one (.vp 8 0)),(9,.one (.clo 248 [])),(10,.one (.vp 10 0)),(11,.one (.vp 11 0))] [(6,.var 47 [.c (.int .i64 0),.c (.int .i64 0),.c (.str []),.c .nl]),(8,.var 32 [.c (.int .i64 0),.c (.int .i64 0)]),(10,.var 47 ((bT x).map .c)),(11,.var 32 [.c (.int .i64 e),.c (.int .i64 p)])]) (fun ex st=>(ex=.normal∨ex=.ret)∧Fin tr.flat Tryz.f241 st [] (tpV L W) []):=by
  clear J hok A r ac U hf;intro x j e p R1 g hinv;refine aA (aF (aM (fun q:Ty×Int×Int×Int×List Tk×Nat=>mk [(0,uX L),(1,I .i64 q.2.1),(2,I .i64 (o:Nat)),(6,.one (.vp 6 0)),(8,.one (.vp 8 0)),(9,.one (.clo 248 [])),(10,.one (.vp 10 0)),(11,.one (.vp 11 0))] [(6,.var 47 [.c (.int .i64 0),.c (.int .i64 0),.c (.str []),.c .nl]),(8,.var 32 [.c (.int .i64 0),.c (.int .i64 0)]),(10,.var 47 ((bT q.1).map .c)),(11,.var 32 [.c (.int .i64 q.2.2.1),.c (.int .i64 q.2.2.2.1)])]) (fun q=>(q.2.2.1=0∧q.2.2.2.1=0∧q.2.1=((L.length-q.2.2.2.2.1.length:Nat):Int)∧At L (L.length-q.2.2.2.2.1.length) q.2.2.2.2.1∧WF q.1∧3*q.2.2.2.2.1.length+1≤q.2.2.2.2.2∧q.2.2.2.2.2≤f∧W=mE q.2.2.2.2.2 o q.1 q.2.2.2.2.1)∨(¬q.2.2.1=0∧W=.error (q.2.2.1,q.2.2.2.1))) (fun q=>if q.2.2.1=0 then q.2.2.2.2.2 else 0) (x,j,e,p,R1,g) hinv sl ?_));clear hinv;rintro⟨x,j,e,p,R1,g⟩ hinv;dsimp only at hinv ⊢;rcases hinv with⟨he,hp,hj,B,O,hg,hgf,r⟩ | ⟨he,r⟩
  case inr=>
   have de:decide (e=0)=false:=ψ he;refine aA (sgh [(3,.bv false),(10,.bv false)] rfl (aB rfl (fun hb=>absurd hb (by decide)) (fun _=>aL ?_)));rw[r];unfold tpV atV;exact aA (sg rfl (aB rfl (fun _=>sg rfl (aD gS)) (fun hb=>absurd hb (by simp[he]))))
  subst he hp hj;obtain⟨u,R2,rfl⟩:=B.e.ne;obtain⟨g,rfl⟩:∃h,g=h+1:=⟨g-1,by omega⟩
  have ad:=B.get;have huj':=bG aJ ad;have hlt:=B.lt;have hz:=hZ u B.mem;have hbu:=aO1 u hz;rw[mE] at r;refine aA (skh 9 [(3,.bv true),(7,.row (L.length-(u::R2).length) (aJ u))] rfl (kvG (caps:=[]) (args:=[tkV u]) (hin:=[]) (hout:=[]) hbu ?_));refine ak 1 [(3,.bv true),(10,.bv true)] rfl (az (aB rfl (fun hb=>?_) (fun hb=>?_)))
  ·have hb:aPb u=true:=hb;rw[ξ hb] at r;have J:=aa g (by omega) o (u::R2) _ B (by omega) ho;have hok:=j6 g o (u::R2);have A:=fS g o (u::R2);refine aE (aF (sg rfl (sk 3 rfl (kc J ?_))));generalize dI g o (u::R2)=w at hok A r ⊢;cases w with
   | error e=>
    obtain⟨e,p⟩:=e;have he:=A e p rfl;have Y:=aJi x zTy O.1 rfl;dsimp only at r;unfold tpV atV;refine kz 7 rfl (aC mixed (ak 3 [(2,.all)] rfl (kc Y ?_)));exact kz 1 rfl ⟨(kC x zTy,0,e,p,[],0),.inr ⟨he,r⟩,by dsimp only;rw[η he,ξ rfl];omega,sl⟩
   | ok y=>
    obtain⟨a,R3⟩:=y;obtain⟨E,_⟩:=hok a R3 rfl;obtain⟨hA3,hle⟩:=B.ok E;have hlen:=E.len;have Y:=aJi x a O.1 E.w.1;dsimp only at r;rw[hY];unfold atV;refine kz 7 rfl (aC mixed (ak 3 [(2,.all)] rfl (kc Y ?_)));exact kz 1 rfl ⟨(kC x a,((L.length-R3.length:Nat):Int),0,0,R3,g),.inl ⟨rfl,rfl,rfl,hA3,wV O E.w,by dsimp only;omega,by dsimp only;omega,r⟩,by dsimp only;rw[ξ rfl,ξ rfl];omega,sl⟩
  ·have hb:aPb u=false:=hb;rw[η (by rw[hb];decide)] at r;have hIs:=u3 u arrow hz;refine aL (aA (sg rfl (aB rfl (fun hb=>absurd hb (by decide)) (fun _=>aE (aA (skh 4 [(2,.row (L.length-(u::R2).length) (aJ u))] rfl (kc hIs ?_)))))));refine kz 1 rfl ?_;cases hl:isT u arrow with
   | false=>
    rw[hl,η (by decide)] at r;rw[r,hY];exact aB rfl (fun _=>sg rfl (aD gS)) (fun hb=>absurd hb (by decide))
   | true=>
    rw[hl,ξ rfl] at r;obtain⟨hA2,hn⟩:=B.next (by rw[(c9 hl).1];decide)
    rw[τ] at hg;have hty:=ab g (by omega) o R2 _ hA2 (by omega) ho;have hok:=gO g o R2;have A:=eS g o R2;refine aB rfl (fun hb=>absurd hb (by decide)) (fun _=>aE (aA (aC mixed (akN 4 [] rfl (kc hty ?_)))));generalize cL g o R2=w at hok A r ⊢;cases w with
    | error e=>
     obtain⟨e,p⟩:=e;have he:=A e p rfl;dsimp only at r;rw[r];unfold tpV atV;exact kz 8 rfl (aA (sg rfl (aB rfl (fun _=>sg rfl (aD gS)) (fun hb=>absurd hb (by simp[he])))))
    | ok y=>
     obtain⟨to,R3⟩:=y;obtain⟨E,_⟩:=hok to R3 rfl;dsimp only at r;rw[r,hY,hY];have hfu:=aO7 x to (wU O.1) (wU E.w.1);unfold atV;refine kz 8 rfl (aA (sg rfl (aB rfl (fun hb=>absurd hb (by decide)) (fun _=>aE (skh 3 [(2,.all)] rfl (kc hfu ?_))))));exact kz 5 rfl (aD gS)
 generalize dI f o R=w at hok A r ⊢;cases w with
 | error e=>
  obtain⟨e,p⟩:=e;unfold tpV atV;exact kz 9 rfl (AWp.sub sl (M zTy 0 e p [] 0 (.inr ⟨A e p rfl,r⟩)))
 | ok y=>
  obtain⟨x,R1⟩:=y;obtain⟨E,_⟩:=hok x R1 rfl;obtain⟨B,hle⟩:=U.ok E;have hlen:=E.len;rw[hY];unfold atV;exact kz 9 rfl (AWp.sub sl (M x _ 0 0 R1 f (.inl ⟨rfl,rfl,rfl,B,E.w,by omega,le_refl _,r⟩)))
theorem aBq (L:List Tk) (hZ:mT L):∀f,(∀g,g≤f→aFq L g)∧∀g,g≤f→zJ L g:=by
 intro f
 induction f with
 | zero=>
  refine⟨fun g q o R i r y=>?_,fun g q o R i r y=>?_⟩
  ·have:=r.lt;omega
  ·have:=r.lt;omega
 | succ f c=>
  refine⟨fun g q=>?_,fun g q=>?_⟩
  ·by_cases h:g≤f
   ·exact c.1 g h
   ·rw[show g=f+1 by omega];exact aLt L hZ f (c.2 f (le_refl _))
  ·by_cases h:g≤f
   ·exact c.2 g h
   ·rw[show g=f+1 by omega];exact aLo L hZ f c.1 c.2
def aPv (L:List Tk) (o:Nat):List Tk→V
 | []=>.tup [.pa (aT ⟨[],zTy⟩),I .i64 0,B false]
 | t::R=>if t.kind=2 then(match dI (3*R.length) o R with
   | .error _=>.tup [.pa (aT ⟨t.text,zTy⟩),I .i64 0,B false]
   | .ok (x,R2)=>.tup [.pa (aT ⟨t.text,x⟩),I .i64 ((L.length-R2.length:Nat):Int),B true])
  else .tup [.pa (aT ⟨[],zTy⟩),I .i64 0,B false]
theorem aEj (L:List Tk) (hZ:mT L) (o:Nat) (ho:o≤40) (R:List Tk) (i:Nat) (c:At L i R):b9 Tryz.prog 216 [uX L,I .i64 (i:Nat),I .i64 (o:Nat)] [] (aPv L o R) []:=by
 have O:(L.map aJ).length=L.length:=χ _;have U:=c.l;obtain⟨t,R,rfl⟩:=c.e.ne;have r:=c.lt;have A:=c.get;have J:=bG aJ A;rw[τ] at r;rw[aPv];refine bM (n:=39) tok Tryz.func216 rfl rfl rfl ?_;refine sg rfl (aA (sgh [(2,.row i (aJ t))] rfl ?_));by_cases h2:t.kind=2
 case neg=>
  rw[η h2];have d2:(!decide (t.kind=2))=true:=by rw[ψ h2];rfl
  exact aB rfl (fun _=>sg rfl (aD aJ4)) (fun hb=>absurd (hb.symm.trans d2) (by decide))
 rw[ξ h2];have d2:(!decide (t.kind=2))=false:=by rw[φ h2];rfl
 refine aB rfl (fun hb=>absurd (hb.symm.trans d2) (by decide)) (fun _=>aE ?_);obtain⟨B,_⟩:=c.next (by omega)
 have E:=(aBq L hZ (3*R.length)).1 (3*R.length) (le_refl _) o R _ B (le_refl _) ho;have q:=fS (3*R.length) o R;refine aA (aC mixed (akN 4 [] rfl (kc E ?_)));generalize dI (3*R.length) o R=w at q ⊢;cases w with
 | error e=>
  obtain⟨e,p⟩:=e;have he:=q e p rfl;have M:decide (e=0)=false:=ψ he;unfold tpV atV;refine kz 9 rfl (sgh [(2,.row i (aJ t))] rfl ?_);dsimp only;rw[←M];exact aD aJ4
 | ok y=>
  obtain⟨x,R1⟩:=y;unfold tpV atV;exact kz 9 rfl (sgh [(2,.row i (aJ t))] rfl (aD aJ4))
def aNv (L:List Tk):Option (List Prd×List Tk)→V
 | some (out,u::R2)=>if isT u pD=true then .tup [.one (.c (.sl 5 (out.map aT))),I .i64 ((L.length-R2.length:Nat):Int),B true] else .tup [.one (.c .nl),I .i64 0,B false]
 | _=>.tup [.one (.c .nl),I .i64 0,B false]
theorem aLa (L:List Tk) (hZ:mT L) (R:List Tk) (i:Nat) (E:At L i R) (F:Nat) (hF:R.length+1≤F):b9 Tryz.prog 218 [uX L,I .i64 (i:Nat)] [] (aNv L (kL F true R [])) []:=by
 have hkl:(L.map aJ).length=L.length:=χ _;have hLl:=E.l;have Y:=E.lt;have c:∃W,W=kL F true R []:=⟨_,rfl⟩
 obtain⟨W,c⟩:=c;rw[←c];refine bM (n:=42) tok Tryz.func218 rfl rfl rfl ?_;refine sg rfl (sg rfl (AWp.sub (Sub.own (t:=7) (id:=500) 113 5 rfl rfl) ?_));refine aF (aM (fun p:Nat×Nat×List Prd×List Tk=>mk [(0,uX L),(1,I .i64 (p.1:Nat)),(7,.one (.hs 500 0 p.2.2.1.length p.2.2.1.length))] [(500,.arr 113 5 (p.2.2.1.map aT) 0)]) (fun p=>At L p.1 p.2.2.2∧p.2.2.2.length+1≤p.2.1∧p.2.2.1.length+p.2.2.2.length≤4001∧W=kL p.2.1 true p.2.2.2 p.2.2.1) (fun p=>p.2.1) (i,F,[],R) ⟨E,hF,by dsimp only;rw[length_nil];omega,c⟩ sl ?_);clear c E Y hF;rintro⟨j,f,out,Q⟩ ⟨A,hf,M,c⟩;dsimp only at A hf M c ⊢;have hout:(out.map aT).length=out.length:=χ _;obtain⟨f,rfl⟩:∃g,f=g+1:=⟨f-1,by omega⟩
 obtain⟨u,Q,rfl⟩:=A.e.ne;have hjl:=A.lt;rw[τ] at hf M hjl;have q:=aEj L hZ 1 (by decide) (u::Q) j A;rw[aPv] at q;rw[kL] at c;by_cases h2:u.kind=2
 case neg=>
  rw[η h2] at c q;rw[c];unfold aT at q;refine aF (sk 2 rfl (kc q ?_));exact kz 8 rfl (aA (sg rfl (aB rfl (fun _=>sg rfl (aD aGi)) (fun hb=>absurd hb (by decide)))))
 rw[ξ h2] at c q;rw[ξ rfl] at c;have hok:=j6 (3*Q.length) 1 Q;obtain⟨hA1,_⟩:=A.next (by omega)
 generalize dI (3*Q.length) 1 Q=w at hok c q;cases w with
 | error e=>
  dsimp only at c q;rw[c];unfold aT at q;refine aF (sk 2 rfl (kc q ?_));exact kz 8 rfl (aA (sg rfl (aB rfl (fun _=>sg rfl (aD aGi)) (fun hb=>absurd hb (by decide)))))
 | ok y=>
 obtain⟨x,R1⟩:=y;obtain⟨hT,_⟩:=hok x R1 rfl;obtain⟨r,hle⟩:=hA1.ok hT;have hlen:=hT.len;obtain⟨v,R2,rfl⟩:=r.e.ne;dsimp only at c q;rw[Cq] at c;have hvj:=r.get;have hvj':=bG aJ hvj;have hv2:=r.lt;rw[τ] at hlen hv2;have hcm:=u3 v yF (hZ v r.mem);have hrp:=u3 v pD (hZ v r.mem);unfold aT at q;have B:out.map aT++[[.str u.text,.int .i64 x.form,.int .i64 x.n,.str x.name,.sl 4 (cW x)]]=(out++[(⟨u.text,x⟩:Prd)]).map aT:=by rw[Am];rfl
 generalize hO:out++[(⟨u.text,x⟩:Prd)]=O at c B;have U:O.length=out.length+1:=by rw[←hO,ζ];rfl
 generalize L.length-(v::R2).length=k at *;refine aF (sk 2 rfl (kc q ?_));refine kz 8 rfl (aA (sg rfl (aB rfl (fun hb=>absurd hb (by decide)) (fun _=>aE (sgh [(1,.all),(3,.all)] rfl (AWp.sub (st2:=mk [(0,uX L),(1,I .i64 (j:Nat)),(7,.one (.hs 500 0 O.length O.length)),(9,I .i64 (k:Nat))] [(500,.arr 113 5 (O.map aT) 0)]) (sl (he:=⟨rfl,rfl,Go.AM.hs_ren (by rw[U,←hout];rfl) (by rw[U,←hout];rfl),rfl,trivial⟩) (hh:=⟨⟨_,rfl,.arrS B⟩,trivial⟩)) ?_))))));refine aA (aF (skh 4 [(2,.row k (aJ v))] rfl (kc hrp ?_)));refine kz 1 rfl ?_;have aa:isT v pD=true→isT v yF=false:=fun h=>by
  have h1:=(c9 h).2
  unfold isT;rw[h1];cases decide (v.kind=4)<;>rfl
 cases J:isT v pD with
 | true=>
  rw[η (by rw[aa J];decide)] at c;rw[c,aNv,ξ J];obtain⟨_,hn⟩:=r.next (by rw[(c9 J).1];decide)
  rw[hn];refine aB rfl (fun _=>aA (agN [] rfl (AWp.sub (Sub.freeze (id:=500) rfl) ?_))) (fun hb=>absurd hb (by decide));exact aD aGi
 | false=>
  refine aB rfl (fun hb=>absurd hb (by decide)) (fun _=>skh 4 [(2,.row k (aJ v))] rfl (kc hcm ?_));refine kz 2 rfl ?_;cases hc:isT v yF with
  | false=>
   rw[hc,η (by decide)] at c;rw[c,aNv,η (by rw[J];decide)];exact aB rfl (fun _=>sg rfl (aD aGi)) (fun hb=>absurd hb (by decide))
  | true=>
   rw[ξ hc] at c;obtain⟨hA3,_⟩:=r.next (by rw[(c9 hc).1];decide)
   exact aB rfl (fun hb=>absurd hb (by decide)) (fun _=>aE (agN [] rfl ⟨(k+1,f,O,R2),⟨hA3,by dsimp only;omega,by dsimp only;omega,c⟩,by dsimp only;omega,sl⟩))
def aMg (L:List Tk):PR→V
 | .ok (ps,R)=>.tup [.one (.c (.sl 5 (ps.map aT))),I .i64 ((L.length-R.length:Nat):Int),atV 0 0]
 | .error (e,p)=>.tup [.one (.c .nl),I .i64 0,atV e p]
theorem lU (L:List Tk) (ps:List Prd) (R:List Tk):aMg L (.ok (ps,R))=.tup [.one (.c (.sl 5 (ps.map aT))),I .i64 ((L.length-R.length:Nat):Int),atV 0 0]:=rfl
theorem rJ (L:List Tk) (hZ:mT L) (R:List Tk) (i:Nat) (E:At L i R):b9 Tryz.prog 183 [uX L,I .i64 (i:Nat)] [] (aMg L (dL R)) []:=by
 have hkl:(L.map aJ).length=L.length:=χ _;have hLl:=E.l;have hlt:=E.lt;have ab:L.length-R.length=i:=by omega
 have r:=aEj L hZ 0 (by decide) R i E;obtain⟨t,R,rfl⟩:=E.e.ne;have hti:=E.get;have hti':=bG aJ hti;have Y:=u3 t cM (hZ t E.mem);have q:∃W,W=dL (t::R):=⟨_,rfl⟩
 obtain⟨W,q⟩:=q;rw[←q];rw[aPv] at r;rw[dL] at q;have A:∀st,Sub (keys ([]:List (Nat×AObj))) (mk [(0,uX L),(1,I .i64 (i:Nat)),(6,.one (.vp 6 0)),(9,B false)] [(6,.var 32 [.c (.int .i64 0),.c (.int .i64 0)])]) st→W=.ok ([],t::R)→
   AWp none Tryz.prog 59 (keys ([]:List (Nat×AObj))) (v8 (v8 (v8 (v8 (Tryz.f183.body.getD .skip))))) st (fun ex st=>(ex=.normal∨ex=.ret)∧Fin tr.flat Tryz.f183 st [] (aMg L W) []):=fun st hs hw=>by
  refine AWp.sub hs ?_;rw[hw,lU,ab];exact aA (aF (sgh [(2,.bv true),(9,.bv true)] rfl (aB rfl (fun _=>sg rfl (aD aGj)) (fun hb=>absurd hb (by decide)))))
 have aa:∀(O:List Prd) (m:Nat) (Q:List Tk) (st:St),Sub (keys ([]:List (Nat×AObj))) (mk [(0,uX L),(1,I .i64 (i:Nat)),(6,.one (.vp 6 0)),(8,I .i64 (m:Nat)),(9,B true),(10,.one (.c (.sl 5 (O.map aT))))] [(6,.var 32 [.c (.int .i64 0),.c (.int .i64 0)])]) st→At L m Q→W=aFy t.pl (t::R) O Q→
   AWp none Tryz.prog 59 (keys ([]:List (Nat×AObj))) (v8 (v8 (v8 (v8 (Tryz.f183.body.getD .skip))))) st (fun ex st=>(ex=.normal∨ex=.ret)∧Fin tr.flat Tryz.f183 st [] (aMg L W) []):=fun O m Q st hs J hw=>by
  refine AWp.sub hs ?_;obtain⟨y,Q,rfl⟩:=J.e.ne;have hyj:=J.get;have hyj':=bG aJ hyj;have hda:=u3 y darrow (hZ y J.mem);have hB:=lC t 2;have hml:=J.lt;have ac:(O.map aT).length=O.length:=χ _;rw[aFy] at hw;refine aA (aF (skh 7 [(2,.bv false),(5,.row m (aJ y))] rfl (kcG hda ?_)));refine ak 3 [(2,.bv false),(9,.bv false)] rfl (az ?_);cases hd:isT y darrow with
  | false=>
   rw[hd,η (by decide)] at hw;rw[hw,lU,ab];exact aB rfl (fun _=>sg rfl (aD aGj)) (fun hb=>absurd hb (by decide))
  | true=>
   rw[hd,ξ rfl] at hw;obtain⟨_,hn⟩:=J.next (by rw[(c9 hd).1];decide)
   refine aB rfl (fun hb=>absurd hb (by decide)) (fun _=>sg rfl (aB rfl (fun hb=>?_) (fun hb=>?_)))
   ·rw[ξ (by have:=κ hb;rw[ac] at this;omega)] at hw;rw[hw];refine skh 4 [(2,.row i (aJ t))] rfl (kc hB ?_);exact kz 3 rfl (aD aGj)
   ·rw[η (by have:=Af hb;rw[ac] at this;omega)] at hw;rw[hw,lU,hn];exact aE (aA (agN [] rfl (aD aGj)))
 refine bM (n:=59) tok Tryz.func183 rfl rfl rfl ?_;refine sg rfl ?_;cases hb:isT t cM with
 | true=>
  have h4:=c9 hb;rw[η (by omega)] at r;unfold aT at r;rw[hb,ξ rfl] at q;obtain⟨M,_⟩:=E.next (by omega)
  have hls:=aLa L hZ R (i+1) M ((t::R).length+1) (by rw[τ];omega);have hok:=fun out R' h=>qR ((t::R).length+1) true R [] out R' (wt R) R.length (le_refl _) (fun p hp=>by cases hp) (by rw[length_nil];omega) h
  refine sk 2 rfl (kc r ?_);refine kz 8 rfl (sgh [(1,.all)] rfl (aA (skh 4 [(2,.row i (aJ t))] rfl (kc Y ?_))));refine az ?_;rw[hb];refine aB rfl (fun _=>aC mixed (akN 3 [] rfl (kc hls ?_))) (fun hb=>absurd hb (by decide));generalize kL ((t::R).length+1) true R []=w at hok q ⊢;cases w with
  | none=>
   rw[oH] at q;rw[aNv]
   ·exact kz 7 rfl (A _ sl q)
   ·intro a b c h;cases h
  | some y=>
   obtain⟨out,R2⟩:=y;obtain⟨g1,⟨p,g2,_⟩,_,_⟩:=hok out R2 rfl;obtain⟨U,hn2⟩:=M.to g2 (g1 M.e);rw[oH] at q;obtain⟨u,R2,rfl⟩:=U.e.ne;rw[brP,ξ rfl] at q;rw[aNv];by_cases hr:isT u pD=true
   ·rw[ξ hr] at q ⊢;obtain⟨hA3,hn3⟩:=U.next (by rw[(c9 hr).1];decide)
    rw[hn3];exact kz 7 rfl (aa out _ R2 _ sl hA3 q)
   ·rw[η hr] at q ⊢;exact kz 7 rfl (A _ sl q)
 | false=>
  rw[hb,η (by decide)] at q;rw[kL] at q;by_cases h2:t.kind=2
  case neg=>
   rw[η h2] at q r;unfold aT at r;rw[oH] at q;refine sk 2 rfl (kc r ?_);refine kz 8 rfl (sgh [(1,.all)] rfl (aA (skh 4 [(2,.row i (aJ t))] rfl (kc Y ?_))));refine az ?_;rw[hb];exact aB rfl (fun hb=>absurd hb (by decide)) (fun _=>aE (A _ sl q))
  rw[ξ h2] at q r;rw[η (by decide)] at q;obtain⟨M,_⟩:=E.next (by omega)
  have hok:=j6 (3*R.length) 0 R;generalize dI (3*R.length) 0 R=w at hok q r;cases w with
  | error e=>
   dsimp only at q r;unfold aT at r;rw[oH] at q;refine sk 2 rfl (kc r ?_);refine kz 8 rfl (sgh [(1,.all)] rfl (aA (skh 4 [(2,.row i (aJ t))] rfl (kc Y ?_))));refine az ?_;rw[hb];exact aB rfl (fun hb=>absurd hb (by decide)) (fun _=>aE (A _ sl q))
  | ok y=>
   obtain⟨x,R1⟩:=y;obtain⟨hT,_⟩:=hok x R1 rfl;obtain⟨U,hle⟩:=M.ok hT;obtain⟨u,R2,rfl⟩:=U.e.ne;dsimp only at q r;unfold aT at r;rw[B8,η (by decide),oH,brP,η (by decide),Bv] at q;refine sk 2 rfl (kc r ?_);refine kz 8 rfl (sgh [(1,.all)] rfl (aA (skh 4 [(2,.row i (aJ t))] rfl (kc Y ?_))));refine az ?_;rw[hb];exact aB rfl (fun hb=>absurd hb (by decide)) (fun _=>aE (aa [⟨t.text,x⟩] _ (u::R2) _ sl U q))
end Go.Proofs.YtpmheldmadendaaGreatDoor
