/-
  Texts Mk1 to Wd3 in one.
-/
import Derived.Test.YtkhgpgihmphfdaaGreatDoorM15
open List (all_eq_true append_assoc append_nil cons_append drop_append_of_le_length drop_drop drop_eq_getElem_cons drop_length filter_append filter_cons flatMap_cons flatMap_nil length_append length_cons length_drop length_filter_le length_map length_nil length_set length_take map_append map_cons map_set mem_append mem_cons mem_cons_of_mem mem_cons_self mem_filter mem_map mem_of_mem_take mem_singleton nil_append take_length take_of_length_le take_zero)
open Nat (le_refl le_trans mul_le_mul_left mul_succ zero_le)
namespace Go.Proofs.YtkhgpgihmphfdaaGreatDoor
open Go Go.AM
set_option maxRecDepth 20000
set_option maxHeartbeats 4000000
def tkP:V:=.one (.vp 750 0)
def tkO (l:List Int) (i:Nat):AObj:=.var 122 [.c (.sl 1 (l.map fY)),.c (.int .i64 (i:Nat))]
theorem a0d (l:List Int) (k:Nat) (q:Fits l) (u:k≤1000):aW Tryz.prog 24 [.one (.c (.sl 1 (l.map fY))),I .i64 (k:Nat)] [] tkP [(750,tkO (l.take k) 0)]:=by
 have hi:=aR5 l k q u;refine b9 (n:=10) tok Tryz.func24 rfl rfl rfl ?_;refine sg rfl (sk 2 rfl (kc hi ?_));exact ak 3 [(4,.id 750)] rfl (az (aE rtT))
theorem cR (l:List Int) (hl:oD l) (E:l.length≤1000) (i:Nat) (hi:i≤l.length) (q:Nat) (hm:0<q) (A:q≤1000000):∃v j:Nat,v<q∧Nx l i v j∧aW Tryz.prog 25 [tkP,I .i64 (q:Nat)] [(750,tkO l i)] (I .i64 (v:Nat)) [(750,tkO l j)]:=by
 have u:(l.map fY).length=l.length:=ξ _;by_cases h:i<l.length
 ·obtain⟨x,hx⟩:=aG h;have B:=aP fY hx;have y:i64 x:=hl x (ε hx);obtain⟨h1,h2⟩:=dY x (k:=(q:Int)) (by omega);obtain⟨v,hv⟩:∃v:Nat,eB x q=v:=⟨(eB x q).toNat,by omega⟩
  have hc:=pW x q y (by omega);rw[hv] at hc;refine⟨v,i+1,by omega,.inl ⟨h,rfl⟩,?_⟩;have d1:decide ((l.length:Int)≤(i:Int))=false:=φ (by omega);refine b9 (n:=37) tok Tryz.func25 rfl rfl rfl ?_;refine sg rfl (aA (sg rfl ?_));rw[u];refine aB rfl (fun hb=>absurd (hb.symm.trans d1) Bool.noConfusion) (fun _=>aD (skh 11 [(8,.row i (fY x))] rfl (kc hc ?_)));exact kz 1 rfl (aA (agN [] rfl (sg rfl (aE rtT))))
 ·refine⟨0,i,hm,.inr ⟨rfl,by omega,rfl⟩,?_⟩;have d1:decide ((l.length:Int)≤(i:Int))=true:=θ (by omega);refine b9 (n:=37) tok Tryz.func25 rfl rfl rfl ?_;refine sg rfl (aA (sg rfl ?_));rw[u];exact aB rfl (fun _=>sg rfl (aE rtT)) (fun hb=>absurd (hb.symm.trans d1) Bool.noConfusion)
theorem rI (l:List Int) (hl:oD l) (y:l.length≤1000) (i:Nat) (hi:i≤l.length) (q:Nat) (hm:0<q) (u:q≤1000000):∃v j:Nat,v<q∧j≤l.length∧aW Tryz.prog 25 [tkP,I .i64 (q:Nat)] [(750,tkO l i)] (I .i64 (v:Nat)) [(750,tkO l j)]:=by
 obtain⟨v,j,h1,h2,A⟩:=cR l hl y i hi q hm u;exact⟨v,j,h1,h2.le hi,A⟩
def rQ:Code→Code | .seq _ b=>b | c=>c
def a0z:List Str:=[[120],[95],[48],[50],[78],[84,114,117,101],[78,111],[110]]
theorem aTj:∀s∈a0z,s.length≤4∧(rG s.length s).isSome=true:=by decide+kernel
theorem tZ (l:List Int) (hl:oD l) (J:l.length≤1000):∀(k i deep:Nat),i≤l.length→deep+k=3→∃(s:Str) (j:Nat),TX 1 l i j s∧j≤l.length∧aW Tryz.prog 48 [tkP,I .i64 (deep:Nat)] [(750,tkO l i)] (Go.AM.T s) [(750,tkO l j)]:=by
 intro k;have hM:1000000000≤maxLen:=by decide
 have leaf:∀(i deep v j:Nat),aW Tryz.prog 25 [tkP,I .i64 ((13:Nat):Int)] [(750,tkO l i)] (I .i64 (v:Nat)) [(750,tkO l j)]→v<13→i≤l.length→Nx l i v j→(v<8∨2<deep)→∃(s:Str) (j:Nat),TX 1 l i j s∧j≤l.length∧aW Tryz.prog 48 [tkP,I .i64 (deep:Nat)] [(750,tkO l i)] (Go.AM.T s) [(750,tkO l j)]:=fun i deep v j hc hv hi hx hvd=>by
  obtain⟨s,hs⟩:=aG (l:=a0z) (k:=v%8) (by show v%8<8;omega);have hs':=aP aK hs;obtain⟨hsl,M⟩:=aTj s (ε hs)
  have hT:TX 1 l i j s:=⟨by
   rcases hx with⟨h1,h2⟩ | ⟨h1,h2,h3⟩
   ·omega
   ·subst h3;have:s=[120]:=(Option.some.inj hs).symm;subst this;subst h1
    show 1+_≤_;omega,LD.of M⟩
  have O:(a0z.map aK).length=8:=rfl;refine⟨s,j,hT,hx.le hi,?_⟩;refine b9 (n:=49) tok Tryz.func48 rfl rfl rfl ?_;refine sg rfl (sgh [(0,.all)] rfl (sk 1 rfl (kc hc ?_)));refine kz 1 rfl (AWp.sub (st2:=mk [(0,tkP),(1,I .i64 (deep:Nat)),(5,bU a0z),(6,I .i64 (v:Nat))] [(750,tkO l j)]) sl ?_);exact aA (aA (agF 3 [] rfl rfl rfl (aB rfl (fun _=>aA (agN [(3,.row (v%8) (aK s))] rfl (aE rtT))) (fun hb=>by simp at hb;omega))))
 induction k with
 | zero=>
  intro i deep hi hd;obtain⟨v,j,hv,hj,hc⟩:=cR l hl J i hi 13 (by decide) (by decide);exact leaf i deep v j hc hv hi hj (.inr (by omega))
 | succ k U=>
  intro i deep hi hd;obtain⟨v,j,hv,hx,hc⟩:=cR l hl J i hi 13 (by decide) (by decide);by_cases O:v<8
  ·exact leaf i deep v j hc hv hi hx (.inl O)
  obtain⟨Y,rfl⟩:=hx.pos (by omega);have hj:i+1≤l.length:=Y;obtain⟨s1,B,q,u,y⟩:=U (i+1) (deep+1) hj (by omega);obtain⟨s2,j2,A,aa,ab⟩:=U B (deep+1) u (by omega);have l1:=q.1;have l2:=A.1;have m1:=q.le;have m2:=A.le;have pre:∀(s:Str) (E:Nat),AWp none Tryz.prog 49 (keys [(750,tkO l i)]) (rQ (rQ (rQ (rQ (Tryz.f48.body.getD .skip))))) (mk [(0,tkP),(1,I .i64 (deep:Nat)),(6,I .i64 (v:Nat))] [(750,tkO l (i+1))]) (fun ex st=>(ex=.normal∨ex=.ret)∧Fin tr.flat Tryz.f48 st [(750,tkO l i)] (Go.AM.T s) [(750,tkO l E)])→aW Tryz.prog 48 [tkP,I .i64 (deep:Nat)] [(750,tkO l i)] (Go.AM.T s) [(750,tkO l E)]:=fun s E h=>by
   refine b9 (n:=49) tok Tryz.func48 rfl rfl rfl ?_;refine sg rfl (sgh [(0,.all)] rfl (sk 1 rfl (kc hc ?_)));refine kz 1 rfl (AWp.sub (st2:=mk [(0,tkP),(1,I .i64 (deep:Nat)),(6,I .i64 (v:Nat))] [(750,tkO l (i+1))]) sl ?_);exact aA (aA (agF 3 [] rfl rfl rfl (aB rfl (fun hb=>by simp at hb;omega) (fun _=>aD (AWp.sub sl h)))))
  by_cases h10:v<10
  ·refine⟨[67,32,40]++s1++[41,32,40]++s2++[41],j2,⟨by simp only[ψ,ω,length_nil];omega,(((((LQ.of rfl).appD q.2).app ⟨_,_,rfl,rfl⟩ (LQ.of rfl)).appD A.2).app ⟨_,_,rfl,rfl⟩ (LQ.of rfl)).d⟩,aa,pre _ _ ?_⟩;have d10:decide ((v:Int)<10)=true:=θ (by omega);refine aA (sg rfl (aB rfl (fun _=>aA (aC mixed (akN 3 [] rfl (kc y ?_)))) (fun hb=>Bool.noConfusion (hb.symm.trans d10))));refine akN 5 [] rfl (kc ab ?_);exact kz 3 rfl (aE rtT)
  have d10:decide ((v:Int)<10)=false:=φ (by omega);by_cases h12:v<12
  ·refine⟨[89,101,115,32,40]++s1++[41],B,⟨by simp only[ψ,ω,length_nil];omega,(((LQ.of rfl).appD q.2).app ⟨_,_,rfl,rfl⟩ (LQ.of rfl)).d⟩,u,pre _ _ ?_⟩;have d12:decide ((v:Int)<12)=true:=θ (by omega);refine aA (sg rfl (aB rfl (fun hb=>Bool.noConfusion (hb.symm.trans d10)) (fun _=>aD (aA (sg rfl (aB rfl (fun _=>aA (aC mixed (akN 3 [] rfl (kc y ?_)))) (fun hb=>Bool.noConfusion (hb.symm.trans d12))))))));exact kz 3 rfl (aE rtT)
  have d12:decide ((v:Int)<12)=false:=φ (by omega);refine⟨[80,32,40]++s1++[41,32,121],B,⟨by simp only[ψ,ω,length_nil];omega,((LQ.of rfl).appD q.2).appD ⟨_,_,rfl,rfl⟩ (LD.of rfl)⟩,u,pre _ _ ?_⟩;refine aA (sg rfl (aB rfl (fun hb=>Bool.noConfusion (hb.symm.trans d10)) (fun _=>aD (aA (sg rfl (aB rfl (fun hb=>Bool.noConfusion (hb.symm.trans d12)) (fun _=>aD (aA (aC mixed (akN 3 [] rfl (kc y ?_)))))))))));exact kz 3 rfl (aE rtT)
theorem aLf (l:List Int) (hl:oD l) (q:Fits l):∃s:Str,s.length≤1000∧aW Tryz.prog 14 [.one (.c (.sl 1 (l.map fY)))] [] (Go.AM.T s) []:=by
 have ho:=a0d l 20 q (by decide);obtain⟨s,j,hs,_,hc⟩:=tZ (l.take 20) (fun x hx=>hl x (Bb hx)) (by rw[Ai];omega) 3 0 0 (Ab _) rfl;have u:(l.take 20).length≤20:=by rw[Ai];omega
 have hle:=hs.le;refine⟨s,by omega,?_⟩;refine b9 (n:=6) tok Tryz.func14 rfl rfl rfl ?_;refine sg rfl (sk 1 rfl (kc ho ?_));refine kc hc ?_;exact kz 1 rfl (aE rtT)
def aSs:List Str:=[[120],[121],[102],[105,100],[107],[97,100,100],[101,113],[115,97,109,101],[109,97,112],[116,111,112],[84,114,117,101],[78],[67],[80],[89,101,115],[51],[48],[109,101,109,98,101,114],[115,117,109],[109,97,105,110],[122]]
theorem aNv:∀s∈aSs,s.length≤6∧(rG s.length s).isSome=true:=by decide+kernel
theorem aFp (l:List Int) (hl:oD l) (u:l.length≤1000) (i:Nat) (hi:i≤l.length):∃(s:Str) (j:Nat),TX 1 l i j s∧j≤l.length∧aW Tryz.prog 73 [tkP] [(750,tkO l i)] (Go.AM.T s) [(750,tkO l j)]:=by
 obtain⟨v,j,hv,hx,hc⟩:=cR l hl u i hi 21 (by decide) (by decide);obtain⟨s,hs⟩:=aG (l:=aSs) (k:=v) hv;have B:=aP aK hs;obtain⟨E,q⟩:=aNv s (ε hs)
 have y:TX 1 l i j s:=⟨by
  rcases hx with⟨h1,h2⟩ | ⟨h1,h2,A⟩
  ·omega
  ·subst A;have:s=[120]:=(Option.some.inj hs).symm;subst this;subst h1
   show 1+_≤_;omega,LD.of q⟩
 have I:(aSs.map aK).length=21:=rfl;refine⟨s,j,y,hx.le hi,?_⟩;refine b9 (n:=8) tok Tryz.func73 rfl rfl rfl ?_;refine sg rfl (skh 2 [(0,.all)] rfl (kc hc ?_));exact ak 3 [(3,.row v (aK s))] rfl (az (aE rtT))
def aT3:List Str:=[[120],[121],[120,32,121],[102,32,120]]
def aT1:List Str:=[[120],[102,32,121],[105,100,32,122]]
def aWc:List Str:=[[73,110,116],[66,111,111,108],[97,32,45,62,32,97],[69,32,97,32,61,62,32,97,32,45,62,32,66,111,111,108],[76,32,73,110,116],[70,32,102,32,61,62,32,102,32,97]]
theorem aO5:∀s∈aT3,s.length≤3∧(rG s.length s).isSome=true:=by decide+kernel
theorem aO3:∀s∈aT1,s.length≤4∧(rG s.length s).isSome=true:=by decide+kernel
theorem aQx:∀s∈aWc,s.length≤16∧(rG s.length s).isSome=true:=by decide+kernel
theorem aFq (l:List Int) (hl:oD l) (hL:l.length≤1000):∀(k i deep:Nat),i≤l.length→deep+k=5→∃(s:Str) (j:Nat),TX 1 l i j s∧j≤l.length∧aW Tryz.prog 29 [tkP,I .i64 (deep:Nat)] [(750,tkO l i)] (Go.AM.T s) [(750,tkO l j)]:=by
 have hM:1000000000≤maxLen:=by decide
 intro k
 induction k with
 | zero=>
  intro i deep hi hd;obtain⟨s,j,hs,hj,hc⟩:=aFp l hl hL i hi;have d4:decide (4<(deep:Int))=true:=θ (by omega);refine⟨s,j,hs,hj,?_⟩;refine b9 (n:=123) tok Tryz.func29 rfl rfl rfl ?_;refine sg rfl (aA (sg rfl (aB rfl (fun _=>sk 1 rfl (kc hc ?_)) (fun hb=>Bool.noConfusion (hb.symm.trans d4)))));exact kz 1 rfl (aE rtT)
 | succ k O=>
  intro i deep hi hd;have d4:decide (4<(deep:Int))=false:=φ (by omega);obtain⟨v,j,hv,hx,hc⟩:=cR l hl hL i hi 10 (by decide) (by decide);have hj:=hx.le hi
  match v,hv,hx,hc with
  | 0,_,hx,hc=>
   obtain⟨s1,B,q,u,y⟩:=aFp l hl hL j hj;have E:=q.1;have J:=q.le;have hxl:l.length-j≤l.length-i:=by rcases hx with⟨_,_⟩ | ⟨_,_,_⟩<;>omega
   refine⟨s1,B,⟨by omega,q.2⟩,u,?_⟩;refine b9 (n:=123) tok Tryz.func29 rfl rfl rfl ?_;refine sg rfl (aA (sg rfl (aB rfl (fun hb=>Bool.noConfusion (hb.symm.trans d4)) (fun _=>aD (aA (sk 1 rfl (kc hc ?_)))))));refine az (aF (aA (sg rfl (aB rfl (fun _=>aD (aB rfl (fun _=>sk 1 rfl (kc y ?_)) (fun hb=>Bool.noConfusion hb))) (fun hb=>Bool.noConfusion hb)))));exact kz 1 rfl (aE rtT)
  | 1,_,hx,hc=>
   obtain⟨s1,B,q,u,y⟩:=aFp l hl hL j hj;have E:=q.1;have J:=q.le;have hxl:l.length-j≤l.length-i:=by rcases hx with⟨_,_⟩ | ⟨_,_,_⟩<;>omega
   refine⟨s1,B,⟨by omega,q.2⟩,u,?_⟩;refine b9 (n:=123) tok Tryz.func29 rfl rfl rfl ?_;refine sg rfl (aA (sg rfl (aB rfl (fun hb=>Bool.noConfusion (hb.symm.trans d4)) (fun _=>aD (aA (sk 1 rfl (kc hc ?_)))))));refine az (aF (aA (sg rfl (aB rfl (fun hb=>Bool.noConfusion hb) (fun _=>sg rfl (aB rfl (fun _=>aD (aB rfl (fun _=>sk 1 rfl (kc y ?_)) (fun hb=>Bool.noConfusion hb))) (fun hb=>Bool.noConfusion hb)))))));exact kz 1 rfl (aE rtT)
  | 2,_,hx,hc=>
   obtain⟨s1,B,q,u,y⟩:=aFp l hl hL j hj;have E:=q.1;have J:=q.le;have hxl:l.length-j≤l.length-i:=by rcases hx with⟨_,_⟩ | ⟨_,_,_⟩<;>omega
   refine⟨s1,B,⟨by omega,q.2⟩,u,?_⟩;refine b9 (n:=123) tok Tryz.func29 rfl rfl rfl ?_;refine sg rfl (aA (sg rfl (aB rfl (fun hb=>Bool.noConfusion (hb.symm.trans d4)) (fun _=>aD (aA (sk 1 rfl (kc hc ?_)))))));refine az (aF (aA (sg rfl (aB rfl (fun hb=>Bool.noConfusion hb) (fun _=>sg rfl (aB rfl (fun hb=>Bool.noConfusion hb) (fun _=>ag [] rfl (aB rfl (fun _=>sk 1 rfl (kc y ?_)) (fun hb=>Bool.noConfusion hb)))))))));exact kz 1 rfl (aE rtT)
  | 3,_,hx,hc=>
   obtain⟨s1,B,q,u,y⟩:=O j (deep+1) hj (by omega);obtain⟨s2,j2,A,Y,aa⟩:=O B (deep+1) u (by omega);have E:=q.1;have J:=q.le;have lhs2:=A.1;have mhs2:=A.le;obtain⟨hi1,rfl⟩:=hx.pos (by decide);refine⟨[40]++s1++[41,32,40]++s2++[41],j2,⟨by simp only[ψ,ω,length_nil];omega,(((((LQ.of rfl).appD q.2).app ⟨_,_,rfl,rfl⟩ (LQ.of rfl)).appD A.2).app ⟨_,_,rfl,rfl⟩ (LQ.of rfl)).d⟩,Y,?_⟩;refine b9 (n:=123) tok Tryz.func29 rfl rfl rfl ?_;refine sg rfl (aA (sg rfl (aB rfl (fun hb=>Bool.noConfusion (hb.symm.trans d4)) (fun _=>aD (aA (sk 1 rfl (kc hc ?_)))))));refine az (aF (aA (sg rfl (aB rfl (fun hb=>Bool.noConfusion hb) (fun _=>sg rfl (aB rfl (fun hb=>Bool.noConfusion hb) (fun _=>ag [] rfl (aB rfl (fun hb=>Bool.noConfusion hb) (fun _=>aA (sg rfl (aB rfl (fun _=>aD (aB rfl (fun _=>aA (aC mixed (akN 3 [] rfl (kc y ?_)))) (fun hb=>Bool.noConfusion hb))) (fun hb=>Bool.noConfusion hb))))))))))));refine akN 5 [] rfl (kc aa ?_);exact kz 3 rfl (aE rtT)
  | 4,_,hx,hc=>
   obtain⟨s1,B,q,u,y⟩:=O j (deep+1) hj (by omega);obtain⟨s2,j2,A,Y,aa⟩:=O B (deep+1) u (by omega);have E:=q.1;have J:=q.le;have lhs2:=A.1;have mhs2:=A.le;obtain⟨hi1,rfl⟩:=hx.pos (by decide);refine⟨[40]++s1++[41,32,40]++s2++[41],j2,⟨by simp only[ψ,ω,length_nil];omega,(((((LQ.of rfl).appD q.2).app ⟨_,_,rfl,rfl⟩ (LQ.of rfl)).appD A.2).app ⟨_,_,rfl,rfl⟩ (LQ.of rfl)).d⟩,Y,?_⟩;refine b9 (n:=123) tok Tryz.func29 rfl rfl rfl ?_;refine sg rfl (aA (sg rfl (aB rfl (fun hb=>Bool.noConfusion (hb.symm.trans d4)) (fun _=>aD (aA (sk 1 rfl (kc hc ?_)))))));refine az (aF (aA (sg rfl (aB rfl (fun hb=>Bool.noConfusion hb) (fun _=>sg rfl (aB rfl (fun hb=>Bool.noConfusion hb) (fun _=>ag [] rfl (aB rfl (fun hb=>Bool.noConfusion hb) (fun _=>aA (sg rfl (aB rfl (fun hb=>Bool.noConfusion hb) (fun _=>ag [] rfl (aB rfl (fun _=>aA (aC mixed (akN 3 [] rfl (kc y ?_)))) (fun hb=>Bool.noConfusion hb))))))))))))));refine akN 5 [] rfl (kc aa ?_);exact kz 3 rfl (aE rtT)
  | 5,_,hx,hc=>
   obtain⟨w,j9,hw,U,hcn⟩:=cR l hl hL j hj 4 (by decide) (by decide);have hj9:=U.le hj;obtain⟨t,ht⟩:=aG (l:=aT3) (k:=w) hw;have ht':=aP aK ht;obtain⟨htl,M⟩:=aO5 t (ε ht);have M:=LD.of M;have hxl:l.length-j9≤l.length-j:=by rcases U with⟨_,_⟩ | ⟨_,_,_⟩<;>omega
   have hkw:(aT3.map aK).length=4:=rfl;obtain⟨s1,B,q,u,y⟩:=O j9 (deep+1) hj9 (by omega);have E:=q.1;have J:=q.le;obtain⟨hi1,rfl⟩:=hx.pos (by decide);refine⟨[40,92,32]++t++[32,45,62,32]++s1++[41],B,⟨by simp only[ψ,ω,length_nil];omega,(((((LQ.of rfl).appD M).app ⟨_,_,rfl,rfl⟩ (LQ.of rfl)).appD q.2).app ⟨_,_,rfl,rfl⟩ (LQ.of rfl)).d⟩,u,?_⟩;refine b9 (n:=123) tok Tryz.func29 rfl rfl rfl ?_;refine sg rfl (aA (sg rfl (aB rfl (fun hb=>Bool.noConfusion (hb.symm.trans d4)) (fun _=>aD (aA (sk 1 rfl (kc hc ?_)))))));refine az (aF (aA (sg rfl (aB rfl (fun hb=>Bool.noConfusion hb) (fun _=>sg rfl (aB rfl (fun hb=>Bool.noConfusion hb) (fun _=>ag [] rfl (aB rfl (fun hb=>Bool.noConfusion hb) (fun _=>aA (sg rfl (aB rfl (fun hb=>Bool.noConfusion hb) (fun _=>ag [] rfl (aB rfl (fun hb=>Bool.noConfusion hb) (fun _=>sg rfl (aB rfl (fun _=>skh 2 [(0,.all)] rfl (kc hcn ?_)) (fun hb=>Bool.noConfusion hb))))))))))))))));refine akN 7 [(3,.row w (aK t))] rfl (kc y ?_);exact kz 3 rfl (aE rtT)
  | 6,_,hx,hc=>
   obtain⟨w,j9,hw,U,hcn⟩:=cR l hl hL j hj 3 (by decide) (by decide);have hj9:=U.le hj;obtain⟨t,ht⟩:=aG (l:=aT1) (k:=w) hw;have ht':=aP aK ht;obtain⟨htl,M⟩:=aO3 t (ε ht);have M:=LD.of M;have hxl:l.length-j9≤l.length-j:=by rcases U with⟨_,_⟩ | ⟨_,_,_⟩<;>omega
   have hkw:(aT1.map aK).length=3:=rfl;obtain⟨s1,B,q,u,y⟩:=O j9 (deep+1) hj9 (by omega);obtain⟨s2,j2,A,Y,aa⟩:=O B (deep+1) u (by omega);obtain⟨s3,j3,ab,hj3,hc3⟩:=O j2 (deep+1) Y (by omega);have E:=q.1;have J:=q.le;have lhs2:=A.1;have mhs2:=A.le;have lhs3:=ab.1;have mhs3:=ab.le;obtain⟨hi1,rfl⟩:=hx.pos (by decide);refine⟨[40,108,101,116,32,123,32]++t++[32,61,32]++s1++[32,59,32,121,32,61,32]++s2++[32,125,32,105,110,32]++s3++[41],j3,⟨by simp only[ψ,ω,length_nil];omega,(((((((((LQ.of rfl).appD M).app ⟨_,_,rfl,rfl⟩ (LQ.of rfl)).appD q.2).app ⟨_,_,rfl,rfl⟩ (LQ.of rfl)).appD A.2).app ⟨_,_,rfl,rfl⟩ (LQ.of rfl)).appD ab.2).app ⟨_,_,rfl,rfl⟩ (LQ.of rfl)).d⟩,hj3,?_⟩;refine b9 (n:=123) tok Tryz.func29 rfl rfl rfl ?_;refine sg rfl (aA (sg rfl (aB rfl (fun hb=>Bool.noConfusion (hb.symm.trans d4)) (fun _=>aD (aA (sk 1 rfl (kc hc ?_)))))));refine az (aF (aA (sg rfl (aB rfl (fun hb=>Bool.noConfusion hb) (fun _=>sg rfl (aB rfl (fun hb=>Bool.noConfusion hb) (fun _=>ag [] rfl (aB rfl (fun hb=>Bool.noConfusion hb) (fun _=>aA (sg rfl (aB rfl (fun hb=>Bool.noConfusion hb) (fun _=>ag [] rfl (aB rfl (fun hb=>Bool.noConfusion hb) (fun _=>sg rfl (aB rfl (fun hb=>Bool.noConfusion hb) (fun _=>sg rfl (aB rfl (fun _=>skh 2 [(0,.all)] rfl (kc hcn ?_)) (fun hb=>Bool.noConfusion hb))))))))))))))))));refine akN 7 [(3,.row w (aK t))] rfl (kc y ?_);refine akN 5 [] rfl (kc aa ?_);refine akN 5 [] rfl (kc hc3 ?_);exact kz 3 rfl (aE rtT)
  | 7,_,hx,hc=>
   obtain⟨s1,B,q,u,y⟩:=O j (deep+1) hj (by omega);obtain⟨p1,j11,hp1,hj11,hcp1⟩:=tZ l hl hL 3 B 0 u rfl;obtain⟨s2,j2,A,Y,aa⟩:=O j11 (deep+1) hj11 (by omega);obtain⟨p2,j12,hp2,hj12,hcp2⟩:=tZ l hl hL 3 j2 0 Y rfl;obtain⟨s3,j3,ab,hj3,hc3⟩:=O j12 (deep+1) hj12 (by omega);have E:=q.1;have J:=q.le;have lhp1:=hp1.1;have mhp1:=hp1.le;have lhs2:=A.1;have mhs2:=A.le;have lhp2:=hp2.1;have mhp2:=hp2.le;have lhs3:=ab.1;have mhs3:=ab.le;obtain⟨hi1,rfl⟩:=hx.pos (by decide);refine⟨[40,99,97,115,101,32]++s1++[32,111,102,32,123,32]++p1++[32,45,62,32]++s2++[32,59,32]++p2++[32,45,62,32]++s3++[32,125,41],j3,⟨by simp only[ψ,ω,length_nil];omega,(((((((((((LQ.of rfl).appD q.2).app ⟨_,_,rfl,rfl⟩ (LQ.of rfl)).appD hp1.2).app ⟨_,_,rfl,rfl⟩ (LQ.of rfl)).appD A.2).app ⟨_,_,rfl,rfl⟩ (LQ.of rfl)).appD hp2.2).app ⟨_,_,rfl,rfl⟩ (LQ.of rfl)).appD ab.2).app ⟨_,_,rfl,rfl⟩ (LQ.of rfl)).d⟩,hj3,?_⟩;refine b9 (n:=123) tok Tryz.func29 rfl rfl rfl ?_;refine sg rfl (aA (sg rfl (aB rfl (fun hb=>Bool.noConfusion (hb.symm.trans d4)) (fun _=>aD (aA (sk 1 rfl (kc hc ?_)))))));refine az (aF (aA (sg rfl (aB rfl (fun hb=>Bool.noConfusion hb) (fun _=>sg rfl (aB rfl (fun hb=>Bool.noConfusion hb) (fun _=>ag [] rfl (aB rfl (fun hb=>Bool.noConfusion hb) (fun _=>aA (sg rfl (aB rfl (fun hb=>Bool.noConfusion hb) (fun _=>ag [] rfl (aB rfl (fun hb=>Bool.noConfusion hb) (fun _=>sg rfl (aB rfl (fun hb=>Bool.noConfusion hb) (fun _=>sg rfl (aB rfl (fun hb=>Bool.noConfusion hb) (fun _=>sg rfl (aB rfl (fun _=>aA (aC mixed (akN 3 [] rfl (kc y ?_)))) (fun hb=>Bool.noConfusion hb))))))))))))))))))));refine ak 3 [] rfl (kc hcp1 ?_);refine akN 5 [] rfl (kc aa ?_);refine ak 3 [] rfl (kc hcp2 ?_);refine akN 5 [] rfl (kc hc3 ?_);exact kz 3 rfl (aE rtT)
  | 8,_,hx,hc=>
   obtain⟨s1,B,q,u,y⟩:=O j (deep+1) hj (by omega);obtain⟨w,j9,hw,U,hcn⟩:=cR l hl hL B u 6 (by decide) (by decide);have hj9:=U.le u;obtain⟨t,ht⟩:=aG (l:=aWc) (k:=w) hw;have ht':=aP aK ht;obtain⟨htl,M⟩:=aQx t (ε ht);have M:=LD.of M;have hxl:l.length-j9≤l.length-B:=by rcases U with⟨_,_⟩ | ⟨_,_,_⟩<;>omega
   have hkw:(aWc.map aK).length=6:=rfl;have E:=q.1;have J:=q.le;obtain⟨hi1,rfl⟩:=hx.pos (by decide);refine⟨[40]++s1++[32,58,32]++t++[41],j9,⟨by simp only[ψ,ω,length_nil];omega,(((((LQ.of rfl).appD q.2).app ⟨_,_,rfl,rfl⟩ (LQ.of rfl)).appD M).app ⟨_,_,rfl,rfl⟩ (LQ.of rfl)).d⟩,hj9,?_⟩;refine b9 (n:=123) tok Tryz.func29 rfl rfl rfl ?_;refine sg rfl (aA (sg rfl (aB rfl (fun hb=>Bool.noConfusion (hb.symm.trans d4)) (fun _=>aD (aA (sk 1 rfl (kc hc ?_)))))));refine az (aF (aA (sg rfl (aB rfl (fun hb=>Bool.noConfusion hb) (fun _=>sg rfl (aB rfl (fun hb=>Bool.noConfusion hb) (fun _=>ag [] rfl (aB rfl (fun hb=>Bool.noConfusion hb) (fun _=>aA (sg rfl (aB rfl (fun hb=>Bool.noConfusion hb) (fun _=>ag [] rfl (aB rfl (fun hb=>Bool.noConfusion hb) (fun _=>sg rfl (aB rfl (fun hb=>Bool.noConfusion hb) (fun _=>sg rfl (aB rfl (fun hb=>Bool.noConfusion hb) (fun _=>sg rfl (aB rfl (fun hb=>Bool.noConfusion hb) (fun _=>sg rfl (aB rfl (fun _=>aA (aC mixed (akN 3 [] rfl (kc y ?_)))) (fun hb=>Bool.noConfusion hb))))))))))))))))))))));refine ak 4 [(6,.all)] rfl (kc hcn ?_);exact ak 5 [(9,.row w (aK t))] rfl (az (aE rtT))
  | 9,_,hx,hc=>
   obtain⟨s1,B,q,u,y⟩:=O j (deep+1) hj (by omega);have E:=q.1;have J:=q.le;obtain⟨hi1,rfl⟩:=hx.pos (by decide);refine⟨[97,100,100,32,40]++s1++[41,32,49],B,⟨by simp only[ψ,ω,length_nil];omega,(((LQ.of rfl).appD q.2).appD ⟨_,_,rfl,rfl⟩ (LD.of rfl))⟩,u,?_⟩;refine b9 (n:=123) tok Tryz.func29 rfl rfl rfl ?_;refine sg rfl (aA (sg rfl (aB rfl (fun hb=>Bool.noConfusion (hb.symm.trans d4)) (fun _=>aD (aA (sk 1 rfl (kc hc ?_)))))));refine az (aF (aA (sg rfl (aB rfl (fun hb=>Bool.noConfusion hb) (fun _=>sg rfl (aB rfl (fun hb=>Bool.noConfusion hb) (fun _=>ag [] rfl (aB rfl (fun hb=>Bool.noConfusion hb) (fun _=>aA (sg rfl (aB rfl (fun hb=>Bool.noConfusion hb) (fun _=>ag [] rfl (aB rfl (fun hb=>Bool.noConfusion hb) (fun _=>sg rfl (aB rfl (fun hb=>Bool.noConfusion hb) (fun _=>sg rfl (aB rfl (fun hb=>Bool.noConfusion hb) (fun _=>sg rfl (aB rfl (fun hb=>Bool.noConfusion hb) (fun _=>sg rfl (aB rfl (fun hb=>Bool.noConfusion hb) (fun _=>aD (aA (aC mixed (akN 3 [] rfl (kc y ?_))))))))))))))))))))))))));exact kz 3 rfl (aE rtT)
theorem aLg (l:List Int) (hl:oD l) (q:Fits l):∃s:Str,s.length≤4000∧aW Tryz.prog 12 [.one (.c (.sl 1 (l.map fY)))] [] (Go.AM.T s) []:=by
 have ho:=a0d l 40 q (by decide);obtain⟨s,j,hs,_,hc⟩:=aFq (l.take 40) (fun x hx=>hl x (Bb hx)) (by rw[Ai];omega) 5 0 0 (Ab _) rfl;have u:(l.take 40).length≤40:=by rw[Ai];omega
 have hle:=hs.le;refine⟨s,by omega,?_⟩;refine b9 (n:=6) tok Tryz.func12 rfl rfl rfl ?_;refine sg rfl (sk 1 rfl (kc ho ?_));refine kc hc ?_;exact kz 1 rfl (aE rtT)
def gE:List Str:=[
 [100,97,116,97,32,76,32,97,32,61,32,78,32,124,32,67,32,97,32,40,76,32,97,41],
 [100,97,116,97,32,80,32,97,32,98,32,61,32,80,32,97,32,98],
 [100,97,116,97,32,77,32,97,32,61,32,78,111,32,124,32,89,101,115,32,97],
 [100,97,116,97,32,84,32,97,32,61,32,76,101,97,102,32,124,32,78,111,100,101,32,40,84,32,97,41,32,97,32,40,84,32,97,41],
 [99,108,97,115,115,32,69,32,97,32,123,32,115,97,109,101,32,58,32,97,32,45,62,32,97,32,45,62,32,66,111,111,108,32,125],
 [105,110,115,116,97,110,99,101,32,69,32,73,110,116,32,123,32,115,97,109,101,32,120,32,121,32,61,32,101,113,32,120,32,121,32,125],
 [105,110,115,116,97,110,99,101,32,69,32,66,111,111,108,32,123,32,115,97,109,101,32,120,32,121,32,61,32,99,97,115,101,32,120,32,111,102,32,123,32,84,114,117,101,32,45,62,32,121,32,59,32,70,97,108,115,101,32,45,62,32,110,111,116,32,121,32,125,32,125],
 [105,110,115,116,97,110,99,101,32,69,32,97,32,61,62,32,69,32,40,76,32,97,41,32,123,32,115,97,109,101,32,120,32,121,32,61,32,99,97,115,101,32,120,32,111,102,32,123,32,78,32,45,62,32,99,97,115,101,32,121,32,111,102,32,123,32,78,32,45,62,32,84,114,117,101,32,59,32,95,32,45,62,32,70,97,108,115,101,32,125,32,59,32,67,32,97,32,98,32,45,62,32,99,97,115,101,32,121,32,111,102,32,123,32,78,32,45,62,32,70,97,108,115,101,32,59,32,67,32,99,32,100,32,45,62,32,97,110,100,32,40,115,97,109,101,32,97,32,99,41,32,40,115,97,109,101,32,98,32,100,41,32,125,32,125,32,125],
 [99,108,97,115,115,32,69,32,97,32,61,62,32,79,32,97,32,123,32,108,101,115,115,32,58,32,97,32,45,62,32,97,32,45,62,32,66,111,111,108,32,59,32,116,111,112,32,58,32,97,32,125],
 [105,110,115,116,97,110,99,101,32,79,32,73,110,116,32,123,32,108,101,115,115,32,120,32,121,32,61,32,108,116,32,120,32,121,32,59,32,116,111,112,32,61,32,57,32,125],
 [99,108,97,115,115,32,70,32,102,32,123,32,109,97,112,32,58,32,40,97,32,45,62,32,98,41,32,45,62,32,102,32,97,32,45,62,32,102,32,98,32,125],
 [105,110,115,116,97,110,99,101,32,70,32,76,32,123,32,109,97,112,32,102,32,120,32,61,32,99,97,115,101,32,120,32,111,102,32,123,32,78,32,45,62,32,78,32,59,32,67,32,97,32,98,32,45,62,32,67,32,40,102,32,97,41,32,40,109,97,112,32,102,32,98,41,32,125,32,125],
 [105,110,115,116,97,110,99,101,32,70,32,77,32,123,32,109,97,112,32,102,32,120,32,61,32,99,97,115,101,32,120,32,111,102,32,123,32,78,111,32,45,62,32,78,111,32,59,32,89,101,115,32,97,32,45,62,32,89,101,115,32,40,102,32,97,41,32,125,32,125],
 [110,111,116,32,120,32,61,32,99,97,115,101,32,120,32,111,102,32,123,32,84,114,117,101,32,45,62,32,70,97,108,115,101,32,59,32,70,97,108,115,101,32,45,62,32,84,114,117,101,32,125],
 [97,110,100,32,120,32,121,32,61,32,99,97,115,101,32,120,32,111,102,32,123,32,84,114,117,101,32,45,62,32,121,32,59,32,70,97,108,115,101,32,45,62,32,70,97,108,115,101,32,125],
 [97,112,112,101,110,100,32,120,32,121,32,61,32,99,97,115,101,32,120,32,111,102,32,123,32,78,32,45,62,32,121,32,59,32,67,32,97,32,98,32,45,62,32,67,32,97,32,40,97,112,112,101,110,100,32,98,32,121,41,32,125],
 [115,117,109,32,108,32,61,32,99,97,115,101,32,108,32,111,102,32,123,32,78,32,45,62,32,48,32,59,32,67,32,97,32,98,32,45,62,32,97,100,100,32,97,32,40,115,117,109,32,98,41,32,125],
 [109,101,109,98,101,114,32,58,32,69,32,97,32,61,62,32,97,32,45,62,32,76,32,97,32,45,62,32,66,111,111,108,32,59,32,109,101,109,98,101,114,32,120,32,108,32,61,32,99,97,115,101,32,108,32,111,102,32,123,32,78,32,45,62,32,70,97,108,115,101,32,59,32,67,32,97,32,98,32,45,62,32,99,97,115,101,32,115,97,109,101,32,120,32,97,32,111,102,32,123,32,84,114,117,101,32,45,62,32,84,114,117,101,32,59,32,70,97,108,115,101,32,45,62,32,109,101,109,98,101,114,32,120,32,98,32,125,32,125],
 [105,100,32,120,32,61,32,120],
 [107,32,120,32,121,32,61,32,120],
 [99,111,109,112,32,102,32,103,32,120,32,61,32,102,32,40,103,32,120,41],
 [102,114,111,109,32,110,32,61,32,67,32,110,32,40,102,114,111,109,32,40,97,100,100,32,110,32,49,41,41],
 [116,97,107,101,32,110,32,108,32,61,32,99,97,115,101,32,101,113,32,110,32,48,32,111,102,32,123,32,84,114,117,101,32,45,62,32,78,32,59,32,70,97,108,115,101,32,45,62,32,99,97,115,101,32,108,32,111,102,32,123,32,78,32,45,62,32,78,32,59,32,67,32,97,32,98,32,45,62,32,67,32,97,32,40,116,97,107,101,32,40,115,117,98,32,110,32,49,41,32,98,41,32,125,32,125],
 [101,118,101,110,32,110,32,61,32,99,97,115,101,32,101,113,32,110,32,48,32,111,102,32,123,32,84,114,117,101,32,45,62,32,84,114,117,101,32,59,32,70,97,108,115,101,32,45,62,32,111,100,100,32,40,115,117,98,32,110,32,49,41,32,125,32,59,32,111,100,100,32,110,32,61,32,99,97,115,101,32,101,113,32,110,32,48,32,111,102,32,123,32,84,114,117,101,32,45,62,32,70,97,108,115,101,32,59,32,70,97,108,115,101,32,45,62,32,101,118,101,110,32,40,115,117,98,32,110,32,49,41,32,125],
 [98,105,103,103,101,115,116,32,108,32,61,32,99,97,115,101,32,108,32,111,102,32,123,32,78,32,45,62,32,116,111,112,32,59,32,67,32,97,32,98,32,45,62,32,108,101,116,32,123,32,109,32,61,32,98,105,103,103,101,115,116,32,98,32,125,32,105,110,32,99,97,115,101,32,108,101,115,115,32,97,32,109,32,111,102,32,123,32,84,114,117,101,32,45,62,32,109,32,59,32,70,97,108,115,101,32,45,62,32,97,32,125,32,125],
 [115,105,122,101,32,116,32,61,32,99,97,115,101,32,116,32,111,102,32,123,32,76,101,97,102,32,45,62,32,48,32,59,32,78,111,100,101,32,97,32,98,32,99,32,45,62,32,97,100,100,32,40,97,100,100,32,40,115,105,122,101,32,97,41,32,49,41,32,40,115,105,122,101,32,99,41,32,125],
 [116,119,105,99,101,32,58,32,40,97,32,45,62,32,97,41,32,45,62,32,97,32,45,62,32,97,32,59,32,116,119,105,99,101,32,102,32,120,32,61,32,102,32,40,102,32,120,41],
 [115,119,97,112,32,112,32,61,32,99,97,115,101,32,112,32,111,102,32,123,32,80,32,97,32,98,32,45,62,32,80,32,98,32,97,32,125]]
def gX:Str:=[120,32,61,32,52]
def a1n:Str:=[32,59,10]
def a3d:List Str:=gE++[gX]
def iW (b:Bool):List C:=[.bool b]
def eX (h:List Bool):V:=.one (.c (.sl 1 (h.map iW)))
def aPj (l:List Int):List C:=[.sl 1 (l.map fY)]
def x8:List (List Int):=[[],[],[],[],[],[4],[4,13],[0,4,5,14],[4],[5,8],[],[0,10],[2,10],[],[],[0],[0],[0,4,5],[],[],[],[0],[0],[],[0,8,9],[3],[],[1]]
theorem aMk:aW Tryz.prog 71 [] [] (bU gE) []:=by
 refine b9 (n:=2) tok Tryz.func71 rfl rfl rfl ?_;exact sg rfl (sgh [(0,.all)] rfl (aE rtT))
theorem aVv:aW Tryz.prog 124 [] [] (.one (.c (.sl 1 (x8.map aPj)))) []:=by
 refine b9 (n:=17) tok Tryz.func124 rfl rfl rfl ?_;exact sg rfl (sgh [(0,.all),(1,.all),(2,.all),(3,.all),(4,.all),(5,.all),(6,.all),(7,.all),(8,.all),(9,.all),(10,.all),(11,.all),(12,.all),(13,.all),(14,.all),(15,.all)] rfl (aE rtT))
theorem aUi (c:UInt8) (h:List Bool) (hh:h.length=28):∃k:Nat,(k<2∨k=2∧h[0]?=some true)∧aW Tryz.prog 126 [I .u8 c.toNat,eX h] [] (I .i64 (k:Nat)) []:=by
 have u:(h.map iW).length=28:=by rw[ξ];exact hh
 obtain⟨b,hb⟩:=aG (l:=h) (k:=0) (by omega);have q:=aP iW hb;by_cases h1:(c.toNat:Int)=98
 ·refine⟨1,.inl (by decide),?_⟩;have d1:decide ((c.toNat:Int)=98)=true:=θ h1;refine b9 (n:=14) tok Tryz.func126 rfl rfl rfl ?_;exact sg rfl (aA (sg rfl (aB rfl (fun _=>sg rfl (aE rtT)) (fun hb=>absurd (hb.symm.trans d1) Bool.noConfusion))))
 have d1:decide ((c.toNat:Int)=98)=false:=φ h1;by_cases h2:(c.toNat:Int)=108
 ·have d2:decide ((c.toNat:Int)=108)=true:=θ h2;refine⟨if b=true then 2 else 0,?_,?_⟩
  ·cases b
   ·exact .inl (by decide)
   ·exact .inr ⟨rfl,hb⟩
  refine b9 (n:=14) tok Tryz.func126 rfl rfl rfl ?_;refine sg rfl (aA (sg rfl (aB rfl (fun hb=>absurd (hb.symm.trans d1) Bool.noConfusion) (fun _=>aD (aA (sgh [(2,.bv true),(4,.row 0 (iW b)),(6,.bv true)] rfl ?_))))));cases b
  ·exact aB rfl nofun (fun _=>aD (sg rfl (aE rtT)))
  ·exact aB rfl (fun _=>sg rfl (aE rtT)) nofun
 have d2:decide ((c.toNat:Int)=108)=false:=φ h2;refine⟨0,.inl (by decide),?_⟩;refine b9 (n:=14) tok Tryz.func126 rfl rfl rfl ?_;exact sg rfl (aA (sg rfl (aB rfl (fun hb=>absurd (hb.symm.trans d1) Bool.noConfusion) (fun _=>aD (aA (sgh [(2,.bv false),(6,.bv false)] rfl (aB rfl nofun (fun _=>aD (sg rfl (aE rtT))))))))))
def jnR (l:List Str):Nat→Str
 | 0=>[]
 | i+1=>(l.take i).flatMap (· ++a1n)++(l[i]?).getD []
theorem aYq (l:List Str) (M:Nat) (h:∀s∈l,s.length≤M):∀i,i≤l.length→(jnR l i).length≤(M+3)*i
 | 0,_=>Ab _
 | i+1,hi=>by
  obtain⟨s,hs⟩:=aG (l:=l) (k:=i) (by omega);have h1:=h s (ε hs);have h2:∀j,j≤i→((l.take j).flatMap (· ++a1n)).length≤(M+3)*j:=fun j=>by
   induction j with
   | zero=>intro _;rw[Bl];exact Ab _
   | succ j q=>
    intro hj;obtain⟨t,ht⟩:=aG (l:=l) (k:=j) (by omega);have u:=h t (ε ht);have:=q (by omega);rw[bQ ht,List.flatMap_append,ψ,flatMap_cons,flatMap_nil,Ay,ψ,mul_succ];show _+(t.length+3)≤_;omega
  have:=h2 i (le_refl _);rw[jnR,hs,ψ,mul_succ];show _+s.length≤_;omega
theorem aVb (l:List Str) (h:∀s∈l,s.length≤4000) (hl:l.length≤100):aW Tryz.prog 27 [bU l] [] (Go.AM.T (jnR l l.length)) []:=by
 have U:3000000000≤maxLen:=by decide
 have u:(l.map aK).length=l.length:=ξ _;refine b9 (n:=22) tok Tryz.func27 rfl rfl rfl ?_;refine sg rfl (sg rfl (aA (sg rfl (aF (aJ (fun i:Nat=>mk [(0,bU l),(3,Go.AM.T (jnR l i)),(4,I .i64 (i:Nat))] []) (fun i=>i≤l.length) (fun i=>l.length-i) 0 (Ab _) sl ?_)))));intro i hi;refine aA (sg rfl (aB rfl (fun hb=>?_) (fun hb=>?_)))
 ·have q:=ltD hb u;obtain⟨s,hs⟩:=aG q;have M:=aP aK hs;have O:=h s (ε hs);have y:=aYq l 4000 h i hi;have B:(jnR l i).length≤400300:=le_trans y (le_trans (mul_le_mul_left _ (by omega:i≤100)) (by decide));refine aD (aA (aF (aA (sg rfl ?_))));by_cases h0:i=0
  ·subst h0;refine aB rfl (fun hb=>by simp at hb) (fun _=>aD (ag [(3,.row 0 (aK s))] rfl (ag [] rfl ?_)));have E:jnR l 1=[]++s:=by rw[jnR,hs];rfl
   exact⟨1,q,by dsimp only;omega,sl (he:=⟨rfl,by rw[E];rfl,rfl,trivial⟩)⟩
  ·obtain⟨i,rfl⟩:∃k,i=k+1:=⟨i-1,by omega⟩
   refine aB rfl (fun _=>ag [] rfl (ag [(3,.row (i+1) (aK s))] rfl (ag [] rfl ?_))) (fun hb=>by have:=Ac hb;omega);obtain⟨t,ht⟩:=aG (l:=l) (k:=i) (by omega);have J:jnR l (i+1+1)=(jnR l (i+1)++a1n)++s:=by
    rw[jnR,jnR,hs,ht,bQ ht,List.flatMap_append,flatMap_cons,flatMap_nil,Ay,Cm,Cm];simp only[Aj]
   exact⟨i+1+1,q,by dsimp only;omega,sl (he:=⟨rfl,by rw[J];rfl,rfl,trivial⟩)⟩
 ·have A:=geD hb u hi;subst A;exact aH (sg rfl (aE rtT))
def hasB (h:List Bool) (x:Int):Bool:=decide (x<0) || (h[x.toNat]?).getD false
def mU (h:List Bool) (l:List (Str×Int)):List Str:=(l.filter fun p=>hasB h p.2).map (·.1)
theorem aEy (h:List Bool) (l m:List (Str×Int)):mU h (l++m)=mU h l++mU h m:=by unfold mU;rw[filter_append,Af]
theorem aO2 {h:List Bool}{l:List (Str×Int)}{s:Str}(hs:s∈mU h l):s∈l.map (·.1):=by
 obtain⟨p,hp,rfl⟩:=C7.1 hs;exact C7.2 ⟨p,(mem_filter.1 hp).1,rfl⟩
theorem aR0 (l:List Int) (hl:oD l) (hL:l.length≤1000) (i:Nat) (hi:i≤l.length) (h:List Bool) (hh:h.length=28) (z:List (Str×Int)) (hz:z.length≤100) (M:∀p∈z,p.2<28∧ -1≤p.2) (O:∃p∈z,hasB h p.2=true):∃(s:Str) (j:Nat),s∈z.map (·.1)∧j≤l.length∧aW Tryz.prog 125 [tkP,eX h,bU (z.map (·.1)),.one (.c (.sl 1 ((z.map (·.2)).map fY)))] [(750,tkO l i)] (Go.AM.T s) [(750,tkO l j)]:=by
 have hM:3000000000≤maxLen:=by decide
 have U:((z.map (·.1)).map aK).length=z.length:=by rw[ξ,ξ]
 have hkx:((z.map (·.2)).map fY).length=z.length:=by rw[ξ,ξ]
 have hkh:(h.map iW).length=28:=by rw[ξ];exact hh
 have hml:(mU h z).length≤z.length:=by unfold mU;rw[ξ];exact Co _ _
 have hm0:0<(mU h z).length:=by
  obtain⟨p,hp,Y⟩:=O;unfold mU;rw[ξ];exact List.length_pos_of_mem (mem_filter.2 ⟨hp,Y⟩)
 have hkm:((mU h z).map aK).length=(mU h z).length:=ξ _;obtain⟨v,j,hv,hj,hc⟩:=rI l hl hL i hi ((mU h z).map aK).length (by omega) (by omega);obtain⟨s,hs⟩:=aG (l:=mU h z) (k:=v) (by omega);have hs':=aP aK hs;refine⟨s,j,aO2 (ε hs),hj,?_⟩;refine b9 (n:=46) tok Tryz.func125 rfl rfl rfl ?_;refine sg rfl (sg rfl (AWp.sub (Sub.own (t:=9) (id:=500) 9 1 rfl rfl) ?_));refine aA (sg rfl (aF (aJ (fun k:Nat=>mk [(0,tkP),(1,eX h),(2,bU (z.map (·.1))),(3,.one (.c (.sl 1 ((z.map (·.2)).map fY)))),(9,.one (.hs 500 0 ((mU h (z.take k)).map aK).length ((mU h (z.take k)).map aK).length)),(10,I .i64 (k:Nat))] [(500,.arr 9 1 ((mU h (z.take k)).map aK) 0),(750,tkO l i)]) (fun k=>k≤z.length) (fun k=>z.length-k) 0 (Ab _) sl ?_)));intro k aa;refine aA (sg rfl (aB rfl (fun hb=>?_) (fun hb=>?_)))
 ·have u:=ltD hb U;obtain⟨p,hp⟩:=aG u;obtain⟨t,x⟩:=p;have ab:(z.map (·.1))[k]?=some t:=by rw[Br,hp];rfl
  have ac:(z.map (·.2))[k]?=some x:=by rw[Br,hp];rfl
  have hpt':=aP aK ab;have hpx':=aP fY ac;obtain⟨ad,ae⟩:=M _ (ε hp);dsimp only at ad ae;have E:z.take (k+1)=z.take k++[(t,x)]:=bQ hp;have hlm:(mU h (z.take k)).length≤k:=by
   unfold mU;rw[ξ];refine le_trans (Co _ _) ?_;rw[Ai];omega
  have hlm':((mU h (z.take k)).map aK).length=(mU h (z.take k)).length:=ξ _;refine aD (aA (aF (aA (AWp.cut (mk [(0,tkP),(1,eX h),(2,bU (z.map (·.1))),(3,.one (.c (.sl 1 ((z.map (·.2)).map fY)))),(9,.one (.hs 500 0 ((mU h (z.take k)).map aK).length ((mU h (z.take k)).map aK).length)),(10,I .i64 (k:Nat)),(31,Go.AM.B (hasB h x))] [(500,.arr 9 1 ((mU h (z.take k)).map aK) 0),(750,tkO l i)]) ?_ ?_))))
  ·by_cases hx:x<0
   ·have e:hasB h x=true:=by unfold hasB;rw[θ hx];rfl
    rw[e];have d:decide (x<0)=true:=θ hx;exact ag [(2,.row k (fY x)),(5,.bv true),(14,.bv true)] rfl sl
   ·obtain⟨b,J⟩:=aG (l:=h) (k:=x.toNat) (by omega);have hbx':=aP iW J;have d:decide (x<0)=false:=φ hx;have e:hasB h x=b:=by unfold hasB;rw[d,J];rfl
    rw[e];have hmx:(if(0:Int)>x then 0 else x)=(x.toNat:Nat):=by rw[η (by omega)];omega
    exact ag [(2,.row k (fY x)),(5,.bv false),(9,.row k (fY x)),(12,.row x.toNat (iW b)),(14,.bv false)] rfl sl
  ·refine aB rfl (fun y=>?_) (fun y=>?_)
   ·have q:mU h (z.take (k+1))=mU h (z.take k)++[t]:=by
     rw[E,aEy];unfold mU;rw[Ce,ζ (show hasB h x=true from y)];rfl
    have A:((mU h (z.take k)).map aK)++[[.str t]]=(mU h (z.take (k+1))).map aK:=by rw[q,Af];rfl
    have hle:((mU h (z.take (k+1))).map aK).length=((mU h (z.take k)).map aK).length+1:=by rw[←A,ψ];rfl
    exact ag [(3,.row k (aK t)),(5,.all)] rfl (agN [] rfl ⟨k+1,u,by dsimp only;omega,sl (he:=⟨rfl,rfl,rfl,rfl,Go.AM.hs_ren (by rw[hle];rfl) (by rw[hle];rfl),rfl,trivial⟩) (hh:=⟨⟨_,rfl,.arrS A⟩,⟨_,rfl,Go.AM.Ole.var rfl⟩,trivial⟩)⟩)
   ·have q:mU h (z.take (k+1))=mU h (z.take k):=by
     rw[E,aEy];unfold mU;rw[Ce,η (by rw[show hasB h x=false from y];exact χ)];exact Ay _
    exact aD (agN [] rfl ⟨k+1,u,by dsimp only;omega,sl (he:=⟨rfl,rfl,rfl,rfl,by rw[q];rfl,rfl,trivial⟩) (hh:=⟨⟨_,rfl,.arrS (by rw[q])⟩,⟨_,rfl,Go.AM.Ole.var rfl⟩,trivial⟩)⟩)
 ·have af:=geD hb U aa;subst af;refine aH ?_;rw[Al];refine AWp.sub (Sub.freeze (id:=500) rfl) ?_;refine AWp.sub (st2:=mk [(0,tkP),(9,bU (mU h z))] [(750,tkO l i)]) ?_ ?_
  ·refine Sub.trans ?_ (cv 9 ((mU h z).map aK));exact sl
  refine sk 4 rfl (kc hc ?_);exact ak 3 [(5,.row v (aK s))] rfl (az (aE rtT))
inductive ChT (l:List Int):Nat→List Bool→Nat→List Bool→Nat→Prop
 | z (h:List Bool) (i:Nat):ChT l 0 h i h i
 | s {n:Nat} {h:List Bool} {i v j:Nat} {h':List Bool} {j':Nat} (hv:v<28) (hj:j≤l.length) (hc:aW Tryz.prog 25 [tkP,I .i64 ((28:Nat):Int)] [(750,tkO l i)] (I .i64 (v:Nat)) [(750,tkO l j)]) (k:ChT l n (h.set v true) j h' j'):ChT l (n+1) h i h' j'
theorem ChT.ex {l:List Int}(hl:oD l) (q:l.length≤1000):∀(n:Nat) (h:List Bool) (i:Nat),i≤l.length→h.length=28→∃(h':List Bool) (j:Nat),ChT l n h i h' j∧j≤l.length∧h'.length=28
 | 0,h,i,hi,hh=>⟨h,i,.z h i,hi,hh⟩
 | n+1,h,i,hi,hh=>by
  obtain⟨v,j,hv,hj,hc⟩:=rI l hl q i hi 28 (by decide) (by decide);obtain⟨h',j',h1,h2,u⟩:=ChT.ex hl q n (h.set v true) j hj (by rw[C3];exact hh);exact⟨h',j',.s hv hj hc h1,h2,u⟩
theorem ChT.zero {l:List Int}{h h':List Bool}{i j:Nat}(k:ChT l 0 h i h' j):h=h'∧i=j:=by cases k;exact⟨rfl,rfl⟩
def aW2 (h:List Bool) (l:List Int):List Bool:=l.foldl (fun h x=>h.set x.toNat true) h
def clN:Nat→List Bool→List Bool
 | 0,h=>h
 | i+1,h=>clN i (if(h[i]?).getD false=true then aW2 h ((x8[i]?).getD []) else h)
theorem aQy (l:List Int) (h:List Bool):(aW2 h l).length=h.length:=by
 unfold aW2
 induction l generalizing h with
 | nil=>rfl
 | cons a l q=>rw[List.foldl_cons,q,C3]
theorem aLs:∀(i:Nat) (h:List Bool),(clN i h).length=h.length
 | 0,_=>rfl
 | i+1,h=>by
  rw[clN,aLs];split
  ·exact aQy _ _
  ·rfl
theorem aOw:∀l∈x8,l.length≤10∧∀x∈l,0≤x∧x<28:=by decide
theorem aFr (l:List Int) (hl:oD l) (hL:l.length≤1000) (i:Nat) (hi:i≤l.length):∃(h:List Bool) (j:Nat),h.length=28∧j≤l.length∧aW Tryz.prog 70 [tkP] [(750,tkO l i)] (eX h) [(750,tkO l j)]:=by
 have hM:3000000000≤maxLen:=by decide
 obtain⟨v0,j0,hv0,hj0,hc0⟩:=rI l hl hL i hi 6 (by decide) (by decide);obtain⟨h1,j1,y,hj1,hh1⟩:=ChT.ex hl hL (1+v0) (List.replicate 28 false) j0 hj0 rfl;have hNd:=aVv;have hkN:(x8.map aPj).length=28:=rfl;obtain⟨H,hH⟩:∃H,clN 28 h1=H:=⟨_,rfl⟩
 have hHl:H.length=28:=by rw[←hH,aLs];exact hh1
 refine⟨H,j1,hHl,hj1,?_⟩;refine b9 (n:=56) tok Tryz.func70 rfl rfl rfl ?_;refine sg rfl (aA (aC mixed (kc hNd ?_)));refine kz 1 rfl (sk 2 rfl (k_ (g_ rfl rfl (zK (m:=(x8.map aPj).length) (c:=.bool false) (id:=720) tok rfl rfl (kE rfl) (tg rfl) rfl (tg rfl) rfl rfl rfl rfl (by decide) (by decide) rfl)) ?_));refine kz 1 rfl (aA (sk 1 rfl (kc hc0 ?_)));refine akN 2 [] rfl (az (aF (aJ (fun x:Nat×List Bool×Nat=>mk [(0,tkP),(3,.one (.c (.sl 1 (x8.map aPj)))),(4,.one (.hs 720 0 28 28)),(5,I .i64 (x.1:Nat))] [(720,.arr 4 1 (x.2.1.map iW) 0),(750,tkO l x.2.2)]) (fun x=>x.1≤6∧x.2.1.length=28∧ChT l x.1 x.2.1 x.2.2 h1 j1) (fun x=>x.1) (1+v0,List.replicate 28 false,j0) ⟨by dsimp only;omega,rfl,y⟩ sl ?_)));rintro⟨n,h,k⟩ ⟨hn,hh,y⟩;dsimp only at hn hh y ⊢;have hkh:(h.map iW).length=28:=by rw[ξ];exact hh
 refine aA (sg rfl (aB rfl (fun hb=>?_) (fun hb=>?_)))
 ·have h0:0<n:=by have:=κ hb;omega
  obtain⟨n,rfl⟩:∃m,n=m+1:=⟨n-1,by omega⟩
  cases y with
  | s hv hj hc y=>
  rename_i v j;obtain⟨b,hbv⟩:=aG (l:=h) (k:=v) (by omega);have hbv':=aP iW hbv;refine aD (aA (aF (aC mixed (ak 4 [] rfl (kc hc ?_)))));exact ak 2 [(6,.row v (iW b))] rfl (az (ag [] rfl ⟨(n,h.set v true,j),⟨by dsimp only;omega,by dsimp only;rw[C3];exact hh,y⟩,by dsimp only;omega,sl (he:=⟨rfl,rfl,rfl,by rw[show((n:Nat):Int)=((n+1:Nat):Int)-1 by omega];rfl,trivial⟩) (hh:=⟨⟨_,rfl,.arrS (by rw[map_set];rfl)⟩,⟨_,rfl,Go.AM.Ole.var rfl⟩,trivial⟩)⟩))
 have hn0:n=0:=by have:=Ac hb;omega
 subst hn0;obtain⟨rfl,rfl⟩:=y.zero;clear hb hn y;refine aH (aA (sg rfl (aF (aJ (fun x:Nat×List Bool=>mk [(3,.one (.c (.sl 1 (x8.map aPj)))),(4,.one (.hs 720 0 28 28)),(6,I .i64 ((x.1:Nat)-1:Int))] [(720,.arr 4 1 (x.2.map iW) 0),(750,tkO l k)]) (fun x=>x.1≤28∧x.2.length=28∧clN x.1 x.2=H) (fun x=>x.1) (28,h) ⟨le_refl _,hh,hH⟩ sl ?_))));clear hH;rintro⟨m,g⟩ ⟨hm,J,A⟩;dsimp only at hm J A ⊢;have U:(g.map iW).length=28:=by rw[ξ];exact J
 refine aA (sg rfl (aB rfl (fun hb=>?_) (fun hb=>?_)))
 ·have h0:0<m:=by have:=κ hb;omega
  obtain⟨m,rfl⟩:∃q,m=q+1:=⟨m-1,by omega⟩
  obtain⟨b,Y⟩:=aG (l:=g) (k:=m) (by omega);have hbm':=aP iW Y;obtain⟨u,E⟩:=aG (l:=x8) (k:=m) (by show m<28;omega);have hns':=aP aPj E;obtain⟨hnl,hnx⟩:=aOw u (ε E);have e1:((m+1:Nat):Int)-1=(m:Nat):=by omega
  rw[e1];refine aD ?_;rw[clN,Y,E,Cm,Cm] at A;cases b
  ·rw[η χ] at A;exact aA (aF (aA (sgh [(3,.row m (iW false))] rfl (aB rfl (fun _=>aH (ag [] rfl ⟨(m,g),⟨by dsimp only;omega,J,A⟩,by dsimp only;omega,sl⟩)) nofun))))
  ·rw[ζ rfl] at A;have aa:(u.map fY).length=u.length:=ξ _;refine aA (aF (aA (sgh [(3,.row m (iW true))] rfl (aB rfl nofun (fun _=>aD (sg rfl (aF (aJ (fun x:Nat×List Bool=>mk [(3,.one (.c (.sl 1 (x8.map aPj)))),(4,.one (.hs 720 0 28 28)),(6,I .i64 (m:Nat)),(7,I .i64 (x.1:Nat))] [(720,.arr 4 1 (x.2.map iW) 0),(750,tkO l k)]) (fun x=>x.1≤u.length∧x.2.length=28∧aW2 x.2 (u.drop x.1)=aW2 g u) (fun x=>u.length-x.1) (0,g) ⟨Ab _,J,rfl⟩ sl ?_))))))));rintro⟨q,f⟩ ⟨hq,M,O⟩;dsimp only at hq M O ⊢;have hkf:(f.map iW).length=28:=by rw[ξ];exact M
   refine aA (sgh [(3,.row m (aPj u))] rfl (aB rfl (fun hb=>?_) (fun hb=>?_)))
   ·have B:=ltD hb aa;obtain⟨x,hx⟩:=aG B;have hx':=aP fY hx;obtain⟨hx0,hx1⟩:=hnx x (ε hx);obtain⟨c,hc⟩:=aG (l:=f) (k:=x.toNat) (by omega);have hc':=aP iW hc;refine aD (aA (aF (ag [(3,.row m (aPj u)),(6,.row q (fY x)),(8,.row x.toNat (iW c)),(9,.row x.toNat (iW c))] rfl (ag [] rfl ?_))))
    exact⟨(q+1,f.set x.toNat true),⟨B,by dsimp only;rw[C3];exact M,by
     dsimp only;rw[←O,Az B];rw[List.getElem?_eq_getElem B] at hx;injection hx with hx
     rw[hx];rfl⟩,by dsimp only;omega,sl (he:=⟨rfl,rfl,rfl,rfl,trivial⟩) (hh:=⟨⟨_,rfl,.arrS (by rw[map_set];rfl)⟩,⟨_,rfl,Go.AM.Ole.var rfl⟩,trivial⟩)⟩
   have hge:=geD hb aa hq;subst hge;rw[Ch] at O;exact aH (ag [] rfl ⟨(m,f),⟨by dsimp only;omega,M,by dsimp only;rw[show f=aW2 g u from O];exact A⟩,by dsimp only;omega,sl⟩)
 have hm0:m=0:=by have:=Ac hb;omega
 subst hm0;rw[clN] at A;subst A;refine aH (AWp.sub (st2:=mk [(4,.one (.hs 720 0 (g.map iW).length (g.map iW).length))] [(720,.arr 4 1 (g.map iW) 0),(750,tkO l k)]) (sl (he:=⟨Go.AM.hs_ren U.symm U.symm,trivial⟩)) ?_);refine AWp.sub (Sub.freeze (id:=720) rfl) ?_;refine AWp.sub (st2:=mk [(4,eX g)] [(750,tkO l k)]) ?_ ?_
 ·refine Sub.trans ?_ (cv 4 (g.map iW));exact sl
 exact sg rfl (aE rtT)
def rnd:Str→List Str→Str
 | [],_=>[]
 | c::r,es=>if c=64 then(match r,es with
  | _::r',e::es'=>40::(e++41::rnd r' es')
  | _,_=>[64]) else c::rnd r es
def nh:Str→Nat
 | []=>0
 | c::r=>if c=64 then(match r with
  | _::r'=>nh r'+1
  | []=>0) else nh r
def aAl:List Str:=[[48],[49],[55],[120]]
def tx0:List Str:=[[51],[120],[97,100,100,32,64,105,32,64,105],[109,117,108,32,64,105,32,64,105],[115,117,98,32,64,105,32,64,105],[100,105,118,32,64,105,32,64,105],[99,97,115,101,32,64,98,32,111,102,32,123,32,84,114,117,101,32,45,62,32,64,105,32,59,32,70,97,108,115,101,32,45,62,32,64,105,32,125],[108,101,116,32,123,32,121,32,61,32,64,105,32,59,32,122,32,61,32,97,100,100,32,121,32,64,105,32,125,32,105,110,32,122],[40,92,32,121,32,45,62,32,97,100,100,32,121,32,64,105,41,32,64,105],[99,97,115,101,32,64,105,32,111,102,32,123,32,48,32,45,62,32,64,105,32,59,32,49,32,45,62,32,53,32,59,32,110,32,45,62,32,110,32,125],[115,117,109,32,64,108],[105,100,32,64,105],[107,32,64,105,32,64,98],[98,105,103,103,101,115,116,32,64,108],[99,97,115,101,32,64,108,32,111,102,32,123,32,78,32,45,62,32,64,105,32,59,32,67,32,97,32,98,32,45,62,32,97,32,125],[99,111,109,112,32,40,97,100,100,32,64,105,41,32,40,115,117,98,32,64,105,41,32,64,105],[116,119,105,99,101,32,40,97,100,100,32,64,105,41,32,64,105],[115,105,122,101,32,40,78,111,100,101,32,76,101,97,102,32,64,105,32,76,101,97,102,41],[99,97,115,101,32,115,119,97,112,32,40,80,32,64,98,32,64,105,41,32,111,102,32,123,32,80,32,97,32,98,32,45,62,32,97,32,125],[99,97,115,101,32,109,97,112,32,40,97,100,100,32,64,105,41,32,40,89,101,115,32,64,105,41,32,111,102,32,123,32,78,111,32,45,62,32,48,32,59,32,89,101,115,32,97,32,45,62,32,97,32,125],[99,97,115,101,32,108,101,115,115,32,64,105,32,116,111,112,32,111,102,32,123,32,84,114,117,101,32,45,62,32,64,105,32,59,32,70,97,108,115,101,32,45,62,32,116,111,112,32,125]]
def aAk:List Str:=[[84,114,117,101],[70,97,108,115,101]]
def tx1:List Str:=[[84,114,117,101],[101,113,32,64,105,32,64,105],[108,116,32,64,105,32,64,105],[99,97,115,101,32,64,98,32,111,102,32,123,32,84,114,117,101,32,45,62,32,64,98,32,59,32,70,97,108,115,101,32,45,62,32,64,98,32,125],[110,111,116,32,64,98],[97,110,100,32,64,98,32,64,98],[115,97,109,101,32,64,105,32,64,105],[115,97,109,101,32,64,108,32,64,108],[115,97,109,101,32,64,98,32,64,98],[109,101,109,98,101,114,32,64,105,32,64,108],[101,118,101,110,32,64,105],[108,101,115,115,32,64,105,32,64,105],[105,100,32,64,98],[107,32,64,98,32,64,105]]
def rW:List Str:=[[40,78,32,58,32,76,32,73,110,116,41],[67,32,49,32,40,67,32,50,32,78,41]]
def tx2:List Str:=[[40,78,32,58,32,76,32,73,110,116,41],[67,32,64,105,32,64,108],[97,112,112,101,110,100,32,64,108,32,64,108],[109,97,112,32,40,97,100,100,32,64,105,41,32,64,108],[116,97,107,101,32,50,32,40,102,114,111,109,32,64,105,41],[116,97,107,101,32,64,105,32,64,108],[105,100,32,64,108],[116,119,105,99,101,32,40,67,32,64,105,41,32,64,108]]
def aW8:List Str:=[[40,78,32,58,32,76,32,73,110,116,41],[67,32,64,105,32,64,108],[97,112,112,101,110,100,32,64,108,32,64,108],[109,97,112,32,40,97,100,100,32,64,105,41,32,64,108],[67,32,64,105,32,78],[116,97,107,101,32,64,105,32,64,108],[105,100,32,64,108],[116,119,105,99,101,32,40,67,32,64,105,41,32,64,108]]
def tmL:List Str:=[
 [48],
 [49],
 [55],
 [120],
 [51],
 [97,100,100,32,64,105,32,64,105],
 [109,117,108,32,64,105,32,64,105],
 [115,117,98,32,64,105,32,64,105],
 [100,105,118,32,64,105,32,64,105],
 [99,97,115,101,32,64,98,32,111,102,32,123,32,84,114,117,101,32,45,62,32,64,105,32,59,32,70,97,108,115,101,32,45,62,32,64,105,32,125],
 [108,101,116,32,123,32,121,32,61,32,64,105,32,59,32,122,32,61,32,97,100,100,32,121,32,64,105,32,125,32,105,110,32,122],
 [40,92,32,121,32,45,62,32,97,100,100,32,121,32,64,105,41,32,64,105],
 [99,97,115,101,32,64,105,32,111,102,32,123,32,48,32,45,62,32,64,105,32,59,32,49,32,45,62,32,53,32,59,32,110,32,45,62,32,110,32,125],
 [115,117,109,32,64,108],
 [105,100,32,64,105],
 [107,32,64,105,32,64,98],
 [98,105,103,103,101,115,116,32,64,108],
 [99,97,115,101,32,64,108,32,111,102,32,123,32,78,32,45,62,32,64,105,32,59,32,67,32,97,32,98,32,45,62,32,97,32,125],
 [99,111,109,112,32,40,97,100,100,32,64,105,41,32,40,115,117,98,32,64,105,41,32,64,105],
 [116,119,105,99,101,32,40,97,100,100,32,64,105,41,32,64,105],
 [115,105,122,101,32,40,78,111,100,101,32,76,101,97,102,32,64,105,32,76,101,97,102,41],
 [99,97,115,101,32,115,119,97,112,32,40,80,32,64,98,32,64,105,41,32,111,102,32,123,32,80,32,97,32,98,32,45,62,32,97,32,125],
 [99,97,115,101,32,109,97,112,32,40,97,100,100,32,64,105,41,32,40,89,101,115,32,64,105,41,32,111,102,32,123,32,78,111,32,45,62,32,48,32,59,32,89,101,115,32,97,32,45,62,32,97,32,125],
 [99,97,115,101,32,108,101,115,115,32,64,105,32,116,111,112,32,111,102,32,123,32,84,114,117,101,32,45,62,32,64,105,32,59,32,70,97,108,115,101,32,45,62,32,116,111,112,32,125],
 [84,114,117,101],
 [70,97,108,115,101],
 [101,113,32,64,105,32,64,105],
 [108,116,32,64,105,32,64,105],
 [99,97,115,101,32,64,98,32,111,102,32,123,32,84,114,117,101,32,45,62,32,64,98,32,59,32,70,97,108,115,101,32,45,62,32,64,98,32,125],
 [110,111,116,32,64,98],
 [97,110,100,32,64,98,32,64,98],
 [115,97,109,101,32,64,105,32,64,105],
 [115,97,109,101,32,64,108,32,64,108],
 [115,97,109,101,32,64,98,32,64,98],
 [109,101,109,98,101,114,32,64,105,32,64,108],
 [101,118,101,110,32,64,105],
 [108,101,115,115,32,64,105,32,64,105],
 [105,100,32,64,98],
 [107,32,64,98,32,64,105],
 [40,78,32,58,32,76,32,73,110,116,41],
 [67,32,49,32,40,67,32,50,32,78,41],
 [67,32,64,105,32,64,108],
 [97,112,112,101,110,100,32,64,108,32,64,108],
 [109,97,112,32,40,97,100,100,32,64,105,41,32,64,108],
 [116,97,107,101,32,50,32,40,102,114,111,109,32,64,105,41],
 [116,97,107,101,32,64,105,32,64,108],
 [105,100,32,64,108],
 [116,119,105,99,101,32,40,67,32,64,105,41,32,64,108],
 [67,32,64,105,32,78]]
theorem aXa:([aAl,tx0,aAk,tx1,rW,tx2,aW8].all fun l=>l.all fun s=>tmL.any fun t=>decide (t=s))=true:=by kernel_rfl
theorem aSx:(tmL.all fun s=>decide (s.length≤56)&&decide (nh s≤3))=true:=by kernel_rfl
theorem aKr:([aAl,aAk,rW].all fun l=>l.all fun s=>decide (s.length≤13)&&decide ((64:UInt8)∉s))=true:=by kernel_rfl
def aRu:List (Str×Int):=aAl.zip [-1,-1,-1,-1]
def a3l:List (Str×Int):=tx0.zip [-1,-1,-1,-1,-1,-1,-1,-1,-1,-1,16,18,19,24,0,20,26,25,27,12,9]
def aRt:List (Str×Int):=aAk.zip [-1,-1]
def a3k:List (Str×Int):=tx1.zip [-1,-1,-1,-1,13,14,5,7,6,17,23,9,18,19]
def aRs:List (Str×Int):=rW.zip [0,0]
def aW7:List (Str×Int):=tx2.zip [0,0,15,11,21,22,18,26]
def nR:List (Str×Int):=aW8.zip [0,0,15,11,0,22,18,26]
noncomputable def a1i:Code:=rQ (rQ (rQ (rQ (rQ (rQ (rQ (rQ (Tryz.f72.body.getD .skip))))))))
def FrE (h:List Bool) (kind deep:Nat) (z:List (Str×Int)):Prop:=∀(l:List Int) (i:Nat) (s:Str) (jj:Nat),AWp none Tryz.prog 107 (keys [(750,tkO l i)]) a1i (mk [(0,tkP),(1,eX h),(3,I .i64 (deep:Nat)),(9,bU (z.map (·.1))),(10,.one (.c (.sl 1 ((z.map (·.2)).map fY))))] [(750,tkO l i)]) (fun ex st=>(ex=.normal∨ex=.ret)∧Fin tr.flat Tryz.f72 st [(750,tkO l i)] (Go.AM.T s) [(750,tkO l jj)])→aW Tryz.prog 72 [tkP,eX h,I .i64 (kind:Nat),I .i64 (deep:Nat)] [(750,tkO l i)] (Go.AM.T s) [(750,tkO l jj)]
theorem a4a {h:List Bool}{deep:Nat}(d3:decide ((deep:Int)<3)=true):FrE h 0 deep a3l:=fun l i s u q=>by
 refine b9 (n:=107) tok Tryz.func72 rfl rfl rfl ?_;exact sg rfl (sgh [(0,.all)] rfl (sgh [(0,.all)] rfl (aA (sgh [(2,.bv true),(5,.bv true)] rfl (aB rfl (fun _=>sgh [(0,.all)] rfl (ag [(0,.all)] rfl (aA (sg rfl (aB rfl (fun hb=>absurd hb (by decide)) (fun _=>aD (aA (sgh [(2,.bv false),(5,.bv false)] rfl (aB rfl nofun (fun _=>aD (aA (sg rfl (aB rfl (fun hb=>absurd hb (by decide)) (fun _=>aD (aA (sgh [(2,.bv false),(5,.bv false)] rfl (aB rfl nofun (fun _=>aD (AWp.sub sl q))))))))))))))))))) (fun hb=>absurd (hb.symm.trans d3) Bool.noConfusion))))))
theorem a39 {h:List Bool}{deep:Nat}(d3:decide ((deep:Int)<3)=false):FrE h 0 deep aRu:=fun l i s u q=>by
 refine b9 (n:=107) tok Tryz.func72 rfl rfl rfl ?_;exact sg rfl (sgh [(0,.all)] rfl (sgh [(0,.all)] rfl (aA (sgh [(2,.bv true),(5,.bv true)] rfl (aB rfl (fun hb=>absurd (hb.symm.trans d3) Bool.noConfusion) (fun _=>aD (aA (sg rfl (aB rfl (fun hb=>absurd hb (by decide)) (fun _=>aD (aA (sgh [(2,.bv false),(5,.bv false)] rfl (aB rfl nofun (fun _=>aD (aA (sg rfl (aB rfl (fun hb=>absurd hb (by decide)) (fun _=>aD (aA (sgh [(2,.bv false),(5,.bv false)] rfl (aB rfl nofun (fun _=>aD (AWp.sub sl q)))))))))))))))))))))))
theorem a38 {h:List Bool}{deep:Nat}(d3:decide ((deep:Int)<3)=true):FrE h 1 deep a3k:=fun l i s u q=>by
 refine b9 (n:=107) tok Tryz.func72 rfl rfl rfl ?_;exact sg rfl (sgh [(0,.all)] rfl (sgh [(0,.all)] rfl (aA (sgh [(2,.bv false),(5,.bv false)] rfl (aB rfl nofun (fun _=>aD (aA (sg rfl (aB rfl (fun _=>sgh [(0,.all)] rfl (ag [(0,.all)] rfl (aA (sgh [(2,.bv true),(5,.bv true)] rfl (aB rfl (fun _=>sgh [(0,.all)] rfl (ag [(0,.all)] rfl (aA (sg rfl (aB rfl (fun hb=>absurd hb (by decide)) (fun _=>aD (aA (sgh [(2,.bv false),(5,.bv false)] rfl (aB rfl nofun (fun _=>aD (AWp.sub sl q))))))))))) (fun hb=>absurd (hb.symm.trans d3) Bool.noConfusion)))))) (fun hb=>absurd hb (by decide)))))))))))
theorem a36 {h:List Bool}{deep:Nat}(d3:decide ((deep:Int)<3)=false):FrE h 1 deep aRt:=fun l i s u q=>by
 refine b9 (n:=107) tok Tryz.func72 rfl rfl rfl ?_;exact sg rfl (sgh [(0,.all)] rfl (sgh [(0,.all)] rfl (aA (sgh [(2,.bv false),(5,.bv false)] rfl (aB rfl nofun (fun _=>aD (aA (sg rfl (aB rfl (fun _=>sgh [(0,.all)] rfl (ag [(0,.all)] rfl (aA (sgh [(2,.bv true),(5,.bv true)] rfl (aB rfl (fun hb=>absurd (hb.symm.trans d3) Bool.noConfusion) (fun _=>aD (aA (sg rfl (aB rfl (fun hb=>absurd hb (by decide)) (fun _=>aD (aA (sgh [(2,.bv false),(5,.bv false)] rfl (aB rfl nofun (fun _=>aD (AWp.sub sl q))))))))))))))) (fun hb=>absurd hb (by decide)))))))))))
theorem a35 {h:List Bool}{deep:Nat}(d3:decide ((deep:Int)<3)=false):FrE h 2 deep aRs:=fun l i s u q=>by
 refine b9 (n:=107) tok Tryz.func72 rfl rfl rfl ?_;exact sg rfl (sgh [(0,.all)] rfl (sgh [(0,.all)] rfl (aA (sgh [(2,.bv false),(5,.bv false)] rfl (aB rfl nofun (fun _=>aD (aA (sg rfl (aB rfl (fun hb=>absurd hb (by decide)) (fun _=>aD (aA (sgh [(2,.bv false),(5,.bv false)] rfl (aB rfl nofun (fun _=>aD (aA (sg rfl (aB rfl (fun _=>sgh [(0,.all)] rfl (ag [(0,.all)] rfl (aA (sgh [(2,.bv true),(5,.bv true)] rfl (aB rfl (fun hb=>absurd (hb.symm.trans d3) Bool.noConfusion) (fun _=>aD (AWp.sub sl q))))))) (fun hb=>absurd hb (by decide)))))))))))))))))))
theorem a34 {h:List Bool}(hh:h.length=28) (g1:h[21]?=some false) {deep:Nat}(d3:decide ((deep:Int)<3)=true):FrE h 2 deep aW7:=fun l i s A q=>by
 have u:(h.map iW).length=28:=by rw[ξ];exact hh
 have y:=aP iW g1;refine b9 (n:=107) tok Tryz.func72 rfl rfl rfl ?_;exact sg rfl (sgh [(0,.all)] rfl (sgh [(0,.all)] rfl (aA (sgh [(2,.bv false),(5,.bv false)] rfl (aB rfl nofun (fun _=>aD (aA (sg rfl (aB rfl (fun hb=>absurd hb (by decide)) (fun _=>aD (aA (sgh [(2,.bv false),(5,.bv false)] rfl (aB rfl nofun (fun _=>aD (aA (sg rfl (aB rfl (fun _=>sgh [(0,.all)] rfl (ag [(0,.all)] rfl (aA (sgh [(2,.bv true),(5,.bv true)] rfl (aB rfl (fun _=>sgh [(0,.all)] rfl (sgh [(0,.all)] rfl (sgh [(1,.row 21 (iW false)),(3,.bv false),(8,.bv false)] rfl (aB rfl nofun (fun _=>aD (AWp.sub sl q)))))) (fun hb=>absurd (hb.symm.trans d3) Bool.noConfusion)))))) (fun hb=>absurd hb (by decide)))))))))))))))))))
theorem a33 {h:List Bool}(hh:h.length=28) (g1:h[21]?=some true) (g2:h[22]?=some true) {deep:Nat}(d3:decide ((deep:Int)<3)=true):FrE h 2 deep aW7:=fun l i s B q=>by
 have u:(h.map iW).length=28:=by rw[ξ];exact hh
 have y:=aP iW g1;have A:=aP iW g2;refine b9 (n:=107) tok Tryz.func72 rfl rfl rfl ?_;exact sg rfl (sgh [(0,.all)] rfl (sgh [(0,.all)] rfl (aA (sgh [(2,.bv false),(5,.bv false)] rfl (aB rfl nofun (fun _=>aD (aA (sg rfl (aB rfl (fun hb=>absurd hb (by decide)) (fun _=>aD (aA (sgh [(2,.bv false),(5,.bv false)] rfl (aB rfl nofun (fun _=>aD (aA (sg rfl (aB rfl (fun _=>sgh [(0,.all)] rfl (ag [(0,.all)] rfl (aA (sgh [(2,.bv true),(5,.bv true)] rfl (aB rfl (fun _=>sgh [(0,.all)] rfl (sgh [(0,.all)] rfl (sgh [(1,.row 21 (iW true)),(3,.bv true),(5,.row 22 (iW true)),(8,.bv true)] rfl (aB rfl nofun (fun _=>aD (AWp.sub sl q)))))) (fun hb=>absurd (hb.symm.trans d3) Bool.noConfusion)))))) (fun hb=>absurd hb (by decide)))))))))))))))))))
theorem a32 {h:List Bool}(hh:h.length=28) (g1:h[21]?=some true) (g2:h[22]?=some false) {deep:Nat}(d3:decide ((deep:Int)<3)=true):FrE h 2 deep nR:=fun l i s B q=>by
 have u:(h.map iW).length=28:=by rw[ξ];exact hh
 have y:=aP iW g1;have A:=aP iW g2;refine b9 (n:=107) tok Tryz.func72 rfl rfl rfl ?_;refine sg rfl (sgh [(0,.all)] rfl (sgh [(0,.all)] rfl (aA (sgh [(2,.bv false),(5,.bv false)] rfl (aB rfl nofun (fun _=>aD (aA (sg rfl (aB rfl (fun hb=>absurd hb (by decide)) (fun _=>aD (aA (sgh [(2,.bv false),(5,.bv false)] rfl (aB rfl nofun (fun _=>aD (aA (sg rfl (aB rfl (fun _=>sgh [(0,.all)] rfl (ag [(0,.all)] rfl (aA (sgh [(2,.bv true),(5,.bv true)] rfl (aB rfl (fun _=>sgh [(0,.id 760)] rfl (sgh [(0,.id 761)] rfl (sgh [(1,.row 21 (iW true)),(3,.bv true),(5,.row 22 (iW false)),(8,.bv true)] rfl (aB rfl (fun _=>sgh [(2,.row 4 (fY 21))] rfl (ag [(2,.row 4 (aK [116,97,107,101,32,50,32,40,102,114,111,109,32,64,105,41]))] rfl (AWp.sub (st2:=mk [(0,tkP),(1,eX h),(3,I .i64 (deep:Nat)),(9,.one (.hs 760 0 ((nR.map (·.1)).map aK).length ((nR.map (·.1)).map aK).length)),(10,.one (.hs 761 0 ((nR.map (·.2)).map fY).length ((nR.map (·.2)).map fY).length))] [(750,tkO l i),(760,.arr 9 1 ((nR.map (·.1)).map aK) 0),(761,.arr 3 1 ((nR.map (·.2)).map fY) 0)]) sl ?_))) nofun)))) (fun hb=>absurd (hb.symm.trans d3) Bool.noConfusion)))))) (fun hb=>absurd hb (by decide)))))))))))))))))));refine AWp.sub (Sub.freeze (id:=760) rfl) ?_;refine AWp.sub (Sub.freeze (id:=761) rfl) ?_;refine AWp.sub (st2:=mk [(0,tkP),(1,eX h),(3,I .i64 (deep:Nat)),(9,bU (nR.map (·.1))),(10,.one (.hs 761 0 ((nR.map (·.2)).map fY).length ((nR.map (·.2)).map fY).length))] [(750,tkO l i),(761,.arr 3 1 ((nR.map (·.2)).map fY) 2)]) (Sub.trans (by exact sl) (cv 9 ((nR.map (·.1)).map aK))) ?_;refine AWp.sub (st2:=mk [(0,tkP),(1,eX h),(3,I .i64 (deep:Nat)),(9,bU (nR.map (·.1))),(10,.one (.c (.sl 1 ((nR.map (·.2)).map fY))))] [(750,tkO l i)]) (Sub.trans (by exact sl) (cv 10 ((nR.map (·.2)).map fY))) ?_;exact AWp.sub sl q
theorem aS4 (c:UInt8) (r:Str) (es:List Str):rnd (c::r) es=if c=64 then(match r,es with
  | _::r',e::q=>40::(e++41::rnd r' q)
  | _,_=>[64]) else c::rnd r es:=by cases r<;>cases es<;>rfl
theorem a02 (c:UInt8) (r:Str):nh (c::r)=if c=64 then(match r with
  | _::r'=>nh r'+1
  | []=>0) else nh r:=by cases r<;>rfl
theorem wK {L:Nat}:∀(n:Nat) (s:Str) (es:List Str),s.length≤n→(∀e∈es,e.length≤L)→(rnd s es).length≤s.length+L*nh s
 | _,[],es,_,_=>Ab _
 | 0,c::r,_,hn,_=>absurd hn (by simp)
 | n+1,c::r,es,hn,h=>by
  rw[ω] at hn;rw[aS4,a02,ω];by_cases hc:c=64
  ·rw[ζ hc,ζ hc];cases r with
   | nil=>simp
   | cons x r=>
    cases es with
    | nil=>simp;omega
    | cons e es=>
     rw[ω] at hn;have h1:=h e Bt;have:=wK n r es (by omega) fun e he=>h e (Bf _ he)
     dsimp only;rw[ω,ψ,ω,ω,mul_succ];omega
  ·rw[η hc,η hc,ω];have:=wK n r es (by omega) h;omega
def exL:Nat→Nat
 | 0=>13
 | k+1=>56+exL k*3
theorem aLc:∀k,k≤3→exL k≤1100:=by decide
inductive RnT (l:List Int) (h:List Bool) (deep:Nat):Str→Nat→List Str→Nat→Prop
 | nil (i:Nat):RnT l h deep [] i [] i
 | byte {c:UInt8} {r:Str} {i:Nat} {es:List Str} {j:Nat} (hc:¬c=64) (k:RnT l h deep r i es j):RnT l h deep (c::r) i es j
 | last (i:Nat):RnT l h deep [64] i [] i
 | hole {c:UInt8} {r:Str} {i:Nat} {e:Str} {es:List Str} {j j' q:Nat} (hw:aW Tryz.prog 126 [I .u8 c.toNat,eX h] [] (I .i64 (q:Nat)) []) (he:aW Tryz.prog 72 [tkP,eX h,I .i64 (q:Nat),I .i64 ((deep+1:Nat):Int)] [(750,tkO l i)] (Go.AM.T e) [(750,tkO l j)]) (k:RnT l h deep r j es j'):RnT l h deep (64::c::r) i (e::es) j'
theorem RnT.ex0 {l:List Int}{h:List Bool}{deep:Nat}:∀(s:Str) (i:Nat),(64:UInt8)∉s→RnT l h deep s i [] i∧nh s=0
 | [],i,_=>⟨.nil i,rfl⟩
 | c::r,i,hs=>by
  rw[Aq] at hs;have hc:¬c=64:=fun k=>hs (.inl k.symm)
  obtain⟨h1,h2⟩:=RnT.ex0 (l:=l) (h:=h) (deep:=deep) r i fun k=>hs (.inr k)
  exact⟨.byte hc h1,by rw[a02,η hc];exact h2⟩
theorem aAw {l:List Int}{h:List Bool}{deep:Nat}(hd:deep≤3) {z:List (Str×Int)}{i Y j:Nat}{s:Str}{es:List Str}{kind:Nat}(hF:FrE h kind deep z) (hp:aW Tryz.prog 125 [tkP,eX h,bU (z.map (·.1)),.one (.c (.sl 1 ((z.map (·.2)).map fY)))] [(750,tkO l i)] (Go.AM.T s) [(750,tkO l Y)]) (hT:RnT l h deep s Y es j) (hs:s.length≤100) (hR:(rnd s es).length≤100000):aW Tryz.prog 72 [tkP,eX h,I .i64 (kind:Nat),I .i64 (deep:Nat)] [(750,tkO l i)] (Go.AM.T (rnd s es)) [(750,tkO l j)]:=by
 have hM:3000000000≤maxLen:=by decide
 refine hF l i (rnd s es) j ?_;refine sk 4 rfl (kc hp ?_);refine kz 1 rfl ?_;generalize hRe:rnd s es=RR at hR ⊢;refine sg rfl (aA (sg rfl (aF (aJ (fun x:Nat×Nat×Str×List Str=>mk [(0,tkP),(1,eX h),(3,I .i64 (deep:Nat)),(11,Go.AM.T s),(12,Go.AM.T x.2.2.1),(13,I .i64 (x.1:Nat))] [(750,tkO l x.2.1)]) (fun x=>x.1≤s.length∧RnT l h deep (s.drop x.1) x.2.1 x.2.2.2 j∧RR=x.2.2.1++rnd (s.drop x.1) x.2.2.2) (fun x=>s.length-x.1) (0,Y,[],es) ⟨Ab _,hT,hRe.symm⟩ sl ?_))));rintro⟨p,i2,out,fs⟩ ⟨hp1,y,u⟩;dsimp only at hp1 y u ⊢;have hol:out.length≤100000:=by rw[u,ψ] at hR;omega
 refine aA (sg rfl (aB rfl (fun hb=>?_) (fun hb=>?_)))
 ·have B:p<s.length:=by have:=κ hb;omega
  have O:s.drop p=s[p]::s.drop (p+1):=Az B;have E:s[p]?=some s[p]:=List.getElem?_eq_getElem B;generalize s[p]=c at O E;refine aD ?_;rw[O] at y u;have hin:c.toNat=64↔c=64:=⟨fun k=>UInt8.toNat_inj.1 k,fun k=>by rw[k];rfl⟩
  generalize A:s.drop (p+1)=r at y u;cases y with
  | byte hc k=>
   have d1:(!decide ((c.toNat:Int)=64))=true:=by rw[φ fun k=>hc (hin.1 (by omega))];rfl
   rw[aS4,η hc] at u;have J:(s.take (p+1)).drop p=[c]:=by rw[bQ E,Bp (by rw[Ai];omega),List.drop_take_self];rfl
   exact aA (aF (aA (sgh [(2,.byte p c),(4,.bv true),(10,.bv true)] rfl (aB rfl (fun _=>sg rfl (aH (ag [] rfl ⟨(p+1,i2,out++[c],fs),⟨B,by dsimp only;rw[A];exact k,by dsimp only;rw[A,u,Aj];rfl⟩,by dsimp only;omega,sl (he:=⟨rfl,rfl,rfl,rfl,by rw[←J];rfl,rfl,trivial⟩)⟩))) nofun))))
  | last=>
   have hl:s.length=p+1:=by have:=congrArg List.length A;rw[Bi,length_nil] at this;omega
   have d1:(!decide (((64:UInt8).toNat:Int)=64))=false:=rfl;have J:(s.take (p+1)).drop p=[64]:=by rw[bQ E,Bp (by rw[Ai];omega),List.drop_take_self];rfl
   have d2:decide ((s.length:Int)≤(p:Int)+1)=true:=θ (by omega);exact aA (aF (aA (sgh [(2,.byte p 64),(4,.bv false),(10,.bv false)] rfl (aB rfl (fun _=>sg rfl (aH (ag [] rfl ⟨(p+1,j,out++[64],[]),⟨B,by dsimp only;rw[A];exact .nil _,by dsimp only;rw[A,u,rnd,Ay];rfl⟩,by dsimp only;omega,sl (he:=⟨rfl,rfl,rfl,rfl,by rw[←J];rfl,rfl,trivial⟩)⟩))) (fun hb=>absurd (hb.symm.trans d2) Bool.noConfusion)))))
  | @hole c r _ e M i3 _ q hw he k=>
   have hl2:p+1<s.length:=by have:=congrArg List.length A;rw[Bi,ω] at this;omega
   have d1:(!decide (((64:UInt8).toNat:Int)=64))=false:=rfl;have d2:decide ((s.length:Int)≤(p:Int)+1)=false:=φ (by omega);have hsp1:s[p+1]?=some c:=by rw[←List.head?_drop,A];rfl
   have U:s.drop (p+1+1)=r:=by rw[←Cx,A];rfl
   have e1:rnd (64::c::r) (e::M)=40::(e++41::rnd r M):=by rw[aS4,ζ rfl]
   rw[e1] at u;have hel:e.length≤100000:=by rw[u,ψ,ω,ψ] at hR;omega
   refine aA (aF (aA (sgh [(2,.byte p 64),(4,.bv false),(10,.bv false)] rfl (aB rfl (fun hb=>absurd (hb.symm.trans d2) Bool.noConfusion) (fun _=>aD (aA (agN [] rfl (aC mixed (ak 8 [(6,.byte (p+1) c)] rfl (kc hw ?_))))))))));refine akN 2 [] rfl (kc he ?_);exact kz 3 rfl (agN [] rfl ⟨(p+1+1,i3,out++[40]++e++[41],M),⟨by dsimp only;omega,by dsimp only;rw[U];exact k,by dsimp only;rw[U,u];simp only[Aj,As,Av]⟩,by dsimp only;omega,sl⟩)
 ·have hge:p=s.length:=by have:=Ac hb;omega
  subst hge;rw[Ch] at y u;cases y;rw[rnd,Ay] at u;subst u;exact aH (sg rfl (aE rtT))
structure ZOk (h:List Bool) (z:List (Str×Int)):Prop where
 len:z.length≤100
 bnd:∀p∈z,p.2<28∧ -1≤p.2
 some:∃p∈z,hasB h p.2=true
 tm:∀s∈z.map (·.1),s∈tmL
theorem aXb {L:List Str}(q:L∈[aAl,tx0,aAk,tx1,rW,tx2,aW8]):∀s∈L,s∈tmL:=fun s hs=>by
 obtain⟨t,ht,he⟩:=List.any_eq_true.1 (A5.1 (A5.1 aXa L q) s hs);rw[←κ he];exact ht
theorem xJ {L:List Str}(q:L∈[aAl,aAk,rW]):∀s∈L,s.length≤13∧(64:UInt8)∉s:=fun s hs=>by
 have:=A5.1 (A5.1 aKr L q) s hs;rw[π] at this;exact⟨κ this.1,κ this.2⟩
theorem zk {h:List Bool}{z:List (Str×Int)}{L:List Str}(q:z.map (·.1)=L) (u:L∈[aAl,tx0,aAk,tx1,rW,tx2,aW8]) (h1:z.length≤100) (h2:∀p∈z,p.2<28∧ -1≤p.2) {p:Str×Int}(hp:z[0]?=some p) (hb:hasB h p.2=true):ZOk h z:=⟨h1,h2,⟨p,ε hp,hb⟩,by rw[q];exact aXb u⟩
theorem a1e (h:List Bool) (kind:Nat) (q:kind<2∨kind=2∧h[0]?=some true):∃z,ZOk h z∧FrE h kind 3 z∧∀s∈z.map (·.1),s.length≤13∧(64:UInt8)∉s:=by
 rcases q with q | ⟨rfl,q⟩
 ·match kind,q with
  | 0,_=>exact⟨aRu,zk (L:=aAl) (by kernel_rfl) (.head _) (by decide) (by decide) (p:=([48],-1)) rfl rfl,a39 (by decide),xJ (L:=aAl) (.head _)⟩
  | 1,_=>exact⟨aRt,zk (L:=aAk) (by kernel_rfl) (.tail _ (.tail _ (.head _))) (by decide) (by decide) (p:=([84,114,117,101],-1)) rfl rfl,a36 (by decide),xJ (L:=aAk) (.tail _ (.head _))⟩
 ·exact⟨aRs,zk (L:=rW) (by kernel_rfl) (.tail _ (.tail _ (.tail _ (.tail _ (.head _))))) (by decide) (by decide) (p:=([40,78,32,58,32,76,32,73,110,116,41],0)) rfl (by unfold hasB;rw[show h[(0:Int).toNat]?=some true from q];rfl),a35 (by decide),xJ (L:=rW) (.tail _ (.tail _ (.head _)))⟩
theorem a1f (h:List Bool) (hh:h.length=28) (kind deep:Nat) (A:deep<3) (q:kind<2∨kind=2∧h[0]?=some true):∃z,ZOk h z∧FrE h kind deep z:=by
 have d3:decide ((deep:Int)<3)=true:=θ (by omega);rcases q with q | ⟨rfl,q⟩
 ·match kind,q with
  | 0,_=>exact⟨a3l,zk (L:=tx0) (by kernel_rfl) (.tail _ (.head _)) (by decide) (by decide) (p:=([51],-1)) rfl rfl,a4a d3⟩
  | 1,_=>exact⟨a3k,zk (L:=tx1) (by kernel_rfl) (.tail _ (.tail _ (.tail _ (.head _)))) (by decide) (by decide) (p:=([84,114,117,101],-1)) rfl rfl,a38 d3⟩
 ·have z2:ZOk h aW7:=zk (L:=tx2) (by kernel_rfl) (.tail _ (.tail _ (.tail _ (.tail _ (.tail _ (.head _)))))) (by decide) (by decide) (p:=([40,78,32,58,32,76,32,73,110,116,41],0)) rfl (by unfold hasB;rw[show h[(0:Int).toNat]?=some true from q];rfl);obtain⟨u,g1⟩:=aG (l:=h) (k:=21) (by omega);obtain⟨y,g2⟩:=aG (l:=h) (k:=22) (by omega);cases u
  ·exact⟨aW7,z2,a34 hh g1 d3⟩
  ·cases y
   ·exact⟨nR,zk (L:=aW8) (by kernel_rfl) (.tail _ (.tail _ (.tail _ (.tail _ (.tail _ (.tail _ (.head _))))))) (by decide) (by decide) (p:=([40,78,32,58,32,76,32,73,110,116,41],0)) rfl (by unfold hasB;rw[show h[(0:Int).toNat]?=some true from q];rfl),a32 hh g1 g2 d3⟩
   ·exact⟨aW7,z2,a33 hh g1 g2 d3⟩
theorem aXc {s:Str}(h:s∈tmL):s.length≤56∧nh s≤3:=by
 have:=A5.1 aSx s h;rw[π] at this;exact⟨κ this.1,κ this.2⟩
def eS (l:List (Str×Bool)):List Str:=(l.filter (·.2)).map (·.1)
theorem sC (l m:List (Str×Bool)):eS (l++m)=eS l++eS m:=by unfold eS;rw[filter_append,Af]
theorem wD (l:List Str) (h:List Bool):(eS (l.zip h)).Sublist l:=by
 have h1:(eS (l.zip h)).Sublist ((l.zip h).map (·.1)):=List.filter_sublist.map _;refine h1.trans ?_
 induction l generalizing h with
 | nil=>rw[List.zip_nil_left];exact List.Sublist.refl _
 | cons a l q=>
  cases h with
  | nil=>rw[List.zip_nil_right];exact List.nil_sublist _
  | cons b h=>
   rw[List.zip_cons_cons,Ar];exact(q h (List.filter_sublist.map _)).cons_cons a
def iQ:Str:=[109,97,105,110,32,61,32]
theorem aEm:∀s∈a3d,s.length≤200:=by
 have:(a3d.all fun s=>decide (s.length≤200))=true:=by kernel_rfl
 intro s hs;exact κ (A5.1 this s hs)
def ExQ (l:List Int) (h:List Bool) (k deep:Nat):Prop:=∀(i kind:Nat),i≤l.length→(kind<2∨kind=2∧h[0]?=some true)→∃(s:Str) (j:Nat),s.length≤exL k∧j≤l.length∧aW Tryz.prog 72 [tkP,eX h,I .i64 (kind:Nat),I .i64 (deep:Nat)] [(750,tkO l i)] (Go.AM.T s) [(750,tkO l j)]
theorem RnT.exQ {l:List Int}{h:List Bool}(hh:h.length=28) {k deep:Nat}(u:ExQ l h k (deep+1)):∀(n:Nat) (s:Str) (i:Nat),s.length≤n→i≤l.length→∃(es:List Str) (j:Nat),RnT l h deep s i es j∧j≤l.length∧es.length=nh s∧∀e∈es,e.length≤exL k
 | _,[],i,_,hi=>⟨[],i,.nil i,hi,rfl,fun e he=>(nomatch he)⟩
 | 0,c::r,_,hn,_=>absurd hn (by simp)
 | n+1,c::r,i,hn,hi=>by
  rw[ω] at hn;by_cases hc:c=64
  ·subst hc;cases r with
   | nil=>exact⟨[],i,.last i,hi,rfl,fun e he=>(nomatch he)⟩
   | cons x r=>
    rw[ω] at hn;obtain⟨q,hq,hw⟩:=aUi x h hh;obtain⟨e,j,B,hj,E⟩:=u i q hi hq;obtain⟨es,j',h1,h2,y,A⟩:=RnT.exQ hh u n r j (by omega) hj;refine⟨e::es,j',.hole hw E h1,h2,?_,fun p hp=>?_⟩
    ·rw[a02,ζ rfl,ω,y]
    ·rcases Aq.1 hp with rfl | hp
     ·exact B
     ·exact A p hp
  ·obtain⟨es,j',h1,h2,y,A⟩:=RnT.exQ hh u n r i (by omega) hi;exact⟨es,j',.byte hc h1,h2,by rw[a02,η hc];exact y,A⟩
theorem exQ {l:List Int}(hl:oD l) (y:l.length≤1000) {h:List Bool}(hh:h.length=28):∀k deep,deep+k=3→ExQ l h k deep
 | 0,deep,U=>fun i kind hi A=>by
  have I:deep=3:=by omega
  subst I;obtain⟨z,q,B,J⟩:=a1e h kind A;obtain⟨s,j,hs,hj,hp⟩:=aR0 l hl y i hi h hh z q.len q.bnd q.some;obtain⟨h13,M⟩:=J s hs;obtain⟨E,hn⟩:=RnT.ex0 (l:=l) (h:=h) (deep:=3) s j M;have u:=wK (L:=0) s.length s [] (le_refl _) fun e he=>(nomatch he)
  rw[hn] at u;exact⟨rnd s [],j,by show _≤13;omega,hj,aAw (le_refl _) B hp E (by omega) (by omega)⟩
 | k+1,deep,U=>fun i kind hi A=>by
  obtain⟨z,q,B⟩:=a1f h hh kind deep (by omega) A;obtain⟨s,j,hs,hj,hp⟩:=aR0 l hl y i hi h hh z q.len q.bnd q.some;obtain⟨h56,Y⟩:=aXc (q.tm s hs);obtain⟨es,j',E,O,hn,hg⟩:=RnT.exQ hh (exQ hl y hh k (deep+1) (by omega)) s.length s j (le_refl _) hj;have u:=wK (L:=exL k) s.length s es (le_refl _) hg;have hm:exL k*nh s≤exL k*3:=mul_le_mul_left _ Y;have hx:=aLc (k+1) (by omega);have hx':exL (k+1)=56+exL k*3:=rfl;exact⟨rnd s es,j',by omega,O,aAw (by omega) B hp E (by omega) (by omega)⟩
theorem aPk (l:List Int) (hl:oD l) (hL:l.length≤1000) (i:Nat) (hi:i≤l.length):∃(q:List Str) (E:Str) (j:Nat),q.Sublist gE∧E.length≤1100∧aW Tryz.prog 28 [tkP] [(750,tkO l i)] (.one (.hs 500 0 ((q++[gX,iQ++E]).map aK).length ((q++[gX,iQ++E]).map aK).length)) [(750,tkO l j),(500,.arr 9 1 ((q++[gX,iQ++E]).map aK) 0)]∧j≤l.length:=by
 have hM:3000000000≤maxLen:=by decide
 obtain⟨h,j1,hh,hj1,hch⟩:=aFr l hl hL i hi;obtain⟨v,j2,hv,hj2,hnx⟩:=rI l hl hL j1 hj1 3 (by decide) (by decide);obtain⟨O,U⟩:=aG (l:=h) (k:=0) (by omega);have hb0':=aP iW U;have hkh:(h.map iW).length=28:=by rw[ξ];exact hh
 obtain⟨A,y,hkv⟩:∃A:Nat,A=(if v=2∧O=false then 0 else v)∧(A<2∨A=2∧h[0]?=some true):=⟨_,rfl,by
  split
  ·exact .inl (by decide)
  ·rename_i hn;by_cases h2:v=2
   ·refine .inr ⟨h2,?_⟩;cases O
    ·exact absurd ⟨h2,rfl⟩ hn
    ·exact U
   ·exact .inl (by omega)⟩
 obtain⟨E,j3,hE,hj3,hex⟩:=exQ hl hL hh 3 0 rfl j2 A hj2 hkv;have hEl:E.length≤1100:=le_trans hE (aLc 3 (le_refl _));have B:=aMk;have Y:(gE.map aK).length=28:=rfl;have hzl:(gE.zip h).length=28:=by rw[List.length_zip,hh];rfl
 have hsl0:(eS (gE.zip h)).length≤28:=(wD gE h).length_le;refine⟨eS (gE.zip h),E,j3,wD _ _,hEl,?_,hj3⟩;generalize hZ:gE.zip h=Z at *;refine b9 (n:=46) tok Tryz.func28 rfl rfl rfl ?_;refine sg rfl (sk 1 rfl (kc hch ?_));refine kz 1 rfl (aA (aC mixed (kc B ?_)));refine kz 1 rfl (sg rfl (AWp.sub (Sub.own (t:=5) (id:=500) 9 1 rfl rfl) ?_));refine aA (sg rfl (aF (aJ (fun k:Nat=>mk [(0,tkP),(3,eX h),(4,bU gE),(5,.one (.hs 500 0 ((eS (Z.take k)).map aK).length ((eS (Z.take k)).map aK).length)),(6,I .i64 (k:Nat))] [(500,.arr 9 1 ((eS (Z.take k)).map aK) 0),(750,tkO l j1)]) (fun k=>k≤28) (fun k=>28-k) 0 (Ab _) sl ?_)));intro k hkz;refine aA (sg rfl (aB rfl (fun hb=>?_) (fun hb=>?_)))
 ·have aa:k<28:=by rw[Y] at hb;have:=κ hb;omega
  obtain⟨p,hp⟩:=aG (l:=Z) (k:=k) (by omega);obtain⟨t,b⟩:=p;have ab:=hp;rw[←hZ,List.getElem?_zip_eq_some] at ab;obtain⟨B,ac⟩:=ab;dsimp only at B ac;have hpt':=aP aK B;have hpb':=aP iW ac;have ad:Z.take (k+1)=Z.take k++[(t,b)]:=bQ hp;have hlm:(eS (Z.take k)).length≤k:=by
   unfold eS;rw[ξ];refine le_trans (Co _ _) ?_;rw[Ai];omega
  have hlm':((eS (Z.take k)).map aK).length=(eS (Z.take k)).length:=ξ _;refine aD (aA (aF (sgh [(2,.row k (iW b))] rfl (aB rfl (fun M=>?_) (fun M=>?_)))))
  ·subst M;have J:eS (Z.take (k+1))=eS (Z.take k)++[t]:=by rw[ad,sC];rfl
   have u:((eS (Z.take k)).map aK)++[[.str t]]=(eS (Z.take (k+1))).map aK:=by rw[J,Af];rfl
   have hle:((eS (Z.take (k+1))).map aK).length=((eS (Z.take k)).map aK).length+1:=by rw[←u,ψ];rfl
   exact ag [(3,.row k (aK t)),(5,.all)] rfl (agN [] rfl ⟨k+1,aa,by dsimp only;omega,sl (he:=⟨rfl,rfl,rfl,Go.AM.hs_ren (by rw[hle];rfl) (by rw[hle];rfl),rfl,trivial⟩) (hh:=⟨⟨_,rfl,.arrS u⟩,⟨_,rfl,Go.AM.Ole.var rfl⟩,trivial⟩)⟩)
  ·subst M;have J:eS (Z.take (k+1))=eS (Z.take k):=by rw[ad,sC];exact Ay _
   exact aD (agN [] rfl ⟨k+1,aa,by dsimp only;omega,sl (he:=⟨rfl,rfl,rfl,by rw[J];rfl,rfl,trivial⟩) (hh:=⟨⟨_,rfl,.arrS (by rw[J])⟩,⟨_,rfl,Go.AM.Ole.var rfl⟩,trivial⟩)⟩)
 ·have hge:k=28:=by rw[Y] at hb;have:=Ac hb;omega
  subst hge;refine aH ?_;rw[show Z.take 28=Z from Au (by omega)];have hlm':((eS Z).map aK).length=(eS Z).length:=ξ _;refine sk 1 rfl (kc hnx ?_);refine kz 1 rfl (aA (AWp.cut (mk [(0,tkP),(3,eX h),(5,.one (.hs 500 0 ((eS Z).map aK).length ((eS Z).map aK).length)),(7,I .i64 (A:Nat))] [(500,.arr 9 1 ((eS Z).map aK) 0),(750,tkO l j2)]) ?_ ?_))
  ·by_cases h2:v=2
   ·subst h2;refine sgh [(2,.bv true),(4,.row 0 (iW O)),(7,.bv true)] rfl ?_;cases O
    ·rw[ζ ⟨rfl,rfl⟩] at y;subst y;exact aB rfl (fun _=>ag [] rfl sl) nofun
    ·rw[η (fun k=>Bool.noConfusion k.2)] at y;subst y;exact aB rfl nofun (fun _=>aD sl)
   ·rw[η (fun k=>h2 k.1)] at y;subst y;have d2:decide ((A:Int)=2)=false:=φ (by omega);exact sgh [(2,.bv false),(7,.bv false)] rfl (aB rfl nofun (fun _=>aD sl))
  ·refine sk 4 rfl (kc hex ?_);refine ak 4 [(6,.all)] rfl (az ?_);have u:((eS Z).map aK)++[[.str gX],[.str (iQ++E)]]=(eS Z++[gX,iQ++E]).map aK:=by rw[Af];rfl
   have hle:((eS Z++[gX,iQ++E]).map aK).length=((eS Z).map aK).length+2:=by rw[←u,ψ];rfl
   refine AWp.sub (st2:=mk [(2,.one (.hs 500 0 ((eS Z++[gX,iQ++E]).map aK).length ((eS Z++[gX,iQ++E]).map aK).length))] [(500,.arr 9 1 ((eS Z++[gX,iQ++E]).map aK) 0),(750,tkO l j3)]) (sl (he:=⟨Go.AM.hs_ren (by rw[hle];rfl) (by rw[hle];rfl),trivial⟩) (hh:=⟨⟨_,rfl,.arrS u⟩,⟨_,rfl,Go.AM.Ole.var rfl⟩,trivial⟩)) ?_;exact aE rtT
theorem aPl (l:List Int) (hl:oD l) (hL:l.length≤1000) (i:Nat) (hi:i≤l.length):∃(q:List Str) (E:Str) (j:Nat),q.Sublist gE∧E.length≤1100∧aW Tryz.prog 28 [tkP] [(750,tkO l i)] (bU (q++[gX,iQ++E])) [(750,tkO l j)]:=by
 have hM:3000000000≤maxLen:=by decide
 obtain⟨h,j1,hh,hj1,hch⟩:=aFr l hl hL i hi;obtain⟨v,j2,hv,hj2,hnx⟩:=rI l hl hL j1 hj1 3 (by decide) (by decide);obtain⟨O,U⟩:=aG (l:=h) (k:=0) (by omega);have hb0':=aP iW U;have hkh:(h.map iW).length=28:=by rw[ξ];exact hh
 obtain⟨A,y,hkv⟩:∃A:Nat,A=(if v=2∧O=false then 0 else v)∧(A<2∨A=2∧h[0]?=some true):=⟨_,rfl,by
  split
  ·exact .inl (by decide)
  ·rename_i hn;by_cases h2:v=2
   ·refine .inr ⟨h2,?_⟩;cases O
    ·exact absurd ⟨h2,rfl⟩ hn
    ·exact U
   ·exact .inl (by omega)⟩
 obtain⟨E,j3,hE,hj3,hex⟩:=exQ hl hL hh 3 0 rfl j2 A hj2 hkv;have hEl:E.length≤1100:=le_trans hE (aLc 3 (le_refl _));have B:=aMk;have Y:(gE.map aK).length=28:=rfl;have hzl:(gE.zip h).length=28:=by rw[List.length_zip,hh];rfl
 have hsl0:(eS (gE.zip h)).length≤28:=(wD gE h).length_le;refine⟨eS (gE.zip h),E,j3,wD _ _,hEl,?_⟩;generalize hZ:gE.zip h=Z at *;refine b9 (n:=46) tok Tryz.func28 rfl rfl rfl ?_;refine sg rfl (sk 1 rfl (kc hch ?_));refine kz 1 rfl (aA (aC mixed (kc B ?_)));refine kz 1 rfl (sg rfl (AWp.sub (Sub.own (t:=5) (id:=500) 9 1 rfl rfl) ?_));refine aA (sg rfl (aF (aJ (fun k:Nat=>mk [(0,tkP),(3,eX h),(4,bU gE),(5,.one (.hs 500 0 ((eS (Z.take k)).map aK).length ((eS (Z.take k)).map aK).length)),(6,I .i64 (k:Nat))] [(500,.arr 9 1 ((eS (Z.take k)).map aK) 0),(750,tkO l j1)]) (fun k=>k≤28) (fun k=>28-k) 0 (Ab _) sl ?_)));intro k hkz;refine aA (sg rfl (aB rfl (fun hb=>?_) (fun hb=>?_)))
 ·have aa:k<28:=by rw[Y] at hb;have:=κ hb;omega
  obtain⟨p,hp⟩:=aG (l:=Z) (k:=k) (by omega);obtain⟨t,b⟩:=p;have ab:=hp;rw[←hZ,List.getElem?_zip_eq_some] at ab;obtain⟨B,ac⟩:=ab;dsimp only at B ac;have hpt':=aP aK B;have hpb':=aP iW ac;have ad:Z.take (k+1)=Z.take k++[(t,b)]:=bQ hp;have hlm:(eS (Z.take k)).length≤k:=by
   unfold eS;rw[ξ];refine le_trans (Co _ _) ?_;rw[Ai];omega
  have hlm':((eS (Z.take k)).map aK).length=(eS (Z.take k)).length:=ξ _;refine aD (aA (aF (sgh [(2,.row k (iW b))] rfl (aB rfl (fun M=>?_) (fun M=>?_)))))
  ·subst M;have J:eS (Z.take (k+1))=eS (Z.take k)++[t]:=by rw[ad,sC];rfl
   have u:((eS (Z.take k)).map aK)++[[.str t]]=(eS (Z.take (k+1))).map aK:=by rw[J,Af];rfl
   have hle:((eS (Z.take (k+1))).map aK).length=((eS (Z.take k)).map aK).length+1:=by rw[←u,ψ];rfl
   exact ag [(3,.row k (aK t)),(5,.all)] rfl (agN [] rfl ⟨k+1,aa,by dsimp only;omega,sl (he:=⟨rfl,rfl,rfl,Go.AM.hs_ren (by rw[hle];rfl) (by rw[hle];rfl),rfl,trivial⟩) (hh:=⟨⟨_,rfl,.arrS u⟩,⟨_,rfl,Go.AM.Ole.var rfl⟩,trivial⟩)⟩)
  ·subst M;have J:eS (Z.take (k+1))=eS (Z.take k):=by rw[ad,sC];exact Ay _
   exact aD (agN [] rfl ⟨k+1,aa,by dsimp only;omega,sl (he:=⟨rfl,rfl,rfl,by rw[J];rfl,rfl,trivial⟩) (hh:=⟨⟨_,rfl,.arrS (by rw[J])⟩,⟨_,rfl,Go.AM.Ole.var rfl⟩,trivial⟩)⟩)
 ·have hge:k=28:=by rw[Y] at hb;have:=Ac hb;omega
  subst hge;refine aH ?_;rw[show Z.take 28=Z from Au (by omega)];have hlm':((eS Z).map aK).length=(eS Z).length:=ξ _;refine sk 1 rfl (kc hnx ?_);refine kz 1 rfl (aA (AWp.cut (mk [(0,tkP),(3,eX h),(5,.one (.hs 500 0 ((eS Z).map aK).length ((eS Z).map aK).length)),(7,I .i64 (A:Nat))] [(500,.arr 9 1 ((eS Z).map aK) 0),(750,tkO l j2)]) ?_ ?_))
  ·by_cases h2:v=2
   ·subst h2;refine sgh [(2,.bv true),(4,.row 0 (iW O)),(7,.bv true)] rfl ?_;cases O
    ·rw[ζ ⟨rfl,rfl⟩] at y;subst y;exact aB rfl (fun _=>ag [] rfl sl) nofun
    ·rw[η (fun k=>Bool.noConfusion k.2)] at y;subst y;exact aB rfl nofun (fun _=>aD sl)
   ·rw[η (fun k=>h2 k.1)] at y;subst y;have d2:decide ((A:Int)=2)=false:=φ (by omega);exact sgh [(2,.bv false),(7,.bv false)] rfl (aB rfl nofun (fun _=>aD sl))
  ·refine sk 4 rfl (kc hex ?_);refine ak 4 [(6,.all)] rfl (az ?_);have u:((eS Z).map aK)++[[.str gX],[.str (iQ++E)]]=(eS Z++[gX,iQ++E]).map aK:=by rw[Af];rfl
   have hle:((eS Z++[gX,iQ++E]).map aK).length=((eS Z).map aK).length+2:=by rw[←u,ψ];rfl
   refine AWp.sub (st2:=mk [(2,.one (.hs 500 0 ((eS Z++[gX,iQ++E]).map aK).length ((eS Z++[gX,iQ++E]).map aK).length))] [(500,.arr 9 1 ((eS Z++[gX,iQ++E]).map aK) 0),(750,tkO l j3)]) (sl (he:=⟨Go.AM.hs_ren (by rw[hle];rfl) (by rw[hle];rfl),trivial⟩) (hh:=⟨⟨_,rfl,.arrS u⟩,⟨_,rfl,Go.AM.Ole.var rfl⟩,trivial⟩)) ?_;refine AWp.sub (Sub.freeze (id:=500) rfl) ?_;refine AWp.sub (st2:=mk [(2,bU (eS Z++[gX,iQ++E]))] [(750,tkO l j3)]) ?_ ?_
   ·refine Sub.trans ?_ (cv 2 ((eS Z++[gX,iQ++E]).map aK));exact sl
   exact aE rtT
theorem aPm (l:List Int) (hl:oD l) (y:Fits l):∃s:Str,aW Tryz.prog 6 [.one (.c (.sl 1 (l.map fY)))] [] (Go.AM.T s) []:=by
 have ho:=a0d l 60 y (by decide);obtain⟨q,E,j,hq,B,hc⟩:=aPl (l.take 60) (fun x hx=>hl x (Bb hx)) (by rw[Ai];omega) 0 (Ab _);have A:q.length≤28:=hq.length_le;have u:(q++[gX]).Sublist a3d:=hq.append (List.Sublist.refl _)
 have hj:=aVb (q++[gX,iQ++E]) (fun s hs=>by
  rcases A4.1 hs with hs | hs
  ·exact le_trans (aEm s (u.subset (List.mem_append_left _ hs))) (by decide)
  ·rcases Aq.1 hs with rfl | hs
   ·decide
   ·rw[Am.1 hs,ψ];show 7+E.length≤4000;omega) (by rw[ψ];show q.length+2≤100;omega)
 refine⟨jnR (q++[gX,iQ++E]) (q++[gX,iQ++E]).length,?_⟩;refine b9 (n:=7) tok Tryz.func6 rfl rfl rfl ?_;refine sg rfl (sk 1 rfl (kc ho ?_));refine kc hc ?_;refine kc hj ?_;exact kz 1 rfl (aE rtT)
def wlH:List Str:=[[102],[103,32,120],[104,32,58,32,97,32,45,62,32,97,32,59,32,104],[121]]
inductive WlT (l:List Int):Nat→List Str→Nat→List Str→Nat→Prop
 | z (A:List Str) (i:Nat):WlT l 0 A i A i
 | s {n:Nat} {A:List Str} {i w j j':Nat} {t s:Str} {A':List Str} {j'':Nat} (ht:wlH[w]?=some t) (hs:s.length≤40000) (hc:aW Tryz.prog 25 [tkP,I .i64 ((4:Nat):Int)] [(750,tkO l i)] (I .i64 (w:Nat)) [(750,tkO l j)]) (hw:aW Tryz.prog 29 [tkP,I .i64 ((0:Nat):Int)] [(750,tkO l j)] (Go.AM.T s) [(750,tkO l j')]) (k:WlT l n (A++[t++[32,61,32]++s]) j' A' j''):WlT l (n+1) A i A' j''
theorem aIs:∀t∈wlH,t.length≤14:=by decide
theorem WlT.ex {l:List Int}(hl:oD l) (q:l.length≤1000):∀(n:Nat) (A:List Str) (i:Nat),i≤l.length→(∀s∈A,s.length≤40020)→∃(A':List Str) (j:Nat),WlT l n A i A' j∧A'.length=A.length+n∧∀s∈A',s.length≤40020
 | 0,A,i,_,u=>⟨A,i,.z A i,rfl,u⟩
 | n+1,A,i,hi,u=>by
  obtain⟨w,j,hw,hj,hc⟩:=rI l hl q i hi 4 (by decide) (by decide);obtain⟨t,ht⟩:=aG (l:=wlH) (k:=w) hw;obtain⟨s,j',hs,y,B⟩:=aFq l hl q 5 j 0 hj rfl;have hs:s.length≤40000:=by have:=hs.le;omega
  have I:=aIs t (ε ht)
  obtain⟨A',j'',h1,h2,E⟩:=WlT.ex hl q n (A++[t++[32,61,32]++s]) j' y (fun x hx=>by
   rcases A4.1 hx with hx | hx
   ·exact u x hx
   ·rw[Am.1 hx,ψ,ψ];show _+3+_≤_;omega)
  exact⟨A',j'',.s ht hs hc B h1,by rw[h2,ψ];show A.length+1+n=_;omega,E⟩
theorem WlT.zero {l:List Int}{A A':List Str}{i j:Nat}(k:WlT l 0 A i A' j):A=A'∧i=j:=by cases k;exact⟨rfl,rfl⟩
theorem aD5:∀l:List Str,(∀s∈l,s.length≤40020)→kN l≤40023*l.length
 | [],_=>le_refl _
 | s::l,h=>by
  have h1:=h s (.head _);have h2:=aD5 l fun x hx=>h x (.tail _ hx)
  rw[kN,ω,mul_succ];omega
theorem aY8 (l:List Int) (hl:oD l) (hf:Fits l):∃s:Str,aW Tryz.prog 7 [.one (.c (.sl 1 (l.map fY)))] [] (Go.AM.T s) []:=by
 have hM:3000000000≤maxLen:=by decide
 have ho:=a0d l 80 hf (by decide);have y:oD (l.take 80):=fun x hx=>hl x (Bb hx)
 have B:(l.take 80).length≤1000:=by rw[Ai];omega
 generalize l.take 80=L at ho y B;obtain⟨q,E,j,hq,hE,M,hj⟩:=aPk L y B 0 (Ab _);obtain⟨v,Y,hv,aa,ab⟩:=rI L y B j hj 3 (by decide) (by decide);have hql:q.length≤28:=hq.length_le;have O:∀s∈q++[gX,iQ++E],s.length≤40020:=fun s hs=>by
  rcases A4.1 hs with hs | hs
  ·exact le_trans (aEm s (List.mem_append_left _ (hq.subset hs))) (by decide)
  ·rcases Aq.1 hs with rfl | hs
   ·decide
   ·rw[Am.1 hs,ψ];show 7+E.length≤_;omega
 have U:(q++[gX,iQ++E]).length≤30:=by rw[ψ];show q.length+2≤_;omega
 generalize q++[gX,iQ++E]=A0 at M O U;obtain⟨A1,j2,u,hAl,ac⟩:=WlT.ex y B (v+1) A0 Y aa O;have hsum:=aD5 A1 ac;have hmul:40023*A1.length≤40023*40:=mul_le_mul_left _ (by omega);have ad:=aC9 A1 (by omega);refine⟨Lib.join A1 [32,59,10],?_⟩;refine b9 (n:=30) tok Tryz.func7 rfl rfl rfl ?_;refine sg rfl (sk 1 rfl (kc ho ?_));refine kz 1 rfl (sk 1 rfl (kc M ?_));refine kz 1 rfl (aA (sk 1 rfl (kc ab ?_)));refine kz 1 rfl (aF (aJ (fun x:Nat×List Str×Nat=>mk [(3,tkP),(4,.one (.hs 500 0 (x.2.1.map aK).length (x.2.1.map aK).length)),(5,I .i64 ((x.1:Nat)-1:Int))] [(500,.arr 9 1 (x.2.1.map aK) 0),(750,tkO L x.2.2)]) (fun x=>x.1≤3∧x.1+x.2.1.length≤40∧WlT L x.1 x.2.1 x.2.2 A1 j2) (fun x=>x.1) (v+1,A0,Y) ⟨by dsimp only;omega,by dsimp only;omega,u⟩ (sl (he:=⟨rfl,rfl,by rw[show((v+1:Nat):Int)-1=(v:Nat) by omega];rfl,trivial⟩)) ?_));rintro⟨n,A,i⟩ ⟨hn,ae,u⟩;dsimp only at hn ae u ⊢;have hkA:(A.map aK).length=A.length:=ξ _;refine aA (sg rfl (aB rfl (fun hb=>?_) (fun hb=>?_)))
 ·have h0:0<n:=by have:=κ hb;omega
  obtain⟨n,rfl⟩:∃m,n=m+1:=⟨n-1,by omega⟩
  cases u with
  | @s _ _ _ w j j' t s _ _ ht hs hc hw u=>
  have ht':=aP aK ht;have htl:=aIs t (ε ht);have hkw:(wlH.map aK).length=4:=rfl;have q1:(t++[32,61,32]).length≤17:=by rw[ψ];show _+3≤_;omega
  have J:(A.map aK)++[[.str (t++[32,61,32]++s)]]=(A++[t++[32,61,32]++s]).map aK:=by rw[Af];rfl
  have hle:((A++[t++[32,61,32]++s]).map aK).length=(A.map aK).length+1:=by rw[←J,ψ];rfl
  refine aD (aA (aF (aC mixed (ak 3 [(1,.all)] rfl (kc hc ?_)))));refine ak 4 [(4,.row w (aK t))] rfl (kc hw ?_);exact ak 4 [(10,.all)] rfl (az (ag [] rfl ⟨(n,A++[t++[32,61,32]++s],j'),⟨by dsimp only;omega,by dsimp only;rw[ψ];show n+(A.length+1)≤40;omega,u⟩,by dsimp only;omega,sl (he:=⟨rfl,Go.AM.hs_ren (by rw[hle];rfl) (by rw[hle];rfl),by rw[show((n:Nat):Int)-1=((n+1:Nat):Int)-1-1 by omega];rfl,trivial⟩) (hh:=⟨⟨_,rfl,.arrS J⟩,⟨_,rfl,Go.AM.Ole.var rfl⟩,trivial⟩)⟩))
 have af:n=0:=by have:=Ac hb;omega
 subst af;obtain⟨rfl,rfl⟩:=u.zero;refine aH (AWp.sub (Sub.freeze (id:=500) rfl) ?_);refine AWp.sub (st2:=mk [(4,bU A)] [(750,tkO L i)]) ?_ ?_
 ·refine Sub.trans ?_ (cv 4 (A.map aK));exact sl
 refine sk 1 rfl (kc ad ?_);exact kz 1 rfl (aE rtT)
end Go.Proofs.YtkhgpgihmphfdaaGreatDoor
