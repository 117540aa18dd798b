/-
  Texts Mk1 to Wd4 in one.
-/
import Derived.Test.YtkhgpgihmphfdaaGreatDoorM8
import Derived.Tactics2
import Derived.LoopTactic
open List (append_nil cons_append dropWhile_cons drop_eq_getElem_cons drop_zero length_append length_cons length_map length_nil length_pos_iff length_set length_take map_append map_set mem_append mem_cons mem_singleton set_append_right take_add_one take_length)
open Nat (le_refl le_trans lt_irrefl lt_succ_self sub_self succ_pos zero_add zero_le)
namespace Go.Proofs.YtkhgpgihmphfdaaGreatDoor
open Go Go.AM
set_option maxRecDepth 20000
set_option maxHeartbeats 4000000
def tkP:V:=.one (.vp 750 0)
def tkO (l:List Int) (i:Nat):AObj:=.var 122 [.c (.sl 1 (l.map lN)),.c (.int .i64 (i:Nat))]
theorem aZr (l:List Int) (k:Nat) (q:Fits l) (r:k≤1000):bI Tryz.prog 24 [.one (.c (.sl 1 (l.map lN))),I .i64 (k:Nat)] [] tkP [(750,tkO (l.take k) 0)]:=by
 have hi:=aOj l k q r;refine bM (n:=10) tok Tryz.func24 rfl rfl rfl ?_;refine sg rfl (sk 2 rfl (kc hi ?_));exact ak 3 [(4,.id 750)] rfl (az (aD rtT))
theorem cI (l:List Int) (hl:sB l) (E:l.length≤1000) (i:Nat) (hi:i≤l.length) (q:Nat) (hm:0<q) (A:q≤1000000):∃v j:Nat,v<q∧Nx l i v j∧bI Tryz.prog 25 [tkP,I .i64 (q:Nat)] [(750,tkO l i)] (I .i64 (v:Nat)) [(750,tkO l j)]:=by
 have r:(l.map lN).length=l.length:=η _;by_cases h:i<l.length
 ·obtain⟨x,hx⟩:=aJ h;have B:=b9 lN hx;have u:i64 x:=hl x (Aa hx);obtain⟨h1,h2⟩:=cP x (k:=(q:Int)) (by omega);obtain⟨v,y⟩:∃v:Nat,dM x q=v:=⟨(dM x q).toNat,by omega⟩
  have hc:=lQ x q u (by omega);rw[y] at hc;refine⟨v,i+1,by omega,.inl ⟨h,rfl⟩,?_⟩;have d1:decide ((l.length:Int)≤(i:Int))=false:=φ (by omega);refine bM (n:=37) tok Tryz.func25 rfl rfl rfl ?_;refine sg rfl (aA (sg rfl ?_));rw[r];refine aB rfl (fun hb=>absurd (hb.symm.trans d1) Bool.noConfusion) (fun _=>aF (skh 11 [(8,.row i (lN x))] rfl (kc hc ?_)));exact kz 1 rfl (aA (agN [] rfl (sg rfl (aD rtT))))
 ·refine⟨0,i,hm,.inr ⟨rfl,by omega,rfl⟩,?_⟩;have d1:decide ((l.length:Int)≤(i:Int))=true:=χ (by omega);refine bM (n:=37) tok Tryz.func25 rfl rfl rfl ?_;refine sg rfl (aA (sg rfl ?_));rw[r];exact aB rfl (fun _=>sg rfl (aD rtT)) (fun hb=>absurd (hb.symm.trans d1) Bool.noConfusion)
theorem aU1 (l:List Int) (hl:sB l) (u:l.length≤1000) (i:Nat) (hi:i≤l.length) (q:Nat) (hm:0<q) (r:q≤1000000):∃v j:Nat,v<q∧j≤l.length∧bI Tryz.prog 25 [tkP,I .i64 (q:Nat)] [(750,tkO l i)] (I .i64 (v:Nat)) [(750,tkO l j)]:=by
 obtain⟨v,j,h1,h2,y⟩:=cI l hl u i hi q hm r;exact⟨v,j,h1,h2.le hi,y⟩
def aKz:Code→Code | .seq _ b=>b | c=>c
def aWk:List Str:=[[120],[95],[48],[50],[78],[84,114,117,101],[78,111],[110]]
theorem aPw:∀s∈aWk,s.length≤4∧(pA s.length s).isSome=true:=by decide+kernel
theorem xK (l:List Int) (hl:sB l) (M:l.length≤1000):∀(k i deep:Nat),i≤l.length→deep+k=3→∃(s:Str) (j:Nat),TX 1 l i j s∧j≤l.length∧bI Tryz.prog 48 [tkP,I .i64 (deep:Nat)] [(750,tkO l i)] (Go.AM.T s) [(750,tkO l j)]:=by
 intro k;have hM:1000000000≤maxLen:=by decide
 have leaf:∀(i deep v j:Nat),bI Tryz.prog 25 [tkP,I .i64 ((13:Nat):Int)] [(750,tkO l i)] (I .i64 (v:Nat)) [(750,tkO l j)]→v<13→i≤l.length→Nx l i v j→(v<8∨2<deep)→∃(s:Str) (j:Nat),TX 1 l i j s∧j≤l.length∧bI Tryz.prog 48 [tkP,I .i64 (deep:Nat)] [(750,tkO l i)] (Go.AM.T s) [(750,tkO l j)]:=fun i deep v j hc A hi hx hvd=>by
  obtain⟨s,hs⟩:=aJ (l:=aWk) (k:=v%8) (by show v%8<8;omega);have hs':=b9 aR hs;obtain⟨hsl,O⟩:=aPw s (Aa hs)
  have hT:TX 1 l i j s:=⟨by
   rcases hx with⟨h1,h2⟩ | ⟨h1,h2,h3⟩
   ·omega
   ·subst h3;have:s=[120]:=(Option.some.inj hs).symm;subst this;subst h1
    show 1+_≤_;omega,LD.of O⟩
  have U:(aWk.map aR).length=8:=rfl;refine⟨s,j,hT,hx.le hi,?_⟩;refine bM (n:=49) tok Tryz.func48 rfl rfl rfl ?_;refine sg rfl (sgh [(0,.all)] rfl (sk 1 rfl (kc hc ?_)));refine kz 1 rfl (AWp.sub (st2:=mk [(0,tkP),(1,I .i64 (deep:Nat)),(5,eG aWk),(6,I .i64 (v:Nat))] [(750,tkO l j)]) sl ?_);exact aA (aA (agF 3 [] rfl rfl rfl (aB rfl (fun _=>aA (agN [(3,.row (v%8) (aR s))] rfl (aD rtT))) (fun hb=>by simp at hb;omega))))
 induction k with
 | zero=>
  intro i deep hi hd;obtain⟨v,j,A,B,hc⟩:=cI l hl M i hi 13 (by decide) (by decide);exact leaf i deep v j hc A hi B (.inr (by omega))
 | succ k Y=>
  intro i deep hi hd;obtain⟨v,j,A,hx,hc⟩:=cI l hl M i hi 13 (by decide) (by decide);by_cases U:v<8
  ·exact leaf i deep v j hc A hi hx (.inl U)
  obtain⟨aa,rfl⟩:=hx.pos (by omega);have B:i+1≤l.length:=aa;obtain⟨s1,E,q,r,u⟩:=Y (i+1) (deep+1) B (by omega);obtain⟨s2,j2,y,ab,ac⟩:=Y E (deep+1) r (by omega);have l1:=q.1;have l2:=y.1;have m1:=q.le;have m2:=y.le;have pre:∀(s:Str) (J:Nat),AWp none Tryz.prog 49 (keys [(750,tkO l i)]) (aKz (aKz (aKz (aKz (Tryz.f48.body.getD .skip))))) (mk [(0,tkP),(1,I .i64 (deep:Nat)),(6,I .i64 (v:Nat))] [(750,tkO l (i+1))]) (fun ex st=>(ex=.normal∨ex=.ret)∧Fin tr.flat Tryz.f48 st [(750,tkO l i)] (Go.AM.T s) [(750,tkO l J)])→bI Tryz.prog 48 [tkP,I .i64 (deep:Nat)] [(750,tkO l i)] (Go.AM.T s) [(750,tkO l J)]:=fun s J h=>by
   refine bM (n:=49) tok Tryz.func48 rfl rfl rfl ?_;refine sg rfl (sgh [(0,.all)] rfl (sk 1 rfl (kc hc ?_)));refine kz 1 rfl (AWp.sub (st2:=mk [(0,tkP),(1,I .i64 (deep:Nat)),(6,I .i64 (v:Nat))] [(750,tkO l (i+1))]) sl ?_);exact aA (aA (agF 3 [] rfl rfl rfl (aB rfl (fun hb=>by simp at hb;omega) (fun _=>aF (AWp.sub sl h)))))
  by_cases h10:v<10
  ·refine⟨[67,32,40]++s1++[41,32,40]++s2++[41],j2,⟨by simp only[ψ,κ,length_nil];omega,(((((LQ.of rfl).appD q.2).app ⟨_,_,rfl,rfl⟩ (LQ.of rfl)).appD y.2).app ⟨_,_,rfl,rfl⟩ (LQ.of rfl)).d⟩,ab,pre _ _ ?_⟩;have d10:decide ((v:Int)<10)=true:=χ (by omega);refine aA (sg rfl (aB rfl (fun _=>aA (aC mixed (akN 3 [] rfl (kc u ?_)))) (fun hb=>Bool.noConfusion (hb.symm.trans d10))));refine akN 5 [] rfl (kc ac ?_);exact kz 3 rfl (aD rtT)
  have d10:decide ((v:Int)<10)=false:=φ (by omega);by_cases h12:v<12
  ·refine⟨[89,101,115,32,40]++s1++[41],E,⟨by simp only[ψ,κ,length_nil];omega,(((LQ.of rfl).appD q.2).app ⟨_,_,rfl,rfl⟩ (LQ.of rfl)).d⟩,r,pre _ _ ?_⟩;have d12:decide ((v:Int)<12)=true:=χ (by omega);refine aA (sg rfl (aB rfl (fun hb=>Bool.noConfusion (hb.symm.trans d10)) (fun _=>aF (aA (sg rfl (aB rfl (fun _=>aA (aC mixed (akN 3 [] rfl (kc u ?_)))) (fun hb=>Bool.noConfusion (hb.symm.trans d12))))))));exact kz 3 rfl (aD rtT)
  have d12:decide ((v:Int)<12)=false:=φ (by omega);refine⟨[80,32,40]++s1++[41,32,121],E,⟨by simp only[ψ,κ,length_nil];omega,((LQ.of rfl).appD q.2).appD ⟨_,_,rfl,rfl⟩ (LD.of rfl)⟩,r,pre _ _ ?_⟩;refine aA (sg rfl (aB rfl (fun hb=>Bool.noConfusion (hb.symm.trans d10)) (fun _=>aF (aA (sg rfl (aB rfl (fun hb=>Bool.noConfusion (hb.symm.trans d12)) (fun _=>aF (aA (aC mixed (akN 3 [] rfl (kc u ?_)))))))))));exact kz 3 rfl (aD rtT)
end Go.Proofs.YtkhgpgihmphfdaaGreatDoor
namespace Go.Proofs.YtkhgpgihmphfdaaGreatDoor
open Go
section
set_option maxRecDepth 100000
set_option maxHeartbeats 4000000
def tF (e p:Int):Value:=.iface 163 (.agg #[.int .i64 e,.int .i64 p])
theorem wE (e p:Int) (w:World):Calls Tryz.prog 149 #[.int .i64 e,.int .i64 p] w fun q w'=>q=.panicked [{ v:=tF e p,recovered:=false }]∧w=w':=by
 go_enter Tryz.func149,Tryz.ntmps149
 go_wp2
 all_goals exact⟨rfl,⟨rfl,rfl⟩⟩
end
open Go.AM
theorem aMb (e p:Int):aDr Tryz.prog 149 [I .i64 e,I .i64 p] [] (tF e p):=by
 intro S μ w vals u r;have q:vals=[.int .i64 e,.int .i64 p]:=by
  simp only[aY] at r;obtain⟨v,vs,rfl,h1,v2,y,rfl,h2,rfl⟩:=r;simp only[aL,aV,Rep] at h1 h2;subst h1 h2;rfl
 subst q;refine(wE e p w).mono fun A w' ⟨h1,h2⟩=>?_
 subst h2;exact⟨S,μ,[],h1,fun id o ho=>(by cases ho),u⟩
theorem bF (e p:Int):bI Tryz.prog 111 [B true,I .i64 e,I .i64 p] [] (.tup []) []:=by
 refine bM (n:=11) tok Tryz.func111 rfl rfl rfl ?_;exact sg rfl (aB rfl (fun hb=>Bool.noConfusion hb) (fun _=>aF rtN))
theorem bH (e p:Int):aDr Tryz.prog 111 [B false,I .i64 e,I .i64 p] [] (tF e p):=by
 have q:=aMb e p;refine aQn (n:=11) Tryz.func111 rfl rfl rfl rfl ?_;exact sg rfl (aB rfl (fun _=>aC mixed (ak 2 [] rfl (kp q))) (fun hb=>Bool.noConfusion hb))
def rP:V:=.one (.vp 600 0)
def rO (L:List Tk) (z:Z):AObj:=.var 168 [.c (.sl 4 (L.map aK)),.c (.int .i64 ((L.length-z.R.length:Nat):Int))]
def gD (L:List Tk) (res:V) (z:Z) (hs:List (Nat×AObj)):Except Value (V×List (Nat×AObj)):=if z.e=0 then .ok (res,(600,rO L z)::hs) else .error (tF z.e z.p)
theorem b4 {L:List Tk}{res:V}{z:Z}{hs:List (Nat×AObj)}(h:z.e=0):gD L res z hs=.ok (res,(600,rO L z)::hs):=ξ h
theorem aG {L:List Tk}{res:V}{z:Z}{hs:List (Nat×AObj)}(h:¬z.e=0):gD L res z hs=.error (tF z.e z.p):=ζ h
theorem b8.ok {P:Program}{f:FuncId}{args:List V}{hin:List (Nat×AObj)}{L:List Tk}{res:V}{z:Z}{hs:List (Nat×AObj)}(h:b8 P f args hin (gD L res z hs)) (he:z.e=0):bI P f args hin res ((600,rO L z)::hs):=by rw[b4 he] at h;exact h
theorem b8.err {P:Program}{f:FuncId}{args:List V}{hin:List (Nat×AObj)}{L:List Tk}{res:V}{z:Z}{hs:List (Nat×AObj)}(h:b8 P f args hin (gD L res z hs)) (he:¬z.e=0):aDr P f args hin (tF z.e z.p):=by rw[aG he] at h;exact h
theorem dZ {L:List Tk}{z:Z}(h:ZA L z):bI Tryz.prog 112 [rP] [(600,rO L z)] (tkV (bA z)) [(600,rO L z)]:=by
 have hl:=b9 aK h.now;have q:(L.map aK).length=L.length:=η _;have r:=h.lt;have u:=h.l;refine bM (n:=13) tok Tryz.func112 rfl rfl rfl ?_;exact sg rfl (sgh [(8,.row (L.length-z.R.length) (aK (bA z)))] rfl (aD (rtC trw)))
theorem mD {L:List Tk}{z:Z}(h:ZA L z) (s:Str):bI Tryz.prog 150 [rP,Go.AM.T s] [(600,rO L z)] (B (isZ s z)) [(600,rO L z)]:=by
 have hn:=dZ h;unfold isZ;generalize bA z=t at hn ⊢;unfold isK;refine bM (n:=24) tok Tryz.func150 rfl rfl rfl ?_;refine sg rfl (sk 3 rfl (kc hn ?_));refine kz 2 rfl ?_;by_cases q:t.kind=4
 ·have d4:decide (t.kind=4)=true:=χ q;rw[d4,Bool.true_or,Bool.true_and];exact sgh [(3,.bv true),(7,.bv true),(8,.bv true),(13,.bv true)] rfl (aD rtT)
 have d4:decide (t.kind=4)=false:=φ q;rw[d4,Bh];by_cases r:t.kind=5
 ·have d5:decide (t.kind=5)=true:=χ r;rw[d5,Bool.true_and];exact sgh [(3,.bv false),(7,.bv false),(8,.bv true),(13,.bv true)] rfl (aD rtT)
 ·have d5:decide (t.kind=5)=false:=φ r;rw[d5,Bool.false_and];exact sgh [(3,.bv false),(7,.bv false),(8,.bv false),(13,.bv false)] rfl (aD rtT)
theorem fD {L:List Tk}{z:Z}(h:ZA L z) (he:z.e=0) (s:Str):bI Tryz.prog 116 [rP,Go.AM.T s] [(600,rO L z)] (B (bX s z).1) [(600,rO L (bX s z).2)]:=by
 have hi:=mD h s;have q:= @lM s (bA z);have y:=h.l;refine bM (n:=20) tok Tryz.func116 rfl rfl rfl ?_;refine sg rfl (sk 2 rfl (kc hi ?_));refine kz 1 rfl (aA (sg rfl ?_));unfold bX;cases u:isZ s z with
 | false=>
  rw[ζ (fun h=>by cases h.2)];exact aB rfl (fun hb=>Bool.noConfusion hb) (fun _=>aF (sg rfl (aD rtT)))
 | true=>
  rw[ξ ⟨he,rfl⟩];have r:isK s (bA z)=true:=u;obtain⟨_,hn⟩:=h.tl (q r) z.e z.p;unfold rO;dsimp only;rw[hn];exact aB rfl (fun _=>agN [] rfl (sg rfl (aD rtT))) (fun hb=>Bool.noConfusion hb)
theorem cZ {L:List Tk}{z:Z}(h:ZA L z) (he:z.e=0) (s:Str):b8 Tryz.prog 154 [rP,Go.AM.T s] [(600,rO L z)] (gD L (.tup []) (aN s z) []):=by
 have hm:=fD h he s;have r:= @oZ s z;have h1:=h.may s;have u:=iE s z;have hn:=dZ h1;have y:aN s z=if(bX s z).1=true then(bX s z).2 else bN 12 (bA z).pl z:=rfl
 rw[y];generalize bX s z=m at hm r h1 hn u ⊢;obtain⟨b,q⟩:=m;dsimp only at hm r h1 hn u ⊢;cases b with
 | true=>
  have A:=bF 12 (bA q).pl;rw[ξ rfl,b4 (u.trans he)];refine bM (n:=13) tok Tryz.func154 rfl rfl rfl ?_;refine aC mixed (ak 2 [] rfl (kc hm ?_));refine ak 3 [] rfl (kc hn ?_);refine ak 1 [] rfl (kc A ?_);exact az rtN
 | false=>
  obtain rfl:=r rfl;have B:=bH 12 (bA q).pl;have E:bN 12 (bA q).pl q=⟨q.R,12,(bA q).pl⟩:=ξ he;rw[ζ π,E,aG (show ¬(12:Int)=0 by decide)];refine aQn (n:=13) Tryz.func154 rfl rfl rfl rfl ?_;refine aC mixed (ak 2 [] rfl (kc hm ?_));refine ak 3 [] rfl (kc hn ?_);refine ak 1 [] rfl (kpD (.tup []) [] B ?_);exact az trivial
end Go.Proofs.YtkhgpgihmphfdaaGreatDoor
namespace Go.Proofs.YtkhgpgihmphfdaaGreatDoor
open Go Go.AM
set_option maxRecDepth 20000
set_option maxHeartbeats 4000000
theorem i6 {L:List Tk}{z:Z}(h:ZA L z) (he:z.e=0) (k:Int) (A:¬k=6):b8 Tryz.prog 151 [rP,I .i64 k] [(600,rO L z)] (gD L (tkV (aO k z).1) (aO k z).2 []):=by
 have hn:=dZ h;have r:=h.tl;have B:=h.l;unfold aO;by_cases q:(bA z).kind=k
 ·have d:decide ((bA z).kind=k)=true:=χ q;have hm:=bF 12 (bA z).pl;rw[ξ ⟨he,q⟩];dsimp only;rw[b4 (show(Z.mk z.R.tail z.e z.p).e=0 from he)];obtain⟨_,u⟩:=r (by rw[q];exact A) z.e z.p;unfold rO;dsimp only;rw[u];refine bM (n:=27) tok Tryz.func151 rfl rfl rfl ?_;refine sg rfl (sk 3 rfl (kc hn ?_));refine kz 2 rfl (sk 6 rfl ?_);rw[d];refine kc hm ?_;exact az (aA (agN [] rfl (sg rfl (aD (rtC trw)))))
 ·have d:decide ((bA z).kind=k)=false:=φ q;have hm:=bH 12 (bA z).pl;have y:bN 12 (bA z).pl z=⟨z.R,12,(bA z).pl⟩:=ξ he;rw[ζ (fun h=>q h.2),y];dsimp only;rw[aG (show ¬(12:Int)=0 by decide)];refine aQn (n:=27) Tryz.func151 rfl rfl rfl rfl ?_;refine sg rfl (sk 3 rfl (kc hn ?_));refine kz 2 rfl (sk 6 rfl ?_);rw[d];exact kp hm
theorem nI {L:List Tk}{z:Z}(h:ZA L z) (he:z.e=0):bI Tryz.prog 152 [rP] [(600,rO L z)] (.one (.c (.sl 4 ((aU z).1.map aK)))) [(600,rO L (aU z).2)]:=by
 refine bM (n:=16) tok Tryz.func152 rfl rfl rfl ?_;refine sg rfl (sg rfl (AWp.sub (Sub.own (t:=3) (id:=500) 62 4 rfl rfl) ?_));refine aA (aE (aP (fun q:List Tk×Z=>mk [(0,rP),(3,.one (.hs 500 0 q.1.length q.1.length))] [(600,rO L q.2),(500,.arr 62 4 (q.1.map aK) 0)]) (fun q=>ZA L q.2∧q.2.e=0∧q.1.length+q.2.R.length≤4001∧q.1++(aU q.2).1=(aU z).1∧(aU q.2).2=(aU z).2) (fun q=>q.2.R.length) ([],z) ⟨h,he,by dsimp only;have:=h.len;rw[length_nil];omega,rfl,rfl⟩ sl ?_));clear he;rintro⟨out,O⟩ ⟨r,he,hlen,E,I⟩;dsimp only at r he hlen E I ⊢;rw[←E,←I];clear E I;have hout:(out.map aK).length=out.length:=η _;have hn:=dZ r;have hw:=i6 r he 1 (by decide);obtain⟨R,e,p⟩:=O;obtain⟨t,R,rfl⟩:=r.e.ne;have he:e=0:=he;have B:bA (Z.mk (t::R) e p)=t:=rfl;rw[B] at hn;refine aA (sk 3 rfl (kc hn ?_));refine kz 2 rfl (aB rfl (fun hb=>?_) (fun hb=>?_))
 ·have u:t.kind=1:=ω hb;have hl:rV t=true:=hb;have U:aO 1 (Z.mk (t::R) e p)=(t,⟨R,e,p⟩):=by unfold aO;rw[ξ ⟨he,u⟩];rfl
  rw[U] at hw;have hw:=b8.ok (z:=⟨R,e,p⟩) hw he;have h2:ZA L ⟨R,e,p⟩:=(r.tl (by rw[B,u];decide) e p).1
  have J:aU ⟨t::R,e,p⟩=(t::(aU ⟨R,e,p⟩).1,(aU ⟨R,e,p⟩).2):=by
   unfold aU;rw[ξ he,ξ he];show((t::R).takeWhile rV,Z.mk ((t::R).dropWhile rV) _ _)=_;rw[List.takeWhile_cons,ξ hl,Ck,ξ hl]
  have M:out.length+(R.length+1)≤4001:=hlen;refine aF (aE (aC mixed (ak 2 [] rfl (kc hw ?_))));refine ak 3 [(3,.all)] rfl (az ?_);have A:out.map aK++[aK t]=(out++[t]).map aK:=by rw[Ah];rfl
  have y:(out++[t]).length=out.length+1:=by rw[ψ];rfl
  refine⟨(out++[t],⟨R,e,p⟩),⟨h2,he,by dsimp only;rw[y];omega,by rw[J];simp,by rw[J]⟩,lt_succ_self _,?_⟩;exact sl (he:=⟨rfl,Go.AM.hs_ren (by rw[y,←hout];rfl) (by rw[y,←hout];rfl),trivial⟩) (hh:=⟨⟨_,rfl,.var rfl⟩,⟨_,rfl,.arrS A⟩,trivial⟩)
 ·have u:¬rV t=true:=fun h=>by rw[show rV t=false from hb] at h;cases h
  refine aS (AWp.sub (Sub.freeze (id:=500) rfl) ?_);refine sg rfl ?_;unfold aU;rw[ξ he];dsimp only;rw[List.takeWhile_cons,ζ u,Bm,Ck,ζ u];exact aD (rtH (hsz:=hout.symm) (hlen:=hout.symm))
theorem uT (l:List Tk) (hl:l.length≤4001):bI Tryz.prog 153 [.one (.c (.sl 4 (l.map aK)))] [] (eG (l.map (·.text))) []:=by
 have r:(l.map aK).length=l.length:=η _;refine bM (n:=19) tok Tryz.func153 rfl rfl rfl ?_;refine sg rfl (sg rfl (AWp.sub (Sub.own (t:=3) (id:=500) 9 1 rfl rfl) ?_));refine aA (sg rfl (aE (aP (fun i:Nat=>mk [(3,.one (.hs 500 0 i i)),(6,.one (.c (.sl 4 (l.map aK)))),(7,I .i64 ((l.map aK).length:Nat)),(8,I .i64 (i:Nat))] [(500,.arr 9 1 (((l.take i).map (·.text)).map aR) 0)]) (fun i=>i≤l.length) (fun i=>l.length-i) 0 (Ae _) sl ?_)));intro i hi;have q:(((l.take i).map (·.text)).map aR).length=i:=by rw[η,η,Ak];omega
 refine sg rfl (aA (aB rfl (fun hb=>?_) (fun hb=>?_)))
 ·have u:=ltD hb r;obtain⟨t,ht⟩:=aJ u;have B:=b9 aK ht;have y:((l.take (i+1)).map (·.text)).map aR=((l.take i).map (·.text)).map aR++[[.str t.text]]:=by rw[Bw,ht,Ah,Ah];rfl
  exact aF (aA (aE (sgh [(0,.row i (aK t))] rfl (ag [(3,.all)] rfl (agN [] rfl ⟨i+1,u,by dsimp only;omega,sl (he:=⟨Go.AM.hs_ren (congrArg (· +1) q) (congrArg (· +1) q),rfl,rfl,rfl,trivial⟩) (hh:=⟨⟨_,rfl,.arrS y.symm⟩,trivial⟩)⟩)))))
 ·have A:=geD hb r hi;subst A;rw[Aw] at q ⊢;refine aS (AWp.sub (Sub.freeze (id:=500) rfl) ?_);exact sg rfl (aD (rtH (hsz:=q.symm) (hlen:=q.symm)))
theorem aMn {L:List Tk}{z:Z}(h:ZA L z) (he:z.e=0) (hZ:pG L):b8 Tryz.prog 156 [rP] [(600,rO L z)] (gD L (tyV (dW z).1) (dW z).2 []):=by
 have q:=aMm L hZ z.R _ h;have r:=gE (3*z.R.length) 0 z.R;unfold dW;generalize cD (3*z.R.length) 0 z.R=w at q r ⊢;cases w with
 | error e=>
  obtain⟨e,p⟩:=e;have u:=r e p rfl;have hm:=bH e p;have d:decide (e=0)=false:=φ u;unfold tpV atV at q;dsimp only[atZ];rw[aG (show ¬(Z.mk z.R e p).e=0 from u)];refine aQn (n:=35) Tryz.func156 rfl rfl rfl rfl ?_;refine sg rfl (sk 10 rfl (kc q ?_));refine kz 9 rfl (sk 7 rfl ?_);rw[d];exact kp hm
 | ok y=>
  obtain⟨x,R'⟩:=y;have hm:=bF 0 0;rw[k9] at q;unfold atV at q;dsimp only[atZ];rw[b4 (show(Z.mk R' z.e z.p).e=0 from he)];refine bM (n:=35) tok Tryz.func156 rfl rfl rfl ?_;refine sg rfl (sk 10 rfl (kc q ?_));refine kz 9 rfl (sk 7 rfl (kc hm ?_));exact az (sg rfl (sg rfl (aD (rtC trw))))
theorem xU {L:List Tk}{z:Z}(h:ZA L z) (he:z.e=0) (hZ:pG L):b8 Tryz.prog 157 [rP] [(600,rO L z)] (gD L (.one (.c (.sl 5 ((bE z).1.map aQ)))) (bE z).2 []):=by
 have q:=uW L hZ z.R _ h;have r:= @iY z.R;unfold bE;rw[ξ he];generalize cH z.R=w at q r ⊢;cases w with
 | error e=>
  obtain⟨e,p⟩:=e;have u:=r rfl;have hm:=bH e p;have d:decide (e=0)=false:=φ u;unfold aSo atV at q;dsimp only[aXv];rw[aG (show ¬(Z.mk z.R e p).e=0 from u)];refine aQn (n:=35) Tryz.func157 rfl rfl rfl rfl ?_;refine sg rfl (sk 10 rfl (kc q ?_));refine kz 8 rfl (sk 7 rfl ?_);rw[d];exact kp hm
 | ok y=>
  obtain⟨x,R'⟩:=y;have hm:=bF 0 0;rw[o8] at q;unfold atV at q;dsimp only[aXv];rw[b4 (show(Z.mk R' z.e z.p).e=0 from he)];refine bM (n:=35) tok Tryz.func157 rfl rfl rfl ?_;refine sg rfl (sk 10 rfl (kc q ?_));refine kz 8 rfl (sk 7 rfl (kc hm ?_));exact az (sg rfl (sg rfl (aD rtT)))
theorem lP {L:List Tk}{z:Z}(h:ZA L z) (he:z.e=0) (hZ:pG L) (hwt:wt L≤30000):b8 Tryz.prog 160 [rP] [(600,rO L z)] (gD L (.pa (nE (bK z).1)) (bK z).2 []):=by
 have q:=aJd L hZ z.R _ h hwt;have r:= @qO z.R;unfold bK;rw[ξ he];generalize cG z.R=w at q r ⊢;cases w with
 | error e=>
  obtain⟨e,p⟩:=e;have u:=r rfl;have hm:=bH e p;have d:decide (e=0)=false:=φ u;unfold spV atV at q;dsimp only[aTc];rw[aG (show ¬(Z.mk z.R e p).e=0 from u)];refine aQn (n:=35) Tryz.func160 rfl rfl rfl rfl ?_;refine sg rfl (sk 10 rfl (kc q ?_));refine kz 9 rfl (sk 7 rfl ?_);rw[d];exact kp hm
 | ok y=>
  obtain⟨x,R'⟩:=y;have hm:=bF 0 0;rw[aNj] at q;unfold atV at q;dsimp only[aTc];rw[b4 (show(Z.mk R' z.e z.p).e=0 from he)];refine bM (n:=35) tok Tryz.func160 rfl rfl rfl ?_;refine sg rfl (sk 10 rfl (kc q ?_));refine kz 9 rfl (sk 7 rfl (kc hm ?_));exact az (sg rfl (sg rfl (aD (rtC trw))))
theorem aJc {L:List Tk}{z:Z}(h:ZA L z):bI Tryz.prog 155 [rP] [(600,rO L z)] (B (aOn z)) [(600,rO L z)]:=by
 have hn:=dZ h;have hi:=mD h cW;unfold aOn;refine bM (n:=19) tok Tryz.func155 rfl rfl rfl ?_;refine sg rfl (sk 3 rfl (kc hn ?_));refine kz 2 rfl ?_;by_cases h1:(bA z).kind=1
 ·have d1:decide ((bA z).kind=1)=true:=χ h1;rw[d1,Bool.true_or];exact sgh [(2,.bv true),(5,.bv true),(6,.bv true),(9,.bv true)] rfl (aD rtT)
 have d1:decide ((bA z).kind=1)=false:=φ h1;rw[d1,Bh];by_cases h2:(bA z).kind=2
 ·have d2:decide ((bA z).kind=2)=true:=χ h2;rw[d2,Bool.true_or];exact sgh [(2,.bv false),(5,.bv false),(6,.bv true),(9,.bv true)] rfl (aD rtT)
 ·have d2:decide ((bA z).kind=2)=false:=φ h2;rw[d2,Bh];refine skh 8 [(2,.bv false),(5,.bv false),(6,.bv false)] rfl (kcG hi ?_);exact ak 2 [(6,.bv false),(9,.bv false)] rfl (az (aD rtT))
section
variable {z:Z}(h:¬z.e=0)
include h
theorem lD {s:Str}:bX s z=(false,z):=ζ fun k=>h k.1
theorem lR {k:Int}:(aO k z).2=z:=by
 unfold aO;rw[ζ (fun k=>h k.1)];exact iO h
theorem lC:aU z=([],z):=ζ h
theorem eF {n m:Nat}{a:Int}:cB n m a z=z:=by
 unfold cB;split
 ·exact iO h
 ·rfl
theorem tD:bK z=(mT,z):=ζ h
theorem tE {f:Nat}{out:List Ty}:bQ f out z=(out,z):=pB fun k=>h k.1
theorem aJi {s:Str}{n:Nat}:moreA s n z=z:=ζ fun k=>h k.2.1
theorem lS:cV z=z:=ζ h
theorem aMt {s:Str}{n:Nat}:bB s n z=(false,z):=by
 unfold bB;rw[aJi h,lS h,ξ (.inl h)]
end
theorem fT {n m:Nat}{a:Int}{z:Z}(h:n≤m):cB n m a z=z:=ζ (by omega)
theorem fU {n m:Nat}{a:Int}{z:Z}(h:¬n≤m) (he:z.e=0):cB n m a z=⟨z.R,2,a⟩:=(ξ (by omega)).trans (ξ he)
theorem cK:¬(2:Int)=0:=by decide
theorem y3 {W:List Cn×Z}{f:Nat}{a a2:Int}{out:List Cn}{fs:List Ty}{z:Z}{m:Nat}(h:¬z.e=0)
  (q:W=if(bX vL (cB m 16 a (cB fs.length 8 a2 z))).1=true then fO f a out (bX vL (cB m 16 a (cB fs.length 8 a2 z))).2 else(out,(bX vL (cB m 16 a (cB fs.length 8 a2 z))).2)):W.2=z:=by
 rw[eF h,eF h,lD h,ζ π] at q;rw[q]
def aZo:List (Nat×V):=[(0,rP),(2,.one (.vp 2 0)),(3,.one (.vp 3 0)),(5,.one (.vp 5 0)),(7,.one (.vp 7 0)),(8,.one (.vp 8 0))]
def aZn (L:List Tk) (z:Z) (nm:Tk) (vs:List Tk) (out:List Cn) (cn:Tk) (fs:List Ty):List (Nat×AObj):=[(600,rO L z),(2,.var 81 [.c (.str []),.c (.int .i64 0),.c .nl,.c .nl,.c .nl]),(3,.var 62 ((aK nm).map .c)),(5,.var 81 [.c (.str nm.text),.c (.int .i64 nm.pl),.c (.sl 1 ((vs.map (·.text)).map aR)),.c .nl,.hs 502 0 out.length out.length]),(7,.var 62 ((aK cn).map .c)),(8,.var 95 [.c (.str cn.text),.c (.int .i64 cn.pl),.hs 501 0 fs.length fs.length]),(501,.arr 43 4 (fs.map bG) 0),(502,.arr 95 3 (out.map mO) 0)]
theorem aRr {L:List Tk}{z:Z}(h:ZA L z) (he:z.e=0) (hZ:pG L):b8 Tryz.prog 117 [rP] [(600,rO L z)] (gD L (.pa (iG (jE z).1)) (jE z).2 []):=by
 have hw:=i6 h he 2 (by decide);have h1:=h.word (k:=2) (by decide);unfold jE dD;generalize aO 2 z=x1 at hw h1 ⊢;obtain⟨y,A⟩:=x1;dsimp only at hw h1 ⊢;refine nC (n:=68) tok Tryz.func117 rfl rfl rfl rfl ?_;refine sg rfl ?_;by_cases u:A.e=0
 case neg=>
  have hp:=b8.err hw u;have hb:(fN (y,(aU A).1,aN eqS (cB (aU A).1.length 8 y.pl (aU A).2))).2=A:=by
   rw[lC u,eF u,bD u];unfold fN;dsimp only;rw[ζ u]
  rw[hb,aG u];exact sk 1 rfl (kp hp)
 have hw:=b8.ok hw u;have ab:=nI h1 u;have h2:=h1.words;have aa:(aU A).2.e=0:=by unfold aU;rw[ξ u];exact u
 have ad:=fE h1;generalize aU A=x2 at ab h2 ad aa ⊢;obtain⟨vs,z2⟩:=x2;dsimp only at ab h2 ad aa ⊢;have hvk:(vs.map aK).length=vs.length:=η _;refine sk 1 rfl (kc hw ?_);refine kz 2 rfl (sk 1 rfl (kc ab ?_));refine kz 1 rfl ?_;by_cases hv8:vs.length≤8
 case neg=>
  have d:decide (((vs.length:Nat):Int)≤8)=false:=φ (by omega);have hb:(fN (y,vs,aN eqS (cB vs.length 8 y.pl z2))).2=⟨z2.R,2,y.pl⟩:=by
   rw[fU hv8 aa,bD cK];unfold fN;dsimp only;rw[ζ cK]
  rw[hb,aG cK];have hm:=bH 2 y.pl;refine sk 5 rfl ?_;rw[hvk,d];exact kp hm
 have d:decide (((vs.length:Nat):Int)≤8)=true:=χ (by omega);have hm:=bF 2 y.pl;rw[fT hv8];refine sk 5 rfl ?_;rw[hvk,d];refine kc hm ?_;refine az ?_;have htx:=uT vs ad;refine sk 5 rfl (kc htx ?_);refine kz 3 rfl ?_;have Y:=cZ h2 aa eqS;have h4:=h2.need eqS;generalize aN eqS z2=z4 at Y h4 ⊢;by_cases M:z4.e=0
 case neg=>
  have hp:=b8.err Y M;have hb:(fN (y,vs,z4)).2=z4:=by unfold fN;dsimp only;rw[ζ M]
  rw[hb,aG M];exact sk 1 rfl (kp hp)
 have Y:=b8.ok Y M;refine sk 1 rfl (kc Y ?_);refine az (aA (sg rfl (AWp.sub (Sub.ownCell (x:=5) (k:=4) (id:=502) 95 3 rfl rfl rfl) ?_)));have hWx:∃W,W=fN (y,vs,z4):=⟨_,rfl⟩
 obtain⟨W,r⟩:=hWx;rw[←r];have hlen4:=h4.len;have r:W=fO (z4.R.length+1) y.pl [] z4:=by rw[r];exact ξ M
 refine aE (aP (fun q:Bool×List Cn×Z×Nat=>mk [(0,rP),(2,.one (.vp 2 0)),(3,.one (.vp 3 0)),(5,.one (.vp 5 0)),(6,B q.1)] [(600,rO L q.2.2.1),(2,.var 81 [.c (.str []),.c (.int .i64 0),.c .nl,.c .nl,.c .nl]),(3,.var 62 ((aK y).map .c)),(5,.var 81 [.c (.str y.text),.c (.int .i64 y.pl),.c (.sl 1 ((vs.map (·.text)).map aR)),.c .nl,.hs 502 0 q.2.1.length q.2.1.length]),(502,.arr 95 3 (q.2.1.map mO) 0)]) (fun q=>ZA L q.2.2.1∧q.2.2.1.e=0∧((q.1=true∧W=fO q.2.2.2 y.pl q.2.1 q.2.2.1∧q.2.2.1.R.length<q.2.2.2∧q.2.1.length+q.2.2.1.R.length≤4001)∨(q.1=false∧W=(q.2.1,q.2.2.1)))) (fun q=>if q.1=true then q.2.2.1.R.length+1 else 0) (true,[],z4,z4.R.length+1) ⟨h4,M,.inl ⟨rfl,r,by dsimp only;omega,by dsimp only;rw[length_nil];omega⟩⟩ sl ?_);clear r hw h1 ab h2 htx h4 M aa u Y hm h he hlen4;rintro⟨more,out,z0,f⟩ ⟨h,he,hinv⟩;dsimp only at h he hinv ⊢;have hout:(out.map mO).length=out.length:=η _;refine aA (sg rfl ?_);rcases hinv with⟨hm,r,hf,hol⟩ | ⟨hm,r⟩
 case inr=>
  subst hm;refine aB rfl (fun hb=>absurd hb (by decide)) (fun _=>aS (AWp.sub (Sub.freeze (id:=502) rfl) ?_));refine sg rfl ?_;rw[r,b4 he];exact aD (rtC trw)
 subst hm;obtain⟨f,rfl⟩:∃g,f=g+1:=⟨f-1,by omega⟩
 rw[fO] at r;unfold jF at r;have hw:=i6 h he 2 (by decide);have h1:=h.word (k:=2) (by decide);have l1:=Ze.word 2 z0;generalize aO 2 z0=x1 at hw h1 l1 r;obtain⟨E,A⟩:=x1;dsimp only at hw h1 l1 r;refine aB rfl (fun _=>aF ?_) (fun hb=>absurd hb (by decide));by_cases u:A.e=0
 case neg=>
  have hp:=b8.err hw u;rw[tE u] at r;rw[y3 u r,aG u];exact aA (aE (sk 1 rfl (kp hp)))
 have hw:=b8.ok hw u;refine aA (aE (sk 1 rfl (kc hw ?_)));refine kz 2 rfl (sg rfl (AWp.sub (Sub.ownCell (x:=8) (k:=2) (id:=501) 43 4 rfl rfl rfl) ?_));have hlen1:=h1.len;have hFx:∃F,F=bQ (A.R.length+1) [] A:=⟨_,rfl⟩
 obtain⟨F,I⟩:=hFx;rw[←I] at r;refine aA (aE (aP (fun q:List Ty×Z×Nat=>mk aZo (aZn L q.2.1 y vs out E q.1)) (fun q=>ZA L q.2.1∧q.2.1.e=0∧F=bQ q.2.2 q.1 q.2.1∧q.2.1.R.length<q.2.2∧q.1.length+q.2.1.R.length≤4001∧q.2.1.R.length≤A.R.length) (fun q=>q.2.1.R.length+1) ([],A,A.R.length+1) ⟨h1,u,I,by dsimp only;omega,by dsimp only;rw[length_nil];omega,le_refl _⟩ sl ?_));clear I hw h1 hlen1 u h he;rintro⟨fs,z,g⟩ ⟨h,he,I,hg,hol2,hk4⟩;dsimp only at h he I hg hol2 hk4 ⊢;have ae:(fs.map bG).length=fs.length:=η _;have hbg:=aJc h;refine aA (sk 1 rfl (kc hbg ?_));refine az (aB rfl (fun hb=>?_) (fun hb=>?_))
 ·have ha:=aMn h he hZ;obtain⟨g1,g2,g3,g4,g5⟩:=aDk h;obtain⟨g,rfl⟩:∃k,g=k+1:=⟨g-1,by omega⟩
  rw[bQ,ξ ⟨he,hb⟩] at I;have hlp:=h.lp;generalize dW z=x at ha g1 g2 g3 g4 g5 I;obtain⟨x,z'⟩:=x;dsimp only at ha g1 g2 g3 g4 g5 I;refine aF ?_;by_cases U:z'.e=0
  case neg=>
   have hp:=b8.err ha U;rw[tE U] at I;rw[I] at r;rw[y3 U r,aG U];refine aE (aC mixed (ak 3 [] rfl (kpD (tyV zTy) [(600,rO L z)] hp ?_)));exact ak 4 [(1,.all)] rfl (az trivial)
  have ha:=b8.ok ha U;refine aE (aC mixed (ak 3 [] rfl (kc ha ?_)));refine ak 4 [(1,.all)] rfl (az ?_);have J:fs.map bG++[bG x]=(fs++[x]).map bG:=by rw[Ah];rfl
  have hle:(fs++[x]).length=fs.length+1:=by rw[ψ];rfl
  have g5':z'.R.length≤z.R.length:=g5;have hlt:=g4 U;refine⟨(fs++[x],z',g),⟨g1,U,I,by dsimp only;omega,by dsimp only;rw[hle];omega,by dsimp only;omega⟩,by dsimp only;omega,?_⟩;exact sl (he:=⟨rfl,rfl,rfl,rfl,rfl,rfl,trivial⟩) (hh:=⟨⟨_,rfl,.var rfl⟩,⟨_,rfl,.var rfl⟩,⟨_,rfl,.var rfl⟩,⟨_,rfl,.var rfl⟩,⟨_,rfl,.var rfl⟩,⟨_,rfl,.var (by rw[hle,←ae];rfl)⟩,⟨_,rfl,.arrS J⟩,⟨_,rfl,Go.AM.Ole.arr⟩,trivial⟩)
 ·have hb':¬(z.e=0∧aOn z=true):=fun hh=>by rw[hh.2] at hb;cases hb
  rw[pB hb'] at I;subst I;dsimp only at r;refine aS (AWp.sub (Sub.freeze (id:=501) rfl) ?_);refine AWp.sub (vp 8 [.str E.text,.int .i64 E.pl,.sl 4 (fs.map bG)] (hp:=.c .refl (.c .refl (.hs rfl ae.symm (Go.AM.take_all ae.symm) .nil)))) ?_;by_cases hf8:fs.length≤8
  case neg=>
   have d:decide ((((fs.map bG).length:Nat):Int)≤8)=false:=φ (by omega);rw[fU hf8 he,eF cK,lD cK,ζ π] at r;rw[r,aG cK];have hm:=bH 2 E.pl;refine sk 6 rfl ?_;rw[d];exact kp hm
  rw[fT hf8] at r;have d:decide ((((fs.map bG).length:Nat):Int)≤8)=true:=χ (by omega);have hm:=bF 2 E.pl;refine sk 6 rfl ?_;rw[d];refine kc hm ?_;refine az ?_;have J:out.map mO++[[.str E.text,.int .i64 E.pl,.sl 4 (fs.map bG)]]=(out++[(⟨E.text,E.pl,fs⟩:Cn)]).map mO:=by rw[Ah];rfl
  have hle:(out++[(⟨E.text,E.pl,fs⟩:Cn)]).length=out.length+1:=by rw[ψ];rfl
  generalize hO:out++[(⟨E.text,E.pl,fs⟩:Cn)]=O at r J hle;refine sgh [(3,.all)] rfl (AWp.sub (st2:=mk [(0,rP),(2,.one (.vp 2 0)),(3,.one (.vp 3 0)),(5,.one (.vp 5 0))] [(600,rO L z),(2,.var 81 [.c (.str []),.c (.int .i64 0),.c .nl,.c .nl,.c .nl]),(3,.var 62 ((aK y).map .c)),(5,.var 81 [.c (.str y.text),.c (.int .i64 y.pl),.c (.sl 1 ((vs.map (·.text)).map aR)),.c .nl,.hs 502 0 O.length O.length]),(502,.arr 95 3 (O.map mO) 0)]) (sl (hh:=⟨⟨_,rfl,.var rfl⟩,⟨_,rfl,.var rfl⟩,⟨_,rfl,.var rfl⟩,⟨_,rfl,.var (by rw[hle,←hout];rfl)⟩,⟨_,rfl,.arrS J⟩,trivial⟩)) ?_);by_cases ho:O.length≤16
  case neg=>
   have d:decide (((O.length:Nat):Int)≤16)=false:=φ (by omega);rw[fU ho he,lD cK,ζ π] at r;rw[r,aG cK];have hm:=bH 2 y.pl;refine aC mixed (ak 6 [] rfl ?_);rw[d];exact kp hm
  rw[fT ho] at r;have d:decide (((O.length:Nat):Int)≤16)=true:=χ (by omega);have hm:=bF 2 y.pl;refine aC mixed (ak 6 [] rfl ?_);rw[d];refine kc hm ?_;refine az ?_;have hm:=fD h he vL;have h7:=h.may vL;have ac:=(iE vL z).trans he;have l7:=iK h (s:=vL);generalize bX vL z=m at hm h7 l7 r ac;obtain⟨b,z7⟩:=m;dsimp only at hm h7 l7 r ac;refine aC mixed (ak 1 [] rfl (kc hm ?_));refine kz 1 rfl ?_;have l1':A.R.length≤z0.R.length:=l1;cases b with
  | true=>
   rw[ξ rfl] at r;have:=l7 rfl;exact⟨(true,O,z7,f),⟨h7,ac,.inl ⟨rfl,r,by dsimp only;omega,by dsimp only;omega⟩⟩,by dsimp only;rw[ξ rfl,ξ rfl];omega,sl⟩
  | false=>
   rw[ζ (by decide)] at r;exact⟨(false,O,z7,f),⟨h7,ac,.inr ⟨rfl,r⟩⟩,by dsimp only;rw[ζ (by decide),ξ rfl];omega,sl⟩
def aNa (L:List Tk):Prop:=∀t∈L,¬t.kind=3→t.n=0
theorem aLm {c:UInt8}{r:Str}{k:Int}{t:Str}{v:Int}(h:fQ (c::r)=.ok (k,t,v)) (q:¬k=3):v=0:=by
 rw[fQ] at h;split at h
 ·split at h
  ·cases h
  ·cases h;exact absurd rfl q
 split at h
 ·unfold n8 at h;split at h
  ·cases h
  split at h
  ·cases h;rfl
  split at h
  ·cases h;rfl
  ·cases h;rfl
 split at h
 ·cases h
 ·cases h;rfl
theorem uD:∀(f a:Nat) (s:Str) (l:List Tk),jA f a s=.ok l→aNa l
 | 0,a,s,l,h=>by
  rw[jA] at h;cases h;intro t ht;rw[Ar.1 ht];exact fun _=>rfl
 | f+1,a,[],l,h=>by
  rw[jA] at h;cases h;intro t ht;rw[Ar.1 ht];exact fun _=>rfl
 | f+1,a,c::r,l,h=>by
  rw[jA] at h;split at h
  ·exact uD f _ _ l h
  ·cases ho:fQ (c::r) with
   | error e=>rw[ho] at h;cases h
   | ok y=>
    obtain⟨k,t,v⟩:=y;rw[ho] at h;dsimp only at h;cases q:jA f (a+t.length) ((c::r).drop t.length) with
    | error e=>rw[q,uR] at h;cases h
    | ok A=>
     rw[q,uR] at h;cases h;intro u hu;rcases Aq.1 hu with rfl | hu
     ·exact aLm ho
     ·exact uD f _ _ A q u hu
theorem ZA.mem {L:List Tk}{z:Z}(h:ZA L z):bA z∈L:=by
 obtain⟨R,e',q⟩:=z;obtain⟨t,R,rfl⟩:=h.e.ne;exact At.mem h
def aZa (z:Z):Pt:=.mk 0 (bA z).pl 0 (bA z).text []
def aKw (y:(Pt×Bool)×Z) (z:Z):Pt:=if y.1.2=true then y.1.1 else aZa z
def aKa (L:List Tk) (f:Nat):Prop:=∀(o:Nat) (z:Z),ZA L z→z.e=0→3*z.R.length≤f→o≤40→b8 Tryz.prog 234 [rP,I .i64 (o:Nat)] [(600,rO L z)] (gD L (.tup [.pa (cF (aKw (aZ f o z) z)),B (aZ f o z).1.2]) (aZ f o z).2 [])
def aSg (L:List Tk) (f:Nat):Prop:=∀(o:Nat) (z:Z),ZA L z→z.e=0→3*z.R.length+1≤f→o≤40→b8 Tryz.prog 230 [rP,I .i64 (o:Nat)] [(600,rO L z)] (gD L (.pa (cF (gJ f o z).1)) (gJ f o z).2 [])
theorem aLi {L:List Tk}{z:Z}(h:ZA L z) (r:¬(bA z).kind=6):rO L (tlZ z)=.var 168 [.c (.sl 4 (L.map aK)),.c (.int .i64 ((L.length-z.R.length+1:Nat):Int))]:=by
 obtain⟨_,q⟩:=h.tl r z.e z.p;unfold rO tlZ;dsimp only;rw[q]
theorem aI4 (L:List Tk) (hN:aNa L) (f:Nat) (ih:aSg L f):aKa L (f+1):=by
 intro o z h he hf ho40;rw[aZ,ζ (fun k=>k he)];have hn:=dZ h;have J:=hN _ h.mem;have u:=fun hk=>aLi h hk
 have hLl:=h.l;have hm:=mD h aFu;have hi:=mD h cW;have U:bX aFu z=if isZ aFu z=true then(true,tlZ z) else(false,z):=by
  unfold bX;by_cases hu:isZ aFu z=true
  ·rw[ξ ⟨he,hu⟩,ξ hu];rfl
  ·rw[ζ (fun k=>hu k.2),ζ hu]
 have Y:isZ aFu z=true→¬(bA z).kind=6:=lM;have aa:isZ cW z=true→¬(bA z).kind=6:=lM;have A:isZ cW z=true→aN cW z=tlZ z:=aP4 he;have h1:=h.need cW;have hle:(aN cW z).e=0∨isZ cW z=false:=by
  cases hb:isZ cW z with
  | true=>left;rw[A hb];exact he
  | false=>exact .inr rfl
 have htl:=vS h;have ab:aZa z=.mk 0 (bA z).pl 0 (bA z).text []:=rfl;refine nC (n:=77) tok Tryz.func234 rfl rfl rfl rfl ?_;refine sg rfl (sk 3 rfl (kc hn ?_));refine kz 2 rfl (sg rfl ?_);rw[U];generalize ht:bA z=t at J ab u Y aa ⊢;clear hn U;refine aA (aE (sg rfl ?_));by_cases M:t.kind=1
 ·have d:decide (t.kind=1)=true:=χ M;have B:¬t.kind=6:=by omega
  rw[ξ (show 0<t.kind∧t.kind<4 by omega)];unfold aKw;dsimp only;rw[ξ rfl,b4 (show(tlZ z).e=0 from he),u B,J (by omega)];unfold wH oT;rw[ξ M,ζ (by omega)];unfold rO;exact aB rfl (fun _=>ag [] rfl (aA (agN [] rfl (sg rfl (aD aGi))))) (fun hb=>absurd (hb.symm.trans d) Bool.noConfusion)
 refine aB rfl (fun hb=>absurd (ω hb) M) (fun _=>sg rfl ?_);by_cases O:t.kind=2
 ·have d:decide (t.kind=2)=true:=χ O;have B:¬t.kind=6:=by omega
  rw[ξ (show 0<t.kind∧t.kind<4 by omega)];unfold aKw;dsimp only;rw[ξ rfl,b4 (show(tlZ z).e=0 from he),u B,J (by omega)];unfold wH oT;rw[ζ M,ξ O,ζ (by omega)];unfold rO;exact aB rfl (fun _=>ag [] rfl (aA (agN [] rfl (sg rfl (aD aGi))))) (fun hb=>absurd (hb.symm.trans d) Bool.noConfusion)
 refine aB rfl (fun hb=>absurd (ω hb) O) (fun _=>sg rfl ?_);by_cases k3:t.kind=3
 ·have d:decide (t.kind=3)=true:=χ k3;have B:¬t.kind=6:=by omega
  rw[ξ (show 0<t.kind∧t.kind<4 by omega)];unfold aKw;dsimp only;rw[ξ rfl,b4 (show(tlZ z).e=0 from he),u B];unfold wH oT;rw[ζ M,ζ O,ξ k3];unfold rO;exact aB rfl (fun _=>ag [] rfl (aA (agN [] rfl (sg rfl (aD aGi))))) (fun hb=>absurd (hb.symm.trans d) Bool.noConfusion)
 refine aB rfl (fun hb=>absurd (ω hb) k3) (fun _=>?_);rw[ζ (show ¬(0<t.kind∧t.kind<4) by omega)];refine sk 1 rfl (kc hm ?_);refine kz 1 rfl ?_;cases hu:isZ aFu z with
 | true=>
  rw[ξ rfl,ξ rfl];unfold aKw;dsimp only;rw[ξ rfl,b4 (show(tlZ z).e=0 from he),u (Y hu)];unfold rO;exact aB rfl (fun _=>ag [] rfl (aA (agN [] rfl (sg rfl (aD aGi))))) (fun hb=>Bool.noConfusion hb)
 | false=>
 rw[ζ π];dsimp only;rw[ζ π];refine aB rfl (fun hb=>Bool.noConfusion hb) (fun _=>sk 1 rfl (kc hi ?_));refine kz 1 rfl ?_;cases hl:isZ cW z with
 | false=>
  rw[ξ rfl];unfold aKw;dsimp only;rw[ζ π,b4 he,ab];exact aB rfl (fun hb=>Bool.noConfusion hb) (fun _=>sg rfl (aD aGi))
 | true=>
 rw[ζ (by decide)];have A:=A hl;refine aB rfl (fun _=>?_) (fun hb=>Bool.noConfusion hb);by_cases ho:40≤o
 ·have d:decide (((o:Nat):Int)<40)=false:=φ (by omega);have hmn:=bH 13 t.pl;rw[ξ ho];unfold bN;rw[ξ he];dsimp only;rw[aG (show ¬(13:Int)=0 by decide)];refine sk 4 rfl ?_;rw[d];exact kp hmn
 have d:decide (((o:Nat):Int)<40)=true:=χ (by omega);have hmo:=bF 13 t.pl;rw[ζ ho];refine sk 4 rfl ?_;rw[d];refine kc hmo ?_;refine az ?_;rw[A];rw[A] at h1;have hp:=ih (o+1) (tlZ z) h1 he (by omega) (by omega);obtain⟨g1,_⟩:=(mI L f).2.1 (o+1) (tlZ z) h1;have ac:=u (aa hl);unfold rO at ac;unfold rO;refine aA (agN [] rfl ?_);unfold rO at hp;rw[ac] at hp;generalize gJ f (o+1) (tlZ z)=y at hp g1 ⊢;obtain⟨q,z2⟩:=y;dsimp only at hp g1 ⊢;unfold aKw;dsimp only;rw[ξ rfl];by_cases E:z2.e=0
 case neg=>
  have hp:=b8.err hp E;rw[bD E,aG E];exact aA (aC mixed (akN 3 [] rfl (kp hp)))
 have hp:=b8.ok hp E;refine aA (aC mixed (akN 3 [] rfl (kc hp ?_)));refine akN 1 [] rfl (az ?_);have r:=cZ g1 E oR;generalize aN oR z2=z3 at r ⊢;by_cases I:z3.e=0
 case neg=>
  have hp:=b8.err r I;rw[aG I];exact sk 1 rfl (kp hp)
 have r:=b8.ok r I;rw[b4 I];refine sk 1 rfl (kc r ?_);exact az (sg rfl (aD aGi))
theorem aMu {f o:Nat}{out:List Pt}{z:Z}(h:¬z.e=0):eA f o out z=(out,z):=by
 cases f with
 | zero=>rfl
 | succ f=>rw[eA,ζ h]
theorem aVn (L:List Tk) (hN:aNa L) (f:Nat) (ihS:∀g,g≤f→aKa L g):aSg L (f+1):=by
 intro o z h he hf E;have hn:=dZ h;have hnm:=hN _ h.mem;have hlp:=h.lp;rw[gJ];refine nC (n:=58) tok Tryz.func230 rfl rfl rfl rfl ?_;refine sg rfl (sk 3 rfl (kc hn ?_));refine kz 2 rfl (aA (sg rfl ?_));by_cases B:(bA z).kind=2
 ·obtain⟨f,rfl⟩:∃g,f=g+1:=⟨f-1,by omega⟩
  have J:aZ (f+1) o z=((.mk (wH (bA z)) (bA z).pl (bA z).n (oT (bA z)) [],true),tlZ z):=by
   rw[aZ,ζ (fun k=>k he),ξ (by omega)]
  rw[J,ζ (show ¬(true=false) from fun k=>Bool.noConfusion k),ξ ⟨B,he⟩];have h1:=h.tlp (by rw[B];decide);have hrt:=aLi h (by rw[B];decide);have htl:=vS h;have hlen:=h.len;have hLl:=h.l;have r:∃W,W=eA (f+1) o [] (tlZ z):=⟨_,rfl⟩
  obtain⟨W,r⟩:=r;rw[←r,hnm (by omega)];generalize bA z=t at hn B J hnm ⊢;have d:(!decide (t.kind=2))=false:=by rw[χ B];rfl
  refine aB rfl (fun hb=>absurd (hb.symm.trans d) Bool.noConfusion) (fun _=>aF ?_);unfold rO;refine aA (agN [] rfl ?_);rw[←hrt];refine sg rfl (AWp.sub (Sub.ownCell (x:=8) (k:=4) (id:=501) 51 10 rfl rfl rfl) ?_);refine aE (aP (fun q:List Pt×Z×Nat=>mk [(0,rP),(1,I .i64 (o:Nat)),(4,.one (.vp 4 0)),(8,.one (.vp 8 0))] [(600,rO L q.2.1),(4,.var 51 (aZi.map .c)),(8,.var 51 [.c (.int .i64 4),.c (.int .i64 t.pl),.c (.int .i64 0),.c (.str t.text),.hs 501 0 q.1.length q.1.length,.c (.int .i64 0),.c (.int .i64 0),.c (.str []),.c .nl,.c .nl]),(501,.arr 51 10 (q.1.map cF) 0)]) (fun q=>ZA L q.2.1∧q.2.1.e=0∧W=eA q.2.2 o q.1 q.2.1∧q.2.2≤f+1∧3*q.2.1.R.length+1≤q.2.2∧q.1.length+q.2.1.R.length≤4001) (fun q=>q.2.1.R.length+1) ([],tlZ z,f+1) ⟨h1,he,r,le_refl _,by dsimp only;omega,by dsimp only;rw[length_nil];omega⟩ sl ?_);clear r hn J htl h1 hrt hlp hlen he hf h;rintro⟨out,O,g⟩ ⟨U,M,r,hgf,hg,hol⟩;dsimp only at U M r hgf hg hol ⊢;have hout:(out.map cF).length=out.length:=η _;obtain⟨g,rfl⟩:∃k,g=k+1:=⟨g-1,by omega⟩
  rw[eA,ξ M] at r;have hs:=ihS g (by omega) o O U M (by omega) E;obtain⟨g1,_,g3,g4⟩:=(mI L g).1 o O U;have hlp:=U.lp;unfold aKw at hs;generalize aZ g o O=y at hs g1 g3 g4 r;obtain⟨⟨q,b⟩,z2⟩:=y;dsimp only at hs g1 g3 g4 r;by_cases u:z2.e=0
  case neg=>
   have hp:=b8.err hs u;have hb:W.2=z2:=by
    rw[aMu u] at r;rw[r];split<;>rfl
   rw[hb,aG u];exact aE (sk 2 rfl (kp hp))
  have hs:=b8.ok hs u;refine aE (sk 2 rfl (kc hs ?_));refine kz 6 rfl (aA (sg rfl ?_));cases b with
  | false=>
   rw[ξ rfl] at r;refine aB rfl (fun _=>AWp.sub (Sub.freeze (id:=501) rfl) ?_) (fun hb=>Bool.noConfusion hb);refine sg rfl ?_;rw[r];dsimp only;rw[b4 u];unfold cF;rw[qB (Pt.mk _ _ _ _ _)];exact aD (rtC trw (hc:=.agg (.c .refl (.c .refl (.c .refl (.c .refl (.hs rfl hout.symm (Go.AM.take_all hout.symm) (.c .refl (.c .refl (.c .refl (.c .nl (.c .nl .nil))))))))))))
  | true=>
   rw[ζ (show ¬(true=false) from fun k=>Bool.noConfusion k)] at r;have Y:out.map cF++[cF q]=(out++[q]).map cF:=by rw[Ah];rfl
   have hle:(out++[q]).length=out.length+1:=by rw[ψ];rfl
   have g4':z2.R.length≤O.R.length:=g4;have g3':=g3 rfl u;rw[ξ rfl];refine aB rfl (fun hb=>Bool.noConfusion hb) (fun _=>aF (ag [(3,.all)] rfl ⟨(out++[q],z2,g),⟨g1,u,r,by dsimp only;omega,by dsimp only;omega,by dsimp only;rw[hle];omega⟩,by dsimp only;omega,?_⟩));exact sl (he:=⟨rfl,rfl,rfl,rfl,trivial⟩) (hh:=⟨⟨_,rfl,.var rfl⟩,⟨_,rfl,.var rfl⟩,⟨_,rfl,.var (by rw[hle,←hout];rfl)⟩,⟨_,rfl,.arrS Y⟩,trivial⟩)
 have d:(!decide ((bA z).kind=2))=true:=by rw[φ B];rfl
 refine aB rfl (fun _=>?_) (fun hb=>absurd (hb.symm.trans d) Bool.noConfusion);rw[ζ (show ¬((bA z).kind=2∧z.e=0) from fun k=>B k.1)];have hs:=ihS f (le_refl _) o z h he (by omega) E;unfold aKw at hs;generalize aZ f o z=y at hs ⊢;obtain⟨⟨q,b⟩,z1⟩:=y;dsimp only at hs ⊢;by_cases A:z1.e=0
 case neg=>
  have hp:=b8.err hs A;have hb:(if b=false then(zPt,bN 12 (bA z).pl z1) else(q,z1)).2=z1:=by
   rw[iO A];split<;>rfl
  rw[hb,aG A];exact sk 2 rfl (kp hp)
 have hs:=b8.ok hs A;refine sk 2 rfl (kc hs ?_);refine kz 6 rfl ?_;cases b with
 | false=>
  have hm:=bH 12 (bA z).pl;rw[ξ rfl];unfold bN;rw[ξ A];dsimp only;rw[aG (show ¬(12:Int)=0 by decide)];exact sk 3 rfl (kp hm)
 | true=>
  have hm:=bF 12 (bA z).pl;rw[ζ (show ¬(true=false) from fun k=>Bool.noConfusion k),ξ rfl];dsimp only;rw[b4 A];refine sk 3 rfl (kc hm ?_);exact az (sg rfl (aD (rtC trw)))
theorem aXx (L:List Tk) (hN:aNa L):∀f,(∀g,g≤f→aKa L g)∧∀g,g≤f→aSg L g:=by
 intro f
 induction f with
 | zero=>exact⟨fun g r o z h he u ho=>by have:=h.lp;omega,fun g r o z h he u ho=>by have:=h.lp;omega⟩
 | succ f q=>
  refine⟨fun g r=>?_,fun g r=>?_⟩
  ·by_cases h:g≤f
   ·exact q.1 g h
   ·rw[show g=f+1 by omega];exact aI4 L hN f (q.2 f (le_refl _))
  ·by_cases h:g≤f
   ·exact q.2 g h
   ·rw[show g=f+1 by omega];exact aVn L hN f q.1
theorem aC3 (l:List Tk) (hl:l.length≤4001):bI Tryz.prog 198 [.one (.c (.sl 4 (l.map aK)))] [] (.one (.c (.sl 10 ((iQ l).map cF)))) []:=by
 have r:(l.map aK).length=l.length:=η _;refine bM (n:=22) tok Tryz.func198 rfl rfl rfl ?_;refine sg rfl (sg rfl (AWp.sub (Sub.own (t:=3) (id:=500) 51 10 rfl rfl) ?_));refine aA (sg rfl (aE (aP (fun i:Nat=>mk [(3,.one (.hs 500 0 i i)),(6,.one (.c (.sl 4 (l.map aK)))),(7,I .i64 ((l.map aK).length:Nat)),(8,I .i64 (i:Nat))] [(500,.arr 51 10 ((iQ (l.take i)).map cF) 0)]) (fun i=>i≤l.length) (fun i=>l.length-i) 0 (Ae _) sl ?_)));intro i hi;have q:((iQ (l.take i)).map cF).length=i:=by rw[η,vN,Ak];omega
 refine sg rfl (aA (aB rfl (fun hb=>?_) (fun hb=>?_)))
 ·have u:=ltD hb r;obtain⟨t,ht⟩:=aJ u;have B:=b9 aK ht;have y:(iQ (l.take (i+1))).map cF=(iQ (l.take i)).map cF++[cF (.mk 2 t.pl 0 t.text [])]:=by
   unfold iQ;rw[Bw,ht,Ah,Ah];rfl
  exact aF (aA (aE (sgh [(0,.row i (aK t))] rfl (ag [(6,.all)] rfl (agN [] rfl ⟨i+1,u,by dsimp only;omega,sl (he:=⟨Go.AM.hs_ren (congrArg (· +1) q) (congrArg (· +1) q),rfl,rfl,rfl,trivial⟩) (hh:=⟨⟨_,rfl,.arrS y.symm⟩,trivial⟩)⟩)))))
 ·have A:=geD hb r hi;subst A;rw[Aw] at q ⊢;refine aS (AWp.sub (Sub.freeze (id:=500) rfl) ?_);exact sg rfl (aD (rtH (hsz:=q.symm) (hlen:=q.symm)))
def aO3 (L:List Tk) (ex:Nat→Z→Ex×Z) (N:Nat):Prop:=∀(deep:Nat) (z:Z),ZA L z→z.e=0→z.R.length≤N→deep≤41→b8 Tryz.prog 197 [rP,I .i64 (deep:Nat)] [(600,rO L z)] (gD L (.pa (cY (ex deep z).1)) (ex deep z).2 [])
def vF (ex:Nat→Z→Ex×Z):Prop:=∀(deep:Nat) (z:Z),¬z.e=0→(ex deep z).2=z
theorem uL:∀f,vF (yL f)
 | 0=>fun _ _ h=>iO h
 | f+1=>fun deep z h=>by
  show(aCk (yL f) deep z).2=z;unfold aCk;rw[ξ h]
theorem aP7 {s:Str}{z:Z}(he:z.e=0):bX s z=if isZ s z=true then(true,tlZ z) else(false,z):=by
 unfold bX;by_cases hu:isZ s z=true
 ·rw[ξ ⟨he,hu⟩,ξ hu];rfl
 ·rw[ζ (fun k=>hu k.2),ζ hu]
section
variable {L:List Tk}{ex:Nat→Z→Ex×Z}{N:Nat}(hO:ExO L ex) (hB:vF ex) (hS:aO3 L ex N)
include hO hS
theorem aI8 (deep:Nat) {z:Z}(h:ZA L z) (he:z.e=0) (hN:z.R.length≤N+1) (hd:deep≤40):b8 Tryz.prog 221 [rP,I .i64 (deep:Nat)] [(600,rO L z)] (gD L (.tup [.pa (cY (fX ex deep z).1.1),B (fX ex deep z).1.2]) (fX ex deep z).2 []):=by
 unfold fX;rw[ζ (fun k=>k he)];have hn:=dZ h;have hm:=fD h he cW;have hLl:=h.l;have u:=fun hk=>aLi h hk
 refine nC (n:=73) tok Tryz.func221 rfl rfl rfl rfl ?_;refine sg rfl (sk 3 rfl (kc hn ?_));refine kz 2 rfl (aA (sg rfl ?_));generalize ht:bA z=t at u ⊢;refine aE (sg rfl ?_);by_cases M:t.kind=1
 ·have d:decide (t.kind=1)=true:=χ M;rw[ξ (show 0<t.kind∧t.kind<4 by omega)];dsimp only;rw[b4 (show(tlZ z).e=0 from he),u (by omega)];have O:oK t=.mk 1 t.pl 0 t.text [] [] [] mT:=by unfold oK;rw[ζ (by omega),M]
  rw[O];unfold rO;exact aB rfl (fun _=>aA (agN [] rfl (sg rfl (aD aGi)))) (fun hb=>absurd (hb.symm.trans d) Bool.noConfusion)
 refine aB rfl (fun hb=>absurd (ω hb) M) (fun _=>sg rfl ?_);by_cases U:t.kind=2
 ·have d:decide (t.kind=2)=true:=χ U;rw[ξ (show 0<t.kind∧t.kind<4 by omega)];dsimp only;rw[b4 (show(tlZ z).e=0 from he),u (by omega)];have O:oK t=.mk 2 t.pl 0 t.text [] [] [] mT:=by unfold oK;rw[ζ (by omega),U]
  rw[O];unfold rO;exact aB rfl (fun _=>aA (agN [] rfl (sg rfl (aD aGi)))) (fun hb=>absurd (hb.symm.trans d) Bool.noConfusion)
 refine aB rfl (fun hb=>absurd (ω hb) U) (fun _=>sg rfl ?_);by_cases Y:t.kind=3
 ·have d:decide (t.kind=3)=true:=χ Y;rw[ξ (show 0<t.kind∧t.kind<4 by omega)];dsimp only;rw[b4 (show(tlZ z).e=0 from he),u (by omega)];unfold oK;rw[ξ Y];unfold rO;exact aB rfl (fun _=>aA (agN [] rfl (sg rfl (aD aGi)))) (fun hb=>absurd (hb.symm.trans d) Bool.noConfusion)
 refine aB rfl (fun hb=>absurd (ω hb) Y) (fun _=>aF ?_);rw[ζ (show ¬(0<t.kind∧t.kind<4) by omega)];have h1:=h.may cW;have J:=iK h (s:=cW);have e1:=(iE cW z).trans he;have E:= @oZ cW z;generalize bX cW z=m at hm h1 J e1 E ⊢;obtain⟨b,z1⟩:=m;dsimp only at hm h1 J e1 E ⊢;refine aA (sk 1 rfl (kc hm ?_));refine kz 1 rfl ?_;cases b with
 | false=>
  obtain rfl:=E rfl;rw[ξ rfl];dsimp only;rw[b4 he];exact aB rfl (fun _=>sg rfl (aD aGi)) (fun hb=>Bool.noConfusion hb)
 | true=>
  rw[ζ (by decide)];have J:=J rfl;have hx:=hS (deep+1) z1 h1 e1 (by omega) (by omega);obtain⟨g1,_⟩:=hO (deep+1) z1 h1;generalize ex (deep+1) z1=y at hx g1 ⊢;obtain⟨b,z2⟩:=y;dsimp only at hx g1 ⊢;refine aB rfl (fun hb=>Bool.noConfusion hb) (fun _=>aF ?_);by_cases q:z2.e=0
  case neg=>
   have hp:=b8.err hx q;rw[bD q,aG q];exact aA (aC mixed (akN 3 [] rfl (kp hp)))
  have hx:=b8.ok hx q;refine aA (aC mixed (akN 3 [] rfl (kc hx ?_)));refine akN 2 [] rfl (az ?_);have r:=cZ g1 q oR;generalize aN oR z2=z3 at r ⊢;by_cases A:z3.e=0
  case neg=>
   have hp:=b8.err r A;rw[aG A];exact sk 1 rfl (kp hp)
  have r:=b8.ok r A;rw[b4 A];refine sk 1 rfl (kc r ?_);exact az (sg rfl (aD aGi))
omit hO
include hB
theorem aVr (a:Int) (deep:Nat) {z:Z}(h:ZA L z) (he:z.e=0) (hN:z.R.length≤N) (hd:deep≤40):b8 Tryz.prog 218 [rP,I .i64 a,I .i64 (deep:Nat)] [(600,rO L z)] (gD L (.pa (cY (sS ex a deep z).1)) (sS ex a deep z).2 []):=by
 obtain⟨g1,g2,g3⟩:=aH2 a h;have r:=hS (deep+1) (rW a z).2 g1;have q:=hB (deep+1) (rW a z).2;have u:(rW a z).2.R.length≤N:=le_trans g3 hN;unfold sS;generalize hy:ex (deep+1) (rW a z).2=y at r q ⊢;obtain⟨b,z6⟩:=y;dsimp only at r q ⊢;unfold rW at r q g1 g2 u ⊢;dsimp only at r q g1 g2 u ⊢;have M:=nI h he;have h1:=h.words;have A:(aU z).2.e=0:=by unfold aU;rw[ξ he];exact he
 generalize aU z=w at r q g1 g2 u M h1 A ⊢;obtain⟨l,Y⟩:=w;dsimp only at r q g1 g2 u M h1 A ⊢;have hn:=dZ h1;have O:(l.map aK).length=l.length:=η _;have hv:=aC3 l g2;refine nC (n:=35) tok Tryz.func218 rfl rfl rfl rfl ?_;refine sg rfl (sk 1 rfl (kc M ?_));refine kz 1 rfl ?_;by_cases hl:l=[]
 ·subst hl;rw[ξ rfl] at q;unfold bN at q;rw[ξ A,eF (show ¬(12:Int)=0 by decide),bD (show ¬(12:Int)=0 by decide)] at q;rw[q (show ¬(12:Int)=0 by decide),aG (show ¬(12:Int)=0 by decide)];have hm:=bH 12 (bA Y).pl;refine sk 6 rfl (kc hn ?_);exact ak 1 [] rfl (kp hm)
 rw[ζ hl] at r q g1 u;have d0:decide ((0:Int)<((l.length:Nat):Int))=true:=χ (by have:=length_pos_iff.2 hl;omega);have hm:=bF 12 (bA Y).pl;refine sk 6 rfl (kc hn ?_);refine ak 1 [] rfl ?_;rw[O,d0];refine kc hm ?_;refine az ?_;by_cases U:l.length≤8
 case neg=>
  have d:decide (((l.length:Nat):Int)≤8)=false:=φ (by omega);rw[fU U A,bD cK] at q;rw[q cK,aG cK];have hm:=bH 2 a;refine sk 4 rfl ?_;rw[O,d];exact kp hm
 have d:decide (((l.length:Nat):Int)≤8)=true:=χ (by omega);have hm:=bF 2 a;rw[fT U] at r q g1 u;refine sk 4 rfl ?_;rw[O,d];refine kc hm ?_;refine az ?_;have B:=cZ h1 A arrow;generalize aN arrow Y=z3 at B r q g1 u;by_cases E:z3.e=0
 case neg=>
  have hp:=b8.err B E;rw[q E,aG E];exact sk 1 rfl (kp hp)
 have B:=b8.ok B E;refine sk 1 rfl (kc B ?_);refine az ?_;have r:=r E u (by omega);refine sk 2 rfl (kc hv ?_);refine akN 3 [] rfl ?_;by_cases J:z6.e=0
 case neg=>
  have hp:=b8.err r J;rw[aG J];exact kp hp
 have r:=b8.ok r J;rw[b4 J];refine kc r ?_;exact ak 3 [(7,.all)] rfl (az (aD (rtC trw)))
theorem uV (u:Tk) (deep:Nat) {z:Z}(h:ZA L z) (he:z.e=0) (hN:z.R.length≤N) (hd:deep≤41):b8 Tryz.prog 164 [rP,tkV u,I .i64 (deep:Nat)] [(600,rO L z)] (gD L (.pa (bL (dP ex u deep z).1)) (dP ex u deep z).2 []):=by
 obtain⟨g1,g2,g3⟩:=aDb u h;have r:=hS deep (fW u z).2 g1;have q:=hB deep (fW u z).2;have E:(fW u z).2.R.length≤N:=le_trans g3 hN;unfold dP;generalize hy:ex deep (fW u z).2=y at r q ⊢;obtain⟨b,z6⟩:=y;dsimp only at r q ⊢;unfold fW at r q g1 g2 E ⊢;dsimp only at r q g1 g2 E ⊢;have O:=nI h he;have h1:=h.words;have J:(aU z).2.e=0:=by unfold aU;rw[ξ he];exact he
 generalize aU z=w at r q g1 g2 E O h1 J ⊢;obtain⟨l,z1⟩:=w;dsimp only at r q g1 g2 E O h1 J ⊢;have U:(l.map aK).length=l.length:=η _;have hv:=aC3 l g2;refine nC (n:=40) tok Tryz.func164 rfl rfl rfl rfl ?_;refine sg rfl (sk 1 rfl (kc O ?_));refine kz 1 rfl ?_;by_cases Y:l.length≤8
 case neg=>
  have d:decide (((l.length:Nat):Int)≤8)=false:=φ (by omega);rw[fU Y J,bD cK] at q;rw[q cK,aG cK];have hm:=bH 2 u.pl;refine sk 5 rfl ?_;rw[U,d];exact kp hm
 have d:decide (((l.length:Nat):Int)≤8)=true:=χ (by omega);have hm:=bF 2 u.pl;rw[fT Y] at r q g1 E;refine sk 5 rfl ?_;rw[U,d];refine kc hm ?_;refine az ?_;have A:=cZ h1 J eqS;generalize aN eqS z1=z3 at A r q g1 E;by_cases B:z3.e=0
 case neg=>
  have hp:=b8.err A B;rw[q B,aG B];exact sk 1 rfl (kp hp)
 have A:=b8.ok A B;refine sk 1 rfl (kc A ?_);refine az ?_;have r:=r B E hd;by_cases M:z6.e=0
 case neg=>
  have hp:=b8.err r M;rw[aG M];exact sk 2 rfl (kp hp)
 have r:=b8.ok r M;rw[b4 M];refine sk 2 rfl (kc r ?_);refine kz 2 rfl (aA (sg rfl ?_));cases l with
 | nil=>
  exact aB rfl (fun hb=>Bool.noConfusion hb) (fun _=>aF (sg rfl (aD (rtC trw))))
 | cons t l=>
  have d0:decide ((0:Int)<(((t::l).map aK).length:Int))=true:=χ (by rw[U,κ];omega);have ht:((t::l).map aK)[0]?=some (aK t):=rfl;refine aB rfl (fun _=>aC mixed (ak 5 [(1,.row 0 (aK t))] rfl (kc hv ?_))) (fun hb=>absurd (hb.symm.trans d0) Bool.noConfusion);exact ak 4 [(7,.all)] rfl (az (sg rfl (aD (rtC trw))))
end
def aSk (s:Sg):AObj:=.var 100 ((eC s).map .c)
theorem aRf (x:Bd) (s:Sg):bI Tryz.prog 166 ([.pa (bL x)]++[R.vp 6 0].map V.one) [(6,aSk s)] (B (decide (x.name=s.name))) [(6,aSk s)]:=by
 refine bM (n:=9) tok Tryz.func166 rfl rfl rfl ?_;exact sgh [(0,.id 12)] rfl (sg rfl (aD rtT))
theorem aMf (b:List Bd) (hl:b.length≤4001) (s:Sg):bI Tryz.prog 165 [hsV 511 b.length,.one (.clo 166 [.vp 6 0])] [(511,bdA b 0),(6,aSk s)] (I .i64 (aKf (fun x=>decide (x.name=s.name)) b 0)) [(511,bdA b 0),(6,aSk s)]:=by
 have A:(b.map bL).length=b.length:=η _;refine bM (n:=19) tok Tryz.func165 rfl rfl rfl ?_;refine sg rfl (aA (sg rfl (aE (aP (fun i:Nat=>mk [(0,hsV 511 b.length),(1,.one (.clo 166 [.vp 6 0])),(7,I .i64 (b.length:Int)),(8,I .i64 i)] [(511,bdA b 0),(6,aSk s)]) (fun i=>i≤b.length∧aKf (fun x=>decide (x.name=s.name)) b 0=aKf (fun x=>decide (x.name=s.name)) b i) (fun i=>b.length-i) 0 ⟨Ae _,rfl⟩ sl ?_))));intro i ⟨hi,hid⟩;refine sg rfl (aA (aB rfl (fun hb=>?_) (fun hb=>?_)))
 ·have q:i<b.length:=by have:=ω hb;omega
  obtain⟨x,r⟩:=aJ q;have y:=b9 bL r;have hc:=aRf x s;rw[aIg _ r] at hid;refine aF (aA (aE (sg rfl (skh 5 [(4,.row i (bL x))] rfl (kv (args:=[.pa (bL x)]) hc ?_)))));refine az (aB rfl (fun hb=>?_) (fun hb=>?_))
  ·rw[ξ hb] at hid;rw[hid];exact sg rfl (aD rtT)
  ·rw[ζ (by rw[show decide (x.name=s.name)=false from hb];exact π)] at hid;exact aF (ag [] rfl ⟨i+1,⟨q,hid⟩,by dsimp only;omega,sl⟩)
 have u:i=b.length:=by have:=Ai hb;omega
 subst u;rw[aLz] at hid;rw[hid];exact aS (sg rfl (aD rtT))
def aSp (n:Nat) (y:List Bd×Z):Except Value (V×List (Nat×AObj)):=if y.2.e=0 then .ok (hsV 511 n,[(511,bdA y.1 0)]) else .error (tF y.2.e y.2.p)
theorem nO {l:List Sg}{b:List Bd}{z:Z}(h:¬z.e=0):(dI l b z).2=z:=by
 cases l with
 | nil=>rfl
 | cons s l=>rw[dI,ζ h]
theorem aI7 (sigs:List Sg) (binds:List Bd) {z:Z}(he:z.e=0) (h1:sigs.length≤4001) (h2:binds.length≤4001):
  b8 Tryz.prog 121 [.one (.c (.sl 9 (sigs.map eC))),hsV 511 binds.length] [(511,bdA binds 0)] (aSp binds.length (dI sigs binds z)):=by
 have hsl:(sigs.map eC).length=sigs.length:=η _;have r:∃W,W=dI sigs binds z:=⟨_,rfl⟩
 obtain⟨W,r⟩:=r;rw[←r];refine nC (n:=43) tok Tryz.func121 rfl rfl rfl rfl ?_;refine sg rfl (aA (sg rfl (aE (aP (fun q:Nat×List Bd=>mk [(1,hsV 511 binds.length),(8,.one (.c (.sl 9 (sigs.map eC)))),(9,I .i64 ((sigs.map eC).length:Nat)),(10,I .i64 (q.1:Nat))] [(511,bdA q.2 0)]) (fun q=>q.1≤sigs.length∧q.2.length=binds.length∧W=dI (sigs.drop q.1) q.2 z) (fun q=>sigs.length-q.1) (0,binds) ⟨Ae _,rfl,r⟩ sl ?_))));clear r;rintro⟨i,b⟩ ⟨hi,y,r⟩;dsimp only at hi y r ⊢;have M:(b.map bL).length=b.length:=η _;refine sg rfl (aA (aB rfl (fun hb=>?_) (fun hb=>?_)))
 case refine_2=>
  have hge:i=sigs.length:=by have:=Ai hb;omega
  rw[List.drop_eq_nil_of_le (by omega),dI] at r;refine aS (sg rfl ?_);rw[r];unfold aSp;rw[ξ he];exact aD rtT
 have E:i<sigs.length:=by have:=ω hb;omega
 obtain⟨s,hs⟩:=aJ E;have hs':=b9 eC hs;have O:sigs.drop i=s::sigs.drop (i+1):=by
  obtain⟨k1,k2⟩:=Af.1 hs;rw[←k2];exact Bf k1
 rw[O,dI,ξ he] at r;have A:=aMf b (by omega) s;have U:aKf (fun x=>decide (x.name=s.name)) b 0=match b.findIdx? (fun x=>decide (x.name=s.name)) with | none=> -1 | some d=>(d:Int):=by
  unfold aKf;rw[B8];cases b.findIdx? _ with
  | none=>rfl
  | some d=>simp
 rw[U,y] at A;unfold aSk at A;refine aF (aA (aE (sgh [(0,.row i (eC s))] rfl (sk 2 rfl (kc A ?_)))));refine kz 1 rfl ?_;cases J:b.findIdx? (fun x=>decide (x.name=s.name)) with
 | none=>
  rw[J] at r;dsimp only at r ⊢;have hm:=bH 21 s.pl;have B:W.2=⟨z.R,21,s.pl⟩:=by
   unfold bN at r;rw[ξ he] at r;rw[r,nO (show ¬(21:Int)=0 by decide)]
  unfold aSp;rw[B,ζ (show ¬(21:Int)=0 by decide)];exact sk 4 rfl (kp hm)
 | some k=>
  rw[J] at r;dsimp only at r ⊢;have Y:=xE J;obtain⟨x,hx⟩:=aJ Y;have hx':=b9 bL hx;rw[hx] at r;dsimp only at r;have dk:decide ((0:Int)≤(k:Int))=true:=χ (by omega);have hm:=bF 21 s.pl;refine sk 4 rfl ?_;rw[dk];refine kc hm ?_;refine az ?_;cases u:x.has with
  | true=>
   rw[ξ u] at r;have hm:=bH 20 s.pl;have B:W.2=⟨z.R,20,s.pl⟩:=by
    unfold bN at r;rw[ξ he] at r;rw[r,nO (show ¬(20:Int)=0 by decide)]
   unfold aSp;rw[B,ζ (show ¬(20:Int)=0 by decide)];refine skh 8 [(4,.row k (bL x))] rfl ?_;rw[u];refine kpD (.tup []) [] hm ?_;exact az trivial
  | false=>
   rw[ζ (by rw[u];exact π)] at r;have hm:=bF 20 s.pl;refine skh 8 [(4,.row k (bL x))] rfl ?_;rw[u];refine kc hm ?_;refine az ?_;have hs1:(b.map bL).set k (bL (.mk x.name x.pl true x.sig x.body))=(b.set k (.mk x.name x.pl true x.sig x.body)).map bL:=by rw[map_set]
   have aa:((b.map bL).set k (bL (.mk x.name x.pl true x.sig x.body))).set k (bL (kK x s.ty))=(b.set k (kK x s.ty)).map bL:=by rw[List.set_set,map_set]
   have hx2:((b.map bL).set k (bL (.mk x.name x.pl true x.sig x.body)))[k]?=some (bL (.mk x.name x.pl true x.sig x.body)):=by rw[List.getElem?_set_self (by rw[M];exact Y)]
   exact ag [(8,.row k (bL x)),(11,.row k (bL (.mk x.name x.pl true x.sig x.body)))] rfl (agN [] rfl ⟨(i+1,b.set k (kK x s.ty)),⟨E,by dsimp only;rw[length_set,y],r⟩,by dsimp only;omega,sl (hh:=⟨⟨_,rfl,.arrS aa⟩,trivial⟩)⟩)
def zBd:Bd:=.mk [] 0 false mT zEx
def zS (sigs:List Sg) (binds:List Bd):List (Nat×AObj):=[(7,.var 85 [.hs 510 0 sigs.length sigs.length]),(8,.var 28 [.hs 511 0 binds.length binds.length]),(510,sgA sigs 0),(511,bdA binds 0)]
def dtA (l:List Dt):AObj:=.arr 81 5 (l.map iG) 0
def clA (l:List Cl):AObj:=.arr 87 6 (l.map iT) 0
def inA (l:List In):AObj:=.arr 90 6 (l.map jC) 0
def aIa (p:Pg) (sigs:List Sg):List (Nat×AObj):=[(4,.var 85 [.hs 510 0 sigs.length sigs.length]),(3,.var 30 [.hs 512 0 p.datas.length p.datas.length,.hs 513 0 p.classes.length p.classes.length,.hs 514 0 p.insts.length p.insts.length,.hs 511 0 p.binds.length p.binds.length]),(510,sgA sigs 0),(511,bdA p.binds 0),(512,dtA p.datas),(513,clA p.classes),(514,inA p.insts)]
section
variable {L:List Tk}{ex:Nat→Z→Ex×Z}{N:Nat}(hB:vF ex) (hS:aO3 L ex N) (hZ:pG L) (hwt:wt L≤30000)
include hB hS hZ hwt
theorem aVl (sigs:List Sg) (binds:List Bd) (deep:Nat) {z:Z}(h:ZA L z) (he:z.e=0) (hN:z.R.length≤N) (hd:deep≤41) (h1:sigs.length≤4001) (h2:binds.length≤4001):
  b8 Tryz.prog 120 [rP,.one (.vp 7 0),.one (.vp 8 0),I .i64 (deep:Nat)] ((600,rO L z)::zS sigs binds) (gD L (.tup []) (aW ex sigs binds deep z).2 (zS (aW ex sigs binds deep z).1.1 (aW ex sigs binds deep z).1.2)):=by
 have hw:=i6 h he 1 (by decide);have g1:=h.word (k:=1) (by decide);have Y:=Ze.word 1 z;have hsl:(sigs.map eC).length=sigs.length:=η _;have O:(binds.map bL).length=binds.length:=η _;unfold aW;generalize aO 1 z=w at hw g1 Y ⊢;obtain⟨A,M⟩:=w;dsimp only at hw g1 Y ⊢;refine nC (n:=39) tok Tryz.func120 rfl rfl rfl rfl ?_;by_cases q:M.e=0
 case neg=>
  have hp:=b8.err hw q;rw[lD q];dsimp only;rw[ζ π];have hb:(dP ex A deep M).2=M:=by
   unfold dP fW;dsimp only;rw[lC q,eF q,bD q];exact hB _ _ q
  dsimp only;rw[hb,aG q];exact sk 1 rfl (kp hp)
 have hw:=b8.ok hw q;have hm:=fD g1 q fH;have g2:=g1.may fH;have l2:=Ze.may fH M;have J:=(iE fH M).trans q;generalize bX fH M=m at hm g2 l2 J ⊢;obtain⟨b,z2⟩:=m;dsimp only at hm g2 l2 J ⊢;refine sk 1 rfl (kc hw ?_);refine ak 2 [(2,.id 40)] rfl (az (aA (sk 1 rfl (kc hm ?_))));refine az ?_;cases b with
 | true=>
  rw[ξ rfl];have B:=lP g2 J hZ hwt;generalize bK z2=y at B ⊢;obtain⟨s,z3⟩:=y;dsimp only at B ⊢;refine aB rfl (fun _=>?_) (fun hb=>Bool.noConfusion hb);by_cases r:z3.e=0
  case neg=>
   have hp:=b8.err B r;rw[aG r];refine sk 9 rfl (kpD (.pa (nE mT)) [(600,rO L z2)] hp ?_);exact ak 5 [(11,.all)] rfl (az trivial)
  have B:=b8.ok B r;rw[b4 r];have u:sigs.map eC++[eC ⟨A.text,A.pl,s⟩]=(sigs++[(⟨A.text,A.pl,s⟩:Sg)]).map eC:=by rw[Ah];rfl
  have hle:(sigs++[(⟨A.text,A.pl,s⟩:Sg)]).length=sigs.length+1:=by rw[ψ];rfl
  generalize sigs++[(⟨A.text,A.pl,s⟩:Sg)]=S at u hle ⊢;refine sk 9 rfl (kc B ?_);refine ak 5 [(11,.all)] rfl (az (AWp.sub (st2:=mk [] ((600,rO L z3)::zS S binds)) (sl (hh:=⟨⟨_,rfl,.var rfl⟩,⟨_,rfl,.var (by rw[hle,←hsl];rfl)⟩,⟨_,rfl,.var rfl⟩,⟨_,rfl,.arrS u⟩,⟨_,rfl,Go.AM.Ole.arr⟩,trivial⟩)) ?_));exact aD rtN
 | false=>
  rw[ζ π];have E:=uV hB hS A deep g2 J (le_trans (Y.trans l2) hN) hd;generalize dP ex A deep z2=y at E ⊢;obtain⟨U,z3⟩:=y;dsimp only at E ⊢;have hz0:(binds.map bL++[(bL zBd)])[binds.length]?=some (bL zBd):=by rw[A9 (by omega),O,Ch];rfl
  refine aB rfl (fun hb=>Bool.noConfusion hb) (fun _=>aF ?_);by_cases r:z3.e=0
  case neg=>
   have hp:=b8.err E r;rw[aG r];refine aC mixed (ak 6 [] rfl (kpD (.pa (bL zBd)) [(600,rO L z2)] hp ?_));exact ak 7 [(8,.all),(11,.row binds.length (bL zBd))] rfl (az trivial)
  have E:=b8.ok E r;rw[b4 r];have u:(binds.map bL++[(bL zBd)]).set binds.length (bL U)=(binds++[U]).map bL:=by
   rw[set_append_right _ _ (by omega),O,Ch,Ah];rfl
  have hle:(binds++[U]).length=binds.length+1:=by rw[ψ];rfl
  refine aC mixed (ak 6 [] rfl (kc E ?_));refine ak 7 [(8,.all),(11,.row binds.length (bL zBd))] rfl (az ?_);generalize hSe:binds++[U]=S at u hle ⊢;exact rtN (ho:=⟨⟨_,rfl,.var rfl⟩,⟨_,rfl,.var rfl⟩,⟨_,rfl,.var (by rw[hle,←O];rfl)⟩,⟨_,rfl,Go.AM.Ole.arr⟩,⟨_,rfl,.arrS u⟩,trivial⟩)
theorem aVk (p:Pg) (sigs:List Sg) (deep:Nat) {z:Z}(h:ZA L z) (he:z.e=0) (hN:z.R.length≤N) (hd:deep≤41) (h1:sigs.length≤4001) (h2:p.binds.length≤4001):
  b8 Tryz.prog 120 [rP,.one (.vp 4 0),.one (.vp 3 3),I .i64 (deep:Nat)] ((600,rO L z)::aIa p sigs) (gD L (.tup []) (aW ex sigs p.binds deep z).2 (aIa ⟨p.datas,p.classes,p.insts,(aW ex sigs p.binds deep z).1.2⟩ (aW ex sigs p.binds deep z).1.1)):=by
 have hw:=i6 h he 1 (by decide);have g1:=h.word (k:=1) (by decide);have Y:=Ze.word 1 z;have hsl:(sigs.map eC).length=sigs.length:=η _;have O:(p.binds.map bL).length=p.binds.length:=η _;unfold aW;generalize aO 1 z=w at hw g1 Y ⊢;obtain⟨A,M⟩:=w;dsimp only at hw g1 Y ⊢;refine nC (n:=39) tok Tryz.func120 rfl rfl rfl rfl ?_;by_cases q:M.e=0
 case neg=>
  have hp:=b8.err hw q;rw[lD q];dsimp only;rw[ζ π];have hb:(dP ex A deep M).2=M:=by
   unfold dP fW;dsimp only;rw[lC q,eF q,bD q];exact hB _ _ q
  dsimp only;rw[hb,aG q];exact sk 1 rfl (kp hp)
 have hw:=b8.ok hw q;have hm:=fD g1 q fH;have g2:=g1.may fH;have l2:=Ze.may fH M;have J:=(iE fH M).trans q;generalize bX fH M=m at hm g2 l2 J ⊢;obtain⟨b,z2⟩:=m;dsimp only at hm g2 l2 J ⊢;refine sk 1 rfl (kc hw ?_);refine ak 2 [(2,.id 40)] rfl (az (aA (sk 1 rfl (kc hm ?_))));refine az ?_;cases b with
 | true=>
  rw[ξ rfl];have B:=lP g2 J hZ hwt;generalize bK z2=y at B ⊢;obtain⟨s,z3⟩:=y;dsimp only at B ⊢;refine aB rfl (fun _=>?_) (fun hb=>Bool.noConfusion hb);by_cases r:z3.e=0
  case neg=>
   have hp:=b8.err B r;rw[aG r];refine sk 9 rfl (kpD (.pa (nE mT)) [(600,rO L z2)] hp ?_);exact ak 5 [(11,.all)] rfl (az trivial)
  have B:=b8.ok B r;rw[b4 r];have u:sigs.map eC++[eC ⟨A.text,A.pl,s⟩]=(sigs++[(⟨A.text,A.pl,s⟩:Sg)]).map eC:=by rw[Ah];rfl
  have hle:(sigs++[(⟨A.text,A.pl,s⟩:Sg)]).length=sigs.length+1:=by rw[ψ];rfl
  generalize sigs++[(⟨A.text,A.pl,s⟩:Sg)]=S at u hle ⊢;refine sk 9 rfl (kc B ?_);refine ak 5 [(11,.all)] rfl (az (AWp.sub (st2:=mk [] ((600,rO L z3)::aIa ⟨p.datas,p.classes,p.insts,p.binds⟩ S)) (sl (hh:=⟨⟨_,rfl,.var rfl⟩,⟨_,rfl,.var (by rw[hle,←hsl];rfl)⟩,⟨_,rfl,.var rfl⟩,⟨_,rfl,.arrS u⟩,⟨_,rfl,Go.AM.Ole.arr⟩,⟨_,rfl,Go.AM.Ole.arr⟩,⟨_,rfl,Go.AM.Ole.arr⟩,⟨_,rfl,Go.AM.Ole.arr⟩,trivial⟩)) ?_));exact aD rtN
 | false=>
  rw[ζ π];have E:=uV hB hS A deep g2 J (le_trans (Y.trans l2) hN) hd;generalize dP ex A deep z2=y at E ⊢;obtain⟨U,z3⟩:=y;dsimp only at E ⊢;have hz0:(p.binds.map bL++[(bL zBd)])[p.binds.length]?=some (bL zBd):=by rw[A9 (by omega),O,Ch];rfl
  refine aB rfl (fun hb=>Bool.noConfusion hb) (fun _=>aF ?_);by_cases r:z3.e=0
  case neg=>
   have hp:=b8.err E r;rw[aG r];refine aC mixed (ak 6 [] rfl (kpD (.pa (bL zBd)) [(600,rO L z2)] hp ?_));exact ak 7 [(8,.all),(11,.row p.binds.length (bL zBd))] rfl (az trivial)
  have E:=b8.ok E r;rw[b4 r];have u:(p.binds.map bL++[(bL zBd)]).set p.binds.length (bL U)=(p.binds++[U]).map bL:=by
   rw[set_append_right _ _ (by omega),O,Ch,Ah];rfl
  have hle:(p.binds++[U]).length=p.binds.length+1:=by rw[ψ];rfl
  refine aC mixed (ak 6 [] rfl (kc E ?_));refine ak 7 [(8,.all),(11,.row p.binds.length (bL zBd))] rfl (az ?_);generalize hSe:p.binds++[U]=S at u hle ⊢;exact rtN (ho:=⟨⟨_,rfl,.var rfl⟩,⟨_,rfl,.var rfl⟩,⟨_,rfl,.var (by rw[hle,←O];rfl)⟩,⟨_,rfl,Go.AM.Ole.arr⟩,⟨_,rfl,.arrS u⟩,⟨_,rfl,Go.AM.Ole.arr⟩,⟨_,rfl,Go.AM.Ole.arr⟩,⟨_,rfl,Go.AM.Ole.arr⟩,trivial⟩)
end
section
variable {σ:Type}(sh:Str) (step:σ→Z→σ×Z)
def lpZ:Nat→Nat→σ→Z→σ×Z
 | 0,_,s,z=>(s,z)
 | f+1,n,s,z=>if(bB sh n z).1=true then lpZ f (n+1) (step s (bB sh n z).2).1 (step s (bB sh n z).2).2 else(s,(bB sh n z).2)
def vK (s:σ) (z:Z):σ×Z:=
 ((lpZ b5 step ((aN eB z).R.length+1) 0 s (aN eB z)).1,aN b5 (lpZ b5 step ((aN eB z).R.length+1) 0 s (aN eB z)).2)
end
theorem gA {σ:Type}{sh:Str}{step:σ→Z→σ×Z}{f n:Nat}{s:σ}{z:Z}(h:¬z.e=0):lpZ sh step f n s z=(s,z):=by
 cases f with
 | zero=>rfl
 | succ f=>rw[lpZ,aMt h,ζ π]
theorem r5 (s:Str) (z:Z):moreA s 0 z=z:=ζ fun k=>lt_irrefl 0 k.1
theorem uC {σ:Type}{L:List Tk}{sh:Str}{step:σ→Z→σ×Z}{Inv:Nat→σ→Prop}(r:∀n s z,Inv n s→n<60→ZA L z→z.e=0→ZA L (step s z).2∧Inv (n+1) (step s z).1∧((step s z).2.e=0→(step s z).2.R.length<z.R.length)∧Ze z (step s z).2):
  ∀(f n:Nat) (s:σ) (z:Z),n≤60→Inv n s→ZA L z→ZA L (lpZ sh step f n s z).2∧(∃m,m≤60∧Inv m (lpZ sh step f n s z).1)∧Ze z (lpZ sh step f n s z).2
 | 0,n,s,z,hn,q,h=>⟨h,⟨n,hn,q⟩,Ze.refl z⟩
 | f+1,n,s,z,hn,q,h=>by
  rw[lpZ];split
  ·rename_i hm;obtain⟨e,u⟩:=j0 hm;obtain⟨y,A,_,B⟩:=r n s _ q (by omega) (h.more sh n) e;obtain⟨g1,g2,g3⟩:=uC r f (n+1) _ _ u A y;exact⟨g1,g2,((Ze.more sh n z).trans B).trans g3⟩
  ·exact⟨h.more _ _,⟨n,hn,q⟩,Ze.more _ _ _⟩
theorem aHz (ex:Nat→Z→Ex×Z) (deep:Nat):∀(f n:Nat) (sigs:List Sg) (binds:List Bd) (z:Z),eR ex deep f n sigs binds z=lpZ b5 (fun(s:List Sg×List Bd) z=>aW ex s.1 s.2 deep z) f n (sigs,binds) z
 | 0,_,_,_,_=>rfl
 | f+1,n,sigs,binds,z=>by
  rw[eR,lpZ];split
  ·exact aHz ex deep f _ _ _ _
  ·rfl
def pR:AObj:=.var 118 [.vp 600 0]
def dO (deep:Nat):AObj:=.var 3 [.c (.int .i64 (deep:Nat))]
theorem pE {L:List Tk}{z:Z}(h:ZA L z):bI Tryz.prog 194 ([]++[R.vp 2 0].map V.one) [(600,rO L z),(2,pR)] (B (dX b5 z)) [(600,rO L z),(2,pR)]:=by
 have hi:=mD h b5;have e:dX b5 z=isZ b5 z:=ζ (fun k=>by cases k);rw[e];refine bM (n:=4) tok Tryz.func194 rfl rfl rfl ?_;refine sg rfl (sk 1 rfl (kc hi ?_));exact kz 1 rfl (aD rtT)
theorem aRi (deep:Nat) {step:(List Sg×List Bd)→Z→(List Sg×List Bd)×Z}{Inv:Nat→(List Sg×List Bd)→Prop}{L:List Tk}{N:Nat}
  (hone:∀n s z,Inv n s→n<60→ZA L z→z.e=0→z.R.length≤N→b8 Tryz.prog 228 ([]++[R.vp 3 0,R.vp 7 0,R.vp 8 0,R.vp 5 0].map V.one) ((600,rO L z)::(3,pR)::(5,dO deep)::zS s.1 s.2) (gD L (.tup []) (step s z).2 ((3,pR)::(5,dO deep)::zS (step s z).1.1 (step s z).1.2)))
  (hst:∀n s z,Inv n s→n<60→ZA L z→z.e=0→ZA L (step s z).2∧Inv (n+1) (step s z).1∧((step s z).2.e=0→(step s z).2.R.length<z.R.length)∧Ze z (step s z).2)
  {z:Z} (h:ZA L z) (he:z.e=0) (hN:z.R.length≤N) {s:(List Sg×List Bd)} (hI:Inv 0 s):
  b8 Tryz.prog 113 [rP,.one (.clo 194 [R.vp 2 0]),.one (.clo 228 [R.vp 3 0,R.vp 7 0,R.vp 8 0,R.vp 5 0])] ((600,rO L z)::(2,pR)::(3,pR)::(5,dO deep)::zS s.1 s.2) (gD L (.tup []) (lpZ b5 step (z.R.length+1) 0 s z).2 ((2,pR)::(3,pR)::(5,dO deep)::zS (lpZ b5 step (z.R.length+1) 0 s z).1.1 (lpZ b5 step (z.R.length+1) 0 s z).1.2)):=by
 have r:∃W,W=lpZ b5 step (z.R.length+1) 0 s z:=⟨_,rfl⟩
 obtain⟨W,r⟩:=r;rw[←r];refine nC (n:=35) tok Tryz.func113 rfl rfl rfl rfl ?_;refine sg rfl (aE (aP (fun q:Nat×(List Sg×List Bd)×Z×Nat=>mk [(0,rP),(1,.one (.clo 194 [R.vp 2 0])),(2,.one (.clo 228 [R.vp 3 0,R.vp 7 0,R.vp 8 0,R.vp 5 0])),(6,I .i64 (q.1:Nat))] ((600,rO L q.2.2.1)::(2,pR)::(3,pR)::(5,dO deep)::zS q.2.1.1 q.2.1.2)) (fun q=>Inv q.1 q.2.1∧q.1≤60∧ZA L q.2.2.1∧q.2.2.1.e=0∧q.2.2.1.R.length≤N∧q.2.2.1.R.length<q.2.2.2∧moreA b5 q.1 q.2.2.1=q.2.2.1∧W=lpZ b5 step q.2.2.2 q.1 q.2.1 q.2.2.1) (fun q=>q.2.2.1.R.length) (0,s,z,z.R.length+1) ⟨hI,Ae _,h,he,hN,lt_succ_self _,r5 _ _,r⟩ sl ?_));clear r h he hN hI;rintro⟨n,s,z,f⟩ ⟨hI,hn,h,he,hN,hf,hA,r⟩;dsimp only at hI hn h he hN hf hA r;refine aE (aA (aE (aP (fun y:Z=>mk [(0,rP),(1,.one (.clo 194 [R.vp 2 0])),(2,.one (.clo 228 [R.vp 3 0,R.vp 7 0,R.vp 8 0,R.vp 5 0])),(6,I .i64 (n:Nat))] ((600,rO L y)::(2,pR)::(3,pR)::(5,dO deep)::zS s.1 s.2)) (fun y=>ZA L y∧y.e=0∧cV z=cV y∧y.R.length≤z.R.length) (fun y=>y.R.length) z ⟨h,he,rfl,le_refl _⟩ sl ?_)));rintro y ⟨h2,A,e2,hle2⟩

 have hm:=fD h2 A cL;obtain⟨m1,m2,m3⟩:=nA h2;have M:=h2.may cL;have he3:=(iE cL y).trans A;generalize bX cL y=m at hm m1 m2 m3 M he3;obtain⟨b,z3⟩:=m;dsimp only at m1 m2 m3 M he3;refine aA (sk 1 rfl (kc hm ?_));refine az (aB rfl (fun hb=>?_) (fun hb=>?_))
 ·have hb:b=true:=hb;have:=m3 hb;exact aF (aE (aF ⟨z3,⟨M,he3,e2.trans m1.symm,by omega⟩,m3 hb,sl⟩))
 have hb:b=false:=hb;obtain⟨g1,g2⟩:=m2 hb;subst g1;have e3:cV z=z3:=e2.trans g2;clear m1 m2 m3 M e2 hm;have hf0:∃g,f=g+1:=⟨f-1,by omega⟩
 obtain⟨f,rfl⟩:=hf0;rw[lpZ] at r;unfold bB at r;rw[hA,e3] at r;have hs3:=pE h2;have hn3:=dZ h2;refine aS (aA (sk 1 rfl (kv (args:=[]) hs3 ?_)));refine az (aB rfl (fun hb=>?_) (fun hb=>?_))
 ·have hb:dX b5 z3=true:=hb;rw[ξ (show ¬z3.e=0∨dX b5 z3=true from .inr hb)] at r;rw[ζ π] at r;rw[r,b4 A];exact aD rtN
 have hb:dX b5 z3=false:=hb;have hnb:¬(¬z3.e=0∨dX b5 z3=true):=fun k=>k.elim (fun k=>k A) fun k=>by rw[hb] at k;cases k
 rw[ζ hnb] at r;refine aF ?_;by_cases hn60:n<60
 case neg=>
  have d:decide (((n:Nat):Int)<60)=false:=φ (by omega);rw[fU (by omega) A] at r;dsimp only at r;rw[φ cK,ζ π] at r;rw[r,aG cK];have hmn:=bH 2 (bA z3).pl;refine sk 5 rfl (kc hn3 ?_);refine ak 1 [] rfl ?_;rw[d];exact kp hmn
 have d:decide (((n:Nat):Int)<60)=true:=χ (by omega);rw[fT (by omega),χ A,ξ rfl] at r;have hmo:=bF 2 (bA z3).pl;refine sk 5 rfl (kc hn3 ?_);refine ak 1 [] rfl ?_;rw[d];refine kc hmo ?_;refine az ?_;have ho:=hone n s z3 hI hn60 h2 A (by omega);obtain⟨B,k2,k3,_⟩:=hst n s z3 hI hn60 h2 A;generalize step s z3=y at ho B k2 k3 r;obtain⟨s4,z4⟩:=y;dsimp only at ho B k2 k3 r;by_cases u:z4.e=0
 case neg=>
  have hp:=b8.err ho u;rw[gA u] at r;rw[r,aG u];exact sk 1 rfl (kpv (args:=[]) hp)
 have ho:=b8.ok ho u;have k3:=k3 u;refine sk 1 rfl (kv (args:=[]) ho ?_);refine az (aA (agN [] rfl ?_));have hlp:=B.lp;have E:=mD B cL;have hn4:=dZ B;have O:=pE B;have hmo4:=bF 12 (bA z4).pl;cases U:isZ cL z4 with
 | true=>
  rw[U] at E;have J:moreA b5 (n+1) z4=z4:=ζ fun k=>by rw[U] at k;cases k.2.2.1
  refine aC mixed (ak 1 [] rfl (kc E ?_));refine ak 7 [(2,.bv true),(5,.bv true)] rfl (kc hn4 ?_);refine ak 1 [(2,.bv true),(5,.bv true)] rfl (kc hmo4 ?_);exact az ⟨(n+1,s4,z4,f),⟨k2,by omega,B,u,by dsimp only;omega,by dsimp only;omega,J,r⟩,by dsimp only;omega,sl⟩
 | false=>
  rw[U] at E;cases Y:dX b5 z4 with
  | true=>
   rw[Y] at O;have J:moreA b5 (n+1) z4=z4:=ζ fun k=>by rw[Y] at k;cases k.2.2.2
   refine aC mixed (ak 1 [] rfl (kc E ?_));refine ak 2 [(2,.bv false)] rfl (kvG (args:=[]) O ?_);refine ak 4 [(2,.bv false),(5,.bv false)] rfl (kc hn4 ?_);refine ak 1 [(2,.bv false),(5,.bv false)] rfl (kc hmo4 ?_);exact az ⟨(n+1,s4,z4,f),⟨k2,by omega,B,u,by dsimp only;omega,by dsimp only;omega,J,r⟩,by dsimp only;omega,sl⟩
  | false=>
   rw[Y] at O;have hmn4:=bH 12 (bA z4).pl;have J:moreA b5 (n+1) z4=⟨z4.R,12,(bA z4).pl⟩:=(ξ ⟨succ_pos n,u,U,Y⟩).trans (ξ u);have h12:¬(12:Int)=0:=by decide
   have hWb:W.2=⟨z4.R,12,(bA z4).pl⟩:=by
    obtain⟨f,rfl⟩:∃g,f=g+1:=⟨f-1,by omega⟩
    rw[lpZ] at r;unfold bB at r;rw[J,lS h12,ξ (show ¬(Z.mk z4.R 12 (bA z4).pl).e=0∨_ from .inl h12),ζ π] at r;rw[r]
   rw[hWb,aG h12];refine aC mixed (ak 1 [] rfl (kc E ?_));refine ak 2 [(2,.bv false)] rfl (kvG (args:=[]) O ?_);refine ak 4 [(2,.bv false),(5,.bv false)] rfl (kc hn4 ?_);refine ak 1 [(2,.bv false),(5,.bv false)] rfl (kpD (.tup []) [] hmn4 ?_);exact az trivial
theorem aMi (deep:Nat) {step:(List Sg×List Bd)→Z→(List Sg×List Bd)×Z}{Inv:Nat→(List Sg×List Bd)→Prop}{L:List Tk}{N:Nat}
  (I:∀n s z,Inv n s→n<60→ZA L z→z.e=0→z.R.length≤N→b8 Tryz.prog 228 ([]++[R.vp 3 0,R.vp 7 0,R.vp 8 0,R.vp 5 0].map V.one) ((600,rO L z)::(3,pR)::(5,dO deep)::zS s.1 s.2) (gD L (.tup []) (step s z).2 ((3,pR)::(5,dO deep)::zS (step s z).1.1 (step s z).1.2)))
  (E:∀n s z,Inv n s→n<60→ZA L z→z.e=0→ZA L (step s z).2∧Inv (n+1) (step s z).1∧((step s z).2.e=0→(step s z).2.R.length<z.R.length)∧Ze z (step s z).2)
  {z:Z} (h:ZA L z) (he:z.e=0) (hN:z.R.length≤N) {s:(List Sg×List Bd)} (J:Inv 0 s):
  b8 Tryz.prog 158 [rP,.one (.clo 228 [R.vp 3 0,R.vp 7 0,R.vp 8 0,R.vp 5 0])] ((600,rO L z)::(3,pR)::(5,dO deep)::zS s.1 s.2) (gD L (.tup []) (vK step s z).2 ((3,pR)::(5,dO deep)::zS (vK step s z).1.1 (vK step s z).1.2)):=by
 have q:=cZ h he eB;have h1:=h.need eB;have M:=Ze.need eB z;unfold vK;generalize aN eB z=B at q h1 M ⊢;have O:B.R.length≤z.R.length:=M;refine nC (n:=12) tok Tryz.func158 rfl rfl rfl rfl ?_;refine sg rfl ?_;by_cases r:B.e=0
 case neg=>
  have hp:=b8.err q r;rw[gA r];dsimp only;rw[bD r,aG r];exact sk 1 rfl (kp hp)
 have q:=b8.ok q r;refine sk 1 rfl (kc q ?_);refine az ?_;have u:=aRi deep (step:=step) (Inv:=Inv) (L:=L) (N:=N) I E h1 r (by omega) J;have hok:=(uC (sh:=b5) E (B.R.length+1) 0 s B (Ae _) J h1).1
 generalize lpZ b5 step (B.R.length+1) 0 s B=W at u hok ⊢;obtain⟨s2,z2⟩:=W;dsimp only at u hok ⊢;by_cases y:z2.e=0
 case neg=>
  have hp:=b8.err u y;rw[bD y,aG y];exact sk 3 rfl (kp hp)
 have u:=b8.ok u y;refine sk 3 rfl (kc u ?_);refine az ?_;have q:=cZ hok y b5;generalize aN b5 z2=z3 at q ⊢;by_cases A:z3.e=0
 case neg=>
  have hp:=b8.err q A;rw[aG A];exact aC mixed (ak 1 [] rfl (kp hp))
 have q:=b8.ok q A;rw[b4 A];refine aC mixed (ak 1 [] rfl (kc q ?_));exact az rtN
theorem iZ:∀{l:List Sg}{b:List Bd}{z:Z},(dI l b z).2.e=0→(dI l b z).2=z
 | [],b,z,_=>rfl
 | s::l,b,z,h=>by
  rw[dI] at h ⊢;by_cases he:z.e=0
  case neg=>rw[ζ he]
  rw[ξ he] at h ⊢;have hb:∀e p:Int,¬e=0→(dI l b (bN e p z)).2.e=0→False:=fun e p q h0=>by
   have u:bN e p z=⟨z.R,e,p⟩:=ξ he;rw[u,nO (show ¬(Z.mk z.R e p).e=0 from q)] at h0;exact q h0
  cases r:b.findIdx? (fun x=>decide (x.name=s.name)) with
  | none=>rw[r] at h;exact(hb 21 _ (by decide) h).elim
  | some k=>
   rw[r] at h;dsimp only at h ⊢;cases hx:b[k]? with
   | none=>rfl
   | some x=>
    rw[hx] at h;dsimp only at h ⊢;by_cases hh:x.has=true
    ·rw[ξ hh] at h;exact(hb 20 _ (by decide) h).elim
    ·rw[ζ hh] at h ⊢;exact iZ h
section
variable {L:List Tk}{ex:Nat→Z→Ex×Z}{N:Nat}(hB:vF ex) (hS:aO3 L ex N) (hZ:pG L) (hwt:wt L≤30000)
include hB hS hZ hwt
theorem aVq (sigs:List Sg) (binds:List Bd) (deep:Nat) {z:Z}(h:ZA L z) (he:z.e=0) (hN:z.R.length≤N) (r:deep≤40) (h1:sigs.length≤4001) (h2:binds.length≤4001):
  b8 Tryz.prog 228 ([]++[R.vp 3 0,R.vp 7 0,R.vp 8 0,R.vp 5 0].map V.one) ((600,rO L z)::(3,pR)::(5,dO deep)::zS sigs binds) (gD L (.tup []) (aW ex sigs binds (deep+1) z).2 ((3,pR)::(5,dO deep)::zS (aW ex sigs binds (deep+1) z).1.1 (aW ex sigs binds (deep+1) z).1.2)):=by
 have hs:=aVl hB hS hZ hwt sigs binds (deep+1) h he hN (by omega) h1 h2;generalize aW ex sigs binds (deep+1) z=y at hs ⊢;obtain⟨⟨S,Bs⟩,z2⟩:=y;dsimp only at hs ⊢;refine nC (n:=8) tok Tryz.func228 rfl rfl rfl rfl ?_;by_cases q:z2.e=0
 case neg=>
  have hp:=b8.err hs q;rw[aG q];exact aC mixed (akN 3 [] rfl (kp hp))
 have hs:=b8.ok hs q;rw[b4 q];refine aC mixed (akN 3 [] rfl (kc hs ?_));exact az rtN
omit hB hS hZ hwt
theorem aLs (deep:Nat) (z:Z):kB ex deep z=lpZ b5 (fun(s:List Sg×List Bd) z=>aW ex s.1 s.2 (deep+1) z) ((aN eB z).R.length+1) 0 ([],[]) (aN eB z):=aHz ex (deep+1) _ _ _ _ _
include hB hS hZ hwt
theorem aVp (hO:ExO L ex) (a:Int) (deep:Nat) {z:Z}(h:ZA L z) (he:z.e=0) (hN:z.R.length≤N) (hd:deep≤40):b8 Tryz.prog 219 [rP,I .i64 a,I .i64 (deep:Nat)] [(600,rO L z)] (gD L (.pa (cY (sR ex a deep z).1)) (sR ex a deep z).2 []):=by
 have hst:∀(n:Nat) (s:List Sg×List Bd) (z:Z),(gQ s.1∧eY s.2∧s.1.length≤n∧s.2.length≤n)→n<60→ZA L z→z.e=0→ZA L (aW ex s.1 s.2 (deep+1) z).2∧(gQ (aW ex s.1 s.2 (deep+1) z).1.1∧eY (aW ex s.1 s.2 (deep+1) z).1.2∧(aW ex s.1 s.2 (deep+1) z).1.1.length≤n+1∧(aW ex s.1 s.2 (deep+1) z).1.2.length≤n+1)∧((aW ex s.1 s.2 (deep+1) z).2.e=0→(aW ex s.1 s.2 (deep+1) z).2.R.length<z.R.length)∧Ze z (aW ex s.1 s.2 (deep+1) z).2:=fun n s z J hn h he=>by
  obtain⟨k1,k2,k3,k4,k5,k6,k7⟩:=lO hO hwt s.1 s.2 (deep+1) h J.1 J.2.1;exact⟨k1,⟨k2,k3,by have:=J.2.2.1;omega,by have:=J.2.2.2;omega⟩,k6,k7⟩
 have hI0:gQ ([]:List Sg)∧eY ([]:List Bd)∧([]:List Sg).length≤0∧([]:List Bd).length≤0:=⟨fun s hs=>(by cases hs),trivial,le_refl _,le_refl _⟩
 have r:=aMi deep (step:=fun(s:List Sg×List Bd) z=>aW ex s.1 s.2 (deep+1) z) (Inv:=fun n s=>gQ s.1∧eY s.2∧s.1.length≤n∧s.2.length≤n) (L:=L) (N:=N) (fun n s z J hn h he hN=>aVq hB hS hZ hwt s.1 s.2 deep h he hN hd (by have:=J.2.2.1;omega) (by have:=J.2.2.2;omega)) hst h he hN (s:=([],[])) hI0;have hok:=uC (sh:=b5) (Inv:=fun n (s:List Sg×List Bd)=>gQ s.1∧eY s.2∧s.1.length≤n∧s.2.length≤n) hst ((aN eB z).R.length+1) 0 ([],[]) (aN eB z) (Ae _) hI0 (h.need eB);unfold vK at r;unfold sR;rw[aLs];unfold zN;have l0:(aN eB z).R.length≤z.R.length:=Ze.need eB z;generalize aN eB z=z1 at r hok l0 ⊢;generalize lpZ b5 (fun(s:List Sg×List Bd) z=>aW ex s.1 s.2 (deep+1) z) (z1.R.length+1) 0 ([],[]) z1=W at r hok ⊢;obtain⟨⟨sigs,binds⟩,z2⟩:=W;dsimp only at r hok ⊢;obtain⟨g1,⟨m,hm60,hs,hb,hsl,hbl'⟩,g3⟩:=hok

 have h3:=g1.need b5;have l3:(aN b5 z2).R.length≤z2.R.length:=Ze.need b5 z2;have g3:z2.R.length≤z1.R.length:=g3;generalize aN b5 z2=z3 at r h3 l3 ⊢;refine nC (n:=25) tok Tryz.func219 rfl rfl rfl rfl ?_;refine sg rfl (sg rfl (sg rfl (AWp.sub (Sub.ownCell (x:=7) (k:=0) (id:=510) 100 9 rfl rfl rfl) ?_)));refine AWp.sub (Sub.ownCell (x:=8) (k:=0) (id:=511) 109 33 rfl rfl rfl) ?_;by_cases u:z3.e=0
 case neg=>
  have hp:=b8.err r u;rw[nO u,bD u,hB _ _ u,aG u];exact sk 2 rfl (kp hp)
 have r:=b8.ok r u;refine sk 2 rfl (kc r ?_);refine az ?_;have q:=aI7 sigs binds u (by omega) (by omega);obtain⟨Y,p2,p3,p4⟩:=iI sigs binds z3 h3 hs hb;have U:= @iZ sigs binds z3;generalize dI sigs binds z3=y at q Y p2 p3 p4 U ⊢;obtain⟨Bs,O⟩:=y;dsimp only at q Y p2 p3 p4 U ⊢;have p4:O.R.length≤z3.R.length:=p4;unfold aSp at q;dsimp only at q;refine AWp.sub (Sub.freeze (id:=510) rfl) ?_;by_cases A:O.e=0
 case neg=>
  rw[ζ A] at q;have hp:aDr _ _ _ _ _:=q;rw[bD A,hB _ _ A,aG A];exact sk 2 rfl (kp hp)
 rw[ξ A] at q;have q:bI _ _ _ _ _ _:=q;obtain rfl:=U A;have hBl:binds.length=(Bs.map bL).length:=by rw[η,p3]
 refine sk 2 rfl (kc q ?_);refine kz 1 rfl ?_;have B:=cZ Y A inS;have h7:=Y.need inS;have l7:(aN inS O).R.length≤O.R.length:=Ze.need inS O;generalize aN inS O=z7 at B h7 l7 ⊢;by_cases E:z7.e=0
 case neg=>
  have hp:=b8.err B E;rw[hB _ _ E,aG E];exact sk 1 rfl (kp hp)
 have B:=b8.ok B E;refine sk 1 rfl (kc B ?_);refine az ?_;have hex:=hS (deep+1) z7 h7 E (by omega) (by omega);generalize ex (deep+1) z7=y at hex ⊢;obtain⟨e,z8⟩:=y;dsimp only at hex ⊢;refine AWp.sub (Sub.freeze (id:=511) rfl) ?_;by_cases M:z8.e=0
 case neg=>
  have hp:=b8.err hex M;rw[aG M];refine aA (aC mixed (akN 5 [] rfl (kpD (.pa (cY zEx)) [(600,rO L z7)] hp ?_)));exact ak 3 [(6,.all)] rfl (az trivial)
 have hex:=b8.ok hex M;rw[b4 M];refine aA (aC mixed (akN 5 [] rfl (kc hex ?_)));refine ak 3 [(6,.all)] rfl (az ?_);unfold cY;rw[aL5];exact aD (rtC trw (hc:=.agg (.c .refl (.c .refl (.c .refl (.c .refl (.c .refl (.c .nl (.hs rfl hBl (Go.AM.take_all hBl) (.c .nl (.c .nl (.c .nl (.c .refl (.c .refl (.c .refl (.c .nl (.c .nl .nil)))))))))))))))))
end
def aYm:List Str:=[[],[],[69,32,97,32,61,62,32],[40,69,32,97,44,32,79,32,98,41,32,61,62,32],[70,32,97,32,61,62,32]]
theorem aQ2:∀s∈aYm,s.length≤14∧(aEl s.length s).isSome=true:=by decide+kernel
theorem aU3 (l:List Int) (hl:sB l) (u:l.length≤1000) (i:Nat) (hi:i≤l.length):∃(s:Str) (j:Nat),(s.length≤14∧LQ s∧l.length-j≤l.length-i)∧j≤l.length∧bI Tryz.prog 69 [tkP] [(750,tkO l i)] (Go.AM.T s) [(750,tkO l j)]:=by
 obtain⟨v,j,y,hx,hc⟩:=cI l hl u i hi 5 (by decide) (by decide);obtain⟨s,hs⟩:=aJ (l:=aYm) (k:=v) y;have A:=b9 aR hs;obtain⟨q,r⟩:=aQ2 s (Aa hs);have B:(aYm.map aR).length=5:=rfl;refine⟨s,j,⟨q,LQ.of r,by rcases hx with⟨_,_⟩ | ⟨_,_,_⟩<;>omega⟩,hx.le hi,?_⟩;refine bM (n:=8) tok Tryz.func69 rfl rfl rfl ?_;refine sg rfl (skh 2 [(0,.all)] rfl (kc hc ?_));exact ak 3 [(3,.row v (aR s))] rfl (az (aD rtT))
def nz:List Int→Nat
 | []=>0
 | x::l=>(if x=0 then 0 else 1)+nz l
theorem aN1:∀l m:List Int,nz (l++m)=nz l+nz m
 | [],m=>(Bb _).symm
 | x::l,m=>by rw[Ap,nz,nz,aN1 l m];omega
inductive SmT (l:List Int):Nat→List Int→Nat→List Int→Nat→Prop
 | z (A:List Int) (i:Nat):SmT l 0 A i A i
 | s {n:Nat} {A:List Int} {i w j:Nat} {A':List Int} {j':Nat} (hc:bI Tryz.prog 25 [tkP,I .i64 ((40:Nat):Int)] [(750,tkO l i)] (I .i64 (w:Nat)) [(750,tkO l j)]) (k:SmT l n (A++[(w:Int)]) j A' j'):SmT l (n+1) A i A' j'
theorem SmT.ex {l:List Int}(hl:sB l) (u:l.length≤1000):∀(n:Nat) (A:List Int) (i:Nat),i≤l.length→(∀x∈A,0≤x∧x<40)→∃(A':List Int) (j:Nat),SmT l n A i A' j∧A'.length=A.length+n∧(∀x∈A',0≤x∧x<40)∧j≤l.length∧nz A'+(l.length-j)≤nz A+(l.length-i)
 | 0,A,i,hi,q=>⟨A,i,.z A i,rfl,q,hi,le_refl _⟩
 | n+1,A,i,hi,q=>by
  obtain⟨w,j,hw,hx,hc⟩:=cI l hl u i hi 40 (by decide) (by decide);have y:=hx.le hi
  obtain⟨A',j',h1,h2,B,E,r⟩:=SmT.ex hl u n (A++[(w:Int)]) j y (fun x hx=>by
   rcases A2.1 hx with hx | hx
   ·exact q x hx
   ·rw[Ar.1 hx];omega)
  exact⟨A',j',.s hc h1,by rw[h2,ψ];show A.length+1+n=_;omega,B,E,by
   rw[aN1,show nz [(w:Int)]=(if(w:Int)=0 then 0 else 1)+0 from rfl] at r;rcases hx with⟨_,_⟩ | ⟨_,_,h⟩
   ·split at r<;>omega
   ·rw[ξ (by omega)] at r;omega⟩
theorem aU0 (l:List Int) (hl:sB l) (hL:l.length≤1000) (i:Nat) (hi:i≤l.length):∃(A:List Int) (j:Nat),A.length=6∧(∀x∈A,0≤x∧x<40)∧(j≤l.length∧nz A+(l.length-j)≤l.length-i)∧bI Tryz.prog 68 [tkP] [(750,tkO l i)] (.one (.c (.sl 1 (A.map lN)))) [(750,tkO l j)]:=by
 obtain⟨A1,y,q,B,E,J,M⟩:=SmT.ex hl hL 6 [] i hi (fun x hx=>by cases hx);refine⟨A1,y,B,E,⟨J,by rw[show nz []=0 from rfl] at M;omega⟩,?_⟩;refine bM (n:=15) tok Tryz.func68 rfl rfl rfl ?_;refine sg rfl (sg rfl (AWp.sub (Sub.own (t:=3) (id:=500) 3 1 rfl rfl) ?_));refine aA (sg rfl (aE (aP (fun x:Nat×List Int×Nat=>mk [(0,tkP),(3,.one (.hs 500 0 (x.2.1.map lN).length (x.2.1.map lN).length)),(4,I .i64 (x.1:Nat))] [(500,.arr 3 1 (x.2.1.map lN) 0),(750,tkO l x.2.2)]) (fun x=>x.1≤6∧x.2.1.length=x.1∧SmT l (6-x.1) x.2.1 x.2.2 A1 y) (fun x=>6-x.1) (0,[],i) ⟨Ae _,rfl,q⟩ sl ?_)));rintro⟨n,A,i⟩ ⟨hn,u,q⟩;dsimp only at hn u q ⊢;have hkA:(A.map lN).length=A.length:=η _;refine aA (sg rfl (aB rfl (fun hb=>?_) (fun hb=>?_)))
 ·have O:n<6:=by have:=ω hb;omega
  obtain⟨m,hm⟩:∃m,6-n=m+1:=⟨5-n,by omega⟩
  rw[hm] at q;have U:m=6-(n+1):=by omega
  cases q with
  | @s _ _ _ w j _ _ hc q=>
  rw[U] at q;have r:(A.map lN)++[[.int .i64 (w:Int)]]=(A++[(w:Int)]).map lN:=by rw[Ah];rfl
  have hle:((A++[(w:Int)]).map lN).length=(A.map lN).length+1:=by rw[←r,ψ];rfl
  refine aF (aA (aE (aC mixed (ak 2 [] rfl (kc hc ?_)))));exact ak 3 [(3,.all)] rfl (az (agN [] rfl ⟨(n+1,A++[(w:Int)],j),⟨O,by dsimp only;rw[ψ,u];rfl,q⟩,by dsimp only;omega,sl (he:=⟨rfl,Go.AM.hs_ren (by rw[hle];rfl) (by rw[hle];rfl),rfl,trivial⟩) (hh:=⟨⟨_,rfl,.arrS r⟩,⟨_,rfl,Go.AM.Ole.var rfl⟩,trivial⟩)⟩))
 have Y:n=6:=by have:=Ai hb;omega
 subst Y;have hz:A=A1∧i=y:=by
  rw[show 6-6=0 from rfl] at q;cases q;exact⟨rfl,rfl⟩
 obtain⟨rfl,rfl⟩:=hz;refine aS (AWp.sub (Sub.freeze (id:=500) rfl) ?_);refine AWp.sub (st2:=mk [(3,.one (.c (.sl 1 (A.map lN))))] [(750,tkO l i)]) ?_ ?_
 ·refine Sub.trans ?_ (cv 3 (A.map lN));exact sl
 exact sg rfl (aD rtT)
end Go.Proofs.YtkhgpgihmphfdaaGreatDoor
