/-
  Texts Rd46 to Rd56 in one.
-/
import Derived.Test.YtpmheldmadendaaGreatDoorM10
import Derived.Tactics2
import Derived.LoopTactic
open List (append_nil dropWhile_cons drop_eq_getElem_cons drop_eq_nil_of_le drop_zero length_append length_cons length_map length_nil length_pos_iff length_set length_take map_append map_set mem_cons mem_singleton set_append_right takeWhile_cons take_add_one take_length)
open Nat (le_refl le_trans lt_irrefl lt_succ_self sub_self succ_pos zero_le)
namespace Go.Proofs.YtpmheldmadendaaGreatDoor
open Go Go.AM
set_option maxRecDepth 20000
set_option maxHeartbeats 4000000
theorem ZA.endz {L:List Tk}{z:Z}(h:ZA L z):ZA L (n8 z):=by
 unfold n8;split
 ·exact h.fail _ _
 ·exact h
theorem aQm {L:List Tk}{z:Z}(h:ZA L z):b8 Tryz.prog 41 [xP] [(700,zO L z)] (.tup []) [(700,zO L (n8 z))]:=by
 have ho:=eO L z;have hn:=fA h;have j:=dI L z 12 (aX z).pl;unfold n8;refine bM (n:=15) tok Tryz.func41 rfl rfl rfl ?_;by_cases he:z.e=0
 case neg=>
  rw[ξ (fun k=>he k.1)];rw[ψ he] at ho;refine sk 1 rfl (kc ho ?_);exact ak 6 [(2,.bv false),(7,.bv false)] rfl (az (aB rfl (fun hb=>Bool.noConfusion hb) (fun _=>aD rtN)))
 rw[φ he] at ho;refine sk 1 rfl (kc ho ?_);refine ak 2 [(2,.bv true)] rfl (kcG hn ?_);refine ak 3 [(2,.bv true),(7,.bv true)] rfl (az ?_);by_cases c:(aX z).kind=6
 ·rw[ξ (fun k=>k.2 c)];have d:(!decide ((aX z).kind=6))=false:=by rw[φ c];rfl
  exact aB rfl (fun hb=>absurd (hb.symm.trans d) Bool.noConfusion) (fun _=>aD rtN)
 ·rw[θ ⟨he,c⟩];have d:(!decide ((aX z).kind=6))=true:=by rw[ψ c];rfl
  refine aB rfl (fun _=>aC mixed (ak 2 [] rfl (kc hn ?_))) (fun hb=>absurd (hb.symm.trans d) Bool.noConfusion);refine ak 1 [] rfl (kc j ?_);exact az rtN
def fU (s:Str):Pg×Z:=if(cL s).2.e=0 then eT (aHf (cL s).2.R.length) (cL s).2 else(zPg,(cL s).2)
def dK (s:Str):Pg×Int×Int:=if(n8 (fU s).2).e=0 then((fU s).1,(n8 (fU s).2).e,(n8 (fU s).2).p) else(zPg,(n8 (fU s).2).e,(n8 (fU s).2).p)
theorem yO {L:List Tk}{ex:Nat→Z→Ex×Z}(hO:ExO L ex) (hwt:wt L≤30000):∀(f n:Nat) (p:Pg) (sigs:List Sg) (z:Z),ZA L z→PgOk n p→(eW sigs∧sigs.length≤n)→n≤60→ZA L (iB ex f n p sigs z).2∧PgOk 60 (iB ex f n p sigs z).1.1∧(eW (iB ex f n p sigs z).1.2∧(iB ex f n p sigs z).1.2.length≤60)
 | 0,n,p,sigs,z,h,hp,hs,hn=>by
  rw[iB];exact⟨h,⟨⟨le_trans hp.d.1 hn,hp.d.2⟩,⟨le_trans hp.c.1 hn,hp.c.2⟩,⟨le_trans hp.i.1 hn,hp.i.2⟩,⟨le_trans hp.b.1 hn,hp.b.2⟩⟩,⟨hs.1,le_trans hs.2 hn⟩⟩
 | f+1,n,p,sigs,z,h,hp,hs,hn=>by
  rw[iB];split
  ·rename_i hm;obtain⟨_,j⟩:=dC hm;obtain⟨g1,g2,g3,_,_⟩:=sN hO hwt (h.more [] n) hp hs;exact yO hO hwt f (n+1) _ _ _ g1 g2 g3 j
  ·exact⟨h.more _ _,⟨⟨le_trans hp.d.1 hn,hp.d.2⟩,⟨le_trans hp.c.1 hn,hp.c.2⟩,⟨le_trans hp.i.1 hn,hp.i.2⟩,⟨le_trans hp.b.1 hn,hp.b.2⟩⟩,⟨hs.1,le_trans hs.2 hn⟩⟩
theorem PgOk.z (n:Nat):PgOk n zPg:=⟨⟨Ac _,fun d c=>(by cases c)⟩,⟨Ac _,fun d c=>(by cases c)⟩,⟨Ac _,fun d c=>(by cases c)⟩,⟨Ac _,trivial⟩⟩
theorem lM {L:List Tk}{ex:Nat→Z→Ex×Z}(hO:ExO L ex) (hwt:wt L≤30000) {z:Z}(h:ZA L z):ZA L (eT ex z).2∧PgOk 60 (eT ex z).1:=by
 obtain⟨g1,g2,g3⟩:=yO hO hwt (z.R.length+1) 0 zPg [] z h (.z 0) ⟨fun s hs=>(by cases hs),le_refl _⟩ (Ac _);obtain⟨j,q,r,_⟩:=fK (iB ex (z.R.length+1) 0 zPg [] z).1.2 (iB ex (z.R.length+1) 0 zPg [] z).1.1.binds _ g1 g3.1 g2.b.2;exact⟨j,⟨g2.d,g2.c,g2.i,⟨by show(dF _ _ _).1.length≤_;rw[r];exact g2.b.1,q⟩⟩⟩
theorem aCl (s:Str):b8 Tryz.prog 9 [Go.AM.T s] [] (.tup [.pa (mI (dK s).1),atV (dK s).2.1 (dK s).2.2]) []:=by
 have u:=aJm s;obtain⟨A,hwt,_,O⟩:=mS s;have q:=aCg (jR hwt (cL s).2.R.length) (aPv hwt _) hwt A (le_refl _);obtain⟨B,_⟩:=lM (jR hwt (cL s).2.R.length) hwt A;unfold dK fU;generalize cL s=M at u A hwt q B ⊢;obtain⟨L,z⟩:=M;dsimp only at u A hwt q B ⊢;have ho:=eO L z;refine bM (n:=27) tok Tryz.func9 rfl rfl rfl ?_;refine sg rfl (sk 1 rfl (kc u ?_));refine kz 1 rfl (sg rfl ?_);have j:∃y,y=(if z.e=0 then eT (aHf z.R.length) z else(zPg,z))∧ZA L y.2:=⟨_,rfl,by split<;>first | exact B | exact A⟩
 obtain⟨⟨p,I⟩,j,h1⟩:=j;rw[←j];dsimp only at h1 ⊢;refine aA (AWp.cut (mk [(2,.one (.vp 2 0)),(3,.one (.vp 3 0)),(4,xP),(5,.one (.vp 5 0))] [(700,zO L I),(2,.var 29 (aS2.map .c)),(3,.var 32 [.c (.int .i64 0),.c (.int .i64 0)]),(5,.var 29 ((mI p).map .c))]) ?_ ?_)
 ·refine sk 1 rfl (kc ho ?_);refine az ?_;by_cases he:z.e=0
  ·rw[θ he] at j;have d:decide (z.e=0)=true:=φ he;rw[←j] at q;refine aB rfl (fun _=>aC mixed (ak 1 [] rfl (kc q ?_))) (fun hb=>absurd (hb.symm.trans d) Bool.noConfusion);exact kz 1 rfl sl
  ·rw[ξ he] at j;have d:decide (z.e=0)=false:=ψ he;obtain⟨rfl,rfl⟩:=Prod.mk.inj j;refine aB rfl (fun hb=>absurd (hb.symm.trans d) Bool.noConfusion) (fun _=>aD (Sub.trans ?_ (vp 5 (mI zPg))));exact sl
 have E:=aQm h1;have h2:=h1.endz;generalize n8 I=z2 at E h2 ⊢;have J:=eO L z2;refine sk 1 rfl (kc E ?_);refine az (aA (sk 1 rfl (kc J ?_)));refine kz 1 rfl ?_;by_cases r:z2.e=0
 ·rw[θ r];have d:(!decide (z2.e=0))=false:=by rw[φ r];rfl
  exact aB rfl (fun hb=>absurd (hb.symm.trans d) Bool.noConfusion) (fun _=>aD (sg rfl (aE aDo)))
 ·rw[ξ r];have d:(!decide (z2.e=0))=true:=by rw[ψ r];rfl
  exact aB rfl (fun _=>sg rfl (aE aDo)) (fun hb=>absurd (hb.symm.trans d) Bool.noConfusion)
end Go.Proofs.YtpmheldmadendaaGreatDoor
namespace Go.Proofs.YtpmheldmadendaaGreatDoor
open Go
section
set_option maxRecDepth 100000
set_option maxHeartbeats 4000000
def rF (e p:Int):Value:=.iface 131 (.agg #[.int .i64 e,.int .i64 p])
theorem tZ (e p:Int) (w:World):Calls Tryz.prog 133 #[.int .i64 e,.int .i64 p] w fun c w'=>c=.panicked [{ v:=rF e p,recovered:=false }]∧w=w':=by
 go_enter Tryz.func133,Tryz.ntmps133
 go_wp2
 all_goals exact⟨rfl,⟨rfl,rfl⟩⟩
end
open Go.AM
theorem aI7 (e p:Int):aA8 Tryz.prog 133 [I .i64 e,I .i64 p] [] (rF e p):=by
 intro S μ w vals q j;have c:vals=[.int .i64 e,.int .i64 p]:=by
  simp only[aU] at j;obtain⟨v,vs,rfl,h1,v2,r,rfl,h2,rfl⟩:=j;simp only[aO,aT,Rep] at h1 h2;subst h1 h2;rfl
 subst c;refine(tZ e p w).mono fun u w' ⟨h1,h2⟩=>?_
 subst h2;exact⟨S,μ,[],h1,fun id o ho=>(by cases ho),q⟩
theorem bI (e p:Int):b8 Tryz.prog 81 [B true,I .i64 e,I .i64 p] [] (.tup []) []:=by
 refine bM (n:=11) tok Tryz.func81 rfl rfl rfl ?_;exact sg rfl (aB rfl (fun hb=>Bool.noConfusion hb) (fun _=>aD rtN))
theorem bJ (e p:Int):aA8 Tryz.prog 81 [B false,I .i64 e,I .i64 p] [] (rF e p):=by
 have c:=aI7 e p;refine aMe (n:=11) Tryz.func81 rfl rfl rfl rfl ?_;exact sg rfl (aB rfl (fun _=>aC mixed (ak 2 [] rfl (kp c))) (fun hb=>Bool.noConfusion hb))
def rP:V:=.one (.vp 600 0)
def rO (L:List Tk) (z:Z):AObj:=.var 136 [.c (.sl 4 (L.map aG)),.c (.int .i64 ((L.length-z.R.length:Nat):Int))]
def fL (L:List Tk) (res:V) (z:Z) (hs:List (Nat×AObj)):Except Value (V×List (Nat×AObj)):=if z.e=0 then .ok (res,(600,rO L z)::hs) else .error (rF z.e z.p)
theorem b7 {L:List Tk}{res:V}{z:Z}{hs:List (Nat×AObj)}(h:z.e=0):fL L res z hs=.ok (res,(600,rO L z)::hs):=θ h
theorem aI {L:List Tk}{res:V}{z:Z}{hs:List (Nat×AObj)}(h:¬z.e=0):fL L res z hs=.error (rF z.e z.p):=ξ h
theorem bB.ok {P:Program}{f:FuncId}{args:List V}{hin:List (Nat×AObj)}{L:List Tk}{res:V}{z:Z}{hs:List (Nat×AObj)}(h:bB P f args hin (fL L res z hs)) (he:z.e=0):b8 P f args hin res ((600,rO L z)::hs):=by rw[b7 he] at h;exact h
theorem bB.err {P:Program}{f:FuncId}{args:List V}{hin:List (Nat×AObj)}{L:List Tk}{res:V}{z:Z}{hs:List (Nat×AObj)}(h:bB P f args hin (fL L res z hs)) (he:¬z.e=0):aA8 P f args hin (rF z.e z.p):=by rw[aI he] at h;exact h
theorem dH {L:List Tk}{z:Z}(h:ZA L z):b8 Tryz.prog 82 [rP] [(600,rO L z)] (tkV (aX z)) [(600,rO L z)]:=by
 have hl:=aY aG h.now;have c:(L.map aG).length=L.length:=η _;have j:=h.lt;have q:=h.l;refine bM (n:=13) tok Tryz.func82 rfl rfl rfl ?_;exact sg rfl (sgh [(8,.row (L.length-z.R.length) (aG (aX z)))] rfl (aE (rtC trw)))
theorem lH {L:List Tk}{z:Z}(h:ZA L z) (s:Str):b8 Tryz.prog 134 [rP,Go.AM.T s] [(600,rO L z)] (B (isZ s z)) [(600,rO L z)]:=by
 have hn:=dH h;unfold isZ;generalize aX z=t at hn ⊢;unfold isK;refine bM (n:=24) tok Tryz.func134 rfl rfl rfl ?_;refine sg rfl (sk 3 rfl (kc hn ?_));refine kz 2 rfl ?_;by_cases c:t.kind=4
 ·have d4:decide (t.kind=4)=true:=φ c;rw[d4,Bx,Bz];exact sgh [(3,.bv true),(7,.bv true),(8,.bv true),(13,.bv true)] rfl (aE rtT)
 have d4:decide (t.kind=4)=false:=ψ c;rw[d4,Az];by_cases j:t.kind=5
 ·have d5:decide (t.kind=5)=true:=φ j;rw[d5,Bz];exact sgh [(3,.bv false),(7,.bv false),(8,.bv true),(13,.bv true)] rfl (aE rtT)
 ·have d5:decide (t.kind=5)=false:=ψ j;rw[d5,Bw];exact sgh [(3,.bv false),(7,.bv false),(8,.bv false),(13,.bv false)] rfl (aE rtT)
theorem eJ {L:List Tk}{z:Z}(h:ZA L z) (he:z.e=0) (s:Str):b8 Tryz.prog 86 [rP,Go.AM.T s] [(600,rO L z)] (B (bP s z).1) [(600,rO L (bP s z).2)]:=by
 have hi:=lH h s;have c:= @iU s (aX z);have r:=h.l;refine bM (n:=20) tok Tryz.func86 rfl rfl rfl ?_;refine sg rfl (sk 2 rfl (kc hi ?_));refine kz 1 rfl (aA (sg rfl ?_));unfold bP;cases q:isZ s z with
 | false=>
  rw[ξ (fun h=>by cases h.2)];exact aB rfl (fun hb=>Bool.noConfusion hb) (fun _=>aD (sg rfl (aE rtT)))
 | true=>
  rw[θ ⟨he,rfl⟩];have j:isK s (aX z)=true:=q;obtain⟨_,hn⟩:=h.tl (c j) z.e z.p;unfold rO;dsimp only;rw[hn];exact aB rfl (fun _=>agN [] rfl (sg rfl (aE rtT))) (fun hb=>Bool.noConfusion hb)
theorem cQ {L:List Tk}{z:Z}(h:ZA L z) (he:z.e=0) (s:Str):bB Tryz.prog 138 [rP,Go.AM.T s] [(600,rO L z)] (fL L (.tup []) (aQ s z) []):=by
 have hm:=eJ h he s;have j:= @gU s z;have h1:=h.may s;have q:=gR s z;have hn:=dH h1;have r:aQ s z=if(bP s z).1=true then(bP s z).2 else bS 12 (aX z).pl z:=rfl
 rw[r];generalize bP s z=m at hm j h1 hn q ⊢;obtain⟨b,c⟩:=m;dsimp only at hm j h1 hn q ⊢;cases b with
 | true=>
  have u:=bI 12 (aX c).pl;rw[θ rfl,b7 (q.trans he)];refine bM (n:=13) tok Tryz.func138 rfl rfl rfl ?_;refine aC mixed (ak 2 [] rfl (kc hm ?_));refine ak 3 [] rfl (kc hn ?_);refine ak 1 [] rfl (kc u ?_);exact az rtN
 | false=>
  obtain rfl:=j rfl;have y:=bJ 12 (aX c).pl;have A:bS 12 (aX c).pl c=⟨c.R,12,(aX c).pl⟩:=θ he;rw[ξ ω,A,aI (show ¬(12:Int)=0 by decide)];refine aMe (n:=13) Tryz.func138 rfl rfl rfl rfl ?_;refine aC mixed (ak 2 [] rfl (kc hm ?_));refine ak 3 [] rfl (kc hn ?_);refine ak 1 [] rfl (kpD (.tup []) [] y ?_);exact az trivial
end Go.Proofs.YtpmheldmadendaaGreatDoor
namespace Go.Proofs.YtpmheldmadendaaGreatDoor
open Go Go.AM
set_option maxRecDepth 20000
set_option maxHeartbeats 4000000
theorem gK {L:List Tk}{z:Z}(h:ZA L z) (he:z.e=0) (k:Int) (u:¬k=6):bB Tryz.prog 135 [rP,I .i64 k] [(600,rO L z)] (fL L (tkV (aR k z).1) (aR k z).2 []):=by
 have hn:=dH h;have j:=h.tl;have y:=h.l;unfold aR;by_cases c:(aX z).kind=k
 ·have d:decide ((aX z).kind=k)=true:=φ c;have hm:=bI 12 (aX z).pl;rw[θ ⟨he,c⟩];dsimp only;rw[b7 (show(Z.mk z.R.tail z.e z.p).e=0 from he)];obtain⟨_,q⟩:=j (by rw[c];exact u) z.e z.p;unfold rO;dsimp only;rw[q];refine bM (n:=27) tok Tryz.func135 rfl rfl rfl ?_;refine sg rfl (sk 3 rfl (kc hn ?_));refine kz 2 rfl (sk 6 rfl ?_);rw[d];refine kc hm ?_;exact az (aA (agN [] rfl (sg rfl (aE (rtC trw)))))
 ·have d:decide ((aX z).kind=k)=false:=ψ c;have hm:=bJ 12 (aX z).pl;have r:bS 12 (aX z).pl z=⟨z.R,12,(aX z).pl⟩:=θ he;rw[ξ (fun h=>c h.2),r];dsimp only;rw[aI (show ¬(12:Int)=0 by decide)];refine aMe (n:=27) Tryz.func135 rfl rfl rfl rfl ?_;refine sg rfl (sk 3 rfl (kc hn ?_));refine kz 2 rfl (sk 6 rfl ?_);rw[d];exact kp hm
theorem mN {L:List Tk}{z:Z}(h:ZA L z) (he:z.e=0):b8 Tryz.prog 136 [rP] [(600,rO L z)] (.one (.c (.sl 4 ((aV z).1.map aG)))) [(600,rO L (aV z).2)]:=by
 refine bM (n:=16) tok Tryz.func136 rfl rfl rfl ?_;refine sg rfl (sg rfl (AWp.sub (Sub.own (t:=3) (id:=500) 139 4 rfl rfl) ?_));refine aA (aF (aK (fun q:List Tk×Z=>mk [(0,rP),(3,.one (.hs 500 0 q.1.length q.1.length))] [(600,rO L q.2),(500,.arr 139 4 (q.1.map aG) 0)]) (fun q=>ZA L q.2∧q.2.e=0∧q.1.length+q.2.R.length≤4001∧q.1++(aV q.2).1=(aV z).1∧(aV q.2).2=(aV z).2) (fun q=>q.2.R.length) ([],z) ⟨h,he,by dsimp only;have:=h.len;rw[length_nil];omega,rfl,rfl⟩ sl ?_));clear he;rintro⟨out,M⟩ ⟨j,he,hlen,B,E⟩;dsimp only at j he hlen B E ⊢;rw[←B,←E];clear B E;have hout:(out.map aG).length=out.length:=η _;have hn:=dH j;have hw:=gK j he 1 (by decide);obtain⟨R,e,p⟩:=M;obtain⟨t,R,rfl⟩:=j.e.ne;have he:e=0:=he;have A:aX (Z.mk (t::R) e p)=t:=rfl;rw[A] at hn;refine aA (sk 3 rfl (kc hn ?_));refine kz 2 rfl (aB rfl (fun hb=>?_) (fun hb=>?_))
 ·have r:t.kind=1:=χ hb;have hl:wE t=true:=hb;have O:aR 1 (Z.mk (t::R) e p)=(t,⟨R,e,p⟩):=by unfold aR;rw[θ ⟨he,r⟩];rfl
  rw[O] at hw;have hw:=bB.ok (z:=⟨R,e,p⟩) hw he;have h2:ZA L ⟨R,e,p⟩:=(j.tl (by rw[A,r];decide) e p).1
  have I:aV ⟨t::R,e,p⟩=(t::(aV ⟨R,e,p⟩).1,(aV ⟨R,e,p⟩).2):=by
   unfold aV;rw[θ he,θ he];show((t::R).takeWhile wE,Z.mk ((t::R).dropWhile wE) _ _)=_;rw[takeWhile_cons,θ hl,B4,θ hl]
  have J:out.length+(R.length+1)≤4001:=hlen;refine aD (aF (aC mixed (ak 2 [] rfl (kc hw ?_))));refine ak 3 [(3,.all)] rfl (az ?_);have y:out.map aG++[aG t]=(out++[t]).map aG:=by rw[Ai];rfl
  have u:(out++[t]).length=out.length+1:=by rw[ζ];rfl
  refine⟨(out++[t],⟨R,e,p⟩),⟨h2,he,by dsimp only;rw[u];omega,by rw[I];simp,by rw[I]⟩,Bk _,?_⟩;exact sl (he:=⟨rfl,Go.AM.hs_ren (by rw[u,←hout];rfl) (by rw[u,←hout];rfl),trivial⟩) (hh:=⟨⟨_,rfl,.var rfl⟩,⟨_,rfl,.arrS y⟩,trivial⟩)
 ·have r:¬wE t=true:=fun h=>by rw[show wE t=false from hb] at h;cases h
  refine aH (AWp.sub (Sub.freeze (id:=500) rfl) ?_);refine sg rfl ?_;unfold aV;rw[θ he];dsimp only;rw[takeWhile_cons,ξ r,Cc,B4,ξ r];exact aE (rtH (hsz:=hout.symm) (hlen:=hout.symm))
theorem sQ (l:List Tk) (hl:l.length≤4001):b8 Tryz.prog 137 [.one (.c (.sl 4 (l.map aG)))] [] (cM (l.map (·.text))) []:=by
 have q:(l.map aG).length=l.length:=η _;refine bM (n:=19) tok Tryz.func137 rfl rfl rfl ?_;refine sg rfl (sg rfl (AWp.sub (Sub.own (t:=3) (id:=500) 9 1 rfl rfl) ?_));refine aA (sg rfl (aF (aK (fun i:Nat=>mk [(3,.one (.hs 500 0 i i)),(6,.one (.c (.sl 4 (l.map aG)))),(7,I .i64 ((l.map aG).length:Nat)),(8,I .i64 (i:Nat))] [(500,.arr 9 1 (((l.take i).map (·.text)).map bE) 0)]) (fun i=>i≤l.length) (fun i=>l.length-i) 0 (Ac _) sl ?_)));intro i hi;have j:(((l.take i).map (·.text)).map bE).length=i:=by rw[η,η,Am];omega
 refine sg rfl (aA (aB rfl (fun hb=>?_) (fun hb=>?_)))
 ·have r:=ltD hb q;obtain⟨t,ht⟩:=aN r;have A:=aY aG ht;have u:((l.take (i+1)).map (·.text)).map bE=((l.take i).map (·.text)).map bE++[[.str t.text]]:=by rw[A7,ht,Ai,Ai];rfl
  exact aD (aA (aF (sgh [(0,.row i (aG t))] rfl (ag [(3,.all)] rfl (agN [] rfl ⟨i+1,r,by dsimp only;omega,sl (he:=⟨Go.AM.hs_ren (congrArg (· +1) j) (congrArg (· +1) j),rfl,rfl,rfl,trivial⟩) (hh:=⟨⟨_,rfl,.arrS u.symm⟩,trivial⟩)⟩)))))
 ·have y:=geD hb q hi;subst y;rw[Aq] at j ⊢;refine aH (AWp.sub (Sub.freeze (id:=500) rfl) ?_);exact sg rfl (aE (rtH (hsz:=j.symm) (hlen:=j.symm)))
theorem aJo {L:List Tk}{z:Z}(h:ZA L z) (he:z.e=0) (hZ:o5 L):bB Tryz.prog 140 [rP] [(600,rO L z)] (fL L (tyV (eQ z).1) (eQ z).2 []):=by
 have c:=aJn L hZ z.R _ h;have j:=dP (3*z.R.length) 0 z.R;unfold eQ;generalize cX (3*z.R.length) 0 z.R=w at c j ⊢;cases w with
 | error e=>
  obtain⟨e,p⟩:=e;have q:=j e p rfl;have hm:=bJ e p;have d:decide (e=0)=false:=ψ q;unfold tpV atV at c;dsimp only[atZ];rw[aI (show ¬(Z.mk z.R e p).e=0 from q)];refine aMe (n:=35) Tryz.func140 rfl rfl rfl rfl ?_;refine sg rfl (sk 10 rfl (kc c ?_));refine kz 9 rfl (sk 7 rfl ?_);rw[d];exact kp hm
 | ok y=>
  obtain⟨x,R'⟩:=y;have hm:=bI 0 0;rw[iZ] at c;unfold atV at c;dsimp only[atZ];rw[b7 (show(Z.mk R' z.e z.p).e=0 from he)];refine bM (n:=35) tok Tryz.func140 rfl rfl rfl ?_;refine sg rfl (sk 10 rfl (kc c ?_));refine kz 9 rfl (sk 7 rfl (kc hm ?_));exact az (sg rfl (sg rfl (aE (rtC trw))))
theorem vG {L:List Tk}{z:Z}(h:ZA L z) (he:z.e=0) (hZ:o5 L):bB Tryz.prog 141 [rP] [(600,rO L z)] (fL L (.one (.c (.sl 5 ((bK z).1.map aM)))) (bK z).2 []):=by
 have j:=sT L hZ z.R _ h;have q:= @fV z.R;unfold bK;rw[θ he];generalize dA z.R=w at j q ⊢;cases w with
 | error e=>
  obtain⟨e,p⟩:=e;have r:=q rfl;have hm:=bJ e p;have d:decide (e=0)=false:=ψ r;unfold aN4 atV at j;dsimp only[aSf];rw[aI (show ¬(Z.mk z.R e p).e=0 from r)];refine aMe (n:=35) Tryz.func141 rfl rfl rfl rfl ?_;refine sg rfl (sk 10 rfl (kc j ?_));refine kz 8 rfl (sk 7 rfl ?_);rw[d];exact kp hm
 | ok y=>
  obtain⟨x,R'⟩:=y;have hm:=bI 0 0;rw[nI] at j;unfold atV at j;dsimp only[aSf];rw[b7 (show(Z.mk R' z.e z.p).e=0 from he)];refine bM (n:=35) tok Tryz.func141 rfl rfl rfl ?_;refine sg rfl (sk 10 rfl (kc j ?_));refine kz 8 rfl (sk 7 rfl (kc hm ?_));exact az (sg rfl (sg rfl (aE rtT)))
theorem kM {L:List Tk}{z:Z}(h:ZA L z) (he:z.e=0) (hZ:o5 L) (hwt:wt L≤30000):bB Tryz.prog 144 [rP] [(600,rO L z)] (fL L (.pa (eH (bO z).1)) (bO z).2 []):=by
 have c:=aGc L hZ z.R _ h hwt;have j:= @pD z.R;unfold bO;rw[θ he];generalize cW z.R=w at c j ⊢;cases w with
 | error e=>
  obtain⟨e,p⟩:=e;have q:=j rfl;have hm:=bJ e p;have d:decide (e=0)=false:=ψ q;unfold spV atV at c;dsimp only[aOq];rw[aI (show ¬(Z.mk z.R e p).e=0 from q)];refine aMe (n:=35) Tryz.func144 rfl rfl rfl rfl ?_;refine sg rfl (sk 10 rfl (kc c ?_));refine kz 9 rfl (sk 7 rfl ?_);rw[d];exact kp hm
 | ok y=>
  obtain⟨x,R'⟩:=y;have hm:=bI 0 0;rw[aKf] at c;unfold atV at c;dsimp only[aOq];rw[b7 (show(Z.mk R' z.e z.p).e=0 from he)];refine bM (n:=35) tok Tryz.func144 rfl rfl rfl ?_;refine sg rfl (sk 10 rfl (kc c ?_));refine kz 9 rfl (sk 7 rfl (kc hm ?_));exact az (sg rfl (sg rfl (aE (rtC trw))))
theorem aGa {L:List Tk}{z:Z}(h:ZA L z):b8 Tryz.prog 139 [rP] [(600,rO L z)] (B (aK2 z)) [(600,rO L z)]:=by
 have hn:=dH h;have hi:=lH h c8;unfold aK2;refine bM (n:=19) tok Tryz.func139 rfl rfl rfl ?_;refine sg rfl (sk 3 rfl (kc hn ?_));refine kz 2 rfl ?_;by_cases h1:(aX z).kind=1
 ·have d1:decide ((aX z).kind=1)=true:=φ h1;rw[d1,Bx];exact sgh [(2,.bv true),(5,.bv true),(6,.bv true),(9,.bv true)] rfl (aE rtT)
 have d1:decide ((aX z).kind=1)=false:=ψ h1;rw[d1,Az];by_cases h2:(aX z).kind=2
 ·have d2:decide ((aX z).kind=2)=true:=φ h2;rw[d2,Bx];exact sgh [(2,.bv false),(5,.bv false),(6,.bv true),(9,.bv true)] rfl (aE rtT)
 ·have d2:decide ((aX z).kind=2)=false:=ψ h2;rw[d2,Az];refine skh 8 [(2,.bv false),(5,.bv false),(6,.bv false)] rfl (kcG hi ?_);exact ak 2 [(6,.bv false),(9,.bv false)] rfl (az (aE rtT))
section
variable {z:Z}(h:¬z.e=0)
include h
theorem kB {s:Str}:bP s z=(false,z):=ξ fun k=>h k.1
theorem kO {k:Int}:(aR k z).2=z:=by
 unfold aR;rw[ξ (fun k=>h k.1)];exact eV h
theorem kA:aV z=([],z):=ξ h
theorem dM {n m:Nat}{a:Int}:c7 n m a z=z:=by
 unfold c7;split
 ·exact eV h
 ·rfl
theorem rD:bO z=(nQ,z):=ξ h
theorem rE {f:Nat}{out:List Ty}:cA f out z=(out,z):=jQ fun k=>h k.1
theorem aGf {s:Str}{n:Nat}:moreA s n z=z:=ξ fun k=>h k.2.1
theorem kP:cN z=z:=ξ h
theorem aJw {s:Str}{n:Nat}:b5 s n z=(false,z):=by
 unfold b5;rw[aGf h,kP h,θ (.inl h)]
end
theorem fC {n m:Nat}{a:Int}{z:Z}(h:n≤m):c7 n m a z=z:=ξ (by omega)
theorem fD {n m:Nat}{a:Int}{z:Z}(h:¬n≤m) (he:z.e=0):c7 n m a z=⟨z.R,2,a⟩:=(θ (by omega)).trans (θ he)
theorem cC:¬(2:Int)=0:=by decide
theorem vQ {W:List Cn×Z}{f:Nat}{a a2:Int}{out:List Cn}{fs:List Ty}{z:Z}{m:Nat}(h:¬z.e=0)
  (c:W=if(bP tK (c7 m 16 a (c7 fs.length 8 a2 z))).1=true then jV f a out (bP tK (c7 m 16 a (c7 fs.length 8 a2 z))).2 else(out,(bP tK (c7 m 16 a (c7 fs.length 8 a2 z))).2)):W.2=z:=by
 rw[dM h,dM h,kB h,ξ ω] at c;rw[c]
def aTh:List (Nat×V):=[(0,rP),(2,.one (.vp 2 0)),(3,.one (.vp 3 0)),(5,.one (.vp 5 0)),(7,.one (.vp 7 0)),(8,.one (.vp 8 0))]
def aTg (L:List Tk) (z:Z) (nm:Tk) (vs:List Tk) (out:List Cn) (cn:Tk) (fs:List Ty):List (Nat×AObj):=[(600,rO L z),(2,.var 81 [.c (.str []),.c (.int .i64 0),.c .nl,.c .nl,.c .nl]),(3,.var 139 ((aG nm).map .c)),(5,.var 81 [.c (.str nm.text),.c (.int .i64 nm.pl),.c (.sl 1 ((vs.map (·.text)).map bE)),.c .nl,.hs 502 0 out.length out.length]),(7,.var 139 ((aG cn).map .c)),(8,.var 84 [.c (.str cn.text),.c (.int .i64 cn.pl),.hs 501 0 fs.length fs.length]),(501,.arr 47 4 (fs.map bL) 0),(502,.arr 84 3 (out.map fE) 0)]
theorem aM4 {L:List Tk}{z:Z}(h:ZA L z) (he:z.e=0) (hZ:o5 L):bB Tryz.prog 87 [rP] [(600,rO L z)] (fL L (.pa (fM (kT z).1)) (kT z).2 []):=by
 have hw:=gK h he 2 (by decide);have h1:=h.word (k:=2) (by decide);unfold kT kU;generalize aR 2 z=x1 at hw h1 ⊢;obtain⟨u,y⟩:=x1;dsimp only at hw h1 ⊢;refine mG (n:=68) tok Tryz.func87 rfl rfl rfl rfl ?_;refine sg rfl ?_;by_cases r:y.e=0
 case neg=>
  have hp:=bB.err hw r;have hb:(jU (u,(aV y).1,aQ eqS (c7 (aV y).1.length 8 u.pl (aV y).2))).2=y:=by
   rw[kA r,dM r,bD r];unfold jU;dsimp only;rw[ξ r]
  rw[hb,aI r];exact sk 1 rfl (kp hp)
 have hw:=bB.ok hw r;have aa:=mN h1 r;have h2:=h1.words;have Y:(aV y).2.e=0:=by unfold aV;rw[θ r];exact r
 have ac:=dT h1;generalize aV y=x2 at aa h2 ac Y ⊢;obtain⟨vs,z2⟩:=x2;dsimp only at aa h2 ac Y ⊢;have hvk:(vs.map aG).length=vs.length:=η _;refine sk 1 rfl (kc hw ?_);refine kz 2 rfl (sk 1 rfl (kc aa ?_));refine kz 1 rfl ?_;by_cases hv8:vs.length≤8
 case neg=>
  have d:decide (((vs.length:Nat):Int)≤8)=false:=ψ (by omega);have hb:(jU (u,vs,aQ eqS (c7 vs.length 8 u.pl z2))).2=⟨z2.R,2,u.pl⟩:=by
   rw[fD hv8 Y,bD cC];unfold jU;dsimp only;rw[ξ cC]
  rw[hb,aI cC];have hm:=bJ 2 u.pl;refine sk 5 rfl ?_;rw[hvk,d];exact kp hm
 have d:decide (((vs.length:Nat):Int)≤8)=true:=φ (by omega);have hm:=bI 2 u.pl;rw[fC hv8];refine sk 5 rfl ?_;rw[hvk,d];refine kc hm ?_;refine az ?_;have htx:=sQ vs ac;refine sk 5 rfl (kc htx ?_);refine kz 3 rfl ?_;have U:=cQ h2 Y eqS;have h4:=h2.need eqS;generalize aQ eqS z2=z4 at U h4 ⊢;by_cases J:z4.e=0
 case neg=>
  have hp:=bB.err U J;have hb:(jU (u,vs,z4)).2=z4:=by unfold jU;dsimp only;rw[ξ J]
  rw[hb,aI J];exact sk 1 rfl (kp hp)
 have U:=bB.ok U J;refine sk 1 rfl (kc U ?_);refine az (aA (sg rfl (AWp.sub (Sub.ownCell (x:=5) (k:=4) (id:=502) 84 3 rfl rfl rfl) ?_)));have hWx:∃W,W=jU (u,vs,z4):=⟨_,rfl⟩
 obtain⟨W,j⟩:=hWx;rw[←j];have hlen4:=h4.len;have j:W=jV (z4.R.length+1) u.pl [] z4:=by rw[j];exact θ J
 refine aF (aK (fun q:Bool×List Cn×Z×Nat=>mk [(0,rP),(2,.one (.vp 2 0)),(3,.one (.vp 3 0)),(5,.one (.vp 5 0)),(6,B q.1)] [(600,rO L q.2.2.1),(2,.var 81 [.c (.str []),.c (.int .i64 0),.c .nl,.c .nl,.c .nl]),(3,.var 139 ((aG u).map .c)),(5,.var 81 [.c (.str u.text),.c (.int .i64 u.pl),.c (.sl 1 ((vs.map (·.text)).map bE)),.c .nl,.hs 502 0 q.2.1.length q.2.1.length]),(502,.arr 84 3 (q.2.1.map fE) 0)]) (fun q=>ZA L q.2.2.1∧q.2.2.1.e=0∧((q.1=true∧W=jV q.2.2.2 u.pl q.2.1 q.2.2.1∧q.2.2.1.R.length<q.2.2.2∧q.2.1.length+q.2.2.1.R.length≤4001)∨(q.1=false∧W=(q.2.1,q.2.2.1)))) (fun q=>if q.1=true then q.2.2.1.R.length+1 else 0) (true,[],z4,z4.R.length+1) ⟨h4,J,.inl ⟨rfl,j,by dsimp only;omega,by dsimp only;rw[length_nil];omega⟩⟩ sl ?_);clear j hw h1 aa h2 htx h4 J Y r U hm h he hlen4;rintro⟨more,out,z0,f⟩ ⟨h,he,hinv⟩;dsimp only at h he hinv ⊢;have hout:(out.map fE).length=out.length:=η _;refine aA (sg rfl ?_);rcases hinv with⟨hm,j,hf,hol⟩ | ⟨hm,j⟩
 case inr=>
  subst hm;refine aB rfl (fun hb=>absurd hb (by decide)) (fun _=>aH (AWp.sub (Sub.freeze (id:=502) rfl) ?_));refine sg rfl ?_;rw[j,b7 he];exact aE (rtC trw)
 subst hm;obtain⟨f,rfl⟩:∃g,f=g+1:=⟨f-1,by omega⟩
 rw[jV] at j;unfold rA at j;have hw:=gK h he 2 (by decide);have h1:=h.word (k:=2) (by decide);have l1:=Ze.word 2 z0;generalize aR 2 z0=x1 at hw h1 l1 j;obtain⟨A,y⟩:=x1;dsimp only at hw h1 l1 j;refine aB rfl (fun _=>aD ?_) (fun hb=>absurd hb (by decide));by_cases r:y.e=0
 case neg=>
  have hp:=bB.err hw r;rw[rE r] at j;rw[vQ r j,aI r];exact aA (aF (sk 1 rfl (kp hp)))
 have hw:=bB.ok hw r;refine aA (aF (sk 1 rfl (kc hw ?_)));refine kz 2 rfl (sg rfl (AWp.sub (Sub.ownCell (x:=8) (k:=2) (id:=501) 47 4 rfl rfl rfl) ?_));have hlen1:=h1.len;have hFx:∃F,F=cA (y.R.length+1) [] y:=⟨_,rfl⟩
 obtain⟨F,E⟩:=hFx;rw[←E] at j;refine aA (aF (aK (fun q:List Ty×Z×Nat=>mk aTh (aTg L q.2.1 u vs out A q.1)) (fun q=>ZA L q.2.1∧q.2.1.e=0∧F=cA q.2.2 q.1 q.2.1∧q.2.1.R.length<q.2.2∧q.1.length+q.2.1.R.length≤4001∧q.2.1.R.length≤y.R.length) (fun q=>q.2.1.R.length+1) ([],y,y.R.length+1) ⟨h1,r,E,by dsimp only;omega,by dsimp only;rw[length_nil];omega,le_refl _⟩ sl ?_));clear E hw h1 hlen1 r h he;rintro⟨fs,z,g⟩ ⟨h,he,E,hg,hol2,hk4⟩;dsimp only at h he E hg hol2 hk4 ⊢;have ad:(fs.map bL).length=fs.length:=η _;have hbg:=aGa h;refine aA (sk 1 rfl (kc hbg ?_));refine az (aB rfl (fun hb=>?_) (fun hb=>?_))
 ·have ha:=aJo h he hZ;obtain⟨g1,g2,g3,g4,g5⟩:=sX h;obtain⟨g,rfl⟩:∃k,g=k+1:=⟨g-1,by omega⟩
  rw[cA,θ ⟨he,hb⟩] at E;have hlp:=h.lp;generalize eQ z=x at ha g1 g2 g3 g4 g5 E;obtain⟨x,z'⟩:=x;dsimp only at ha g1 g2 g3 g4 g5 E;refine aD ?_;by_cases M:z'.e=0
  case neg=>
   have hp:=bB.err ha M;rw[rE M] at E;rw[E] at j;rw[vQ M j,aI M];refine aF (aC mixed (ak 3 [] rfl (kpD (tyV zTy) [(600,rO L z)] hp ?_)));exact ak 4 [(1,.all)] rfl (az trivial)
  have ha:=bB.ok ha M;refine aF (aC mixed (ak 3 [] rfl (kc ha ?_)));refine ak 4 [(1,.all)] rfl (az ?_);have I:fs.map bL++[bL x]=(fs++[x]).map bL:=by rw[Ai];rfl
  have hle:(fs++[x]).length=fs.length+1:=by rw[ζ];rfl
  have g5':z'.R.length≤z.R.length:=g5;have hlt:=g4 M;refine⟨(fs++[x],z',g),⟨g1,M,E,by dsimp only;omega,by dsimp only;rw[hle];omega,by dsimp only;omega⟩,by dsimp only;omega,?_⟩;exact sl (he:=⟨rfl,rfl,rfl,rfl,rfl,rfl,trivial⟩) (hh:=⟨⟨_,rfl,.var rfl⟩,⟨_,rfl,.var rfl⟩,⟨_,rfl,.var rfl⟩,⟨_,rfl,.var rfl⟩,⟨_,rfl,.var rfl⟩,⟨_,rfl,.var (by rw[hle,←ad];rfl)⟩,⟨_,rfl,.arrS I⟩,⟨_,rfl,Go.AM.Ole.arr⟩,trivial⟩)
 ·have hb':¬(z.e=0∧aK2 z=true):=fun hh=>by rw[hh.2] at hb;cases hb
  rw[jQ hb'] at E;subst E;dsimp only at j;refine aH (AWp.sub (Sub.freeze (id:=501) rfl) ?_);refine AWp.sub (vp 8 [.str A.text,.int .i64 A.pl,.sl 4 (fs.map bL)] (hp:=.c .refl (.c .refl (.hs rfl ad.symm (Go.AM.take_all ad.symm) .nil)))) ?_;by_cases hf8:fs.length≤8
  case neg=>
   have d:decide ((((fs.map bL).length:Nat):Int)≤8)=false:=ψ (by omega);rw[fD hf8 he,dM cC,kB cC,ξ ω] at j;rw[j,aI cC];have hm:=bJ 2 A.pl;refine sk 6 rfl ?_;rw[d];exact kp hm
  rw[fC hf8] at j;have d:decide ((((fs.map bL).length:Nat):Int)≤8)=true:=φ (by omega);have hm:=bI 2 A.pl;refine sk 6 rfl ?_;rw[d];refine kc hm ?_;refine az ?_;have I:out.map fE++[[.str A.text,.int .i64 A.pl,.sl 4 (fs.map bL)]]=(out++[(⟨A.text,A.pl,fs⟩:Cn)]).map fE:=by rw[Ai];rfl
  have hle:(out++[(⟨A.text,A.pl,fs⟩:Cn)]).length=out.length+1:=by rw[ζ];rfl
  generalize hO:out++[(⟨A.text,A.pl,fs⟩:Cn)]=O at j I hle;refine sgh [(3,.all)] rfl (AWp.sub (st2:=mk [(0,rP),(2,.one (.vp 2 0)),(3,.one (.vp 3 0)),(5,.one (.vp 5 0))] [(600,rO L z),(2,.var 81 [.c (.str []),.c (.int .i64 0),.c .nl,.c .nl,.c .nl]),(3,.var 139 ((aG u).map .c)),(5,.var 81 [.c (.str u.text),.c (.int .i64 u.pl),.c (.sl 1 ((vs.map (·.text)).map bE)),.c .nl,.hs 502 0 O.length O.length]),(502,.arr 84 3 (O.map fE) 0)]) (sl (hh:=⟨⟨_,rfl,.var rfl⟩,⟨_,rfl,.var rfl⟩,⟨_,rfl,.var rfl⟩,⟨_,rfl,.var (by rw[hle,←hout];rfl)⟩,⟨_,rfl,.arrS I⟩,trivial⟩)) ?_);by_cases ho:O.length≤16
  case neg=>
   have d:decide (((O.length:Nat):Int)≤16)=false:=ψ (by omega);rw[fD ho he,kB cC,ξ ω] at j;rw[j,aI cC];have hm:=bJ 2 u.pl;refine aC mixed (ak 6 [] rfl ?_);rw[d];exact kp hm
  rw[fC ho] at j;have d:decide (((O.length:Nat):Int)≤16)=true:=φ (by omega);have hm:=bI 2 u.pl;refine aC mixed (ak 6 [] rfl ?_);rw[d];refine kc hm ?_;refine az ?_;have hm:=eJ h he tK;have h7:=h.may tK;have ab:=(gR tK z).trans he;have l7:=eG h (s:=tK);generalize bP tK z=m at hm h7 l7 j ab;obtain⟨b,z7⟩:=m;dsimp only at hm h7 l7 j ab;refine aC mixed (ak 1 [] rfl (kc hm ?_));refine kz 1 rfl ?_;have l1':y.R.length≤z0.R.length:=l1;cases b with
  | true=>
   rw[θ rfl] at j;have:=l7 rfl;exact⟨(true,O,z7,f),⟨h7,ab,.inl ⟨rfl,j,by dsimp only;omega,by dsimp only;omega⟩⟩,by dsimp only;rw[θ rfl,θ rfl];omega,sl⟩
  | false=>
   rw[ξ (by decide)] at j;exact⟨(false,O,z7,f),⟨h7,ab,.inr ⟨rfl,j⟩⟩,by dsimp only;rw[ξ (by decide),θ rfl];omega,sl⟩
def aKc (L:List Tk):Prop:=∀t∈L,¬t.kind=3→t.n=0
theorem aIg {c:UInt8}{r:Str}{k:Int}{t:Str}{v:Int}(h:o8 (c::r)=.ok (k,t,v)) (j:¬k=3):v=0:=by
 rw[o8] at h;split at h
 ·split at h
  ·cases h
  ·cases h;exact absurd rfl j
 split at h
 ·unfold s9 at h;split at h
  ·cases h
  split at h
  ·cases h;rfl
  split at h
  ·cases h;rfl
  ·cases h;rfl
 split at h
 ·cases h
 ·cases h;rfl
theorem sC:∀(f a:Nat) (s:Str) (l:List Tk),n6 f a s=.ok l→aKc l
 | 0,a,s,l,h=>by
  rw[n6] at h;cases h;intro t ht;rw[A4.1 ht];exact fun _=>rfl
 | f+1,a,[],l,h=>by
  rw[n6] at h;cases h;intro t ht;rw[A4.1 ht];exact fun _=>rfl
 | f+1,a,c::r,l,h=>by
  rw[n6] at h;split at h
  ·exact sC f _ _ l h
  ·cases ho:o8 (c::r) with
   | error e=>rw[ho] at h;cases h
   | ok y=>
    obtain⟨k,t,v⟩:=y;rw[ho] at h;dsimp only at h;cases j:n6 f (a+t.length) ((c::r).drop t.length) with
    | error e=>rw[j,v7] at h;cases h
    | ok q=>
     rw[j,v7] at h;cases h;intro u hu;rcases Ap.1 hu with rfl | hu
     ·exact aIg ho
     ·exact sC f _ _ q j u hu
theorem ZA.mem {L:List Tk}{z:Z}(h:ZA L z):aX z∈L:=by
 obtain⟨R,e',c⟩:=z;obtain⟨t,R,rfl⟩:=h.e.ne;exact At.mem h
def aS5 (z:Z):Pt:=.mk 0 (aX z).pl 0 (aX z).text []
def aHw (y:(Pt×Bool)×Z) (z:Z):Pt:=if y.1.2=true then y.1.1 else aS5 z
def aG7 (L:List Tk) (f:Nat):Prop:=∀(o:Nat) (z:Z),ZA L z→z.e=0→3*z.R.length≤f→o≤40→bB Tryz.prog 104 [rP,I .i64 (o:Nat)] [(600,rO L z)] (fL L (.tup [.pa (bG (aHw (bH f o z) z)),B (bH f o z).1.2]) (bH f o z).2 [])
def aNs (L:List Tk) (f:Nat):Prop:=∀(o:Nat) (z:Z),ZA L z→z.e=0→3*z.R.length+1≤f→o≤40→bB Tryz.prog 50 [rP,I .i64 (o:Nat)] [(600,rO L z)] (fL L (.pa (bG (j3 f o z).1)) (j3 f o z).2 [])
theorem aIe {L:List Tk}{z:Z}(h:ZA L z) (q:¬(aX z).kind=6):rO L (tlZ z)=.var 136 [.c (.sl 4 (L.map aG)),.c (.int .i64 ((L.length-z.R.length+1:Nat):Int))]:=by
 obtain⟨_,j⟩:=h.tl q z.e z.p;unfold rO tlZ;dsimp only;rw[j]
theorem aFv (L:List Tk) (hN:aKc L) (f:Nat) (ih:aNs L f):aG7 L (f+1):=by
 intro o z h he hf ho40;rw[bH,ξ (fun k=>k he)];have hn:=dH h;have E:=hN _ h.mem;have j:=fun hk=>aIe h hk
 have hLl:=h.l;have hm:=lH h aCy;have hi:=lH h c8;have M:bP aCy z=if isZ aCy z=true then(true,tlZ z) else(false,z):=by
  unfold bP;by_cases hu:isZ aCy z=true
  ·rw[θ ⟨he,hu⟩,θ hu];rfl
  ·rw[ξ (fun k=>hu k.2),ξ hu]
 have O:isZ aCy z=true→¬(aX z).kind=6:=iU;have U:isZ c8 z=true→¬(aX z).kind=6:=iU;have r:isZ c8 z=true→aQ c8 z=tlZ z:=aEn he;have h1:=h.need c8;have hle:(aQ c8 z).e=0∨isZ c8 z=false:=by
  cases hb:isZ c8 z with
  | true=>left;rw[r hb];exact he
  | false=>exact .inr rfl
 have htl:=p9 h;have Y:aS5 z=.mk 0 (aX z).pl 0 (aX z).text []:=rfl;refine mG (n:=77) tok Tryz.func104 rfl rfl rfl rfl ?_;refine sg rfl (sk 3 rfl (kc hn ?_));refine kz 2 rfl (sg rfl ?_);rw[M];generalize ht:aX z=t at E Y j O U ⊢;clear hn M;refine aA (aF (sg rfl ?_));by_cases I:t.kind=1
 ·have d:decide (t.kind=1)=true:=φ I;have u:¬t.kind=6:=by omega
  rw[θ (show 0<t.kind∧t.kind<4 by omega)];unfold aHw;dsimp only;rw[θ rfl,b7 (show(tlZ z).e=0 from he),j u,E (by omega)];unfold j2 j1;rw[θ I,ξ (by omega)];unfold rO;exact aB rfl (fun _=>ag [] rfl (aA (agN [] rfl (sg rfl (aE oH))))) (fun hb=>absurd (hb.symm.trans d) Bool.noConfusion)
 refine aB rfl (fun hb=>absurd (χ hb) I) (fun _=>sg rfl ?_);by_cases J:t.kind=2
 ·have d:decide (t.kind=2)=true:=φ J;have u:¬t.kind=6:=by omega
  rw[θ (show 0<t.kind∧t.kind<4 by omega)];unfold aHw;dsimp only;rw[θ rfl,b7 (show(tlZ z).e=0 from he),j u,E (by omega)];unfold j2 j1;rw[ξ I,θ J,ξ (by omega)];unfold rO;exact aB rfl (fun _=>ag [] rfl (aA (agN [] rfl (sg rfl (aE oH))))) (fun hb=>absurd (hb.symm.trans d) Bool.noConfusion)
 refine aB rfl (fun hb=>absurd (χ hb) J) (fun _=>sg rfl ?_);by_cases k3:t.kind=3
 ·have d:decide (t.kind=3)=true:=φ k3;have u:¬t.kind=6:=by omega
  rw[θ (show 0<t.kind∧t.kind<4 by omega)];unfold aHw;dsimp only;rw[θ rfl,b7 (show(tlZ z).e=0 from he),j u];unfold j2 j1;rw[ξ I,ξ J,θ k3];unfold rO;exact aB rfl (fun _=>ag [] rfl (aA (agN [] rfl (sg rfl (aE oH))))) (fun hb=>absurd (hb.symm.trans d) Bool.noConfusion)
 refine aB rfl (fun hb=>absurd (χ hb) k3) (fun _=>?_);rw[ξ (show ¬(0<t.kind∧t.kind<4) by omega)];refine sk 1 rfl (kc hm ?_);refine kz 1 rfl ?_;cases hu:isZ aCy z with
 | true=>
  rw[θ rfl,θ rfl];unfold aHw;dsimp only;rw[θ rfl,b7 (show(tlZ z).e=0 from he),j (O hu)];unfold rO;exact aB rfl (fun _=>ag [] rfl (aA (agN [] rfl (sg rfl (aE oH))))) (fun hb=>Bool.noConfusion hb)
 | false=>
 rw[ξ ω];dsimp only;rw[ξ ω];refine aB rfl (fun hb=>Bool.noConfusion hb) (fun _=>sk 1 rfl (kc hi ?_));refine kz 1 rfl ?_;cases hl:isZ c8 z with
 | false=>
  rw[θ rfl];unfold aHw;dsimp only;rw[ξ ω,b7 he,Y];exact aB rfl (fun hb=>Bool.noConfusion hb) (fun _=>sg rfl (aE oH))
 | true=>
 rw[ξ (by decide)];have r:=r hl;refine aB rfl (fun _=>?_) (fun hb=>Bool.noConfusion hb);by_cases ho:40≤o
 ·have d:decide (((o:Nat):Int)<40)=false:=ψ (by omega);have hmn:=bJ 13 t.pl;rw[θ ho];unfold bS;rw[θ he];dsimp only;rw[aI (show ¬(13:Int)=0 by decide)];refine sk 4 rfl ?_;rw[d];exact kp hmn
 have d:decide (((o:Nat):Int)<40)=true:=φ (by omega);have hmo:=bI 13 t.pl;rw[ξ ho];refine sk 4 rfl ?_;rw[d];refine kc hmo ?_;refine az ?_;rw[r];rw[r] at h1;have hp:=ih (o+1) (tlZ z) h1 he (by omega) (by omega);obtain⟨g1,_⟩:=(iP L f).2.1 (o+1) (tlZ z) h1;have aa:=j (U hl);unfold rO at aa;unfold rO;refine aA (agN [] rfl ?_);unfold rO at hp;rw[aa] at hp;generalize j3 f (o+1) (tlZ z)=y at hp g1 ⊢;obtain⟨q,z2⟩:=y;dsimp only at hp g1 ⊢;unfold aHw;dsimp only;rw[θ rfl];by_cases A:z2.e=0
 case neg=>
  have hp:=bB.err hp A;rw[bD A,aI A];exact aA (aC mixed (akN 3 [] rfl (kp hp)))
 have hp:=bB.ok hp A;refine aA (aC mixed (akN 3 [] rfl (kc hp ?_)));refine akN 1 [] rfl (az ?_);have c:=cQ g1 A nE;generalize aQ nE z2=z3 at c ⊢;by_cases B:z3.e=0
 case neg=>
  have hp:=bB.err c B;rw[aI B];exact sk 1 rfl (kp hp)
 have c:=bB.ok c B;rw[b7 B];refine sk 1 rfl (kc c ?_);exact az (sg rfl (aE oH))
theorem aJx {f o:Nat}{out:List Pt}{z:Z}(h:¬z.e=0):gC f o out z=(out,z):=by
 cases f with
 | zero=>rfl
 | succ f=>rw[gC,ξ h]
theorem aQa (L:List Tk) (hN:aKc L) (f:Nat) (aa:∀g,g≤f→aG7 L g):aNs L (f+1):=by
 intro o z h he hf B;have hn:=dH h;have ab:=hN _ h.mem;have ac:=h.lp;rw[j3];refine mG (n:=58) tok Tryz.func50 rfl rfl rfl rfl ?_;refine sg rfl (sk 3 rfl (kc hn ?_));refine kz 2 rfl (aA (sg rfl ?_));by_cases A:(aX z).kind=2
 ·obtain⟨f,rfl⟩:∃g,f=g+1:=⟨f-1,by omega⟩
  have E:bH (f+1) o z=((.mk (j2 (aX z)) (aX z).pl (aX z).n (j1 (aX z)) [],true),tlZ z):=by
   rw[bH,ξ (fun k=>k he),θ (by omega)]
  rw[E,ξ (show ¬(true=false) from fun k=>Bool.noConfusion k),θ ⟨A,he⟩];have h1:=h.tlp (by rw[A];decide);have ad:=aIe h (by rw[A];decide);have ae:=p9 h;have hlen:=h.len;have hLl:=h.l;have j:∃W,W=gC (f+1) o [] (tlZ z):=⟨_,rfl⟩
  obtain⟨W,j⟩:=j;rw[←j,ab (by omega)];generalize aX z=t at hn A E ab ⊢;have d:(!decide (t.kind=2))=false:=by rw[φ A];rfl
  refine aB rfl (fun hb=>absurd (hb.symm.trans d) Bool.noConfusion) (fun _=>aD ?_);unfold rO;refine aA (agN [] rfl ?_);rw[←ad];refine sg rfl (AWp.sub (Sub.ownCell (x:=8) (k:=4) (id:=501) 49 10 rfl rfl rfl) ?_);refine aF (aK (fun q:List Pt×Z×Nat=>mk [(0,rP),(1,I .i64 (o:Nat)),(4,.one (.vp 4 0)),(8,.one (.vp 8 0))] [(600,rO L q.2.1),(4,.var 49 (aOi.map .c)),(8,.var 49 [.c (.int .i64 4),.c (.int .i64 t.pl),.c (.int .i64 0),.c (.str t.text),.hs 501 0 q.1.length q.1.length,.c (.int .i64 0),.c (.int .i64 0),.c (.str []),.c .nl,.c .nl]),(501,.arr 49 10 (q.1.map bG) 0)]) (fun q=>ZA L q.2.1∧q.2.1.e=0∧W=gC q.2.2 o q.1 q.2.1∧q.2.2≤f+1∧3*q.2.1.R.length+1≤q.2.2∧q.1.length+q.2.1.R.length≤4001) (fun q=>q.2.1.R.length+1) ([],tlZ z,f+1) ⟨h1,he,j,le_refl _,by dsimp only;omega,by dsimp only;rw[length_nil];omega⟩ sl ?_);clear j hn E ae h1 ad ac hlen he hf h;rintro⟨out,M,g⟩ ⟨O,J,j,af,hg,ah⟩;dsimp only at O J j af hg ah ⊢;have hout:(out.map bG).length=out.length:=η _;obtain⟨g,rfl⟩:∃k,g=k+1:=⟨g-1,by omega⟩
  rw[gC,θ J] at j;have hs:=aa g (by omega) o M O J (by omega) B;obtain⟨g1,_,g3,g4⟩:=(iP L g).1 o M O;have ac:=O.lp;unfold aHw at hs;generalize bH g o M=y at hs g1 g3 g4 j;obtain⟨⟨q,b⟩,z2⟩:=y;dsimp only at hs g1 g3 g4 j;by_cases r:z2.e=0
  case neg=>
   have hp:=bB.err hs r;have hb:W.2=z2:=by
    rw[aJx r] at j;rw[j];split<;>rfl
   rw[hb,aI r];exact aF (sk 2 rfl (kp hp))
  have hs:=bB.ok hs r;refine aF (sk 2 rfl (kc hs ?_));refine kz 6 rfl (aA (sg rfl ?_));cases b with
  | false=>
   rw[θ rfl] at j;refine aB rfl (fun _=>AWp.sub (Sub.freeze (id:=501) rfl) ?_) (fun hb=>Bool.noConfusion hb);refine sg rfl ?_;rw[j];dsimp only;rw[b7 r];unfold bG;rw[gV (Pt.mk _ _ _ _ _)];exact aE (rtC trw (hc:=.agg (.c .refl (.c .refl (.c .refl (.c .refl (.hs rfl hout.symm (Go.AM.take_all hout.symm) (.c .refl (.c .refl (.c .refl (.c .nl (.c .nl .nil))))))))))))
  | true=>
   rw[ξ (show ¬(true=false) from fun k=>Bool.noConfusion k)] at j;have U:out.map bG++[bG q]=(out++[q]).map bG:=by rw[Ai];rfl
   have hle:(out++[q]).length=out.length+1:=by rw[ζ];rfl
   have g4':z2.R.length≤M.R.length:=g4;have g3':=g3 rfl r;rw[θ rfl];refine aB rfl (fun hb=>Bool.noConfusion hb) (fun _=>aD (ag [(3,.all)] rfl ⟨(out++[q],z2,g),⟨g1,r,j,by dsimp only;omega,by dsimp only;omega,by dsimp only;rw[hle];omega⟩,by dsimp only;omega,?_⟩));exact sl (he:=⟨rfl,rfl,rfl,rfl,trivial⟩) (hh:=⟨⟨_,rfl,.var rfl⟩,⟨_,rfl,.var rfl⟩,⟨_,rfl,.var (by rw[hle,←hout];rfl)⟩,⟨_,rfl,.arrS U⟩,trivial⟩)
 have d:(!decide ((aX z).kind=2))=true:=by rw[ψ A];rfl
 refine aB rfl (fun _=>?_) (fun hb=>absurd (hb.symm.trans d) Bool.noConfusion);rw[ξ (show ¬((aX z).kind=2∧z.e=0) from fun k=>A k.1)];have hs:=aa f (le_refl _) o z h he (by omega) B;unfold aHw at hs;generalize bH f o z=y at hs ⊢;obtain⟨⟨q,b⟩,Y⟩:=y;dsimp only at hs ⊢;by_cases u:Y.e=0
 case neg=>
  have hp:=bB.err hs u;have hb:(if b=false then(zPt,bS 12 (aX z).pl Y) else(q,Y)).2=Y:=by
   rw[eV u];split<;>rfl
  rw[hb,aI u];exact sk 2 rfl (kp hp)
 have hs:=bB.ok hs u;refine sk 2 rfl (kc hs ?_);refine kz 6 rfl ?_;cases b with
 | false=>
  have hm:=bJ 12 (aX z).pl;rw[θ rfl];unfold bS;rw[θ u];dsimp only;rw[aI (show ¬(12:Int)=0 by decide)];exact sk 3 rfl (kp hm)
 | true=>
  have hm:=bI 12 (aX z).pl;rw[ξ (show ¬(true=false) from fun k=>Bool.noConfusion k),θ rfl];dsimp only;rw[b7 u];refine sk 3 rfl (kc hm ?_);exact az (sg rfl (aE (rtC trw)))
theorem aSh (L:List Tk) (q:aKc L):∀f,(∀g,g≤f→aG7 L g)∧∀g,g≤f→aNs L g:=by
 intro f
 induction f with
 | zero=>exact⟨fun g j o z h he r ho=>by have:=h.lp;omega,fun g j o z h he r ho=>by have:=h.lp;omega⟩
 | succ f c=>
  refine⟨fun g j=>?_,fun g j=>?_⟩
  ·by_cases h:g≤f
   ·exact c.1 g h
   ·rw[show g=f+1 by omega];exact aFv L q f (c.2 f (le_refl _))
  ·by_cases h:g≤f
   ·exact c.2 g h
   ·rw[show g=f+1 by omega];exact aQa L q f c.1
theorem aAg (l:List Tk) (hl:l.length≤4001):b8 Tryz.prog 188 [.one (.c (.sl 4 (l.map aG)))] [] (.one (.c (.sl 10 ((lJ l).map bG)))) []:=by
 have q:(l.map aG).length=l.length:=η _;refine bM (n:=22) tok Tryz.func188 rfl rfl rfl ?_;refine sg rfl (sg rfl (AWp.sub (Sub.own (t:=3) (id:=500) 49 10 rfl rfl) ?_));refine aA (sg rfl (aF (aK (fun i:Nat=>mk [(3,.one (.hs 500 0 i i)),(6,.one (.c (.sl 4 (l.map aG)))),(7,I .i64 ((l.map aG).length:Nat)),(8,I .i64 (i:Nat))] [(500,.arr 49 10 ((lJ (l.take i)).map bG) 0)]) (fun i=>i≤l.length) (fun i=>l.length-i) 0 (Ac _) sl ?_)));intro i hi;have j:((lJ (l.take i)).map bG).length=i:=by rw[η,oX,Am];omega
 refine sg rfl (aA (aB rfl (fun hb=>?_) (fun hb=>?_)))
 ·have r:=ltD hb q;obtain⟨t,ht⟩:=aN r;have A:=aY aG ht;have u:(lJ (l.take (i+1))).map bG=(lJ (l.take i)).map bG++[bG (.mk 2 t.pl 0 t.text [])]:=by
   unfold lJ;rw[A7,ht,Ai,Ai];rfl
  exact aD (aA (aF (sgh [(0,.row i (aG t))] rfl (ag [(6,.all)] rfl (agN [] rfl ⟨i+1,r,by dsimp only;omega,sl (he:=⟨Go.AM.hs_ren (congrArg (· +1) j) (congrArg (· +1) j),rfl,rfl,rfl,trivial⟩) (hh:=⟨⟨_,rfl,.arrS u.symm⟩,trivial⟩)⟩)))))
 ·have y:=geD hb q hi;subst y;rw[Aq] at j ⊢;refine aH (AWp.sub (Sub.freeze (id:=500) rfl) ?_);exact sg rfl (aE (rtH (hsz:=j.symm) (hlen:=j.symm)))
def aLc (L:List Tk) (ex:Nat→Z→Ex×Z) (N:Nat):Prop:=∀(deep:Nat) (z:Z),ZA L z→z.e=0→z.R.length≤N→deep≤41→bB Tryz.prog 187 [rP,I .i64 (deep:Nat)] [(600,rO L z)] (fL L (.pa (bN (ex deep z).1)) (ex deep z).2 [])
def tD (ex:Nat→Z→Ex×Z):Prop:=∀(deep:Nat) (z:Z),¬z.e=0→(ex deep z).2=z
theorem sK:∀f,tD (aHf f)
 | 0=>fun _ _ h=>eV h
 | f+1=>fun deep z h=>by
  show(aB8 (aHf f) deep z).2=z;unfold aB8;rw[θ h]
theorem aL6 {s:Str}{z:Z}(he:z.e=0):bP s z=if isZ s z=true then(true,tlZ z) else(false,z):=by
 unfold bP;by_cases hu:isZ s z=true
 ·rw[θ ⟨he,hu⟩,θ hu];rfl
 ·rw[ξ (fun k=>hu k.2),ξ hu]
section
variable {L:List Tk}{ex:Nat→Z→Ex×Z}{N:Nat}(hO:ExO L ex) (hB:tD ex) (hS:aLc L ex N)
include hO hS
theorem aF2 (deep:Nat) {z:Z}(h:ZA L z) (he:z.e=0) (hN:z.R.length≤N+1) (hd:deep≤40):bB Tryz.prog 226 [rP,I .i64 (deep:Nat)] [(600,rO L z)] (fL L (.tup [.pa (bN (lO ex deep z).1.1),B (lO ex deep z).1.2]) (lO ex deep z).2 []):=by
 unfold lO;rw[ξ (fun k=>k he)];have hn:=dH h;have hm:=eJ h he c8;have hLl:=h.l;have q:=fun hk=>aIe h hk
 refine mG (n:=73) tok Tryz.func226 rfl rfl rfl rfl ?_;refine sg rfl (sk 3 rfl (kc hn ?_));refine kz 2 rfl (aA (sg rfl ?_));generalize ht:aX z=t at q ⊢;refine aF (sg rfl ?_);by_cases E:t.kind=1
 ·have d:decide (t.kind=1)=true:=φ E;rw[θ (show 0<t.kind∧t.kind<4 by omega)];dsimp only;rw[b7 (show(tlZ z).e=0 from he),q (by omega)];have J:vZ t=.mk 1 t.pl 0 t.text [] [] [] nQ:=by unfold vZ;rw[ξ (by omega),E]
  rw[J];unfold rO;exact aB rfl (fun _=>aA (agN [] rfl (sg rfl (aE oH)))) (fun hb=>absurd (hb.symm.trans d) Bool.noConfusion)
 refine aB rfl (fun hb=>absurd (χ hb) E) (fun _=>sg rfl ?_);by_cases M:t.kind=2
 ·have d:decide (t.kind=2)=true:=φ M;rw[θ (show 0<t.kind∧t.kind<4 by omega)];dsimp only;rw[b7 (show(tlZ z).e=0 from he),q (by omega)];have J:vZ t=.mk 2 t.pl 0 t.text [] [] [] nQ:=by unfold vZ;rw[ξ (by omega),M]
  rw[J];unfold rO;exact aB rfl (fun _=>aA (agN [] rfl (sg rfl (aE oH)))) (fun hb=>absurd (hb.symm.trans d) Bool.noConfusion)
 refine aB rfl (fun hb=>absurd (χ hb) M) (fun _=>sg rfl ?_);by_cases O:t.kind=3
 ·have d:decide (t.kind=3)=true:=φ O;rw[θ (show 0<t.kind∧t.kind<4 by omega)];dsimp only;rw[b7 (show(tlZ z).e=0 from he),q (by omega)];unfold vZ;rw[θ O];unfold rO;exact aB rfl (fun _=>aA (agN [] rfl (sg rfl (aE oH)))) (fun hb=>absurd (hb.symm.trans d) Bool.noConfusion)
 refine aB rfl (fun hb=>absurd (χ hb) O) (fun _=>aD ?_);rw[ξ (show ¬(0<t.kind∧t.kind<4) by omega)];have h1:=h.may c8;have A:=eG h (s:=c8);have U:=(gR c8 z).trans he;have u:= @gU c8 z;generalize bP c8 z=m at hm h1 A U u ⊢;obtain⟨b,Y⟩:=m;dsimp only at hm h1 A U u ⊢;refine aA (sk 1 rfl (kc hm ?_));refine kz 1 rfl ?_;cases b with
 | false=>
  obtain rfl:=u rfl;rw[θ rfl];dsimp only;rw[b7 he];exact aB rfl (fun _=>sg rfl (aE oH)) (fun hb=>Bool.noConfusion hb)
 | true=>
  rw[ξ (by decide)];have A:=A rfl;have hx:=hS (deep+1) Y h1 U (by omega) (by omega);obtain⟨g1,_⟩:=hO (deep+1) Y h1;generalize ex (deep+1) Y=y at hx g1 ⊢;obtain⟨b,z2⟩:=y;dsimp only at hx g1 ⊢;refine aB rfl (fun hb=>Bool.noConfusion hb) (fun _=>aD ?_);by_cases c:z2.e=0
  case neg=>
   have hp:=bB.err hx c;rw[bD c,aI c];exact aA (aC mixed (akN 3 [] rfl (kp hp)))
  have hx:=bB.ok hx c;refine aA (aC mixed (akN 3 [] rfl (kc hx ?_)));refine akN 2 [] rfl (az ?_);have j:=cQ g1 c nE;generalize aQ nE z2=z3 at j ⊢;by_cases r:z3.e=0
  case neg=>
   have hp:=bB.err j r;rw[aI r];exact sk 1 rfl (kp hp)
  have j:=bB.ok j r;rw[b7 r];refine sk 1 rfl (kc j ?_);exact az (sg rfl (aE oH))
omit hO
include hB
theorem aQh (a:Int) (deep:Nat) {z:Z}(h:ZA L z) (he:z.e=0) (U:z.R.length≤N) (hd:deep≤40):bB Tryz.prog 223 [rP,I .i64 a,I .i64 (deep:Nat)] [(600,rO L z)] (fL L (.pa (bN (zH ex a deep z).1)) (zH ex a deep z).2 []):=by
 obtain⟨g1,g2,g3⟩:=x5 a h;have j:=hS (deep+1) (x6 a z).2 g1;have c:=hB (deep+1) (x6 a z).2;have q:(x6 a z).2.R.length≤N:=le_trans g3 U;unfold zH;generalize hy:ex (deep+1) (x6 a z).2=y at j c ⊢;obtain⟨b,Y⟩:=y;dsimp only at j c ⊢;unfold x6 at j c g1 g2 q ⊢;dsimp only at j c g1 g2 q ⊢;have E:=mN h he;have h1:=h.words;have r:(aV z).2.e=0:=by unfold aV;rw[θ he];exact he
 generalize aV z=w at j c g1 g2 q E h1 r ⊢;obtain⟨l,O⟩:=w;dsimp only at j c g1 g2 q E h1 r ⊢;have hn:=dH h1;have J:(l.map aG).length=l.length:=η _;have hv:=aAg l g2;refine mG (n:=35) tok Tryz.func223 rfl rfl rfl rfl ?_;refine sg rfl (sk 1 rfl (kc E ?_));refine kz 1 rfl ?_;by_cases hl:l=[]
 ·subst hl;rw[θ rfl] at c;unfold bS at c;rw[θ r,dM (show ¬(12:Int)=0 by decide),bD (show ¬(12:Int)=0 by decide)] at c;rw[c (show ¬(12:Int)=0 by decide),aI (show ¬(12:Int)=0 by decide)];have hm:=bJ 12 (aX O).pl;refine sk 6 rfl (kc hn ?_);exact ak 1 [] rfl (kp hm)
 rw[ξ hl] at j c g1 q;have d0:decide ((0:Int)<((l.length:Nat):Int))=true:=φ (by have:=Cp.2 hl;omega);have hm:=bI 12 (aX O).pl;refine sk 6 rfl (kc hn ?_);refine ak 1 [] rfl ?_;rw[J,d0];refine kc hm ?_;refine az ?_;by_cases M:l.length≤8
 case neg=>
  have d:decide (((l.length:Nat):Int)≤8)=false:=ψ (by omega);rw[fD M r,bD cC] at c;rw[c cC,aI cC];have hm:=bJ 2 a;refine sk 4 rfl ?_;rw[J,d];exact kp hm
 have d:decide (((l.length:Nat):Int)≤8)=true:=φ (by omega);have hm:=bI 2 a;rw[fC M] at j c g1 q;refine sk 4 rfl ?_;rw[J,d];refine kc hm ?_;refine az ?_;have u:=cQ h1 r arrow;generalize aQ arrow O=z3 at u j c g1 q;by_cases A:z3.e=0
 case neg=>
  have hp:=bB.err u A;rw[c A,aI A];exact sk 1 rfl (kp hp)
 have u:=bB.ok u A;refine sk 1 rfl (kc u ?_);refine az ?_;have j:=j A q (by omega);refine sk 2 rfl (kc hv ?_);refine akN 3 [] rfl ?_;by_cases B:Y.e=0
 case neg=>
  have hp:=bB.err j B;rw[aI B];exact kp hp
 have j:=bB.ok j B;rw[b7 B];refine kc j ?_;exact ak 3 [(7,.all)] rfl (az (aE (rtC trw)))
theorem sS (q:Tk) (deep:Nat) {z:Z}(h:ZA L z) (he:z.e=0) (U:z.R.length≤N) (Y:deep≤41):bB Tryz.prog 148 [rP,tkV q,I .i64 (deep:Nat)] [(600,rO L z)] (fL L (.pa (aW (dL ex q deep z).1)) (dL ex q deep z).2 []):=by
 obtain⟨g1,g2,g3⟩:=sU q h;have j:=hS deep (k9 q z).2 g1;have c:=hB deep (k9 q z).2;have A:(k9 q z).2.R.length≤N:=le_trans g3 U;unfold dL;generalize hy:ex deep (k9 q z).2=y at j c ⊢;obtain⟨b,z6⟩:=y;dsimp only at j c ⊢;unfold k9 at j c g1 g2 A ⊢;dsimp only at j c g1 g2 A ⊢;have J:=mN h he;have h1:=h.words;have B:(aV z).2.e=0:=by unfold aV;rw[θ he];exact he
 generalize aV z=w at j c g1 g2 A J h1 B ⊢;obtain⟨l,z1⟩:=w;dsimp only at j c g1 g2 A J h1 B ⊢;have M:(l.map aG).length=l.length:=η _;have hv:=aAg l g2;refine mG (n:=40) tok Tryz.func148 rfl rfl rfl rfl ?_;refine sg rfl (sk 1 rfl (kc J ?_));refine kz 1 rfl ?_;by_cases O:l.length≤8
 case neg=>
  have d:decide (((l.length:Nat):Int)≤8)=false:=ψ (by omega);rw[fD O B,bD cC] at c;rw[c cC,aI cC];have hm:=bJ 2 q.pl;refine sk 5 rfl ?_;rw[M,d];exact kp hm
 have d:decide (((l.length:Nat):Int)≤8)=true:=φ (by omega);have hm:=bI 2 q.pl;rw[fC O] at j c g1 A;refine sk 5 rfl ?_;rw[M,d];refine kc hm ?_;refine az ?_;have r:=cQ h1 B eqS;generalize aQ eqS z1=z3 at r j c g1 A;by_cases u:z3.e=0
 case neg=>
  have hp:=bB.err r u;rw[c u,aI u];exact sk 1 rfl (kp hp)
 have r:=bB.ok r u;refine sk 1 rfl (kc r ?_);refine az ?_;have j:=j u A Y;by_cases E:z6.e=0
 case neg=>
  have hp:=bB.err j E;rw[aI E];exact sk 2 rfl (kp hp)
 have j:=bB.ok j E;rw[b7 E];refine sk 2 rfl (kc j ?_);refine kz 2 rfl (aA (sg rfl ?_));cases l with
 | nil=>
  exact aB rfl (fun hb=>Bool.noConfusion hb) (fun _=>aD (sg rfl (aE (rtC trw))))
 | cons t l=>
  have d0:decide ((0:Int)<(((t::l).map aG).length:Int))=true:=φ (by rw[M,ε];omega);have ht:((t::l).map aG)[0]?=some (aG t):=rfl;refine aB rfl (fun _=>aC mixed (ak 5 [(1,.row 0 (aG t))] rfl (kc hv ?_))) (fun hb=>absurd (hb.symm.trans d0) Bool.noConfusion);exact ak 4 [(7,.all)] rfl (az (sg rfl (aE (rtC trw))))
end
def aNy (s:Sg):AObj:=.var 92 ((c6 s).map .c)
theorem aMq (x:Bd) (s:Sg):b8 Tryz.prog 150 ([.pa (aW x)]++[R.vp 6 0].map V.one) [(6,aNy s)] (B (decide (x.name=s.name))) [(6,aNy s)]:=by
 refine bM (n:=9) tok Tryz.func150 rfl rfl rfl ?_;exact sgh [(0,.id 12)] rfl (sg rfl (aE rtT))
theorem aJd (b:List Bd) (hl:b.length≤4001) (s:Sg):b8 Tryz.prog 149 [hsV 511 b.length,.one (.clo 150 [.vp 6 0])] [(511,bdA b 0),(6,aNy s)] (I .i64 (aB5 (fun x=>decide (x.name=s.name)) b 0)) [(511,bdA b 0),(6,aNy s)]:=by
 have u:(b.map aW).length=b.length:=η _;refine bM (n:=19) tok Tryz.func149 rfl rfl rfl ?_;refine sg rfl (aA (sg rfl (aF (aK (fun i:Nat=>mk [(0,hsV 511 b.length),(1,.one (.clo 150 [.vp 6 0])),(7,I .i64 (b.length:Int)),(8,I .i64 i)] [(511,bdA b 0),(6,aNy s)]) (fun i=>i≤b.length∧aB5 (fun x=>decide (x.name=s.name)) b 0=aB5 (fun x=>decide (x.name=s.name)) b i) (fun i=>b.length-i) 0 ⟨Ac _,rfl⟩ sl ?_))));intro i ⟨hi,hid⟩;refine sg rfl (aA (aB rfl (fun hb=>?_) (fun hb=>?_)))
 ·have c:i<b.length:=by have:=χ hb;omega
  obtain⟨x,j⟩:=aN c;have r:=aY aW j;have hc:=aMq x s;rw[uP _ j] at hid;refine aD (aA (aF (sg rfl (skh 5 [(4,.row i (aW x))] rfl (kv (args:=[.pa (aW x)]) hc ?_)))));refine az (aB rfl (fun hb=>?_) (fun hb=>?_))
  ·rw[θ hb] at hid;rw[hid];exact sg rfl (aE rtT)
  ·rw[ξ (by rw[show decide (x.name=s.name)=false from hb];exact ω)] at hid;exact aD (ag [] rfl ⟨i+1,⟨c,hid⟩,by dsimp only;omega,sl⟩)
 have q:i=b.length:=by have:=Ad hb;omega
 subst q;rw[zR] at hid;rw[hid];exact aH (sg rfl (aE rtT))
def aN6 (n:Nat) (y:List Bd×Z):Except Value (V×List (Nat×AObj)):=if y.2.e=0 then .ok (hsV 511 n,[(511,bdA y.1 0)]) else .error (rF y.2.e y.2.p)
theorem mU {l:List Sg}{b:List Bd}{z:Z}(h:¬z.e=0):(dF l b z).2=z:=by
 cases l with
 | nil=>rfl
 | cons s l=>rw[dF,ξ h]
theorem aF1 (sigs:List Sg) (binds:List Bd) {z:Z}(he:z.e=0) (h1:sigs.length≤4001) (h2:binds.length≤4001):
  bB Tryz.prog 91 [.one (.c (.sl 9 (sigs.map c6))),hsV 511 binds.length] [(511,bdA binds 0)] (aN6 binds.length (dF sigs binds z)):=by
 have hsl:(sigs.map c6).length=sigs.length:=η _;have j:∃W,W=dF sigs binds z:=⟨_,rfl⟩
 obtain⟨W,j⟩:=j;rw[←j];refine mG (n:=43) tok Tryz.func91 rfl rfl rfl rfl ?_;refine sg rfl (aA (sg rfl (aF (aK (fun q:Nat×List Bd=>mk [(1,hsV 511 binds.length),(8,.one (.c (.sl 9 (sigs.map c6)))),(9,I .i64 ((sigs.map c6).length:Nat)),(10,I .i64 (q.1:Nat))] [(511,bdA q.2 0)]) (fun q=>q.1≤sigs.length∧q.2.length=binds.length∧W=dF (sigs.drop q.1) q.2 z) (fun q=>sigs.length-q.1) (0,binds) ⟨Ac _,rfl,j⟩ sl ?_))));clear j;rintro⟨i,b⟩ ⟨hi,u,j⟩;dsimp only at hi u j ⊢;have J:(b.map aW).length=b.length:=η _;refine sg rfl (aA (aB rfl (fun hb=>?_) (fun hb=>?_)))
 case refine_2=>
  have hge:i=sigs.length:=by have:=Ad hb;omega
  rw[drop_eq_nil_of_le (by omega),dF] at j;refine aH (sg rfl ?_);rw[j];unfold aN6;rw[θ he];exact aE rtT
 have B:i<sigs.length:=by have:=χ hb;omega
 obtain⟨s,hs⟩:=aN B;have hs':=aY c6 hs;have M:sigs.drop i=s::sigs.drop (i+1):=by
  obtain⟨k1,k2⟩:=Af.1 hs;rw[←k2];exact Aw k1
 rw[M,dF,θ he] at j;have y:=aJd b (by omega) s;have O:aB5 (fun x=>decide (x.name=s.name)) b 0=match b.findIdx? (fun x=>decide (x.name=s.name)) with | none=> -1 | some d=>(d:Int):=by
  unfold aB5;rw[B5];cases b.findIdx? _ with
  | none=>rfl
  | some d=>simp
 rw[O,u] at y;unfold aNy at y;refine aD (aA (aF (sgh [(0,.row i (c6 s))] rfl (sk 2 rfl (kc y ?_)))));refine kz 1 rfl ?_;cases E:b.findIdx? (fun x=>decide (x.name=s.name)) with
 | none=>
  rw[E] at j;dsimp only at j ⊢;have hm:=bJ 21 s.pl;have A:W.2=⟨z.R,21,s.pl⟩:=by
   unfold bS at j;rw[θ he] at j;rw[j,mU (show ¬(21:Int)=0 by decide)]
  unfold aN6;rw[A,ξ (show ¬(21:Int)=0 by decide)];exact sk 4 rfl (kp hm)
 | some k=>
  rw[E] at j;dsimp only at j ⊢;have U:=nU E;obtain⟨x,hx⟩:=aN U;have hx':=aY aW hx;rw[hx] at j;dsimp only at j;have dk:decide ((0:Int)≤(k:Int))=true:=φ (by omega);have hm:=bI 21 s.pl;refine sk 4 rfl ?_;rw[dk];refine kc hm ?_;refine az ?_;cases r:x.has with
  | true=>
   rw[θ r] at j;have hm:=bJ 20 s.pl;have A:W.2=⟨z.R,20,s.pl⟩:=by
    unfold bS at j;rw[θ he] at j;rw[j,mU (show ¬(20:Int)=0 by decide)]
   unfold aN6;rw[A,ξ (show ¬(20:Int)=0 by decide)];refine skh 8 [(4,.row k (aW x))] rfl ?_;rw[r];refine kpD (.tup []) [] hm ?_;exact az trivial
  | false=>
   rw[ξ (by rw[r];exact ω)] at j;have hm:=bI 20 s.pl;refine skh 8 [(4,.row k (aW x))] rfl ?_;rw[r];refine kc hm ?_;refine az ?_;have hs1:(b.map aW).set k (aW (.mk x.name x.pl true x.sig x.body))=(b.set k (.mk x.name x.pl true x.sig x.body)).map aW:=by rw[map_set]
   have Y:((b.map aW).set k (aW (.mk x.name x.pl true x.sig x.body))).set k (aW (lZ x s.ty))=(b.set k (lZ x s.ty)).map aW:=by rw[List.set_set,map_set]
   have hx2:((b.map aW).set k (aW (.mk x.name x.pl true x.sig x.body)))[k]?=some (aW (.mk x.name x.pl true x.sig x.body)):=by rw[List.getElem?_set_self (by rw[J];exact U)]
   exact ag [(8,.row k (aW x)),(11,.row k (aW (.mk x.name x.pl true x.sig x.body)))] rfl (agN [] rfl ⟨(i+1,b.set k (lZ x s.ty)),⟨B,by dsimp only;rw[length_set,u],j⟩,by dsimp only;omega,sl (hh:=⟨⟨_,rfl,.arrS Y⟩,trivial⟩)⟩)
def zBd:Bd:=.mk [] 0 false nQ zEx
def xA (sigs:List Sg) (binds:List Bd):List (Nat×AObj):=[(7,.var 88 [.hs 510 0 sigs.length sigs.length]),(8,.var 27 [.hs 511 0 binds.length binds.length]),(510,sgA sigs 0),(511,bdA binds 0)]
def dtA (l:List Dt):AObj:=.arr 81 5 (l.map fM) 0
def clA (l:List Cl):AObj:=.arr 90 6 (l.map fN) 0
def inA (l:List In):AObj:=.arr 95 6 (l.map iD) 0
def aE3 (p:Pg) (sigs:List Sg):List (Nat×AObj):=[(4,.var 88 [.hs 510 0 sigs.length sigs.length]),(3,.var 29 [.hs 512 0 p.datas.length p.datas.length,.hs 513 0 p.classes.length p.classes.length,.hs 514 0 p.insts.length p.insts.length,.hs 511 0 p.binds.length p.binds.length]),(510,sgA sigs 0),(511,bdA p.binds 0),(512,dtA p.datas),(513,clA p.classes),(514,inA p.insts)]
section
variable {L:List Tk}{ex:Nat→Z→Ex×Z}{N:Nat}(hB:tD ex) (hS:aLc L ex N) (hZ:o5 L) (hwt:wt L≤30000)
include hB hS hZ hwt
theorem aP6 (sigs:List Sg) (binds:List Bd) (deep:Nat) {z:Z}(h:ZA L z) (he:z.e=0) (hN:z.R.length≤N) (hd:deep≤41) (h1:sigs.length≤4001) (h2:binds.length≤4001):
  bB Tryz.prog 90 [rP,.one (.vp 7 0),.one (.vp 8 0),I .i64 (deep:Nat)] ((600,rO L z)::xA sigs binds) (fL L (.tup []) (aZ ex sigs binds deep z).2 (xA (aZ ex sigs binds deep z).1.1 (aZ ex sigs binds deep z).1.2)):=by
 have hw:=gK h he 1 (by decide);have g1:=h.word (k:=1) (by decide);have O:=Ze.word 1 z;have Y:(sigs.map c6).length=sigs.length:=η _;have J:(binds.map aW).length=binds.length:=η _;unfold aZ;generalize aR 1 z=w at hw g1 O ⊢;obtain⟨r,E⟩:=w;dsimp only at hw g1 O ⊢;refine mG (n:=39) tok Tryz.func90 rfl rfl rfl rfl ?_;by_cases c:E.e=0
 case neg=>
  have hp:=bB.err hw c;rw[kB c];dsimp only;rw[ξ ω];have hb:(dL ex r deep E).2=E:=by
   unfold dL k9;dsimp only;rw[kA c,dM c,bD c];exact hB _ _ c
  dsimp only;rw[hb,aI c];exact sk 1 rfl (kp hp)
 have hw:=bB.ok hw c;have hm:=eJ g1 c eU;have g2:=g1.may eU;have U:=Ze.may eU E;have B:=(gR eU E).trans c;generalize bP eU E=m at hm g2 U B ⊢;obtain⟨b,z2⟩:=m;dsimp only at hm g2 U B ⊢;refine sk 1 rfl (kc hw ?_);refine ak 2 [(2,.id 40)] rfl (az (aA (sk 1 rfl (kc hm ?_))));refine az ?_;cases b with
 | true=>
  rw[θ rfl];have u:=kM g2 B hZ hwt;generalize bO z2=y at u ⊢;obtain⟨s,z3⟩:=y;dsimp only at u ⊢;refine aB rfl (fun _=>?_) (fun hb=>Bool.noConfusion hb);by_cases j:z3.e=0
  case neg=>
   have hp:=bB.err u j;rw[aI j];refine sk 9 rfl (kpD (.pa (eH nQ)) [(600,rO L z2)] hp ?_);exact ak 5 [(11,.all)] rfl (az trivial)
  have u:=bB.ok u j;rw[b7 j];have q:sigs.map c6++[c6 ⟨r.text,r.pl,s⟩]=(sigs++[(⟨r.text,r.pl,s⟩:Sg)]).map c6:=by rw[Ai];rfl
  have hle:(sigs++[(⟨r.text,r.pl,s⟩:Sg)]).length=sigs.length+1:=by rw[ζ];rfl
  generalize sigs++[(⟨r.text,r.pl,s⟩:Sg)]=S at q hle ⊢;refine sk 9 rfl (kc u ?_);refine ak 5 [(11,.all)] rfl (az (AWp.sub (st2:=mk [] ((600,rO L z3)::xA S binds)) (sl (hh:=⟨⟨_,rfl,.var rfl⟩,⟨_,rfl,.var (by rw[hle,←Y];rfl)⟩,⟨_,rfl,.var rfl⟩,⟨_,rfl,.arrS q⟩,⟨_,rfl,Go.AM.Ole.arr⟩,trivial⟩)) ?_));exact aE rtN
 | false=>
  rw[ξ ω];have A:=sS hB hS r deep g2 B (le_trans (O.trans U) hN) hd;generalize dL ex r deep z2=y at A ⊢;obtain⟨M,z3⟩:=y;dsimp only at A ⊢;have hz0:(binds.map aW++[(aW zBd)])[binds.length]?=some (aW zBd):=by rw[A6 (by omega),J,Cb];rfl
  refine aB rfl (fun hb=>Bool.noConfusion hb) (fun _=>aD ?_);by_cases j:z3.e=0
  case neg=>
   have hp:=bB.err A j;rw[aI j];refine aC mixed (ak 6 [] rfl (kpD (.pa (aW zBd)) [(600,rO L z2)] hp ?_));exact ak 7 [(8,.all),(11,.row binds.length (aW zBd))] rfl (az trivial)
  have A:=bB.ok A j;rw[b7 j];have q:(binds.map aW++[(aW zBd)]).set binds.length (aW M)=(binds++[M]).map aW:=by
   rw[set_append_right _ _ (by omega),J,Cb,Ai];rfl
  have hle:(binds++[M]).length=binds.length+1:=by rw[ζ];rfl
  refine aC mixed (ak 6 [] rfl (kc A ?_));refine ak 7 [(8,.all),(11,.row binds.length (aW zBd))] rfl (az ?_);generalize hSe:binds++[M]=S at q hle ⊢;exact rtN (ho:=⟨⟨_,rfl,.var rfl⟩,⟨_,rfl,.var rfl⟩,⟨_,rfl,.var (by rw[hle,←J];rfl)⟩,⟨_,rfl,Go.AM.Ole.arr⟩,⟨_,rfl,.arrS q⟩,trivial⟩)
theorem aP5 (p:Pg) (sigs:List Sg) (deep:Nat) {z:Z}(h:ZA L z) (he:z.e=0) (hN:z.R.length≤N) (hd:deep≤41) (h1:sigs.length≤4001) (h2:p.binds.length≤4001):
  bB Tryz.prog 90 [rP,.one (.vp 4 0),.one (.vp 3 3),I .i64 (deep:Nat)] ((600,rO L z)::aE3 p sigs) (fL L (.tup []) (aZ ex sigs p.binds deep z).2 (aE3 ⟨p.datas,p.classes,p.insts,(aZ ex sigs p.binds deep z).1.2⟩ (aZ ex sigs p.binds deep z).1.1)):=by
 have hw:=gK h he 1 (by decide);have g1:=h.word (k:=1) (by decide);have O:=Ze.word 1 z;have Y:(sigs.map c6).length=sigs.length:=η _;have J:(p.binds.map aW).length=p.binds.length:=η _;unfold aZ;generalize aR 1 z=w at hw g1 O ⊢;obtain⟨r,E⟩:=w;dsimp only at hw g1 O ⊢;refine mG (n:=39) tok Tryz.func90 rfl rfl rfl rfl ?_;by_cases c:E.e=0
 case neg=>
  have hp:=bB.err hw c;rw[kB c];dsimp only;rw[ξ ω];have hb:(dL ex r deep E).2=E:=by
   unfold dL k9;dsimp only;rw[kA c,dM c,bD c];exact hB _ _ c
  dsimp only;rw[hb,aI c];exact sk 1 rfl (kp hp)
 have hw:=bB.ok hw c;have hm:=eJ g1 c eU;have g2:=g1.may eU;have U:=Ze.may eU E;have B:=(gR eU E).trans c;generalize bP eU E=m at hm g2 U B ⊢;obtain⟨b,z2⟩:=m;dsimp only at hm g2 U B ⊢;refine sk 1 rfl (kc hw ?_);refine ak 2 [(2,.id 40)] rfl (az (aA (sk 1 rfl (kc hm ?_))));refine az ?_;cases b with
 | true=>
  rw[θ rfl];have u:=kM g2 B hZ hwt;generalize bO z2=y at u ⊢;obtain⟨s,z3⟩:=y;dsimp only at u ⊢;refine aB rfl (fun _=>?_) (fun hb=>Bool.noConfusion hb);by_cases j:z3.e=0
  case neg=>
   have hp:=bB.err u j;rw[aI j];refine sk 9 rfl (kpD (.pa (eH nQ)) [(600,rO L z2)] hp ?_);exact ak 5 [(11,.all)] rfl (az trivial)
  have u:=bB.ok u j;rw[b7 j];have q:sigs.map c6++[c6 ⟨r.text,r.pl,s⟩]=(sigs++[(⟨r.text,r.pl,s⟩:Sg)]).map c6:=by rw[Ai];rfl
  have hle:(sigs++[(⟨r.text,r.pl,s⟩:Sg)]).length=sigs.length+1:=by rw[ζ];rfl
  generalize sigs++[(⟨r.text,r.pl,s⟩:Sg)]=S at q hle ⊢;refine sk 9 rfl (kc u ?_);refine ak 5 [(11,.all)] rfl (az (AWp.sub (st2:=mk [] ((600,rO L z3)::aE3 ⟨p.datas,p.classes,p.insts,p.binds⟩ S)) (sl (hh:=⟨⟨_,rfl,.var rfl⟩,⟨_,rfl,.var (by rw[hle,←Y];rfl)⟩,⟨_,rfl,.var rfl⟩,⟨_,rfl,.arrS q⟩,⟨_,rfl,Go.AM.Ole.arr⟩,⟨_,rfl,Go.AM.Ole.arr⟩,⟨_,rfl,Go.AM.Ole.arr⟩,⟨_,rfl,Go.AM.Ole.arr⟩,trivial⟩)) ?_));exact aE rtN
 | false=>
  rw[ξ ω];have A:=sS hB hS r deep g2 B (le_trans (O.trans U) hN) hd;generalize dL ex r deep z2=y at A ⊢;obtain⟨M,z3⟩:=y;dsimp only at A ⊢;have hz0:(p.binds.map aW++[(aW zBd)])[p.binds.length]?=some (aW zBd):=by rw[A6 (by omega),J,Cb];rfl
  refine aB rfl (fun hb=>Bool.noConfusion hb) (fun _=>aD ?_);by_cases j:z3.e=0
  case neg=>
   have hp:=bB.err A j;rw[aI j];refine aC mixed (ak 6 [] rfl (kpD (.pa (aW zBd)) [(600,rO L z2)] hp ?_));exact ak 7 [(8,.all),(11,.row p.binds.length (aW zBd))] rfl (az trivial)
  have A:=bB.ok A j;rw[b7 j];have q:(p.binds.map aW++[(aW zBd)]).set p.binds.length (aW M)=(p.binds++[M]).map aW:=by
   rw[set_append_right _ _ (by omega),J,Cb,Ai];rfl
  have hle:(p.binds++[M]).length=p.binds.length+1:=by rw[ζ];rfl
  refine aC mixed (ak 6 [] rfl (kc A ?_));refine ak 7 [(8,.all),(11,.row p.binds.length (aW zBd))] rfl (az ?_);generalize hSe:p.binds++[M]=S at q hle ⊢;exact rtN (ho:=⟨⟨_,rfl,.var rfl⟩,⟨_,rfl,.var rfl⟩,⟨_,rfl,.var (by rw[hle,←J];rfl)⟩,⟨_,rfl,Go.AM.Ole.arr⟩,⟨_,rfl,.arrS q⟩,⟨_,rfl,Go.AM.Ole.arr⟩,⟨_,rfl,Go.AM.Ole.arr⟩,⟨_,rfl,Go.AM.Ole.arr⟩,trivial⟩)
end
section
variable {σ:Type}(sh:Str) (step:σ→Z→σ×Z)
def lpZ:Nat→Nat→σ→Z→σ×Z
 | 0,_,s,z=>(s,z)
 | f+1,n,s,z=>if(b5 sh n z).1=true then lpZ f (n+1) (step s (b5 sh n z).2).1 (step s (b5 sh n z).2).2 else(s,(b5 sh n z).2)
def tJ (s:σ) (z:Z):σ×Z:=
 ((lpZ b6 step ((aQ dG z).R.length+1) 0 s (aQ dG z)).1,aQ b6 (lpZ b6 step ((aQ dG z).R.length+1) 0 s (aQ dG z)).2)
end
theorem fG {σ:Type}{sh:Str}{step:σ→Z→σ×Z}{f n:Nat}{s:σ}{z:Z}(h:¬z.e=0):lpZ sh step f n s z=(s,z):=by
 cases f with
 | zero=>rfl
 | succ f=>rw[lpZ,aJw h,ξ ω]
theorem pS (s:Str) (z:Z):moreA s 0 z=z:=ξ fun k=>lt_irrefl 0 k.1
theorem sB {σ:Type}{L:List Tk}{sh:Str}{step:σ→Z→σ×Z}{Inv:Nat→σ→Prop}(j:∀n s z,Inv n s→n<60→ZA L z→z.e=0→ZA L (step s z).2∧Inv (n+1) (step s z).1∧((step s z).2.e=0→(step s z).2.R.length<z.R.length)∧Ze z (step s z).2):
  ∀(f n:Nat) (s:σ) (z:Z),n≤60→Inv n s→ZA L z→ZA L (lpZ sh step f n s z).2∧(∃m,m≤60∧Inv m (lpZ sh step f n s z).1)∧Ze z (lpZ sh step f n s z).2
 | 0,n,s,z,hn,c,h=>⟨h,⟨n,hn,c⟩,Ze.refl z⟩
 | f+1,n,s,z,hn,c,h=>by
  rw[lpZ];split
  ·rename_i hm;obtain⟨e,q⟩:=dC hm;obtain⟨r,u,_,y⟩:=j n s _ c (by omega) (h.more sh n) e;obtain⟨g1,g2,g3⟩:=sB j f (n+1) _ _ q u r;exact⟨g1,g2,((Ze.more sh n z).trans y).trans g3⟩
  ·exact⟨h.more _ _,⟨n,hn,c⟩,Ze.more _ _ _⟩
theorem aEu (ex:Nat→Z→Ex×Z) (deep:Nat):∀(f n:Nat) (sigs:List Sg) (binds:List Bd) (z:Z),j8 ex deep f n sigs binds z=lpZ b6 (fun(s:List Sg×List Bd) z=>aZ ex s.1 s.2 deep z) f n (sigs,binds) z
 | 0,_,_,_,_=>rfl
 | f+1,n,sigs,binds,z=>by
  rw[j8,lpZ];split
  ·exact aEu ex deep f _ _ _ _
  ·rfl
def pR:AObj:=.var 71 [.vp 600 0]
def dO (deep:Nat):AObj:=.var 3 [.c (.int .i64 (deep:Nat))]
theorem nZ {L:List Tk}{z:Z}(h:ZA L z):b8 Tryz.prog 184 ([]++[R.vp 2 0].map V.one) [(600,rO L z),(2,pR)] (B (cY b6 z)) [(600,rO L z),(2,pR)]:=by
 have hi:=lH h b6;have e:cY b6 z=isZ b6 z:=ξ (fun k=>by cases k);rw[e];refine bM (n:=4) tok Tryz.func184 rfl rfl rfl ?_;refine sg rfl (sk 1 rfl (kc hi ?_));exact kz 1 rfl (aE rtT)
theorem aMt (deep:Nat) {step:(List Sg×List Bd)→Z→(List Sg×List Bd)×Z}{Inv:Nat→(List Sg×List Bd)→Prop}{L:List Tk}{N:Nat}
  (hone:∀n s z,Inv n s→n<60→ZA L z→z.e=0→z.R.length≤N→bB Tryz.prog 242 ([]++[R.vp 3 0,R.vp 7 0,R.vp 8 0,R.vp 5 0].map V.one) ((600,rO L z)::(3,pR)::(5,dO deep)::xA s.1 s.2) (fL L (.tup []) (step s z).2 ((3,pR)::(5,dO deep)::xA (step s z).1.1 (step s z).1.2)))
  (hst:∀n s z,Inv n s→n<60→ZA L z→z.e=0→ZA L (step s z).2∧Inv (n+1) (step s z).1∧((step s z).2.e=0→(step s z).2.R.length<z.R.length)∧Ze z (step s z).2)
  {z:Z} (h:ZA L z) (he:z.e=0) (hN:z.R.length≤N) {s:(List Sg×List Bd)} (U:Inv 0 s):
  bB Tryz.prog 83 [rP,.one (.clo 184 [R.vp 2 0]),.one (.clo 242 [R.vp 3 0,R.vp 7 0,R.vp 8 0,R.vp 5 0])] ((600,rO L z)::(2,pR)::(3,pR)::(5,dO deep)::xA s.1 s.2) (fL L (.tup []) (lpZ b6 step (z.R.length+1) 0 s z).2 ((2,pR)::(3,pR)::(5,dO deep)::xA (lpZ b6 step (z.R.length+1) 0 s z).1.1 (lpZ b6 step (z.R.length+1) 0 s z).1.2)):=by
 have c:∃W,W=lpZ b6 step (z.R.length+1) 0 s z:=⟨_,rfl⟩
 obtain⟨W,c⟩:=c;rw[←c];refine mG (n:=35) tok Tryz.func83 rfl rfl rfl rfl ?_;refine sg rfl (aF (aK (fun q:Nat×(List Sg×List Bd)×Z×Nat=>mk [(0,rP),(1,.one (.clo 184 [R.vp 2 0])),(2,.one (.clo 242 [R.vp 3 0,R.vp 7 0,R.vp 8 0,R.vp 5 0])),(6,I .i64 (q.1:Nat))] ((600,rO L q.2.2.1)::(2,pR)::(3,pR)::(5,dO deep)::xA q.2.1.1 q.2.1.2)) (fun q=>Inv q.1 q.2.1∧q.1≤60∧ZA L q.2.2.1∧q.2.2.1.e=0∧q.2.2.1.R.length≤N∧q.2.2.1.R.length<q.2.2.2∧moreA b6 q.1 q.2.2.1=q.2.2.1∧W=lpZ b6 step q.2.2.2 q.1 q.2.1 q.2.2.1) (fun q=>q.2.2.1.R.length) (0,s,z,z.R.length+1) ⟨U,Ac _,h,he,hN,Bk _,pS _ _,c⟩ sl ?_));clear c h he hN U;rintro⟨n,s,z,f⟩ ⟨U,hn,h,he,hN,hf,hA,c⟩;dsimp only at U hn h he hN hf hA c;refine aF (aA (aF (aK (fun y:Z=>mk [(0,rP),(1,.one (.clo 184 [R.vp 2 0])),(2,.one (.clo 242 [R.vp 3 0,R.vp 7 0,R.vp 8 0,R.vp 5 0])),(6,I .i64 (n:Nat))] ((600,rO L y)::(2,pR)::(3,pR)::(5,dO deep)::xA s.1 s.2)) (fun y=>ZA L y∧y.e=0∧cN z=cN y∧y.R.length≤z.R.length) (fun y=>y.R.length) z ⟨h,he,rfl,le_refl _⟩ sl ?_)));rintro y ⟨h2,r,e2,hle2⟩

 have hm:=eJ h2 r cB;obtain⟨m1,m2,m3⟩:=kI h2;have E:=h2.may cB;have Y:=(gR cB y).trans r;generalize bP cB y=m at hm m1 m2 m3 E Y;obtain⟨b,z3⟩:=m;dsimp only at m1 m2 m3 E Y;refine aA (sk 1 rfl (kc hm ?_));refine az (aB rfl (fun hb=>?_) (fun hb=>?_))
 ·have hb:b=true:=hb;have:=m3 hb;exact aD (aF (aD ⟨z3,⟨E,Y,e2.trans m1.symm,by omega⟩,m3 hb,sl⟩))
 have hb:b=false:=hb;obtain⟨g1,g2⟩:=m2 hb;subst g1;have e3:cN z=z3:=e2.trans g2;clear m1 m2 m3 E e2 hm;have hf0:∃g,f=g+1:=⟨f-1,by omega⟩
 obtain⟨f,rfl⟩:=hf0;rw[lpZ] at c;unfold b5 at c;rw[hA,e3] at c;have hs3:=nZ h2;have hn3:=dH h2;refine aH (aA (sk 1 rfl (kv (args:=[]) hs3 ?_)));refine az (aB rfl (fun hb=>?_) (fun hb=>?_))
 ·have hb:cY b6 z3=true:=hb;rw[θ (show ¬z3.e=0∨cY b6 z3=true from .inr hb)] at c;rw[ξ ω] at c;rw[c,b7 r];exact aE rtN
 have hb:cY b6 z3=false:=hb;have hnb:¬(¬z3.e=0∨cY b6 z3=true):=fun k=>k.elim (fun k=>k r) fun k=>by rw[hb] at k;cases k
 rw[ξ hnb] at c;refine aD ?_;by_cases aa:n<60
 case neg=>
  have d:decide (((n:Nat):Int)<60)=false:=ψ (by omega);rw[fD (by omega) r] at c;dsimp only at c;rw[ψ cC,ξ ω] at c;rw[c,aI cC];have hmn:=bJ 2 (aX z3).pl;refine sk 5 rfl (kc hn3 ?_);refine ak 1 [] rfl ?_;rw[d];exact kp hmn
 have d:decide (((n:Nat):Int)<60)=true:=φ (by omega);rw[fC (by omega),φ r,θ rfl] at c;have hmo:=bI 2 (aX z3).pl;refine sk 5 rfl (kc hn3 ?_);refine ak 1 [] rfl ?_;rw[d];refine kc hmo ?_;refine az ?_;have ho:=hone n s z3 U aa h2 r (by omega);obtain⟨u,k2,k3,_⟩:=hst n s z3 U aa h2 r;generalize step s z3=y at ho u k2 k3 c;obtain⟨s4,z4⟩:=y;dsimp only at ho u k2 k3 c;by_cases j:z4.e=0
 case neg=>
  have hp:=bB.err ho j;rw[fG j] at c;rw[c,aI j];exact sk 1 rfl (kpv (args:=[]) hp)
 have ho:=bB.ok ho j;have k3:=k3 j;refine sk 1 rfl (kv (args:=[]) ho ?_);refine az (aA (agN [] rfl ?_));have hlp:=u.lp;have A:=lH u cB;have ab:=dH u;have J:=nZ u;have ac:=bI 12 (aX z4).pl;cases M:isZ cB z4 with
 | true=>
  rw[M] at A;have B:moreA b6 (n+1) z4=z4:=ξ fun k=>by rw[M] at k;cases k.2.2.1
  refine aC mixed (ak 1 [] rfl (kc A ?_));refine ak 7 [(2,.bv true),(5,.bv true)] rfl (kc ab ?_);refine ak 1 [(2,.bv true),(5,.bv true)] rfl (kc ac ?_);exact az ⟨(n+1,s4,z4,f),⟨k2,by omega,u,j,by dsimp only;omega,by dsimp only;omega,B,c⟩,by dsimp only;omega,sl⟩
 | false=>
  rw[M] at A;cases O:cY b6 z4 with
  | true=>
   rw[O] at J;have B:moreA b6 (n+1) z4=z4:=ξ fun k=>by rw[O] at k;cases k.2.2.2
   refine aC mixed (ak 1 [] rfl (kc A ?_));refine ak 2 [(2,.bv false)] rfl (kvG (args:=[]) J ?_);refine ak 4 [(2,.bv false),(5,.bv false)] rfl (kc ab ?_);refine ak 1 [(2,.bv false),(5,.bv false)] rfl (kc ac ?_);exact az ⟨(n+1,s4,z4,f),⟨k2,by omega,u,j,by dsimp only;omega,by dsimp only;omega,B,c⟩,by dsimp only;omega,sl⟩
  | false=>
   rw[O] at J;have hmn4:=bJ 12 (aX z4).pl;have B:moreA b6 (n+1) z4=⟨z4.R,12,(aX z4).pl⟩:=(θ ⟨succ_pos n,j,M,O⟩).trans (θ j);have ad:¬(12:Int)=0:=by decide
   have hWb:W.2=⟨z4.R,12,(aX z4).pl⟩:=by
    obtain⟨f,rfl⟩:∃g,f=g+1:=⟨f-1,by omega⟩
    rw[lpZ] at c;unfold b5 at c;rw[B,kP ad,θ (show ¬(Z.mk z4.R 12 (aX z4).pl).e=0∨_ from .inl ad),ξ ω] at c;rw[c]
   rw[hWb,aI ad];refine aC mixed (ak 1 [] rfl (kc A ?_));refine ak 2 [(2,.bv false)] rfl (kvG (args:=[]) J ?_);refine ak 4 [(2,.bv false),(5,.bv false)] rfl (kc ab ?_);refine ak 1 [(2,.bv false),(5,.bv false)] rfl (kpD (.tup []) [] hmn4 ?_);exact az trivial
theorem aJi (deep:Nat) {step:(List Sg×List Bd)→Z→(List Sg×List Bd)×Z}{Inv:Nat→(List Sg×List Bd)→Prop}{L:List Tk}{N:Nat}
  (B:∀n s z,Inv n s→n<60→ZA L z→z.e=0→z.R.length≤N→bB Tryz.prog 242 ([]++[R.vp 3 0,R.vp 7 0,R.vp 8 0,R.vp 5 0].map V.one) ((600,rO L z)::(3,pR)::(5,dO deep)::xA s.1 s.2) (fL L (.tup []) (step s z).2 ((3,pR)::(5,dO deep)::xA (step s z).1.1 (step s z).1.2)))
  (A:∀n s z,Inv n s→n<60→ZA L z→z.e=0→ZA L (step s z).2∧Inv (n+1) (step s z).1∧((step s z).2.e=0→(step s z).2.R.length<z.R.length)∧Ze z (step s z).2)
  {z:Z} (h:ZA L z) (he:z.e=0) (M:z.R.length≤N) {s:(List Sg×List Bd)} (E:Inv 0 s):
  bB Tryz.prog 142 [rP,.one (.clo 242 [R.vp 3 0,R.vp 7 0,R.vp 8 0,R.vp 5 0])] ((600,rO L z)::(3,pR)::(5,dO deep)::xA s.1 s.2) (fL L (.tup []) (tJ step s z).2 ((3,pR)::(5,dO deep)::xA (tJ step s z).1.1 (tJ step s z).1.2)):=by
 have c:=cQ h he dG;have h1:=h.need dG;have I:=Ze.need dG z;unfold tJ;generalize aQ dG z=y at c h1 I ⊢;have J:y.R.length≤z.R.length:=I;refine mG (n:=12) tok Tryz.func142 rfl rfl rfl rfl ?_;refine sg rfl ?_;by_cases j:y.e=0
 case neg=>
  have hp:=bB.err c j;rw[fG j];dsimp only;rw[bD j,aI j];exact sk 1 rfl (kp hp)
 have c:=bB.ok c j;refine sk 1 rfl (kc c ?_);refine az ?_;have q:=aMt deep (step:=step) (Inv:=Inv) (L:=L) (N:=N) B A h1 j (by omega) E;have hok:=(sB (sh:=b6) A (y.R.length+1) 0 s y (Ac _) E h1).1
 generalize lpZ b6 step (y.R.length+1) 0 s y=W at q hok ⊢;obtain⟨s2,z2⟩:=W;dsimp only at q hok ⊢;by_cases r:z2.e=0
 case neg=>
  have hp:=bB.err q r;rw[bD r,aI r];exact sk 3 rfl (kp hp)
 have q:=bB.ok q r;refine sk 3 rfl (kc q ?_);refine az ?_;have c:=cQ hok r b6;generalize aQ b6 z2=z3 at c ⊢;by_cases u:z3.e=0
 case neg=>
  have hp:=bB.err c u;rw[aI u];exact aC mixed (ak 1 [] rfl (kp hp))
 have c:=bB.ok c u;rw[b7 u];refine aC mixed (ak 1 [] rfl (kc c ?_));exact az rtN
theorem mF:∀{l:List Sg}{b:List Bd}{z:Z},(dF l b z).2.e=0→(dF l b z).2=z
 | [],b,z,_=>rfl
 | s::l,b,z,h=>by
  rw[dF] at h ⊢;by_cases he:z.e=0
  case neg=>rw[ξ he]
  rw[θ he] at h ⊢;have hb:∀e p:Int,¬e=0→(dF l b (bS e p z)).2.e=0→False:=fun e p c h0=>by
   have q:bS e p z=⟨z.R,e,p⟩:=θ he;rw[q,mU (show ¬(Z.mk z.R e p).e=0 from c)] at h0;exact c h0
  cases j:b.findIdx? (fun x=>decide (x.name=s.name)) with
  | none=>rw[j] at h;exact(hb 21 _ (by decide) h).elim
  | some k=>
   rw[j] at h;dsimp only at h ⊢;cases hx:b[k]? with
   | none=>rfl
   | some x=>
    rw[hx] at h;dsimp only at h ⊢;by_cases hh:x.has=true
    ·rw[θ hh] at h;exact(hb 20 _ (by decide) h).elim
    ·rw[ξ hh] at h ⊢;exact mF h
section
variable {L:List Tk}{ex:Nat→Z→Ex×Z}{N:Nat}(hB:tD ex) (hS:aLc L ex N) (hZ:o5 L) (hwt:wt L≤30000)
include hB hS hZ hwt
theorem aQf (sigs:List Sg) (binds:List Bd) (deep:Nat) {z:Z}(h:ZA L z) (he:z.e=0) (j:z.R.length≤N) (q:deep≤40) (h1:sigs.length≤4001) (h2:binds.length≤4001):
  bB Tryz.prog 242 ([]++[R.vp 3 0,R.vp 7 0,R.vp 8 0,R.vp 5 0].map V.one) ((600,rO L z)::(3,pR)::(5,dO deep)::xA sigs binds) (fL L (.tup []) (aZ ex sigs binds (deep+1) z).2 ((3,pR)::(5,dO deep)::xA (aZ ex sigs binds (deep+1) z).1.1 (aZ ex sigs binds (deep+1) z).1.2)):=by
 have hs:=aP6 hB hS hZ hwt sigs binds (deep+1) h he j (by omega) h1 h2;generalize aZ ex sigs binds (deep+1) z=y at hs ⊢;obtain⟨⟨S,Bs⟩,z2⟩:=y;dsimp only at hs ⊢;refine mG (n:=8) tok Tryz.func242 rfl rfl rfl rfl ?_;by_cases c:z2.e=0
 case neg=>
  have hp:=bB.err hs c;rw[aI c];exact aC mixed (akN 3 [] rfl (kp hp))
 have hs:=bB.ok hs c;rw[b7 c];refine aC mixed (akN 3 [] rfl (kc hs ?_));exact az rtN
omit hB hS hZ hwt
theorem aIo (deep:Nat) (z:Z):aC2 ex deep z=lpZ b6 (fun(s:List Sg×List Bd) z=>aZ ex s.1 s.2 (deep+1) z) ((aQ dG z).R.length+1) 0 ([],[]) (aQ dG z):=aEu ex (deep+1) _ _ _ _ _
include hB hS hZ hwt
theorem aQe (hO:ExO L ex) (a:Int) (deep:Nat) {z:Z}(h:ZA L z) (he:z.e=0) (hN:z.R.length≤N) (hd:deep≤40):bB Tryz.prog 224 [rP,I .i64 a,I .i64 (deep:Nat)] [(600,rO L z)] (fL L (.pa (bN (zG ex a deep z).1)) (zG ex a deep z).2 []):=by
 have hst:∀(n:Nat) (s:List Sg×List Bd) (z:Z),(eW s.1∧dZ s.2∧s.1.length≤n∧s.2.length≤n)→n<60→ZA L z→z.e=0→ZA L (aZ ex s.1 s.2 (deep+1) z).2∧(eW (aZ ex s.1 s.2 (deep+1) z).1.1∧dZ (aZ ex s.1 s.2 (deep+1) z).1.2∧(aZ ex s.1 s.2 (deep+1) z).1.1.length≤n+1∧(aZ ex s.1 s.2 (deep+1) z).1.2.length≤n+1)∧((aZ ex s.1 s.2 (deep+1) z).2.e=0→(aZ ex s.1 s.2 (deep+1) z).2.R.length<z.R.length)∧Ze z (aZ ex s.1 s.2 (deep+1) z).2:=fun n s z E hn h he=>by
  obtain⟨k1,k2,k3,k4,k5,k6,k7⟩:=kL hO hwt s.1 s.2 (deep+1) h E.1 E.2.1;exact⟨k1,⟨k2,k3,by have:=E.2.2.1;omega,by have:=E.2.2.2;omega⟩,k6,k7⟩
 have hI0:eW ([]:List Sg)∧dZ ([]:List Bd)∧([]:List Sg).length≤0∧([]:List Bd).length≤0:=⟨fun s hs=>(by cases hs),trivial,le_refl _,le_refl _⟩
 have q:=aJi deep (step:=fun(s:List Sg×List Bd) z=>aZ ex s.1 s.2 (deep+1) z) (Inv:=fun n s=>eW s.1∧dZ s.2∧s.1.length≤n∧s.2.length≤n) (L:=L) (N:=N) (fun n s z E hn h he hN=>aQf hB hS hZ hwt s.1 s.2 deep h he hN hd (by have:=E.2.2.1;omega) (by have:=E.2.2.2;omega)) hst h he hN (s:=([],[])) hI0;have hok:=sB (sh:=b6) (Inv:=fun n (s:List Sg×List Bd)=>eW s.1∧dZ s.2∧s.1.length≤n∧s.2.length≤n) hst ((aQ dG z).R.length+1) 0 ([],[]) (aQ dG z) (Ac _) hI0 (h.need dG);unfold tJ at q;unfold zG;rw[aIo];unfold aN9;have l0:(aQ dG z).R.length≤z.R.length:=Ze.need dG z;generalize aQ dG z=z1 at q hok l0 ⊢;generalize lpZ b6 (fun(s:List Sg×List Bd) z=>aZ ex s.1 s.2 (deep+1) z) (z1.R.length+1) 0 ([],[]) z1=W at q hok ⊢;obtain⟨⟨sigs,binds⟩,z2⟩:=W;dsimp only at q hok ⊢;obtain⟨g1,⟨m,hm60,hs,hb,hsl,hbl'⟩,g3⟩:=hok

 have h3:=g1.need b6;have l3:(aQ b6 z2).R.length≤z2.R.length:=Ze.need b6 z2;have g3:z2.R.length≤z1.R.length:=g3;generalize aQ b6 z2=z3 at q h3 l3 ⊢;refine mG (n:=25) tok Tryz.func224 rfl rfl rfl rfl ?_;refine sg rfl (sg rfl (sg rfl (AWp.sub (Sub.ownCell (x:=7) (k:=0) (id:=510) 92 9 rfl rfl rfl) ?_)));refine AWp.sub (Sub.ownCell (x:=8) (k:=0) (id:=511) 99 33 rfl rfl rfl) ?_;by_cases r:z3.e=0
 case neg=>
  have hp:=bB.err q r;rw[mU r,bD r,hB _ _ r,aI r];exact sk 2 rfl (kp hp)
 have q:=bB.ok q r;refine sk 2 rfl (kc q ?_);refine az ?_;have j:=aF1 sigs binds r (by omega) (by omega);obtain⟨U,p2,p3,Y⟩:=fK sigs binds z3 h3 hs hb;have O:= @mF sigs binds z3;generalize dF sigs binds z3=y at j U p2 p3 Y O ⊢;obtain⟨Bs,M⟩:=y;dsimp only at j U p2 p3 Y O ⊢;have Y:M.R.length≤z3.R.length:=Y;unfold aN6 at j;dsimp only at j;refine AWp.sub (Sub.freeze (id:=510) rfl) ?_;by_cases u:M.e=0
 case neg=>
  rw[ξ u] at j;have hp:aA8 _ _ _ _ _:=j;rw[bD u,hB _ _ u,aI u];exact sk 2 rfl (kp hp)
 rw[θ u] at j;have j:b8 _ _ _ _ _ _:=j;obtain rfl:=O u;have hBl:binds.length=(Bs.map aW).length:=by rw[η,p3]
 refine sk 2 rfl (kc j ?_);refine kz 1 rfl ?_;have A:=cQ U u inS;have h7:=U.need inS;have l7:(aQ inS M).R.length≤M.R.length:=Ze.need inS M;generalize aQ inS M=z7 at A h7 l7 ⊢;by_cases B:z7.e=0
 case neg=>
  have hp:=bB.err A B;rw[hB _ _ B,aI B];exact sk 1 rfl (kp hp)
 have A:=bB.ok A B;refine sk 1 rfl (kc A ?_);refine az ?_;have hex:=hS (deep+1) z7 h7 B (by omega) (by omega);generalize ex (deep+1) z7=y at hex ⊢;obtain⟨e,z8⟩:=y;dsimp only at hex ⊢;refine AWp.sub (Sub.freeze (id:=511) rfl) ?_;by_cases J:z8.e=0
 case neg=>
  have hp:=bB.err hex J;rw[aI J];refine aA (aC mixed (akN 5 [] rfl (kpD (.pa (bN zEx)) [(600,rO L z7)] hp ?_)));exact ak 3 [(6,.all)] rfl (az trivial)
 have hex:=bB.ok hex J;rw[b7 J];refine aA (aC mixed (akN 5 [] rfl (kc hex ?_)));refine ak 3 [(6,.all)] rfl (az ?_);unfold bN;rw[zY];exact aE (rtC trw (hc:=.agg (.c .refl (.c .refl (.c .refl (.c .refl (.c .refl (.c .nl (.hs rfl hBl (Go.AM.take_all hBl) (.c .nl (.c .nl (.c .nl (.c .refl (.c .refl (.c .refl (.c .nl (.c .nl .nil)))))))))))))))))
end
end Go.Proofs.YtpmheldmadendaaGreatDoor
