/-
  Texts Rd45 to Rd56 in one.
-/
import Derived.Test.YtpmheldmadendaaGreatDoorM8
import Derived.Tactics2
import Derived.LoopTactic
open List (append_nil dropWhile_cons drop_eq_getElem_cons drop_zero length_append length_cons length_drop length_map length_nil length_pos_iff length_set length_take map_append mem_cons mem_singleton set_append_right take_add_one take_length)
open Nat (le_refl le_trans lt_irrefl lt_succ_self sub_self succ_pos zero_le)
namespace Go.Proofs.YtpmheldmadendaaGreatDoor
open Go Go.AM
set_option maxRecDepth 20000
set_option maxHeartbeats 4000000
theorem aDy {t:Tk}{R:List Tk}(h:lN R):lN (t::R):=by
 obtain⟨p,e,rfl,he⟩:=h;exact⟨t::p,e,rfl,he⟩
theorem aCz {c:UInt8}{r:Str}{k:Int}{t:Str}{v:Int}(h:mW (c::r)=.ok (k,t,v)):(k=4→v=0)∧1≤k∧k≤5:=by
 rw[mW] at h;split at h
 ·split at h
  ·cases h
  ·cases h;exact⟨fun e=>by omega,by decide,by decide⟩
 split at h
 ·unfold qX at h;split at h
  ·cases h
  split at h
  ·cases h;exact⟨fun e=>by omega,by decide,by decide⟩
  split at h
  ·cases h;exact⟨fun e=>by omega,by decide,by decide⟩
  ·cases h;exact⟨fun e=>by omega,by decide,by decide⟩
 split at h
 ·cases h
 ·cases h;exact⟨fun _=>rfl,by decide,by decide⟩
structure LOk (L:List Tk) (n:Nat):Prop where
 e:lN L
 w:wt L≤7*n+6
 l:L.length≤n+1
 z:mT L
theorem vM:∀(f a:Nat) (s:Str) (l:List Tk),lO f a s=.ok l→LOk l s.length
 | 0,a,s,l,h=>by
  rw[lO] at h;cases h;refine⟨⟨[],_,rfl,rfl⟩,by rw[eR];show 0+6+0≤_;omega,by simp,fun t ht=>?_⟩;rw[Aw.1 ht];exact fun _=>rfl
 | f+1,a,[],l,h=>by
  rw[lO] at h;cases h;refine⟨⟨[],_,rfl,rfl⟩,by rw[eR];exact le_refl _,by simp,fun t ht=>?_⟩;rw[Aw.1 ht];exact fun _=>rfl
 | f+1,a,c::r,l,h=>by
  rw[lO] at h;split at h
  ·rename_i hb;obtain⟨g1,g2,g3,g4⟩:=vM f _ _ l h;rw[Bf] at g2 g3;exact⟨g1,by omega,by omega,g4⟩
  ·cases ho:mW (c::r) with
   | error e=>rw[ho] at h;cases h
   | ok y=>
    obtain⟨k,t,v⟩:=y;rw[ho] at h;dsimp only at h;cases q:lO f (a+t.length) ((c::r).drop t.length) with
    | error e=>rw[q,tQ] at h;cases h
    | ok A=>
     rw[q,tQ] at h;cases h;obtain⟨g1,g2,g3,g4⟩:=vM f _ _ A q;obtain⟨E,I⟩:=qV ho;obtain⟨B,J,M⟩:=aCz ho;rw[Bf] at g2 g3;refine⟨aDy g1,?_,?_,fun u hu=>?_⟩
     ·rw[eR];show t.length+6+wt A≤_;omega
     ·rw[τ];omega
     ·rcases Ap.1 hu with rfl | hu
      ·exact B
      ·exact g4 u hu
theorem aKn {s:Str}{l:List Tk}(h:kA s=.ok l):LOk l s.length∧s.length≤4000:=by
 unfold kA at h;split at h
 ·cases h
 ·exact⟨vM _ _ _ _ h,by omega⟩
theorem r1:∀(f a:Nat) (s:Str) (e p:Int),lO f a s=.error (e,p)→¬e=0
 | 0,a,s,e,p,h=>by rw[lO] at h;cases h
 | f+1,a,[],e,p,h=>by rw[lO] at h;cases h
 | f+1,a,c::r,e,p,h=>by
  rw[lO] at h;split at h
  ·exact r1 f _ _ e p h
  ·cases ho:mW (c::r) with
   | error e'=>
    rw[ho] at h;dsimp only at h;cases h;exact qW ho
   | ok y=>
    obtain⟨k,t,v⟩:=y;rw[ho] at h;dsimp only at h;cases q:lO f (a+t.length) ((c::r).drop t.length) with
    | error e'=>obtain⟨e',A⟩:=e';rw[q,tQ] at h;cases h;exact r1 f _ _ e p q
    | ok B=>rw[q,tQ] at h;cases h
theorem kQ {s:Str}{e p:Int}(h:kA s=.error (e,p)):¬e=0:=by
 unfold kA at h;split at h
 ·cases h;decide
 ·exact r1 _ _ _ _ _ h
def oL:Tk:=⟨6,[],0,0⟩
def bP (s:Str):List Tk×Z:=match kA s with
 | .ok l=>(l,⟨l,0,0⟩)
 | .error (e,p)=>([oL],⟨[oL],e,p⟩)
theorem j3 (s:Str):ZA (bP s).1 (bP s).2∧wt (bP s).1≤30000∧mT (bP s).1∧(bP s).1=(bP s).2.R:=by
 unfold bP;cases h:kA s with
 | ok l=>
  obtain⟨⟨h1,h2,q,c⟩,r⟩:=aKn h;refine⟨⟨?_,h1,by dsimp only;omega⟩,by dsimp only;omega,c,rfl⟩;show l.drop (l.length-l.length)=l;rw[B4];rfl
 | error e=>
  obtain⟨e,p⟩:=e;refine⟨⟨rfl,⟨[],oL,rfl,rfl⟩,by show 1≤_;decide⟩,?_,?_,rfl⟩
  ·show wt [oL]≤30000;decide
  ·intro t ht;rw[Aw.1 ht];exact fun _=>rfl
theorem aH4 (s:Str):b9 Tryz.prog 38 [Go.AM.T s] [] xP [(700,zO (bP s).1 (bP s).2)]:=by
 have r:=aO6 s;unfold bP;have q:= @kQ s;generalize kA s=w at r q ⊢;refine bM (n:=21) tok Tryz.func38 rfl rfl rfl ?_;refine sg rfl (sk 1 rfl (kc r ?_));cases w with
 | ok l=>
  unfold aAl atV;refine kz 6 rfl (aA (sg rfl (aB rfl (fun hb=>Bool.noConfusion hb) (fun _=>aE (sgh [(2,.id 700)] rfl ?_)))));have e:zO l ⟨l,0,0⟩=.var 78 [.c (.sl 4 (l.map aJ)),.c (.int .i64 0),.c (.int .i64 0),.c (.int .i64 0)]:=by unfold zO;dsimp only;rw[B4];rfl
  dsimp only;rw[e];exact aD rtT
 | error e=>
  obtain⟨e,p⟩:=e;have he:=q rfl;have d0:(!decide (e=0))=true:=by rw[ψ he];rfl
  unfold aAl atV;exact kz 6 rfl (aA (sg rfl (aB rfl (fun _=>sgh [(1,.all),(4,.id 700)] rfl (aD rtT)) (fun hb=>absurd (hb.symm.trans d0) Bool.noConfusion))))
theorem ZA.endz {L:List Tk}{z:Z}(h:ZA L z):ZA L (eM z):=by
 unfold eM;split
 ·exact h.fail _ _
 ·exact h
theorem aOy {L:List Tk}{z:Z}(h:ZA L z):b9 Tryz.prog 41 [xP] [(700,zO L z)] (.tup []) [(700,zO L (eM z))]:=by
 have ho:=rH L z;have hn:=oA h;have q:=oC L z 12 (aX z).pl;unfold eM;refine bM (n:=15) tok Tryz.func41 rfl rfl rfl ?_;by_cases he:z.e=0
 case neg=>
  rw[η (fun k=>he k.1)];rw[ψ he] at ho;refine sk 1 rfl (kc ho ?_);exact ak 6 [(2,.bv false),(7,.bv false)] rfl (az (aB rfl (fun hb=>Bool.noConfusion hb) (fun _=>aE rtN)))
 rw[φ he] at ho;refine sk 1 rfl (kc ho ?_);refine ak 2 [(2,.bv true)] rfl (kcG hn ?_);refine ak 3 [(2,.bv true),(7,.bv true)] rfl (az ?_);by_cases c:(aX z).kind=6
 ·rw[η (fun k=>k.2 c)];have d:(!decide ((aX z).kind=6))=false:=by rw[φ c];rfl
  exact aB rfl (fun hb=>absurd (hb.symm.trans d) Bool.noConfusion) (fun _=>aE rtN)
 ·rw[ξ ⟨he,c⟩];have d:(!decide ((aX z).kind=6))=true:=by rw[ψ c];rfl
  refine aB rfl (fun _=>aC mixed (ak 2 [] rfl (kc hn ?_))) (fun hb=>absurd (hb.symm.trans d) Bool.noConfusion);refine ak 1 [] rfl (kc q ?_);exact az rtN
def fU (s:Str):Pg×Z:=if(bP s).2.e=0 then j9 (aI6 (bP s).2.R.length) (bP s).2 else(zPg,(bP s).2)
def gD (s:Str):Pg×Int×Int:=if(eM (fU s).2).e=0 then((fU s).1,(eM (fU s).2).e,(eM (fU s).2).p) else(zPg,(eM (fU s).2).e,(eM (fU s).2).p)
theorem xG {L:List Tk}{ex:Nat→Z→Ex×Z}(hO:ExO L ex) (hwt:wt L≤30000):∀(f n:Nat) (p:Pg) (sigs:List Sg) (z:Z),ZA L z→PgOk n p→(eT sigs∧sigs.length≤n)→n≤60→ZA L (kH ex f n p sigs z).2∧PgOk 60 (kH ex f n p sigs z).1.1∧(eT (kH ex f n p sigs z).1.2∧(kH ex f n p sigs z).1.2.length≤60)
 | 0,n,p,sigs,z,h,hp,hs,hn=>by
  rw[kH];exact⟨h,⟨⟨le_trans hp.d.1 hn,hp.d.2⟩,⟨le_trans hp.c.1 hn,hp.c.2⟩,⟨le_trans hp.i.1 hn,hp.i.2⟩,⟨le_trans hp.b.1 hn,hp.b.2⟩⟩,⟨hs.1,le_trans hs.2 hn⟩⟩
 | f+1,n,p,sigs,z,h,hp,hs,hn=>by
  rw[kH];split
  ·rename_i hm;obtain⟨_,q⟩:=gE hm;obtain⟨g1,g2,g3,_,_⟩:=yC hO hwt (h.more [] n) hp hs;exact xG hO hwt f (n+1) _ _ _ g1 g2 g3 q
  ·exact⟨h.more _ _,⟨⟨le_trans hp.d.1 hn,hp.d.2⟩,⟨le_trans hp.c.1 hn,hp.c.2⟩,⟨le_trans hp.i.1 hn,hp.i.2⟩,⟨le_trans hp.b.1 hn,hp.b.2⟩⟩,⟨hs.1,le_trans hs.2 hn⟩⟩
theorem PgOk.z (n:Nat):PgOk n zPg:=⟨⟨Ae _,fun d c=>(by cases c)⟩,⟨Ae _,fun d c=>(by cases c)⟩,⟨Ae _,fun d c=>(by cases c)⟩,⟨Ae _,trivial⟩⟩
theorem vG {L:List Tk}{ex:Nat→Z→Ex×Z}(hO:ExO L ex) (hwt:wt L≤30000) {z:Z}(h:ZA L z):ZA L (j9 ex z).2∧PgOk 60 (j9 ex z).1:=by
 obtain⟨g1,g2,g3⟩:=xG hO hwt (z.R.length+1) 0 zPg [] z h (.z 0) ⟨fun s hs=>(by cases hs),le_refl _⟩ (Ae _);obtain⟨q,r,y,_⟩:=gV (kH ex (z.R.length+1) 0 zPg [] z).1.2 (kH ex (z.R.length+1) 0 zPg [] z).1.1.binds _ g1 g3.1 g2.b.2;exact⟨q,⟨g2.d,g2.c,g2.i,⟨by show(dY _ _ _).1.length≤_;rw[y];exact g2.b.1,r⟩⟩⟩
end Go.Proofs.YtpmheldmadendaaGreatDoor
namespace Go.Proofs.YtpmheldmadendaaGreatDoor
open Go
section
set_option maxRecDepth 100000
set_option maxHeartbeats 4000000
def lJ (e p:Int):Value:=.iface 131 (.agg #[.int .i64 e,.int .i64 p])
theorem sI (e p:Int) (w:World):Calls Tryz.prog 133 #[.int .i64 e,.int .i64 p] w fun c w'=>c=.panicked [{ v:=lJ e p,recovered:=false }]∧w=w':=by
 go_enter Tryz.func133,Tryz.ntmps133
 go_wp2
 all_goals exact⟨rfl,⟨rfl,rfl⟩⟩
end
open Go.AM
theorem aHr (e p:Int):wS Tryz.prog 133 [I .i64 e,I .i64 p] [] (lJ e p):=by
 intro S μ w vals r q;have c:vals=[.int .i64 e,.int .i64 p]:=by
  simp only[aS] at q;obtain⟨v,vs,rfl,h1,v2,y,rfl,h2,rfl⟩:=q;simp only[aK,aQ,Rep] at h1 h2;subst h1 h2;rfl
 subst c;refine(sI e p w).mono fun A w' ⟨h1,h2⟩=>?_
 subst h2;exact⟨S,μ,[],h1,fun id o ho=>(by cases ho),r⟩
theorem b7 (e p:Int):b9 Tryz.prog 81 [B true,I .i64 e,I .i64 p] [] (.tup []) []:=by
 refine bM (n:=11) tok Tryz.func81 rfl rfl rfl ?_;exact sg rfl (aB rfl (fun hb=>Bool.noConfusion hb) (fun _=>aE rtN))
theorem bB (e p:Int):wS Tryz.prog 81 [B false,I .i64 e,I .i64 p] [] (lJ e p):=by
 have c:=aHr e p;refine aKu (n:=11) Tryz.func81 rfl rfl rfl rfl ?_;exact sg rfl (aB rfl (fun _=>aC mixed (ak 2 [] rfl (kp c))) (fun hb=>Bool.noConfusion hb))
def rP:V:=.one (.vp 600 0)
def rO (L:List Tk) (z:Z):AObj:=.var 136 [.c (.sl 4 (L.map aJ)),.c (.int .i64 ((L.length-z.R.length:Nat):Int))]
def eF (L:List Tk) (res:V) (z:Z) (hs:List (Nat×AObj)):Except Value (V×List (Nat×AObj)):=if z.e=0 then .ok (res,(600,rO L z)::hs) else .error (lJ z.e z.p)
theorem aW {L:List Tk}{res:V}{z:Z}{hs:List (Nat×AObj)}(h:z.e=0):eF L res z hs=.ok (res,(600,rO L z)::hs):=ξ h
theorem aG {L:List Tk}{res:V}{z:Z}{hs:List (Nat×AObj)}(h:¬z.e=0):eF L res z hs=.error (lJ z.e z.p):=η h
theorem aY.ok {P:Program}{f:FuncId}{args:List V}{hin:List (Nat×AObj)}{L:List Tk}{res:V}{z:Z}{hs:List (Nat×AObj)}(h:aY P f args hin (eF L res z hs)) (he:z.e=0):b9 P f args hin res ((600,rO L z)::hs):=by rw[aW he] at h;exact h
theorem aY.err {P:Program}{f:FuncId}{args:List V}{hin:List (Nat×AObj)}{L:List Tk}{res:V}{z:Z}{hs:List (Nat×AObj)}(h:aY P f args hin (eF L res z hs)) (he:¬z.e=0):wS P f args hin (lJ z.e z.p):=by rw[aG he] at h;exact h
theorem cT {L:List Tk}{z:Z}(h:ZA L z):b9 Tryz.prog 82 [rP] [(600,rO L z)] (tkV (aX z)) [(600,rO L z)]:=by
 have hl:=bG aJ h.now;have c:(L.map aJ).length=L.length:=χ _;have q:=h.lt;have r:=h.l;refine bM (n:=13) tok Tryz.func82 rfl rfl rfl ?_;exact sg rfl (sgh [(8,.row (L.length-z.R.length) (aJ (aX z)))] rfl (aD (rtC trw)))
theorem jO {L:List Tk}{z:Z}(h:ZA L z) (s:Str):b9 Tryz.prog 134 [rP,Go.AM.T s] [(600,rO L z)] (B (isZ s z)) [(600,rO L z)]:=by
 have hn:=cT h;unfold isZ;generalize aX z=t at hn ⊢;unfold isK;refine bM (n:=24) tok Tryz.func134 rfl rfl rfl ?_;refine sg rfl (sk 3 rfl (kc hn ?_));refine kz 2 rfl ?_;by_cases c:t.kind=4
 ·have d4:decide (t.kind=4)=true:=φ c;rw[d4,Co,Cq];exact sgh [(3,.bv true),(7,.bv true),(8,.bv true),(13,.bv true)] rfl (aD rtT)
 have d4:decide (t.kind=4)=false:=ψ c;rw[d4,Bb];by_cases q:t.kind=5
 ·have d5:decide (t.kind=5)=true:=φ q;rw[d5,Cq];exact sgh [(3,.bv false),(7,.bv false),(8,.bv true),(13,.bv true)] rfl (aD rtT)
 ·have d5:decide (t.kind=5)=false:=ψ q;rw[d5,B8];exact sgh [(3,.bv false),(7,.bv false),(8,.bv false),(13,.bv false)] rfl (aD rtT)
theorem dQ {L:List Tk}{z:Z}(h:ZA L z) (he:z.e=0) (s:Str):b9 Tryz.prog 86 [rP,Go.AM.T s] [(600,rO L z)] (B (bV s z).1) [(600,rO L (bV s z).2)]:=by
 have hi:=jO h s;have c:= @gZ s (aX z);have y:=h.l;refine bM (n:=20) tok Tryz.func86 rfl rfl rfl ?_;refine sg rfl (sk 2 rfl (kc hi ?_));refine kz 1 rfl (aA (sg rfl ?_));unfold bV;cases r:isZ s z with
 | false=>
  rw[η (fun h=>by cases h.2)];exact aB rfl (fun hb=>Bool.noConfusion hb) (fun _=>aE (sg rfl (aD rtT)))
 | true=>
  rw[ξ ⟨he,rfl⟩];have q:isK s (aX z)=true:=r;obtain⟨_,hn⟩:=h.tl (c q) z.e z.p;unfold rO;dsimp only;rw[hn];exact aB rfl (fun _=>agN [] rfl (sg rfl (aD rtT))) (fun hb=>Bool.noConfusion hb)
theorem cE {L:List Tk}{z:Z}(h:ZA L z) (he:z.e=0) (s:Str):aY Tryz.prog 138 [rP,Go.AM.T s] [(600,rO L z)] (eF L (.tup []) (aR s z) []):=by
 have hm:=dQ h he s;have q:= @mN s z;have h1:=h.may s;have r:=fL s z;have hn:=cT h1;have y:aR s z=if(bV s z).1=true then(bV s z).2 else bY 12 (aX z).pl z:=rfl
 rw[y];generalize bV s z=m at hm q h1 hn r ⊢;obtain⟨b,c⟩:=m;dsimp only at hm q h1 hn r ⊢;cases b with
 | true=>
  have A:=b7 12 (aX c).pl;rw[ξ rfl,aW (r.trans he)];refine bM (n:=13) tok Tryz.func138 rfl rfl rfl ?_;refine aC mixed (ak 2 [] rfl (kc hm ?_));refine ak 3 [] rfl (kc hn ?_);refine ak 1 [] rfl (kc A ?_);exact az rtN
 | false=>
  obtain rfl:=q rfl;have B:=bB 12 (aX c).pl;have E:bY 12 (aX c).pl c=⟨c.R,12,(aX c).pl⟩:=ξ he;rw[η π,E,aG (show ¬(12:Int)=0 by decide)];refine aKu (n:=13) Tryz.func138 rfl rfl rfl rfl ?_;refine aC mixed (ak 2 [] rfl (kc hm ?_));refine ak 3 [] rfl (kc hn ?_);refine ak 1 [] rfl (kpD (.tup []) [] B ?_);exact az trivial
end Go.Proofs.YtpmheldmadendaaGreatDoor
namespace Go.Proofs.YtpmheldmadendaaGreatDoor
open Go Go.AM
set_option maxRecDepth 20000
set_option maxHeartbeats 4000000
theorem fH {L:List Tk}{z:Z}(h:ZA L z) (he:z.e=0) (k:Int) (A:¬k=6):aY Tryz.prog 135 [rP,I .i64 k] [(600,rO L z)] (eF L (tkV (aV k z).1) (aV k z).2 []):=by
 have hn:=cT h;have q:=h.tl;have B:=h.l;unfold aV;by_cases c:(aX z).kind=k
 ·have d:decide ((aX z).kind=k)=true:=φ c;have hm:=b7 12 (aX z).pl;rw[ξ ⟨he,c⟩];dsimp only;rw[aW (show(Z.mk z.R.tail z.e z.p).e=0 from he)];obtain⟨_,r⟩:=q (by rw[c];exact A) z.e z.p;unfold rO;dsimp only;rw[r];refine bM (n:=27) tok Tryz.func135 rfl rfl rfl ?_;refine sg rfl (sk 3 rfl (kc hn ?_));refine kz 2 rfl (sk 6 rfl ?_);rw[d];refine kc hm ?_;exact az (aA (agN [] rfl (sg rfl (aD (rtC trw)))))
 ·have d:decide ((aX z).kind=k)=false:=ψ c;have hm:=bB 12 (aX z).pl;have y:bY 12 (aX z).pl z=⟨z.R,12,(aX z).pl⟩:=ξ he;rw[η (fun h=>c h.2),y];dsimp only;rw[aG (show ¬(12:Int)=0 by decide)];refine aKu (n:=27) Tryz.func135 rfl rfl rfl rfl ?_;refine sg rfl (sk 3 rfl (kc hn ?_));refine kz 2 rfl (sk 6 rfl ?_);rw[d];exact kp hm
theorem l9 {L:List Tk}{z:Z}(h:ZA L z) (he:z.e=0):b9 Tryz.prog 136 [rP] [(600,rO L z)] (.one (.c (.sl 4 ((b8 z).1.map aJ)))) [(600,rO L (b8 z).2)]:=by
 refine bM (n:=16) tok Tryz.func136 rfl rfl rfl ?_;refine sg rfl (sg rfl (AWp.sub (Sub.own (t:=3) (id:=500) 139 4 rfl rfl) ?_));refine aA (aF (aM (fun q:List Tk×Z=>mk [(0,rP),(3,.one (.hs 500 0 q.1.length q.1.length))] [(600,rO L q.2),(500,.arr 139 4 (q.1.map aJ) 0)]) (fun q=>ZA L q.2∧q.2.e=0∧q.1.length+q.2.R.length≤4001∧q.1++(b8 q.2).1=(b8 z).1∧(b8 q.2).2=(b8 z).2) (fun q=>q.2.R.length) ([],z) ⟨h,he,by dsimp only;have:=h.len;rw[length_nil];omega,rfl,rfl⟩ sl ?_));clear he;rintro⟨out,U⟩ ⟨r,he,hlen,I,J⟩;dsimp only at r he hlen I J ⊢;rw[←I,←J];clear I J;have hout:(out.map aJ).length=out.length:=χ _;have hn:=cT r;have hw:=fH r he 1 (by decide);obtain⟨R,e,p⟩:=U;obtain⟨t,R,rfl⟩:=r.e.ne;have he:e=0:=he;have E:aX (Z.mk (t::R) e p)=t:=rfl;rw[E] at hn;refine aA (sk 3 rfl (kc hn ?_));refine kz 2 rfl (aB rfl (fun hb=>?_) (fun hb=>?_))
 ·have y:t.kind=1:=κ hb;have hl:aFs t=true:=hb;have Y:aV 1 (Z.mk (t::R) e p)=(t,⟨R,e,p⟩):=by unfold aV;rw[ξ ⟨he,y⟩];rfl
  rw[Y] at hw;have hw:=aY.ok (z:=⟨R,e,p⟩) hw he;have h2:ZA L ⟨R,e,p⟩:=(r.tl (by rw[E,y];decide) e p).1
  have M:b8 ⟨t::R,e,p⟩=(t::(b8 ⟨R,e,p⟩).1,(b8 ⟨R,e,p⟩).2):=by
   unfold b8;rw[ξ he,ξ he];show((t::R).takeWhile aFs,Z.mk ((t::R).dropWhile aFs) _ _)=_;rw[List.takeWhile_cons,ξ hl,Cj,ξ hl]
  have O:out.length+(R.length+1)≤4001:=hlen;refine aE (aF (aC mixed (ak 2 [] rfl (kc hw ?_))));refine ak 3 [(3,.all)] rfl (az ?_);have B:out.map aJ++[aJ t]=(out++[t]).map aJ:=by rw[Am];rfl
  have A:(out++[t]).length=out.length+1:=by rw[ζ];rfl
  refine⟨(out++[t],⟨R,e,p⟩),⟨h2,he,by dsimp only;rw[A];omega,by rw[M];simp,by rw[M]⟩,lt_succ_self _,?_⟩;exact sl (he:=⟨rfl,Go.AM.hs_ren (by rw[A,←hout];rfl) (by rw[A,←hout];rfl),trivial⟩) (hh:=⟨⟨_,rfl,.var rfl⟩,⟨_,rfl,.arrS B⟩,trivial⟩)
 ·have y:¬aFs t=true:=fun h=>by rw[show aFs t=false from hb] at h;cases h
  refine aL (AWp.sub (Sub.freeze (id:=500) rfl) ?_);refine sg rfl ?_;unfold b8;rw[ξ he];dsimp only;rw[List.takeWhile_cons,η y,Cm,Cj,η y];exact aD (rtH (hsz:=hout.symm) (hlen:=hout.symm))
theorem rF (l:List Tk) (hl:l.length≤4001):b9 Tryz.prog 137 [.one (.c (.sl 4 (l.map aJ)))] [] (dH (l.map (·.text))) []:=by
 have r:(l.map aJ).length=l.length:=χ _;refine bM (n:=19) tok Tryz.func137 rfl rfl rfl ?_;refine sg rfl (sg rfl (AWp.sub (Sub.own (t:=3) (id:=500) 9 1 rfl rfl) ?_));refine aA (sg rfl (aF (aM (fun i:Nat=>mk [(3,.one (.hs 500 0 i i)),(6,.one (.c (.sl 4 (l.map aJ)))),(7,I .i64 ((l.map aJ).length:Nat)),(8,I .i64 (i:Nat))] [(500,.arr 9 1 (((l.take i).map (·.text)).map bD) 0)]) (fun i=>i≤l.length) (fun i=>l.length-i) 0 (Ae _) sl ?_)));intro i hi;have q:(((l.take i).map (·.text)).map bD).length=i:=by rw[χ,χ,Al];omega
 refine sg rfl (aA (aB rfl (fun hb=>?_) (fun hb=>?_)))
 ·have y:=ltD hb r;obtain⟨t,ht⟩:=aP y;have E:=bG aJ ht;have A:((l.take (i+1)).map (·.text)).map bD=((l.take i).map (·.text)).map bD++[[.str t.text]]:=by rw[Bk,ht,Am,Am];rfl
  exact aE (aA (aF (sgh [(0,.row i (aJ t))] rfl (ag [(3,.all)] rfl (agN [] rfl ⟨i+1,y,by dsimp only;omega,sl (he:=⟨Go.AM.hs_ren (congrArg (· +1) q) (congrArg (· +1) q),rfl,rfl,rfl,trivial⟩) (hh:=⟨⟨_,rfl,.arrS A.symm⟩,trivial⟩)⟩)))))
 ·have B:=geD hb r hi;subst B;rw[Az] at q ⊢;refine aL (AWp.sub (Sub.freeze (id:=500) rfl) ?_);exact sg rfl (aD (rtH (hsz:=q.symm) (hlen:=q.symm)))
theorem aH6 {L:List Tk}{z:Z}(h:ZA L z) (he:z.e=0) (hZ:mT L):aY Tryz.prog 140 [rP] [(600,rO L z)] (eF L (tyV (fI z).1) (fI z).2 []):=by
 have c:=aH5 L hZ z.R _ h;have q:=fS (3*z.R.length) 0 z.R;unfold fI;generalize dI (3*z.R.length) 0 z.R=w at c q ⊢;cases w with
 | error e=>
  obtain⟨e,p⟩:=e;have r:=q e p rfl;have hm:=bB e p;have d:decide (e=0)=false:=ψ r;unfold tpV atV at c;dsimp only[atZ];rw[aG (show ¬(Z.mk z.R e p).e=0 from r)];refine aKu (n:=35) Tryz.func140 rfl rfl rfl rfl ?_;refine sg rfl (sk 10 rfl (kc c ?_));refine kz 9 rfl (sk 7 rfl ?_);rw[d];exact kp hm
 | ok y=>
  obtain⟨x,R'⟩:=y;have hm:=b7 0 0;rw[hY] at c;unfold atV at c;dsimp only[atZ];rw[aW (show(Z.mk R' z.e z.p).e=0 from he)];refine bM (n:=35) tok Tryz.func140 rfl rfl rfl ?_;refine sg rfl (sk 10 rfl (kc c ?_));refine kz 9 rfl (sk 7 rfl (kc hm ?_));exact az (sg rfl (sg rfl (aD (rtC trw))))
theorem tZ {L:List Tk}{z:Z}(h:ZA L z) (he:z.e=0) (hZ:mT L):aY Tryz.prog 141 [rP] [(600,rO L z)] (eF L (.one (.c (.sl 5 ((bL z).1.map aT)))) (bL z).2 []):=by
 have q:=rJ L hZ z.R _ h;have r:= @iQ z.R;unfold bL;rw[ξ he];generalize dL z.R=w at q r ⊢;cases w with
 | error e=>
  obtain⟨e,p⟩:=e;have A:=r rfl;have hm:=bB e p;have d:decide (e=0)=false:=ψ A;unfold aMg atV at q;dsimp only[aQz];rw[aG (show ¬(Z.mk z.R e p).e=0 from A)];refine aKu (n:=35) Tryz.func141 rfl rfl rfl rfl ?_;refine sg rfl (sk 10 rfl (kc q ?_));refine kz 8 rfl (sk 7 rfl ?_);rw[d];exact kp hm
 | ok y=>
  obtain⟨x,R'⟩:=y;have hm:=b7 0 0;rw[lU] at q;unfold atV at q;dsimp only[aQz];rw[aW (show(Z.mk R' z.e z.p).e=0 from he)];refine bM (n:=35) tok Tryz.func141 rfl rfl rfl ?_;refine sg rfl (sk 10 rfl (kc q ?_));refine kz 8 rfl (sk 7 rfl (kc hm ?_));exact az (sg rfl (sg rfl (aD rtT)))
theorem jC {L:List Tk}{z:Z}(h:ZA L z) (he:z.e=0) (hZ:mT L) (hwt:wt L≤30000):aY Tryz.prog 144 [rP] [(600,rO L z)] (eF L (.pa (kV (bN z).1)) (bN z).2 []):=by
 have c:=aEt L hZ z.R _ h hwt;have q:= @qG z.R;unfold bN;rw[ξ he];generalize cZ z.R=w at c q ⊢;cases w with
 | error e=>
  obtain⟨e,p⟩:=e;have r:=q rfl;have hm:=bB e p;have d:decide (e=0)=false:=ψ r;unfold spV atV at c;dsimp only[aM1];rw[aG (show ¬(Z.mk z.R e p).e=0 from r)];refine aKu (n:=35) Tryz.func144 rfl rfl rfl rfl ?_;refine sg rfl (sk 10 rfl (kc c ?_));refine kz 9 rfl (sk 7 rfl ?_);rw[d];exact kp hm
 | ok y=>
  obtain⟨x,R'⟩:=y;have hm:=b7 0 0;rw[aIv] at c;unfold atV at c;dsimp only[aM1];rw[aW (show(Z.mk R' z.e z.p).e=0 from he)];refine bM (n:=35) tok Tryz.func144 rfl rfl rfl ?_;refine sg rfl (sk 10 rfl (kc c ?_));refine kz 9 rfl (sk 7 rfl (kc hm ?_));exact az (sg rfl (sg rfl (aD (rtC trw))))
theorem aEs {L:List Tk}{z:Z}(h:ZA L z):b9 Tryz.prog 139 [rP] [(600,rO L z)] (B (aPa z)) [(600,rO L z)]:=by
 have hn:=cT h;have hi:=jO h cM;unfold aPa;refine bM (n:=19) tok Tryz.func139 rfl rfl rfl ?_;refine sg rfl (sk 3 rfl (kc hn ?_));refine kz 2 rfl ?_;by_cases h1:(aX z).kind=1
 ·have d1:decide ((aX z).kind=1)=true:=φ h1;rw[d1,Co];exact sgh [(2,.bv true),(5,.bv true),(6,.bv true),(9,.bv true)] rfl (aD rtT)
 have d1:decide ((aX z).kind=1)=false:=ψ h1;rw[d1,Bb];by_cases h2:(aX z).kind=2
 ·have d2:decide ((aX z).kind=2)=true:=φ h2;rw[d2,Co];exact sgh [(2,.bv false),(5,.bv false),(6,.bv true),(9,.bv true)] rfl (aD rtT)
 ·have d2:decide ((aX z).kind=2)=false:=ψ h2;rw[d2,Bb];refine skh 8 [(2,.bv false),(5,.bv false),(6,.bv false)] rfl (kcG hi ?_);exact ak 2 [(6,.bv false),(9,.bv false)] rfl (az (aD rtT))
section
variable {z:Z}(h:¬z.e=0)
include h
theorem j5 {s:Str}:bV s z=(false,z):=η fun k=>h k.1
theorem jE {k:Int}:(aV k z).2=z:=by
 unfold aV;rw[η (fun k=>h k.1)];exact dW h
theorem j4:b8 z=([],z):=η h
theorem cX {n m:Nat}{a:Int}:cN n m a z=z:=by
 unfold cN;split
 ·exact dW h
 ·rfl
theorem pU:bN z=(mH,z):=η h
theorem pV {f:Nat}{out:List Ty}:cB f out z=(out,z):=mO fun k=>h k.1
theorem aEv {s:Str}{n:Nat}:moreA s n z=z:=η fun k=>h k.2.1
theorem jF:cU z=z:=η h
theorem aId {s:Str}{n:Nat}:bI s n z=(false,z):=by
 unfold bI;rw[aEv h,jF h,ξ (.inl h)]
end
theorem eB {n m:Nat}{a:Int}{z:Z}(h:n≤m):cN n m a z=z:=η (by omega)
theorem eC {n m:Nat}{a:Int}{z:Z}(h:¬n≤m) (he:z.e=0):cN n m a z=⟨z.R,2,a⟩:=(ξ (by omega)).trans (ξ he)
theorem c0:¬(2:Int)=0:=by decide
theorem uB {W:List Cn×Z}{f:Nat}{a a2:Int}{out:List Cn}{fs:List Ty}{z:Z}{m:Nat}(h:¬z.e=0)
  (c:W=if(bV aA5 (cN m 16 a (cN fs.length 8 a2 z))).1=true then kY f a out (bV aA5 (cN m 16 a (cN fs.length 8 a2 z))).2 else(out,(bV aA5 (cN m 16 a (cN fs.length 8 a2 z))).2)):W.2=z:=by
 rw[cX h,cX h,j5 h,η π] at c;rw[c]
def aRy:List (Nat×V):=[(0,rP),(2,.one (.vp 2 0)),(3,.one (.vp 3 0)),(5,.one (.vp 5 0)),(7,.one (.vp 7 0)),(8,.one (.vp 8 0))]
def aRx (L:List Tk) (z:Z) (nm:Tk) (vs:List Tk) (out:List Cn) (cn:Tk) (fs:List Ty):List (Nat×AObj):=[(600,rO L z),(2,.var 81 [.c (.str []),.c (.int .i64 0),.c .nl,.c .nl,.c .nl]),(3,.var 139 ((aJ nm).map .c)),(5,.var 81 [.c (.str nm.text),.c (.int .i64 nm.pl),.c (.sl 1 ((vs.map (·.text)).map bD)),.c .nl,.hs 502 0 out.length out.length]),(7,.var 139 ((aJ cn).map .c)),(8,.var 84 [.c (.str cn.text),.c (.int .i64 cn.pl),.hs 501 0 fs.length fs.length]),(501,.arr 47 4 (fs.map bT) 0),(502,.arr 84 3 (out.map vZ) 0)]
theorem aLk {L:List Tk}{z:Z}(h:ZA L z) (he:z.e=0) (hZ:mT L):aY Tryz.prog 87 [rP] [(600,rO L z)] (eF L (.pa (rC (n0 z).1)) (n0 z).2 []):=by
 have hw:=fH h he 2 (by decide);have h1:=h.word (k:=2) (by decide);unfold n0 jU;generalize aV 2 z=x1 at hw h1 ⊢;obtain⟨A,E⟩:=x1;dsimp only at hw h1 ⊢;refine kT (n:=68) tok Tryz.func87 rfl rfl rfl rfl ?_;refine sg rfl ?_;by_cases y:E.e=0
 case neg=>
  have hp:=aY.err hw y;have hb:(jV (A,(b8 E).1,aR eqS (cN (b8 E).1.length 8 A.pl (b8 E).2))).2=E:=by
   rw[j4 y,cX y,b5 y];unfold jV;dsimp only;rw[η y]
  rw[hb,aG y];exact sk 1 rfl (kp hp)
 have hw:=aY.ok hw y;have ac:=l9 h1 y;have h2:=h1.words;have ab:(b8 E).2.e=0:=by unfold b8;rw[ξ y];exact y
 have ae:=dR h1;generalize b8 E=x2 at ac h2 ae ab ⊢;obtain⟨vs,z2⟩:=x2;dsimp only at ac h2 ae ab ⊢;have hvk:(vs.map aJ).length=vs.length:=χ _;refine sk 1 rfl (kc hw ?_);refine kz 2 rfl (sk 1 rfl (kc ac ?_));refine kz 1 rfl ?_;by_cases hv8:vs.length≤8
 case neg=>
  have d:decide (((vs.length:Nat):Int)≤8)=false:=ψ (by omega);have hb:(jV (A,vs,aR eqS (cN vs.length 8 A.pl z2))).2=⟨z2.R,2,A.pl⟩:=by
   rw[eC hv8 ab,b5 c0];unfold jV;dsimp only;rw[η c0]
  rw[hb,aG c0];have hm:=bB 2 A.pl;refine sk 5 rfl ?_;rw[hvk,d];exact kp hm
 have d:decide (((vs.length:Nat):Int)≤8)=true:=φ (by omega);have hm:=b7 2 A.pl;rw[eB hv8];refine sk 5 rfl ?_;rw[hvk,d];refine kc hm ?_;refine az ?_;have htx:=rF vs ae;refine sk 5 rfl (kc htx ?_);refine kz 3 rfl ?_;have aa:=cE h2 ab eqS;have h4:=h2.need eqS;generalize aR eqS z2=z4 at aa h4 ⊢;by_cases U:z4.e=0
 case neg=>
  have hp:=aY.err aa U;have hb:(jV (A,vs,z4)).2=z4:=by unfold jV;dsimp only;rw[η U]
  rw[hb,aG U];exact sk 1 rfl (kp hp)
 have aa:=aY.ok aa U;refine sk 1 rfl (kc aa ?_);refine az (aA (sg rfl (AWp.sub (Sub.ownCell (x:=5) (k:=4) (id:=502) 84 3 rfl rfl rfl) ?_)));have hWx:∃W,W=jV (A,vs,z4):=⟨_,rfl⟩
 obtain⟨W,r⟩:=hWx;rw[←r];have hlen4:=h4.len;have r:W=kY (z4.R.length+1) A.pl [] z4:=by rw[r];exact ξ U
 refine aF (aM (fun q:Bool×List Cn×Z×Nat=>mk [(0,rP),(2,.one (.vp 2 0)),(3,.one (.vp 3 0)),(5,.one (.vp 5 0)),(6,B q.1)] [(600,rO L q.2.2.1),(2,.var 81 [.c (.str []),.c (.int .i64 0),.c .nl,.c .nl,.c .nl]),(3,.var 139 ((aJ A).map .c)),(5,.var 81 [.c (.str A.text),.c (.int .i64 A.pl),.c (.sl 1 ((vs.map (·.text)).map bD)),.c .nl,.hs 502 0 q.2.1.length q.2.1.length]),(502,.arr 84 3 (q.2.1.map vZ) 0)]) (fun q=>ZA L q.2.2.1∧q.2.2.1.e=0∧((q.1=true∧W=kY q.2.2.2 A.pl q.2.1 q.2.2.1∧q.2.2.1.R.length<q.2.2.2∧q.2.1.length+q.2.2.1.R.length≤4001)∨(q.1=false∧W=(q.2.1,q.2.2.1)))) (fun q=>if q.1=true then q.2.2.1.R.length+1 else 0) (true,[],z4,z4.R.length+1) ⟨h4,U,.inl ⟨rfl,r,by dsimp only;omega,by dsimp only;rw[length_nil];omega⟩⟩ sl ?_);clear r hw h1 ac h2 htx h4 U ab y aa hm h he hlen4;rintro⟨more,out,z0,f⟩ ⟨h,he,hinv⟩;dsimp only at h he hinv ⊢;have hout:(out.map vZ).length=out.length:=χ _;refine aA (sg rfl ?_);rcases hinv with⟨hm,r,hf,hol⟩ | ⟨hm,r⟩
 case inr=>
  subst hm;refine aB rfl (fun hb=>absurd hb (by decide)) (fun _=>aL (AWp.sub (Sub.freeze (id:=502) rfl) ?_));refine sg rfl ?_;rw[r,aW he];exact aD (rtC trw)
 subst hm;obtain⟨f,rfl⟩:∃g,f=g+1:=⟨f-1,by omega⟩
 rw[kY] at r;unfold rE at r;have hw:=fH h he 2 (by decide);have h1:=h.word (k:=2) (by decide);have l1:=Ze.word 2 z0;generalize aV 2 z0=x1 at hw h1 l1 r;obtain⟨I,E⟩:=x1;dsimp only at hw h1 l1 r;refine aB rfl (fun _=>aE ?_) (fun hb=>absurd hb (by decide));by_cases y:E.e=0
 case neg=>
  have hp:=aY.err hw y;rw[pV y] at r;rw[uB y r,aG y];exact aA (aF (sk 1 rfl (kp hp)))
 have hw:=aY.ok hw y;refine aA (aF (sk 1 rfl (kc hw ?_)));refine kz 2 rfl (sg rfl (AWp.sub (Sub.ownCell (x:=8) (k:=2) (id:=501) 47 4 rfl rfl rfl) ?_));have hlen1:=h1.len;have hFx:∃F,F=cB (E.R.length+1) [] E:=⟨_,rfl⟩
 obtain⟨F,J⟩:=hFx;rw[←J] at r;refine aA (aF (aM (fun q:List Ty×Z×Nat=>mk aRy (aRx L q.2.1 A vs out I q.1)) (fun q=>ZA L q.2.1∧q.2.1.e=0∧F=cB q.2.2 q.1 q.2.1∧q.2.1.R.length<q.2.2∧q.1.length+q.2.1.R.length≤4001∧q.2.1.R.length≤E.R.length) (fun q=>q.2.1.R.length+1) ([],E,E.R.length+1) ⟨h1,y,J,by dsimp only;omega,by dsimp only;rw[length_nil];omega,le_refl _⟩ sl ?_));clear J hw h1 hlen1 y h he;rintro⟨fs,z,g⟩ ⟨h,he,J,hg,hol2,hk4⟩;dsimp only at h he J hg hol2 hk4 ⊢;have af:(fs.map bT).length=fs.length:=χ _;have hbg:=aEs h;refine aA (sk 1 rfl (kc hbg ?_));refine az (aB rfl (fun hb=>?_) (fun hb=>?_))
 ·have ha:=aH6 h he hZ;obtain⟨g1,g2,g3,g4,g5⟩:=zD h;obtain⟨g,rfl⟩:∃k,g=k+1:=⟨g-1,by omega⟩
  rw[cB,ξ ⟨he,hb⟩] at J;have hlp:=h.lp;generalize fI z=x at ha g1 g2 g3 g4 g5 J;obtain⟨x,z'⟩:=x;dsimp only at ha g1 g2 g3 g4 g5 J;refine aE ?_;by_cases Y:z'.e=0
  case neg=>
   have hp:=aY.err ha Y;rw[pV Y] at J;rw[J] at r;rw[uB Y r,aG Y];refine aF (aC mixed (ak 3 [] rfl (kpD (tyV zTy) [(600,rO L z)] hp ?_)));exact ak 4 [(1,.all)] rfl (az trivial)
  have ha:=aY.ok ha Y;refine aF (aC mixed (ak 3 [] rfl (kc ha ?_)));refine ak 4 [(1,.all)] rfl (az ?_);have M:fs.map bT++[bT x]=(fs++[x]).map bT:=by rw[Am];rfl
  have hle:(fs++[x]).length=fs.length+1:=by rw[ζ];rfl
  have g5':z'.R.length≤z.R.length:=g5;have hlt:=g4 Y;refine⟨(fs++[x],z',g),⟨g1,Y,J,by dsimp only;omega,by dsimp only;rw[hle];omega,by dsimp only;omega⟩,by dsimp only;omega,?_⟩;exact sl (he:=⟨rfl,rfl,rfl,rfl,rfl,rfl,trivial⟩) (hh:=⟨⟨_,rfl,.var rfl⟩,⟨_,rfl,.var rfl⟩,⟨_,rfl,.var rfl⟩,⟨_,rfl,.var rfl⟩,⟨_,rfl,.var rfl⟩,⟨_,rfl,.var (by rw[hle,←af];rfl)⟩,⟨_,rfl,.arrS M⟩,⟨_,rfl,Go.AM.Ole.arr⟩,trivial⟩)
 ·have hb':¬(z.e=0∧aPa z=true):=fun hh=>by rw[hh.2] at hb;cases hb
  rw[mO hb'] at J;subst J;dsimp only at r;refine aL (AWp.sub (Sub.freeze (id:=501) rfl) ?_);refine AWp.sub (vp 8 [.str I.text,.int .i64 I.pl,.sl 4 (fs.map bT)] (hp:=.c .refl (.c .refl (.hs rfl af.symm (Go.AM.take_all af.symm) .nil)))) ?_;by_cases hf8:fs.length≤8
  case neg=>
   have d:decide ((((fs.map bT).length:Nat):Int)≤8)=false:=ψ (by omega);rw[eC hf8 he,cX c0,j5 c0,η π] at r;rw[r,aG c0];have hm:=bB 2 I.pl;refine sk 6 rfl ?_;rw[d];exact kp hm
  rw[eB hf8] at r;have d:decide ((((fs.map bT).length:Nat):Int)≤8)=true:=φ (by omega);have hm:=b7 2 I.pl;refine sk 6 rfl ?_;rw[d];refine kc hm ?_;refine az ?_;have M:out.map vZ++[[.str I.text,.int .i64 I.pl,.sl 4 (fs.map bT)]]=(out++[(⟨I.text,I.pl,fs⟩:Cn)]).map vZ:=by rw[Am];rfl
  have hle:(out++[(⟨I.text,I.pl,fs⟩:Cn)]).length=out.length+1:=by rw[ζ];rfl
  generalize hO:out++[(⟨I.text,I.pl,fs⟩:Cn)]=O at r M hle;refine sgh [(3,.all)] rfl (AWp.sub (st2:=mk [(0,rP),(2,.one (.vp 2 0)),(3,.one (.vp 3 0)),(5,.one (.vp 5 0))] [(600,rO L z),(2,.var 81 [.c (.str []),.c (.int .i64 0),.c .nl,.c .nl,.c .nl]),(3,.var 139 ((aJ A).map .c)),(5,.var 81 [.c (.str A.text),.c (.int .i64 A.pl),.c (.sl 1 ((vs.map (·.text)).map bD)),.c .nl,.hs 502 0 O.length O.length]),(502,.arr 84 3 (O.map vZ) 0)]) (sl (hh:=⟨⟨_,rfl,.var rfl⟩,⟨_,rfl,.var rfl⟩,⟨_,rfl,.var rfl⟩,⟨_,rfl,.var (by rw[hle,←hout];rfl)⟩,⟨_,rfl,.arrS M⟩,trivial⟩)) ?_);by_cases ho:O.length≤16
  case neg=>
   have d:decide (((O.length:Nat):Int)≤16)=false:=ψ (by omega);rw[eC ho he,j5 c0,η π] at r;rw[r,aG c0];have hm:=bB 2 A.pl;refine aC mixed (ak 6 [] rfl ?_);rw[d];exact kp hm
  rw[eB ho] at r;have d:decide (((O.length:Nat):Int)≤16)=true:=φ (by omega);have hm:=b7 2 A.pl;refine aC mixed (ak 6 [] rfl ?_);rw[d];refine kc hm ?_;refine az ?_;have hm:=dQ h he aA5;have h7:=h.may aA5;have ad:=(fL aA5 z).trans he;have l7:=fP h (s:=aA5);generalize bV aA5 z=m at hm h7 l7 r ad;obtain⟨b,z7⟩:=m;dsimp only at hm h7 l7 r ad;refine aC mixed (ak 1 [] rfl (kc hm ?_));refine kz 1 rfl ?_;have l1':E.R.length≤z0.R.length:=l1;cases b with
  | true=>
   rw[ξ rfl] at r;have:=l7 rfl;exact⟨(true,O,z7,f),⟨h7,ad,.inl ⟨rfl,r,by dsimp only;omega,by dsimp only;omega⟩⟩,by dsimp only;rw[ξ rfl,ξ rfl];omega,sl⟩
  | false=>
   rw[η (by decide)] at r;exact⟨(false,O,z7,f),⟨h7,ad,.inr ⟨rfl,r⟩⟩,by dsimp only;rw[η (by decide),ξ rfl];omega,sl⟩
def aF0 (L:List Tk):Prop:=∀t∈L,¬t.kind=3→t.n=0
theorem aGz {c:UInt8}{r:Str}{k:Int}{t:Str}{v:Int}(h:mW (c::r)=.ok (k,t,v)) (q:¬k=3):v=0:=by
 rw[mW] at h;split at h
 ·split at h
  ·cases h
  ·cases h;exact absurd rfl q
 split at h
 ·unfold qX at h;split at h
  ·cases h
  split at h
  ·cases h;rfl
  split at h
  ·cases h;rfl
  ·cases h;rfl
 split at h
 ·cases h
 ·cases h;rfl
theorem n9:∀(f a:Nat) (s:Str) (l:List Tk),lO f a s=.ok l→aF0 l
 | 0,a,s,l,h=>by
  rw[lO] at h;cases h;intro t ht;rw[Aw.1 ht];exact fun _=>rfl
 | f+1,a,[],l,h=>by
  rw[lO] at h;cases h;intro t ht;rw[Aw.1 ht];exact fun _=>rfl
 | f+1,a,c::r,l,h=>by
  rw[lO] at h;split at h
  ·exact n9 f _ _ l h
  ·cases ho:mW (c::r) with
   | error e=>rw[ho] at h;cases h
   | ok y=>
    obtain⟨k,t,v⟩:=y;rw[ho] at h;dsimp only at h;cases q:lO f (a+t.length) ((c::r).drop t.length) with
    | error e=>rw[q,tQ] at h;cases h
    | ok A=>
     rw[q,tQ] at h;cases h;intro u hu;rcases Ap.1 hu with rfl | hu
     ·exact aGz ho
     ·exact n9 f _ _ A q u hu
theorem ZA.mem {L:List Tk}{z:Z}(h:ZA L z):aX z∈L:=by
 obtain⟨R,e',c⟩:=z;obtain⟨t,R,rfl⟩:=h.e.ne;exact At.mem h
def aRm (z:Z):Pt:=.mk 0 (aX z).pl 0 (aX z).text []
def aGe (y:(Pt×Bool)×Z) (z:Z):Pt:=if y.1.2=true then y.1.1 else aRm z
def aFm (L:List Tk) (f:Nat):Prop:=∀(o:Nat) (z:Z),ZA L z→z.e=0→3*z.R.length≤f→o≤40→aY Tryz.prog 104 [rP,I .i64 (o:Nat)] [(600,rO L z)] (eF L (.tup [.pa (bF (aGe (bA f o z) z)),B (bA f o z).1.2]) (bA f o z).2 [])
def aL5 (L:List Tk) (f:Nat):Prop:=∀(o:Nat) (z:Z),ZA L z→z.e=0→3*z.R.length+1≤f→o≤40→aY Tryz.prog 50 [rP,I .i64 (o:Nat)] [(600,rO L z)] (eF L (.pa (bF (iJ f o z).1)) (iJ f o z).2 [])
theorem aGy {L:List Tk}{z:Z}(h:ZA L z) (r:¬(aX z).kind=6):rO L (tlZ z)=.var 136 [.c (.sl 4 (L.map aJ)),.c (.int .i64 ((L.length-z.R.length+1:Nat):Int))]:=by
 obtain⟨_,q⟩:=h.tl r z.e z.p;unfold rO tlZ;dsimp only;rw[q]
theorem aEi (L:List Tk) (hN:aF0 L) (f:Nat) (ih:aL5 L f):aFm L (f+1):=by
 intro o z h he hf ho40;rw[bA,η (fun k=>k he)];have hn:=cT h;have J:=hN _ h.mem;have r:=fun hk=>aGy h hk
 have hLl:=h.l;have hm:=jO h aBh;have hi:=jO h cM;have U:bV aBh z=if isZ aBh z=true then(true,tlZ z) else(false,z):=by
  unfold bV;by_cases hu:isZ aBh z=true
  ·rw[ξ ⟨he,hu⟩,ξ hu];rfl
  ·rw[η (fun k=>hu k.2),η hu]
 have Y:isZ aBh z=true→¬(aX z).kind=6:=gZ;have aa:isZ cM z=true→¬(aX z).kind=6:=gZ;have A:isZ cM z=true→aR cM z=tlZ z:=aC3 he;have h1:=h.need cM;have hle:(aR cM z).e=0∨isZ cM z=false:=by
  cases hb:isZ cM z with
  | true=>left;rw[A hb];exact he
  | false=>exact .inr rfl
 have htl:=nE h;have ab:aRm z=.mk 0 (aX z).pl 0 (aX z).text []:=rfl;refine kT (n:=77) tok Tryz.func104 rfl rfl rfl rfl ?_;refine sg rfl (sk 3 rfl (kc hn ?_));refine kz 2 rfl (sg rfl ?_);rw[U];generalize ht:aX z=t at J ab r Y aa ⊢;clear hn U;refine aA (aF (sg rfl ?_));by_cases M:t.kind=1
 ·have d:decide (t.kind=1)=true:=φ M;have B:¬t.kind=6:=by omega
  rw[ξ (show 0<t.kind∧t.kind<4 by omega)];unfold aGe;dsimp only;rw[ξ rfl,aW (show(tlZ z).e=0 from he),r B,J (by omega)];unfold iA i7;rw[ξ M,η (by omega)];unfold rO;exact aB rfl (fun _=>ag [] rfl (aA (agN [] rfl (sg rfl (aD qL))))) (fun hb=>absurd (hb.symm.trans d) Bool.noConfusion)
 refine aB rfl (fun hb=>absurd (κ hb) M) (fun _=>sg rfl ?_);by_cases O:t.kind=2
 ·have d:decide (t.kind=2)=true:=φ O;have B:¬t.kind=6:=by omega
  rw[ξ (show 0<t.kind∧t.kind<4 by omega)];unfold aGe;dsimp only;rw[ξ rfl,aW (show(tlZ z).e=0 from he),r B,J (by omega)];unfold iA i7;rw[η M,ξ O,η (by omega)];unfold rO;exact aB rfl (fun _=>ag [] rfl (aA (agN [] rfl (sg rfl (aD qL))))) (fun hb=>absurd (hb.symm.trans d) Bool.noConfusion)
 refine aB rfl (fun hb=>absurd (κ hb) O) (fun _=>sg rfl ?_);by_cases k3:t.kind=3
 ·have d:decide (t.kind=3)=true:=φ k3;have B:¬t.kind=6:=by omega
  rw[ξ (show 0<t.kind∧t.kind<4 by omega)];unfold aGe;dsimp only;rw[ξ rfl,aW (show(tlZ z).e=0 from he),r B];unfold iA i7;rw[η M,η O,ξ k3];unfold rO;exact aB rfl (fun _=>ag [] rfl (aA (agN [] rfl (sg rfl (aD qL))))) (fun hb=>absurd (hb.symm.trans d) Bool.noConfusion)
 refine aB rfl (fun hb=>absurd (κ hb) k3) (fun _=>?_);rw[η (show ¬(0<t.kind∧t.kind<4) by omega)];refine sk 1 rfl (kc hm ?_);refine kz 1 rfl ?_;cases hu:isZ aBh z with
 | true=>
  rw[ξ rfl,ξ rfl];unfold aGe;dsimp only;rw[ξ rfl,aW (show(tlZ z).e=0 from he),r (Y hu)];unfold rO;exact aB rfl (fun _=>ag [] rfl (aA (agN [] rfl (sg rfl (aD qL))))) (fun hb=>Bool.noConfusion hb)
 | false=>
 rw[η π];dsimp only;rw[η π];refine aB rfl (fun hb=>Bool.noConfusion hb) (fun _=>sk 1 rfl (kc hi ?_));refine kz 1 rfl ?_;cases hl:isZ cM z with
 | false=>
  rw[ξ rfl];unfold aGe;dsimp only;rw[η π,aW he,ab];exact aB rfl (fun hb=>Bool.noConfusion hb) (fun _=>sg rfl (aD qL))
 | true=>
 rw[η (by decide)];have A:=A hl;refine aB rfl (fun _=>?_) (fun hb=>Bool.noConfusion hb);by_cases ho:40≤o
 ·have d:decide (((o:Nat):Int)<40)=false:=ψ (by omega);have hmn:=bB 13 t.pl;rw[ξ ho];unfold bY;rw[ξ he];dsimp only;rw[aG (show ¬(13:Int)=0 by decide)];refine sk 4 rfl ?_;rw[d];exact kp hmn
 have d:decide (((o:Nat):Int)<40)=true:=φ (by omega);have hmo:=b7 13 t.pl;rw[η ho];refine sk 4 rfl ?_;rw[d];refine kc hmo ?_;refine az ?_;rw[A];rw[A] at h1;have hp:=ih (o+1) (tlZ z) h1 he (by omega) (by omega);obtain⟨g1,_⟩:=(eY L f).2.1 (o+1) (tlZ z) h1;have ac:=r (aa hl);unfold rO at ac;unfold rO;refine aA (agN [] rfl ?_);unfold rO at hp;rw[ac] at hp;generalize iJ f (o+1) (tlZ z)=y at hp g1 ⊢;obtain⟨q,z2⟩:=y;dsimp only at hp g1 ⊢;unfold aGe;dsimp only;rw[ξ rfl];by_cases E:z2.e=0
 case neg=>
  have hp:=aY.err hp E;rw[b5 E,aG E];exact aA (aC mixed (akN 3 [] rfl (kp hp)))
 have hp:=aY.ok hp E;refine aA (aC mixed (akN 3 [] rfl (kc hp ?_)));refine akN 1 [] rfl (az ?_);have c:=cE g1 E pD;generalize aR pD z2=z3 at c ⊢;by_cases I:z3.e=0
 case neg=>
  have hp:=aY.err c I;rw[aG I];exact sk 1 rfl (kp hp)
 have c:=aY.ok c I;rw[aW I];refine sk 1 rfl (kc c ?_);exact az (sg rfl (aD qL))
theorem aIe {f o:Nat}{out:List Pt}{z:Z}(h:¬z.e=0):fB f o out z=(out,z):=by
 cases f with
 | zero=>rfl
 | succ f=>rw[fB,η h]
theorem aOo (L:List Tk) (hN:aF0 L) (f:Nat) (ihS:∀g,g≤f→aFm L g):aL5 L (f+1):=by
 intro o z h he hf J;have hn:=cT h;have hnm:=hN _ h.mem;have hlp:=h.lp;rw[iJ];refine kT (n:=58) tok Tryz.func50 rfl rfl rfl rfl ?_;refine sg rfl (sk 3 rfl (kc hn ?_));refine kz 2 rfl (aA (sg rfl ?_));by_cases E:(aX z).kind=2
 ·obtain⟨f,rfl⟩:∃g,f=g+1:=⟨f-1,by omega⟩
  have M:bA (f+1) o z=((.mk (iA (aX z)) (aX z).pl (aX z).n (i7 (aX z)) [],true),tlZ z):=by
   rw[bA,η (fun k=>k he),ξ (by omega)]
  rw[M,η (show ¬(true=false) from fun k=>Bool.noConfusion k),ξ ⟨E,he⟩];have h1:=h.tlp (by rw[E];decide);have hrt:=aGy h (by rw[E];decide);have htl:=nE h;have hlen:=h.len;have hLl:=h.l;have r:∃W,W=fB (f+1) o [] (tlZ z):=⟨_,rfl⟩
  obtain⟨W,r⟩:=r;rw[←r,hnm (by omega)];generalize aX z=t at hn E M hnm ⊢;have d:(!decide (t.kind=2))=false:=by rw[φ E];rfl
  refine aB rfl (fun hb=>absurd (hb.symm.trans d) Bool.noConfusion) (fun _=>aE ?_);unfold rO;refine aA (agN [] rfl ?_);rw[←hrt];refine sg rfl (AWp.sub (Sub.ownCell (x:=8) (k:=4) (id:=501) 49 10 rfl rfl rfl) ?_);refine aF (aM (fun q:List Pt×Z×Nat=>mk [(0,rP),(1,I .i64 (o:Nat)),(4,.one (.vp 4 0)),(8,.one (.vp 8 0))] [(600,rO L q.2.1),(4,.var 49 (aJt.map .c)),(8,.var 49 [.c (.int .i64 4),.c (.int .i64 t.pl),.c (.int .i64 0),.c (.str t.text),.hs 501 0 q.1.length q.1.length,.c (.int .i64 0),.c (.int .i64 0),.c (.str []),.c .nl,.c .nl]),(501,.arr 49 10 (q.1.map bF) 0)]) (fun q=>ZA L q.2.1∧q.2.1.e=0∧W=fB q.2.2 o q.1 q.2.1∧q.2.2≤f+1∧3*q.2.1.R.length+1≤q.2.2∧q.1.length+q.2.1.R.length≤4001) (fun q=>q.2.1.R.length+1) ([],tlZ z,f+1) ⟨h1,he,r,le_refl _,by dsimp only;omega,by dsimp only;rw[length_nil];omega⟩ sl ?_);clear r hn M htl h1 hrt hlp hlen he hf h;rintro⟨out,U,g⟩ ⟨Y,O,r,hgf,hg,hol⟩;dsimp only at Y O r hgf hg hol ⊢;have hout:(out.map bF).length=out.length:=χ _;obtain⟨g,rfl⟩:∃k,g=k+1:=⟨g-1,by omega⟩
  rw[fB,ξ O] at r;have hs:=ihS g (by omega) o U Y O (by omega) J;obtain⟨g1,_,g3,g4⟩:=(eY L g).1 o U Y;have hlp:=Y.lp;unfold aGe at hs;generalize bA g o U=y at hs g1 g3 g4 r;obtain⟨⟨q,b⟩,z2⟩:=y;dsimp only at hs g1 g3 g4 r;by_cases A:z2.e=0
  case neg=>
   have hp:=aY.err hs A;have hb:W.2=z2:=by
    rw[aIe A] at r;rw[r];split<;>rfl
   rw[hb,aG A];exact aF (sk 2 rfl (kp hp))
  have hs:=aY.ok hs A;refine aF (sk 2 rfl (kc hs ?_));refine kz 6 rfl (aA (sg rfl ?_));cases b with
  | false=>
   rw[ξ rfl] at r;refine aB rfl (fun _=>AWp.sub (Sub.freeze (id:=501) rfl) ?_) (fun hb=>Bool.noConfusion hb);refine sg rfl ?_;rw[r];dsimp only;rw[aW A];unfold bF;rw[fR (Pt.mk _ _ _ _ _)];exact aD (rtC trw (hc:=.agg (.c .refl (.c .refl (.c .refl (.c .refl (.hs rfl hout.symm (Go.AM.take_all hout.symm) (.c .refl (.c .refl (.c .refl (.c .nl (.c .nl .nil))))))))))))
  | true=>
   rw[η (show ¬(true=false) from fun k=>Bool.noConfusion k)] at r;have aa:out.map bF++[bF q]=(out++[q]).map bF:=by rw[Am];rfl
   have hle:(out++[q]).length=out.length+1:=by rw[ζ];rfl
   have g4':z2.R.length≤U.R.length:=g4;have g3':=g3 rfl A;rw[ξ rfl];refine aB rfl (fun hb=>Bool.noConfusion hb) (fun _=>aE (ag [(3,.all)] rfl ⟨(out++[q],z2,g),⟨g1,A,r,by dsimp only;omega,by dsimp only;omega,by dsimp only;rw[hle];omega⟩,by dsimp only;omega,?_⟩));exact sl (he:=⟨rfl,rfl,rfl,rfl,trivial⟩) (hh:=⟨⟨_,rfl,.var rfl⟩,⟨_,rfl,.var rfl⟩,⟨_,rfl,.var (by rw[hle,←hout];rfl)⟩,⟨_,rfl,.arrS aa⟩,trivial⟩)
 have d:(!decide ((aX z).kind=2))=true:=by rw[ψ E];rfl
 refine aB rfl (fun _=>?_) (fun hb=>absurd (hb.symm.trans d) Bool.noConfusion);rw[η (show ¬((aX z).kind=2∧z.e=0) from fun k=>E k.1)];have hs:=ihS f (le_refl _) o z h he (by omega) J;unfold aGe at hs;generalize bA f o z=y at hs ⊢;obtain⟨⟨q,b⟩,z1⟩:=y;dsimp only at hs ⊢;by_cases B:z1.e=0
 case neg=>
  have hp:=aY.err hs B;have hb:(if b=false then(zPt,bY 12 (aX z).pl z1) else(q,z1)).2=z1:=by
   rw[dW B];split<;>rfl
  rw[hb,aG B];exact sk 2 rfl (kp hp)
 have hs:=aY.ok hs B;refine sk 2 rfl (kc hs ?_);refine kz 6 rfl ?_;cases b with
 | false=>
  have hm:=bB 12 (aX z).pl;rw[ξ rfl];unfold bY;rw[ξ B];dsimp only;rw[aG (show ¬(12:Int)=0 by decide)];exact sk 3 rfl (kp hm)
 | true=>
  have hm:=b7 12 (aX z).pl;rw[η (show ¬(true=false) from fun k=>Bool.noConfusion k),ξ rfl];dsimp only;rw[aW B];refine sk 3 rfl (kc hm ?_);exact az (sg rfl (aD (rtC trw)))
theorem aNr (L:List Tk) (r:aF0 L):∀f,(∀g,g≤f→aFm L g)∧∀g,g≤f→aL5 L g:=by
 intro f
 induction f with
 | zero=>exact⟨fun g q o z h he y ho=>by have:=h.lp;omega,fun g q o z h he y ho=>by have:=h.lp;omega⟩
 | succ f c=>
  refine⟨fun g q=>?_,fun g q=>?_⟩
  ·by_cases h:g≤f
   ·exact c.1 g h
   ·rw[show g=f+1 by omega];exact aEi L r f (c.2 f (le_refl _))
  ·by_cases h:g≤f
   ·exact c.2 g h
   ·rw[show g=f+1 by omega];exact aOo L r f c.1
theorem yL (l:List Tk) (hl:l.length≤4001):b9 Tryz.prog 188 [.one (.c (.sl 4 (l.map aJ)))] [] (.one (.c (.sl 10 ((qA l).map bF)))) []:=by
 have r:(l.map aJ).length=l.length:=χ _;refine bM (n:=22) tok Tryz.func188 rfl rfl rfl ?_;refine sg rfl (sg rfl (AWp.sub (Sub.own (t:=3) (id:=500) 49 10 rfl rfl) ?_));refine aA (sg rfl (aF (aM (fun i:Nat=>mk [(3,.one (.hs 500 0 i i)),(6,.one (.c (.sl 4 (l.map aJ)))),(7,I .i64 ((l.map aJ).length:Nat)),(8,I .i64 (i:Nat))] [(500,.arr 49 10 ((qA (l.take i)).map bF) 0)]) (fun i=>i≤l.length) (fun i=>l.length-i) 0 (Ae _) sl ?_)));intro i hi;have q:((qA (l.take i)).map bF).length=i:=by rw[χ,rY,Al];omega
 refine sg rfl (aA (aB rfl (fun hb=>?_) (fun hb=>?_)))
 ·have y:=ltD hb r;obtain⟨t,ht⟩:=aP y;have E:=bG aJ ht;have A:(qA (l.take (i+1))).map bF=(qA (l.take i)).map bF++[bF (.mk 2 t.pl 0 t.text [])]:=by
   unfold qA;rw[Bk,ht,Am,Am];rfl
  exact aE (aA (aF (sgh [(0,.row i (aJ t))] rfl (ag [(6,.all)] rfl (agN [] rfl ⟨i+1,y,by dsimp only;omega,sl (he:=⟨Go.AM.hs_ren (congrArg (· +1) q) (congrArg (· +1) q),rfl,rfl,rfl,trivial⟩) (hh:=⟨⟨_,rfl,.arrS A.symm⟩,trivial⟩)⟩)))))
 ·have B:=geD hb r hi;subst B;rw[Az] at q ⊢;refine aL (AWp.sub (Sub.freeze (id:=500) rfl) ?_);exact sg rfl (aD (rtH (hsz:=q.symm) (hlen:=q.symm)))
def aJs (L:List Tk) (ex:Nat→Z→Ex×Z) (N:Nat):Prop:=∀(deep:Nat) (z:Z),ZA L z→z.e=0→z.R.length≤N→deep≤41→aY Tryz.prog 187 [rP,I .i64 (deep:Nat)] [(600,rO L z)] (eF L (.pa (cD (ex deep z).1)) (ex deep z).2 [])
def rT (ex:Nat→Z→Ex×Z):Prop:=∀(deep:Nat) (z:Z),¬z.e=0→(ex deep z).2=z
theorem r6:∀f,rT (aI6 f)
 | 0=>fun _ _ h=>dW h
 | f+1=>fun deep z h=>by
  show(aFx (aI6 f) deep z).2=z;unfold aFx;rw[ξ h]
theorem aKm {s:Str}{z:Z}(he:z.e=0):bV s z=if isZ s z=true then(true,tlZ z) else(false,z):=by
 unfold bV;by_cases hu:isZ s z=true
 ·rw[ξ ⟨he,hu⟩,ξ hu];rfl
 ·rw[η (fun k=>hu k.2),η hu]
section
variable {L:List Tk}{ex:Nat→Z→Ex×Z}{N:Nat}(hO:ExO L ex) (hB:rT ex) (hS:aJs L ex N)
include hO hS
theorem aEl (deep:Nat) {z:Z}(h:ZA L z) (he:z.e=0) (hN:z.R.length≤N+1) (hd:deep≤40):aY Tryz.prog 226 [rP,I .i64 (deep:Nat)] [(600,rO L z)] (eF L (.tup [.pa (cD (mV ex deep z).1.1),B (mV ex deep z).1.2]) (mV ex deep z).2 []):=by
 unfold mV;rw[η (fun k=>k he)];have hn:=cT h;have hm:=dQ h he cM;have hLl:=h.l;have r:=fun hk=>aGy h hk
 refine kT (n:=73) tok Tryz.func226 rfl rfl rfl rfl ?_;refine sg rfl (sk 3 rfl (kc hn ?_));refine kz 2 rfl (aA (sg rfl ?_));generalize ht:aX z=t at r ⊢;refine aF (sg rfl ?_);by_cases M:t.kind=1
 ·have d:decide (t.kind=1)=true:=φ M;rw[ξ (show 0<t.kind∧t.kind<4 by omega)];dsimp only;rw[aW (show(tlZ z).e=0 from he),r (by omega)];have O:wP t=.mk 1 t.pl 0 t.text [] [] [] mH:=by unfold wP;rw[η (by omega),M]
  rw[O];unfold rO;exact aB rfl (fun _=>aA (agN [] rfl (sg rfl (aD qL)))) (fun hb=>absurd (hb.symm.trans d) Bool.noConfusion)
 refine aB rfl (fun hb=>absurd (κ hb) M) (fun _=>sg rfl ?_);by_cases U:t.kind=2
 ·have d:decide (t.kind=2)=true:=φ U;rw[ξ (show 0<t.kind∧t.kind<4 by omega)];dsimp only;rw[aW (show(tlZ z).e=0 from he),r (by omega)];have O:wP t=.mk 2 t.pl 0 t.text [] [] [] mH:=by unfold wP;rw[η (by omega),U]
  rw[O];unfold rO;exact aB rfl (fun _=>aA (agN [] rfl (sg rfl (aD qL)))) (fun hb=>absurd (hb.symm.trans d) Bool.noConfusion)
 refine aB rfl (fun hb=>absurd (κ hb) U) (fun _=>sg rfl ?_);by_cases Y:t.kind=3
 ·have d:decide (t.kind=3)=true:=φ Y;rw[ξ (show 0<t.kind∧t.kind<4 by omega)];dsimp only;rw[aW (show(tlZ z).e=0 from he),r (by omega)];unfold wP;rw[ξ Y];unfold rO;exact aB rfl (fun _=>aA (agN [] rfl (sg rfl (aD qL)))) (fun hb=>absurd (hb.symm.trans d) Bool.noConfusion)
 refine aB rfl (fun hb=>absurd (κ hb) Y) (fun _=>aE ?_);rw[η (show ¬(0<t.kind∧t.kind<4) by omega)];have h1:=h.may cM;have J:=fP h (s:=cM);have e1:=(fL cM z).trans he;have E:= @mN cM z;generalize bV cM z=m at hm h1 J e1 E ⊢;obtain⟨b,z1⟩:=m;dsimp only at hm h1 J e1 E ⊢;refine aA (sk 1 rfl (kc hm ?_));refine kz 1 rfl ?_;cases b with
 | false=>
  obtain rfl:=E rfl;rw[ξ rfl];dsimp only;rw[aW he];exact aB rfl (fun _=>sg rfl (aD qL)) (fun hb=>Bool.noConfusion hb)
 | true=>
  rw[η (by decide)];have J:=J rfl;have hx:=hS (deep+1) z1 h1 e1 (by omega) (by omega);obtain⟨g1,_⟩:=hO (deep+1) z1 h1;generalize ex (deep+1) z1=y at hx g1 ⊢;obtain⟨b,z2⟩:=y;dsimp only at hx g1 ⊢;refine aB rfl (fun hb=>Bool.noConfusion hb) (fun _=>aE ?_);by_cases c:z2.e=0
  case neg=>
   have hp:=aY.err hx c;rw[b5 c,aG c];exact aA (aC mixed (akN 3 [] rfl (kp hp)))
  have hx:=aY.ok hx c;refine aA (aC mixed (akN 3 [] rfl (kc hx ?_)));refine akN 2 [] rfl (az ?_);have q:=cE g1 c pD;generalize aR pD z2=z3 at q ⊢;by_cases A:z3.e=0
  case neg=>
   have hp:=aY.err q A;rw[aG A];exact sk 1 rfl (kp hp)
  have q:=aY.ok q A;rw[aW A];refine sk 1 rfl (kc q ?_);exact az (sg rfl (aD qL))
omit hO
include hB
theorem aOt (a:Int) (deep:Nat) {z:Z}(h:ZA L z) (he:z.e=0) (hN:z.R.length≤N) (hd:deep≤40):aY Tryz.prog 223 [rP,I .i64 a,I .i64 (deep:Nat)] [(600,rO L z)] (eF L (.pa (cD (aDf ex a deep z).1)) (aDf ex a deep z).2 []):=by
 obtain⟨g1,g2,g3⟩:=aDg a h;have q:=hS (deep+1) (aBj a z).2 g1;have c:=hB (deep+1) (aBj a z).2;have r:(aBj a z).2.R.length≤N:=le_trans g3 hN;unfold aDf;generalize hy:ex (deep+1) (aBj a z).2=y at q c ⊢;obtain⟨b,z6⟩:=y;dsimp only at q c ⊢;unfold aBj at q c g1 g2 r ⊢;dsimp only at q c g1 g2 r ⊢;have M:=l9 h he;have h1:=h.words;have A:(b8 z).2.e=0:=by unfold b8;rw[ξ he];exact he
 generalize b8 z=w at q c g1 g2 r M h1 A ⊢;obtain⟨l,Y⟩:=w;dsimp only at q c g1 g2 r M h1 A ⊢;have hn:=cT h1;have O:(l.map aJ).length=l.length:=χ _;have hv:=yL l g2;refine kT (n:=35) tok Tryz.func223 rfl rfl rfl rfl ?_;refine sg rfl (sk 1 rfl (kc M ?_));refine kz 1 rfl ?_;by_cases hl:l=[]
 ·subst hl;rw[ξ rfl] at c;unfold bY at c;rw[ξ A,cX (show ¬(12:Int)=0 by decide),b5 (show ¬(12:Int)=0 by decide)] at c;rw[c (show ¬(12:Int)=0 by decide),aG (show ¬(12:Int)=0 by decide)];have hm:=bB 12 (aX Y).pl;refine sk 6 rfl (kc hn ?_);exact ak 1 [] rfl (kp hm)
 rw[η hl] at q c g1 r;have d0:decide ((0:Int)<((l.length:Nat):Int))=true:=φ (by have:=length_pos_iff.2 hl;omega);have hm:=b7 12 (aX Y).pl;refine sk 6 rfl (kc hn ?_);refine ak 1 [] rfl ?_;rw[O,d0];refine kc hm ?_;refine az ?_;by_cases U:l.length≤8
 case neg=>
  have d:decide (((l.length:Nat):Int)≤8)=false:=ψ (by omega);rw[eC U A,b5 c0] at c;rw[c c0,aG c0];have hm:=bB 2 a;refine sk 4 rfl ?_;rw[O,d];exact kp hm
 have d:decide (((l.length:Nat):Int)≤8)=true:=φ (by omega);have hm:=b7 2 a;rw[eB U] at q c g1 r;refine sk 4 rfl ?_;rw[O,d];refine kc hm ?_;refine az ?_;have B:=cE h1 A arrow;generalize aR arrow Y=z3 at B q c g1 r;by_cases E:z3.e=0
 case neg=>
  have hp:=aY.err B E;rw[c E,aG E];exact sk 1 rfl (kp hp)
 have B:=aY.ok B E;refine sk 1 rfl (kc B ?_);refine az ?_;have q:=q E r (by omega);refine sk 2 rfl (kc hv ?_);refine akN 3 [] rfl ?_;by_cases J:z6.e=0
 case neg=>
  have hp:=aY.err q J;rw[aG J];exact kp hp
 have q:=aY.ok q J;rw[aW J];refine kc q ?_;exact ak 3 [(7,.all)] rfl (az (aD (rtC trw)))
theorem rI (r:Tk) (deep:Nat) {z:Z}(h:ZA L z) (he:z.e=0) (hN:z.R.length≤N) (hd:deep≤41):aY Tryz.prog 148 [rP,tkV r,I .i64 (deep:Nat)] [(600,rO L z)] (eF L (.pa (bH (eE ex r deep z).1)) (eE ex r deep z).2 []):=by
 obtain⟨g1,g2,g3⟩:=yV r h;have q:=hS deep (lE r z).2 g1;have c:=hB deep (lE r z).2;have E:(lE r z).2.R.length≤N:=le_trans g3 hN;unfold eE;generalize hy:ex deep (lE r z).2=y at q c ⊢;obtain⟨b,z6⟩:=y;dsimp only at q c ⊢;unfold lE at q c g1 g2 E ⊢;dsimp only at q c g1 g2 E ⊢;have O:=l9 h he;have h1:=h.words;have J:(b8 z).2.e=0:=by unfold b8;rw[ξ he];exact he
 generalize b8 z=w at q c g1 g2 E O h1 J ⊢;obtain⟨l,z1⟩:=w;dsimp only at q c g1 g2 E O h1 J ⊢;have U:(l.map aJ).length=l.length:=χ _;have hv:=yL l g2;refine kT (n:=40) tok Tryz.func148 rfl rfl rfl rfl ?_;refine sg rfl (sk 1 rfl (kc O ?_));refine kz 1 rfl ?_;by_cases Y:l.length≤8
 case neg=>
  have d:decide (((l.length:Nat):Int)≤8)=false:=ψ (by omega);rw[eC Y J,b5 c0] at c;rw[c c0,aG c0];have hm:=bB 2 r.pl;refine sk 5 rfl ?_;rw[U,d];exact kp hm
 have d:decide (((l.length:Nat):Int)≤8)=true:=φ (by omega);have hm:=b7 2 r.pl;rw[eB Y] at q c g1 E;refine sk 5 rfl ?_;rw[U,d];refine kc hm ?_;refine az ?_;have A:=cE h1 J eqS;generalize aR eqS z1=z3 at A q c g1 E;by_cases B:z3.e=0
 case neg=>
  have hp:=aY.err A B;rw[c B,aG B];exact sk 1 rfl (kp hp)
 have A:=aY.ok A B;refine sk 1 rfl (kc A ?_);refine az ?_;have q:=q B E hd;by_cases M:z6.e=0
 case neg=>
  have hp:=aY.err q M;rw[aG M];exact sk 2 rfl (kp hp)
 have q:=aY.ok q M;rw[aW M];refine sk 2 rfl (kc q ?_);refine kz 2 rfl (aA (sg rfl ?_));cases l with
 | nil=>
  exact aB rfl (fun hb=>Bool.noConfusion hb) (fun _=>aE (sg rfl (aD (rtC trw))))
 | cons t l=>
  have d0:decide ((0:Int)<(((t::l).map aJ).length:Int))=true:=φ (by rw[U,τ];omega);have ht:((t::l).map aJ)[0]?=some (aJ t):=rfl;refine aB rfl (fun _=>aC mixed (ak 5 [(1,.row 0 (aJ t))] rfl (kc hv ?_))) (fun hb=>absurd (hb.symm.trans d0) Bool.noConfusion);exact ak 4 [(7,.all)] rfl (az (sg rfl (aD (rtC trw))))
end
def aMa (s:Sg):AObj:=.var 92 ((fF s).map .c)
theorem aK8 (x:Bd) (s:Sg):b9 Tryz.prog 150 ([.pa (bH x)]++[R.vp 6 0].map V.one) [(6,aMa s)] (B (decide (x.name=s.name))) [(6,aMa s)]:=by
 refine bM (n:=9) tok Tryz.func150 rfl rfl rfl ?_;exact sgh [(0,.id 12)] rfl (sg rfl (aD rtT))
theorem aHx (b:List Bd) (hl:b.length≤4001) (s:Sg):b9 Tryz.prog 149 [hsV 511 b.length,.one (.clo 150 [.vp 6 0])] [(511,bdA b 0),(6,aMa s)] (I .i64 (aFw (fun x=>decide (x.name=s.name)) b 0)) [(511,bdA b 0),(6,aMa s)]:=by
 have A:(b.map bH).length=b.length:=χ _;refine bM (n:=19) tok Tryz.func149 rfl rfl rfl ?_;refine sg rfl (aA (sg rfl (aF (aM (fun i:Nat=>mk [(0,hsV 511 b.length),(1,.one (.clo 150 [.vp 6 0])),(7,I .i64 (b.length:Int)),(8,I .i64 i)] [(511,bdA b 0),(6,aMa s)]) (fun i=>i≤b.length∧aFw (fun x=>decide (x.name=s.name)) b 0=aFw (fun x=>decide (x.name=s.name)) b i) (fun i=>b.length-i) 0 ⟨Ae _,rfl⟩ sl ?_))));intro i ⟨hi,hid⟩;refine sg rfl (aA (aB rfl (fun hb=>?_) (fun hb=>?_)))
 ·have c:i<b.length:=by have:=κ hb;omega
  obtain⟨x,q⟩:=aP c;have y:=bG bH q;have hc:=aK8 x s;rw[aDt _ q] at hid;refine aE (aA (aF (sg rfl (skh 5 [(4,.row i (bH x))] rfl (kv (args:=[.pa (bH x)]) hc ?_)))));refine az (aB rfl (fun hb=>?_) (fun hb=>?_))
  ·rw[ξ hb] at hid;rw[hid];exact sg rfl (aD rtT)
  ·rw[η (by rw[show decide (x.name=s.name)=false from hb];exact π)] at hid;exact aE (ag [] rfl ⟨i+1,⟨c,hid⟩,by dsimp only;omega,sl⟩)
 have r:i=b.length:=by have:=Af hb;omega
 subst r;rw[aHc] at hid;rw[hid];exact aL (sg rfl (aD rtT))
def aMi (n:Nat) (y:List Bd×Z):Except Value (V×List (Nat×AObj)):=if y.2.e=0 then .ok (hsV 511 n,[(511,bdA y.1 0)]) else .error (lJ y.2.e y.2.p)
theorem lG {l:List Sg}{b:List Bd}{z:Z}(h:¬z.e=0):(dY l b z).2=z:=by
 cases l with
 | nil=>rfl
 | cons s l=>rw[dY,η h]
theorem aEk (sigs:List Sg) (binds:List Bd) {z:Z}(he:z.e=0) (h1:sigs.length≤4001) (h2:binds.length≤4001):
  aY Tryz.prog 91 [.one (.c (.sl 9 (sigs.map fF))),hsV 511 binds.length] [(511,bdA binds 0)] (aMi binds.length (dY sigs binds z)):=by
 have hsl:(sigs.map fF).length=sigs.length:=χ _;have r:∃W,W=dY sigs binds z:=⟨_,rfl⟩
 obtain⟨W,r⟩:=r;rw[←r];refine kT (n:=43) tok Tryz.func91 rfl rfl rfl rfl ?_;refine sg rfl (aA (sg rfl (aF (aM (fun q:Nat×List Bd=>mk [(1,hsV 511 binds.length),(8,.one (.c (.sl 9 (sigs.map fF)))),(9,I .i64 ((sigs.map fF).length:Nat)),(10,I .i64 (q.1:Nat))] [(511,bdA q.2 0)]) (fun q=>q.1≤sigs.length∧q.2.length=binds.length∧W=dY (sigs.drop q.1) q.2 z) (fun q=>sigs.length-q.1) (0,binds) ⟨Ae _,rfl,r⟩ sl ?_))));clear r;rintro⟨i,b⟩ ⟨hi,A,r⟩;dsimp only at hi A r ⊢;have O:(b.map bH).length=b.length:=χ _;refine sg rfl (aA (aB rfl (fun hb=>?_) (fun hb=>?_)))
 case refine_2=>
  have hge:i=sigs.length:=by have:=Af hb;omega
  rw[List.drop_eq_nil_of_le (by omega),dY] at r;refine aL (sg rfl ?_);rw[r];unfold aMi;rw[ξ he];exact aD rtT
 have J:i<sigs.length:=by have:=κ hb;omega
 obtain⟨s,hs⟩:=aP J;have hs':=bG fF hs;have U:sigs.drop i=s::sigs.drop (i+1):=by
  obtain⟨k1,k2⟩:=Ad.1 hs;rw[←k2];exact A8 k1
 rw[U,dY,ξ he] at r;have B:=aHx b (by omega) s;have Y:aFw (fun x=>decide (x.name=s.name)) b 0=match b.findIdx? (fun x=>decide (x.name=s.name)) with | none=> -1 | some d=>(d:Int):=by
  unfold aFw;rw[B1];cases b.findIdx? _ with
  | none=>rfl
  | some d=>simp
 rw[Y,A] at B;unfold aMa at B;refine aE (aA (aF (sgh [(0,.row i (fF s))] rfl (sk 2 rfl (kc B ?_)))));refine kz 1 rfl ?_;cases M:b.findIdx? (fun x=>decide (x.name=s.name)) with
 | none=>
  rw[M] at r;dsimp only at r ⊢;have hm:=bB 21 s.pl;have E:W.2=⟨z.R,21,s.pl⟩:=by
   unfold bY at r;rw[ξ he] at r;rw[r,lG (show ¬(21:Int)=0 by decide)]
  unfold aMi;rw[E,η (show ¬(21:Int)=0 by decide)];exact sk 4 rfl (kp hm)
 | some k=>
  rw[M] at r;dsimp only at r ⊢;have hk:=tK M;obtain⟨x,hx⟩:=aP hk;have hx':=bG bH hx;rw[hx] at r;dsimp only at r;have dk:decide ((0:Int)≤(k:Int))=true:=φ (by omega);have hm:=b7 21 s.pl;refine sk 4 rfl ?_;rw[dk];refine kc hm ?_;refine az ?_;cases y:x.has with
  | true=>
   rw[ξ y] at r;have hm:=bB 20 s.pl;have E:W.2=⟨z.R,20,s.pl⟩:=by
    unfold bY at r;rw[ξ he] at r;rw[r,lG (show ¬(20:Int)=0 by decide)]
   unfold aMi;rw[E,η (show ¬(20:Int)=0 by decide)];refine skh 8 [(4,.row k (bH x))] rfl ?_;rw[y];refine kpD (.tup []) [] hm ?_;exact az trivial
  | false=>
   rw[η (by rw[y];exact π)] at r;have hm:=b7 20 s.pl;refine skh 8 [(4,.row k (bH x))] rfl ?_;rw[y];refine kc hm ?_;refine az ?_;have hs1:(b.map bH).set k (bH (.mk x.name x.pl true x.sig x.body))=(b.set k (.mk x.name x.pl true x.sig x.body)).map bH:=by rw[List.map_set]
   have hs2:((b.map bH).set k (bH (.mk x.name x.pl true x.sig x.body))).set k (bH (pB x s.ty))=(b.set k (pB x s.ty)).map bH:=by rw[List.set_set,List.map_set]
   have hx2:((b.map bH).set k (bH (.mk x.name x.pl true x.sig x.body)))[k]?=some (bH (.mk x.name x.pl true x.sig x.body)):=by rw[List.getElem?_set_self (by rw[O];exact hk)]
   exact ag [(8,.row k (bH x)),(11,.row k (bH (.mk x.name x.pl true x.sig x.body)))] rfl (agN [] rfl ⟨(i+1,b.set k (pB x s.ty)),⟨J,by dsimp only;rw[length_set,A],r⟩,by dsimp only;omega,sl (hh:=⟨⟨_,rfl,.arrS hs2⟩,trivial⟩)⟩)
def zBd:Bd:=.mk [] 0 false mH zEx
def vR (sigs:List Sg) (binds:List Bd):List (Nat×AObj):=[(7,.var 88 [.hs 510 0 sigs.length sigs.length]),(8,.var 27 [.hs 511 0 binds.length binds.length]),(510,sgA sigs 0),(511,bdA binds 0)]
def dtA (l:List Dt):AObj:=.arr 81 5 (l.map rC) 0
def clA (l:List Cl):AObj:=.arr 90 6 (l.map oM) 0
def inA (l:List In):AObj:=.arr 95 6 (l.map r9) 0
def aDn (p:Pg) (sigs:List Sg):List (Nat×AObj):=[(4,.var 88 [.hs 510 0 sigs.length sigs.length]),(3,.var 29 [.hs 512 0 p.datas.length p.datas.length,.hs 513 0 p.classes.length p.classes.length,.hs 514 0 p.insts.length p.insts.length,.hs 511 0 p.binds.length p.binds.length]),(510,sgA sigs 0),(511,bdA p.binds 0),(512,dtA p.datas),(513,clA p.classes),(514,inA p.insts)]
section
variable {L:List Tk}{ex:Nat→Z→Ex×Z}{N:Nat}(hB:rT ex) (hS:aJs L ex N) (hZ:mT L) (hwt:wt L≤30000)
include hB hS hZ hwt
theorem aOk (sigs:List Sg) (binds:List Bd) (deep:Nat) {z:Z}(h:ZA L z) (he:z.e=0) (hN:z.R.length≤N) (hd:deep≤41) (h1:sigs.length≤4001) (h2:binds.length≤4001):
  aY Tryz.prog 90 [rP,.one (.vp 7 0),.one (.vp 8 0),I .i64 (deep:Nat)] ((600,rO L z)::vR sigs binds) (eF L (.tup []) (b6 ex sigs binds deep z).2 (vR (b6 ex sigs binds deep z).1.1 (b6 ex sigs binds deep z).1.2)):=by
 have hw:=fH h he 1 (by decide);have g1:=h.word (k:=1) (by decide);have Y:=Ze.word 1 z;have hsl:(sigs.map fF).length=sigs.length:=χ _;have O:(binds.map bH).length=binds.length:=χ _;unfold b6;generalize aV 1 z=w at hw g1 Y ⊢;obtain⟨A,M⟩:=w;dsimp only at hw g1 Y ⊢;refine kT (n:=39) tok Tryz.func90 rfl rfl rfl rfl ?_;by_cases c:M.e=0
 case neg=>
  have hp:=aY.err hw c;rw[j5 c];dsimp only;rw[η π];have hb:(eE ex A deep M).2=M:=by
   unfold eE lE;dsimp only;rw[j4 c,cX c,b5 c];exact hB _ _ c
  dsimp only;rw[hb,aG c];exact sk 1 rfl (kp hp)
 have hw:=aY.ok hw c;have hm:=dQ g1 c fV;have g2:=g1.may fV;have l2:=Ze.may fV M;have J:=(fL fV M).trans c;generalize bV fV M=m at hm g2 l2 J ⊢;obtain⟨b,z2⟩:=m;dsimp only at hm g2 l2 J ⊢;refine sk 1 rfl (kc hw ?_);refine ak 2 [(2,.id 40)] rfl (az (aA (sk 1 rfl (kc hm ?_))));refine az ?_;cases b with
 | true=>
  rw[ξ rfl];have B:=jC g2 J hZ hwt;generalize bN z2=y at B ⊢;obtain⟨s,z3⟩:=y;dsimp only at B ⊢;refine aB rfl (fun _=>?_) (fun hb=>Bool.noConfusion hb);by_cases q:z3.e=0
  case neg=>
   have hp:=aY.err B q;rw[aG q];refine sk 9 rfl (kpD (.pa (kV mH)) [(600,rO L z2)] hp ?_);exact ak 5 [(11,.all)] rfl (az trivial)
  have B:=aY.ok B q;rw[aW q];have r:sigs.map fF++[fF ⟨A.text,A.pl,s⟩]=(sigs++[(⟨A.text,A.pl,s⟩:Sg)]).map fF:=by rw[Am];rfl
  have hle:(sigs++[(⟨A.text,A.pl,s⟩:Sg)]).length=sigs.length+1:=by rw[ζ];rfl
  generalize sigs++[(⟨A.text,A.pl,s⟩:Sg)]=S at r hle ⊢;refine sk 9 rfl (kc B ?_);refine ak 5 [(11,.all)] rfl (az (AWp.sub (st2:=mk [] ((600,rO L z3)::vR S binds)) (sl (hh:=⟨⟨_,rfl,.var rfl⟩,⟨_,rfl,.var (by rw[hle,←hsl];rfl)⟩,⟨_,rfl,.var rfl⟩,⟨_,rfl,.arrS r⟩,⟨_,rfl,Go.AM.Ole.arr⟩,trivial⟩)) ?_));exact aD rtN
 | false=>
  rw[η π];have E:=rI hB hS A deep g2 J (le_trans (Y.trans l2) hN) hd;generalize eE ex A deep z2=y at E ⊢;obtain⟨U,z3⟩:=y;dsimp only at E ⊢;have hz0:(binds.map bH++[(bH zBd)])[binds.length]?=some (bH zBd):=by rw[A4 (by omega),O,B4];rfl
  refine aB rfl (fun hb=>Bool.noConfusion hb) (fun _=>aE ?_);by_cases q:z3.e=0
  case neg=>
   have hp:=aY.err E q;rw[aG q];refine aC mixed (ak 6 [] rfl (kpD (.pa (bH zBd)) [(600,rO L z2)] hp ?_));exact ak 7 [(8,.all),(11,.row binds.length (bH zBd))] rfl (az trivial)
  have E:=aY.ok E q;rw[aW q];have r:(binds.map bH++[(bH zBd)]).set binds.length (bH U)=(binds++[U]).map bH:=by
   rw[set_append_right _ _ (by omega),O,B4,Am];rfl
  have hle:(binds++[U]).length=binds.length+1:=by rw[ζ];rfl
  refine aC mixed (ak 6 [] rfl (kc E ?_));refine ak 7 [(8,.all),(11,.row binds.length (bH zBd))] rfl (az ?_);generalize hSe:binds++[U]=S at r hle ⊢;exact rtN (ho:=⟨⟨_,rfl,.var rfl⟩,⟨_,rfl,.var rfl⟩,⟨_,rfl,.var (by rw[hle,←O];rfl)⟩,⟨_,rfl,Go.AM.Ole.arr⟩,⟨_,rfl,.arrS r⟩,trivial⟩)
theorem aOj (p:Pg) (sigs:List Sg) (deep:Nat) {z:Z}(h:ZA L z) (he:z.e=0) (hN:z.R.length≤N) (hd:deep≤41) (h1:sigs.length≤4001) (h2:p.binds.length≤4001):
  aY Tryz.prog 90 [rP,.one (.vp 4 0),.one (.vp 3 3),I .i64 (deep:Nat)] ((600,rO L z)::aDn p sigs) (eF L (.tup []) (b6 ex sigs p.binds deep z).2 (aDn ⟨p.datas,p.classes,p.insts,(b6 ex sigs p.binds deep z).1.2⟩ (b6 ex sigs p.binds deep z).1.1)):=by
 have hw:=fH h he 1 (by decide);have g1:=h.word (k:=1) (by decide);have Y:=Ze.word 1 z;have hsl:(sigs.map fF).length=sigs.length:=χ _;have O:(p.binds.map bH).length=p.binds.length:=χ _;unfold b6;generalize aV 1 z=w at hw g1 Y ⊢;obtain⟨A,M⟩:=w;dsimp only at hw g1 Y ⊢;refine kT (n:=39) tok Tryz.func90 rfl rfl rfl rfl ?_;by_cases c:M.e=0
 case neg=>
  have hp:=aY.err hw c;rw[j5 c];dsimp only;rw[η π];have hb:(eE ex A deep M).2=M:=by
   unfold eE lE;dsimp only;rw[j4 c,cX c,b5 c];exact hB _ _ c
  dsimp only;rw[hb,aG c];exact sk 1 rfl (kp hp)
 have hw:=aY.ok hw c;have hm:=dQ g1 c fV;have g2:=g1.may fV;have l2:=Ze.may fV M;have J:=(fL fV M).trans c;generalize bV fV M=m at hm g2 l2 J ⊢;obtain⟨b,z2⟩:=m;dsimp only at hm g2 l2 J ⊢;refine sk 1 rfl (kc hw ?_);refine ak 2 [(2,.id 40)] rfl (az (aA (sk 1 rfl (kc hm ?_))));refine az ?_;cases b with
 | true=>
  rw[ξ rfl];have B:=jC g2 J hZ hwt;generalize bN z2=y at B ⊢;obtain⟨s,z3⟩:=y;dsimp only at B ⊢;refine aB rfl (fun _=>?_) (fun hb=>Bool.noConfusion hb);by_cases q:z3.e=0
  case neg=>
   have hp:=aY.err B q;rw[aG q];refine sk 9 rfl (kpD (.pa (kV mH)) [(600,rO L z2)] hp ?_);exact ak 5 [(11,.all)] rfl (az trivial)
  have B:=aY.ok B q;rw[aW q];have r:sigs.map fF++[fF ⟨A.text,A.pl,s⟩]=(sigs++[(⟨A.text,A.pl,s⟩:Sg)]).map fF:=by rw[Am];rfl
  have hle:(sigs++[(⟨A.text,A.pl,s⟩:Sg)]).length=sigs.length+1:=by rw[ζ];rfl
  generalize sigs++[(⟨A.text,A.pl,s⟩:Sg)]=S at r hle ⊢;refine sk 9 rfl (kc B ?_);refine ak 5 [(11,.all)] rfl (az (AWp.sub (st2:=mk [] ((600,rO L z3)::aDn ⟨p.datas,p.classes,p.insts,p.binds⟩ S)) (sl (hh:=⟨⟨_,rfl,.var rfl⟩,⟨_,rfl,.var (by rw[hle,←hsl];rfl)⟩,⟨_,rfl,.var rfl⟩,⟨_,rfl,.arrS r⟩,⟨_,rfl,Go.AM.Ole.arr⟩,⟨_,rfl,Go.AM.Ole.arr⟩,⟨_,rfl,Go.AM.Ole.arr⟩,⟨_,rfl,Go.AM.Ole.arr⟩,trivial⟩)) ?_));exact aD rtN
 | false=>
  rw[η π];have E:=rI hB hS A deep g2 J (le_trans (Y.trans l2) hN) hd;generalize eE ex A deep z2=y at E ⊢;obtain⟨U,z3⟩:=y;dsimp only at E ⊢;have hz0:(p.binds.map bH++[(bH zBd)])[p.binds.length]?=some (bH zBd):=by rw[A4 (by omega),O,B4];rfl
  refine aB rfl (fun hb=>Bool.noConfusion hb) (fun _=>aE ?_);by_cases q:z3.e=0
  case neg=>
   have hp:=aY.err E q;rw[aG q];refine aC mixed (ak 6 [] rfl (kpD (.pa (bH zBd)) [(600,rO L z2)] hp ?_));exact ak 7 [(8,.all),(11,.row p.binds.length (bH zBd))] rfl (az trivial)
  have E:=aY.ok E q;rw[aW q];have r:(p.binds.map bH++[(bH zBd)]).set p.binds.length (bH U)=(p.binds++[U]).map bH:=by
   rw[set_append_right _ _ (by omega),O,B4,Am];rfl
  have hle:(p.binds++[U]).length=p.binds.length+1:=by rw[ζ];rfl
  refine aC mixed (ak 6 [] rfl (kc E ?_));refine ak 7 [(8,.all),(11,.row p.binds.length (bH zBd))] rfl (az ?_);generalize hSe:p.binds++[U]=S at r hle ⊢;exact rtN (ho:=⟨⟨_,rfl,.var rfl⟩,⟨_,rfl,.var rfl⟩,⟨_,rfl,.var (by rw[hle,←O];rfl)⟩,⟨_,rfl,Go.AM.Ole.arr⟩,⟨_,rfl,.arrS r⟩,⟨_,rfl,Go.AM.Ole.arr⟩,⟨_,rfl,Go.AM.Ole.arr⟩,⟨_,rfl,Go.AM.Ole.arr⟩,trivial⟩)
end
section
variable {σ:Type}(sh:Str) (step:σ→Z→σ×Z)
def lpZ:Nat→Nat→σ→Z→σ×Z
 | 0,_,s,z=>(s,z)
 | f+1,n,s,z=>if(bI sh n z).1=true then lpZ f (n+1) (step s (bI sh n z).2).1 (step s (bI sh n z).2).2 else(s,(bI sh n z).2)
def rW (s:σ) (z:Z):σ×Z:=
 ((lpZ bE step ((aR dZ z).R.length+1) 0 s (aR dZ z)).1,aR bE (lpZ bE step ((aR dZ z).R.length+1) 0 s (aR dZ z)).2)
end
theorem eJ {σ:Type}{sh:Str}{step:σ→Z→σ×Z}{f n:Nat}{s:σ}{z:Z}(h:¬z.e=0):lpZ sh step f n s z=(s,z):=by
 cases f with
 | zero=>rfl
 | succ f=>rw[lpZ,aId h,η π]
theorem nV (s:Str) (z:Z):moreA s 0 z=z:=η fun k=>lt_irrefl 0 k.1
theorem qZ {σ:Type}{L:List Tk}{sh:Str}{step:σ→Z→σ×Z}{Inv:Nat→σ→Prop}(q:∀n s z,Inv n s→n<60→ZA L z→z.e=0→ZA L (step s z).2∧Inv (n+1) (step s z).1∧((step s z).2.e=0→(step s z).2.R.length<z.R.length)∧Ze z (step s z).2):
  ∀(f n:Nat) (s:σ) (z:Z),n≤60→Inv n s→ZA L z→ZA L (lpZ sh step f n s z).2∧(∃m,m≤60∧Inv m (lpZ sh step f n s z).1)∧Ze z (lpZ sh step f n s z).2
 | 0,n,s,z,hn,c,h=>⟨h,⟨n,hn,c⟩,Ze.refl z⟩
 | f+1,n,s,z,hn,c,h=>by
  rw[lpZ];split
  ·rename_i hm;obtain⟨e,r⟩:=gE hm;obtain⟨y,A,_,B⟩:=q n s _ c (by omega) (h.more sh n) e;obtain⟨g1,g2,g3⟩:=qZ q f (n+1) _ _ r A y;exact⟨g1,g2,((Ze.more sh n z).trans B).trans g3⟩
  ·exact⟨h.more _ _,⟨n,hn,c⟩,Ze.more _ _ _⟩
theorem aDb (ex:Nat→Z→Ex×Z) (deep:Nat):∀(f n:Nat) (sigs:List Sg) (binds:List Bd) (z:Z),kS ex deep f n sigs binds z=lpZ bE (fun(s:List Sg×List Bd) z=>b6 ex s.1 s.2 deep z) f n (sigs,binds) z
 | 0,_,_,_,_=>rfl
 | f+1,n,sigs,binds,z=>by
  rw[kS,lpZ];split
  ·exact aDb ex deep f _ _ _ _
  ·rfl
def pR:AObj:=.var 71 [.vp 600 0]
def dO (deep:Nat):AObj:=.var 3 [.c (.int .i64 (deep:Nat))]
theorem mS {L:List Tk}{z:Z}(h:ZA L z):b9 Tryz.prog 184 ([]++[R.vp 2 0].map V.one) [(600,rO L z),(2,pR)] (B (cY bE z)) [(600,rO L z),(2,pR)]:=by
 have hi:=jO h bE;have e:cY bE z=isZ bE z:=η (fun k=>by cases k);rw[e];refine bM (n:=4) tok Tryz.func184 rfl rfl rfl ?_;refine sg rfl (sk 1 rfl (kc hi ?_));exact kz 1 rfl (aD rtT)
theorem aLb (deep:Nat) {step:(List Sg×List Bd)→Z→(List Sg×List Bd)×Z}{Inv:Nat→(List Sg×List Bd)→Prop}{L:List Tk}{N:Nat}
  (hone:∀n s z,Inv n s→n<60→ZA L z→z.e=0→z.R.length≤N→aY Tryz.prog 242 ([]++[R.vp 3 0,R.vp 7 0,R.vp 8 0,R.vp 5 0].map V.one) ((600,rO L z)::(3,pR)::(5,dO deep)::vR s.1 s.2) (eF L (.tup []) (step s z).2 ((3,pR)::(5,dO deep)::vR (step s z).1.1 (step s z).1.2)))
  (hst:∀n s z,Inv n s→n<60→ZA L z→z.e=0→ZA L (step s z).2∧Inv (n+1) (step s z).1∧((step s z).2.e=0→(step s z).2.R.length<z.R.length)∧Ze z (step s z).2)
  {z:Z} (h:ZA L z) (he:z.e=0) (hN:z.R.length≤N) {s:(List Sg×List Bd)} (hI:Inv 0 s):
  aY Tryz.prog 83 [rP,.one (.clo 184 [R.vp 2 0]),.one (.clo 242 [R.vp 3 0,R.vp 7 0,R.vp 8 0,R.vp 5 0])] ((600,rO L z)::(2,pR)::(3,pR)::(5,dO deep)::vR s.1 s.2) (eF L (.tup []) (lpZ bE step (z.R.length+1) 0 s z).2 ((2,pR)::(3,pR)::(5,dO deep)::vR (lpZ bE step (z.R.length+1) 0 s z).1.1 (lpZ bE step (z.R.length+1) 0 s z).1.2)):=by
 have c:∃W,W=lpZ bE step (z.R.length+1) 0 s z:=⟨_,rfl⟩
 obtain⟨W,c⟩:=c;rw[←c];refine kT (n:=35) tok Tryz.func83 rfl rfl rfl rfl ?_;refine sg rfl (aF (aM (fun q:Nat×(List Sg×List Bd)×Z×Nat=>mk [(0,rP),(1,.one (.clo 184 [R.vp 2 0])),(2,.one (.clo 242 [R.vp 3 0,R.vp 7 0,R.vp 8 0,R.vp 5 0])),(6,I .i64 (q.1:Nat))] ((600,rO L q.2.2.1)::(2,pR)::(3,pR)::(5,dO deep)::vR q.2.1.1 q.2.1.2)) (fun q=>Inv q.1 q.2.1∧q.1≤60∧ZA L q.2.2.1∧q.2.2.1.e=0∧q.2.2.1.R.length≤N∧q.2.2.1.R.length<q.2.2.2∧moreA bE q.1 q.2.2.1=q.2.2.1∧W=lpZ bE step q.2.2.2 q.1 q.2.1 q.2.2.1) (fun q=>q.2.2.1.R.length) (0,s,z,z.R.length+1) ⟨hI,Ae _,h,he,hN,lt_succ_self _,nV _ _,c⟩ sl ?_));clear c h he hN hI;rintro⟨n,s,z,f⟩ ⟨hI,hn,h,he,hN,hf,hA,c⟩;dsimp only at hI hn h he hN hf hA c;refine aF (aA (aF (aM (fun y:Z=>mk [(0,rP),(1,.one (.clo 184 [R.vp 2 0])),(2,.one (.clo 242 [R.vp 3 0,R.vp 7 0,R.vp 8 0,R.vp 5 0])),(6,I .i64 (n:Nat))] ((600,rO L y)::(2,pR)::(3,pR)::(5,dO deep)::vR s.1 s.2)) (fun y=>ZA L y∧y.e=0∧cU z=cU y∧y.R.length≤z.R.length) (fun y=>y.R.length) z ⟨h,he,rfl,le_refl _⟩ sl ?_)));rintro y ⟨h2,A,e2,hle2⟩

 have hm:=dQ h2 A cA;obtain⟨m1,m2,m3⟩:=kP h2;have M:=h2.may cA;have he3:=(fL cA y).trans A;generalize bV cA y=m at hm m1 m2 m3 M he3;obtain⟨b,z3⟩:=m;dsimp only at m1 m2 m3 M he3;refine aA (sk 1 rfl (kc hm ?_));refine az (aB rfl (fun hb=>?_) (fun hb=>?_))
 ·have hb:b=true:=hb;have:=m3 hb;exact aE (aF (aE ⟨z3,⟨M,he3,e2.trans m1.symm,by omega⟩,m3 hb,sl⟩))
 have hb:b=false:=hb;obtain⟨g1,g2⟩:=m2 hb;subst g1;have e3:cU z=z3:=e2.trans g2;clear m1 m2 m3 M e2 hm;have hf0:∃g,f=g+1:=⟨f-1,by omega⟩
 obtain⟨f,rfl⟩:=hf0;rw[lpZ] at c;unfold bI at c;rw[hA,e3] at c;have hs3:=mS h2;have hn3:=cT h2;refine aL (aA (sk 1 rfl (kv (args:=[]) hs3 ?_)));refine az (aB rfl (fun hb=>?_) (fun hb=>?_))
 ·have hb:cY bE z3=true:=hb;rw[ξ (show ¬z3.e=0∨cY bE z3=true from .inr hb)] at c;rw[η π] at c;rw[c,aW A];exact aD rtN
 have hb:cY bE z3=false:=hb;have hnb:¬(¬z3.e=0∨cY bE z3=true):=fun k=>k.elim (fun k=>k A) fun k=>by rw[hb] at k;cases k
 rw[η hnb] at c;refine aE ?_;by_cases hn60:n<60
 case neg=>
  have d:decide (((n:Nat):Int)<60)=false:=ψ (by omega);rw[eC (by omega) A] at c;dsimp only at c;rw[ψ c0,η π] at c;rw[c,aG c0];have hmn:=bB 2 (aX z3).pl;refine sk 5 rfl (kc hn3 ?_);refine ak 1 [] rfl ?_;rw[d];exact kp hmn
 have d:decide (((n:Nat):Int)<60)=true:=φ (by omega);rw[eB (by omega),φ A,ξ rfl] at c;have hmo:=b7 2 (aX z3).pl;refine sk 5 rfl (kc hn3 ?_);refine ak 1 [] rfl ?_;rw[d];refine kc hmo ?_;refine az ?_;have ho:=hone n s z3 hI hn60 h2 A (by omega);obtain⟨B,k2,k3,_⟩:=hst n s z3 hI hn60 h2 A;generalize step s z3=y at ho B k2 k3 c;obtain⟨s4,z4⟩:=y;dsimp only at ho B k2 k3 c;by_cases r:z4.e=0
 case neg=>
  have hp:=aY.err ho r;rw[eJ r] at c;rw[c,aG r];exact sk 1 rfl (kpv (args:=[]) hp)
 have ho:=aY.ok ho r;have k3:=k3 r;refine sk 1 rfl (kv (args:=[]) ho ?_);refine az (aA (agN [] rfl ?_));have hlp:=B.lp;have E:=jO B cA;have hn4:=cT B;have O:=mS B;have hmo4:=b7 12 (aX z4).pl;cases U:isZ cA z4 with
 | true=>
  rw[U] at E;have J:moreA bE (n+1) z4=z4:=η fun k=>by rw[U] at k;cases k.2.2.1
  refine aC mixed (ak 1 [] rfl (kc E ?_));refine ak 7 [(2,.bv true),(5,.bv true)] rfl (kc hn4 ?_);refine ak 1 [(2,.bv true),(5,.bv true)] rfl (kc hmo4 ?_);exact az ⟨(n+1,s4,z4,f),⟨k2,by omega,B,r,by dsimp only;omega,by dsimp only;omega,J,c⟩,by dsimp only;omega,sl⟩
 | false=>
  rw[U] at E;cases Y:cY bE z4 with
  | true=>
   rw[Y] at O;have J:moreA bE (n+1) z4=z4:=η fun k=>by rw[Y] at k;cases k.2.2.2
   refine aC mixed (ak 1 [] rfl (kc E ?_));refine ak 2 [(2,.bv false)] rfl (kvG (args:=[]) O ?_);refine ak 4 [(2,.bv false),(5,.bv false)] rfl (kc hn4 ?_);refine ak 1 [(2,.bv false),(5,.bv false)] rfl (kc hmo4 ?_);exact az ⟨(n+1,s4,z4,f),⟨k2,by omega,B,r,by dsimp only;omega,by dsimp only;omega,J,c⟩,by dsimp only;omega,sl⟩
  | false=>
   rw[Y] at O;have hmn4:=bB 12 (aX z4).pl;have J:moreA bE (n+1) z4=⟨z4.R,12,(aX z4).pl⟩:=(ξ ⟨succ_pos n,r,U,Y⟩).trans (ξ r);have h12:¬(12:Int)=0:=by decide
   have hWb:W.2=⟨z4.R,12,(aX z4).pl⟩:=by
    obtain⟨f,rfl⟩:∃g,f=g+1:=⟨f-1,by omega⟩
    rw[lpZ] at c;unfold bI at c;rw[J,jF h12,ξ (show ¬(Z.mk z4.R 12 (aX z4).pl).e=0∨_ from .inl h12),η π] at c;rw[c]
   rw[hWb,aG h12];refine aC mixed (ak 1 [] rfl (kc E ?_));refine ak 2 [(2,.bv false)] rfl (kvG (args:=[]) O ?_);refine ak 4 [(2,.bv false),(5,.bv false)] rfl (kc hn4 ?_);refine ak 1 [(2,.bv false),(5,.bv false)] rfl (kpD (.tup []) [] hmn4 ?_);exact az trivial
theorem aH0 (deep:Nat) {step:(List Sg×List Bd)→Z→(List Sg×List Bd)×Z}{Inv:Nat→(List Sg×List Bd)→Prop}{L:List Tk}{N:Nat}
  (I:∀n s z,Inv n s→n<60→ZA L z→z.e=0→z.R.length≤N→aY Tryz.prog 242 ([]++[R.vp 3 0,R.vp 7 0,R.vp 8 0,R.vp 5 0].map V.one) ((600,rO L z)::(3,pR)::(5,dO deep)::vR s.1 s.2) (eF L (.tup []) (step s z).2 ((3,pR)::(5,dO deep)::vR (step s z).1.1 (step s z).1.2)))
  (E:∀n s z,Inv n s→n<60→ZA L z→z.e=0→ZA L (step s z).2∧Inv (n+1) (step s z).1∧((step s z).2.e=0→(step s z).2.R.length<z.R.length)∧Ze z (step s z).2)
  {z:Z} (h:ZA L z) (he:z.e=0) (U:z.R.length≤N) {s:(List Sg×List Bd)} (J:Inv 0 s):
  aY Tryz.prog 142 [rP,.one (.clo 242 [R.vp 3 0,R.vp 7 0,R.vp 8 0,R.vp 5 0])] ((600,rO L z)::(3,pR)::(5,dO deep)::vR s.1 s.2) (eF L (.tup []) (rW step s z).2 ((3,pR)::(5,dO deep)::vR (rW step s z).1.1 (rW step s z).1.2)):=by
 have c:=cE h he dZ;have h1:=h.need dZ;have M:=Ze.need dZ z;unfold rW;generalize aR dZ z=B at c h1 M ⊢;have O:B.R.length≤z.R.length:=M;refine kT (n:=12) tok Tryz.func142 rfl rfl rfl rfl ?_;refine sg rfl ?_;by_cases q:B.e=0
 case neg=>
  have hp:=aY.err c q;rw[eJ q];dsimp only;rw[b5 q,aG q];exact sk 1 rfl (kp hp)
 have c:=aY.ok c q;refine sk 1 rfl (kc c ?_);refine az ?_;have r:=aLb deep (step:=step) (Inv:=Inv) (L:=L) (N:=N) I E h1 q (by omega) J;have hok:=(qZ (sh:=bE) E (B.R.length+1) 0 s B (Ae _) J h1).1
 generalize lpZ bE step (B.R.length+1) 0 s B=W at r hok ⊢;obtain⟨s2,z2⟩:=W;dsimp only at r hok ⊢;by_cases y:z2.e=0
 case neg=>
  have hp:=aY.err r y;rw[b5 y,aG y];exact sk 3 rfl (kp hp)
 have r:=aY.ok r y;refine sk 3 rfl (kc r ?_);refine az ?_;have c:=cE hok y bE;generalize aR bE z2=z3 at c ⊢;by_cases A:z3.e=0
 case neg=>
  have hp:=aY.err c A;rw[aG A];exact aC mixed (ak 1 [] rfl (kp hp))
 have c:=aY.ok c A;rw[aW A];refine aC mixed (ak 1 [] rfl (kc c ?_));exact az rtN
theorem kN:∀{l:List Sg}{b:List Bd}{z:Z},(dY l b z).2.e=0→(dY l b z).2=z
 | [],b,z,_=>rfl
 | s::l,b,z,h=>by
  rw[dY] at h ⊢;by_cases he:z.e=0
  case neg=>rw[η he]
  rw[ξ he] at h ⊢;have hb:∀e p:Int,¬e=0→(dY l b (bY e p z)).2.e=0→False:=fun e p c h0=>by
   have r:bY e p z=⟨z.R,e,p⟩:=ξ he;rw[r,lG (show ¬(Z.mk z.R e p).e=0 from c)] at h0;exact c h0
  cases q:b.findIdx? (fun x=>decide (x.name=s.name)) with
  | none=>rw[q] at h;exact(hb 21 _ (by decide) h).elim
  | some k=>
   rw[q] at h;dsimp only at h ⊢;cases hx:b[k]? with
   | none=>rfl
   | some x=>
    rw[hx] at h;dsimp only at h ⊢;by_cases hh:x.has=true
    ·rw[ξ hh] at h;exact(hb 20 _ (by decide) h).elim
    ·rw[η hh] at h ⊢;exact kN h
section
variable {L:List Tk}{ex:Nat→Z→Ex×Z}{N:Nat}(hB:rT ex) (hS:aJs L ex N) (hZ:mT L) (hwt:wt L≤30000)
include hB hS hZ hwt
theorem aOs (sigs:List Sg) (binds:List Bd) (deep:Nat) {z:Z}(h:ZA L z) (he:z.e=0) (q:z.R.length≤N) (r:deep≤40) (h1:sigs.length≤4001) (h2:binds.length≤4001):
  aY Tryz.prog 242 ([]++[R.vp 3 0,R.vp 7 0,R.vp 8 0,R.vp 5 0].map V.one) ((600,rO L z)::(3,pR)::(5,dO deep)::vR sigs binds) (eF L (.tup []) (b6 ex sigs binds (deep+1) z).2 ((3,pR)::(5,dO deep)::vR (b6 ex sigs binds (deep+1) z).1.1 (b6 ex sigs binds (deep+1) z).1.2)):=by
 have hs:=aOk hB hS hZ hwt sigs binds (deep+1) h he q (by omega) h1 h2;generalize b6 ex sigs binds (deep+1) z=y at hs ⊢;obtain⟨⟨S,Bs⟩,z2⟩:=y;dsimp only at hs ⊢;refine kT (n:=8) tok Tryz.func242 rfl rfl rfl rfl ?_;by_cases c:z2.e=0
 case neg=>
  have hp:=aY.err hs c;rw[aG c];exact aC mixed (akN 3 [] rfl (kp hp))
 have hs:=aY.ok hs c;rw[aW c];refine aC mixed (akN 3 [] rfl (kc hs ?_));exact az rtN
omit hB hS hZ hwt
theorem aG5 (deep:Nat) (z:Z):aFu ex deep z=lpZ bE (fun(s:List Sg×List Bd) z=>b6 ex s.1 s.2 (deep+1) z) ((aR dZ z).R.length+1) 0 ([],[]) (aR dZ z):=aDb ex (deep+1) _ _ _ _ _
include hB hS hZ hwt
theorem aOr (hO:ExO L ex) (a:Int) (deep:Nat) {z:Z}(h:ZA L z) (he:z.e=0) (hN:z.R.length≤N) (hd:deep≤40):aY Tryz.prog 224 [rP,I .i64 a,I .i64 (deep:Nat)] [(600,rO L z)] (eF L (.pa (cD (aDc ex a deep z).1)) (aDc ex a deep z).2 []):=by
 have hst:∀(n:Nat) (s:List Sg×List Bd) (z:Z),(eT s.1∧dV s.2∧s.1.length≤n∧s.2.length≤n)→n<60→ZA L z→z.e=0→ZA L (b6 ex s.1 s.2 (deep+1) z).2∧(eT (b6 ex s.1 s.2 (deep+1) z).1.1∧dV (b6 ex s.1 s.2 (deep+1) z).1.2∧(b6 ex s.1 s.2 (deep+1) z).1.1.length≤n+1∧(b6 ex s.1 s.2 (deep+1) z).1.2.length≤n+1)∧((b6 ex s.1 s.2 (deep+1) z).2.e=0→(b6 ex s.1 s.2 (deep+1) z).2.R.length<z.R.length)∧Ze z (b6 ex s.1 s.2 (deep+1) z).2:=fun n s z M hn h he=>by
  obtain⟨k1,k2,k3,k4,k5,k6,k7⟩:=mB hO hwt s.1 s.2 (deep+1) h M.1 M.2.1;exact⟨k1,⟨k2,k3,by have:=M.2.2.1;omega,by have:=M.2.2.2;omega⟩,k6,k7⟩
 have hI0:eT ([]:List Sg)∧dV ([]:List Bd)∧([]:List Sg).length≤0∧([]:List Bd).length≤0:=⟨fun s hs=>(by cases hs),trivial,le_refl _,le_refl _⟩
 have r:=aH0 deep (step:=fun(s:List Sg×List Bd) z=>b6 ex s.1 s.2 (deep+1) z) (Inv:=fun n s=>eT s.1∧dV s.2∧s.1.length≤n∧s.2.length≤n) (L:=L) (N:=N) (fun n s z M hn h he hN=>aOs hB hS hZ hwt s.1 s.2 deep h he hN hd (by have:=M.2.2.1;omega) (by have:=M.2.2.2;omega)) hst h he hN (s:=([],[])) hI0;have hok:=qZ (sh:=bE) (Inv:=fun n (s:List Sg×List Bd)=>eT s.1∧dV s.2∧s.1.length≤n∧s.2.length≤n) hst ((aR dZ z).R.length+1) 0 ([],[]) (aR dZ z) (Ae _) hI0 (h.need dZ);unfold rW at r;unfold aDc;rw[aG5];unfold aNz;have l0:(aR dZ z).R.length≤z.R.length:=Ze.need dZ z;generalize aR dZ z=z1 at r hok l0 ⊢;generalize lpZ bE (fun(s:List Sg×List Bd) z=>b6 ex s.1 s.2 (deep+1) z) (z1.R.length+1) 0 ([],[]) z1=W at r hok ⊢;obtain⟨⟨sigs,binds⟩,z2⟩:=W;dsimp only at r hok ⊢;obtain⟨g1,⟨m,hm60,hs,hb,hsl,hbl'⟩,g3⟩:=hok

 have h3:=g1.need bE;have l3:(aR bE z2).R.length≤z2.R.length:=Ze.need bE z2;have g3:z2.R.length≤z1.R.length:=g3;generalize aR bE z2=z3 at r h3 l3 ⊢;refine kT (n:=25) tok Tryz.func224 rfl rfl rfl rfl ?_;refine sg rfl (sg rfl (sg rfl (AWp.sub (Sub.ownCell (x:=7) (k:=0) (id:=510) 92 9 rfl rfl rfl) ?_)));refine AWp.sub (Sub.ownCell (x:=8) (k:=0) (id:=511) 99 33 rfl rfl rfl) ?_;by_cases A:z3.e=0
 case neg=>
  have hp:=aY.err r A;rw[lG A,b5 A,hB _ _ A,aG A];exact sk 2 rfl (kp hp)
 have r:=aY.ok r A;refine sk 2 rfl (kc r ?_);refine az ?_;have q:=aEk sigs binds A (by omega) (by omega);obtain⟨p1,p2,p3,p4⟩:=gV sigs binds z3 h3 hs hb;have Y:= @kN sigs binds z3;generalize dY sigs binds z3=y at q p1 p2 p3 p4 Y ⊢;obtain⟨Bs,U⟩:=y;dsimp only at q p1 p2 p3 p4 Y ⊢;have p4:U.R.length≤z3.R.length:=p4;unfold aMi at q;dsimp only at q;refine AWp.sub (Sub.freeze (id:=510) rfl) ?_;by_cases B:U.e=0
 case neg=>
  rw[η B] at q;have hp:wS _ _ _ _ _:=q;rw[b5 B,hB _ _ B,aG B];exact sk 2 rfl (kp hp)
 rw[ξ B] at q;have q:b9 _ _ _ _ _ _:=q;obtain rfl:=Y B;have hBl:binds.length=(Bs.map bH).length:=by rw[χ,p3]
 refine sk 2 rfl (kc q ?_);refine kz 1 rfl ?_;have E:=cE p1 B inS;have h7:=p1.need inS;have l7:(aR inS U).R.length≤U.R.length:=Ze.need inS U;generalize aR inS U=z7 at E h7 l7 ⊢;by_cases J:z7.e=0
 case neg=>
  have hp:=aY.err E J;rw[hB _ _ J,aG J];exact sk 1 rfl (kp hp)
 have E:=aY.ok E J;refine sk 1 rfl (kc E ?_);refine az ?_;have hex:=hS (deep+1) z7 h7 J (by omega) (by omega);generalize ex (deep+1) z7=y at hex ⊢;obtain⟨e,z8⟩:=y;dsimp only at hex ⊢;refine AWp.sub (Sub.freeze (id:=511) rfl) ?_;by_cases O:z8.e=0
 case neg=>
  have hp:=aY.err hex O;rw[aG O];refine aA (aC mixed (akN 5 [] rfl (kpD (.pa (cD zEx)) [(600,rO L z7)] hp ?_)));exact ak 3 [(6,.all)] rfl (az trivial)
 have hex:=aY.ok hex O;rw[aW O];refine aA (aC mixed (akN 5 [] rfl (kc hex ?_)));refine ak 3 [(6,.all)] rfl (az ?_);unfold cD;rw[aHg];exact aD (rtC trw (hc:=.agg (.c .refl (.c .refl (.c .refl (.c .refl (.c .refl (.c .nl (.hs rfl hBl (Go.AM.take_all hBl) (.c .nl (.c .nl (.c .nl (.c .refl (.c .refl (.c .refl (.c .nl (.c .nl .nil)))))))))))))))))
end
end Go.Proofs.YtpmheldmadendaaGreatDoor
