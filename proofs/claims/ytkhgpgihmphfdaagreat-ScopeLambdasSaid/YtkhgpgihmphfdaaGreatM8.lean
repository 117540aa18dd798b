/-
  Texts Rd17 to Rd25 in one.
-/
import Derived.Test.YtkhgpgihmphfdaaGreatM7
open List (append_assoc cons_append dropWhile_cons foldl_append length_append length_cons length_map length_nil length_take map_append mem_append mem_cons_of_mem mem_cons_self mem_of_mem_take mem_singleton nil_append take_add_one take_append_drop take_length)
open Nat (add_mul le_refl le_trans mul_le_mul_right zero_le)
namespace Go.Proofs.YtkhgpgihmphfdaaGreat
open Go Go.AM
set_option maxRecDepth 20000
set_option maxHeartbeats 4000000
def prV (L:List Tk):PR→V
 | .ok (ps,R)=>.pa (x7 zTy (.sl 5 (ps.map aR)) .nl ((L.length-R.length:Nat):Int) 0 0)
 | .error (e,p)=>.pa (x7 zTy .nl .nl 0 e p)
theorem qU (L:List Tk) (ps:List Prd) (R:List Tk):prV L (.ok (ps,R))=.pa (x7 zTy (.sl 5 (ps.map aR)) .nl ((L.length-R.length:Nat):Int) 0 0):=rfl
def nX (i:Int):List AM.R:=[.c (.int .i64 0),.c (.int .i64 0),.c (.str []),.c .nl,.c .nl,.c .nl,.c (.int .i64 i),.c (.int .i64 0),.c (.int .i64 0)]
noncomputable def aW6 (c:Code):Code:=jI (jI (jI (jI (jI (jI (jI (jI (jI c))))))))
theorem aLi (L:List Tk) (R:List Tk) (i:Nat) (hA:At L i R):aV Tryz.prog 125 [nM L,I .i64 (i:Nat)] [] (prV L (cQ R)) []:=by
 have hkl:(L.map aI).length=L.length:=χ _;have hLl:=hA.l;have hti0:=hA.lt;have ab:L.length-R.length=i:=by omega
 obtain⟨t,R,rfl⟩:=hA.e.ne;have hti:=hA.get;have hti':=bB aI hti;have hIs:=wE t cE;refine bF (n:=100) tok Tryz.func125 rfl rfl rfl ?_;refine sg rfl (sg rfl (sg rfl (sg rfl (skh 4 [(2,.row i (aI t))] rfl (kc hIs ?_)))));refine kz 1 rfl ?_;rw[cQ];have hQ:∃(Q:List Tk) (k:Nat) (o:Nat),Q=(if isT t cE=true then R else t::R)∧At L k Q∧(o=if isT t cE=true then 1 else 0)∧k=i+o∧Q.length≤(t::R).length:=by
  by_cases hb:isT t cE=true
  ·obtain⟨h1,_⟩:=hA.next (by rw[(bV hb).1];decide)
   exact⟨R,i+1,1,by rw[θ hb],h1,by rw[θ hb],rfl,by simp⟩
  ·exact⟨t::R,i,0,by rw[ξ hb],hA,by rw[ξ hb],rfl,le_refl _⟩
 obtain⟨Q,k,o,hQ,B,ho,hk,hQl⟩:=hQ;rw[←hQ];refine kV (mk [(0,nM L),(1,I .i64 (i:Nat)),(4,.one (.vp 4 0)),(5,.one (.vp 5 0)),(6,I .i64 (o:Nat)),(7,I .i64 (k:Nat))] [(4,.var 154 zX),(5,.var 154 (nX i))]) ?_ ?_
 ·refine sg rfl (aB rfl (fun hb=>?_) (fun hb=>?_))
  ·rw[hb,θ rfl] at ho;subst ho hk;exact sg rfl (agN [] rfl (.inl ⟨rfl,sl⟩))
  ·rw[hb,ξ (by decide)] at ho;subst ho hk;exact aD (.inl ⟨rfl,sl⟩)
 clear hQ hIs;have A:o=if isT t cE=true then 1 else 0:=ho
 generalize isT t cE=b at A ⊢;clear ho;have q:∃W:PR,W=jK t.pl (t::R) b (gU ((t::R).length+1) b Q []):=⟨_,rfl⟩
 obtain⟨W,q⟩:=q;rw[←q];refine sg rfl (AWp.sub (Sub.own (t:=9) (id:=500) 195 5 rfl rfl) ?_);refine aA (aE (aL (fun p:Nat×Nat×List Prd×List Tk=>mk [(0,nM L),(1,I .i64 (i:Nat)),(4,.one (.vp 4 0)),(5,.one (.vp 5 0)),(6,I .i64 (o:Nat)),(7,I .i64 (p.1:Nat)),(9,.one (.hs 500 0 p.2.2.1.length p.2.2.1.length))] [(4,.var 154 zX),(5,.var 154 (nX i)),(500,.arr 195 5 (p.2.2.1.map aR) 0)]) (fun p=>At L p.1 p.2.2.2∧p.2.2.2.length+1≤p.2.1∧p.2.2.1.length+p.2.2.2.length≤4001∧W=jK t.pl (t::R) b (gU p.2.1 b p.2.2.2 p.2.2.1)) (fun p=>p.2.1) (k,(t::R).length+1,[],Q) ⟨B,by dsimp only;omega,by dsimp only;rw[length_nil];have:=B.lt;omega,q⟩ sl ?_));clear q B hQl hk;rintro⟨j,f,out,Q⟩ ⟨B,hf,hol,q⟩;dsimp only at B hf hol q ⊢;have hout:(out.map aR).length=out.length:=χ _;obtain⟨f,rfl⟩:∃g,f=g+1:=⟨f-1,by omega⟩
 obtain⟨u,Q,rfl⟩:=B.e.ne;have huj:=B.get;have huj':=bB aI huj;have hjl:=B.lt;rw[Aa] at hf hol hjl;rw[gU] at q;refine aE (aA (sgh [(2,.row j (aI u))] rfl ?_));by_cases h2:u.kind=2
 case neg=>
  rw[ξ h2,jK] at q;have d2:(!decide (u.kind=2))=true:=by rw[ψ h2];rfl
  rw[q,qU,ab];exact aB rfl (fun _=>sg rfl (aF (rtC trw))) (fun hb=>absurd (hb.symm.trans d2) (by decide))
 rw[θ h2] at q;have d2:(!decide (u.kind=2))=false:=by rw[φ h2];rfl
 refine aB rfl (fun hb=>absurd (hb.symm.trans d2) (by decide)) (fun _=>aD ?_);obtain⟨hA1,_⟩:=B.next (by omega)
 have hat:=(aMc L (3*Q.length)).1 (3*Q.length) (le_refl _) o Q _ hA1 (le_refl _) (by rw[A];split<;>omega);rw[A] at hat;have hok:=gQ (3*Q.length) (if b=true then 1 else 0) Q;have aa:=eM (3*Q.length) (if b=true then 1 else 0) Q;rw[←A] at hat hok aa q;refine aA (aC mixed (akN 4 [] rfl (kc hat ?_)));generalize cM (3*Q.length) o Q=w at hok aa q ⊢;cases w with
 | error e=>
  obtain⟨e,p⟩:=e;have he:=aa e p rfl;dsimp only at q;rw[q,jK,qU,ab];exact kz 2 rfl (aA (sg rfl (aB rfl (fun _=>sg rfl (aF (rtC trw))) (fun hb=>absurd hb (by simp[he])))))
 | ok y=>
 obtain⟨x,R1⟩:=y;obtain⟨hT,_⟩:=hok x R1 rfl;obtain⟨U,hle⟩:=hA1.ok hT;have hlen:=hT.len;obtain⟨v,R2,rfl⟩:=U.e.ne;rw[q9];dsimp only at q;have hvj:=U.get;have hvj':=bB aI hvj;have hv2:=U.lt;rw[Aa] at hlen hv2;have hcm:=wE v nT;refine kz 2 rfl (aA (sg rfl (aB rfl (fun hb=>absurd hb (by decide)) (fun _=>aD (aA (agN [(3,.row j (aI u)),(9,.all)] rfl (sg rfl (skh 4 [(2,.row (L.length-(v::R2).length) (aI v))] rfl (kc hcm ?_)))))))));refine kz 1 rfl ?_;have M:out.map aR++[[.str u.text,.int .i64 x.form,.int .i64 x.n,.str x.name,.sl 4 (dD x)]]=(out++[(⟨u.text,x⟩:Prd)]).map aR:=by rw[Ai];rfl
 have Y:((out++[(⟨u.text,x⟩:Prd)]).map aR).length=out.length+1:=by rw[χ,η];rfl
 generalize hO:out++[(⟨u.text,x⟩:Prd)]=O at q M Y;have ac:O.length=out.length+1:=by rw[←Y,χ]
 generalize L.length-(v::R2).length=k at *;have E:(bif decide ((o:Int)=0) then true else !isT v nT)= !(b&&isT v nT):=by
  cases b with
  | false=>rw[A];rfl
  | true=>rw[A];rfl
 refine aA (aA (agF 3 [] rfl rfl rfl ?_));by_cases hc:(b&&isT v nT)=true
 ·rw[θ hc] at q;rw[hc] at E;refine aB rfl (fun hb=>absurd (hb.symm.trans E) (by decide)) (fun _=>aD ?_);rw[ε] at hc;obtain⟨hA3,_⟩:=U.next (by rw[(bV hc.2).1];decide)
  exact agN [] rfl ⟨(k+1,f,O,R2),⟨hA3,by dsimp only;omega,by dsimp only;omega,q⟩,by dsimp only;omega,sl (he:=⟨rfl,rfl,rfl,rfl,rfl,rfl,Go.AM.hs_ren (by rw[ac,←hout];rfl) (by rw[ac,←hout];rfl),trivial⟩) (hh:=⟨⟨_,rfl,.var rfl⟩,⟨_,rfl,.var rfl⟩,⟨_,rfl,.arrS M⟩,trivial⟩)⟩
 rw[ξ hc,jK] at q;rw[Cq _ |>.mp hc] at E;refine aB rfl (fun _=>aG (AWp.sub (st2:=mk [(0,nM L),(1,I .i64 (i:Nat)),(4,.one (.vp 4 0)),(5,.one (.vp 5 0)),(6,I .i64 (o:Nat)),(7,I .i64 (k:Nat)),(9,.one (.hs 500 0 O.length O.length))] [(4,.var 154 zX),(5,.var 154 (nX i)),(500,.arr 195 5 (O.map aR) 0)]) (sl (he:=⟨rfl,rfl,rfl,rfl,rfl,rfl,Go.AM.hs_ren (by rw[ac,←hout];rfl) (by rw[ac,←hout];rfl),trivial⟩) (hh:=⟨⟨_,rfl,.var rfl⟩,⟨_,rfl,.var rfl⟩,⟨_,rfl,.arrS M⟩,trivial⟩)) ?_)) (fun hb=>absurd (hb.symm.trans E) (by decide));clear E hc M hO hcm hout Y;rw[brP] at q;have hmid:∀(m:Nat) (Q:List Tk),At L m Q→W=yQ t.pl (t::R) O Q→AWp none Tryz.prog 100 (keys ([]:List (Nat×AObj))) (aW6 (Tryz.f125.body.getD .skip)) (mk [(0,nM L),(1,I .i64 (i:Nat)),(4,.one (.vp 4 0)),(5,.one (.vp 5 0)),(6,I .i64 (o:Nat)),(7,I .i64 (m:Nat)),(9,.one (.hs 500 0 O.length O.length))] [(4,.var 154 zX),(5,.var 154 (nX i)),(500,.arr 195 5 (O.map aR) 0)]) (fun ex st=>(ex=.normal∨ex=.ret)∧Fin tr.flat Tryz.f125 st [] (prV L W) []):=by
  intro m Q ad J;obtain⟨y,Q,rfl⟩:=ad.e.ne;have hyj:=ad.get;have hyj':=bB aI hyj;have hda:=wE y darrow;have hB:=aBf t 2;have hml:=ad.lt;rw[yQ] at J;refine skh 4 [(2,.row m (aI y))] rfl (kc hda ?_);refine kz 1 rfl (aA (sg rfl ?_));cases hd:isT y darrow with
  | false=>
   rw[hd,ξ (by decide)] at J;rw[J,qU,ab];refine aB rfl (fun _=>sg rfl (AWp.sub (Sub.freeze (id:=500) rfl) ?_)) (fun hb=>absurd hb (by decide));exact aF (rtC trw)
  | true=>
   rw[hd,θ rfl] at J;obtain⟨_,hn⟩:=ad.next (by rw[(bV hd).1];decide)
   refine aB rfl (fun hb=>absurd hb (by decide)) (fun _=>aD (aA (sg rfl (aB rfl (fun hb=>?_) (fun hb=>?_)))))
   ·rw[θ (by have:=κ hb;omega)] at J;rw[J];refine skh 4 [(2,.row i (aI t))] rfl (kc hB ?_);refine kz 1 rfl (AWp.sub (Sub.freeze (id:=500) rfl) ?_);exact aF (rtC trw)
   ·rw[ξ (by have:=Ae hb;omega)] at J;rw[J,qU,hn];refine aD (aA (agN [] rfl (AWp.sub (Sub.freeze (id:=500) rfl) ?_)));exact aF (rtC trw)
 cases b with
 | false=>
  rw[ξ (by decide)] at A q;subst A;refine aA (AWp.cut (mk [(0,nM L),(1,I .i64 (i:Nat)),(4,.one (.vp 4 0)),(5,.one (.vp 5 0)),(6,I .i64 ((0:Nat):Int)),(7,I .i64 (k:Nat)),(9,.one (.hs 500 0 O.length O.length))] [(4,.var 154 zX),(5,.var 154 (nX i)),(500,.arr 195 5 (O.map aR) 0)]) ?_ (hmid k (v::R2) U q));exact sg rfl (aB rfl (fun hb=>absurd hb (by decide)) (fun _=>aD sl))
 | true=>
  rw[θ rfl] at A q;subst A;have hrp:=wE v lX;by_cases hr:isT v lX=true
  ·rw[θ hr] at q;obtain⟨hA3,_⟩:=U.next (by rw[(bV hr).1];decide)
   refine aA (AWp.cut (mk [(0,nM L),(1,I .i64 (i:Nat)),(4,.one (.vp 4 0)),(5,.one (.vp 5 0)),(6,I .i64 ((1:Nat):Int)),(7,I .i64 ((k+1:Nat):Int)),(9,.one (.hs 500 0 O.length O.length))] [(4,.var 154 zX),(5,.var 154 (nX i)),(500,.arr 195 5 (O.map aR) 0)]) ?_ (hmid (k+1) R2 hA3 q));refine sg rfl (aB rfl (fun _=>skh 4 [(2,.row k (aI v))] rfl (kc hrp ?_)) (fun hb=>absurd hb (by decide)));refine kz 1 rfl ?_;rw[hr];exact aA (sg rfl (aB rfl (fun hb=>absurd hb (by decide)) (fun _=>aD (agN [] rfl sl))))
  ·rw[ξ hr] at q;rw[q,qU,ab];refine aA (sg rfl (aB rfl (fun _=>skh 4 [(2,.row k (aI v))] rfl (kc hrp ?_)) (fun hb=>absurd hb (by decide))));refine kz 1 rfl ?_;rw[Cq _ |>.mp hr];refine aA (sg rfl (aB rfl (fun _=>sg rfl (AWp.sub (Sub.freeze (id:=500) rfl) ?_)) (fun hb=>absurd hb (by decide))));exact aF (rtC trw)
structure Sch where
 vars:List Str
 preds:List Prd
 ty:Ty
def gP (o:List Str) (ps:List Prd):List Str:=ps.foldl (fun o p=>eH o (tfR p.ty)) o
def aQ8 (ps:List Prd) (x:Ty):List Str:=eH (gP [] ps) (tfR x)
abbrev SR:=Except PE (Sch×List Tk)
def n5 (ps:List Prd):TR→SR
 | .error e=>.error e
 | .ok (x,R)=>.ok (⟨aQ8 ps x,ps,x⟩,R)
def n6:PR→SR
 | .error e=>.error e
 | .ok (ps,R)=>n5 ps (c8 (3*R.length+2) 0 R)
def cH (R:List Tk):SR:=n6 (cQ R)
theorem y5 (o:List Str) (ps:List Prd) (p:Prd):gP o (ps++[p])=eH (gP o ps) (tfR p.ty):=by unfold gP;rw[foldl_append];rfl
theorem y4 {ps:List Prd}{i:Nat}{p:Prd}(h:ps[i]?=some p):gP [] (ps.take (i+1))=eH (gP [] (ps.take i)) (tfR p.ty):=by rw[Bg,h];exact y5 _ _ _
theorem vC {W:Nat}:∀(ps:List Prd) (o:List Str),(∀p∈ps,tn p.ty≤W)→(gP o ps).length≤o.length+ps.length*W
 | [],o,_=>by show o.length≤_;omega
 | p::ps,o,h=>by
  have h1:=vC ps (eH o (tfR p.ty)) fun q hq=>h q (Bh _ hq)
  have h2:=iT (tfR p.ty) o;have g:=lU p.ty;have u:=h p Bu;show(gP (eH o (tfR p.ty)) ps).length≤_;rw[Aa,A6];omega
def scV (L:List Tk):SR→V
 | .ok (s,R)=>.pa (x7 s.ty (.sl 5 (s.preds.map aR)) (.sl 1 (s.vars.map aX)) ((L.length-R.length:Nat):Int) 0 0)
 | .error (e,p)=>.pa (x7 zTy .nl .nl 0 e p)
theorem aMk (L:List Tk) (s:Sch) (R:List Tk):scV L (.ok (s,R))=.pa (x7 s.ty (.sl 5 (s.preds.map aR)) (.sl 1 (s.vars.map aX)) ((L.length-R.length:Nat):Int) 0 0):=rfl
theorem aBq {a:Int}{R0 R1:List Tk}{out:List Prd}{e p:Int}(h:yQ a R0 out R1=.error (e,p)):¬e=0:=by
 cases R1 with
 | nil=>rw[yQ] at h;cases h
 | cons u R=>
  rw[yQ] at h;split at h
  ·split at h
   ·cases h;decide
   ·cases h
  ·cases h
theorem iB {R:List Tk}{e p:Int}(h:cQ R=.error (e,p)):¬e=0:=by
 cases R with
 | nil=>rw[cQ] at h;cases h
 | cons t R=>
  rw[cQ] at h;cases hp:gU ((t::R).length+1) (isT t cE) (if isT t cE=true then R else t::R) [] with
  | none=>rw[hp,jK] at h;cases h
  | some y=>
   obtain⟨g,R1⟩:=y;rw[hp,jK] at h;cases R1 with
   | nil=>rw[brP] at h;cases h
   | cons u R2=>
    rw[brP] at h;split at h
    ·split at h
     ·exact aBq h
     ·cases h
    ·exact aBq h
theorem n3 {R:List Tk}{e p:Int}(h:cH R=.error (e,p)):¬e=0:=by
 unfold cH at h;cases hp:cQ R with
 | error e'=>rw[hp,n6] at h;cases h;exact iB hp
 | ok y=>
  obtain⟨ps,R1⟩:=y;rw[hp,n6] at h;cases hw:c8 (3*R1.length+2) 0 R1 with
  | error e'=>rw[hw,n5] at h;cases h;exact dT _ _ _ _ _ hw
  | ok y=>obtain⟨x,R2⟩:=y;rw[hw,n5] at h;cases h
theorem aHl (L:List Tk) (R:List Tk) (i:Nat) (u:At L i R) (hwt:wt L≤30000):aV Tryz.prog 85 [nM L,I .i64 (i:Nat)] [] (scV L (cH R)) []:=by
 have hp:=aLi L R i u;have E:= @kL R;have J:= @iB R;unfold cH;refine bF (n:=54) tok Tryz.func85 rfl rfl rfl ?_;refine sg rfl (sk 2 rfl (kc hp ?_));generalize cQ R=w at E J ⊢;cases w with
 | error e=>
  obtain⟨e,p⟩:=e;have he:=J rfl;rw[n6];exact kz 2 rfl (aA (sg rfl (aB rfl (fun _=>sg rfl (aF (rtC trw))) (fun hb=>absurd hb (by simp[he])))))
 | ok y=>
 obtain⟨ps,R1⟩:=y;obtain⟨k1,⟨q,k2,_⟩,k3,k4⟩:=E rfl;obtain⟨M,hn1⟩:=u.to k2 (k1 u.e);rw[qU,n6,hn1];generalize i+q.length=j at M;have hty:=(aMc L (3*R1.length+2)).2 (3*R1.length+2) (le_refl _) 0 R1 j M (le_refl _) (by decide);have O:=fB (3*R1.length+2) 0 R1;have U:=dT (3*R1.length+2) 0 R1;have hwR:∀{p Q:List Tk},wt Q≤wt (p++Q):=lS;have A:wt R≤30000:=by
  have:L=L.take i++R:=by rw[←u.d,take_append_drop]
  rw[this] at hwt;exact le_trans lS hwt
 have hwtR1:wt R1≤30000:=by rw[k2] at A;exact le_trans lS A
 have hRl:=u.lt;have hLl:=u.l;refine kz 2 rfl (aA (sg rfl (aB rfl (fun hb=>absurd hb (by decide)) (fun _=>aD (sk 3 rfl (kc hty ?_))))));generalize c8 (3*R1.length+2) 0 R1=w at O U ⊢;cases w with
 | error e=>
  obtain⟨e,p⟩:=e;have he:=U e p rfl;rw[n5];exact kz 2 rfl (aA (sg rfl (aB rfl (fun _=>sg rfl (aF (rtC trw))) (fun hb=>absurd hb (by simp[he])))))
 | ok y=>
 obtain⟨x,R2⟩:=y;obtain⟨hT,hTn⟩:=O x R2 rfl;rw[q9,n5,aMk];dsimp only;generalize ((L.length-R2.length:Nat):Int)=m;have Y:(ps.map aR).length=ps.length:=χ _;refine kz 2 rfl (aA (sg rfl (aB rfl (fun hb=>absurd hb (by decide)) (fun _=>aD (sg rfl (aA (sg rfl (AWp.sub (Sub.ownCell (x:=6) (k:=5) (id:=710) 9 1 rfl rfl rfl) ?_))))))));refine aE (aL (fun k:Nat=>mk [(4,.one (.vp 4 0)),(5,.one (.vp 5 0)),(6,.one (.vp 6 0)),(7,I .i64 (k:Nat))] [(4,.var 154 zX),(5,.var 154 ((x7 zTy (.sl 5 (ps.map aR)) .nl (j:Nat) 0 0).map .c)),(6,.var 154 [.c (.int .i64 x.form),.c (.int .i64 x.n),.c (.str x.name),.c (.sl 4 (dD x)),.c (.sl 5 (ps.map aR)),.hs 710 0 (gP [] (ps.take k)).length (gP [] (ps.take k)).length,.c (.int .i64 m),.c (.int .i64 0),.c (.int .i64 0)]),(710,oO (gP [] (ps.take k)))]) (fun k=>k≤ps.length) (fun k=>ps.length-k) 0 (Ad _) sl ?_);intro k hk;refine aA (sg rfl ?_);have hgl:(gP [] (ps.take k)).length≤4001*30000:=by
  have h1:=vC (W:=30000) (ps.take k) [] (fun p hp=>by have:=(k3 p (B9 hp)).2;omega);rw[Aj,length_nil] at h1;have:min k ps.length*30000≤4001*30000:=Av _ (by omega);omega
 refine aB rfl (fun hb=>?_) (fun hb=>?_)
 ·have aa:=ltD hb Y;obtain⟨p,hp⟩:=aM aa;have hp':=bB aR hp;have hpm:=k3 p (Ag hp);have B:=aHo p.ty hpm.1 (by omega);have htf:=lU p.ty;have g:=aGs (gP [] (ps.take k)) (tfR p.ty) (by omega);rw[←y4 hp] at g;refine aD (aA (aE (aC mixed (ak 8 [(5,.row k (aR p))] rfl (kc B ?_)))));refine kc g ?_;exact kz 2 rfl (ag [] rfl ⟨k+1,aa,by dsimp only;omega,sl⟩)
 ·have hge:=geD hb Y hk;subst hge;rw[Ao] at hgl ⊢;have B:=aHo x hT.w (by omega);have htf:=lU x;have g:=aGs (gP [] ps) (tfR x) (by omega);have hsv:aQ8 ps x=eH (gP [] ps) (tfR x):=rfl;rw[hsv];refine aG (sk 4 rfl (kc B ?_));refine kc g ?_;refine kz 2 rfl (sg rfl (AWp.sub (Sub.freeze (id:=710) rfl) ?_));exact aF (rtC trw)
section
variable {fn:Func}{st:St}{hin hout:List (Nat×AObj)}
theorem iP {a0 t0 J u Y:Nat}{A:TI}{g:List AM.R}{v0 w0:V}{ids0:List Nat}{u1:Nat}{v1 B:V}{O:List Nat}{a2 t2 M y tv2:Nat}{E:TI}{q:List AM.R}{v2 I:V}{U:List Nat}(hr:fn.results.toList=[.cell a0 t0,.tmp u1,.cell a2 t2]:=by rfl) (hi0:tr.get t0=some A:=by rfl) (ha0:st.e a0=some (.one (.vp J u)):=by rfl) (hh0:st.h J=some (.var Y g):=by rfl) (hb0:Nat.ble (u+A.size) g.length=true:=by rfl) (hv0:iU A ((g.drop u).take A.size)=some v0:=by rfl) (hu1:st.e u1=some v1:=by rfl) (hi2:tr.get t2=some E:=by rfl) (ha2:st.e a2=some (.one (.vp M y)):=by rfl) (hh2:st.h M=some (.var tv2 q):=by rfl) (hb2:Nat.ble (y+E.size) q.length=true:=by rfl) (hv2:iU E ((q.drop y).take E.size)=some v2:=by rfl)
  (hc0:Conv st.h ids0 v0 w0:=by first | exact .refl | exact .one (.c .nl .nil) | exact .one (.hs rfl (by first | rfl | assumption | simp) (by first | rfl | exact Go.AM.take_all (by first | assumption | rfl | (simp;done)) | exact Go.AM.take_map.symm) .nil) | ((first | apply Go.AM.Conv.pa | apply Go.AM.Conv.agg);repeat (first | exact .nil | apply Go.AM.PureL.c .refl | apply Go.AM.PureL.c .nl | (apply Go.AM.PureL.hs;rfl;(first | rfl | assumption | simp);(first | rfl | exact Go.AM.take_all (by first | assumption | rfl | (simp;done)) | exact Go.AM.take_map.symm))))) (hc1:Conv st.h O v1 B:=by first | exact .refl | exact .one (.c .nl .nil) | exact .one (.hs rfl (by first | rfl | assumption | simp) (by first | rfl | exact Go.AM.take_all (by first | assumption | rfl | (simp;done)) | exact Go.AM.take_map.symm) .nil) | ((first | apply Go.AM.Conv.pa | apply Go.AM.Conv.agg);repeat (first | exact .nil | apply Go.AM.PureL.c .refl | apply Go.AM.PureL.c .nl | (apply Go.AM.PureL.hs;rfl;(first | rfl | assumption | simp);(first | rfl | exact Go.AM.take_all (by first | assumption | rfl | (simp;done)) | exact Go.AM.take_map.symm))))) (hc2:Conv st.h U v2 I:=by first | exact .refl | exact .one (.c .nl .nil) | exact .one (.hs rfl (by first | rfl | assumption | simp) (by first | rfl | exact Go.AM.take_all (by first | assumption | rfl | (simp;done)) | exact Go.AM.take_map.symm) .nil) | ((first | apply Go.AM.Conv.pa | apply Go.AM.Conv.agg);repeat (first | exact .nil | apply Go.AM.PureL.c .refl | apply Go.AM.PureL.c .nl | (apply Go.AM.PureL.hs;rfl;(first | rfl | assumption | simp);(first | rfl | exact Go.AM.take_all (by first | assumption | rfl | (simp;done)) | exact Go.AM.take_map.symm)))))
  (ho:eF (fun p=>∃o,st.h p.1=some o∧Ole (fun i=>i) o p.2) hout:=by repeat (first | exact trivial | refine⟨⟨_,rfl,by first | exact Go.AM.Ole.arr | exact Go.AM.Ole.var rfl | exact Go.AM.Ole.varS rfl⟩,?_⟩))
  (hok:(subset (V.tup [w0,B,I]).refs (keys hout)&&subset (eG hout) (keys hout)&&Go.AM.distinct (keys hout)&&subset (keys hin) (keys hout)&&(hin.all fun p=>p.2.plain)&&(hout.all fun p=>p.2.plain))=true:=by rfl):(Exit.ret=.normal∨Exit.ret=.ret)∧Fin tr.flat fn st hin (.tup [w0,B,I]) hout:=
 ⟨.inr rfl,⟨[v0,v1,v2],[w0,B,I],by rw[hr];exact .cell ha0 (Tr.get_ok trw hi0) hh0 hb0 hv0 (.tmp hu1 (.cell ha2 (Tr.get_ok trw hi2) hh2 hb2 hv2 (.nil))),.cons hc0 (.cons hc1 (.cons hc2 (.nil))),rfl⟩,ho,hok⟩
theorem aJf {J:Nat}{v0 w0:V}{ids0:List Nat}{M:Nat}{v1 u:V}{E:List Nat}{O t2 B q U:Nat}{y:TI}{g:List AM.R}{v2 A:V}{I:List Nat}(hr:fn.results.toList=[.tmp J,.tmp M,.cell O t2]:=by rfl) (Y:st.e J=some v0:=by rfl) (aa:st.e M=some v1:=by rfl) (ab:tr.get t2=some y:=by rfl) (ac:st.e O=some (.one (.vp B q)):=by rfl) (ad:st.h B=some (.var U g):=by rfl) (ae:Nat.ble (q+y.size) g.length=true:=by rfl) (af:iU y ((g.drop q).take y.size)=some v2:=by rfl)
  (ag:Conv st.h ids0 v0 w0:=by first | exact .refl | exact .one (.c .nl .nil) | exact .one (.hs rfl (by first | rfl | assumption | simp) (by first | rfl | exact Go.AM.take_all (by first | assumption | rfl | (simp;done)) | exact Go.AM.take_map.symm) .nil) | ((first | apply Go.AM.Conv.pa | apply Go.AM.Conv.agg);repeat (first | exact .nil | apply Go.AM.PureL.c .refl | apply Go.AM.PureL.c .nl | (apply Go.AM.PureL.hs;rfl;(first | rfl | assumption | simp);(first | rfl | exact Go.AM.take_all (by first | assumption | rfl | (simp;done)) | exact Go.AM.take_map.symm))))) (ah:Conv st.h E v1 u:=by first | exact .refl | exact .one (.c .nl .nil) | exact .one (.hs rfl (by first | rfl | assumption | simp) (by first | rfl | exact Go.AM.take_all (by first | assumption | rfl | (simp;done)) | exact Go.AM.take_map.symm) .nil) | ((first | apply Go.AM.Conv.pa | apply Go.AM.Conv.agg);repeat (first | exact .nil | apply Go.AM.PureL.c .refl | apply Go.AM.PureL.c .nl | (apply Go.AM.PureL.hs;rfl;(first | rfl | assumption | simp);(first | rfl | exact Go.AM.take_all (by first | assumption | rfl | (simp;done)) | exact Go.AM.take_map.symm))))) (ai:Conv st.h I v2 A:=by first | exact .refl | exact .one (.c .nl .nil) | exact .one (.hs rfl (by first | rfl | assumption | simp) (by first | rfl | exact Go.AM.take_all (by first | assumption | rfl | (simp;done)) | exact Go.AM.take_map.symm) .nil) | ((first | apply Go.AM.Conv.pa | apply Go.AM.Conv.agg);repeat (first | exact .nil | apply Go.AM.PureL.c .refl | apply Go.AM.PureL.c .nl | (apply Go.AM.PureL.hs;rfl;(first | rfl | assumption | simp);(first | rfl | exact Go.AM.take_all (by first | assumption | rfl | (simp;done)) | exact Go.AM.take_map.symm)))))
  (ho:eF (fun p=>∃o,st.h p.1=some o∧Ole (fun i=>i) o p.2) hout:=by repeat (first | exact trivial | refine⟨⟨_,rfl,by first | exact Go.AM.Ole.arr | exact Go.AM.Ole.var rfl | exact Go.AM.Ole.varS rfl⟩,?_⟩))
  (hok:(subset (V.tup [w0,u,A]).refs (keys hout)&&subset (eG hout) (keys hout)&&Go.AM.distinct (keys hout)&&subset (keys hin) (keys hout)&&(hin.all fun p=>p.2.plain)&&(hout.all fun p=>p.2.plain))=true:=by rfl):(Exit.ret=.normal∨Exit.ret=.ret)∧Fin tr.flat fn st hin (.tup [w0,u,A]) hout:=
 ⟨.inr rfl,⟨[v0,v1,v2],[w0,u,A],by rw[hr];exact .tmp Y (.tmp aa (.cell ac (Tr.get_ok trw ab) ad ae af (.nil))),.cons ag (.cons ah (.cons ai (.nil))),rfl⟩,ho,hok⟩
theorem aJe {A:Nat}{v0 w0:V}{ids0:List Nat}{B:Nat}{v1 g:V}{u:List Nat}{E:Nat}{v2 q:V}{y:List Nat}(hr:fn.results.toList=[.tmp A,.tmp B,.tmp E]:=by rfl) (I:st.e A=some v0:=by rfl) (J:st.e B=some v1:=by rfl) (M:st.e E=some v2:=by rfl)
  (O:Conv st.h ids0 v0 w0:=by first | exact .refl | exact .one (.c .nl .nil) | exact .one (.hs rfl (by first | rfl | assumption | simp) (by first | rfl | exact Go.AM.take_all (by first | assumption | rfl | (simp;done)) | exact Go.AM.take_map.symm) .nil) | ((first | apply Go.AM.Conv.pa | apply Go.AM.Conv.agg);repeat (first | exact .nil | apply Go.AM.PureL.c .refl | apply Go.AM.PureL.c .nl | (apply Go.AM.PureL.hs;rfl;(first | rfl | assumption | simp);(first | rfl | exact Go.AM.take_all (by first | assumption | rfl | (simp;done)) | exact Go.AM.take_map.symm))))) (U:Conv st.h u v1 g:=by first | exact .refl | exact .one (.c .nl .nil) | exact .one (.hs rfl (by first | rfl | assumption | simp) (by first | rfl | exact Go.AM.take_all (by first | assumption | rfl | (simp;done)) | exact Go.AM.take_map.symm) .nil) | ((first | apply Go.AM.Conv.pa | apply Go.AM.Conv.agg);repeat (first | exact .nil | apply Go.AM.PureL.c .refl | apply Go.AM.PureL.c .nl | (apply Go.AM.PureL.hs;rfl;(first | rfl | assumption | simp);(first | rfl | exact Go.AM.take_all (by first | assumption | rfl | (simp;done)) | exact Go.AM.take_map.symm))))) (Y:Conv st.h y v2 q:=by first | exact .refl | exact .one (.c .nl .nil) | exact .one (.hs rfl (by first | rfl | assumption | simp) (by first | rfl | exact Go.AM.take_all (by first | assumption | rfl | (simp;done)) | exact Go.AM.take_map.symm) .nil) | ((first | apply Go.AM.Conv.pa | apply Go.AM.Conv.agg);repeat (first | exact .nil | apply Go.AM.PureL.c .refl | apply Go.AM.PureL.c .nl | (apply Go.AM.PureL.hs;rfl;(first | rfl | assumption | simp);(first | rfl | exact Go.AM.take_all (by first | assumption | rfl | (simp;done)) | exact Go.AM.take_map.symm)))))
  (ho:eF (fun p=>∃o,st.h p.1=some o∧Ole (fun i=>i) o p.2) hout:=by repeat (first | exact trivial | refine⟨⟨_,rfl,by first | exact Go.AM.Ole.arr | exact Go.AM.Ole.var rfl | exact Go.AM.Ole.varS rfl⟩,?_⟩))
  (hok:(subset (V.tup [w0,g,q]).refs (keys hout)&&subset (eG hout) (keys hout)&&Go.AM.distinct (keys hout)&&subset (keys hin) (keys hout)&&(hin.all fun p=>p.2.plain)&&(hout.all fun p=>p.2.plain))=true:=by rfl):(Exit.ret=.normal∨Exit.ret=.ret)∧Fin tr.flat fn st hin (.tup [w0,g,q]) hout:=
 ⟨.inr rfl,⟨[v0,v1,v2],[w0,g,q],by rw[hr];exact .tmp I (.tmp J (.tmp M (.nil))),.cons O (.cons U (.cons Y (.nil))),rfl⟩,ho,hok⟩
theorem aN5 {a0 t0 B q J:Nat}{u:TI}{g:List AM.R}{v0 w0:V}{ids0:List Nat}{M:Nat}{v1 y:V}{E:List Nat}{O:Nat}{v2 A:V}{I:List Nat}(hr:fn.results.toList=[.cell a0 t0,.tmp M,.tmp O]:=by rfl) (U:tr.get t0=some u:=by rfl) (Y:st.e a0=some (.one (.vp B q)):=by rfl) (aa:st.h B=some (.var J g):=by rfl) (ab:Nat.ble (q+u.size) g.length=true:=by rfl) (ac:iU u ((g.drop q).take u.size)=some v0:=by rfl) (ad:st.e M=some v1:=by rfl) (ae:st.e O=some v2:=by rfl)
  (af:Conv st.h ids0 v0 w0:=by first | exact .refl | exact .one (.c .nl .nil) | exact .one (.hs rfl (by first | rfl | assumption | simp) (by first | rfl | exact Go.AM.take_all (by first | assumption | rfl | (simp;done)) | exact Go.AM.take_map.symm) .nil) | ((first | apply Go.AM.Conv.pa | apply Go.AM.Conv.agg);repeat (first | exact .nil | apply Go.AM.PureL.c .refl | apply Go.AM.PureL.c .nl | (apply Go.AM.PureL.hs;rfl;(first | rfl | assumption | simp);(first | rfl | exact Go.AM.take_all (by first | assumption | rfl | (simp;done)) | exact Go.AM.take_map.symm))))) (ag:Conv st.h E v1 y:=by first | exact .refl | exact .one (.c .nl .nil) | exact .one (.hs rfl (by first | rfl | assumption | simp) (by first | rfl | exact Go.AM.take_all (by first | assumption | rfl | (simp;done)) | exact Go.AM.take_map.symm) .nil) | ((first | apply Go.AM.Conv.pa | apply Go.AM.Conv.agg);repeat (first | exact .nil | apply Go.AM.PureL.c .refl | apply Go.AM.PureL.c .nl | (apply Go.AM.PureL.hs;rfl;(first | rfl | assumption | simp);(first | rfl | exact Go.AM.take_all (by first | assumption | rfl | (simp;done)) | exact Go.AM.take_map.symm))))) (ah:Conv st.h I v2 A:=by first | exact .refl | exact .one (.c .nl .nil) | exact .one (.hs rfl (by first | rfl | assumption | simp) (by first | rfl | exact Go.AM.take_all (by first | assumption | rfl | (simp;done)) | exact Go.AM.take_map.symm) .nil) | ((first | apply Go.AM.Conv.pa | apply Go.AM.Conv.agg);repeat (first | exact .nil | apply Go.AM.PureL.c .refl | apply Go.AM.PureL.c .nl | (apply Go.AM.PureL.hs;rfl;(first | rfl | assumption | simp);(first | rfl | exact Go.AM.take_all (by first | assumption | rfl | (simp;done)) | exact Go.AM.take_map.symm)))))
  (ho:eF (fun p=>∃o,st.h p.1=some o∧Ole (fun i=>i) o p.2) hout:=by repeat (first | exact trivial | refine⟨⟨_,rfl,by first | exact Go.AM.Ole.arr | exact Go.AM.Ole.var rfl | exact Go.AM.Ole.varS rfl⟩,?_⟩))
  (hok:(subset (V.tup [w0,y,A]).refs (keys hout)&&subset (eG hout) (keys hout)&&Go.AM.distinct (keys hout)&&subset (keys hin) (keys hout)&&(hin.all fun p=>p.2.plain)&&(hout.all fun p=>p.2.plain))=true:=by rfl):(Exit.ret=.normal∨Exit.ret=.ret)∧Fin tr.flat fn st hin (.tup [w0,y,A]) hout:=
 ⟨.inr rfl,⟨[v0,v1,v2],[w0,y,A],by rw[hr];exact .cell Y (Tr.get_ok trw U) aa ab ac (.tmp ad (.tmp ae (.nil))),.cons af (.cons ag (.cons ah (.nil))),rfl⟩,ho,hok⟩
theorem aWy {u:Nat}{v0 w0:V}{ids0:List Nat}{y:Nat}{v1 g:V}{q:List Nat}(J:fn.results.toList=[.tmp u,.tmp y]:=by rfl) (A:st.e u=some v0:=by rfl) (B:st.e y=some v1:=by rfl)
  (E:Conv st.h ids0 v0 w0:=by first | exact .refl | exact .one (.c .nl .nil) | exact .one (.hs rfl (by first | rfl | assumption | simp) (by first | rfl | exact Go.AM.take_all (by first | assumption | rfl | (simp;done)) | exact Go.AM.take_map.symm) .nil) | ((first | apply Go.AM.Conv.pa | apply Go.AM.Conv.agg);repeat (first | exact .nil | apply Go.AM.PureL.c .refl | apply Go.AM.PureL.c .nl | (apply Go.AM.PureL.hs;rfl;(first | rfl | assumption | simp);(first | rfl | exact Go.AM.take_all (by first | assumption | rfl | (simp;done)) | exact Go.AM.take_map.symm))))) (I:Conv st.h q v1 g:=by first | exact .refl | exact .one (.c .nl .nil) | exact .one (.hs rfl (by first | rfl | assumption | simp) (by first | rfl | exact Go.AM.take_all (by first | assumption | rfl | (simp;done)) | exact Go.AM.take_map.symm) .nil) | ((first | apply Go.AM.Conv.pa | apply Go.AM.Conv.agg);repeat (first | exact .nil | apply Go.AM.PureL.c .refl | apply Go.AM.PureL.c .nl | (apply Go.AM.PureL.hs;rfl;(first | rfl | assumption | simp);(first | rfl | exact Go.AM.take_all (by first | assumption | rfl | (simp;done)) | exact Go.AM.take_map.symm)))))
  (ho:eF (fun p=>∃o,st.h p.1=some o∧Ole (fun i=>i) o p.2) hout:=by repeat (first | exact trivial | refine⟨⟨_,rfl,by first | exact Go.AM.Ole.arr | exact Go.AM.Ole.var rfl | exact Go.AM.Ole.varS rfl⟩,?_⟩))
  (hok:(subset (V.tup [w0,g]).refs (keys hout)&&subset (eG hout) (keys hout)&&Go.AM.distinct (keys hout)&&subset (keys hin) (keys hout)&&(hin.all fun p=>p.2.plain)&&(hout.all fun p=>p.2.plain))=true:=by rfl):(Exit.ret=.normal∨Exit.ret=.ret)∧Fin tr.flat fn st hin (.tup [w0,g]) hout:=
 ⟨.inr rfl,⟨[v0,v1],[w0,g],by rw[J];exact .tmp A (.tmp B (.nil)),.cons E (.cons I (.nil)),rfl⟩,ho,hok⟩
theorem oD {a0 t0 A q E:Nat}{u:TI}{g:List AM.R}{v0 w0:V}{ids0:List Nat}{I:Nat}{v1 y:V}{B:List Nat}(hr:fn.results.toList=[.cell a0 t0,.tmp I]:=by rfl) (J:tr.get t0=some u:=by rfl) (M:st.e a0=some (.one (.vp A q)):=by rfl) (O:st.h A=some (.var E g):=by rfl) (U:Nat.ble (q+u.size) g.length=true:=by rfl) (Y:iU u ((g.drop q).take u.size)=some v0:=by rfl) (aa:st.e I=some v1:=by rfl)
  (ab:Conv st.h ids0 v0 w0:=by first | exact .refl | exact .one (.c .nl .nil) | exact .one (.hs rfl (by first | rfl | assumption | simp) (by first | rfl | exact Go.AM.take_all (by first | assumption | rfl | (simp;done)) | exact Go.AM.take_map.symm) .nil) | ((first | apply Go.AM.Conv.pa | apply Go.AM.Conv.agg);repeat (first | exact .nil | apply Go.AM.PureL.c .refl | apply Go.AM.PureL.c .nl | (apply Go.AM.PureL.hs;rfl;(first | rfl | assumption | simp);(first | rfl | exact Go.AM.take_all (by first | assumption | rfl | (simp;done)) | exact Go.AM.take_map.symm))))) (ac:Conv st.h B v1 y:=by first | exact .refl | exact .one (.c .nl .nil) | exact .one (.hs rfl (by first | rfl | assumption | simp) (by first | rfl | exact Go.AM.take_all (by first | assumption | rfl | (simp;done)) | exact Go.AM.take_map.symm) .nil) | ((first | apply Go.AM.Conv.pa | apply Go.AM.Conv.agg);repeat (first | exact .nil | apply Go.AM.PureL.c .refl | apply Go.AM.PureL.c .nl | (apply Go.AM.PureL.hs;rfl;(first | rfl | assumption | simp);(first | rfl | exact Go.AM.take_all (by first | assumption | rfl | (simp;done)) | exact Go.AM.take_map.symm)))))
  (ho:eF (fun p=>∃o,st.h p.1=some o∧Ole (fun i=>i) o p.2) hout:=by repeat (first | exact trivial | refine⟨⟨_,rfl,by first | exact Go.AM.Ole.arr | exact Go.AM.Ole.var rfl | exact Go.AM.Ole.varS rfl⟩,?_⟩))
  (hok:(subset (V.tup [w0,y]).refs (keys hout)&&subset (eG hout) (keys hout)&&Go.AM.distinct (keys hout)&&subset (keys hin) (keys hout)&&(hin.all fun p=>p.2.plain)&&(hout.all fun p=>p.2.plain))=true:=by rfl):(Exit.ret=.normal∨Exit.ret=.ret)∧Fin tr.flat fn st hin (.tup [w0,y]) hout:=
 ⟨.inr rfl,⟨[v0,v1],[w0,y],by rw[hr];exact .cell M (Tr.get_ok trw J) O U Y (.tmp aa (.nil)),.cons ab (.cons ac (.nil)),rfl⟩,ho,hok⟩
theorem aEm {a0 t0 I u O:Nat}{A:TI}{g:List AM.R}{v0 w0:V}{ids0:List Nat}{U t1 J y Y:Nat}{B:TI}{q:List AM.R}{v1 E:V}{M:List Nat}(hr:fn.results.toList=[.cell a0 t0,.cell U t1]:=by rfl) (aa:tr.get t0=some A:=by rfl) (ab:st.e a0=some (.one (.vp I u)):=by rfl) (ac:st.h I=some (.var O g):=by rfl) (ad:Nat.ble (u+A.size) g.length=true:=by rfl) (ae:iU A ((g.drop u).take A.size)=some v0:=by rfl) (af:tr.get t1=some B:=by rfl) (ag:st.e U=some (.one (.vp J y)):=by rfl) (ah:st.h J=some (.var Y q):=by rfl) (ai:Nat.ble (y+B.size) q.length=true:=by rfl) (aj:iU B ((q.drop y).take B.size)=some v1:=by rfl)
  (ak:Conv st.h ids0 v0 w0:=by first | exact .refl | exact .one (.c .nl .nil) | exact .one (.hs rfl (by first | rfl | assumption | simp) (by first | rfl | exact Go.AM.take_all (by first | assumption | rfl | (simp;done)) | exact Go.AM.take_map.symm) .nil) | ((first | apply Go.AM.Conv.pa | apply Go.AM.Conv.agg);repeat (first | exact .nil | apply Go.AM.PureL.c .refl | apply Go.AM.PureL.c .nl | (apply Go.AM.PureL.hs;rfl;(first | rfl | assumption | simp);(first | rfl | exact Go.AM.take_all (by first | assumption | rfl | (simp;done)) | exact Go.AM.take_map.symm))))) (al:Conv st.h M v1 E:=by first | exact .refl | exact .one (.c .nl .nil) | exact .one (.hs rfl (by first | rfl | assumption | simp) (by first | rfl | exact Go.AM.take_all (by first | assumption | rfl | (simp;done)) | exact Go.AM.take_map.symm) .nil) | ((first | apply Go.AM.Conv.pa | apply Go.AM.Conv.agg);repeat (first | exact .nil | apply Go.AM.PureL.c .refl | apply Go.AM.PureL.c .nl | (apply Go.AM.PureL.hs;rfl;(first | rfl | assumption | simp);(first | rfl | exact Go.AM.take_all (by first | assumption | rfl | (simp;done)) | exact Go.AM.take_map.symm)))))
  (ho:eF (fun p=>∃o,st.h p.1=some o∧Ole (fun i=>i) o p.2) hout:=by repeat (first | exact trivial | refine⟨⟨_,rfl,by first | exact Go.AM.Ole.arr | exact Go.AM.Ole.var rfl | exact Go.AM.Ole.varS rfl⟩,?_⟩))
  (hok:(subset (V.tup [w0,E]).refs (keys hout)&&subset (eG hout) (keys hout)&&Go.AM.distinct (keys hout)&&subset (keys hin) (keys hout)&&(hin.all fun p=>p.2.plain)&&(hout.all fun p=>p.2.plain))=true:=by rfl):(Exit.ret=.normal∨Exit.ret=.ret)∧Fin tr.flat fn st hin (.tup [w0,E]) hout:=
 ⟨.inr rfl,⟨[v0,v1],[w0,E],by rw[hr];exact .cell ab (Tr.get_ok trw aa) ac ad ae (.cell ag (Tr.get_ok trw af) ah ai aj (.nil)),.cons ak (.cons al (.nil)),rfl⟩,ho,hok⟩
end
def nZ (L:List Tk):Prop:=∀t∈L,t.kind=4→t.n=0
theorem wC (t:Tk) (s:Str) (h:t.kind=4→t.n=0):aV Tryz.prog 209 [tkV t,Go.AM.T s] [] (B (isT t s)) []:=by
 have e:aM7 [.int .i64 t.kind,.str t.text,.int .i64 t.n,.int .i64 0] [.int .i64 4,.str s,.int .i64 0,.int .i64 0]=isT t s:=by
  unfold isT;simp only[aM7,ceq,decide_true,Bool.and_true];by_cases g:t.kind=4
  ·rw[h g];simp
  ·rw[ψ g];rfl
 rw[←e];refine bF (n:=10) tok Tryz.func209 rfl rfl rfl ?_;refine sg rfl (sg rfl (sk 3 rfl (k_ (g_ rfl rfl (rV tok (by unfold aL8;kernel_rfl) rfl rfl (by decide) (tg rfl) rfl rfl rfl rfl)) ?_)));exact kz 1 rfl (aF rtT)
theorem mL (t:Tk) (e:Int):aV Tryz.prog 211 [tkV t,I .i64 e] [] (atV e t.pl) []:=by
 refine bF (n:=9) tok Tryz.func211 rfl rfl rfl ?_;exact sg rfl (sg rfl (aF (rtC trw)))
theorem yU {t:Ty}(h:wfS t=true):aV Tryz.prog 232 [tyV t] [] (tyV t) []:=aGz _ t (le_refl _) h
theorem aNd (a b:Ty) (ha:wfS a=true) (hb:wfS b=true):aV Tryz.prog 229 [tyV a,.one (.c (.sl 4 [cF b]))] [] (tyV (qA a b)) []:=by
 have h1:=yU ha;have h2:=yU hb;have y:=tB a b;refine bF (n:=22) tok Tryz.func229 rfl rfl rfl ?_;refine sg rfl (sk 1 rfl (kc h1 ?_));refine kz 2 rfl (aA (sg rfl (aE (aL (fun i:Nat=>mk [(4,.one (.vp 4 0)),(5,.one (.vp 5 0)),(10,.one (.c (.sl 4 [cF b]))),(11,I .i64 1),(12,I .i64 i)] [(4,.var 31 [.c (.int .i64 0),.c (.int .i64 0),.c (.str []),.c .nl]),(5,.var 31 ((cF (if i=0 then a else qA a b)).map .c))]) (fun i=>i≤1) (fun i=>1-i) 0 (Ad _) sl ?_))));intro i hi;refine sg rfl (aA (aB rfl (fun g=>?_) (fun g=>?_)))
 ·have q:i=0:=by
   have:(i:Int)<1:=κ g;omega
  subst q;rw[θ rfl];refine aD (aA (aE (sgh [(0,.row 0 (cF b))] rfl (aC mixed (ak 2 [] rfl (kc h2 ?_))))));refine kc y ?_;exact kz 1 rfl (ag [] rfl ⟨1,le_refl _,by dsimp only;omega,sl⟩)
 have u:i=1:=by
  have:¬(i:Int)<1:=Ae g;omega
 subst u;exact aG (sg rfl (aF (rtC trw)))
theorem aUd (a b:Ty) (ha:aV Tryz.prog 232 [tyV a] [] (tyV a) []) (hb:aV Tryz.prog 232 [tyV b] [] (tyV b) []):aV Tryz.prog 230 [tyV b,.one (.c (.sl 4 [cF a]))] [] (tyV (aIn a b)) []:=by
 have h1:=aGt arrow;have h2:=tB (.mk 3 0 arrow []) a;have y:=tB (qA (.mk 3 0 arrow []) a) b;refine bF (n:=29) tok Tryz.func230 rfl rfl rfl ?_;refine sg rfl (sgh [(1,.pc (tyV b))] rfl (aA (sg rfl (aE (aL (fun i:Nat=>mk [(1,.one (.c (.sl 4 [cF a]))),(4,.one (.vp 4 0)),(5,.one (.vp 5 0)),(10,I .i64 1),(11,I .i64 i)] [(4,.var 31 [.c (.int .i64 0),.c (.int .i64 0),.c (.str []),.c .nl]),(5,.var 31 ((cF (if i=0 then b else aIn a b)).map .c))]) (fun i=>i≤1) (fun i=>1-i) 0 (Ad _) sl ?_)))));intro i hi;refine sg rfl (aA (aB rfl (fun g=>?_) (fun g=>?_)))
 ·have q:i=0:=by
   have:(i:Int)<1:=κ g;omega
  subst q;rw[θ rfl];refine aD (aA (aE (sg rfl (aC mixed (kc h1 ?_)))));refine ak 8 [(7,.row 0 (cF a))] rfl (kc ha ?_);refine kc h2 ?_;refine ak 1 [] rfl (kc y ?_);exact kz 1 rfl (ag [] rfl ⟨1,le_refl _,by dsimp only;omega,sl⟩)
 have u:i=1:=by
  have:¬(i:Int)<1:=Ae g;omega
 subst u;rw[ξ (by omega)];exact aG (sg rfl (aF (rtC trw)))
def tpV (L:List Tk):TR→V
 | .ok (x,R)=>.tup [tyV x,I .i64 ((L.length-R.length:Nat):Int),atV 0 0]
 | .error (e,p)=>.tup [tyV zTy,I .i64 0,atV e p]
theorem j5 (L:List Tk) (x:Ty) (R:List Tk):tpV L (.ok (x,R))=.tup [tyV x,I .i64 ((L.length-R.length:Nat):Int),atV 0 0]:=rfl
def aIm (L:List Tk) (f:Nat):Prop:=∀(o:Nat) (R:List Tk) (i:Nat),At L i R→3*R.length≤f→o≤40→aV Tryz.prog 207 [nM L,I .i64 (i:Nat),I .i64 (o:Nat)] [] (tpV L (cM f o R)) []
def aBv (L:List Tk) (f:Nat):Prop:=∀(o:Nat) (R:List Tk) (i:Nat),At L i R→3*R.length+2≤f→o≤40→aV Tryz.prog 224 [nM L,I .i64 (i:Nat),I .i64 (o:Nat)] [] (tpV L (c8 f o R)) []
theorem At.mem {L:List Tk}{i:Nat}{t:Tk}{R:List Tk}(h:At L i (t::R)):t∈L:=Ag h.get
theorem aQk (L:List Tk) (hZ:nZ L) (f:Nat) (ih:aBv L f):aIm L (f+1):=by
 intro o R i g hf ho;have hkl:(L.map aI).length=L.length:=χ _;have hLl:=g.l;obtain⟨t,R,rfl⟩:=g.e.ne;have O:=g.lt;have U:=g.get;have hti':=bB aI U;rw[Aa] at O hf;rw[cM];refine bF (n:=83) tok Tryz.func207 rfl rfl rfl ?_;refine sg rfl (aA (sgh [(2,.row i (aI t))] rfl ?_));have hz:t.kind=4→t.n=0:=hZ t g.mem;have Y:=wC t cE hz;have aa:=mL t 12;have ab:=mL t 13;have E:=aGt t.text;have I:=aPp t.text;refine aE (sg rfl (aB rfl (fun hb=>?_) (fun hb=>?_)))
 ·have h2:t.kind=2:=κ hb;rw[θ h2];obtain⟨_,hn⟩:=g.next (by omega)
  rw[j5,hn];refine aA (aC mixed (akN 2 [] rfl (kc E ?_)));exact akN 6 [] rfl (az (aF iP))
 rw[ξ (Ae hb)];refine sg rfl (aB rfl (fun hb=>?_) (fun hb=>?_))
 ·have h1:t.kind=1:=κ hb;rw[θ h1];obtain⟨_,hn⟩:=g.next (by omega)
  rw[j5,hn];refine aA (aC mixed (akN 2 [] rfl (kc I ?_)));exact akN 6 [] rfl (az (aF iP))
 rw[ξ (Ae hb)];refine sk 1 rfl (kc Y ?_);refine kz 2 rfl ?_;cases hl:isT t cE with
 | false=>
  rw[θ rfl];refine aB rfl (fun _=>sk 2 rfl (kc aa ?_)) (fun hb=>absurd hb (by decide));exact kz 3 rfl (aF iP)
 | true=>
 rw[ξ (by decide)];refine aB rfl (fun hb=>absurd hb (by decide)) (fun _=>sg rfl (aB rfl (fun hb=>?_) (fun hb=>?_)))
 ·rw[θ (by have:=κ hb;omega)];refine sk 2 rfl (kc ab ?_);exact kz 3 rfl (aF iP)
 have J:¬40≤o:=by have:=Ae hb;omega
 rw[ξ J];refine aD ?_;obtain⟨B,_⟩:=g.next (by rw[(bV hl).1];decide)
 have ac:=ih (o+1) R (i+1) B (by omega) (by omega);have hok:=fB f (o+1) R;have A:=dT f (o+1) R;refine aA (aC mixed (akN 5 [] rfl (kc ac ?_)));generalize c8 f (o+1) R=w at hok A ⊢;cases w with
 | error e=>
  obtain⟨e,p⟩:=e;have he:=A e p rfl;unfold tpV atV;refine akN 9 [] rfl (az ?_);rw[lW];exact aA (aE (sg rfl (aB rfl (fun _=>sg rfl (aF iP)) (fun hb=>absurd hb (by simp[he])))))
 | ok y=>
  obtain⟨x,R1⟩:=y;obtain⟨hT,_⟩:=hok x R1 rfl;obtain⟨q,hle⟩:=B.ok hT;obtain⟨u,R3,rfl⟩:=q.e.ne;rw[j5];generalize L.length-(u::R3).length=j at *;have ad:=q.get;have huj':=bB aI ad;have hj:=q.lt;rw[Aa] at hj;have M:=wC u lX (hZ u q.mem);have ae:=mL u 12;refine kz 9 rfl (aA (aE (sg rfl (aB rfl (fun hb=>absurd hb (by decide)) (fun _=>skh 4 [(2,.row j (aI u))] rfl (kc M ?_))))));refine kz 2 rfl ?_;rw[lW];cases hr:isT u lX with
  | false=>
   rw[ξ (by decide)];refine aB rfl (fun _=>skh 5 [(3,.row j (aI u))] rfl (kc ae ?_)) (fun hb=>absurd hb (by decide));exact kz 3 rfl (aF iP)
  | true=>
   rw[θ rfl];obtain⟨_,hn⟩:=q.next (by rw[(bV hr).1];decide)
   rw[j5,hn];exact aB rfl (fun hb=>absurd hb (by decide)) (fun _=>aD (aA (agN [] rfl (aF iP))))
theorem aT9 (t:Tk) (g:t.kind=4→t.n=0):aV Tryz.prog 228 [tkV t] [] (B (aIr t)) []:=by
 have hi:=wC t cE g;unfold aIr;refine bF (n:=15) tok Tryz.func228 rfl rfl rfl ?_;refine sg rfl ?_;by_cases h2:t.kind=2
 ·have d1:decide (t.kind=1)=false:=ψ (by omega);have d2:decide (t.kind=2)=true:=φ h2;rw[d1,d2];exact sgh [(3,.bv true),(7,.bv true),(8,.bv true),(11,.bv true)] rfl (aF rtT)
 have d2:decide (t.kind=2)=false:=ψ h2;by_cases h1:t.kind=1
 ·have d1:decide (t.kind=1)=true:=φ h1;rw[d1];exact sgh [(3,.bv false),(7,.bv false),(8,.bv true),(11,.bv true)] rfl (aF rtT)
 ·have d1:decide (t.kind=1)=false:=ψ h1;rw[d1,d2,B4,B4];refine skh 10 [(3,.bv false),(7,.bv false),(8,.bv false)] rfl (kcG hi ?_);exact ak 2 [(8,.bv false),(11,.bv false)] rfl (az (aF rtT))
theorem aQd (L:List Tk) (hZ:nZ L) (f:Nat) (ab:∀g,g≤f→aIm L g) (ac:∀g,g≤f→aBv L g):aBv L (f+1):=by
 intro o R i Y hf ho;have hkl:(L.map aI).length=L.length:=χ _;have hLl:=Y.l;have M:=ab f (le_refl _) o R i Y (by omega) ho;have hok:=gQ f o R;have B:=eM f o R;have ad:=Y.lt;have key:∃W:TR,W=c8 (f+1) o R:=⟨_,rfl⟩
 obtain⟨W,A⟩:=key;rw[←A];rw[c8] at A;refine bF (n:=80) tok Tryz.func224 rfl rfl rfl ?_;refine sg rfl (sg rfl (sk 3 rfl (kc M ?_)));have O:∀(x:Ty) (j e p:Int) (R1:List Tk) (g:Nat),((e=0∧p=0∧j=((L.length-R1.length:Nat):Int)∧At L (L.length-R1.length) R1∧WF x∧3*R1.length+1≤g∧g≤f∧W=iI g o x R1)∨(¬e=0∧W=.error (e,p)))→
   AWp none Tryz.prog 80 (keys ([]:List (Nat×AObj))) (jI (jI (jI (Tryz.f224.body.getD .skip)))) (mk [(0,nM L),(1,I .i64 j),(2,I .i64 (o:Nat)),(6,.one (.vp 6 0)),(8,.one (.vp 8 0)),(9,.one (.clo 228 [])),(10,.one (.vp 10 0)),(11,.one (.vp 11 0))] [(6,.var 31 [.c (.int .i64 0),.c (.int .i64 0),.c (.str []),.c .nl]),(8,.var 38 [.c (.int .i64 0),.c (.int .i64 0)]),(10,.var 31 ((cF x).map .c)),(11,.var 38 [.c (.int .i64 e),.c (.int .i64 p)])]) (fun ex st=>(ex=.normal∨ex=.ret)∧Fin tr.flat Tryz.f224 st [] (tpV L W) []):=by
  clear M hok B A ad Y hf;intro x j e p R1 g hinv;refine aA (aE (aL (fun q:Ty×Int×Int×Int×List Tk×Nat=>mk [(0,nM L),(1,I .i64 q.2.1),(2,I .i64 (o:Nat)),(6,.one (.vp 6 0)),(8,.one (.vp 8 0)),(9,.one (.clo 228 [])),(10,.one (.vp 10 0)),(11,.one (.vp 11 0))] [(6,.var 31 [.c (.int .i64 0),.c (.int .i64 0),.c (.str []),.c .nl]),(8,.var 38 [.c (.int .i64 0),.c (.int .i64 0)]),(10,.var 31 ((cF q.1).map .c)),(11,.var 38 [.c (.int .i64 q.2.2.1),.c (.int .i64 q.2.2.2.1)])]) (fun q=>(q.2.2.1=0∧q.2.2.2.1=0∧q.2.1=((L.length-q.2.2.2.2.1.length:Nat):Int)∧At L (L.length-q.2.2.2.2.1.length) q.2.2.2.2.1∧WF q.1∧3*q.2.2.2.2.1.length+1≤q.2.2.2.2.2∧q.2.2.2.2.2≤f∧W=iI q.2.2.2.2.2 o q.1 q.2.2.2.2.1)∨(¬q.2.2.1=0∧W=.error (q.2.2.1,q.2.2.2.1))) (fun q=>if q.2.2.1=0 then q.2.2.2.2.2 else 0) (x,j,e,p,R1,g) hinv sl ?_));clear hinv;rintro⟨x,j,e,p,R1,g⟩ hinv;dsimp only at hinv ⊢;rcases hinv with⟨he,hp,hj,E,U,hg,hgf,A⟩ | ⟨he,A⟩
  case inr=>
   have de:decide (e=0)=false:=ψ he;refine aA (sgh [(3,.bv false),(10,.bv false)] rfl (aB rfl (fun hb=>absurd hb (by decide)) (fun _=>aG ?_)));rw[A];unfold tpV atV;exact aA (sg rfl (aB rfl (fun _=>sg rfl (aF iP)) (fun hb=>absurd hb (by simp[he]))))
  subst he hp hj;obtain⟨u,R2,rfl⟩:=E.e.ne;obtain⟨g,rfl⟩:∃h,g=h+1:=⟨g-1,by omega⟩
  have ae:=E.get;have huj':=bB aI ae;have hlt:=E.lt;have hz:=hZ u E.mem;have hbu:=aT9 u hz;rw[iI] at A;refine aA (skh 9 [(3,.bv true),(7,.row (L.length-(u::R2).length) (aI u))] rfl (kvG (caps:=[]) (args:=[tkV u]) (hin:=[]) (hout:=[]) hbu ?_));refine ak 1 [(3,.bv true),(10,.bv true)] rfl (az (aB rfl (fun hb=>?_) (fun hb=>?_)))
  ·have hb:aIr u=true:=hb;rw[θ hb] at A;have M:=ab g (by omega) o (u::R2) _ E (by omega) ho;have hok:=gQ g o (u::R2);have B:=eM g o (u::R2);refine aD (aE (sg rfl (sk 3 rfl (kc M ?_))));generalize cM g o (u::R2)=w at hok B A ⊢;cases w with
   | error e=>
    obtain⟨e,p⟩:=e;have he:=B e p rfl;have aa:=aNd x zTy U.1 rfl;dsimp only at A;unfold tpV atV;refine kz 7 rfl (aC mixed (ak 3 [(2,.all)] rfl (kc aa ?_)));exact kz 1 rfl ⟨(qA x zTy,0,e,p,[],0),.inr ⟨he,A⟩,by dsimp only;rw[ξ he,θ rfl];omega,sl⟩
   | ok y=>
    obtain⟨a,R3⟩:=y;obtain⟨J,_⟩:=hok a R3 rfl;obtain⟨hA3,hle⟩:=E.ok J;have hlen:=J.len;have aa:=aNd x a U.1 J.w.1;dsimp only at A;rw[j5];unfold atV;refine kz 7 rfl (aC mixed (ak 3 [(2,.all)] rfl (kc aa ?_)));exact kz 1 rfl ⟨(qA x a,((L.length-R3.length:Nat):Int),0,0,R3,g),.inl ⟨rfl,rfl,rfl,hA3,tW U J.w,by dsimp only;omega,by dsimp only;omega,A⟩,by dsimp only;rw[θ rfl,θ rfl];omega,sl⟩
  ·have hb:aIr u=false:=hb;rw[ξ (by rw[hb];decide)] at A;have hIs:=wC u arrow hz;refine aG (aA (sg rfl (aB rfl (fun hb=>absurd hb (by decide)) (fun _=>aD (aA (skh 4 [(2,.row (L.length-(u::R2).length) (aI u))] rfl (kc hIs ?_)))))));refine kz 1 rfl ?_;cases hl:isT u arrow with
   | false=>
    rw[hl,ξ (by decide)] at A;rw[A,j5];exact aB rfl (fun _=>sg rfl (aF iP)) (fun hb=>absurd hb (by decide))
   | true=>
    rw[hl,θ rfl] at A;obtain⟨hA2,hn⟩:=E.next (by rw[(bV hl).1];decide)
    rw[Aa] at hg;have hty:=ac g (by omega) o R2 _ hA2 (by omega) ho;have hok:=fB g o R2;have B:=dT g o R2;refine aB rfl (fun hb=>absurd hb (by decide)) (fun _=>aD (aA (aC mixed (akN 4 [] rfl (kc hty ?_)))));generalize c8 g o R2=w at hok B A ⊢;cases w with
    | error e=>
     obtain⟨e,p⟩:=e;have he:=B e p rfl;dsimp only at A;rw[A];unfold tpV atV;exact kz 8 rfl (aA (sg rfl (aB rfl (fun _=>sg rfl (aF iP)) (fun hb=>absurd hb (by simp[he])))))
    | ok y=>
     obtain⟨to,R3⟩:=y;obtain⟨J,_⟩:=hok to R3 rfl;dsimp only at A;rw[A,j5,j5];have hfu:=aUd x to (yU U.1) (yU J.w.1);unfold atV;refine kz 8 rfl (aA (sg rfl (aB rfl (fun hb=>absurd hb (by decide)) (fun _=>aD (skh 3 [(2,.all)] rfl (kc hfu ?_))))));exact kz 5 rfl (aF iP)
 generalize cM f o R=w at hok B A ⊢;cases w with
 | error e=>
  obtain⟨e,p⟩:=e;unfold tpV atV;exact kz 9 rfl (AWp.sub sl (O zTy 0 e p [] 0 (.inr ⟨B e p rfl,A⟩)))
 | ok y=>
  obtain⟨x,R1⟩:=y;obtain⟨J,_⟩:=hok x R1 rfl;obtain⟨E,hle⟩:=Y.ok J;have hlen:=J.len;rw[j5];unfold atV;exact kz 9 rfl (AWp.sub sl (O x _ 0 0 R1 f (.inl ⟨rfl,rfl,rfl,E,J.w,by omega,le_refl _,A⟩)))
theorem aD2 (L:List Tk) (hZ:nZ L):∀f,(∀g,g≤f→aIm L g)∧∀g,g≤f→aBv L g:=by
 intro f
 induction f with
 | zero=>
  refine⟨fun g u o R i y A=>?_,fun g u o R i y A=>?_⟩
  ·have:=y.lt;omega
  ·have:=y.lt;omega
 | succ f q=>
  refine⟨fun g u=>?_,fun g u=>?_⟩
  ·by_cases h:g≤f
   ·exact q.1 g h
   ·rw[show g=f+1 by omega];exact aQk L hZ f (q.2 f (le_refl _))
  ·by_cases h:g≤f
   ·exact q.2 g h
   ·rw[show g=f+1 by omega];exact aQd L hZ f q.1 q.2
def aUx (L:List Tk) (o:Nat):List Tk→V
 | []=>.tup [.pa (aR ⟨[],zTy⟩),I .i64 0,B false]
 | t::R=>if t.kind=2 then(match cM (3*R.length) o R with
   | .error _=>.tup [.pa (aR ⟨t.text,zTy⟩),I .i64 0,B false]
   | .ok (x,R2)=>.tup [.pa (aR ⟨t.text,x⟩),I .i64 ((L.length-R2.length:Nat):Int),B true])
  else .tup [.pa (aR ⟨[],zTy⟩),I .i64 0,B false]
theorem aG4 (L:List Tk) (hZ:nZ L) (o:Nat) (ho:o≤40) (R:List Tk) (i:Nat) (g:At L i R):aV Tryz.prog 208 [nM L,I .i64 (i:Nat),I .i64 (o:Nat)] [] (aUx L o R) []:=by
 have O:(L.map aI).length=L.length:=χ _;have U:=g.l;obtain⟨t,R,rfl⟩:=g.e.ne;have u:=g.lt;have A:=g.get;have J:=bB aI A;rw[Aa] at u;rw[aUx];refine bF (n:=39) tok Tryz.func208 rfl rfl rfl ?_;refine sg rfl (aA (sgh [(2,.row i (aI t))] rfl ?_));by_cases h2:t.kind=2
 case neg=>
  rw[ξ h2];have d2:(!decide (t.kind=2))=true:=by rw[ψ h2];rfl
  exact aB rfl (fun _=>sg rfl (aF aN5)) (fun hb=>absurd (hb.symm.trans d2) (by decide))
 rw[θ h2];have d2:(!decide (t.kind=2))=false:=by rw[φ h2];rfl
 refine aB rfl (fun hb=>absurd (hb.symm.trans d2) (by decide)) (fun _=>aD ?_);obtain⟨B,_⟩:=g.next (by omega)
 have E:=(aD2 L hZ (3*R.length)).1 (3*R.length) (le_refl _) o R _ B (le_refl _) ho;have q:=eM (3*R.length) o R;refine aA (aC mixed (akN 4 [] rfl (kc E ?_)));generalize cM (3*R.length) o R=w at q ⊢;cases w with
 | error e=>
  obtain⟨e,p⟩:=e;have he:=q e p rfl;have M:decide (e=0)=false:=ψ he;unfold tpV atV;refine kz 9 rfl (sgh [(2,.row i (aI t))] rfl ?_);dsimp only;rw[←M];exact aF aN5
 | ok y=>
  obtain⟨x,R1⟩:=y;unfold tpV atV;exact kz 9 rfl (sgh [(2,.row i (aI t))] rfl (aF aN5))
def aSl (L:List Tk):Option (List Prd×List Tk)→V
 | some (out,u::R2)=>if isT u lX=true then .tup [.one (.c (.sl 5 (out.map aR))),I .i64 ((L.length-R2.length:Nat):Int),B true] else .tup [.one (.c .nl),I .i64 0,B false]
 | _=>.tup [.one (.c .nl),I .i64 0,B false]
theorem aPt (L:List Tk) (hZ:nZ L) (R:List Tk) (i:Nat) (M:At L i R) (F:Nat) (hF:R.length+1≤F):aV Tryz.prog 210 [nM L,I .i64 (i:Nat)] [] (aSl L (gU F true R [])) []:=by
 have hkl:(L.map aI).length=L.length:=χ _;have hLl:=M.l;have ab:=M.lt;have q:∃W,W=gU F true R []:=⟨_,rfl⟩
 obtain⟨W,q⟩:=q;rw[←q];refine bF (n:=42) tok Tryz.func210 rfl rfl rfl ?_;refine sg rfl (sg rfl (AWp.sub (Sub.own (t:=7) (id:=500) 195 5 rfl rfl) ?_));refine aE (aL (fun p:Nat×Nat×List Prd×List Tk=>mk [(0,nM L),(1,I .i64 (p.1:Nat)),(7,.one (.hs 500 0 p.2.2.1.length p.2.2.1.length))] [(500,.arr 195 5 (p.2.2.1.map aR) 0)]) (fun p=>At L p.1 p.2.2.2∧p.2.2.2.length+1≤p.2.1∧p.2.2.1.length+p.2.2.2.length≤4001∧W=gU p.2.1 true p.2.2.2 p.2.2.1) (fun p=>p.2.1) (i,F,[],R) ⟨M,hF,by dsimp only;rw[length_nil];omega,q⟩ sl ?_);clear q M ab hF;rintro⟨j,f,out,Q⟩ ⟨E,hf,Y,q⟩;dsimp only at E hf Y q ⊢;have hout:(out.map aR).length=out.length:=χ _;obtain⟨f,rfl⟩:∃g,f=g+1:=⟨f-1,by omega⟩
 obtain⟨u,Q,rfl⟩:=E.e.ne;have hjl:=E.lt;rw[Aa] at hf Y hjl;have A:=aG4 L hZ 1 (by decide) (u::Q) j E;rw[aUx] at A;rw[gU] at q;by_cases h2:u.kind=2
 case neg=>
  rw[ξ h2] at q A;rw[q];unfold aR at A;refine aE (sk 2 rfl (kc A ?_));exact kz 8 rfl (aA (sg rfl (aB rfl (fun _=>sg rfl (aF aJe)) (fun hb=>absurd hb (by decide)))))
 rw[θ h2] at q A;rw[θ rfl] at q;have hok:=gQ (3*Q.length) 1 Q;obtain⟨hA1,_⟩:=E.next (by omega)
 generalize cM (3*Q.length) 1 Q=w at hok q A;cases w with
 | error e=>
  dsimp only at q A;rw[q];unfold aR at A;refine aE (sk 2 rfl (kc A ?_));exact kz 8 rfl (aA (sg rfl (aB rfl (fun _=>sg rfl (aF aJe)) (fun hb=>absurd hb (by decide)))))
 | ok y=>
 obtain⟨x,R1⟩:=y;obtain⟨hT,_⟩:=hok x R1 rfl;obtain⟨B,hle⟩:=hA1.ok hT;have hlen:=hT.len;obtain⟨v,R2,rfl⟩:=B.e.ne;dsimp only at q A;rw[Cu] at q;have hvj:=B.get;have hvj':=bB aI hvj;have hv2:=B.lt;rw[Aa] at hlen hv2;have hcm:=wC v nT (hZ v B.mem);have hrp:=wC v lX (hZ v B.mem);unfold aR at A;have J:out.map aR++[[.str u.text,.int .i64 x.form,.int .i64 x.n,.str x.name,.sl 4 (dD x)]]=(out++[(⟨u.text,x⟩:Prd)]).map aR:=by rw[Ai];rfl
 generalize hO:out++[(⟨u.text,x⟩:Prd)]=O at q J;have aa:O.length=out.length+1:=by rw[←hO,η];rfl
 generalize L.length-(v::R2).length=k at *;refine aE (sk 2 rfl (kc A ?_));refine kz 8 rfl (aA (sg rfl (aB rfl (fun hb=>absurd hb (by decide)) (fun _=>aD (sgh [(1,.all),(3,.all)] rfl (AWp.sub (st2:=mk [(0,nM L),(1,I .i64 (j:Nat)),(7,.one (.hs 500 0 O.length O.length)),(9,I .i64 (k:Nat))] [(500,.arr 195 5 (O.map aR) 0)]) (sl (he:=⟨rfl,rfl,Go.AM.hs_ren (by rw[aa,←hout];rfl) (by rw[aa,←hout];rfl),rfl,trivial⟩) (hh:=⟨⟨_,rfl,.arrS J⟩,trivial⟩)) ?_))))));refine aA (aE (skh 4 [(2,.row k (aI v))] rfl (kc hrp ?_)));refine kz 1 rfl ?_;have ac:isT v lX=true→isT v nT=false:=fun h=>by
  have h1:=(bV h).2
  unfold isT;rw[h1];cases decide (v.kind=4)<;>rfl
 cases U:isT v lX with
 | true=>
  rw[ξ (by rw[ac U];decide)] at q;rw[q,aSl,θ U];obtain⟨_,hn⟩:=B.next (by rw[(bV U).1];decide)
  rw[hn];refine aB rfl (fun _=>aA (agN [] rfl (AWp.sub (Sub.freeze (id:=500) rfl) ?_))) (fun hb=>absurd hb (by decide));exact aF aJe
 | false=>
  refine aB rfl (fun hb=>absurd hb (by decide)) (fun _=>skh 4 [(2,.row k (aI v))] rfl (kc hcm ?_));refine kz 2 rfl ?_;cases hc:isT v nT with
  | false=>
   rw[hc,ξ (by decide)] at q;rw[q,aSl,ξ (by rw[U];decide)];exact aB rfl (fun _=>sg rfl (aF aJe)) (fun hb=>absurd hb (by decide))
  | true=>
   rw[θ hc] at q;obtain⟨hA3,_⟩:=B.next (by rw[(bV hc).1];decide)
   exact aB rfl (fun hb=>absurd hb (by decide)) (fun _=>aD (agN [] rfl ⟨(k+1,f,O,R2),⟨hA3,by dsimp only;omega,by dsimp only;omega,q⟩,by dsimp only;omega,sl⟩))
def aRb (L:List Tk):PR→V
 | .ok (ps,R)=>.tup [.one (.c (.sl 5 (ps.map aR))),I .i64 ((L.length-R.length:Nat):Int),atV 0 0]
 | .error (e,p)=>.tup [.one (.c .nl),I .i64 0,atV e p]
theorem n9 (L:List Tk) (ps:List Prd) (R:List Tk):aRb L (.ok (ps,R))=.tup [.one (.c (.sl 5 (ps.map aR))),I .i64 ((L.length-R.length:Nat):Int),atV 0 0]:=rfl
theorem tG (L:List Tk) (hZ:nZ L) (R:List Tk) (i:Nat) (E:At L i R):aV Tryz.prog 188 [nM L,I .i64 (i:Nat)] [] (aRb L (cQ R)) []:=by
 have hkl:(L.map aI).length=L.length:=χ _;have hLl:=E.l;have hlt:=E.lt;have ab:L.length-R.length=i:=by omega
 have q:=aG4 L hZ 0 (by decide) R i E;obtain⟨t,R,rfl⟩:=E.e.ne;have hti:=E.get;have hti':=bB aI hti;have Y:=wC t cE (hZ t E.mem);have g:∃W,W=cQ (t::R):=⟨_,rfl⟩
 obtain⟨W,g⟩:=g;rw[←g];rw[aUx] at q;rw[cQ] at g;have A:∀st,Sub (keys ([]:List (Nat×AObj))) (mk [(0,nM L),(1,I .i64 (i:Nat)),(6,.one (.vp 6 0)),(9,B false)] [(6,.var 38 [.c (.int .i64 0),.c (.int .i64 0)])]) st→W=.ok ([],t::R)→
   AWp none Tryz.prog 59 (keys ([]:List (Nat×AObj))) (jI (jI (jI (jI (Tryz.f188.body.getD .skip))))) st (fun ex st=>(ex=.normal∨ex=.ret)∧Fin tr.flat Tryz.f188 st [] (aRb L W) []):=fun st hs hw=>by
  refine AWp.sub hs ?_;rw[hw,n9,ab];exact aA (aE (sgh [(2,.bv true),(9,.bv true)] rfl (aB rfl (fun _=>sg rfl (aF aJf)) (fun hb=>absurd hb (by decide)))))
 have aa:∀(O:List Prd) (m:Nat) (Q:List Tk) (st:St),Sub (keys ([]:List (Nat×AObj))) (mk [(0,nM L),(1,I .i64 (i:Nat)),(6,.one (.vp 6 0)),(8,I .i64 (m:Nat)),(9,B true),(10,.one (.c (.sl 5 (O.map aR))))] [(6,.var 38 [.c (.int .i64 0),.c (.int .i64 0)])]) st→At L m Q→W=yQ t.pl (t::R) O Q→
   AWp none Tryz.prog 59 (keys ([]:List (Nat×AObj))) (jI (jI (jI (jI (Tryz.f188.body.getD .skip))))) st (fun ex st=>(ex=.normal∨ex=.ret)∧Fin tr.flat Tryz.f188 st [] (aRb L W) []):=fun O m Q st hs J hw=>by
  refine AWp.sub hs ?_;obtain⟨y,Q,rfl⟩:=J.e.ne;have hyj:=J.get;have hyj':=bB aI hyj;have hda:=wC y darrow (hZ y J.mem);have hB:=mL t 2;have hml:=J.lt;have ac:(O.map aR).length=O.length:=χ _;rw[yQ] at hw;refine aA (aE (skh 7 [(2,.bv false),(5,.row m (aI y))] rfl (kcG hda ?_)));refine ak 3 [(2,.bv false),(9,.bv false)] rfl (az ?_);cases hd:isT y darrow with
  | false=>
   rw[hd,ξ (by decide)] at hw;rw[hw,n9,ab];exact aB rfl (fun _=>sg rfl (aF aJf)) (fun hb=>absurd hb (by decide))
  | true=>
   rw[hd,θ rfl] at hw;obtain⟨_,hn⟩:=J.next (by rw[(bV hd).1];decide)
   refine aB rfl (fun hb=>absurd hb (by decide)) (fun _=>sg rfl (aB rfl (fun hb=>?_) (fun hb=>?_)))
   ·rw[θ (by have:=κ hb;rw[ac] at this;omega)] at hw;rw[hw];refine skh 4 [(2,.row i (aI t))] rfl (kc hB ?_);exact kz 3 rfl (aF aJf)
   ·rw[ξ (by have:=Ae hb;rw[ac] at this;omega)] at hw;rw[hw,n9,hn];exact aD (aA (agN [] rfl (aF aJf)))
 refine bF (n:=59) tok Tryz.func188 rfl rfl rfl ?_;refine sg rfl ?_;cases hb:isT t cE with
 | true=>
  have h4:=bV hb;rw[ξ (by omega)] at q;unfold aR at q;rw[hb,θ rfl] at g;obtain⟨M,_⟩:=E.next (by omega)
  have hls:=aPt L hZ R (i+1) M ((t::R).length+1) (by rw[Aa];omega);have hok:=fun out R' h=>s7 ((t::R).length+1) true R [] out R' (wt R) R.length (le_refl _) (fun p hp=>by cases hp) (by rw[length_nil];omega) h
  refine sk 2 rfl (kc q ?_);refine kz 8 rfl (sgh [(1,.all)] rfl (aA (skh 4 [(2,.row i (aI t))] rfl (kc Y ?_))));refine az ?_;rw[hb];refine aB rfl (fun _=>aC mixed (akN 3 [] rfl (kc hls ?_))) (fun hb=>absurd hb (by decide));generalize gU ((t::R).length+1) true R []=w at hok g ⊢;cases w with
  | none=>
   rw[jK] at g;rw[aSl]
   ·exact kz 7 rfl (A _ sl g)
   ·intro a b c h;cases h
  | some y=>
   obtain⟨out,R2⟩:=y;obtain⟨g1,⟨p,g2,_⟩,_,_⟩:=hok out R2 rfl;obtain⟨U,hn2⟩:=M.to g2 (g1 M.e);rw[jK] at g;obtain⟨u,R2,rfl⟩:=U.e.ne;rw[brP,θ rfl] at g;rw[aSl];by_cases hr:isT u lX=true
   ·rw[θ hr] at g ⊢;obtain⟨hA3,hn3⟩:=U.next (by rw[(bV hr).1];decide)
    rw[hn3];exact kz 7 rfl (aa out _ R2 _ sl hA3 g)
   ·rw[ξ hr] at g ⊢;exact kz 7 rfl (A _ sl g)
 | false=>
  rw[hb,ξ (by decide)] at g;rw[gU] at g;by_cases h2:t.kind=2
  case neg=>
   rw[ξ h2] at g q;unfold aR at q;rw[jK] at g;refine sk 2 rfl (kc q ?_);refine kz 8 rfl (sgh [(1,.all)] rfl (aA (skh 4 [(2,.row i (aI t))] rfl (kc Y ?_))));refine az ?_;rw[hb];exact aB rfl (fun hb=>absurd hb (by decide)) (fun _=>aD (A _ sl g))
  rw[θ h2] at g q;rw[ξ (by decide)] at g;obtain⟨M,_⟩:=E.next (by omega)
  have hok:=gQ (3*R.length) 0 R;generalize cM (3*R.length) 0 R=w at hok g q;cases w with
  | error e=>
   dsimp only at g q;unfold aR at q;rw[jK] at g;refine sk 2 rfl (kc q ?_);refine kz 8 rfl (sgh [(1,.all)] rfl (aA (skh 4 [(2,.row i (aI t))] rfl (kc Y ?_))));refine az ?_;rw[hb];exact aB rfl (fun hb=>absurd hb (by decide)) (fun _=>aD (A _ sl g))
  | ok y=>
   obtain⟨x,R1⟩:=y;obtain⟨hT,_⟩:=hok x R1 rfl;obtain⟨U,hle⟩:=M.ok hT;obtain⟨u,R2,rfl⟩:=U.e.ne;dsimp only at g q;unfold aR at q;rw[Cs,ξ (by decide),jK,brP,ξ (by decide),A2] at g;refine sk 2 rfl (kc q ?_);refine kz 8 rfl (sgh [(1,.all)] rfl (aA (skh 4 [(2,.row i (aI t))] rfl (kc Y ?_))));refine az ?_;rw[hb];exact aB rfl (fun hb=>absurd hb (by decide)) (fun _=>aD (aa [⟨t.text,x⟩] _ (u::R2) _ sl U g))
theorem aA7 (L:List Tk) (hZ:nZ L) (R:List Tk) (i:Nat) (g:At L i R):aV Tryz.prog 212 [nM L,I .i64 (i:Nat)] [] (tpV L (c8 (3*R.length+2) 0 R)) []:=by
 have h:=(aD2 L hZ (3*R.length+2)).2 (3*R.length+2) (le_refl _) 0 R i g (le_refl _) (by decide);refine bF (n:=13) tok Tryz.func212 rfl rfl rfl ?_;refine sg rfl (sk 2 rfl (kc h ?_));generalize c8 (3*R.length+2) 0 R=w;cases w with
 | error e=>
  obtain⟨e,p⟩:=e;unfold tpV atV;exact kz 6 rfl (aF iP)
 | ok y=>
  obtain⟨x,R1⟩:=y;unfold tpV atV;exact kz 6 rfl (aF iP)
theorem aLc (L:List Tk) (hZ:nZ L) (R:List Tk) (i:Nat) (g:At L i R):aV Tryz.prog 187 [nM L,I .i64 (i:Nat)] [] (tpV L (cM (3*R.length) 0 R)) []:=by
 have h:=(aD2 L hZ (3*R.length)).1 (3*R.length) (le_refl _) 0 R i g (le_refl _) (by decide);refine bF (n:=13) tok Tryz.func187 rfl rfl rfl ?_;refine sg rfl (sk 2 rfl (kc h ?_));generalize cM (3*R.length) 0 R=w;cases w with
 | error e=>
  obtain⟨e,p⟩:=e;unfold tpV atV;exact kz 6 rfl (aF iP)
 | ok y=>
  obtain⟨x,R1⟩:=y;unfold tpV atV;exact kz 6 rfl (aF iP)
theorem mN (l:List (List C)) (h:l.length≤1000000):aV Tryz.prog 213 [.one (.c (.sl 5 l))] [] (.one (.hs 720 0 l.length l.length)) [(720,.arr 195 5 l 0)]:=by
 refine bF (n:=8) tok Tryz.func213 rfl rfl rfl ?_;refine sg rfl (aH7 0 rfl (fun hl=>?_) ?_)
 ·subst hl;refine aA (sg rfl (aB rfl (fun _=>sg rfl (AWp.sub (Sub.own (t:=2) (id:=720) 195 5 rfl rfl) ?_)) nofun));exact aF rtT
 ·refine aA (sg rfl (aB rfl nofun (fun _=>aD (sgh [(0,.id 720)] rfl (AWp.sub (st2:=mk [(2,.one (.hs 720 0 l.length l.length))] [(720,.arr 195 5 l 0)]) sl ?_)))));exact aF rtT
def mD (s:Sch):List C:=[.sl 1 (s.vars.map aX),.sl 1 [],.sl 5 (s.preds.map aR),.int .i64 s.ty.form,.int .i64 s.ty.n,.str s.ty.name,.sl 4 (dD s.ty)]
def iJ:Sch:=⟨[],[],zTy⟩
def spV (L:List Tk):SR→V
 | .ok (s,R)=>.tup [.pa (mD s),I .i64 ((L.length-R.length:Nat):Int),atV 0 0]
 | .error (e,p)=>.tup [.pa (mD iJ),I .i64 0,atV e p]
theorem aMh (L:List Tk) (s:Sch) (R:List Tk):spV L (.ok (s,R))=.tup [.pa (mD s),I .i64 ((L.length-R.length:Nat):Int),atV 0 0]:=rfl
def aIt:List AM.R:=[.c .nl,.c .nl,.c .nl,.c (.int .i64 0),.c (.int .i64 0),.c (.str []),.c .nl]
theorem aHm (L:List Tk) (hZ:nZ L) (R:List Tk) (i:Nat) (O:At L i R) (hwt:wt L≤30000):aV Tryz.prog 190 [nM L,I .i64 (i:Nat)] [] (spV L (cH R)) []:=by
 have hp:=tG L hZ R i O;have ab:= @kL R;have ac:= @iB R;unfold cH;refine bF (n:=74) tok Tryz.func190 rfl rfl rfl ?_;refine sg rfl (sk 2 rfl (kc hp ?_));generalize cQ R=w at ab ac ⊢;cases w with
 | error e=>
  obtain⟨e,p⟩:=e;have he:=ac rfl;rw[n6];unfold aRb atV;exact kz 8 rfl (aA (sg rfl (aB rfl (fun _=>sg rfl (aF iP)) (fun hb=>absurd hb (by simp[he])))))
 | ok y=>
 obtain⟨ps,R1⟩:=y;obtain⟨k1,⟨q,k2,_⟩,k3,k4⟩:=ab rfl;obtain⟨ad,hn1⟩:=O.to k2 (k1 O.e);rw[n9,n6,hn1];generalize i+q.length=j at ad;have hty:=aA7 L hZ R1 j ad;have ae:=fB (3*R1.length+2) 0 R1;have af:=dT (3*R1.length+2) 0 R1;have U:wt R≤30000:=by
  have:L=L.take i++R:=by rw[←O.d,take_append_drop]
  rw[this] at hwt;exact le_trans lS hwt
 have hwtR1:wt R1≤30000:=by rw[k2] at U;exact le_trans lS U
 have hRl:=O.lt;have hLl:=O.l;unfold atV;refine kz 8 rfl (aA (sg rfl (aB rfl (fun hb=>absurd hb (by decide)) (fun _=>aD (sk 2 rfl (kc hty ?_))))));generalize c8 (3*R1.length+2) 0 R1=w at ae af ⊢;cases w with
 | error e=>
  obtain⟨e,p⟩:=e;have he:=af e p rfl;rw[n5];unfold tpV atV;exact kz 8 rfl (aA (sg rfl (aB rfl (fun _=>sg rfl (aF iP)) (fun hb=>absurd hb (by simp[he])))))
 | ok y=>
 obtain⟨x,R2⟩:=y;obtain⟨hT,hTn⟩:=ae x R2 rfl;rw[j5,n5,aMh];unfold atV;dsimp only;generalize ((L.length-R2.length:Nat):Int)=m;refine kz 8 rfl (aA (sg rfl (aB rfl (fun hb=>absurd hb (by decide)) (fun _=>aD (sg rfl ?_)))));have hsv:aQ8 ps x=gP [] (ps++[(⟨[],x⟩:Prd)]):=by rw[y5];rfl
 rw[hsv];have B:∀p∈ps++[(⟨[],x⟩:Prd)],WF p.ty∧tn p.ty≤30000:=fun p hp=>by
  rcases Ay.1 hp with hp | hp
  ·exact⟨(k3 p hp).1,by have:=(k3 p hp).2;omega⟩
  ·rw[Ar.1 hp];exact⟨hT.w,by show tn x≤30000;omega⟩
 have hcl:=mN (ps.map aR) (by rw[χ];omega);have hkl:(ps.map aR).length=ps.length:=χ _;have J:ps.map aR++[[.str [],.int .i64 x.form,.int .i64 x.n,.str x.name,.sl 4 (dD x)]]=(ps++[(⟨[],x⟩:Prd)]).map aR:=by rw[Ai];rfl
 have ah:(ps++[(⟨[],x⟩:Prd)]).length=ps.length+1:=by rw[η];rfl
 generalize ps++[(⟨[],x⟩:Prd)]=g at B J ah ⊢;have hqe:(g.map aR).length=g.length:=χ _;refine aA (sk 1 rfl (kc hcl ?_));refine ak 6 [(4,.all),(5,.fz)] rfl (az (AWp.sub (Sub.own (t:=10) (id:=710) 9 1 rfl rfl) ?_));have A:∀r:List C,(ps.map aR).length+[r].length=g.length:=fun r=>by rw[hkl,ah];rfl
 refine aE (aL (fun k:Nat=>mk [(1,I .i64 m),(4,.one (.vp 4 0)),(6,.one (.vp 6 0)),(7,.one (.c (.sl 5 (ps.map aR)))),(9,.one (.vp 9 0)),(10,oV (gP [] (g.take k))),(44,.one (.hs 720 0 g.length g.length)),(45,I .i64 (g.length:Nat)),(46,I .i64 (k:Nat))] [(4,.var 33 aIt),(6,.var 38 [.c (.int .i64 0),.c (.int .i64 0)]),(9,.var 31 ((cF x).map .c)),(710,oO (gP [] (g.take k))),(720,.arr 195 5 (g.map aR) 2)]) (fun k=>k≤g.length) (fun k=>g.length-k) 0 (Ad _) (sl (he:=⟨rfl,rfl,rfl,rfl,rfl,rfl,Go.AM.hs_ren (A _) (A _),Go.AM.int_eq (congrArg Int.ofNat (A _)),rfl,trivial⟩) (hh:=⟨⟨_,rfl,.var rfl⟩,⟨_,rfl,.var rfl⟩,⟨_,rfl,.var rfl⟩,⟨_,rfl,Go.AM.Ole.arrE rfl⟩,⟨_,rfl,.arrS J⟩,trivial⟩)) ?_);intro k hk;have hgl:(gP [] (g.take k)).length≤4002*30000:=by
  have h1:=vC (W:=30000) (g.take k) [] (fun p hp=>(B p (B9 hp)).2);rw[Aj,length_nil] at h1;have:min k g.length*30000≤4002*30000:=Av _ (by omega);omega
 refine sg rfl (aA (aB rfl (fun hb=>?_) (fun hb=>?_)))
 ·have ai:k<g.length:=by have:=κ hb;omega
  obtain⟨p,hp⟩:=aM ai;have hp':=bB aR hp;have hpm:=B p (Ag hp);have aj:=aBc p.ty (by have:=aSz p.ty;omega);have htf:=lU p.ty;have Y:=y4 hp;generalize gP [] (g.take k)=o at hgl Y ⊢;generalize tfR p.ty=l at aj htf Y ⊢;have al:(l.map aX).length=l.length:=χ _;refine aD (aA (aE (sgh [(1,.row k (aR p))] rfl (sk 2 rfl (kc aj ?_)))));refine kz 2 rfl (aE (aL (fun j:Nat=>mk [(1,I .i64 m),(4,.one (.vp 4 0)),(6,.one (.vp 6 0)),(7,.one (.c (.sl 5 (ps.map aR)))),(9,.one (.vp 9 0)),(10,oV (eH o (l.take j))),(44,.one (.hs 720 0 g.length g.length)),(45,I .i64 (g.length:Nat)),(46,I .i64 (k:Nat)),(52,bJ l),(53,I .i64 ((l.map aX).length:Nat)),(54,I .i64 (j:Nat))] [(4,.var 33 aIt),(6,.var 38 [.c (.int .i64 0),.c (.int .i64 0)]),(9,.var 31 ((cF x).map .c)),(710,oO (eH o (l.take j))),(720,.arr 195 5 (g.map aR) 2)]) (fun j=>j≤l.length) (fun j=>l.length-j) 0 (Ad _) sl ?_));intro j hj;refine sg rfl (aA (aB rfl (fun hb=>?_) (fun hb=>?_)))
  ·have E:=ltD hb al;obtain⟨s,hs⟩:=aM E;have hs':=bB aX hs;have u:eH o (l.take (j+1))=mV (eH o (l.take j)) s:=by rw[Bg,hs,oF];rfl
   have hml:(eH o (l.take j)).length≤1000000000:=by
    have:=iT (l.take j) o;rw[Aj] at this;omega
   have am:=eX (eH o (l.take j)) s (by omega);generalize eH o (l.take j)=M at u hml am ⊢;have hml':(M.map aX).length=M.length:=χ _;refine aD (AWp.sub (Sub.freeze (id:=710) rfl) ?_);refine aA (aE (sgh [(0,.row j (aX s))] rfl (sk 2 rfl (kc am ?_))));refine kz 1 rfl (aB rfl (fun hb=>?_) (fun hb=>?_))
   ·have hm:¬s∈M:=fun h=>by rw[φ h] at hb;cases hb
    unfold mV at u;rw[ξ hm] at u;refine ag [(2,.all)] rfl (ag [] rfl ⟨j+1,E,by dsimp only;omega,?_⟩);dsimp only;rw[u];exact sl
   ·have hm:s∈M:=by
     by_cases h:s∈M
     ·exact h
     ·rw[ψ h] at hb;cases hb
    unfold mV at u;rw[θ hm] at u;refine aD (ag [] rfl ⟨j+1,E,by dsimp only;omega,?_⟩);dsimp only;rw[u];exact sl
  ·have aa:=geD hb al hj;subst aa;rw[Ao];refine aG (ag [] rfl ⟨k+1,ai,by dsimp only;omega,?_⟩);dsimp only;rw[Y];exact sl
 ·have aa:k=g.length:=by have:=Ae hb;omega
  subst aa;rw[Ao];refine aG (AWp.sub (Sub.freeze (id:=710) rfl) ?_);exact sg rfl (aF iP)
end Go.Proofs.YtkhgpgihmphfdaaGreat
namespace Go.AM
open Go
section
variable {QP:Value→Prop}{P:Program}{n:Nat}{ops:Array Oper}{draw:Bool}{k:Nat}{st:St}{pre:REs}{Q:St→Prop}{o:Oper}{f:FuncId}{xs:Array Operand}{ts:Array TypeId}{ids:List Nat}{args:List V}{hin:List (Nat×AObj)}{v:Value}
theorem kp (u:aBw P f args hin v) (hq:QP v:=by first | exact fun _ _=>⟨rfl,rfl⟩ | assumption)
  (hb:fG P f:=by exact aC8 (by kernel_rfl)) (ho:ops[k]?=some o:=by rfl) (y:o.guard=none:=by rfl) (q:o.op=.call { callee:=.value (.func f),args:=xs,argTypes:=ts }:=by rfl)
  (ha:ArgsV st ids xs.toList args:=by repeat (first | exact .nil | (apply Go.AM.ArgsV.cons rfl;(first | exact .refl | exact .one (.c .nl .nil) | exact .one (.c .sn .nil) | exact .one (.hs rfl (by first | rfl | simp) (by first | rfl | (simp;done) | (simp[Go.AM.take_map];done) | exact Go.AM.take_map.symm) .nil) | exact Go.AM.hs_all rfl rfl (by first | rfl | assumption | (simp;done) | (simp;omega)) (by first | rfl | assumption | (simp;done)) | ((first | apply Go.AM.Conv.pa | apply Go.AM.Conv.agg);repeat (first | exact .nil | apply Go.AM.PureL.c .refl | apply Go.AM.PureL.c .nl | apply Go.AM.PureL.c .sn | (apply Go.AM.PureL.hs;rfl;(first | rfl | simp);(first | rfl | (simp;done) | (simp[Go.AM.take_map];done) | exact Go.AM.take_map.symm))))))))
  (g:eF (fun p=>st.h p.1=some p.2) hin:=by repeat (first | exact trivial | refine⟨rfl,?_⟩)) (hok:dU args hin=true:=by rfl) (A:draw=false:=by rfl) (hl:Nat.blt k ops.size=true:=by rfl):i7 QP P n ops draw k st pre Q:=
 aSp (mT.plain ho y (aE4 hin hb q u ha g hok)) hq A hl
theorem kpD {d:Nat}(res:V) (hout:List (Nat×AObj)) (u:aBw P f args hin v) (y:i7 (fun _=>False) P n ops draw (k+1) ⟨upd st.e d (some res),fC st.h (outs hout),st.d⟩ ((⟨bU xs.toList,ids++keys hin⟩,⟨some (d,some res),outs hout⟩)::pre) fun _=>True) (hq:QP v:=by first | exact fun _ _=>⟨rfl,rfl⟩ | assumption)
  (hb:fG P f:=by exact aC8 (by kernel_rfl)) (ho:ops[k]?=some o:=by rfl) (A:o.guard=none:=by rfl) (q:o.op=.call { callee:=.value (.func f),args:=xs,argTypes:=ts }:=by rfl) (_:o.dst=some d:=by rfl)
  (ha:ArgsV st ids xs.toList args:=by repeat (first | exact .nil | (apply Go.AM.ArgsV.cons rfl;(first | exact .refl | exact .one (.c .nl .nil) | exact .one (.c .sn .nil) | exact .one (.hs rfl (by first | rfl | simp) (by first | rfl | (simp;done) | (simp[Go.AM.take_map];done) | exact Go.AM.take_map.symm) .nil) | exact Go.AM.hs_all rfl rfl (by first | rfl | assumption | (simp;done) | (simp;omega)) (by first | rfl | assumption | (simp;done)) | ((first | apply Go.AM.Conv.pa | apply Go.AM.Conv.agg);repeat (first | exact .nil | apply Go.AM.PureL.c .refl | apply Go.AM.PureL.c .nl | apply Go.AM.PureL.c .sn | (apply Go.AM.PureL.hs;rfl;(first | rfl | simp);(first | rfl | (simp;done) | (simp[Go.AM.take_map];done) | exact Go.AM.take_map.symm))))))))
  (g:eF (fun p=>st.h p.1=some p.2) hin:=by repeat (first | exact trivial | refine⟨rfl,?_⟩)) (hok:dU args hin=true:=by rfl):i7 QP P n ops draw k st pre Q:=
 aSo ⟨some (d,some res),outs hout⟩ (mT.plain ho A (aE4 hin hb q u ha g hok)) hq y
theorem kpv {x:Operand}{caps:List R}(u:aBw P f (args++caps.map V.one) hin v) (hq:QP v:=by first | exact fun _ _=>⟨rfl,rfl⟩ | assumption)
  (hb:fG P f:=by exact aC8 (by kernel_rfl)) (ho:ops[k]?=some o:=by rfl) (y:o.guard=none:=by rfl) (q:o.op=.call { callee:=.value x,args:=xs,argTypes:=ts }:=by rfl) (hx:opv st x=some (.one (.clo f caps)):=by rfl)
  (ha:ArgsV st ids xs.toList args:=by repeat (first | exact .nil | (apply Go.AM.ArgsV.cons rfl;(first | exact .refl | exact .one (.c .nl .nil) | exact .one (.c .sn .nil) | exact .one (.hs rfl (by first | rfl | simp) (by first | rfl | (simp;done) | (simp[Go.AM.take_map];done) | exact Go.AM.take_map.symm) .nil) | exact Go.AM.hs_all rfl rfl (by first | rfl | assumption | (simp;done) | (simp;omega)) (by first | rfl | assumption | (simp;done)) | ((first | apply Go.AM.Conv.pa | apply Go.AM.Conv.agg);repeat (first | exact .nil | apply Go.AM.PureL.c .refl | apply Go.AM.PureL.c .nl | apply Go.AM.PureL.c .sn | (apply Go.AM.PureL.hs;rfl;(first | rfl | simp);(first | rfl | (simp;done) | (simp[Go.AM.take_map];done) | exact Go.AM.take_map.symm))))))))
  (g:eF (fun p=>st.h p.1=some p.2) hin:=by repeat (first | exact trivial | refine⟨rfl,?_⟩)) (hok:dU (args++caps.map V.one) hin=true:=by rfl) (A:draw=false:=by rfl) (hl:Nat.blt k ops.size=true:=by rfl):i7 QP P n ops draw k st pre Q:=
 aSp (mT.plain ho y (aJr hin hb q hx u ha g hok)) hq A hl
end
def bE (P:Program) (f:FuncId) (args:List V) (hin:List (Nat×AObj)):Except Value (V×List (Nat×AObj))→Prop
 | .ok (res,hout)=>aV P f args hin res hout
 | .error v=>aBw P f args hin v
def aXf (T:TT) (fn:Func) (hin:List (Nat×AObj)):Except Value (V×List (Nat×AObj))→Exit→St→Prop
 | .ok (res,hout),ex,st=>(ex=.normal∨ex=.ret)∧Fin T fn st hin res hout
 | .error v,ex,st=>ex=pan v∧st.d=[]
theorem mB {P:Program}{T:TT}{f:FuncId}{fn:Func}{c:Code}{n:Nat}{args:List V}{hin:List (Nat×AObj)}{o:Except Value (V×List (Nat×AObj))}(q:Tok P T) (g:P.funcs[f]?=some fn) (hb:fn.body=some c) (hn:fn.ntmps=n) (hle:Nat.ble args.length n=true) (hok:(hin.all fun p=>lE p.2)=true)
  (h:AWp none P n (keys hin) c (mk (x8 0 args) hin) (aXf T fn hin o)):bE P f args hin o:=by
 cases o with
 | ok x=>obtain⟨res,hout⟩:=x;exact bF q g hb hn hle h
 | error v=>exact aPa g hb hn hle hok h
end Go.AM
namespace Go.Proofs.YtkhgpgihmphfdaaGreat
open Go Go.AM
set_option maxRecDepth 20000
set_option maxHeartbeats 4000000
theorem rtN {ex:Exit}{fn:Func}{st:St}{hin hout:List (Nat×AObj)}(hex:ex=.normal∨ex=.ret:=by first | exact .inl rfl | exact .inr rfl) (g:fn.results.toList=[]:=by rfl)
  (ho:eF (fun p=>∃o,st.h p.1=some o∧Ole (fun i=>i) o p.2) hout:=by repeat (first | exact trivial | refine⟨⟨_,rfl,by first | exact Go.AM.Ole.arr | exact Go.AM.Ole.var rfl | exact Go.AM.Ole.varS rfl⟩,?_⟩))
  (hok:(subset (V.tup []).refs (keys hout)&&subset (eG hout) (keys hout)&&Go.AM.distinct (keys hout)&&subset (keys hin) (keys hout)&&(hin.all fun p=>p.2.plain)&&(hout.all fun p=>p.2.plain))=true:=by rfl):(ex=.normal∨ex=.ret)∧Fin tr.flat fn st hin (.tup []) hout:=
 ⟨hex,⟨[],[],by rw[g];exact .nil,.nil,rfl⟩,ho,hok⟩
theorem rtH {fn:Func}{st:St}{hin hout:List (Nat×AObj)}{t id len sz te es:Nat}{elems:List (List C)}(g:fn.results.toList=[.tmp t]:=by rfl) (q:st.e t=some (.one (.hs id 0 len sz)):=by rfl) (hh:st.h id=some (.arr te es elems 2):=by rfl) (hsz:sz=elems.length:=by first | rfl | assumption | (simp;done))
  (hlen:len=elems.length:=by first | rfl | assumption | (simp;done))
  (ho:eF (fun p=>∃o,st.h p.1=some o∧Ole (fun i=>i) o p.2) hout:=by repeat (first | exact trivial | refine⟨⟨_,rfl,by first | exact Go.AM.Ole.arr | exact Go.AM.Ole.var rfl | exact Go.AM.Ole.varS rfl⟩,?_⟩))
  (hok:(subset (V.one (.c (.sl es elems))).refs (keys hout)&&subset (eG hout) (keys hout)&&Go.AM.distinct (keys hout)&&subset (keys hin) (keys hout)&&(hin.all fun p=>p.2.plain)&&(hout.all fun p=>p.2.plain))=true:=by rfl):(Exit.ret=.normal∨Exit.ret=.ret)∧Fin tr.flat fn st hin (.one (.c (.sl es elems))) hout:=
 rtT (hc:=.one (.hs hh hsz (Go.AM.take_all hlen) .nil)) g q (ho:=ho) (hok:=hok)
structure Z where
 R:List Tk
 e:Int
 p:Int
def zTk:Tk:=⟨0,[],0,0⟩
def b4 (z:Z):Tk:=z.R.headD zTk
def bR (e p:Int) (z:Z):Z:=if z.e=0 then⟨z.R,e,p⟩ else z
def isK (s:Str) (t:Tk):Bool:=(decide (t.kind=4) || decide (t.kind=5))&&decide (t.text=s)
def isZ (s:Str) (z:Z):Bool:=isK s (b4 z)
def bP (s:Str) (z:Z):Bool×Z:=if z.e=0∧isZ s z=true then(true,⟨z.R.tail,z.e,z.p⟩) else(false,z)
def aQ (s:Str) (z:Z):Z:=if(bP s z).1=true then(bP s z).2 else bR 12 (b4 z).pl z
def b5 (k:Int) (z:Z):Tk×Z:=if z.e=0∧(b4 z).kind=k then(b4 z,⟨z.R.tail,z.e,z.p⟩) else(⟨0,[],0,(b4 z).pl⟩,bR 12 (b4 z).pl z)
def qF (t:Tk):Bool:=decide (t.kind=1)
def aZ (z:Z):List Tk×Z:=if z.e=0 then(z.R.takeWhile qF,⟨z.R.dropWhile qF,z.e,z.p⟩) else([],z)
def cI (n most:Nat) (at':Int) (z:Z):Z:=if most<n then bR 2 at' z else z
def ZA (L:List Tk) (z:Z):Prop:=At L (L.length-z.R.length) z.R
def xP:V:=.one (.vp 700 0)
def zO (L:List Tk) (z:Z):AObj:=.var 60 [.c (.sl 4 (L.map aI)),.c (.int .i64 ((L.length-z.R.length:Nat):Int)),.c (.int .i64 z.e),.c (.int .i64 z.p)]
theorem nE (e p:Int) (z:Z):(bR e p z).R=z.R:=by unfold bR;split<;>rfl
theorem ZA.fail {L:List Tk}{z:Z}(h:ZA L z) (e p:Int):ZA L (bR e p z):=by unfold ZA;rw[nE];exact h
theorem ZA.tl {L:List Tk}{z:Z}(h:ZA L z) (g:¬(b4 z).kind=6) (e p:Int):ZA L ⟨z.R.tail,e,p⟩∧L.length-z.R.tail.length=L.length-z.R.length+1:=by
 obtain⟨R,e',q⟩:=z;obtain⟨t,R,rfl⟩:=h.e.ne;have hn:¬t.kind=6:=g;obtain⟨h1,h2⟩:=At.next h hn
 unfold ZA;rw[show(Z.mk (t::R) e' q).R.tail=R from rfl,h2];exact⟨h1,rfl⟩
theorem iV {s:Str}{t:Tk}(h:isK s t=true):¬t.kind=6:=fun e=>by
 unfold isK at h;rw[e] at h;simp at h
theorem ZA.may {L:List Tk}{z:Z}(h:ZA L z) (s:Str):ZA L (bP s z).2:=by
 unfold bP;split
 ·rename_i hc;exact(h.tl (iV hc.2) _ _).1
 ·exact h
theorem ZA.need {L:List Tk}{z:Z}(h:ZA L z) (s:Str):ZA L (aQ s z):=by
 unfold aQ;split
 ·exact h.may s
 ·exact h.fail _ _
theorem ZA.word {L:List Tk}{z:Z}(h:ZA L z) {k:Int}(g:¬k=6):ZA L (b5 k z).2:=by
 unfold b5;split
 ·rename_i hc;exact(h.tl (by rw[hc.2];exact g) _ _).1
 ·exact h.fail _ _
theorem vM:∀{R:List Tk},mU R→mU (R.dropWhile qF)∧∃p,R=p++R.dropWhile qF
 | [],h=>by obtain⟨t,R',e⟩:=h.ne;cases e
 | t::R,h=>by
  rw[B7];split
  ·rename_i hb;have q:t.kind=1:=κ hb;have g:=h.tail (by omega);obtain⟨h1,p,h2⟩:=vM g;exact⟨h1,t::p,by rw[A4,←h2]⟩
  ·exact⟨h,[],rfl⟩
theorem ZA.suf {L:List Tk}{z:Z}(h:ZA L z) {R p:List Tk}(hs:z.R=p++R) (he:mU R) (e q:Int):ZA L ⟨R,e,q⟩:=by
 obtain⟨h1,h2⟩:=At.to h hs he;show At L (L.length-R.length) R;rw[h2];exact h1
theorem ZA.words {L:List Tk}{z:Z}(h:ZA L z):ZA L (aZ z).2:=by
 unfold aZ;split
 ·obtain⟨h1,p,h2⟩:=vM h.e;exact h.suf h2 h1 _ _
 ·exact h
theorem ZA.long {L:List Tk}{z:Z}(h:ZA L z) (n g:Nat) (q:Int):ZA L (cI n g q z):=by
 unfold cI;split
 ·exact h.fail _ _
 ·exact h
theorem ZA.now {L:List Tk}{z:Z}(h:ZA L z):L[L.length-z.R.length]?=some (b4 z):=by
 obtain⟨R,e',g⟩:=z;obtain⟨t,R,rfl⟩:=h.e.ne;exact At.get h
theorem fP {L:List Tk}{z:Z}(h:ZA L z):aV Tryz.prog 36 [xP] [(700,zO L z)] (tkV (b4 z)) [(700,zO L z)]:=by
 have hl:=bB aI h.now;have g:(L.map aI).length=L.length:=χ _;have q:=h.lt;have u:=h.l;refine bF (n:=13) tok Tryz.func36 rfl rfl rfl ?_;exact sg rfl (sgh [(8,.row (L.length-z.R.length) (aI (b4 z)))] rfl (aF (rtC trw)))
theorem eK (L:List Tk) (z:Z) (e p:Int):aV Tryz.prog 37 [xP,I .i64 e,I .i64 p] [(700,zO L z)] (.tup []) [(700,zO L (bR e p z))]:=by
 refine bF (n:=18) tok Tryz.func37 rfl rfl rfl ?_;refine sg rfl ?_;unfold bR;refine aB rfl (fun hb=>?_) (fun hb=>?_)
 ·rw[θ (κ hb)];exact ag [] rfl rtN
 ·rw[ξ (Ae hb)];exact aD rtN
theorem iG (L:List Tk) (z:Z):aV Tryz.prog 22 [xP] [(700,zO L z)] (B (decide (z.e=0))) [(700,zO L z)]:=by
 refine bF (n:=9) tok Tryz.func22 rfl rfl rfl ?_;exact sg rfl (sg rfl (aF rtT))
theorem aKy {L:List Tk}{z:Z}(h:ZA L z) (s:Str):aV Tryz.prog 76 [xP,Go.AM.T s] [(700,zO L z)] (B (isZ s z)) [(700,zO L z)]:=by
 have hn:=fP h;unfold isZ;generalize b4 z=t at hn ⊢;unfold isK;refine bF (n:=22) tok Tryz.func76 rfl rfl rfl ?_;refine sg rfl (sk 1 rfl (kc hn ?_));refine kz 2 rfl ?_;by_cases g:t.kind=4
 ·have d4:decide (t.kind=4)=true:=φ g;rw[d4,Bool.true_or,Cu];exact sgh [(3,.bv true),(7,.bv true),(8,.bv true),(13,.bv true)] rfl (aF rtT)
 have d4:decide (t.kind=4)=false:=ψ g;rw[d4,B4];by_cases q:t.kind=5
 ·have d5:decide (t.kind=5)=true:=φ q;rw[d5,Cu];exact sgh [(3,.bv false),(7,.bv false),(8,.bv true),(13,.bv true)] rfl (aF rtT)
 ·have d5:decide (t.kind=5)=false:=ψ q;rw[d5,Cs];exact sgh [(3,.bv false),(7,.bv false),(8,.bv false),(13,.bv false)] rfl (aF rtT)
theorem mM {L:List Tk}{z:Z}(h:ZA L z) (s:Str):aV Tryz.prog 38 [xP,Go.AM.T s] [(700,zO L z)] (B (bP s z).1) [(700,zO L (bP s z).2)]:=by
 have ho:=iG L z;have hi:=aKy h s;have g:= @iV s (b4 z);refine bF (n:=22) tok Tryz.func38 rfl rfl rfl ?_;refine sg rfl ?_;unfold bP;by_cases he:z.e=0
 case neg=>
  rw[ξ (fun h=>he h.1)];rw[ψ he] at ho;refine aA (sk 1 rfl (kc ho ?_));exact ak 7 [(3,.bv true),(8,.bv true)] rfl (az (aB rfl (fun _=>sg rfl (aF rtT)) (fun hb=>absurd hb (by decide))))
 rw[φ he] at ho;refine aA (sk 1 rfl (kc ho ?_));refine ak 4 [(3,.bv false)] rfl (kcG hi ?_);refine ak 2 [(3,.bv false),(8,.bv false)] rfl (az ?_);cases u:isZ s z with
 | false=>
  rw[ξ (fun h=>by cases h.2)];exact aB rfl (fun _=>sg rfl (aF rtT)) (fun hb=>absurd hb (by decide))
 | true=>
  rw[θ ⟨he,rfl⟩];have q:isK s (b4 z)=true:=u;obtain⟨_,hn⟩:=h.tl (g q) z.e z.p;have y:=h.l;unfold zO;dsimp only;rw[hn];exact aB rfl (fun hb=>absurd hb (by decide)) (fun _=>aD (aA (agN [] rfl (sg rfl (aF rtT)))))
theorem fN {L:List Tk}{z:Z}(h:ZA L z) (s:Str):aV Tryz.prog 79 [xP,Go.AM.T s] [(700,zO L z)] (.tup []) [(700,zO L (aQ s z))]:=by
 have hm:=mM h s;have g:=eK L z 12 (b4 z).pl;have hn:=fP h;refine bF (n:=13) tok Tryz.func79 rfl rfl rfl ?_;refine sk 2 rfl (kc hm ?_);refine kz 1 rfl ?_;unfold aQ;cases hb:(bP s z).1 with
 | true=>
  rw[θ rfl];exact aB rfl (fun hb=>absurd hb (by decide)) (fun _=>aD rtN)
 | false=>
  have e:(bP s z).2=z:=by
   unfold bP at hb ⊢;split
   ·rename_i hc;rw[θ hc] at hb;cases hb
   ·rfl
  rw[ξ (by decide),e];refine aB rfl (fun _=>aC mixed (ak 2 [] rfl (kc hn ?_))) (fun hb=>absurd hb (by decide));refine ak 1 [] rfl (kc g ?_);exact az rtN
theorem aGq {L:List Tk}{z:Z}(h:ZA L z) (k:Int) (y:¬k=6):aV Tryz.prog 122 [xP,I .i64 k] [(700,zO L z)] (tkV (b5 k z).1) [(700,zO L (b5 k z).2)]:=by
 have ho:=iG L z;have q:=eK L z 12 (b4 z).pl;have hn:=fP h;have u:=h.tl;refine bF (n:=33) tok Tryz.func122 rfl rfl rfl ?_;refine sg rfl (sk 1 rfl (kc hn ?_));refine kz 2 rfl ?_;unfold b5;by_cases he:z.e=0
 case neg=>
  rw[ξ (fun h=>he h.1)];rw[ψ he] at ho;refine aA (sk 1 rfl (kc ho ?_));refine ak 7 [(3,.bv true),(8,.bv true)] rfl (az (aB rfl (fun _=>sk 3 rfl (kc q ?_)) (fun hb=>absurd hb (by decide))));exact az (sg rfl (aF (rtC trw)))
 rw[φ he] at ho;refine aA (sk 1 rfl (kc ho ?_));refine ak 7 [(3,.bv false),(8,.bv false)] rfl (az ?_);by_cases g:(b4 z).kind=k
 ·have d:(!decide ((b4 z).kind=k))=false:=by rw[φ g];rfl
  rw[θ ⟨he,g⟩];obtain⟨_,hn⟩:=u (by rw[g];exact y) z.e z.p;have A:=h.l;unfold zO;dsimp only;rw[hn];exact aB rfl (fun hb=>absurd (hb.symm.trans d) (by decide)) (fun _=>aD (aA (agN [] rfl (sg rfl (aF (rtC trw))))))
 ·have d:(!decide ((b4 z).kind=k))=true:=by rw[ψ g];rfl
  rw[ξ (fun h=>g h.2)];refine aB rfl (fun _=>sk 3 rfl (kc q ?_)) (fun hb=>absurd (hb.symm.trans d) (by decide));exact az (sg rfl (aF (rtC trw)))
theorem yI (L:List Tk) (z:Z) (n g:Nat) (q:Int):aV Tryz.prog 78 [xP,I .i64 (n:Nat),I .i64 (g:Nat),I .i64 q] [(700,zO L z)] (.tup []) [(700,zO L (cI n g q z))]:=by
 have u:=eK L z 2 q;refine bF (n:=14) tok Tryz.func78 rfl rfl rfl ?_;refine sg rfl ?_;unfold cI;refine aB rfl (fun hb=>?_) (fun hb=>?_)
 ·rw[θ (by have:=κ hb;omega)];refine aC mixed (ak 2 [] rfl (kc u ?_));exact az rtN
 ·rw[ξ (by have:=Ae hb;omega)];exact aD rtN
def cC:Str:=[59]
def dH (s:Str) (z:Z):Bool:=if s=[] then decide ((b4 z).kind=6) else isZ s z
def moreA (shut:Str) (n:Nat) (z:Z):Z:=if 0<n∧z.e=0∧isZ cC z=false∧dH shut z=false then bR 12 (b4 z).pl z else z
def cL (z:Z):Z:=if z.e=0 then⟨z.R.dropWhile (isK cC),z.e,z.p⟩ else z
def bI (shut:Str) (n:Nat) (z:Z):Bool×Z:=
 if ¬(cL (moreA shut n z)).e=0∨dH shut (cL (moreA shut n z))=true then(false,cL (moreA shut n z))
 else(decide ((cI (n+1) 60 (b4 (cL (moreA shut n z))).pl (cL (moreA shut n z))).e=0),cI (n+1) 60 (b4 (cL (moreA shut n z))).pl (cL (moreA shut n z)))
def aRr (z:Z):SR→Sch×Z
 | .ok (s,R')=>(s,⟨R',z.e,z.p⟩)
 | .error (e,p)=>(iJ,⟨z.R,e,p⟩)
def bN (z:Z):Sch×Z:=if z.e=0 then aRr z (cH z.R) else(iJ,z)
def aVw (z:Z):PR→List Prd×Z
 | .ok (s,R')=>(s,⟨R',z.e,z.p⟩)
 | .error (e,p)=>([],⟨z.R,e,p⟩)
def bT (z:Z):List Prd×Z:=if z.e=0 then aVw z (cQ z.R) else([],z)
theorem aMi {R:List Tk}{s:Sch}{R':List Tk}(h:cH R=.ok (s,R')):(mU R→mU R')∧(∃p,R=p++R'∧1≤p.length)∧WF s.ty∧tn s.ty≤wt R∧(∀p∈s.preds,WF p.ty∧tn p.ty≤wt R)∧s.preds.length≤R.length∧s.vars=aQ8 s.preds s.ty:=by
 unfold cH at h;cases hp:cQ R with
 | error e=>obtain⟨e,p⟩:=e;rw[hp,n6] at h;cases h
 | ok y=>
  obtain⟨ps,R1⟩:=y;rw[hp,n6] at h;obtain⟨u,⟨q,g,_⟩,A,B⟩:=kL hp;cases hw:c8 (3*R1.length+2) 0 R1 with
  | error e=>obtain⟨e,p⟩:=e;rw[hw,n5] at h;cases h
  | ok y=>
   obtain⟨x,R2⟩:=y;rw[hw,n5] at h;obtain⟨⟨E,⟨I,J,O⟩,M⟩,U⟩:=fB _ _ _ _ _ hw;cases h;have:wt R1≤wt R:=by rw[g];exact lS
   exact⟨fun he=>E (u he),⟨q++I,by rw[g,J,An],by rw[η];omega⟩,M,by show tn x≤_;omega,A,B,rfl⟩
theorem ZA.scheme {L:List Tk}{z:Z}(h:ZA L z):ZA L (bN z).2:=by
 unfold bN;split
 ·cases hs:cH z.R with
  | error e=>obtain⟨e,p⟩:=e;exact h
  | ok y=>
   obtain⟨s,R'⟩:=y;obtain⟨h1,⟨p,h2,_⟩,_⟩:=aMi hs;exact h.suf h2 (h1 h.e) _ _
 ·exact h
theorem ZA.preds {L:List Tk}{z:Z}(h:ZA L z):ZA L (bT z).2:=by
 unfold bT;split
 ·cases hs:cQ z.R with
  | error e=>obtain⟨e,p⟩:=e;exact h
  | ok y=>
   obtain⟨s,R'⟩:=y;obtain⟨h1,⟨p,h2,_⟩,_⟩:=kL hs;exact h.suf h2 (h1 h.e) _ _
 ·exact h
theorem r6 (s:Str):∀{R:List Tk},mU R→mU (R.dropWhile (isK s))∧∃p,R=p++R.dropWhile (isK s)
 | [],h=>by obtain⟨t,R',e⟩:=h.ne;cases e
 | t::R,h=>by
  rw[B7];split
  ·rename_i hb;have g:=h.tail (iV hb);obtain⟨h1,p,h2⟩:=r6 s g;exact⟨h1,t::p,by rw[A4,←h2]⟩
  ·exact⟨h,[],rfl⟩
theorem ZA.semi {L:List Tk}{z:Z}(h:ZA L z):ZA L (cL z):=by
 unfold cL;split
 ·obtain⟨h1,p,h2⟩:=r6 cC h.e;exact h.suf h2 h1 _ _
 ·exact h
theorem ZA.moreA {L:List Tk}{z:Z}(h:ZA L z) (s:Str) (n:Nat):ZA L (moreA s n z):=by
 unfold Proofs.YtkhgpgihmphfdaaGreat.moreA;split
 ·exact h.fail _ _
 ·exact h
theorem ZA.more {L:List Tk}{z:Z}(h:ZA L z) (s:Str) (n:Nat):ZA L (bI s n z).2:=by
 unfold bI;split
 ·exact(h.moreA s n).semi
 ·exact(h.moreA s n).semi.long _ _ _
theorem aKp {L:List Tk}{z:Z}(he:z.e=0) (x:Ty) (ps vs:C) (R':List Tk):aV Tryz.prog 84 [xP,.pa (x7 x ps vs ((L.length-R'.length:Nat):Int) 0 0)] [(700,zO L z)] (.pa (x7 x ps vs ((L.length-R'.length:Nat):Int) 0 0)) [(700,zO L ⟨R',z.e,z.p⟩)]:=by
 have ho:=iG L z;rw[φ he] at ho;refine bF (n:=25) tok Tryz.func84 rfl rfl rfl ?_;refine sg rfl (aA (sk 1 rfl (kc ho ?_)));exact kz 1 rfl (aB rfl (fun hb=>absurd hb (by decide)) (fun _=>aD (aA (sg rfl (aB rfl (fun hb=>absurd hb (by decide)) (fun _=>aD (sg rfl (sg rfl (aF (rtC trw))))))))))
theorem aG0 {L:List Tk}{z:Z}(he:z.e=0) (e p:Int) (g:¬e=0):aV Tryz.prog 84 [xP,.pa (x7 zTy .nl .nl 0 e p)] [(700,zO L z)] (.pa (x7 zTy .nl .nl 0 0 0)) [(700,zO L ⟨z.R,e,p⟩)]:=by
 have ho:=iG L z;rw[φ he] at ho;have d:(!decide (e=0))=true:=by rw[ψ g];rfl
 refine bF (n:=25) tok Tryz.func84 rfl rfl rfl ?_;refine sg rfl (aA (sk 1 rfl (kc ho ?_)));exact kz 1 rfl (aB rfl (fun hb=>absurd hb (by decide)) (fun _=>aD (aA (sg rfl (aB rfl (fun _=>sg rfl (sg rfl (aF (rtC trw)))) (fun hb=>absurd (hb.symm.trans d) (by decide)))))))
theorem wA {L:List Tk}{z:Z}(h:ZA L z) (hwt:wt L≤30000):aV Tryz.prog 43 [xP] [(700,zO L z)] (.pa (mD (bN z).1)) [(700,zO L (bN z).2)]:=by
 have ho:=iG L z;refine bF (n:=26) tok Tryz.func43 rfl rfl rfl ?_;refine sg rfl (aA (sk 1 rfl (kc ho ?_)));refine kz 1 rfl ?_;unfold bN;by_cases he:z.e=0
 case neg=>
  rw[ξ he];exact aB rfl (fun _=>sg rfl (aF (rtC trw))) (fun hb=>absurd hb (by simp[he]))
 rw[θ he];have u:=aHl L z.R _ h hwt;have g:= @n3 z.R;refine aB rfl (fun hb=>absurd hb (by simp[he])) (fun _=>aD (sk 9 rfl (kc u ?_)));generalize cH z.R=w at g ⊢;cases w with
 | error e=>
  obtain⟨e,p⟩:=e;have q:=aG0 (L:=L) he e p (g rfl);refine kc q ?_;exact kz 2 rfl (sg rfl (aF (rtC trw)))
 | ok y=>
  obtain⟨s,R'⟩:=y;have q:=aKp (L:=L) he s.ty (.sl 5 (s.preds.map aR)) (.sl 1 (s.vars.map aX)) R';rw[aMk];refine kc q ?_;exact kz 2 rfl (sg rfl (aF (rtC trw)))
theorem aG3 {L:List Tk}{z:Z}(h:ZA L z) (s:Str):aV Tryz.prog 123 [xP,Go.AM.T s] [(700,zO L z)] (B (dH s z)) [(700,zO L z)]:=by
 have hn:=fP h;have hi:=aKy h s;refine bF (n:=14) tok Tryz.func123 rfl rfl rfl ?_;refine sg rfl (aA (sg rfl ?_));unfold dH;refine aB rfl (fun hb=>?_) (fun hb=>?_)
 ·rw[θ (κ hb)];refine sk 1 rfl (kc hn ?_);exact kz 3 rfl (aF rtT)
 ·rw[ξ (Ae hb)];refine aD (sk 2 rfl (kc hi ?_));exact kz 1 rfl (aF rtT)
end Go.Proofs.YtkhgpgihmphfdaaGreat
