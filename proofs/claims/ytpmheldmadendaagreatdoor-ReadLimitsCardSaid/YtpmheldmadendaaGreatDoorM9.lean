/-
  Texts Rd25 to Rd36 in one.
-/
import Derived.Test.YtpmheldmadendaaGreatDoorM8
open List (append_assoc append_nil cons_append dropWhile_cons length_append length_cons length_map length_nil length_pos_iff length_set length_singleton length_tail length_take map_append mem_append mem_cons mem_cons_of_mem mem_cons_self mem_singleton takeWhile_cons take_add_one take_append_drop take_length)
open Nat (le_of_lt le_refl le_trans lt_of_le_of_lt lt_of_lt_of_le lt_succ_self mul_le_mul_right zero_le)
namespace Go.Proofs.YtpmheldmadendaaGreatDoor
open Go Go.AM
set_option maxRecDepth 20000
set_option maxHeartbeats 4000000
def cB:Str:=[59]
def cY (s:Str) (z:Z):Bool:=if s=[] then decide ((aX z).kind=6) else isZ s z
def moreA (shut:Str) (n:Nat) (z:Z):Z:=if 0<n∧z.e=0∧isZ cB z=false∧cY shut z=false then bS 12 (aX z).pl z else z
def cN (z:Z):Z:=if z.e=0 then⟨z.R.dropWhile (isK cB),z.e,z.p⟩ else z
def b5 (shut:Str) (n:Nat) (z:Z):Bool×Z:=
 if ¬(cN (moreA shut n z)).e=0∨cY shut (cN (moreA shut n z))=true then(false,cN (moreA shut n z))
 else(decide ((c7 (n+1) 60 (aX (cN (moreA shut n z))).pl (cN (moreA shut n z))).e=0),c7 (n+1) 60 (aX (cN (moreA shut n z))).pl (cN (moreA shut n z)))
def aOq (z:Z):SR→Sch×Z
 | .ok (s,R')=>(s,⟨R',z.e,z.p⟩)
 | .error (e,p)=>(nQ,⟨z.R,e,p⟩)
def bO (z:Z):Sch×Z:=if z.e=0 then aOq z (cW z.R) else(nQ,z)
def aSf (z:Z):PR→List Prd×Z
 | .ok (s,R')=>(s,⟨R',z.e,z.p⟩)
 | .error (e,p)=>([],⟨z.R,e,p⟩)
def bK (z:Z):List Prd×Z:=if z.e=0 then aSf z (dA z.R) else([],z)
theorem aKg {R:List Tk}{s:Sch}{R':List Tk}(h:cW R=.ok (s,R')):(mZ R→mZ R')∧(∃p,R=p++R'∧1≤p.length)∧WF s.ty∧tn s.ty≤wt R∧(∀p∈s.preds,WF p.ty∧tn p.ty≤wt R)∧s.preds.length≤R.length∧s.vars=aN0 s.preds s.ty:=by
 unfold cW at h;cases hp:dA R with
 | error e=>obtain⟨e,p⟩:=e;rw[hp,pF] at h;cases h
 | ok y=>
  obtain⟨ps,R1⟩:=y;rw[hp,pF] at h;obtain⟨j,⟨q,c,_⟩,r,u⟩:=kG hp;cases hw:cD (3*R1.length+2) 0 R1 with
  | error e=>obtain⟨e,p⟩:=e;rw[hw,pE] at h;cases h
  | ok y=>
   obtain⟨x,R2⟩:=y;rw[hw,pE] at h;obtain⟨⟨g1,⟨A,g2,g3⟩,g4⟩,g5⟩:=eS _ _ _ _ _ hw;cases h;have:wt R1≤wt R:=by rw[c];exact lX
   exact⟨fun he=>g1 (j he),⟨q++A,by rw[c,g2,As],by rw[ζ];omega⟩,g4,by show tn x≤_;omega,r,u,rfl⟩
theorem ZA.scheme {L:List Tk}{z:Z}(h:ZA L z):ZA L (bO z).2:=by
 unfold bO;split
 ·cases hs:cW z.R with
  | error e=>obtain⟨e,p⟩:=e;exact h
  | ok y=>
   obtain⟨s,R'⟩:=y;obtain⟨h1,⟨p,h2,_⟩,_⟩:=aKg hs;exact h.suf h2 (h1 h.e) _ _
 ·exact h
theorem ZA.preds {L:List Tk}{z:Z}(h:ZA L z):ZA L (bK z).2:=by
 unfold bK;split
 ·cases hs:dA z.R with
  | error e=>obtain⟨e,p⟩:=e;exact h
  | ok y=>
   obtain⟨s,R'⟩:=y;obtain⟨h1,⟨p,h2,_⟩,_⟩:=kG hs;exact h.suf h2 (h1 h.e) _ _
 ·exact h
theorem r6 (s:Str):∀{R:List Tk},mZ R→mZ (R.dropWhile (isK s))∧∃p,R=p++R.dropWhile (isK s)
 | [],h=>by obtain⟨t,R',e⟩:=h.ne;cases e
 | t::R,h=>by
  rw[B4];split
  ·rename_i hb;have c:=h.tail (iU hb);obtain⟨h1,p,h2⟩:=r6 s c;exact⟨h1,t::p,by rw[Bl,←h2]⟩
  ·exact⟨h,[],rfl⟩
theorem ZA.semi {L:List Tk}{z:Z}(h:ZA L z):ZA L (cN z):=by
 unfold cN;split
 ·obtain⟨h1,p,h2⟩:=r6 cB h.e;exact h.suf h2 h1 _ _
 ·exact h
theorem ZA.moreA {L:List Tk}{z:Z}(h:ZA L z) (s:Str) (n:Nat):ZA L (moreA s n z):=by
 unfold Proofs.YtpmheldmadendaaGreatDoor.moreA;split
 ·exact h.fail _ _
 ·exact h
theorem ZA.more {L:List Tk}{z:Z}(h:ZA L z) (s:Str) (n:Nat):ZA L (b5 s n z).2:=by
 unfold b5;split
 ·exact(h.moreA s n).semi
 ·exact(h.moreA s n).semi.long _ _ _
theorem sP {L:List Tk}{z:Z}(he:z.e=0) (x:Ty) (ps vs:C) (R':List Tk):b8 Tryz.prog 160 [xP,.pa (uW x ps vs ((L.length-R'.length:Nat):Int) 0 0)] [(700,zO L z)] (.pa (uW x ps vs ((L.length-R'.length:Nat):Int) 0 0)) [(700,zO L ⟨R',z.e,z.p⟩)]:=by
 have ho:=eO L z;rw[φ he] at ho;refine bM (n:=25) tok Tryz.func160 rfl rfl rfl ?_;refine sg rfl (aA (sk 1 rfl (kc ho ?_)));exact kz 1 rfl (aB rfl (fun hb=>absurd hb (by decide)) (fun _=>aD (aA (sg rfl (aB rfl (fun hb=>absurd hb (by decide)) (fun _=>aD (sg rfl (sg rfl (aE (rtC trw))))))))))
theorem qG {L:List Tk}{z:Z}(he:z.e=0) (e p:Int) (c:¬e=0):b8 Tryz.prog 160 [xP,.pa (uW zTy .nl .nl 0 e p)] [(700,zO L z)] (.pa (uW zTy .nl .nl 0 0 0)) [(700,zO L ⟨z.R,e,p⟩)]:=by
 have ho:=eO L z;rw[φ he] at ho;have d:(!decide (e=0))=true:=by rw[ψ c];rfl
 refine bM (n:=25) tok Tryz.func160 rfl rfl rfl ?_;refine sg rfl (aA (sk 1 rfl (kc ho ?_)));exact kz 1 rfl (aB rfl (fun hb=>absurd hb (by decide)) (fun _=>aD (aA (sg rfl (aB rfl (fun _=>sg rfl (sg rfl (aE (rtC trw)))) (fun hb=>absurd (hb.symm.trans d) (by decide)))))))
theorem qH {L:List Tk}{z:Z}(h:ZA L z) (hwt:wt L≤30000):b8 Tryz.prog 122 [xP] [(700,zO L z)] (.pa (eH (bO z).1)) [(700,zO L (bO z).2)]:=by
 have ho:=eO L z;refine bM (n:=26) tok Tryz.func122 rfl rfl rfl ?_;refine sg rfl (aA (sk 1 rfl (kc ho ?_)));refine kz 1 rfl ?_;unfold bO;by_cases he:z.e=0
 case neg=>
  rw[ξ he];exact aB rfl (fun _=>sg rfl (aE (rtC trw))) (fun hb=>absurd hb (by simp[he]))
 rw[θ he];have j:=aGb L z.R _ h hwt;have c:= @pD z.R;refine aB rfl (fun hb=>absurd hb (by simp[he])) (fun _=>aD (sk 9 rfl (kc j ?_)));generalize cW z.R=w at c ⊢;cases w with
 | error e=>
  obtain⟨e,p⟩:=e;have ht:=qG (L:=L) he e p (c rfl);refine kc ht ?_;exact kz 2 rfl (sg rfl (aE (rtC trw)))
 | ok y=>
  obtain⟨s,R'⟩:=y;have ht:=sP (L:=L) he s.ty (.sl 5 (s.preds.map aM)) (.sl 1 (s.vars.map bE)) R';rw[aKh];refine kc ht ?_;exact kz 2 rfl (sg rfl (aE (rtC trw)))
theorem aAn {L:List Tk}{z:Z}(h:ZA L z):b8 Tryz.prog 162 [xP] [(700,zO L z)] (.one (.c (.sl 5 ((bK z).1.map aM)))) [(700,zO L (bK z).2)]:=by
 have ho:=eO L z;refine bM (n:=18) tok Tryz.func162 rfl rfl rfl ?_;refine sg rfl (aA (sk 1 rfl (kc ho ?_)));refine kz 1 rfl ?_;unfold bK;by_cases he:z.e=0
 case neg=>
  rw[ξ he];exact aB rfl (fun _=>sg rfl (aE rtT)) (fun hb=>absurd hb (by simp[he]))
 rw[θ he];have q:=aAs L z.R _ h;have j:= @fV z.R;refine aB rfl (fun hb=>absurd hb (by simp[he])) (fun _=>aD (sk 9 rfl (kc q ?_)));generalize dA z.R=w at j ⊢;cases w with
 | error e=>
  obtain⟨e,p⟩:=e;have ht:=qG (L:=L) he e p (j rfl);refine kc ht ?_;exact kz 2 rfl (aE rtT)
 | ok y=>
  obtain⟨s,R'⟩:=y;have ht:=sP (L:=L) he zTy (.sl 5 (s.map aM)) .nl R';rw[pM];refine kc ht ?_;exact kz 2 rfl (aE rtT)
theorem aFw {L:List Tk}{z:Z}(h:ZA L z) (s:Str):b8 Tryz.prog 154 [xP,Go.AM.T s] [(700,zO L z)] (B (cY s z)) [(700,zO L z)]:=by
 have hn:=fA h;have hi:=aF5 h s;refine bM (n:=14) tok Tryz.func154 rfl rfl rfl ?_;refine sg rfl (aA (sg rfl ?_));unfold cY;refine aB rfl (fun hb=>?_) (fun hb=>?_)
 ·rw[θ (χ hb)];refine sk 1 rfl (kc hn ?_);exact kz 3 rfl (aE rtT)
 ·rw[ξ (Ad hb)];refine aD (sk 2 rfl (kc hi ?_));exact kz 1 rfl (aE rtT)
theorem kI {L:List Tk}{z:Z}(h:ZA L z):cN (bP cB z).2=cN z∧((bP cB z).1=false→(bP cB z).2=z∧cN z=z)∧((bP cB z).1=true→(bP cB z).2.R.length<z.R.length):=by
 obtain⟨R,e,p⟩:=z;obtain⟨t,R,rfl⟩:=h.e.ne;unfold bP;split
 ·rename_i hc;have c:isK cB t=true:=hc.2;refine⟨?_,fun e=>Bool.noConfusion e,fun _=>by show R.length<(t::R).length;rw[ε];omega⟩;unfold cN;have he:e=0:=hc.1;rw[θ he,θ he];show Z.mk (R.dropWhile _) _ _=Z.mk ((t::R).dropWhile _) _ _;rw[B4,θ c]
 ·rename_i hc;refine⟨rfl,fun _=>⟨rfl,?_⟩,fun e=>Bool.noConfusion e⟩;unfold cN;split
  ·rename_i he;have c:¬isK cB t=true:=fun c=>hc ⟨he,c⟩
   rw[show(Z.mk (t::R) e p).R.dropWhile (isK cB)=t::R from by show(t::R).dropWhile _=_;rw[B4,ξ c]]
  ·rfl
theorem qJ {L:List Tk}{z:Z}(h:ZA L z) (s:Str) (n:Nat) (hnl:n≤4001):b8 Tryz.prog 93 [xP,Go.AM.T s,I .i64 (n:Nat)] [(700,zO L z)] (B (b5 s n z).1) [(700,zO L (b5 s n z).2)]:=by
 have ho:=eO L z;have hi:=aF5 h cB;have hs:=aFw h s;have hn:=fA h;have hf:=dI L z 12 (aX z).pl;have A:=h.moreA s n;have c:∀q st,ZA L q→Sub (keys [(700,zO L z)]) (mk [(0,xP),(1,Go.AM.T s),(2,I .i64 (n:Nat))] [(700,zO L q)]) st→moreA s n z=q→
   AWp none Tryz.prog 48 (keys [(700,zO L z)]) (hJ (hJ (Tryz.f93.body.getD .skip))) st (fun ex st=>(ex=.normal∨ex=.ret)∧Fin tr.flat Tryz.f93 st [(700,zO L z)] (B (b5 s n z).1) [(700,zO L (b5 s n z).2)]):=fun q st h1 J M=>by
  refine AWp.sub J ?_;unfold b5;rw[M];refine aA (aF (aK (fun z2:Z=>mk [(0,xP),(1,Go.AM.T s),(2,I .i64 (n:Nat))] [(700,zO L z2)]) (fun z2=>ZA L z2∧cN q=cN z2) (fun z2=>z2.R.length) q ⟨h1,rfl⟩ sl ?_));rintro z2 ⟨h2,O⟩;have hm:=gX h2 cB;obtain⟨m1,m2,m3⟩:=kI h2;refine aA (sk 1 rfl (kc hm ?_));refine az ?_;have E:=h2.may cB;generalize bP cB z2=m at m1 m2 m3 E ⊢;obtain⟨b,z3⟩:=m;refine aB rfl (fun hb=>?_) (fun hb=>?_)
  ·have hb:b=true:=hb;exact aD (aF (aD ⟨z3,⟨E,O.trans m1.symm⟩,m3 hb,sl⟩))
  ·have hb:b=false:=hb;have e3:cN q=z3:=by
    dsimp only at m2;obtain⟨g1,g2⟩:=m2 hb;rw[O,g2,g1]
   rw[e3];have U:ZA L z3:=E;have r:=eO L z3;have Y:=aFw U s;have aa:=fA U;have ab:=jY L z3 (n+1) 60 (aX z3).pl;refine aH ?_;by_cases u:z3.e=0
   case neg=>
    rw[θ (.inl u)];rw[ψ u] at r;refine aA (sk 1 rfl (kc r ?_));exact ak 6 [(3,.bv true),(7,.bv true)] rfl (az (aB rfl (fun _=>sg rfl (aE rtT)) (fun hb=>absurd hb (by decide))))
   rw[φ u] at r;refine aA (sk 1 rfl (kc r ?_));refine ak 4 [(3,.bv false)] rfl (kcG Y ?_);refine ak 1 [(3,.bv false),(7,.bv false)] rfl (az ?_);cases j:cY s z3 with
   | true=>
    rw[θ (.inr rfl)];exact aB rfl (fun _=>sg rfl (aE rtT)) (fun hb=>absurd hb (by decide))
   | false=>
    rw[ξ (by rintro(h | h);exact h u;cases h)];refine aB rfl (fun hb=>absurd hb (by decide)) (fun _=>aD (aA (aC mixed (akN 4 [] rfl (kc aa ?_)))));refine ak 1 [] rfl (kc ab ?_);refine az ?_;have ac:=eO L (c7 (n+1) 60 (aX z3).pl z3);refine sk 1 rfl (kc ac ?_);exact kz 1 rfl (aE rtT)
 have hfz:=h.fail 12 (aX z).pl;refine bM (n:=48) tok Tryz.func93 rfl rfl rfl ?_;refine sg rfl ?_;unfold moreA at A c;by_cases h0:0<n
 case neg=>
  have d0:decide ((0:Int)<(n:Int))=false:=ψ (by omega);rw[ξ (fun h=>h0 h.1)] at A c;exact aA (sgh [(2,.bv false),(5,.bv false),(6,.bv false),(10,.bv false),(11,.bv false),(16,.bv false)] rfl (aB rfl (fun hb=>absurd hb (by decide)) (fun _=>aD (c z _ h sl rfl))))
 have d0:decide ((0:Int)<(n:Int))=true:=φ (by omega);by_cases he:z.e=0
 case neg=>
  rw[ξ (fun h=>he h.2.1)] at A c;rw[ψ he] at ho;refine aA (skh 4 [(2,.bv true)] rfl (kcG ho ?_));exact ak 12 [(2,.bv true),(5,.bv true),(6,.bv false),(10,.bv false),(11,.bv false),(16,.bv false)] rfl (az (aB rfl (fun hb=>absurd hb (by decide)) (fun _=>aD (c z _ h sl rfl))))
 rw[φ he] at ho;cases y:isZ cB z with
 | true=>
  rw[ξ (fun h=>by rw[y] at h;cases h.2.2.1)] at A c;rw[y] at hi;refine aA (skh 4 [(2,.bv true)] rfl (kcG ho ?_));refine ak 3 [(2,.bv true),(5,.bv true),(6,.bv true)] rfl (kcG hi ?_);exact ak 9 [(6,.bv true),(10,.bv true),(11,.bv false),(16,.bv false)] rfl (az (aB rfl (fun hb=>absurd hb (by decide)) (fun _=>aD (c z _ h sl rfl))))
 | false=>
 rw[y] at hi;cases j:cY s z with
 | true=>
  rw[ξ (fun h=>by rw[j] at h;cases h.2.2.2)] at A c;rw[j] at hs;refine aA (skh 4 [(2,.bv true)] rfl (kcG ho ?_));refine ak 3 [(2,.bv true),(5,.bv true),(6,.bv true)] rfl (kcG hi ?_);refine ak 5 [(6,.bv true),(10,.bv true),(11,.bv true)] rfl (kcG hs ?_);exact ak 2 [(11,.bv true),(16,.bv true)] rfl (az (aB rfl (fun hb=>absurd hb (by decide)) (fun _=>aD (c z _ h sl rfl))))
 | false=>
  rw[θ ⟨h0,he,y,j⟩] at A c;rw[j] at hs;refine aA (skh 4 [(2,.bv true)] rfl (kcG ho ?_));refine ak 3 [(2,.bv true),(5,.bv true),(6,.bv true)] rfl (kcG hi ?_);refine ak 5 [(6,.bv true),(10,.bv true),(11,.bv true)] rfl (kcG hs ?_);refine ak 2 [(11,.bv true),(16,.bv true)] rfl (az (aB rfl (fun _=>aC mixed (ak 2 [] rfl (kc hn ?_))) (fun hb=>absurd hb (by decide))));refine ak 1 [] rfl (kc hf ?_);exact az (c _ _ hfz sl rfl)
theorem ZA.len {L:List Tk}{z:Z}(h:ZA L z):z.R.length≤4001:=by
 have h1:=h.lt;have h2:=h.l;omega
theorem oN {L:List Tk}{z:Z}(h:ZA L z):b8 Tryz.prog 157 [xP] [(700,zO L z)] (.one (.c (.sl 4 ((aV z).1.map aG)))) [(700,zO L (aV z).2)]:=by
 refine bM (n:=18) tok Tryz.func157 rfl rfl rfl ?_;refine sg rfl (sg rfl (AWp.sub (Sub.own (t:=3) (id:=500) 152 4 rfl rfl) ?_));refine aA (aF (aK (fun q:List Tk×Z=>mk [(0,xP),(3,.one (.hs 500 0 q.1.length q.1.length))] [(700,zO L q.2),(500,.arr 152 4 (q.1.map aG) 0)]) (fun q=>ZA L q.2∧q.1.length+q.2.R.length≤4001∧q.1++(aV q.2).1=(aV z).1∧(aV q.2).2=(aV z).2) (fun q=>q.2.R.length) ([],z) ⟨h,by dsimp only;have:=h.len;rw[length_nil];omega,rfl,rfl⟩ sl ?_));rintro⟨out,I⟩ ⟨j,hlen,B,E⟩;dsimp only at j hlen B E ⊢;rw[←B,←E];clear B E;have hout:(out.map aG).length=out.length:=η _;have ho:=eO L I;have hn:=fA j;have hw:=gZ j 1 (by decide);obtain⟨R,e,p⟩:=I;obtain⟨t,R,rfl⟩:=j.e.ne;by_cases he:e=0
 case neg=>
  rw[show decide ((Z.mk (t::R) e p).e=0)=false from ψ he] at ho;refine aA (sk 1 rfl (kc ho ?_));refine ak 6 [(2,.bv false),(7,.bv false)] rfl (az (aB rfl (fun hb=>absurd hb (by decide)) (fun _=>aH (AWp.sub (Sub.freeze (id:=500) rfl) ?_))));refine sg rfl ?_;unfold aV;rw[ξ he,Cc];exact aE (rtH (hsz:=hout.symm) (hlen:=hout.symm))
 rw[show decide ((Z.mk (t::R) e p).e=0)=true from φ he] at ho;have A:aX (Z.mk (t::R) e p)=t:=rfl;rw[A] at hn;refine aA (sk 1 rfl (kc ho ?_));refine ak 2 [(2,.bv true)] rfl (kcG hn ?_);refine ak 3 [(2,.bv true),(7,.bv true)] rfl (az (aB rfl (fun hb=>?_) (fun hb=>?_)))
 ·have r:t.kind=1:=χ hb;have hl:wE t=true:=hb;have O:aR 1 (Z.mk (t::R) e p)=(t,⟨R,e,p⟩):=by unfold aR;rw[θ ⟨he,r⟩];rfl
  rw[O] at hw;have h2:ZA L ⟨R,e,p⟩:=(j.tl (by rw[A,r];decide) e p).1
  have J:aV ⟨t::R,e,p⟩=(t::(aV ⟨R,e,p⟩).1,(aV ⟨R,e,p⟩).2):=by
   unfold aV;rw[θ he,θ he];show((t::R).takeWhile wE,Z.mk ((t::R).dropWhile wE) _ _)=_;rw[takeWhile_cons,θ hl,B4,θ hl]
  have M:out.length+(R.length+1)≤4001:=hlen;refine aD (aF (aC mixed (ak 2 [] rfl (kc hw ?_))));refine ak 3 [(3,.all)] rfl (az ?_);have y:out.map aG++[aG t]=(out++[t]).map aG:=by rw[Ai];rfl
  have u:(out++[t]).length=out.length+1:=by rw[ζ];rfl
  refine⟨(out++[t],⟨R,e,p⟩),⟨h2,by dsimp only;rw[u];omega,by rw[J];simp,by rw[J]⟩,Bk _,?_⟩;exact sl (he:=⟨rfl,Go.AM.hs_ren (by rw[u,←hout];rfl) (by rw[u,←hout];rfl),trivial⟩) (hh:=⟨⟨_,rfl,.var rfl⟩,⟨_,rfl,.arrS y⟩,trivial⟩)
 ·have r:¬wE t=true:=fun h=>by rw[show wE t=false from hb] at h;cases h
  refine aH (AWp.sub (Sub.freeze (id:=500) rfl) ?_);refine sg rfl ?_;unfold aV;rw[θ he];dsimp only;rw[takeWhile_cons,ξ r,Cc,B4,ξ r];exact aE (rtH (hsz:=hout.symm) (hlen:=hout.symm))
theorem aAk (l:List Tk) (hl:l.length≤4001):b8 Tryz.prog 158 [.one (.c (.sl 4 (l.map aG)))] [] (cM (l.map (·.text))) []:=by
 have q:(l.map aG).length=l.length:=η _;refine bM (n:=20) tok Tryz.func158 rfl rfl rfl ?_;refine sg rfl (sg rfl (AWp.sub (Sub.own (t:=3) (id:=500) 9 1 rfl rfl) ?_));refine aA (sg rfl (aF (aK (fun i:Nat=>mk [(0,.one (.c (.sl 4 (l.map aG)))),(3,.one (.hs 500 0 i i)),(4,I .i64 (i:Nat))] [(500,.arr 9 1 (((l.take i).map (·.text)).map bE) 0)]) (fun i=>i≤l.length) (fun i=>l.length-i) 0 (Ac _) sl ?_)));intro i hi;have j:(((l.take i).map (·.text)).map bE).length=i:=by rw[η,η,Am];omega
 refine aA (sg rfl (aB rfl (fun hb=>?_) (fun hb=>?_)))
 ·have r:=ltD hb q;obtain⟨t,ht⟩:=aN r;have A:=aY aG ht;have u:((l.take (i+1)).map (·.text)).map bE=((l.take i).map (·.text)).map bE++[[.str t.text]]:=by rw[A7,ht,Ai,Ai];rfl
  exact aD (aA (aF (ag [(3,.row i (aG t)),(6,.all)] rfl (agN [] rfl ⟨i+1,r,by dsimp only;omega,sl (he:=⟨rfl,Go.AM.hs_ren (congrArg (· +1) j) (congrArg (· +1) j),rfl,trivial⟩) (hh:=⟨⟨_,rfl,.arrS u.symm⟩,trivial⟩)⟩))))
 ·have y:=geD hb q hi;subst y;rw[Aq] at j ⊢;refine aH (AWp.sub (Sub.freeze (id:=500) rfl) ?_);exact sg rfl (aE (rtH (hsz:=j.symm) (hlen:=j.symm)))
structure Cn where
 name:Str
 pl:Int
 fields:List Ty
structure Dt where
 name:Str
 pl:Int
 vars:List Str
 cons:List Cn
def fE (c:Cn):List C:=[.str c.name,.int .i64 c.pl,.sl 4 (c.fields.map bL)]
def fM (d:Dt):List C:=[.str d.name,.int .i64 d.pl,.sl 1 (d.vars.map bE),.sl 1 [],.sl 3 (d.cons.map fE)]
def eqS:Str:=[61]
def tK:Str:=[124]
def aK2 (z:Z):Bool:=decide ((aX z).kind=1) || (decide ((aX z).kind=2) || isZ c8 z)
def atZ (z:Z):TR→Ty×Z
 | .ok (x,R')=>(x,⟨R',z.e,z.p⟩)
 | .error (e,p)=>(zTy,⟨z.R,e,p⟩)
def eQ (z:Z):Ty×Z:=atZ z (cX (3*z.R.length) 0 z.R)
def cA:Nat→List Ty→Z→List Ty×Z
 | 0,out,z=>(out,z)
 | f+1,out,z=>if z.e=0∧aK2 z=true then cA f (out++[(eQ z).1]) (eQ z).2 else(out,z)
def rA (z:Z):Cn×Z:=
 (⟨(aR 2 z).1.text,(aR 2 z).1.pl,(cA ((aR 2 z).2.R.length+1) [] (aR 2 z).2).1⟩,
  c7 (cA ((aR 2 z).2.R.length+1) [] (aR 2 z).2).1.length 8 (aR 2 z).1.pl (cA ((aR 2 z).2.R.length+1) [] (aR 2 z).2).2)
def jV:Nat→Int→List Cn→Z→List Cn×Z
 | 0,_,out,z=>(out,z)
 | f+1,a,out,z=>
  if(bP tK (c7 (out++[(rA z).1]).length 16 a (rA z).2)).1=true then jV f a (out++[(rA z).1]) (bP tK (c7 (out++[(rA z).1]).length 16 a (rA z).2)).2
  else(out++[(rA z).1],(bP tK (c7 (out++[(rA z).1]).length 16 a (rA z).2)).2)
def kU (z:Z):Tk×List Tk×Z:=((aR 2 z).1,(aV (aR 2 z).2).1,aQ eqS (c7 (aV (aR 2 z).2).1.length 8 (aR 2 z).1.pl (aV (aR 2 z).2).2))
def jU (h:Tk×List Tk×Z):List Cn×Z:=if h.2.2.e=0 then jV (h.2.2.R.length+1) h.1.pl [] h.2.2 else([],h.2.2)
def kT (z:Z):Dt×Z:=(⟨(kU z).1.text,(kU z).1.pl,(kU z).2.1.map (·.text),(jU (kU z)).1⟩,(jU (kU z)).2)
def Ze (z z':Z):Prop:=z'.R.length≤z.R.length
theorem Ze.refl (z:Z):Ze z z:=le_refl _
theorem Ze.trans {a b c:Z}(h:Ze a b) (k:Ze b c):Ze a c:=le_trans k h
theorem Ze.fail (e p:Int) (z:Z):Ze z (bS e p z):=by unfold Ze;rw[xG];exact le_refl _
theorem Ze.may (s:Str) (z:Z):Ze z (bP s z).2:=by
 unfold Ze bP;split
 ·show z.R.tail.length≤_;rw[length_tail];omega
 ·exact le_refl _
theorem Ze.need (s:Str) (z:Z):Ze z (aQ s z):=by
 unfold aQ;split
 ·exact Ze.may s z
 ·exact Ze.fail _ _ z
theorem Ze.word (k:Int) (z:Z):Ze z (aR k z).2:=by
 unfold aR;split
 ·show z.R.tail.length≤_;rw[length_tail];omega
 ·exact Ze.fail _ _ z
theorem Ze.long (n c:Nat) (a:Int) (z:Z):Ze z (c7 n c a z):=by
 unfold c7;split
 ·exact Ze.fail _ _ z
 ·exact Ze.refl z
theorem jS {α:Type}(p:α→Bool):∀l:List α,(l.dropWhile p).length≤l.length
 | []=>le_refl _
 | a::l=>by
  rw[B4];split
  ·have:=jS p l;rw[ε];omega
  ·exact le_refl _
theorem jD {α:Type}(p:α→Bool):∀l:List α,(l.takeWhile p).length≤l.length
 | []=>le_refl _
 | a::l=>by
  rw[takeWhile_cons];split
  ·have:=jD p l;rw[ε,ε];omega
  ·exact Ac _
theorem Ze.words (z:Z):Ze z (aV z).2:=by
 unfold aV;split
 ·exact jS _ _
 ·exact Ze.refl z
theorem ZA.wt {L:List Tk}{z:Z}(h:ZA L z):wt z.R≤wt L:=by
 have e:L.take (L.length-z.R.length)++z.R=L:=by
  have:=take_append_drop (L.length-z.R.length) L;rwa [h.d] at this
 have:=lX (p:=L.take (L.length-z.R.length)) (R:=z.R);rwa [e] at this
theorem ZA.lp {L:List Tk}{z:Z}(h:ZA L z):1≤z.R.length:=h.lt.2
theorem sX {L:List Tk}{z:Z}(h:ZA L z):ZA L (eQ z).2∧WF (eQ z).1∧tn (eQ z).1≤wt z.R∧((eQ z).2.e=0→(eQ z).2.R.length<z.R.length)∧Ze z (eQ z).2:=by
 unfold eQ;have hok:=gN (3*z.R.length) 0 z.R;have c:=dP (3*z.R.length) 0 z.R;generalize cX (3*z.R.length) 0 z.R=w at hok c ⊢;cases w with
 | error e=>
  obtain⟨e,p⟩:=e;have:=c e p rfl;refine⟨h,⟨rfl,rfl⟩,?_,fun h0=>absurd h0 this,Ze.refl z⟩;show tn zTy≤_;obtain⟨t,R',j⟩:=h.e.ne;rw[j,fR];have:tn zTy=1:=by unfold zTy;rw[tn,tns];rfl
  omega
 | ok y=>
  obtain⟨x,R'⟩:=y;obtain⟨⟨h1,⟨p,h2,r⟩,q⟩,u⟩:=hok x R' rfl;have hl:R'.length<z.R.length:=by rw[h2,ζ];omega
  exact⟨h.suf h2 (h1 h.e) _ _,q,by show tn x≤_;omega,fun _=>hl,le_of_lt hl⟩
theorem aM9 {L:List Tk}{z:Z}(h:ZA L z) (he:z.e=0):∃(y:List C) (ps vs:C) (i e p:Int),b8 Tryz.prog 161 [nB L,I .i64 ((L.length-z.R.length:Nat):Int),I .i64 0] [] (.pa y) []∧b8 Tryz.prog 160 [xP,.pa y] [(700,zO L z)] (.pa (uW (eQ z).1 ps vs i e p)) [(700,zO L (eQ z).2)]:=by
 have c:=(aC9 L (3*z.R.length)).1 (3*z.R.length) (le_refl _) 0 z.R _ h (le_refl _) (by decide);have j:=dP (3*z.R.length) 0 z.R;unfold eQ;generalize cX (3*z.R.length) 0 z.R=w at c j ⊢;cases w with
 | error e=>
  obtain⟨e,p⟩:=e;exact⟨_,.nl,.nl,0,0,0,c,qG he e p (j e p rfl)⟩
 | ok y=>
  obtain⟨x,R'⟩:=y;exact⟨_,.nl,.nl,_,0,0,c,sP he x .nl .nl R'⟩
theorem nM {L:List Tk}:∀(f:Nat) (out:List Ty) (z:Z),ZA L z→(∀x∈out,WF x∧tn x≤wt L)→out.length+z.R.length≤4001→
  ZA L (cA f out z).2∧(∀x∈(cA f out z).1,WF x∧tn x≤wt L)∧Ze z (cA f out z).2∧(cA f out z).1.length≤4002
 | 0,out,z,h,ho,hl=>⟨h,ho,Ze.refl z,by rw[cA];dsimp only;omega⟩
 | f+1,out,z,h,ho,hl=>by
  rw[cA];split
  ·rename_i hc;obtain⟨g1,g2,g3,g4,g5⟩:=sX h;have A:=h.wt;have c:∀x∈out++[(eQ z).1],WF x∧tn x≤wt L:=fun x hx=>by
    rcases Bi.1 hx with hx | hx
    ·exact ho x hx
    ·rw[A4.1 hx];exact⟨g2,by omega⟩
   by_cases he:(eQ z).2.e=0
   ·have B:=g4 he;obtain⟨j,q,r,u⟩:=nM f (out++[(eQ z).1]) (eQ z).2 g1 c (by rw[ζ,Bc];omega);exact⟨j,q,g5.trans r,u⟩
   ·have y:cA f (out++[(eQ z).1]) (eQ z).2=(out++[(eQ z).1],(eQ z).2):=by
     cases f with
     | zero=>rfl
     | succ f=>rw[cA,ξ (fun h=>he h.1)]
    rw[y];exact⟨g1,c,g5,by rw[ζ,Bc];have:=h.lp;omega⟩
  ·exact⟨h,ho,Ze.refl z,by dsimp only;omega⟩
theorem jQ {f:Nat}{out:List Ty}{z:Z}(h:¬(z.e=0∧aK2 z=true)):cA f out z=(out,z):=by
 cases f with
 | zero=>rfl
 | succ f=>rw[cA,ξ h]
def dEl:List (Nat×V):=[(0,xP),(2,.one (.vp 2 0)),(3,.one (.vp 3 0)),(5,.one (.vp 5 0)),(7,.one (.vp 7 0)),(8,.one (.vp 8 0))]
def dHl (L:List Tk) (z:Z) (nm:Tk) (vs:List Tk) (out:List Cn) (cn:Tk) (fs:List Ty):List (Nat×AObj):=[(700,zO L z),(2,.var 81 [.c (.str []),.c (.int .i64 0),.c .nl,.c .nl,.c .nl]),(3,.var 152 ((aG nm).map .c)),(5,.var 81 [.c (.str nm.text),.c (.int .i64 nm.pl),.c (.sl 1 ((vs.map (·.text)).map bE)),.c .nl,.hs 502 0 out.length out.length]),(7,.var 152 ((aG cn).map .c)),(8,.var 84 [.c (.str cn.text),.c (.int .i64 cn.pl),.hs 501 0 fs.length fs.length]),(501,.arr 47 4 (fs.map bL) 0),(502,.arr 84 3 (out.map fE) 0)]
theorem aM3 {L:List Tk}{z:Z}(h:ZA L z):b8 Tryz.prog 95 [xP] [(700,zO L z)] (.pa (fM (kT z).1)) [(700,zO L (kT z).2)]:=by
 have hw:=gZ h 2 (by decide);have h1:=h.word (k:=2) (by decide);have J:=Ze.word 2 z;unfold kT kU;generalize aR 2 z=x1 at hw h1 J ⊢;obtain⟨r,A⟩:=x1;dsimp only at hw h1 J ⊢;have U:=oN h1;have h2:=h1.words;have l2:=Ze.words A;have ab:(aV A).1.length≤4001:=by
  unfold aV;split
  ·have:=jD wE A.R;have:=h1.len;dsimp only;omega
  ·exact Ac _
 generalize aV A=x2 at U h2 l2 ab ⊢;obtain⟨vs,z2⟩:=x2;dsimp only at U h2 l2 ab ⊢;have htx:=aAk vs ab;have ac:=jY L z2 vs.length 8 r.pl;have h3:=h2.long vs.length 8 r.pl;have l3:=Ze.long vs.length 8 r.pl z2;generalize c7 vs.length 8 r.pl z2=z3 at ac h3 l3 ⊢;have ad:=cP h3 eqS;have h4:=h3.need eqS;have l4:=Ze.need eqS z3;generalize aQ eqS z3=z4 at ad h4 l4 ⊢;have hok:=eO L z4;have hvk:(vs.map aG).length=vs.length:=η _;refine bM (n:=96) tok Tryz.func95 rfl rfl rfl ?_;refine sg rfl (sk 1 rfl (kc hw ?_));refine kz 2 rfl (sk 1 rfl (kc U ?_));refine kz 1 rfl (sk 5 rfl ?_);rw[hvk];refine kc ac ?_;refine az (sk 5 rfl (kc htx ?_));refine kz 3 rfl (sk 1 rfl (kc ad ?_));refine az (aA (sk 1 rfl (kc hok ?_)));refine kz 1 rfl (AWp.sub (Sub.ownCell (x:=5) (k:=4) (id:=502) 84 3 rfl rfl rfl) ?_);have hWx:∃W,W=jU (r,vs,z4):=⟨_,rfl⟩
 obtain⟨W,j⟩:=hWx;rw[←j];have hlen4:=h4.len;have Y:((decide (z4.e=0)=true∧W=jV (z4.R.length+1) r.pl [] z4∧z4.R.length<z4.R.length+1∧([]:List Cn).length+z4.R.length≤4001)∨(decide (z4.e=0)=false∧W=(([]:List Cn),z4))):=by
  unfold jU at j;by_cases he:z4.e=0
  ·refine .inl ⟨φ he,?_,by omega,by rw[length_nil];omega⟩;rw[j];exact θ he
  ·refine .inr ⟨ψ he,?_⟩;rw[j];exact ξ he
 refine aF (aK (fun q:Bool×List Cn×Z×Nat=>mk [(0,xP),(2,.one (.vp 2 0)),(3,.one (.vp 3 0)),(5,.one (.vp 5 0)),(6,B q.1)] [(700,zO L q.2.2.1),(2,.var 81 [.c (.str []),.c (.int .i64 0),.c .nl,.c .nl,.c .nl]),(3,.var 152 ((aG r).map .c)),(5,.var 81 [.c (.str r.text),.c (.int .i64 r.pl),.c (.sl 1 ((vs.map (·.text)).map bE)),.c .nl,.hs 502 0 q.2.1.length q.2.1.length]),(502,.arr 84 3 (q.2.1.map fE) 0)]) (fun q=>ZA L q.2.2.1∧((q.1=true∧W=jV q.2.2.2 r.pl q.2.1 q.2.2.1∧q.2.2.1.R.length<q.2.2.2∧q.2.1.length+q.2.2.1.R.length≤4001)∨(q.1=false∧W=(q.2.1,q.2.2.1)))) (fun q=>if q.1=true then q.2.2.1.R.length+1 else 0) (decide (z4.e=0),[],z4,z4.R.length+1) ⟨h4,Y⟩ sl ?_);clear Y j hw h1 J U h2 l2 htx ac h3 l3 ad l4 hok;rintro⟨more,out,z0,f⟩ ⟨h,hinv⟩;dsimp only at h hinv ⊢;have hout:(out.map fE).length=out.length:=η _;refine aA (sg rfl ?_);rcases hinv with⟨hm,j,hf,hol⟩ | ⟨hm,j⟩
 case inr=>
  subst hm;refine aB rfl (fun hb=>absurd hb (by decide)) (fun _=>aH (AWp.sub (Sub.freeze (id:=502) rfl) ?_));refine sg rfl ?_;rw[j];exact aE (rtC trw)
 subst hm;obtain⟨f,rfl⟩:∃g,f=g+1:=⟨f-1,by omega⟩
 rw[jV] at j;unfold rA at j;have hw:=gZ h 2 (by decide);have h1:=h.word (k:=2) (by decide);have J:=Ze.word 2 z0;generalize aR 2 z0=x1 at hw h1 J j;obtain⟨u,A⟩:=x1;dsimp only at hw h1 J j;refine aB rfl (fun _=>aD (aA (aF (sk 1 rfl (kc hw ?_))))) (fun hb=>absurd hb (by decide));refine kz 2 rfl (sg rfl (AWp.sub (Sub.ownCell (x:=8) (k:=2) (id:=501) 47 4 rfl rfl rfl) ?_));have hlen1:=h1.len;have hwtL:wt L≤wt L:=le_refl _;obtain⟨k2,k3,k4,k5⟩:=nM (A.R.length+1) [] A h1 (fun x hx=>by cases hx) (by rw[length_nil];omega);have hFx:∃F,F=cA (A.R.length+1) [] A:=⟨_,rfl⟩
 obtain⟨F,I⟩:=hFx;rw[←I] at k2 k3 k4 k5 j;refine aA (aF (aK (fun q:List Ty×Z×Nat=>mk dEl (dHl L q.2.1 r vs out u q.1)) (fun q=>ZA L q.2.1∧F=cA q.2.2 q.1 q.2.1∧(q.2.1.e=0→q.2.1.R.length<q.2.2)∧(q.2.1.e=0→q.1.length+q.2.1.R.length≤4001)∧q.1.length≤4002) (fun q=>if q.2.1.e=0 then q.2.1.R.length+1 else 0) ([],A,A.R.length+1) ⟨h1,I,fun _=>by dsimp only;omega,fun _=>by dsimp only;rw[length_nil];omega,Ac _⟩ sl ?_))
 ·clear I hw h1 hlen1;rintro⟨fs,z,g⟩ ⟨h,I,hg,ae,hfl⟩;dsimp only at h I hg ae hfl ⊢;have aa:(fs.map bL).length=fs.length:=η _;have ho:=eO L z;have hn:=fA h;have hi:=aF5 h c8;refine aA (aA (AWp.cut (mk ((57,B (decide (z.e=0)&&aK2 z))::dEl) (dHl L z r vs out u fs)) ?_ ?_))
  ·unfold aK2;by_cases he:z.e=0
   case neg=>
    rw[ψ he] at ho ⊢;rw[Bw];refine aC mixed (ak 1 [] rfl (kc ho ?_));exact ak 16 [(2,.bv false),(17,.bv false)] rfl (az sl)
   rw[φ he] at ho ⊢;rw[Bz];by_cases h1:(aX z).kind=1
   ·have d1:decide ((aX z).kind=1)=true:=φ h1;rw[d1,Bx];refine aC mixed (ak 1 [] rfl (kc ho ?_));refine ak 2 [(2,.bv true)] rfl (kcG hn ?_);exact ak 13 [(2,.bv true),(7,.bv true),(12,.bv true),(13,.bv true),(16,.bv true),(17,.bv true)] rfl (az sl)
   have d1:decide ((aX z).kind=1)=false:=ψ h1;rw[d1,Az];by_cases h2:(aX z).kind=2
   ·have d2:decide ((aX z).kind=2)=true:=φ h2;rw[d2,Bx];refine aC mixed (ak 1 [] rfl (kc ho ?_));refine ak 2 [(2,.bv true)] rfl (kcG hn ?_);refine ak 4 [(2,.bv true),(7,.bv false)] rfl (kcG hn ?_);exact ak 8 [(2,.bv true),(7,.bv false),(12,.bv false),(13,.bv true),(16,.bv true),(17,.bv true)] rfl (az sl)
   ·have d2:decide ((aX z).kind=2)=false:=ψ h2;rw[d2,Az];refine aC mixed (ak 1 [] rfl (kc ho ?_));refine ak 2 [(2,.bv true)] rfl (kcG hn ?_);refine ak 4 [(2,.bv true),(7,.bv false)] rfl (kcG hn ?_);refine ak 5 [(2,.bv true),(7,.bv false),(12,.bv false),(13,.bv false)] rfl (kcG hi ?_);exact ak 2 [(2,.bv true),(13,.bv false),(16,.bv false),(17,.bv true)] rfl (az sl)
  refine aB rfl (fun hb=>?_) (fun hb=>?_)
  ·rw[τ] at hb;have he:z.e=0:=χ hb.1;obtain⟨y,ps,w,i,e,p,ha,ht⟩:=aM9 h he;obtain⟨g1,g2,g3,g4,g5⟩:=sX h;obtain⟨g,rfl⟩:∃k,g=k+1:=⟨g-1,by have:=hg he;omega⟩
   rw[cA,θ ⟨he,hb.2⟩] at I;have hlp:=h.lp;have hol3:=ae he;generalize eQ z=x at ht g1 g2 g3 g4 g5 I;obtain⟨x,z'⟩:=x;dsimp only at ht g1 g2 g3 g4 g5 I;refine aD (aF (aC mixed (ak 11 [] rfl (kc ha ?_))));refine kc ht ?_;refine ak 5 [(14,.all)] rfl (az ?_);have E:fs.map bL++[bL x]=(fs++[x]).map bL:=by rw[Ai];rfl
   have hle:(fs++[x]).length=fs.length+1:=by rw[ζ];rfl
   have g5':z'.R.length≤z.R.length:=g5;have hg:=hg he;refine⟨(fs++[x],z',g),⟨g1,I,fun h0=>by have:=g4 h0;dsimp only;omega,fun h0=>by have:=g4 h0;dsimp only;rw[hle];omega,by dsimp only;rw[hle];omega⟩,?_,?_⟩
   ·dsimp only;rw[θ he];split
    ·rename_i h0;have:=g4 h0;omega
    ·omega
   ·exact sl (he:=⟨rfl,rfl,rfl,rfl,rfl,rfl,trivial⟩) (hh:=⟨⟨_,rfl,.var rfl⟩,⟨_,rfl,.var rfl⟩,⟨_,rfl,.var rfl⟩,⟨_,rfl,.var rfl⟩,⟨_,rfl,.var rfl⟩,⟨_,rfl,.var (by rw[hle,←aa];rfl)⟩,⟨_,rfl,.arrS E⟩,⟨_,rfl,Go.AM.Ole.arr⟩,trivial⟩)
  ·have hb':¬(z.e=0∧aK2 z=true):=fun hh=>by rw[φ hh.1,hh.2] at hb;cases hb
   rw[jQ hb'] at I;subst I;dsimp only at j k2 k3 k4 k5;have af:=jY L z fs.length 8 u.pl;have h5:=h.long fs.length 8 u.pl;have l5:=Ze.long fs.length 8 u.pl z;generalize c7 fs.length 8 u.pl z=z5 at af h5 l5 j;have E:out.map fE++[[.str u.text,.int .i64 u.pl,.sl 4 (fs.map bL)]]=(out++[(⟨u.text,u.pl,fs⟩:Cn)]).map fE:=by rw[Ai];rfl
   have hle:(out++[(⟨u.text,u.pl,fs⟩:Cn)]).length=out.length+1:=by rw[ζ];rfl
   generalize hO:out++[(⟨u.text,u.pl,fs⟩:Cn)]=O at j E hle;have hl2:=jY L z5 O.length 16 r.pl;have h6:=h5.long O.length 16 r.pl;have l6:=Ze.long O.length 16 r.pl z5;generalize c7 O.length 16 r.pl z5=M at hl2 h6 l6 j;have hm:=gX h6 tK;have h7:=h6.may tK;have l7:(bP tK M).1=true→(bP tK M).2.R.length<M.R.length:=fun hb=>by
    unfold bP at hb ⊢;split
    ·have:=h6.lp;show M.R.tail.length<_;rw[length_tail];omega
    ·rename_i hc;rw[ξ hc] at hb;cases hb
   generalize bP tK M=m at hm h7 l7 j;obtain⟨b,z7⟩:=m;dsimp only at hm h7 l7 j;refine aH (AWp.sub (Sub.freeze (id:=501) rfl) ?_);refine AWp.sub (vp 8 [.str u.text,.int .i64 u.pl,.sl 4 (fs.map bL)] (hp:=.c .refl (.c .refl (.hs rfl aa.symm (Go.AM.take_all aa.symm) .nil)))) ?_;rw[←aa] at af;refine sk 6 rfl (kc af ?_);refine az (sgh [(3,.all)] rfl (AWp.sub (st2:=mk [(0,xP),(2,.one (.vp 2 0)),(3,.one (.vp 3 0)),(5,.one (.vp 5 0))] [(700,zO L z5),(2,.var 81 [.c (.str []),.c (.int .i64 0),.c .nl,.c .nl,.c .nl]),(3,.var 152 ((aG r).map .c)),(5,.var 81 [.c (.str r.text),.c (.int .i64 r.pl),.c (.sl 1 ((vs.map (·.text)).map bE)),.c .nl,.hs 502 0 O.length O.length]),(502,.arr 84 3 (O.map fE) 0)]) (sl (hh:=⟨⟨_,rfl,.var rfl⟩,⟨_,rfl,.var rfl⟩,⟨_,rfl,.var rfl⟩,⟨_,rfl,.var (by rw[hle,←hout];rfl)⟩,⟨_,rfl,.arrS E⟩,trivial⟩)) ?_));refine aC mixed (ak 6 [] rfl (kc hl2 ?_));refine az (aC mixed (ak 1 [] rfl (kc hm ?_)));refine kz 1 rfl ?_;have l1':A.R.length≤z0.R.length:=J;have l6':M.R.length≤z0.R.length:=by
    have a1:z.R.length≤A.R.length:=k4;have a2:z5.R.length≤z.R.length:=l5;have a3:M.R.length≤z5.R.length:=l6;omega
   cases b with
   | true=>
    rw[θ rfl] at j;have:=l7 rfl;exact⟨(true,O,z7,f),⟨h7,.inl ⟨rfl,j,by dsimp only;omega,by dsimp only;omega⟩⟩,by dsimp only;rw[θ rfl,θ rfl];omega,sl⟩
   | false=>
    rw[ξ (by decide)] at j;exact⟨(false,O,z7,f),⟨h7,.inr ⟨rfl,j⟩⟩,by dsimp only;rw[ξ (by decide),θ rfl];omega,sl⟩
inductive Pt where
 | mk (form pl n:Int) (name:Str) (kids:List Pt)
def Pt.form:Pt→Int | .mk f _ _ _ _=>f
def Pt.pl:Pt→Int | .mk _ p _ _ _=>p
def Pt.n:Pt→Int | .mk _ _ n _ _=>n
def Pt.name:Pt→Str | .mk _ _ _ s _=>s
def Pt.kids:Pt→List Pt | .mk _ _ _ _ l=>l
mutual
def j9:Pt→List (List C)
 | .mk _ _ _ _ l=>uX l
def uX:List Pt→List (List C)
 | []=>[]
 | p::l=>[.int .i64 p.form,.int .i64 p.pl,.int .i64 p.n,.str p.name,.sl 10 (j9 p),.int .i64 0,.int .i64 0,.str [],.sl 4 [],.sl 4 []]::uX l
end
def bG (p:Pt):List C:=[.int .i64 p.form,.int .i64 p.pl,.int .i64 p.n,.str p.name,.sl 10 (j9 p),.int .i64 0,.int .i64 0,.str [],.sl 4 [],.sl 4 []]
theorem r7:∀l:List Pt,uX l=l.map bG
 | []=>by simp[uX]
 | p::l=>by rw[uX,r7 l];rfl
theorem gV (p:Pt):j9 p=p.kids.map bG:=by cases p;rw[j9,r7];rfl
def zPt:Pt:=.mk 0 0 0 [] []
def aCy:Str:=[95]
def j2 (t:Tk):Int:=if t.kind=1 then 2 else if t.kind=2 then 4 else 3
def j1 (t:Tk):Str:=if t.kind=3 then [] else t.text
def tlZ (z:Z):Z:=⟨z.R.tail,z.e,z.p⟩
mutual
def bH:Nat→Nat→Z→(Pt×Bool)×Z
 | 0,_,z=>((zPt,false),z)
 | f+1,o,z=>
  if ¬z.e=0 then((zPt,false),z)
  else if 0<(aX z).kind∧(aX z).kind<4 then((.mk (j2 (aX z)) (aX z).pl (aX z).n (j1 (aX z)) [],true),tlZ z)
  else if(bP aCy z).1=true then((.mk 1 (aX z).pl 0 [] [],true),(bP aCy z).2)
  else if isZ c8 z=false then((zPt,false),z)
  else if 40≤o then((zPt,false),bS 13 (aX z).pl z)
  else(((j3 f (o+1) (aQ c8 z)).1,true),aQ nE (j3 f (o+1) (aQ c8 z)).2)
def j3:Nat→Nat→Z→Pt×Z
 | 0,_,z=>(zPt,bS 12 0 z)
 | f+1,o,z=>
  if(bH f o z).1.2=false then(zPt,bS 12 (aX z).pl (bH f o z).2)
  else if(aX z).kind=2∧z.e=0 then(.mk 4 (aX z).pl (aX z).n (aX z).text (gC f o [] (tlZ z)).1,(gC f o [] (tlZ z)).2)
  else(bH f o z).1.1 |>fun p=>(p,(bH f o z).2)
def gC:Nat→Nat→List Pt→Z→List Pt×Z
 | 0,_,out,z=>(out,z)
 | f+1,o,out,z=>
  if z.e=0 then(if(bH f o z).1.2=false then(out,(bH f o z).2) else gC f o (out++[(bH f o z).1.1]) (bH f o z).2)
  else(out,z)
end
mutual
def ptB:Pt→Prop
 | .mk _ _ _ _ l=>l.length≤4002∧u6 l
def u6:List Pt→Prop
 | []=>True
 | p::l=>ptB p∧u6 l
end
theorem oJ:∀{l:List Pt}{p:Pt},u6 l→ptB p→u6 (l++[p])
 | [],_,_,h=>⟨h,trivial⟩
 | _::_,_,h,k=>⟨h.1,oJ h.2 k⟩
theorem ZA.tlp {L:List Tk}{z:Z}(h:ZA L z) (c:¬(aX z).kind=6):ZA L (tlZ z):=(h.tl c z.e z.p).1
theorem eG {L:List Tk}{z:Z}(h:ZA L z) {s:Str}(hb:(bP s z).1=true):(bP s z).2.R.length<z.R.length:=by
 unfold bP at hb ⊢;split
 ·have:=h.lp;show z.R.tail.length<_;rw[length_tail];omega
 ·rename_i hc;rw[ξ hc] at hb;cases hb
theorem gR (s:Str) (z:Z):(bP s z).2.e=z.e:=by unfold bP;split<;>rfl
theorem wV {L:List Tk}{z:Z}(h:ZA L z) {s:Str}(hb:(aQ s z).e=0):(aQ s z).R.length<z.R.length:=by
 unfold aQ at hb ⊢;split
 ·rename_i hm;exact eG h hm
 ·rename_i hm;rw[ξ hm] at hb;unfold bS at hb;split at hb
  ·cases hb
  ·rename_i hc;exact absurd hb hc
theorem aS {s:Str}{z:Z}(hb:(aQ s z).e=0):z.e=0:=by
 unfold aQ at hb;split at hb
 ·rw[gR] at hb;exact hb
 ·unfold bS at hb;split at hb
  ·assumption
  ·exact hb
theorem gF {e p:Int}(he:¬e=0) {z:Z}(hb:(bS e p z).e=0):False:=by
 unfold bS at hb;split at hb
 ·exact he hb
 ·rename_i h;exact h hb
theorem aEn {s:Str}{z:Z}(he:z.e=0) (h:isZ s z=true):aQ s z=tlZ z:=by
 have hm:bP s z=(true,tlZ z):=by unfold bP;rw[θ ⟨he,h⟩];rfl
 unfold aQ;rw[hm];exact θ rfl
theorem p9 {L:List Tk}{z:Z}(h:ZA L z):(tlZ z).R.length<z.R.length:=by
 have:=h.lp;show z.R.tail.length<_;rw[length_tail];omega
def aSx (L:List Tk) (f:Nat):Prop:=∀o z,ZA L z→ZA L (bH f o z).2∧ptB (bH f o z).1.1∧((bH f o z).1.2=true→(bH f o z).2.e=0→(bH f o z).2.R.length<z.R.length)∧Ze z (bH f o z).2
def aTk (L:List Tk) (f:Nat):Prop:=∀o z,ZA L z→ZA L (j3 f o z).2∧ptB (j3 f o z).1∧((j3 f o z).2.e=0→(j3 f o z).2.R.length<z.R.length)∧Ze z (j3 f o z).2
def aS1 (L:List Tk) (f:Nat):Prop:=∀o out z,ZA L z→u6 out→(z.e=0→out.length+z.R.length≤4001)→out.length≤4002→ZA L (gC f o out z).2∧u6 (gC f o out z).1∧(gC f o out z).1.length≤4002∧Ze z (gC f o out z).2
theorem bD {s:Str}{z:Z}(h:¬z.e=0):aQ s z=z:=by
 have hm:bP s z=(false,z):=by unfold bP;rw[ξ (fun k=>h k.1)]
 unfold aQ;rw[hm];rw[ξ ω];unfold bS;rw[ξ h]
theorem aBs:ptB zPt:=⟨Ac _,trivial⟩
theorem sF {k:Int}(h:0<k∧k<4):¬k=6:=by omega
theorem iP (L:List Tk):∀f,aSx L f∧aTk L f∧aS1 L f:=by
 intro f
 induction f with
 | zero=>
  refine⟨fun o z h=>?_,fun o z h=>?_,fun o out z h hb hl c=>?_⟩
  ·rw[bH];exact⟨h,aBs,fun e=>Bool.noConfusion e,Ze.refl z⟩
  ·rw[j3];exact⟨h.fail _ _,aBs,fun e=>(gF (by decide) e).elim,Ze.fail _ _ _⟩
  ·rw[gC];exact⟨h,hb,c,Ze.refl z⟩
 | succ f J=>
  obtain⟨j,I,q⟩:=J;refine⟨fun o z h=>?_,fun o z h=>?_,fun o out z h hb hl c=>?_⟩
  ·rw[bH];split
   ·exact⟨h,aBs,fun e=>Bool.noConfusion e,Ze.refl z⟩
   rename_i he;split
   ·rename_i u;have:=p9 h;exact⟨h.tlp (sF u),⟨Ac _,trivial⟩,fun _ _=>this,le_of_lt this⟩
   split
   ·rename_i hm;exact⟨h.may _,⟨Ac _,trivial⟩,fun _ _=>eG h hm,Ze.may _ _⟩
   split
   ·exact⟨h,aBs,fun e=>Bool.noConfusion e,Ze.refl z⟩
   split
   ·exact⟨h.fail _ _,aBs,fun e=>Bool.noConfusion e,Ze.fail _ _ _⟩
   ·obtain⟨g1,g2,g3,g4⟩:=I (o+1) (aQ c8 z) (h.need _);refine⟨g1.need _,g2,fun _ e=>?_,((Ze.need c8 z).trans g4).trans (Ze.need _ _)⟩;have M:=wV g1 e;have a2:(j3 f (o+1) (aQ c8 z)).2.R.length≤z.R.length:=(Ze.need c8 z).trans g4;exact Ay M a2
  ·rw[j3];obtain⟨g1,g2,g3,g4⟩:=j o z h;split
   ·exact⟨g1.fail _ _,aBs,fun e=>(gF (by decide) e).elim,g4.trans (Ze.fail _ _ _)⟩
   rename_i hs;have hs:(bH f o z).1.2=true:=by simpa using hs
   split
   ·rename_i u;have ht:=p9 h;obtain⟨y,A,B,E⟩:=q o [] (tlZ z) (h.tlp (by rw[u.1];decide)) trivial (fun _=>by have:=h.len;rw[length_nil];omega) (Ac _);have r:(gC f o [] (tlZ z)).2.R.length≤(tlZ z).R.length:=E;exact⟨y,⟨B,A⟩,fun _=>Bt r ht,le_of_lt (Bt r ht)⟩
   ·exact⟨g1,g2,g3 hs,g4⟩
  ·rw[gC];split
   ·rename_i he;obtain⟨g1,g2,g3,g4⟩:=j o z h;split
    ·exact⟨g1,hb,c,g4⟩
    rename_i hs;have hs:(bH f o z).1.2=true:=by simpa using hs
    have hl:=hl he;have O:=h.lp;have hle:(out++[(bH f o z).1.1]).length=out.length+1:=by rw[ζ];rfl
    obtain⟨y,A,B,E⟩:=q o (out++[(bH f o z).1.1]) (bH f o z).2 g1 (oJ hb g2) (fun e=>by have:=g3 hs e;omega) (by omega);exact⟨y,A,B,g4.trans E⟩
   ·exact⟨h,hb,c,Ze.refl z⟩
def aOi:List C:=[.int .i64 0,.int .i64 0,.int .i64 0,.str [],.nl,.int .i64 0,.int .i64 0,.str [],.nl,.nl]
def aNr (L:List Tk) (f:Nat):Prop:=∀(o:Nat) (z:Z),ZA L z→(z.e=0→3*z.R.length≤f)→o≤40→b8 Tryz.prog 105 [xP,I .i64 (o:Nat)] [(700,zO L z)] (.tup [.pa (bG (bH f o z).1.1),B (bH f o z).1.2]) [(700,zO L (bH f o z).2)]
def aSz (L:List Tk) (f:Nat):Prop:=∀(o:Nat) (z:Z),ZA L z→(z.e=0→3*z.R.length+1≤f)→o≤40→b8 Tryz.prog 51 [xP,I .i64 (o:Nat)] [(700,zO L z)] (.pa (bG (j3 f o z).1)) [(700,zO L (j3 f o z).2)]
theorem vD {L:List Tk}{z:Z}(h:ZA L z) (he:z.e=0) (u:0<(aX z).kind∧(aX z).kind<4) (o:Nat) (y A q:C) (r:(y=.nl∧A=.nl∧q=.nl)∨(y=.sl 10 []∧A=.sl 4 []∧q=.sl 4 [])):b8 Tryz.prog 105 [xP,I .i64 (o:Nat)] [(700,zO L z)] (.tup [.pa [.int .i64 (j2 (aX z)),.int .i64 (aX z).pl,.int .i64 (aX z).n,.str (j1 (aX z)),y,.int .i64 0,.int .i64 0,.str [],A,q],B true]) [(700,zO L (tlZ z))]:=by
 have ho:=eO L z;rw[φ he] at ho;have hn:=fA h;obtain⟨_,E⟩:=h.tl (sF u) z.e z.p;have M:=h.l;have J:zO L (tlZ z)=.var 78 [.c (.sl 4 (L.map aG)),.c (.int .i64 ((L.length-z.R.length+1:Nat):Int)),.c (.int .i64 z.e),.c (.int .i64 z.p)]:=by
  unfold zO tlZ;dsimp only;rw[E]
 rw[J];generalize aX z=t at hn u ⊢;refine bM (n:=74) tok Tryz.func105 rfl rfl rfl ?_;refine sg rfl (aA (sk 1 rfl (kc ho ?_)));refine kz 1 rfl (aB rfl (fun hb=>absurd hb (by decide)) (fun _=>aD (sk 1 rfl (kc hn ?_))));refine kz 2 rfl ?_;have d1:decide ((0:Int)<t.kind)=true:=φ u.1;have d2:decide (t.kind<(4:Int))=true:=φ u.2;refine aA (sgh [(3,.bv true),(7,.bv true)] rfl (aB rfl (fun _=>?_) (fun hb=>absurd (hb.symm.trans d2) (by decide))));have j:t.kind=1∨t.kind=2∨t.kind=3:=by omega
 unfold zO;refine aA (agN [] rfl ?_);rcases j with j | j | j
 ·unfold j2 j1;rw[θ j,ξ (by omega)];refine sgh [(3,.row 1 [.int .i64 2]),(16,.row 1 [.str t.text]),(0,.all),(13,.all)] rfl ?_;rcases r with⟨rfl,rfl,rfl⟩ | ⟨rfl,rfl,rfl⟩<;>exact aE oH
 ·unfold j2 j1;rw[ξ (by omega),θ j,ξ (by omega)];refine sgh [(3,.row 2 [.int .i64 4]),(16,.row 2 [.str t.text]),(0,.all),(13,.all)] rfl ?_;rcases r with⟨rfl,rfl,rfl⟩ | ⟨rfl,rfl,rfl⟩<;>exact aE oH
 ·unfold j2 j1;rw[ξ (by omega),ξ (by omega),θ j];refine sgh [(3,.row 3 [.int .i64 3]),(16,.row 3 [.str []]),(0,.all),(13,.all)] rfl ?_;rcases r with⟨rfl,rfl,rfl⟩ | ⟨rfl,rfl,rfl⟩<;>exact aE oH
theorem lT {L:List Tk}{z:Z}(he:¬z.e=0) (o:Nat):b8 Tryz.prog 105 [xP,I .i64 (o:Nat)] [(700,zO L z)] (.tup [.pa (bG zPt),B false]) [(700,zO L z)]:=by
 have ho:=eO L z;rw[ψ he] at ho;refine bM (n:=74) tok Tryz.func105 rfl rfl rfl ?_;refine sg rfl (aA (sk 1 rfl (kc ho ?_)));exact kz 1 rfl (aB rfl (fun _=>sg rfl (aE oH)) (fun hb=>Bool.noConfusion hb))
theorem eV {e p:Int}{z:Z}(h:¬z.e=0):bS e p z=z:=by unfold bS;rw[ξ h]
theorem aJa {L:List Tk}{z:Z}(h:ZA L z) (he:¬z.e=0) (o:Nat):b8 Tryz.prog 51 [xP,I .i64 (o:Nat)] [(700,zO L z)] (.pa (bG zPt)) [(700,zO L z)]:=by
 have hn:=fA h;have hs:=lT (L:=L) he o;have c:=dI L z 12 (aX z).pl;rw[eV he] at c;refine bM (n:=47) tok Tryz.func51 rfl rfl rfl ?_;refine sg rfl (sk 1 rfl (kc hn ?_));refine kz 2 rfl (sk 2 rfl (kc hs ?_));refine kz 6 rfl (aA (sg rfl (aB rfl (fun _=>sk 3 rfl (kc c ?_)) (fun hb=>Bool.noConfusion hb))));exact az (sg rfl (aE (rtC trw)))
theorem aFu (L:List Tk) (f:Nat) (ih:aSz L f):aNr L (f+1):=by
 intro o z h hf ho40;rw[bH];by_cases he:z.e=0
 case neg=>
  rw[θ he];exact lT he o
 rw[ξ (fun k=>k he)];by_cases u:0<(aX z).kind∧(aX z).kind<4
 ·rw[θ u];exact vD h he u o _ _ _ (.inr ⟨rfl,rfl,rfl⟩)
 rw[ξ u];have ho:=eO L z;rw[φ he] at ho;have hn:=fA h;have hm:=gX h aCy;have hi:=aF5 h c8;have O:=dI L z 13 (aX z).pl;have U:=cP h c8;have h1:=h.need c8;have j:isZ c8 z=true→aQ c8 z=tlZ z:=aEn he;have htl:=p9 h;have A:(bP aCy z).1=false→(bP aCy z).2=z:=fun hb=>by
  unfold bP at hb ⊢;split
  ·rename_i hc;rw[θ hc] at hb;cases hb
  ·rfl
 refine bM (n:=74) tok Tryz.func105 rfl rfl rfl ?_;refine sg rfl (aA (sk 1 rfl (kc ho ?_)));refine kz 1 rfl (aB rfl (fun hb=>Bool.noConfusion hb) (fun _=>aD (sk 1 rfl (kc hn ?_))));refine kz 2 rfl (aA (aA (AWp.cut (mk [(0,xP),(1,I .i64 (o:Nat)),(4,.one (.vp 4 0)),(6,.one (.vp 6 0)),(21,B false)] [(700,zO L z),(4,.var 49 (aOi.map .c)),(6,.var 152 ((aG (aX z)).map .c))]) ?_ ?_)))
 ·by_cases E:0<(aX z).kind
  ·have d2:decide ((aX z).kind<(4:Int))=false:=ψ (fun k=>u ⟨E,k⟩);have d1:decide ((0:Int)<(aX z).kind)=true:=φ E;refine ag [(3,.bv true),(7,.bv true)] rfl ?_;rw[d2];exact sl
  ·have d1:decide ((0:Int)<(aX z).kind)=false:=ψ E;exact ag [(3,.bv false),(7,.bv false)] rfl sl
 refine aB rfl (fun hb=>Bool.noConfusion hb) (fun _=>aD (aA (sk 1 rfl (kc hm ?_))));refine az ?_;generalize bP aCy z=m at A hm ⊢;obtain⟨b,r⟩:=m;cases b with
 | true=>
  rw[θ rfl];exact aB rfl (fun _=>sg rfl (aE oH)) (fun hb=>Bool.noConfusion hb)
 | false=>
 have Y:r=z:=A rfl;subst Y;rw[ξ ω];refine aB rfl (fun hb=>Bool.noConfusion hb) (fun _=>aD (aA (sk 1 rfl (kc hi ?_))));refine kz 1 rfl ?_;generalize isZ c8 r=b at j ⊢;cases b with
 | false=>
  rw[θ rfl];exact aB rfl (fun _=>sg rfl (aE oH)) (fun hb=>Bool.noConfusion hb)
 | true=>
 have j:=j rfl;rw[ξ (by decide)];refine aB rfl (fun hb=>Bool.noConfusion hb) (fun _=>aD (aA (sg rfl (aB rfl (fun hb=>?_) (fun hb=>?_)))))
 ·rw[θ (by have:=χ hb;omega)];refine sk 3 rfl (kc O ?_);exact az (sg rfl (aE oH))
 have J:¬40≤o:=by have:=Ad hb;omega
 rw[ξ J];have hp:=ih (o+1) (aQ c8 r) h1 (fun _=>by rw[j];have:=hf he;omega) (by omega);obtain⟨g1,_⟩:=(iP L f).2.1 (o+1) (aQ c8 r) h1;generalize j3 f (o+1) (aQ c8 r)=y at hp g1 ⊢;obtain⟨q,z2⟩:=y;dsimp only at hp g1 ⊢;have M:=cP g1 nE;refine aD (sk 1 rfl (kc U ?_));refine az (aA (aC mixed (akN 3 [] rfl (kc hp ?_))));refine akN 2 [] rfl (az (sk 1 rfl (kc M ?_)));exact az (sg rfl (aE oH))
theorem aP9 (L:List Tk) (f:Nat) (ab:∀g,g≤f→aNr L g):aSz L (f+1):=by
 intro o z h hf J;have hn:=fA h;have hs:=ab f (le_refl _) o z h (fun he=>by have:=hf he;omega) J;obtain⟨g1,_,g3,g4⟩:=(iP L f).1 o z h;rw[j3];by_cases hk:(aX z).kind=2∧z.e=0
 ·obtain⟨h2,he⟩:=hk;obtain⟨f,rfl⟩:∃g,f=g+1:=⟨f-1,by have:=hf he;have:=h.lp;omega⟩
  have ac:bH (f+1) o z=((.mk (j2 (aX z)) (aX z).pl (aX z).n (j1 (aX z)) [],true),tlZ z):=by
   rw[bH,ξ (fun k=>k he),θ (by omega)]
  rw[ac];rw[ξ (show ¬(true=false) from fun k=>Bool.noConfusion k),θ ⟨h2,he⟩];have E:=vD h he (by omega) o .nl .nl .nl (.inl ⟨rfl,rfl,rfl⟩);have e4:j2 (aX z)=4:=by unfold j2;rw[ξ (by omega),θ h2]
  have e5:j1 (aX z)=(aX z).text:=by unfold j1;rw[ξ (by omega)]
  rw[e4,e5] at E;have h1:=h.tlp (by rw[h2];decide);have htl:=p9 h;have hlen:=h.len;have j:∃W,W=gC (f+1) o [] (tlZ z):=⟨_,rfl⟩
  obtain⟨W,j⟩:=j;rw[←j];generalize aX z=t at hn h2 E ⊢;refine bM (n:=47) tok Tryz.func51 rfl rfl rfl ?_;refine sg rfl (sk 1 rfl (kc hn ?_));refine kz 2 rfl (sk 2 rfl (kc E ?_));refine kz 6 rfl (aA (sg rfl (aB rfl (fun hb=>Bool.noConfusion hb) (fun _=>aD (AWp.sub (Sub.ownCell (x:=6) (k:=4) (id:=501) 49 10 rfl rfl rfl) ?_)))));refine aA (aF (aK (fun q:List Pt×Z×Nat=>mk [(0,xP),(1,I .i64 (o:Nat)),(4,.one (.vp 4 0)),(5,.one (.vp 5 0)),(6,.one (.vp 6 0))] [(700,zO L q.2.1),(4,.var 49 (aOi.map .c)),(5,.var 152 ((aG t).map .c)),(6,.var 49 [.c (.int .i64 4),.c (.int .i64 t.pl),.c (.int .i64 t.n),.c (.str t.text),.hs 501 0 q.1.length q.1.length,.c (.int .i64 0),.c (.int .i64 0),.c (.str []),.c .nl,.c .nl]),(501,.arr 49 10 (q.1.map bG) 0)]) (fun q=>ZA L q.2.1∧W=gC q.2.2 o q.1 q.2.1∧q.2.2≤f+1∧(q.2.1.e=0→3*q.2.1.R.length+1≤q.2.2)∧(q.2.1.e=0→q.1.length+q.2.1.R.length≤4001)∧q.1.length≤4002) (fun q=>if q.2.1.e=0 then q.2.1.R.length+1 else 0) ([],tlZ z,f+1) ⟨h1,j,le_refl _,fun _=>by have:=hf he;dsimp only;omega,fun _=>by dsimp only;rw[length_nil];omega,Ac _⟩ sl ?_));clear j hs E ac e4 e5 g1 g3 g4 htl h1;rintro⟨out,u,g⟩ ⟨Y,j,hgf,M,O,hol2⟩;dsimp only at Y j hgf M O hol2 ⊢;have hout:(out.map bG).length=out.length:=η _;have d2:decide (t.kind=2)=true:=φ h2;have ho:=eO L u;by_cases r:u.e=0
  case neg=>
   rw[ψ r] at ho;have e0:gC g o out u=(out,u):=by
    cases g with
    | zero=>rfl
    | succ g=>rw[gC,ξ r]
   rw[e0] at j;refine aA (sk 1 rfl (kc ho ?_));refine ak 5 [(2,.bv false),(6,.bv false)] rfl (az (aB rfl (fun hb=>Bool.noConfusion hb) (fun _=>aH (AWp.sub (Sub.freeze (id:=501) rfl) ?_))));refine sg rfl ?_;rw[j];unfold bG;rw[gV (Pt.mk _ _ _ _ _)];exact aE (rtC trw (hc:=.agg (.c .refl (.c .refl (.c .refl (.c .refl (.hs rfl hout.symm (Go.AM.take_all hout.symm) (.c .refl (.c .refl (.c .refl (.c .nl (.c .nl .nil))))))))))))
  rw[φ r] at ho;obtain⟨g,rfl⟩:∃k,g=k+1:=⟨g-1,by have:=M r;omega⟩
  rw[gC,θ r] at j;have hs:=ab g (by omega) o u Y (fun _=>by have:=M r;omega) J;obtain⟨g1,_,g3,g4⟩:=(iP L g).1 o u Y;have M:=M r;have O:=O r;have hlp:=Y.lp;refine aA (sk 1 rfl (kc ho ?_));refine ak 5 [(2,.bv true),(6,.bv true)] rfl (az (aB rfl (fun _=>?_) (fun hb=>absurd (hb.symm.trans d2) Bool.noConfusion)));generalize bH g o u=y at hs g1 g3 g4 j;obtain⟨⟨q,b⟩,z2⟩:=y;dsimp only at hs g1 g3 g4 j;refine aD (aF (sk 2 rfl (kc hs ?_)));refine kz 6 rfl (aA (sg rfl ?_));cases b with
  | false=>
   rw[θ rfl] at j;refine aB rfl (fun _=>aH (AWp.sub (Sub.freeze (id:=501) rfl) ?_)) (fun hb=>Bool.noConfusion hb);refine sg rfl ?_;rw[j];unfold bG;rw[gV (Pt.mk _ _ _ _ _)];exact aE (rtC trw (hc:=.agg (.c .refl (.c .refl (.c .refl (.c .refl (.hs rfl hout.symm (Go.AM.take_all hout.symm) (.c .refl (.c .refl (.c .refl (.c .nl (.c .nl .nil))))))))))))
  | true=>
   rw[ξ (show ¬(true=false) from fun k=>Bool.noConfusion k)] at j;have aa:out.map bG++[bG q]=(out++[q]).map bG:=by rw[Ai];rfl
   have hle:(out++[q]).length=out.length+1:=by rw[ζ];rfl
   have g4':z2.R.length≤u.R.length:=g4;refine aB rfl (fun hb=>Bool.noConfusion hb) (fun _=>aD (ag [(3,.all)] rfl ⟨(out++[q],z2,g),⟨g1,j,by dsimp only;omega,fun h0=>by have:=g3 rfl h0;dsimp only;omega,fun h0=>by have:=g3 rfl h0;dsimp only;rw[hle];omega,by dsimp only;rw[hle];omega⟩,?_,?_⟩))
   ·dsimp only;rw[θ r];split
    ·rename_i h0;have:=g3 rfl h0;omega
    ·omega
   ·exact sl (he:=⟨rfl,rfl,rfl,rfl,rfl,trivial⟩) (hh:=⟨⟨_,rfl,.var rfl⟩,⟨_,rfl,.var rfl⟩,⟨_,rfl,.var rfl⟩,⟨_,rfl,.var (by rw[hle,←hout];rfl)⟩,⟨_,rfl,.arrS aa⟩,trivial⟩)
 rw[ξ hk];have A:¬z.e=0→(bH f o z).1.2=false:=fun he=>by
  cases f with
  | zero=>rfl
  | succ f=>rw[bH,θ he]
 generalize bH f o z=y at hs g1 g3 g4 A ⊢;obtain⟨⟨q,b⟩,U⟩:=y;dsimp only at hs g1 g3 g4 A ⊢;have hfl:=dI L U 12 (aX z).pl;have ho:=eO L U;refine bM (n:=47) tok Tryz.func51 rfl rfl rfl ?_;refine sg rfl (sk 1 rfl (kc hn ?_));refine kz 2 rfl (sk 2 rfl (kc hs ?_));refine kz 6 rfl (aA (sg rfl ?_));cases b with
 | false=>
  rw[θ rfl];refine aB rfl (fun _=>sk 3 rfl (kc hfl ?_)) (fun hb=>Bool.noConfusion hb);exact az (sg rfl (aE (rtC trw)))
 | true=>
  rw[ξ (show ¬(true=false) from fun k=>Bool.noConfusion k)];have he:z.e=0:=by
   by_cases he:z.e=0
   ·exact he
   ·exact Bool.noConfusion (A he)
  have h2:¬(aX z).kind=2:=fun h2=>hk ⟨h2,he⟩
  have d2:decide ((aX z).kind=2)=false:=ψ h2;refine aB rfl (fun hb=>Bool.noConfusion hb) (fun _=>aD (aA (aF (aK (fun _:Unit=>mk [(0,xP),(4,.one (.vp 4 0)),(5,.one (.vp 5 0)),(6,.one (.vp 6 0))] [(700,zO L U),(4,.var 49 (aOi.map .c)),(5,.var 152 ((aG (aX z)).map .c)),(6,.var 49 ((bG q).map .c))]) (fun _=>True) (fun _=>0) () trivial sl ?_))));intro _ _;refine aA (aA (AWp.cut (mk [(4,.one (.vp 4 0)),(6,.one (.vp 6 0)),(31,B false)] [(700,zO L U),(4,.var 49 (aOi.map .c)),(6,.var 49 ((bG q).map .c))]) ?_ ?_))
  ·by_cases h1:U.e=0
   ·rw[φ h1] at ho;refine aC mixed (ak 1 [] rfl (kc ho ?_));refine ak 5 [(2,.bv true),(6,.bv true)] rfl (az ?_);rw[d2];exact sl
   ·rw[ψ h1] at ho;refine aC mixed (ak 1 [] rfl (kc ho ?_));exact ak 5 [(2,.bv false),(6,.bv false)] rfl (az sl)
  exact aB rfl (fun hb=>Bool.noConfusion hb) (fun _=>aH (sg rfl (aE (rtC trw))))
theorem aSg (L:List Tk):∀f,(∀g,g≤f→aNr L g)∧∀g,g≤f→aSz L g:=by
 intro f
 induction f with
 | zero=>
  refine⟨fun g j o z h q ho=>?_,fun g j o z h q ho=>?_⟩
  ·have h0:¬z.e=0:=fun he=>by have:=q he;have:=h.lp;omega
   obtain rfl:g=0:=by omega
   rw[bH];exact lT h0 o
  ·have h0:¬z.e=0:=fun he=>by have:=q he;omega
   obtain rfl:g=0:=by omega
   rw[j3];dsimp only;rw[eV h0];exact aJa h h0 o
 | succ f c=>
  refine⟨fun g j=>?_,fun g j=>?_⟩
  ·by_cases h:g≤f
   ·exact c.1 g h
   ·rw[show g=f+1 by omega];exact aFu L f (c.2 f (le_refl _))
  ·by_cases h:g≤f
   ·exact c.2 g h
   ·rw[show g=f+1 by omega];exact aP9 L f c.1
mutual
inductive Ex where
 | mk (form pl n:Int) (name:Str) (kids:List Ex) (pats:List Pt) (binds:List Bd) (sig:Sch)
inductive Bd where
 | mk (name:Str) (pl:Int) (has:Bool) (sig:Sch) (body:Ex)
end
def Ex.form:Ex→Int | .mk f _ _ _ _ _ _ _=>f
def Ex.pl:Ex→Int | .mk _ p _ _ _ _ _ _=>p
def Ex.n:Ex→Int | .mk _ _ n _ _ _ _ _=>n
def Ex.name:Ex→Str | .mk _ _ _ s _ _ _ _=>s
def Ex.kids:Ex→List Ex | .mk _ _ _ _ l _ _ _=>l
def Ex.pats:Ex→List Pt | .mk _ _ _ _ _ l _ _=>l
def Ex.binds:Ex→List Bd | .mk _ _ _ _ _ _ l _=>l
def Ex.sig:Ex→Sch | .mk _ _ _ _ _ _ _ s=>s
def Bd.name:Bd→Str | .mk s _ _ _ _=>s
def Bd.pl:Bd→Int | .mk _ p _ _ _=>p
def Bd.has:Bd→Bool | .mk _ _ h _ _=>h
def Bd.sig:Bd→Sch | .mk _ _ _ s _=>s
def Bd.body:Bd→Ex | .mk _ _ _ _ e=>e
mutual
def oD:Ex→List (List C)
 | .mk _ _ _ _ l _ _ _=>uY l
def aB9:Ex→List (List C)
 | .mk _ _ _ _ _ _ l _=>eD l
def uY:List Ex→List (List C)
 | []=>[]
 | e::l=>[.int .i64 e.form,.int .i64 e.pl,.int .i64 e.n,.str e.name,.sl 15 (oD e),.sl 10 (e.pats.map bG),.sl 33 (aB9 e),.sl 1 (e.sig.vars.map bE),.sl 1 [],.sl 5 (e.sig.preds.map aM),.int .i64 e.sig.ty.form,.int .i64 e.sig.ty.n,.str e.sig.ty.name,.sl 4 (cK e.sig.ty),.sl 4 []]::uY l
def zZ:Bd→List C
 | .mk _ _ _ _ e=>[.int .i64 e.form,.int .i64 e.pl,.int .i64 e.n,.str e.name,.sl 15 (oD e),.sl 10 (e.pats.map bG),.sl 33 (aB9 e),.sl 1 (e.sig.vars.map bE),.sl 1 [],.sl 5 (e.sig.preds.map aM),.int .i64 e.sig.ty.form,.int .i64 e.sig.ty.n,.str e.sig.ty.name,.sl 4 (cK e.sig.ty),.sl 4 []]
def eD:List Bd→List (List C)
 | []=>[]
 | b::l=>([.str b.name,.int .i64 b.pl,.bool b.has,.sl 1 (b.sig.vars.map bE),.sl 1 [],.sl 5 (b.sig.preds.map aM),.int .i64 b.sig.ty.form,.int .i64 b.sig.ty.n,.str b.sig.ty.name,.sl 4 (cK b.sig.ty)]++(zZ b++[.sl 1 [],.sl 1 [],.sl 5 [],.int .i64 0,.int .i64 0,.str [],.sl 4 [],.int .i64 0]))::eD l
end
def bN (e:Ex):List C:=[.int .i64 e.form,.int .i64 e.pl,.int .i64 e.n,.str e.name,.sl 15 (oD e),.sl 10 (e.pats.map bG),.sl 33 (aB9 e),.sl 1 (e.sig.vars.map bE),.sl 1 [],.sl 5 (e.sig.preds.map aM),.int .i64 e.sig.ty.form,.int .i64 e.sig.ty.n,.str e.sig.ty.name,.sl 4 (cK e.sig.ty),.sl 4 []]
def aW (b:Bd):List C:=[.str b.name,.int .i64 b.pl,.bool b.has,.sl 1 (b.sig.vars.map bE),.sl 1 [],.sl 5 (b.sig.preds.map aM),.int .i64 b.sig.ty.form,.int .i64 b.sig.ty.n,.str b.sig.ty.name,.sl 4 (cK b.sig.ty),
 .int .i64 b.body.form,.int .i64 b.body.pl,.int .i64 b.body.n,.str b.body.name,.sl 15 (oD b.body),.sl 10 (b.body.pats.map bG),.sl 33 (aB9 b.body),.sl 1 (b.body.sig.vars.map bE),.sl 1 [],.sl 5 (b.body.sig.preds.map aM),.int .i64 b.body.sig.ty.form,.int .i64 b.body.sig.ty.n,.str b.body.sig.ty.name,.sl 4 (cK b.body.sig.ty),.sl 4 [],
 .sl 1 [],.sl 1 [],.sl 5 [],.int .i64 0,.int .i64 0,.str [],.sl 4 [],.int .i64 0]
theorem r8:∀l:List Ex,uY l=l.map bN
 | []=>by simp[uY]
 | e::l=>by rw[uY,r8 l];rfl
theorem eN:∀l:List Bd,eD l=l.map aW
 | []=>by simp[eD]
 | .mk s p h g e::l=>by rw[eD,eN l,zZ];rfl
theorem kK (e:Ex):oD e=e.kids.map bN:=by cases e;rw[oD,r8];rfl
theorem zY (e:Ex):aB9 e=e.binds.map aW:=by cases e;rw[aB9,eN];rfl
def zEx:Ex:=.mk 0 0 0 [] [] [] [] nQ
structure Sg where
 name:Str
 pl:Int
 ty:Sch
def c6 (s:Sg):List C:=[.str s.name,.int .i64 s.pl,.sl 1 (s.ty.vars.map bE),.sl 1 [],.sl 5 (s.ty.preds.map aM),.int .i64 s.ty.ty.form,.int .i64 s.ty.ty.n,.str s.ty.ty.name,.sl 4 (cK s.ty.ty)]
def wZ:Str:=[92]
def wY:Str:=[108,101,116]
def lS:Str:=[99,97,115,101]
def ofS:Str:=[111,102]
def inS:Str:=[105,110]
def eU:Str:=[58]
def dG:Str:=[123]
def b6:Str:=[125]
def lJ (l:List Tk):List Pt:=l.map fun t=>.mk 2 t.pl 0 t.text []
section
variable (ex:Nat→Z→Ex×Z)
def vZ (t:Tk):Ex:=if t.kind=3 then .mk 3 t.pl t.n [] [] [] [] nQ else .mk t.kind t.pl 0 t.text [] [] [] nQ
def lO (deep:Nat) (z:Z):(Ex×Bool)×Z:=
 if ¬z.e=0 then((zEx,false),z)
 else if 0<(aX z).kind∧(aX z).kind<4 then((vZ (aX z),true),tlZ z)
 else if(bP c8 z).1=false then((zEx,false),z)
 else(((ex (deep+1) (bP c8 z).2).1,true),aQ nE (ex (deep+1) (bP c8 z).2).2)
def aOe (at':Int) (e a:Ex):Ex:=.mk 4 at' 0 [] [e,a] [] [] nQ
def iH (deep:Nat) (at':Int):Nat→Ex→Z→Ex×Z
 | 0,e,z=>(e,z)
 | f+1,e,z=>if z.e=0 then(if(lO ex deep z).1.2=false then(e,(lO ex deep z).2) else iH deep at' f (aOe at' e (lO ex deep z).1.1) (lO ex deep z).2) else(e,z)
def aSm (at':Int) (l:List Tk) (b:Ex):Ex:=.mk 5 at' 0 [] [b] (lJ l) [] nQ
def x6 (at':Int) (z:Z):List Tk×Z:=((aV z).1,aQ arrow (c7 (aV z).1.length 8 at' (if(aV z).1=[] then bS 12 (aX (aV z).2).pl (aV z).2 else(aV z).2)))
def zH (at':Int) (deep:Nat) (z:Z):Ex×Z:=(aSm at' (x6 at' z).1 (ex (deep+1) (x6 at' z).2).1,(ex (deep+1) (x6 at' z).2).2)
def k9 (nm:Tk) (z:Z):List Tk×Z:=((aV z).1,aQ eqS (c7 (aV z).1.length 8 nm.pl (aV z).2))
def aQu (l:List Tk) (b:Ex):Ex:=match l with
 | []=>b
 | t::l=>aSm t.pl (t::l) b
def dL (nm:Tk) (deep:Nat) (z:Z):Bd×Z:=(.mk nm.text nm.pl false nQ (aQu (k9 nm z).1 (ex deep (k9 nm z).2).1),(ex deep (k9 nm z).2).2)
def aZ (sigs:List Sg) (binds:List Bd) (deep:Nat) (z:Z):(List Sg×List Bd)×Z:=
 if(bP eU (aR 1 z).2).1=true then((sigs++[⟨(aR 1 z).1.text,(aR 1 z).1.pl,(bO (bP eU (aR 1 z).2).2).1⟩],binds),(bO (bP eU (aR 1 z).2).2).2)
 else((sigs,binds++[(dL ex (aR 1 z).1 deep (bP eU (aR 1 z).2).2).1]),(dL ex (aR 1 z).1 deep (bP eU (aR 1 z).2).2).2)
def j8 (deep:Nat):Nat→Nat→List Sg→List Bd→Z→(List Sg×List Bd)×Z
 | 0,_,sigs,binds,z=>((sigs,binds),z)
 | f+1,n,sigs,binds,z=>if(b5 b6 n z).1=true then j8 deep f (n+1) (aZ ex sigs binds deep (b5 b6 n z).2).1.1 (aZ ex sigs binds deep (b5 b6 n z).2).1.2 (aZ ex sigs binds deep (b5 b6 n z).2).2 else((sigs,binds),(b5 b6 n z).2)
end
def lZ (b:Bd) (s:Sch):Bd:=.mk b.name b.pl true s b.body
def dF:List Sg→List Bd→Z→List Bd×Z
 | [],b,z=>(b,z)
 | s::l,b,z=>if z.e=0 then(match b.findIdx? (fun x=>decide (x.name=s.name)) with
   | none=>dF l b (bS 21 s.pl z)
   | some k=>match b[k]? with
    | none=>(b,z)
    | some x=>if x.has=true then dF l b (bS 20 s.pl z) else dF l (b.set k (lZ x s.ty)) z)
  else(b,z)
section
variable (ex:Nat→Z→Ex×Z)
def aC2 (deep:Nat) (z:Z):(List Sg×List Bd)×Z:=j8 ex (deep+1) ((aQ dG z).R.length+1) 0 [] [] (aQ dG z)
def aN9 (y:(List Sg×List Bd)×Z):List Bd×Z:=dF y.1.1 y.1.2 (aQ b6 y.2)
def letE (at':Int) (bs:List Bd) (b:Ex):Ex:=.mk 6 at' 0 [] [b] [] bs nQ
def zG (at':Int) (deep:Nat) (z:Z):Ex×Z:=(letE at' (aN9 (aC2 ex deep z)).1 (ex (deep+1) (aQ inS (aN9 (aC2 ex deep z)).2)).1,(ex (deep+1) (aQ inS (aN9 (aC2 ex deep z)).2)).2)
def iY (deep:Nat):Nat→Nat→List Pt→List Ex→Z→(List Pt×List Ex)×Z
 | 0,_,ps,ks,z=>((ps,ks),z)
 | f+1,n,ps,ks,z=>if(b5 b6 n z).1=true then iY deep f (n+1) (ps++[(j3 (3*(b5 b6 n z).2.R.length+1) 0 (b5 b6 n z).2).1]) (ks++[(ex (deep+1) (aQ arrow (j3 (3*(b5 b6 n z).2.R.length+1) 0 (b5 b6 n z).2).2)).1]) (ex (deep+1) (aQ arrow (j3 (3*(b5 b6 n z).2.R.length+1) 0 (b5 b6 n z).2).2)).2
  else((ps,ks),(b5 b6 n z).2)
def gJ (deep:Nat) (z:Z):Ex×Z:=((ex (deep+1) z).1,aQ dG (aQ ofS (ex (deep+1) z).2))
def jA (deep:Nat) (y:Ex×Z):(List Pt×List Ex)×Z:=iY ex deep (y.2.R.length+1) 0 [] [y.1] y.2
def aMo (at':Int) (ps:List Pt) (ks:List Ex):Ex:=.mk 7 at' 0 [] ks ps [] nQ
def jX (at':Int) (deep:Nat) (z:Z):Ex×Z:=(aMo at' (jA ex deep (gJ ex deep z)).1.1 (jA ex deep (gJ ex deep z)).1.2,
 if(jA ex deep (gJ ex deep z)).1.1=[] then bS 12 (aX (jA ex deep (gJ ex deep z)).2).pl (aQ b6 (jA ex deep (gJ ex deep z)).2) else aQ b6 (jA ex deep (gJ ex deep z)).2)
def aTj (at':Int) (e:Ex) (s:Sch):Ex:=.mk 8 at' 0 [] [e] [] [] s
def y2 (at':Int) (y:Ex×Z):Ex×Z:=if(bP eU y.2).1=true then(aTj at' y.1 (bO (bP eU y.2).2).1,(bO (bP eU y.2).2).2) else(y.1,(bP eU y.2).2)
def lC (deep:Nat) (z:Z):Ex×Z:=iH ex deep (aX z).pl (z.R.length+1) (lO ex deep z).1.1 (if(lO ex deep z).1.2=false then bS 12 (aX z).pl (lO ex deep z).2 else(lO ex deep z).2)
def aB8 (deep:Nat) (z:Z):Ex×Z:=
 if ¬z.e=0 then(zEx,z)
 else if 40<deep then(zEx,bS 13 (aX z).pl z)
 else if(bP wZ z).1=true then zH ex (aX z).pl deep (bP wZ z).2
 else if(bP wY z).1=true then zG ex (aX z).pl deep (bP wY z).2
 else if(bP lS z).1=true then jX ex (aX z).pl deep (bP lS z).2
 else y2 (aX z).pl (lC ex deep z)
end
def aHf:Nat→Nat→Z→Ex×Z
 | 0=>fun _ z=>(zEx,bS 12 0 z)
 | f+1=>aB8 (aHf f)
structure SchOk (s:Sch):Prop where
 t:WF s.ty∧tn s.ty≤30000
 p:∀p∈s.preds,WF p.ty∧tn p.ty≤30000
 l:s.preds.length≤4001
 v:s.vars.length≤120060000
theorem SchOk.z:SchOk nQ:=⟨⟨⟨rfl,rfl⟩,by unfold nQ zTy;rw[tn,tns];decide⟩,fun p hp=>(by cases hp),Ac _,Ac _⟩
mutual
def n7:Ex→Prop
 | .mk f _ _ _ ks ps bs s=>(ks.length≤4002∧ps.length≤4002∧bs.length≤4002)∧SchOk s∧((f=4→ks.length=2)∧(f=5∨f=6∨f=8→ks.length=1)∧(f=7→ks.length=ps.length+1))∧u6 ps∧oC ks∧dZ bs
def oC:List Ex→Prop
 | []=>True
 | e::l=>n7 e∧oC l
def aRn:Bd→Prop
 | .mk _ _ _ s e=>SchOk s∧n7 e
def dZ:List Bd→Prop
 | []=>True
 | b::l=>aRn b∧dZ l
end
theorem qC:∀{l:List Ex}{p:Ex},oC l→n7 p→oC (l++[p])
 | [],_,_,h=>⟨h,trivial⟩
 | _::_,_,h,k=>⟨h.1,qC h.2 k⟩
theorem mT:∀{l:List Bd}{p:Bd},dZ l→aRn p→dZ (l++[p])
 | [],_,_,h=>⟨h,trivial⟩
 | _::_,_,h,k=>⟨h.1,mT h.2 k⟩
theorem gM:∀{l:List Bd},dZ l↔∀b∈l,aRn b
 | []=>⟨fun _ b hb=>(by cases hb),fun _=>trivial⟩
 | a::l=>⟨fun h b hb=>by
   rcases Ap.1 hb with rfl | hb
   ·exact h.1
   ·exact gM.1 h.2 b hb,fun h=>⟨h a Bq,gM.2 fun b hb=>h b (Ba _ hb)⟩⟩
theorem n7.z:n7 zEx:=⟨⟨Ac _,Ac _,Ac _⟩,.z,⟨fun h=>by omega,fun h=>by omega,fun h=>by omega⟩,trivial,trivial,trivial⟩
theorem y8:∀l:List Tk,u6 (lJ l)
 | []=>trivial
 | _::l=>⟨⟨Ac _,trivial⟩,y8 l⟩
theorem oX (l:List Tk):(lJ l).length=l.length:=η _
theorem fO {L:List Tk}{z:Z}(h:ZA L z) (hwt:wt L≤30000):ZA L (bO z).2∧SchOk (bO z).1∧((bO z).2.e=0→(bO z).2.R.length<z.R.length)∧Ze z (bO z).2:=by
 refine⟨h.scheme,?_⟩;have hw:=h.wt;have hl:=h.len;unfold bO;split
 ·rename_i he;have c:= @pD z.R;cases hs:cW z.R with
  | error e=>
   obtain⟨e,p⟩:=e;exact⟨.z,fun h0=>absurd h0 (c hs),Ze.refl z⟩
  | ok y=>
   obtain⟨s,R'⟩:=y;obtain⟨_,⟨p,h2,A⟩,r,B,j,E,u⟩:=aKg hs;have q:R'.length<z.R.length:=by rw[h2,ζ];omega
   refine⟨⟨⟨r,by show tn s.ty≤_;omega⟩,fun p hp=>⟨(j p hp).1,by have:=(j p hp).2;omega⟩,by show s.preds.length≤_;omega,?_⟩,fun _=>q,le_of_lt q⟩;show s.vars.length≤_;rw[u];unfold aN0;have g1:=uO (W:=30000) s.preds [] (fun p hp=>by have:=(j p hp).2;omega);have g2:=iR (tfR s.ty) (gP [] s.preds);have g3:=lY s.ty;have g4:s.preds.length*30000≤4001*30000:=Ar _ (by omega);rw[length_nil] at g1;omega
 ·rename_i he;exact⟨.z,fun h0=>absurd h0 he,Ze.refl z⟩
def ExO (L:List Tk) (ex:Nat→Z→Ex×Z):Prop:=∀deep z,ZA L z→ZA L (ex deep z).2∧n7 (ex deep z).1∧((ex deep z).2.e=0→(ex deep z).2.R.length<z.R.length)∧Ze z (ex deep z).2
section
variable {L:List Tk}{ex:Nat→Z→Ex×Z}(hO:ExO L ex) (hwt:wt L≤30000)
include hO
theorem lN (deep:Nat) {z:Z}(h:ZA L z):ZA L (lO ex deep z).2∧n7 (lO ex deep z).1.1∧((lO ex deep z).1.2=true→(lO ex deep z).2.e=0→(lO ex deep z).2.R.length<z.R.length)∧Ze z (lO ex deep z).2:=by
 unfold lO;split
 ·exact⟨h,n7.z,fun e=>Bool.noConfusion e,Ze.refl z⟩
 split
 ·rename_i c;have:=p9 h;refine⟨h.tlp (sF c),?_,fun _ _=>this,le_of_lt this⟩;unfold vZ;split
  ·exact⟨⟨Ac _,Ac _,Ac _⟩,.z,⟨fun h=>by omega,fun h=>by omega,fun h=>by omega⟩,trivial,trivial,trivial⟩
  ·exact⟨⟨Ac _,Ac _,Ac _⟩,.z,⟨fun h=>by omega,fun h=>by omega,fun h=>by omega⟩,trivial,trivial,trivial⟩
 split
 ·exact⟨h,n7.z,fun e=>Bool.noConfusion e,Ze.refl z⟩
 ·obtain⟨g1,g2,g3,g4⟩:=hO (deep+1) _ (h.may c8);have g5:=((Ze.may c8 z).trans g4)
  exact⟨g1.need _,g2,fun _ e=>Ay (wV g1 e) g5,g5.trans (Ze.need _ _)⟩
theorem oS (deep:Nat) (a:Int):∀(f:Nat) (e:Ex) (z:Z),ZA L z→n7 e→ZA L (iH ex deep a f e z).2∧n7 (iH ex deep a f e z).1∧Ze z (iH ex deep a f e z).2
 | 0,e,z,h,he=>⟨h,he,Ze.refl z⟩
 | f+1,e,z,h,he=>by
  rw[iH];obtain⟨g1,g2,_,g4⟩:=lN hO deep h;split
  ·split
   ·exact⟨g1,he,g4⟩
   ·obtain⟨c,j,q⟩:=oS deep a f (aOe a e (lO ex deep z).1.1) _ g1 ⟨⟨show 2≤4002 by decide,Ac _,Ac _⟩,.z,⟨fun _=>rfl,fun h=>by omega,fun h=>by omega⟩,trivial,⟨he,g2,trivial⟩,trivial⟩;exact⟨c,j,g4.trans q⟩
  ·exact⟨h,he,Ze.refl z⟩
omit hO in
theorem dT {z:Z}(h:ZA L z):(aV z).1.length≤4001:=by
 unfold aV;split
 ·have:=jD wE z.R;have:=h.len;dsimp only;omega
 ·exact Ac _
omit hO in
theorem aEx {a:Int}{l:List Tk}{b:Ex}(hl:l.length≤4001) (hb:n7 b):n7 (aSm a l b):=⟨⟨show 1≤4002 by decide,by rw[oX];omega,Ac _⟩,.z,⟨fun h=>by omega,fun _=>rfl,fun h=>by omega⟩,y8 l,⟨hb,trivial⟩,trivial⟩
omit hO in
theorem x5 (a:Int) {z:Z}(h:ZA L z):ZA L (x6 a z).2∧(x6 a z).1.length≤4001∧Ze z (x6 a z).2:=by
 unfold x6;refine⟨?_,dT h,?_⟩
 ·refine ZA.need (ZA.long ?_ _ _ _) _;split
  ·exact h.words.fail _ _
  ·exact h.words
 ·refine Ze.trans ?_ ((Ze.long _ _ _ _).trans (Ze.need _ _));split
  ·exact(Ze.words z).trans (Ze.fail _ _ _)
  ·exact Ze.words z
theorem aL9 (a:Int) (deep:Nat) {z:Z}(h:ZA L z):ZA L (zH ex a deep z).2∧n7 (zH ex a deep z).1∧((zH ex a deep z).2.e=0→(zH ex a deep z).2.R.length<z.R.length)∧Ze z (zH ex a deep z).2:=by
 obtain⟨h1,h2,c⟩:=x5 a h;obtain⟨g1,g2,g3,g4⟩:=hO (deep+1) _ h1;exact⟨g1,aEx h2 g2,fun e=>Ay (g3 e) c,c.trans g4⟩
omit hO in
theorem sU (c:Tk) {z:Z}(h:ZA L z):ZA L (k9 c z).2∧(k9 c z).1.length≤4001∧Ze z (k9 c z).2:=
 ⟨(h.words.long _ _ _).need _,dT h,(Ze.words z).trans ((Ze.long _ _ _ _).trans (Ze.need _ _))⟩
theorem oR (c:Tk) (deep:Nat) {z:Z}(h:ZA L z):ZA L (dL ex c deep z).2∧aRn (dL ex c deep z).1∧((dL ex c deep z).2.e=0→(dL ex c deep z).2.R.length<z.R.length)∧Ze z (dL ex c deep z).2:=by
 obtain⟨h1,h2,j⟩:=sU c h;obtain⟨g1,g2,g3,g4⟩:=hO deep _ h1;refine⟨g1,⟨.z,?_⟩,fun e=>Ay (g3 e) j,j.trans g4⟩;unfold aQu;split
 ·exact g2
 ·rename_i t l hl;rw[hl] at h2;exact aEx h2 g2
end
def eW (l:List Sg):Prop:=∀s∈l,SchOk s.ty
theorem aDk {l:List Sg}{s:Sg}(h:eW l) (k:SchOk s.ty):eW (l++[s]):=fun x hx=>by
 rcases Bi.1 hx with hx | hx
 ·exact h x hx
 ·rw[A4.1 hx];exact k
theorem dC {s:Str}{n:Nat}{z:Z}(h:(b5 s n z).1=true):(b5 s n z).2.e=0∧n+1≤60:=by
 unfold b5 at h ⊢;split
 ·rename_i hc;rw[θ hc] at h;cases h
 ·rename_i hc;rw[ξ hc] at h;have h:=χ h;refine⟨h,?_⟩;unfold c7 at h;split at h
  ·exact(gF (by decide) h).elim
  ·omega
theorem Ze.semi (z:Z):Ze z (cN z):=by
 unfold cN;split
 ·exact jS _ _
 ·exact Ze.refl z
theorem Ze.more (s:Str) (n:Nat) (z:Z):Ze z (b5 s n z).2:=by
 have h1:Ze z (moreA s n z):=by
  unfold moreA;split
  ·exact Ze.fail _ _ z
  ·exact Ze.refl z
 unfold b5;split
 ·exact h1.trans (Ze.semi _)
 ·exact h1.trans ((Ze.semi _).trans (Ze.long _ _ _ _))
theorem nU {b:List Bd}{p:Bd→Bool}{k:Nat}(h:b.findIdx? p=some k):k<b.length:=by
 rw[List.findIdx?_eq_some_iff_getElem] at h;exact h.1
theorem fK {L:List Tk}:∀(l:List Sg) (b:List Bd) (z:Z),ZA L z→eW l→dZ b→ZA L (dF l b z).2∧dZ (dF l b z).1∧(dF l b z).1.length=b.length∧Ze z (dF l b z).2
 | [],b,z,h,_,hb=>⟨h,hb,rfl,Ze.refl z⟩
 | s::l,b,z,h,hs,hb=>by
  have hl:eW l:=fun x hx=>hs x (Ba _ hx)
  rw[dF];split
  ·split
   ·obtain⟨g1,g2,g3,g4⟩:=fK l b (bS 21 s.pl z) (h.fail _ _) hl hb;exact⟨g1,g2,g3,(Ze.fail _ _ _).trans g4⟩
   ·rename_i k j;split
    ·exact⟨h,hb,rfl,Ze.refl z⟩
    ·rename_i x hx;split
     ·obtain⟨g1,g2,g3,g4⟩:=fK l b (bS 20 s.pl z) (h.fail _ _) hl hb;exact⟨g1,g2,g3,(Ze.fail _ _ _).trans g4⟩
     ·have c:dZ (b.set k (lZ x s.ty)):=gM.2 fun y hy=>by
       rcases List.mem_or_eq_of_mem_set hy with hy | rfl
       ·exact gM.1 hb y hy
       ·have:=gM.1 hb x (Ag hx);cases x with
        | mk n p hh sg e=>exact⟨hs s Bq,this.2⟩
      obtain⟨g1,g2,g3,g4⟩:=fK l (b.set k (lZ x s.ty)) z h hl c;exact⟨g1,g2,by rw[g3,length_set],g4⟩
  ·exact⟨h,hb,rfl,Ze.refl z⟩
section
variable {L:List Tk}{ex:Nat→Z→Ex×Z}(hO:ExO L ex) (hwt:wt L≤30000)
include hO hwt
theorem kL (sigs:List Sg) (binds:List Bd) (deep:Nat) {z:Z}(h:ZA L z) (hs:eW sigs) (hb:dZ binds):ZA L (aZ ex sigs binds deep z).2∧eW (aZ ex sigs binds deep z).1.1∧dZ (aZ ex sigs binds deep z).1.2∧
  (aZ ex sigs binds deep z).1.1.length≤sigs.length+1∧(aZ ex sigs binds deep z).1.2.length≤binds.length+1∧((aZ ex sigs binds deep z).2.e=0→(aZ ex sigs binds deep z).2.R.length<z.R.length)∧Ze z (aZ ex sigs binds deep z).2:=by
 have h1:=(h.word (k:=1) (by decide)).may eU;have c:=(Ze.word 1 z).trans (Ze.may eU _);unfold aZ;split
 ·obtain⟨g1,g2,g3,g4⟩:=fO h1 hwt;exact⟨g1,aDk hs g2,hb,by rw[ζ,Bc];exact le_refl _,Nat.le_succ _,fun e=>Ay (g3 e) c,c.trans g4⟩
 ·obtain⟨g1,g2,g3,g4⟩:=oR hO (aR 1 z).1 deep h1;exact⟨g1,hs,mT hb g2,Nat.le_succ _,by rw[ζ,Bc];exact le_refl _,fun e=>Ay (g3 e) c,c.trans g4⟩
theorem zF (deep:Nat):∀(f n:Nat) (sigs:List Sg) (binds:List Bd) (z:Z),ZA L z→eW sigs→dZ binds→n≤60→sigs.length≤n→binds.length≤n→ZA L (j8 ex deep f n sigs binds z).2∧eW (j8 ex deep f n sigs binds z).1.1∧dZ (j8 ex deep f n sigs binds z).1.2∧
  (j8 ex deep f n sigs binds z).1.1.length≤60∧(j8 ex deep f n sigs binds z).1.2.length≤60∧Ze z (j8 ex deep f n sigs binds z).2
 | 0,n,sigs,binds,z,h,hs,hb,hn,h1,h2=>by rw[j8];exact⟨h,hs,hb,by dsimp only;omega,by dsimp only;omega,Ze.refl z⟩
 | f+1,n,sigs,binds,z,h,hs,hb,hn,h1,h2=>by
  rw[j8];split
  ·rename_i hm;obtain⟨_,c⟩:=dC hm;obtain⟨g1,g2,g3,g4,g5,_,g6⟩:=kL hO hwt sigs binds deep (h.more b6 n) hs hb;obtain⟨j,q,r,u,y,A⟩:=zF deep f (n+1) _ _ _ g1 g2 g3 c (by omega) (by omega);exact⟨j,q,r,u,y,((Ze.more b6 n z).trans g6).trans A⟩
  ·exact⟨h.more _ _,hs,hb,by dsimp only;omega,by dsimp only;omega,Ze.more _ _ _⟩
theorem aL8 (a:Int) (deep:Nat) {z:Z}(h:ZA L z):ZA L (zG ex a deep z).2∧n7 (zG ex a deep z).1∧((zG ex a deep z).2.e=0→(zG ex a deep z).2.R.length<z.R.length)∧Ze z (zG ex a deep z).2:=by
 obtain⟨g1,g2,g3,g4,g5,g6⟩:=zF hO hwt (deep+1) ((aQ dG z).R.length+1) 0 [] [] _ (h.need dG) (fun s hs=>by cases hs) trivial (by decide) (le_refl _) (le_refl _);obtain⟨j,q,r,u⟩:=fK (aC2 ex deep z).1.1 (aC2 ex deep z).1.2 (aQ b6 (aC2 ex deep z).2) (g1.need _) g2 g3;have c:=((((Ze.need dG z).trans g6).trans (Ze.need b6 _)).trans u).trans (Ze.need inS _);obtain⟨m1,m2,m3,m4⟩:=hO (deep+1) _ (j.need inS);have y:(aN9 (aC2 ex deep z)).1.length=(aC2 ex deep z).1.2.length:=r;have A:(aC2 ex deep z).1.2.length≤60:=g5;exact⟨m1,⟨⟨show 1≤4002 by decide,Ac _,by omega⟩,.z,⟨fun h=>by omega,fun _=>rfl,fun h=>by omega⟩,trivial,⟨m2,trivial⟩,q⟩,fun e=>Ay (m3 e) c,c.trans m4⟩
omit hwt in
theorem aA4 (deep:Nat):∀(f n:Nat) (ps:List Pt) (ks:List Ex) (z:Z),ZA L z→u6 ps→oC ks→n≤60→ps.length=n→ks.length=n+1→ZA L (iY ex deep f n ps ks z).2∧u6 (iY ex deep f n ps ks z).1.1∧oC (iY ex deep f n ps ks z).1.2∧
  (iY ex deep f n ps ks z).1.1.length≤60∧(iY ex deep f n ps ks z).1.2.length=(iY ex deep f n ps ks z).1.1.length+1∧Ze z (iY ex deep f n ps ks z).2
 | 0,n,ps,ks,z,h,hp,c,hn,h1,h2=>by rw[iY];exact⟨h,hp,c,by dsimp only;omega,by dsimp only;omega,Ze.refl z⟩
 | f+1,n,ps,ks,z,h,hp,c,hn,h1,h2=>by
  rw[iY];split
  ·rename_i hm;obtain⟨_,j⟩:=dC hm;obtain⟨g1,g2,_,g4⟩:=(iP L (3*(b5 b6 n z).2.R.length+1)).2.1 0 _ (h.more b6 n);obtain⟨m1,m2,_,m4⟩:=hO (deep+1) _ (g1.need arrow);obtain⟨q,r,u,y,A,B⟩:=aA4 deep f (n+1) (ps++[(j3 (3*(b5 b6 n z).2.R.length+1) 0 (b5 b6 n z).2).1]) (ks++[(ex (deep+1) (aQ arrow (j3 (3*(b5 b6 n z).2.R.length+1) 0 (b5 b6 n z).2).2)).1]) _ m1 (oJ hp g2) (qC c m2) j (by rw[ζ,h1];rfl) (by rw[ζ,h2];rfl);exact⟨q,r,u,y,A,((((Ze.more b6 n z).trans g4).trans (Ze.need _ _)).trans m4).trans B⟩
  ·exact⟨h.more _ _,hp,c,by dsimp only;omega,by dsimp only;omega,Ze.more _ _ _⟩
omit hwt in
theorem aI0 (a:Int) (deep:Nat) {z:Z}(h:ZA L z):ZA L (jX ex a deep z).2∧n7 (jX ex a deep z).1∧((jX ex a deep z).2.e=0→(jX ex a deep z).2.R.length<z.R.length)∧Ze z (jX ex a deep z).2:=by
 obtain⟨m1,m2,m3,m4⟩:=hO (deep+1) z h;have h1:ZA L (gJ ex deep z).2:=(m1.need ofS).need dG;have j:Ze z (gJ ex deep z).2:=(m4.trans (Ze.need ofS _)).trans (Ze.need dG _);obtain⟨g1,g2,g3,g4,g5,g6⟩:=aA4 hO deep ((gJ ex deep z).2.R.length+1) 0 [] [(gJ ex deep z).1] _ h1 trivial ⟨m2,trivial⟩ (by decide) rfl rfl;have g1:ZA L (jA ex deep (gJ ex deep z)).2:=g1;have g6:Ze (gJ ex deep z).2 (jA ex deep (gJ ex deep z)).2:=g6;have u:(jA ex deep (gJ ex deep z)).1.1.length≤60:=g4;have q:(jA ex deep (gJ ex deep z)).1.2.length=(jA ex deep (gJ ex deep z)).1.1.length+1:=g5;have hex:n7 (jX ex a deep z).1:=⟨⟨by omega,by omega,Ac _⟩,.z,⟨fun h=>by omega,fun h=>by omega,fun _=>q⟩,g2,g3,trivial⟩
 have h2:=g1.need b6;have r:(aQ b6 (jA ex deep (gJ ex deep z)).2).e=0→(aQ b6 (jA ex deep (gJ ex deep z)).2).R.length<z.R.length:=fun e=>Ay (wV g1 e) (j.trans g6)
 have c:Ze z (aQ b6 (jA ex deep (gJ ex deep z)).2):=(j.trans g6).trans (Ze.need _ _);unfold jX at hex ⊢;dsimp only at hex ⊢;split
 ·exact⟨h2.fail _ _,hex,fun e=>(gF (by decide) e).elim,c.trans (Ze.fail _ _ _)⟩
 ·exact⟨h2,hex,r,c⟩
omit hO in
theorem aNq (a:Int) {y:Ex×Z}(h:ZA L y.2) (he:n7 y.1):ZA L (y2 a y).2∧n7 (y2 a y).1∧Ze y.2 (y2 a y).2:=by
 unfold y2;split
 ·obtain⟨g1,g2,_,g4⟩:=fO (h.may eU) hwt;exact⟨g1,⟨⟨show 1≤4002 by decide,Ac _,Ac _⟩,g2,⟨fun h=>by omega,fun _=>rfl,fun h=>by omega⟩,trivial,⟨he,trivial⟩,trivial⟩,(Ze.may eU _).trans g4⟩
 ·exact⟨h.may eU,he,Ze.may eU _⟩
omit hwt in
theorem aEg (deep:Nat) {z:Z}(h:ZA L z):ZA L (lC ex deep z).2∧n7 (lC ex deep z).1∧Ze z (lC ex deep z).2:=by
 obtain⟨g1,g2,g3,g4⟩:=lN hO deep h;unfold lC;split
 ·obtain⟨c,j,q⟩:=oS hO deep (aX z).pl (z.R.length+1) _ _ (g1.fail 12 (aX z).pl) g2;exact⟨c,j,(g4.trans (Ze.fail _ _ _)).trans q⟩
 ·obtain⟨c,j,q⟩:=oS hO deep (aX z).pl (z.R.length+1) _ _ g1 g2;exact⟨c,j,g4.trans q⟩
end
theorem aNp {ex:Nat→Z→Ex×Z}{deep:Nat}{a:Int}{f:Nat}{e:Ex}{z:Z}(h:(iH ex deep a f e z).2.e=0):z.e=0:=by
 cases f with
 | zero=>exact h
 | succ f=>
  rw[iH] at h;split at h
  ·assumption
  ·exact h
theorem aQ2 {a:Int}{y:Ex×Z}(h:(y2 a y).2.e=0):y.2.e=0:=by
 unfold y2 at h;split at h
 ·unfold bO at h;split at h
  ·rename_i he;rwa [gR] at he
  ·rwa [gR] at h
 ·rwa [gR] at h
theorem aMi {L:List Tk}{ex:Nat→Z→Ex×Z}(hO:ExO L ex) (hwt:wt L≤30000):ExO L (aB8 ex):=by
 intro deep z h;unfold aB8;split
 ·rename_i he;exact⟨h,n7.z,fun e=>absurd e he,Ze.refl z⟩
 split
 ·exact⟨h.fail _ _,n7.z,fun e=>(gF (by decide) e).elim,Ze.fail _ _ _⟩
 split
 ·obtain⟨g1,g2,g3,g4⟩:=aL9 hO (aX z).pl deep (h.may wZ);have l:=Ze.may wZ z;exact⟨g1,g2,fun e=>Ay (g3 e) l,l.trans g4⟩
 split
 ·obtain⟨g1,g2,g3,g4⟩:=aL8 hO hwt (aX z).pl deep (h.may wY);have l:=Ze.may wY z;exact⟨g1,g2,fun e=>Ay (g3 e) l,l.trans g4⟩
 split
 ·obtain⟨g1,g2,g3,g4⟩:=aI0 hO (aX z).pl deep (h.may lS);have l:=Ze.may lS z;exact⟨g1,g2,fun e=>Ay (g3 e) l,l.trans g4⟩
 ·obtain⟨g1,g2,g3⟩:=aEg hO deep h;obtain⟨r,u,c⟩:=aNq hwt (aX z).pl g1 g2;refine⟨r,u,fun e=>?_,g3.trans c⟩;have q:=aQ2 e;obtain⟨y,A,B,I⟩:=lN hO deep h;unfold lC at q c ⊢;have j:=aNp q;split at j
  ·exact(gF (by decide) j).elim
  ·rename_i hs;have hs:(lO ex deep z).1.2=true:=by simpa using hs
   rw[ξ (by rw[hs];exact fun k=>Bool.noConfusion k)] at c ⊢;obtain⟨_,_,E⟩:=oS hO deep (aX z).pl (z.R.length+1) _ _ y A;exact Bt (E.trans c) (B hs j)
theorem jR {L:List Tk}(hwt:wt L≤30000):∀f,ExO L (aHf f)
 | 0=>fun deep z h=>⟨h.fail _ _,n7.z,fun e=>(gF (by decide) e).elim,Ze.fail _ _ _⟩
 | f+1=>aMi (jR hwt f) hwt
def aHj:List C:=[.int .i64 0,.int .i64 0,.int .i64 0,.str [],.nl,.nl,.nl,.nl,.nl,.nl,.int .i64 0,.int .i64 0,.str [],.nl,.nl]
theorem aAf (l:List Tk) (hl:l.length≤4001):b8 Tryz.prog 168 [.one (.c (.sl 4 (l.map aG)))] [] (.one (.c (.sl 10 ((lJ l).map bG)))) []:=by
 have q:(l.map aG).length=l.length:=η _;refine bM (n:=26) tok Tryz.func168 rfl rfl rfl ?_;refine sg rfl (sg rfl (AWp.sub (Sub.own (t:=3) (id:=500) 49 10 rfl rfl) ?_));refine aA (sg rfl (aF (aK (fun i:Nat=>mk [(0,.one (.c (.sl 4 (l.map aG)))),(3,.one (.hs 500 0 i i)),(4,I .i64 (i:Nat))] [(500,.arr 49 10 ((lJ (l.take i)).map bG) 0)]) (fun i=>i≤l.length) (fun i=>l.length-i) 0 (Ac _) sl ?_)));intro i hi;have j:((lJ (l.take i)).map bG).length=i:=by rw[η,oX,Am];omega
 refine aA (sg rfl (aB rfl (fun hb=>?_) (fun hb=>?_)))
 ·have r:=ltD hb q;obtain⟨t,ht⟩:=aN r;have A:=aY aG ht;have u:(lJ (l.take (i+1))).map bG=(lJ (l.take i)).map bG++[bG (.mk 2 t.pl 0 t.text [])]:=by
   unfold lJ;rw[A7,ht,Ai,Ai];rfl
  exact aD (aA (aF (ag [(3,.row i (aG t)),(8,.row i (aG t)),(12,.all)] rfl (agN [] rfl ⟨i+1,r,by dsimp only;omega,sl (he:=⟨rfl,Go.AM.hs_ren (congrArg (· +1) j) (congrArg (· +1) j),rfl,trivial⟩) (hh:=⟨⟨_,rfl,.arrS u.symm⟩,trivial⟩)⟩))))
 ·have y:=geD hb q hi;subst y;rw[Aq] at j ⊢;refine aH (AWp.sub (Sub.freeze (id:=500) rfl) ?_);exact sg rfl (aE (rtH (hsz:=j.symm) (hlen:=j.symm)))
def ExS (L:List Tk) (ex:Nat→Z→Ex×Z) (N:Nat):Prop:=∀(deep:Nat) (z:Z),ZA L z→z.R.length≤N→deep≤41→b8 Tryz.prog 67 [xP,I .i64 (deep:Nat)] [(700,zO L z)] (.pa (bN (ex deep z).1)) [(700,zO L (ex deep z).2)]
section
variable {L:List Tk}{ex:Nat→Z→Ex×Z}{N:Nat}(hO:ExO L ex) (hS:ExS L ex N)
include hO hS
theorem aKx (deep:Nat) {z:Z}(h:ZA L z) (hN:z.R.length≤N+1) (hd:deep≤40):b8 Tryz.prog 121 [xP,I .i64 (deep:Nat)] [(700,zO L z)] (.tup [.pa (bN (lO ex deep z).1.1),B (lO ex deep z).1.2]) [(700,zO L (lO ex deep z).2)]:=by
 have ho:=eO L z;unfold lO;by_cases he:z.e=0
 case neg=>
  rw[θ he];rw[ψ he] at ho;refine bM (n:=56) tok Tryz.func121 rfl rfl rfl ?_;refine sg rfl (aA (sk 1 rfl (kc ho ?_)));exact kz 1 rfl (aB rfl (fun _=>sg rfl (aE oH)) (fun hb=>Bool.noConfusion hb))
 rw[ξ (fun k=>k he)];rw[φ he] at ho;have hn:=fA h;have hm:=gX h c8;have Y:=h.l;refine bM (n:=56) tok Tryz.func121 rfl rfl rfl ?_;refine sg rfl (aA (sk 1 rfl (kc ho ?_)));refine kz 1 rfl (aB rfl (fun hb=>Bool.noConfusion hb) (fun _=>aD (sk 1 rfl (kc hn ?_))));refine kz 2 rfl ?_;by_cases j:0<(aX z).kind∧(aX z).kind<4
 ·rw[θ j];obtain⟨_,J⟩:=h.tl (sF j) z.e z.p;have U:zO L (tlZ z)=.var 78 [.c (.sl 4 (L.map aG)),.c (.int .i64 ((L.length-z.R.length+1:Nat):Int)),.c (.int .i64 z.e),.c (.int .i64 z.p)]:=by
   unfold zO tlZ;dsimp only;rw[J]
  rw[U];have d1:decide ((0:Int)<(aX z).kind)=true:=φ j.1;have d2:decide ((aX z).kind<(4:Int))=true:=φ j.2;refine aA (sgh [(3,.bv true),(7,.bv true)] rfl (aB rfl (fun _=>?_) (fun hb=>absurd (hb.symm.trans d2) Bool.noConfusion)));unfold zO vZ;refine aA (agN [] rfl (aA (sg rfl (aB rfl (fun hb=>?_) (fun hb=>?_)))))
  ·rw[θ (χ hb)];exact sg rfl (aE oH)
  ·rw[ξ (Ad hb)];exact aD (sg rfl (aE oH))
 rw[ξ j];refine aA (aA (AWp.cut (mk [(0,xP),(1,I .i64 (deep:Nat)),(4,.one (.vp 4 0)),(21,B false)] [(700,zO L z),(4,.var 61 (aHj.map .c))]) ?_ ?_))
 ·by_cases E:0<(aX z).kind
  ·have d2:decide ((aX z).kind<(4:Int))=false:=ψ (fun k=>j ⟨E,k⟩);have d1:decide ((0:Int)<(aX z).kind)=true:=φ E;refine ag [(3,.bv true),(7,.bv true)] rfl ?_;rw[d2];exact sl
  ·have d1:decide ((0:Int)<(aX z).kind)=false:=ψ E;exact ag [(3,.bv false),(7,.bv false)] rfl sl
 refine aB rfl (fun hb=>Bool.noConfusion hb) (fun _=>aD ?_);have q:=eG (s:=c8) h;have h1:=h.may c8;have A:(bP c8 z).1=false→(bP c8 z).2=z:=fun hb=>by
  unfold bP at hb ⊢;split
  ·rename_i hc;rw[θ hc] at hb;cases hb
  ·rfl
 generalize bP c8 z=m at hm q h1 A ⊢;obtain⟨b,r⟩:=m;refine aA (sk 1 rfl (kc hm ?_));refine kz 1 rfl ?_;cases b with
 | false=>
  have M:r=z:=A rfl;subst M;rw[θ rfl];exact aB rfl (fun _=>sg rfl (aE oH)) (fun hb=>Bool.noConfusion hb)
 | true=>
  rw[ξ (show ¬(true=false) from fun k=>Bool.noConfusion k)];have q:r.R.length<z.R.length:=q rfl;dsimp only at h1 ⊢;have u:=hS (deep+1) r h1 (by omega) (by omega);obtain⟨g1,_⟩:=hO (deep+1) r h1;generalize ex (deep+1) r=y at u g1 ⊢;obtain⟨e,z2⟩:=y;dsimp only at u g1 ⊢;have O:=cP g1 nE;refine aB rfl (fun hb=>Bool.noConfusion hb) (fun _=>aD (aA (aC mixed (akN 3 [] rfl (kc u ?_)))));refine kz 2 rfl (sk 1 rfl (kc O ?_));exact az (sg rfl (aE oH))
end
section
variable {L:List Tk}{ex:Nat→Z→Ex×Z}{N:Nat}(hS:ExS L ex N)
include hS
theorem aQg (a:Int) (deep:Nat) {z:Z}(h:ZA L z) (U:z.R.length≤N) (hd:deep≤40):b8 Tryz.prog 118 [xP,I .i64 a,I .i64 (deep:Nat)] [(700,zO L z)] (.pa (bN (zH ex a deep z).1)) [(700,zO L (zH ex a deep z).2)]:=by
 obtain⟨g1,g2,g3⟩:=x5 a h;have j:=hS (deep+1) (x6 a z).2 g1 (le_trans g3 U) (by omega);unfold zH;generalize hy:ex (deep+1) (x6 a z).2=y at j ⊢;obtain⟨b,z6⟩:=y;dsimp only at j ⊢;unfold x6 at j g2 ⊢;dsimp only at j g2 ⊢;have r:=oN h;have h1:=h.words;generalize aV z=w at j g2 r h1 ⊢;obtain⟨l,u⟩:=w;dsimp only at j g2 r h1 ⊢;have hn:=fA h1;have E:=dI L u 12 (aX u).pl;have J:(l.map aG).length=l.length:=η _;have Y:=aAf l g2;refine bM (n:=34) tok Tryz.func118 rfl rfl rfl ?_;refine sg rfl (sk 1 rfl (kc r ?_));refine kz 1 rfl ?_;have B:∃z2,z2=(if l=[] then bS 12 (aX u).pl u else u)∧ZA L z2:=⟨_,rfl,by split<;>first | exact h1.fail _ _ | exact h1⟩
 obtain⟨z2,q,h2⟩:=B;rw[←q] at j;have A:=jY L z2 l.length 8 a;have M:=h2.long l.length 8 a;refine aA (AWp.cut (mk [(0,xP),(1,I .i64 a),(2,I .i64 (deep:Nat)),(6,.one (.vp 6 0)),(7,.one (.c (.sl 4 (l.map aG))))] [(700,zO L z2),(6,.var 61 (aHj.map .c))]) ?_ ?_)
 ·refine sg rfl ?_;by_cases hl:l=[]
  ·rw[θ hl] at q;subst hl q;refine aB rfl (fun _=>aC mixed (ak 2 [] rfl (kc hn ?_))) (fun hb=>Bool.noConfusion hb);refine ak 1 [] rfl (kc E ?_);exact az sl
  ·rw[ξ hl] at q;subst q;have d0:decide (((l.map aG).length:Int)=0)=false:=ψ (by have:=Cp.2 hl;omega);exact aB rfl (fun hb=>absurd (hb.symm.trans d0) Bool.noConfusion) (fun _=>aD sl)
 generalize c7 l.length 8 a z2=z3 at A M j;have O:=cP M arrow;refine sk 4 rfl ?_;rw[J];refine kc A ?_;refine az (sk 1 rfl (kc O ?_));refine az (sk 2 rfl (kc Y ?_));refine akN 3 [] rfl (kc j ?_);exact ak 3 [(7,.all)] rfl (az (aE (rtC trw)))
theorem aF9 (j:Tk) (deep:Nat) {z:Z}(h:ZA L z) (J:z.R.length≤N) (M:deep≤41):b8 Tryz.prog 163 [xP,tkV j,I .i64 (deep:Nat)] [(700,zO L z)] (.pa (aW (dL ex j deep z).1)) [(700,zO L (dL ex j deep z).2)]:=by
 obtain⟨g1,g2,g3⟩:=sU j h;have c:=hS deep (k9 j z).2 g1 (le_trans g3 J) M;unfold dL;generalize hy:ex deep (k9 j z).2=y at c ⊢;obtain⟨b,U⟩:=y;dsimp only at c ⊢;unfold k9 at c g2 ⊢;dsimp only at c g2 ⊢;have q:=oN h;have h1:=h.words;generalize aV z=w at c g2 q h1 ⊢;obtain⟨l,A⟩:=w;dsimp only at c g2 q h1 ⊢;have r:(l.map aG).length=l.length:=η _;have O:=aAf l g2;have u:=jY L A l.length 8 j.pl;have B:=h1.long l.length 8 j.pl;generalize c7 l.length 8 j.pl A=z3 at u B c;have E:=cP B eqS;refine bM (n:=40) tok Tryz.func163 rfl rfl rfl ?_;refine sg rfl (sk 1 rfl (kc q ?_));refine kz 1 rfl (sk 5 rfl ?_);rw[r];refine kc u ?_;refine az (sk 1 rfl (kc E ?_));refine az (sk 2 rfl (kc c ?_));refine kz 2 rfl (aA (sg rfl ?_));cases l with
 | nil=>
  exact aB rfl (fun hb=>Bool.noConfusion hb) (fun _=>aD (sg rfl (aE (rtC trw))))
 | cons t l=>
  have d0:decide ((0:Int)<(((t::l).map aG).length:Int))=true:=φ (by rw[r,ε];omega);have ht:((t::l).map aG)[0]?=some (aG t):=rfl;refine aB rfl (fun _=>aC mixed (ak 5 [(1,.row 0 (aG t))] rfl (kc O ?_))) (fun hb=>absurd (hb.symm.trans d0) Bool.noConfusion);exact ak 4 [(7,.all)] rfl (az (sg rfl (aE (rtC trw))))
end
def sgA (l:List Sg) (f:Nat):AObj:=.arr 92 9 (l.map c6) f
def bdA (l:List Bd) (f:Nat):AObj:=.arr 99 33 (l.map aW) f
def hsV (id n:Nat):V:=.one (.hs id 0 n n)
section
variable {L:List Tk}{ex:Nat→Z→Ex×Z}{N:Nat}(hS:ExS L ex N) (hwt:wt L≤30000)
include hS hwt
theorem vJ (sigs:List Sg) (binds:List Bd) (deep:Nat) {z:Z}(h:ZA L z) (O:z.R.length≤N) (U:deep≤41) (h1:sigs.length≤4001) (h2:binds.length≤4001):
  b8 Tryz.prog 98 [xP,hsV 510 sigs.length,hsV 511 binds.length,I .i64 (deep:Nat)] [(700,zO L z),(510,sgA sigs 0),(511,bdA binds 0)]
   (.tup [hsV 510 (aZ ex sigs binds deep z).1.1.length,hsV 511 (aZ ex sigs binds deep z).1.2.length]) [(700,zO L (aZ ex sigs binds deep z).2),(510,sgA (aZ ex sigs binds deep z).1.1 0),(511,bdA (aZ ex sigs binds deep z).1.2 0)]:=by
 have hw:=gZ h 1 (by decide);have g1:=h.word (k:=1) (by decide);have E:=Ze.word 1 z;have A:(sigs.map c6).length=sigs.length:=η _;have B:(binds.map aW).length=binds.length:=η _;unfold aZ;generalize aR 1 z=w at hw g1 E ⊢;obtain⟨j,M⟩:=w;dsimp only at hw g1 E ⊢;have hm:=gX g1 eU;have g2:=g1.may eU;have J:=Ze.may eU M;generalize bP eU M=m at hm g2 J ⊢;obtain⟨b,z2⟩:=m;dsimp only at hm g2 J ⊢;refine bM (n:=34) tok Tryz.func98 rfl rfl rfl ?_;refine sg rfl (sk 1 rfl (kc hw ?_));refine kz 2 rfl (aA (sk 1 rfl (kc hm ?_)));refine az ?_;cases b with
 | true=>
  rw[θ rfl];have q:=qH g2 hwt;generalize bO z2=y at q ⊢;obtain⟨s,z3⟩:=y;dsimp only at q ⊢;have c:sigs.map c6++[c6 ⟨j.text,j.pl,s⟩]=(sigs++[(⟨j.text,j.pl,s⟩:Sg)]).map c6:=by rw[Ai];rfl
  have hle:(sigs++[(⟨j.text,j.pl,s⟩:Sg)]).length=sigs.length+1:=by rw[ζ];rfl
  generalize sigs++[(⟨j.text,j.pl,s⟩:Sg)]=S at c hle ⊢;refine aB rfl (fun _=>sk 6 rfl (kc q ?_)) (fun hb=>Bool.noConfusion hb);refine ak 6 [(8,.all)] rfl (az (AWp.sub (st2:=mk [(8,hsV 510 S.length),(9,hsV 511 binds.length)] [(700,zO L z3),(510,sgA S 0),(511,bdA binds 0)]) (sl (he:=⟨Go.AM.hs_ren (by rw[hle,←A];rfl) (by rw[hle,←A];rfl),rfl,trivial⟩) (hh:=⟨⟨_,rfl,.var rfl⟩,⟨_,rfl,.arrS c⟩,⟨_,rfl,Go.AM.Ole.arr⟩,trivial⟩)) ?_));exact aE aS3
 | false=>
  rw[ξ ω];have r:=aF9 hS j deep g2 (le_trans (E.trans J) O) U;generalize dL ex j deep z2=y at r ⊢;obtain⟨u,z3⟩:=y;dsimp only at r ⊢;have c:binds.map aW++[aW u]=(binds++[u]).map aW:=by rw[Ai];rfl
  have hle:(binds++[u]).length=binds.length+1:=by rw[ζ];rfl
  generalize binds++[u]=S at c hle ⊢;refine aB rfl (fun hb=>Bool.noConfusion hb) (fun _=>aD (sk 5 rfl (kc r ?_)));refine ak 4 [(6,.all)] rfl (az (AWp.sub (st2:=mk [(8,hsV 510 sigs.length),(9,hsV 511 S.length)] [(700,zO L z3),(510,sgA sigs 0),(511,bdA S 0)]) (sl (he:=⟨rfl,Go.AM.hs_ren (by rw[hle,←B];rfl) (by rw[hle,←B];rfl),trivial⟩) (hh:=⟨⟨_,rfl,.var rfl⟩,⟨_,rfl,Go.AM.Ole.arr⟩,⟨_,rfl,.arrS c⟩,trivial⟩)) ?_));exact aE aS3
end
end Go.Proofs.YtpmheldmadendaaGreatDoor
