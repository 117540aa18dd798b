/-
  Texts Re5 to Re6 in one.
-/
import Derived.Test.YtpmheldmadendaaGreatDoorM10
import Derived.Tactics2
import Derived.LoopTactic
open List (append_assoc append_nil cons_append dropWhile_cons drop_append_of_le_length drop_eq_getElem_cons drop_eq_nil_of_le drop_zero length_append length_cons length_drop length_map length_nil length_pos_iff length_set length_take map_append map_cons map_nil map_set mem_cons mem_singleton nil_append set_append_right takeWhile_cons take_add_one take_length take_succ_cons)
open Nat (le_refl le_trans lt_irrefl lt_succ_self sub_self succ_pos zero_le)
namespace Go.Proofs.YtpmheldmadendaaGreatDoor
open Go Go.AM
set_option maxRecDepth 20000
set_option maxHeartbeats 4000000
def dlm (b:Str):Prop:=b=[]∨∃d b',b=d::b'∧sgB d.toNat=false
def LxD (a:Str) (ts:List Tk):Prop:=∀b us,dlm b→Lxs b us→Lxs (a++b) (ts++us)
theorem Lx.d {a:Str}{ts:List Tk}(h:Lx a ts):LxD a ts:=fun b us _ k=>h b us k
theorem Lx.appD {a b:Str}{ts us:List Tk}(h:Lx a ts) (k:LxD b us):LxD (a++b) (ts++us):=fun c vs hd hc=>by
 rw[Ae,Ae];exact h _ _ (k _ _ hd hc)
theorem LxD.appD {a b:Str}{ts us:List Tk}(h:LxD a ts) (hb:∃d q,b=d::q∧sgB d.toNat=false) (k:LxD b us):LxD (a++b) (ts++us):=fun c vs r hc=>by
 obtain⟨d,q,rfl,hd⟩:=hb;rw[Ae,Ae];exact h _ _ (.inr ⟨d,q++c,rfl,hd⟩) (k _ _ r hc)
theorem LxD.all {a:Str}{ts:List Tk}(h:LxD a ts):Lxs a (ts++[gU]):=by
 have:=h [] _ (.inl rfl) Lxs.nil;rwa [A3] at this
def aMm:Nat→Str→Option (List Tk)
 | _,[]=>some []
 | 0,_=>none
 | f+1,c::r=>
  if blB c.toNat=true then aMm f r
  else if preB [45,45] (c::r)=true then none
  else match j4 (c::r) with
   | .error _=>none
   | .ok (k,t,v)=>if t.length<(c::r).length∨t∈tS∨¬k=4 then aR1 ⟨k,t,v,0⟩ (aMm f ((c::r).drop t.length)) else none
theorem uH {p:Nat→Bool}(hp:∀c:UInt8,p c.toNat=true→sgB c.toNat=true) {b:Str}(hb:dlm b):∀s:Str,cN p (s++b)=cN p s
 | []=>by
  rw[Ak];rcases hb with rfl | ⟨d,q,rfl,hd⟩
  ·rfl
  ·show cN p (d::q)=0;rw[cN,ξ (fun h=>by rw[hp d h] at hd;cases hd)]
 | c::s=>by rw[Ad,cN,cN,uH hp hb s]
theorem aZm:∀c:UInt8,dgB c.toNat=true→sgB c.toNat=true:=kC (p:=fun c=>dgB c.toNat=true→sgB c.toNat=true) (by decide+kernel)
theorem aQ7 (k:Int) (t:Str) (v:Int) (h:j4 [45]=.ok (k,t,v)):False:=by
 have:j4 [45]=.error 10:=by kernel_rfl
 rw[this] at h;cases h
theorem aHv {c:UInt8}{r:Str}{b:Str}{k:Int}{t:Str}{v:Int}(hb:dlm b) (h:j4 (c::r)=.ok (k,t,v)) (hs:t.length<(c::r).length∨t∈tS∨¬k=4):j4 (c::(r++b))=.ok (k,t,v):=by
 by_cases hq:t.length<(c::r).length∨t∈tS
 ·exact aB6 b h hq
 have q:¬k=4:=by
  rcases hs with hs | hs | hs
  ·exact absurd (.inl hs) hq
  ·exact absurd (.inr hs) hq
  ·exact hs
 rw[j4] at h;rw[show j4 (c::(r++b))=_ from j4.eq_2 c (r++b),show c::(r++b)=(c::r)++b from rfl];by_cases hd:dgB c.toNat=true
 ·rw[ζ hd] at h ⊢;rw[uH aZm hb,nK (gG _ _)];exact h
 rw[ξ hd] at h ⊢;by_cases hn:wiB c.toNat 97 122=true∨wiB c.toNat 65 90=true
 ·rw[ζ hn] at h ⊢;unfold oW at h ⊢;rw[uH (fun _ h=>h) hb,nK (gG _ _)];exact h
 rw[ξ hn] at h;split at h
 ·cases h
 ·injection h with h;injection h with h _;exact absurd h.symm q
theorem aRz {c:UInt8}{r:Str}{k:Int}{t:Str}{v:Int}(h:j4 (c::r)=.ok (k,t,v)) (hd:¬preB [45,45] (c::r)=true) (b:Str):preB [45,45] (c::(r++b))=false:=by
 by_cases h2:2≤(c::r).length
 ·rw[show c::(r++b)=(c::r)++b from rfl,u4 (x:=[45,45]) b h2];simpa using hd
 ·have q:r=[]:=by
   cases r with
   | nil=>rfl
   | cons d r=>exact absurd (by rw[χ,χ];omega) h2
  subst q;by_cases hc:c=45
  ·subst hc;exact(aQ7 k t v h).elim
  ·unfold preB;rw[Bool.and_eq_false_iff];refine .inr (ψ fun e=>?_);rw[Ak,show([45,45]:Str).length=1+1 from rfl,A5] at e;injection e with e _;exact hc e
theorem bC:∀(f:Nat) (a:Str) (ts:List Tk),aMm f a=some ts→LxD a ts
 | 0,[],ts,h=>by rw[aMm] at h;cases h;exact Lx.nil.d
 | 0,c::r,ts,h=>by simp[aMm] at h
 | f+1,[],ts,h=>by rw[aMm] at h;cases h;exact Lx.nil.d
 | f+1,c::r,ts,h=>by
  intro b us hd hb g at' M;rw[Ad,χ,θ] at M;obtain⟨g,rfl⟩:∃k,g=k+1:=⟨g-1,by omega⟩
  rw[aMm] at h;rw[Ad,mY];by_cases q:blB c.toNat=true
  ·rw[ζ q] at h;have hB:fD (c::(r++b))=1:=by unfold fD;exact ζ q
   rw[hB,ζ (by decide)];exact bC f r ts h b us hd hb g _ (by show(r++b).length≤g;rw[θ];omega)
  rw[ξ q] at h;split at h
  ·cases h
  rename_i y;cases ho:j4 (c::r) with
  | error e=>rw[ho] at h;cases h
  | ok p=>
   obtain⟨k,t,v⟩:=p;rw[ho] at h;dsimp only at h;split at h
   case isFalse=>cases h
   rename_i hs;have B:=aHv hd ho hs;obtain⟨O,u⟩:=mC ho;have E:=aRz ho y b;have hB:fD (c::(r++b))=0:=by
    unfold fD;dsimp only;rw[ξ q,ξ (by rw[E];exact ω)]
   rw[hB,ξ (lt_irrefl 0),B];dsimp only;rw[aCe];have I:(c::(r++b)).drop t.length=(c::r).drop t.length++b:=by
    rw[show c::(r++b)=(c::r)++b from rfl,Bo u]
   rw[I];cases hq:aMm f ((c::r).drop t.length) with
   | none=>rw[hq] at h;cases h
   | some J=>
    rw[hq] at h;injection h with h;subst h;rw[χ] at u;rw[bC f _ J hq b us hd hb g _ (by rw[θ,Bg,χ];omega)];rfl
end Go.Proofs.YtpmheldmadendaaGreatDoor
namespace Go.Proofs.YtpmheldmadendaaGreatDoor
open Go
section
set_option maxRecDepth 100000
set_option maxHeartbeats 4000000
def tH (e p:Int):Value:=.iface 131 (.agg #[.int .i64 e,.int .i64 p])
theorem wE (e p:Int) (w:World):Calls Tryz.prog 133 #[.int .i64 e,.int .i64 p] w fun q w'=>q=.panicked [{ v:=tH e p,recovered:=false }]∧w=w':=by
 go_enter Tryz.func133,Tryz.ntmps133
 go_wp2
 all_goals exact⟨rfl,⟨rfl,rfl⟩⟩
end
open Go.AM
theorem aNg (e p:Int):aDy Tryz.prog 133 [I .i64 e,I .i64 p] [] (tH e p):=by
 intro S μ w vals r hv;have q:vals=[.int .i64 e,.int .i64 p]:=by
  simp only[b5] at hv;obtain⟨v,vs,rfl,h1,v2,u,rfl,h2,rfl⟩:=hv;simp only[aO,aZ,Rep] at h1 h2;subst h1 h2;rfl
 subst q;refine(wE e p w).mono fun y w' ⟨h1,h2⟩=>?_
 subst h2;exact⟨S,μ,[],h1,fun id o ho=>(by cases ho),r⟩
theorem bO (e p:Int):b9 Tryz.prog 81 [B true,I .i64 e,I .i64 p] [] (.tup []) []:=by
 refine bP (n:=11) tok Tryz.func81 rfl rfl rfl ?_;exact sg rfl (aB rfl (fun hb=>Bool.noConfusion hb) (fun _=>aD rtN))
theorem bQ (e p:Int):aDy Tryz.prog 81 [B false,I .i64 e,I .i64 p] [] (tH e p):=by
 have q:=aNg e p;refine aRm (n:=11) Tryz.func81 rfl rfl rfl rfl ?_;exact sg rfl (aB rfl (fun _=>aC mixed (ak 2 [] rfl (kp q))) (fun hb=>Bool.noConfusion hb))
def rP:V:=.one (.vp 600 0)
def rO (L:List Tk) (z:Z):AObj:=.var 136 [.c (.sl 4 (L.map aG)),.c (.int .i64 ((L.length-z.R.length:Nat):Int))]
def gT (L:List Tk) (res:V) (z:Z) (hs:List (Nat×AObj)):Except Value (V×List (Nat×AObj)):=if z.e=0 then .ok (res,(600,rO L z)::hs) else .error (tH z.e z.p)
theorem bB {L:List Tk}{res:V}{z:Z}{hs:List (Nat×AObj)}(h:z.e=0):gT L res z hs=.ok (res,(600,rO L z)::hs):=ζ h
theorem aI {L:List Tk}{res:V}{z:Z}{hs:List (Nat×AObj)}(h:¬z.e=0):gT L res z hs=.error (tH z.e z.p):=ξ h
theorem bF.ok {P:Program}{f:FuncId}{args:List V}{hin:List (Nat×AObj)}{L:List Tk}{res:V}{z:Z}{hs:List (Nat×AObj)}(h:bF P f args hin (gT L res z hs)) (he:z.e=0):b9 P f args hin res ((600,rO L z)::hs):=by rw[bB he] at h;exact h
theorem bF.err {P:Program}{f:FuncId}{args:List V}{hin:List (Nat×AObj)}{L:List Tk}{res:V}{z:Z}{hs:List (Nat×AObj)}(h:bF P f args hin (gT L res z hs)) (he:¬z.e=0):aDy P f args hin (tH z.e z.p):=by rw[aI he] at h;exact h
theorem dY {L:List Tk}{z:Z}(h:ZA L z):b9 Tryz.prog 82 [rP] [(600,rO L z)] (tkV (b6 z)) [(600,rO L z)]:=by
 have hl:=aT aG h.now;have q:(L.map aG).length=L.length:=η _;have r:=h.lt;have u:=h.l;refine bP (n:=13) tok Tryz.func82 rfl rfl rfl ?_;exact sg rfl (sgh [(8,.row (L.length-z.R.length) (aG (b6 z)))] rfl (aE (rtC trw)))
theorem n3 {L:List Tk}{z:Z}(h:ZA L z) (s:Str):b9 Tryz.prog 134 [rP,Go.AM.T s] [(600,rO L z)] (B (isZ s z)) [(600,rO L z)]:=by
 have hn:=dY h;unfold isZ;generalize b6 z=t at hn ⊢;unfold isK;refine bP (n:=24) tok Tryz.func134 rfl rfl rfl ?_;refine sg rfl (sk 3 rfl (kc hn ?_));refine kz 2 rfl ?_;by_cases q:t.kind=4
 ·have d4:decide (t.kind=4)=true:=φ q;rw[d4,B4,B8];exact sgh [(3,.bv true),(7,.bv true),(8,.bv true),(13,.bv true)] rfl (aE rtT)
 have d4:decide (t.kind=4)=false:=ψ q;rw[d4,A9];by_cases r:t.kind=5
 ·have d5:decide (t.kind=5)=true:=φ r;rw[d5,B8];exact sgh [(3,.bv false),(7,.bv false),(8,.bv true),(13,.bv true)] rfl (aE rtT)
 ·have d5:decide (t.kind=5)=false:=ψ r;rw[d5,B3];exact sgh [(3,.bv false),(7,.bv false),(8,.bv false),(13,.bv false)] rfl (aE rtT)
theorem fJ {L:List Tk}{z:Z}(h:ZA L z) (he:z.e=0) (s:Str):b9 Tryz.prog 86 [rP,Go.AM.T s] [(600,rO L z)] (B (bT s z).1) [(600,rO L (bT s z).2)]:=by
 have hi:=n3 h s;have q:= @k9 s (b6 z);have y:=h.l;refine bP (n:=20) tok Tryz.func86 rfl rfl rfl ?_;refine sg rfl (sk 2 rfl (kc hi ?_));refine kz 1 rfl (aA (sg rfl ?_));unfold bT;cases u:isZ s z with
 | false=>
  rw[ξ (fun h=>by cases h.2)];exact aB rfl (fun hb=>Bool.noConfusion hb) (fun _=>aD (sg rfl (aE rtT)))
 | true=>
  rw[ζ ⟨he,rfl⟩];have r:isK s (b6 z)=true:=u;obtain⟨_,hn⟩:=h.tl (q r) z.e z.p;unfold rO;dsimp only;rw[hn];exact aB rfl (fun _=>agN [] rfl (sg rfl (aE rtT))) (fun hb=>Bool.noConfusion hb)
theorem dG {L:List Tk}{z:Z}(h:ZA L z) (he:z.e=0) (s:Str):bF Tryz.prog 138 [rP,Go.AM.T s] [(600,rO L z)] (gT L (.tup []) (aQ s z) []):=by
 have hm:=fJ h he s;have r:= @j5 s z;have h1:=h.may s;have u:=iW s z;have hn:=dY h1;have y:aQ s z=if(bT s z).1=true then(bT s z).2 else bS 12 (b6 z).pl z:=rfl
 rw[y];generalize bT s z=m at hm r h1 hn u ⊢;obtain⟨b,q⟩:=m;dsimp only at hm r h1 hn u ⊢;cases b with
 | true=>
  have B:=bO 12 (b6 q).pl;rw[ζ rfl,bB (u.trans he)];refine bP (n:=13) tok Tryz.func138 rfl rfl rfl ?_;refine aC mixed (ak 2 [] rfl (kc hm ?_));refine ak 3 [] rfl (kc hn ?_);refine ak 1 [] rfl (kc B ?_);exact az rtN
 | false=>
  obtain rfl:=r rfl;have E:=bQ 12 (b6 q).pl;have I:bS 12 (b6 q).pl q=⟨q.R,12,(b6 q).pl⟩:=ζ he;rw[ξ ω,I,aI (show ¬(12:Int)=0 by decide)];refine aRm (n:=13) Tryz.func138 rfl rfl rfl rfl ?_;refine aC mixed (ak 2 [] rfl (kc hm ?_));refine ak 3 [] rfl (kc hn ?_);refine ak 1 [] rfl (kpD (.tup []) [] E ?_);exact az trivial
end Go.Proofs.YtpmheldmadendaaGreatDoor
namespace Go.Proofs.YtpmheldmadendaaGreatDoor
open Go Go.AM
set_option maxRecDepth 20000
set_option maxHeartbeats 4000000
theorem iM {L:List Tk}{z:Z}(h:ZA L z) (he:z.e=0) (k:Int) (B:¬k=6):bF Tryz.prog 135 [rP,I .i64 k] [(600,rO L z)] (gT L (tkV (aS k z).1) (aS k z).2 []):=by
 have hn:=dY h;have r:=h.tl;have E:=h.l;unfold aS;by_cases q:(b6 z).kind=k
 ·have d:decide ((b6 z).kind=k)=true:=φ q;have hm:=bO 12 (b6 z).pl;rw[ζ ⟨he,q⟩];dsimp only;rw[bB (show(Z.mk z.R.tail z.e z.p).e=0 from he)];obtain⟨_,u⟩:=r (by rw[q];exact B) z.e z.p;unfold rO;dsimp only;rw[u];refine bP (n:=27) tok Tryz.func135 rfl rfl rfl ?_;refine sg rfl (sk 3 rfl (kc hn ?_));refine kz 2 rfl (sk 6 rfl ?_);rw[d];refine kc hm ?_;exact az (aA (agN [] rfl (sg rfl (aE (rtC trw)))))
 ·have d:decide ((b6 z).kind=k)=false:=ψ q;have hm:=bQ 12 (b6 z).pl;have y:bS 12 (b6 z).pl z=⟨z.R,12,(b6 z).pl⟩:=ζ he;rw[ξ (fun h=>q h.2),y];dsimp only;rw[aI (show ¬(12:Int)=0 by decide)];refine aRm (n:=27) Tryz.func135 rfl rfl rfl rfl ?_;refine sg rfl (sk 3 rfl (kc hn ?_));refine kz 2 rfl (sk 6 rfl ?_);rw[d];exact kp hm
theorem nZ {L:List Tk}{z:Z}(h:ZA L z) (he:z.e=0):b9 Tryz.prog 136 [rP] [(600,rO L z)] (.one (.c (.sl 4 ((aU z).1.map aG)))) [(600,rO L (aU z).2)]:=by
 refine bP (n:=16) tok Tryz.func136 rfl rfl rfl ?_;refine sg rfl (sg rfl (AWp.sub (Sub.own (t:=3) (id:=500) 139 4 rfl rfl) ?_));refine aA (aF (aK (fun q:List Tk×Z=>mk [(0,rP),(3,.one (.hs 500 0 q.1.length q.1.length))] [(600,rO L q.2),(500,.arr 139 4 (q.1.map aG) 0)]) (fun q=>ZA L q.2∧q.2.e=0∧q.1.length+q.2.R.length≤4001∧q.1++(aU q.2).1=(aU z).1∧(aU q.2).2=(aU z).2) (fun q=>q.2.R.length) ([],z) ⟨h,he,by dsimp only;have:=h.len;rw[length_nil];omega,rfl,rfl⟩ sl ?_));clear he;rintro⟨out,O⟩ ⟨h',he,hlen,E,I⟩;dsimp only at h' he hlen E I ⊢;rw[←E,←I];clear E I;have hout:(out.map aG).length=out.length:=η _;have hn:=dY h';have hw:=iM h' he 1 (by decide);obtain⟨R,e,p⟩:=O;obtain⟨t,R,rfl⟩:=h'.e.ne;have he:e=0:=he;have B:b6 (Z.mk (t::R) e p)=t:=rfl;rw[B] at hn;refine aA (sk 3 rfl (kc hn ?_));refine kz 2 rfl (aB rfl (fun hb=>?_) (fun hb=>?_))
 ·have r:t.kind=1:=κ hb;have hl:rG t=true:=hb;have U:aS 1 (Z.mk (t::R) e p)=(t,⟨R,e,p⟩):=by unfold aS;rw[ζ ⟨he,r⟩];rfl
  rw[U] at hw;have hw:=bF.ok (z:=⟨R,e,p⟩) hw he;have h2:ZA L ⟨R,e,p⟩:=(h'.tl (by rw[B,r];decide) e p).1
  have J:aU ⟨t::R,e,p⟩=(t::(aU ⟨R,e,p⟩).1,(aU ⟨R,e,p⟩).2):=by
   unfold aU;rw[ζ he,ζ he];show((t::R).takeWhile rG,Z.mk ((t::R).dropWhile rG) _ _)=_;rw[C7,ζ hl,Bi,ζ hl]
  have M:out.length+(R.length+1)≤4001:=hlen;refine aD (aF (aC mixed (ak 2 [] rfl (kc hw ?_))));refine ak 3 [(3,.all)] rfl (az ?_);have y:out.map aG++[aG t]=(out++[t]).map aG:=by rw[Al];rfl
  have u:(out++[t]).length=out.length+1:=by rw[θ];rfl
  refine⟨(out++[t],⟨R,e,p⟩),⟨h2,he,by dsimp only;rw[u];omega,by rw[J];simp,by rw[J]⟩,Bt _,?_⟩;exact sl (he:=⟨rfl,Go.AM.hs_ren (by rw[u,←hout];rfl) (by rw[u,←hout];rfl),trivial⟩) (hh:=⟨⟨_,rfl,.var rfl⟩,⟨_,rfl,.arrS y⟩,trivial⟩)
 ·have r:¬rG t=true:=fun h=>by rw[show rG t=false from hb] at h;cases h
  refine aH (AWp.sub (Sub.freeze (id:=500) rfl) ?_);refine sg rfl ?_;unfold aU;rw[ζ he];dsimp only;rw[C7,ξ r,A3,Bi,ξ r];exact aE (rtH (hsz:=hout.symm) (hlen:=hout.symm))
theorem uW (l:List Tk) (hl:l.length≤4001):b9 Tryz.prog 137 [.one (.c (.sl 4 (l.map aG)))] [] (cJ (l.map (·.text))) []:=by
 have r:(l.map aG).length=l.length:=η _;refine bP (n:=19) tok Tryz.func137 rfl rfl rfl ?_;refine sg rfl (sg rfl (AWp.sub (Sub.own (t:=3) (id:=500) 9 1 rfl rfl) ?_));refine aA (sg rfl (aF (aK (fun i:Nat=>mk [(3,.one (.hs 500 0 i i)),(6,.one (.c (.sl 4 (l.map aG)))),(7,I .i64 ((l.map aG).length:Nat)),(8,I .i64 (i:Nat))] [(500,.arr 9 1 (((l.take i).map (·.text)).map b7) 0)]) (fun i=>i≤l.length) (fun i=>l.length-i) 0 (ε _) sl ?_)));intro i hi;have q:(((l.take i).map (·.text)).map b7).length=i:=by rw[η,η,An];omega
 refine sg rfl (aA (aB rfl (fun hb=>?_) (fun hb=>?_)))
 ·have u:=ltD hb r;obtain⟨t,ht⟩:=aL u;have E:=aT aG ht;have y:((l.take (i+1)).map (·.text)).map b7=((l.take i).map (·.text)).map b7++[[.str t.text]]:=by rw[Bf,ht,Al,Al];rfl
  exact aD (aA (aF (sgh [(0,.row i (aG t))] rfl (ag [(3,.all)] rfl (agN [] rfl ⟨i+1,u,by dsimp only;omega,sl (he:=⟨Go.AM.hs_ren (congrArg (· +1) q) (congrArg (· +1) q),rfl,rfl,rfl,trivial⟩) (hh:=⟨⟨_,rfl,.arrS y.symm⟩,trivial⟩)⟩)))))
 ·have B:=geD hb r hi;subst B;rw[Ax] at q ⊢;refine aH (AWp.sub (Sub.freeze (id:=500) rfl) ?_);exact sg rfl (aE (rtH (hsz:=q.symm) (hlen:=q.symm)))
theorem aNx {L:List Tk}{z:Z}(h:ZA L z) (he:z.e=0) (hZ:pO L):bF Tryz.prog 140 [rP] [(600,rO L z)] (gT L (tyV (eK z).1) (eK z).2 []):=by
 have q:=aNw L hZ z.R _ h;have r:=eH (3*z.R.length) 0 z.R;unfold eK;generalize cO (3*z.R.length) 0 z.R=w at q r ⊢;cases w with
 | error e=>
  obtain⟨e,p⟩:=e;have u:=r e p rfl;have hm:=bQ e p;have d:decide (e=0)=false:=ψ u;unfold tpV atV at q;dsimp only[atZ];rw[aI (show ¬(Z.mk z.R e p).e=0 from u)];refine aRm (n:=35) Tryz.func140 rfl rfl rfl rfl ?_;refine sg rfl (sk 10 rfl (kc q ?_));refine kz 9 rfl (sk 7 rfl ?_);rw[d];exact kp hm
 | ok y=>
  obtain⟨x,R'⟩:=y;have hm:=bO 0 0;rw[kF] at q;unfold atV at q;dsimp only[atZ];rw[bB (show(Z.mk R' z.e z.p).e=0 from he)];refine bP (n:=35) tok Tryz.func140 rfl rfl rfl ?_;refine sg rfl (sk 10 rfl (kc q ?_));refine kz 9 rfl (sk 7 rfl (kc hm ?_));exact az (sg rfl (sg rfl (aE (rtC trw))))
theorem y0 {L:List Tk}{z:Z}(h:ZA L z) (he:z.e=0) (hZ:pO L):bF Tryz.prog 141 [rP] [(600,rO L z)] (gT L (.one (.c (.sl 5 ((bM z).1.map aN)))) (bM z).2 []):=by
 have q:=uZ L hZ z.R _ h;have r:= @iB z.R;unfold bM;rw[ζ he];generalize cR z.R=w at q r ⊢;cases w with
 | error e=>
  obtain⟨e,p⟩:=e;have u:=r rfl;have hm:=bQ e p;have d:decide (e=0)=false:=ψ u;unfold aTp atV at q;dsimp only[aY8];rw[aI (show ¬(Z.mk z.R e p).e=0 from u)];refine aRm (n:=35) Tryz.func141 rfl rfl rfl rfl ?_;refine sg rfl (sk 10 rfl (kc q ?_));refine kz 8 rfl (sk 7 rfl ?_);rw[d];exact kp hm
 | ok y=>
  obtain⟨x,R'⟩:=y;have hm:=bO 0 0;rw[oT] at q;unfold atV at q;dsimp only[aY8];rw[bB (show(Z.mk R' z.e z.p).e=0 from he)];refine bP (n:=35) tok Tryz.func141 rfl rfl rfl ?_;refine sg rfl (sk 10 rfl (kc q ?_));refine kz 8 rfl (sk 7 rfl (kc hm ?_));exact az (sg rfl (sg rfl (aE rtT)))
theorem mI {L:List Tk}{z:Z}(h:ZA L z) (he:z.e=0) (hZ:pO L) (hwt:wt L≤30000):bF Tryz.prog 144 [rP] [(600,rO L z)] (gT L (.pa (fH (bK z).1)) (bK z).2 []):=by
 have q:=aJz L hZ z.R _ h hwt;have r:= @qV z.R;unfold bK;rw[ζ he];generalize cH z.R=w at q r ⊢;cases w with
 | error e=>
  obtain⟨e,p⟩:=e;have u:=r rfl;have hm:=bQ e p;have d:decide (e=0)=false:=ψ u;unfold spV atV at q;dsimp only[aUi];rw[aI (show ¬(Z.mk z.R e p).e=0 from u)];refine aRm (n:=35) Tryz.func144 rfl rfl rfl rfl ?_;refine sg rfl (sk 10 rfl (kc q ?_));refine kz 9 rfl (sk 7 rfl ?_);rw[d];exact kp hm
 | ok y=>
  obtain⟨x,R'⟩:=y;have hm:=bO 0 0;rw[aOu] at q;unfold atV at q;dsimp only[aUi];rw[bB (show(Z.mk R' z.e z.p).e=0 from he)];refine bP (n:=35) tok Tryz.func144 rfl rfl rfl ?_;refine sg rfl (sk 10 rfl (kc q ?_));refine kz 9 rfl (sk 7 rfl (kc hm ?_));exact az (sg rfl (sg rfl (aE (rtC trw))))
theorem aJx {L:List Tk}{z:Z}(h:ZA L z):b9 Tryz.prog 139 [rP] [(600,rO L z)] (B (aJ2 z)) [(600,rO L z)]:=by
 have hn:=dY h;have hi:=n3 h bI;unfold aJ2;refine bP (n:=19) tok Tryz.func139 rfl rfl rfl ?_;refine sg rfl (sk 3 rfl (kc hn ?_));refine kz 2 rfl ?_;by_cases h1:(b6 z).kind=1
 ·have d1:decide ((b6 z).kind=1)=true:=φ h1;rw[d1,B4];exact sgh [(2,.bv true),(5,.bv true),(6,.bv true),(9,.bv true)] rfl (aE rtT)
 have d1:decide ((b6 z).kind=1)=false:=ψ h1;rw[d1,A9];by_cases h2:(b6 z).kind=2
 ·have d2:decide ((b6 z).kind=2)=true:=φ h2;rw[d2,B4];exact sgh [(2,.bv false),(5,.bv false),(6,.bv true),(9,.bv true)] rfl (aE rtT)
 ·have d2:decide ((b6 z).kind=2)=false:=ψ h2;rw[d2,A9];refine skh 8 [(2,.bv false),(5,.bv false),(6,.bv false)] rfl (kcG hi ?_);exact ak 2 [(6,.bv false),(9,.bv false)] rfl (az (aE rtT))
section
variable {z:Z}(h:¬z.e=0)
include h
theorem lU {s:Str}:bT s z=(false,z):=ξ fun k=>h k.1
theorem mJ {k:Int}:(aS k z).2=z:=by
 unfold aS;rw[ξ (fun k=>h k.1)];exact fW h
theorem lT:aU z=([],z):=ξ h
theorem eG {n m:Nat}{a:Int}:c8 n m a z=z:=by
 unfold c8;split
 ·exact fW h
 ·rfl
theorem tF:bK z=(lX,z):=ξ h
theorem tG {f:Nat}{out:List Ty}:bZ f out z=(out,z):=lL fun k=>h k.1
theorem aJ3 {s:Str}{n:Nat}:moreA s n z=z:=ξ fun k=>h k.2.1
theorem mK:cL z=z:=ξ h
theorem aN7 {s:Str}{n:Nat}:aW s n z=(false,z):=by
 unfold aW;rw[aJ3 h,mK h,ζ (.inl h)]
end
theorem gE {n m:Nat}{a:Int}{z:Z}(h:n≤m):c8 n m a z=z:=ξ (by omega)
theorem gF {n m:Nat}{a:Int}{z:Z}(h:¬n≤m) (he:z.e=0):c8 n m a z=⟨z.R,2,a⟩:=(ζ (by omega)).trans (ζ he)
theorem cQ:¬(2:Int)=0:=by decide
theorem yD {W:List Cn×Z}{f:Nat}{a a2:Int}{out:List Cn}{fs:List Ty}{z:Z}{m:Nat}(h:¬z.e=0)
  (q:W=if(bT vO (c8 m 16 a (c8 fs.length 8 a2 z))).1=true then gX f a out (bT vO (c8 m 16 a (c8 fs.length 8 a2 z))).2 else(out,(bT vO (c8 m 16 a (c8 fs.length 8 a2 z))).2)):W.2=z:=by
 rw[eG h,eG h,lU h,ξ ω] at q;rw[q]
def a29:List (Nat×V):=[(0,rP),(2,.one (.vp 2 0)),(3,.one (.vp 3 0)),(5,.one (.vp 5 0)),(7,.one (.vp 7 0)),(8,.one (.vp 8 0))]
def a27 (L:List Tk) (z:Z) (nm:Tk) (vs:List Tk) (out:List Cn) (cn:Tk) (fs:List Ty):List (Nat×AObj):=[(600,rO L z),(2,.var 81 [.c (.str []),.c (.int .i64 0),.c .nl,.c .nl,.c .nl]),(3,.var 139 ((aG nm).map .c)),(5,.var 81 [.c (.str nm.text),.c (.int .i64 nm.pl),.c (.sl 1 ((vs.map (·.text)).map b7)),.c .nl,.hs 502 0 out.length out.length]),(7,.var 139 ((aG cn).map .c)),(8,.var 84 [.c (.str cn.text),.c (.int .i64 cn.pl),.hs 501 0 fs.length fs.length]),(501,.arr 47 4 (fs.map bR) 0),(502,.arr 84 3 (out.map gI) 0)]
theorem aSl {L:List Tk}{z:Z}(h:ZA L z) (he:z.e=0) (hZ:pO L):bF Tryz.prog 87 [rP] [(600,rO L z)] (gT L (.pa (gV (jL z).1)) (jL z).2 []):=by
 have hw:=iM h he 2 (by decide);have h1:=h.word (k:=2) (by decide);unfold jL fO;generalize aS 2 z=x1 at hw h1 ⊢;obtain⟨nm,y⟩:=x1;dsimp only at hw h1 ⊢;refine nT (n:=68) tok Tryz.func87 rfl rfl rfl rfl ?_;refine sg rfl ?_;by_cases u:y.e=0
 case neg=>
  have hp:=bF.err hw u;have hb:(jC (nm,(aU y).1,aQ eqS (c8 (aU y).1.length 8 nm.pl (aU y).2))).2=y:=by
   rw[lT u,eG u,bJ u];unfold jC;dsimp only;rw[ξ u]
  rw[hb,aI u];exact sk 1 rfl (kp hp)
 have hw:=bF.ok hw u;have ab:=nZ h1 u;have h2:=h1.words;have aa:(aU y).2.e=0:=by unfold aU;rw[ζ u];exact u
 have ad:=eM h1;generalize aU y=x2 at ab h2 ad aa ⊢;obtain⟨vs,z2⟩:=x2;dsimp only at ab h2 ad aa ⊢;have hvk:(vs.map aG).length=vs.length:=η _;refine sk 1 rfl (kc hw ?_);refine kz 2 rfl (sk 1 rfl (kc ab ?_));refine kz 1 rfl ?_;by_cases hv8:vs.length≤8
 case neg=>
  have d:decide (((vs.length:Nat):Int)≤8)=false:=ψ (by omega);have hb:(jC (nm,vs,aQ eqS (c8 vs.length 8 nm.pl z2))).2=⟨z2.R,2,nm.pl⟩:=by
   rw[gF hv8 aa,bJ cQ];unfold jC;dsimp only;rw[ξ cQ]
  rw[hb,aI cQ];have hm:=bQ 2 nm.pl;refine sk 5 rfl ?_;rw[hvk,d];exact kp hm
 have d:decide (((vs.length:Nat):Int)≤8)=true:=φ (by omega);have hm:=bO 2 nm.pl;rw[gE hv8];refine sk 5 rfl ?_;rw[hvk,d];refine kc hm ?_;refine az ?_;have htx:=uW vs ad;refine sk 5 rfl (kc htx ?_);refine kz 3 rfl ?_;have Y:=dG h2 aa eqS;have h4:=h2.need eqS;generalize aQ eqS z2=z4 at Y h4 ⊢;by_cases M:z4.e=0
 case neg=>
  have hp:=bF.err Y M;have hb:(jC (nm,vs,z4)).2=z4:=by unfold jC;dsimp only;rw[ξ M]
  rw[hb,aI M];exact sk 1 rfl (kp hp)
 have Y:=bF.ok Y M;refine sk 1 rfl (kc Y ?_);refine az (aA (sg rfl (AWp.sub (Sub.ownCell (x:=5) (k:=4) (id:=502) 84 3 rfl rfl rfl) ?_)));have hWx:∃W,W=jC (nm,vs,z4):=⟨_,rfl⟩
 obtain⟨W,r⟩:=hWx;rw[←r];have hlen4:=h4.len;have r:W=gX (z4.R.length+1) nm.pl [] z4:=by rw[r];exact ζ M
 refine aF (aK (fun q:Bool×List Cn×Z×Nat=>mk [(0,rP),(2,.one (.vp 2 0)),(3,.one (.vp 3 0)),(5,.one (.vp 5 0)),(6,B q.1)] [(600,rO L q.2.2.1),(2,.var 81 [.c (.str []),.c (.int .i64 0),.c .nl,.c .nl,.c .nl]),(3,.var 139 ((aG nm).map .c)),(5,.var 81 [.c (.str nm.text),.c (.int .i64 nm.pl),.c (.sl 1 ((vs.map (·.text)).map b7)),.c .nl,.hs 502 0 q.2.1.length q.2.1.length]),(502,.arr 84 3 (q.2.1.map gI) 0)]) (fun q=>ZA L q.2.2.1∧q.2.2.1.e=0∧((q.1=true∧W=gX q.2.2.2 nm.pl q.2.1 q.2.2.1∧q.2.2.1.R.length<q.2.2.2∧q.2.1.length+q.2.2.1.R.length≤4001)∨(q.1=false∧W=(q.2.1,q.2.2.1)))) (fun q=>if q.1=true then q.2.2.1.R.length+1 else 0) (true,[],z4,z4.R.length+1) ⟨h4,M,.inl ⟨rfl,r,by dsimp only;omega,by dsimp only;rw[length_nil];omega⟩⟩ sl ?_);clear r hw h1 ab h2 htx h4 M aa u Y hm h he hlen4;rintro⟨more,out,z0,f⟩ ⟨h,he,hinv⟩;dsimp only at h he hinv ⊢;have hout:(out.map gI).length=out.length:=η _;refine aA (sg rfl ?_);rcases hinv with⟨hm,r,hf,hol⟩ | ⟨hm,r⟩
 case inr=>
  subst hm;refine aB rfl (fun hb=>absurd hb (by decide)) (fun _=>aH (AWp.sub (Sub.freeze (id:=502) rfl) ?_));refine sg rfl ?_;rw[r,bB he];exact aE (rtC trw)
 subst hm;obtain⟨f,rfl⟩:∃g,f=g+1:=⟨f-1,by omega⟩
 rw[gX] at r;unfold pK at r;have hw:=iM h he 2 (by decide);have h1:=h.word (k:=2) (by decide);have l1:=Ze.word 2 z0;generalize aS 2 z0=x1 at hw h1 l1 r;obtain⟨E,y⟩:=x1;dsimp only at hw h1 l1 r;refine aB rfl (fun _=>aD ?_) (fun hb=>absurd hb (by decide));by_cases u:y.e=0
 case neg=>
  have hp:=bF.err hw u;rw[tG u] at r;rw[yD u r,aI u];exact aA (aF (sk 1 rfl (kp hp)))
 have hw:=bF.ok hw u;refine aA (aF (sk 1 rfl (kc hw ?_)));refine kz 2 rfl (sg rfl (AWp.sub (Sub.ownCell (x:=8) (k:=2) (id:=501) 47 4 rfl rfl rfl) ?_));have hlen1:=h1.len;have hFx:∃F,F=bZ (y.R.length+1) [] y:=⟨_,rfl⟩
 obtain⟨F,I⟩:=hFx;rw[←I] at r;refine aA (aF (aK (fun q:List Ty×Z×Nat=>mk a29 (a27 L q.2.1 nm vs out E q.1)) (fun q=>ZA L q.2.1∧q.2.1.e=0∧F=bZ q.2.2 q.1 q.2.1∧q.2.1.R.length<q.2.2∧q.1.length+q.2.1.R.length≤4001∧q.2.1.R.length≤y.R.length) (fun q=>q.2.1.R.length+1) ([],y,y.R.length+1) ⟨h1,u,I,by dsimp only;omega,by dsimp only;rw[length_nil];omega,le_refl _⟩ sl ?_));clear I hw h1 hlen1 u h he;rintro⟨fs,z,g⟩ ⟨h,he,I,hg,hol2,hk4⟩;dsimp only at h he I hg hol2 hk4 ⊢;have ae:(fs.map bR).length=fs.length:=η _;have hbg:=aJx h;refine aA (sk 1 rfl (kc hbg ?_));refine az (aB rfl (fun hb=>?_) (fun hb=>?_))
 ·have ha:=aNx h he hZ;obtain⟨g1,g2,g3,g4,g5⟩:=vB h;obtain⟨g,rfl⟩:∃k,g=k+1:=⟨g-1,by omega⟩
  rw[bZ,ζ ⟨he,hb⟩] at I;have hlp:=h.lp;generalize eK z=x at ha g1 g2 g3 g4 g5 I;obtain⟨x,z'⟩:=x;dsimp only at ha g1 g2 g3 g4 g5 I;refine aD ?_;by_cases U:z'.e=0
  case neg=>
   have hp:=bF.err ha U;rw[tG U] at I;rw[I] at r;rw[yD U r,aI U];refine aF (aC mixed (ak 3 [] rfl (kpD (tyV zTy) [(600,rO L z)] hp ?_)));exact ak 4 [(1,.all)] rfl (az trivial)
  have ha:=bF.ok ha U;refine aF (aC mixed (ak 3 [] rfl (kc ha ?_)));refine ak 4 [(1,.all)] rfl (az ?_);have J:fs.map bR++[bR x]=(fs++[x]).map bR:=by rw[Al];rfl
  have hle:(fs++[x]).length=fs.length+1:=by rw[θ];rfl
  have g5':z'.R.length≤z.R.length:=g5;have hlt:=g4 U;refine⟨(fs++[x],z',g),⟨g1,U,I,by dsimp only;omega,by dsimp only;rw[hle];omega,by dsimp only;omega⟩,by dsimp only;omega,?_⟩;exact sl (he:=⟨rfl,rfl,rfl,rfl,rfl,rfl,trivial⟩) (hh:=⟨⟨_,rfl,.var rfl⟩,⟨_,rfl,.var rfl⟩,⟨_,rfl,.var rfl⟩,⟨_,rfl,.var rfl⟩,⟨_,rfl,.var rfl⟩,⟨_,rfl,.var (by rw[hle,←ae];rfl)⟩,⟨_,rfl,.arrS J⟩,⟨_,rfl,Go.AM.Ole.arr⟩,trivial⟩)
 ·have hb':¬(z.e=0∧aJ2 z=true):=fun hh=>by rw[hh.2] at hb;cases hb
  rw[lL hb'] at I;subst I;dsimp only at r;refine aH (AWp.sub (Sub.freeze (id:=501) rfl) ?_);refine AWp.sub (vp 8 [.str E.text,.int .i64 E.pl,.sl 4 (fs.map bR)] (hp:=.c .refl (.c .refl (.hs rfl ae.symm (Go.AM.take_all ae.symm) .nil)))) ?_;by_cases hf8:fs.length≤8
  case neg=>
   have d:decide ((((fs.map bR).length:Nat):Int)≤8)=false:=ψ (by omega);rw[gF hf8 he,eG cQ,lU cQ,ξ ω] at r;rw[r,aI cQ];have hm:=bQ 2 E.pl;refine sk 6 rfl ?_;rw[d];exact kp hm
  rw[gE hf8] at r;have d:decide ((((fs.map bR).length:Nat):Int)≤8)=true:=φ (by omega);have hm:=bO 2 E.pl;refine sk 6 rfl ?_;rw[d];refine kc hm ?_;refine az ?_;have J:out.map gI++[[.str E.text,.int .i64 E.pl,.sl 4 (fs.map bR)]]=(out++[(⟨E.text,E.pl,fs⟩:Cn)]).map gI:=by rw[Al];rfl
  have hle:(out++[(⟨E.text,E.pl,fs⟩:Cn)]).length=out.length+1:=by rw[θ];rfl
  generalize hO:out++[(⟨E.text,E.pl,fs⟩:Cn)]=O at r J hle;refine sgh [(3,.all)] rfl (AWp.sub (st2:=mk [(0,rP),(2,.one (.vp 2 0)),(3,.one (.vp 3 0)),(5,.one (.vp 5 0))] [(600,rO L z),(2,.var 81 [.c (.str []),.c (.int .i64 0),.c .nl,.c .nl,.c .nl]),(3,.var 139 ((aG nm).map .c)),(5,.var 81 [.c (.str nm.text),.c (.int .i64 nm.pl),.c (.sl 1 ((vs.map (·.text)).map b7)),.c .nl,.hs 502 0 O.length O.length]),(502,.arr 84 3 (O.map gI) 0)]) (sl (hh:=⟨⟨_,rfl,.var rfl⟩,⟨_,rfl,.var rfl⟩,⟨_,rfl,.var rfl⟩,⟨_,rfl,.var (by rw[hle,←hout];rfl)⟩,⟨_,rfl,.arrS J⟩,trivial⟩)) ?_);by_cases ho:O.length≤16
  case neg=>
   have d:decide (((O.length:Nat):Int)≤16)=false:=ψ (by omega);rw[gF ho he,lU cQ,ξ ω] at r;rw[r,aI cQ];have hm:=bQ 2 nm.pl;refine aC mixed (ak 6 [] rfl ?_);rw[d];exact kp hm
  rw[gE ho] at r;have d:decide (((O.length:Nat):Int)≤16)=true:=φ (by omega);have hm:=bO 2 nm.pl;refine aC mixed (ak 6 [] rfl ?_);rw[d];refine kc hm ?_;refine az ?_;have hm:=fJ h he vO;have h7:=h.may vO;have ac:=(iW vO z).trans he;have l7:=fG h (s:=vO);generalize bT vO z=m at hm h7 l7 r ac;obtain⟨b,z7⟩:=m;dsimp only at hm h7 l7 r ac;refine aC mixed (ak 1 [] rfl (kc hm ?_));refine kz 1 rfl ?_;have l1':y.R.length≤z0.R.length:=l1;cases b with
  | true=>
   rw[ζ rfl] at r;have:=l7 rfl;exact⟨(true,O,z7,f),⟨h7,ac,.inl ⟨rfl,r,by dsimp only;omega,by dsimp only;omega⟩⟩,by dsimp only;rw[ζ rfl,ζ rfl];omega,sl⟩
  | false=>
   rw[ξ (by decide)] at r;exact⟨(false,O,z7,f),⟨h7,ac,.inr ⟨rfl,r⟩⟩,by dsimp only;rw[ξ (by decide),ζ rfl];omega,sl⟩
def aOp (L:List Tk):Prop:=∀t∈L,¬t.kind=3→t.n=0
theorem aMb {c:UInt8}{r:Str}{k:Int}{t:Str}{v:Int}(h:j4 (c::r)=.ok (k,t,v)) (q:¬k=3):v=0:=by
 rw[j4] at h;split at h
 ·split at h
  ·cases h
  ·cases h;exact absurd rfl q
 split at h
 ·unfold oW at h;split at h
  ·cases h
  split at h
  ·cases h;rfl
  split at h
  ·cases h;rfl
  ·cases h;rfl
 split at h
 ·cases h
 ·cases h;rfl
theorem uE:∀(f a:Nat) (s:Str) (l:List Tk),mY f a s=.ok l→aOp l
 | 0,a,s,l,h=>by
  rw[mY] at h;cases h;intro t ht;rw[A2.1 ht];exact fun _=>rfl
 | f+1,a,[],l,h=>by
  rw[mY] at h;cases h;intro t ht;rw[A2.1 ht];exact fun _=>rfl
 | f+1,a,c::r,l,h=>by
  rw[mY] at h;split at h
  ·exact uE f _ _ l h
  ·cases ho:j4 (c::r) with
   | error e=>rw[ho] at h;cases h
   | ok y=>
    obtain⟨k,t,v⟩:=y;rw[ho] at h;dsimp only at h;cases q:mY f (a+t.length) ((c::r).drop t.length) with
    | error e=>rw[q,uU] at h;cases h
    | ok B=>
     rw[q,uU] at h;cases h;intro u hu;rcases Au.1 hu with rfl | hu
     ·exact aMb ho
     ·exact uE f _ _ B q u hu
theorem ZA.mem {L:List Tk}{z:Z}(h:ZA L z):b6 z∈L:=by
 obtain⟨R,e',q⟩:=z;obtain⟨t,R,rfl⟩:=h.e.ne;exact At.mem h
def a0b (z:Z):Pt:=.mk 0 (b6 z).pl 0 (b6 z).text []
def aLl (y:(Pt×Bool)×Z) (z:Z):Pt:=if y.1.2=true then y.1.1 else a0b z
def aKv (L:List Tk) (f:Nat):Prop:=∀(o:Nat) (z:Z),ZA L z→z.e=0→3*z.R.length≤f→o≤40→bF Tryz.prog 104 [rP,I .i64 (o:Nat)] [(600,rO L z)] (gT L (.tup [.pa (bL (aLl (bA f o z) z)),B (bA f o z).1.2]) (bA f o z).2 [])
def aTc (L:List Tk) (f:Nat):Prop:=∀(o:Nat) (z:Z),ZA L z→z.e=0→3*z.R.length+1≤f→o≤40→bF Tryz.prog 50 [rP,I .i64 (o:Nat)] [(600,rO L z)] (gT L (.pa (bL (gD f o z).1)) (gD f o z).2 [])
theorem aL5 {L:List Tk}{z:Z}(h:ZA L z) (r:¬(b6 z).kind=6):rO L (tlZ z)=.var 136 [.c (.sl 4 (L.map aG)),.c (.int .i64 ((L.length-z.R.length+1:Nat):Int))]:=by
 obtain⟨_,q⟩:=h.tl r z.e z.p;unfold rO tlZ;dsimp only;rw[q]
theorem aJi (L:List Tk) (hN:aOp L) (f:Nat) (ih:aTc L f):aKv L (f+1):=by
 intro o z h he hf ho40;rw[bA,ξ (fun k=>k he)];have hn:=dY h;have M:=hN _ h.mem;have u:=fun hk=>aL5 h hk
 have hLl:=h.l;have hm:=n3 h aFr;have hi:=n3 h bI;have Y:bT aFr z=if isZ aFr z=true then(true,tlZ z) else(false,z):=by
  unfold bT;by_cases hu:isZ aFr z=true
  ·rw[ζ ⟨he,hu⟩,ζ hu];rfl
  ·rw[ξ (fun k=>hu k.2),ξ hu]
 have aa:isZ aFr z=true→¬(b6 z).kind=6:=k9;have ab:isZ bI z=true→¬(b6 z).kind=6:=k9;have B:isZ bI z=true→aQ bI z=tlZ z:=aHz he;have h1:=h.need bI;have hle:(aQ bI z).e=0∨isZ bI z=false:=by
  cases hb:isZ bI z with
  | true=>left;rw[B hb];exact he
  | false=>exact .inr rfl
 have htl:=qS h;have ac:a0b z=.mk 0 (b6 z).pl 0 (b6 z).text []:=rfl;refine nT (n:=77) tok Tryz.func104 rfl rfl rfl rfl ?_;refine sg rfl (sk 3 rfl (kc hn ?_));refine kz 2 rfl (sg rfl ?_);rw[Y];generalize ht:b6 z=t at M ac u aa ab ⊢;clear hn Y;refine aA (aF (sg rfl ?_));by_cases O:t.kind=1
 ·have d:decide (t.kind=1)=true:=φ O;have E:¬t.kind=6:=by omega
  rw[ζ (show 0<t.kind∧t.kind<4 by omega)];unfold aLl;dsimp only;rw[ζ rfl,bB (show(tlZ z).e=0 from he),u E,M (by omega)];unfold kI kH;rw[ζ O,ξ (by omega)];unfold rO;exact aB rfl (fun _=>ag [] rfl (aA (agN [] rfl (sg rfl (aE q9))))) (fun hb=>absurd (hb.symm.trans d) Bool.noConfusion)
 refine aB rfl (fun hb=>absurd (κ hb) O) (fun _=>sg rfl ?_);by_cases U:t.kind=2
 ·have d:decide (t.kind=2)=true:=φ U;have E:¬t.kind=6:=by omega
  rw[ζ (show 0<t.kind∧t.kind<4 by omega)];unfold aLl;dsimp only;rw[ζ rfl,bB (show(tlZ z).e=0 from he),u E,M (by omega)];unfold kI kH;rw[ξ O,ζ U,ξ (by omega)];unfold rO;exact aB rfl (fun _=>ag [] rfl (aA (agN [] rfl (sg rfl (aE q9))))) (fun hb=>absurd (hb.symm.trans d) Bool.noConfusion)
 refine aB rfl (fun hb=>absurd (κ hb) U) (fun _=>sg rfl ?_);by_cases k3:t.kind=3
 ·have d:decide (t.kind=3)=true:=φ k3;have E:¬t.kind=6:=by omega
  rw[ζ (show 0<t.kind∧t.kind<4 by omega)];unfold aLl;dsimp only;rw[ζ rfl,bB (show(tlZ z).e=0 from he),u E];unfold kI kH;rw[ξ O,ξ U,ζ k3];unfold rO;exact aB rfl (fun _=>ag [] rfl (aA (agN [] rfl (sg rfl (aE q9))))) (fun hb=>absurd (hb.symm.trans d) Bool.noConfusion)
 refine aB rfl (fun hb=>absurd (κ hb) k3) (fun _=>?_);rw[ξ (show ¬(0<t.kind∧t.kind<4) by omega)];refine sk 1 rfl (kc hm ?_);refine kz 1 rfl ?_;cases hu:isZ aFr z with
 | true=>
  rw[ζ rfl,ζ rfl];unfold aLl;dsimp only;rw[ζ rfl,bB (show(tlZ z).e=0 from he),u (aa hu)];unfold rO;exact aB rfl (fun _=>ag [] rfl (aA (agN [] rfl (sg rfl (aE q9))))) (fun hb=>Bool.noConfusion hb)
 | false=>
 rw[ξ ω];dsimp only;rw[ξ ω];refine aB rfl (fun hb=>Bool.noConfusion hb) (fun _=>sk 1 rfl (kc hi ?_));refine kz 1 rfl ?_;cases hl:isZ bI z with
 | false=>
  rw[ζ rfl];unfold aLl;dsimp only;rw[ξ ω,bB he,ac];exact aB rfl (fun hb=>Bool.noConfusion hb) (fun _=>sg rfl (aE q9))
 | true=>
 rw[ξ (by decide)];have B:=B hl;refine aB rfl (fun _=>?_) (fun hb=>Bool.noConfusion hb);by_cases ho:40≤o
 ·have d:decide (((o:Nat):Int)<40)=false:=ψ (by omega);have hmn:=bQ 13 t.pl;rw[ζ ho];unfold bS;rw[ζ he];dsimp only;rw[aI (show ¬(13:Int)=0 by decide)];refine sk 4 rfl ?_;rw[d];exact kp hmn
 have d:decide (((o:Nat):Int)<40)=true:=φ (by omega);have hmo:=bO 13 t.pl;rw[ξ ho];refine sk 4 rfl ?_;rw[d];refine kc hmo ?_;refine az ?_;rw[B];rw[B] at h1;have hp:=ih (o+1) (tlZ z) h1 he (by omega) (by omega);obtain⟨g1,_⟩:=(jW L f).2.1 (o+1) (tlZ z) h1;have ad:=u (ab hl);unfold rO at ad;unfold rO;refine aA (agN [] rfl ?_);unfold rO at hp;rw[ad] at hp;generalize gD f (o+1) (tlZ z)=y at hp g1 ⊢;obtain⟨q,z2⟩:=y;dsimp only at hp g1 ⊢;unfold aLl;dsimp only;rw[ζ rfl];by_cases I:z2.e=0
 case neg=>
  have hp:=bF.err hp I;rw[bJ I,aI I];exact aA (aC mixed (akN 3 [] rfl (kp hp)))
 have hp:=bF.ok hp I;refine aA (aC mixed (akN 3 [] rfl (kc hp ?_)));refine akN 1 [] rfl (az ?_);have r:=dG g1 I c6;generalize aQ c6 z2=z3 at r ⊢;by_cases J:z3.e=0
 case neg=>
  have hp:=bF.err r J;rw[aI J];exact sk 1 rfl (kp hp)
 have r:=bF.ok r J;rw[bB J];refine sk 1 rfl (kc r ?_);exact az (sg rfl (aE q9))
theorem aN8 {f o:Nat}{out:List Pt}{z:Z}(h:¬z.e=0):eU f o out z=(out,z):=by
 cases f with
 | zero=>rfl
 | succ f=>rw[eU,ξ h]
theorem aWp (L:List Tk) (hN:aOp L) (f:Nat) (ihS:∀g,g≤f→aKv L g):aTc L (f+1):=by
 intro o z h he hf J;have hn:=dY h;have hnm:=hN _ h.mem;have hlp:=h.lp;rw[gD];refine nT (n:=58) tok Tryz.func50 rfl rfl rfl rfl ?_;refine sg rfl (sk 3 rfl (kc hn ?_));refine kz 2 rfl (aA (sg rfl ?_));by_cases E:(b6 z).kind=2
 ·obtain⟨f,rfl⟩:∃g,f=g+1:=⟨f-1,by omega⟩
  have M:bA (f+1) o z=((.mk (kI (b6 z)) (b6 z).pl (b6 z).n (kH (b6 z)) [],true),tlZ z):=by
   rw[bA,ξ (fun k=>k he),ζ (by omega)]
  rw[M,ξ (show ¬(true=false) from fun k=>Bool.noConfusion k),ζ ⟨E,he⟩];have h1:=h.tlp (by rw[E];decide);have hrt:=aL5 h (by rw[E];decide);have htl:=qS h;have hlen:=h.len;have hLl:=h.l;have r:∃W,W=eU (f+1) o [] (tlZ z):=⟨_,rfl⟩
  obtain⟨W,r⟩:=r;rw[←r,hnm (by omega)];generalize b6 z=t at hn E M hnm ⊢;have d:(!decide (t.kind=2))=false:=by rw[φ E];rfl
  refine aB rfl (fun hb=>absurd (hb.symm.trans d) Bool.noConfusion) (fun _=>aD ?_);unfold rO;refine aA (agN [] rfl ?_);rw[←hrt];refine sg rfl (AWp.sub (Sub.ownCell (x:=8) (k:=4) (id:=501) 49 10 rfl rfl rfl) ?_);refine aF (aK (fun q:List Pt×Z×Nat=>mk [(0,rP),(1,I .i64 (o:Nat)),(4,.one (.vp 4 0)),(8,.one (.vp 8 0))] [(600,rO L q.2.1),(4,.var 49 (aT2.map .c)),(8,.var 49 [.c (.int .i64 4),.c (.int .i64 t.pl),.c (.int .i64 0),.c (.str t.text),.hs 501 0 q.1.length q.1.length,.c (.int .i64 0),.c (.int .i64 0),.c (.str []),.c .nl,.c .nl]),(501,.arr 49 10 (q.1.map bL) 0)]) (fun q=>ZA L q.2.1∧q.2.1.e=0∧W=eU q.2.2 o q.1 q.2.1∧q.2.2≤f+1∧3*q.2.1.R.length+1≤q.2.2∧q.1.length+q.2.1.R.length≤4001) (fun q=>q.2.1.R.length+1) ([],tlZ z,f+1) ⟨h1,he,r,le_refl _,by dsimp only;omega,by dsimp only;rw[length_nil];omega⟩ sl ?_);clear r hn M htl h1 hrt hlp hlen he hf h;rintro⟨out,U,g⟩ ⟨h',O,r,hgf,hg,hol⟩;dsimp only at h' O r hgf hg hol ⊢;have hout:(out.map bL).length=out.length:=η _;obtain⟨g,rfl⟩:∃k,g=k+1:=⟨g-1,by omega⟩
  rw[eU,ζ O] at r;have hs:=ihS g (by omega) o U h' O (by omega) J;obtain⟨g1,_,g3,g4⟩:=(jW L g).1 o U h';have hlp:=h'.lp;unfold aLl at hs;generalize bA g o U=y at hs g1 g3 g4 r;obtain⟨⟨q,b⟩,z2⟩:=y;dsimp only at hs g1 g3 g4 r;by_cases u:z2.e=0
  case neg=>
   have hp:=bF.err hs u;have hb:W.2=z2:=by
    rw[aN8 u] at r;rw[r];split<;>rfl
   rw[hb,aI u];exact aF (sk 2 rfl (kp hp))
  have hs:=bF.ok hs u;refine aF (sk 2 rfl (kc hs ?_));refine kz 6 rfl (aA (sg rfl ?_));cases b with
  | false=>
   rw[ζ rfl] at r;refine aB rfl (fun _=>AWp.sub (Sub.freeze (id:=501) rfl) ?_) (fun hb=>Bool.noConfusion hb);refine sg rfl ?_;rw[r];dsimp only;rw[bB u];unfold bL;rw[j6 (Pt.mk _ _ _ _ _)];exact aE (rtC trw (hc:=.agg (.c .refl (.c .refl (.c .refl (.c .refl (.hs rfl hout.symm (Go.AM.take_all hout.symm) (.c .refl (.c .refl (.c .refl (.c .nl (.c .nl .nil))))))))))))
  | true=>
   rw[ξ (show ¬(true=false) from fun k=>Bool.noConfusion k)] at r;have Y:out.map bL++[bL q]=(out++[q]).map bL:=by rw[Al];rfl
   have hle:(out++[q]).length=out.length+1:=by rw[θ];rfl
   have g4':z2.R.length≤U.R.length:=g4;have g3':=g3 rfl u;rw[ζ rfl];refine aB rfl (fun hb=>Bool.noConfusion hb) (fun _=>aD (ag [(3,.all)] rfl ⟨(out++[q],z2,g),⟨g1,u,r,by dsimp only;omega,by dsimp only;omega,by dsimp only;rw[hle];omega⟩,by dsimp only;omega,?_⟩));exact sl (he:=⟨rfl,rfl,rfl,rfl,trivial⟩) (hh:=⟨⟨_,rfl,.var rfl⟩,⟨_,rfl,.var rfl⟩,⟨_,rfl,.var (by rw[hle,←hout];rfl)⟩,⟨_,rfl,.arrS Y⟩,trivial⟩)
 have d:(!decide ((b6 z).kind=2))=true:=by rw[ψ E];rfl
 refine aB rfl (fun _=>?_) (fun hb=>absurd (hb.symm.trans d) Bool.noConfusion);rw[ξ (show ¬((b6 z).kind=2∧z.e=0) from fun k=>E k.1)];have hs:=ihS f (le_refl _) o z h he (by omega) J;unfold aLl at hs;generalize bA f o z=y at hs ⊢;obtain⟨⟨q,b⟩,z1⟩:=y;dsimp only at hs ⊢;by_cases B:z1.e=0
 case neg=>
  have hp:=bF.err hs B;have hb:(if b=false then(zPt,bS 12 (b6 z).pl z1) else(q,z1)).2=z1:=by
   rw[fW B];split<;>rfl
  rw[hb,aI B];exact sk 2 rfl (kp hp)
 have hs:=bF.ok hs B;refine sk 2 rfl (kc hs ?_);refine kz 6 rfl ?_;cases b with
 | false=>
  have hm:=bQ 12 (b6 z).pl;rw[ζ rfl];unfold bS;rw[ζ B];dsimp only;rw[aI (show ¬(12:Int)=0 by decide)];exact sk 3 rfl (kp hm)
 | true=>
  have hm:=bO 12 (b6 z).pl;rw[ξ (show ¬(true=false) from fun k=>Bool.noConfusion k),ζ rfl];dsimp only;rw[bB B];refine sk 3 rfl (kc hm ?_);exact az (sg rfl (aE (rtC trw)))
theorem aZa (L:List Tk) (u:aOp L):∀f,(∀g,g≤f→aKv L g)∧∀g,g≤f→aTc L g:=by
 intro f
 induction f with
 | zero=>exact⟨fun g r o z h he y ho=>by have:=h.lp;omega,fun g r o z h he y ho=>by have:=h.lp;omega⟩
 | succ f q=>
  refine⟨fun g r=>?_,fun g r=>?_⟩
  ·by_cases h:g≤f
   ·exact q.1 g h
   ·rw[show g=f+1 by omega];exact aJi L u f (q.2 f (le_refl _))
  ·by_cases h:g≤f
   ·exact q.2 g h
   ·rw[show g=f+1 by omega];exact aWp L u f q.1
theorem aC5 (l:List Tk) (hl:l.length≤4001):b9 Tryz.prog 188 [.one (.c (.sl 4 (l.map aG)))] [] (.one (.c (.sl 10 ((kM l).map bL)))) []:=by
 have r:(l.map aG).length=l.length:=η _;refine bP (n:=22) tok Tryz.func188 rfl rfl rfl ?_;refine sg rfl (sg rfl (AWp.sub (Sub.own (t:=3) (id:=500) 49 10 rfl rfl) ?_));refine aA (sg rfl (aF (aK (fun i:Nat=>mk [(3,.one (.hs 500 0 i i)),(6,.one (.c (.sl 4 (l.map aG)))),(7,I .i64 ((l.map aG).length:Nat)),(8,I .i64 (i:Nat))] [(500,.arr 49 10 ((kM (l.take i)).map bL) 0)]) (fun i=>i≤l.length) (fun i=>l.length-i) 0 (ε _) sl ?_)));intro i hi;have q:((kM (l.take i)).map bL).length=i:=by rw[η,qP,An];omega
 refine sg rfl (aA (aB rfl (fun hb=>?_) (fun hb=>?_)))
 ·have u:=ltD hb r;obtain⟨t,ht⟩:=aL u;have E:=aT aG ht;have y:(kM (l.take (i+1))).map bL=(kM (l.take i)).map bL++[bL (.mk 2 t.pl 0 t.text [])]:=by
   unfold kM;rw[Bf,ht,Al,Al];rfl
  exact aD (aA (aF (sgh [(0,.row i (aG t))] rfl (ag [(6,.all)] rfl (agN [] rfl ⟨i+1,u,by dsimp only;omega,sl (he:=⟨Go.AM.hs_ren (congrArg (· +1) q) (congrArg (· +1) q),rfl,rfl,rfl,trivial⟩) (hh:=⟨⟨_,rfl,.arrS y.symm⟩,trivial⟩)⟩)))))
 ·have B:=geD hb r hi;subst B;rw[Ax] at q ⊢;refine aH (AWp.sub (Sub.freeze (id:=500) rfl) ?_);exact sg rfl (aE (rtH (hsz:=q.symm) (hlen:=q.symm)))
def aQa (L:List Tk) (ex:Nat→Z→Ex×Z) (N:Nat):Prop:=∀(deep:Nat) (z:Z),ZA L z→z.e=0→z.R.length≤N→deep≤41→bF Tryz.prog 187 [rP,I .i64 (deep:Nat)] [(600,rO L z)] (gT L (.pa (bU (ex deep z).1)) (ex deep z).2 [])
def vG (ex:Nat→Z→Ex×Z):Prop:=∀(deep:Nat) (z:Z),¬z.e=0→(ex deep z).2=z
theorem uP:∀f,vG (fV f)
 | 0=>fun _ _ h=>fW h
 | f+1=>fun deep z h=>by
  show(rN (fV f) deep z).2=z;unfold rN;rw[ζ h]
theorem aRc {s:Str}{z:Z}(he:z.e=0):bT s z=if isZ s z=true then(true,tlZ z) else(false,z):=by
 unfold bT;by_cases hu:isZ s z=true
 ·rw[ζ ⟨he,hu⟩,ζ hu];rfl
 ·rw[ξ (fun k=>hu k.2),ξ hu]
section
variable {L:List Tk}{ex:Nat→Z→Ex×Z}{N:Nat}(hO:ExO L ex) (hB:vG ex) (hS:aQa L ex N)
include hO hS
theorem aJp (deep:Nat) {z:Z}(h:ZA L z) (he:z.e=0) (hN:z.R.length≤N+1) (hd:deep≤40):bF Tryz.prog 226 [rP,I .i64 (deep:Nat)] [(600,rO L z)] (gT L (.tup [.pa (bU (fT ex deep z).1.1),B (fT ex deep z).1.2]) (fT ex deep z).2 []):=by
 unfold fT;rw[ξ (fun k=>k he)];have hn:=dY h;have hm:=fJ h he bI;have hLl:=h.l;have u:=fun hk=>aL5 h hk
 refine nT (n:=73) tok Tryz.func226 rfl rfl rfl rfl ?_;refine sg rfl (sk 3 rfl (kc hn ?_));refine kz 2 rfl (aA (sg rfl ?_));generalize ht:b6 z=t at u ⊢;refine aF (sg rfl ?_);by_cases O:t.kind=1
 ·have d:decide (t.kind=1)=true:=φ O;rw[ζ (show 0<t.kind∧t.kind<4 by omega)];dsimp only;rw[bB (show(tlZ z).e=0 from he),u (by omega)];have U:pB t=.mk 1 t.pl 0 t.text [] [] [] lX:=by unfold pB;rw[ξ (by omega),O]
  rw[U];unfold rO;exact aB rfl (fun _=>aA (agN [] rfl (sg rfl (aE q9)))) (fun hb=>absurd (hb.symm.trans d) Bool.noConfusion)
 refine aB rfl (fun hb=>absurd (κ hb) O) (fun _=>sg rfl ?_);by_cases Y:t.kind=2
 ·have d:decide (t.kind=2)=true:=φ Y;rw[ζ (show 0<t.kind∧t.kind<4 by omega)];dsimp only;rw[bB (show(tlZ z).e=0 from he),u (by omega)];have U:pB t=.mk 2 t.pl 0 t.text [] [] [] lX:=by unfold pB;rw[ξ (by omega),Y]
  rw[U];unfold rO;exact aB rfl (fun _=>aA (agN [] rfl (sg rfl (aE q9)))) (fun hb=>absurd (hb.symm.trans d) Bool.noConfusion)
 refine aB rfl (fun hb=>absurd (κ hb) Y) (fun _=>sg rfl ?_);by_cases k3:t.kind=3
 ·have d:decide (t.kind=3)=true:=φ k3;rw[ζ (show 0<t.kind∧t.kind<4 by omega)];dsimp only;rw[bB (show(tlZ z).e=0 from he),u (by omega)];unfold pB;rw[ζ k3];unfold rO;exact aB rfl (fun _=>aA (agN [] rfl (sg rfl (aE q9)))) (fun hb=>absurd (hb.symm.trans d) Bool.noConfusion)
 refine aB rfl (fun hb=>absurd (κ hb) k3) (fun _=>aD ?_);rw[ξ (show ¬(0<t.kind∧t.kind<4) by omega)];have h1:=h.may bI;have M:=fG h (s:=bI);have e1:=(iW bI z).trans he;have J:= @j5 bI z;generalize bT bI z=m at hm h1 M e1 J ⊢;obtain⟨b,z1⟩:=m;dsimp only at hm h1 M e1 J ⊢;refine aA (sk 1 rfl (kc hm ?_));refine kz 1 rfl ?_;cases b with
 | false=>
  obtain rfl:=J rfl;rw[ζ rfl];dsimp only;rw[bB he];exact aB rfl (fun _=>sg rfl (aE q9)) (fun hb=>Bool.noConfusion hb)
 | true=>
  rw[ξ (by decide)];have M:=M rfl;have hx:=hS (deep+1) z1 h1 e1 (by omega) (by omega);obtain⟨g1,_⟩:=hO (deep+1) z1 h1;generalize ex (deep+1) z1=y at hx g1 ⊢;obtain⟨b,z2⟩:=y;dsimp only at hx g1 ⊢;refine aB rfl (fun hb=>Bool.noConfusion hb) (fun _=>aD ?_);by_cases q:z2.e=0
  case neg=>
   have hp:=bF.err hx q;rw[bJ q,aI q];exact aA (aC mixed (akN 3 [] rfl (kp hp)))
  have hx:=bF.ok hx q;refine aA (aC mixed (akN 3 [] rfl (kc hx ?_)));refine akN 2 [] rfl (az ?_);have r:=dG g1 q c6;generalize aQ c6 z2=z3 at r ⊢;by_cases E:z3.e=0
  case neg=>
   have hp:=bF.err r E;rw[aI E];exact sk 1 rfl (kp hp)
  have r:=bF.ok r E;rw[bB E];refine sk 1 rfl (kc r ?_);exact az (sg rfl (aE q9))
omit hO
include hB
theorem aWw (a:Int) (deep:Nat) {z:Z}(h:ZA L z) (he:z.e=0) (hN:z.R.length≤N) (hd:deep≤40):bF Tryz.prog 223 [rP,I .i64 a,I .i64 (deep:Nat)] [(600,rO L z)] (gT L (.pa (bU (sW ex a deep z).1)) (sW ex a deep z).2 []):=by
 obtain⟨g1,g2,g3⟩:=zV a h;have r:=hS (deep+1) (sE a z).2 g1;have q:=hB (deep+1) (sE a z).2;have u:(sE a z).2.R.length≤N:=le_trans g3 hN;unfold sW;generalize hy:ex (deep+1) (sE a z).2=y at r q ⊢;obtain⟨b,z6⟩:=y;dsimp only at r q ⊢;unfold sE at r q g1 g2 u ⊢;dsimp only at r q g1 g2 u ⊢;have O:=nZ h he;have h1:=h.words;have B:(aU z).2.e=0:=by unfold aU;rw[ζ he];exact he
 generalize aU z=w at r q g1 g2 u O h1 B ⊢;obtain⟨l,z1⟩:=w;dsimp only at r q g1 g2 u O h1 B ⊢;have hn:=dY h1;have U:(l.map aG).length=l.length:=η _;have hv:=aC5 l g2;refine nT (n:=35) tok Tryz.func223 rfl rfl rfl rfl ?_;refine sg rfl (sk 1 rfl (kc O ?_));refine kz 1 rfl ?_;by_cases hl:l=[]
 ·subst hl;rw[ζ rfl] at q;unfold bS at q;rw[ζ B,eG (show ¬(12:Int)=0 by decide),bJ (show ¬(12:Int)=0 by decide)] at q;rw[q (show ¬(12:Int)=0 by decide),aI (show ¬(12:Int)=0 by decide)];have hm:=bQ 12 (b6 z1).pl;refine sk 6 rfl (kc hn ?_);exact ak 1 [] rfl (kp hm)
 rw[ξ hl] at r q g1 u;have d0:decide ((0:Int)<((l.length:Nat):Int))=true:=φ (by have:=C6.2 hl;omega);have hm:=bO 12 (b6 z1).pl;refine sk 6 rfl (kc hn ?_);refine ak 1 [] rfl ?_;rw[U,d0];refine kc hm ?_;refine az ?_;by_cases Y:l.length≤8
 case neg=>
  have d:decide (((l.length:Nat):Int)≤8)=false:=ψ (by omega);rw[gF Y B,bJ cQ] at q;rw[q cQ,aI cQ];have hm:=bQ 2 a;refine sk 4 rfl ?_;rw[U,d];exact kp hm
 have d:decide (((l.length:Nat):Int)≤8)=true:=φ (by omega);have hm:=bO 2 a;rw[gE Y] at r q g1 u;refine sk 4 rfl ?_;rw[U,d];refine kc hm ?_;refine az ?_;have E:=dG h1 B arrow;generalize aQ arrow z1=z3 at E r q g1 u;by_cases J:z3.e=0
 case neg=>
  have hp:=bF.err E J;rw[q J,aI J];exact sk 1 rfl (kp hp)
 have E:=bF.ok E J;refine sk 1 rfl (kc E ?_);refine az ?_;have r:=r J u (by omega);refine sk 2 rfl (kc hv ?_);refine akN 3 [] rfl ?_;by_cases M:z6.e=0
 case neg=>
  have hp:=bF.err r M;rw[aI M];exact kp hp
 have r:=bF.ok r M;rw[bB M];refine kc r ?_;exact ak 3 [(7,.all)] rfl (az (aE (rtC trw)))
theorem uY (nm:Tk) (deep:Nat) {z:Z}(h:ZA L z) (he:z.e=0) (hN:z.R.length≤N) (hd:deep≤41):bF Tryz.prog 148 [rP,tkV nm,I .i64 (deep:Nat)] [(600,rO L z)] (gT L (.pa (b8 (cP ex nm deep z).1)) (cP ex nm deep z).2 []):=by
 obtain⟨g1,g2,g3⟩:=v7 nm h;have r:=hS deep (iO nm z).2 g1;have q:=hB deep (iO nm z).2;have E:(iO nm z).2.R.length≤N:=le_trans g3 hN;unfold cP;generalize hy:ex deep (iO nm z).2=y at r q ⊢;obtain⟨b,z6⟩:=y;dsimp only at r q ⊢;unfold iO at r q g1 g2 E ⊢;dsimp only at r q g1 g2 E ⊢;have O:=nZ h he;have h1:=h.words;have J:(aU z).2.e=0:=by unfold aU;rw[ζ he];exact he
 generalize aU z=w at r q g1 g2 E O h1 J ⊢;obtain⟨l,z1⟩:=w;dsimp only at r q g1 g2 E O h1 J ⊢;have U:(l.map aG).length=l.length:=η _;have hv:=aC5 l g2;refine nT (n:=40) tok Tryz.func148 rfl rfl rfl rfl ?_;refine sg rfl (sk 1 rfl (kc O ?_));refine kz 1 rfl ?_;by_cases Y:l.length≤8
 case neg=>
  have d:decide (((l.length:Nat):Int)≤8)=false:=ψ (by omega);rw[gF Y J,bJ cQ] at q;rw[q cQ,aI cQ];have hm:=bQ 2 nm.pl;refine sk 5 rfl ?_;rw[U,d];exact kp hm
 have d:decide (((l.length:Nat):Int)≤8)=true:=φ (by omega);have hm:=bO 2 nm.pl;rw[gE Y] at r q g1 E;refine sk 5 rfl ?_;rw[U,d];refine kc hm ?_;refine az ?_;have u:=dG h1 J eqS;generalize aQ eqS z1=z3 at u r q g1 E;by_cases B:z3.e=0
 case neg=>
  have hp:=bF.err u B;rw[q B,aI B];exact sk 1 rfl (kp hp)
 have u:=bF.ok u B;refine sk 1 rfl (kc u ?_);refine az ?_;have r:=r B E hd;by_cases M:z6.e=0
 case neg=>
  have hp:=bF.err r M;rw[aI M];exact sk 2 rfl (kp hp)
 have r:=bF.ok r M;rw[bB M];refine sk 2 rfl (kc r ?_);refine kz 2 rfl (aA (sg rfl ?_));cases l with
 | nil=>
  exact aB rfl (fun hb=>Bool.noConfusion hb) (fun _=>aD (sg rfl (aE (rtC trw))))
 | cons t l=>
  have d0:decide ((0:Int)<(((t::l).map aG).length:Int))=true:=φ (by rw[U,χ];omega);have ht:((t::l).map aG)[0]?=some (aG t):=rfl;refine aB rfl (fun _=>aC mixed (ak 5 [(1,.row 0 (aG t))] rfl (kc hv ?_))) (fun hb=>absurd (hb.symm.trans d0) Bool.noConfusion);exact ak 4 [(7,.all)] rfl (az (sg rfl (aE (rtC trw))))
end
def aTi (s:Sg):AObj:=.var 92 ((cI s).map .c)
theorem aR6 (x:Bd) (s:Sg):b9 Tryz.prog 150 ([.pa (b8 x)]++[R.vp 6 0].map V.one) [(6,aTi s)] (B (decide (x.name=s.name))) [(6,aTi s)]:=by
 refine bP (n:=9) tok Tryz.func150 rfl rfl rfl ?_;exact sgh [(0,.id 12)] rfl (sg rfl (aE rtT))
theorem aNm (b:List Bd) (hl:b.length≤4001) (s:Sg):b9 Tryz.prog 149 [hsV 511 b.length,.one (.clo 150 [.vp 6 0])] [(511,bdA b 0),(6,aTi s)] (I .i64 (aEz (fun x=>decide (x.name=s.name)) b 0)) [(511,bdA b 0),(6,aTi s)]:=by
 have B:(b.map b8).length=b.length:=η _;refine bP (n:=19) tok Tryz.func149 rfl rfl rfl ?_;refine sg rfl (aA (sg rfl (aF (aK (fun i:Nat=>mk [(0,hsV 511 b.length),(1,.one (.clo 150 [.vp 6 0])),(7,I .i64 (b.length:Int)),(8,I .i64 i)] [(511,bdA b 0),(6,aTi s)]) (fun i=>i≤b.length∧aEz (fun x=>decide (x.name=s.name)) b 0=aEz (fun x=>decide (x.name=s.name)) b i) (fun i=>b.length-i) 0 ⟨ε _,rfl⟩ sl ?_))));intro i ⟨hi,hid⟩;refine sg rfl (aA (aB rfl (fun hb=>?_) (fun hb=>?_)))
 ·have q:i<b.length:=by have:=κ hb;omega
  obtain⟨x,r⟩:=aL q;have y:=aT b8 r;have hc:=aR6 x s;rw[xE _ r] at hid;refine aD (aA (aF (sg rfl (skh 5 [(4,.row i (b8 x))] rfl (kv (args:=[.pa (b8 x)]) hc ?_)))));refine az (aB rfl (fun hb=>?_) (fun hb=>?_))
  ·rw[ζ hb] at hid;rw[hid];exact sg rfl (aE rtT)
  ·rw[ξ (by rw[show decide (x.name=s.name)=false from hb];exact ω)] at hid;exact aD (ag [] rfl ⟨i+1,⟨q,hid⟩,by dsimp only;omega,sl⟩)
 have u:i=b.length:=by have:=Af hb;omega
 subst u;rw[aCo] at hid;rw[hid];exact aH (sg rfl (aE rtT))
def aTr (n:Nat) (y:List Bd×Z):Except Value (V×List (Nat×AObj)):=if y.2.e=0 then .ok (hsV 511 n,[(511,bdA y.1 0)]) else .error (tH y.2.e y.2.p)
theorem oC {l:List Sg}{b:List Bd}{z:Z}(h:¬z.e=0):(cF l b z).2=z:=by
 cases l with
 | nil=>rfl
 | cons s l=>rw[cF,ξ h]
theorem aJo (sigs:List Sg) (binds:List Bd) {z:Z}(he:z.e=0) (h1:sigs.length≤4001) (h2:binds.length≤4001):
  bF Tryz.prog 91 [.one (.c (.sl 9 (sigs.map cI))),hsV 511 binds.length] [(511,bdA binds 0)] (aTr binds.length (cF sigs binds z)):=by
 have hsl:(sigs.map cI).length=sigs.length:=η _;have r:∃W,W=cF sigs binds z:=⟨_,rfl⟩
 obtain⟨W,r⟩:=r;rw[←r];refine nT (n:=43) tok Tryz.func91 rfl rfl rfl rfl ?_;refine sg rfl (aA (sg rfl (aF (aK (fun q:Nat×List Bd=>mk [(1,hsV 511 binds.length),(8,.one (.c (.sl 9 (sigs.map cI)))),(9,I .i64 ((sigs.map cI).length:Nat)),(10,I .i64 (q.1:Nat))] [(511,bdA q.2 0)]) (fun q=>q.1≤sigs.length∧q.2.length=binds.length∧W=cF (sigs.drop q.1) q.2 z) (fun q=>sigs.length-q.1) (0,binds) ⟨ε _,rfl,r⟩ sl ?_))));clear r;rintro⟨i,b⟩ ⟨hi,y,r⟩;dsimp only at hi y r ⊢;have O:(b.map b8).length=b.length:=η _;refine sg rfl (aA (aB rfl (fun hb=>?_) (fun hb=>?_)))
 case refine_2=>
  have hge:i=sigs.length:=by have:=Af hb;omega
  rw[drop_eq_nil_of_le (by omega),cF] at r;refine aH (sg rfl ?_);rw[r];unfold aTr;rw[ζ he];exact aE rtT
 have J:i<sigs.length:=by have:=κ hb;omega
 obtain⟨s,hs⟩:=aL J;have hs':=aT cI hs;have U:sigs.drop i=s::sigs.drop (i+1):=by
  obtain⟨k1,k2⟩:=Ai.1 hs;rw[←k2];exact Ay k1
 rw[U,cF,ζ he] at r;have B:=aNm b (by omega) s;have Y:aEz (fun x=>decide (x.name=s.name)) b 0=match b.findIdx? (fun x=>decide (x.name=s.name)) with | none=> -1 | some d=>(d:Int):=by
  unfold aEz;rw[B5];cases b.findIdx? _ with
  | none=>rfl
  | some d=>simp
 rw[Y,y] at B;unfold aTi at B;refine aD (aA (aF (sgh [(0,.row i (cI s))] rfl (sk 2 rfl (kc B ?_)))));refine kz 1 rfl ?_;cases M:b.findIdx? (fun x=>decide (x.name=s.name)) with
 | none=>
  rw[M] at r;dsimp only at r ⊢;have hm:=bQ 21 s.pl;have E:W.2=⟨z.R,21,s.pl⟩:=by
   unfold bS at r;rw[ζ he] at r;rw[r,oC (show ¬(21:Int)=0 by decide)]
  unfold aTr;rw[E,ξ (show ¬(21:Int)=0 by decide)];exact sk 4 rfl (kp hm)
 | some k=>
  rw[M] at r;dsimp only at r ⊢;have hk:=pJ M;obtain⟨x,hx⟩:=aL hk;have hx':=aT b8 hx;rw[hx] at r;dsimp only at r;have dk:decide ((0:Int)≤(k:Int))=true:=φ (by omega);have hm:=bO 21 s.pl;refine sk 4 rfl ?_;rw[dk];refine kc hm ?_;refine az ?_;cases u:x.has with
  | true=>
   rw[ζ u] at r;have hm:=bQ 20 s.pl;have E:W.2=⟨z.R,20,s.pl⟩:=by
    unfold bS at r;rw[ζ he] at r;rw[r,oC (show ¬(20:Int)=0 by decide)]
   unfold aTr;rw[E,ξ (show ¬(20:Int)=0 by decide)];refine skh 8 [(4,.row k (b8 x))] rfl ?_;rw[u];refine kpD (.tup []) [] hm ?_;exact az trivial
  | false=>
   rw[ξ (by rw[u];exact ω)] at r;have hm:=bO 20 s.pl;refine skh 8 [(4,.row k (b8 x))] rfl ?_;rw[u];refine kc hm ?_;refine az ?_;have hs1:(b.map b8).set k (b8 (.mk x.name x.pl true x.sig x.body))=(b.set k (.mk x.name x.pl true x.sig x.body)).map b8:=by rw[map_set]
   have hs2:((b.map b8).set k (b8 (.mk x.name x.pl true x.sig x.body))).set k (b8 (i7 x s.ty))=(b.set k (i7 x s.ty)).map b8:=by rw[List.set_set,map_set]
   have hx2:((b.map b8).set k (b8 (.mk x.name x.pl true x.sig x.body)))[k]?=some (b8 (.mk x.name x.pl true x.sig x.body)):=by rw[List.getElem?_set_self (by rw[O];exact hk)]
   exact ag [(8,.row k (b8 x)),(11,.row k (b8 (.mk x.name x.pl true x.sig x.body)))] rfl (agN [] rfl ⟨(i+1,b.set k (i7 x s.ty)),⟨J,by dsimp only;rw[Cx,y],r⟩,by dsimp only;omega,sl (hh:=⟨⟨_,rfl,.arrS hs2⟩,trivial⟩)⟩)
def zBd:Bd:=.mk [] 0 false lX zEx
def zZ (sigs:List Sg) (binds:List Bd):List (Nat×AObj):=[(7,.var 88 [.hs 510 0 sigs.length sigs.length]),(8,.var 27 [.hs 511 0 binds.length binds.length]),(510,sgA sigs 0),(511,bdA binds 0)]
def dtA (l:List Dt):AObj:=.arr 81 5 (l.map gV) 0
def clA (l:List Cl):AObj:=.arr 90 6 (l.map gW) 0
def inA (l:List In):AObj:=.arr 95 6 (l.map jK) 0
def aIm (p:Pg) (sigs:List Sg):List (Nat×AObj):=[(4,.var 88 [.hs 510 0 sigs.length sigs.length]),(3,.var 29 [.hs 512 0 p.datas.length p.datas.length,.hs 513 0 p.classes.length p.classes.length,.hs 514 0 p.insts.length p.insts.length,.hs 511 0 p.binds.length p.binds.length]),(510,sgA sigs 0),(511,bdA p.binds 0),(512,dtA p.datas),(513,clA p.classes),(514,inA p.insts)]
section
variable {L:List Tk}{ex:Nat→Z→Ex×Z}{N:Nat}(hB:vG ex) (hS:aQa L ex N) (hZ:pO L) (hwt:wt L≤30000)
include hB hS hZ hwt
theorem aWl (sigs:List Sg) (binds:List Bd) (deep:Nat) {z:Z}(h:ZA L z) (he:z.e=0) (hN:z.R.length≤N) (hd:deep≤41) (h1:sigs.length≤4001) (h2:binds.length≤4001):
  bF Tryz.prog 90 [rP,.one (.vp 7 0),.one (.vp 8 0),I .i64 (deep:Nat)] ((600,rO L z)::zZ sigs binds) (gT L (.tup []) (aY ex sigs binds deep z).2 (zZ (aY ex sigs binds deep z).1.1 (aY ex sigs binds deep z).1.2)):=by
 have hw:=iM h he 1 (by decide);have g1:=h.word (k:=1) (by decide);have Y:=Ze.word 1 z;have hsl:(sigs.map cI).length=sigs.length:=η _;have O:(binds.map b8).length=binds.length:=η _;unfold aY;generalize aS 1 z=w at hw g1 Y ⊢;obtain⟨nm,M⟩:=w;dsimp only at hw g1 Y ⊢;refine nT (n:=39) tok Tryz.func90 rfl rfl rfl rfl ?_;by_cases q:M.e=0
 case neg=>
  have hp:=bF.err hw q;rw[lU q];dsimp only;rw[ξ ω];have hb:(cP ex nm deep M).2=M:=by
   unfold cP iO;dsimp only;rw[lT q,eG q,bJ q];exact hB _ _ q
  dsimp only;rw[hb,aI q];exact sk 1 rfl (kp hp)
 have hw:=bF.ok hw q;have hm:=fJ g1 q dR;have g2:=g1.may dR;have l2:=Ze.may dR M;have J:=(iW dR M).trans q;generalize bT dR M=m at hm g2 l2 J ⊢;obtain⟨b,z2⟩:=m;dsimp only at hm g2 l2 J ⊢;refine sk 1 rfl (kc hw ?_);refine ak 2 [(2,.id 40)] rfl (az (aA (sk 1 rfl (kc hm ?_))));refine az ?_;cases b with
 | true=>
  rw[ζ rfl];have B:=mI g2 J hZ hwt;generalize bK z2=y at B ⊢;obtain⟨s,z3⟩:=y;dsimp only at B ⊢;refine aB rfl (fun _=>?_) (fun hb=>Bool.noConfusion hb);by_cases r:z3.e=0
  case neg=>
   have hp:=bF.err B r;rw[aI r];refine sk 9 rfl (kpD (.pa (fH lX)) [(600,rO L z2)] hp ?_);exact ak 5 [(11,.all)] rfl (az trivial)
  have B:=bF.ok B r;rw[bB r];have u:sigs.map cI++[cI ⟨nm.text,nm.pl,s⟩]=(sigs++[(⟨nm.text,nm.pl,s⟩:Sg)]).map cI:=by rw[Al];rfl
  have hle:(sigs++[(⟨nm.text,nm.pl,s⟩:Sg)]).length=sigs.length+1:=by rw[θ];rfl
  generalize sigs++[(⟨nm.text,nm.pl,s⟩:Sg)]=S at u hle ⊢;refine sk 9 rfl (kc B ?_);refine ak 5 [(11,.all)] rfl (az (AWp.sub (st2:=mk [] ((600,rO L z3)::zZ S binds)) (sl (hh:=⟨⟨_,rfl,.var rfl⟩,⟨_,rfl,.var (by rw[hle,←hsl];rfl)⟩,⟨_,rfl,.var rfl⟩,⟨_,rfl,.arrS u⟩,⟨_,rfl,Go.AM.Ole.arr⟩,trivial⟩)) ?_));exact aE rtN
 | false=>
  rw[ξ ω];have E:=uY hB hS nm deep g2 J (le_trans (Y.trans l2) hN) hd;generalize cP ex nm deep z2=y at E ⊢;obtain⟨U,z3⟩:=y;dsimp only at E ⊢;have hz0:(binds.map b8++[(b8 zBd)])[binds.length]?=some (b8 zBd):=by rw[A8 (by omega),O,Cg];rfl
  refine aB rfl (fun hb=>Bool.noConfusion hb) (fun _=>aD ?_);by_cases r:z3.e=0
  case neg=>
   have hp:=bF.err E r;rw[aI r];refine aC mixed (ak 6 [] rfl (kpD (.pa (b8 zBd)) [(600,rO L z2)] hp ?_));exact ak 7 [(8,.all),(11,.row binds.length (b8 zBd))] rfl (az trivial)
  have E:=bF.ok E r;rw[bB r];have u:(binds.map b8++[(b8 zBd)]).set binds.length (b8 U)=(binds++[U]).map b8:=by
   rw[set_append_right _ _ (by omega),O,Cg,Al];rfl
  have hle:(binds++[U]).length=binds.length+1:=by rw[θ];rfl
  refine aC mixed (ak 6 [] rfl (kc E ?_));refine ak 7 [(8,.all),(11,.row binds.length (b8 zBd))] rfl (az ?_);generalize hSe:binds++[U]=S at u hle ⊢;exact rtN (ho:=⟨⟨_,rfl,.var rfl⟩,⟨_,rfl,.var rfl⟩,⟨_,rfl,.var (by rw[hle,←O];rfl)⟩,⟨_,rfl,Go.AM.Ole.arr⟩,⟨_,rfl,.arrS u⟩,trivial⟩)
theorem aWk (p:Pg) (sigs:List Sg) (deep:Nat) {z:Z}(h:ZA L z) (he:z.e=0) (hN:z.R.length≤N) (hd:deep≤41) (h1:sigs.length≤4001) (h2:p.binds.length≤4001):
  bF Tryz.prog 90 [rP,.one (.vp 4 0),.one (.vp 3 3),I .i64 (deep:Nat)] ((600,rO L z)::aIm p sigs) (gT L (.tup []) (aY ex sigs p.binds deep z).2 (aIm ⟨p.datas,p.classes,p.insts,(aY ex sigs p.binds deep z).1.2⟩ (aY ex sigs p.binds deep z).1.1)):=by
 have hw:=iM h he 1 (by decide);have g1:=h.word (k:=1) (by decide);have Y:=Ze.word 1 z;have hsl:(sigs.map cI).length=sigs.length:=η _;have O:(p.binds.map b8).length=p.binds.length:=η _;unfold aY;generalize aS 1 z=w at hw g1 Y ⊢;obtain⟨nm,M⟩:=w;dsimp only at hw g1 Y ⊢;refine nT (n:=39) tok Tryz.func90 rfl rfl rfl rfl ?_;by_cases q:M.e=0
 case neg=>
  have hp:=bF.err hw q;rw[lU q];dsimp only;rw[ξ ω];have hb:(cP ex nm deep M).2=M:=by
   unfold cP iO;dsimp only;rw[lT q,eG q,bJ q];exact hB _ _ q
  dsimp only;rw[hb,aI q];exact sk 1 rfl (kp hp)
 have hw:=bF.ok hw q;have hm:=fJ g1 q dR;have g2:=g1.may dR;have l2:=Ze.may dR M;have J:=(iW dR M).trans q;generalize bT dR M=m at hm g2 l2 J ⊢;obtain⟨b,z2⟩:=m;dsimp only at hm g2 l2 J ⊢;refine sk 1 rfl (kc hw ?_);refine ak 2 [(2,.id 40)] rfl (az (aA (sk 1 rfl (kc hm ?_))));refine az ?_;cases b with
 | true=>
  rw[ζ rfl];have B:=mI g2 J hZ hwt;generalize bK z2=y at B ⊢;obtain⟨s,z3⟩:=y;dsimp only at B ⊢;refine aB rfl (fun _=>?_) (fun hb=>Bool.noConfusion hb);by_cases r:z3.e=0
  case neg=>
   have hp:=bF.err B r;rw[aI r];refine sk 9 rfl (kpD (.pa (fH lX)) [(600,rO L z2)] hp ?_);exact ak 5 [(11,.all)] rfl (az trivial)
  have B:=bF.ok B r;rw[bB r];have u:sigs.map cI++[cI ⟨nm.text,nm.pl,s⟩]=(sigs++[(⟨nm.text,nm.pl,s⟩:Sg)]).map cI:=by rw[Al];rfl
  have hle:(sigs++[(⟨nm.text,nm.pl,s⟩:Sg)]).length=sigs.length+1:=by rw[θ];rfl
  generalize sigs++[(⟨nm.text,nm.pl,s⟩:Sg)]=S at u hle ⊢;refine sk 9 rfl (kc B ?_);refine ak 5 [(11,.all)] rfl (az (AWp.sub (st2:=mk [] ((600,rO L z3)::aIm ⟨p.datas,p.classes,p.insts,p.binds⟩ S)) (sl (hh:=⟨⟨_,rfl,.var rfl⟩,⟨_,rfl,.var (by rw[hle,←hsl];rfl)⟩,⟨_,rfl,.var rfl⟩,⟨_,rfl,.arrS u⟩,⟨_,rfl,Go.AM.Ole.arr⟩,⟨_,rfl,Go.AM.Ole.arr⟩,⟨_,rfl,Go.AM.Ole.arr⟩,⟨_,rfl,Go.AM.Ole.arr⟩,trivial⟩)) ?_));exact aE rtN
 | false=>
  rw[ξ ω];have E:=uY hB hS nm deep g2 J (le_trans (Y.trans l2) hN) hd;generalize cP ex nm deep z2=y at E ⊢;obtain⟨U,z3⟩:=y;dsimp only at E ⊢;have hz0:(p.binds.map b8++[(b8 zBd)])[p.binds.length]?=some (b8 zBd):=by rw[A8 (by omega),O,Cg];rfl
  refine aB rfl (fun hb=>Bool.noConfusion hb) (fun _=>aD ?_);by_cases r:z3.e=0
  case neg=>
   have hp:=bF.err E r;rw[aI r];refine aC mixed (ak 6 [] rfl (kpD (.pa (b8 zBd)) [(600,rO L z2)] hp ?_));exact ak 7 [(8,.all),(11,.row p.binds.length (b8 zBd))] rfl (az trivial)
  have E:=bF.ok E r;rw[bB r];have u:(p.binds.map b8++[(b8 zBd)]).set p.binds.length (b8 U)=(p.binds++[U]).map b8:=by
   rw[set_append_right _ _ (by omega),O,Cg,Al];rfl
  have hle:(p.binds++[U]).length=p.binds.length+1:=by rw[θ];rfl
  refine aC mixed (ak 6 [] rfl (kc E ?_));refine ak 7 [(8,.all),(11,.row p.binds.length (b8 zBd))] rfl (az ?_);generalize hSe:p.binds++[U]=S at u hle ⊢;exact rtN (ho:=⟨⟨_,rfl,.var rfl⟩,⟨_,rfl,.var rfl⟩,⟨_,rfl,.var (by rw[hle,←O];rfl)⟩,⟨_,rfl,Go.AM.Ole.arr⟩,⟨_,rfl,.arrS u⟩,⟨_,rfl,Go.AM.Ole.arr⟩,⟨_,rfl,Go.AM.Ole.arr⟩,⟨_,rfl,Go.AM.Ole.arr⟩,trivial⟩)
end
section
variable {σ:Type}(sh:Str) (step:σ→Z→σ×Z)
def lpZ:Nat→Nat→σ→Z→σ×Z
 | 0,_,s,z=>(s,z)
 | f+1,n,s,z=>if(aW sh n z).1=true then lpZ f (n+1) (step s (aW sh n z).2).1 (step s (aW sh n z).2).2 else(s,(aW sh n z).2)
def vN (s:σ) (z:Z):σ×Z:=
 ((lpZ aV step ((aQ cY z).R.length+1) 0 s (aQ cY z)).1,aQ aV (lpZ aV step ((aQ cY z).R.length+1) 0 s (aQ cY z)).2)
end
theorem gL {σ:Type}{sh:Str}{step:σ→Z→σ×Z}{f n:Nat}{s:σ}{z:Z}(h:¬z.e=0):lpZ sh step f n s z=(s,z):=by
 cases f with
 | zero=>rfl
 | succ f=>rw[lpZ,aN7 h,ξ ω]
theorem rC (s:Str) (z:Z):moreA s 0 z=z:=ξ fun k=>lt_irrefl 0 k.1
theorem uD {σ:Type}{L:List Tk}{sh:Str}{step:σ→Z→σ×Z}{Inv:Nat→σ→Prop}(r:∀n s z,Inv n s→n<60→ZA L z→z.e=0→ZA L (step s z).2∧Inv (n+1) (step s z).1∧((step s z).2.e=0→(step s z).2.R.length<z.R.length)∧Ze z (step s z).2):
  ∀(f n:Nat) (s:σ) (z:Z),n≤60→Inv n s→ZA L z→ZA L (lpZ sh step f n s z).2∧(∃m,m≤60∧Inv m (lpZ sh step f n s z).1)∧Ze z (lpZ sh step f n s z).2
 | 0,n,s,z,hn,q,h=>⟨h,⟨n,hn,q⟩,Ze.refl z⟩
 | f+1,n,s,z,hn,q,h=>by
  rw[lpZ];split
  ·rename_i hm;obtain⟨e,u⟩:=dU hm;obtain⟨y,B,_,E⟩:=r n s _ q (by omega) (h.more sh n) e;obtain⟨g1,g2,g3⟩:=uD r f (n+1) _ _ u B y;exact⟨g1,g2,((Ze.more sh n z).trans E).trans g3⟩
  ·exact⟨h.more _ _,⟨n,hn,q⟩,Ze.more _ _ _⟩
theorem aIb (ex:Nat→Z→Ex×Z) (deep:Nat):∀(f n:Nat) (sigs:List Sg) (binds:List Bd) (z:Z),eT ex deep f n sigs binds z=lpZ aV (fun(s:List Sg×List Bd) z=>aY ex s.1 s.2 deep z) f n (sigs,binds) z
 | 0,_,_,_,_=>rfl
 | f+1,n,sigs,binds,z=>by
  rw[eT,lpZ];split
  ·exact aIb ex deep f _ _ _ _
  ·rfl
def pR:AObj:=.var 71 [.vp 600 0]
def dO (deep:Nat):AObj:=.var 3 [.c (.int .i64 (deep:Nat))]
theorem pN {L:List Tk}{z:Z}(h:ZA L z):b9 Tryz.prog 184 ([]++[R.vp 2 0].map V.one) [(600,rO L z),(2,pR)] (B (cK aV z)) [(600,rO L z),(2,pR)]:=by
 have hi:=n3 h aV;have e:cK aV z=isZ aV z:=ξ (fun k=>by cases k);rw[e];refine bP (n:=4) tok Tryz.func184 rfl rfl rfl ?_;refine sg rfl (sk 1 rfl (kc hi ?_));exact kz 1 rfl (aE rtT)
theorem aR9 (deep:Nat) {step:(List Sg×List Bd)→Z→(List Sg×List Bd)×Z}{Inv:Nat→(List Sg×List Bd)→Prop}{L:List Tk}{N:Nat}
  (hone:∀n s z,Inv n s→n<60→ZA L z→z.e=0→z.R.length≤N→bF Tryz.prog 242 ([]++[R.vp 3 0,R.vp 7 0,R.vp 8 0,R.vp 5 0].map V.one) ((600,rO L z)::(3,pR)::(5,dO deep)::zZ s.1 s.2) (gT L (.tup []) (step s z).2 ((3,pR)::(5,dO deep)::zZ (step s z).1.1 (step s z).1.2)))
  (hst:∀n s z,Inv n s→n<60→ZA L z→z.e=0→ZA L (step s z).2∧Inv (n+1) (step s z).1∧((step s z).2.e=0→(step s z).2.R.length<z.R.length)∧Ze z (step s z).2)
  {z:Z} (h:ZA L z) (he:z.e=0) (hN:z.R.length≤N) {s:(List Sg×List Bd)} (hI:Inv 0 s):
  bF Tryz.prog 83 [rP,.one (.clo 184 [R.vp 2 0]),.one (.clo 242 [R.vp 3 0,R.vp 7 0,R.vp 8 0,R.vp 5 0])] ((600,rO L z)::(2,pR)::(3,pR)::(5,dO deep)::zZ s.1 s.2) (gT L (.tup []) (lpZ aV step (z.R.length+1) 0 s z).2 ((2,pR)::(3,pR)::(5,dO deep)::zZ (lpZ aV step (z.R.length+1) 0 s z).1.1 (lpZ aV step (z.R.length+1) 0 s z).1.2)):=by
 have r:∃W,W=lpZ aV step (z.R.length+1) 0 s z:=⟨_,rfl⟩
 obtain⟨W,r⟩:=r;rw[←r];refine nT (n:=35) tok Tryz.func83 rfl rfl rfl rfl ?_;refine sg rfl (aF (aK (fun q:Nat×(List Sg×List Bd)×Z×Nat=>mk [(0,rP),(1,.one (.clo 184 [R.vp 2 0])),(2,.one (.clo 242 [R.vp 3 0,R.vp 7 0,R.vp 8 0,R.vp 5 0])),(6,I .i64 (q.1:Nat))] ((600,rO L q.2.2.1)::(2,pR)::(3,pR)::(5,dO deep)::zZ q.2.1.1 q.2.1.2)) (fun q=>Inv q.1 q.2.1∧q.1≤60∧ZA L q.2.2.1∧q.2.2.1.e=0∧q.2.2.1.R.length≤N∧q.2.2.1.R.length<q.2.2.2∧moreA aV q.1 q.2.2.1=q.2.2.1∧W=lpZ aV step q.2.2.2 q.1 q.2.1 q.2.2.1) (fun q=>q.2.2.1.R.length) (0,s,z,z.R.length+1) ⟨hI,ε _,h,he,hN,Bt _,rC _ _,r⟩ sl ?_));clear r h he hN hI;rintro⟨n,s,z,f⟩ ⟨hI,hn,h,he,hN,hf,hA,r⟩;dsimp only at hI hn h he hN hf hA r;refine aF (aA (aF (aK (fun y:Z=>mk [(0,rP),(1,.one (.clo 184 [R.vp 2 0])),(2,.one (.clo 242 [R.vp 3 0,R.vp 7 0,R.vp 8 0,R.vp 5 0])),(6,I .i64 (n:Nat))] ((600,rO L y)::(2,pR)::(3,pR)::(5,dO deep)::zZ s.1 s.2)) (fun y=>ZA L y∧y.e=0∧cL z=cL y∧y.R.length≤z.R.length) (fun y=>y.R.length) z ⟨h,he,rfl,le_refl _⟩ sl ?_)));rintro y ⟨h2,B,e2,hle2⟩

 have hm:=fJ h2 B bN;obtain⟨m1,m2,m3⟩:=mE h2;have O:=h2.may bN;have he3:=(iW bN y).trans B;generalize bT bN y=m at hm m1 m2 m3 O he3;obtain⟨b,z3⟩:=m;dsimp only at m1 m2 m3 O he3;refine aA (sk 1 rfl (kc hm ?_));refine az (aB rfl (fun hb=>?_) (fun hb=>?_))
 ·have hb:b=true:=hb;have:=m3 hb;exact aD (aF (aD ⟨z3,⟨O,he3,e2.trans m1.symm,by omega⟩,m3 hb,sl⟩))
 have hb:b=false:=hb;obtain⟨g1,g2⟩:=m2 hb;subst g1;have e3:cL z=z3:=e2.trans g2;clear m1 m2 m3 O e2 hm;have hf0:∃g,f=g+1:=⟨f-1,by omega⟩
 obtain⟨f,rfl⟩:=hf0;rw[lpZ] at r;unfold aW at r;rw[hA,e3] at r;have hs3:=pN h2;have hn3:=dY h2;refine aH (aA (sk 1 rfl (kv (args:=[]) hs3 ?_)));refine az (aB rfl (fun hb=>?_) (fun hb=>?_))
 ·have hb:cK aV z3=true:=hb;rw[ζ (show ¬z3.e=0∨cK aV z3=true from .inr hb)] at r;rw[ξ ω] at r;rw[r,bB B];exact aE rtN
 have hb:cK aV z3=false:=hb;have hnb:¬(¬z3.e=0∨cK aV z3=true):=fun k=>k.elim (fun k=>k B) fun k=>by rw[hb] at k;cases k
 rw[ξ hnb] at r;refine aD ?_;by_cases hn60:n<60
 case neg=>
  have d:decide (((n:Nat):Int)<60)=false:=ψ (by omega);rw[gF (by omega) B] at r;dsimp only at r;rw[ψ cQ,ξ ω] at r;rw[r,aI cQ];have hmn:=bQ 2 (b6 z3).pl;refine sk 5 rfl (kc hn3 ?_);refine ak 1 [] rfl ?_;rw[d];exact kp hmn
 have d:decide (((n:Nat):Int)<60)=true:=φ (by omega);rw[gE (by omega),φ B,ζ rfl] at r;have hmo:=bO 2 (b6 z3).pl;refine sk 5 rfl (kc hn3 ?_);refine ak 1 [] rfl ?_;rw[d];refine kc hmo ?_;refine az ?_;have ho:=hone n s z3 hI hn60 h2 B (by omega);obtain⟨E,k2,k3,_⟩:=hst n s z3 hI hn60 h2 B;generalize step s z3=y at ho E k2 k3 r;obtain⟨s4,z4⟩:=y;dsimp only at ho E k2 k3 r;by_cases u:z4.e=0
 case neg=>
  have hp:=bF.err ho u;rw[gL u] at r;rw[r,aI u];exact sk 1 rfl (kpv (args:=[]) hp)
 have ho:=bF.ok ho u;have k3:=k3 u;refine sk 1 rfl (kv (args:=[]) ho ?_);refine az (aA (agN [] rfl ?_));have hlp:=E.lp;have J:=n3 E bN;have hn4:=dY E;have U:=pN E;have hmo4:=bO 12 (b6 z4).pl;cases Y:isZ bN z4 with
 | true=>
  rw[Y] at J;have M:moreA aV (n+1) z4=z4:=ξ fun k=>by rw[Y] at k;cases k.2.2.1
  refine aC mixed (ak 1 [] rfl (kc J ?_));refine ak 7 [(2,.bv true),(5,.bv true)] rfl (kc hn4 ?_);refine ak 1 [(2,.bv true),(5,.bv true)] rfl (kc hmo4 ?_);exact az ⟨(n+1,s4,z4,f),⟨k2,by omega,E,u,by dsimp only;omega,by dsimp only;omega,M,r⟩,by dsimp only;omega,sl⟩
 | false=>
  rw[Y] at J;cases aa:cK aV z4 with
  | true=>
   rw[aa] at U;have M:moreA aV (n+1) z4=z4:=ξ fun k=>by rw[aa] at k;cases k.2.2.2
   refine aC mixed (ak 1 [] rfl (kc J ?_));refine ak 2 [(2,.bv false)] rfl (kvG (args:=[]) U ?_);refine ak 4 [(2,.bv false),(5,.bv false)] rfl (kc hn4 ?_);refine ak 1 [(2,.bv false),(5,.bv false)] rfl (kc hmo4 ?_);exact az ⟨(n+1,s4,z4,f),⟨k2,by omega,E,u,by dsimp only;omega,by dsimp only;omega,M,r⟩,by dsimp only;omega,sl⟩
  | false=>
   rw[aa] at U;have hmn4:=bQ 12 (b6 z4).pl;have M:moreA aV (n+1) z4=⟨z4.R,12,(b6 z4).pl⟩:=(ζ ⟨succ_pos n,u,Y,aa⟩).trans (ζ u);have h12:¬(12:Int)=0:=by decide
   have hWb:W.2=⟨z4.R,12,(b6 z4).pl⟩:=by
    obtain⟨f,rfl⟩:∃g,f=g+1:=⟨f-1,by omega⟩
    rw[lpZ] at r;unfold aW at r;rw[M,mK h12,ζ (show ¬(Z.mk z4.R 12 (b6 z4).pl).e=0∨_ from .inl h12),ξ ω] at r;rw[r]
   rw[hWb,aI h12];refine aC mixed (ak 1 [] rfl (kc J ?_));refine ak 2 [(2,.bv false)] rfl (kvG (args:=[]) U ?_);refine ak 4 [(2,.bv false),(5,.bv false)] rfl (kc hn4 ?_);refine ak 1 [(2,.bv false),(5,.bv false)] rfl (kpD (.tup []) [] hmn4 ?_);exact az trivial
theorem aNr (deep:Nat) {step:(List Sg×List Bd)→Z→(List Sg×List Bd)×Z}{Inv:Nat→(List Sg×List Bd)→Prop}{L:List Tk}{N:Nat}
  (J:∀n s z,Inv n s→n<60→ZA L z→z.e=0→z.R.length≤N→bF Tryz.prog 242 ([]++[R.vp 3 0,R.vp 7 0,R.vp 8 0,R.vp 5 0].map V.one) ((600,rO L z)::(3,pR)::(5,dO deep)::zZ s.1 s.2) (gT L (.tup []) (step s z).2 ((3,pR)::(5,dO deep)::zZ (step s z).1.1 (step s z).1.2)))
  (I:∀n s z,Inv n s→n<60→ZA L z→z.e=0→ZA L (step s z).2∧Inv (n+1) (step s z).1∧((step s z).2.e=0→(step s z).2.R.length<z.R.length)∧Ze z (step s z).2)
  {z:Z} (h:ZA L z) (he:z.e=0) (Y:z.R.length≤N) {s:(List Sg×List Bd)} (M:Inv 0 s):
  bF Tryz.prog 142 [rP,.one (.clo 242 [R.vp 3 0,R.vp 7 0,R.vp 8 0,R.vp 5 0])] ((600,rO L z)::(3,pR)::(5,dO deep)::zZ s.1 s.2) (gT L (.tup []) (vN step s z).2 ((3,pR)::(5,dO deep)::zZ (vN step s z).1.1 (vN step s z).1.2)):=by
 have q:=dG h he cY;have h1:=h.need cY;have O:=Ze.need cY z;unfold vN;generalize aQ cY z=E at q h1 O ⊢;have U:E.R.length≤z.R.length:=O;refine nT (n:=12) tok Tryz.func142 rfl rfl rfl rfl ?_;refine sg rfl ?_;by_cases r:E.e=0
 case neg=>
  have hp:=bF.err q r;rw[gL r];dsimp only;rw[bJ r,aI r];exact sk 1 rfl (kp hp)
 have q:=bF.ok q r;refine sk 1 rfl (kc q ?_);refine az ?_;have u:=aR9 deep (step:=step) (Inv:=Inv) (L:=L) (N:=N) J I h1 r (by omega) M;have hok:=(uD (sh:=aV) I (E.R.length+1) 0 s E (ε _) M h1).1
 generalize lpZ aV step (E.R.length+1) 0 s E=W at u hok ⊢;obtain⟨s2,z2⟩:=W;dsimp only at u hok ⊢;by_cases y:z2.e=0
 case neg=>
  have hp:=bF.err u y;rw[bJ y,aI y];exact sk 3 rfl (kp hp)
 have u:=bF.ok u y;refine sk 3 rfl (kc u ?_);refine az ?_;have q:=dG hok y aV;generalize aQ aV z2=z3 at q ⊢;by_cases B:z3.e=0
 case neg=>
  have hp:=bF.err q B;rw[aI B];exact aC mixed (ak 1 [] rfl (kp hp))
 have q:=bF.ok q B;rw[bB B];refine aC mixed (ak 1 [] rfl (kc q ?_));exact az rtN
theorem lG:∀{l:List Sg}{b:List Bd}{z:Z},(cF l b z).2.e=0→(cF l b z).2=z
 | [],b,z,_=>rfl
 | s::l,b,z,h=>by
  rw[cF] at h ⊢;by_cases he:z.e=0
  case neg=>rw[ξ he]
  rw[ζ he] at h ⊢;have hb:∀e p:Int,¬e=0→(cF l b (bS e p z)).2.e=0→False:=fun e p q h0=>by
   have u:bS e p z=⟨z.R,e,p⟩:=ζ he;rw[u,oC (show ¬(Z.mk z.R e p).e=0 from q)] at h0;exact q h0
  cases r:b.findIdx? (fun x=>decide (x.name=s.name)) with
  | none=>rw[r] at h;exact(hb 21 _ (by decide) h).elim
  | some k=>
   rw[r] at h;dsimp only at h ⊢;cases hx:b[k]? with
   | none=>rfl
   | some x=>
    rw[hx] at h;dsimp only at h ⊢;by_cases hh:x.has=true
    ·rw[ζ hh] at h;exact(hb 20 _ (by decide) h).elim
    ·rw[ξ hh] at h ⊢;exact lG h
section
variable {L:List Tk}{ex:Nat→Z→Ex×Z}{N:Nat}(hB:vG ex) (hS:aQa L ex N) (hZ:pO L) (hwt:wt L≤30000)
include hB hS hZ hwt
theorem aWu (sigs:List Sg) (binds:List Bd) (deep:Nat) {z:Z}(h:ZA L z) (he:z.e=0) (r:z.R.length≤N) (hd:deep≤40) (h1:sigs.length≤4001) (h2:binds.length≤4001):
  bF Tryz.prog 242 ([]++[R.vp 3 0,R.vp 7 0,R.vp 8 0,R.vp 5 0].map V.one) ((600,rO L z)::(3,pR)::(5,dO deep)::zZ sigs binds) (gT L (.tup []) (aY ex sigs binds (deep+1) z).2 ((3,pR)::(5,dO deep)::zZ (aY ex sigs binds (deep+1) z).1.1 (aY ex sigs binds (deep+1) z).1.2)):=by
 have hs:=aWl hB hS hZ hwt sigs binds (deep+1) h he r (by omega) h1 h2;generalize aY ex sigs binds (deep+1) z=y at hs ⊢;obtain⟨⟨S,Bs⟩,z2⟩:=y;dsimp only at hs ⊢;refine nT (n:=8) tok Tryz.func242 rfl rfl rfl rfl ?_;by_cases q:z2.e=0
 case neg=>
  have hp:=bF.err hs q;rw[aI q];exact aC mixed (akN 3 [] rfl (kp hp))
 have hs:=bF.ok hs q;rw[bB q];refine aC mixed (akN 3 [] rfl (kc hs ?_));exact az rtN
omit hB hS hZ hwt
theorem aMn (deep:Nat) (z:Z):qH ex deep z=lpZ aV (fun(s:List Sg×List Bd) z=>aY ex s.1 s.2 (deep+1) z) ((aQ cY z).R.length+1) 0 ([],[]) (aQ cY z):=aIb ex (deep+1) _ _ _ _ _
include hB hS hZ hwt
theorem aWt (hO:ExO L ex) (a:Int) (deep:Nat) {z:Z}(h:ZA L z) (he:z.e=0) (hN:z.R.length≤N) (hd:deep≤40):bF Tryz.prog 224 [rP,I .i64 a,I .i64 (deep:Nat)] [(600,rO L z)] (gT L (.pa (bU (sV ex a deep z).1)) (sV ex a deep z).2 []):=by
 have hst:∀(n:Nat) (s:List Sg×List Bd) (z:Z),(fX s.1∧eV s.2∧s.1.length≤n∧s.2.length≤n)→n<60→ZA L z→z.e=0→ZA L (aY ex s.1 s.2 (deep+1) z).2∧(fX (aY ex s.1 s.2 (deep+1) z).1.1∧eV (aY ex s.1 s.2 (deep+1) z).1.2∧(aY ex s.1 s.2 (deep+1) z).1.1.length≤n+1∧(aY ex s.1 s.2 (deep+1) z).1.2.length≤n+1)∧((aY ex s.1 s.2 (deep+1) z).2.e=0→(aY ex s.1 s.2 (deep+1) z).2.R.length<z.R.length)∧Ze z (aY ex s.1 s.2 (deep+1) z).2:=fun n s z M hn h he=>by
  obtain⟨k1,k2,k3,k4,k5,k6,k7⟩:=mH hO hwt s.1 s.2 (deep+1) h M.1 M.2.1;exact⟨k1,⟨k2,k3,by have:=M.2.2.1;omega,by have:=M.2.2.2;omega⟩,k6,k7⟩
 have hI0:fX ([]:List Sg)∧eV ([]:List Bd)∧([]:List Sg).length≤0∧([]:List Bd).length≤0:=⟨fun s hs=>(by cases hs),trivial,le_refl _,le_refl _⟩
 have r:=aNr deep (step:=fun(s:List Sg×List Bd) z=>aY ex s.1 s.2 (deep+1) z) (Inv:=fun n s=>fX s.1∧eV s.2∧s.1.length≤n∧s.2.length≤n) (L:=L) (N:=N) (fun n s z M hn h he hN=>aWu hB hS hZ hwt s.1 s.2 deep h he hN hd (by have:=M.2.2.1;omega) (by have:=M.2.2.2;omega)) hst h he hN (s:=([],[])) hI0;have hok:=uD (sh:=aV) (Inv:=fun n (s:List Sg×List Bd)=>fX s.1∧eV s.2∧s.1.length≤n∧s.2.length≤n) hst ((aQ cY z).R.length+1) 0 ([],[]) (aQ cY z) (ε _) hI0 (h.need cY);unfold vN at r;unfold sV;rw[aMn];unfold aFv;have l0:(aQ cY z).R.length≤z.R.length:=Ze.need cY z;generalize aQ cY z=z1 at r hok l0 ⊢;generalize lpZ aV (fun(s:List Sg×List Bd) z=>aY ex s.1 s.2 (deep+1) z) (z1.R.length+1) 0 ([],[]) z1=W at r hok ⊢;obtain⟨⟨sigs,binds⟩,z2⟩:=W;dsimp only at r hok ⊢;obtain⟨g1,⟨m,hm60,hs,hb,hsl,hbl'⟩,g3⟩:=hok

 have h3:=g1.need aV;have l3:(aQ aV z2).R.length≤z2.R.length:=Ze.need aV z2;have g3:z2.R.length≤z1.R.length:=g3;generalize aQ aV z2=z3 at r h3 l3 ⊢;refine nT (n:=25) tok Tryz.func224 rfl rfl rfl rfl ?_;refine sg rfl (sg rfl (sg rfl (AWp.sub (Sub.ownCell (x:=7) (k:=0) (id:=510) 92 9 rfl rfl rfl) ?_)));refine AWp.sub (Sub.ownCell (x:=8) (k:=0) (id:=511) 99 33 rfl rfl rfl) ?_;by_cases u:z3.e=0
 case neg=>
  have hp:=bF.err r u;rw[oC u,bJ u,hB _ _ u,aI u];exact sk 2 rfl (kp hp)
 have r:=bF.ok r u;refine sk 2 rfl (kc r ?_);refine az ?_;have q:=aJo sigs binds u (by omega) (by omega);obtain⟨p1,p2,p3,p4⟩:=gS sigs binds z3 h3 hs hb;have Y:= @lG sigs binds z3;generalize cF sigs binds z3=y at q p1 p2 p3 p4 Y ⊢;obtain⟨Bs,U⟩:=y;dsimp only at q p1 p2 p3 p4 Y ⊢;have p4:U.R.length≤z3.R.length:=p4;unfold aTr at q;dsimp only at q;refine AWp.sub (Sub.freeze (id:=510) rfl) ?_;by_cases B:U.e=0
 case neg=>
  rw[ξ B] at q;have hp:aDy _ _ _ _ _:=q;rw[bJ B,hB _ _ B,aI B];exact sk 2 rfl (kp hp)
 rw[ζ B] at q;have q:b9 _ _ _ _ _ _:=q;obtain rfl:=Y B;have hBl:binds.length=(Bs.map b8).length:=by rw[η,p3]
 refine sk 2 rfl (kc q ?_);refine kz 1 rfl ?_;have E:=dG p1 B inS;have h7:=p1.need inS;have l7:(aQ inS U).R.length≤U.R.length:=Ze.need inS U;generalize aQ inS U=z7 at E h7 l7 ⊢;by_cases J:z7.e=0
 case neg=>
  have hp:=bF.err E J;rw[hB _ _ J,aI J];exact sk 1 rfl (kp hp)
 have E:=bF.ok E J;refine sk 1 rfl (kc E ?_);refine az ?_;have hex:=hS (deep+1) z7 h7 J (by omega) (by omega);generalize ex (deep+1) z7=y at hex ⊢;obtain⟨e,z8⟩:=y;dsimp only at hex ⊢;refine AWp.sub (Sub.freeze (id:=511) rfl) ?_;by_cases O:z8.e=0
 case neg=>
  have hp:=bF.err hex O;rw[aI O];refine aA (aC mixed (akN 5 [] rfl (kpD (.pa (bU zEx)) [(600,rO L z7)] hp ?_)));exact ak 3 [(6,.all)] rfl (az trivial)
 have hex:=bF.ok hex O;rw[bB O];refine aA (aC mixed (akN 5 [] rfl (kc hex ?_)));refine ak 3 [(6,.all)] rfl (az ?_);unfold bU;rw[aCv];exact aE (rtC trw (hc:=.agg (.c .refl (.c .refl (.c .refl (.c .refl (.c .refl (.c .nl (.hs rfl hBl (Go.AM.take_all hBl) (.c .nl (.c .nl (.c .nl (.c .refl (.c .refl (.c .refl (.c .nl (.c .nl .nil)))))))))))))))))
end
def nmT (k:Int) (s:Str):Tk:=⟨k,s,0,0⟩
def syT (s:Str):Tk:=⟨4,s,0,0⟩
def kyT (s:Str):Tk:=⟨5,s,0,0⟩
abbrev zt (R:List Tk):Z:=⟨R,0,0⟩
def stp (R:List Tk):Prop:=∃t R',R=t::R'∧¬(0<t.kind∧t.kind<4)∧isK bI t=false∧isK dR t=false∧isK arrow t=false∧isK darrow t=false∧isK lP t=false
def aYe (st:List Tk) (s:Sch):Prop:=∀R,stp R→cH (st++R)=.ok (s,R)
def aFx (pt:List Tk) (p:Pt):Prop:=(∃t r,pt=t::r∧isK bN t=false∧isK aV t=false)∧∀R f,3*pt.length+1≤f→gD f 0 (zt (pt++syT arrow::R))=(p,zt (syT arrow::R))
mutual
inductive Sy where
 | nm (k:Int) (s:Str)
 | num (n:Int) (s:Str)
 | br (e:Sy)
 | app (f a:Sy)
 | lam (vs:List Str) (b:Sy)
 | lett (bs:List SyB) (b:Sy)
 | cas (e:Sy) (al:List SyA)
 | ann (e:Sy) (st:List Tk) (s:Sch)
inductive SyB where
 | sig (name:Str) (st:List Tk) (s:Sch)
 | bind (name:Str) (vs:List Str) (b:Sy)
inductive SyA where
 | alt (pt:List Tk) (p:Pt) (b:Sy)
end
def kY:List SyB→List Sg
 | []=>[]
 | .sig n _ s::l=>⟨n,0,s⟩::kY l
 | .bind _ _ _::l=>kY l
def r9:List SyA→List Pt
 | []=>[]
 | .alt _ p _::l=>p::r9 l
mutual
def mN:Sy→Ex
 | .nm k s=>.mk k 0 0 s [] [] [] lX
 | .num n _=>.mk 3 0 n [] [] [] [] lX
 | .br e=>mN e
 | .app f a=>aP5 0 (mN f) (mN a)
 | .lam vs b=>aRg 0 (vs.map (nmT 1)) (mN b)
 | .lett bs b=>letE 0 (cF (kY bs) (aGm bs) (zt [])).1 (mN b)
 | .cas e al=>aM9 0 (r9 al) (mN e::aTj al)
 | .ann e _ s=>a0h 0 (mN e) s
def aGm:List SyB→List Bd
 | []=>[]
 | .sig _ _ _::l=>aGm l
 | .bind n vs b::l=>.mk n 0 false lX (yA (vs.map (nmT 1)) (mN b))::aGm l
def aTj:List SyA→List Ex
 | []=>[]
 | .alt _ _ b::l=>mN b::aTj l
end
def tlT (l:List Tk):List Tk:=match l with
 | []=>[]
 | t::l=>syT bN::t::l
mutual
def tkY:Sy→List Tk
 | .nm k s=>[nmT k s]
 | .num n s=>[⟨3,s,n,0⟩]
 | .br e=>syT bI::(tkY e++[syT c6])
 | .app f a=>tkY f++tkY a
 | .lam vs b=>syT sX::(vs.map (nmT 1)++syT arrow::tkY b)
 | .lett bs b=>kyT sD::syT cY::(tkB bs++syT aV::kyT inS::tkY b)
 | .cas e al=>kyT fE::(tkY e++kyT ofS::syT cY::(tkA al++[syT aV]))
 | .ann e st _=>tkY e++syT dR::st
def tkB:List SyB→List Tk
 | []=>[]
 | .sig n st _::l=>nmT 1 n::syT dR::(st++tlT (tkB l))
 | .bind n vs b::l=>nmT 1 n::(vs.map (nmT 1)++syT eqS::(tkY b++tlT (tkB l)))
def tkA:List SyA→List Tk
 | []=>[]
 | .alt pt _ b::l=>pt++syT arrow::(tkY b++tlT (tkA l))
end
def lvl:Sy→Nat
 | .nm _ _=>0
 | .num _ _=>0
 | .br _=>0
 | .app _ _=>1
 | _=>2
mutual
def wfY:Sy→Prop
 | .nm k _=>k=1∨k=2
 | .num _ _=>True
 | .br e=>wfY e
 | .app f a=>lvl f≤1∧lvl a=0∧wfY f∧wfY a
 | .lam vs b=>vs≠[]∧vs.length≤8∧wfY b
 | .lett bs b=>bs.length≤60∧(cF (kY bs) (aGm bs) (zt [])).2.e=0∧wfB bs∧wfY b
 | .cas e al=>al≠[]∧al.length≤60∧wfY e∧wfA al
 | .ann e st s=>lvl e≤1∧wfY e∧aYe st s
def wfB:List SyB→Prop
 | []=>True
 | .sig _ st s::l=>aYe st s∧wfB l
 | .bind _ vs b::l=>vs.length≤8∧wfY b∧wfB l
def wfA:List SyA→Prop
 | []=>True
 | .alt pt p b::l=>aFx pt p∧wfY b∧wfA l
end
mutual
def dpY:Sy→Nat
 | .nm _ _=>0
 | .num _ _=>0
 | .br e=>dpY e+1
 | .app f a=>max (dpY f) (dpY a)
 | .lam _ b=>dpY b+1
 | .lett bs b=>max (dpB bs) (dpY b)+1
 | .cas e al=>max (dpY e) (dpA al)+1
 | .ann e _ _=>dpY e
def dpB:List SyB→Nat
 | []=>0
 | .sig _ _ _::l=>dpB l
 | .bind _ _ b::l=>max (dpY b) (dpB l)
def dpA:List SyA→Nat
 | []=>0
 | .alt _ _ b::l=>max (dpY b) (dpA l)
end
theorem iF {s:Str}{t:Tk}(h:isK s t=true) (R:List Tk):bT s (zt (t::R))=(true,zt R):=by
 unfold bT;rw[ζ ⟨rfl,h⟩];rfl
theorem dE {s:Str}{t:Tk}(h:isK s t=false) (R:List Tk):bT s (zt (t::R))=(false,zt (t::R)):=by
 unfold bT;rw[ξ (fun k=>by rw[show isZ s (zt (t::R))=false from h] at k;exact Bool.noConfusion k.2)]
theorem fU {s:Str}{t:Tk}(h:isK s t=true) (R:List Tk):aQ s (zt (t::R))=zt R:=by
 unfold aQ;rw[iF h];exact ζ rfl
theorem pV {k:Int}{t:Tk}(h:t.kind=k) (R:List Tk):aS k (zt (t::R))=(t,zt R):=by
 unfold aS;rw[ζ ⟨rfl,h⟩];rfl
theorem aA5 (vs:List Str) {t:Tk}(h:rG t=false) (R:List Tk):aU (zt (vs.map (nmT 1)++t::R))=(vs.map (nmT 1),zt (t::R)):=by
 unfold aU;rw[ζ rfl];have h1:∀vs:List Str,(vs.map (nmT 1)++t::R).takeWhile rG=vs.map (nmT 1):=fun vs=>by
  induction vs with
  | nil=>rw[Ch,Ak,C7,h];rfl
  | cons v vs q=>rw[Ar,Ad,C7,show rG (nmT 1 v)=true from rfl,ζ rfl,q]
 have h2:∀vs:List Str,(vs.map (nmT 1)++t::R).dropWhile rG=t::R:=fun vs=>by
  induction vs with
  | nil=>rw[Ch,Ak,Bi,h];rfl
  | cons v vs q=>rw[Ar,Ad,Bi,show rG (nmT 1 v)=true from rfl,ζ rfl,q]
 show((vs.map (nmT 1)++t::R).takeWhile rG,zt ((vs.map (nmT 1)++t::R).dropWhile rG))=_;rw[h1,h2]
theorem qF {n m:Nat}(h:n≤m) (a:Int) (z:Z):c8 n m a z=z:=by unfold c8;rw[ξ (by omega)]
theorem aRa {s:Str}{t:Tk}{n:Nat}(hn:n+1≤60) (h1:isK bN t=false) (h2:cK s (zt [t])=false) (h0:n=0) (R:List Tk):aW s n (zt (t::R))=(true,zt (t::R)):=by
 subst h0;have q:moreA s 0 (zt (t::R))=zt (t::R):=by unfold moreA;exact ξ fun k=>lt_irrefl 0 k.1
 have hS:cL (zt (t::R))=zt (t::R):=by
  unfold cL;rw[ζ rfl];show zt ((t::R).dropWhile (isK bN))=_;rw[Bi,h1];rfl
 unfold aW
 rw[q,hS,ξ (fun k=>by
  rcases k with k | k
  ·exact k rfl
  ·rw[show cK s (zt (t::R))=cK s (zt [t]) from rfl,h2] at k;exact Bool.noConfusion k),qF (by omega)]
 rfl
theorem aH3 {s:Str}{t:Tk}{n:Nat}(hn:n+1≤60) (h1:isK bN t=false) (h2:cK s (zt [t])=false) (R:List Tk):aW s n (zt (syT bN::t::R))=(true,zt (t::R)):=by
 have q:moreA s n (zt (syT bN::t::R))=zt (syT bN::t::R):=by
  unfold moreA;exact ξ fun k=>by rw[show isZ bN (zt (syT bN::t::R))=true from rfl] at k;exact Bool.noConfusion k.2.2.1
 have hS:cL (zt (syT bN::t::R))=zt (t::R):=by
  unfold cL;rw[ζ rfl];show zt ((syT bN::t::R).dropWhile (isK bN))=_;rw[Bi,show isK bN (syT bN)=true from rfl,ζ rfl,Bi,h1];rfl
 unfold aW
 rw[q,hS,ξ (fun k=>by
  rcases k with k | k
  ·exact k rfl
  ·rw[show cK s (zt (t::R))=cK s (zt [t]) from rfl,h2] at k;exact Bool.noConfusion k),qF (by omega)]
 rfl
theorem aH2 {s:Str}{t:Tk}(n:Nat) (h1:isK bN t=false) (h2:cK s (zt [t])=true) (R:List Tk):aW s n (zt (t::R))=(false,zt (t::R)):=by
 have q:moreA s n (zt (t::R))=zt (t::R):=by
  unfold moreA;exact ξ fun k=>by rw[show cK s (zt (t::R))=cK s (zt [t]) from rfl,h2] at k;exact Bool.noConfusion k.2.2.2
 have hS:cL (zt (t::R))=zt (t::R):=by
  unfold cL;rw[ζ rfl];show zt ((t::R).dropWhile (isK bN))=_;rw[Bi,h1];rfl
 unfold aW;rw[q,hS,ζ (.inr h2)]
theorem aBi {st:List Tk}{s:Sch}(h:aYe st s) {R:List Tk}(q:stp R):bK (zt (st++R))=(s,zt R):=by
 unfold bK;rw[ζ rfl,show(zt (st++R)).R=st++R from rfl,h R q];rfl
theorem aO3:∀(l:List Sg) (b:List Bd) (R:List Tk),(cF l b (zt [])).2.e=0→cF l b (zt R)=((cF l b (zt [])).1,zt R)
 | [],b,R,_=>by rw[cF,cF]
 | s::l,b,R,h=>by
  have bad:∀(l:List Sg) (b:List Bd) (e p:Int) (z:Z),z.e=0→¬e=0→¬(cF l b (bS e p z)).2.e=0:=fun l b e p z u he q=>by
   have:=lG q;rw[this] at q;exact gH he q
  rw[cF] at h ⊢;rw[cF,ζ rfl,ζ rfl];rw[ζ rfl] at h;cases r:b.findIdx? (fun x=>decide (x.name=s.name)) with
  | none=>
   rw[r] at h;exact absurd h (bad l b 21 s.pl (zt []) rfl (by decide))
  | some k=>
   rw[r] at h;dsimp only at h ⊢;cases hx:b[k]? with
   | none=>rfl
   | some x=>
    rw[hx] at h;dsimp only at h ⊢;by_cases hh:x.has=true
    ·rw[ζ hh] at h;exact absurd h (bad l b 20 s.pl (zt []) rfl (by decide))
    ·rw[ξ hh] at h;rw[ξ hh,ξ hh];exact aO3 l _ R h
theorem vT:∀s:Sy,wfY s→∃t r,tkY s=t::r∧isK bN t=false∧isK aV t=false∧t.pl=0∧(lvl s≤1→isK sX t=false∧isK sD t=false∧isK fE t=false)
 | .nm k s,h=>⟨_,_,rfl,by rcases h with rfl | rfl<;>rfl,by rcases h with rfl | rfl<;>rfl,rfl,fun _=>by rcases h with rfl | rfl<;>exact⟨rfl,rfl,rfl⟩⟩
 | .num n s,_=>⟨_,_,rfl,rfl,rfl,rfl,fun _=>⟨rfl,rfl,rfl⟩⟩
 | .br e,_=>⟨_,_,rfl,rfl,rfl,rfl,fun _=>⟨rfl,rfl,rfl⟩⟩
 | .app f a,h=>by
  obtain⟨t,r,e,h1,h2,q,u⟩:=vT f h.2.2.1;exact⟨t,r++tkY a,by rw[tkY,e];rfl,h1,h2,q,fun _=>u h.1⟩
 | .lam vs b,_=>⟨_,_,rfl,rfl,rfl,rfl,fun k=>absurd k (by show ¬2≤1;decide)⟩
 | .lett bs b,_=>⟨_,_,rfl,rfl,rfl,rfl,fun k=>absurd k (by show ¬2≤1;decide)⟩
 | .cas e al,_=>⟨_,_,rfl,rfl,rfl,rfl,fun k=>absurd k (by show ¬2≤1;decide)⟩
 | .ann e st s,h=>by
  obtain⟨t,r,e,h1,h2,q,u⟩:=vT e h.2.1;exact⟨t,r++syT dR::st,by rw[tkY,e];rfl,h1,h2,q,fun k=>absurd k (by show ¬2≤1;decide)⟩
end Go.Proofs.YtpmheldmadendaaGreatDoor
