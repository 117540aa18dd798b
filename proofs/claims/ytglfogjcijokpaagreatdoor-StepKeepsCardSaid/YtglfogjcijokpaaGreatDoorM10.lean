/-
  Texts Lg22 to Ly5 in one.
-/
import Derived.Test.YtglfogjcijokpaaGreatDoorM9
open List (append_nil drop_left flatMap_cons flatMap_nil length_append length_cons length_drop length_eq_one_iff length_eq_zero_iff length_map length_nil length_set length_take map_cons map_map map_nil mem_append mem_cons mem_cons_of_mem mem_cons_self mem_map mem_of_mem_drop mem_of_mem_take mem_singleton nil_append nodup_append nodup_nil not_mem_nil sum_cons sum_nil take_left take_length)
open Nat (add_mul add_zero beq_refl le_add_left le_max_left le_max_right le_mul_of_pos_right le_of_eq le_refl le_trans lt_of_le_of_lt max_le mul_le_mul_right mul_one zero_add zero_le)
namespace Go.Proofs.YtglfogjcijokpaaGreatDoor
open Go Go.AM
set_option maxRecDepth 20000
noncomputable def tS (sb:Core→Str→Core→Core) (s:Str) (b:Core):Core→Core
 | .mk f n nm t ks bs al=>.mk f n (zNm sb f nm s b ks bs 1) t (zKs sb f nm s b ks bs 1) (zBs sb f nm s b ks bs 1) (al.map (n1 sb s b))
theorem aIc (f n:Int) (nm:Str) (t:Ty) (ks:List Core) (bs:List Bind) (al:List Alt) (s:Str) (b:Core) (hv:f=1∧nm=s) (I:LC b) (J:allT TyG b):
  aQ Tryz.prog 99 [.pa (aC (.mk f n nm t ks bs al)),Go.AM.T s,.pa (aC b)] [] (.pa (aC b)) []:=by
 have q:=aGw (bE b) b (le_refl _) I J;have q:aQ Tryz.prog 74 [.pa (aC b)] [] (.pa (aC b)) []:=q;have O:decide (f=1)=true:=Ah hv.1;have N:decide (nm=s)=true:=Ah hv.2;refine bM (n:=47) tok Tryz.func99 rfl rfl rfl ?_;refine sg rfl (a8 (sgh [(3,.bv true),(8,.bv true)] rfl (aA rfl (fun _=>?_) (fun hb=>?_))))
 ·refine sk 1 rfl (kc q ?_);exact kz 1 rfl (aF (rtC trw))
 ·exact absurd (show decide (nm=s)=false from hb) (by rw[N];decide)
theorem aDh (sb:Core→Str→Core→Core) (P:Core→Prop) (f n:Int) (nm0 nm:Str) (t:Ty) (J ks:List Core) (bs:List Bind) (al:List Alt) (s:Str) (b:Core)
  (hcs:LC (.mk f n nm0 t J bs al)) (hT:allT TyG (.mk f n nm0 t J bs al)) (hv:¬(f=1∧nm0=s)) (hkl0:ks.length=J.length)
  (w2:f=5→(∃k,ks=[k])∧bs=[]∧al=[])
  (h7:f=7→bs=[]∧al=[]∧∃fl:List Str,aQ Tryz.prog 133 [.pa (aC (.mk f n nm0 t J bs al))] [] (bI fl) []∧fl.length≤540000000000∧
   (s∈fl→∃tl:List Str,aQ Tryz.prog 76 [.pa (aC b)] [] (bI tl) []∧aQ Tryz.prog 77 [.one (.vp 700 0),bI tl] (gHl f n nm0 t J [] []) (.tup []) (gHl f n nm t ks [] []))∧
   (¬s∈fl→nm=nm0∧ks=J))
  (hn7:f≠7→nm=nm0∧ks=J)
  (hok:PutOk sb P s b (ks++bs.map Bind.body)) (hokA:∀a∈al,PutOk sb P s b [a.body])
  (hM:((ks++bs.map Bind.body).flatMap pfR).length+2*(1+bs.length)+(pfR b).length+(ks.length+bs.length)≤540000000000)
  (hMA:∀a∈al,(pfR a.body).length+2*a.vars.length+(pfR b).length+1≤540000000000):
  aQ Tryz.prog 99 [.pa (aC (.mk f n nm0 t J bs al)),Go.AM.T s,.pa (aC b)] [] (.pa (aC (tS sb s b (.mk f n nm t ks bs al)))) []:=by
 have ar:=aNh _ hcs hT;have ar:aQ Tryz.prog 74 [.pa (aC (.mk f n nm0 t J bs al))] [] (.ma (dV f n nm0 t J.length bs.length al.length)) (oHl J bs al++fam 0 al):=ar;refine bM (n:=47) tok Tryz.func99 rfl rfl rfl ?_;refine sg rfl (a8 (AWp.cut (mk [(1,Go.AM.T s),(3,.one (.vp 3 0)),(5,.one (.vp 5 0)),(6,.one (.vp 6 0))] [(3,.var 34 (b8 (.mk f n nm0 t J bs al))),(5,.var 34 (b8 b)),(6,.var 34 bR)]) ?_ ?_))
 ·by_cases au:f=1
  ·have hd1:decide (f=1)=true:=Ah au;have hd2:decide (nm0=s)=false:=Am fun h=>hv ⟨au,h⟩
   exact sgh [(3,.bv true),(8,.bv true)] rfl (aA rfl (fun hb=>absurd (show decide (nm0=s)=true from hb) (by rw[hd2];decide)) (fun _=>aD sl))
  ·have hd1:decide (f=1)=false:=Am au;exact sgh [(3,.bv false),(8,.bv false)] rfl (aA rfl nofun (fun _=>aD sl))
 have N:TF (fam 0 al):=fH;refine sk 1 rfl (kc ar ?_ (hout':=dM.app ⟨.inr rfl,.inr rfl,.inr rfl,trivial⟩ (dM.of fun p hp=>.inr ((show gS _ by repeat (first | exact gS.nil | (refine gS.updL ?_) | (refine gS.upd ?_))) p.1 (N.far p hp)))));rw[rE N];refine ak 2 [(2,.id 700)] rfl (az (AWp.sub (st2:=mkt [(1,Go.AM.T s),(3,.one (.vp 3 0)),(5,.one (.vp 5 0)),(6,.one (.vp 6 0)),(7,.one (.vp 700 0))] ([(3,.var 34 (b8 (.mk f n nm0 t J bs al))),(5,.var 34 (b8 b)),(6,.var 34 bR)]++gHl f n nm0 t J bs al) (fam 0 al)) (slG gW (fun _ h=>by cases h) (by repeat (first | exact FarEq.bif N (FarEq.outs N) | (refine FarEq.updL N ?_) | (refine FarEq.upd N ?_)))) ?_));refine a8 (AWp.cut (mkt [(1,Go.AM.T s),(3,.one (.vp 3 0)),(5,.one (.vp 5 0)),(6,.one (.vp 6 0)),(7,.one (.vp 700 0))] ([(3,.var 34 (b8 (.mk f n nm0 t J bs al))),(5,.var 34 (b8 b)),(6,.var 34 bR)]++gHl f n nm t ks bs al) (fam 0 al)) ?_ ?_)
 ·by_cases ah:f=7
  ·have hd7:decide (f=7)=true:=Ah ah;obtain⟨rfl,rfl,fl,hfr,hfl,hy,hn⟩:=h7 ah;have ai:=bS fl s (by omega);refine skh 5 [(3,.bv true)] rfl (kcG hfr ?_);refine ak 1 [(3,.bv true)] rfl ?_;by_cases hin:s∈fl
   ·rw[Ah hin] at ai;obtain⟨tl,hty,hcl⟩:=hy hin;refine kcG ai ?_;refine ak 1 [(3,.bv true),(8,.bv true)] rfl (az (aA rfl (fun _=>aE mixed (ak 1 [] rfl (kc hty ?_))) nofun));refine kc hcl ?_;exact az (slG gW (fun _ h=>by cases h) (fun p hp=>by cases hp))
   ·rw[Am hin] at ai;obtain⟨rfl,rfl⟩:=hn hin;refine kcG ai ?_;exact ak 1 [(3,.bv true),(8,.bv true)] rfl (az (aA rfl nofun (fun _=>aD (slG gW (fun _ h=>by cases h) (fun p hp=>by cases hp)))))
  ·have hd7:decide (f=7)=false:=Am ah;obtain⟨rfl,rfl⟩:=hn7 ah;refine sgh [(3,.bv false),(8,.bv false)] rfl (aA rfl nofun (fun _=>?_));exact aD (slG gW (fun _ h=>by cases h) (by repeat (first | exact FarEq.raw N | (refine FarEq.updL N ?_) | (refine FarEq.upd N ?_))))
 have hR:=r6 (sb:=sb) (s:=s) (b:=b) (ns:=gvN f nm bs) (ps:=ks++bs.map Bind.body);have hN1:∀g,(zKs sb f nm s b ks bs g).length=ks.length:=fun g=>by
  cases g with
  | zero=>rfl
  | succ g=>show(List.take _ _).length=_;rw[Aq,hR.2,τ];omega
 have av:(bs.map Bind.ty).length=bs.length:=θ _;have hN2:∀g,(zBs sb f nm s b ks bs g).length=bs.length:=fun g=>by
  cases g with
  | zero=>rfl
  | succ g=>
   show(mkB _ _ _).length=_;by_cases aa:f=5
   ·obtain⟨_,rfl,_⟩:=w2 aa;rfl
   ·rw[sI,av]
    ·rw[hR.1];unfold gvN;rw[φ aa];simp
    ·rw[Bz,hR.2,τ];simp
 have aw:∀g,(zAs sb s b al g).length=al.length:=fun g=>by
  cases g with
  | zero=>rfl
  | succ g=>exact yG
 obtain⟨l1,l2,l3⟩:(J.length+bs.length+1≤570000000000)∧(al.length+1≤570000000000)∧(∀a∈al,a.vars.length≤570000000000):=by
  cases hcs with
  | mk h1 h2 h3 _ _ _=>exact⟨h1,h2,h3⟩
 have hgr:=sX (decide (f=5)) f n nm t ks bs al rfl (by omega) (by omega) (by omega) fun a ha=>by have:=l3 a ha;omega
 have aj:=n9 (f:=f) (n:=n) (s:=nm) (t:=t) (ks:=ks) (bs:=bs) (al:=al) (decide (f=5)) al.length;rw[As] at aj;have hgl:(bV (decide (f=5)) ks.length bs.length al.length al).length=1+al.length:=aVk;have hra:gfo f n nm t ks bs al (R.refsL (bV (decide (f=5)) ks.length bs.length al.length al).flatten):=by rw[dB];exact aj
 have ax:(bV (decide (f=5)) ks.length bs.length al.length al)[0]?=some (pH (decide (f=5)) ks.length bs.length):=aVm;have hgA:∀i a,al[i]?=some a→(bV (decide (f=5)) ks.length bs.length al.length al)[i+1]?=some (lU al.length i a):=fun i a h=>aVl h
 have ay:∀k r,(bV (decide (f=5)) ks.length bs.length al.length al)[k]?=some r→((bV (decide (f=5)) ks.length bs.length al.length al).flatten.drop (k*2)).take 2=r:=eC aC4;generalize bV (decide (f=5)) ks.length bs.length al.length al=G at hgr hgl hra ax hgA ay;refine a8 (a8 (aE mixed (kc hgr ?_ (hin':=dM.app ⟨rfl,rfl,rfl,rfl,trivial⟩ (FarEq.raw N).all) (hout':=dM.of fun p hp=>.inl (Af.2 ⟨p,hp,rfl⟩)) (hok:=nE N (fun x hx=>.inl (bB (show subset _ _=true from rfl) x hx)) rD))));refine kz 2 rfl (AWp.sub (Sub.outsT N) ?_);refine aB ?_;have am:∀g ex,∀x∈R.refsL G.flatten,Kn ex (gHl f n (zNm sb f nm s b ks bs g) t (zKs sb f nm s b ks bs g) (zBs sb f nm s b ks bs g) (zAs sb s b al g)) (fam 0 (zAs sb s b al g)) x:=fun g ex x hx=>by
  rcases hra x hx with h | h
  ·exact .inr (.inl (by simpa [gHl,keys] using h))
  ·exact .inr (.inr (by rw[xS (aw g)];exact h))
 have hTF:∀g,TF (fam 0 (zAs sb s b al g)):=fun g=>fH
 refine aK (fun g:Nat=>mkt [(1,Go.AM.T s),(5,.one (.vp 5 0)),(6,.one (.vp 6 0)),(7,.one (.vp 700 0)),(35,.one (.ras G.length 2 G.flatten)),(36,I .i64 ((G.length:Nat):Int)),(37,I .i64 g)] ([(5,.var 34 (b8 b)),(6,.var 34 bR)]++gHl f n (zNm sb f nm s b ks bs g) t (zKs sb f nm s b ks bs g) (zBs sb f nm s b ks bs g) (zAs sb s b al g)) (fam 0 (zAs sb s b al g))) (fun g=>g≤G.length) (fun g=>G.length-g) 0 (Aj _) (slG gW (fun _ h=>by cases h) (FarEq.bif N (FarEq.outs N)) (h1:=Kn.app Kn.nil (Kn.app (Kn.of rfl) (Kn.app (Kn.of rfl) (Kn.app (Kn.of rfl) (Kn.app (am 0 _) Kn.nil)))))) ?_;intro g hg;have Y:=hTF g;refine sg rfl (a8 (aA rfl (fun hb=>?_) (fun hb=>?_)))
 ·have hlt:g<G.length:=by
   have:(g:Int)<(G.length:Int):=ψ hb;omega
  refine aD ?_;cases g with
  | zero=>
   have ap:=ay 0 _ ax;by_cases aa:f=5
   ·have hd5:decide (f=5)=true:=Ah aa;obtain⟨⟨x,rfl⟩,rfl,rfl⟩:=w2 aa;subst aa;have hM':=hM;simp only[Bn,A8,Cj,C4,Ak,length_nil] at hM';obtain⟨x',q,hq,O⟩:=a0c n t nm x s b sb _ hok (by omega);have ad:gvN 5 nm []=[nm]:=rfl;have e1:zNm sb 5 nm s b [x] [] 1=x':=by
     show(if(5:Int)=5 then(dN sb s b (gvN 5 nm []) ([x]++[].map Bind.body)).1.headD nm else nm)=x';rw[ξ rfl,ad];show(dN sb s b [nm] [x]).1.headD nm=x';rw[hq];rfl
    have e2:zKs sb 5 nm s b [x] [] 1=[q]:=by
     show(dN sb s b (gvN 5 nm []) ([x]++[].map Bind.body)).2.take 1=[q];rw[ad];show(dN sb s b [nm] [x]).2.take 1=[q];rw[hq];rfl
    have e3:zBs sb 5 nm s b [x] [] 1=[]:=rfl;have e4:zAs sb s b [] 1=[]:=rfl;refine a8 (aB (sgh [(0,.rowR 0 (pH true 1 0))] rfl (aE mixed (ak 3 [] rfl (kc O ?_)))));refine az (ag [] rfl ⟨1,hlt,by dsimp only;omega,?_⟩);have ab:=am 1;rw[e1,e2,e3,e4] at ab;dsimp only;rw[e1,e2,e3,e4];exact slG gW (fun _ h=>by cases h) (fun p hp=>by cases hp) (h1:=Kn.app Kn.nil (Kn.app (Kn.of rfl) (Kn.app (Kn.of rfl) (Kn.app (Kn.of rfl) (Kn.app (ab _) Kn.nil)))))
   ·have hd5:decide (f=5)=false:=Am aa;have ad:gvN f nm bs=bs.map Bind.name:=by unfold gvN;rw[φ aa];rfl
    have O:=a0b (bs.map Bind.ty) ks.length (bs.map Bind.name) (ks++bs.map Bind.body) s b sb _ (by simp) (by simp) hok (by simp only[θ,τ];omega);have eH:tH (bs.map Bind.ty) ks.length (bs.map Bind.name) (ks++bs.map Bind.body)=[(701,.arr 69 15 (aU bs) 0),(702,.arr 34 10 (aR ks) 0)]:=by
     unfold tH;rw[drop_left,take_left,aLn]
    rw[eH,av] at O;have hr0:pH (decide (f=5)) ks.length bs.length=[.ras (tN bs.length).length 1 (tN bs.length),.ras (tP ks.length bs.length).length 1 (tP ks.length bs.length)]:=a2m hd5;rw[hr0] at ax ap;have eB:aU (zBs sb f nm s b ks bs 1)=aU (mkB (bs.map Bind.ty) (dN sb s b (bs.map Bind.name) (ks++bs.map Bind.body)).1 ((dN sb s b (bs.map Bind.name) (ks++bs.map Bind.body)).2.drop ks.length)):=by
     show aU (mkB _ _ _)=_;rw[ad]
    have eK:aR (zKs sb f nm s b ks bs 1)=aR ((dN sb s b (bs.map Bind.name) (ks++bs.map Bind.body)).2.take ks.length):=by
     show aR (List.take _ _)=_;rw[ad]
    have eN:zNm sb f nm s b ks bs 1=nm:=by show(if f=5 then _ else nm)=nm;rw[φ aa]
    have eA:zAs sb s b al 1=al:=aOg;have l1:=hN1 1;have l2:=hN2 1;refine a8 (aB (sgh [(0,.rowR 0 [.ras (tN bs.length).length 1 (tN bs.length),.ras (tP ks.length bs.length).length 1 (tP ks.length bs.length)])] rfl (aE mixed (ak 3 [] rfl (kc O ?_ (hok:=?_))))));refine az (ag [] rfl ⟨1,hlt,by dsimp only;omega,?_⟩);have ab:=am 1;dsimp only;rw[eN,eA] at ab ⊢;refine slG gW (fun _ h=>by cases h) (by repeat (first | exact FarEq.raw N | (refine FarEq.updL N ?_) | (refine FarEq.upd N ?_))) (h1:=Kn.app Kn.nil (Kn.app (Kn.of rfl) (Kn.app (Kn.of rfl) (Kn.app (Kn.of rfl) (Kn.app (ab _) Kn.nil))))) (hh:=⟨⟨_,rfl,.varS rfl⟩,⟨_,rfl,.varS rfl⟩,⟨_,rfl,.varS ?_⟩,⟨_,rfl,.arrS ?_⟩,⟨_,rfl,.arrS ?_⟩,⟨_,rfl,.rarrS rfl⟩,trivial⟩)
    ·rw[l1,l2];rfl
    ·exact eB.symm
    ·exact eK.symm
    ·refine nE (F:=[]) ⟨fun _ h=>(by cases h),nodup_nil,fun _ h=>(by cases h)⟩ (fun x hx=>.inl ?_) (fun x hx=>by cases hx);have hx:x∈(grO (tN bs.length) (tP ks.length bs.length)).refs:=by simpa [grO,gpV,AObj.refs,V.refsL,V.refs,R.refsL,R.refs] using hx
     rcases aCa x hx with rfl | rfl
     ·simp[keys]
     ·simp[keys]
  | succ i=>
   have hia:i<al.length:=by omega
   obtain⟨a,aq⟩:=aJ hia;have ap:=ay (i+1) _ (hgA i a aq);have hm:=Ab aq;have hok:=hokA a hm;have hMa:=hMA a hm;have hz1:zAs sb s b al (i+1)=tE sb s b al i:=rfl;have hz2:zAs sb s b al (i+1+1)=(tE sb s b al i).set i (n1 sb s b a):=aOh aq;have hz3:zNm sb f nm s b ks bs (i+1+1)=zNm sb f nm s b ks bs (i+1):=rfl;have hz4:zKs sb f nm s b ks bs (i+1+1)=zKs sb f nm s b ks bs (i+1):=rfl;have hz5:zBs sb f nm s b ks bs (i+1+1)=zBs sb f nm s b ks bs (i+1):=rfl;obtain⟨q,hq,O⟩:=aV9 (tE sb s b al i) i a (aWx aq) s b sb _ hok (by omega) (vR i a.vars.length a.vars.length).length (fZ _ _) al.length yG.symm;have hnew:(Alt.mk a.form a.n a.name (dN sb s b a.vars [a.body]).1 q)=n1 sb s b a:=by unfold n1;rw[hq];rfl
   rw[hnew] at O;have hvl:(vR i a.vars.length a.vars.length).length=a.vars.length:=fZ _ _;have ae:=am (i+1+1);have ac:=hTF (i+1+1);have hA3:=aw (i+1+1);rw[hz2] at ae ac hA3;rw[hz3,hz4,hz5] at ae;have hA4:(tE sb s b al i).length=al.length:=yG;generalize hNm:zNm sb f nm s b ks bs (i+1)=nm1 at *;generalize hKs:zKs sb f nm s b ks bs (i+1)=ks1 at *;generalize hBs:zBs sb f nm s b ks bs (i+1)=Z at *;rw[hz1] at Y ⊢;have halR:lU al.length i a=[.ras (vR i a.vars.length a.vars.length).length 1 (vR i a.vars.length a.vars.length).flatten,.ras 1 1 [.rp 703 i 4 al.length]]:=rfl;rw[halR] at ap;rw[hvl] at ap O;refine a8 (aB (sgh [(0,.rowR (i+1) [.ras a.vars.length 1 (vR i a.vars.length a.vars.length).flatten,.ras 1 1 [.rp 703 i 4 al.length]])] rfl (aE mixed (ak 3 [] rfl (kc O ?_ (hin':=⟨rfl,FarEq.all (by repeat (first | exact FarEq.raw Y | (refine FarEq.updL Y ?_) | (refine FarEq.upd Y ?_)))⟩) (hout':=?_) (hok:=?_))))))
   ·have hcons:∀(o:AObj) (F:List (Nat×AObj)),((703,o)::F)=[(703,o)]++F:=fun _ _=>rfl
    rw[hcons,rE ac];refine az (ag [] rfl ⟨i+1+1,by omega,by dsimp only;omega,?_⟩);dsimp only;rw[hz2,hz3,hz4,hz5];refine slG gW (fun _ h=>by cases h) (FarEq.bif ac (FarEq.outs ac)) (h1:=Kn.app Kn.nil (Kn.app (Kn.of rfl) (Kn.app (Kn.of rfl) (Kn.app (Kn.of rfl) (Kn.app (ae _) Kn.nil))))) (hh:=⟨⟨_,rfl,.varS rfl⟩,⟨_,rfl,.varS rfl⟩,⟨_,rfl,.varS ?_⟩,⟨_,rfl,.arr⟩,⟨_,rfl,.arr⟩,⟨_,rfl,.rarrS rfl⟩,trivial⟩);rw[hA3,hA4]
   ·refine dM.of fun p hp=>.inl ?_
    have hp1:p.1∈keys ((703,AObj.rarr 71 14 (aV 0 ((tE sb s b al i).set i (n1 sb s b a))))::fam 0 ((tE sb s b al i).set i (n1 sb s b a))):=Af.2 ⟨p,hp,rfl⟩;show p.1∈703::keys (fam 0 (tE sb s b al i));rw[xS (m:=(tE sb s b al i).set i (n1 sb s b a)) (by rw[Cn])];exact hp1
   ·refine nE (hl:=[(703,.rarr 71 14 (aV 0 (tE sb s b al i)))]) Y (fun x hx=>?_) (fun x hx=>.inr (cK x (by simpa [cO,AObj.refs] using hx)));have hx:x∈R.refsL (vR i a.vars.length a.vars.length).flatten++[703]:=by simpa [V.refsL,V.refs,R.refsL,R.refs] using hx
    rcases δ.1 hx with hx | hx
    ·rw[dB] at hx;have:=lY (L:=fun x=>x=i+800) (fun j x hx=>by simpa [R.refsL,R.refs] using hx) _ x hx;rw[this];have hk:=aMs (l:=tE sb s b al i) (k:=0) (i:=i) (by omega);rw[A6] at hk;exact .inr hk
    ·rw[ζ.1 hx];exact .inl (by simp[keys])
 have hge:g=1+al.length:=by
  have:¬(g:Int)<(G.length:Int):=χ hb;omega
 have hgs:g=al.length+1:=by omega
 subst hgs;clear hge hb;have e:tS sb s b (.mk f n nm t ks bs al)=.mk f n (zNm sb f nm s b ks bs (al.length+1)) t (zKs sb f nm s b ks bs (al.length+1)) (zBs sb f nm s b ks bs (al.length+1)) (zAs sb s b al (al.length+1)):=by
  rw[tS];show _=Core.mk _ _ _ _ _ _ (tE sb s b al al.length);rw[aR2];rfl
 rw[e];have m1:=hN1 (al.length+1);have m2:=hN2 (al.length+1);have m3:=aw (al.length+1);generalize zNm sb f nm s b ks bs (al.length+1)=nm1 at *;generalize zKs sb f nm s b ks bs (al.length+1)=ks1 at *;generalize zBs sb f nm s b ks bs (al.length+1)=Z at *;generalize zAs sb s b al (al.length+1)=W at *;refine aL (AWp.sub (st2:=mkt [(6,.one (.vp 6 0)),(7,.one (.vp 700 0))] (oHl ks1 Z W++[(700,.var 34 (dV f n nm1 t ks1.length Z.length W.length)),(6,.var 34 bR)]) (fam 0 W)) (slT Y (by repeat (first | exact FarEq.raw Y | (refine FarEq.updL Y ?_) | (refine FarEq.upd Y ?_))) (fun x hx=>.inl (bB (show subset _ _=true from rfl) x hx)) (fun x hx=>?_) (fun _ h=>by cases h)) ?_)
 ·rw[iQ] at hx;rcases δ.1 hx with hx | hx
  ·exact .inr (cK x (by simpa [oHl,cO,AObj.refs] using hx))
  ·refine .inl ?_;have hx:x=702∨x=701∨x=703:=by simpa [cO,AObj.refs,dV,bR,R.refsL,R.refs] using hx
   rcases hx with rfl | rfl | rfl<;>simp[oHl,keys]
 refine AWp.sub (oZ (by simp[keys]) (Kn.of rfl) ⟨Kn.of rfl,Kn.of rfl,trivial⟩ (fun _ h=>by cases h) rfl rfl (by simp) (fun p hp=>by
  rcases Ai.1 hp with rfl | hp
  ·rfl
  ·rw[ζ.1 hp];rfl)) ?_
 have e1:fzH 703 (.ra W.length 14 (aV 0 W).flatten) ([(701,.arr 69 15 (aU Z) 2),(702,.arr 34 10 (aR ks1) 2)]++[(700,.var 34 (dV f n nm1 t ks1.length Z.length W.length)),(6,.var 34 bR)])
   =[(701,.arr 69 15 (aU Z) 2),(702,.arr 34 10 (aR ks1) 2),(700,.var 34 (jF f n nm1 t ks1.length Z.length W)),(6,.var 34 bR)]:=by
  unfold dV jF;show [(701,_),(702,_),(700,AObj.var _ (R.fzL _ _ _)),(6,AObj.var _ (R.fzL _ _ _))]=_;simp only[R.fzL,R.fz,B6,B3,Bool.and_self];rfl
 rw[e1];have hFz:TF (xM (fam 0 W)):=Y.frz;obtain⟨ids,hp⟩:=s8 (h:=(mkt [] [(701,.arr 69 15 (aU Z) 2),(702,.arr 34 10 (aR ks1) 2),(700,.var 34 (jF f n nm1 t ks1.length Z.length W)),(6,.var 34 bR)] (xM (fam 0 W))).h) (f:=f) (n:=n) (s:=nm1) (t:=t) (ks:=ks1) (bs:=Z) (al:=W) rfl rfl (FarEq.mkt hFz rfl);refine AWp.sub (Sub.varPure (x:=700) rfl hp) ?_;exact sg rfl (aF (rtC trw))
theorem aNc (f n:Int) (nm:Str) (t:Ty) (ks:List Core) (bs:List Bind) (al:List Alt) (s:Str) (b:Core) (hv:f=1∧nm=s) (q:bE b≤570000000000) (I:allT TyG b):
  aQ Tryz.prog 99 [.pa (aC (.mk f n nm t ks bs al)),Go.AM.T s,.pa (aC b)] [] (.pa (aC b)) []:=
 aIc f n nm t ks bs al s b hv (LC.of _ b (le_refl _) q) I
theorem pQ (sb:Core→Str→Core→Core) (P:Core→Prop) (f n:Int) (nm0 nm:Str) (t:Ty) (q ks:List Core) (bs:List Bind) (al:List Alt) (s:Str) (b:Core)
  (N:bE (.mk f n nm0 t q bs al)≤570000000000) (Y:allT TyG (.mk f n nm0 t q bs al)) (hv:¬(f=1∧nm0=s)) (I:ks.length=q.length)
  (Z:f=5→(∃k,ks=[k])∧bs=[]∧al=[])
  (h7:f=7→bs=[]∧al=[]∧∃fl:List Str,aQ Tryz.prog 133 [.pa (aC (.mk f n nm0 t q bs al))] [] (bI fl) []∧fl.length≤540000000000∧
   (s∈fl→∃tl:List Str,aQ Tryz.prog 76 [.pa (aC b)] [] (bI tl) []∧aQ Tryz.prog 77 [.one (.vp 700 0),bI tl] (gHl f n nm0 t q [] []) (.tup []) (gHl f n nm t ks [] []))∧
   (¬s∈fl→nm=nm0∧ks=q))
  (O:f≠7→nm=nm0∧ks=q)
  (hok:PutOk sb P s b (ks++bs.map Bind.body)) (J:∀a∈al,PutOk sb P s b [a.body])
  (hM:((ks++bs.map Bind.body).flatMap pfR).length+2*(1+bs.length)+(pfR b).length+(ks.length+bs.length)≤540000000000)
  (W:∀a∈al,(pfR a.body).length+2*a.vars.length+(pfR b).length+1≤540000000000):
  aQ Tryz.prog 99 [.pa (aC (.mk f n nm0 t q bs al)),Go.AM.T s,.pa (aC b)] [] (.pa (aC (tS sb s b (.mk f n nm t ks bs al)))) []:=
 aDh sb P f n nm0 nm t q ks bs al s b (LC.of _ _ (le_refl _) N) Y hv I Z h7 O hok J hM W
theorem pP (s:Str):aQ Tryz.prog 33 [Go.AM.T s] [] (tyV (.mk 3 0 s [])) []:=by
 refine bM (n:=5) tok Tryz.func33 rfl rfl rfl ?_;exact sg rfl (sg rfl (aF (rtC trw)))
theorem aNq (n:Int):aQ Tryz.prog 35 [I .i64 n] [] (.pa (aC (.mk 3 n [] zTy [] [] []))) []:=by
 refine bM (n:=5) tok Tryz.func35 rfl rfl rfl ?_;exact sg rfl (sg rfl (aF (rtC trw)))
def oH (f n:Int) (s:Str) (t:Ty) (nk nb na:Nat):List R:=[.c (.int .i64 f),.c (.int .i64 n),.c (.str s),.c (.int .i64 t.form),.c (.int .i64 t.n),.c (.str t.name),.c (.sl 4 (gD t)),.hs 702 0 nk nk,.hs 701 0 nb nb,.hs 703 0 na na]
theorem aU0 {o:List Str}{s:Str}(h:o.Nodup):(qR o s).Nodup:=by
 unfold qR;split
 ·exact h
 ·rename_i hs;rw[Cg];exact⟨h,by simp,fun a ha b hb e=>by rw[ζ.1 hb] at e;subst e;exact hs ha⟩
theorem aU2 {o:List Str}{x y:Str}(h:y∈o):y∈qR o x:=by
 unfold qR;split
 ·exact h
 ·exact δ.2 (.inl h)
theorem aQg {o:List Str}{x:Str}:x∈qR o x:=by
 unfold qR;split
 ·assumption
 ·exact δ.2 (.inr (by simp))
theorem aYy {G o:List Str}{x y:Str}(h:y∈o):y∈pfG G o x:=by
 unfold pfG;split
 ·exact h
 ·exact aU2 h
theorem zU {G:List Str}:∀{l o:List Str}{y:Str},y∈o→y∈pfP G o l
 | [],_,_,h=>h
 | x::l,o,_,h=>zU (G:=G) (l:=l) (o:=pfG G o x) (aYy h)
theorem sC {G:List Str}:∀{l o:List Str}{y:Str},y∈l→¬y∈G→y∈pfP G o l
 | x::l,o,y,h,q=>by
  rcases Ai.1 h with rfl | h
  ·refine zU (G:=G) (l:=l) (o:=pfG G o y) ?_;unfold pfG;rw[φ q];exact aQg
  ·exact sC (l:=l) (o:=pfG G o x) h q
theorem aK1 {G:List Str}:∀{l:List Core}{o:List Str}{y:Str},y∈o→y∈r7 G l o
 | [],_,_,h=>by rw[r7];exact h
 | c::l,o,y,h=>by rw[r7];exact aK1 (zU h)
theorem aCx {G:List Str}:∀{l:List Bind}{o:List Str}{y:Str},y∈o→y∈tL G l o
 | [],_,_,h=>by rw[tL];exact h
 | .mk s t c::l,o,y,h=>by rw[tL];exact aCx (zU h)
theorem aCy:∀{l:List Alt}{o:List Str}{y:Str},y∈o→y∈tU l o
 | [],_,_,h=>by rw[tU];exact h
 | .mk f n s vs c::l,o,y,h=>by rw[tU];exact aCy (zU h)
theorem aFi {G:List Str}:∀{l:List Core}{o:List Str}{y:Str}{c:Core},c∈l→y∈pfR c→¬y∈G→y∈r7 G l o
 | d::l,o,y,c,h,q,I=>by
  rw[r7];rcases Ai.1 h with rfl | h
  ·exact aK1 (sC q I)
  ·exact aFi h q I
theorem aFk {G:List Str}:∀{l:List Bind}{o:List Str}{y:Str}{c:Bind},c∈l→y∈pfR c.body→¬y∈G→y∈tL G l o
 | .mk s t d::l,o,y,c,h,q,I=>by
  rw[tL];rcases Ai.1 h with rfl | h
  ·exact aCx (sC q I)
  ·exact aFk h q I
theorem aFm:∀{l:List Alt}{o:List Str}{y:Str}{c:Alt},c∈l→y∈pfR c.body→¬y∈c.vars→y∈tU l o
 | .mk f n s vs d::l,o,y,c,h,q,I=>by
  rw[tU];rcases Ai.1 h with rfl | h
  ·exact aCy (sC q I)
  ·exact aFm h q I
section
variable {sb sb':Core→Str→Core→Core}{P:Core→Prop}{e:Core→Core}
end
structure PK (B:Nat) (T:Ty→Prop) (ns:List Str) (ps:List Core) (r:List Str×List Core):Prop where
 len1:r.1.length=ns.length
 len2:r.2.length=ps.length
 wf:∀q∈r.2,wfC q=true∧allT T q
 sm:A2 (fun p q=>m30 q≤m30 p*B) ps r.2
 nm:A2 NR ns r.1
theorem aCt {sb:Core→Str→Core→Core}{P:Core→Prop}{B:Nat}{T:Ty→Prop}{s:Str}{b:Core}{ns:List Str}{ps:List Core}(hB:1≤B) (W:∀p∈ps,P p)
  (hz:∀p n z,P p→z.length≤30→P (sb p n (vC z))∧m30 (sb p n (vC z))≤m30 p) (aa:∀p,P p→wfC p=true∧allT T p) (hs:∀p,P p→wfC (sb p s b)=true∧allT T (sb p s b)∧m30 (sb p s b)≤m30 p*B)
  (hl:(ps.flatMap pfR).length+2*ns.length+(pfR b).length≤540000000000):PK B T ns ps (dN sb s b ns ps):=by
 obtain⟨Y,Z⟩:=r6 (sb:=sb) (s:=s) (b:=b) (ns:=ns) (ps:=ps);obtain⟨⟨J,h1,h2⟩,h3⟩:=aFe (sb:=sb) (Rel:=fun p q=>P p→(P q∧m30 q≤m30 p)) (fun p h=>⟨h,le_refl _⟩)
  (fun p q r N ab h=>by
   obtain⟨a1,a2⟩:=N h;obtain⟨b1,b2⟩:=ab a1
   exact⟨b1,le_trans b2 a2⟩) (s:=s) (b:=b) (ns:=ns) (ps:=ps) (fun p n z ac h=>hz p n z h ac) hl
 have I:∀q∈J,P q:=fun q I=>by
  obtain⟨p,hp,N⟩:=h1.mem q I;exact(N (W p hp)).1
 have hA:A2 (fun p q=>m30 q≤m30 p) ps J:=by
  clear h2 I hl h3 Y Z
  induction h1 with
  | nil=>exact .nil
  | cons r _ ih2=>exact .cons (r (W _ η)).2 (ih2 fun p hp=>W p (ω _ hp))
 have hup:∀k:Nat,k≤k*B:=fun k=>Bb _ hB
 refine⟨Y,Z,fun x hx=>?_,?_,h3⟩
 ·rcases h2 with h2 | h2
  ·rw[h2] at hx;exact aa x (I x hx)
  ·rw[h2] at hx;obtain⟨q,O,rfl⟩:=Af.1 hx;exact⟨(hs q (I q O)).1,(hs q (I q O)).2.1⟩
 ·rcases h2 with h2 | h2
  ·rw[h2];exact A2.mono (fun p q h=>le_trans h (hup _)) hA
  ·rw[h2];clear h2 h3 Y Z hl h1;have key:∀{ps J:List Core},A2 (fun p q=>m30 q≤m30 p) ps J→(∀q∈J,P q)→A2 (fun p q=>m30 q≤m30 p*B) ps (J.map fun p=>sb p s b):=by
    intro ps J h
    induction h with
    | nil=>intro _;exact .nil
    | cons r _ ih=>exact fun I=>.cons (le_trans (hs _ (I _ η)).2.2 (Av _ r)) (ih fun q h=>I q (ω _ h))
   exact key hA I
theorem aF2 {B:Nat}{ps I:List Core}(h:A2 (fun p q=>m30 q≤m30 p*B) ps I):dI I≤dI ps*B:=by
 induction h with
 | nil=>rw[dI];exact Aj _
 | cons r _ J=>rw[dI,dI,Ay];omega
theorem aFw {B:Nat}(q:1≤B):∀{ts:List Ty}{ns:List Str}{ps:List Core}{bs:List Bind},A2 (fun(b:Bind) n=>w30 n≤w30 b.name) bs ns→A2 (fun(b:Bind) p=>m30 p≤m30 b.body*B) bs ps→gM (mkB ts ns ps)≤gM bs*B
 | [],_,_,_,_,_=>by unfold mkB;rw[gM];exact Aj _
 | t::ts,_,_,_,.nil,.nil=>by unfold mkB;rw[gM];exact Aj _
 | t::ts,n::ns,p::ps,.mk s ty c::bs,.cons h1 h2,.cons h3 h4=>by
  unfold mkB;rw[gM,gM];have:=aFw q (ts:=ts) h2 h4;have h1:w30 n≤w30 s:=h1;have h3:m30 p≤m30 c*B:=h3;have h5:1+w30 s≤(1+w30 s)*B:=Bb _ q;rw[Ay,Ay];omega
section
variable {sb:Core→Str→Core→Core}{B:Nat}{T:Ty→Prop}{f n:Int}{nm:Str}{t:Ty}{ks:List Core}{bs:List Bind}{al:List Alt}{s:Str}{b:Core}
theorem aQe (N:1≤B) {l:List Alt}(h:∀a∈l,A2 (fun p q=>m30 q≤m30 p*B) [a.body] (dN sb s b a.vars [a.body]).2∧A2 NR a.vars (dN sb s b a.vars [a.body]).1):j2 (l.map (n1 sb s b))≤j2 l*B:=by
 induction l with
 | nil=>exact Aj _
 | cons a l J=>
  obtain⟨af,an,anm,vs,I⟩:=a;obtain⟨g1,g2⟩:=h _ η;have:=J fun x hx=>h x (ω _ hx)
  have g1:A2 (fun p q=>m30 q≤m30 p*B) [I] (dN sb s b vs [I]).2:=g1;have g2:A2 NR vs (dN sb s b vs [I]).1:=g2;have g4:=aE0 g2;have g3:m30 ((dN sb s b vs [I]).2.headD I)≤m30 I*B:=by
   cases hx:(dN sb s b vs [I]).2 with
   | nil=>rw[hx] at g1;cases g1
   | cons y l'=>
    rw[hx] at g1;cases g1 with
    | cons h _=>exact h
  have e:n1 sb s b (Alt.mk af an anm vs I)=.mk af an anm (dN sb s b vs [I]).1 ((dN sb s b vs [I]).2.headD I):=rfl;rw[Al,e,j2,j2];have g5:1+w30 anm+(vs.map fun v=>1+w30 v).sum≤(1+w30 anm+(vs.map fun v=>1+w30 v).sum)*B:=Bb _ N;rw[Ay,Ay (1+w30 anm+_)];omega
theorem aOd (O:1≤B) (Y:PK B T (gvN f nm bs) (ks++bs.map Bind.body) (dN sb s b (gvN f nm bs) (ks++bs.map Bind.body))) (ha:∀a∈al,PK B T a.vars [a.body] (dN sb s b a.vars [a.body]))
  (h0:T t) (hb:∀x∈bs,T x.ty) (Z:f=5∨f=6∨f=7→(∃k,ks=[k])∧bs=[]∧al=[]) (w0:f=1→ks=[]∧bs=[]∧al=[]):
  wfC (tS sb s b (.mk f n nm t ks bs al))=true∧allT T (tS sb s b (.mk f n nm t ks bs al))∧m30 (tS sb s b (.mk f n nm t ks bs al))≤m30 (.mk f n nm t ks bs al)*B:=by
 have hN:∀a∈al,wfC (n1 sb s b a).body=true∧allT T (n1 sb s b a).body:=fun a q=>by
  show wfC ((dN sb s b a.vars [a.body]).2.headD a.body)=true∧allT T ((dN sb s b a.vars [a.body]).2.headD a.body);obtain⟨y,I⟩:=Bt.1 (ha a q).len2;rw[I];exact(ha a q).wf y (by rw[I];exact ζ.2 rfl)
 have e4:j2 (al.map (n1 sb s b))≤j2 al*B:=aQe O fun a q=>⟨(ha a q).sm,(ha a q).nm⟩
 rw[tS];unfold zNm zKs zBs;generalize dN sb s b (gvN f nm bs) (ks++bs.map Bind.body)=r at Y ⊢;obtain⟨r1,W⟩:=r;obtain⟨l1,l2,J,q1,N⟩:=Y;dsimp only at *;refine⟨aR7 (fun hf=>?_) (fun hf=>?_) (fun x hx=>(J x (Bx hx)).1) (fun x hx=>(J _ (C1 (pE hx).1)).1) (fun x hx=>?_),?_,?_⟩
 ·obtain⟨⟨y,rfl⟩,rfl,rfl⟩:=Z hf;obtain⟨y',rfl⟩:=Bt.1 (show W.length=1 from l2);exact⟨⟨y',rfl⟩,rfl,rfl⟩
 ·obtain⟨rfl,rfl,rfl⟩:=w0 hf;exact⟨rfl,rfl,rfl⟩
 ·obtain⟨a,q,rfl⟩:=Af.1 hx;exact(hN a q).1
 ·rw[allT];refine⟨h0,tF.2 fun x hx=>(J x (Bx hx)).2,tJ.2 fun x hx=>?_,tK.2 fun x hx=>?_⟩
  ·obtain⟨h1,h2⟩:=pE hx;obtain⟨y,I,hyt⟩:=Af.1 h2;exact⟨by rw[←hyt];exact hb y I,(J _ (C1 h1)).2⟩
  ·obtain⟨a,q,rfl⟩:=Af.1 hx;exact(hN a q).2
 ·rw[m30,m30];have e1:w30 (if f=5 then r1.headD nm else nm)≤w30 nm:=by
   split
   ·rename_i hf;unfold gvN at N;rw[ξ hf] at N;cases N with
    | cons h _=>exact h.w
   ·exact le_refl _
  have e2:dI (W.take ks.length)≤dI ks*B:=by
   have:=(q1.take ks.length)
   rw[take_left] at this;exact aF2 this
  have e3:gM (mkB (bs.map Bind.ty) r1 (W.drop ks.length))≤gM bs*B:=by
   by_cases hf:f=5
   ·obtain⟨_,rfl,_⟩:=Z (.inl hf);show gM (mkB [] _ _)≤_;unfold mkB;rw[gM];exact Aj _
   ·have h4:=N;unfold gvN at h4;rw[φ hf,Bd] at h4;have h5:=q1.drop ks.length;rw[drop_left] at h5;exact aFw O (A2.mapL (A2.mono (fun a b h=>h.w) h4)) (A2.mapL h5)
  have e5:1+w30 nm≤(1+w30 nm)*B:=Bb _ O;rw[Ay,Ay,Ay];omega
end
abbrev Loc:Type:=Int→Str→Ty→Nat→List (Str×Ty)→List (Str×List Str)→Prop
def bhd (b:Bind):Str×Ty:=(b.name,b.ty)
def ahd (a:Alt):Str×List Str:=(a.name,a.vars)
mutual
def dD (q:Loc):Core→Prop
 | .mk f _ s t ks bs al=>q f s t ks.length (bs.map bhd) (al.map ahd)∧aOj q ks∧aOk q bs∧aOl q al
def aOj (q:Loc):List Core→Prop
 | []=>True
 | c::l=>dD q c∧aOj q l
def aOk (q:Loc):List Bind→Prop
 | []=>True
 | .mk _ _ c::l=>dD q c∧aOk q l
def aOl (q:Loc):List Alt→Prop
 | []=>True
 | .mk _ _ _ _ c::l=>dD q c∧aOl q l
end
theorem aBi {q:Loc}:∀{l:List Core},aOj q l↔∀x∈l,dD q x
 | []=>by simp[aOj]
 | c::l=>by rw[aOj,aBi (l:=l)];simp
theorem aBj {q:Loc}:∀{l:List Bind},aOk q l↔∀x∈l,dD q x.body
 | []=>by simp[aOk]
 | .mk s t c::l=>by rw[aOk,aBj (l:=l)];simp[Bind.body]
theorem aBk {q:Loc}:∀{l:List Alt},aOl q l↔∀x∈l,dD q x.body
 | []=>by simp[aOl]
 | .mk f n s v c::l=>by rw[aOl,aBk (l:=l)];simp[Alt.body]
theorem aY {q:Loc}{f n:Int}{s:Str}{t:Ty}{ks:List Core}{bs:List Bind}{al:List Alt}:
  dD q (.mk f n s t ks bs al)↔q f s t ks.length (bs.map bhd) (al.map ahd)∧(∀x∈ks,dD q x)∧(∀x∈bs,dD q x.body)∧∀x∈al,dD q x.body:=by
 rw[dD,aBi,aBj,aBk]
def okF (f:Int) (nk nb na:Nat):Bool:=
 if f=4∨f=10 then decide (nk=2∧nb=0∧na=0)
 else if f=5∨f=6∨f=7 then decide (nk=1∧nb=0∧na=0)
 else if f=8 then decide (nk=1∧na=0)
 else if f=9 then decide (nk=1∧nb=0)
 else decide (nk=0∧nb=0∧na=0)
def lw (s:Str) (bh:List (Str×Ty)) (ah:List (Str×List Str)):Nat:=
 1+w30 s+(bh.map fun p=>1+w30 p.1).sum+(ah.map fun p=>1+w30 p.1+(p.2.map fun v=>1+w30 v).sum).sum
theorem aH7 (n:Nat):¬bQ n=[]:=by unfold bQ;split<;>simp
theorem xN (l:List Str):¬b9 l=[]:=aH7 _
def QL (X:Nat):Loc:=fun f s t nk bh ah=>okF f nk bh.length ah.length=true∧(f=7→t=zTy∧¬s=[])∧wfS t=true∧(∀p∈bh,wfS p.2=true)∧lw s bh ah≤X∧(f=5→nh s)∧(∀p∈bh,nh p.1)∧∀p∈ah,∀v∈p.2,nh v
theorem aSx {f:Int}{nk nb q:Nat}(h:okF f nk nb q=true):(f=5∨f=6∨f=7→nk=1∧nb=0∧q=0)∧(f=1→nk=0∧nb=0∧q=0):=by
 unfold okF at h;refine⟨fun hf=>?_,fun hf=>?_⟩
 ·rw[φ (by omega),ξ hf] at h;exact ψ h
 ·rw[φ (by omega),φ (by omega),φ (by omega),φ (by omega)] at h;exact ψ h
section
variable {X:Nat}{f n:Int}{s:Str}{t:Ty}{ks:List Core}{bs:List Bind}{al:List Alt}
theorem fJ (h:dD (QL X) (.mk f n s t ks bs al)) (hf:f=5∨f=6∨f=7):(∃k,ks=[k])∧bs=[]∧al=[]:=by
 obtain⟨h1,_⟩:=aY.1 h;obtain⟨g1,g2,g3⟩:=(aSx h1.1).1 hf;rw[θ] at g2 g3;exact⟨Bt.1 g1,Bl.1 g2,Bl.1 g3⟩
theorem aBm (h:dD (QL X) (.mk f n s t ks bs al)) (hf:f=1):ks=[]∧bs=[]∧al=[]:=by
 obtain⟨h1,_⟩:=aY.1 h;obtain⟨g1,g2,g3⟩:=(aSx h1.1).2 hf;rw[θ] at g2 g3;exact⟨Bl.1 g1,Bl.1 g2,Bl.1 g3⟩
end
mutual
theorem aBl {X:Nat}:∀c:Core,dD (QL X) c→wfC c=true
 | .mk f n s t ks bs al,h=>by
  obtain⟨h1,h2,h3,h4⟩:=aY.1 h;exact aR7 (fun hf=>fJ h hf) (fun hf=>aBm h hf) (fun x hx=>aOt ks h2 x hx) (fun x hx=>aOu bs h3 x hx) (fun x hx=>aOv al h4 x hx)
theorem aOt {X:Nat}:∀l:List Core,(∀x∈l,dD (QL X) x)→∀x∈l,wfC x=true
 | c::l,h,x,hx=>by
  rcases Ai.1 hx with e | hx
  ·rw[e];exact aBl c (h _ η)
  ·exact aOt l (fun x hx=>h x (ω _ hx)) x hx
theorem aOu {X:Nat}:∀l:List Bind,(∀x∈l,dD (QL X) x.body)→∀x∈l,wfC x.body=true
 | .mk s t c::l,h,x,hx=>by
  rcases Ai.1 hx with e | hx
  ·rw[e];exact aBl c (h _ η)
  ·exact aOu l (fun x hx=>h x (ω _ hx)) x hx
theorem aOv {X:Nat}:∀l:List Alt,(∀x∈l,dD (QL X) x.body)→∀x∈l,wfC x.body=true
 | .mk f n s v c::l,h,x,hx=>by
  rcases Ai.1 hx with e | hx
  ·rw[e];exact aBl c (h _ η)
  ·exact aOv l (fun x hx=>h x (ω _ hx)) x hx
end
theorem x8 {o:List Str}{x y:Str}:y∈qR o x↔y∈o∨y=x:=by
 unfold qR;split
 ·rename_i h;exact⟨.inl,fun q=>q.elim id fun e=>by rw[e];exact h⟩
 ·rw[δ,ζ]
theorem mD {y:Str}:∀{l o:List Str},y∈n2 o l↔y∈o∨y∈l
 | [],o=>by simp[n2]
 | x::l,o=>by
  show y∈n2 (qR o x) l↔_;rw[mD (l:=l),x8,Ai,or_assoc]
theorem aEn {f:Int}{s y:Str}:∀{l o:List Str},y∈aBx f s o l↔y∈o∨(y∈l∧(¬f=7∨¬y=s))
 | [],o=>by simp[aBx]
 | x::l,o=>by
  show y∈aBx f s (nI f s o x) l↔_;rw[aEn (l:=l)];unfold nI;split
  ·rename_i h;rw[mD,ζ,Ai];constructor
   ·rintro((h1 | h1) | h1)
    ·exact .inl h1
    ·exact .inr ⟨.inl h1,by rw[h1];exact h⟩
    ·exact .inr ⟨.inr h1.1,h1.2⟩
   ·rintro(h1 | ⟨h1 | h1,h2⟩)
    ·exact .inl (.inl h1)
    ·exact .inl (.inr h1)
    ·exact .inr ⟨h1,h2⟩
  ·rename_i h;rw[Ai];constructor
   ·rintro(h1 | h1)
    ·exact .inl h1
    ·exact .inr ⟨.inr h1.1,h1.2⟩
   ·rintro(h1 | ⟨h1 | h1,h2⟩)
    ·exact .inl h1
    ·exact absurd (by rw[←h1];exact h2) h
    ·exact .inr ⟨h1,h2⟩
theorem aEl {f:Int}{s y:Str}:∀{l:List Core}{o:List Str},y∈oU f s l o↔y∈o∨∃k∈l,y∈tyR k∧(¬f=7∨¬y=s)
 | [],o=>by rw[oU];simp
 | c::l,o=>by
  rw[oU,aEl (l:=l),aEn,or_assoc];simp
theorem aEo {y:Str}:∀{l:List Bind}{o:List Str},y∈mX l o↔y∈o∨∃b∈l,y∈tfR b.ty∨y∈tyR b.body
 | [],o=>by rw[mX];simp
 | .mk s t c::l,o=>by
  rw[mX,aEo (l:=l),mD,mD];simp only[Ai,exists_eq_or_imp,Bind.ty,Bind.body,or_assoc]
theorem aEp {y:Str}:∀{l:List Alt}{o:List Str},y∈nF l o↔y∈o∨∃a∈l,y∈tyR a.body
 | [],o=>by rw[nF];simp
 | .mk f n s v c::l,o=>by
  rw[nF,aEp (l:=l),mD];simp only[Ai,exists_eq_or_imp,Alt.body,or_assoc]
theorem bC {f n:Int}{s:Str}{t:Ty}{ks:List Core}{bs:List Bind}{al:List Alt}{y:Str}:
  y∈tyR (.mk f n s t ks bs al)↔y∈tfR t∨(∃k∈ks,y∈tyR k∧(¬f=7∨¬y=s))∨(∃b∈bs,y∈tfR b.ty∨y∈tyR b.body)∨∃a∈al,y∈tyR a.body:=by
 rw[tyR,aEp,aEo,aEl,mD];simp[or_assoc]
theorem pD:∀{l o:List Str},o.Nodup→(n2 o l).Nodup
 | [],_,h=>h
 | x::l,o,h=>pD (l:=l) (o:=qR o x) (aU0 h)
theorem aI8 {f:Int}{s:Str}:∀{l o:List Str},o.Nodup→(aBx f s o l).Nodup
 | [],_,h=>h
 | x::l,o,h=>aI8 (l:=l) (o:=nI f s o x) (by unfold nI;split;exact pD h;exact h)
theorem aI6 {f:Int}{s:Str}:∀{l:List Core}{o:List Str},o.Nodup→(oU f s l o).Nodup
 | [],o,h=>by rw[oU];exact h
 | c::l,o,h=>by rw[oU];exact aI6 (aI8 h)
theorem aJa:∀{l:List Bind}{o:List Str},o.Nodup→(mX l o).Nodup
 | [],o,h=>by rw[mX];exact h
 | .mk s t c::l,o,h=>by rw[mX];exact aJa (pD (pD h))
theorem aJb:∀{l:List Alt}{o:List Str},o.Nodup→(nF l o).Nodup
 | [],o,h=>by rw[nF];exact h
 | .mk f n s v c::l,o,h=>by rw[nF];exact aJb (pD h)
theorem a1m (c:Core):(tyR c).Nodup:=by
 obtain⟨f,n,s,t,ks,bs,al⟩:=c;rw[tyR];exact aJb (aJa (aI6 (pD nodup_nil)))
theorem dP {a:List Str}{c:Core}(h:∀x∈tyR c,x∈a):(tyR c).length≤a.length:=fK _ _ (a1m c) h
mutual
def tlC:Core→Nat
 | .mk f _ _ _ ks bs al=>(if f=7 then 1 else 0)+max (jT ks) (max (qY bs) (qA al))
def jT:List Core→Nat
 | []=>0
 | c::l=>max (tlC c) (jT l)
def qY:List Bind→Nat
 | []=>0
 | .mk _ _ c::l=>max (tlC c) (qY l)
def qA:List Alt→Nat
 | []=>0
 | .mk _ _ _ _ c::l=>max (tlC c) (qA l)
end
theorem aB2 {K:Nat}:∀{l:List Core},jT l≤K↔∀x∈l,tlC x≤K
 | []=>by simp[jT]
 | c::l=>by rw[jT,max_le,aB2 (l:=l)];simp
theorem aB3 {K:Nat}:∀{l:List Bind},qY l≤K↔∀x∈l,tlC x.body≤K
 | []=>by simp[qY]
 | .mk s t c::l=>by rw[qY,max_le,aB3 (l:=l)];simp[Bind.body]
theorem aB4 {K:Nat}:∀{l:List Alt},qA l≤K↔∀x∈l,tlC x.body≤K
 | []=>by simp[qA]
 | .mk f n s v c::l=>by rw[qA,max_le,aB4 (l:=l)];simp[Alt.body]
theorem yY {K:Nat}{f n:Int}{s:Str}{t:Ty}{ks:List Core}{bs:List Bind}{al:List Alt}:
  tlC (.mk f n s t ks bs al)≤(if f=7 then 1 else 0)+K↔(∀x∈ks,tlC x≤K)∧(∀x∈bs,tlC x.body≤K)∧∀x∈al,tlC x.body≤K:=by
 rw[tlC,Nat.add_le_add_iff_left,max_le,max_le,aB2,aB3,aB4]
theorem mT {f n:Int}{s:Str}{t:Ty}{ks:List Core}{bs:List Bind}{al:List Alt}:
  (∀x∈ks,tlC x+(if f=7 then 1 else 0)≤tlC (.mk f n s t ks bs al))∧(∀x∈bs,tlC x.body≤tlC (.mk f n s t ks bs al))∧∀x∈al,tlC x.body≤tlC (.mk f n s t ks bs al):=by
 have h:=(yY (K:=max (jT ks) (max (qY bs) (qA al))) (f:=f) (n:=n) (s:=s) (t:=t) (ks:=ks) (bs:=bs) (al:=al)).1 (by rw[tlC];exact le_refl _)
 rw[tlC];exact⟨fun x hx=>by have:=h.1 x hx;omega,fun x hx=>by have:=h.2.1 x hx;omega,fun x hx=>by have:=h.2.2 x hx;omega⟩
def Alg.k (A:Alg):Nat:=tW A zTy r0
mutual
def cw (A:Alg) (E:Nat):Core→(Str→Nat)→Nat
 | .mk f _ s t ks bs al,ρ=>max A.k (max (tW A t ρ) (max (cws A E ks (if f=7 then fY ρ s E else ρ)) (max (cwb A E bs ρ) (cwa A E al ρ))))
def cws (A:Alg) (E:Nat):List Core→(Str→Nat)→Nat
 | [],_=>0
 | c::l,ρ=>max (cw A E c ρ) (cws A E l ρ)
def cwb (A:Alg) (E:Nat):List Bind→(Str→Nat)→Nat
 | [],_=>0
 | .mk _ t c::l,ρ=>max (max (tW A t ρ) (cw A E c ρ)) (cwb A E l ρ)
def cwa (A:Alg) (E:Nat):List Alt→(Str→Nat)→Nat
 | [],_=>0
 | .mk _ _ _ _ c::l,ρ=>max (cw A E c ρ) (cwa A E l ρ)
end
section
variable {A:Alg}{E K:Nat}{ρ ρ':Str→Nat}
theorem aTe:∀{l:List Core},cws A E l ρ≤K↔∀x∈l,cw A E x ρ≤K
 | []=>by simp[cws]
 | c::l=>by rw[cws,max_le,aTe (l:=l)];simp
theorem aTf:∀{l:List Bind},cwb A E l ρ≤K↔∀x∈l,tW A x.ty ρ≤K∧cw A E x.body ρ≤K
 | []=>by simp[cwb]
 | .mk s t c::l=>by rw[cwb,max_le,max_le,aTf (l:=l)];simp[Bind.body,Bind.ty]
theorem aTg:∀{l:List Alt},cwa A E l ρ≤K↔∀x∈l,cw A E x.body ρ≤K
 | []=>by simp[cwa]
 | .mk f n s v c::l=>by rw[cwa,max_le,aTg (l:=l)];simp[Alt.body]
theorem fX {f n:Int}{s:Str}{t:Ty}{ks:List Core}{bs:List Bind}{al:List Alt}:
  cw A E (.mk f n s t ks bs al) ρ≤K↔A.k≤K∧tW A t ρ≤K∧(∀x∈ks,cw A E x (if f=7 then fY ρ s E else ρ)≤K)∧(∀x∈bs,tW A x.ty ρ≤K∧cw A E x.body ρ≤K)∧∀x∈al,cw A E x.body ρ≤K:=by
 rw[cw,max_le,max_le,max_le,max_le,aTe,aTf,aTg]
end
theorem a3d {A:Alg}{E:Nat}{ρ:Str→Nat}(c:Core):A.k≤cw A E c ρ:=by cases c;exact(fX.1 (le_refl _)).1
theorem lM {A:Alg}{E:Nat}:∀(k:Nat) (c:Core),bE c≤k→∀{ρ ρ':Str→Nat}{K:Nat},(∀x∈tyR c,ρ x=ρ' x)→cw A E c ρ'≤K→cw A E c ρ≤K
 | 0,c,h,_,_,_,_,_=>by have:=cD c;omega
 | k+1,.mk f n s t ks bs al,h,ρ,ρ',K,hx,O=>by
  obtain⟨I,J,N,_⟩:= @fN f n s t ks bs al;obtain⟨g0,g1,g2,g3,g4⟩:=fX.1 O;refine fX.2 ⟨g0,?_,fun x hm=>?_,fun x hm=>⟨?_,?_⟩,fun x hm=>?_⟩
  ·rw[iI (tn t) t (le_refl _) fun y q=>hx y (bC.2 (.inl q))];exact g1
  ·refine lM k x (by have:=I x hm;omega) (fun y q=>?_) (g2 x hm);by_cases h7:f=7
   ·rw[ξ h7,ξ h7];unfold fY;by_cases e:y=s
    ·rw[ξ e,ξ e]
    ·rw[φ e,φ e];exact hx y (bC.2 (.inr (.inl ⟨x,hm,q,.inr e⟩)))
   ·rw[φ h7,φ h7];exact hx y (bC.2 (.inr (.inl ⟨x,hm,q,.inl h7⟩)))
  ·rw[iI (tn x.ty) x.ty (le_refl _) fun y q=>hx y (bC.2 (.inr (.inr (.inl ⟨x,hm,.inl q⟩))))];exact(g3 x hm).1
  ·exact lM k x.body (by have:=J x hm;omega) (fun y q=>hx y (bC.2 (.inr (.inr (.inl ⟨x,hm,.inr q⟩))))) (g3 x hm).2
  ·exact lM k x.body (by have:=N x hm;omega) (fun y q=>hx y (bC.2 (.inr (.inr (.inr ⟨x,hm,q⟩))))) (g4 x hm)
theorem oG {A:Alg}{E:Nat}{c:Core}{ρ ρ':Str→Nat}(h:∀x∈tyR c,ρ x=ρ' x):cw A E c ρ=cw A E c ρ':=
 Nat.le_antisymm (lM _ c (le_refl _) h (le_refl _)) (lM _ c (le_refl _) (fun x hx=>(h x hx).symm) (le_refl _))
theorem rF {A:Alg}{E E':Nat}(q:E≤E'):∀(k:Nat) (c:Core),bE c≤k→∀{ρ ρ':Str→Nat}{K:Nat},(∀x,ρ x≤ρ' x)→cw A E' c ρ'≤K→cw A E c ρ≤K
 | 0,c,h,_,_,_,_,_=>by have:=cD c;omega
 | k+1,.mk f n s t ks bs al,h,ρ,ρ',K,hx,O=>by
  obtain⟨I,J,N,_⟩:= @fN f n s t ks bs al;obtain⟨g0,g1,g2,g3,g4⟩:=fX.1 O;refine fX.2 ⟨g0,le_trans (aB7 t hx) g1,fun x hm=>?_,fun x hm=>⟨le_trans (aB7 x.ty hx) (g3 x hm).1,?_⟩,fun x hm=>?_⟩
  ·refine rF q k x (by have:=I x hm;omega) (fun y=>?_) (g2 x hm);by_cases h7:f=7
   ·rw[ξ h7,ξ h7];unfold fY;split
    ·exact q
    ·exact hx y
   ·rw[φ h7,φ h7];exact hx y
  ·exact rF q k x.body (by have:=J x hm;omega) hx (g3 x hm).2
  ·exact rF q k x.body (by have:=N x hm;omega) hx (g4 x hm)
theorem sT {A:Alg}{E E':Nat}(q:E≤E') {c:Core}{ρ ρ':Str→Nat}(h:∀x,ρ x≤ρ' x):cw A E c ρ≤cw A E' c ρ':=rF q _ c (le_refl _) h (le_refl _)
set_option maxHeartbeats 4000000
structure CG (D M X:Nat) (c:Core):Prop where
 q:dD (QL X) c
 dep:cw jS 0 c r0≤D
 sc:(tyR c).length+2*tlC c≤M
 sz:m30 c≤Big
section
variable {D M X:Nat}{f n:Int}{s:Str}{t:Ty}{ks:List Core}{bs:List Bind}{al:List Alt}
theorem a2h (p:Prop) [Decidable p]:(if p then fY r0 s 0 else r0)=r0:=by split;exact aJ3 s;rfl
theorem CG.kid (h:CG D M X (.mk f n s t ks bs al)) {x:Core}(hx:x∈ks):CG D M X x∧((tyR x).length+2*tlC x+(if f=7 then 1 else 0)≤M)∧m30 x<m30 (.mk f n s t ks bs al):=by
 obtain⟨h1,h2,h3,h4⟩:=h;have g:=fL hx;have gl:m30 x<m30 (.mk f n s t ks bs al):=by rw[m30];omega
 have g2:=(mT (f:=f) (n:=n) (s:=s) (t:=t) (ks:=ks) (bs:=bs) (al:=al)).1 x hx;have g3:=(fX.1 h2).2.2.1 x hx;rw[a2h] at g3;have g4:(tyR x).length≤(tyR (.mk f n s t ks bs al)).length+(if f=7 then 1 else 0):=by
  by_cases h7:f=7
  ·rw[ξ h7];refine dP (a:=s::tyR (.mk f n s t ks bs al)) fun y q=>?_
   by_cases e:y=s
   ·rw[e];exact η
   ·exact ω _ (bC.2 (.inr (.inl ⟨x,hx,q,.inr e⟩)))
  ·rw[φ h7];exact dP fun y q=>bC.2 (.inr (.inl ⟨x,hx,q,.inl h7⟩))
 have g5:(tyR x).length+2*tlC x+(if f=7 then 1 else 0)≤M:=by split at g2<;>split at g4<;>simp_all<;>omega
 exact⟨⟨(aY.1 h1).2.1 x hx,g3,by omega,by omega⟩,g5,gl⟩
theorem CG.bind (h:CG D M X (.mk f n s t ks bs al)) {x:Bind}(hx:x∈bs):CG D M X x.body∧m30 x.body<m30 (.mk f n s t ks bs al):=by
 obtain⟨h1,h2,h3,h4⟩:=h;have g:=k8 hx;have gl:m30 x.body<m30 (.mk f n s t ks bs al):=by rw[m30];omega
 have g2:=(mT (f:=f) (n:=n) (s:=s) (t:=t) (ks:=ks) (bs:=bs) (al:=al)).2.1 x hx;have g4:(tyR x.body).length≤(tyR (.mk f n s t ks bs al)).length:=dP fun y q=>bC.2 (.inr (.inr (.inl ⟨x,hx,.inr q⟩)))
 exact⟨⟨(aY.1 h1).2.2.1 x hx,((fX.1 h2).2.2.2.1 x hx).2,by omega,by omega⟩,gl⟩
theorem CG.alt (h:CG D M X (.mk f n s t ks bs al)) {x:Alt}(hx:x∈al):CG D M X x.body∧m30 x.body<m30 (.mk f n s t ks bs al):=by
 obtain⟨h1,h2,h3,h4⟩:=h;have g:=gU hx;have gl:m30 x.body<m30 (.mk f n s t ks bs al):=by rw[m30];omega
 have g2:=(mT (f:=f) (n:=n) (s:=s) (t:=t) (ks:=ks) (bs:=bs) (al:=al)).2.2 x hx;have g4:(tyR x.body).length≤(tyR (.mk f n s t ks bs al)).length:=dP fun y q=>bC.2 (.inr (.inr (.inr ⟨x,hx,q⟩)))
 exact⟨⟨(aY.1 h1).2.2.2 x hx,(fX.1 h2).2.2.2.2 x hx,by omega,by omega⟩,gl⟩
theorem CG.ty (h:CG D M X (.mk f n s t ks bs al)):wfS t=true∧fvm t≤M+D∧∀b∈bs,wfS b.ty=true∧fvm b.ty≤M+D:=by
 obtain⟨h1,h2,h3,h4⟩:=h;obtain⟨⟨_,_,I,N,_⟩,_⟩:=aY.1 h1;obtain⟨_,c1,_,O,_⟩:=fX.1 h2;refine⟨I,?_,fun b hb=>?_⟩
 ·have g1:=sO (tn t) t (le_refl _) I;have g2:(tfR t).length≤(tyR (.mk f n s t ks bs al)).length:=fK _ _ (wE t) fun y q=>bC.2 (.inl q)
  omega
 ·have J:=N (bhd b) (Af.2 ⟨b,hb,rfl⟩);have g1:=sO (tn b.ty) b.ty (le_refl _) J;have g2:(tfR b.ty).length≤(tyR (.mk f n s t ks bs al)).length:=fK _ _ (wE b.ty) fun y q=>bC.2 (.inr (.inr (.inl ⟨b,hb,.inl q⟩)))
  have g3:=(O b hb).1
  exact⟨J,by omega⟩
end
theorem aI1 {K:Nat}:∀{l:List Core},(∀x∈l,tyM x≤K)→aSb l≤K
 | [],_=>by rw[aSb];exact Aj _
 | c::l,h=>by
  rw[aSb];have:=h c η;have:=aI1 (l:=l) fun x hx=>h x (ω _ hx)
  omega
theorem aI2 {K:Nat}:∀{l:List Bind},(∀x∈l,fw x.ty≤K∧tyM x.body≤K)→aI3 l≤K
 | [],_=>by rw[aI3];exact Aj _
 | .mk s t c::l,h=>by
  rw[aI3];have h1:fw t≤K∧tyM c≤K:=h _ η;have:=aI2 (l:=l) fun x hx=>h x (ω _ hx)
  omega
theorem aI4 {K:Nat}:∀{l:List Alt},(∀x∈l,tyM x.body≤K)→aPb l≤K
 | [],_=>by rw[aPb];exact Aj _
 | .mk f n s v c::l,h=>by
  rw[aPb];have h1:tyM c≤K:=h _ η;have:=aI4 (l:=l) fun x hx=>h x (ω _ hx)
  omega
theorem CG.tyM {D M X:Nat}:∀(k:Nat) (c:Core),m30 c≤k→CG D M X c→tyM c≤M+D
 | 0,c,h,_=>by have:=eY c;omega
 | k+1,.mk f n s t ks bs al,h,hc=>by
  obtain⟨h1,h2,h3⟩:=hc.ty;have g1:=aTc h1;have g2:=hc.sc;have g3:=aI1 (K:=M+D) (l:=ks) fun x hx=>CG.tyM k x (by have:=(hc.kid hx).2.2;omega) (hc.kid hx).1
  have g4:=aI2 (K:=M+D) (l:=bs) fun x hx=>⟨le_trans (aTc (h3 x hx).1) (h3 x hx).2,CG.tyM k x.body (by have:=(hc.bind hx).2;omega) (hc.bind hx).1⟩
  have g5:=aI4 (K:=M+D) (l:=al) fun x hx=>CG.tyM k x.body (by have:=(hc.alt hx).2;omega) (hc.alt hx).1
  rw[Go.Proofs.YtglfogjcijokpaaGreatDoor.tyM];omega
theorem CG.allT {D M X:Nat}{p:Ty→Prop}(hp:∀t,wfS t=true→fvm t≤M+D→p t):∀(k:Nat) (c:Core),m30 c≤k→CG D M X c→allT p c
 | 0,c,h,_=>by have:=eY c;omega
 | k+1,.mk f n s t ks bs al,h,hc=>by
  obtain⟨h1,h2,h3⟩:=hc.ty;rw[Go.Proofs.YtglfogjcijokpaaGreatDoor.allT]
  exact⟨hp t h1 h2,tF.2 fun x hx=>CG.allT hp k x (by have:=(hc.kid hx).2.2;omega) (hc.kid hx).1,
   tJ.2 fun x hx=>⟨hp x.ty (h3 x hx).1 (h3 x hx).2,CG.allT hp k x.body (by have:=(hc.bind hx).2;omega) (hc.bind hx).1⟩,
   tK.2 fun x hx=>CG.allT hp k x.body (by have:=(hc.alt hx).2;omega) (hc.alt hx).1⟩
theorem CG.tyG {D M X:Nat}(q:dA 540000000000) (I:M+D≤700000) {c:Core}(hc:CG D M X c):Go.Proofs.YtglfogjcijokpaaGreatDoor.allT TyG c:=hc.allT (fun t h1 h2=>aM6 q t h1 (by omega)) _ c (le_refl _)
theorem CG.types {D M X:Nat}(q:M+D≤700000) {c:Core}(hc:CG D M X c):aQ Tryz.prog 76 [.pa (aC c)] [] (bI (tyR c)) []∧(tyR c).length≤700000:=by
 have h1:=hc.tyM _ c (le_refl _);have h2:=cV c;have h3:=hc.sz;have h4:Big=250000000000:=rfl;exact⟨aAy _ c (le_refl _) (by omega) (by omega),by have:=hc.sc;omega⟩
noncomputable def sTR:Nat→Core→Str→Ty→Core
 | 0,c,_,_=>c
 | k+1,.mk f n nm t ks bs al,name,u=>
  if f=7∧(nm=name∨¬name∈tyR (.mk f n nm t ks bs al)) then .mk f n nm t ks bs al
  else if f=7∧nm∈tfR u then
   fQ (fun t=>bP t [(name,u)]) (fun x=>sTR k x name u) (.mk f n (b9 (tfR u++ks.flatMap tyR)) t (ks.map fun x=>sTR k x nm (vT (b9 (tfR u++ks.flatMap tyR)))) bs al)
  else fQ (fun t=>bP t [(name,u)]) (fun x=>sTR k x name u) (.mk f n nm t ks bs al)
structure UOk (u:Ty):Prop where
 wf:wfS u=true
 fv:fvm u≤700000
theorem UOk.ps {u:Ty}(h:UOk u) (name:Str):PsOk [(name,u)]:=⟨by simp,fun p hp=>by rw[ζ.1 hp];exact⟨h.wf,h.fv⟩,by simp⟩
theorem UOk.var (z:Str):UOk (vT z):=⟨aBs,by unfold vT;rw[pI];decide⟩
theorem j5 (ps:List (Str×Ty)):bP zTy ps=zTy:=wD (tn zTy) zTy (le_refl _) rfl ps fun p _ h=>by
 have:tfR zTy=[]:=rfl;rw[this] at h;cases h
theorem a1s (A:Alg) (ρ:Str→Nat) (name:Str) (u:Ty):aJ9 A ρ [(name,u)]=fY ρ name (tW A u ρ):=by
 funext x;unfold aJ9 fY;by_cases e:x=name
 ·rw[ξ e,Ch (by simp[e])]
 ·rw[φ e,Ci (by simp;exact fun h=>e h.symm)];rfl
structure SB (X:Nat) (c:Core) (name:Str) (u:Ty) (r:Core):Prop where
 imp:aQ Tryz.prog 32 [.pa (aC c),Go.AM.T name,tyV u] [] (.pa (aC r)) []
 q:dD (QL X) r
 cw:∀(A:Alg) (E:Nat) (ρ:Str→Nat),cw A E r ρ≤cw A E c (fY ρ name (tW A u ρ))
 ty:∀x∈tyR r,x∈tyR c∨x∈tfR u
 tl:tlC r≤tlC c
 sz:m30 r≤m30 c
theorem xD {s s':Str}{J q:List (Str×Ty)}{N I:List (Str×List Str)}(hs:w30 s'≤w30 s) (hb:q.map (·.1)=J.map (·.1)) (ha:I=N):lw s' q I≤lw s J N:=by
 subst ha;unfold lw;have e:∀l:List (Str×Ty),(l.map fun p=>1+w30 p.1)=(l.map (·.1)).map fun x=>1+w30 x:=fun l=>by rw[Bj];rfl
 rw[e J,e q,hb];omega
section
variable {X:Nat}{ts:Ty→Ty}{sb:Core→Core}{f n:Int}{nm nm1:Str}{t:Ty}{ks ks1:List Core}{bs:List Bind}{al:List Alt}
theorem aHc (h:QL X f nm t ks.length (bs.map bhd) (al.map ahd)) (hn:w30 nm1≤w30 nm) (O:f=5→nm1=nm) (W:f=7→¬nm1=[]) (hk:ks1.length=ks.length) (Z:ts zTy=zTy) (h0:wfS (ts t)=true) (hb:∀b∈bs,wfS (ts b.ty)=true)
  (h1:∀x∈ks1,dD (QL X) (sb x)) (h2:∀b∈bs,dD (QL X) (sb b.body)) (h3:∀a∈al,dD (QL X) (sb a.body)):dD (QL X) (fQ ts sb (.mk f n nm1 t ks1 bs al)):=by
 obtain⟨g1,g2,g3,g4,g5,g6,g7,g8⟩:=h;rw[fQ];have Y:(al.map fun a=>Alt.mk a.form a.n a.name a.vars (sb a.body)).map ahd=al.map ahd:=by rw[Bj];rfl
 have eb:((bs.map fun b=>Bind.mk b.name (ts b.ty) (sb b.body)).map bhd).map (·.1)=(bs.map bhd).map (·.1):=by rw[Bj,Bj,Bj];rfl
 refine aY.2 ⟨⟨?_,fun h7=>⟨by rw[(g2 h7).1];exact Z,W h7⟩,h0,fun p hp=>?_,le_trans (xD hn eb Y) g5,fun h5=>by rw[O h5];exact g6 h5,fun p hp=>?_,by rw[Y];exact g8⟩,fun x hx=>?_,fun x hx=>?_,fun x hx=>?_⟩
 ·rw[θ,θ,θ,θ,θ,hk];rw[θ,θ] at g1;exact g1
 ·obtain⟨b,q,rfl⟩:=Af.1 hp;obtain⟨N,I,rfl⟩:=Af.1 q;exact hb N I
 ·obtain⟨b,q,rfl⟩:=Af.1 hp;obtain⟨N,I,rfl⟩:=Af.1 q;exact g7 (bhd N) (Af.2 ⟨N,I,rfl⟩)
 ·obtain⟨y,J,rfl⟩:=Af.1 hx;exact h1 y J
 ·obtain⟨y,J,rfl⟩:=Af.1 hx;exact h2 y J
 ·obtain⟨y,J,rfl⟩:=Af.1 hx;exact h3 y J
theorem aEs (hf:tlC (.mk f n nm1 t ks1 bs al)≤tlC (.mk f n nm t ks bs al)) (h1:∀x∈ks1,tlC (sb x)≤tlC x) (h2:∀b∈bs,tlC (sb b.body)≤tlC b.body) (h3:∀a∈al,tlC (sb a.body)≤tlC a.body):
  tlC (fQ ts sb (.mk f n nm1 t ks1 bs al))≤tlC (.mk f n nm t ks bs al):=by
 refine le_trans ?_ hf;rw[fQ]
 conv=>rhs;rw[tlC]
 refine yY.2 ⟨fun x hx=>?_,fun x hx=>?_,fun x hx=>?_⟩
 ·obtain⟨y,q,rfl⟩:=Af.1 hx;exact le_trans (h1 y q) (le_trans (aB2.1 (le_refl _) y q) (le_max_left ..))
 ·obtain⟨y,q,rfl⟩:=Af.1 hx;exact le_trans (h2 y q) (le_trans (aB3.1 (le_refl _) y q) (le_trans (le_max_left ..) (le_max_right ..)))
 ·obtain⟨y,q,rfl⟩:=Af.1 hx;exact le_trans (h3 y q) (le_trans (aB4.1 (le_refl _) y q) (le_trans (le_max_right ..) (le_max_right ..)))
end
theorem tT {z:Str}:tfR (vT z)=[z]:=by unfold vT;rw[tfR,ξ rfl]
theorem aDj (hI:dA 540000000000) {D M X:Nat}(hMD:M+D≤700000):∀(k:Nat) (c:Core),m30 c≤k→CG D M X c→∀(name:Str) (u:Ty),UOk u→SB X c name u (sTR k c name u):=by
 intro k
 induction k with
 | zero=>intro c h;have:=eY c;omega
 | succ k ih=>
 intro c h hc name u hu;have hTG:=hc.tyG hI hMD;obtain⟨hty,htl⟩:=hc.types hMD;have hcs:=cV c;have hsz:=hc.sz;have hBig:Big=250000000000:=rfl;have hfr:=oL (tn u) u (le_refl _) hu.wf (le_trans hu.fv (by decide));have hfl:=oB u;have hufv:=hu.fv;obtain⟨f,n,nm,t,ks,bs,al⟩:=c;obtain⟨ht0,ht1,Y⟩:=hc.ty;have hq:=hc.q;obtain⟨q1,q2,q3,q4⟩:=aY.1 hq;rw[sTR];have hps:=hu.ps name;have htt:∀v,wfS v=true→fvm v≤M+D→wfS (bP v [(name,u)])=true∧aQ Tryz.prog 28 [tyV v,bI [name],.one (.c (.sl 4 [aO u]))] [] (tyV (bP v [(name,u)])) []:=fun v h1 h2=>jG hI (tn v) v (le_refl _) h1 (by omega) _ hps
 have hcwt:∀v,wfS v=true→fvm v≤M+D→∀A ρ,tW A (bP v [(name,u)]) ρ≤tW A v (fY ρ name (tW A u ρ)):=fun v h1 h2 A ρ=>by
  have:=aXm A (tn v) v (le_refl _) h1 (by omega) _ hps ρ;rwa [a1s] at this
 have htft:∀v,wfS v=true→∀x∈tfR (bP v [(name,u)]),x∈tfR v∨x∈tfR u:=fun v h1 x hx=>by
  rcases aJe (tn v) v (le_refl _) h1 _ x hx with h | ⟨p,hp,_,h⟩
  ·exact .inl h.1
  ·rw[ζ.1 hp] at h;exact .inr h
 by_cases h7:f=7
 ·subst h7;obtain⟨⟨kid,rfl⟩,rfl,rfl⟩:=fJ hq (.inr (.inr rfl));obtain⟨g1,g2,g3⟩:=hc.kid (x:=kid) η;rw[ξ rfl] at g2;obtain rfl:t=zTy:=(q1.2.1 rfl).1
  have hz0:tfR zTy=[]:=rfl;by_cases hs:nm=name∨¬name∈tyR (.mk 7 n nm zTy [kid] [] [])
  ·rw[ξ ⟨rfl,hs⟩];have hno:¬name∈tyR (.mk 7 n nm zTy [kid] [] []):=by
    rcases hs with rfl | hs
    ·intro hin;rcases bC.1 hin with h | ⟨x,_,_,h | h⟩ | ⟨b,hb,_⟩ | ⟨a,ha,_⟩
     ·rw[hz0] at h;cases h
     ·exact h rfl
     ·exact h rfl
     ·cases hb
     ·cases ha
    ·exact hs
   refine⟨aNe 7 n nm name zTy u [kid] [] [] (by omega) hTG rfl ?_,hq,fun A E ρ=>?_,fun x hx=>.inl hx,le_refl _,le_refl _⟩
   ·by_cases e:nm=name
    ·exact .inl e
    ·exact .inr ⟨e,_,hty,hno,by omega⟩
   ·refine le_of_eq (oG fun x hx=>?_);unfold fY;rw[φ fun e=>hno (by rw[←e];exact hx)]
  have hne:nm≠name:=fun e=>hs (.inl e)
  have hin:name∈tyR (.mk 7 n nm zTy [kid] [] []):=Classical.byContradiction fun e=>hs (.inr e)
  have hink:name∈tyR kid:=by
   rcases bC.1 hin with h | ⟨x,hx,h,_⟩ | ⟨b,hb,_⟩ | ⟨a,ha,_⟩
   ·rw[hz0] at h;cases h
   ·rw[←ζ.1 hx];exact h
   ·cases hb
   ·cases ha
  rw[φ fun e=>hs e.2];obtain⟨hkty,hktl⟩:=g1.types hMD;have hend:∀(nm1:Str) (I:Core),w30 nm1≤w30 nm→CG D M X I→m30 I≤m30 kid→tlC I≤tlC kid→(∀x∈tyR I,x=nm1∨x∈tyR kid∨x∈tfR u)→(∀x∈tyR I,x=nm→nm1=nm∨nm∈tfR u)→¬nm1∈tfR u→¬nm1=[]→
    (∀(A:Alg) (E:Nat) (ρ:Str→Nat),cw A E I (fY (fY ρ nm1 E) name (tW A u ρ))≤cw A E kid (fY (fY ρ name (tW A u ρ)) nm E))→
    aQ Tryz.prog 77 [.one (.vp 700 0),bI (tfR u)] (gHl 7 n nm zTy [kid] [] []) (.tup []) (gHl 7 n nm1 zTy [I] [] [])→
    SB X (.mk 7 n nm zTy [kid] [] []) name u (fQ (fun t=>bP t [(name,u)]) (fun x=>sTR k x name u) (.mk 7 n nm1 zTy [I] [] [])):=fun nm1 I hw hk1 hkm hkt hkx hky hno hn1 hkc himp=>by
   have hS:=ih I (by omega) hk1 name u hu;refine⟨aAu 7 n nm nm1 name zTy u [kid] [I] [] [] (fun t=>bP t [(name,u)]) (fun x=>sTR k x name u) (by omega) hTG rfl (fun _=>⟨hne,rfl,rfl,_,_,hty,hin,by omega,hfr,himp⟩) (fun e=>absurd rfl e) (fun v hv=>?_) (fun x hx=>?_),?_,fun A E ρ=>?_,fun x hx=>?_,?_,?_⟩
   ·rcases hv with rfl | ⟨b,hb,_⟩
    ·exact(htt zTy rfl ht1).2
    ·cases hb
   ·rcases hx with hx | ⟨b,hb,_⟩ | ⟨a,ha,_⟩
    ·rw[ζ.1 hx];exact hS.imp
    ·cases hb
    ·cases ha
   ·exact aHc (ks:=[kid]) (nm:=nm) q1 hw (fun e=>absurd e (by decide)) (fun _=>hn1) rfl (j5 _) (by rw[j5];rfl) (fun b hb=>by cases hb) (fun x hx=>by rw[ζ.1 hx];exact hS.q) (fun b hb=>by cases hb) (fun a ha=>by cases ha)
   ·rw[fQ];obtain⟨c0,c1,c2,_,_⟩:=fX.1 (le_refl (cw A E (.mk 7 n nm zTy [kid] [] []) (fY ρ name (tW A u ρ))));refine fX.2 ⟨c0,by rw[j5];exact le_trans (le_of_eq (iI (tn zTy) zTy (le_refl _) fun x hx=>by rw[hz0] at hx;cases hx)) c1,fun x hx=>?_,fun b hb=>(by cases hb),fun a ha=>(by cases ha)⟩;obtain⟨y,J,rfl⟩:=Af.1 hx;rw[ζ.1 J,ξ rfl];have c2:=c2 kid η;rw[ξ rfl] at c2;refine le_trans (hS.cw A E (fY ρ nm1 E)) (le_trans ?_ c2);have e:tW A u (fY ρ nm1 E)=tW A u ρ:=iI (tn u) u (le_refl _) fun y J=>by
     unfold fY;rw[φ fun e=>hno (by rw[←e];exact J)]
    rw[e];exact hkc A E ρ
   ·rw[fQ] at hx;rcases bC.1 hx with h | ⟨y,J,h,hne'⟩ | ⟨b,hb,_⟩ | ⟨a,ha,_⟩
    ·rw[j5,hz0] at h;cases h
    ·obtain⟨W,N,rfl⟩:=Af.1 J;rw[ζ.1 N] at h;have hne':¬x=nm1:=hne'.resolve_left (fun e=>e rfl);rcases hS.ty x h with h | h
     ·rcases hkx x h with h' | h' | h'
      ·exact absurd h' hne'
      ·by_cases e:x=nm
       ·rcases hky x h e with e2 | e2
        ·exact absurd (e.trans e2.symm) hne'
        ·exact .inr (by rw[e];exact e2)
       ·exact .inl (bC.2 (.inr (.inl ⟨kid,η,h',.inr e⟩)))
      ·exact .inr h'
     ·exact .inr h
    ·cases hb
    ·cases ha
   ·refine aEs ?_ (fun x hx=>by rw[ζ.1 hx];exact hS.tl) (fun b hb=>by cases hb) (fun a ha=>by cases ha);rw[tlC,tlC,jT,jT,jT,jT];omega
   ·exact aL0 hw (by rw[dI,dI,dI,dI];omega) (fun x hx=>by rw[ζ.1 hx];exact hS.sz) (fun b hb=>by cases hb) (fun a ha=>by cases ha)
  by_cases hnf:nm∈tfR u
  ·rw[ξ ⟨rfl,hnf⟩];have efm:[kid].flatMap tyR=tyR kid:=by simp
   rw[efm,Al,Bn];have hzo:=mG (tfR u++tyR kid);have hz30:(b9 (tfR u++tyR kid)).length≤30:=pK _ (by rw[τ];omega);have hzn:=xN (tfR u++tyR kid);generalize hze:b9 (tfR u++tyR kid)=z at hzo hz30 hzn;have O:=ih kid (by omega) g1 nm (vT z) (UOk.var z);have hkid1:CG D M X (sTR k kid nm (vT z)):=by
    refine⟨O.q,?_,?_,le_trans O.sz g1.sz⟩
    ·have:=O.cw jS 0 r0;have e:tW jS (vT z) r0=0:=rfl;rw[e,aJ3] at this;exact le_trans this g1.dep
    ·have h1:=dP (a:=z::tyR kid) (c:=sTR k kid nm (vT z)) fun x hx=>by
      rcases O.ty x hx with h | h
      ·exact ω _ h
      ·rw[tT] at h;rw[ζ.1 h];exact η
     rw[Ak] at h1;have h2:=O.tl;omega
   have hcl:=aGy n nm zTy kid (sTR k kid nm (vT z)) (tfR u) (by omega) hnf hI hkty (by omega) (by rw[hze];exact O.imp);rw[hze] at hcl;refine hend z _ (aHf hz30) hkid1 O.sz O.tl (fun x hx=>?_) (fun _ _ _=>.inr hnf) (fun h=>hzo (δ.2 (.inl h))) hzn (fun A E ρ=>?_) hcl
   ·rcases O.ty x hx with h | h
    ·exact .inr (.inl h)
    ·rw[tT] at h;exact .inl (ζ.1 h)
   ·refine le_trans (O.cw A E _) (le_of_eq (oG fun x hx=>?_));have hzn:¬z=name:=fun e=>hzo (by rw[e];exact δ.2 (.inr hink))
    have e:tW A (vT z) (fY (fY ρ z E) name (tW A u ρ))=E:=by
     unfold vT;rw[tW,ξ rfl];unfold fY;rw[φ hzn,ξ rfl]
    rw[e];unfold fY;by_cases e1:x=nm
    ·rw[ξ e1,ξ e1]
    ·rw[φ e1,φ e1];by_cases e2:x=name
     ·rw[ξ e2,ξ e2]
     ·rw[φ e2,φ e2,φ fun e3=>hzo (by rw[←e3];exact δ.2 (.inr hx))]
  ·rw[φ fun e=>hnf e.2];refine hend nm kid (le_refl _) g1 (le_refl _) (le_refl _) (fun x hx=>.inr (.inl hx)) (fun _ _ _=>.inl rfl) hnf (q1.2.1 rfl).2 (fun A E ρ=>?_) (aGz n nm zTy kid (tfR u) (by omega) hnf);refine le_of_eq (oG fun x _=>?_);unfold fY;by_cases e1:x=nm
   ·rw[ξ e1,ξ e1,φ fun e2=>hne (e1.symm.trans e2)]
   ·rw[φ e1,φ e1]
 ·rw[φ fun e=>h7 e.1,φ fun e=>h7 e.1];have hk:∀x∈ks,SB X x name u (sTR k x name u):=fun x hx=>ih x (by have:=(hc.kid hx).2.2;omega) (hc.kid hx).1 name u hu
  have hb:∀x∈bs,SB X x.body name u (sTR k x.body name u):=fun x hx=>ih x.body (by have:=(hc.bind hx).2;omega) (hc.bind hx).1 name u hu
  have ha:∀x∈al,SB X x.body name u (sTR k x.body name u):=fun x hx=>ih x.body (by have:=(hc.alt hx).2;omega) (hc.alt hx).1 name u hu
  refine⟨aAu f n nm nm name t u ks ks bs al (fun t=>bP t [(name,u)]) (fun x=>sTR k x name u) (by omega) hTG rfl (fun e=>absurd e h7) (fun _=>⟨rfl,rfl⟩) (fun v hv=>?_) (fun x hx=>?_),?_,fun A E ρ=>?_,fun x hx=>?_,?_,?_⟩
  ·rcases hv with rfl | ⟨b,Z,rfl⟩
   ·exact(htt _ ht0 ht1).2
   ·exact(htt _ (Y b Z).1 (Y b Z).2).2
  ·rcases hx with hx | ⟨b,Z,rfl⟩ | ⟨a,ha',rfl⟩
   ·exact(hk x hx).imp
   ·exact(hb b Z).imp
   ·exact(ha a ha').imp
  ·exact aHc q1 (le_refl _) (fun _=>rfl) (fun e=>absurd e h7) rfl (j5 _) (htt t ht0 ht1).1 (fun b Z=>(htt b.ty (Y b Z).1 (Y b Z).2).1) (fun x hx=>(hk x hx).q) (fun x hx=>(hb x hx).q) (fun x hx=>(ha x hx).q)
  ·rw[fQ];obtain⟨c0,c1,c2,c3,c4⟩:=fX.1 (le_refl (cw A E (.mk f n nm t ks bs al) (fY ρ name (tW A u ρ))));refine fX.2 ⟨c0,le_trans (hcwt t ht0 ht1 A ρ) c1,fun x hx=>?_,fun x hx=>?_,fun x hx=>?_⟩
   ·obtain⟨y,J,rfl⟩:=Af.1 hx;have:=c2 y J;rw[φ h7] at this ⊢;exact le_trans ((hk y J).cw A E ρ) this
   ·obtain⟨y,J,rfl⟩:=Af.1 hx;exact⟨le_trans (hcwt y.ty (Y y J).1 (Y y J).2 A ρ) (c3 y J).1,le_trans ((hb y J).cw A E ρ) (c3 y J).2⟩
   ·obtain⟨y,J,rfl⟩:=Af.1 hx;exact le_trans ((ha y J).cw A E ρ) (c4 y J)
  ·rw[fQ] at hx;rcases bC.1 hx with h | ⟨y,J,h,_⟩ | ⟨y,J,h⟩ | ⟨y,J,h⟩
   ·exact(htft t ht0 x h).imp (fun h=>bC.2 (.inl h)) id
   ·obtain⟨W,N,rfl⟩:=Af.1 J;exact((hk W N).ty x h).imp (fun h=>bC.2 (.inr (.inl ⟨W,N,h,.inl h7⟩))) id
   ·obtain⟨W,N,rfl⟩:=Af.1 J;rcases h with h | h
    ·exact(htft W.ty (Y W N).1 x h).imp (fun h=>bC.2 (.inr (.inr (.inl ⟨W,N,.inl h⟩)))) id
    ·exact((hb W N).ty x h).imp (fun h=>bC.2 (.inr (.inr (.inl ⟨W,N,.inr h⟩)))) id
   ·obtain⟨W,N,rfl⟩:=Af.1 J;exact((ha W N).ty x h).imp (fun h=>bC.2 (.inr (.inr (.inr ⟨W,N,h⟩)))) id
  ·exact aEs (le_refl _) (fun x hx=>(hk x hx).tl) (fun x hx=>(hb x hx).tl) (fun x hx=>(ha x hx).tl)
  ·exact aL0 (le_refl _) (le_refl _) (fun x hx=>(hk x hx).sz) (fun x hx=>(hb x hx).sz) (fun x hx=>(ha x hx).sz)
noncomputable def aZ4:Core→List Str→Core
 | .mk f n nm t ks bs al,far=>if nm∈far then .mk f n (b9 (far++ks.flatMap tyR)) t (ks.map fun x=>sTR (m30 x) x nm (vT (b9 (far++ks.flatMap tyR)))) bs al else .mk f n nm t ks bs al
open Classical in
noncomputable def eQ:Nat→Core→Str→Core→Core
 | 0,c,_,_=>c
 | k+1,c,s,b=>if c.form=1∧c.name=s then b else tS (eQ k) s b (if c.form=7∧s∈pfR c then aZ4 c (tyR b) else c)
structure RX (X:Nat) (b p r:Core):Prop where
 q:dD (QL X) r
 cw:∀(A:Alg) (E:Nat) (ρ:Str→Nat),cw A E r ρ≤max (cw A E p ρ) (cw A E b ρ)
 ty:∀x∈tyR r,x∈tyR p∨x∈tyR b
 tl:tlC r≤tlC p+tlC b
structure R0 (p q:Core):Prop where
 cw:∀(A:Alg) (E:Nat) (ρ:Str→Nat),cw A E q ρ≤cw A E p ρ
 ty:∀x∈tyR q,x∈tyR p
 tl:tlC q≤tlC p
 sz:m30 q≤m30 p
theorem R0.refl (p:Core):R0 p p:=⟨fun _ _ _=>le_refl _,fun _ h=>h,le_refl _,le_refl _⟩
theorem R0.trans {p q r:Core}(h:R0 p q) (k:R0 q r):R0 p r:=⟨fun A E ρ=>le_trans (k.cw A E ρ) (h.cw A E ρ),fun x hx=>h.ty x (k.ty x hx),le_trans k.tl h.tl,le_trans k.sz h.sz⟩
theorem R0.rx {X:Nat}{b p q r:Core}(h:R0 p q) (k:RX X b q r):RX X b p r:=
 ⟨k.q,fun A E ρ=>le_trans (k.cw A E ρ) (by have:=h.cw A E ρ;omega),fun x hx=>(k.ty x hx).imp (h.ty x) id,by have:=k.tl;have:=h.tl;omega⟩
theorem R0.cg {D M X:Nat}{p q:Core}(h:R0 p q) (hp:CG D M X p) (I:dD (QL X) q):CG D M X q:=
 ⟨I,le_trans (h.cw jS 0 r0) hp.dep,by have:=hp.sc;have:=h.tl;have:=dP (a:=tyR p) h.ty;omega,le_trans h.sz hp.sz⟩
structure TB (X:Nat) (c:Core) (s:Str) (b r:Core):Prop where
 imp:aQ Tryz.prog 99 [.pa (aC c),Go.AM.T s,.pa (aC b)] [] (.pa (aC r)) []
 rx:RX X b c r
 sz:∀B,1≤B→m30 b≤31*B→m30 r≤m30 c*B
theorem aT2 {z:Str}:tyR (vC z)=[]:=rfl
theorem aXo {z:Str}:tlC (vC z)=0:=rfl
theorem aZ3 {A:Alg}{E:Nat}{ρ:Str→Nat}{z:Str}:cw A E (vC z) ρ=A.k:=by
 refine Nat.le_antisymm (fX.2 ⟨le_refl _,?_,fun x hx=>(by cases hx),fun x hx=>(by cases hx),fun x hx=>(by cases hx)⟩) (a3d _)
 exact le_of_eq (iI (tn zTy) zTy (le_refl _) fun x hx=>by
  have:tfR zTy=[]:=rfl
  rw[this] at hx;cases hx)
theorem TB.r0 {X:Nat}{c:Core}{s z:Str}{r:Core}(q:z.length≤30) (h:TB X c s (vC z) r):R0 c r:=
 ⟨fun A E ρ=>by have:=h.rx.cw A E ρ;rw[aZ3] at this;have:=a3d (A:=A) (E:=E) (ρ:=ρ) c;omega,
  fun x hx=>(h.rx.ty x hx).resolve_right (by rw[aT2];exact not_mem_nil),by have:=h.rx.tl;rw[aXo] at this;omega,
  by have:=h.sz 1 (le_refl _) (by rw[aS5 q];exact le_refl _);rwa [mul_one] at this⟩
theorem CG.vC {D M X:Nat}{z:Str}(q:z.length≤30) (I:31≤X):CG D M X (vC z):=by
 refine⟨aY.2 ⟨⟨rfl,fun h=>by omega,rfl,fun p hp=>(by cases hp),?_,fun h=>by omega,fun p hp=>(by cases hp),fun p hp=>(by cases hp)⟩,fun x hx=>(by cases hx),fun x hx=>(by cases hx),fun x hx=>(by cases hx)⟩,?_,?_,?_⟩
 ·show lw z [] []≤X;unfold lw w30;simp only[Bn,sum_nil];omega
 ·rw[aZ3];exact Aj _
 ·rw[aT2,aXo];exact Aj _
 ·rw[aS5 q];decide
section
variable {sb:Core→Str→Core→Core}{P:Core→Prop}{X:Nat}{s:Str}{b:Core}
theorem s7 {ns:List Str}{ps:List Core}(Y:∀p∈ps,P p) (J:∀p,P p→dD (QL X) p) (Z:∀p n z,P p→z.length≤30→P (sb p n (vC z))∧R0 p (sb p n (vC z))) (hs:∀p,P p→RX X b p (sb p s b))
  (hl:(ps.flatMap pfR).length+2*ns.length+(pfR b).length≤540000000000):A2 (RX X b) ps (dN sb s b ns ps).2∧A2 NR ns (dN sb s b ns ps).1:=by
 obtain⟨⟨I,h1,h2⟩,h3⟩:=aFe (sb:=sb) (Rel:=fun p q=>P p→(P q∧R0 p q)) (fun p h=>⟨h,R0.refl p⟩)
  (fun p q r N O h=>by
   obtain⟨a1,a2⟩:=N h;obtain⟨b1,b2⟩:=O a1
   exact⟨b1,a2.trans b2⟩) (s:=s) (b:=b) (ns:=ns) (ps:=ps) (fun p n z W h=>Z p n z h W) hl
 have key:∀{ps I:List Core},A2 (fun p q=>P p→(P q∧R0 p q)) ps I→(∀p∈ps,P p)→A2 (RX X b) ps I∧A2 (RX X b) ps (I.map fun p=>sb p s b):=by
  intro ps I h
  induction h with
  | nil=>intro _;exact⟨.nil,.nil⟩
  | cons r _ ih=>
   intro hp;obtain⟨i1,i2⟩:=ih fun p h=>hp p (ω _ h)
   obtain⟨g1,g2⟩:=r (hp _ η);exact⟨.cons ⟨J _ g1,fun A E ρ=>le_trans (g2.cw A E ρ) (le_max_left ..),fun x hx=>.inl (g2.ty x hx),le_trans g2.tl (Nat.le_add_right _ _)⟩ i1,.cons (g2.rx (hs _ g1)) i2⟩
 obtain⟨k1,k2⟩:=key h1 Y;refine⟨?_,h3⟩;rcases h2 with h2 | h2
 ·rw[h2];exact k1
 ·rw[h2];exact k2
end
mutual
theorem lS:∀c:Core,allT (fun _=>True) c
 | .mk _ _ _ _ ks bs al=>⟨trivial,vZ ks,w6 bs,w7 al⟩
theorem vZ:∀l:List Core,aBe (fun _=>True) l
 | []=>trivial
 | c::l=>⟨lS c,vZ l⟩
theorem w6:∀l:List Bind,aBf (fun _=>True) l
 | []=>trivial
 | .mk _ _ c::l=>⟨trivial,lS c,w6 l⟩
theorem w7:∀l:List Alt,aBh (fun _=>True) l
 | []=>trivial
 | .mk _ _ _ _ c::l=>⟨lS c,w7 l⟩
end
theorem nX:∀{ts:List Ty}{ns:List Str}{ps:List Core},ns.length=ts.length→ps.length=ts.length→(mkB ts ns ps).map Bind.name=ns
 | [],[],_,_,_=>by unfold mkB;rfl
 | t::ts,n::ns,p::ps,h1,h2=>by
  simp only[Ak] at h1 h2;rw[mkB,Al,nX (ts:=ts) (by omega) (by omega)];rfl
section
variable {sb:Core→Str→Core→Core}{X:Nat}{s:Str}{b:Core}{f n:Int}{nm:Str}{t:Ty}{ks:List Core}{bs:List Bind}{al:List Alt}
theorem aWv (h7:f≠7) (hq:dD (QL X) (.mk f n nm t ks bs al)) (hg:A2 (RX X b) (ks++bs.map Bind.body) (dN sb s b (gvN f nm bs) (ks++bs.map Bind.body)).2) (hn:A2 NR (gvN f nm bs) (dN sb s b (gvN f nm bs) (ks++bs.map Bind.body)).1)
  (ha:∀a∈al,A2 (RX X b) [a.body] (dN sb s b a.vars [a.body]).2∧A2 NR a.vars (dN sb s b a.vars [a.body]).1):RX X b (.mk f n nm t ks bs al) (tS sb s b (.mk f n nm t ks bs al)):=by
 obtain⟨⟨q1,q2,q3,q4,q5,q6,q7,q8⟩,qk,qb,qa⟩:=aY.1 hq;have Y:∀a∈al,RX X b a.body (n1 sb s b a).body∧A2 NR a.vars (n1 sb s b a).vars∧(n1 sb s b a).name=a.name:=fun a I=>by
  obtain⟨g1,g2⟩:=ha a I;refine⟨?_,g2,rfl⟩;show RX X b a.body ((dN sb s b a.vars [a.body]).2.headD a.body);cases hx:(dN sb s b a.vars [a.body]).2 with
  | nil=>rw[hx] at g1;cases g1
  | cons y l'=>
   rw[hx] at g1;cases g1 with
   | cons h _=>exact h
 have aa:f=5→bs=[]:=fun h5=>(fJ hq (.inl h5)).2.1
 rw[tS];unfold zNm zKs zBs;generalize dN sb s b (gvN f nm bs) (ks++bs.map Bind.body)=r at hg hn ⊢;obtain⟨O,W⟩:=r;dsimp only at *;have hK:A2 (RX X b) ks (W.take ks.length):=by
  have:=hg.take ks.length;rwa [take_left] at this
 have hB:A2 (RX X b) (bs.map Bind.body) (W.drop ks.length):=by
  have:=hg.drop ks.length;rwa [drop_left] at this
 have hBl:(W.drop ks.length).length=bs.length:=by rw[hB.length,θ]
 have Z:∀x∈mkB (bs.map Bind.ty) O (W.drop ks.length),∃y∈bs,RX X b y.body x.body:=fun x hx=>by
  obtain⟨p,hp,h⟩:=hB.mem x.body (pE hx).1;obtain⟨y,J,rfl⟩:=Af.1 hp;exact⟨y,J,h⟩
 have hmT:∀x∈mkB (bs.map Bind.ty) O (W.drop ks.length),∃y∈bs,y.ty=x.ty:=fun x hx=>Af.1 (pE hx).2
 have N:=hn.length;have hbn:((mkB (bs.map Bind.ty) O (W.drop ks.length)).map fun x=>1+w30 x.name).sum≤(bs.map fun x=>1+w30 x.name).sum∧(mkB (bs.map Bind.ty) O (W.drop ks.length)).length=bs.length:=by
  by_cases h5:f=5
  ·have:=aa h5;subst this;show((mkB [] O _).map _).sum≤_∧(mkB [] O _).length=_;unfold mkB;exact⟨le_refl _,rfl⟩
  ·unfold gvN at hn N;rw[φ h5,Bd] at hn N;rw[θ] at N;have e1:∀l:List Bind,(l.map fun x=>1+w30 x.name)=(l.map Bind.name).map fun v=>1+w30 v:=fun l=>by rw[Bj];rfl
   rw[e1,e1,nX (by rw[θ];exact N) (by rw[θ];exact hBl)];exact⟨aE0 hn,by rw[sI (by rw[θ];exact N) (by rw[θ];exact hBl),θ]⟩
 have hbh:∀x∈mkB (bs.map Bind.ty) O (W.drop ks.length),nh x.name:=fun x hx=>by
  by_cases h5:f=5
  ·have:=aa h5;subst this;have hx:x∈mkB [] O (W.drop ks.length):=hx;unfold mkB at hx;cases hx
  ·have hn2:=hn;unfold gvN at hn2 N;rw[φ h5,Bd] at hn2 N;rw[θ] at N;have hxm:x.name∈(mkB (bs.map Bind.ty) O (W.drop ks.length)).map Bind.name:=Af.2 ⟨x,hx,rfl⟩;rw[nX (by rw[θ];exact N) (by rw[θ];exact hBl)] at hxm;obtain⟨v,hv,hr⟩:=hn2.mem _ hxm;obtain⟨y,J,rfl⟩:=Af.1 hv;exact hr.nh (q7 (bhd y) (Af.2 ⟨y,J,rfl⟩))
 have hnm:w30 (if f=5 then O.headD nm else nm)≤w30 nm:=by
  split
  ·rename_i hf;unfold gvN at hn;rw[ξ hf] at hn;cases hn with
   | cons h _=>exact h.w
  ·exact le_refl _
 refine⟨aY.2 ⟨⟨?_,fun h=>absurd h h7,q3,fun p hp=>?_,?_,fun h5=>?_,fun p hp=>?_,fun p hp v hv=>?_⟩,fun x hx=>?_,fun x hx=>?_,fun x hx=>?_⟩,fun A E ρ=>?_,fun x hx=>?_,?_⟩
 ·rw[θ,θ,θ,hbn.2,hK.length];rw[θ,θ] at q1;exact q1
 ·obtain⟨x,hx,rfl⟩:=Af.1 hp;obtain⟨y,J,e⟩:=hmT x hx;have:=q4 (bhd y) (Af.2 ⟨y,J,rfl⟩);show wfS x.ty=true;rw[←e];exact this
 ·refine le_trans ?_ q5;unfold lw;rw[Bj,Bj,Bj,Bj,Bj];have ea:(al.map (((fun p:Str×List Str=>1+w30 p.1+(p.2.map fun v=>1+w30 v).sum)∘ahd)∘n1 sb s b)).sum≤(al.map ((fun p:Str×List Str=>1+w30 p.1+(p.2.map fun v=>1+w30 v).sum)∘ahd)).sum:=by
   clear ha q1 q5 hq qa q8
   induction al with
   | nil=>exact le_refl _
   | cons a l ih=>
    have h1:=ih fun x hx=>Y x (ω _ hx)
    obtain⟨_,h2,h3⟩:=Y a η;have h2:=aE0 h2;simp only[Al,Ce,Function.comp,ahd] at h1 ⊢;rw[h3];omega
  have eb:=hbn.1;have ec:∀l:List Bind,(l.map ((fun p:Str×Ty=>1+w30 p.1)∘bhd)).sum=(l.map fun x=>1+w30 x.name).sum:=fun l=>rfl
  rw[ec,ec];omega
 ·rw[ξ h5];unfold gvN at hn;rw[ξ h5] at hn;cases hn with
  | cons h _=>exact h.nh (q6 h5)
 ·obtain⟨x,hx,rfl⟩:=Af.1 hp;exact hbh x hx
 ·obtain⟨a,I,rfl⟩:=Af.1 hp;obtain⟨a0,ha0,rfl⟩:=Af.1 I;obtain⟨w,hw,hr⟩:=(Y a0 ha0).2.1.mem v hv;exact hr.nh (q8 (ahd a0) (Af.2 ⟨a0,ha0,rfl⟩) w hw)
 ·obtain⟨p,_,h⟩:=hK.mem x hx;exact h.q
 ·obtain⟨y,_,h⟩:=Z x hx;exact h.q
 ·obtain⟨a,I,rfl⟩:=Af.1 hx;exact(Y a I).1.q
 ·obtain⟨c0,c1,c2,c3,c4⟩:=fX.1 (le_refl (cw A E (.mk f n nm t ks bs al) ρ));rw[φ h7] at c2;generalize cw A E (.mk f n nm t ks bs al) ρ=K at *;refine fX.2 ⟨by omega,by omega,fun x hx=>?_,fun x hx=>⟨?_,?_⟩,fun x hx=>?_⟩
  ·obtain⟨p,hp,h⟩:=hK.mem x hx;rw[φ h7];have h1:=h.cw A E ρ;have h2:=c2 p hp;omega
  ·obtain⟨y,J,e⟩:=hmT x hx;rw[←e];have:=(c3 y J).1
   omega
  ·obtain⟨y,J,h⟩:=Z x hx;have h1:=h.cw A E ρ;have h2:=(c3 y J).2
   omega
  ·obtain⟨a,I,rfl⟩:=Af.1 hx;have h1:=(Y a I).1.cw A E ρ;have h2:=c4 a I;omega
 ·rcases bC.1 hx with h | ⟨y,J,h,_⟩ | ⟨y,J,h⟩ | ⟨y,J,h⟩
  ·exact .inl (bC.2 (.inl h))
  ·obtain⟨p,hp,g⟩:=hK.mem y J;exact(g.ty x h).imp (fun h=>bC.2 (.inr (.inl ⟨p,hp,h,.inl h7⟩))) id
  ·rcases h with h | h
   ·obtain⟨z,hz,e⟩:=hmT y J;exact .inl (bC.2 (.inr (.inr (.inl ⟨z,hz,.inl (by rw[e];exact h)⟩))))
   ·obtain⟨z,hz,g⟩:=Z y J;exact(g.ty x h).imp (fun h=>bC.2 (.inr (.inr (.inl ⟨z,hz,.inr h⟩)))) id
  ·obtain⟨a,I,rfl⟩:=Af.1 J;exact((Y a I).1.ty x h).imp (fun h=>bC.2 (.inr (.inr (.inr ⟨a,I,h⟩)))) id
 ·obtain⟨d1,d2,d3⟩:=mT (f:=f) (n:=n) (s:=nm) (t:=t) (ks:=ks) (bs:=bs) (al:=al);rw[φ h7] at d1;generalize tlC (.mk f n nm t ks bs al)=K at *;have:=(yY (K:=K+tlC b) (f:=f) (n:=n) (s:=(if f=5 then O.headD nm else nm)) (t:=t) (ks:=W.take ks.length) (bs:=mkB (bs.map Bind.ty) O (W.drop ks.length)) (al:=al.map (n1 sb s b))).2 ⟨fun x hx=>?_,fun x hx=>?_,fun x hx=>?_⟩
  ·rwa [φ h7,A6] at this
  ·obtain⟨p,hp,h⟩:=hK.mem x hx;have:=h.tl;have:=d1 p hp;omega
  ·obtain⟨y,J,h⟩:=Z x hx;have:=h.tl;have:=d2 y J;omega
  ·obtain⟨a,I,rfl⟩:=Af.1 hx;have:=(Y a I).1.tl;have:=d3 a I;omega
end
theorem aAt (hI:dA 540000000000) {D M X:Nat}(ae:M+D≤700000) (hX:31≤X):∀(k:Nat) (c:Core),m30 c≤k→CG D M X c→∀(s:Str) (b:Core),CG D M X b→TB X c s b (eQ k c s b):=by
 intro k
 induction k with
 | zero=>intro c h;have:=eY c;omega
 | succ k ih=>
 intro c h hc s b hb;have hTG:=hc.tyG hI ae;have hTGb:=hb.tyG hI ae;have hcs:=cV c;have hbs:=cV b;have hsz:=hc.sz;have hszb:=hb.sz;have hBig:Big=250000000000:=rfl;have hpfb:=kI b;have hpfc:=kI c;have ag:=y6 (bE c) c (le_refl _) (by omega);have hfreeb:=y6 (bE b) b (le_refl _) (by omega);obtain⟨hbty,hbtl⟩:=hb.types ae;have hm31:=eY c;have hb31:=eY b;obtain⟨f,n,nm,t,ks,bs,al⟩:=c;have hq:=hc.q;rw[eQ];by_cases hv:f=1∧nm=s
 ·rw[ξ (show(Core.mk f n nm t ks bs al).form=1∧(Core.mk f n nm t ks bs al).name=s from hv)];exact⟨aNc f n nm t ks bs al s b hv (by omega) hTGb,⟨hb.q,fun A E ρ=>le_max_right ..,fun x hx=>.inr hx,le_add_left _ _⟩,fun B _ hb'=>le_trans hb' (Av _ hm31)⟩
 rw[φ (show ¬((Core.mk f n nm t ks bs al).form=1∧(Core.mk f n nm t ks bs al).name=s) from hv)]
 let P:Core→Prop:=fun x=>m30 x<m30 (.mk f n nm t ks bs al)∧CG D M X x
 have Z:∀p,P p→∀n' b',CG D M X b'→TB X p n' b' (eQ k p n' b'):=fun p hp n' b' hb'=>ih p (by have:=hp.1;omega) hp.2 n' b' hb'
 have hz:∀p m z,P p→z.length≤30→P (eQ k p m (vC z))∧R0 p (eQ k p m (vC z)):=fun p m z hp O=>by
  have h1:=Z p hp m (vC z) (CG.vC O hX);have h2:=h1.r0 O;exact⟨⟨lt_of_le_of_lt h2.sz hp.1,h2.cg hp.2 h1.rx.q⟩,h2⟩
 have hfree:∀p,P p→aQ Tryz.prog 133 [.pa (aC p)] [] (bI (pfR p)) []:=fun p hp=>y6 (bE p) p (le_refl _) (by have:=cV p;have:=hp.1;omega)
 have hok:∀ps,(∀p∈ps,P p)→PutOk (eQ k) P s b ps:=fun ps hps=>⟨hps,fun p hp=>hfree p (hps p hp),hfreeb,fun p m z hp O=>(hz p m z hp O).1,fun p m z hp O=>(Z p hp m (vC z) (CG.vC O hX)).imp,fun p hp=>(Z p hp s b hb).imp,hI⟩
 have hPq:∀p,P p→dD (QL X) p:=fun p hp=>hp.2.q
 have hS:∀p,P p→RX X b p (eQ k p s b):=fun p hp=>(Z p hp s b hb).rx
 have hSB:∀B,1≤B→m30 b≤31*B→∀p,P p→wfC (eQ k p s b)=true∧allT (fun _=>True) (eQ k p s b)∧m30 (eQ k p s b)≤m30 p*B:=fun B Y ab p hp=>by
  have h1:=Z p hp s b hb;exact⟨aBl _ h1.rx.q,lS _,h1.sz B Y ab⟩
 have hPQ:∀p,P p→wfC p=true∧allT (fun _=>True) p:=fun p hp=>⟨aBl _ hp.2.q,lS _⟩
 have hzs:∀p m z,P p→z.length≤30→P (eQ k p m (vC z))∧m30 (eQ k p m (vC z))≤m30 p:=fun p m z hp O=>⟨(hz p m z hp O).1,(hz p m z hp O).2.sz⟩
 by_cases h7:f=7
 ·subst h7;obtain⟨⟨kid,rfl⟩,rfl,rfl⟩:=fJ hq (.inr (.inr rfl));obtain⟨g1,g2,g3⟩:=hc.kid (x:=kid) η;rw[ξ rfl] at g2;obtain⟨q1,_⟩:=aY.1 hq;have hnmn:¬nm=[]:=(q1.2.1 rfl).2
  obtain rfl:t=zTy:=(q1.2.1 rfl).1
  have hz0:tfR zTy=[]:=rfl;have aa:∀nm',gvN 7 nm' []=[]:=fun nm'=>by unfold gvN;rw[φ (by decide)];rfl
  have easm:∀nm' I,tS (eQ k) s b (.mk 7 n nm' zTy [I] [] [])=.mk 7 n nm' zTy ((dN (eQ k) s b [] [I]).2.take 1) [] []:=fun nm' I=>by
   rw[tS];unfold zNm zKs zBs;rw[aa,φ (by decide)];rfl
  have hpk:P kid:=⟨g3,g1⟩
  have hpfk:pfR (.mk 7 n nm zTy [kid] [] [])=pfP [] [] (pfR kid):=by
   rw[pfR,φ (by decide),r7,r7,tL,tU,aa]
  have hmem:∀x,x∈pfR (.mk 7 n nm zTy [kid] [] [])↔x∈pfR kid:=fun x=>by
   rw[hpfk];constructor
   ·intro hx;have key:∀(l o:List Str),x∈pfP [] o l→x∈o∨x∈l:=by
     intro l
     induction l with
     | nil=>intro o h;exact .inl h
     | cons y l ih2=>
      intro o h;rcases ih2 (pfG [] o y) h with h | h
      ·unfold pfG at h;rw[φ (by simp)] at h;rcases x8.1 h with h | h
       ·exact .inl h
       ·exact .inr (by rw[h];exact η)
      ·exact .inr (ω _ h)
    rcases key _ _ hx with h | h
    ·cases h
    ·exact h
   ·exact fun hx=>sC hx (by simp)
  have hlk:∀I,P I→(([I]:List Core).flatMap pfR).length+2*(gvN 7 nm []).length+(pfR b).length≤540000000000:=fun I W=>by
   rw[aa];have:=kI I;have:=W.1;simp only[Cj,C4,A8,length_nil];omega
  by_cases hin:s∈pfR (.mk 7 n nm zTy [kid] [] [])
  ·rw[ξ (show(Core.mk 7 n nm zTy [kid] [] []).form=7∧_ from⟨rfl,hin⟩)];have hink:=(hmem s).1 hin;have hend:∀(nm1:Str) (I:Core),w30 nm1≤w30 nm→P I→m30 I≤m30 kid→tlC I≤tlC kid→(∀x∈tyR I,x=nm1∨x∈tyR kid)→(∀x∈tyR I,x=nm→nm1=nm∨nm∈tyR b)→¬nm1∈tyR b→¬nm1=[]→
     (∀(A:Alg) (E:Nat) (ρ:Str→Nat),cw A E I (fY ρ nm1 E)≤cw A E kid (fY ρ nm E))→
     aQ Tryz.prog 77 [.one (.vp 700 0),bI (tyR b)] (gHl 7 n nm zTy [kid] [] []) (.tup []) (gHl 7 n nm1 zTy [I] [] [])→
     TB X (.mk 7 n nm zTy [kid] [] []) s b (tS (eQ k) s b (.mk 7 n nm1 zTy [I] [] [])):=fun nm1 I hw W hkm hkt hkx hky hno hn1 hkc himp=>by
    have J:=pQ (eQ k) P 7 n nm nm1 zTy [kid] [I] [] [] s b (by omega) hTG hv rfl (fun e=>absurd e (by decide)) (fun _=>⟨rfl,rfl,_,ag,by omega,fun _=>⟨_,hbty,himp⟩,fun e=>absurd hin e⟩) (fun e=>absurd rfl e)
     (hok _ fun p hp=>by
      have:p=I:=by simpa using hp
      rw[this];exact W) (fun a ha=>by cases ha) (by
      have h1:=hlk I W;rw[aa] at h1;simp only[Bn,A8,length_nil,Ak] at h1 ⊢;have:=kI I;have:=W.1;simp only[Cj,C4,A8] at h1 ⊢
      omega) (fun a ha=>by cases ha)
    obtain⟨hA,_⟩:=s7 (sb:=eQ k) (P:=P) (X:=X) (s:=s) (b:=b) (ns:=[]) (ps:=[I]) (fun p hp=>by rw[ζ.1 hp];exact W) hPq hz hS (by have:=hlk I W;rwa [aa] at this);rw[easm] at J ⊢;have hszB:∀B,1≤B→m30 b≤31*B→m30 (.mk 7 n nm1 zTy ((dN (eQ k) s b [] [I]).2.take 1) [] [])≤m30 (.mk 7 n nm zTy [kid] [] [])*B:=fun B Y ab=>by
     have hg:=aCt (sb:=eQ k) (P:=P) (T:=fun _=>True) (s:=s) (b:=b) (ns:=[]) (ps:=[I]) Y (fun p hp=>by rw[ζ.1 hp];exact W) hzs hPQ (hSB B Y ab) (by have:=hlk I W;rwa [aa] at this);have hsm:=aF2 (hg.sm.take 1);have e:([I]:List Core).take 1=[I]:=rfl;rw[e,dI,dI,By] at hsm;rw[m30,m30,gM,j2,dI,dI,By,By,By,Ay];have h5:1+w30 nm1≤(1+w30 nm)*B:=le_trans (by omega) (Bb _ Y);have h6:m30 I*B≤m30 kid*B:=Av _ hkm;omega
    cases hx:(dN (eQ k) s b [] [I]).2 with
    | nil=>rw[hx] at hA;cases hA
    | cons y l'=>
     rw[hx] at hA J hszB;cases hA with
     | cons hy _=>
      refine⟨J,⟨aY.2 ⟨⟨rfl,fun _=>⟨rfl,hn1⟩,rfl,fun p hp=>(by cases hp),?_⟩,fun x hx=>?_,fun x hx=>(by cases hx),fun x hx=>(by cases hx)⟩,fun A E ρ=>?_,fun x hx=>?_,?_⟩,hszB⟩
      ·exact⟨le_trans (xD hw rfl rfl) q1.2.2.2.2.1,fun e=>absurd e (by decide),fun p hp=>(by cases hp),fun p hp=>(by cases hp)⟩
      ·have:x=y:=by simpa using hx
       rw[this];exact hy.q
      ·obtain⟨c0,c1,c2,_,_⟩:=fX.1 (le_refl (cw A E (.mk 7 n nm zTy [kid] [] []) ρ));have c2:=c2 kid η;rw[ξ rfl] at c2;refine fX.2 ⟨by omega,by omega,fun x hx=>?_,fun x hx=>(by cases hx),fun x hx=>(by cases hx)⟩;have:x=y:=by simpa using hx
       rw[this,ξ rfl];have h1:=hy.cw A E (fY ρ nm1 E);have h2:=hkc A E ρ;have h3:cw A E b (fY ρ nm1 E)=cw A E b ρ:=oG fun y hy=>by
        unfold fY;rw[φ fun e=>hno (by rw[←e];exact hy)]
       omega
      ·rcases bC.1 hx with h | ⟨z,ah,h,ad⟩ | ⟨z,ah,_⟩ | ⟨z,ah,_⟩
       ·rw[hz0] at h;cases h
       ·have:z=y:=by simpa using ah
        rw[this] at h;have ad:¬x=nm1:=ad.resolve_left (fun e=>e rfl);rcases hy.ty x h with h | h
        ·rcases hkx x h with h' | h'
         ·exact absurd h' ad
         ·by_cases e:x=nm
          ·rcases hky x h e with e2 | e2
           ·exact absurd (e.trans e2.symm) ad
           ·exact .inr (by rw[e];exact e2)
          ·exact .inl (bC.2 (.inr (.inl ⟨kid,η,h',.inr e⟩)))
        ·exact .inr h
       ·cases ah
       ·cases ah
      ·have d1:=hy.tl;show tlC (.mk 7 n nm1 zTy [y] [] [])≤tlC (.mk 7 n nm zTy [kid] [] [])+tlC b;rw[tlC,tlC,jT,jT,jT,jT,qY,qA];omega
   rw[aZ4];by_cases ac:nm∈tyR b
   ·rw[ξ ac];have efm:[kid].flatMap tyR=tyR kid:=by simp
    rw[efm,Al,Bn];obtain⟨hkty,hktl⟩:=g1.types ae;have hzo:=mG (tyR b++tyR kid);have hz30:(b9 (tyR b++tyR kid)).length≤30:=pK _ (by rw[τ];omega);have hzn:=xN (tyR b++tyR kid);generalize hze:b9 (tyR b++tyR kid)=z at hzo hz30 hzn;have N:=aDj hI ae (m30 kid) kid (le_refl _) g1 nm (vT z) (UOk.var z);have hkid1:CG D M X (sTR (m30 kid) kid nm (vT z)):=by
     refine⟨N.q,?_,?_,le_trans N.sz g1.sz⟩
     ·have:=N.cw jS 0 r0;have e:tW jS (vT z) r0=0:=rfl;rw[e,aJ3] at this;exact le_trans this g1.dep
     ·have h1:=dP (a:=z::tyR kid) (c:=sTR (m30 kid) kid nm (vT z)) fun x hx=>by
       rcases N.ty x hx with h | h
       ·exact ω _ h
       ·rw[tT] at h;rw[ζ.1 h];exact η
      rw[Ak] at h1;have h2:=N.tl;omega
    have hcl:=aGy n nm zTy kid (sTR (m30 kid) kid nm (vT z)) (tyR b) (by omega) ac hI hkty (by omega) (by rw[hze];exact N.imp);rw[hze] at hcl;refine hend z _ (aHf hz30) ⟨lt_of_le_of_lt N.sz g3,hkid1⟩ N.sz N.tl (fun x hx=>?_) (fun _ _ _=>.inr ac) (fun h=>hzo (δ.2 (.inl h))) hzn (fun A E ρ=>?_) hcl
    ·rcases N.ty x hx with h | h
     ·exact .inr h
     ·rw[tT] at h;exact .inl (ζ.1 h)
    ·refine le_trans (N.cw A E _) (le_of_eq (oG fun x hx=>?_));have e:tW A (vT z) (fY ρ z E)=E:=by
      unfold vT;rw[tW,ξ rfl];unfold fY;rw[ξ rfl]
     rw[e];unfold fY;by_cases e1:x=nm
     ·rw[ξ e1,ξ e1]
     ·rw[φ e1,φ e1,φ fun e3=>hzo (by rw[←e3];exact δ.2 (.inr hx))]
   ·rw[φ ac];exact hend nm kid (le_refl _) hpk (le_refl _) (le_refl _) (fun x hx=>.inr hx) (fun _ _ _=>.inl rfl) ac hnmn (fun A E ρ=>le_refl _) (aGz n nm zTy kid (tyR b) (by omega) ac)
  ·rw[φ (show ¬((Core.mk 7 n nm zTy [kid] [] []).form=7∧s∈pfR (Core.mk 7 n nm zTy [kid] [] [])) from fun h=>hin h.2)];have hnk:¬s∈pfR kid:=fun h=>hin ((hmem s).2 h)
   have J:=pQ (eQ k) P 7 n nm nm zTy [kid] [kid] [] [] s b (by omega) hTG hv rfl (fun e=>absurd e (by decide)) (fun _=>⟨rfl,rfl,_,ag,by omega,fun e=>absurd e hin,fun _=>⟨rfl,rfl⟩⟩) (fun e=>absurd rfl e)
    (hok _ fun p hp=>by
     have:p=kid:=by simpa using hp
     rw[this];exact hpk) (fun a ha=>by cases ha) (by
     have h1:=hlk kid hpk;rw[aa] at h1;simp only[Bn,A8,length_nil,Ak] at h1 ⊢;have:=kI kid;have:=hpk.1;simp only[Cj,C4,A8] at h1 ⊢
     omega) (fun a ha=>by cases ha)
   have e5:dN (eQ k) s b [] [kid]=([],[kid]):=by
    unfold dN;rw[φ];exact fun h=>hnk (by simpa using h.1)
   rw[easm,e5] at J ⊢;have J:aQ Tryz.prog 99 [.pa (aC (.mk 7 n nm zTy [kid] [] [])),Go.AM.T s,.pa (aC b)] [] (.pa (aC (.mk 7 n nm zTy [kid] [] []))) []:=J;show TB X (.mk 7 n nm zTy [kid] [] []) s b (.mk 7 n nm zTy [kid] [] []);exact⟨J,⟨hq,fun A E ρ=>le_max_left ..,fun x hx=>.inl hx,Nat.le_add_right _ _⟩,fun B Y _=>Bb _ Y⟩
 ·rw[φ (show ¬((Core.mk f n nm t ks bs al).form=7∧s∈pfR (Core.mk f n nm t ks bs al)) from fun h=>h7 h.1)];have hP1:∀x∈ks,P x:=fun x hx=>⟨(hc.kid hx).2.2,(hc.kid hx).1⟩
  have hP2:∀x∈bs,P x.body:=fun x hx=>⟨(hc.bind hx).2,(hc.bind hx).1⟩
  have hP3:∀x∈al,P x.body:=fun x hx=>⟨(hc.alt hx).2,(hc.alt hx).1⟩
  have hPs:∀p∈ks++bs.map Bind.body,P p:=fun p hp=>by
   rcases δ.1 hp with hp | hp
   ·exact hP1 p hp
   ·obtain⟨x,hx,rfl⟩:=Af.1 hp;exact hP2 x hx
  have hm:=hsz;rw[m30] at hm;have hfm:=aMq (ks++bs.map Bind.body);rw[xC] at hfm;have hbsb:=xB bs;have hksl:=aF1 ks;have hgv:=aMb (f:=f) (nm:=nm) (bs:=bs);have hla:∀a∈al,(pfR a.body).length+2*a.vars.length+(pfR b).length+1≤540000000000:=fun a ha=>by
   have h1:=gU ha;have h2:=wI a.vars;have h3:=kI a.body;omega
  have hM:((ks++bs.map Bind.body).flatMap pfR).length+2*(1+bs.length)+(pfR b).length+(ks.length+bs.length)≤540000000000:=by omega
  have J:=pQ (eQ k) P f n nm nm t ks ks bs al s b (by omega) hTG hv rfl (fun hf=>fJ hq (.inl hf)) (fun e=>absurd e h7) (fun _=>⟨rfl,rfl⟩) (hok _ hPs) (fun a ha=>hok _ fun p hp=>by rw[ζ.1 hp];exact hP3 a ha) hM hla;have hgl:((ks++bs.map Bind.body).flatMap pfR).length+2*(gvN f nm bs).length+(pfR b).length≤540000000000:=by omega
  have hal':∀a∈al,(([a.body]:List Core).flatMap pfR).length+2*a.vars.length+(pfR b).length≤540000000000:=fun a ha=>by
   have:=hla a ha;simp only[Cj,C4,A8];omega
  obtain⟨hA,hN⟩:=s7 (sb:=eQ k) (P:=P) (X:=X) (s:=s) (b:=b) (ns:=gvN f nm bs) hPs hPq hz hS hgl;have hAa:∀a∈al,A2 (RX X b) [a.body] (dN (eQ k) s b a.vars [a.body]).2∧A2 NR a.vars (dN (eQ k) s b a.vars [a.body]).1:=fun a ha=>
   s7 (sb:=eQ k) (P:=P) (X:=X) (s:=s) (b:=b) (fun p hp=>by rw[ζ.1 hp];exact hP3 a ha) hPq hz hS (hal' a ha)
  refine⟨J,aWv h7 hq hA hN hAa,fun B Y ab=>?_⟩;have hg:=aCt (sb:=eQ k) (P:=P) (T:=fun _=>True) (s:=s) (b:=b) (ns:=gvN f nm bs) Y hPs hzs hPQ (hSB B Y ab) hgl;have hga:∀a∈al,PK B (fun _=>True) a.vars [a.body] (dN (eQ k) s b a.vars [a.body]):=fun a ha=>aCt Y (fun p hp=>by rw[ζ.1 hp];exact hP3 a ha) hzs hPQ (hSB B Y ab) (hal' a ha)
  exact(aOd (n:=n) (nm:=nm) Y hg hga trivial (fun x hx=>trivial) (fun hf=>fJ hq hf) (fun hf=>aBm hq hf)).2.2
end Go.Proofs.YtglfogjcijokpaaGreatDoor
