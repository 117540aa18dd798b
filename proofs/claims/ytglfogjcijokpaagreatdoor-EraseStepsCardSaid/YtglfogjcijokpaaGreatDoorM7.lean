/-
  Texts Lg2 to Ls10 in one.
-/
import Derived.Test.YtglfogjcijokpaaGreatDoorM6
open List (all_append all_eq_true append_assoc append_nil cons_append drop_eq_getElem_cons drop_length drop_zero flatten_cons foldl_append length_append length_cons length_drop length_map length_nil length_take map_append map_congr_left map_cons map_map map_nil mem_append mem_cons mem_cons_of_mem mem_cons_self mem_map mem_singleton nil_append nodup_append nodup_cons set_cons_succ take_add_one take_length take_succ_cons take_zero)
open Nat (add_assoc add_zero beq_refl eq_of_beq_eq_true le_add_left le_of_ble_eq_true le_refl le_trans min_eq_left sub_self zero_add zero_le)
namespace Go.Proofs.YtglfogjcijokpaaGreatDoor
open Go Go.AM
set_option maxRecDepth 20000
theorem aSt {G F:List (Nat×AObj)}{f:Nat→List R}(h:∀j,GF G F (R.refsL (f j))) (k:Nat):GF G F (bZ (rgR f k)):=mY h k
theorem kB:∀(a b:List (List R)),bZ (a++b)=bZ a++bZ b
 | [],_=>rfl
 | r::a,b=>by simp only[A9,bZ,kB a b,A0]
section
variable {f n:Int}{s:Str}{t:Ty}{ks:List Core}{bs:List Bind}{al:List Alt}
abbrev gfo (f n:Int) (s:Str) (t:Ty) (ks:List Core) (bs:List Bind) (al:List Alt) (l:List Nat):Prop:=GF (gHl f n s t ks bs al) (fam 0 al) l
theorem a62 (nk i:Nat):gfo f n s t ks bs al (bZ (rgR (fun j=>[.ep 702 j 0 nk]) i)):=aSt (fun j x hx=>.inl (by
 have:x=702:=by simpa [R.refsL,R.refs] using hx
 subst this;simp[gHl,keys])) i
theorem aVn (b:Bool) (nb i:Nat):gfo f n s t ks bs al (bZ (nR b nb i)):=by
 unfold nR;rw[kB];refine GF.app ?_ (aSt (fun j x hx=>.inl ?_) i)
 ·cases b
  ·exact fun x hx=>by simp[gNm,bZ] at hx
  ·intro x hx;have:x=700:=by simpa [gNm,bZ,R.refsL,R.refs] using hx
   subst this;exact .inl (by simp[gHl,keys])
 ·have:x=701:=by simpa [R.refsL,R.refs] using hx
  subst this;simp[gHl,keys]
theorem aQy (nk nb i:Nat):gfo f n s t ks bs al (bZ (pR nk nb i)):=by
 unfold pR;rw[kB];refine GF.app (a62 _ _) (aSt (fun j x hx=>.inl ?_) i);have:x=701:=by simpa [R.refsL,R.refs] using hx
 subst this;simp[gHl,keys]
theorem a4v {k:Nat}(hk:k<al.length) (nv i:Nat):gfo f n s t ks bs al (bZ (vR k nv i)):=by
 unfold vR;refine aSt (fun j x hx=>.inr ?_) i;have:x=k+800:=by simpa [R.refsL,R.refs] using hx
 subst this;have:=aO0 (k:=0) hk;rwa [Ba] at this
theorem a2n {k:Nat}(hk:k<al.length) (a:Alt):gfo f n s t ks bs al (R.refsL (mV al.length k a)):=by
 unfold mV;simp only[R.refsL,R.refs,dE,A8];refine GF.app (a4v hk _ _) fun x hx=>.inl ?_
 have:x=703:=by simpa using hx
 subst this;simp[gHl,keys]
theorem aOf:∀{l:List Alt}{k:Nat},k+l.length≤al.length→gfo f n s t ks bs al (bZ (aIx al.length k l))
 | [],_,_=>fun x hx=>by simp[aIx,bZ] at hx
 | a::l,k,h=>by
  simp only[Am] at h;exact GF.app (a2n (by omega) a) (aOf (by omega))
theorem o7 (b:Bool) (i:Nat):gfo f n s t ks bs al (bZ (bY b ks.length bs.length al.length (al.take i))):=by
 unfold bY;refine GF.app ?_ (aOf (by simp;omega));unfold qD;simp only[R.refsL,R.refs,dE,A8];exact GF.app (aVn _ _ _) (aQy _ _ _)
end
theorem k7 {f n:Int}{s:Str}{t:Ty}{ks:List Core}{bs:List Bind}{al:List Alt}{l:List Nat}(h:gfo f n s t ks bs al l) {id:Nat}(h1:703<id) (h2:id<800):id∉l:=fun hx=>by
 rcases h id hx with h | h
 ·have:id=700∨id=701∨id=702∨id=703:=by simpa [gHl,keys] using h
  omega
 ·obtain⟨p,hp,e⟩:=Ad.1 h;have:=fT.far p hp;omega
theorem a2o {f n:Int}{s:Str}{t:Ty}{ks:List Core}{bs:List Bind}{al:List Alt}{id:Nat}(h1:703<id) (h2:id<800):id∉keys (gHl f n s t ks bs al++fam 0 al):=k7 (fun _ hx=>iP.1 hx) h1 h2
theorem u7 {f n:Int}{s:Str}{t:Ty}{ks:List Core}{bs:List Bind}{al:List Alt}{id m es:Nat}{l:List R}(h1:703<id) (h2:id<800):fzH id (.ra m es l) (gHl f n s t ks bs al)=gHl f n s t ks bs al:=by
 have hb:Nat.beq 703 id=false:=by
  cases hb:Nat.beq 703 id with
  | false=>rfl
  | true=>have:=Ac hb;omega
 have q:id∉bZ (aY 0 al):=k7 (fun x hx=>.inr (cZ x hx)) h1 h2 (f:=f) (n:=n) (s:=s) (t:=t) (ks:=ks) (bs:=bs);simp only[gHl,fzH,AObj.fz,eD,R.fzL,R.fz,hb,u6 _ q,Bc,B3]
theorem uI (b:Bool) (f n:Int) (s:Str) (t:Ty) (ks:List Core) (bs:List Bind) (al:List Alt) (hb5:decide (f=5)=b) (hk:ks.length≤600000000000) (hb:bs.length≤600000000000) (ha:al.length≤600000000000) (hv:∀a∈al,a.vars.length≤600000000000):
  aU Tryz.prog 40 [.one (.vp 700 0)] (gHl f n s t ks bs al++fam 0 al) (.one (.ras (bY b ks.length bs.length al.length al).length 2 (bY b ks.length bs.length al.length al).flatten)) (gHl f n s t ks bs al++fam 0 al):=by
 have hF:TF (fam 0 al):=fT;have W:GW (gHl f n s t ks bs al) (fam 0 al):=gW;have hkB:(aT bs).length=bs.length:=by rw[bN,ζ]
 have hkK:(aR ks).length=ks.length:=by rw[bD,ζ]
 refine uY hF (n:=123) tok Tryz.func40 rfl rfl rfl ?_;refine sg rfl (sg rfl (AWp.sub (Sub.ownCellR (x:=3) (k:=1) (id:=712) 91 1 rfl rfl rfl) (AWp.sub (Sub.ownCellR (x:=3) (k:=0) (id:=711) 133 1 rfl rfl rfl) ?_)));refine a8 (sg rfl (aC (aO (fun i:Nat=>mkt [(0,.one (.vp 700 0)),(3,.one (.vp 3 0)),(16,I .i64 ((ks.length:Nat):Int)),(17,I .i64 i)] ([(712,gPo (rgR (fun j=>[.ep 702 j 0 ks.length]) i)),(3,.var 95 [.ra 711 0 0 0,.ra 712 0 (rgR (fun j=>[.ep 702 j 0 ks.length]) i).length (rgR (fun j=>[.ep 702 j 0 ks.length]) i).length]),(711,gNo [])]++gHl f n s t ks bs al) (fam 0 al)) (fun i=>i≤ks.length) (fun i=>ks.length-i) 0 (Ak _) (slG W) ?_)));intro i hi;have hpl:=gU (fun j=>[.ep 702 j 0 ks.length]) i;refine sg rfl (a8 (aA rfl (fun hb=>?_) (fun hb=>?_)))
 ·have q:i<ks.length:=by
   have:(i:Int)<(ks.length:Int):=θ hb;omega
  have hst:=rM (fun j=>[.ep 702 j 0 ks.length]) i;have hr:gfo f n s t ks bs al (gPo (rgR (fun j=>[.ep 702 j 0 ks.length]) (i+1))).refs:=a62 _ _;refine aD (a8 (aC (sg rfl (ag [] rfl (ag [] rfl ⟨i+1,q,by dsimp only;omega,?_⟩)))));dsimp only;rw[hst] at hr ⊢;refine slG W (hh:=⟨⟨_,rfl,.rarrS rfl⟩,⟨_,rfl,.var ?_⟩,⟨_,rfl,.rarrS rfl⟩,⟨_,rfl,.var rfl⟩,⟨_,rfl,.arr⟩,⟨_,rfl,.arr⟩,⟨_,rfl,.rarrS rfl⟩,trivial⟩);rw[Ab];rfl
 have J:i=ks.length:=by
  have:¬(i:Int)<(ks.length:Int):=Aa hb;omega
 subst J;clear hi hb hpl;have e0:rgR (fun j=>[.ep 702 j 0 ks.length]) ks.length=pR ks.length bs.length 0:=by simp[pR,rgR]
 rw[e0];have hr12:gfo f n s t ks bs al (gPo (pR ks.length bs.length 0)).refs:=aQy _ _ _;have hr11:gfo f n s t ks bs al (gNo (nR b bs.length 0)).refs:=aVn _ _ _;refine aM (a8 (AWp.cut (mkt [(0,.one (.vp 700 0)),(3,.one (.vp 3 0))] ([(712,gPo (pR ks.length bs.length 0)),(3,.var 95 [.ra 711 0 (nR b bs.length 0).length (nR b bs.length 0).length,.ra 712 0 (pR ks.length bs.length 0).length (pR ks.length bs.length 0).length]),(711,gNo (nR b bs.length 0))]++gHl f n s t ks bs al) (fam 0 al)) ?_ ?_))
 ·refine sg rfl (aA rfl (fun hb=>?_) (fun hb=>?_))
  ·have hb:decide (f=5)=true:=hb;rw[hb] at hb5;subst hb5;exact ag [] rfl (slG W)
  ·have hb:decide (f=5)=false:=hb;rw[hb] at hb5;subst hb5;exact aD (slG W)
 clear hr11 hr12 e0;refine a8 (sg rfl (aC (aO (fun i:Nat=>mkt [(0,.one (.vp 700 0)),(3,.one (.vp 3 0)),(49,I .i64 ((bs.length:Nat):Int)),(50,I .i64 i)] ([(712,gPo (pR ks.length bs.length i)),(3,.var 95 [.ra 711 0 (nR b bs.length i).length (nR b bs.length i).length,.ra 712 0 (pR ks.length bs.length i).length (pR ks.length bs.length i).length]),(711,gNo (nR b bs.length i))]++gHl f n s t ks bs al) (fam 0 al)) (fun i=>i≤bs.length) (fun i=>bs.length-i) 0 (Ak _) (slG W (h2:=⟨Kn.gf (aQy _ _ _),Kn.of rfl,Kn.gf (aVn _ _ _),trivial⟩)) ?_)));intro i hi;have hpl:(pR ks.length bs.length i).length=ks.length+i:=by unfold pR;rw[Ab,gU,gU]
 have hnl:(nR b bs.length i).length≤1+i:=by unfold nR;rw[Ab,gU];cases b<;>simp[gNm]
 refine sg rfl (a8 (aA rfl (fun hb=>?_) (fun hb=>?_)))
 ·have q:i<bs.length:=by
   have:(i:Int)<(bs.length:Int):=θ hb;omega
  have hst1:pR ks.length bs.length (i+1)=pR ks.length bs.length i++[[.ep 701 i 5 bs.length]]:=by unfold pR;rw[rM,A0]
  have hst2:nR b bs.length (i+1)=nR b bs.length i++[[.ep 701 i 0 bs.length]]:=by unfold nR;rw[rM,A0]
  have hr12:gfo f n s t ks bs al (gPo (pR ks.length bs.length (i+1))).refs:=aQy _ _ _;have hr11:gfo f n s t ks bs al (gNo (nR b bs.length (i+1))).refs:=aVn _ _ _;refine aD (a8 (aC (sg rfl (sg rfl (ag [] rfl (ag [] rfl ⟨i+1,q,by dsimp only;omega,?_⟩))))));dsimp only;rw[hst1,hst2] at *;refine slG W (hh:=⟨⟨_,rfl,.rarrS rfl⟩,⟨_,rfl,.var ?_⟩,⟨_,rfl,.rarrS rfl⟩,⟨_,rfl,.var rfl⟩,⟨_,rfl,.arr⟩,⟨_,rfl,.arr⟩,⟨_,rfl,.rarrS rfl⟩,trivial⟩);rw[Ab,Ab];rfl
 have J:i=bs.length:=by
  have:¬(i:Int)<(bs.length:Int):=Aa hb;omega
 subst J;clear hi hb;refine aM ?_;have hn1:711∉bZ (nR b bs.length bs.length):=k7 (aVn (f:=f) (n:=n) (s:=s) (t:=t) (ks:=ks) (bs:=bs) (al:=al) b bs.length bs.length) (by omega) (by omega);have hn2:712∉bZ (nR b bs.length bs.length):=k7 (aVn (f:=f) (n:=n) (s:=s) (t:=t) (ks:=ks) (bs:=bs) (al:=al) b bs.length bs.length) (by omega) (by omega);have Z:711∉bZ (pR ks.length bs.length bs.length):=k7 (aQy (f:=f) (n:=n) (s:=s) (t:=t) (ks:=ks) (bs:=bs) (al:=al) ks.length bs.length bs.length) (by omega) (by omega);have aa:712∉bZ (pR ks.length bs.length bs.length):=k7 (aQy (f:=f) (n:=n) (s:=s) (t:=t) (ks:=ks) (bs:=bs) (al:=al) ks.length bs.length bs.length) (by omega) (by omega);refine AWp.sub (st2:=mkt [(0,.one (.vp 700 0)),(3,.one (.vp 3 0))] ((712,gPo (pR ks.length bs.length bs.length))::([(3,.var 95 [.ra 711 0 (nR b bs.length bs.length).length (nR b bs.length bs.length).length,.ra 712 0 (pR ks.length bs.length bs.length).length (pR ks.length bs.length bs.length).length]),(711,gNo (nR b bs.length bs.length))]++gHl f n s t ks bs al)) (fam 0 al)) (slG (ex:=(712,_)::[_,_]) W (h2:=⟨Kn.gf (aQy _ _ _),Kn.of rfl,Kn.gf (aVn _ _ _),trivial⟩)) ?_;refine AWp.sub (Sub.fraT hF (a2o (by omega) (by omega)) aa) ?_;have Y:fzH 712 (.ra (pR ks.length bs.length bs.length).length 1 (pR ks.length bs.length bs.length).flatten) ([(3,.var 95 [.ra 711 0 (nR b bs.length bs.length).length (nR b bs.length bs.length).length,.ra 712 0 (pR ks.length bs.length bs.length).length (pR ks.length bs.length bs.length).length]),(711,gNo (nR b bs.length bs.length))]++gHl f n s t ks bs al)
   =[(3,.var 95 [.ra 711 0 (nR b bs.length bs.length).length (nR b bs.length bs.length).length,.ras (pR ks.length bs.length bs.length).length 1 (pR ks.length bs.length bs.length).flatten]),(711,gNo (nR b bs.length bs.length))]++gHl f n s t ks bs al:=by
  show(3,_)::(711,AObj.rarr _ _ (fzR _ _ _))::fzH _ _ (gHl f n s t ks bs al)=_;rw[u7 (by omega) (by omega),u6 _ hn2];simp only[AObj.fz,R.fzL,aSv rfl];rfl
 rw[Y];refine AWp.sub (st2:=mkt [(0,.one (.vp 700 0)),(3,.one (.vp 3 0))] ((711,gNo (nR b bs.length bs.length))::([(3,.var 95 [.ra 711 0 (nR b bs.length bs.length).length (nR b bs.length bs.length).length,.ras (pR ks.length bs.length bs.length).length 1 (pR ks.length bs.length bs.length).flatten])]++gHl f n s t ks bs al)) (fam 0 al)) (slG (ex:=(711,_)::[_]) W (h2:=⟨Kn.gf (aVn _ _ _),Kn.app (Kn.of rfl) (Kn.app (by simp only[R.refs,dE];exact Kn.gf (aQy _ _ _)) Kn.nil),trivial⟩)) ?_;refine AWp.sub (Sub.fraT hF (a2o (by omega) (by omega)) hn1) ?_;have e2:fzH 711 (.ra (nR b bs.length bs.length).length 1 (nR b bs.length bs.length).flatten) ([(3,.var 95 [.ra 711 0 (nR b bs.length bs.length).length (nR b bs.length bs.length).length,.ras (pR ks.length bs.length bs.length).length 1 (pR ks.length bs.length bs.length).flatten])]++gHl f n s t ks bs al)
   =[(3,.var 95 (qD b ks.length bs.length))]++gHl f n s t ks bs al:=by
  show(3,_)::fzH _ _ (gHl f n s t ks bs al)=_;rw[u7 (by omega) (by omega)];simp only[AObj.fz,R.fzL,aSv rfl,R.fz_far (.ras (pR ks.length bs.length bs.length).length 1 (pR ks.length bs.length bs.length).flatten) (show 711∉R.refsL (pR ks.length bs.length bs.length).flatten by rw[dE];exact Z)];rfl
 rw[e2];clear Y e2 hn1 hn2 Z aa hpl hnl;have hgf:gfo f n s t ks bs al (bZ (bY b ks.length bs.length al.length (al.take 0))):=o7 b 0;have hal:al.length=(aY 0 al).length:=dY.symm;refine sgh [(1,.id 713)] rfl (a8 (sg rfl (aC (aO (fun i:Nat=>mkt [(0,.one (.vp 700 0)),(7,.one (.ra 713 0 (bY b ks.length bs.length al.length (al.take i)).length (bY b ks.length bs.length al.length (al.take i)).length)),(82,I .i64 ((al.length:Nat):Int)),(83,I .i64 i)] ([(713,.rarr 95 2 (bY b ks.length bs.length al.length (al.take i)))]++gHl f n s t ks bs al) (fam 0 al)) (fun i=>i≤al.length) (fun i=>al.length-i) 0 (Ak _) (slG W) ?_))));intro i hi;have hgl:(bY b ks.length bs.length al.length (al.take i)).length=1+i:=by unfold bY;rw[Am,zV,At];omega
 refine sg rfl (a8 (aA rfl (fun hb=>?_) (fun hb=>?_)))
 ·have q:i<al.length:=by
   have:(i:Int)<(al.length:Int):=θ hb;omega
  obtain⟨a,hai⟩:=aL q;have hrow:(aY 0 al)[i]?=some (dN i a):=by rw[nF hai,Ba]
  have hvl:=hv a (δ hai);have hobj:(i+800,AObj.arr 9 1 (a.vars.map bC) 0)∈fam 0 al:=by have:=aB1 (k:=0) hai;rwa [Ba] at this
  have hvk:a.vars.length=(a.vars.map bC).length:=(ζ _).symm;have hnx:bY b ks.length bs.length al.length (al.take (i+1))=bY b ks.length bs.length al.length (al.take i)++[mV al.length i a]:=by
   unfold bY;rw[aC7 hai,Ba];rfl
  have O:gfo f n s t ks bs al (bZ (bY b ks.length bs.length al.length (al.take i))):=o7 b i;have hg1:gfo f n s t ks bs al (bZ (bY b ks.length bs.length al.length (al.take (i+1)))):=o7 b (i+1);generalize bY b ks.length bs.length al.length (al.take i)=G at hgl hnx O ⊢;refine aD (a8 (aC (sg rfl (sg rfl (sgh [(3,.id 722)] rfl ?_)))));have aa:722∉bZ [[R.rp 703 i 4 al.length]]:=by simp[bZ,R.refsL,R.refs]
  refine AWp.sub (st2:=mkt [(0,.one (.vp 700 0)),(7,.one (.ra 713 0 G.length G.length)),(9,.one (.rp 703 i 0 al.length)),(10,.one (.vp 10 0)),(82,I .i64 ((al.length:Nat):Int)),(83,I .i64 i)] ((722,gPo [[.rp 703 i 4 al.length]])::([(10,.var 95 [.c .nl,.ra 722 0 1 1]),(713,.rarr 95 2 G)]++gHl f n s t ks bs al)) (fam 0 al)) (slG (ex:=(722,_)::[_,_]) W) ?_;refine AWp.sub (Sub.fraT hF (a2o (by omega) (by omega)) aa) ?_;have Y:fzH 722 (.ra 1 1 [R.rp 703 i 4 al.length]) ([(10,.var 95 [.c .nl,.ra 722 0 1 1]),(713,.rarr 95 2 G)]++gHl f n s t ks bs al)
    =[(10,.var 95 [.c .nl,.ras 1 1 [.rp 703 i 4 al.length]]),(713,.rarr 95 2 G)]++gHl f n s t ks bs al:=by
   show(10,_)::(713,AObj.rarr _ _ (fzR _ _ _))::fzH _ _ (gHl f n s t ks bs al)=_;rw[u7 (by omega) (by omega),u6 _ (k7 O (by omega) (by omega))];rfl
  have e1':fzH 722 (.ra ([[R.rp 703 i 4 al.length]]:List (List R)).length 1 ([[R.rp 703 i 4 al.length]]:List (List R)).flatten)=fzH 722 (.ra 1 1 [R.rp 703 i 4 al.length]):=rfl;rw[e1',Y];clear Y e1' aa;refine AWp.sub (Sub.ownCellR (x:=10) (k:=0) (id:=721) 133 1 rfl rfl rfl) ?_;refine AWp.sub (st2:=mkt [(0,.one (.vp 700 0)),(7,.one (.ra 713 0 G.length G.length)),(9,.one (.rp 703 i 0 al.length)),(10,.one (.vp 10 0)),(82,I .i64 ((al.length:Nat):Int)),(83,I .i64 i)] ([(10,.var 95 [.ra 721 0 0 0,.ras 1 1 [.rp 703 i 4 al.length]]),(713,.rarr 95 2 G),(721,gNo [])]++gHl f n s t ks bs al) (fam 0 al)) (slG W) ?_;have hlook:∀(ex:List (Nat×AObj)),(ex.all fun p=>Nat.blt p.1 800)=true→(mkt [] (ex++gHl f n s t ks bs al) (fam 0 al)).h (i+800)=some (AObj.arr 9 1 (a.vars.map bC) 0):=fun ex hex=>
   (show FarEq _ _ from FarEq.mkt hF (by rw[all_append,hex];rfl)) _ hobj
  refine a8 (skh 4 [(3,.rr (dN i a))] rfl (a7j tok (hlook _ rfl) rfl hvk ?_ trw));refine kz 1 rfl (aC (aO (fun j:Nat=>mkt [(0,.one (.vp 700 0)),(7,.one (.ra 713 0 G.length G.length)),(9,.one (.rp 703 i 0 al.length)),(10,.one (.vp 10 0)),(82,I .i64 ((al.length:Nat):Int)),(83,I .i64 i),(101,I .i64 ((a.vars.length:Nat):Int)),(102,I .i64 j)] ([(721,gNo (vR i a.vars.length j)),(10,.var 95 [.ra 721 0 (vR i a.vars.length j).length (vR i a.vars.length j).length,.ras 1 1 [.rp 703 i 4 al.length]]),(713,.rarr 95 2 G)]++gHl f n s t ks bs al) (fam 0 al)) (fun j=>j≤a.vars.length) (fun j=>a.vars.length-j) 0 (Ak _) (slG W) ?_));intro j hj;have hvj:(vR i a.vars.length j).length=j:=gU _ _;refine sg rfl (a8 (aA rfl (fun hb=>?_) (fun hb=>?_)))
  ·have hlt2:j<a.vars.length:=by
    have:(j:Int)<(a.vars.length:Int):=θ hb;omega
   have hst:vR i a.vars.length (j+1)=vR i a.vars.length j++[[.ep (i+800) j 0 a.vars.length]]:=rM _ _;have hr:gfo f n s t ks bs al (gNo (vR i a.vars.length (j+1))).refs:=a4v q _ _;refine aD (a8 (aC (sg rfl (aE mixed (ak 7 [(5,.rr (dN i a))] rfl (kix tok (j:=j) (hlook _ rfl) rfl hvk hlt2 ?_ trw))))));refine kz 4 rfl (ag [] rfl ⟨j+1,hlt2,by dsimp only;omega,?_⟩);dsimp only;rw[hst] at hr ⊢;refine slG W (hh:=⟨⟨_,rfl,.rarrS rfl⟩,⟨_,rfl,.varS ?_⟩,⟨_,rfl,.rarrS rfl⟩,⟨_,rfl,.var rfl⟩,⟨_,rfl,.arr⟩,⟨_,rfl,.arr⟩,⟨_,rfl,.rarrS rfl⟩,trivial⟩);rw[Ab]
  have J:j=a.vars.length:=by
   have:¬(j:Int)<(a.vars.length:Int):=Aa hb;omega
  subst J;clear hb hj;refine aM ?_;have Z:721∉bZ (vR i a.vars.length a.vars.length):=k7 (a4v (f:=f) (n:=n) (s:=s) (t:=t) (ks:=ks) (bs:=bs) q a.vars.length a.vars.length) (by omega) (by omega);have hrv:gfo f n s t ks bs al (gNo (vR i a.vars.length a.vars.length)).refs:=a4v q _ _;refine AWp.sub (st2:=mkt [(0,.one (.vp 700 0)),(7,.one (.ra 713 0 G.length G.length)),(10,.one (.vp 10 0)),(82,I .i64 ((al.length:Nat):Int)),(83,I .i64 i)] ((721,gNo (vR i a.vars.length a.vars.length))::([(10,.var 95 [.ra 721 0 (vR i a.vars.length a.vars.length).length (vR i a.vars.length a.vars.length).length,.ras 1 1 [.rp 703 i 4 al.length]]),(713,.rarr 95 2 G)]++gHl f n s t ks bs al)) (fam 0 al)) (slG (ex:=(721,_)::[_,_]) W) ?_;refine AWp.sub (Sub.fraT hF (a2o (by omega) (by omega)) Z) ?_;have Y:fzH 721 (.ra (vR i a.vars.length a.vars.length).length 1 (vR i a.vars.length a.vars.length).flatten) ([(10,.var 95 [.ra 721 0 (vR i a.vars.length a.vars.length).length (vR i a.vars.length a.vars.length).length,.ras 1 1 [.rp 703 i 4 al.length]]),(713,.rarr 95 2 G)]++gHl f n s t ks bs al)
    =[(10,.var 95 (mV al.length i a)),(713,.rarr 95 2 G)]++gHl f n s t ks bs al:=by
   show(10,_)::(713,AObj.rarr _ _ (fzR _ _ _))::fzH _ _ (gHl f n s t ks bs al)=_;rw[u7 (by omega) (by omega),u6 _ (k7 O (by omega) (by omega))];simp only[AObj.fz,R.fzL,aSv rfl,R.fz_far (.ras 1 1 [.rp 703 i 4 al.length]) (show 721∉R.refs (.ras 1 1 [.rp 703 i 4 al.length]) by simp[R.refs,R.refsL])];rfl
  rw[Y];clear Y Z;have hra:gfo f n s t ks bs al (R.refsL (mV al.length i a)):=a2n q a;have halr:∃x y,mV al.length i a=[x,y]:=⟨_,_,rfl⟩
  refine ag [] rfl (ag [] rfl ⟨i+1,q,by dsimp only;omega,?_⟩);dsimp only;rw[hnx] at hg1 ⊢;have hg1:gfo f n s t ks bs al (AObj.rarr 95 2 (G++[mV al.length i a])).refs:=hg1;refine slG W (he:=⟨rfl,by rw[Ab];rfl,rfl,rfl,trivial⟩)
 have J:i=al.length:=by
  have:¬(i:Int)<(al.length:Int):=Aa hb;omega
 subst J;have O:gfo f n s t ks bs al (bZ (bY b ks.length bs.length al.length (al.take al.length))):=o7 b _;rw[As] at *;generalize bY b ks.length bs.length al.length al=G at *;refine aM (AWp.sub (st2:=mkt [(7,.one (.ra 713 0 G.length G.length))] ((713,.rarr 95 2 G)::([]++gHl f n s t ks bs al)) (fam 0 al)) (slG (ex:=[(713,_)]) W (h2:=⟨Kn.gf O,trivial⟩)) ?_);refine AWp.sub (Sub.fraT hF (a2o (by omega) (by omega)) (k7 O (by omega) (by omega))) ?_;have Y:fzH 713 (.ra G.length 2 G.flatten) ([]++gHl f n s t ks bs al)=gHl f n s t ks bs al:=u7 (by omega) (by omega);have e2:fzE 713 (.ra G.length 2 G.flatten) [(7,.one (.ra 713 0 G.length G.length))]=[(7,.one (.ras G.length 2 G.flatten))]:=by
  simp only[fzE,V.fz,aSv rfl]
 rw[Y,e2];exact sg rfl (aF (rtG W (h1:=Kn.gf (by show GF _ _ (R.refsL G.flatten);rw[dE];exact O))))
end Go.Proofs.YtglfogjcijokpaaGreatDoor
namespace Go.AM
open Go
def AObj.frz:AObj→AObj
 | .arr te es l _=>.arr te es l 2
 | o=>o
def yX (F:List (Nat×AObj)):List (Nat×AObj):=F.map fun p=>(p.1,p.2.frz)
theorem aOr {F:List (Nat×AObj)}:(yX F).map (·.1)=F.map (·.1):=by unfold yX;rw[Az];rfl
theorem TF.frz {F:List (Nat×AObj)}(h:TF F):TF (yX F):=⟨fun p hp=>by
 obtain⟨q,I,rfl⟩:=Ad.1 hp;exact h.far q I,by rw[aOr];exact h.nodup,fun p hp=>by
 obtain⟨q,I,rfl⟩:=Ad.1 hp;obtain⟨te,es,l,z,e⟩:=h.arr q I
 exact⟨te,es,l,2,by show q.2.frz=_;rw[e];rfl⟩⟩
theorem yQ {α:Type}{p:Nat×α}{x:α}:∀{a b:List (Nat×α)}{i:Nat},p.1∉a.map (·.1)→look (a++(p.1,x)::b) i=if i=p.1 then some x else look (a++p::b) i
 | [],b,i,_=>by
  obtain⟨k,y⟩:=p;simp only[A4,look];by_cases h:i=k
  ·subst h;simp
  ·have:Nat.beq i k=false:=by
    cases hb:Nat.beq i k with
    | false=>rfl
    | true=>exact absurd (Ac hb) h
   simp[this,h]
 | (k,y)::a,b,i,h=>by
  simp only[Al,Ah,not_or] at h;simp only[A9,look];cases hb:Nat.beq i k with
  | true=>
   have:=Ac hb;subst this;simp[Ne.symm h.1]
  | false=>simpa using yQ h.2
theorem Sub.fzMid {kf:List Nat}{el:List (Nat×V)}{hl:List (Nat×AObj)}(hn:(hl.all fun p=>Nat.blt p.1 800)=true):∀{F2 F1:List (Nat×AObj)},TF (F1++F2)→Sub kf (mkt el hl (F1++yX F2)) (mkt el hl (F1++F2))
 | [],F1,_=>by
  have:yX []=[]:=rfl;rw[this];exact Sub.refl _ _
 | p::F2,F1,J=>by
  obtain⟨te,es,l,z,hp⟩:=J.arr p (by simp);have O:=J.far p (by simp);have W:=J.nodup;have Z:p.1∉F1.map (·.1):=fun hm=>by
   rw[A6,C4] at W;exact W.2.2 p.1 hm p.1 (by simp) rfl
  have Y:(mkt el hl (F1++p::F2)).h p.1=some (.arr te es l z):=by
   have:=FarEq.mkt (el:=el) J hn p (by simp);rw[this,hp]
  have h1:=Sub.freeze (kf:=kf) Y;have e:(⟨(mkt el hl (F1++p::F2)).e,upd (mkt el hl (F1++p::F2)).h p.1 (some (.arr te es l 2)),(mkt el hl (F1++p::F2)).d⟩:St)=mkt el hl (F1++(p.1,.arr te es l 2)::F2):=by
   unfold mkt;congr 1;funext i;by_cases hi:i=p.1
   ·subst hi;rw[aI,yF hn O];simp only[aCu O,Bs];rw[yQ Z,ξ rfl]
   ·rw[aS _ _ _ hi];show(match look hl i with | some x=>some x | none=>bif Nat.blt i 800 then none else look (F1++p::F2) i)=_;have hm:=yQ (p:=p) (x:=AObj.arr te es l 2) (a:=F1) (b:=F2) (i:=i) Z;rw[ψ hi] at hm
    (first | (rw[hm];done) | (rw[hm];rfl))
  rw[e] at h1;have aa:TF ((F1++[(p.1,AObj.arr te es l 2)])++F2):=by
   refine⟨fun q I=>?_,?_,fun q I=>?_⟩
   ·rw[A0] at I;rcases χ.1 I with I | I
    ·exact J.far q (by simp[I])
    ·rcases Ah.1 I with rfl | I
     ·exact O
     ·exact J.far q (by simp[show q∈F2 from I])
   ·rw[A0];have:((F1++([(p.1,AObj.arr te es l 2)]++F2)).map (·.1))=(F1++p::F2).map (·.1):=by simp
    rw[this];exact W
   ·rw[A0] at I;rcases χ.1 I with I | I
    ·exact J.arr q (by simp[I])
    ·rcases Ah.1 I with rfl | I
     ·exact⟨_,_,_,_,rfl⟩
     ·exact J.arr q (by simp[show q∈F2 from I])
  have h2:=Sub.fzMid (kf:=kf) (el:=el) hn (F2:=F2) (F1:=F1++[(p.1,AObj.arr te es l 2)]) aa;simp only[A0,List.singleton_append] at h2;have e2:yX (p::F2)=(p.1,.arr te es l 2)::yX F2:=by
   show(p.1,p.2.frz)::yX F2=_;rw[hp];rfl
  rw[e2];exact fun G n S μ a w hg hs=>by
   obtain⟨S',μ',hs'⟩:=h1 G n S μ a w hg hs;exact h2 G n S' μ' a w hg hs'
theorem Sub.fzAll {kf:List Nat}{el:List (Nat×V)}{hl F:List (Nat×AObj)}(q:TF F) (hn:(hl.all fun p=>Nat.blt p.1 800)=true:=by rfl):Sub kf (mkt el hl (yX F)) (mkt el hl F):=Sub.fzMid hn (F1:=[]) q
theorem Sub.outsT {kf:List Nat}{e:Nat→Option V}{h:cK}{d:List Nat}{hl F:List (Nat×AObj)}(q:TF F):Sub kf ⟨e,fun i=>bif Nat.blt i 800 then updL h (outs hl) i else updL h (outs (hl++F)) i,d⟩ ⟨e,updL h (outs (hl++F)),d⟩:=by
 rw[←s6 q];exact Sub.refl _ _
end Go.AM
namespace Go.Proofs.YtglfogjcijokpaaGreatDoor
open Go Go.AM
set_option maxRecDepth 20000
mutual
def allT (p:Ty→Prop):Core→Prop
 | .mk _ _ _ t ks bs al=>p t∧aC9 p ks∧aDa p bs∧aDc p al
def aC9 (p:Ty→Prop):List Core→Prop
 | []=>True
 | c::l=>allT p c∧aC9 p l
def aDa (p:Ty→Prop):List Bind→Prop
 | []=>True
 | .mk _ t c::l=>p t∧allT p c∧aDa p l
def aDc (p:Ty→Prop):List Alt→Prop
 | []=>True
 | .mk _ _ _ _ c::l=>allT p c∧aDc p l
end
theorem aC8 {p:Ty→Prop}:∀{l:List Core},aC9 p l→∀x∈l,allT p x
 | c::l,h,x,hx=>by
  rw[aC9] at h;rcases Ah.1 hx with rfl | hx
  ·exact h.1
  ·exact aC8 h.2 x hx
theorem uO {p:Ty→Prop}:∀{l:List Bind},aDa p l→∀x∈l,p x.ty∧allT p x.body
 | .mk _ _ _::l,h,x,hx=>by
  rw[aDa] at h;rcases Ah.1 hx with rfl | hx
  ·exact⟨h.1,h.2.1⟩
  ·exact uO h.2.2 x hx
theorem aDb {p:Ty→Prop}:∀{l:List Alt},aDc p l→∀x∈l,allT p x.body
 | .mk _ _ _ _ _::l,h,x,hx=>by
  rw[aDc] at h;rcases Ah.1 hx with rfl | hx
  ·exact h.1
  ·exact aDb h.2 x hx
theorem sU {α:Type}:∀{l:List α}{j:Nat}{x:α},l[j]?=some x→l.set j x=l
 | [],_,_,h=>by simp at h
 | y::l,0,x,h=>by simp at h;subst h;rfl
 | y::l,j+1,x,h=>by
  rw[Cp,sU (by simpa using h)]
def uU (al:List Alt) (i:Nat):List (List R):=aY 0 (al.take i)++(al.drop i).map fun a=>(cD a).map R.c
theorem r7:∀{l:List Alt}{k i:Nat}{a:Alt},l[i]?=some a→aY k (l.take (i+1))=aY k (l.take i)++[dN (k+i) a]
 | b::l,k,0,a,h=>by simp at h;subst h;simp[aY]
 | b::l,k,i+1,a,h=>by
  simp only[A1,aY,A9];rw[r7 (l:=l) (k:=k+1) (by simpa using h),show k+1+i=k+(i+1) by omega]
theorem yZ:∀{l:List Alt}{k i:Nat}{a:Alt},l[i]?=some a→fam k (l.take (i+1))=fam k (l.take i)++[(k+i+800,.arr 9 1 (a.vars.map bC) 0)]
 | b::l,k,0,a,h=>by simp at h;subst h;simp[fam]
 | b::l,k,i+1,a,h=>by
  simp only[A1,fam,A9];rw[yZ (l:=l) (k:=k+1) (by simpa using h),show k+1+i=k+(i+1) by omega]
theorem aSl {al:List Alt}{i:Nat}:(uU al i).length=al.length:=by unfold uU;rw[Ab,dY,ζ,At,B5];omega
theorem aXz {al:List Alt}{i:Nat}{a:Alt}(h:al[i]?=some a):(uU al i)[i]?=some ((cD a).map R.c):=by
 have q:i<al.length:=(τ.1 h).1
 unfold uU;rw[A3 (by rw[dY,At];omega),dY,At,Ch (by omega),C6,Bo,An,B0,h];rfl
theorem sT {α:Type}{l m:List α}{x y:α}{i:Nat}(h:l.length=i):(l++x::m).set i y=l++y::m:=by
 subst h;rw[List.set_append_right _ _ (le_refl _),C6];rfl
theorem qG {α:Type}{l:List α}{i:Nat}{a:α}(h:l[i]?=some a):l.drop i=a::l.drop (i+1):=by
 have q:i<l.length:=(τ.1 h).1
 rw[B8 q];congr 1;exact(τ.1 h).2
theorem aSk {al:List Alt}{i:Nat}{a:Alt}(h:al[i]?=some a) (r:List R):(uU al i).set i r=aY 0 (al.take i)++r::(al.drop (i+1)).map fun a=>(cD a).map R.c:=by
 have q:i<al.length:=(τ.1 h).1
 unfold uU;rw[qG h,Al];exact sT (by rw[dY,At];omega)
theorem aNv {al:List Alt}{i:Nat}{a:Alt}(h:al[i]?=some a):uU al (i+1)=aY 0 (al.take i)++dN i a::(al.drop (i+1)).map fun a=>(cD a).map R.c:=by
 unfold uU;rw[r7 h,A0,Ba];rfl
theorem aNw {al:List Alt}{i:Nat}:∀x∈bZ (uU al i),x∈keys (fam 0 (al.take i)):=fun x hx=>by
 unfold uU at hx;rw[kB] at hx;rcases χ.1 hx with hx | hx
 ·exact cZ x hx
 ·have key:∀l:List Alt,bZ (l.map fun a=>(cD a).map R.c)=[]:=by
   intro l
   induction l with
   | nil=>rfl
   | cons a l q=>
    show R.refsL _++bZ _=[];rw[q,A8];unfold cD aB;simp[R.refsL,R.refs]
  rw[key] at hx;cases hx
def sgm (k:Nat) (j:Nat):Nat:=bif Nat.blt j 800 then j else bif Nat.beq j (k+800) then 710 else j
theorem aD3 {k j:Nat}(h:800≤j) (hk:j≠k+800):sgm k j=j:=by
 unfold sgm;rw[aCu h];have:Nat.beq j (k+800)=false:=by
  cases hb:Nat.beq j (k+800) with
  | false=>rfl
  | true=>exact absurd (Ac hb) hk
 rw[this];rfl
theorem aD2 {k:Nat}:sgm k (k+800)=710:=by
 unfold sgm;rw[aCu (le_add_left _ _)];simp
theorem aL6 {σ:Nat→Nat}:∀l:List C,R.renL σ (l.map R.c)=l.map R.c
 | []=>rfl
 | x::l=>by simp only[Al,R.renL,R.ren,aL6 l]
theorem aGz {σ:Nat→Nat}:∀(a b:List (List R)),nJ σ (a++b)=nJ σ a++nJ σ b
 | [],_=>rfl
 | r::a,b=>by simp only[A9,nJ,aGz a b]
theorem kV {σ:Nat→Nat}{k:Nat}{a:Alt}:R.renL σ (dN k a)=[.c (.int .i64 a.form),.c (.int .i64 a.n),.c (.str a.name),.hs (σ (k+800)) 0 a.vars.length a.vars.length]++(aB a.body).map R.c:=by
 unfold dN;simp only[A9,A4,R.renL,R.ren,aL6]
theorem sY {i:Nat}:∀{l:List Alt}{k:Nat},k+l.length≤i→nJ (sgm i) (aY k l)=aY k l
 | [],_,_=>rfl
 | a::l,k,h=>by
  simp only[Am] at h;simp only[aY,nJ];rw[kV,aD3 (le_add_left _ _) (by omega),sY (l:=l) (k:=k+1) (by omega)];rfl
theorem vW {σ:Nat→Nat}:∀l:List Alt,nJ σ (l.map fun a=>(cD a).map R.c)=l.map fun a=>(cD a).map R.c
 | []=>rfl
 | a::l=>by simp only[Al,nJ,aL6,vW l]
def a7d (a:Alt):List R:=[.c (.int .i64 a.form),.c (.int .i64 a.n),.c (.str a.name),.hs 710 0 a.vars.length a.vars.length]++(aB a.body).map R.c
theorem aW4 {al:List Alt}{i:Nat}{a:Alt}(h:al[i]?=some a):(uU al i).set i (a7d a)=nJ (sgm i) (uU al (i+1)):=by
 rw[aSk h,aNv h,aGz];have q:i<al.length:=(τ.1 h).1
 rw[sY (by rw[At];omega)];simp only[nJ];rw[kV,aD2,vW];rfl
def TyG (t:Ty):Prop:=aU Tryz.prog 80 [tyV t] [] (tyV t) []
def oHl (ks:List Core) (bs:List Bind) (al:List Alt):List (Nat×AObj):=[(701,.arr 69 15 (aT bs) 0),(702,.arr 34 10 (aR ks) 0),(703,.rarr 71 14 (aY 0 al))]
def OwG (c:Core):Prop:=aU Tryz.prog 74 [.pa (aB c)] [] (.ma (eD c.form c.n c.name c.ty c.kids.length c.binds.length c.alts.length)) (oHl c.kids c.binds c.alts++fam 0 c.alts)
def OwP (c:Core):Prop:=aU Tryz.prog 74 [.pa (aB c)] [] (.pa (aB c)) []
theorem zQ (al:List Alt) (h:al.length≤600000000000):aU Tryz.prog 129 [.one (.c (.sl 14 (bP al)))] [] (.one (.ra 703 0 al.length al.length)) [(703,.rarr 71 14 (uU al 0))]:=by
 have q:(bP al).length=al.length:=by rw[bT,ζ]
 have h1:=(aCp (bP al) (by omega)).toR;rw[q] at h1;have e:(bP al).map (·.map R.c)=uU al 0:=by
  unfold uU;rw[bT,Az];rfl
 rwa [e] at h1
theorem aSm {al:List Alt}:uU al al.length=aY 0 al:=by
 unfold uU;rw[As,drop_length];simp
theorem aMk {q:St}{al:List Alt}{i:Nat}{a:Alt}(I:al[i]?=some a) (hf:FarEq q.h (fam 0 (al.take i))) (O:q.h 710=some (.arr 9 1 (a.vars.map bC) 0)):
  ∀p∈fam 0 (al.take (i+1)),∃o,q.h (sgm i p.1)=some o∧Ole (sgm i) o p.2:=fun p hp=>by
 rw[yZ I,Ba] at hp;rcases χ.1 hp with hp | hp
 ·obtain⟨j,b,W,rfl⟩:=oA hp;have J:j<(al.take i).length:=(τ.1 W).1
  rw[At] at J;refine⟨_,?_,.arr⟩;rw[aD3 (le_add_left _ _) (by show 0+j+800≠i+800;omega)];exact hf _ hp
 ·rw[κ.1 hp];exact⟨_,by rw[aD2];exact O,.arr⟩
theorem aJk {al:List Alt}{i:Nat}{a:Alt}{hl:List (Nat×AObj)}(O:al[i]?=some a) (h1:Go.AM.distinct (710::hl.map (·.1))=true) (h2:(hl.all fun p=>Nat.blt p.1 800)=true):((hl++fam 0 (al.take (i+1))).map fun p=>sgm i p.1).Nodup:=by
 have hlt:i<al.length:=(τ.1 O).1
 have Y:(hl.map fun p=>sgm i p.1)=hl.map (·.1):=by
  refine Aw fun p hp=>?_
  have:=(A5.1 h2) p hp;unfold sgm;rw[this];rfl
 have Z:((fam 0 (al.take i)).map fun p=>sgm i p.1)=(fam 0 (al.take i)).map (·.1):=by
  refine Aw fun p hp=>?_
  obtain⟨j,b,hj,rfl⟩:=oA hp;have W:j<(al.take i).length:=(τ.1 hj).1
  rw[At] at W;exact aD3 (le_add_left _ _) (by show 0+j+800≠i+800;omega)
 rw[A6,yZ O,Ba,A6,Y,Z];have hd:=dR h1;simp only[Bt] at hd;have J:∀x∈hl.map (·.1),x<800:=fun x hx=>by
  obtain⟨p,hp,rfl⟩:=Ad.1 hx;exact Aq ((A5.1 h2) p hp)
 have I:∀x∈(fam 0 (al.take i)).map (·.1),800≤x:=fun x hx=>by
  obtain⟨p,hp,rfl⟩:=Ad.1 hx;exact fT.far p hp
 show(hl.map (·.1)++((fam 0 (al.take i)).map (·.1)++[sgm i (i+800)])).Nodup;rw[aD2,C4,C4];refine⟨hd.2,⟨mL,by simp,fun x hx y q e=>?_⟩,fun x hx y q e=>?_⟩
 ·have:=I x hx;have:y=710:=by simpa using q
  omega
 ·subst e;rcases χ.1 q with q | q
  ·have:=J x hx;have:=I x q;omega
  ·have:x=710:=by simpa using q
   subst this;exact hd.1 hx
theorem aX9 {b:Bool}{nk nb q:Nat}{l:List Alt}:(bY b nk nb q l)[0]?=some (qD b nk nb):=rfl
theorem aX8 {b:Bool}{nk nb q:Nat}{l:List Alt}{i:Nat}{a:Alt}(h:l[i]?=some a):(bY b nk nb q l)[i+1]?=some (mV q i a):=by
 unfold bY;rw[Bg,aP9 h,Ba]
theorem aEp {b:Bool}{nk nb I:Nat}{l:List Alt}:∀r∈bY b nk nb I l,r.length=2:=by
 have key:∀(l:List Alt) (k:Nat),∀r∈aIx I k l,r.length=2:=by
  intro l
  induction l with
  | nil=>intro k r q;simp[aIx] at q
  | cons a l J=>
   intro k r q;rcases Ah.1 q with rfl | q
   ·rfl
   ·exact J _ r q
 intro r q;rcases Ah.1 q with rfl | q
 ·rfl
 ·exact key l 0 r q
theorem aX7 {b:Bool}{nk nb q:Nat}{l:List Alt}:(bY b nk nb q l).length=1+l.length:=by unfold bY;rw[Am,zV];omega
theorem sX {f:Nat→List R}{k:Nat}(h:∀j,(f j).length=1):∀r∈rgR f k,r.length=1:=fun r q=>by
 obtain⟨j,_,rfl⟩:=Ad.1 q;exact h j
theorem wC {nk nb i:Nat}:∀r∈pR nk nb i,r.length=1:=fun r q=>by
 unfold pR at q;rcases χ.1 q with q | q
 ·exact sX (fun _=>rfl) r q
 ·exact sX (fun _=>rfl) r q
theorem aGx {f:Nat→List R}{k j:Nat}(h:j<k):(rgR f k)[j]?=some (f j):=by unfold rgR;rw[Bo,List.getElem?_range h];rfl
theorem aM0 {nk nb i j:Nat}(h:j<nk):(pR nk nb i)[j]?=some [.ep 702 j 0 nk]:=by unfold pR;rw[Be (by rw[gU];exact h),aGx h]
theorem aMz {nk nb i j:Nat}(h:j<i):(pR nk nb i)[nk+j]?=some [.ep 701 j 5 nb]:=by unfold pR;rw[A3 (by rw[gU];omega),gU,Nat.add_sub_cancel_left,aGx h]
theorem aMy {nk nb i:Nat}:(pR nk nb i).length=nk+i:=by unfold pR;rw[Ab,gU,gU]
inductive LC:Core→Prop
 | mk {f n:Int} {s:Str} {t:Ty} {ks:List Core} {bs:List Bind} {al:List Alt} (h1:ks.length+bs.length+1≤570000000000) (h2:al.length+1≤570000000000) (h3:∀a∈al,a.vars.length≤570000000000)
   (hk:∀x∈ks,LC x) (hb:∀x∈bs,LC x.body) (ha:∀x∈al,LC x.body):LC (.mk f n s t ks bs al)
theorem LC.of:∀(k:Nat) (c:Core),aV c≤k→aV c≤570000000000→LC c
 | 0,c,h,_=>by have:=bG c;omega
 | k+1,.mk f n s t ks bs al,h,hs=>by
  obtain⟨q,I,J,O,W,Y⟩:= @c6 f n s t ks bs al;refine .mk ?_ ?_ (fun a ha=>?_) (fun x hx=>LC.of k x (by have:=q x hx;omega) (by have:=q x hx;omega)) (fun x hx=>LC.of k x.body (by have:=I x hx;omega) (by have:=I x hx;omega)) fun x hx=>LC.of k x.body (by have:=J x hx;omega) (by have:=J x hx;omega)
  ·rw[aV] at hs;have h1:=kL ks;have h2:=kM bs;omega
  ·rw[aV] at hs;have h1:=kN al;omega
  ·have Z:=iL ha;have aa:=sH a;rw[aV] at hs;omega
theorem wV (c:Core) (ih:∀x,aV x<aV c→LC x→allT TyG x→OwP x) (hT:allT TyG c) (hlc:LC c):OwG c:=by
 obtain⟨f,n,s,t,ks,bs,al⟩:=c;obtain⟨ihk,ihb,iha,_,_,_⟩:= @c6 f n s t ks bs al;obtain⟨l1,l2,l3,lk,lb,la⟩:(ks.length+bs.length+1≤570000000000)∧(al.length+1≤570000000000)∧(∀a∈al,a.vars.length≤570000000000)∧(∀x∈ks,LC x)∧(∀x∈bs,LC x.body)∧(∀x∈al,LC x.body):=by
  cases hlc with
  | mk h1 h2 h3 hk hb ha=>exact⟨h1,h2,h3,hk,hb,ha⟩
 rw[allT] at hT;obtain⟨hty,hTk,hTb,hTa⟩:=hT;have hty:aU Tryz.prog 80 [tyV t] [] (tyV t) []:=hty;have hkK:(aR ks).length=ks.length:=by rw[bD,ζ]
 have hkB:(aT bs).length=bs.length:=by rw[bN,ζ]
 have k2:ks.length=(aR ks).length:=hkK.symm;have kb2:bs.length=(aT bs).length:=hkB.symm;have hck:=lE (aR ks) (by omega);have hcb:=zP (aT bs) (by omega);have hca:=zQ al (by omega);rw[hkK] at hck;rw[hkB] at hcb;show aU Tryz.prog 74 [.pa (aB (.mk f n s t ks bs al))] [] (.ma (eD f n s t ks.length bs.length al.length)) (oHl ks bs al++fam 0 al);refine bL (n:=85) tok Tryz.func74 rfl rfl rfl ?_;refine sgh [(0,.id 700)] rfl (sgh [(2,.pc (tyV t))] rfl (sk 2 rfl (kc hck ?_)));refine ak 2 [] rfl (kc hcb ?_);refine ak 2 [] rfl (kc hca ?_);refine kz 6 rfl (a8 (sg rfl ?_));have hbl':bs.length≤570000000000:=by omega
 have hml:∀i,al.length=(uU al i).length:=fun i=>aSl.symm
 have hml0:=hml 0;refine aC ?_;have W0:∀i,GW [] (fam 0 (al.take i)):=fun i=>⟨fT,fun x hx=>(by cases hx),rfl,rfl⟩
 have hmix:∀i,GF [] (fam 0 (al.take i)) (AObj.rarr 71 14 (uU al i)).refs:=fun i x hx=>.inr (aNw x hx)
 have hmix0:=hmix 0;have hF0:TF (fam 0 (al.take 0)):=fT;refine aO (fun i:Nat=>mkt [(1,.one (.vp 700 0)),(2,.one (.vp 2 0)),(27,I .i64 ((bs.length:Nat):Int)),(28,I .i64 i)] ([(2,.var 34 bI),(700,.var 34 (eD f n s t ks.length bs.length al.length)),(701,.arr 69 15 (aT bs) 0),(702,.arr 34 10 (aR ks) 0),(703,.rarr 71 14 (uU al 0))]++[]) (fam 0 (al.take 0))) (fun i=>i≤bs.length) (fun i=>bs.length-i) 0 (Ak _) (slG (W0 0) (fun _ h=>by cases h) (fun p hp=>by cases hp)) ?_
 ·intro i hi;refine sg rfl (a8 (aA rfl (fun hb=>?_) (fun hb=>?_)))
  ·have Z:i<bs.length:=by
    have:(i:Int)<(bs.length:Int):=θ hb;omega
   obtain⟨b,hbi⟩:=aL Z;have hbi':=c9 hbi;have hbt:aU Tryz.prog 80 [tyV b.ty] [] (tyV b.ty) []:=(uO hTb b (δ hbi)).1
   have q:=sU hbi';refine aD (a8 (aC (sg rfl (ag [(8,.row i (b8 b)),(9,.pc (tyV b.ty)),(12,.row i (b8 b))] rfl (ag [] rfl ⟨i+1,Z,by dsimp only;omega,slG (W0 0) (fun _ h=>by cases h) (hh:=⟨⟨_,rfl,.var rfl⟩,⟨_,rfl,.varS rfl⟩,⟨_,rfl,.arrS q⟩,⟨_,rfl,.arr⟩,⟨_,rfl,.rarrS rfl⟩,trivial⟩)⟩)))))
  refine aM (a8 (sg rfl (aC (aO (fun i:Nat=>mkt [(1,.one (.vp 700 0)),(2,.one (.vp 2 0)),(46,I .i64 ((al.length:Nat):Int)),(47,I .i64 i)] ([(2,.var 34 bI),(700,.var 34 (eD f n s t ks.length bs.length al.length)),(701,.arr 69 15 (aT bs) 0),(702,.arr 34 10 (aR ks) 0),(703,.rarr 71 14 (uU al i))]++[]) (fam 0 (al.take i))) (fun i=>i≤al.length) (fun i=>al.length-i) 0 (Ak _) (slG (W0 0) (fun _ h=>by cases h)) ?_))));intro i hi;have hml:=hml i;have hmi:=hmix i;have hFi:TF (fam 0 (al.take i)):=fT;refine sg rfl (a8 (aA rfl (fun hb=>?_) (fun hb=>?_)))
  ·have Z:i<al.length:=by
    have:(i:Int)<(al.length:Int):=θ hb;omega
   obtain⟨a,J⟩:=aL Z;have hrow:=aXz J;have hvl:=l3 a (δ J);have hvk:(a.vars.map bC).length=a.vars.length:=ζ _;have hcl:=iS (a.vars.map bC) (by rw[hvk];omega);rw[hvk] at hcl;have hmx:=hmix (i+1);refine aD (a8 (aC (sg rfl (aE mixed (ak 9 [(8,.rr ((cD a).map R.c))] rfl (kc hcl ?_))))));refine ak 3 [(12,.rr ((cD a).map R.c))] rfl (az (ag [] rfl ⟨i+1,Z,by dsimp only;omega,?_⟩));dsimp only;refine Sub.tailT (hl:=[(2,.var 34 bI),(700,.var 34 (eD f n s t ks.length bs.length al.length)),(701,.arr 69 15 (aT bs) 0),(702,.arr 34 10 (aR ks) 0),(703,.rarr 71 14 (uU al (i+1)))]++[]) (sgm i) fT ?_ ?_ ?_ ?_ ?_ ?_ ?_ ?_
   ·exact⟨rfl,rfl,rfl,rfl,trivial⟩
   ·exact⟨⟨_,rfl,.var rfl⟩,⟨_,rfl,.var rfl⟩,⟨_,rfl,.arr⟩,⟨_,rfl,.arr⟩,⟨_,rfl,.rarr (aW4 J)⟩,trivial⟩
   ·exact aMk J (by repeat (first | exact FarEq.raw hFi | (refine FarEq.updL hFi ?_) | (refine FarEq.upd hFi ?_))) rfl
   ·rfl
   ·exact fun x hx=>.inl (bO (show subset _ _=true from rfl) x hx)
   ·exact(W0 (i+1)).all ⟨Kn.of rfl,Kn.of rfl,Kn.of rfl,Kn.of rfl,Kn.gf hmx,trivial⟩
   ·exact aJk J rfl rfl
   ·exact fun _ h=>by cases h
  refine aM ?_;have hge:i=al.length:=by
   have:¬(i:Int)<(al.length:Int):=Aa hb;omega
  subst hge;have hF:TF (fam 0 al):=fT;have W:GW (gHl f n s t ks bs al) (fam 0 al):=gW;have hgr:=uI (decide (f=5)) f n s t ks bs al rfl (by omega) (by omega) (by omega) fun a ha=>by have:=l3 a ha;omega
  have hrows:=o7 (f:=f) (n:=n) (s:=s) (t:=t) (ks:=ks) (bs:=bs) (al:=al) (decide (f=5)) al.length;rw[As] at hrows ⊢;rw[aSm];have hgl:(bY (decide (f=5)) ks.length bs.length al.length al).length=1+al.length:=aX7;have hra:gfo f n s t ks bs al (R.refsL (bY (decide (f=5)) ks.length bs.length al.length al).flatten):=by rw[dE];exact hrows
  have hg0:(bY (decide (f=5)) ks.length bs.length al.length al)[0]?=some (qD (decide (f=5)) ks.length bs.length):=aX9;have hgA:∀i a,al[i]?=some a→(bY (decide (f=5)) ks.length bs.length al.length al)[i+1]?=some (mV al.length i a):=fun i a h=>aX8 h
  have htk:∀k r,(bY (decide (f=5)) ks.length bs.length al.length al)[k]?=some r→((bY (decide (f=5)) ks.length bs.length al.length al).flatten.drop (k*2)).take 2=r:=eW aEp;generalize bY (decide (f=5)) ks.length bs.length al.length al=G at hgr hgl hra hg0 hgA htk;generalize decide (f=5)=b at hg0;have hal':al.length=(aY 0 al).length:=dY.symm;refine a8 (a8 (aE mixed (kc hgr ?_ (hin':=eJ.app ⟨rfl,rfl,rfl,rfl,trivial⟩ (FarEq.raw hF).all) (hout':=eJ.of fun p hp=>.inl (Ad.2 ⟨p,hp,rfl⟩)) (hok:=oB hF (fun x hx=>.inl (bO (show subset _ _=true from rfl) x hx)) s5))));refine kz 2 rfl (AWp.sub (Sub.outsT hF) ?_);refine aC ?_;have O:∀x∈R.refsL G.flatten,Kn [(2,.var 34 bI)] (gHl f n s t ks bs al) (fam 0 al) x:=Kn.gf hra;refine aO (fun g:Nat=>mkt [(1,.one (.vp 700 0)),(2,.one (.vp 2 0)),(63,.one (.ras G.length 2 G.flatten)),(64,I .i64 ((G.length:Nat):Int)),(65,I .i64 g)] ([(2,.var 34 bI)]++gHl f n s t ks bs al) (fam 0 al)) (fun g=>g≤G.length) (fun g=>G.length-g) 0 (Ak _) (slG W (fun _ h=>by cases h) (FarEq.bif hF (FarEq.outs hF)) (h1:=Kn.app (Kn.of rfl) (Kn.app (Kn.of rfl) (Kn.app O Kn.nil)))) ?_;intro g hg;refine sg rfl (a8 (aA rfl (fun hb=>?_) (fun hb=>?_)))
  ·have Z:g<G.length:=by
    have:(g:Int)<(G.length:Int):=θ hb;omega
   refine aD ?_;cases g with
   | zero=>
    have ht0:=htk 0 _ hg0;have hpl:(pR ks.length bs.length bs.length).length=ks.length+bs.length:=aMy;have hpr:gfo f n s t ks bs al (R.refsL (pR ks.length bs.length bs.length).flatten):=by rw[dE];exact aQy _ _ _
    have hpt:∀k r,(pR ks.length bs.length bs.length)[k]?=some r→((pR ks.length bs.length bs.length).flatten.drop (k*1)).take 1=r:=eW wC;have hp1:∀j,j<ks.length→(pR ks.length bs.length bs.length)[j]?=some [.ep 702 j 0 ks.length]:=fun j h=>aM0 h
    have hp2:∀j,j<bs.length→(pR ks.length bs.length bs.length)[ks.length+j]?=some [.ep 701 j 5 bs.length]:=fun j h=>aMz h
    refine a8 (aC (sgh [(0,.rowR 0 (qD b ks.length bs.length))] rfl (sg rfl (aC (aO (fun j:Nat=>mkt [(1,.one (.vp 700 0)),(2,.one (.vp 2 0)),(63,.one (.ras G.length 2 G.flatten)),(64,I .i64 ((G.length:Nat):Int)),(65,I .i64 (0:Nat)),(70,.one (.ras (pR ks.length bs.length bs.length).length 1 (pR ks.length bs.length bs.length).flatten)),(71,I .i64 (((pR ks.length bs.length bs.length).length:Nat):Int)),(72,I .i64 j)] ([(2,.var 34 bI)]++gHl f n s t ks bs al) (fam 0 al)) (fun j=>j≤(pR ks.length bs.length bs.length).length) (fun j=>(pR ks.length bs.length bs.length).length-j) 0 (Ak _) (slG W (fun _ h=>by cases h) (h1:=Kn.app (Kn.of rfl) (Kn.app (Kn.of rfl) (Kn.app O (Kn.app Kn.nil (Kn.app Kn.nil (Kn.app (Kn.gf hpr) Kn.nil))))))) ?_)))));intro j hj;refine sg rfl (a8 (aA rfl (fun hb=>?_) (fun hb=>?_)))
    ·have hlt2:j<(pR ks.length bs.length bs.length).length:=by
      have:(j:Int)<((pR ks.length bs.length bs.length).length:Int):=θ hb;omega
     refine aD ?_;by_cases hjk:j<ks.length
     ·obtain⟨k,hki⟩:=aL hjk;have hki':=iI hki;have hm:=δ hki;have hc:aU Tryz.prog 74 [.pa (aB k)] [] (.pa (aB k)) []:=ih k (ihk k hm) (lk k hm) (aC8 hTk k hm);have q:=sU hki';have ht1:=hpt j _ (hp1 j hjk);refine a8 (aC (sgh [(0,.rowR j [.ep 702 j 0 ks.length])] rfl (aE mixed (ak 4 [(3,.row j (aB k))] rfl (kc hc ?_)))));exact ak 2 [(6,.row j (aB k))] rfl (az (ag [] rfl ⟨j+1,hlt2,by dsimp only;omega,slG W (fun _ h=>by cases h) (h1:=Kn.app (Kn.of rfl) (Kn.app (Kn.of rfl) (Kn.app O (Kn.app Kn.nil (Kn.app Kn.nil (Kn.app (Kn.gf hpr) Kn.nil)))))) (hh:=⟨⟨_,rfl,.var rfl⟩,⟨_,rfl,.var rfl⟩,⟨_,rfl,.arr⟩,⟨_,rfl,.arrS q⟩,⟨_,rfl,.rarrS rfl⟩,trivial⟩)⟩))
     ·obtain⟨Y,rfl⟩:∃Y,j=ks.length+Y:=⟨j-ks.length,by omega⟩
      have hjb:Y<bs.length:=by omega
      obtain⟨x,hbi⟩:=aL hjb;have hbi':=c9 hbi;have hm:=δ hbi;have hc:aU Tryz.prog 74 [.pa (aB x.body)] [] (.pa (aB x.body)) []:=ih x.body (ihb x hm) (lb x hm) (uO hTb x hm).2;have q:=sU hbi';have ht1:=hpt (ks.length+Y) _ (hp2 Y hjb);refine a8 (aC (sgh [(0,.rowR (ks.length+Y) [.ep 701 Y 5 bs.length])] rfl (aE mixed (ak 4 [(3,.row Y (b8 x))] rfl (kc hc ?_)))));exact ak 2 [(6,.row Y (b8 x))] rfl (az (ag [] rfl ⟨ks.length+Y+1,hlt2,by dsimp only;omega,slG W (fun _ h=>by cases h) (h1:=Kn.app (Kn.of rfl) (Kn.app (Kn.of rfl) (Kn.app O (Kn.app Kn.nil (Kn.app Kn.nil (Kn.app (Kn.gf hpr) Kn.nil)))))) (hh:=⟨⟨_,rfl,.var rfl⟩,⟨_,rfl,.var rfl⟩,⟨_,rfl,.arrS q⟩,⟨_,rfl,.arr⟩,⟨_,rfl,.rarrS rfl⟩,trivial⟩)⟩))
    exact aM (ag [] rfl ⟨1,by omega,by dsimp only;omega,slG W (fun _ h=>by cases h) (h1:=Kn.app (Kn.of rfl) (Kn.app (Kn.of rfl) (Kn.app O Kn.nil)))⟩)
   | succ i=>
    have hia:i<al.length:=by omega
    obtain⟨a,J⟩:=aL hia;have ht0:=htk (i+1) _ (hgA i a J);have hrow:(aY 0 al)[i]?=some (dN i a):=by rw[nF J,Ba]
    have hm:=δ J;have hc:aU Tryz.prog 74 [.pa (aB a.body)] [] (.pa (aB a.body)) []:=ih a.body (iha a hm) (la a hm) (aDb hTa a hm);have q:=sU hrow;refine a8 (aC (sgh [(0,.rowR (i+1) (mV al.length i a))] rfl (sg rfl (aC (aO (fun j:Nat=>mkt [(1,.one (.vp 700 0)),(2,.one (.vp 2 0)),(63,.one (.ras G.length 2 G.flatten)),(64,I .i64 ((G.length:Nat):Int)),(65,I .i64 ((i+1:Nat):Int)),(70,.one (.ras 1 1 [.rp 703 i 4 al.length])),(71,I .i64 ((1:Nat):Int)),(72,I .i64 j)] ([(2,.var 34 bI)]++gHl f n s t ks bs al) (fam 0 al)) (fun j=>j≤1) (fun j=>1-j) 0 (Ak _) (slG W (fun _ h=>by cases h) (h1:=Kn.app (Kn.of rfl) (Kn.app (Kn.of rfl) (Kn.app O (Kn.of rfl))))) ?_)))));intro j hj;refine sg rfl (a8 (aA rfl (fun hb=>?_) (fun hb=>?_)))
    ·have hj0:j=0:=by
      have:(j:Int)<((1:Nat):Int):=θ hb;omega
     subst hj0;refine aD (a8 (aC (sg rfl (aE mixed (ak 4 [(3,.rr (dN i a))] rfl (kc hc ?_))))));exact ak 2 [(6,.rr (dN i a))] rfl (az (ag [] rfl ⟨1,le_refl _,by dsimp only;omega,slG W (fun _ h=>by cases h) (h1:=Kn.app (Kn.of rfl) (Kn.app (Kn.of rfl) (Kn.app O (Kn.of rfl)))) (hh:=⟨⟨_,rfl,.var rfl⟩,⟨_,rfl,.var rfl⟩,⟨_,rfl,.arr⟩,⟨_,rfl,.arr⟩,⟨_,rfl,.rarrS q⟩,trivial⟩)⟩))
    exact aM (ag [] rfl ⟨i+1+1,by omega,by dsimp only;omega,slG W (fun _ h=>by cases h) (h1:=Kn.app (Kn.of rfl) (Kn.app (Kn.of rfl) (Kn.app O Kn.nil)))⟩)
  refine aM (sg rfl ?_);exact aF ⟨.inr rfl,aEu (hl:=oHl ks bs al) hF (by repeat (first | exact FarEq.raw hF | (refine FarEq.updL hF ?_) | (refine FarEq.upd hF ?_))) ⟨_,_,.cell rfl (tg rfl) rfl rfl rfl .nil,.cons .refl .nil,rfl⟩ (fun x hx=>.inl (bO (show subset _ _=true from rfl) x hx)) (fun x hx=>.inr (cZ x (by simpa [oHl,dO,AObj.refs] using hx))) (fun _ h=>by cases h) (fun _ h=>by cases h)⟩
theorem aG4 {h:cK}{ids:List Nat}{rs:List R}{cs:List C}(k:PureL h ids rs cs):∀l:List C,PureL h ids (l.map R.c++rs) (l++cs)
 | []=>k
 | _::l=>.c .refl (aG4 k l)
theorem aA8 {h:cK}:∀{al:List Alt}{k:Nat},FarEq h (yX (fam k al))→∃ids,PureL h ids (aY k al).flatten (al.map cD).flatten
 | [],_,_=>⟨[],.nil⟩
 | a::l,k,hf=>by
  obtain⟨ids,q⟩:=aA8 (al:=l) (k:=k+1) fun p hp=>hf p (η _ hp)
  have hh:h (k+800)=some (.arr 9 1 (a.vars.map bC) 2):=hf (k+800,.arr 9 1 (a.vars.map bC) 2) φ;refine⟨(k+800)::ids,?_⟩;have h1:=aG4 q (aB a.body);simp only[aY,Al,Bk,dN,cD,A9,A4];exact .c .refl (.c .refl (.c .refl (.hs hh (ζ _).symm (by rw[B4,←ζ (f:=bC),As]) h1)))
def jY (f n:Int) (s:Str) (t:Ty) (nk nb:Nat) (al:List Alt):List R:=[.c (.int .i64 f),.c (.int .i64 n),.c (.str s),.c (.int .i64 t.form),.c (.int .i64 t.n),.c (.str t.name),.c (.sl 4 (iW t)),.hs 702 0 nk nk,.hs 701 0 nb nb,.ras al.length 14 (aY 0 al).flatten]
theorem tI {h:cK}{f n:Int}{s:Str}{t:Ty}{ks:List Core}{bs:List Bind}{al:List Alt}(h1:h 701=some (.arr 69 15 (aT bs) 2)) (h2:h 702=some (.arr 34 10 (aR ks) 2)) (hf:FarEq h (yX (fam 0 al))):
  ∃ids,PureL h ids (jY f n s t ks.length bs.length al) (aB (.mk f n s t ks bs al)):=by
 obtain⟨ids,hp⟩:=aA8 hf;have I:(aR ks).length=ks.length:=by rw[bD,ζ]
 have J:(aT bs).length=bs.length:=by rw[bN,ζ]
 refine⟨702::701::(ids++[]),?_⟩;refine .c .refl (.c .refl (.c .refl (.c .refl (.c .refl (.c .refl (.c .refl (.hs h2 I.symm ?_ (.hs h1 J.symm ?_ (.ras rfl hp ?_ ?_ ?_ .nil)))))))))
 ·rw[B4,←I,As];rfl
 ·rw[B4,←J,As];rfl
 ·show _=(bP al).flatten;rw[bT]
 ·intro r q;have q:r∈bP al:=q;rw[bT] at q;obtain⟨a,_,rfl⟩:=Ad.1 q;rfl
 ·show(bP al).length=_;rw[bT,ζ]
theorem vE {al:List Alt}:703∉bZ (aY 0 al):=fun h=>by
 obtain⟨p,hp,e⟩:=Ad.1 (cZ 703 h);have:=fT.far p hp;omega
theorem pV {kf:List Nat}{el:List (Nat×V)}{ex:List (Nat×AObj)}{ks:List Core}{bs:List Bind}{al:List Alt}(Y:703∉kf)
  (ab:∀x∈oL el,Kn (oHl ks bs al) ex (fam 0 al) x) (hex:eJ (fun q=>∀x∈q.2.refs,Kn (oHl ks bs al) ex (fam 0 al) x) ex)
  (ac:∀i∈kf,i∈keys (oHl ks bs al++ex)∨i∈keys (fam 0 al)) (hd:Go.AM.distinct ((oHl ks bs al++ex).map (·.1))=true) (hn:(ex.all fun p=>Nat.blt p.1 800)=true) (ad:(el.map (·.1)).Nodup) (ae:∀p∈ex,p.2.live=true):
  Sub kf (mkt (fzE 703 (.ra al.length 14 (aY 0 al).flatten) el) (fzH 703 (.ra al.length 14 (aY 0 al).flatten) ([(701,.arr 69 15 (aT bs) 2),(702,.arr 34 10 (aR ks) 2)]++ex)) (yX (fam 0 al))) (mkt el (oHl ks bs al++ex) (fam 0 al)):=by
 have O:TF (fam 0 al):=fT;have ag:((oHl ks bs al++ex).all fun p=>Nat.blt p.1 800)=true:=by rw[all_append,hn];rfl
 have e1:Sub kf (mkt el ([(703,.rarr 71 14 (aY 0 al)),(701,.arr 69 15 (aT bs) 2),(702,.arr 34 10 (aR ks) 2)]++ex) (fam 0 al)) (mkt el (oHl ks bs al++ex) (fam 0 al)):=by
  refine Sub.trans ?_ (Sub.freeze (id:=701) (te:=69) (es:=15) (elems:=aT bs) (fz:=0) rfl);refine Sub.trans ?_ (Sub.freeze (id:=702) (te:=34) (es:=10) (elems:=aR ks) (fz:=0) rfl);have W:∀p∈ex,703≠p.1∧701≠p.1∧702≠p.1:=fun p hp=>by
   have I:=dR hd;simp only[oHl,A9,A4,Al,Bt,Ah,not_or] at I;have hm:p.1∈ex.map (·.1):=Ad.2 ⟨p,hp,rfl⟩;exact⟨fun e=>I.2.2.1 (e▸hm),fun e=>I.1.2.2 (e▸hm),fun e=>I.2.1.2 (e▸hm)⟩
  have Z:(ex.map (·.1)).Nodup:=by
   have I:=dR hd;simp only[oHl,A9,A4,Al,Bt] at I;exact I.2.2.2
  have hg:∀x∈dO (oHl ks bs al++ex),x∈keys (oHl ks bs al++ex)∨x∈keys (fam 0 al):=fun x hx=>by
   rw[jA] at hx;rcases χ.1 hx with hx | hx
   ·exact .inr (cZ x (by simpa [oHl,dO,AObj.refs] using hx))
   ·rcases aA2 hex x hx with h | h | h
    ·exact .inl (iP.2 (.inl h))
    ·exact .inl (iP.2 (.inr h))
    ·exact .inr h
  have J:∀x,x∈keys (oHl ks bs al++ex)→x∈keys ([(703,AObj.rarr 71 14 (aY 0 al)),(701,.arr 69 15 (aT bs) 2),(702,.arr 34 10 (aR ks) 2)]++ex):=fun x hx=>by
   simp only[oHl,keys,A9,A4,Al,Ah] at hx ⊢;rcases hx with h | h | h | h
   ·exact .inr (.inl h)
   ·exact .inr (.inr (.inl h))
   ·exact .inl h
   ·exact .inr (.inr (.inr h))
  refine slT O (FarEq.upd O (FarEq.upd O (FarEq.mkt O ag))) (fun x hx=>?_) (fun x hx=>?_) (fun i hi=>(ac i hi).imp (J i) id) (he:=eJ.of fun p hp=>?_) (hh:=⟨⟨_,rfl,.rarrS rfl⟩,⟨_,rfl,.arr⟩,⟨_,rfl,.arr⟩,eJ.of fun p hp=>?_⟩) (h3:=?_) (h3':=?_)
  ·rcases ab x hx with h | h | h
   ·exact .inl (J x (iP.2 (.inl h)))
   ·exact .inl (J x (iP.2 (.inr h)))
   ·exact .inr h
  ·refine(hg x ?_).imp (J x) id;rw[jA] at hx ⊢;rcases χ.1 hx with hx | hx
   ·exact χ.2 (.inl (by simpa [oHl,dO,AObj.refs] using hx))
   ·exact χ.2 (.inr hx)
  ·rw[V.ren_id];exact qB ad p hp
  ·obtain⟨m1,m2,m3⟩:=W p hp;refine⟨p.2,?_,.refl_id (by intro e;have:=ae p hp;rw[e] at this;cases this)⟩;dsimp only;rw[aS _ _ _ (Ne.symm m3),aS _ _ _ (Ne.symm m2)];have hl:Go.AM.look (oHl ks bs al++ex) p.1=some p.2:=qB (dR hd) p (χ.2 (.inr hp));show(match Go.AM.look (oHl ks bs al++ex) p.1 with | some x=>some x | none=>_)=_;rw[hl]
  ·refine gG ?_;simp only[A9,A4,Al,Bt,Ah,not_or];refine⟨⟨by decide,by decide,fun h=>?_⟩,⟨by decide,fun h=>?_⟩,fun h=>?_,Z⟩
   all_goals
    obtain⟨p,hp,e⟩:=Ad.1 h;have:=W p hp;omega
  ·rw[all_append,hn];rfl
 have aa:Go.AM.distinct (703::List.map (fun p:Nat×AObj=>p.1) ([(701,AObj.arr 69 15 (aT bs) 2),(702,.arr 34 10 (aR ks) 2)]++ex))=true:=by
  have I:=dR hd;simp only[oHl,A9,A4,Al,Bt,Ah,not_or] at I;refine gG ?_;simp only[A9,A4,Al,Bt,Ah,not_or];exact⟨⟨by decide,by decide,I.2.2.1⟩,⟨by decide,I.1.2.2⟩,I.2.1.2,I.2.2.2⟩
 have e2:=Sub.fzAll (kf:=kf) (el:=el) (hl:=[(703,.rarr 71 14 (aY 0 al)),(701,.arr 69 15 (aT bs) 2),(702,.arr 34 10 (aR ks) 2)]++ex) O (by rw[all_append,hn];rfl);have e3:=Sub.fraT (kf:=kf) (el:=el) (id:=703) (te:=71) (es:=14) (rows:=aY 0 al) (rest:=[(701,.arr 69 15 (aT bs) 2),(702,.arr 34 10 (aR ks) 2)]++ex) O.frz Y vE rfl aa;rw[dY] at e3;exact Sub.trans e3 (Sub.trans e2 e1)
theorem aM1 {c:Core}(h:OwG c):OwP c:=by
 obtain⟨f,n,s,t,ks,bs,al⟩:=c;refine aU.sub h ?_;have q:TF (fam 0 al):=fT;show Sub [] _ (mk [(0,.ma (eD f n s t ks.length bs.length al.length))] (oHl ks bs al++fam 0 al));rw[←aNr q];have h1:=pV (kf:=[]) (el:=[(0,.ma (eD f n s t ks.length bs.length al.length))]) (ex:=[]) (ks:=ks) (bs:=bs) (al:=al) (by simp) (Kn.of rfl) trivial (fun _ h=>by cases h) rfl rfl (by simp) (fun _ h=>by cases h);rw[A8] at h1;refine Sub.trans ?_ h1;have J:fzE 703 (.ra al.length 14 (aY 0 al).flatten) [(0,.ma (eD f n s t ks.length bs.length al.length))]=[(0,.ma (jY f n s t ks.length bs.length al))]:=by
  unfold eD jY;simp only[fzE,V.fz,R.fzL,R.fz,Cb,Ct,Bool.and_self]
 rw[J];have I:TF (yX (fam 0 al)):=q.frz;obtain⟨ids,hp⟩:=tI (h:=(mkt [(0,V.ma (jY f n s t ks.length bs.length al))] (fzH 703 (.ra al.length 14 (aY 0 al).flatten) ([(701,.arr 69 15 (aT bs) 2),(702,.arr 34 10 (aR ks) 2)]++[])) (yX (fam 0 al))).h) (f:=f) (n:=n) (s:=s) (t:=t) (ks:=ks) (bs:=bs) (al:=al) rfl rfl (FarEq.mkt I rfl);refine Sub.trans ?_ (Sub.conv (t:=0) (v:=.ma (jY f n s t ks.length bs.length al)) (v':=.pa (aB (.mk f n s t ks bs al))) rfl (.agg hp));exact sl
theorem aIk:∀(n:Nat) (c:Core),aV c≤n→LC c→allT TyG c→OwP c
 | 0,c,h,_,_=>by have:=bG c;omega
 | n+1,c,h,hl,J=>aM1 (wV c (fun x hx q I=>aIk n x (by omega) q I) J hl)
theorem aPf (n:Nat) (c:Core) (h:aV c≤n) (hn:n≤570000000000) (q:allT TyG c):OwP c:=aIk n c h (LC.of n c h (by omega)) q
theorem aPg (c:Core) (h:LC c) (I:allT TyG c):OwG c:=wV c (fun x _ hx q=>aIk (aV x) x (le_refl _) hx q) I h
theorem a3q (c:Core) (h:aV c≤570000000000) (q:allT TyG c):OwG c:=aPg c (LC.of _ c (le_refl _) h) q
def nm0 (c:Core):List (List C):=if c.form=5 then [[.pt ((aB c).drop 2)]] else []
def aE5 (b:Bind):List C:=[.pt ((b8 b).drop 0)]
def aJ4 (b:Bind):List C:=[.pt ((b8 b).drop 5)]
def fC (k:Core):List C:=[.pt (aB k)]
def xL (v:Str):List C:=[.pt (bC v)]
def aFc (a:Alt):List C:=[.sl 1 (a.vars.map xL),.sl 1 [[.pt ((cD a).drop 4)]]]
def a2j (c:Core):List C:=[.sl 1 (nm0 c++c.binds.map aE5),.sl 1 (c.kids.map fC++c.binds.map aJ4)]
def jH (c:Core):List (List C):=a2j c::c.alts.map aFc
theorem sN {α:Type}(f:α→List C) (w:List (List C)) {l:List α}{i:Nat}{x:α}(h:l[i]?=some x):w++(l.take i).map f++[f x]=w++(l.take (i+1)).map f:=by
 rw[gS h,A6,A0];rfl
theorem uH (c:Core) (Y:c.kids.length+c.binds.length+1≤570000000000) (Z:c.alts.length+1≤570000000000) (ab:∀a∈c.alts,a.vars.length≤570000000000):aU Tryz.prog 40 [.one (.c (.pt (aB c)))] [] (.one (.c (.sl 2 (jH c)))) []:=by
 obtain⟨f,n,s,t,ks,bs,al⟩:=c;have Y:ks.length+bs.length+1≤570000000000:=Y;have Z:al.length+1≤570000000000:=Z;have ab:∀a∈al,a.vars.length≤570000000000:=ab;have ah:(aT bs).length=bs.length:=by rw[bN,ζ]
 have ai:(aR ks).length=ks.length:=by rw[bD,ζ]
 have aj:(bP al).length=al.length:=by rw[bT,ζ]
 have hW:(nm0 (.mk f n s t ks bs al)).length≤1:=by unfold nm0;split<;>simp
 have J:nm0 (.mk f n s t ks bs al)=if f=5 then [[.pt ((aB (.mk f n s t ks bs al)).drop 2)]] else []:=rfl
 have aq:jH (.mk f n s t ks bs al)=[.sl 1 (nm0 (.mk f n s t ks bs al)++bs.map aE5),.sl 1 (ks.map fC++bs.map aJ4)]::al.map aFc:=rfl;rw[aq];generalize nm0 (.mk f n s t ks bs al)=W at hW J ⊢;refine bL (n:=123) tok Tryz.func40 rfl rfl rfl ?_;refine sg rfl (sg rfl (AWp.sub (Sub.ownCell (x:=3) (k:=1) (id:=712) 91 1 rfl rfl rfl) (AWp.sub (Sub.ownCell (x:=3) (k:=0) (id:=711) 133 1 rfl rfl rfl) ?_)));refine a8 (sg rfl (aC (aO (fun i:Nat=>mk [(0,.one (.c (.pt (aB (.mk f n s t ks bs al))))),(3,.one (.vp 3 0)),(16,I .i64 ((aR ks).length:Int)),(17,I .i64 i)] [(3,.var 95 [.hs 711 0 0 0,.hs 712 0 i i]),(711,.arr 133 1 [] 0),(712,.arr 91 1 ((ks.take i).map fC) 0)]) (fun i=>i≤ks.length) (fun i=>ks.length-i) 0 (Ak _) sl ?_)));intro i hi;refine sg rfl (a8 (aA rfl (fun hb=>?_) (fun hb=>?_)))
 ·have q:=ltD hb ai;obtain⟨k,ak⟩:=aL q;have hki':=iI ak;have aa:=lX fC ak;exact aD (a8 (aC (sg rfl (ag [(7,.row i (aB k))] rfl (ag [] rfl ⟨i+1,q,by dsimp only;omega,sl⟩)))))
 have O:=geD hb ai hi;subst O;rw[As];refine aM (a8 (AWp.cut (mk [(0,.one (.c (.pt (aB (.mk f n s t ks bs al))))),(3,.one (.vp 3 0))] [(3,.var 95 [.hs 711 0 W.length W.length,.hs 712 0 ks.length ks.length]),(711,.arr 133 1 W 0),(712,.arr 91 1 (ks.map fC) 0)]) ?_ ?_))
 ·refine sg rfl (aA rfl (fun hb=>?_) (fun hb=>?_))
  ·have h5:f=5:=θ hb;rw[ξ h5] at J;subst J;exact ag [] rfl sl
  ·have h5:¬f=5:=Aa hb;rw[ψ h5] at J;subst J;exact aD sl
 clear J;refine a8 (sg rfl (aC (aO (fun i:Nat=>mk [(0,.one (.c (.pt (aB (.mk f n s t ks bs al))))),(3,.one (.vp 3 0)),(49,I .i64 ((aT bs).length:Int)),(50,I .i64 i)] [(3,.var 95 [.hs 711 0 (W.length+i) (W.length+i),.hs 712 0 (ks.length+i) (ks.length+i)]),(711,.arr 133 1 (W++(bs.take i).map aE5) 0),(712,.arr 91 1 (ks.map fC++(bs.take i).map aJ4) 0)]) (fun i=>i≤bs.length) (fun i=>bs.length-i) 0 (Ak _) sl ?_)));intro i hi;refine sg rfl (a8 (aA rfl (fun hb=>?_) (fun hb=>?_)))
 ·have q:=ltD hb ah;obtain⟨b,ac⟩:=aL q;have hbi':=c9 ac;have hr1:=sN aE5 W ac;have hr2:=sN aJ4 (ks.map fC) ac;exact aD (a8 (aC (sg rfl (sgh [(5,.row i (b8 b))] rfl (ag [] rfl (ag [] rfl ⟨i+1,q,by dsimp only;omega,sl⟩))))))
 have O:=geD hb ah hi;subst O;rw[As];have Y:(W++bs.map aE5).length=W.length+bs.length:=by simp
 have Z:(ks.map fC++bs.map aJ4).length=ks.length+bs.length:=by simp
 rw[←Y,←Z];generalize W++bs.map aE5=N0;generalize ks.map fC++bs.map aJ4=P0;refine aM (AWp.sub (Sub.freeze (id:=711) rfl) (AWp.sub (Sub.freeze (id:=712) rfl) (AWp.sub (vp 3 [.sl 1 N0,.sl 1 P0]) ?_)));refine sgh [(1,.id 500)] rfl (a8 (sg rfl (aC (aO (fun i:Nat=>mk [(0,.one (.c (.pt (aB (.mk f n s t ks bs al))))),(7,.one (.hs 500 0 (1+i) (1+i))),(82,I .i64 ((bP al).length:Int)),(83,I .i64 i)] [(500,.arr 95 2 ([[.sl 1 N0,.sl 1 P0]]++(al.take i).map aFc) 0)]) (fun i=>i≤al.length) (fun i=>al.length-i) 0 (Ak _) sl ?_))));intro i hi;refine sg rfl (a8 (aA rfl (fun hb=>?_) (fun hb=>?_)))
 ·have q:=ltD hb aj;obtain⟨a,ad⟩:=aL q;have hai':=nD ad;have hvl:=ab a (δ ad);have aa:=sN aFc [[.sl 1 N0,.sl 1 P0]] ad;have am:(a.vars.map bC).length=a.vars.length:=ζ _;have ar:(([[.sl 1 N0,.sl 1 P0]]:List (List C))++(al.take i).map aFc).length=1+i:=by
   rw[Ab,ζ,At];show 1+min i al.length=_;omega
  have hall:al.length≤570000000000:=by omega
  generalize ([[.sl 1 N0,.sl 1 P0]]:List (List C))++(al.take i).map aFc=G at ar aa ⊢;refine aD (a8 (aC (sg rfl (sgh [(5,.row i (cD a))] rfl (sgh [(3,.all)] rfl (AWp.sub (Sub.ownCell (x:=10) (k:=0) (id:=721) 133 1 rfl rfl rfl) ?_))))));refine a8 (sg rfl (aC (aO (fun j:Nat=>mk [(0,.one (.c (.pt (aB (.mk f n s t ks bs al))))),(7,.one (.hs 500 0 (1+i) (1+i))),(9,.one (.c (.pt (cD a)))),(10,.one (.vp 10 0)),(82,I .i64 ((bP al).length:Int)),(83,I .i64 i),(101,I .i64 ((a.vars.map bC).length:Int)),(102,I .i64 j)] [(500,.arr 95 2 G 0),(10,.var 95 [.hs 721 0 j j,.c (.sl 1 [[.pt ((cD a).drop 4)]])]),(721,.arr 133 1 ((a.vars.take j).map xL) 0)]) (fun j=>j≤a.vars.length) (fun j=>a.vars.length-j) 0 (Ak _) sl ?_)));intro j hj;refine sg rfl (a8 (aA rfl (fun hb=>?_) (fun hb=>?_)))
  ·have ae:=ltD hb am;obtain⟨v,hv⟩:=aL ae;have hv':=bM bC hv;have hr3:=lX xL hv;exact aD (a8 (aC (sg rfl (ag [(7,.row j (bC v))] rfl (ag [] rfl ⟨j+1,ae,by dsimp only;omega,sl⟩)))))
  have ap:=geD hb am hj;subst ap;rw[As];have hlv:a.vars.length=(a.vars.map xL).length:=(ζ _).symm;refine aM (AWp.sub (Sub.freeze (id:=721) rfl) (AWp.sub (vp 10 (aFc a)) ?_));exact ag [(2,.all)] rfl (ag [] rfl ⟨i+1,q,by dsimp only;omega,sl⟩)
 have O:=geD hb aj hi;subst O;rw[As];refine aM (sg rfl (AWp.sub (Sub.freeze (id:=500) rfl) ?_));exact aF (rtT (hc:=hs_all rfl rfl (by simp;omega) rfl))
theorem qC {c:Core}(h:aV c≤570000000000):c.kids.length+c.binds.length+1≤570000000000∧c.alts.length+1≤570000000000∧∀a∈c.alts,a.vars.length≤570000000000:=by
 obtain⟨f,n,s,t,ks,bs,al⟩:=c;have h1:=kL ks;have h2:=kM bs;have h3:=kN al;rw[aV] at h;refine⟨by show ks.length+bs.length+1≤_;omega,by show al.length+1≤_;omega,fun a ha=>?_⟩;have q:=iL (show a∈al from ha);have I:=sH a;omega
theorem aPk (c:Core) (q:aV c≤570000000000):aU Tryz.prog 40 [.one (.c (.pt (aB c)))] [] (.one (.c (.sl 2 (jH c)))) []:=
 uH c (qC q).1 (qC q).2.1 (qC q).2.2
def gl (c:Core):List (List (List C)×List Core):=(nm0 c++c.binds.map aE5,c.kids++c.binds.map Bind.body)::c.alts.map fun a=>(a.vars.map xL,[a.body])
def iG (g:List (List C)×List Core):List C:=[.sl 1 g.1,.sl 1 (g.2.map fC)]
theorem mQ (c:Core):jH c=(gl c).map iG:=by
 obtain⟨f,n,s,t,ks,bs,al⟩:=c;unfold jH gl;rw[Al,Az];congr 1;unfold a2j iG;rw[A6,Az];rfl
mutual
def eZ:Core→Nat
 | .mk _ _ _ _ ks bs al=>1+(dF ks+(lI bs+lJ al))
def dF:List Core→Nat
 | []=>0
 | c::l=>eZ c+dF l
def lI:List Bind→Nat
 | []=>0
 | .mk _ _ c::l=>eZ c+lI l
def lJ:List Alt→Nat
 | []=>0
 | .mk _ _ _ _ c::l=>eZ c+lJ l
end
theorem pX:∀a b,dF (a++b)=dF a+dF b
 | [],b=>by rw[A4,dF,Ba]
 | x::a,b=>by rw[A9,dF,dF,pX a b,Ci]
theorem vP:∀l:List Bind,dF (l.map Bind.body)=lI l
 | []=>by rw[Bj,dF,lI]
 | .mk s t c::l=>by rw[Al,dF,lI,vP l];rfl
def pQ:List (List (List C)×List Core)→Nat
 | []=>0
 | g::l=>dF g.2+pQ l
theorem aBw:∀l:List Alt,pQ (l.map fun a=>(a.vars.map xL,[a.body]))=lJ l
 | []=>by rw[Bj,pQ,lJ]
 | .mk f n s v c::l=>by rw[Al,pQ,lJ,aBw l,dF,dF];rfl
theorem aWx (c:Core):eZ c=1+pQ (gl c):=by
 obtain⟨f,n,s,t,ks,bs,al⟩:=c;unfold gl;rw[pQ,eZ];show _=1+(dF (ks++bs.map Bind.body)+pQ (al.map fun a=>(a.vars.map xL,[a.body])));rw[pX,vP,aBw];omega
mutual
theorem size_le:∀c:Core,eZ c≤aV c
 | .mk f n s t ks bs al=>by rw[eZ,aV];have:=aGo ks;have:=aGp bs;have:=aGq al;omega
theorem aGo:∀l:List Core,dF l≤dJ l
 | []=>by rw[dF];exact Ak _
 | c::l=>by rw[dF,dJ];have:=size_le c;have:=aGo l;omega
theorem aGp:∀l:List Bind,lI l≤iC l
 | []=>by rw[lI];exact Ak _
 | .mk s t c::l=>by rw[lI,iC,bsize];have:=size_le c;have:=aGp l;omega
theorem aGq:∀l:List Alt,lJ l≤iD l
 | []=>by rw[lJ];exact Ak _
 | .mk f n s v c::l=>by rw[lJ,iD,qJ];have:=size_le c;have:=aGq l;omega
end
theorem aX6 {c:Core}{g:List (List C)×List Core}(h:g∈gl c) {x:Core}(hx:x∈g.2):aV x<aV c:=by
 obtain⟨f,n,s,t,ks,bs,al⟩:=c;obtain⟨q,I,J,O,W,Y⟩:= @c6 f n s t ks bs al;unfold gl at h;rcases Ah.1 h with rfl | h
 ·rcases χ.1 hx with hx | hx
  ·exact q x hx
  ·obtain⟨b,hb,rfl⟩:=Ad.1 hx;exact I b hb
 ·obtain⟨a,ha,rfl⟩:=Ad.1 h;rw[κ.1 hx];exact J a ha
theorem a2l (c:Core):(gl c).length≤aV c∧∀g∈gl c,g.2.length≤aV c∧g.1.length≤aV c:=by
 obtain⟨f,n,s,t,ks,bs,al⟩:=c;have h1:=kL ks;have h2:=kM bs;have h3:=kN al;have I:(nm0 (.mk f n s t ks bs al)).length≤1:=by unfold nm0;split<;>simp
 rw[aV];unfold gl;refine⟨?_,fun g q=>?_⟩
 ·rw[Am,ζ];show al.length+1≤_;omega
 ·rcases Ah.1 q with rfl | q
  ·rw[Ab,Ab,ζ,ζ];show ks.length+bs.length≤_∧_+bs.length≤_;omega
  ·obtain⟨a,ha,rfl⟩:=Ad.1 q;have h4:=iL (show a∈al from ha);have h5:=sH a;have J:1≤qJ a:=by obtain⟨f,n,s,v,c⟩:=a;rw[qJ];omega
   show [a.body].length≤_∧(a.vars.map xL).length≤_;rw[ζ,List.length_singleton];omega
theorem aOd {l:List (List (List C)×List Core)}{i:Nat}{g:List (List C)×List Core}(h:l[i]?=some g):pQ (l.take (i+1))=pQ (l.take i)+dF g.2:=by
 have app:∀a b,pQ (a++b)=pQ a+pQ b:=by
  intro a b
  induction a with
  | nil=>rw[A4,pQ,Ba]
  | cons x a q=>rw[A9,pQ,pQ,q,Ci]
 rw[gS h,app,pQ,pQ,B0]
theorem aD0 {l:List Core}{i:Nat}{x:Core}(h:l[i]?=some x):dF (l.take (i+1))=dF (l.take i)+eZ x:=by
 rw[gS h,pX,dF,dF,B0]
theorem aX5 (l:List (List (List C)×List Core)) (i:Nat):pQ (l.take i)≤pQ l:=by
 induction l generalizing i with
 | nil=>simp
 | cons g l q=>
  cases i with
  | zero=>simp[pQ]
  | succ i=>rw[A1,pQ,pQ];have:=q i;omega
theorem aLr (l:List Core) (i:Nat):dF (l.take i)≤dF l:=by
 induction l generalizing i with
 | nil=>simp
 | cons g l q=>
  cases i with
  | zero=>simp[dF]
  | succ i=>rw[A1,dF,dF];have:=q i;omega
theorem a2m {c:Core}(h:LC c):(gl c).length≤570000000000∧∀g∈gl c,(g.2.length≤570000000000∧g.1.length≤570000000000)∧∀x∈g.2,LC x:=by
 cases h with
 | @mk f n s t ks bs al h1 h2 h3 hk hb ha=>
  have O:(nm0 (.mk f n s t ks bs al)).length≤1:=by unfold nm0;split<;>simp
  unfold gl;refine⟨?_,fun g q=>?_⟩
  ·rw[Am,ζ];show al.length+1≤_;exact h2
  ·rcases Ah.1 q with rfl | q
   ·refine⟨?_,fun x hx=>?_⟩
    ·rw[Ab,Ab,ζ,ζ];show ks.length+bs.length≤_∧_+bs.length≤_;omega
    ·rcases χ.1 hx with hx | hx
     ·exact hk x hx
     ·obtain⟨b,J,rfl⟩:=Ad.1 hx;exact hb b J
   ·obtain⟨a,I,rfl⟩:=Ad.1 q;refine⟨⟨by show 1≤570000000000;omega,?_⟩,fun x hx=>by rw[κ.1 hx];exact ha a I⟩;show(a.vars.map xL).length≤_;rw[ζ];exact h3 a I
def aQh (c:Core):Prop:=LC c→eZ c≤9000000000000000000→aU Tryz.prog 13 [.pa (aB c)] [] (I .i64 (eZ c:Nat)) []
theorem aEz (c:Core) (ih:∀x,aV x<aV c→aQh x):aQh c:=by
 intro W Y;have q:aU Tryz.prog 40 [.one (.c (.pt (aB c)))] [] (.one (.c (.sl 2 (jH c)))) []:=by
  cases W with
  | mk h1 h2 h3=>exact uH _ h1 h2 h3
 have Z:=aWx c;have hin:=fun {g} (h:g∈gl c) {x} hx=> @aX6 c g h x hx
 obtain⟨hgl,aa⟩:=a2m W;rw[mQ] at q;rw[Z] at Y ⊢;generalize gl c=L at q Z Y hin hgl aa ⊢;have ab:(L.map iG).length=L.length:=ζ _;refine bL (n:=30) tok Tryz.func13 rfl rfl rfl ?_;refine sg rfl (sg rfl (AWp.sub (Sub.fvar (id:=1) (l:=aB c) rfl (by simp[keys])) ?_));refine AWp.sub (st2:=mk [(1,.one (.c (.pt (aB c)))),(3,I .i64 1)] []) sl ?_;refine a8 (a8 (aE mixed (kc q ?_)));refine kz 2 rfl (aC (aO (fun i:Nat=>mk [(3,I .i64 ((1+pQ (L.take i):Nat):Int)),(8,.one (.c (.sl 2 (L.map iG)))),(9,I .i64 ((L.map iG).length:Int)),(10,I .i64 i)] []) (fun i=>i≤L.length) (fun i=>L.length-i) 0 (Ak _) sl ?_));intro i hi;refine sg rfl (a8 (aA rfl (fun hb=>?_) (fun hb=>?_)))
 ·have ac:=ltD hb ab;obtain⟨g,hg⟩:=aL ac;have hg':=bM iG hg;have ad:=δ hg;obtain⟨⟨hl1,hl2⟩,ae⟩:=aa g ad;have ah:=aOd hg;have hgl1:=aX5 L (i+1);have J:(g.2.map fC).length=g.2.length:=ζ _;obtain⟨G1,G⟩:=g;dsimp only at hl1 hl2 ae ah J;refine aD (a8 (aC (sgh [(0,.row i (iG (G1,G)))] rfl (sg rfl (aC (aO (fun j:Nat=>mk [(3,I .i64 ((1+pQ (L.take i)+dF (G.take j):Nat):Int)),(8,.one (.c (.sl 2 (L.map iG)))),(9,I .i64 ((L.map iG).length:Int)),(10,I .i64 i),(15,.one (.c (.sl 1 (G.map fC)))),(16,I .i64 ((G.map fC).length:Int)),(17,I .i64 j)] []) (fun j=>j≤G.length) (fun j=>G.length-j) 0 (Ak _) sl ?_))))));intro j hj;refine sg rfl (a8 (aA rfl (fun hb=>?_) (fun hb=>?_)))
  ·have O:=ltD hb J;obtain⟨p,hp⟩:=aL O;have hp':=bM fC hp;have hpc:=hin ad (δ hp);have hst:=aD0 hp;have hsl2:=aLr G (j+1);have hc:=ih p hpc (ae p (δ hp)) (by omega);have hadd:((1+pQ (L.take i)+dF (G.take j):Nat):Int)+((eZ p:Nat):Int)=((1+pQ (L.take i)+dF (G.take (j+1)):Nat):Int):=by rw[hst];omega
   refine aD (a8 (aC (sgh [(0,.row j (fC p))] rfl (ag [(4,.pc (I .i64 (eZ p:Nat)))] rfl (ag [] rfl ⟨j+1,O,by dsimp only;omega,?_⟩)))));dsimp only;rw[←hadd];exact sl
  have hge2:=geD hb J hj;subst hge2;rw[As];refine aM (ag [] rfl ⟨i+1,ac,by dsimp only;omega,?_⟩);dsimp only;rw[show 1+pQ (L.take (i+1))=1+pQ (L.take i)+dF G by rw[ah];omega];exact sl
 have hge:=geD hb ab hi;subst hge;rw[As];exact aM (sg rfl (aF rtT))
theorem aE0:∀(n:Nat) (c:Core),aV c≤n→aQh c
 | 0,c,h=>by have:=bG c;omega
 | n+1,c,h=>aEz c fun x hx=>aE0 n x (by omega)
theorem a3h (n:Nat) (c:Core) (h:aV c≤n) (hs:aV c≤570000000000):aU Tryz.prog 13 [.pa (aB c)] [] (I .i64 (eZ c:Nat)) []:=
 aE0 n c h (LC.of _ c (le_refl _) hs) (by have:=size_le c;omega)
def qX (o:List Str) (s:Str):List Str:=if s∈o then o else o++[s]
def o6 (o l:List Str):List Str:=l.foldl qX o
theorem aNp (o:List Str) {l:List Str}{i:Nat}{s:Str}(h:l[i]?=some s):o6 o (l.take (i+1))=qX (o6 o (l.take i)) s:=by
 unfold o6;rw[gS h,Bv];rfl
theorem aHf (o:List Str) (s:Str):(qX o s).length≤o.length+1:=by unfold qX;split<;>simp
theorem rW (o:List Str):∀l:List Str,(o6 o l).length≤o.length+l.length:=by
 intro l
 induction l generalizing o with
 | nil=>exact le_refl _
 | cons s l q=>
  have h1:=q (qX o s);have h2:=aHf o s;show(o6 (qX o s) l).length≤_;rw[Am];omega
def ouO (o:List Str):AObj:=.arr 9 1 (o.map bC) 1
def ouV (o:List Str):V:=.one (.hs 500 0 o.length o.length)
theorem wW (o l:List Str) (h:o.length+l.length≤600000000000):aU Tryz.prog 130 [ouV o,bK l] [(500,ouO o)] (ouV (o6 o l)) [(500,ouO (o6 o l))]:=by
 have O:(l.map bC).length=l.length:=ζ _;refine bL (n:=23) tok Tryz.func130 rfl rfl rfl ?_;refine sg rfl (a8 (sg rfl (aC (aO (fun i:Nat=>mk [(0,ouV (o6 o (l.take i))),(7,bK l),(8,I .i64 ((l.map bC).length:Int)),(9,I .i64 i)] [(500,ouO (o6 o (l.take i)))]) (fun i=>i≤l.length) (fun i=>l.length-i) 0 (Ak _) sl ?_))));intro i hi;refine sg rfl (a8 (aA rfl (fun hb=>?_) (fun hb=>?_)))
 ·have J:=ltD hb O;obtain⟨s,hs⟩:=aL J;have Z:=bM bC hs;have q:=aNp o hs;have W:=rW o (l.take i);rw[At] at W;generalize o6 o (l.take i)=x at q W ⊢;have aa:=bR x s (by omega);refine aD (a8 (aC (sgh [(0,.row i (bC s))] rfl (AWp.sub (Sub.freeze (id:=500) rfl) ?_))));refine sgh [(2,.pc (B (decide (s∈x))))] rfl (aA rfl (fun hb=>?_) (fun hb=>?_))
  ·have hin:¬s∈x:=by simpa using hb
   rw[qX,ψ hin] at q;refine ag [] rfl (ag [] rfl ⟨i+1,J,by dsimp only;omega,?_⟩);dsimp only;rw[q];exact sl (he:=⟨Go.AM.hs_ren (by simp) (by simp),rfl,rfl,rfl,trivial⟩) (hh:=⟨⟨_,rfl,by first | exact Go.AM.Ole.arrE (by simp;rfl) | exact Go.AM.Ole.arrS (by simp;rfl)⟩,trivial⟩)
  ·have hin:s∈x:=by simpa using hb
   rw[qX,ξ hin] at q;refine aD (ag [] rfl ⟨i+1,J,by dsimp only;omega,?_⟩);dsimp only;rw[q];exact sl
 have Y:=geD hb O hi;subst Y;rw[As];exact aM (sg rfl (aF rtT))
def rR (p:Str×List C):List C:=[.pt (.str p.1::p.2)]
def suO (s:Str):AObj:=.var 9 [.c (.str s)]
theorem aY6 (p:Str×List C) (s:Str):aU Tryz.prog 159 [.one (.c (.pt (.str p.1::p.2))),.one (.vp 9 0)] [(9,suO s)] (B (decide (p.1=s))) [(9,suO s)]:=by
 refine bL (n:=9) tok Tryz.func159 rfl rfl rfl ?_;exact sg rfl (sg rfl (aF rtT))
theorem a3v (l:List (Str×List C)) (s:Str) (hl:l.length≤600000000000):aU Tryz.prog 171 [.one (.c (.sl 1 (l.map rR))),.one (.clo 159 [.vp 9 0])] [(9,suO s)] (I .i64 (aVl (fun p=>decide (p.1=s)) l 0)) [(9,suO s)]:=by
 have J:(l.map rR).length=l.length:=ζ _;generalize Y:(fun p:Str×List C=>decide (p.1=s))=P;refine bL (n:=19) tok Tryz.func171 rfl rfl rfl ?_;refine sg rfl (a8 (sg rfl (aC (aO (fun i:Nat=>mk [(0,.one (.c (.sl 1 (l.map rR)))),(1,.one (.clo 159 [.vp 9 0])),(7,I .i64 ((l.map rR).length:Int)),(8,I .i64 i)] [(9,suO s)]) (fun i=>i≤l.length∧aVl P l 0=aVl P (l.drop i) i) (fun i=>l.length-i) 0 ⟨Ak _,rfl⟩ sl ?_))));intro i ⟨hi,hid⟩;refine sg rfl (a8 (aA rfl (fun hb=>?_) (fun hb=>?_)))
 ·have q:=ltD hb J;obtain⟨p,hp⟩:=aL q;have Z:=bM rR hp;have hc:aU Tryz.prog 159 ([.one (.c (.pt (.str p.1::p.2)))]++([.vp 9 0]:List R).map V.one) [(9,suO s)] (B (P p)) [(9,suO s)]:=by rw[←Y];exact aY6 p s
  have O:l.drop i=p::l.drop (i+1):=by rw[B8 q,(τ.1 hp).2]
  rw[O,aVl] at hid;refine aD (a8 (aC (sg rfl (skh 5 [(3,.row i (rR p))] rfl (kv (args:=[.one (.c (.pt (.str p.1::p.2)))]) hc ?_)))));refine az (aA rfl (fun hb=>?_) (fun hb=>?_))
  ·have hb:P p=true:=hb;rw[ξ hb] at hid;rw[hid];exact sg rfl (aF rtT)
  ·have hb:P p=false:=hb;rw[ψ (by rw[hb];exact Ao)] at hid;exact aD (ag [] rfl ⟨i+1,⟨q,hid⟩,by dsimp only;omega,sl⟩)
 have W:=geD hb J hi;subst W;rw[drop_length,aVl] at hid;rw[hid];exact aM (sg rfl (aF (rtT (v:=I .i64 (-1)) (hc:=.refl))))
theorem a3y (l:List (Str×List C)) (s:Str) (hl:l.length≤600000000000):aU Tryz.prog 158 [.one (.c (.sl 1 (l.map rR))),.one (.clo 159 [.vp 9 0])] [(9,suO s)] (B (decide (s∈l.map (·.1)))) [(9,suO s)]:=by
 have h:=a3v l s hl;have q:decide (s∈l.map (·.1))=l.any fun p=>decide (p.1=s):=by
  rw[Bool.eq_iff_iff];simp only[Bu,List.any_eq_true,Ad]
 rw[q,←aOa _ l 0];refine bL (n:=9) tok Tryz.func158 rfl rfl rfl ?_;refine sg rfl (sk 2 rfl (kc h ?_));exact kz 2 rfl (aF rtT)
set_option maxHeartbeats 4000000
def oF (f:Int) (s:Str) (o:List Str) (x:Str):List Str:=if ¬f=7∨¬x=s then o6 o [x] else o
def aDn (f:Int) (s:Str) (o l:List Str):List Str:=l.foldl (oF f s) o
mutual
def tyR:Core→List Str
 | .mk f _ s t ks bs al=>oD al (nX bs (pP f s ks (o6 [] (tfR t))))
def pP (f:Int) (s:Str):List Core→List Str→List Str
 | [],o=>o
 | c::l,o=>pP f s l (aDn f s o (tyR c))
def nX:List Bind→List Str→List Str
 | [],o=>o
 | .mk _ t c::l,o=>nX l (o6 (o6 o (tfR t)) (tyR c))
def oD:List Alt→List Str→List Str
 | [],o=>o
 | .mk _ _ _ _ c::l,o=>oD l (o6 o (tyR c))
def cT:Core→Nat
 | .mk _ _ _ t ks bs al=>fw t+a66 ks+a67 bs+a68 al
def a66:List Core→Nat
 | []=>0
 | c::l=>cT c+a66 l
def a67:List Bind→Nat
 | []=>0
 | .mk _ t c::l=>fw t+cT c+a67 l
def a68:List Alt→Nat
 | []=>0
 | .mk _ _ _ _ c::l=>cT c+a68 l
end
theorem aKu (f:Int) (s:Str) (o:List Str) (x:Str):(oF f s o x).length≤o.length+1:=by
 unfold oF;split
 ·exact rW o [x]
 ·omega
theorem aF8 (f:Int) (s:Str):∀(l o:List Str),(aDn f s o l).length≤o.length+l.length
 | [],o=>le_refl _
 | x::l,o=>by
  have h1:=aF8 f s l (oF f s o x);have h2:=aKu f s o x;show(aDn f s (oF f s o x) l).length≤_;rw[Am];omega
theorem aFy {f:Int}{s:Str}:∀{l:List Core}{o:List Str}{i:Nat}{c:Core},l[i]?=some c→pP f s (l.take (i+1)) o=aDn f s (pP f s (l.take i) o) (tyR c)
 | d::l,o,0,c,h=>by simp at h;subst h;rw[A1,Cr,Cr,pP,pP,pP]
 | d::l,o,i+1,c,h=>by rw[A1,A1,pP,pP];exact aFy (l:=l) (by simpa using h)
theorem aF0:∀{l:List Bind}{o:List Str}{i:Nat}{b:Bind},l[i]?=some b→nX (l.take (i+1)) o=o6 (o6 (nX (l.take i) o) (tfR b.ty)) (tyR b.body)
 | .mk s t c::l,o,0,b,h=>by simp at h;subst h;rw[A1,Cr,Cr,nX,nX,nX];rfl
 | .mk s t c::l,o,i+1,b,h=>by rw[A1,A1,nX,nX];exact aF0 (l:=l) (by simpa using h)
theorem aF2:∀{l:List Alt}{o:List Str}{i:Nat}{a:Alt},l[i]?=some a→oD (l.take (i+1)) o=o6 (oD (l.take i) o) (tyR a.body)
 | .mk f n s v c::l,o,0,a,h=>by simp at h;subst h;rw[A1,Cr,Cr,oD,oD,oD];rfl
 | .mk f n s v c::l,o,i+1,a,h=>by rw[A1,A1,oD,oD];exact aF2 (l:=l) (by simpa using h)
theorem aK1 {f:Int}{s:Str}{o l:List Str}{j:Nat}{x:Str}(h:l[j]?=some x):aDn f s o (l.take (j+1))=oF f s (aDn f s o (l.take j)) x:=by
 unfold aDn;rw[Bh,h,Bv];rfl
theorem aXx (o:List Str) (s:Str):o.length≤(qX o s).length:=by
 unfold qX;split
 ·exact le_refl _
 ·simp
theorem tX:∀(l o:List Str),o.length≤(o6 o l).length
 | [],_=>le_refl _
 | x::l,o=>le_trans (aXx o x) (tX l (qX o x))
theorem aK3 (f:Int) (s:Str):∀(l o:List Str),o.length≤(aDn f s o l).length
 | [],o=>le_refl _
 | x::l,o=>by
  refine le_trans ?_ (aK3 f s l (oF f s o x));unfold oF;split
  ·exact tX [x] o
  ·exact le_refl _
theorem aUf (f:Int) (s:Str):∀(l:List Core) (o:List Str),o.length≤(pP f s l o).length
 | [],o=>by rw[pP];exact le_refl _
 | c::l,o=>by rw[pP];exact le_trans (aK3 f s _ o) (aUf f s l _)
theorem aKt:∀(l:List Bind) (o:List Str),o.length≤(nX l o).length
 | [],o=>by rw[nX];exact le_refl _
 | .mk s t c::l,o=>by rw[nX];exact le_trans (le_trans (tX _ o) (tX _ _)) (aKt l _)
theorem aF3:∀(l:List Alt) (o:List Str),o.length≤(oD l o).length
 | [],o=>by rw[oD];exact le_refl _
 | .mk f n s v c::l,o=>by rw[oD];exact le_trans (tX _ o) (aF3 l _)
theorem aFx (f:Int) (s:Str):∀(l:List Core) (o:List Str) (i:Nat),(pP f s (l.take i) o).length≤(pP f s l o).length
 | [],o,i=>by rw[List.take_nil];exact le_refl _
 | c::l,o,0=>by rw[Cr,pP];exact aUf f s _ o
 | c::l,o,i+1=>by rw[A1,pP,pP];exact aFx f s l _ i
theorem aFz:∀(l:List Bind) (o:List Str) (i:Nat),(nX (l.take i) o).length≤(nX l o).length
 | [],o,i=>by rw[List.take_nil];exact le_refl _
 | .mk s t c::l,o,0=>by rw[Cr];rw[show nX [] o=o from by rw[nX]];exact aKt _ o
 | .mk s t c::l,o,i+1=>by rw[A1,nX,nX];exact aFz l _ i
theorem aF1:∀(l:List Alt) (o:List Str) (i:Nat),(oD (l.take i) o).length≤(oD l o).length
 | [],o,i=>by rw[List.take_nil];exact le_refl _
 | .mk f n s v c::l,o,0=>by rw[Cr];rw[show oD [] o=o from by rw[oD]];exact aF3 _ o
 | .mk f n s v c::l,o,i+1=>by rw[A1,oD,oD];exact aF1 l _ i
mutual
def tyM:Core→Nat
 | .mk f n s t ks bs al=>max (fw t) (max (tyR (.mk f n s t ks bs al)).length (max (aUg ks) (max (aKx bs) (aRb al))))
def aUg:List Core→Nat
 | []=>0
 | c::l=>max (tyM c) (aUg l)
def aKx:List Bind→Nat
 | []=>0
 | .mk _ t c::l=>max (fw t) (max (tyM c) (aKx l))
def aRb:List Alt→Nat
 | []=>0
 | .mk _ _ _ _ c::l=>max (tyM c) (aRb l)
end
theorem a0o {f n:Int}{s:Str}{t:Ty}{ks:List Core}{bs:List Bind}{al:List Alt}{K:Nat}(h:tyM (.mk f n s t ks bs al)≤K):fw t≤K∧(tyR (.mk f n s t ks bs al)).length≤K∧aUg ks≤K∧aKx bs≤K∧aRb al≤K:=by
 rw[tyM] at h;omega
theorem aKz (c:Core):(tyR c).length≤tyM c:=by cases c;rw[tyM];omega
theorem aF4:∀{l:List Core}{c:Core},c∈l→tyM c≤aUg l
 | d::l,c,h=>by
  rw[aUg];rcases Ah.1 h with rfl | h
  ·omega
  ·have:=aF4 h;omega
theorem aF5:∀{l:List Bind}{b:Bind},b∈l→fw b.ty≤aKx l∧tyM b.body≤aKx l
 | .mk s t c::l,b,h=>by
  rw[aKx];rcases Ah.1 h with rfl | h
  ·show fw t≤_∧tyM c≤_;omega
  ·have:=aF5 h;omega
theorem aF6:∀{l:List Alt}{a:Alt},a∈l→tyM a.body≤aRb l
 | .mk f n s v c::l,a,h=>by
  rw[aRb];rcases Ah.1 h with rfl | h
  ·show tyM c≤_;omega
  ·have:=aF6 h;omega
def aFe (c:Core):Prop:=aV c≤570000000000→tyM c≤400000000→aU Tryz.prog 76 [.pa (aB c)] [] (bK (tyR c)) []
theorem zO (c:Core) (ih:∀x,aV x<aV c→aFe x):aFe c:=by
 intro hsz hcT;obtain⟨f,n,s,t,ks,bs,al⟩:=c;obtain⟨ihk,ihb,iha,hkl,hbl,hal⟩:= @c6 f n s t ks bs al;obtain⟨hMt,W,hMk,hMb,hMa⟩:=a0o hcT;rw[tyR] at W ⊢;have hkB:(aT bs).length=bs.length:=by rw[bN,ζ]
 have hkK:(aR ks).length=ks.length:=by rw[bD,ζ]
 have hkA:(bP al).length=al.length:=by rw[bT,ζ]
 have htf:=aIi t (by omega);have htl:=a2p t;have hmo:aU Tryz.prog 130 [.one (.c .nl),bK (tfR t)] [] (ouV (o6 [] (tfR t))) [(500,ouO (o6 [] (tfR t)))]:=aU.nilArg (pre:=[]) (post:=[bK (tfR t)]) (hin:=[]) (wW [] (tfR t) (by simp;omega)) rfl;have hol:=rW [] (tfR t);simp only[length_nil] at hol;generalize o6 [] (tfR t)=o0 at hmo hol W ⊢;refine bL (n:=76) tok Tryz.func76 rfl rfl rfl ?_;refine sg rfl (sk 2 rfl (kc htf ?_));refine kc hmo ?_;refine kz 1 rfl (a8 (sg rfl (aC (aO (fun i:Nat=>mk [(1,.one (.vp 1 0)),(3,ouV (pP f s (ks.take i) o0)),(17,.one (.c (.sl 10 (aR ks)))),(18,I .i64 ((aR ks).length:Int)),(19,I .i64 i)] [(500,ouO (pP f s (ks.take i) o0)),(1,.var 34 (b7 (.mk f n s t ks bs al)))]) (fun i=>i≤ks.length) (fun i=>ks.length-i) 0 (Ak _) sl ?_))));intro i hi;have hl1:(pP f s (ks.take i) o0).length≤400000000:=le_trans (aFx f s ks o0 i) (le_trans (aKt bs _) (le_trans (aF3 al _) W));refine sg rfl (a8 (aA rfl (fun hb=>?_) (fun hb=>?_)))
 ·have O:=ltD hb hkK;obtain⟨k,hki⟩:=aL O;have hki':=iI hki;have hm:=δ hki;have hkm:=aF4 hm;have hc:=ih k (ihk k hm) (by have:=ihk k hm;omega) (by omega);have hkt:(tyR k).length≤400000000:=by have:=aKz k;omega
  have J:=aFy (f:=f) (s:=s) (o:=o0) hki;generalize pP f s (ks.take i) o0=o at J hl1 ⊢;have hkf:((tyR k).map bC).length=(tyR k).length:=ζ _;generalize tyR k=fk at hc hkt J hkf;refine aD (a8 (aC (sgh [(0,.row i (aB k))] rfl (sk 1 rfl (kc hc ?_)))));refine kz 2 rfl (aC (aO (fun j:Nat=>mk [(1,.one (.vp 1 0)),(3,ouV (aDn f s o (fk.take j))),(17,.one (.c (.sl 10 (aR ks)))),(18,I .i64 ((aR ks).length:Int)),(19,I .i64 i),(24,bK fk),(25,I .i64 ((fk.map bC).length:Int)),(26,I .i64 j)] [(500,ouO (aDn f s o (fk.take j))),(1,.var 34 (b7 (.mk f n s t ks bs al)))]) (fun j=>j≤fk.length) (fun j=>fk.length-j) 0 (Ak _) sl ?_));intro j hj;refine sg rfl (a8 (aA rfl (fun hb=>?_) (fun hb=>?_)))
  ·have hlj:=ltD hb hkf;obtain⟨x,hx⟩:=aL hlj;have hx':=bM bC hx;have hsn:=aK1 (f:=f) (s:=s) (o:=o) hx;have hpl:=aF8 f s (fk.take j) o;rw[At] at hpl;generalize aDn f s o (fk.take j)=q at hsn hpl ⊢;have hmq:=wW q [x] (by simp;omega);refine aD (a8 (aC (sgh [(0,.row j (bC x))] rfl (a8 (agF 4 [] rfl rfl rfl (aA rfl (fun hb=>?_) (fun hb=>?_)))))))
   ·have hb':¬f=7∨¬x=s:=by
     by_cases h7:f=7
     ·refine .inr fun hxs=>?_
      subst h7 hxs;have hb2:(bif !decide ((7:Int)=7) then true else !decide (x=x))=true:=hb;simp at hb2
     ·exact .inl h7
    rw[oF,ξ hb'] at hsn;refine aE mixed (ak 3 [(2,.all)] rfl (kc hmq ?_));refine kz 1 rfl (ag [] rfl ⟨j+1,hlj,by dsimp only;omega,?_⟩);dsimp only;rw[hsn];exact sl
   ·have hb':¬(¬f=7∨¬x=s):=by
     intro h;by_cases h7:f=7
     ·have hxs:=h.resolve_left (fun h=>h h7);subst h7;simp at hb;exact hxs hb.2
     ·simp at hb;exact h7 hb.1
    rw[oF,ψ hb'] at hsn;refine aD (ag [] rfl ⟨j+1,hlj,by dsimp only;omega,?_⟩);dsimp only;rw[hsn];exact sl
  have Y:=geD hb hkf hj;subst Y;rw[As];refine aM (ag [] rfl ⟨i+1,O,by dsimp only;omega,?_⟩);dsimp only;rw[J];exact sl
 have Y:=geD hb hkK hi;subst Y;rw[As] at hl1 ⊢;generalize pP f s ks o0=Z at hl1 W ⊢;refine aM (a8 (sg rfl (aC (aO (fun i:Nat=>mk [(1,.one (.vp 1 0)),(3,ouV (nX (bs.take i) Z)),(46,.one (.c (.sl 15 (aT bs)))),(47,I .i64 ((aT bs).length:Int)),(48,I .i64 i)] [(500,ouO (nX (bs.take i) Z)),(1,.var 34 (b7 (.mk f n s t ks bs al)))]) (fun i=>i≤bs.length) (fun i=>bs.length-i) 0 (Ak _) sl ?_))));intro i hi;have hl3:(nX (bs.take i) Z).length≤400000000:=le_trans (aFz bs Z i) (le_trans (aF3 al _) W);refine sg rfl (a8 (aA rfl (fun hb=>?_) (fun hb=>?_)))
 ·have O:=ltD hb hkB;obtain⟨b,hbi⟩:=aL O;have hbi':=c9 hbi;have hm:=δ hbi;have hbm:=aF5 hm;have hc:=ih b.body (ihb b hm) (by have:=ihb b hm;omega) (by omega);have J:=aF0 (o:=Z) hbi;obtain⟨s',t',c'⟩:=b;have hbm:fw t'≤aKx bs∧tyM c'≤aKx bs:=hbm;have hc:aU Tryz.prog 76 [.pa (aB c')] [] (bK (tyR c')) []:=hc;have J:nX (bs.take (i+1)) Z=o6 (o6 (nX (bs.take i) Z) (tfR t')) (tyR c'):=J;have hf':=aIi t' (by omega);have g1:=a2p t';have g2:(tyR c').length≤400000000:=by have:=aKz c';omega
  generalize nX (bs.take i) Z=o at J hl3 ⊢;have g3:=rW o (tfR t');have m1:=wW o (tfR t') (by omega);have m2:=wW (o6 o (tfR t')) (tyR c') (by omega);refine aD (a8 (aC (sgh [(0,.row i (b8 (.mk s' t' c')))] rfl (aE mixed (ak 3 [] rfl (kc hf' ?_))))));refine kc m1 ?_;refine ak 2 [] rfl (kc hc ?_);refine kc m2 ?_;refine kz 1 rfl (ag [] rfl ⟨i+1,O,by dsimp only;omega,?_⟩);dsimp only;rw[J];exact sl
 have Y:=geD hb hkB hi;subst Y;rw[As] at hl3 ⊢;generalize nX bs Z=o2 at hl3 W ⊢;refine aM (a8 (sg rfl (aC (aO (fun i:Nat=>mk [(3,ouV (oD (al.take i) o2)),(63,.one (.c (.sl 14 (bP al)))),(64,I .i64 ((bP al).length:Int)),(65,I .i64 i)] [(500,ouO (oD (al.take i) o2))]) (fun i=>i≤al.length) (fun i=>al.length-i) 0 (Ak _) sl ?_))));intro i hi;have hl5:(oD (al.take i) o2).length≤400000000:=le_trans (aF1 al o2 i) W;refine sg rfl (a8 (aA rfl (fun hb=>?_) (fun hb=>?_)))
 ·have O:=ltD hb hkA;obtain⟨a,hai⟩:=aL O;have hai':=nD hai;have hm:=δ hai;have ham:=aF6 hm;have hc:=ih a.body (iha a hm) (by have:=iha a hm;omega) (by omega);have J:=aF2 (o:=o2) hai;obtain⟨f',n',s',v',c'⟩:=a;have ham:tyM c'≤aRb al:=ham;have hc:aU Tryz.prog 76 [.pa (aB c')] [] (bK (tyR c')) []:=hc;have J:oD (al.take (i+1)) o2=o6 (oD (al.take i) o2) (tyR c'):=J;have g2:(tyR c').length≤400000000:=by have:=aKz c';omega
  generalize oD (al.take i) o2=o at J hl5 ⊢;have m2:=wW o (tyR c') (by omega);refine aD (a8 (aC (sgh [(0,.row i (cD (.mk f' n' s' v' c')))] rfl (aE mixed (ak 3 [] rfl (kc hc ?_))))));refine kc m2 ?_;refine kz 1 rfl (ag [] rfl ⟨i+1,O,by dsimp only;omega,?_⟩);dsimp only;rw[J];exact sl
 have Y:=geD hb hkA hi;subst Y;rw[As] at hl5 ⊢;refine aM (AWp.sub (Sub.freeze (id:=500) rfl) ?_);exact sg rfl (aF (rtT (hc:=hs_all rfl rfl (by simp) rfl)))
theorem aCo:∀(n:Nat) (c:Core),aV c≤n→aFe c
 | 0,c,h=>by have:=bG c;omega
 | n+1,c,h=>zO c fun x hx=>aCo n x (by omega)
end Go.Proofs.YtglfogjcijokpaaGreatDoor
