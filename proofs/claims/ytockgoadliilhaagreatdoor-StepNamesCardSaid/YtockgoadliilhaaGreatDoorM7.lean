/-
  Texts Lg2 to Ly1 in one.
-/
import Derived.Test.YtockgoadliilhaaGreatDoorM6
open List (all_append all_eq_true append_assoc append_nil cons_append drop_eq_getElem_cons drop_length drop_zero flatMap_cons flatten_cons foldl_append length_append length_cons length_drop length_filter_le length_map length_nil length_take map_append map_congr_left map_cons map_map map_nil mem_append mem_cons mem_cons_of_mem mem_cons_self mem_filter mem_map mem_of_mem_take mem_singleton nil_append nodup_append nodup_cons set_cons_succ take_add_one take_length take_succ_cons take_zero)
open Nat (add_assoc add_zero beq_refl eq_of_beq_eq_true le_add_left le_of_ble_eq_true le_refl le_trans min_eq_left mul_le_mul_right sub_self zero_add zero_le)
namespace Go.Proofs.YtockgoadliilhaaGreatDoor
open Go Go.AM
set_option maxRecDepth 20000
theorem aPt {G F:List (Nat×AObj)}{f:Nat→List R}(h:∀j,GF G F (R.refsL (f j))) (k:Nat):GF G F (c8 (rgR f k)):=mG h k
theorem jU:∀(a b:List (List R)),c8 (a++b)=c8 a++c8 b
 | [],_=>rfl
 | r::a,b=>by simp only[Ba,c8,jU a b,At]
section
variable {f n:Int}{s:Str}{t:Ty}{ks:List Core}{bs:List Bind}{al:List Alt}
abbrev gfo (f n:Int) (s:Str) (t:Ty) (ks:List Core) (bs:List Bind) (al:List Alt) (l:List Nat):Prop:=GF (gHl f n s t ks bs al) (fam 0 al) l
theorem a1d (nk i:Nat):gfo f n s t ks bs al (c8 (rgR (fun j=>[.ep 702 j 0 nk]) i)):=aPt (fun j x hx=>.inl (by
 have:x=702:=by simpa [R.refsL,R.refs] using hx
 subst this;simp[gHl,keys])) i
theorem aR2 (b:Bool) (nb i:Nat):gfo f n s t ks bs al (c8 (nR b nb i)):=by
 unfold nR;rw[jU];refine GF.app ?_ (aPt (fun j x hx=>.inl ?_) i)
 ·cases b
  ·exact fun x hx=>by simp[gNm,c8] at hx
  ·intro x hx;have:x=700:=by simpa [gNm,c8,R.refsL,R.refs] using hx
   subst this;exact .inl (by simp[gHl,keys])
 ·have:x=701:=by simpa [R.refsL,R.refs] using hx
  subst this;simp[gHl,keys]
theorem aN3 (nk nb i:Nat):gfo f n s t ks bs al (c8 (pR nk nb i)):=by
 unfold pR;rw[jU];refine GF.app (a1d _ _) (aPt (fun j x hx=>.inl ?_) i);have:x=701:=by simpa [R.refsL,R.refs] using hx
 subst this;simp[gHl,keys]
theorem aZr {k:Nat}(hk:k<al.length) (nv i:Nat):gfo f n s t ks bs al (c8 (vR k nv i)):=by
 unfold vR;refine aPt (fun j x hx=>.inr ?_) i;have:x=k+800:=by simpa [R.refsL,R.refs] using hx
 subst this;have:=aL5 (k:=0) hk;rwa [Be] at this
theorem aX9 {k:Nat}(hk:k<al.length) (a:Alt):gfo f n s t ks bs al (R.refsL (mE al.length k a)):=by
 unfold mE;simp only[R.refsL,R.refs,dE,A0];refine GF.app (aZr hk _ _) fun x hx=>.inl ?_
 have:x=703:=by simpa using hx
 subst this;simp[gHl,keys]
theorem aLr:∀{l:List Alt}{k:Nat},k+l.length≤al.length→gfo f n s t ks bs al (c8 (aGn al.length k l))
 | [],_,_=>fun x hx=>by simp[aGn,c8] at hx
 | a::l,k,h=>by
  simp only[Ag] at h;exact GF.app (aX9 (by omega) a) (aLr (by omega))
theorem nC (b:Bool) (i:Nat):gfo f n s t ks bs al (c8 (bZ b ks.length bs.length al.length (al.take i))):=by
 unfold bZ;refine GF.app ?_ (aLr (by simp;omega));unfold pA;simp only[R.refsL,R.refs,dE,A0];exact GF.app (aR2 _ _ _) (aN3 _ _ _)
end
theorem jM {f n:Int}{s:Str}{t:Ty}{ks:List Core}{bs:List Bind}{al:List Alt}{l:List Nat}(h:gfo f n s t ks bs al l) {id:Nat}(h1:703<id) (h2:id<800):id∉l:=fun hx=>by
 rcases h id hx with h | h
 ·have:id=700∨id=701∨id=702∨id=703:=by simpa [gHl,keys] using h
  omega
 ·obtain⟨p,hp,e⟩:=Ad.1 h;have:=fI.far p hp;omega
theorem aYe {f n:Int}{s:Str}{t:Ty}{ks:List Core}{bs:List Bind}{al:List Alt}{id:Nat}(h1:703<id) (h2:id<800):id∉keys (gHl f n s t ks bs al++fam 0 al):=jM (fun x hx=>i7.1 hx) h1 h2
theorem sK {f n:Int}{s:Str}{t:Ty}{ks:List Core}{bs:List Bind}{al:List Alt}{id m es:Nat}{l:List R}(h1:703<id) (h2:id<800):fzH id (.ra m es l) (gHl f n s t ks bs al)=gHl f n s t ks bs al:=by
 have hb:Nat.beq 703 id=false:=by
  cases hb:Nat.beq 703 id with
  | false=>rfl
  | true=>have:=Ac hb;omega
 have q:id∉c8 (aV 0 al):=jM (fun x hx=>.inr (dA x hx)) h1 h2 (f:=f) (n:=n) (s:=s) (t:=t) (ks:=ks) (bs:=bs);simp only[gHl,fzH,AObj.fz,dW,R.fzL,R.fz,hb,sJ _ q,Bc,Bv]
theorem sU (b:Bool) (f n:Int) (s:Str) (t:Ty) (ks:List Core) (bs:List Bind) (al:List Alt) (hb5:decide (f=5)=b) (hk:ks.length≤600000000000) (hb:bs.length≤600000000000) (ha:al.length≤600000000000) (hv:∀a∈al,a.vars.length≤600000000000):
  aU Tryz.prog 79 [.one (.vp 700 0)] (gHl f n s t ks bs al++fam 0 al) (.one (.ras (bZ b ks.length bs.length al.length al).length 2 (bZ b ks.length bs.length al.length al).flatten)) (gHl f n s t ks bs al++fam 0 al):=by
 have hF:TF (fam 0 al):=fI;have W:GW (gHl f n s t ks bs al) (fam 0 al):=gW;have hkB:(aS bs).length=bs.length:=by rw[bI,θ]
 have hkK:(aM ks).length=ks.length:=by rw[aR,θ]
 refine tM hF (n:=123) tok Tryz.func79 rfl rfl rfl ?_;refine sg rfl (sg rfl (AWp.sub (Sub.ownCellR (x:=3) (k:=1) (id:=712) 118 1 rfl rfl rfl) (AWp.sub (Sub.ownCellR (x:=3) (k:=0) (id:=711) 158 1 rfl rfl rfl) ?_)));refine a8 (sg rfl (aC (aL (fun i:Nat=>mkt [(0,.one (.vp 700 0)),(3,.one (.vp 3 0)),(16,I .i64 ((ks.length:Nat):Int)),(17,I .i64 i)] ([(712,gPo (rgR (fun j=>[.ep 702 j 0 ks.length]) i)),(3,.var 126 [.ra 711 0 0 0,.ra 712 0 (rgR (fun j=>[.ep 702 j 0 ks.length]) i).length (rgR (fun j=>[.ep 702 j 0 ks.length]) i).length]),(711,gNo [])]++gHl f n s t ks bs al) (fam 0 al)) (fun i=>i≤ks.length) (fun i=>ks.length-i) 0 (Aj _) (slG W) ?_)));intro i hi;have hpl:=fY (fun j=>[.ep 702 j 0 ks.length]) i;refine sg rfl (a8 (aA rfl (fun hb=>?_) (fun hb=>?_)))
 ·have q:i<ks.length:=by
   have:(i:Int)<(ks.length:Int):=ψ hb;omega
  have hst:=qL (fun j=>[.ep 702 j 0 ks.length]) i;have hr:gfo f n s t ks bs al (gPo (rgR (fun j=>[.ep 702 j 0 ks.length]) (i+1))).refs:=a1d _ _;refine aD (a8 (aC (sg rfl (ag [] rfl (ag [] rfl ⟨i+1,q,by dsimp only;omega,?_⟩)))));dsimp only;rw[hst] at hr ⊢;refine slG W (hh:=⟨⟨_,rfl,.rarrS rfl⟩,⟨_,rfl,.var ?_⟩,⟨_,rfl,.rarrS rfl⟩,⟨_,rfl,.var rfl⟩,⟨_,rfl,.arr⟩,⟨_,rfl,.arr⟩,⟨_,rfl,.rarrS rfl⟩,trivial⟩);rw[ω];rfl
 have J:i=ks.length:=by
  have:¬(i:Int)<(ks.length:Int):=δ hb;omega
 subst J;clear hi hb hpl;have e0:rgR (fun j=>[.ep 702 j 0 ks.length]) ks.length=pR ks.length bs.length 0:=by simp[pR,rgR]
 rw[e0];have hr12:gfo f n s t ks bs al (gPo (pR ks.length bs.length 0)).refs:=aN3 _ _ _;have hr11:gfo f n s t ks bs al (gNo (nR b bs.length 0)).refs:=aR2 _ _ _;refine aO (a8 (AWp.cut (mkt [(0,.one (.vp 700 0)),(3,.one (.vp 3 0))] ([(712,gPo (pR ks.length bs.length 0)),(3,.var 126 [.ra 711 0 (nR b bs.length 0).length (nR b bs.length 0).length,.ra 712 0 (pR ks.length bs.length 0).length (pR ks.length bs.length 0).length]),(711,gNo (nR b bs.length 0))]++gHl f n s t ks bs al) (fam 0 al)) ?_ ?_))
 ·refine sg rfl (aA rfl (fun hb=>?_) (fun hb=>?_))
  ·have hb:decide (f=5)=true:=hb;rw[hb] at hb5;subst hb5;exact ag [] rfl (slG W)
  ·have hb:decide (f=5)=false:=hb;rw[hb] at hb5;subst hb5;exact aD (slG W)
 clear hr11 hr12 e0;refine a8 (sg rfl (aC (aL (fun i:Nat=>mkt [(0,.one (.vp 700 0)),(3,.one (.vp 3 0)),(49,I .i64 ((bs.length:Nat):Int)),(50,I .i64 i)] ([(712,gPo (pR ks.length bs.length i)),(3,.var 126 [.ra 711 0 (nR b bs.length i).length (nR b bs.length i).length,.ra 712 0 (pR ks.length bs.length i).length (pR ks.length bs.length i).length]),(711,gNo (nR b bs.length i))]++gHl f n s t ks bs al) (fam 0 al)) (fun i=>i≤bs.length) (fun i=>bs.length-i) 0 (Aj _) (slG W (h2:=⟨Kn.gf (aN3 _ _ _),Kn.of rfl,Kn.gf (aR2 _ _ _),trivial⟩)) ?_)));intro i hi;have hpl:(pR ks.length bs.length i).length=ks.length+i:=by unfold pR;rw[ω,fY,fY]
 have hnl:(nR b bs.length i).length≤1+i:=by unfold nR;rw[ω,fY];cases b<;>simp[gNm]
 refine sg rfl (a8 (aA rfl (fun hb=>?_) (fun hb=>?_)))
 ·have q:i<bs.length:=by
   have:(i:Int)<(bs.length:Int):=ψ hb;omega
  have hst1:pR ks.length bs.length (i+1)=pR ks.length bs.length i++[[.ep 701 i 5 bs.length]]:=by unfold pR;rw[qL,At]
  have hst2:nR b bs.length (i+1)=nR b bs.length i++[[.ep 701 i 0 bs.length]]:=by unfold nR;rw[qL,At]
  have hr12:gfo f n s t ks bs al (gPo (pR ks.length bs.length (i+1))).refs:=aN3 _ _ _;have hr11:gfo f n s t ks bs al (gNo (nR b bs.length (i+1))).refs:=aR2 _ _ _;refine aD (a8 (aC (sg rfl (sg rfl (ag [] rfl (ag [] rfl ⟨i+1,q,by dsimp only;omega,?_⟩))))));dsimp only;rw[hst1,hst2] at *;refine slG W (hh:=⟨⟨_,rfl,.rarrS rfl⟩,⟨_,rfl,.var ?_⟩,⟨_,rfl,.rarrS rfl⟩,⟨_,rfl,.var rfl⟩,⟨_,rfl,.arr⟩,⟨_,rfl,.arr⟩,⟨_,rfl,.rarrS rfl⟩,trivial⟩);rw[ω,ω];rfl
 have J:i=bs.length:=by
  have:¬(i:Int)<(bs.length:Int):=δ hb;omega
 subst J;clear hi hb;refine aO ?_;have hn1:711∉c8 (nR b bs.length bs.length):=jM (aR2 (f:=f) (n:=n) (s:=s) (t:=t) (ks:=ks) (bs:=bs) (al:=al) b bs.length bs.length) (by omega) (by omega);have hn2:712∉c8 (nR b bs.length bs.length):=jM (aR2 (f:=f) (n:=n) (s:=s) (t:=t) (ks:=ks) (bs:=bs) (al:=al) b bs.length bs.length) (by omega) (by omega);have Y:711∉c8 (pR ks.length bs.length bs.length):=jM (aN3 (f:=f) (n:=n) (s:=s) (t:=t) (ks:=ks) (bs:=bs) (al:=al) ks.length bs.length bs.length) (by omega) (by omega);have Z:712∉c8 (pR ks.length bs.length bs.length):=jM (aN3 (f:=f) (n:=n) (s:=s) (t:=t) (ks:=ks) (bs:=bs) (al:=al) ks.length bs.length bs.length) (by omega) (by omega);refine AWp.sub (st2:=mkt [(0,.one (.vp 700 0)),(3,.one (.vp 3 0))] ((712,gPo (pR ks.length bs.length bs.length))::([(3,.var 126 [.ra 711 0 (nR b bs.length bs.length).length (nR b bs.length bs.length).length,.ra 712 0 (pR ks.length bs.length bs.length).length (pR ks.length bs.length bs.length).length]),(711,gNo (nR b bs.length bs.length))]++gHl f n s t ks bs al)) (fam 0 al)) (slG (ex:=(712,_)::[_,_]) W (h2:=⟨Kn.gf (aN3 _ _ _),Kn.of rfl,Kn.gf (aR2 _ _ _),trivial⟩)) ?_;refine AWp.sub (Sub.fraT hF (aYe (by omega) (by omega)) Z) ?_;have O:fzH 712 (.ra (pR ks.length bs.length bs.length).length 1 (pR ks.length bs.length bs.length).flatten) ([(3,.var 126 [.ra 711 0 (nR b bs.length bs.length).length (nR b bs.length bs.length).length,.ra 712 0 (pR ks.length bs.length bs.length).length (pR ks.length bs.length bs.length).length]),(711,gNo (nR b bs.length bs.length))]++gHl f n s t ks bs al)
   =[(3,.var 126 [.ra 711 0 (nR b bs.length bs.length).length (nR b bs.length bs.length).length,.ras (pR ks.length bs.length bs.length).length 1 (pR ks.length bs.length bs.length).flatten]),(711,gNo (nR b bs.length bs.length))]++gHl f n s t ks bs al:=by
  show(3,_)::(711,AObj.rarr _ _ (fzR _ _ _))::fzH _ _ (gHl f n s t ks bs al)=_;rw[sK (by omega) (by omega),sJ _ hn2];simp only[AObj.fz,R.fzL,aPv rfl];rfl
 rw[O];refine AWp.sub (st2:=mkt [(0,.one (.vp 700 0)),(3,.one (.vp 3 0))] ((711,gNo (nR b bs.length bs.length))::([(3,.var 126 [.ra 711 0 (nR b bs.length bs.length).length (nR b bs.length bs.length).length,.ras (pR ks.length bs.length bs.length).length 1 (pR ks.length bs.length bs.length).flatten])]++gHl f n s t ks bs al)) (fam 0 al)) (slG (ex:=(711,_)::[_]) W (h2:=⟨Kn.gf (aR2 _ _ _),Kn.app (Kn.of rfl) (Kn.app (by simp only[R.refs,dE];exact Kn.gf (aN3 _ _ _)) Kn.nil),trivial⟩)) ?_;refine AWp.sub (Sub.fraT hF (aYe (by omega) (by omega)) hn1) ?_;have e2:fzH 711 (.ra (nR b bs.length bs.length).length 1 (nR b bs.length bs.length).flatten) ([(3,.var 126 [.ra 711 0 (nR b bs.length bs.length).length (nR b bs.length bs.length).length,.ras (pR ks.length bs.length bs.length).length 1 (pR ks.length bs.length bs.length).flatten])]++gHl f n s t ks bs al)
   =[(3,.var 126 (pA b ks.length bs.length))]++gHl f n s t ks bs al:=by
  show(3,_)::fzH _ _ (gHl f n s t ks bs al)=_;rw[sK (by omega) (by omega)];simp only[AObj.fz,R.fzL,aPv rfl,R.fz_far (.ras (pR ks.length bs.length bs.length).length 1 (pR ks.length bs.length bs.length).flatten) (show 711∉R.refsL (pR ks.length bs.length bs.length).flatten by rw[dE];exact Y)];rfl
 rw[e2];clear O e2 hn1 hn2 Y Z hpl hnl;have hgf:gfo f n s t ks bs al (c8 (bZ b ks.length bs.length al.length (al.take 0))):=nC b 0;have hal:al.length=(aV 0 al).length:=dV.symm;refine sgh [(1,.id 713)] rfl (a8 (sg rfl (aC (aL (fun i:Nat=>mkt [(0,.one (.vp 700 0)),(7,.one (.ra 713 0 (bZ b ks.length bs.length al.length (al.take i)).length (bZ b ks.length bs.length al.length (al.take i)).length)),(82,I .i64 ((al.length:Nat):Int)),(83,I .i64 i)] ([(713,.rarr 126 2 (bZ b ks.length bs.length al.length (al.take i)))]++gHl f n s t ks bs al) (fam 0 al)) (fun i=>i≤al.length) (fun i=>al.length-i) 0 (Aj _) (slG W) ?_))));intro i hi;have hgl:(bZ b ks.length bs.length al.length (al.take i)).length=1+i:=by unfold bZ;rw[Ag,y7,Au];omega
 refine sg rfl (a8 (aA rfl (fun hb=>?_) (fun hb=>?_)))
 ·have q:i<al.length:=by
   have:(i:Int)<(al.length:Int):=ψ hb;omega
  obtain⟨a,hai⟩:=aJ q;have hrow:(aV 0 al)[i]?=some (dM i a):=by rw[mV hai,Be]
  have hvl:=hv a (η hai);have hobj:(i+800,AObj.arr 9 1 (a.vars.map bD) 0)∈fam 0 al:=by have:=aAi (k:=0) hai;rwa [Be] at this
  have hvk:a.vars.length=(a.vars.map bD).length:=(θ _).symm;have hnx:bZ b ks.length bs.length al.length (al.take (i+1))=bZ b ks.length bs.length al.length (al.take i)++[mE al.length i a]:=by
   unfold bZ;rw[aBb hai,Be];rfl
  have N:gfo f n s t ks bs al (c8 (bZ b ks.length bs.length al.length (al.take i))):=nC b i;have hg1:gfo f n s t ks bs al (c8 (bZ b ks.length bs.length al.length (al.take (i+1)))):=nC b (i+1);generalize bZ b ks.length bs.length al.length (al.take i)=G at hgl hnx N ⊢;refine aD (a8 (aC (sg rfl (sg rfl (sgh [(3,.id 722)] rfl ?_)))));have Z:722∉c8 [[R.rp 703 i 4 al.length]]:=by simp[c8,R.refsL,R.refs]
  refine AWp.sub (st2:=mkt [(0,.one (.vp 700 0)),(7,.one (.ra 713 0 G.length G.length)),(9,.one (.rp 703 i 0 al.length)),(10,.one (.vp 10 0)),(82,I .i64 ((al.length:Nat):Int)),(83,I .i64 i)] ((722,gPo [[.rp 703 i 4 al.length]])::([(10,.var 126 [.c .nl,.ra 722 0 1 1]),(713,.rarr 126 2 G)]++gHl f n s t ks bs al)) (fam 0 al)) (slG (ex:=(722,_)::[_,_]) W) ?_;refine AWp.sub (Sub.fraT hF (aYe (by omega) (by omega)) Z) ?_;have O:fzH 722 (.ra 1 1 [R.rp 703 i 4 al.length]) ([(10,.var 126 [.c .nl,.ra 722 0 1 1]),(713,.rarr 126 2 G)]++gHl f n s t ks bs al)
    =[(10,.var 126 [.c .nl,.ras 1 1 [.rp 703 i 4 al.length]]),(713,.rarr 126 2 G)]++gHl f n s t ks bs al:=by
   show(10,_)::(713,AObj.rarr _ _ (fzR _ _ _))::fzH _ _ (gHl f n s t ks bs al)=_;rw[sK (by omega) (by omega),sJ _ (jM N (by omega) (by omega))];rfl
  have e1':fzH 722 (.ra ([[R.rp 703 i 4 al.length]]:List (List R)).length 1 ([[R.rp 703 i 4 al.length]]:List (List R)).flatten)=fzH 722 (.ra 1 1 [R.rp 703 i 4 al.length]):=rfl;rw[e1',O];clear O e1' Z;refine AWp.sub (Sub.ownCellR (x:=10) (k:=0) (id:=721) 158 1 rfl rfl rfl) ?_;refine AWp.sub (st2:=mkt [(0,.one (.vp 700 0)),(7,.one (.ra 713 0 G.length G.length)),(9,.one (.rp 703 i 0 al.length)),(10,.one (.vp 10 0)),(82,I .i64 ((al.length:Nat):Int)),(83,I .i64 i)] ([(10,.var 126 [.ra 721 0 0 0,.ras 1 1 [.rp 703 i 4 al.length]]),(713,.rarr 126 2 G),(721,gNo [])]++gHl f n s t ks bs al) (fam 0 al)) (slG W) ?_;have hlook:∀(ex:List (Nat×AObj)),(ex.all fun p=>Nat.blt p.1 800)=true→(mkt [] (ex++gHl f n s t ks bs al) (fam 0 al)).h (i+800)=some (AObj.arr 9 1 (a.vars.map bD) 0):=fun ex hex=>
   (show FarEq _ _ from FarEq.mkt hF (by rw[all_append,hex];rfl)) _ hobj
  refine a8 (skh 4 [(3,.rr (dM i a))] rfl (a1s tok (hlook _ rfl) rfl hvk ?_ trw));refine kz 1 rfl (aC (aL (fun j:Nat=>mkt [(0,.one (.vp 700 0)),(7,.one (.ra 713 0 G.length G.length)),(9,.one (.rp 703 i 0 al.length)),(10,.one (.vp 10 0)),(82,I .i64 ((al.length:Nat):Int)),(83,I .i64 i),(101,I .i64 ((a.vars.length:Nat):Int)),(102,I .i64 j)] ([(721,gNo (vR i a.vars.length j)),(10,.var 126 [.ra 721 0 (vR i a.vars.length j).length (vR i a.vars.length j).length,.ras 1 1 [.rp 703 i 4 al.length]]),(713,.rarr 126 2 G)]++gHl f n s t ks bs al) (fam 0 al)) (fun j=>j≤a.vars.length) (fun j=>a.vars.length-j) 0 (Aj _) (slG W) ?_));intro j hj;have hvj:(vR i a.vars.length j).length=j:=fY _ _;refine sg rfl (a8 (aA rfl (fun hb=>?_) (fun hb=>?_)))
  ·have hlt2:j<a.vars.length:=by
    have:(j:Int)<(a.vars.length:Int):=ψ hb;omega
   have hst:vR i a.vars.length (j+1)=vR i a.vars.length j++[[.ep (i+800) j 0 a.vars.length]]:=qL _ _;have hr:gfo f n s t ks bs al (gNo (vR i a.vars.length (j+1))).refs:=aZr q _ _;refine aD (a8 (aC (sg rfl (aE mixed (ak 7 [(5,.rr (dM i a))] rfl (kix tok (j:=j) (hlook _ rfl) rfl hvk hlt2 ?_ trw))))));refine kz 4 rfl (ag [] rfl ⟨j+1,hlt2,by dsimp only;omega,?_⟩);dsimp only;rw[hst] at hr ⊢;refine slG W (hh:=⟨⟨_,rfl,.rarrS rfl⟩,⟨_,rfl,.varS ?_⟩,⟨_,rfl,.rarrS rfl⟩,⟨_,rfl,.var rfl⟩,⟨_,rfl,.arr⟩,⟨_,rfl,.arr⟩,⟨_,rfl,.rarrS rfl⟩,trivial⟩);rw[ω]
  have J:j=a.vars.length:=by
   have:¬(j:Int)<(a.vars.length:Int):=δ hb;omega
  subst J;clear hb hj;refine aO ?_;have Y:721∉c8 (vR i a.vars.length a.vars.length):=jM (aZr (f:=f) (n:=n) (s:=s) (t:=t) (ks:=ks) (bs:=bs) q a.vars.length a.vars.length) (by omega) (by omega);have hrv:gfo f n s t ks bs al (gNo (vR i a.vars.length a.vars.length)).refs:=aZr q _ _;refine AWp.sub (st2:=mkt [(0,.one (.vp 700 0)),(7,.one (.ra 713 0 G.length G.length)),(10,.one (.vp 10 0)),(82,I .i64 ((al.length:Nat):Int)),(83,I .i64 i)] ((721,gNo (vR i a.vars.length a.vars.length))::([(10,.var 126 [.ra 721 0 (vR i a.vars.length a.vars.length).length (vR i a.vars.length a.vars.length).length,.ras 1 1 [.rp 703 i 4 al.length]]),(713,.rarr 126 2 G)]++gHl f n s t ks bs al)) (fam 0 al)) (slG (ex:=(721,_)::[_,_]) W) ?_;refine AWp.sub (Sub.fraT hF (aYe (by omega) (by omega)) Y) ?_;have O:fzH 721 (.ra (vR i a.vars.length a.vars.length).length 1 (vR i a.vars.length a.vars.length).flatten) ([(10,.var 126 [.ra 721 0 (vR i a.vars.length a.vars.length).length (vR i a.vars.length a.vars.length).length,.ras 1 1 [.rp 703 i 4 al.length]]),(713,.rarr 126 2 G)]++gHl f n s t ks bs al)
    =[(10,.var 126 (mE al.length i a)),(713,.rarr 126 2 G)]++gHl f n s t ks bs al:=by
   show(10,_)::(713,AObj.rarr _ _ (fzR _ _ _))::fzH _ _ (gHl f n s t ks bs al)=_;rw[sK (by omega) (by omega),sJ _ (jM N (by omega) (by omega))];simp only[AObj.fz,R.fzL,aPv rfl,R.fz_far (.ras 1 1 [.rp 703 i 4 al.length]) (show 721∉R.refs (.ras 1 1 [.rp 703 i 4 al.length]) by simp[R.refs,R.refsL])];rfl
  rw[O];clear O Y;have hra:gfo f n s t ks bs al (R.refsL (mE al.length i a)):=aX9 q a;have halr:∃x y,mE al.length i a=[x,y]:=⟨_,_,rfl⟩
  refine ag [] rfl (ag [] rfl ⟨i+1,q,by dsimp only;omega,?_⟩);dsimp only;rw[hnx] at hg1 ⊢;have hg1:gfo f n s t ks bs al (AObj.rarr 126 2 (G++[mE al.length i a])).refs:=hg1;refine slG W (he:=⟨rfl,by rw[ω];rfl,rfl,rfl,trivial⟩)
 have J:i=al.length:=by
  have:¬(i:Int)<(al.length:Int):=δ hb;omega
 subst J;have N:gfo f n s t ks bs al (c8 (bZ b ks.length bs.length al.length (al.take al.length))):=nC b _;rw[An] at *;generalize bZ b ks.length bs.length al.length al=G at *;refine aO (AWp.sub (st2:=mkt [(7,.one (.ra 713 0 G.length G.length))] ((713,.rarr 126 2 G)::([]++gHl f n s t ks bs al)) (fam 0 al)) (slG (ex:=[(713,_)]) W (h2:=⟨Kn.gf N,trivial⟩)) ?_);refine AWp.sub (Sub.fraT hF (aYe (by omega) (by omega)) (jM N (by omega) (by omega))) ?_;have O:fzH 713 (.ra G.length 2 G.flatten) ([]++gHl f n s t ks bs al)=gHl f n s t ks bs al:=sK (by omega) (by omega);have e2:fzE 713 (.ra G.length 2 G.flatten) [(7,.one (.ra 713 0 G.length G.length))]=[(7,.one (.ras G.length 2 G.flatten))]:=by
  simp only[fzE,V.fz,aPv rfl]
 rw[O,e2];exact sg rfl (aI (rtG W (h1:=Kn.gf (by show GF _ _ (R.refsL G.flatten);rw[dE];exact N))))
end Go.Proofs.YtockgoadliilhaaGreatDoor
namespace Go.AM
open Go
def AObj.frz:AObj→AObj
 | .arr te es l _=>.arr te es l 2
 | o=>o
def xK (F:List (Nat×AObj)):List (Nat×AObj):=F.map fun p=>(p.1,p.2.frz)
theorem aL1 {F:List (Nat×AObj)}:(xK F).map (·.1)=F.map (·.1):=by unfold xK;rw[A1];rfl
theorem TF.frz {F:List (Nat×AObj)}(h:TF F):TF (xK F):=⟨fun p hp=>by
 obtain⟨q,I,rfl⟩:=Ad.1 hp;exact h.far q I,by rw[aL1];exact h.nodup,fun p hp=>by
 obtain⟨q,I,rfl⟩:=Ad.1 hp;obtain⟨te,es,l,z,e⟩:=h.arr q I
 exact⟨te,es,l,2,by show q.2.frz=_;rw[e];rfl⟩⟩
theorem xD {α:Type}{p:Nat×α}{x:α}:∀{a b:List (Nat×α)}{i:Nat},p.1∉a.map (·.1)→look (a++(p.1,x)::b) i=if i=p.1 then some x else look (a++p::b) i
 | [],b,i,_=>by
  obtain⟨k,y⟩:=p;simp only[Bd,look];by_cases h:i=k
  ·subst h;simp
  ·have:Nat.beq i k=false:=by
    cases hb:Nat.beq i k with
    | false=>rfl
    | true=>exact absurd (Ac hb) h
   simp[this,h]
 | (k,y)::a,b,i,h=>by
  simp only[Am,Ao,not_or] at h;simp only[Ba,look];cases hb:Nat.beq i k with
  | true=>
   have:=Ac hb;subst this;simp[Ne.symm h.1]
  | false=>simpa using xD h.2
theorem Sub.fzMid {kf:List Nat}{el:List (Nat×V)}{hl:List (Nat×AObj)}(hn:(hl.all fun p=>Nat.blt p.1 800)=true):∀{F2 F1:List (Nat×AObj)},TF (F1++F2)→Sub kf (mkt el hl (F1++xK F2)) (mkt el hl (F1++F2))
 | [],F1,_=>by
  have:xK []=[]:=rfl;rw[this];exact Sub.refl _ _
 | p::F2,F1,J=>by
  obtain⟨te,es,l,z,hp⟩:=J.arr p (by simp);have N:=J.far p (by simp);have O:=J.nodup;have Y:p.1∉F1.map (·.1):=fun hm=>by
   rw[Ar,Co] at O;exact O.2.2 p.1 hm p.1 (by simp) rfl
  have W:(mkt el hl (F1++p::F2)).h p.1=some (.arr te es l z):=by
   have:=FarEq.mkt (el:=el) J hn p (by simp);rw[this,hp]
  have h1:=Sub.freeze (kf:=kf) W;have e:(⟨(mkt el hl (F1++p::F2)).e,upd (mkt el hl (F1++p::F2)).h p.1 (some (.arr te es l 2)),(mkt el hl (F1++p::F2)).d⟩:St)=mkt el hl (F1++(p.1,.arr te es l 2)::F2):=by
   unfold mkt;congr 1;funext i;by_cases hi:i=p.1
   ·subst hi;rw[aK,x5 hn N];simp only[aAz N,Bq];rw[xD Y,ξ rfl]
   ·rw[bE _ _ _ hi];show(match look hl i with | some x=>some x | none=>bif Nat.blt i 800 then none else look (F1++p::F2) i)=_;have hm:=xD (p:=p) (x:=AObj.arr te es l 2) (a:=F1) (b:=F2) (i:=i) Y;rw[φ hi] at hm
    (first | (rw[hm];done) | (rw[hm];rfl))
  rw[e] at h1;have Z:TF ((F1++[(p.1,AObj.arr te es l 2)])++F2):=by
   refine⟨fun q I=>?_,?_,fun q I=>?_⟩
   ·rw[At] at I;rcases χ.1 I with I | I
    ·exact J.far q (by simp[I])
    ·rcases Ao.1 I with rfl | I
     ·exact N
     ·exact J.far q (by simp[show q∈F2 from I])
   ·rw[At];have:((F1++([(p.1,AObj.arr te es l 2)]++F2)).map (·.1))=(F1++p::F2).map (·.1):=by simp
    rw[this];exact O
   ·rw[At] at I;rcases χ.1 I with I | I
    ·exact J.arr q (by simp[I])
    ·rcases Ao.1 I with rfl | I
     ·exact⟨_,_,_,_,rfl⟩
     ·exact J.arr q (by simp[show q∈F2 from I])
  have h2:=Sub.fzMid (kf:=kf) (el:=el) hn (F2:=F2) (F1:=F1++[(p.1,AObj.arr te es l 2)]) Z;simp only[At,List.singleton_append] at h2;have e2:xK (p::F2)=(p.1,.arr te es l 2)::xK F2:=by
   show(p.1,p.2.frz)::xK F2=_;rw[hp];rfl
  rw[e2];exact fun G n S μ a w hg hs=>by
   obtain⟨S',μ',aa⟩:=h1 G n S μ a w hg hs;exact h2 G n S' μ' a w hg aa
theorem Sub.fzAll {kf:List Nat}{el:List (Nat×V)}{hl F:List (Nat×AObj)}(q:TF F) (hn:(hl.all fun p=>Nat.blt p.1 800)=true:=by rfl):Sub kf (mkt el hl (xK F)) (mkt el hl F):=Sub.fzMid hn (F1:=[]) q
theorem Sub.outsT {kf:List Nat}{e:Nat→Option V}{h:cR}{d:List Nat}{hl F:List (Nat×AObj)}(q:TF F):Sub kf ⟨e,fun i=>bif Nat.blt i 800 then updL h (outs hl) i else updL h (outs (hl++F)) i,d⟩ ⟨e,updL h (outs (hl++F)),d⟩:=by
 rw[←qX q];exact Sub.refl _ _
end Go.AM
namespace Go.Proofs.YtockgoadliilhaaGreatDoor
open Go Go.AM
set_option maxRecDepth 20000
mutual
def allT (p:Ty→Prop):Core→Prop
 | .mk _ _ _ t ks bs al=>p t∧aBd p ks∧aBe p bs∧aBg p al
def aBd (p:Ty→Prop):List Core→Prop
 | []=>True
 | c::l=>allT p c∧aBd p l
def aBe (p:Ty→Prop):List Bind→Prop
 | []=>True
 | .mk _ t c::l=>p t∧allT p c∧aBe p l
def aBg (p:Ty→Prop):List Alt→Prop
 | []=>True
 | .mk _ _ _ _ c::l=>allT p c∧aBg p l
end
theorem aBc {p:Ty→Prop}:∀{l:List Core},aBd p l→∀x∈l,allT p x
 | c::l,h,x,hx=>by
  rw[aBd] at h;rcases Ao.1 hx with rfl | hx
  ·exact h.1
  ·exact aBc h.2 x hx
theorem tD {p:Ty→Prop}:∀{l:List Bind},aBe p l→∀x∈l,p x.ty∧allT p x.body
 | .mk _ _ _::l,h,x,hx=>by
  rw[aBe] at h;rcases Ao.1 hx with rfl | hx
  ·exact⟨h.1,h.2.1⟩
  ·exact tD h.2.2 x hx
theorem aBf {p:Ty→Prop}:∀{l:List Alt},aBg p l→∀x∈l,allT p x.body
 | .mk _ _ _ _ _::l,h,x,hx=>by
  rw[aBg] at h;rcases Ao.1 hx with rfl | hx
  ·exact h.1
  ·exact aBf h.2 x hx
theorem rL {α:Type}:∀{l:List α}{j:Nat}{x:α},l[j]?=some x→l.set j x=l
 | [],_,_,h=>by simp at h
 | y::l,0,x,h=>by simp at h;subst h;rfl
 | y::l,j+1,x,h=>by
  rw[Cq,rL (by simpa using h)]
def tJ (al:List Alt) (i:Nat):List (List R):=aV 0 (al.take i)++(al.drop i).map fun a=>(c7 a).map R.c
theorem pY:∀{l:List Alt}{k i:Nat}{a:Alt},l[i]?=some a→aV k (l.take (i+1))=aV k (l.take i)++[dM (k+i) a]
 | b::l,k,0,a,h=>by simp at h;subst h;simp[aV]
 | b::l,k,i+1,a,h=>by
  simp only[Ax,aV,Ba];rw[pY (l:=l) (k:=k+1) (by simpa using h),show k+1+i=k+(i+1) by omega]
theorem xM:∀{l:List Alt}{k i:Nat}{a:Alt},l[i]?=some a→fam k (l.take (i+1))=fam k (l.take i)++[(k+i+800,.arr 9 1 (a.vars.map bD) 0)]
 | b::l,k,0,a,h=>by simp at h;subst h;simp[fam]
 | b::l,k,i+1,a,h=>by
  simp only[Ax,fam,Ba];rw[xM (l:=l) (k:=k+1) (by simpa using h),show k+1+i=k+(i+1) by omega]
theorem aPh {al:List Alt}{i:Nat}:(tJ al i).length=al.length:=by unfold tJ;rw[ω,dV,θ,Au,Bx];omega
theorem aT5 {al:List Alt}{i:Nat}{a:Alt}(h:al[i]?=some a):(tJ al i)[i]?=some ((c7 a).map R.c):=by
 have q:i<al.length:=(Ab.1 h).1
 unfold tJ;rw[A3 (by rw[dV,Au];omega),dV,Au,B5 (by omega),sub_self,Az,Ap,Bw,h];rfl
theorem rK {α:Type}{l m:List α}{x y:α}{i:Nat}(h:l.length=i):(l++x::m).set i y=l++y::m:=by
 subst h;rw[List.set_append_right _ _ (le_refl _),sub_self];rfl
theorem pD {α:Type}{l:List α}{i:Nat}{a:α}(h:l[i]?=some a):l.drop i=a::l.drop (i+1):=by
 have q:i<l.length:=(Ab.1 h).1
 rw[Bz q];congr 1;exact(Ab.1 h).2
theorem aPg {al:List Alt}{i:Nat}{a:Alt}(h:al[i]?=some a) (r:List R):(tJ al i).set i r=aV 0 (al.take i)++r::(al.drop (i+1)).map fun a=>(c7 a).map R.c:=by
 have q:i<al.length:=(Ab.1 h).1
 unfold tJ;rw[pD h,Am];exact rK (by rw[dV,Au];omega)
theorem aKy {al:List Alt}{i:Nat}{a:Alt}(h:al[i]?=some a):tJ al (i+1)=aV 0 (al.take i)++dM i a::(al.drop (i+1)).map fun a=>(c7 a).map R.c:=by
 unfold tJ;rw[pY h,At,Be];rfl
theorem aKz {al:List Alt}{i:Nat}:∀x∈c8 (tJ al i),x∈keys (fam 0 (al.take i)):=fun x hx=>by
 unfold tJ at hx;rw[jU] at hx;rcases χ.1 hx with hx | hx
 ·exact dA x hx
 ·have key:∀l:List Alt,c8 (l.map fun a=>(c7 a).map R.c)=[]:=by
   intro l
   induction l with
   | nil=>rfl
   | cons a l q=>
    show R.refsL _++c8 _=[];rw[q,A0];unfold c7 aB;simp[R.refsL,R.refs]
  rw[key] at hx;cases hx
def sgm (k:Nat) (j:Nat):Nat:=bif Nat.blt j 800 then j else bif Nat.beq j (k+800) then 710 else j
theorem aB7 {k j:Nat}(h:800≤j) (hk:j≠k+800):sgm k j=j:=by
 unfold sgm;rw[aAz h];have:Nat.beq j (k+800)=false:=by
  cases hb:Nat.beq j (k+800) with
  | false=>rfl
  | true=>exact absurd (Ac hb) hk
 rw[this];rfl
theorem aB6 {k:Nat}:sgm k (k+800)=710:=by
 unfold sgm;rw[aAz (le_add_left _ _)];simp
theorem aJm {σ:Nat→Nat}:∀l:List C,R.renL σ (l.map R.c)=l.map R.c
 | []=>rfl
 | x::l=>by simp only[Am,R.renL,R.ren,aJm l]
theorem aEp {σ:Nat→Nat}:∀(a b:List (List R)),mX σ (a++b)=mX σ a++mX σ b
 | [],_=>rfl
 | r::a,b=>by simp only[Ba,mX,aEp a b]
theorem kB {σ:Nat→Nat}{k:Nat}{a:Alt}:R.renL σ (dM k a)=[.c (.int .i64 a.form),.c (.int .i64 a.n),.c (.str a.name),.hs (σ (k+800)) 0 a.vars.length a.vars.length]++(aB a.body).map R.c:=by
 unfold dM;simp only[Ba,Bd,R.renL,R.ren,aJm]
theorem rN {i:Nat}:∀{l:List Alt}{k:Nat},k+l.length≤i→mX (sgm i) (aV k l)=aV k l
 | [],_,_=>rfl
 | a::l,k,h=>by
  simp only[Ag] at h;simp only[aV,mX];rw[kB,aB7 (le_add_left _ _) (by omega),rN (l:=l) (k:=k+1) (by omega)];rfl
theorem uE {σ:Nat→Nat}:∀l:List Alt,mX σ (l.map fun a=>(c7 a).map R.c)=l.map fun a=>(c7 a).map R.c
 | []=>rfl
 | a::l=>by simp only[Am,mX,aJm,uE l]
def a1p (a:Alt):List R:=[.c (.int .i64 a.form),.c (.int .i64 a.n),.c (.str a.name),.hs 710 0 a.vars.length a.vars.length]++(aB a.body).map R.c
theorem aTk {al:List Alt}{i:Nat}{a:Alt}(h:al[i]?=some a):(tJ al i).set i (a1p a)=mX (sgm i) (tJ al (i+1)):=by
 rw[aPg h,aKy h,aEp];have q:i<al.length:=(Ab.1 h).1
 rw[rN (by rw[Au];omega)];simp only[mX];rw[kB,aB6,uE];rfl
def TyG (t:Ty):Prop:=aU Tryz.prog 48 [tyV t] [] (tyV t) []
def oHl (ks:List Core) (bs:List Bind) (al:List Alt):List (Nat×AObj):=[(701,.arr 58 15 (aS bs) 0),(702,.arr 37 10 (aM ks) 0),(703,.rarr 88 14 (aV 0 al))]
def OwG (c:Core):Prop:=aU Tryz.prog 47 [.pa (aB c)] [] (.ma (dW c.form c.n c.name c.ty c.kids.length c.binds.length c.alts.length)) (oHl c.kids c.binds c.alts++fam 0 c.alts)
def OwP (c:Core):Prop:=aU Tryz.prog 47 [.pa (aB c)] [] (.pa (aB c)) []
theorem y2 (al:List Alt) (h:al.length≤600000000000):aU Tryz.prog 97 [.one (.c (.sl 14 (bS al)))] [] (.one (.ra 703 0 al.length al.length)) [(703,.rarr 88 14 (tJ al 0))]:=by
 have q:(bS al).length=al.length:=by rw[bQ,θ]
 have h1:=(aAw (bS al) (by omega)).toR;rw[q] at h1;have e:(bS al).map (·.map R.c)=tJ al 0:=by
  unfold tJ;rw[bQ,A1];rfl
 rwa [e] at h1
theorem aPi {al:List Alt}:tJ al al.length=aV 0 al:=by
 unfold tJ;rw[An,drop_length];simp
theorem aJ5 {q:St}{al:List Alt}{i:Nat}{a:Alt}(I:al[i]?=some a) (hf:FarEq q.h (fam 0 (al.take i))) (h7:q.h 710=some (.arr 9 1 (a.vars.map bD) 0)):
  ∀p∈fam 0 (al.take (i+1)),∃o,q.h (sgm i p.1)=some o∧Ole (sgm i) o p.2:=fun p hp=>by
 rw[xM I,Be] at hp;rcases χ.1 hp with hp | hp
 ·obtain⟨j,b,hj,rfl⟩:=nE hp;have J:j<(al.take i).length:=(Ab.1 hj).1
  rw[Au] at J;refine⟨_,?_,.arr⟩;rw[aB7 (le_add_left _ _) (by show 0+j+800≠i+800;omega)];exact hf _ hp
 ·rw[Aa.1 hp];exact⟨_,by rw[aB6];exact h7,.arr⟩
theorem aHa {al:List Alt}{i:Nat}{a:Alt}{hl:List (Nat×AObj)}(J:al[i]?=some a) (h1:Go.AM.distinct (710::hl.map (·.1))=true) (h2:(hl.all fun p=>Nat.blt p.1 800)=true):((hl++fam 0 (al.take (i+1))).map fun p=>sgm i p.1).Nodup:=by
 have Y:i<al.length:=(Ab.1 J).1
 have O:(hl.map fun p=>sgm i p.1)=hl.map (·.1):=by
  refine A6 fun p hp=>?_
  have:=(A7.1 h2) p hp;unfold sgm;rw[this];rfl
 have W:((fam 0 (al.take i)).map fun p=>sgm i p.1)=(fam 0 (al.take i)).map (·.1):=by
  refine A6 fun p hp=>?_
  obtain⟨j,b,hj,rfl⟩:=nE hp;have N:j<(al.take i).length:=(Ab.1 hj).1
  rw[Au] at N;exact aB7 (le_add_left _ _) (by show 0+j+800≠i+800;omega)
 rw[Ar,xM J,Be,Ar,O,W];have hd:=dO h1;simp only[Br] at hd;have I:∀x∈hl.map (·.1),x<800:=fun x hx=>by
  obtain⟨p,hp,rfl⟩:=Ad.1 hx;exact Aq ((A7.1 h2) p hp)
 have q:∀x∈(fam 0 (al.take i)).map (·.1),800≤x:=fun x hx=>by
  obtain⟨p,hp,rfl⟩:=Ad.1 hx;exact fI.far p hp
 show(hl.map (·.1)++((fam 0 (al.take i)).map (·.1)++[sgm i (i+800)])).Nodup;rw[aB6,Co,Co];refine⟨hd.2,⟨lS,by simp,fun x hx y hy e=>?_⟩,fun x hx y hy e=>?_⟩
 ·have:=q x hx;have:y=710:=by simpa using hy
  omega
 ·subst e;rcases χ.1 hy with hy | hy
  ·have:=I x hx;have:=q x hy;omega
  ·have:x=710:=by simpa using hy
   subst this;exact hd.1 hx
theorem aUj {b:Bool}{nk nb q:Nat}{l:List Alt}:(bZ b nk nb q l)[0]?=some (pA b nk nb):=rfl
theorem aUi {b:Bool}{nk nb q:Nat}{l:List Alt}{i:Nat}{a:Alt}(h:l[i]?=some a):(bZ b nk nb q l)[i+1]?=some (mE q i a):=by
 unfold bZ;rw[Bj,aNf h,Be]
theorem aCr {b:Bool}{nk nb I:Nat}{l:List Alt}:∀r∈bZ b nk nb I l,r.length=2:=by
 have key:∀(l:List Alt) (k:Nat),∀r∈aGn I k l,r.length=2:=by
  intro l
  induction l with
  | nil=>intro k r q;simp[aGn] at q
  | cons a l J=>
   intro k r q;rcases Ao.1 q with rfl | q
   ·rfl
   ·exact J _ r q
 intro r q;rcases Ao.1 q with rfl | q
 ·rfl
 ·exact key l 0 r q
theorem aUh {b:Bool}{nk nb q:Nat}{l:List Alt}:(bZ b nk nb q l).length=1+l.length:=by unfold bZ;rw[Ag,y7];omega
theorem rM {f:Nat→List R}{k:Nat}(h:∀j,(f j).length=1):∀r∈rgR f k,r.length=1:=fun r q=>by
 obtain⟨j,_,rfl⟩:=Ad.1 q;exact h j
theorem uN {nk nb i:Nat}:∀r∈pR nk nb i,r.length=1:=fun r q=>by
 unfold pR at q;rcases χ.1 q with q | q
 ·exact rM (fun _=>rfl) r q
 ·exact rM (fun _=>rfl) r q
theorem aEn {f:Nat→List R}{k j:Nat}(h:j<k):(rgR f k)[j]?=some (f j):=by unfold rgR;rw[Az,List.getElem?_range h];rfl
theorem aKi {nk nb i j:Nat}(h:j<nk):(pR nk nb i)[j]?=some [.ep 702 j 0 nk]:=by unfold pR;rw[A9 (by rw[fY];exact h),aEn h]
theorem aKh {nk nb i j:Nat}(h:j<i):(pR nk nb i)[nk+j]?=some [.ep 701 j 5 nb]:=by unfold pR;rw[A3 (by rw[fY];omega),fY,Nat.add_sub_cancel_left,aEn h]
theorem aKg {nk nb i:Nat}:(pR nk nb i).length=nk+i:=by unfold pR;rw[ω,fY,fY]
theorem vA (c:Core) (ih:∀x,b7 x<b7 c→allT TyG x→OwP x) (hT:allT TyG c) (ar:b7 c≤570000000000):OwG c:=by
 obtain⟨f,n,s,t,ks,bs,al⟩:=c;obtain⟨ihk,ihb,iha,hkl,hbl,hal⟩:= @eQ f n s t ks bs al;rw[allT] at hT;obtain⟨au,hTk,av,hTa⟩:=hT;have au:aU Tryz.prog 48 [tyV t] [] (tyV t) []:=au;have aw:(aM ks).length=ks.length:=by rw[aR,θ]
 have ax:(aS bs).length=bs.length:=by rw[bI,θ]
 have k2:ks.length=(aM ks).length:=aw.symm;have kb2:bs.length=(aS bs).length:=ax.symm;have ay:=oH (aM ks) (by omega);have aF:=y1 (aS bs) (by omega);have hca:=y2 al (by omega);rw[aw] at ay;rw[ax] at aF;show aU Tryz.prog 47 [.pa (aB (.mk f n s t ks bs al))] [] (.ma (dW f n s t ks.length bs.length al.length)) (oHl ks bs al++fam 0 al);refine bO (n:=85) tok Tryz.func47 rfl rfl rfl ?_;refine sgh [(0,.id 700)] rfl (sgh [(2,.pc (tyV t))] rfl (sk 2 rfl (kc ay ?_)));refine ak 2 [] rfl (kc aF ?_);refine ak 2 [] rfl (kc hca ?_);refine kz 6 rfl (a8 (sg rfl ?_));have hbl':bs.length≤570000000000:=by omega
 have ae:∀i,al.length=(tJ al i).length:=fun i=>aPh.symm
 have hml0:=ae 0;refine aC ?_;have W0:∀i,GW [] (fam 0 (al.take i)):=fun i=>⟨fI,fun x hx=>(by cases hx),rfl,rfl⟩
 have ab:∀i,GF [] (fam 0 (al.take i)) (AObj.rarr 88 14 (tJ al i)).refs:=fun i x hx=>.inr (aKz x hx)
 have hmix0:=ab 0;have hF0:TF (fam 0 (al.take 0)):=fI;refine aL (fun i:Nat=>mkt [(1,.one (.vp 700 0)),(2,.one (.vp 2 0)),(27,I .i64 ((bs.length:Nat):Int)),(28,I .i64 i)] ([(2,.var 37 bL),(700,.var 37 (dW f n s t ks.length bs.length al.length)),(701,.arr 58 15 (aS bs) 0),(702,.arr 37 10 (aM ks) 0),(703,.rarr 88 14 (tJ al 0))]++[]) (fam 0 (al.take 0))) (fun i=>i≤bs.length) (fun i=>bs.length-i) 0 (Aj _) (slG (W0 0) (fun _ h=>by cases h) (fun p hp=>by cases hp)) ?_
 ·intro i hi;refine sg rfl (a8 (aA rfl (fun hb=>?_) (fun hb=>?_)))
  ·have Y:i<bs.length:=by
    have:(i:Int)<(bs.length:Int):=ψ hb;omega
   obtain⟨b,aa⟩:=aJ Y;have ac:=bT aa;have hbt:aU Tryz.prog 48 [tyV b.ty] [] (tyV b.ty) []:=(tD av b (η aa)).1
   have q:=rL ac;refine aD (a8 (aC (sg rfl (ag [(8,.row i (bB b)),(9,.pc (tyV b.ty)),(12,.row i (bB b))] rfl (ag [] rfl ⟨i+1,Y,by dsimp only;omega,slG (W0 0) (fun _ h=>by cases h) (hh:=⟨⟨_,rfl,.var rfl⟩,⟨_,rfl,.varS rfl⟩,⟨_,rfl,.arrS q⟩,⟨_,rfl,.arr⟩,⟨_,rfl,.rarrS rfl⟩,trivial⟩)⟩)))))
  refine aO (a8 (sg rfl (aC (aL (fun i:Nat=>mkt [(1,.one (.vp 700 0)),(2,.one (.vp 2 0)),(46,I .i64 ((al.length:Nat):Int)),(47,I .i64 i)] ([(2,.var 37 bL),(700,.var 37 (dW f n s t ks.length bs.length al.length)),(701,.arr 58 15 (aS bs) 0),(702,.arr 37 10 (aM ks) 0),(703,.rarr 88 14 (tJ al i))]++[]) (fam 0 (al.take i))) (fun i=>i≤al.length) (fun i=>al.length-i) 0 (Aj _) (slG (W0 0) (fun _ h=>by cases h)) ?_))));intro i hi;have ae:=ae i;have hmi:=ab i;have ah:TF (fam 0 (al.take i)):=fI;refine sg rfl (a8 (aA rfl (fun hb=>?_) (fun hb=>?_)))
  ·have Y:i<al.length:=by
    have:(i:Int)<(al.length:Int):=ψ hb;omega
   obtain⟨a,J⟩:=aJ Y;have ai:=aT5 J;have hav:=fU (η J);have hvl:=oN a;have hvk:(a.vars.map bD).length=a.vars.length:=θ _;have aG:=n6 (a.vars.map bD) (by rw[b7] at ar;omega);rw[hvk] at aG;have hmx:=ab (i+1);refine aD (a8 (aC (sg rfl (aE mixed (ak 9 [(8,.rr ((c7 a).map R.c))] rfl (kc aG ?_))))));refine ak 3 [(12,.rr ((c7 a).map R.c))] rfl (az (ag [] rfl ⟨i+1,Y,by dsimp only;omega,?_⟩));dsimp only;refine Sub.tailT (hl:=[(2,.var 37 bL),(700,.var 37 (dW f n s t ks.length bs.length al.length)),(701,.arr 58 15 (aS bs) 0),(702,.arr 37 10 (aM ks) 0),(703,.rarr 88 14 (tJ al (i+1)))]++[]) (sgm i) fI ?_ ?_ ?_ ?_ ?_ ?_ ?_ ?_
   ·exact⟨rfl,rfl,rfl,rfl,trivial⟩
   ·exact⟨⟨_,rfl,.var rfl⟩,⟨_,rfl,.var rfl⟩,⟨_,rfl,.arr⟩,⟨_,rfl,.arr⟩,⟨_,rfl,.rarr (aTk J)⟩,trivial⟩
   ·exact aJ5 J (by repeat (first | exact FarEq.raw ah | (refine FarEq.updL ah ?_) | (refine FarEq.upd ah ?_))) rfl
   ·rfl
   ·exact fun x hx=>.inl (bP (show subset _ _=true from rfl) x hx)
   ·exact(W0 (i+1)).all ⟨Kn.of rfl,Kn.of rfl,Kn.of rfl,Kn.of rfl,Kn.gf hmx,trivial⟩
   ·exact aHa J rfl rfl
   ·exact fun _ h=>by cases h
  refine aO ?_;have hge:i=al.length:=by
   have:¬(i:Int)<(al.length:Int):=δ hb;omega
  subst hge;have Z:TF (fam 0 al):=fI;have W:GW (gHl f n s t ks bs al) (fam 0 al):=gW
  have aH:=sU (decide (f=5)) f n s t ks bs al rfl (by omega) (by omega) (by omega) (fun a ha=>by
   have hav:=fU ha;have hvl:=oN a
   rw[b7] at ar;omega)
  have ad:=nC (f:=f) (n:=n) (s:=s) (t:=t) (ks:=ks) (bs:=bs) (al:=al) (decide (f=5)) al.length;rw[An] at ad ⊢;rw[aPi];have hgl:(bZ (decide (f=5)) ks.length bs.length al.length al).length=1+al.length:=aUh;have aK:gfo f n s t ks bs al (R.refsL (bZ (decide (f=5)) ks.length bs.length al.length al).flatten):=by rw[dE];exact ad
  have aj:(bZ (decide (f=5)) ks.length bs.length al.length al)[0]?=some (pA (decide (f=5)) ks.length bs.length):=aUj;have aN:∀i a,al[i]?=some a→(bZ (decide (f=5)) ks.length bs.length al.length al)[i+1]?=some (mE al.length i a):=fun i a h=>aUi h
  have am:∀k r,(bZ (decide (f=5)) ks.length bs.length al.length al)[k]?=some r→((bZ (decide (f=5)) ks.length bs.length al.length al).flatten.drop (k*2)).take 2=r:=eG aCr;generalize bZ (decide (f=5)) ks.length bs.length al.length al=G at aH hgl aK aj aN am;generalize decide (f=5)=b at aj;have hal':al.length=(aV 0 al).length:=dV.symm;refine a8 (a8 (aE mixed (kc aH ?_ (hin':=eW.app ⟨rfl,rfl,rfl,rfl,trivial⟩ (FarEq.raw Z).all) (hout':=eW.of fun p hp=>.inl (Ad.2 ⟨p,hp,rfl⟩)) (hok:=nJ Z (fun x hx=>.inl (bP (show subset _ _=true from rfl) x hx)) qU))));refine kz 2 rfl (AWp.sub (Sub.outsT Z) ?_);refine aC ?_;have N:∀x∈R.refsL G.flatten,Kn [(2,.var 37 bL)] (gHl f n s t ks bs al) (fam 0 al) x:=Kn.gf aK;refine aL (fun g:Nat=>mkt [(1,.one (.vp 700 0)),(2,.one (.vp 2 0)),(63,.one (.ras G.length 2 G.flatten)),(64,I .i64 ((G.length:Nat):Int)),(65,I .i64 g)] ([(2,.var 37 bL)]++gHl f n s t ks bs al) (fam 0 al)) (fun g=>g≤G.length) (fun g=>G.length-g) 0 (Aj _) (slG W (fun _ h=>by cases h) (FarEq.bif Z (FarEq.outs Z)) (h1:=Kn.app (Kn.of rfl) (Kn.app (Kn.of rfl) (Kn.app N Kn.nil)))) ?_;intro g hg;refine sg rfl (a8 (aA rfl (fun hb=>?_) (fun hb=>?_)))
  ·have Y:g<G.length:=by
    have:(g:Int)<(G.length:Int):=ψ hb;omega
   refine aD ?_;cases g with
   | zero=>
    have ht0:=am 0 _ aj;have hpl:(pR ks.length bs.length bs.length).length=ks.length+bs.length:=aKg;have ap:gfo f n s t ks bs al (R.refsL (pR ks.length bs.length bs.length).flatten):=by rw[dE];exact aN3 _ _ _
    have aP:∀k r,(pR ks.length bs.length bs.length)[k]?=some r→((pR ks.length bs.length bs.length).flatten.drop (k*1)).take 1=r:=eG uN;have hp1:∀j,j<ks.length→(pR ks.length bs.length bs.length)[j]?=some [.ep 702 j 0 ks.length]:=fun j h=>aKi h
    have hp2:∀j,j<bs.length→(pR ks.length bs.length bs.length)[ks.length+j]?=some [.ep 701 j 5 bs.length]:=fun j h=>aKh h
    refine a8 (aC (sgh [(0,.rowR 0 (pA b ks.length bs.length))] rfl (sg rfl (aC (aL (fun j:Nat=>mkt [(1,.one (.vp 700 0)),(2,.one (.vp 2 0)),(63,.one (.ras G.length 2 G.flatten)),(64,I .i64 ((G.length:Nat):Int)),(65,I .i64 (0:Nat)),(70,.one (.ras (pR ks.length bs.length bs.length).length 1 (pR ks.length bs.length bs.length).flatten)),(71,I .i64 (((pR ks.length bs.length bs.length).length:Nat):Int)),(72,I .i64 j)] ([(2,.var 37 bL)]++gHl f n s t ks bs al) (fam 0 al)) (fun j=>j≤(pR ks.length bs.length bs.length).length) (fun j=>(pR ks.length bs.length bs.length).length-j) 0 (Aj _) (slG W (fun _ h=>by cases h) (h1:=Kn.app (Kn.of rfl) (Kn.app (Kn.of rfl) (Kn.app N (Kn.app Kn.nil (Kn.app Kn.nil (Kn.app (Kn.gf ap) Kn.nil))))))) ?_)))));intro j hj;refine sg rfl (a8 (aA rfl (fun hb=>?_) (fun hb=>?_)))
    ·have aq:j<(pR ks.length bs.length bs.length).length:=by
      have:(j:Int)<((pR ks.length bs.length bs.length).length:Int):=ψ hb;omega
     refine aD ?_;by_cases aQ:j<ks.length
     ·obtain⟨k,aT⟩:=aJ aQ;have hki':=dG aT;have hm:=η aT;have hc:aU Tryz.prog 47 [.pa (aB k)] [] (.pa (aB k)) []:=ih k (ihk k hm) (aBc hTk k hm);have q:=rL hki';have ht1:=aP j _ (hp1 j aQ);refine a8 (aC (sgh [(0,.rowR j [.ep 702 j 0 ks.length])] rfl (aE mixed (ak 4 [(3,.row j (aB k))] rfl (kc hc ?_)))));exact ak 2 [(6,.row j (aB k))] rfl (az (ag [] rfl ⟨j+1,aq,by dsimp only;omega,slG W (fun _ h=>by cases h) (h1:=Kn.app (Kn.of rfl) (Kn.app (Kn.of rfl) (Kn.app N (Kn.app Kn.nil (Kn.app Kn.nil (Kn.app (Kn.gf ap) Kn.nil)))))) (hh:=⟨⟨_,rfl,.var rfl⟩,⟨_,rfl,.var rfl⟩,⟨_,rfl,.arr⟩,⟨_,rfl,.arrS q⟩,⟨_,rfl,.rarrS rfl⟩,trivial⟩)⟩))
     ·obtain⟨O,rfl⟩:∃O,j=ks.length+O:=⟨j-ks.length,by omega⟩
      have aW:O<bs.length:=by omega
      obtain⟨x,aa⟩:=aJ aW;have ac:=bT aa;have hm:=η aa;have hc:aU Tryz.prog 47 [.pa (aB x.body)] [] (.pa (aB x.body)) []:=ih x.body (ihb x hm) (tD av x hm).2;have q:=rL ac;have ht1:=aP (ks.length+O) _ (hp2 O aW);refine a8 (aC (sgh [(0,.rowR (ks.length+O) [.ep 701 O 5 bs.length])] rfl (aE mixed (ak 4 [(3,.row O (bB x))] rfl (kc hc ?_)))));exact ak 2 [(6,.row O (bB x))] rfl (az (ag [] rfl ⟨ks.length+O+1,aq,by dsimp only;omega,slG W (fun _ h=>by cases h) (h1:=Kn.app (Kn.of rfl) (Kn.app (Kn.of rfl) (Kn.app N (Kn.app Kn.nil (Kn.app Kn.nil (Kn.app (Kn.gf ap) Kn.nil)))))) (hh:=⟨⟨_,rfl,.var rfl⟩,⟨_,rfl,.var rfl⟩,⟨_,rfl,.arrS q⟩,⟨_,rfl,.arr⟩,⟨_,rfl,.rarrS rfl⟩,trivial⟩)⟩))
    exact aO (ag [] rfl ⟨1,by omega,by dsimp only;omega,slG W (fun _ h=>by cases h) (h1:=Kn.app (Kn.of rfl) (Kn.app (Kn.of rfl) (Kn.app N Kn.nil)))⟩)
   | succ i=>
    have hia:i<al.length:=by omega
    obtain⟨a,J⟩:=aJ hia;have ht0:=am (i+1) _ (aN i a J);have ai:(aV 0 al)[i]?=some (dM i a):=by rw[mV J,Be]
    have hm:=η J;have hc:aU Tryz.prog 47 [.pa (aB a.body)] [] (.pa (aB a.body)) []:=ih a.body (iha a hm) (aBf hTa a hm);have q:=rL ai;refine a8 (aC (sgh [(0,.rowR (i+1) (mE al.length i a))] rfl (sg rfl (aC (aL (fun j:Nat=>mkt [(1,.one (.vp 700 0)),(2,.one (.vp 2 0)),(63,.one (.ras G.length 2 G.flatten)),(64,I .i64 ((G.length:Nat):Int)),(65,I .i64 ((i+1:Nat):Int)),(70,.one (.ras 1 1 [.rp 703 i 4 al.length])),(71,I .i64 ((1:Nat):Int)),(72,I .i64 j)] ([(2,.var 37 bL)]++gHl f n s t ks bs al) (fam 0 al)) (fun j=>j≤1) (fun j=>1-j) 0 (Aj _) (slG W (fun _ h=>by cases h) (h1:=Kn.app (Kn.of rfl) (Kn.app (Kn.of rfl) (Kn.app N (Kn.of rfl))))) ?_)))));intro j hj;refine sg rfl (a8 (aA rfl (fun hb=>?_) (fun hb=>?_)))
    ·have hj0:j=0:=by
      have:(j:Int)<((1:Nat):Int):=ψ hb;omega
     subst hj0;refine aD (a8 (aC (sg rfl (aE mixed (ak 4 [(3,.rr (dM i a))] rfl (kc hc ?_))))));exact ak 2 [(6,.rr (dM i a))] rfl (az (ag [] rfl ⟨1,le_refl _,by dsimp only;omega,slG W (fun _ h=>by cases h) (h1:=Kn.app (Kn.of rfl) (Kn.app (Kn.of rfl) (Kn.app N (Kn.of rfl)))) (hh:=⟨⟨_,rfl,.var rfl⟩,⟨_,rfl,.var rfl⟩,⟨_,rfl,.arr⟩,⟨_,rfl,.arr⟩,⟨_,rfl,.rarrS q⟩,trivial⟩)⟩))
    exact aO (ag [] rfl ⟨i+1+1,by omega,by dsimp only;omega,slG W (fun _ h=>by cases h) (h1:=Kn.app (Kn.of rfl) (Kn.app (Kn.of rfl) (Kn.app N Kn.nil)))⟩)
  refine aO (sg rfl ?_);exact aI ⟨.inr rfl,aCw (hl:=oHl ks bs al) Z (by repeat (first | exact FarEq.raw Z | (refine FarEq.updL Z ?_) | (refine FarEq.upd Z ?_))) ⟨_,_,.cell rfl (tg rfl) rfl rfl rfl .nil,.cons .refl .nil,rfl⟩ (fun x hx=>.inl (bP (show subset _ _=true from rfl) x hx)) (fun x hx=>.inr (dA x (by simpa [oHl,dN,AObj.refs] using hx))) (fun _ h=>by cases h) (fun _ h=>by cases h)⟩
theorem aEv {h:cR}{ids:List Nat}{rs:List R}{cs:List C}(k:PureL h ids rs cs):∀l:List C,PureL h ids (l.map R.c++rs) (l++cs)
 | []=>k
 | _::l=>.c .refl (aEv k l)
theorem zD {h:cR}:∀{al:List Alt}{k:Nat},FarEq h (xK (fam k al))→∃ids,PureL h ids (aV k al).flatten (al.map c7).flatten
 | [],_,_=>⟨[],.nil⟩
 | a::l,k,hf=>by
  obtain⟨ids,q⟩:=zD (al:=l) (k:=k+1) fun p hp=>hf p (κ _ hp)
  have hh:h (k+800)=some (.arr 9 1 (a.vars.map bD) 2):=hf (k+800,.arr 9 1 (a.vars.map bD) 2) ζ;refine⟨(k+800)::ids,?_⟩;have h1:=aEv q (aB a.body);simp only[aV,Am,Bi,dM,c7,At,Ba,Bd];exact .c .refl (.c .refl (.c .refl (.hs hh (θ _).symm (by rw[Ce,←θ (f:=bD),An]) h1)))
def jJ (f n:Int) (s:Str) (t:Ty) (nk nb:Nat) (al:List Alt):List R:=[.c (.int .i64 f),.c (.int .i64 n),.c (.str s),.c (.int .i64 t.form),.c (.int .i64 t.n),.c (.str t.name),.c (.sl 4 (gD t)),.hs 702 0 nk nk,.hs 701 0 nb nb,.ras al.length 14 (aV 0 al).flatten]
theorem rT {h:cR}{f n:Int}{s:Str}{t:Ty}{ks:List Core}{bs:List Bind}{al:List Alt}(h1:h 701=some (.arr 58 15 (aS bs) 2)) (h2:h 702=some (.arr 37 10 (aM ks) 2)) (hf:FarEq h (xK (fam 0 al))):
  ∃ids,PureL h ids (jJ f n s t ks.length bs.length al) (aB (.mk f n s t ks bs al)):=by
 obtain⟨ids,hp⟩:=zD hf;have I:(aM ks).length=ks.length:=by rw[aR,θ]
 have J:(aS bs).length=bs.length:=by rw[bI,θ]
 refine⟨702::701::(ids++[]),?_⟩;refine .c .refl (.c .refl (.c .refl (.c .refl (.c .refl (.c .refl (.c .refl (.hs h2 I.symm ?_ (.hs h1 J.symm ?_ (.ras rfl hp ?_ ?_ ?_ .nil)))))))))
 ·rw[Ce,←I,An];rfl
 ·rw[Ce,←J,An];rfl
 ·show _=(bS al).flatten;rw[bQ]
 ·intro r q;have q:r∈bS al:=q;rw[bQ] at q;obtain⟨a,_,rfl⟩:=Ad.1 q;rfl
 ·show(bS al).length=_;rw[bQ,θ]
theorem tY {al:List Alt}:703∉c8 (aV 0 al):=fun h=>by
 obtain⟨p,hp,e⟩:=Ad.1 (dA 703 h);have:=fI.far p hp;omega
theorem oQ {kf:List Nat}{el:List (Nat×V)}{ex:List (Nat×AObj)}{ks:List Core}{bs:List Bind}{al:List Alt}(W:703∉kf)
  (aa:∀x∈nT el,Kn (oHl ks bs al) ex (fam 0 al) x) (hex:eW (fun q=>∀x∈q.2.refs,Kn (oHl ks bs al) ex (fam 0 al) x) ex)
  (ab:∀i∈kf,i∈keys (oHl ks bs al++ex)∨i∈keys (fam 0 al)) (hd:Go.AM.distinct ((oHl ks bs al++ex).map (·.1))=true) (hn:(ex.all fun p=>Nat.blt p.1 800)=true) (ac:(el.map (·.1)).Nodup) (ad:∀p∈ex,p.2.live=true):
  Sub kf (mkt (fzE 703 (.ra al.length 14 (aV 0 al).flatten) el) (fzH 703 (.ra al.length 14 (aV 0 al).flatten) ([(701,.arr 58 15 (aS bs) 2),(702,.arr 37 10 (aM ks) 2)]++ex)) (xK (fam 0 al))) (mkt el (oHl ks bs al++ex) (fam 0 al)):=by
 have N:TF (fam 0 al):=fI;have ae:((oHl ks bs al++ex).all fun p=>Nat.blt p.1 800)=true:=by rw[all_append,hn];rfl
 have e1:Sub kf (mkt el ([(703,.rarr 88 14 (aV 0 al)),(701,.arr 58 15 (aS bs) 2),(702,.arr 37 10 (aM ks) 2)]++ex) (fam 0 al)) (mkt el (oHl ks bs al++ex) (fam 0 al)):=by
  refine Sub.trans ?_ (Sub.freeze (id:=701) (te:=58) (es:=15) (elems:=aS bs) (fz:=0) rfl);refine Sub.trans ?_ (Sub.freeze (id:=702) (te:=37) (es:=10) (elems:=aM ks) (fz:=0) rfl);have O:∀p∈ex,703≠p.1∧701≠p.1∧702≠p.1:=fun p hp=>by
   have I:=dO hd;simp only[oHl,Ba,Bd,Am,Br,Ao,not_or] at I;have hm:p.1∈ex.map (·.1):=Ad.2 ⟨p,hp,rfl⟩;exact⟨fun e=>I.2.2.1 (e▸hm),fun e=>I.1.2.2 (e▸hm),fun e=>I.2.1.2 (e▸hm)⟩
  have Y:(ex.map (·.1)).Nodup:=by
   have I:=dO hd;simp only[oHl,Ba,Bd,Am,Br] at I;exact I.2.2.2
  have hg:∀x∈dN (oHl ks bs al++ex),x∈keys (oHl ks bs al++ex)∨x∈keys (fam 0 al):=fun x hx=>by
   rw[iZ] at hx;rcases χ.1 hx with hx | hx
   ·exact .inr (dA x (by simpa [oHl,dN,AObj.refs] using hx))
   ·rcases z6 hex x hx with h | h | h
    ·exact .inl (i7.2 (.inl h))
    ·exact .inl (i7.2 (.inr h))
    ·exact .inr h
  have J:∀x,x∈keys (oHl ks bs al++ex)→x∈keys ([(703,AObj.rarr 88 14 (aV 0 al)),(701,.arr 58 15 (aS bs) 2),(702,.arr 37 10 (aM ks) 2)]++ex):=fun x hx=>by
   simp only[oHl,keys,Ba,Bd,Am,Ao] at hx ⊢;rcases hx with h | h | h | h
   ·exact .inr (.inl h)
   ·exact .inr (.inr (.inl h))
   ·exact .inl h
   ·exact .inr (.inr (.inr h))
  refine slT N (FarEq.upd N (FarEq.upd N (FarEq.mkt N ae))) (fun x hx=>?_) (fun x hx=>?_) (fun i hi=>(ab i hi).imp (J i) id) (he:=eW.of fun p hp=>?_) (hh:=⟨⟨_,rfl,.rarrS rfl⟩,⟨_,rfl,.arr⟩,⟨_,rfl,.arr⟩,eW.of fun p hp=>?_⟩) (h3:=?_) (h3':=?_)
  ·rcases aa x hx with h | h | h
   ·exact .inl (J x (i7.2 (.inl h)))
   ·exact .inl (J x (i7.2 (.inr h)))
   ·exact .inr h
  ·refine(hg x ?_).imp (J x) id;rw[iZ] at hx ⊢;rcases χ.1 hx with hx | hx
   ·exact χ.2 (.inl (by simpa [oHl,dN,AObj.refs] using hx))
   ·exact χ.2 (.inr hx)
  ·rw[V.ren_id];exact oZ ac p hp
  ·obtain⟨m1,m2,m3⟩:=O p hp;refine⟨p.2,?_,.refl_id (by intro e;have:=ad p hp;rw[e] at this;cases this)⟩;dsimp only;rw[bE _ _ _ (Ne.symm m3),bE _ _ _ (Ne.symm m2)];have hl:Go.AM.look (oHl ks bs al++ex) p.1=some p.2:=oZ (dO hd) p (χ.2 (.inr hp));show(match Go.AM.look (oHl ks bs al++ex) p.1 with | some x=>some x | none=>_)=_;rw[hl]
  ·refine fL ?_;simp only[Ba,Bd,Am,Br,Ao,not_or];refine⟨⟨by decide,by decide,fun h=>?_⟩,⟨by decide,fun h=>?_⟩,fun h=>?_,Y⟩
   all_goals
    obtain⟨p,hp,e⟩:=Ad.1 h;have:=O p hp;omega
  ·rw[all_append,hn];rfl
 have Z:Go.AM.distinct (703::List.map (fun p:Nat×AObj=>p.1) ([(701,AObj.arr 58 15 (aS bs) 2),(702,.arr 37 10 (aM ks) 2)]++ex))=true:=by
  have I:=dO hd;simp only[oHl,Ba,Bd,Am,Br,Ao,not_or] at I;refine fL ?_;simp only[Ba,Bd,Am,Br,Ao,not_or];exact⟨⟨by decide,by decide,I.2.2.1⟩,⟨by decide,I.1.2.2⟩,I.2.1.2,I.2.2.2⟩
 have e2:=Sub.fzAll (kf:=kf) (el:=el) (hl:=[(703,.rarr 88 14 (aV 0 al)),(701,.arr 58 15 (aS bs) 2),(702,.arr 37 10 (aM ks) 2)]++ex) N (by rw[all_append,hn];rfl);have e3:=Sub.fraT (kf:=kf) (el:=el) (id:=703) (te:=88) (es:=14) (rows:=aV 0 al) (rest:=[(701,.arr 58 15 (aS bs) 2),(702,.arr 37 10 (aM ks) 2)]++ex) N.frz W tY rfl Z;rw[dV] at e3;exact Sub.trans e3 (Sub.trans e2 e1)
theorem aKj {c:Core}(h:OwG c):OwP c:=by
 obtain⟨f,n,s,t,ks,bs,al⟩:=c;refine aU.sub h ?_;have q:TF (fam 0 al):=fI;show Sub [] _ (mk [(0,.ma (dW f n s t ks.length bs.length al.length))] (oHl ks bs al++fam 0 al));rw[←aKv q];have h1:=oQ (kf:=[]) (el:=[(0,.ma (dW f n s t ks.length bs.length al.length))]) (ex:=[]) (ks:=ks) (bs:=bs) (al:=al) (by simp) (Kn.of rfl) trivial (fun _ h=>by cases h) rfl rfl (by simp) (fun _ h=>by cases h);rw[A0] at h1;refine Sub.trans ?_ h1;have J:fzE 703 (.ra al.length 14 (aV 0 al).flatten) [(0,.ma (dW f n s t ks.length bs.length al.length))]=[(0,.ma (jJ f n s t ks.length bs.length al))]:=by
  unfold dW jJ;simp only[fzE,V.fz,R.fzL,R.fz,B6,Cm,Bool.and_self]
 rw[J];have I:TF (xK (fam 0 al)):=q.frz;obtain⟨ids,hp⟩:=rT (h:=(mkt [(0,V.ma (jJ f n s t ks.length bs.length al))] (fzH 703 (.ra al.length 14 (aV 0 al).flatten) ([(701,.arr 58 15 (aS bs) 2),(702,.arr 37 10 (aM ks) 2)]++[])) (xK (fam 0 al))).h) (f:=f) (n:=n) (s:=s) (t:=t) (ks:=ks) (bs:=bs) (al:=al) rfl rfl (FarEq.mkt I rfl);refine Sub.trans ?_ (Sub.conv (t:=0) (v:=.ma (jJ f n s t ks.length bs.length al)) (v':=.pa (aB (.mk f n s t ks bs al))) rfl (.agg hp));exact sl
theorem sT:∀(n:Nat) (c:Core),b7 c≤n→n≤570000000000→allT TyG c→OwP c
 | 0,c,h,_,_=>by have:=c9 c;omega
 | n+1,c,h,hn,I=>aKj (vA c (fun x hx q=>sT n x (by omega) (by omega) q) I (by omega))
theorem aSk (c:Core) (h:b7 c≤570000000000) (I:allT TyG c):OwG c:=vA c (fun x hx q=>sT (b7 x) x (le_refl _) (by omega) q) I h
def nm0 (c:Core):List (List C):=if c.form=5 then [[.pt ((aB c).drop 2)]] else []
def aC3 (b:Bind):List C:=[.pt ((bB b).drop 0)]
def aHt (b:Bind):List C:=[.pt ((bB b).drop 5)]
def iE (k:Core):List C:=[.pt (aB k)]
def yF (v:Str):List C:=[.pt (bD v)]
def aC9 (a:Alt):List C:=[.sl 1 (a.vars.map yF),.sl 1 [[.pt ((c7 a).drop 4)]]]
def aX7 (c:Core):List C:=[.sl 1 (nm0 c++c.binds.map aC3),.sl 1 (c.kids.map iE++c.binds.map aHt)]
def o7 (c:Core):List (List C):=aX7 c::c.alts.map aC9
theorem rB {α:Type}(f:α→List C) (w:List (List C)) {l:List α}{i:Nat}{x:α}(h:l[i]?=some x):w++(l.take i).map f++[f x]=w++(l.take (i+1)).map f:=by
 rw[dY h,Ar,At];rfl
theorem aAt (c:Core) (aj:b7 c≤570000000000):aU Tryz.prog 79 [.one (.c (.pt (aB c)))] [] (.one (.c (.sl 2 (o7 c)))) []:=by
 obtain⟨f,n,s,t,ks,bs,al⟩:=c;obtain⟨ihk,ihb,iha,hkl,hbl,hal⟩:= @eQ f n s t ks bs al;have ab:(aS bs).length=bs.length:=by rw[bI,θ]
 have ac:(aM ks).length=ks.length:=by rw[aR,θ]
 have ad:(bS al).length=al.length:=by rw[bQ,θ]
 have hW:(nm0 (.mk f n s t ks bs al)).length≤1:=by unfold nm0;split<;>simp
 have J:nm0 (.mk f n s t ks bs al)=if f=5 then [[.pt ((aB (.mk f n s t ks bs al)).drop 2)]] else []:=rfl
 have ak:o7 (.mk f n s t ks bs al)=[.sl 1 (nm0 (.mk f n s t ks bs al)++bs.map aC3),.sl 1 (ks.map iE++bs.map aHt)]::al.map aC9:=rfl;rw[ak];generalize nm0 (.mk f n s t ks bs al)=W at hW J ⊢;refine bO (n:=123) tok Tryz.func79 rfl rfl rfl ?_;refine sg rfl (sg rfl (AWp.sub (Sub.ownCell (x:=3) (k:=1) (id:=712) 118 1 rfl rfl rfl) (AWp.sub (Sub.ownCell (x:=3) (k:=0) (id:=711) 158 1 rfl rfl rfl) ?_)));refine a8 (sg rfl (aC (aL (fun i:Nat=>mk [(0,.one (.c (.pt (aB (.mk f n s t ks bs al))))),(3,.one (.vp 3 0)),(16,I .i64 ((aM ks).length:Int)),(17,I .i64 i)] [(3,.var 126 [.hs 711 0 0 0,.hs 712 0 i i]),(711,.arr 158 1 [] 0),(712,.arr 118 1 ((ks.take i).map iE) 0)]) (fun i=>i≤ks.length) (fun i=>ks.length-i) 0 (Aj _) sl ?_)));intro i hi;refine sg rfl (a8 (aA rfl (fun hb=>?_) (fun hb=>?_)))
 ·have q:=ltD hb ac;obtain⟨k,ae⟩:=aJ q;have hki':=dG ae;have O:=eC iE ae;exact aD (a8 (aC (sg rfl (ag [(7,.row i (aB k))] rfl (ag [] rfl ⟨i+1,q,by dsimp only;omega,sl⟩)))))
 have N:=geD hb ac hi;subst N;rw[An];refine aO (a8 (AWp.cut (mk [(0,.one (.c (.pt (aB (.mk f n s t ks bs al))))),(3,.one (.vp 3 0))] [(3,.var 126 [.hs 711 0 W.length W.length,.hs 712 0 ks.length ks.length]),(711,.arr 158 1 W 0),(712,.arr 118 1 (ks.map iE) 0)]) ?_ ?_))
 ·refine sg rfl (aA rfl (fun hb=>?_) (fun hb=>?_))
  ·have h5:f=5:=ψ hb;rw[ξ h5] at J;subst J;exact ag [] rfl sl
  ·have h5:¬f=5:=δ hb;rw[φ h5] at J;subst J;exact aD sl
 clear J;refine a8 (sg rfl (aC (aL (fun i:Nat=>mk [(0,.one (.c (.pt (aB (.mk f n s t ks bs al))))),(3,.one (.vp 3 0)),(49,I .i64 ((aS bs).length:Int)),(50,I .i64 i)] [(3,.var 126 [.hs 711 0 (W.length+i) (W.length+i),.hs 712 0 (ks.length+i) (ks.length+i)]),(711,.arr 158 1 (W++(bs.take i).map aC3) 0),(712,.arr 118 1 (ks.map iE++(bs.take i).map aHt) 0)]) (fun i=>i≤bs.length) (fun i=>bs.length-i) 0 (Aj _) sl ?_)));intro i hi;refine sg rfl (a8 (aA rfl (fun hb=>?_) (fun hb=>?_)))
 ·have q:=ltD hb ab;obtain⟨b,Y⟩:=aJ q;have hbi':=bT Y;have hr1:=rB aC3 W Y;have hr2:=rB aHt (ks.map iE) Y;exact aD (a8 (aC (sg rfl (sgh [(5,.row i (bB b))] rfl (ag [] rfl (ag [] rfl ⟨i+1,q,by dsimp only;omega,sl⟩))))))
 have N:=geD hb ab hi;subst N;rw[An];have am:(W++bs.map aC3).length=W.length+bs.length:=by simp
 have ap:(ks.map iE++bs.map aHt).length=ks.length+bs.length:=by simp
 rw[←am,←ap];generalize W++bs.map aC3=N0;generalize ks.map iE++bs.map aHt=P0;refine aO (AWp.sub (Sub.freeze (id:=711) rfl) (AWp.sub (Sub.freeze (id:=712) rfl) (AWp.sub (vp 3 [.sl 1 N0,.sl 1 P0]) ?_)));refine sgh [(1,.id 500)] rfl (a8 (sg rfl (aC (aL (fun i:Nat=>mk [(0,.one (.c (.pt (aB (.mk f n s t ks bs al))))),(7,.one (.hs 500 0 (1+i) (1+i))),(82,I .i64 ((bS al).length:Int)),(83,I .i64 i)] [(500,.arr 126 2 ([[.sl 1 N0,.sl 1 P0]]++(al.take i).map aC9) 0)]) (fun i=>i≤al.length) (fun i=>al.length-i) 0 (Aj _) sl ?_))));intro i hi;refine sg rfl (a8 (aA rfl (fun hb=>?_) (fun hb=>?_)))
 ·have q:=ltD hb ad;obtain⟨a,Z⟩:=aJ q;have hai':=iU Z;have hav:=fU (η Z);have hvl:=oN a;have O:=rB aC9 [[.sl 1 N0,.sl 1 P0]] Z;have ah:(a.vars.map bD).length=a.vars.length:=θ _;have aq:(([[.sl 1 N0,.sl 1 P0]]:List (List C))++(al.take i).map aC9).length=1+i:=by
   rw[ω,θ,Au];show 1+min i al.length=_;omega
  have hall:al.length≤570000000000:=by omega
  generalize ([[.sl 1 N0,.sl 1 P0]]:List (List C))++(al.take i).map aC9=G at aq O ⊢;rw[b7] at aj;refine aD (a8 (aC (sg rfl (sgh [(5,.row i (c7 a))] rfl (sgh [(3,.all)] rfl (AWp.sub (Sub.ownCell (x:=10) (k:=0) (id:=721) 158 1 rfl rfl rfl) ?_))))));refine a8 (sg rfl (aC (aL (fun j:Nat=>mk [(0,.one (.c (.pt (aB (.mk f n s t ks bs al))))),(7,.one (.hs 500 0 (1+i) (1+i))),(9,.one (.c (.pt (c7 a)))),(10,.one (.vp 10 0)),(82,I .i64 ((bS al).length:Int)),(83,I .i64 i),(101,I .i64 ((a.vars.map bD).length:Int)),(102,I .i64 j)] [(500,.arr 126 2 G 0),(10,.var 126 [.hs 721 0 j j,.c (.sl 1 [[.pt ((c7 a).drop 4)]])]),(721,.arr 158 1 ((a.vars.take j).map yF) 0)]) (fun j=>j≤a.vars.length) (fun j=>a.vars.length-j) 0 (Aj _) sl ?_)));intro j hj;refine sg rfl (a8 (aA rfl (fun hb=>?_) (fun hb=>?_)))
  ·have aa:=ltD hb ah;obtain⟨v,hv⟩:=aJ aa;have hv':=bM bD hv;have hr3:=eC yF hv;exact aD (a8 (aC (sg rfl (ag [(7,.row j (bD v))] rfl (ag [] rfl ⟨j+1,aa,by dsimp only;omega,sl⟩)))))
  have ai:=geD hb ah hj;subst ai;rw[An];have hlv:a.vars.length=(a.vars.map yF).length:=(θ _).symm;refine aO (AWp.sub (Sub.freeze (id:=721) rfl) (AWp.sub (vp 10 (aC9 a)) ?_));exact ag [(2,.all)] rfl (ag [] rfl ⟨i+1,q,by dsimp only;omega,sl⟩)
 have N:=geD hb ad hi;subst N;rw[An];refine aO (sg rfl (AWp.sub (Sub.freeze (id:=500) rfl) ?_));exact aI (rtT (hc:=hs_all rfl rfl (by simp;omega) rfl))
def gl (c:Core):List (List (List C)×List Core):=(nm0 c++c.binds.map aC3,c.kids++c.binds.map Bind.body)::c.alts.map fun a=>(a.vars.map yF,[a.body])
def kR (g:List (List C)×List Core):List C:=[.sl 1 g.1,.sl 1 (g.2.map iE)]
theorem pS (c:Core):o7 c=(gl c).map kR:=by
 obtain⟨f,n,s,t,ks,bs,al⟩:=c;unfold o7 gl;rw[Am,A1];congr 1;unfold aX7 kR;rw[Ar,A1];rfl
mutual
def dQ:Core→Nat
 | .mk _ _ _ _ ks bs al=>1+(c6 ks+(fN bs+fO al))
def c6:List Core→Nat
 | []=>0
 | c::l=>dQ c+c6 l
def fN:List Bind→Nat
 | []=>0
 | .mk _ _ c::l=>dQ c+fN l
def fO:List Alt→Nat
 | []=>0
 | .mk _ _ _ _ c::l=>dQ c+fO l
end
theorem oS:∀a b,c6 (a++b)=c6 a+c6 b
 | [],b=>by rw[Bd,c6,Be]
 | x::a,b=>by rw[Ba,c6,c6,oS a b,B8]
theorem u9:∀l:List Bind,c6 (l.map Bind.body)=fN l
 | []=>by rw[Bs,c6,fN]
 | .mk s t c::l=>by rw[Am,c6,fN,u9 l];rfl
def o4:List (List (List C)×List Core)→Nat
 | []=>0
 | g::l=>c6 g.2+o4 l
theorem aAa:∀l:List Alt,o4 (l.map fun a=>(a.vars.map yF,[a.body]))=fO l
 | []=>by rw[Bs,o4,fO]
 | .mk f n s v c::l=>by rw[Am,o4,fO,aAa l,c6,c6];rfl
theorem aTe (c:Core):dQ c=1+o4 (gl c):=by
 obtain⟨f,n,s,t,ks,bs,al⟩:=c;unfold gl;rw[o4,dQ];show _=1+(c6 (ks++bs.map Bind.body)+o4 (al.map fun a=>(a.vars.map yF,[a.body])));rw[oS,u9,aAa];omega
mutual
theorem size_le:∀c:Core,dQ c≤b7 c
 | .mk f n s t ks bs al=>by rw[dQ,b7];have:=aEd ks;have:=aEe bs;have:=aEf al;omega
theorem aEd:∀l:List Core,c6 l≤bR l
 | []=>by rw[c6];exact Aj _
 | c::l=>by rw[c6,bR];have:=size_le c;have:=aEd l;omega
theorem aEe:∀l:List Bind,fN l≤eT l
 | []=>by rw[fN];exact Aj _
 | .mk s t c::l=>by rw[fN,eT,bsize];have:=size_le c;have:=aEe l;omega
theorem aEf:∀l:List Alt,fO l≤eU l
 | []=>by rw[fO];exact Aj _
 | .mk f n s v c::l=>by rw[fO,eU,nK];have:=size_le c;have:=aEf l;omega
end
theorem aX8 {c:Core}{g:List (List C)×List Core}(h:g∈gl c) {x:Core}(hx:x∈g.2):b7 x<b7 c:=by
 obtain⟨f,n,s,t,ks,bs,al⟩:=c;obtain⟨q,I,J,N,O,W⟩:= @eQ f n s t ks bs al;unfold gl at h;rcases Ao.1 h with rfl | h
 ·rcases χ.1 hx with hx | hx
  ·exact q x hx
  ·obtain⟨b,hb,rfl⟩:=Ad.1 hx;exact I b hb
 ·obtain⟨a,ha,rfl⟩:=Ad.1 h;rw[Aa.1 hx];exact J a ha
theorem aR1 (c:Core):(gl c).length≤b7 c∧∀g∈gl c,g.2.length≤b7 c∧g.1.length≤b7 c:=by
 obtain⟨f,n,s,t,ks,bs,al⟩:=c;have h1:=gZ ks;have h2:=fC bs;have h3:=hY al;have q:(nm0 (.mk f n s t ks bs al)).length≤1:=by unfold nm0;split<;>simp
 rw[b7];unfold gl;refine⟨?_,fun g hg=>?_⟩
 ·rw[Ag,θ];show al.length+1≤_;omega
 ·rcases Ao.1 hg with rfl | hg
  ·rw[ω,ω,θ,θ];show ks.length+bs.length≤_∧_+bs.length≤_;omega
  ·obtain⟨a,ha,rfl⟩:=Ad.1 hg;have h4:=fU (show a∈al from ha);have h5:=oN a;have h6:1≤nK a:=by obtain⟨f,n,s,v,c⟩:=a;rw[nK];omega
   show [a.body].length≤_∧(a.vars.map yF).length≤_;rw[θ,List.length_singleton];omega
theorem aLn {l:List (List (List C)×List Core)}{i:Nat}{g:List (List C)×List Core}(h:l[i]?=some g):o4 (l.take (i+1))=o4 (l.take i)+c6 g.2:=by
 have app:∀a b,o4 (a++b)=o4 a+o4 b:=by
  intro a b
  induction a with
  | nil=>rw[Bd,o4,Be]
  | cons x a q=>rw[Ba,o4,o4,q,B8]
 rw[dY h,app,o4,o4,Bw]
theorem aB4 {l:List Core}{i:Nat}{x:Core}(h:l[i]?=some x):c6 (l.take (i+1))=c6 (l.take i)+dQ x:=by
 rw[dY h,oS,c6,c6,Bw]
theorem aUg (l:List (List (List C)×List Core)) (i:Nat):o4 (l.take i)≤o4 l:=by
 induction l generalizing i with
 | nil=>simp
 | cons g l q=>
  cases i with
  | zero=>simp[o4]
  | succ i=>rw[Ax,o4,o4];have:=q i;omega
theorem aJe (l:List Core) (i:Nat):c6 (l.take i)≤c6 l:=by
 induction l generalizing i with
 | nil=>simp
 | cons g l q=>
  cases i with
  | zero=>simp[c6]
  | succ i=>rw[Ax,c6,c6];have:=q i;omega
def aNn (c:Core):Prop:=b7 c≤570000000000→aU Tryz.prog 92 [.pa (aB c)] [] (I .i64 (dQ c:Nat)) []
theorem aC0 (c:Core) (ih:∀x,b7 x<b7 c→aNn x):aNn c:=by
 intro ah;have q:=aAt c ah;have O:=aTe c;have W:=size_le c;have hin:=fun {g} (h:g∈gl c) {x} hx=> @aX8 c g h x hx
 obtain⟨ai,Y⟩:=aR1 c;rw[pS] at q;rw[O] at W ⊢;generalize gl c=L at q O W hin ai Y ⊢;have Z:(L.map kR).length=L.length:=θ _;refine bO (n:=30) tok Tryz.func92 rfl rfl rfl ?_;refine sg rfl (sg rfl (AWp.sub (Sub.fvar (id:=1) (l:=aB c) rfl (by simp[keys])) ?_));refine AWp.sub (st2:=mk [(1,.one (.c (.pt (aB c)))),(3,I .i64 1)] []) sl ?_;refine a8 (a8 (aE mixed (kc q ?_)));refine kz 2 rfl (aC (aL (fun i:Nat=>mk [(3,I .i64 ((1+o4 (L.take i):Nat):Int)),(8,.one (.c (.sl 2 (L.map kR)))),(9,I .i64 ((L.map kR).length:Int)),(10,I .i64 i)] []) (fun i=>i≤L.length) (fun i=>L.length-i) 0 (Aj _) sl ?_));intro i hi;refine sg rfl (a8 (aA rfl (fun hb=>?_) (fun hb=>?_)))
 ·have aa:=ltD hb Z;obtain⟨g,hg⟩:=aJ aa;have hg':=bM kR hg;have ab:=η hg;obtain⟨aj,am⟩:=Y g ab;have ac:=aLn hg;have hgl1:=aUg L (i+1);have J:(g.2.map iE).length=g.2.length:=θ _;obtain⟨G1,G⟩:=g;dsimp only at aj am ac J;refine aD (a8 (aC (sgh [(0,.row i (kR (G1,G)))] rfl (sg rfl (aC (aL (fun j:Nat=>mk [(3,I .i64 ((1+o4 (L.take i)+c6 (G.take j):Nat):Int)),(8,.one (.c (.sl 2 (L.map kR)))),(9,I .i64 ((L.map kR).length:Int)),(10,I .i64 i),(15,.one (.c (.sl 1 (G.map iE)))),(16,I .i64 ((G.map iE).length:Int)),(17,I .i64 j)] []) (fun j=>j≤G.length) (fun j=>G.length-j) 0 (Aj _) sl ?_))))));intro j hj;refine sg rfl (a8 (aA rfl (fun hb=>?_) (fun hb=>?_)))
  ·have N:=ltD hb J;obtain⟨p,hp⟩:=aJ N;have hp':=bM iE hp;have ap:=hin ab (η hp);have hc:=ih p ap (by omega);have aq:=aB4 hp;have hsl2:=aJe G (j+1);have ad:((1+o4 (L.take i)+c6 (G.take j):Nat):Int)+((dQ p:Nat):Int)=((1+o4 (L.take i)+c6 (G.take (j+1)):Nat):Int):=by rw[aq];omega
   refine aD (a8 (aC (sgh [(0,.row j (iE p))] rfl (ag [(4,.pc (I .i64 (dQ p:Nat)))] rfl (ag [] rfl ⟨j+1,N,by dsimp only;omega,?_⟩)))));dsimp only;rw[←ad];exact sl
  have ae:=geD hb J hj;subst ae;rw[An];refine aO (ag [] rfl ⟨i+1,aa,by dsimp only;omega,?_⟩);dsimp only;rw[show 1+o4 (L.take (i+1))=1+o4 (L.take i)+c6 G by rw[ac];omega];exact sl
 have ar:=geD hb Z hi;subst ar;rw[An];exact aO (sg rfl (aI rtT))
theorem aSj:∀(n:Nat) (c:Core),b7 c≤n→aNn c
 | 0,c,h=>by have:=c9 c;omega
 | n+1,c,h=>aC0 c fun x hx=>aSj n x (by omega)
def pQ (o:List Str) (s:Str):List Str:=if s∈o then o else o++[s]
def kM (o l:List Str):List Str:=l.foldl pQ o
theorem aKt (o:List Str) {l:List Str}{i:Nat}{s:Str}(h:l[i]?=some s):kM o (l.take (i+1))=pQ (kM o (l.take i)) s:=by
 unfold kM;rw[dY h,B4];rfl
theorem aE7 (o:List Str) (s:Str):(pQ o s).length≤o.length+1:=by unfold pQ;split<;>simp
theorem qP (o:List Str):∀l:List Str,(kM o l).length≤o.length+l.length:=by
 intro l
 induction l generalizing o with
 | nil=>exact le_refl _
 | cons s l q=>
  have h1:=q (pQ o s);have h2:=aE7 o s;show(kM (pQ o s) l).length≤_;rw[Ag];omega
def ouO (o:List Str):AObj:=.arr 9 1 (o.map bD) 1
def ouV (o:List Str):V:=.one (.hs 500 0 o.length o.length)
theorem vB (o l:List Str) (h:o.length+l.length≤600000000000):aU Tryz.prog 112 [ouV o,aY l] [(500,ouO o)] (ouV (kM o l)) [(500,ouO (kM o l))]:=by
 have N:(l.map bD).length=l.length:=θ _;refine bO (n:=23) tok Tryz.func112 rfl rfl rfl ?_;refine sg rfl (a8 (sg rfl (aC (aL (fun i:Nat=>mk [(0,ouV (kM o (l.take i))),(7,aY l),(8,I .i64 ((l.map bD).length:Int)),(9,I .i64 i)] [(500,ouO (kM o (l.take i)))]) (fun i=>i≤l.length) (fun i=>l.length-i) 0 (Aj _) sl ?_))));intro i hi;refine sg rfl (a8 (aA rfl (fun hb=>?_) (fun hb=>?_)))
 ·have J:=ltD hb N;obtain⟨s,hs⟩:=aJ J;have Y:=bM bD hs;have q:=aKt o hs;have O:=qP o (l.take i);rw[Au] at O;generalize kM o (l.take i)=x at q O ⊢;have Z:=bW x s (by omega);refine aD (a8 (aC (sgh [(0,.row i (bD s))] rfl (AWp.sub (Sub.freeze (id:=500) rfl) ?_))));refine sgh [(2,.pc (B (decide (s∈x))))] rfl (aA rfl (fun hb=>?_) (fun hb=>?_))
  ·have hin:¬s∈x:=by simpa using hb
   rw[pQ,φ hin] at q;refine ag [] rfl (ag [] rfl ⟨i+1,J,by dsimp only;omega,?_⟩);dsimp only;rw[q];exact sl (he:=⟨Go.AM.hs_ren (by simp) (by simp),rfl,rfl,rfl,trivial⟩) (hh:=⟨⟨_,rfl,by first | exact Go.AM.Ole.arrE (by simp;rfl) | exact Go.AM.Ole.arrS (by simp;rfl)⟩,trivial⟩)
  ·have hin:s∈x:=by simpa using hb
   rw[pQ,ξ hin] at q;refine aD (ag [] rfl ⟨i+1,J,by dsimp only;omega,?_⟩);dsimp only;rw[q];exact sl
 have W:=geD hb N hi;subst W;rw[An];exact aO (sg rfl (aI rtT))
def aH8 (p:Str×List C):List C:=[.pt (.str p.1::p.2)]
def suO (s:Str):AObj:=.var 9 [.c (.str s)]
theorem aVd (p:Str×List C) (s:Str):aU Tryz.prog 143 [.one (.c (.pt (.str p.1::p.2))),.one (.vp 9 0)] [(9,suO s)] (B (decide (p.1=s))) [(9,suO s)]:=by
 refine bO (n:=9) tok Tryz.func143 rfl rfl rfl ?_;exact sg rfl (sg rfl (aI rtT))
theorem aY5 (l:List (Str×List C)) (s:Str) (hl:l.length≤600000000000):aU Tryz.prog 147 [.one (.c (.sl 1 (l.map aH8))),.one (.clo 143 [.vp 9 0])] [(9,suO s)] (I .i64 (aRx (fun p=>decide (p.1=s)) l 0)) [(9,suO s)]:=by
 have J:(l.map aH8).length=l.length:=θ _;generalize W:(fun p:Str×List C=>decide (p.1=s))=P;refine bO (n:=19) tok Tryz.func147 rfl rfl rfl ?_;refine sg rfl (a8 (sg rfl (aC (aL (fun i:Nat=>mk [(0,.one (.c (.sl 1 (l.map aH8)))),(1,.one (.clo 143 [.vp 9 0])),(7,I .i64 ((l.map aH8).length:Int)),(8,I .i64 i)] [(9,suO s)]) (fun i=>i≤l.length∧aRx P l 0=aRx P (l.drop i) i) (fun i=>l.length-i) 0 ⟨Aj _,rfl⟩ sl ?_))));intro i ⟨hi,hid⟩;refine sg rfl (a8 (aA rfl (fun hb=>?_) (fun hb=>?_)))
 ·have q:=ltD hb J;obtain⟨p,hp⟩:=aJ q;have Y:=bM aH8 hp;have hc:aU Tryz.prog 143 ([.one (.c (.pt (.str p.1::p.2)))]++([.vp 9 0]:List R).map V.one) [(9,suO s)] (B (P p)) [(9,suO s)]:=by rw[←W];exact aVd p s
  have N:l.drop i=p::l.drop (i+1):=by rw[Bz q,(Ab.1 hp).2]
  rw[N,aRx] at hid;refine aD (a8 (aC (sg rfl (skh 5 [(3,.row i (aH8 p))] rfl (kv (args:=[.one (.c (.pt (.str p.1::p.2)))]) hc ?_)))));refine az (aA rfl (fun hb=>?_) (fun hb=>?_))
  ·have hb:P p=true:=hb;rw[ξ hb] at hid;rw[hid];exact sg rfl (aI rtT)
  ·have hb:P p=false:=hb;rw[φ (by rw[hb];exact Aw)] at hid;exact aD (ag [] rfl ⟨i+1,⟨q,hid⟩,by dsimp only;omega,sl⟩)
 have O:=geD hb J hi;subst O;rw[drop_length,aRx] at hid;rw[hid];exact aO (sg rfl (aI (rtT (v:=I .i64 (-1)) (hc:=.refl))))
theorem aY7 (l:List (Str×List C)) (s:Str) (hl:l.length≤600000000000):aU Tryz.prog 142 [.one (.c (.sl 1 (l.map aH8))),.one (.clo 143 [.vp 9 0])] [(9,suO s)] (B (decide (s∈l.map (·.1)))) [(9,suO s)]:=by
 have h:=aY5 l s hl;have q:decide (s∈l.map (·.1))=l.any fun p=>decide (p.1=s):=by
  rw[Bool.eq_iff_iff];simp only[decide_eq_true_eq,List.any_eq_true,Ad]
 rw[q,←aLm _ l 0];refine bO (n:=9) tok Tryz.func142 rfl rfl rfl ?_;refine sg rfl (sk 2 rfl (kc h ?_));exact kz 2 rfl (aI rtT)
set_option maxHeartbeats 4000000
def n8 (f:Int) (s:Str) (o:List Str) (x:Str):List Str:=if ¬f=7∨¬x=s then kM o [x] else o
def yB (f:Int) (s:Str) (o l:List Str):List Str:=l.foldl (n8 f s) o
mutual
def tyR:Core→List Str
 | .mk f _ s t ks bs al=>jR al (iR bs (jQ f s ks (kM [] (tfR t))))
def jQ (f:Int) (s:Str):List Core→List Str→List Str
 | [],o=>o
 | c::l,o=>jQ f s l (yB f s o (tyR c))
def iR:List Bind→List Str→List Str
 | [],o=>o
 | .mk _ t c::l,o=>iR l (kM (kM o (tfR t)) (tyR c))
def jR:List Alt→List Str→List Str
 | [],o=>o
 | .mk _ _ _ _ c::l,o=>jR l (kM o (tyR c))
def cT:Core→Nat
 | .mk _ _ _ t ks bs al=>fw t+a1j ks+a1k bs+a1l al
def a1j:List Core→Nat
 | []=>0
 | c::l=>cT c+a1j l
def a1k:List Bind→Nat
 | []=>0
 | .mk _ t c::l=>fw t+cT c+a1k l
def a1l:List Alt→Nat
 | []=>0
 | .mk _ _ _ _ c::l=>cT c+a1l l
end
theorem aIg (f:Int) (s:Str) (o:List Str) (x:Str):(n8 f s o x).length≤o.length+1:=by
 unfold n8;split
 ·exact qP o [x]
 ·omega
theorem aDx (f:Int) (s:Str):∀(l o:List Str),(yB f s o l).length≤o.length+l.length
 | [],o=>le_refl _
 | x::l,o=>by
  have h1:=aDx f s l (n8 f s o x);have h2:=aIg f s o x;show(yB f s (n8 f s o x) l).length≤_;rw[Ag];omega
theorem vU {f:Int}{s:Str}:∀{l:List Core}{o:List Str}{i:Nat}{c:Core},l[i]?=some c→jQ f s (l.take (i+1)) o=yB f s (jQ f s (l.take i) o) (tyR c)
 | d::l,o,0,c,h=>by simp at h;subst h;rw[Ax,Bp,Bp,jQ,jQ,jQ]
 | d::l,o,i+1,c,h=>by rw[Ax,Ax,jQ,jQ];exact vU (l:=l) (by simpa using h)
theorem vV:∀{l:List Bind}{o:List Str}{i:Nat}{b:Bind},l[i]?=some b→iR (l.take (i+1)) o=kM (kM (iR (l.take i) o) (tfR b.ty)) (tyR b.body)
 | .mk s t c::l,o,0,b,h=>by simp at h;subst h;rw[Ax,Bp,Bp,iR,iR,iR];rfl
 | .mk s t c::l,o,i+1,b,h=>by rw[Ax,Ax,iR,iR];exact vV (l:=l) (by simpa using h)
theorem vW:∀{l:List Alt}{o:List Str}{i:Nat}{a:Alt},l[i]?=some a→jR (l.take (i+1)) o=kM (jR (l.take i) o) (tyR a.body)
 | .mk f n s v c::l,o,0,a,h=>by simp at h;subst h;rw[Ax,Bp,Bp,jR,jR,jR];rfl
 | .mk f n s v c::l,o,i+1,a,h=>by rw[Ax,Ax,jR,jR];exact vW (l:=l) (by simpa using h)
theorem aIn {f:Int}{s:Str}{o l:List Str}{j:Nat}{x:Str}(h:l[j]?=some x):yB f s o (l.take (j+1))=n8 f s (yB f s o (l.take j)) x:=by
 unfold yB;rw[Bh,h,B4];rfl
theorem aT3 (o:List Str) (s:Str):o.length≤(pQ o s).length:=by
 unfold pQ;split
 ·exact le_refl _
 ·simp
theorem sA:∀(l o:List Str),o.length≤(kM o l).length
 | [],o=>le_refl _
 | x::l,o=>le_trans (aT3 o x) (sA l (pQ o x))
theorem aIq (f:Int) (s:Str):∀(l o:List Str),o.length≤(yB f s o l).length
 | [],o=>le_refl _
 | x::l,o=>by
  refine le_trans ?_ (aIq f s l (n8 f s o x));unfold n8;split
  ·exact sA [x] o
  ·exact le_refl _
theorem aQv (f:Int) (s:Str):∀(l:List Core) (o:List Str),o.length≤(jQ f s l o).length
 | [],o=>by rw[jQ];exact le_refl _
 | c::l,o=>by rw[jQ];exact le_trans (aIq f s _ o) (aQv f s l _)
theorem aIe:∀(l:List Bind) (o:List Str),o.length≤(iR l o).length
 | [],o=>by rw[iR];exact le_refl _
 | .mk s t c::l,o=>by rw[iR];exact le_trans (le_trans (sA _ o) (sA _ _)) (aIe l _)
theorem aDs:∀(l:List Alt) (o:List Str),o.length≤(jR l o).length
 | [],o=>by rw[jR];exact le_refl _
 | .mk f n s v c::l,o=>by rw[jR];exact le_trans (sA _ o) (aDs l _)
theorem aDp (f:Int) (s:Str):∀(l:List Core) (o:List Str) (i:Nat),(jQ f s (l.take i) o).length≤(jQ f s l o).length
 | [],o,i=>by rw[List.take_nil];exact le_refl _
 | c::l,o,0=>by rw[Bp,jQ];exact aQv f s _ o
 | c::l,o,i+1=>by rw[Ax,jQ,jQ];exact aDp f s l _ i
theorem aDq:∀(l:List Bind) (o:List Str) (i:Nat),(iR (l.take i) o).length≤(iR l o).length
 | [],o,i=>by rw[List.take_nil];exact le_refl _
 | .mk s t c::l,o,0=>by rw[Bp];rw[show iR [] o=o from by rw[iR]];exact aIe _ o
 | .mk s t c::l,o,i+1=>by rw[Ax,iR,iR];exact aDq l _ i
theorem aDr:∀(l:List Alt) (o:List Str) (i:Nat),(jR (l.take i) o).length≤(jR l o).length
 | [],o,i=>by rw[List.take_nil];exact le_refl _
 | .mk f n s v c::l,o,0=>by rw[Bp];rw[show jR [] o=o from by rw[jR]];exact aDs _ o
 | .mk f n s v c::l,o,i+1=>by rw[Ax,jR,jR];exact aDr l _ i
mutual
def tyM:Core→Nat
 | .mk f n s t ks bs al=>max (fw t) (max (tyR (.mk f n s t ks bs al)).length (max (aQw ks) (max (aIj bs) (aOa al))))
def aQw:List Core→Nat
 | []=>0
 | c::l=>max (tyM c) (aQw l)
def aIj:List Bind→Nat
 | []=>0
 | .mk _ t c::l=>max (fw t) (max (tyM c) (aIj l))
def aOa:List Alt→Nat
 | []=>0
 | .mk _ _ _ _ c::l=>max (tyM c) (aOa l)
end
theorem aWe {f n:Int}{s:Str}{t:Ty}{ks:List Core}{bs:List Bind}{al:List Alt}{K:Nat}(h:tyM (.mk f n s t ks bs al)≤K):fw t≤K∧(tyR (.mk f n s t ks bs al)).length≤K∧aQw ks≤K∧aIj bs≤K∧aOa al≤K:=by
 rw[tyM] at h;omega
theorem aIl (c:Core):(tyR c).length≤tyM c:=by cases c;rw[tyM];omega
theorem aDt:∀{l:List Core}{c:Core},c∈l→tyM c≤aQw l
 | d::l,c,h=>by
  rw[aQw];rcases Ao.1 h with rfl | h
  ·omega
  ·have:=aDt h;omega
theorem aDu:∀{l:List Bind}{b:Bind},b∈l→fw b.ty≤aIj l∧tyM b.body≤aIj l
 | .mk s t c::l,b,h=>by
  rw[aIj];rcases Ao.1 h with rfl | h
  ·show fw t≤_∧tyM c≤_;omega
  ·have:=aDu h;omega
theorem aDv:∀{l:List Alt}{a:Alt},a∈l→tyM a.body≤aOa l
 | .mk f n s v c::l,a,h=>by
  rw[aOa];rcases Ao.1 h with rfl | h
  ·show tyM c≤_;omega
  ·have:=aDv h;omega
def aDb (c:Core):Prop:=b7 c≤570000000000→tyM c≤400000000→aU Tryz.prog 74 [.pa (aB c)] [] (aY (tyR c)) []
theorem xZ (c:Core) (ih:∀x,b7 x<b7 c→aDb x):aDb c:=by
 intro hsz hcT;obtain⟨f,n,s,t,ks,bs,al⟩:=c;obtain⟨ihk,ihb,iha,hkl,hbl,hal⟩:= @eQ f n s t ks bs al;obtain⟨hMt,O,hMk,hMb,hMa⟩:=aWe hcT;rw[tyR] at O ⊢;have hkB:(aS bs).length=bs.length:=by rw[bI,θ]
 have hkK:(aM ks).length=ks.length:=by rw[aR,θ]
 have hkA:(bS al).length=al.length:=by rw[bQ,θ]
 have htf:=aF9 t (by omega);have htl:=aYf t;have hmo:aU Tryz.prog 112 [.one (.c .nl),aY (tfR t)] [] (ouV (kM [] (tfR t))) [(500,ouO (kM [] (tfR t)))]:=aU.nilArg (pre:=[]) (post:=[aY (tfR t)]) (hin:=[]) (vB [] (tfR t) (by simp;omega)) rfl;have hol:=qP [] (tfR t);simp only[length_nil] at hol;generalize kM [] (tfR t)=o0 at hmo hol O ⊢;refine bO (n:=76) tok Tryz.func74 rfl rfl rfl ?_;refine sg rfl (sk 2 rfl (kc htf ?_));refine kc hmo ?_;refine kz 1 rfl (a8 (sg rfl (aC (aL (fun i:Nat=>mk [(1,.one (.vp 1 0)),(3,ouV (jQ f s (ks.take i) o0)),(17,.one (.c (.sl 10 (aM ks)))),(18,I .i64 ((aM ks).length:Int)),(19,I .i64 i)] [(500,ouO (jQ f s (ks.take i) o0)),(1,.var 37 (bA (.mk f n s t ks bs al)))]) (fun i=>i≤ks.length) (fun i=>ks.length-i) 0 (Aj _) sl ?_))));intro i hi;have hl1:(jQ f s (ks.take i) o0).length≤400000000:=le_trans (aDp f s ks o0 i) (le_trans (aIe bs _) (le_trans (aDs al _) O));refine sg rfl (a8 (aA rfl (fun hb=>?_) (fun hb=>?_)))
 ·have N:=ltD hb hkK;obtain⟨k,hki⟩:=aJ N;have hki':=dG hki;have hm:=η hki;have hkm:=aDt hm;have hc:=ih k (ihk k hm) (by have:=ihk k hm;omega) (by omega);have hkt:(tyR k).length≤400000000:=by have:=aIl k;omega
  have J:=vU (f:=f) (s:=s) (o:=o0) hki;generalize jQ f s (ks.take i) o0=o at J hl1 ⊢;have hkf:((tyR k).map bD).length=(tyR k).length:=θ _;generalize tyR k=Z at hc hkt J hkf;refine aD (a8 (aC (sgh [(0,.row i (aB k))] rfl (sk 1 rfl (kc hc ?_)))));refine kz 2 rfl (aC (aL (fun j:Nat=>mk [(1,.one (.vp 1 0)),(3,ouV (yB f s o (Z.take j))),(17,.one (.c (.sl 10 (aM ks)))),(18,I .i64 ((aM ks).length:Int)),(19,I .i64 i),(24,aY Z),(25,I .i64 ((Z.map bD).length:Int)),(26,I .i64 j)] [(500,ouO (yB f s o (Z.take j))),(1,.var 37 (bA (.mk f n s t ks bs al)))]) (fun j=>j≤Z.length) (fun j=>Z.length-j) 0 (Aj _) sl ?_));intro j hj;refine sg rfl (a8 (aA rfl (fun hb=>?_) (fun hb=>?_)))
  ·have hlj:=ltD hb hkf;obtain⟨x,hx⟩:=aJ hlj;have hx':=bM bD hx;have aa:=aIn (f:=f) (s:=s) (o:=o) hx;have hpl:=aDx f s (Z.take j) o;rw[Au] at hpl;generalize yB f s o (Z.take j)=q at aa hpl ⊢;have hmq:=vB q [x] (by simp;omega);refine aD (a8 (aC (sgh [(0,.row j (bD x))] rfl (a8 (agF 4 [] rfl rfl rfl (aA rfl (fun hb=>?_) (fun hb=>?_)))))))
   ·have hb':¬f=7∨¬x=s:=by
     by_cases h7:f=7
     ·refine .inr fun hxs=>?_
      subst h7 hxs;have hb2:(bif !decide ((7:Int)=7) then true else !decide (x=x))=true:=hb;simp at hb2
     ·exact .inl h7
    rw[n8,ξ hb'] at aa;refine aE mixed (ak 3 [(2,.all)] rfl (kc hmq ?_));refine kz 1 rfl (ag [] rfl ⟨j+1,hlj,by dsimp only;omega,?_⟩);dsimp only;rw[aa];exact sl
   ·have hb':¬(¬f=7∨¬x=s):=by
     intro h;by_cases h7:f=7
     ·have hxs:=h.resolve_left (fun h=>h h7);subst h7;simp at hb;exact hxs hb.2
     ·simp at hb;exact h7 hb.1
    rw[n8,φ hb'] at aa;refine aD (ag [] rfl ⟨j+1,hlj,by dsimp only;omega,?_⟩);dsimp only;rw[aa];exact sl
  have W:=geD hb hkf hj;subst W;rw[An];refine aO (ag [] rfl ⟨i+1,N,by dsimp only;omega,?_⟩);dsimp only;rw[J];exact sl
 have W:=geD hb hkK hi;subst W;rw[An] at hl1 ⊢;generalize jQ f s ks o0=Y at hl1 O ⊢;refine aO (a8 (sg rfl (aC (aL (fun i:Nat=>mk [(1,.one (.vp 1 0)),(3,ouV (iR (bs.take i) Y)),(46,.one (.c (.sl 15 (aS bs)))),(47,I .i64 ((aS bs).length:Int)),(48,I .i64 i)] [(500,ouO (iR (bs.take i) Y)),(1,.var 37 (bA (.mk f n s t ks bs al)))]) (fun i=>i≤bs.length) (fun i=>bs.length-i) 0 (Aj _) sl ?_))));intro i hi;have hl3:(iR (bs.take i) Y).length≤400000000:=le_trans (aDq bs Y i) (le_trans (aDs al _) O);refine sg rfl (a8 (aA rfl (fun hb=>?_) (fun hb=>?_)))
 ·have N:=ltD hb hkB;obtain⟨b,hbi⟩:=aJ N;have hbi':=bT hbi;have hm:=η hbi;have hbm:=aDu hm;have hc:=ih b.body (ihb b hm) (by have:=ihb b hm;omega) (by omega);have J:=vV (o:=Y) hbi;obtain⟨s',t',c'⟩:=b;have hbm:fw t'≤aIj bs∧tyM c'≤aIj bs:=hbm;have hc:aU Tryz.prog 74 [.pa (aB c')] [] (aY (tyR c')) []:=hc;have J:iR (bs.take (i+1)) Y=kM (kM (iR (bs.take i) Y) (tfR t')) (tyR c'):=J;have hf':=aF9 t' (by omega);have g1:=aYf t';have g2:(tyR c').length≤400000000:=by have:=aIl c';omega
  generalize iR (bs.take i) Y=o at J hl3 ⊢;have g3:=qP o (tfR t');have m1:=vB o (tfR t') (by omega);have m2:=vB (kM o (tfR t')) (tyR c') (by omega);refine aD (a8 (aC (sgh [(0,.row i (bB (.mk s' t' c')))] rfl (aE mixed (ak 3 [] rfl (kc hf' ?_))))));refine kc m1 ?_;refine ak 2 [] rfl (kc hc ?_);refine kc m2 ?_;refine kz 1 rfl (ag [] rfl ⟨i+1,N,by dsimp only;omega,?_⟩);dsimp only;rw[J];exact sl
 have W:=geD hb hkB hi;subst W;rw[An] at hl3 ⊢;generalize iR bs Y=o2 at hl3 O ⊢;refine aO (a8 (sg rfl (aC (aL (fun i:Nat=>mk [(3,ouV (jR (al.take i) o2)),(63,.one (.c (.sl 14 (bS al)))),(64,I .i64 ((bS al).length:Int)),(65,I .i64 i)] [(500,ouO (jR (al.take i) o2))]) (fun i=>i≤al.length) (fun i=>al.length-i) 0 (Aj _) sl ?_))));intro i hi;have hl5:(jR (al.take i) o2).length≤400000000:=le_trans (aDr al o2 i) O;refine sg rfl (a8 (aA rfl (fun hb=>?_) (fun hb=>?_)))
 ·have N:=ltD hb hkA;obtain⟨a,hai⟩:=aJ N;have hai':=iU hai;have hm:=η hai;have ham:=aDv hm;have hc:=ih a.body (iha a hm) (by have:=iha a hm;omega) (by omega);have J:=vW (o:=o2) hai;obtain⟨f',n',s',v',c'⟩:=a;have ham:tyM c'≤aOa al:=ham;have hc:aU Tryz.prog 74 [.pa (aB c')] [] (aY (tyR c')) []:=hc;have J:jR (al.take (i+1)) o2=kM (jR (al.take i) o2) (tyR c'):=J;have g2:(tyR c').length≤400000000:=by have:=aIl c';omega
  generalize jR (al.take i) o2=o at J hl5 ⊢;have m2:=vB o (tyR c') (by omega);refine aD (a8 (aC (sgh [(0,.row i (c7 (.mk f' n' s' v' c')))] rfl (aE mixed (ak 3 [] rfl (kc hc ?_))))));refine kc m2 ?_;refine kz 1 rfl (ag [] rfl ⟨i+1,N,by dsimp only;omega,?_⟩);dsimp only;rw[J];exact sl
 have W:=geD hb hkA hi;subst W;rw[An] at hl5 ⊢;refine aO (AWp.sub (Sub.freeze (id:=500) rfl) ?_);exact sg rfl (aI (rtT (hc:=hs_all rfl rfl (by simp) rfl)))
theorem aAv:∀(n:Nat) (c:Core),b7 c≤n→aDb c
 | 0,c,h=>by have:=c9 c;omega
 | n+1,c,h=>xZ c fun x hx=>aAv n x (by omega)
mutual
noncomputable def gP:Ty→List (Str×Ty)→Ty
 | .mk f n s a,ps=>
  if f=2 then(match ps.find? (fun p=>decide (p.1=s)) with | some p=>p.2 | none=>.mk f n s a)
  else if f=4 then .mk 4 0 [] (fE a ps)
  else if f=5 then .mk 5 0 (unN s (a.headD zTy) ps) (fE a (unP s (a.headD zTy) ps))
  else .mk f n s a
noncomputable def fE:List Ty→List (Str×Ty)→List Ty
 | [],_=>[]
 | t::l,ps=>gP t ps::fE l ps
end
structure PsOk (ps:List (Str×Ty)):Prop where
 nd:(ps.map (·.1)).Nodup
 ok:∀p∈ps,wfS p.2=true∧fvm p.2≤700000
 len:ps.length≤700000+1
theorem aCv:∀{ps:List (Str×Ty)}{s:Str}{u:Ty},(ps.map (·.1)).Nodup→(s,u)∈ps→ps.find? (fun p=>decide (p.1=s))=some (s,u)
 | p::ps,s,u,hn,h=>by
  rw[Am,Br] at hn;rcases Ao.1 h with h | h
  ·subst h;rw[Ch (by simp)]
  ·have:¬p.1=s:=fun e=>hn.1 (Ad.2 ⟨_,h,e.symm⟩)
   rw[Ci (by simpa using this)];exact aCv hn.2 h
theorem lR {ps:List (Str×Ty)}{s:Str}(h:¬s∈ps.map (·.1)):ps.find? (fun p=>decide (p.1=s))=none:=by
 rw[List.find?_eq_none];intro p hp hb;exact h (Ad.2 ⟨p,hp,by simpa using hb⟩)
theorem fZ:∀(a b:List Str),a.Nodup→(∀x∈a,x∈b)→a.length≤b.length:=by
 intro a
 induction a with
 | nil=>intro b _ _;simp
 | cons x a q=>
  intro b hn hs;rw[Br] at hn;have h1:=q (b.erase x) hn.2 fun y hy=>(List.mem_erase_of_ne (by rintro rfl;exact hn.1 hy)).2 (hs y (κ _ hy))
  have hx:=hs x ζ;rw[List.length_erase_of_mem hx] at h1;have:=List.length_pos_of_mem hx;rw[Ag];omega
theorem aQu {nm:Str}{body:Ty}{ps:List (Str×Ty)}(h:(ps.map (·.1)).Nodup):((unF nm body ps).map (·.1)).Nodup:=List.Sublist.nodup ((List.filter_sublist (l:=ps)).map _) h
theorem gO {nm:Str}{body:Ty}{ps:List (Str×Ty)}{p:Str×Ty}:p∈unF nm body ps↔p∈ps∧¬p.1=nm∧p.1∈tfR body:=by
 unfold unF;rw[mem_filter,Ai];simp
theorem aBo {nm:Str}{body:Ty}{ps:List (Str×Ty)}(h:(ps.map (·.1)).Nodup):(unF nm body ps).length≤(tfR body).length:=by
 have:=fZ _ (tfR body) (aQu (nm:=nm) (body:=body) h) fun x hx=>by
  obtain⟨p,hp,rfl⟩:=Ad.1 hx;exact(gO.1 hp).2.2
 rwa [θ] at this
theorem nM:∀{l:List (Str×Ty)},(∀p∈l,fvm p.2≤700000)→(unC l).length≤l.length*700000
 | [],_=>by simp[unC]
 | p::l,h=>by
  have h1:=nM (l:=l) fun q I=>h q (κ _ I)
  have h2:=h p ζ;have h3:=iL p.2;unfold unC at h1 ⊢;rw[B9,ω,Ag,Nat.succ_mul];omega
theorem aL0 {n:Int}{z:Str}:fvm (.mk 2 n z [])=1:=by
 rw[fvm,tfR,ξ rfl,aLz];rfl
theorem aIc {n:Int}{z:Str}:wfS (.mk 2 n z [])=true:=by
 rw[wfS,φ (by decide),φ (by decide),aGu];rfl
theorem PsOk.un {ps:List (Str×Ty)}(h:PsOk ps) (nm:Str) (body:Ty) (hb:fvm body≤700000):PsOk (unP nm body ps):=by
 have h1:=aQu (nm:=nm) (body:=body) h.nd;have h2:=aBo (nm:=nm) (body:=body) h.nd;have h3:=iL body;have h4:∀p∈unF nm body ps,wfS p.2=true∧fvm p.2≤700000:=fun p hp=>h.ok p (gO.1 hp).1
 unfold unP;split
 ·refine⟨?_,fun p hp=>?_,by rw[ω];show _+1≤_;omega⟩
  ·rw[Ar,Co];refine⟨h1,by simp,fun x hx y hy=>?_⟩;have hy:y=nm:=by simpa using hy
   obtain⟨p,hp,rfl⟩:=Ad.1 hx;rw[hy];exact(gO.1 hp).2.1
  ·rcases χ.1 hp with hp | hp
   ·exact h4 p hp
   ·rw[Aa.1 hp];exact⟨aIc,by show fvm (.mk 2 0 _ [])≤_;rw[aL0];decide⟩
 ·exact⟨h1,h4,by omega⟩
theorem aSg (hI:cQ 540000000000):∀(k:Nat) (t:Ty),tn t≤k→wfS t=true→fvm t≤700000→∀ps,PsOk ps→wfS (gP t ps)=true∧aU Tryz.prog 78 [tyV t,aY (ps.map (·.1)),aN0 (ps.map (·.2))] [] (tyV (gP t ps)) []:=by
 intro k
 induction k with
 | zero=>intro t h;have:=kJ t;omega
 | succ k ih=>
 intro t h hw hf ps q;obtain⟨f,n,s,a⟩:=t;have J:=xV (tn (.mk f n s a)) (.mk f n s a) (le_refl _) hw;obtain⟨_,O,w4,w5,w0⟩:=nL hw;have W:∀u∈a,fvm u≤700000:=fun u hu=>le_trans (sM hu) hf
 rw[tn] at h;rw[gP];by_cases h2:f=2
 ·subst h2;rw[ξ rfl];have I:=aMq (ps.map (·.1)) s (by rw[θ];have:=q.len;omega);rcases pB s (ps.map (·.1)) 0 with⟨i,e1,Z⟩ | ⟨e1,Z⟩
  ·rw[Az] at Z;obtain⟨⟨s',u⟩,hu,e3⟩:=B0.1 Z;have e3:s'=s:=e3;subst e3;have hm:=η hu;have hu':((ps.map (·.2)).map b8)[i]?=some (b8 u):=bM b8 (by rw[Az,hu];rfl);obtain⟨g2,g3⟩:=q.ok _ hm;have ho:=xV (tn u) u (le_refl _) g2;rw[e1,Int.zero_add] at I;rw[aCv q.nd hm];refine⟨g2,?_⟩;dsimp only;refine bO (n:=48) tok Tryz.func78 rfl rfl rfl ?_;refine sg rfl (a8 (sg rfl (aC (sg rfl (aA rfl (fun _=>sk 3 rfl (kc I ?_)) nofun)))));refine kz 1 rfl (sg rfl (aA rfl (fun _=>skh 4 [(2,.row i (b8 u))] rfl (kc ho ?_)) (fun hb=>absurd (δ hb) (by omega))));exact kz 1 rfl (aI (rtC trw))
  ·rw[Z] at I;rw[lR e1];refine⟨hw,?_⟩;dsimp only;refine bO (n:=48) tok Tryz.func78 rfl rfl rfl ?_;refine sg rfl (a8 (sg rfl (aC (sg rfl (aA rfl (fun _=>sk 3 rfl (kc I ?_)) nofun)))));refine kz 1 rfl (sg rfl (aA rfl (fun hb=>absurd (ψ hb) (by omega)) (fun _=>aD (sk 1 rfl (kc J ?_)))));exact kz 1 rfl (aI (rtC trw))
 rw[φ h2];by_cases h4:f=4
 ·subst h4;obtain⟨rfl,rfl,u,v,rfl⟩:=w4 rfl;rw[tns,tns,tns] at h;obtain⟨a1,a4⟩:=ih u (by omega) (O u (by simp)) (W u (by simp)) ps q;obtain⟨b1,b4⟩:=ih v (by omega) (O v (by simp)) (W v (by simp)) ps q;rw[ξ rfl,fE,fE,fE];have cA:=aP6 (gP u ps) (gP v ps);generalize gP u ps=u' at *;generalize gP v ps=v' at *;have cA:aU Tryz.prog 116 [tyV u',tyV v'] [] (tyV (.mk 4 0 [] [u',v'])) []:=cA;refine⟨?_,?_⟩
  ·rw[wfS,ξ rfl,aGu,aGu,aGu,a1,b1];rfl
  ·refine bO (n:=48) tok Tryz.func78 rfl rfl rfl ?_;refine sg rfl (a8 (sg rfl (aC (sg rfl (aA rfl nofun (fun _=>sg rfl (aA rfl (fun _=>skh 6 [(2,.row 0 (b8 u))] rfl (kc a4 ?_)) nofun)))))));refine ak 6 [(9,.row 1 (b8 v))] rfl (kc b4 ?_);refine kc cA ?_;exact kz 1 rfl (aI (rtC trw))
 rw[φ h4];by_cases h5:f=5
 ·subst h5;obtain⟨rfl,body,rfl⟩:=w5 rfl;rw[tns,tns] at h;have hwb:=O body (by simp);have Y:=W body (by simp);have hP:=q.un s body Y;obtain⟨a1,a4⟩:=ih body (by omega) hwb Y (unP s body ps) hP;rw[ξ rfl];show wfS (.mk 5 0 (unN s body ps) (fE [body] (unP s body ps)))=true∧aU Tryz.prog _ _ _ (tyV (.mk 5 0 (unN s body ps) (fE [body] (unP s body ps)))) _;rw[fE,fE];have hall:=aU1 (unN s body ps) (gP body (unP s body ps)) (xV _ _ (le_refl _) a1);have hfl:=iL body;have hCl:∀l:List (Str×Ty),(∀p∈l,p∈ps)→l.length≤ps.length→(unC (unF s body l)).length≤540000000000:=fun l h1 h2=>by
   have h3:=nM (l:=unF s body l) fun p hp=>(q.ok p (h1 p (gO.1 hp).1)).2
   have h4:(unF s body l).length≤l.length:=length_filter_le _ _;have h5:=q.len;have h6:(unF s body l).length*700000≤(700000+1)*700000:=Ay _ (by omega);have h7:(700000+1)*700000≤540000000000:=by decide
   omega
  have hC1:=hCl ps (fun p hp=>hp) (le_refl _);have hU:(unC (unF s body ps)).length+(tfR body).length≤540000000000:=by
   have h3:=nM (l:=unF s body ps) fun p hp=>(q.ok p (gO.1 hp).1).2
   have h4:=aBo (nm:=s) (body:=body) q.nd;have h6:(unF s body ps).length*700000≤700000*700000:=Ay _ (by omega);have h7:700000*700000=490000000000:=by decide
   omega
  have cU:=aP5 s body (gP body (unP s body ps)) ps (by have:=q.len;omega) (oE _ body (le_refl _) hwb (le_trans Y (by decide))) (by omega) hall
   (fun p hp=>⟨oE _ p.2 (le_refl _) (q.ok p hp).1 (le_trans (q.ok p hp).2 (by decide)),le_trans (iL p.2) (le_trans (q.ok p hp).2 (by decide))⟩)
   ⟨hC1,fun i=>hCl (ps.take i) (fun p hp=>Bl hp) (by rw[Au];omega)⟩ (fun k hk=>hI k (by omega)) a4
  generalize gP body (unP s body ps)=b' at *;generalize unN s body ps=N at *;refine⟨?_,?_⟩
  ·rw[wfS,φ (by decide),ξ rfl,aGu,aGu,a1];rfl
  ·refine bO (n:=48) tok Tryz.func78 rfl rfl rfl ?_;refine sg rfl (a8 (sg rfl (aC (sg rfl (aA rfl nofun (fun _=>sg rfl (aA rfl nofun (fun _=>sg rfl (aA rfl (fun _=>sk 3 rfl (kc cU ?_)) nofun)))))))));exact kz 1 rfl (aI (rtC trw))
 rw[φ h5];refine⟨hw,?_⟩;refine bO (n:=48) tok Tryz.func78 rfl rfl rfl ?_;refine sg rfl (a8 (sg rfl (aC (sg rfl (aA rfl (fun hb=>absurd (ψ hb) h2) (fun _=>sg rfl (aA rfl (fun hb=>absurd (ψ hb) h4) (fun _=>sg rfl (aA rfl (fun hb=>absurd (ψ hb) h5) (fun _=>aD (sk 1 rfl (kc J ?_))))))))))));exact kz 1 rfl (aI (rtC trw))
theorem aN8 {nm:Str}{body:Ty}{ps:List (Str×Ty)}(h:∀p∈ps,p.1∈tfR body→p.1=nm):unN nm body ps=nm∧unP nm body ps=[]:=by
 have q:unF nm body ps=[]:=by
  unfold unF;rw[List.filter_eq_nil_iff];intro p hp hb;rw[Ai] at hb;have h1:¬p.1=nm:=by simpa using hb.1
  exact h1 (h p hp (ψ hb.2))
 have I:unC (unF nm body ps)=[]:=by rw[q];rfl
 exact⟨by unfold unN;rw[I,φ (by simp)],by unfold unP;rw[I,φ (by simp),q]⟩
theorem aBq:∀(k:Nat) (t:Ty),tn t≤k→wfS t=true→∀ps:List (Str×Ty),(∀p∈ps,¬p.1∈tfR t)→gP t ps=t:=by
 intro k
 induction k with
 | zero=>intro t h;have:=kJ t;omega
 | succ k J=>
 intro t h hw ps hp;obtain⟨f,n,s,a⟩:=t;obtain⟨_,I,O,W,w0⟩:=nL hw;rw[tn] at h;rw[gP];by_cases h2:f=2
 ·subst h2
  rw[ξ rfl,lR fun hs=>by
   obtain⟨p,q,e⟩:=Ad.1 hs
   exact hp p q (by rw[tfR,ξ rfl,e];simp)]
 rw[φ h2];by_cases h4:f=4
 ·subst h4;obtain⟨rfl,rfl,u,v,rfl⟩:=O rfl;rw[tns,tns,tns] at h;rw[ξ rfl,fE,fE,fE,J u (by omega) (I u (by simp)) ps fun p q hx=>hp p q (aTa hx),J v (by omega) (I v (by simp)) ps fun p q hx=>hp p q (aS9 hx)]
 rw[φ h4];by_cases h5:f=5
 ·subst h5;obtain⟨rfl,body,rfl⟩:=W rfl;rw[tns,tns] at h;obtain⟨Y,Z⟩:=aN8 (nm:=s) (body:=body) (ps:=ps) fun p q hx=>Classical.byContradiction fun N=>hp p q (aWi hx N)
  rw[ξ rfl];show Ty.mk 5 0 (unN s body ps) (fE [body] (unP s body ps))=_;rw[Y,Z,fE,fE,J body (by omega) (I body (by simp)) [] fun p q=>by cases q]
 rw[φ h5]
theorem aMh (q:cQ 540000000000) (t:Ty) (hw:wfS t=true) (hf:fvm t≤700000):aU Tryz.prog 48 [tyV t] [] (tyV t) []:=by
 have h4:=(aSg q (tn t) t (le_refl _) hw hf [] ⟨by simp,fun p hp=>(by cases hp),by simp⟩).2
 rw[aBq (tn t) t (le_refl _) hw [] fun p hp=>by cases hp] at h4;refine bO (n:=5) tok Tryz.func48 rfl rfl rfl ?_;refine sg rfl (sk 1 rfl (kc h4 ?_));exact kz 1 rfl (aI (rtC trw))
end Go.Proofs.YtockgoadliilhaaGreatDoor
