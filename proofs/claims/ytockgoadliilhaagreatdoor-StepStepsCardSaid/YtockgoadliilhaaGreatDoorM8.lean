/-
  Texts Lg2 to Ly1 in one.
-/
import Derived.Test.YtockgoadliilhaaGreatDoorM7
open List (all_append all_eq_true append_assoc append_nil cons_append drop_eq_getElem_cons drop_length drop_zero flatMap_cons flatten_cons foldl_append length_append length_cons length_drop length_filter_le length_map length_nil length_take map_append map_congr_left map_cons map_map map_nil mem_append mem_cons mem_cons_of_mem mem_cons_self mem_filter mem_map mem_of_mem_take mem_singleton nil_append nodup_append nodup_cons set_cons_succ take_add_one take_length take_succ_cons take_zero)
open Nat (add_assoc add_zero beq_refl eq_of_beq_eq_true le_add_left le_of_ble_eq_true le_refl le_trans min_eq_left mul_le_mul_right sub_self zero_add zero_le)
namespace Go.Proofs.YtockgoadliilhaaGreatDoor
open Go Go.AM
set_option maxRecDepth 20000
theorem aTu {G F:List (Nat×AObj)}{f:Nat→List R}(h:∀j,GF G F (R.refsL (f j))) (k:Nat):GF G F (cV (rgR f k)):=nP h k
theorem kL:∀(a b:List (List R)),cV (a++b)=cV a++cV b
 | [],_=>rfl
 | r::a,b=>by simp only[A3,cV,kL a b,Ay]
section
variable {f n:Int}{s:Str}{t:Ty}{ks:List Core}{bs:List Bind}{al:List Alt}
abbrev gfo (f n:Int) (s:Str) (t:Ty) (ks:List Core) (bs:List Bind) (al:List Alt) (l:List Nat):Prop:=GF (gHl f n s t ks bs al) (fam 0 al) l
theorem a6t (nk i:Nat):gfo f n s t ks bs al (cV (rgR (fun j=>[.ep 702 j 0 nk]) i)):=aTu (fun j x hx=>.inl (by
 have:x=702:=by simpa [R.refsL,R.refs] using hx
 subst this;simp[gHl,keys])) i
theorem aWf (b:Bool) (nb i:Nat):gfo f n s t ks bs al (cV (nR b nb i)):=by
 unfold nR;rw[kL];refine GF.app ?_ (aTu (fun j x hx=>.inl ?_) i)
 ·cases b
  ·exact fun x hx=>by simp[gNm,cV] at hx
  ·intro x hx;have:x=700:=by simpa [gNm,cV,R.refsL,R.refs] using hx
   subst this;exact .inl (by simp[gHl,keys])
 ·have:x=701:=by simpa [R.refsL,R.refs] using hx
  subst this;simp[gHl,keys]
theorem aR1 (nk nb i:Nat):gfo f n s t ks bs al (cV (pR nk nb i)):=by
 unfold pR;rw[kL];refine GF.app (a6t _ _) (aTu (fun j x hx=>.inl ?_) i);have:x=701:=by simpa [R.refsL,R.refs] using hx
 subst this;simp[gHl,keys]
theorem a4q {k:Nat}(hk:k<al.length) (nv i:Nat):gfo f n s t ks bs al (cV (vR k nv i)):=by
 unfold vR;refine aTu (fun j x hx=>.inr ?_) i;have:x=k+800:=by simpa [R.refsL,R.refs] using hx
 subst this;have:=aPp (k:=0) hk;rwa [Bc] at this
theorem a2x {k:Nat}(hk:k<al.length) (a:Alt):gfo f n s t ks bs al (R.refsL (nN al.length k a)):=by
 unfold nN;simp only[R.refsL,R.refs,dN,Ax];refine GF.app (a4q hk _ _) fun x hx=>.inl ?_
 have:x=703:=by simpa using hx
 subst this;simp[gHl,keys]
theorem aO8:∀{l:List Alt}{k:Nat},k+l.length≤al.length→gfo f n s t ks bs al (cV (aJg al.length k l))
 | [],_,_=>fun x hx=>by simp[aJg,cV] at hx
 | a::l,k,h=>by
  simp only[Ac] at h;exact GF.app (a2x (by omega) a) (aO8 (by omega))
theorem oV (b:Bool) (i:Nat):gfo f n s t ks bs al (cV (cO b ks.length bs.length al.length (al.take i))):=by
 unfold cO;refine GF.app ?_ (aO8 (by simp;omega));unfold rD;simp only[R.refsL,R.refs,dN,Ax];exact GF.app (aWf _ _ _) (aR1 _ _ _)
end
theorem kG {f n:Int}{s:Str}{t:Ty}{ks:List Core}{bs:List Bind}{al:List Alt}{l:List Nat}(h:gfo f n s t ks bs al l) {id:Nat}(h1:703<id) (h2:id<800):id∉l:=fun hx=>by
 rcases h id hx with h | h
 ·have:id=700∨id=701∨id=702∨id=703:=by simpa [gHl,keys] using h
  omega
 ·obtain⟨p,hp,e⟩:=Af.1 h;have:=gJ.far p hp;omega
theorem a23 {f n:Int}{s:Str}{t:Ty}{ks:List Core}{bs:List Bind}{al:List Alt}{id:Nat}(h1:703<id) (h2:id<800):id∉keys (gHl f n s t ks bs al++fam 0 al):=kG (fun x hx=>iQ.1 hx) h1 h2
theorem uO {f n:Int}{s:Str}{t:Ty}{ks:List Core}{bs:List Bind}{al:List Alt}{id m es:Nat}{l:List R}(h1:703<id) (h2:id<800):fzH id (.ra m es l) (gHl f n s t ks bs al)=gHl f n s t ks bs al:=by
 have hb:Nat.beq 703 id=false:=by
  cases hb:Nat.beq 703 id with
  | false=>rfl
  | true=>have:=Ab hb;omega
 have u:id∉cV (aZ 0 al):=kG (fun x hx=>.inr (dG x hx)) h1 h2 (f:=f) (n:=n) (s:=s) (t:=t) (ks:=ks) (bs:=bs);simp only[gHl,fzH,AObj.fz,eW,R.fzL,R.fz,hb,uN _ u,Be,B4]
theorem uW (b:Bool) (f n:Int) (s:Str) (t:Ty) (ks:List Core) (bs:List Bind) (al:List Alt) (hb5:decide (f=5)=b) (hk:ks.length≤600000000000) (hb:bs.length≤600000000000) (ha:al.length≤600000000000) (hv:∀a∈al,a.vars.length≤600000000000):
  aU Tryz.prog 79 [.one (.vp 700 0)] (gHl f n s t ks bs al++fam 0 al) (.one (.ras (cO b ks.length bs.length al.length al).length 2 (cO b ks.length bs.length al.length al).flatten)) (gHl f n s t ks bs al++fam 0 al):=by
 have hF:TF (fam 0 al):=gJ;have W:GW (gHl f n s t ks bs al) (fam 0 al):=gW;have hkB:(aQ bs).length=bs.length:=by rw[bH,θ]
 have hkK:(aO ks).length=ks.length:=by rw[aR,θ]
 refine vV hF (n:=123) tok Tryz.func79 rfl rfl rfl ?_;refine sg rfl (sg rfl (AWp.sub (Sub.ownCellR (x:=3) (k:=1) (id:=712) 118 1 rfl rfl rfl) (AWp.sub (Sub.ownCellR (x:=3) (k:=0) (id:=711) 158 1 rfl rfl rfl) ?_)));refine a8 (sg rfl (aC (aK (fun i:Nat=>mkt [(0,.one (.vp 700 0)),(3,.one (.vp 3 0)),(16,I .i64 ((ks.length:Nat):Int)),(17,I .i64 i)] ([(712,gPo (rgR (fun j=>[.ep 702 j 0 ks.length]) i)),(3,.var 126 [.ra 711 0 0 0,.ra 712 0 (rgR (fun j=>[.ep 702 j 0 ks.length]) i).length (rgR (fun j=>[.ep 702 j 0 ks.length]) i).length]),(711,gNo [])]++gHl f n s t ks bs al) (fam 0 al)) (fun i=>i≤ks.length) (fun i=>ks.length-i) 0 (Ag _) (slG W) ?_)));intro i hi;have hpl:=i6 (fun j=>[.ep 702 j 0 ks.length]) i;refine sg rfl (a8 (aA rfl (fun hb=>?_) (fun hb=>?_)))
 ·have u:i<ks.length:=by
   have:(i:Int)<(ks.length:Int):=ψ hb;omega
  have hst:=sH (fun j=>[.ep 702 j 0 ks.length]) i;have hr:gfo f n s t ks bs al (gPo (rgR (fun j=>[.ep 702 j 0 ks.length]) (i+1))).refs:=a6t _ _;refine aD (a8 (aC (sg rfl (ag [] rfl (ag [] rfl ⟨i+1,u,by dsimp only;omega,?_⟩)))));dsimp only;rw[hst] at hr ⊢;refine slG W (hh:=⟨⟨_,rfl,.rarrS rfl⟩,⟨_,rfl,.var ?_⟩,⟨_,rfl,.rarrS rfl⟩,⟨_,rfl,.var rfl⟩,⟨_,rfl,.arr⟩,⟨_,rfl,.arr⟩,⟨_,rfl,.rarrS rfl⟩,trivial⟩);rw[κ];rfl
 have J:i=ks.length:=by
  have:¬(i:Int)<(ks.length:Int):=χ hb;omega
 subst J;clear hi hb hpl;have e0:rgR (fun j=>[.ep 702 j 0 ks.length]) ks.length=pR ks.length bs.length 0:=by simp[pR,rgR]
 rw[e0];have hr12:gfo f n s t ks bs al (gPo (pR ks.length bs.length 0)).refs:=aR1 _ _ _;have hr11:gfo f n s t ks bs al (gNo (nR b bs.length 0)).refs:=aWf _ _ _;refine aL (a8 (AWp.cut (mkt [(0,.one (.vp 700 0)),(3,.one (.vp 3 0))] ([(712,gPo (pR ks.length bs.length 0)),(3,.var 126 [.ra 711 0 (nR b bs.length 0).length (nR b bs.length 0).length,.ra 712 0 (pR ks.length bs.length 0).length (pR ks.length bs.length 0).length]),(711,gNo (nR b bs.length 0))]++gHl f n s t ks bs al) (fam 0 al)) ?_ ?_))
 ·refine sg rfl (aA rfl (fun hb=>?_) (fun hb=>?_))
  ·have hb:decide (f=5)=true:=hb;rw[hb] at hb5;subst hb5;exact ag [] rfl (slG W)
  ·have hb:decide (f=5)=false:=hb;rw[hb] at hb5;subst hb5;exact aD (slG W)
 clear hr11 hr12 e0;refine a8 (sg rfl (aC (aK (fun i:Nat=>mkt [(0,.one (.vp 700 0)),(3,.one (.vp 3 0)),(49,I .i64 ((bs.length:Nat):Int)),(50,I .i64 i)] ([(712,gPo (pR ks.length bs.length i)),(3,.var 126 [.ra 711 0 (nR b bs.length i).length (nR b bs.length i).length,.ra 712 0 (pR ks.length bs.length i).length (pR ks.length bs.length i).length]),(711,gNo (nR b bs.length i))]++gHl f n s t ks bs al) (fam 0 al)) (fun i=>i≤bs.length) (fun i=>bs.length-i) 0 (Ag _) (slG W (h2:=⟨Kn.gf (aR1 _ _ _),Kn.of rfl,Kn.gf (aWf _ _ _),trivial⟩)) ?_)));intro i hi;have hpl:(pR ks.length bs.length i).length=ks.length+i:=by unfold pR;rw[κ,i6,i6]
 have hnl:(nR b bs.length i).length≤1+i:=by unfold nR;rw[κ,i6];cases b<;>simp[gNm]
 refine sg rfl (a8 (aA rfl (fun hb=>?_) (fun hb=>?_)))
 ·have u:i<bs.length:=by
   have:(i:Int)<(bs.length:Int):=ψ hb;omega
  have hst1:pR ks.length bs.length (i+1)=pR ks.length bs.length i++[[.ep 701 i 5 bs.length]]:=by unfold pR;rw[sH,Ay]
  have hst2:nR b bs.length (i+1)=nR b bs.length i++[[.ep 701 i 0 bs.length]]:=by unfold nR;rw[sH,Ay]
  have hr12:gfo f n s t ks bs al (gPo (pR ks.length bs.length (i+1))).refs:=aR1 _ _ _;have hr11:gfo f n s t ks bs al (gNo (nR b bs.length (i+1))).refs:=aWf _ _ _;refine aD (a8 (aC (sg rfl (sg rfl (ag [] rfl (ag [] rfl ⟨i+1,u,by dsimp only;omega,?_⟩))))));dsimp only;rw[hst1,hst2] at *;refine slG W (hh:=⟨⟨_,rfl,.rarrS rfl⟩,⟨_,rfl,.var ?_⟩,⟨_,rfl,.rarrS rfl⟩,⟨_,rfl,.var rfl⟩,⟨_,rfl,.arr⟩,⟨_,rfl,.arr⟩,⟨_,rfl,.rarrS rfl⟩,trivial⟩);rw[κ,κ];rfl
 have J:i=bs.length:=by
  have:¬(i:Int)<(bs.length:Int):=χ hb;omega
 subst J;clear hi hb;refine aL ?_;have hn1:711∉cV (nR b bs.length bs.length):=kG (aWf (f:=f) (n:=n) (s:=s) (t:=t) (ks:=ks) (bs:=bs) (al:=al) b bs.length bs.length) (by omega) (by omega);have hn2:712∉cV (nR b bs.length bs.length):=kG (aWf (f:=f) (n:=n) (s:=s) (t:=t) (ks:=ks) (bs:=bs) (al:=al) b bs.length bs.length) (by omega) (by omega);have Y:711∉cV (pR ks.length bs.length bs.length):=kG (aR1 (f:=f) (n:=n) (s:=s) (t:=t) (ks:=ks) (bs:=bs) (al:=al) ks.length bs.length bs.length) (by omega) (by omega);have Z:712∉cV (pR ks.length bs.length bs.length):=kG (aR1 (f:=f) (n:=n) (s:=s) (t:=t) (ks:=ks) (bs:=bs) (al:=al) ks.length bs.length bs.length) (by omega) (by omega);refine AWp.sub (st2:=mkt [(0,.one (.vp 700 0)),(3,.one (.vp 3 0))] ((712,gPo (pR ks.length bs.length bs.length))::([(3,.var 126 [.ra 711 0 (nR b bs.length bs.length).length (nR b bs.length bs.length).length,.ra 712 0 (pR ks.length bs.length bs.length).length (pR ks.length bs.length bs.length).length]),(711,gNo (nR b bs.length bs.length))]++gHl f n s t ks bs al)) (fam 0 al)) (slG (ex:=(712,_)::[_,_]) W (h2:=⟨Kn.gf (aR1 _ _ _),Kn.of rfl,Kn.gf (aWf _ _ _),trivial⟩)) ?_;refine AWp.sub (Sub.fraT hF (a23 (by omega) (by omega)) Z) ?_;have O:fzH 712 (.ra (pR ks.length bs.length bs.length).length 1 (pR ks.length bs.length bs.length).flatten) ([(3,.var 126 [.ra 711 0 (nR b bs.length bs.length).length (nR b bs.length bs.length).length,.ra 712 0 (pR ks.length bs.length bs.length).length (pR ks.length bs.length bs.length).length]),(711,gNo (nR b bs.length bs.length))]++gHl f n s t ks bs al)
   =[(3,.var 126 [.ra 711 0 (nR b bs.length bs.length).length (nR b bs.length bs.length).length,.ras (pR ks.length bs.length bs.length).length 1 (pR ks.length bs.length bs.length).flatten]),(711,gNo (nR b bs.length bs.length))]++gHl f n s t ks bs al:=by
  show(3,_)::(711,AObj.rarr _ _ (fzR _ _ _))::fzH _ _ (gHl f n s t ks bs al)=_;rw[uO (by omega) (by omega),uN _ hn2];simp only[AObj.fz,R.fzL,aTw rfl];rfl
 rw[O];refine AWp.sub (st2:=mkt [(0,.one (.vp 700 0)),(3,.one (.vp 3 0))] ((711,gNo (nR b bs.length bs.length))::([(3,.var 126 [.ra 711 0 (nR b bs.length bs.length).length (nR b bs.length bs.length).length,.ras (pR ks.length bs.length bs.length).length 1 (pR ks.length bs.length bs.length).flatten])]++gHl f n s t ks bs al)) (fam 0 al)) (slG (ex:=(711,_)::[_]) W (h2:=⟨Kn.gf (aWf _ _ _),Kn.app (Kn.of rfl) (Kn.app (by simp only[R.refs,dN];exact Kn.gf (aR1 _ _ _)) Kn.nil),trivial⟩)) ?_;refine AWp.sub (Sub.fraT hF (a23 (by omega) (by omega)) hn1) ?_;have e2:fzH 711 (.ra (nR b bs.length bs.length).length 1 (nR b bs.length bs.length).flatten) ([(3,.var 126 [.ra 711 0 (nR b bs.length bs.length).length (nR b bs.length bs.length).length,.ras (pR ks.length bs.length bs.length).length 1 (pR ks.length bs.length bs.length).flatten])]++gHl f n s t ks bs al)
   =[(3,.var 126 (rD b ks.length bs.length))]++gHl f n s t ks bs al:=by
  show(3,_)::fzH _ _ (gHl f n s t ks bs al)=_;rw[uO (by omega) (by omega)];simp only[AObj.fz,R.fzL,aTw rfl,R.fz_far (.ras (pR ks.length bs.length bs.length).length 1 (pR ks.length bs.length bs.length).flatten) (show 711∉R.refsL (pR ks.length bs.length bs.length).flatten by rw[dN];exact Y)];rfl
 rw[e2];clear O e2 hn1 hn2 Y Z hpl hnl;have hgf:gfo f n s t ks bs al (cV (cO b ks.length bs.length al.length (al.take 0))):=oV b 0;have hal:al.length=(aZ 0 al).length:=eU.symm;refine sgh [(1,.id 713)] rfl (a8 (sg rfl (aC (aK (fun i:Nat=>mkt [(0,.one (.vp 700 0)),(7,.one (.ra 713 0 (cO b ks.length bs.length al.length (al.take i)).length (cO b ks.length bs.length al.length (al.take i)).length)),(82,I .i64 ((al.length:Nat):Int)),(83,I .i64 i)] ([(713,.rarr 126 2 (cO b ks.length bs.length al.length (al.take i)))]++gHl f n s t ks bs al) (fam 0 al)) (fun i=>i≤al.length) (fun i=>al.length-i) 0 (Ag _) (slG W) ?_))));intro i hi;have hgl:(cO b ks.length bs.length al.length (al.take i)).length=1+i:=by unfold cO;rw[Ac,aAn,Ar];omega
 refine sg rfl (a8 (aA rfl (fun hb=>?_) (fun hb=>?_)))
 ·have u:i<al.length:=by
   have:(i:Int)<(al.length:Int):=ψ hb;omega
  obtain⟨a,hai⟩:=aJ u;have hrow:(aZ 0 al)[i]?=some (dV i a):=by rw[o8 hai,Bc]
  have hvl:=hv a (η hai);have hobj:(i+800,AObj.arr 9 1 (a.vars.map b6) 0)∈fam 0 al:=by have:=aCl (k:=0) hai;rwa [Bc] at this
  have hvk:a.vars.length=(a.vars.map b6).length:=(θ _).symm;have hnx:cO b ks.length bs.length al.length (al.take (i+1))=cO b ks.length bs.length al.length (al.take i)++[nN al.length i a]:=by
   unfold cO;rw[aDj hai,Bc];rfl
  have N:gfo f n s t ks bs al (cV (cO b ks.length bs.length al.length (al.take i))):=oV b i;have hg1:gfo f n s t ks bs al (cV (cO b ks.length bs.length al.length (al.take (i+1)))):=oV b (i+1);generalize cO b ks.length bs.length al.length (al.take i)=G at hgl hnx N ⊢;refine aD (a8 (aC (sg rfl (sg rfl (sgh [(3,.id 722)] rfl ?_)))));have Z:722∉cV [[R.rp 703 i 4 al.length]]:=by simp[cV,R.refsL,R.refs]
  refine AWp.sub (st2:=mkt [(0,.one (.vp 700 0)),(7,.one (.ra 713 0 G.length G.length)),(9,.one (.rp 703 i 0 al.length)),(10,.one (.vp 10 0)),(82,I .i64 ((al.length:Nat):Int)),(83,I .i64 i)] ((722,gPo [[.rp 703 i 4 al.length]])::([(10,.var 126 [.c .nl,.ra 722 0 1 1]),(713,.rarr 126 2 G)]++gHl f n s t ks bs al)) (fam 0 al)) (slG (ex:=(722,_)::[_,_]) W) ?_;refine AWp.sub (Sub.fraT hF (a23 (by omega) (by omega)) Z) ?_;have O:fzH 722 (.ra 1 1 [R.rp 703 i 4 al.length]) ([(10,.var 126 [.c .nl,.ra 722 0 1 1]),(713,.rarr 126 2 G)]++gHl f n s t ks bs al)
    =[(10,.var 126 [.c .nl,.ras 1 1 [.rp 703 i 4 al.length]]),(713,.rarr 126 2 G)]++gHl f n s t ks bs al:=by
   show(10,_)::(713,AObj.rarr _ _ (fzR _ _ _))::fzH _ _ (gHl f n s t ks bs al)=_;rw[uO (by omega) (by omega),uN _ (kG N (by omega) (by omega))];rfl
  have e1':fzH 722 (.ra ([[R.rp 703 i 4 al.length]]:List (List R)).length 1 ([[R.rp 703 i 4 al.length]]:List (List R)).flatten)=fzH 722 (.ra 1 1 [R.rp 703 i 4 al.length]):=rfl;rw[e1',O];clear O e1' Z;refine AWp.sub (Sub.ownCellR (x:=10) (k:=0) (id:=721) 158 1 rfl rfl rfl) ?_;refine AWp.sub (st2:=mkt [(0,.one (.vp 700 0)),(7,.one (.ra 713 0 G.length G.length)),(9,.one (.rp 703 i 0 al.length)),(10,.one (.vp 10 0)),(82,I .i64 ((al.length:Nat):Int)),(83,I .i64 i)] ([(10,.var 126 [.ra 721 0 0 0,.ras 1 1 [.rp 703 i 4 al.length]]),(713,.rarr 126 2 G),(721,gNo [])]++gHl f n s t ks bs al) (fam 0 al)) (slG W) ?_;have hlook:∀(ex:List (Nat×AObj)),(ex.all fun p=>Nat.blt p.1 800)=true→(mkt [] (ex++gHl f n s t ks bs al) (fam 0 al)).h (i+800)=some (AObj.arr 9 1 (a.vars.map b6) 0):=fun ex hex=>
   (show FarEq _ _ from FarEq.mkt hF (by rw[all_append,hex];rfl)) _ hobj
  refine a8 (skh 4 [(3,.rr (dV i a))] rfl (a67 tok (hlook _ rfl) rfl hvk ?_ trw));refine kz 1 rfl (aC (aK (fun j:Nat=>mkt [(0,.one (.vp 700 0)),(7,.one (.ra 713 0 G.length G.length)),(9,.one (.rp 703 i 0 al.length)),(10,.one (.vp 10 0)),(82,I .i64 ((al.length:Nat):Int)),(83,I .i64 i),(101,I .i64 ((a.vars.length:Nat):Int)),(102,I .i64 j)] ([(721,gNo (vR i a.vars.length j)),(10,.var 126 [.ra 721 0 (vR i a.vars.length j).length (vR i a.vars.length j).length,.ras 1 1 [.rp 703 i 4 al.length]]),(713,.rarr 126 2 G)]++gHl f n s t ks bs al) (fam 0 al)) (fun j=>j≤a.vars.length) (fun j=>a.vars.length-j) 0 (Ag _) (slG W) ?_));intro j hj;have hvj:(vR i a.vars.length j).length=j:=i6 _ _;refine sg rfl (a8 (aA rfl (fun hb=>?_) (fun hb=>?_)))
  ·have hlt2:j<a.vars.length:=by
    have:(j:Int)<(a.vars.length:Int):=ψ hb;omega
   have hst:vR i a.vars.length (j+1)=vR i a.vars.length j++[[.ep (i+800) j 0 a.vars.length]]:=sH _ _;have hr:gfo f n s t ks bs al (gNo (vR i a.vars.length (j+1))).refs:=a4q u _ _;refine aD (a8 (aC (sg rfl (aI mixed (ak 7 [(5,.rr (dV i a))] rfl (kix tok (j:=j) (hlook _ rfl) rfl hvk hlt2 ?_ trw))))));refine kz 4 rfl (ag [] rfl ⟨j+1,hlt2,by dsimp only;omega,?_⟩);dsimp only;rw[hst] at hr ⊢;refine slG W (hh:=⟨⟨_,rfl,.rarrS rfl⟩,⟨_,rfl,.varS ?_⟩,⟨_,rfl,.rarrS rfl⟩,⟨_,rfl,.var rfl⟩,⟨_,rfl,.arr⟩,⟨_,rfl,.arr⟩,⟨_,rfl,.rarrS rfl⟩,trivial⟩);rw[κ]
  have J:j=a.vars.length:=by
   have:¬(j:Int)<(a.vars.length:Int):=χ hb;omega
  subst J;clear hb hj;refine aL ?_;have Y:721∉cV (vR i a.vars.length a.vars.length):=kG (a4q (f:=f) (n:=n) (s:=s) (t:=t) (ks:=ks) (bs:=bs) u a.vars.length a.vars.length) (by omega) (by omega);have hrv:gfo f n s t ks bs al (gNo (vR i a.vars.length a.vars.length)).refs:=a4q u _ _;refine AWp.sub (st2:=mkt [(0,.one (.vp 700 0)),(7,.one (.ra 713 0 G.length G.length)),(10,.one (.vp 10 0)),(82,I .i64 ((al.length:Nat):Int)),(83,I .i64 i)] ((721,gNo (vR i a.vars.length a.vars.length))::([(10,.var 126 [.ra 721 0 (vR i a.vars.length a.vars.length).length (vR i a.vars.length a.vars.length).length,.ras 1 1 [.rp 703 i 4 al.length]]),(713,.rarr 126 2 G)]++gHl f n s t ks bs al)) (fam 0 al)) (slG (ex:=(721,_)::[_,_]) W) ?_;refine AWp.sub (Sub.fraT hF (a23 (by omega) (by omega)) Y) ?_;have O:fzH 721 (.ra (vR i a.vars.length a.vars.length).length 1 (vR i a.vars.length a.vars.length).flatten) ([(10,.var 126 [.ra 721 0 (vR i a.vars.length a.vars.length).length (vR i a.vars.length a.vars.length).length,.ras 1 1 [.rp 703 i 4 al.length]]),(713,.rarr 126 2 G)]++gHl f n s t ks bs al)
    =[(10,.var 126 (nN al.length i a)),(713,.rarr 126 2 G)]++gHl f n s t ks bs al:=by
   show(10,_)::(713,AObj.rarr _ _ (fzR _ _ _))::fzH _ _ (gHl f n s t ks bs al)=_;rw[uO (by omega) (by omega),uN _ (kG N (by omega) (by omega))];simp only[AObj.fz,R.fzL,aTw rfl,R.fz_far (.ras 1 1 [.rp 703 i 4 al.length]) (show 721∉R.refs (.ras 1 1 [.rp 703 i 4 al.length]) by simp[R.refs,R.refsL])];rfl
  rw[O];clear O Y;have hra:gfo f n s t ks bs al (R.refsL (nN al.length i a)):=a2x u a;have halr:∃x y,nN al.length i a=[x,y]:=⟨_,_,rfl⟩
  refine ag [] rfl (ag [] rfl ⟨i+1,u,by dsimp only;omega,?_⟩);dsimp only;rw[hnx] at hg1 ⊢;have hg1:gfo f n s t ks bs al (AObj.rarr 126 2 (G++[nN al.length i a])).refs:=hg1;refine slG W (he:=⟨rfl,by rw[κ];rfl,rfl,rfl,trivial⟩)
 have J:i=al.length:=by
  have:¬(i:Int)<(al.length:Int):=χ hb;omega
 subst J;have N:gfo f n s t ks bs al (cV (cO b ks.length bs.length al.length (al.take al.length))):=oV b _;rw[Al] at *;generalize cO b ks.length bs.length al.length al=G at *;refine aL (AWp.sub (st2:=mkt [(7,.one (.ra 713 0 G.length G.length))] ((713,.rarr 126 2 G)::([]++gHl f n s t ks bs al)) (fam 0 al)) (slG (ex:=[(713,_)]) W (h2:=⟨Kn.gf N,trivial⟩)) ?_);refine AWp.sub (Sub.fraT hF (a23 (by omega) (by omega)) (kG N (by omega) (by omega))) ?_;have O:fzH 713 (.ra G.length 2 G.flatten) ([]++gHl f n s t ks bs al)=gHl f n s t ks bs al:=uO (by omega) (by omega);have e2:fzE 713 (.ra G.length 2 G.flatten) [(7,.one (.ra 713 0 G.length G.length))]=[(7,.one (.ras G.length 2 G.flatten))]:=by
  simp only[fzE,V.fz,aTw rfl]
 rw[O,e2];exact sg rfl (aE (rtG W (h1:=Kn.gf (by show GF _ _ (R.refsL G.flatten);rw[dN];exact N))))
end Go.Proofs.YtockgoadliilhaaGreatDoor
namespace Go.AM
open Go
def AObj.frz:AObj→AObj
 | .arr te es l _=>.arr te es l 2
 | o=>o
def zP (F:List (Nat×AObj)):List (Nat×AObj):=F.map fun p=>(p.1,p.2.frz)
theorem aPi {F:List (Nat×AObj)}:(zP F).map (·.1)=F.map (·.1):=by unfold zP;rw[A8];rfl
theorem TF.frz {F:List (Nat×AObj)}(h:TF F):TF (zP F):=⟨fun p hp=>by
 obtain⟨q,u,rfl⟩:=Af.1 hp;exact h.far q u,by rw[aPi];exact h.nodup,fun p hp=>by
 obtain⟨q,u,rfl⟩:=Af.1 hp;obtain⟨te,es,l,z,e⟩:=h.arr q u
 exact⟨te,es,l,2,by show q.2.frz=_;rw[e];rfl⟩⟩
theorem zJ {α:Type}{p:Nat×α}{x:α}:∀{a b:List (Nat×α)}{i:Nat},p.1∉a.map (·.1)→look (a++(p.1,x)::b) i=if i=p.1 then some x else look (a++p::b) i
 | [],b,i,_=>by
  obtain⟨k,y⟩:=p;simp only[A0,look];by_cases h:i=k
  ·subst h;simp
  ·have:Nat.beq i k=false:=by
    cases hb:Nat.beq i k with
    | false=>rfl
    | true=>exact absurd (Ab hb) h
   simp[this,h]
 | (k,y)::a,b,i,h=>by
  simp only[Am,Ap,not_or] at h;simp only[A3,look];cases hb:Nat.beq i k with
  | true=>
   have:=Ab hb;subst this;simp[Ne.symm h.1]
  | false=>simpa using zJ h.2
theorem Sub.fzMid {kf:List Nat}{el:List (Nat×V)}{hl:List (Nat×AObj)}(hn:(hl.all fun p=>Nat.blt p.1 800)=true):∀{F2 F1:List (Nat×AObj)},TF (F1++F2)→Sub kf (mkt el hl (F1++zP F2)) (mkt el hl (F1++F2))
 | [],F1,_=>by
  have:zP []=[]:=rfl;rw[this];exact Sub.refl _ _
 | p::F2,F1,I=>by
  obtain⟨te,es,l,z,hp⟩:=I.arr p (by simp);have J:=I.far p (by simp);have N:=I.nodup;have Y:p.1∉F1.map (·.1):=fun hm=>by
   rw[At,Ct] at N;exact N.2.2 p.1 hm p.1 (by simp) rfl
  have O:(mkt el hl (F1++p::F2)).h p.1=some (.arr te es l z):=by
   have:=FarEq.mkt (el:=el) I hn p (by simp);rw[this,hp]
  have h1:=Sub.freeze (kf:=kf) O;have e:(⟨(mkt el hl (F1++p::F2)).e,upd (mkt el hl (F1++p::F2)).h p.1 (some (.arr te es l 2)),(mkt el hl (F1++p::F2)).d⟩:St)=mkt el hl (F1++(p.1,.arr te es l 2)::F2):=by
   unfold mkt;congr 1;funext i;by_cases hi:i=p.1
   ·subst hi;rw[aM,zA hn J];simp only[aC5 J,Bs];rw[zJ Y,ξ rfl]
   ·rw[bJ _ _ _ hi];show(match look hl i with | some x=>some x | none=>bif Nat.blt i 800 then none else look (F1++p::F2) i)=_;have hm:=zJ (p:=p) (x:=AObj.arr te es l 2) (a:=F1) (b:=F2) (i:=i) Y;rw[φ hi] at hm
    (first | (rw[hm];done) | (rw[hm];rfl))
  rw[e] at h1;have Z:TF ((F1++[(p.1,AObj.arr te es l 2)])++F2):=by
   refine⟨fun q u=>?_,?_,fun q u=>?_⟩
   ·rw[Ay] at u;rcases τ.1 u with u | u
    ·exact I.far q (by simp[u])
    ·rcases Ap.1 u with rfl | u
     ·exact J
     ·exact I.far q (by simp[show q∈F2 from u])
   ·rw[Ay];have:((F1++([(p.1,AObj.arr te es l 2)]++F2)).map (·.1))=(F1++p::F2).map (·.1):=by simp
    rw[this];exact N
   ·rw[Ay] at u;rcases τ.1 u with u | u
    ·exact I.arr q (by simp[u])
    ·rcases Ap.1 u with rfl | u
     ·exact⟨_,_,_,_,rfl⟩
     ·exact I.arr q (by simp[show q∈F2 from u])
  have h2:=Sub.fzMid (kf:=kf) (el:=el) hn (F2:=F2) (F1:=F1++[(p.1,AObj.arr te es l 2)]) Z;simp only[Ay,List.singleton_append] at h2;have e2:zP (p::F2)=(p.1,.arr te es l 2)::zP F2:=by
   show(p.1,p.2.frz)::zP F2=_;rw[hp];rfl
  rw[e2];exact fun G n S μ a w hg hs=>by
   obtain⟨S',μ',hs'⟩:=h1 G n S μ a w hg hs;exact h2 G n S' μ' a w hg hs'
theorem Sub.fzAll {kf:List Nat}{el:List (Nat×V)}{hl F:List (Nat×AObj)}(u:TF F) (hn:(hl.all fun p=>Nat.blt p.1 800)=true:=by rfl):Sub kf (mkt el hl (zP F)) (mkt el hl F):=Sub.fzMid hn (F1:=[]) u
theorem Sub.outsT {kf:List Nat}{e:Nat→Option V}{h:dC}{d:List Nat}{hl F:List (Nat×AObj)}(u:TF F):Sub kf ⟨e,fun i=>bif Nat.blt i 800 then updL h (outs hl) i else updL h (outs (hl++F)) i,d⟩ ⟨e,updL h (outs (hl++F)),d⟩:=by
 rw[←sX u];exact Sub.refl _ _
end Go.AM
namespace Go.Proofs.YtockgoadliilhaaGreatDoor
open Go Go.AM
set_option maxRecDepth 20000
mutual
def allT (p:Ty→Prop):Core→Prop
 | .mk _ _ _ t ks bs al=>p t∧aDl p ks∧aAo p bs∧aAp p al
def aDl (p:Ty→Prop):List Core→Prop
 | []=>True
 | c::l=>allT p c∧aDl p l
def aAo (p:Ty→Prop):List Bind→Prop
 | []=>True
 | .mk _ t c::l=>p t∧allT p c∧aAo p l
def aAp (p:Ty→Prop):List Alt→Prop
 | []=>True
 | .mk _ _ _ _ c::l=>allT p c∧aAp p l
end
theorem aDk {p:Ty→Prop}:∀{l:List Core},aDl p l→∀x∈l,allT p x
 | c::l,h,x,hx=>by
  rw[aDl] at h;rcases Ap.1 hx with rfl | hx
  ·exact h.1
  ·exact aDk h.2 x hx
theorem vJ {p:Ty→Prop}:∀{l:List Bind},aAo p l→∀x∈l,p x.ty∧allT p x.body
 | .mk _ _ _::l,h,x,hx=>by
  rw[aAo] at h;rcases Ap.1 hx with rfl | hx
  ·exact⟨h.1,h.2.1⟩
  ·exact vJ h.2.2 x hx
theorem aDm {p:Ty→Prop}:∀{l:List Alt},aAp p l→∀x∈l,allT p x.body
 | .mk _ _ _ _ _::l,h,x,hx=>by
  rw[aAp] at h;rcases Ap.1 hx with rfl | hx
  ·exact h.1
  ·exact aDm h.2 x hx
theorem tU {α:Type}:∀{l:List α}{j:Nat}{x:α},l[j]?=some x→l.set j x=l
 | [],_,_,h=>by simp at h
 | y::l,0,x,h=>by simp at h;subst h;rfl
 | y::l,j+1,x,h=>by
  rw[C5,tU (by simpa using h)]
def vP (al:List Alt) (i:Nat):List (List R):=aZ 0 (al.take i)++(al.drop i).map fun a=>(c7 a).map R.c
theorem s7:∀{l:List Alt}{k i:Nat}{a:Alt},l[i]?=some a→aZ k (l.take (i+1))=aZ k (l.take i)++[dV (k+i) a]
 | b::l,k,0,a,h=>by simp at h;subst h;simp[aZ]
 | b::l,k,i+1,a,h=>by
  simp only[An,aZ,A3];rw[s7 (l:=l) (k:=k+1) (by simpa using h),show k+1+i=k+(i+1) by omega]
theorem zS:∀{l:List Alt}{k i:Nat}{a:Alt},l[i]?=some a→fam k (l.take (i+1))=fam k (l.take i)++[(k+i+800,.arr 9 1 (a.vars.map b6) 0)]
 | b::l,k,0,a,h=>by simp at h;subst h;simp[fam]
 | b::l,k,i+1,a,h=>by
  simp only[An,fam,A3];rw[zS (l:=l) (k:=k+1) (by simpa using h),show k+1+i=k+(i+1) by omega]
theorem aTh {al:List Alt}{i:Nat}:(vP al i).length=al.length:=by unfold vP;rw[κ,eU,θ,Ar,B6];omega
theorem aYk {al:List Alt}{i:Nat}{a:Alt}(h:al[i]?=some a):(vP al i)[i]?=some ((c7 a).map R.c):=by
 have u:i<al.length:=(Aa.1 h).1
 unfold vP;rw[A6 (by rw[eU,Ar];omega),eU,Ar,Cd (by omega),sub_self,A5,Ao,By,h];rfl
theorem tT {α:Type}{l m:List α}{x y:α}{i:Nat}(h:l.length=i):(l++x::m).set i y=l++y::m:=by
 subst h;rw[List.set_append_right _ _ (le_refl _),sub_self];rfl
theorem rF {α:Type}{l:List α}{i:Nat}{a:α}(h:l[i]?=some a):l.drop i=a::l.drop (i+1):=by
 have u:i<l.length:=(Aa.1 h).1
 rw[Bu u];congr 1;exact(Aa.1 h).2
theorem aTg {al:List Alt}{i:Nat}{a:Alt}(h:al[i]?=some a) (r:List R):(vP al i).set i r=aZ 0 (al.take i)++r::(al.drop (i+1)).map fun a=>(c7 a).map R.c:=by
 have u:i<al.length:=(Aa.1 h).1
 unfold vP;rw[rF h,Am];exact tT (by rw[eU,Ar];omega)
theorem aOh {al:List Alt}{i:Nat}{a:Alt}(h:al[i]?=some a):vP al (i+1)=aZ 0 (al.take i)++dV i a::(al.drop (i+1)).map fun a=>(c7 a).map R.c:=by
 unfold vP;rw[s7 h,Ay,Bc];rfl
theorem aOi {al:List Alt}{i:Nat}:∀x∈cV (vP al i),x∈keys (fam 0 (al.take i)):=fun x hx=>by
 unfold vP at hx;rw[kL] at hx;rcases τ.1 hx with hx | hx
 ·exact dG x hx
 ·have key:∀l:List Alt,cV (l.map fun a=>(c7 a).map R.c)=[]:=by
   intro l
   induction l with
   | nil=>rfl
   | cons a l u=>
    show R.refsL _++cV _=[];rw[u,Ax];unfold c7 aB;simp[R.refsL,R.refs]
  rw[key] at hx;cases hx
def sgm (k:Nat) (j:Nat):Nat:=bif Nat.blt j 800 then j else bif Nat.beq j (k+800) then 710 else j
theorem aEm {k j:Nat}(h:800≤j) (hk:j≠k+800):sgm k j=j:=by
 unfold sgm;rw[aC5 h];have:Nat.beq j (k+800)=false:=by
  cases hb:Nat.beq j (k+800) with
  | false=>rfl
  | true=>exact absurd (Ab hb) hk
 rw[this];rfl
theorem aEl {k:Nat}:sgm k (k+800)=710:=by
 unfold sgm;rw[aC5 (le_add_left _ _)];simp
theorem aMz {σ:Nat→Nat}:∀l:List C,R.renL σ (l.map R.c)=l.map R.c
 | []=>rfl
 | x::l=>by simp only[Am,R.renL,R.ren,aMz l]
theorem aG6 {σ:Nat→Nat}:∀(a b:List (List R)),oA σ (a++b)=oA σ a++oA σ b
 | [],_=>rfl
 | r::a,b=>by simp only[A3,oA,aG6 a b]
theorem l8 {σ:Nat→Nat}{k:Nat}{a:Alt}:R.renL σ (dV k a)=[.c (.int .i64 a.form),.c (.int .i64 a.n),.c (.str a.name),.hs (σ (k+800)) 0 a.vars.length a.vars.length]++(aB a.body).map R.c:=by
 unfold dV;simp only[A3,A0,R.renL,R.ren,aMz]
theorem tX {i:Nat}:∀{l:List Alt}{k:Nat},k+l.length≤i→oA (sgm i) (aZ k l)=aZ k l
 | [],_,_=>rfl
 | a::l,k,h=>by
  simp only[Ac] at h;simp only[aZ,oA];rw[l8,aEm (le_add_left _ _) (by omega),tX (l:=l) (k:=k+1) (by omega)];rfl
theorem wJ {σ:Nat→Nat}:∀l:List Alt,oA σ (l.map fun a=>(c7 a).map R.c)=l.map fun a=>(c7 a).map R.c
 | []=>rfl
 | a::l=>by simp only[Am,oA,aMz,wJ l]
def a65 (a:Alt):List R:=[.c (.int .i64 a.form),.c (.int .i64 a.n),.c (.str a.name),.hs 710 0 a.vars.length a.vars.length]++(aB a.body).map R.c
theorem aXv {al:List Alt}{i:Nat}{a:Alt}(h:al[i]?=some a):(vP al i).set i (a65 a)=oA (sgm i) (vP al (i+1)):=by
 rw[aTg h,aOh h,aG6];have u:i<al.length:=(Aa.1 h).1
 rw[tX (by rw[Ar];omega)];simp only[oA];rw[l8,aEl,wJ];rfl
def TyG (t:Ty):Prop:=aU Tryz.prog 48 [tyV t] [] (tyV t) []
def oHl (ks:List Core) (bs:List Bind) (al:List Alt):List (Nat×AObj):=[(701,.arr 58 15 (aQ bs) 0),(702,.arr 37 10 (aO ks) 0),(703,.rarr 88 14 (aZ 0 al))]
def OwG (c:Core):Prop:=aU Tryz.prog 47 [.pa (aB c)] [] (.ma (eW c.form c.n c.name c.ty c.kids.length c.binds.length c.alts.length)) (oHl c.kids c.binds c.alts++fam 0 c.alts)
def OwP (c:Core):Prop:=aU Tryz.prog 47 [.pa (aB c)] [] (.pa (aB c)) []
theorem aAi (al:List Alt) (h:al.length≤600000000000):aU Tryz.prog 97 [.one (.c (.sl 14 (bV al)))] [] (.one (.ra 703 0 al.length al.length)) [(703,.rarr 88 14 (vP al 0))]:=by
 have u:(bV al).length=al.length:=by rw[bF,θ]
 have h1:=(aC0 (bV al) (by omega)).toR;rw[u] at h1;have e:(bV al).map (·.map R.c)=vP al 0:=by
  unfold vP;rw[bF,A8];rfl
 rwa [e] at h1
theorem aTi {al:List Alt}:vP al al.length=aZ 0 al:=by
 unfold vP;rw[Al,C7];simp
theorem aNq {u:St}{al:List Alt}{i:Nat}{a:Alt}(I:al[i]?=some a) (hf:FarEq u.h (fam 0 (al.take i))) (h7:u.h 710=some (.arr 9 1 (a.vars.map b6) 0)):
  ∀p∈fam 0 (al.take (i+1)),∃o,u.h (sgm i p.1)=some o∧Ole (sgm i) o p.2:=fun p hp=>by
 rw[zS I,Bc] at hp;rcases τ.1 hp with hp | hp
 ·obtain⟨j,b,hj,rfl⟩:=oX hp;have J:j<(al.take i).length:=(Aa.1 hj).1
  rw[Ar] at J;refine⟨_,?_,.arr⟩;rw[aEm (le_add_left _ _) (by show 0+j+800≠i+800;omega)];exact hf _ hp
 ·rw[ε.1 hp];exact⟨_,by rw[aEl];exact h7,.arr⟩
theorem aJ3 {al:List Alt}{i:Nat}{a:Alt}{hl:List (Nat×AObj)}(N:al[i]?=some a) (h1:Go.AM.distinct (710::hl.map (·.1))=true) (h2:(hl.all fun p=>Nat.blt p.1 800)=true):((hl++fam 0 (al.take (i+1))).map fun p=>sgm i p.1).Nodup:=by
 have aa:i<al.length:=(Aa.1 N).1
 have Y:(hl.map fun p=>sgm i p.1)=hl.map (·.1):=by
  refine Bf fun p hp=>?_
  have:=(A4.1 h2) p hp;unfold sgm;rw[this];rfl
 have Z:((fam 0 (al.take i)).map fun p=>sgm i p.1)=(fam 0 (al.take i)).map (·.1):=by
  refine Bf fun p hp=>?_
  obtain⟨j,b,hj,rfl⟩:=oX hp;have O:j<(al.take i).length:=(Aa.1 hj).1
  rw[Ar] at O;exact aEm (le_add_left _ _) (by show 0+j+800≠i+800;omega)
 rw[At,zS N,Bc,At,Y,Z];have hd:=dY h1;simp only[B3] at hd;have J:∀x∈hl.map (·.1),x<800:=fun x hx=>by
  obtain⟨p,hp,rfl⟩:=Af.1 hx;exact Aq ((A4.1 h2) p hp)
 have I:∀x∈(fam 0 (al.take i)).map (·.1),800≤x:=fun x hx=>by
  obtain⟨p,hp,rfl⟩:=Af.1 hx;exact gJ.far p hp
 show(hl.map (·.1)++((fam 0 (al.take i)).map (·.1)++[sgm i (i+800)])).Nodup;rw[aEl,Ct,Ct];refine⟨hd.2,⟨n8,by simp,fun x hx y u e=>?_⟩,fun x hx y u e=>?_⟩
 ·have:=I x hx;have:y=710:=by simpa using u
  omega
 ·subst e;rcases τ.1 u with u | u
  ·have:=J x hx;have:=I x u;omega
  ·have:x=710:=by simpa using u
   subst this;exact hd.1 hx
theorem aYw {b:Bool}{nk nb u:Nat}{l:List Alt}:(cO b nk nb u l)[0]?=some (rD b nk nb):=rfl
theorem aYv {b:Bool}{nk nb u:Nat}{l:List Alt}{i:Nat}{a:Alt}(h:l[i]?=some a):(cO b nk nb u l)[i+1]?=some (nN u i a):=by
 unfold cO;rw[Bk,aRh h,Bc]
theorem aE6 {b:Bool}{nk nb I:Nat}{l:List Alt}:∀r∈cO b nk nb I l,r.length=2:=by
 have key:∀(l:List Alt) (k:Nat),∀r∈aJg I k l,r.length=2:=by
  intro l
  induction l with
  | nil=>intro k r u;simp[aJg] at u
  | cons a l J=>
   intro k r u;rcases Ap.1 u with rfl | u
   ·rfl
   ·exact J _ r u
 intro r u;rcases Ap.1 u with rfl | u
 ·rfl
 ·exact key l 0 r u
theorem aYu {b:Bool}{nk nb u:Nat}{l:List Alt}:(cO b nk nb u l).length=1+l.length:=by unfold cO;rw[Ac,aAn];omega
theorem tV {f:Nat→List R}{k:Nat}(h:∀j,(f j).length=1):∀r∈rgR f k,r.length=1:=fun r u=>by
 obtain⟨j,_,rfl⟩:=Af.1 u;exact h j
theorem wV {nk nb i:Nat}:∀r∈pR nk nb i,r.length=1:=fun r u=>by
 unfold pR at u;rcases τ.1 u with u | u
 ·exact tV (fun _=>rfl) r u
 ·exact tV (fun _=>rfl) r u
theorem aG3 {f:Nat→List R}{k j:Nat}(h:j<k):(rgR f k)[j]?=some (f j):=by unfold rgR;rw[A5,List.getElem?_range h];rfl
theorem aN3 {nk nb i j:Nat}(h:j<nk):(pR nk nb i)[j]?=some [.ep 702 j 0 nk]:=by unfold pR;rw[Bd (by rw[i6];exact h),aG3 h]
theorem aN2 {nk nb i j:Nat}(h:j<i):(pR nk nb i)[nk+j]?=some [.ep 701 j 5 nb]:=by unfold pR;rw[A6 (by rw[i6];omega),i6,Nat.add_sub_cancel_left,aG3 h]
theorem aN1 {nk nb i:Nat}:(pR nk nb i).length=nk+i:=by unfold pR;rw[κ,i6,i6]
theorem xL (c:Core) (ih:∀x,aY x<aY c→allT TyG x→OwP x) (hT:allT TyG c) (ar:aY c≤570000000000):OwG c:=by
 obtain⟨f,n,s,t,ks,bs,al⟩:=c;obtain⟨ihk,ihb,iha,hkl,hbl,hal⟩:= @iW f n s t ks bs al;rw[allT] at hT;obtain⟨au,hTk,av,hTa⟩:=hT;have au:aU Tryz.prog 48 [tyV t] [] (tyV t) []:=au;have aw:(aO ks).length=ks.length:=by rw[aR,θ]
 have ax:(aQ bs).length=bs.length:=by rw[bH,θ]
 have k2:ks.length=(aO ks).length:=aw.symm;have kb2:bs.length=(aQ bs).length:=ax.symm;have ay:=qI (aO ks) (by omega);have aF:=aAh (aQ bs) (by omega);have hca:=aAi al (by omega);rw[aw] at ay;rw[ax] at aF;show aU Tryz.prog 47 [.pa (aB (.mk f n s t ks bs al))] [] (.ma (eW f n s t ks.length bs.length al.length)) (oHl ks bs al++fam 0 al);refine bQ (n:=85) tok Tryz.func47 rfl rfl rfl ?_;refine sgh [(0,.id 700)] rfl (sgh [(2,.pc (tyV t))] rfl (sk 2 rfl (kc ay ?_)));refine ak 2 [] rfl (kc aF ?_);refine ak 2 [] rfl (kc hca ?_);refine kz 6 rfl (a8 (sg rfl ?_));have hbl':bs.length≤570000000000:=by omega
 have ae:∀i,al.length=(vP al i).length:=fun i=>aTh.symm
 have hml0:=ae 0;refine aC ?_;have W0:∀i,GW [] (fam 0 (al.take i)):=fun i=>⟨gJ,fun x hx=>(by cases hx),rfl,rfl⟩
 have ab:∀i,GF [] (fam 0 (al.take i)) (AObj.rarr 88 14 (vP al i)).refs:=fun i x hx=>.inr (aOi x hx)
 have hmix0:=ab 0;have hF0:TF (fam 0 (al.take 0)):=gJ;refine aK (fun i:Nat=>mkt [(1,.one (.vp 700 0)),(2,.one (.vp 2 0)),(27,I .i64 ((bs.length:Nat):Int)),(28,I .i64 i)] ([(2,.var 37 bO),(700,.var 37 (eW f n s t ks.length bs.length al.length)),(701,.arr 58 15 (aQ bs) 0),(702,.arr 37 10 (aO ks) 0),(703,.rarr 88 14 (vP al 0))]++[]) (fam 0 (al.take 0))) (fun i=>i≤bs.length) (fun i=>bs.length-i) 0 (Ag _) (slG (W0 0) (fun _ h=>by cases h) (fun p hp=>by cases hp)) ?_
 ·intro i hi;refine sg rfl (a8 (aA rfl (fun hb=>?_) (fun hb=>?_)))
  ·have Y:i<bs.length:=by
    have:(i:Int)<(bs.length:Int):=ψ hb;omega
   obtain⟨b,aa⟩:=aJ Y;have ac:=bX aa;have hbt:aU Tryz.prog 48 [tyV b.ty] [] (tyV b.ty) []:=(vJ av b (η aa)).1
   have u:=tU ac;refine aD (a8 (aC (sg rfl (ag [(8,.row i (b8 b)),(9,.pc (tyV b.ty)),(12,.row i (b8 b))] rfl (ag [] rfl ⟨i+1,Y,by dsimp only;omega,slG (W0 0) (fun _ h=>by cases h) (hh:=⟨⟨_,rfl,.var rfl⟩,⟨_,rfl,.varS rfl⟩,⟨_,rfl,.arrS u⟩,⟨_,rfl,.arr⟩,⟨_,rfl,.rarrS rfl⟩,trivial⟩)⟩)))))
  refine aL (a8 (sg rfl (aC (aK (fun i:Nat=>mkt [(1,.one (.vp 700 0)),(2,.one (.vp 2 0)),(46,I .i64 ((al.length:Nat):Int)),(47,I .i64 i)] ([(2,.var 37 bO),(700,.var 37 (eW f n s t ks.length bs.length al.length)),(701,.arr 58 15 (aQ bs) 0),(702,.arr 37 10 (aO ks) 0),(703,.rarr 88 14 (vP al i))]++[]) (fam 0 (al.take i))) (fun i=>i≤al.length) (fun i=>al.length-i) 0 (Ag _) (slG (W0 0) (fun _ h=>by cases h)) ?_))));intro i hi;have ae:=ae i;have hmi:=ab i;have ah:TF (fam 0 (al.take i)):=gJ;refine sg rfl (a8 (aA rfl (fun hb=>?_) (fun hb=>?_)))
  ·have Y:i<al.length:=by
    have:(i:Int)<(al.length:Int):=ψ hb;omega
   obtain⟨a,J⟩:=aJ Y;have ai:=aYk J;have hav:=gS (η J);have hvl:=qO a;have hvk:(a.vars.map b6).length=a.vars.length:=θ _;have aG:=oJ (a.vars.map b6) (by rw[aY] at ar;omega);rw[hvk] at aG;have hmx:=ab (i+1);refine aD (a8 (aC (sg rfl (aI mixed (ak 9 [(8,.rr ((c7 a).map R.c))] rfl (kc aG ?_))))));refine ak 3 [(12,.rr ((c7 a).map R.c))] rfl (az (ag [] rfl ⟨i+1,Y,by dsimp only;omega,?_⟩));dsimp only;refine Sub.tailT (hl:=[(2,.var 37 bO),(700,.var 37 (eW f n s t ks.length bs.length al.length)),(701,.arr 58 15 (aQ bs) 0),(702,.arr 37 10 (aO ks) 0),(703,.rarr 88 14 (vP al (i+1)))]++[]) (sgm i) gJ ?_ ?_ ?_ ?_ ?_ ?_ ?_ ?_
   ·exact⟨rfl,rfl,rfl,rfl,trivial⟩
   ·exact⟨⟨_,rfl,.var rfl⟩,⟨_,rfl,.var rfl⟩,⟨_,rfl,.arr⟩,⟨_,rfl,.arr⟩,⟨_,rfl,.rarr (aXv J)⟩,trivial⟩
   ·exact aNq J (by repeat (first | exact FarEq.raw ah | (refine FarEq.updL ah ?_) | (refine FarEq.upd ah ?_))) rfl
   ·rfl
   ·exact fun x hx=>.inl (bY (show subset _ _=true from rfl) x hx)
   ·exact(W0 (i+1)).all ⟨Kn.of rfl,Kn.of rfl,Kn.of rfl,Kn.of rfl,Kn.gf hmx,trivial⟩
   ·exact aJ3 J rfl rfl
   ·exact fun _ h=>by cases h
  refine aL ?_;have hge:i=al.length:=by
   have:¬(i:Int)<(al.length:Int):=χ hb;omega
  subst hge;have Z:TF (fam 0 al):=gJ;have W:GW (gHl f n s t ks bs al) (fam 0 al):=gW
  have aH:=uW (decide (f=5)) f n s t ks bs al rfl (by omega) (by omega) (by omega) (fun a ha=>by
   have hav:=gS ha;have hvl:=qO a
   rw[aY] at ar;omega)
  have ad:=oV (f:=f) (n:=n) (s:=s) (t:=t) (ks:=ks) (bs:=bs) (al:=al) (decide (f=5)) al.length;rw[Al] at ad ⊢;rw[aTi];have hgl:(cO (decide (f=5)) ks.length bs.length al.length al).length=1+al.length:=aYu;have aM:gfo f n s t ks bs al (R.refsL (cO (decide (f=5)) ks.length bs.length al.length al).flatten):=by rw[dN];exact ad
  have aj:(cO (decide (f=5)) ks.length bs.length al.length al)[0]?=some (rD (decide (f=5)) ks.length bs.length):=aYw;have aN:∀i a,al[i]?=some a→(cO (decide (f=5)) ks.length bs.length al.length al)[i+1]?=some (nN al.length i a):=fun i a h=>aYv h
  have am:∀k r,(cO (decide (f=5)) ks.length bs.length al.length al)[k]?=some r→((cO (decide (f=5)) ks.length bs.length al.length al).flatten.drop (k*2)).take 2=r:=fF aE6;generalize cO (decide (f=5)) ks.length bs.length al.length al=G at aH hgl aM aj aN am;generalize decide (f=5)=b at aj;have hal':al.length=(aZ 0 al).length:=eU.symm;refine a8 (a8 (aI mixed (kc aH ?_ (hin':=fL.app ⟨rfl,rfl,rfl,rfl,trivial⟩ (FarEq.raw Z).all) (hout':=fL.of fun p hp=>.inl (Af.2 ⟨p,hp,rfl⟩)) (hok:=p9 Z (fun x hx=>.inl (bY (show subset _ _=true from rfl) x hx)) sU))));refine kz 2 rfl (AWp.sub (Sub.outsT Z) ?_);refine aC ?_;have N:∀x∈R.refsL G.flatten,Kn [(2,.var 37 bO)] (gHl f n s t ks bs al) (fam 0 al) x:=Kn.gf aM;refine aK (fun g:Nat=>mkt [(1,.one (.vp 700 0)),(2,.one (.vp 2 0)),(63,.one (.ras G.length 2 G.flatten)),(64,I .i64 ((G.length:Nat):Int)),(65,I .i64 g)] ([(2,.var 37 bO)]++gHl f n s t ks bs al) (fam 0 al)) (fun g=>g≤G.length) (fun g=>G.length-g) 0 (Ag _) (slG W (fun _ h=>by cases h) (FarEq.bif Z (FarEq.outs Z)) (h1:=Kn.app (Kn.of rfl) (Kn.app (Kn.of rfl) (Kn.app N Kn.nil)))) ?_;intro g hg;refine sg rfl (a8 (aA rfl (fun hb=>?_) (fun hb=>?_)))
  ·have Y:g<G.length:=by
    have:(g:Int)<(G.length:Int):=ψ hb;omega
   refine aD ?_;cases g with
   | zero=>
    have ht0:=am 0 _ aj;have hpl:(pR ks.length bs.length bs.length).length=ks.length+bs.length:=aN1;have ap:gfo f n s t ks bs al (R.refsL (pR ks.length bs.length bs.length).flatten):=by rw[dN];exact aR1 _ _ _
    have aP:∀k r,(pR ks.length bs.length bs.length)[k]?=some r→((pR ks.length bs.length bs.length).flatten.drop (k*1)).take 1=r:=fF wV;have hp1:∀j,j<ks.length→(pR ks.length bs.length bs.length)[j]?=some [.ep 702 j 0 ks.length]:=fun j h=>aN3 h
    have hp2:∀j,j<bs.length→(pR ks.length bs.length bs.length)[ks.length+j]?=some [.ep 701 j 5 bs.length]:=fun j h=>aN2 h
    refine a8 (aC (sgh [(0,.rowR 0 (rD b ks.length bs.length))] rfl (sg rfl (aC (aK (fun j:Nat=>mkt [(1,.one (.vp 700 0)),(2,.one (.vp 2 0)),(63,.one (.ras G.length 2 G.flatten)),(64,I .i64 ((G.length:Nat):Int)),(65,I .i64 (0:Nat)),(70,.one (.ras (pR ks.length bs.length bs.length).length 1 (pR ks.length bs.length bs.length).flatten)),(71,I .i64 (((pR ks.length bs.length bs.length).length:Nat):Int)),(72,I .i64 j)] ([(2,.var 37 bO)]++gHl f n s t ks bs al) (fam 0 al)) (fun j=>j≤(pR ks.length bs.length bs.length).length) (fun j=>(pR ks.length bs.length bs.length).length-j) 0 (Ag _) (slG W (fun _ h=>by cases h) (h1:=Kn.app (Kn.of rfl) (Kn.app (Kn.of rfl) (Kn.app N (Kn.app Kn.nil (Kn.app Kn.nil (Kn.app (Kn.gf ap) Kn.nil))))))) ?_)))));intro j hj;refine sg rfl (a8 (aA rfl (fun hb=>?_) (fun hb=>?_)))
    ·have aq:j<(pR ks.length bs.length bs.length).length:=by
      have:(j:Int)<((pR ks.length bs.length bs.length).length:Int):=ψ hb;omega
     refine aD ?_;by_cases aS:j<ks.length
     ·obtain⟨k,aT⟩:=aJ aS;have hki':=dB aT;have hm:=η aT;have hc:aU Tryz.prog 47 [.pa (aB k)] [] (.pa (aB k)) []:=ih k (ihk k hm) (aDk hTk k hm);have u:=tU hki';have ht1:=aP j _ (hp1 j aS);refine a8 (aC (sgh [(0,.rowR j [.ep 702 j 0 ks.length])] rfl (aI mixed (ak 4 [(3,.row j (aB k))] rfl (kc hc ?_)))));exact ak 2 [(6,.row j (aB k))] rfl (az (ag [] rfl ⟨j+1,aq,by dsimp only;omega,slG W (fun _ h=>by cases h) (h1:=Kn.app (Kn.of rfl) (Kn.app (Kn.of rfl) (Kn.app N (Kn.app Kn.nil (Kn.app Kn.nil (Kn.app (Kn.gf ap) Kn.nil)))))) (hh:=⟨⟨_,rfl,.var rfl⟩,⟨_,rfl,.var rfl⟩,⟨_,rfl,.arr⟩,⟨_,rfl,.arrS u⟩,⟨_,rfl,.rarrS rfl⟩,trivial⟩)⟩))
     ·obtain⟨O,rfl⟩:∃O,j=ks.length+O:=⟨j-ks.length,by omega⟩
      have aV:O<bs.length:=by omega
      obtain⟨x,aa⟩:=aJ aV;have ac:=bX aa;have hm:=η aa;have hc:aU Tryz.prog 47 [.pa (aB x.body)] [] (.pa (aB x.body)) []:=ih x.body (ihb x hm) (vJ av x hm).2;have u:=tU ac;have ht1:=aP (ks.length+O) _ (hp2 O aV);refine a8 (aC (sgh [(0,.rowR (ks.length+O) [.ep 701 O 5 bs.length])] rfl (aI mixed (ak 4 [(3,.row O (b8 x))] rfl (kc hc ?_)))));exact ak 2 [(6,.row O (b8 x))] rfl (az (ag [] rfl ⟨ks.length+O+1,aq,by dsimp only;omega,slG W (fun _ h=>by cases h) (h1:=Kn.app (Kn.of rfl) (Kn.app (Kn.of rfl) (Kn.app N (Kn.app Kn.nil (Kn.app Kn.nil (Kn.app (Kn.gf ap) Kn.nil)))))) (hh:=⟨⟨_,rfl,.var rfl⟩,⟨_,rfl,.var rfl⟩,⟨_,rfl,.arrS u⟩,⟨_,rfl,.arr⟩,⟨_,rfl,.rarrS rfl⟩,trivial⟩)⟩))
    exact aL (ag [] rfl ⟨1,by omega,by dsimp only;omega,slG W (fun _ h=>by cases h) (h1:=Kn.app (Kn.of rfl) (Kn.app (Kn.of rfl) (Kn.app N Kn.nil)))⟩)
   | succ i=>
    have hia:i<al.length:=by omega
    obtain⟨a,J⟩:=aJ hia;have ht0:=am (i+1) _ (aN i a J);have ai:(aZ 0 al)[i]?=some (dV i a):=by rw[o8 J,Bc]
    have hm:=η J;have hc:aU Tryz.prog 47 [.pa (aB a.body)] [] (.pa (aB a.body)) []:=ih a.body (iha a hm) (aDm hTa a hm);have u:=tU ai;refine a8 (aC (sgh [(0,.rowR (i+1) (nN al.length i a))] rfl (sg rfl (aC (aK (fun j:Nat=>mkt [(1,.one (.vp 700 0)),(2,.one (.vp 2 0)),(63,.one (.ras G.length 2 G.flatten)),(64,I .i64 ((G.length:Nat):Int)),(65,I .i64 ((i+1:Nat):Int)),(70,.one (.ras 1 1 [.rp 703 i 4 al.length])),(71,I .i64 ((1:Nat):Int)),(72,I .i64 j)] ([(2,.var 37 bO)]++gHl f n s t ks bs al) (fam 0 al)) (fun j=>j≤1) (fun j=>1-j) 0 (Ag _) (slG W (fun _ h=>by cases h) (h1:=Kn.app (Kn.of rfl) (Kn.app (Kn.of rfl) (Kn.app N (Kn.of rfl))))) ?_)))));intro j hj;refine sg rfl (a8 (aA rfl (fun hb=>?_) (fun hb=>?_)))
    ·have hj0:j=0:=by
      have:(j:Int)<((1:Nat):Int):=ψ hb;omega
     subst hj0;refine aD (a8 (aC (sg rfl (aI mixed (ak 4 [(3,.rr (dV i a))] rfl (kc hc ?_))))));exact ak 2 [(6,.rr (dV i a))] rfl (az (ag [] rfl ⟨1,le_refl _,by dsimp only;omega,slG W (fun _ h=>by cases h) (h1:=Kn.app (Kn.of rfl) (Kn.app (Kn.of rfl) (Kn.app N (Kn.of rfl)))) (hh:=⟨⟨_,rfl,.var rfl⟩,⟨_,rfl,.var rfl⟩,⟨_,rfl,.arr⟩,⟨_,rfl,.arr⟩,⟨_,rfl,.rarrS u⟩,trivial⟩)⟩))
    exact aL (ag [] rfl ⟨i+1+1,by omega,by dsimp only;omega,slG W (fun _ h=>by cases h) (h1:=Kn.app (Kn.of rfl) (Kn.app (Kn.of rfl) (Kn.app N Kn.nil)))⟩)
  refine aL (sg rfl ?_);exact aE ⟨.inr rfl,aFb (hl:=oHl ks bs al) Z (by repeat (first | exact FarEq.raw Z | (refine FarEq.updL Z ?_) | (refine FarEq.upd Z ?_))) ⟨_,_,.cell rfl (tg rfl) rfl rfl rfl .nil,.cons .refl .nil,rfl⟩ (fun x hx=>.inl (bY (show subset _ _=true from rfl) x hx)) (fun x hx=>.inr (dG x (by simpa [oHl,dU,AObj.refs] using hx))) (fun _ h=>by cases h) (fun _ h=>by cases h)⟩
theorem aHe {h:dC}{ids:List Nat}{rs:List R}{cs:List C}(k:PureL h ids rs cs):∀l:List C,PureL h ids (l.map R.c++rs) (l++cs)
 | []=>k
 | _::l=>.c .refl (aHe k l)
theorem aBs {h:dC}:∀{al:List Alt}{k:Nat},FarEq h (zP (fam k al))→∃ids,PureL h ids (aZ k al).flatten (al.map c7).flatten
 | [],_,_=>⟨[],.nil⟩
 | a::l,k,hf=>by
  obtain⟨ids,u⟩:=aBs (al:=l) (k:=k+1) fun p hp=>hf p (ω _ hp)
  have hh:h (k+800)=some (.arr 9 1 (a.vars.map b6) 2):=hf (k+800,.arr 9 1 (a.vars.map b6) 2) ζ;refine⟨(k+800)::ids,?_⟩;have h1:=aHe u (aB a.body);simp only[aZ,Am,Bi,dV,c7,Ay,A3,A0];exact .c .refl (.c .refl (.c .refl (.hs hh (θ _).symm (by rw[Cc,←θ (f:=b6),Al]) h1)))
def kB (f n:Int) (s:Str) (t:Ty) (nk nb:Nat) (al:List Alt):List R:=[.c (.int .i64 f),.c (.int .i64 n),.c (.str s),.c (.int .i64 t.form),.c (.int .i64 t.n),.c (.str t.name),.c (.sl 4 (fV t)),.hs 702 0 nk nk,.hs 701 0 nb nb,.ras al.length 14 (aZ 0 al).flatten]
theorem u4 {h:dC}{f n:Int}{s:Str}{t:Ty}{ks:List Core}{bs:List Bind}{al:List Alt}(h1:h 701=some (.arr 58 15 (aQ bs) 2)) (h2:h 702=some (.arr 37 10 (aO ks) 2)) (hf:FarEq h (zP (fam 0 al))):
  ∃ids,PureL h ids (kB f n s t ks.length bs.length al) (aB (.mk f n s t ks bs al)):=by
 obtain⟨ids,hp⟩:=aBs hf;have I:(aO ks).length=ks.length:=by rw[aR,θ]
 have J:(aQ bs).length=bs.length:=by rw[bH,θ]
 refine⟨702::701::(ids++[]),?_⟩;refine .c .refl (.c .refl (.c .refl (.c .refl (.c .refl (.c .refl (.c .refl (.hs h2 I.symm ?_ (.hs h1 J.symm ?_ (.ras rfl hp ?_ ?_ ?_ .nil)))))))))
 ·rw[Cc,←I,Al];rfl
 ·rw[Cc,←J,Al];rfl
 ·show _=(bV al).flatten;rw[bF]
 ·intro r u;have u:r∈bV al:=u;rw[bF] at u;obtain⟨a,_,rfl⟩:=Af.1 u;rfl
 ·show(bV al).length=_;rw[bF,θ]
theorem w6 {al:List Alt}:703∉cV (aZ 0 al):=fun h=>by
 obtain⟨p,hp,e⟩:=Af.1 (dG 703 h);have:=gJ.far p hp;omega
theorem qS {kf:List Nat}{el:List (Nat×V)}{ex:List (Nat×AObj)}{ks:List Core}{bs:List Bind}{al:List Alt}(O:703∉kf)
  (aa:∀x∈pI el,Kn (oHl ks bs al) ex (fam 0 al) x) (hex:fL (fun q=>∀x∈q.2.refs,Kn (oHl ks bs al) ex (fam 0 al) x) ex)
  (ab:∀i∈kf,i∈keys (oHl ks bs al++ex)∨i∈keys (fam 0 al)) (hd:Go.AM.distinct ((oHl ks bs al++ex).map (·.1))=true) (hn:(ex.all fun p=>Nat.blt p.1 800)=true) (ac:(el.map (·.1)).Nodup) (ad:∀p∈ex,p.2.live=true):
  Sub kf (mkt (fzE 703 (.ra al.length 14 (aZ 0 al).flatten) el) (fzH 703 (.ra al.length 14 (aZ 0 al).flatten) ([(701,.arr 58 15 (aQ bs) 2),(702,.arr 37 10 (aO ks) 2)]++ex)) (zP (fam 0 al))) (mkt el (oHl ks bs al++ex) (fam 0 al)):=by
 have J:TF (fam 0 al):=gJ;have ae:((oHl ks bs al++ex).all fun p=>Nat.blt p.1 800)=true:=by rw[all_append,hn];rfl
 have e1:Sub kf (mkt el ([(703,.rarr 88 14 (aZ 0 al)),(701,.arr 58 15 (aQ bs) 2),(702,.arr 37 10 (aO ks) 2)]++ex) (fam 0 al)) (mkt el (oHl ks bs al++ex) (fam 0 al)):=by
  refine Sub.trans ?_ (Sub.freeze (id:=701) (te:=58) (es:=15) (elems:=aQ bs) (fz:=0) rfl);refine Sub.trans ?_ (Sub.freeze (id:=702) (te:=37) (es:=10) (elems:=aO ks) (fz:=0) rfl);have N:∀p∈ex,703≠p.1∧701≠p.1∧702≠p.1:=fun p hp=>by
   have u:=dY hd;simp only[oHl,A3,A0,Am,B3,Ap,not_or] at u;have hm:p.1∈ex.map (·.1):=Af.2 ⟨p,hp,rfl⟩;exact⟨fun e=>u.2.2.1 (e▸hm),fun e=>u.1.2.2 (e▸hm),fun e=>u.2.1.2 (e▸hm)⟩
  have Y:(ex.map (·.1)).Nodup:=by
   have u:=dY hd;simp only[oHl,A3,A0,Am,B3] at u;exact u.2.2.2
  have hg:∀x∈dU (oHl ks bs al++ex),x∈keys (oHl ks bs al++ex)∨x∈keys (fam 0 al):=fun x hx=>by
   rw[jE] at hx;rcases τ.1 hx with hx | hx
   ·exact .inr (dG x (by simpa [oHl,dU,AObj.refs] using hx))
   ·rcases aBm hex x hx with h | h | h
    ·exact .inl (iQ.2 (.inl h))
    ·exact .inl (iQ.2 (.inr h))
    ·exact .inr h
  have I:∀x,x∈keys (oHl ks bs al++ex)→x∈keys ([(703,AObj.rarr 88 14 (aZ 0 al)),(701,.arr 58 15 (aQ bs) 2),(702,.arr 37 10 (aO ks) 2)]++ex):=fun x hx=>by
   simp only[oHl,keys,A3,A0,Am,Ap] at hx ⊢;rcases hx with h | h | h | h
   ·exact .inr (.inl h)
   ·exact .inr (.inr (.inl h))
   ·exact .inl h
   ·exact .inr (.inr (.inr h))
  refine slT J (FarEq.upd J (FarEq.upd J (FarEq.mkt J ae))) (fun x hx=>?_) (fun x hx=>?_) (fun i hi=>(ab i hi).imp (I i) id) (he:=fL.of fun p hp=>?_) (hh:=⟨⟨_,rfl,.rarrS rfl⟩,⟨_,rfl,.arr⟩,⟨_,rfl,.arr⟩,fL.of fun p hp=>?_⟩) (h3:=?_) (h3':=?_)
  ·rcases aa x hx with h | h | h
   ·exact .inl (I x (iQ.2 (.inl h)))
   ·exact .inl (I x (iQ.2 (.inr h)))
   ·exact .inr h
  ·refine(hg x ?_).imp (I x) id;rw[jE] at hx ⊢;rcases τ.1 hx with hx | hx
   ·exact τ.2 (.inl (by simpa [oHl,dU,AObj.refs] using hx))
   ·exact τ.2 (.inr hx)
  ·rw[V.ren_id];exact rA ac p hp
  ·obtain⟨m1,m2,m3⟩:=N p hp;refine⟨p.2,?_,.refl_id (by intro e;have:=ad p hp;rw[e] at this;cases this)⟩;dsimp only;rw[bJ _ _ _ (Ne.symm m3),bJ _ _ _ (Ne.symm m2)];have hl:Go.AM.look (oHl ks bs al++ex) p.1=some p.2:=rA (dY hd) p (τ.2 (.inr hp));show(match Go.AM.look (oHl ks bs al++ex) p.1 with | some x=>some x | none=>_)=_;rw[hl]
  ·refine gM ?_;simp only[A3,A0,Am,B3,Ap,not_or];refine⟨⟨by decide,by decide,fun h=>?_⟩,⟨by decide,fun h=>?_⟩,fun h=>?_,Y⟩
   all_goals
    obtain⟨p,hp,e⟩:=Af.1 h;have:=N p hp;omega
  ·rw[all_append,hn];rfl
 have Z:Go.AM.distinct (703::List.map (fun p:Nat×AObj=>p.1) ([(701,AObj.arr 58 15 (aQ bs) 2),(702,.arr 37 10 (aO ks) 2)]++ex))=true:=by
  have u:=dY hd;simp only[oHl,A3,A0,Am,B3,Ap,not_or] at u;refine gM ?_;simp only[A3,A0,Am,B3,Ap,not_or];exact⟨⟨by decide,by decide,u.2.2.1⟩,⟨by decide,u.1.2.2⟩,u.2.1.2,u.2.2.2⟩
 have e2:=Sub.fzAll (kf:=kf) (el:=el) (hl:=[(703,.rarr 88 14 (aZ 0 al)),(701,.arr 58 15 (aQ bs) 2),(702,.arr 37 10 (aO ks) 2)]++ex) J (by rw[all_append,hn];rfl);have e3:=Sub.fraT (kf:=kf) (el:=el) (id:=703) (te:=88) (es:=14) (rows:=aZ 0 al) (rest:=[(701,.arr 58 15 (aQ bs) 2),(702,.arr 37 10 (aO ks) 2)]++ex) J.frz O w6 rfl Z;rw[eU] at e3;exact Sub.trans e3 (Sub.trans e2 e1)
theorem aN4 {c:Core}(h:OwG c):OwP c:=by
 obtain⟨f,n,s,t,ks,bs,al⟩:=c;refine aU.sub h ?_;have u:TF (fam 0 al):=gJ;show Sub [] _ (mk [(0,.ma (eW f n s t ks.length bs.length al.length))] (oHl ks bs al++fam 0 al));rw[←aOc u];have h1:=qS (kf:=[]) (el:=[(0,.ma (eW f n s t ks.length bs.length al.length))]) (ex:=[]) (ks:=ks) (bs:=bs) (al:=al) (by simp) (Kn.of rfl) trivial (fun _ h=>by cases h) rfl rfl (by simp) (fun _ h=>by cases h);rw[Ax] at h1;refine Sub.trans ?_ h1;have J:fzE 703 (.ra al.length 14 (aZ 0 al).flatten) [(0,.ma (eW f n s t ks.length bs.length al.length))]=[(0,.ma (kB f n s t ks.length bs.length al))]:=by
  unfold eW kB;simp only[fzE,V.fz,R.fzL,R.fz,Ce,Cs,Bool.and_self]
 rw[J];have I:TF (zP (fam 0 al)):=u.frz;obtain⟨ids,hp⟩:=u4 (h:=(mkt [(0,V.ma (kB f n s t ks.length bs.length al))] (fzH 703 (.ra al.length 14 (aZ 0 al).flatten) ([(701,.arr 58 15 (aQ bs) 2),(702,.arr 37 10 (aO ks) 2)]++[])) (zP (fam 0 al))).h) (f:=f) (n:=n) (s:=s) (t:=t) (ks:=ks) (bs:=bs) (al:=al) rfl rfl (FarEq.mkt I rfl);refine Sub.trans ?_ (Sub.conv (t:=0) (v:=.ma (kB f n s t ks.length bs.length al)) (v':=.pa (aB (.mk f n s t ks bs al))) rfl (.agg hp));exact sl
theorem uV:∀(n:Nat) (c:Core),aY c≤n→n≤570000000000→allT TyG c→OwP c
 | 0,c,h,_,_=>by have:=dX c;omega
 | n+1,c,h,hn,I=>aN4 (xL c (fun x hx u=>uV n x (by omega) (by omega) u) I (by omega))
theorem aWz (c:Core) (h:aY c≤570000000000) (I:allT TyG c):OwG c:=xL c (fun x hx u=>uV (aY x) x (le_refl _) (by omega) u) I h
def nm0 (c:Core):List (List C):=if c.form=5 then [[.pt ((aB c).drop 2)]] else []
def aFh (b:Bind):List C:=[.pt ((b8 b).drop 0)]
def aKs (b:Bind):List C:=[.pt ((b8 b).drop 5)]
def iT (k:Core):List C:=[.pt (aB k)]
def aA0 (v:Str):List C:=[.pt (b6 v)]
def aFn (a:Alt):List C:=[.sl 1 (a.vars.map aA0),.sl 1 [[.pt ((c7 a).drop 4)]]]
def a2v (c:Core):List C:=[.sl 1 (nm0 c++c.binds.map aFh),.sl 1 (c.kids.map iT++c.binds.map aKs)]
def pY (c:Core):List (List C):=a2v c::c.alts.map aFn
theorem tM {α:Type}(f:α→List C) (w:List (List C)) {l:List α}{i:Nat}{x:α}(h:l[i]?=some x):w++(l.take i).map f++[f x]=w++(l.take (i+1)).map f:=by
 rw[eO h,At,Ay];rfl
theorem aCx (c:Core) (aj:aY c≤570000000000):aU Tryz.prog 79 [.one (.c (.pt (aB c)))] [] (.one (.c (.sl 2 (pY c)))) []:=by
 obtain⟨f,n,s,t,ks,bs,al⟩:=c;obtain⟨ihk,ihb,iha,hkl,hbl,hal⟩:= @iW f n s t ks bs al;have ab:(aQ bs).length=bs.length:=by rw[bH,θ]
 have ac:(aO ks).length=ks.length:=by rw[aR,θ]
 have ad:(bV al).length=al.length:=by rw[bF,θ]
 have hW:(nm0 (.mk f n s t ks bs al)).length≤1:=by unfold nm0;split<;>simp
 have J:nm0 (.mk f n s t ks bs al)=if f=5 then [[.pt ((aB (.mk f n s t ks bs al)).drop 2)]] else []:=rfl
 have ak:pY (.mk f n s t ks bs al)=[.sl 1 (nm0 (.mk f n s t ks bs al)++bs.map aFh),.sl 1 (ks.map iT++bs.map aKs)]::al.map aFn:=rfl;rw[ak];generalize nm0 (.mk f n s t ks bs al)=W at hW J ⊢;refine bQ (n:=123) tok Tryz.func79 rfl rfl rfl ?_;refine sg rfl (sg rfl (AWp.sub (Sub.ownCell (x:=3) (k:=1) (id:=712) 118 1 rfl rfl rfl) (AWp.sub (Sub.ownCell (x:=3) (k:=0) (id:=711) 158 1 rfl rfl rfl) ?_)));refine a8 (sg rfl (aC (aK (fun i:Nat=>mk [(0,.one (.c (.pt (aB (.mk f n s t ks bs al))))),(3,.one (.vp 3 0)),(16,I .i64 ((aO ks).length:Int)),(17,I .i64 i)] [(3,.var 126 [.hs 711 0 0 0,.hs 712 0 i i]),(711,.arr 158 1 [] 0),(712,.arr 118 1 ((ks.take i).map iT) 0)]) (fun i=>i≤ks.length) (fun i=>ks.length-i) 0 (Ag _) sl ?_)));intro i hi;refine sg rfl (a8 (aA rfl (fun hb=>?_) (fun hb=>?_)))
 ·have u:=ltD hb ac;obtain⟨k,ae⟩:=aJ u;have hki':=dB ae;have O:=eC iT ae;exact aD (a8 (aC (sg rfl (ag [(7,.row i (aB k))] rfl (ag [] rfl ⟨i+1,u,by dsimp only;omega,sl⟩)))))
 have N:=geD hb ac hi;subst N;rw[Al];refine aL (a8 (AWp.cut (mk [(0,.one (.c (.pt (aB (.mk f n s t ks bs al))))),(3,.one (.vp 3 0))] [(3,.var 126 [.hs 711 0 W.length W.length,.hs 712 0 ks.length ks.length]),(711,.arr 158 1 W 0),(712,.arr 118 1 (ks.map iT) 0)]) ?_ ?_))
 ·refine sg rfl (aA rfl (fun hb=>?_) (fun hb=>?_))
  ·have h5:f=5:=ψ hb;rw[ξ h5] at J;subst J;exact ag [] rfl sl
  ·have h5:¬f=5:=χ hb;rw[φ h5] at J;subst J;exact aD sl
 clear J;refine a8 (sg rfl (aC (aK (fun i:Nat=>mk [(0,.one (.c (.pt (aB (.mk f n s t ks bs al))))),(3,.one (.vp 3 0)),(49,I .i64 ((aQ bs).length:Int)),(50,I .i64 i)] [(3,.var 126 [.hs 711 0 (W.length+i) (W.length+i),.hs 712 0 (ks.length+i) (ks.length+i)]),(711,.arr 158 1 (W++(bs.take i).map aFh) 0),(712,.arr 118 1 (ks.map iT++(bs.take i).map aKs) 0)]) (fun i=>i≤bs.length) (fun i=>bs.length-i) 0 (Ag _) sl ?_)));intro i hi;refine sg rfl (a8 (aA rfl (fun hb=>?_) (fun hb=>?_)))
 ·have u:=ltD hb ab;obtain⟨b,Y⟩:=aJ u;have hbi':=bX Y;have hr1:=tM aFh W Y;have hr2:=tM aKs (ks.map iT) Y;exact aD (a8 (aC (sg rfl (sgh [(5,.row i (b8 b))] rfl (ag [] rfl (ag [] rfl ⟨i+1,u,by dsimp only;omega,sl⟩))))))
 have N:=geD hb ab hi;subst N;rw[Al];have am:(W++bs.map aFh).length=W.length+bs.length:=by simp
 have ap:(ks.map iT++bs.map aKs).length=ks.length+bs.length:=by simp
 rw[←am,←ap];generalize W++bs.map aFh=N0;generalize ks.map iT++bs.map aKs=P0;refine aL (AWp.sub (Sub.freeze (id:=711) rfl) (AWp.sub (Sub.freeze (id:=712) rfl) (AWp.sub (vp 3 [.sl 1 N0,.sl 1 P0]) ?_)));refine sgh [(1,.id 500)] rfl (a8 (sg rfl (aC (aK (fun i:Nat=>mk [(0,.one (.c (.pt (aB (.mk f n s t ks bs al))))),(7,.one (.hs 500 0 (1+i) (1+i))),(82,I .i64 ((bV al).length:Int)),(83,I .i64 i)] [(500,.arr 126 2 ([[.sl 1 N0,.sl 1 P0]]++(al.take i).map aFn) 0)]) (fun i=>i≤al.length) (fun i=>al.length-i) 0 (Ag _) sl ?_))));intro i hi;refine sg rfl (a8 (aA rfl (fun hb=>?_) (fun hb=>?_)))
 ·have u:=ltD hb ad;obtain⟨a,Z⟩:=aJ u;have hai':=fZ Z;have hav:=gS (η Z);have hvl:=qO a;have O:=tM aFn [[.sl 1 N0,.sl 1 P0]] Z;have ah:(a.vars.map b6).length=a.vars.length:=θ _;have aq:(([[.sl 1 N0,.sl 1 P0]]:List (List C))++(al.take i).map aFn).length=1+i:=by
   rw[κ,θ,Ar];show 1+min i al.length=_;omega
  have hall:al.length≤570000000000:=by omega
  generalize ([[.sl 1 N0,.sl 1 P0]]:List (List C))++(al.take i).map aFn=G at aq O ⊢;rw[aY] at aj;refine aD (a8 (aC (sg rfl (sgh [(5,.row i (c7 a))] rfl (sgh [(3,.all)] rfl (AWp.sub (Sub.ownCell (x:=10) (k:=0) (id:=721) 158 1 rfl rfl rfl) ?_))))));refine a8 (sg rfl (aC (aK (fun j:Nat=>mk [(0,.one (.c (.pt (aB (.mk f n s t ks bs al))))),(7,.one (.hs 500 0 (1+i) (1+i))),(9,.one (.c (.pt (c7 a)))),(10,.one (.vp 10 0)),(82,I .i64 ((bV al).length:Int)),(83,I .i64 i),(101,I .i64 ((a.vars.map b6).length:Int)),(102,I .i64 j)] [(500,.arr 126 2 G 0),(10,.var 126 [.hs 721 0 j j,.c (.sl 1 [[.pt ((c7 a).drop 4)]])]),(721,.arr 158 1 ((a.vars.take j).map aA0) 0)]) (fun j=>j≤a.vars.length) (fun j=>a.vars.length-j) 0 (Ag _) sl ?_)));intro j hj;refine sg rfl (a8 (aA rfl (fun hb=>?_) (fun hb=>?_)))
  ·have aa:=ltD hb ah;obtain⟨v,hv⟩:=aJ aa;have hv':=bW b6 hv;have hr3:=eC aA0 hv;exact aD (a8 (aC (sg rfl (ag [(7,.row j (b6 v))] rfl (ag [] rfl ⟨j+1,aa,by dsimp only;omega,sl⟩)))))
  have ai:=geD hb ah hj;subst ai;rw[Al];have hlv:a.vars.length=(a.vars.map aA0).length:=(θ _).symm;refine aL (AWp.sub (Sub.freeze (id:=721) rfl) (AWp.sub (vp 10 (aFn a)) ?_));exact ag [(2,.all)] rfl (ag [] rfl ⟨i+1,u,by dsimp only;omega,sl⟩)
 have N:=geD hb ad hi;subst N;rw[Al];refine aL (sg rfl (AWp.sub (Sub.freeze (id:=500) rfl) ?_));exact aE (rtT (hc:=hs_all rfl rfl (by simp;omega) rfl))
def gl (c:Core):List (List (List C)×List Core):=(nm0 c++c.binds.map aFh,c.kids++c.binds.map Bind.body)::c.alts.map fun a=>(a.vars.map aA0,[a.body])
def lV (g:List (List C)×List Core):List C:=[.sl 1 g.1,.sl 1 (g.2.map iT)]
theorem rY (c:Core):pY c=(gl c).map lV:=by
 obtain⟨f,n,s,t,ks,bs,al⟩:=c;unfold pY gl;rw[Am,A8];congr 1;unfold a2v lV;rw[At,A8];rfl
mutual
def eX:Core→Nat
 | .mk _ _ _ _ ks bs al=>1+(bR ks+(dI bs+dW al))
def bR:List Core→Nat
 | []=>0
 | c::l=>eX c+bR l
def dI:List Bind→Nat
 | []=>0
 | .mk _ _ c::l=>eX c+dI l
def dW:List Alt→Nat
 | []=>0
 | .mk _ _ _ _ c::l=>eX c+dW l
end
theorem qU:∀a b,bR (a++b)=bR a+bR b
 | [],b=>by rw[A0,bR,Bc]
 | x::a,b=>by rw[A3,bR,bR,qU a b,Br]
theorem wF:∀l:List Bind,bR (l.map Bind.body)=dI l
 | []=>by rw[Bo,bR,dI]
 | .mk s t c::l=>by rw[Am,bR,dI,wF l];rfl
def qM:List (List (List C)×List Core)→Nat
 | []=>0
 | g::l=>bR g.2+qM l
theorem aCe:∀l:List Alt,qM (l.map fun a=>(a.vars.map aA0,[a.body]))=dW l
 | []=>by rw[Bo,qM,dW]
 | .mk f n s v c::l=>by rw[Am,qM,dW,aCe l,bR,bR];rfl
theorem aXs (c:Core):eX c=1+qM (gl c):=by
 obtain⟨f,n,s,t,ks,bs,al⟩:=c;unfold gl;rw[qM,eX];show _=1+(bR (ks++bs.map Bind.body)+qM (al.map fun a=>(a.vars.map aA0,[a.body])));rw[qU,wF,aCe];omega
mutual
theorem size_le:∀c:Core,eX c≤aY c
 | .mk f n s t ks bs al=>by rw[eX,aY];have:=aGx ks;have:=aGy bs;have:=aGz al;omega
theorem aGx:∀l:List Core,bR l≤bM l
 | []=>by rw[bR];exact Ag _
 | c::l=>by rw[bR,bM];have:=size_le c;have:=aGx l;omega
theorem aGy:∀l:List Bind,dI l≤cB l
 | []=>by rw[dI];exact Ag _
 | .mk s t c::l=>by rw[dI,cB,bsize];have:=size_le c;have:=aGy l;omega
theorem aGz:∀l:List Alt,dW l≤bZ l
 | []=>by rw[dW];exact Ag _
 | .mk f n s v c::l=>by rw[dW,bZ,lL];have:=size_le c;have:=aGz l;omega
end
theorem a2w {c:Core}{g:List (List C)×List Core}(h:g∈gl c) {x:Core}(hx:x∈g.2):aY x<aY c:=by
 obtain⟨f,n,s,t,ks,bs,al⟩:=c;obtain⟨u,I,J,N,O,Y⟩:= @iW f n s t ks bs al;unfold gl at h;rcases Ap.1 h with rfl | h
 ·rcases τ.1 hx with hx | hx
  ·exact u x hx
  ·obtain⟨b,hb,rfl⟩:=Af.1 hx;exact I b hb
 ·obtain⟨a,ha,rfl⟩:=Af.1 h;rw[ε.1 hx];exact J a ha
theorem aWe (c:Core):(gl c).length≤aY c∧∀g∈gl c,g.2.length≤aY c∧g.1.length≤aY c:=by
 obtain⟨f,n,s,t,ks,bs,al⟩:=c;have h1:=iL ks;have h2:=gC bs;have h3:=iN al;have I:(nm0 (.mk f n s t ks bs al)).length≤1:=by unfold nm0;split<;>simp
 rw[aY];unfold gl;refine⟨?_,fun g u=>?_⟩
 ·rw[Ac,θ];show al.length+1≤_;omega
 ·rcases Ap.1 u with rfl | u
  ·rw[κ,κ,θ,θ];show ks.length+bs.length≤_∧_+bs.length≤_;omega
  ·obtain⟨a,ha,rfl⟩:=Af.1 u;have h4:=gS (show a∈al from ha);have h5:=qO a;have h6:1≤lL a:=by obtain⟨f,n,s,v,c⟩:=a;rw[lL];omega
   show [a.body].length≤_∧(a.vars.map aA0).length≤_;rw[θ,List.length_singleton];omega
theorem aO4 {l:List (List (List C)×List Core)}{i:Nat}{g:List (List C)×List Core}(h:l[i]?=some g):qM (l.take (i+1))=qM (l.take i)+bR g.2:=by
 have app:∀a b,qM (a++b)=qM a+qM b:=by
  intro a b
  induction a with
  | nil=>rw[A0,qM,Bc]
  | cons x a u=>rw[A3,qM,qM,u,Br]
 rw[eO h,app,qM,qM,By]
theorem aEh {l:List Core}{i:Nat}{x:Core}(h:l[i]?=some x):bR (l.take (i+1))=bR (l.take i)+eX x:=by
 rw[eO h,qU,bR,bR,By]
theorem aYs (l:List (List (List C)×List Core)) (i:Nat):qM (l.take i)≤qM l:=by
 induction l generalizing i with
 | nil=>simp
 | cons g l u=>
  cases i with
  | zero=>simp[qM]
  | succ i=>rw[An,qM,qM];have:=u i;omega
theorem aMl (l:List Core) (i:Nat):bR (l.take i)≤bR l:=by
 induction l generalizing i with
 | nil=>simp
 | cons g l u=>
  cases i with
  | zero=>simp[bR]
  | succ i=>rw[An,bR,bR];have:=u i;omega
def aRn (c:Core):Prop:=aY c≤570000000000→aU Tryz.prog 92 [.pa (aB c)] [] (I .i64 (eX c:Nat)) []
theorem aFf (c:Core) (ih:∀x,aY x<aY c→aRn x):aRn c:=by
 intro hsz;have u:=aCx c hsz;have O:=aXs c;have Y:=size_le c;have hin:=fun {g} (h:g∈gl c) {x} hx=> @a2w c g h x hx
 obtain⟨hgl,Z⟩:=aWe c;rw[rY] at u;rw[O] at Y ⊢;generalize gl c=L at u O Y hin hgl Z ⊢;have aa:(L.map lV).length=L.length:=θ _;refine bQ (n:=30) tok Tryz.func92 rfl rfl rfl ?_;refine sg rfl (sg rfl (AWp.sub (Sub.fvar (id:=1) (l:=aB c) rfl (by simp[keys])) ?_));refine AWp.sub (st2:=mk [(1,.one (.c (.pt (aB c)))),(3,I .i64 1)] []) sl ?_;refine a8 (a8 (aI mixed (kc u ?_)));refine kz 2 rfl (aC (aK (fun i:Nat=>mk [(3,I .i64 ((1+qM (L.take i):Nat):Int)),(8,.one (.c (.sl 2 (L.map lV)))),(9,I .i64 ((L.map lV).length:Int)),(10,I .i64 i)] []) (fun i=>i≤L.length) (fun i=>L.length-i) 0 (Ag _) sl ?_));intro i hi;refine sg rfl (a8 (aA rfl (fun hb=>?_) (fun hb=>?_)))
 ·have ab:=ltD hb aa;obtain⟨g,hg⟩:=aJ ab;have hg':=bW lV hg;have ac:=η hg;obtain⟨hl1,hl2⟩:=Z g ac;have ad:=aO4 hg;have hgl1:=aYs L (i+1);have J:(g.2.map iT).length=g.2.length:=θ _;obtain⟨G1,G⟩:=g;dsimp only at hl1 hl2 ad J;refine aD (a8 (aC (sgh [(0,.row i (lV (G1,G)))] rfl (sg rfl (aC (aK (fun j:Nat=>mk [(3,I .i64 ((1+qM (L.take i)+bR (G.take j):Nat):Int)),(8,.one (.c (.sl 2 (L.map lV)))),(9,I .i64 ((L.map lV).length:Int)),(10,I .i64 i),(15,.one (.c (.sl 1 (G.map iT)))),(16,I .i64 ((G.map iT).length:Int)),(17,I .i64 j)] []) (fun j=>j≤G.length) (fun j=>G.length-j) 0 (Ag _) sl ?_))))));intro j hj;refine sg rfl (a8 (aA rfl (fun hb=>?_) (fun hb=>?_)))
  ·have N:=ltD hb J;obtain⟨p,hp⟩:=aJ N;have hp':=bW iT hp;have hpc:=hin ac (η hp);have hc:=ih p hpc (by omega);have hst:=aEh hp;have hsl2:=aMl G (j+1);have hadd:((1+qM (L.take i)+bR (G.take j):Nat):Int)+((eX p:Nat):Int)=((1+qM (L.take i)+bR (G.take (j+1)):Nat):Int):=by rw[hst];omega
   refine aD (a8 (aC (sgh [(0,.row j (iT p))] rfl (ag [(4,.pc (I .i64 (eX p:Nat)))] rfl (ag [] rfl ⟨j+1,N,by dsimp only;omega,?_⟩)))));dsimp only;rw[←hadd];exact sl
  have hge2:=geD hb J hj;subst hge2;rw[Al];refine aL (ag [] rfl ⟨i+1,ab,by dsimp only;omega,?_⟩);dsimp only;rw[show 1+qM (L.take (i+1))=1+qM (L.take i)+bR G by rw[ad];omega];exact sl
 have hge:=geD hb aa hi;subst hge;rw[Al];exact aL (sg rfl (aE rtT))
theorem aWy:∀(n:Nat) (c:Core),aY c≤n→aRn c
 | 0,c,h=>by have:=dX c;omega
 | n+1,c,h=>aFf c fun x hx=>aWy n x (by omega)
def r8 (o:List Str) (s:Str):List Str:=if s∈o then o else o++[s]
def lQ (o l:List Str):List Str:=l.foldl r8 o
theorem aOa (o:List Str) {l:List Str}{i:Nat}{s:Str}(h:l[i]?=some s):lQ o (l.take (i+1))=r8 (lQ o (l.take i)) s:=by
 unfold lQ;rw[eO h,B9];rfl
theorem aHs (o:List Str) (s:Str):(r8 o s).length≤o.length+1:=by unfold r8;split<;>simp
theorem sO (o:List Str):∀l:List Str,(lQ o l).length≤o.length+l.length:=by
 intro l
 induction l generalizing o with
 | nil=>exact le_refl _
 | cons s l u=>
  have h1:=u (r8 o s);have h2:=aHs o s;show(lQ (r8 o s) l).length≤_;rw[Ac];omega
def ouO (o:List Str):AObj:=.arr 9 1 (o.map b6) 1
def ouV (o:List Str):V:=.one (.hs 500 0 o.length o.length)
theorem xM (o l:List Str) (h:o.length+l.length≤600000000000):aU Tryz.prog 112 [ouV o,aV l] [(500,ouO o)] (ouV (lQ o l)) [(500,ouO (lQ o l))]:=by
 have N:(l.map b6).length=l.length:=θ _;refine bQ (n:=23) tok Tryz.func112 rfl rfl rfl ?_;refine sg rfl (a8 (sg rfl (aC (aK (fun i:Nat=>mk [(0,ouV (lQ o (l.take i))),(7,aV l),(8,I .i64 ((l.map b6).length:Int)),(9,I .i64 i)] [(500,ouO (lQ o (l.take i)))]) (fun i=>i≤l.length) (fun i=>l.length-i) 0 (Ag _) sl ?_))));intro i hi;refine sg rfl (a8 (aA rfl (fun hb=>?_) (fun hb=>?_)))
 ·have J:=ltD hb N;obtain⟨s,hs⟩:=aJ J;have Z:=bW b6 hs;have u:=aOa o hs;have O:=sO o (l.take i);rw[Ar] at O;generalize lQ o (l.take i)=x at u O ⊢;have aa:=c9 x s (by omega);refine aD (a8 (aC (sgh [(0,.row i (b6 s))] rfl (AWp.sub (Sub.freeze (id:=500) rfl) ?_))));refine sgh [(2,.pc (B (decide (s∈x))))] rfl (aA rfl (fun hb=>?_) (fun hb=>?_))
  ·have hin:¬s∈x:=by simpa using hb
   rw[r8,φ hin] at u;refine ag [] rfl (ag [] rfl ⟨i+1,J,by dsimp only;omega,?_⟩);dsimp only;rw[u];exact sl (he:=⟨Go.AM.hs_ren (by simp) (by simp),rfl,rfl,rfl,trivial⟩) (hh:=⟨⟨_,rfl,by first | exact Go.AM.Ole.arrE (by simp;rfl) | exact Go.AM.Ole.arrS (by simp;rfl)⟩,trivial⟩)
  ·have hin:s∈x:=by simpa using hb
   rw[r8,ξ hin] at u;refine aD (ag [] rfl ⟨i+1,J,by dsimp only;omega,?_⟩);dsimp only;rw[u];exact sl
 have Y:=geD hb N hi;subst Y;rw[Al];exact aL (sg rfl (aE rtT))
def aK8 (p:Str×List C):List C:=[.pt (.str p.1::p.2)]
def suO (s:Str):AObj:=.var 9 [.c (.str s)]
theorem aZr (p:Str×List C) (s:Str):aU Tryz.prog 143 [.one (.c (.pt (.str p.1::p.2))),.one (.vp 9 0)] [(9,suO s)] (B (decide (p.1=s))) [(9,suO s)]:=by
 refine bQ (n:=9) tok Tryz.func143 rfl rfl rfl ?_;exact sg rfl (sg rfl (aE rtT))
theorem a33 (l:List (Str×List C)) (s:Str) (hl:l.length≤600000000000):aU Tryz.prog 147 [.one (.c (.sl 1 (l.map aK8))),.one (.clo 143 [.vp 9 0])] [(9,suO s)] (I .i64 (aV7 (fun p=>decide (p.1=s)) l 0)) [(9,suO s)]:=by
 have J:(l.map aK8).length=l.length:=θ _;generalize Y:(fun p:Str×List C=>decide (p.1=s))=P;refine bQ (n:=19) tok Tryz.func147 rfl rfl rfl ?_;refine sg rfl (a8 (sg rfl (aC (aK (fun i:Nat=>mk [(0,.one (.c (.sl 1 (l.map aK8)))),(1,.one (.clo 143 [.vp 9 0])),(7,I .i64 ((l.map aK8).length:Int)),(8,I .i64 i)] [(9,suO s)]) (fun i=>i≤l.length∧aV7 P l 0=aV7 P (l.drop i) i) (fun i=>l.length-i) 0 ⟨Ag _,rfl⟩ sl ?_))));intro i ⟨hi,hid⟩;refine sg rfl (a8 (aA rfl (fun hb=>?_) (fun hb=>?_)))
 ·have u:=ltD hb J;obtain⟨p,hp⟩:=aJ u;have Z:=bW aK8 hp;have hc:aU Tryz.prog 143 ([.one (.c (.pt (.str p.1::p.2)))]++([.vp 9 0]:List R).map V.one) [(9,suO s)] (B (P p)) [(9,suO s)]:=by rw[←Y];exact aZr p s
  have N:l.drop i=p::l.drop (i+1):=by rw[Bu u,(Aa.1 hp).2]
  rw[N,aV7] at hid;refine aD (a8 (aC (sg rfl (skh 5 [(3,.row i (aK8 p))] rfl (kv (args:=[.one (.c (.pt (.str p.1::p.2)))]) hc ?_)))));refine az (aA rfl (fun hb=>?_) (fun hb=>?_))
  ·have hb:P p=true:=hb;rw[ξ hb] at hid;rw[hid];exact sg rfl (aE rtT)
  ·have hb:P p=false:=hb;rw[φ (by rw[hb];exact Av)] at hid;exact aD (ag [] rfl ⟨i+1,⟨u,hid⟩,by dsimp only;omega,sl⟩)
 have O:=geD hb J hi;subst O;rw[C7,aV7] at hid;rw[hid];exact aL (sg rfl (aE (rtT (v:=I .i64 (-1)) (hc:=.refl))))
theorem a35 (l:List (Str×List C)) (s:Str) (hl:l.length≤600000000000):aU Tryz.prog 142 [.one (.c (.sl 1 (l.map aK8))),.one (.clo 143 [.vp 9 0])] [(9,suO s)] (B (decide (s∈l.map (·.1)))) [(9,suO s)]:=by
 have h:=a33 l s hl;have u:decide (s∈l.map (·.1))=l.any fun p=>decide (p.1=s):=by
  rw[Bool.eq_iff_iff];simp only[decide_eq_true_eq,List.any_eq_true,Af]
 rw[u,←aO0 _ l 0];refine bQ (n:=9) tok Tryz.func142 rfl rfl rfl ?_;refine sg rfl (sk 2 rfl (kc h ?_));exact kz 2 rfl (aE rtT)
set_option maxHeartbeats 4000000
def oO (f:Int) (s:Str) (o:List Str) (x:Str):List Str:=if ¬f=7∨¬x=s then lQ o [x] else o
def aA1 (f:Int) (s:Str) (o l:List Str):List Str:=l.foldl (oO f s) o
mutual
def tyR:Core→List Str
 | .mk f _ s t ks bs al=>kD al (j5 bs (j4 f s ks (lQ [] (tfR t))))
def j4 (f:Int) (s:Str):List Core→List Str→List Str
 | [],o=>o
 | c::l,o=>j4 f s l (aA1 f s o (tyR c))
def j5:List Bind→List Str→List Str
 | [],o=>o
 | .mk _ t c::l,o=>j5 l (lQ (lQ o (tfR t)) (tyR c))
def kD:List Alt→List Str→List Str
 | [],o=>o
 | .mk _ _ _ _ c::l,o=>kD l (lQ o (tyR c))
def cT:Core→Nat
 | .mk _ _ _ t ks bs al=>fw t+a6z ks+a60 bs+a61 al
def a6z:List Core→Nat
 | []=>0
 | c::l=>cT c+a6z l
def a60:List Bind→Nat
 | []=>0
 | .mk _ t c::l=>fw t+cT c+a60 l
def a61:List Alt→Nat
 | []=>0
 | .mk _ _ _ _ c::l=>cT c+a61 l
end
theorem aLh (f:Int) (s:Str) (o:List Str) (x:Str):(oO f s o x).length≤o.length+1:=by
 unfold oO;split
 ·exact sO o [x]
 ·omega
theorem aGc (f:Int) (s:Str):∀(l o:List Str),(aA1 f s o l).length≤o.length+l.length
 | [],o=>le_refl _
 | x::l,o=>by
  have h1:=aGc f s l (oO f s o x);have h2:=aLh f s o x;show(aA1 f s (oO f s o x) l).length≤_;rw[Ac];omega
theorem y2 {f:Int}{s:Str}:∀{l:List Core}{o:List Str}{i:Nat}{c:Core},l[i]?=some c→j4 f s (l.take (i+1)) o=aA1 f s (j4 f s (l.take i) o) (tyR c)
 | d::l,o,0,c,h=>by simp at h;subst h;rw[An,Bj,Bj,j4,j4,j4]
 | d::l,o,i+1,c,h=>by rw[An,An,j4,j4];exact y2 (l:=l) (by simpa using h)
theorem y3:∀{l:List Bind}{o:List Str}{i:Nat}{b:Bind},l[i]?=some b→j5 (l.take (i+1)) o=lQ (lQ (j5 (l.take i) o) (tfR b.ty)) (tyR b.body)
 | .mk s t c::l,o,0,b,h=>by simp at h;subst h;rw[An,Bj,Bj,j5,j5,j5];rfl
 | .mk s t c::l,o,i+1,b,h=>by rw[An,An,j5,j5];exact y3 (l:=l) (by simpa using h)
theorem y4:∀{l:List Alt}{o:List Str}{i:Nat}{a:Alt},l[i]?=some a→kD (l.take (i+1)) o=lQ (kD (l.take i) o) (tyR a.body)
 | .mk f n s v c::l,o,0,a,h=>by simp at h;subst h;rw[An,Bj,Bj,kD,kD,kD];rfl
 | .mk f n s v c::l,o,i+1,a,h=>by rw[An,An,kD,kD];exact y4 (l:=l) (by simpa using h)
theorem aLp {f:Int}{s:Str}{o l:List Str}{j:Nat}{x:Str}(h:l[j]?=some x):aA1 f s o (l.take (j+1))=oO f s (aA1 f s o (l.take j)) x:=by
 unfold aA1;rw[Bh,h,B9];rfl
theorem aYi (o:List Str) (s:Str):o.length≤(r8 o s).length:=by
 unfold r8;split
 ·exact le_refl _
 ·simp
theorem uG:∀(l o:List Str),o.length≤(lQ o l).length
 | [],o=>le_refl _
 | x::l,o=>le_trans (aYi o x) (uG l (r8 o x))
theorem aLr (f:Int) (s:Str):∀(l o:List Str),o.length≤(aA1 f s o l).length
 | [],o=>le_refl _
 | x::l,o=>by
  refine le_trans ?_ (aLr f s l (oO f s o x));unfold oO;split
  ·exact uG [x] o
  ·exact le_refl _
theorem aU6 (f:Int) (s:Str):∀(l:List Core) (o:List Str),o.length≤(j4 f s l o).length
 | [],o=>by rw[j4];exact le_refl _
 | c::l,o=>by rw[j4];exact le_trans (aLr f s _ o) (aU6 f s l _)
theorem aLe:∀(l:List Bind) (o:List Str),o.length≤(j5 l o).length
 | [],o=>by rw[j5];exact le_refl _
 | .mk s t c::l,o=>by rw[j5];exact le_trans (le_trans (uG _ o) (uG _ _)) (aLe l _)
theorem aF7:∀(l:List Alt) (o:List Str),o.length≤(kD l o).length
 | [],o=>by rw[kD];exact le_refl _
 | .mk f n s v c::l,o=>by rw[kD];exact le_trans (uG _ o) (aF7 l _)
theorem aF4 (f:Int) (s:Str):∀(l:List Core) (o:List Str) (i:Nat),(j4 f s (l.take i) o).length≤(j4 f s l o).length
 | [],o,i=>by rw[List.take_nil];exact le_refl _
 | c::l,o,0=>by rw[Bj,j4];exact aU6 f s _ o
 | c::l,o,i+1=>by rw[An,j4,j4];exact aF4 f s l _ i
theorem aF5:∀(l:List Bind) (o:List Str) (i:Nat),(j5 (l.take i) o).length≤(j5 l o).length
 | [],o,i=>by rw[List.take_nil];exact le_refl _
 | .mk s t c::l,o,0=>by rw[Bj];rw[show j5 [] o=o from by rw[j5]];exact aLe _ o
 | .mk s t c::l,o,i+1=>by rw[An,j5,j5];exact aF5 l _ i
theorem aF6:∀(l:List Alt) (o:List Str) (i:Nat),(kD (l.take i) o).length≤(kD l o).length
 | [],o,i=>by rw[List.take_nil];exact le_refl _
 | .mk f n s v c::l,o,0=>by rw[Bj];rw[show kD [] o=o from by rw[kD]];exact aF7 _ o
 | .mk f n s v c::l,o,i+1=>by rw[An,kD,kD];exact aF6 l _ i
mutual
def tyM:Core→Nat
 | .mk f n s t ks bs al=>max (fw t) (max (tyR (.mk f n s t ks bs al)).length (max (aU7 ks) (max (aLk bs) (aR8 al))))
def aU7:List Core→Nat
 | []=>0
 | c::l=>max (tyM c) (aU7 l)
def aLk:List Bind→Nat
 | []=>0
 | .mk _ t c::l=>max (fw t) (max (tyM c) (aLk l))
def aR8:List Alt→Nat
 | []=>0
 | .mk _ _ _ _ c::l=>max (tyM c) (aR8 l)
end
theorem a0v {f n:Int}{s:Str}{t:Ty}{ks:List Core}{bs:List Bind}{al:List Alt}{K:Nat}(h:tyM (.mk f n s t ks bs al)≤K):fw t≤K∧(tyR (.mk f n s t ks bs al)).length≤K∧aU7 ks≤K∧aLk bs≤K∧aR8 al≤K:=by
 rw[tyM] at h;omega
theorem aLm (c:Core):(tyR c).length≤tyM c:=by cases c;rw[tyM];omega
theorem aF8:∀{l:List Core}{c:Core},c∈l→tyM c≤aU7 l
 | d::l,c,h=>by
  rw[aU7];rcases Ap.1 h with rfl | h
  ·omega
  ·have:=aF8 h;omega
theorem aF9:∀{l:List Bind}{b:Bind},b∈l→fw b.ty≤aLk l∧tyM b.body≤aLk l
 | .mk s t c::l,b,h=>by
  rw[aLk];rcases Ap.1 h with rfl | h
  ·show fw t≤_∧tyM c≤_;omega
  ·have:=aF9 h;omega
theorem aGa:∀{l:List Alt}{a:Alt},a∈l→tyM a.body≤aR8 l
 | .mk f n s v c::l,a,h=>by
  rw[aR8];rcases Ap.1 h with rfl | h
  ·show tyM c≤_;omega
  ·have:=aGa h;omega
def aFp (c:Core):Prop:=aY c≤570000000000→tyM c≤400000000→aU Tryz.prog 74 [.pa (aB c)] [] (aV (tyR c)) []
theorem aAg (c:Core) (ih:∀x,aY x<aY c→aFp x):aFp c:=by
 intro hsz hcT;obtain⟨f,n,s,t,ks,bs,al⟩:=c;obtain⟨ihk,ihb,iha,hkl,hbl,hal⟩:= @iW f n s t ks bs al;obtain⟨hMt,N,hMk,hMb,hMa⟩:=a0v hcT;rw[tyR] at N ⊢;have hkB:(aQ bs).length=bs.length:=by rw[bH,θ]
 have hkK:(aO ks).length=ks.length:=by rw[aR,θ]
 have hkA:(bV al).length=al.length:=by rw[bF,θ]
 have htf:=aIw t (by omega);have htl:=a25 t;have hmo:aU Tryz.prog 112 [.one (.c .nl),aV (tfR t)] [] (ouV (lQ [] (tfR t))) [(500,ouO (lQ [] (tfR t)))]:=aU.nilArg (pre:=[]) (post:=[aV (tfR t)]) (hin:=[]) (xM [] (tfR t) (by simp;omega)) rfl;have hol:=sO [] (tfR t);simp only[length_nil] at hol;generalize lQ [] (tfR t)=o0 at hmo hol N ⊢;refine bQ (n:=76) tok Tryz.func74 rfl rfl rfl ?_;refine sg rfl (sk 2 rfl (kc htf ?_));refine kc hmo ?_;refine kz 1 rfl (a8 (sg rfl (aC (aK (fun i:Nat=>mk [(1,.one (.vp 1 0)),(3,ouV (j4 f s (ks.take i) o0)),(17,.one (.c (.sl 10 (aO ks)))),(18,I .i64 ((aO ks).length:Int)),(19,I .i64 i)] [(500,ouO (j4 f s (ks.take i) o0)),(1,.var 37 (aW (.mk f n s t ks bs al)))]) (fun i=>i≤ks.length) (fun i=>ks.length-i) 0 (Ag _) sl ?_))));intro i hi;have hl1:(j4 f s (ks.take i) o0).length≤400000000:=le_trans (aF4 f s ks o0 i) (le_trans (aLe bs _) (le_trans (aF7 al _) N));refine sg rfl (a8 (aA rfl (fun hb=>?_) (fun hb=>?_)))
 ·have J:=ltD hb hkK;obtain⟨k,hki⟩:=aJ J;have hki':=dB hki;have hm:=η hki;have hkm:=aF8 hm;have hc:=ih k (ihk k hm) (by have:=ihk k hm;omega) (by omega);have hkt:(tyR k).length≤400000000:=by have:=aLm k;omega
  have u:=y2 (f:=f) (s:=s) (o:=o0) hki;generalize j4 f s (ks.take i) o0=o at u hl1 ⊢;have hkf:((tyR k).map b6).length=(tyR k).length:=θ _;generalize tyR k=Z at hc hkt u hkf;refine aD (a8 (aC (sgh [(0,.row i (aB k))] rfl (sk 1 rfl (kc hc ?_)))));refine kz 2 rfl (aC (aK (fun j:Nat=>mk [(1,.one (.vp 1 0)),(3,ouV (aA1 f s o (Z.take j))),(17,.one (.c (.sl 10 (aO ks)))),(18,I .i64 ((aO ks).length:Int)),(19,I .i64 i),(24,aV Z),(25,I .i64 ((Z.map b6).length:Int)),(26,I .i64 j)] [(500,ouO (aA1 f s o (Z.take j))),(1,.var 37 (aW (.mk f n s t ks bs al)))]) (fun j=>j≤Z.length) (fun j=>Z.length-j) 0 (Ag _) sl ?_));intro j hj;refine sg rfl (a8 (aA rfl (fun hb=>?_) (fun hb=>?_)))
  ·have hlj:=ltD hb hkf;obtain⟨x,hx⟩:=aJ hlj;have hx':=bW b6 hx;have aa:=aLp (f:=f) (s:=s) (o:=o) hx;have hpl:=aGc f s (Z.take j) o;rw[Ar] at hpl;generalize aA1 f s o (Z.take j)=q at aa hpl ⊢;have hmq:=xM q [x] (by simp;omega);refine aD (a8 (aC (sgh [(0,.row j (b6 x))] rfl (a8 (agF 4 [] rfl rfl rfl (aA rfl (fun hb=>?_) (fun hb=>?_)))))))
   ·have hb':¬f=7∨¬x=s:=by
     by_cases h7:f=7
     ·refine .inr fun hxs=>?_
      subst h7 hxs;have hb2:(bif !decide ((7:Int)=7) then true else !decide (x=x))=true:=hb;simp at hb2
     ·exact .inl h7
    rw[oO,ξ hb'] at aa;refine aI mixed (ak 3 [(2,.all)] rfl (kc hmq ?_));refine kz 1 rfl (ag [] rfl ⟨j+1,hlj,by dsimp only;omega,?_⟩);dsimp only;rw[aa];exact sl
   ·have hb':¬(¬f=7∨¬x=s):=by
     intro h;by_cases h7:f=7
     ·have hxs:=h.resolve_left (fun h=>h h7);subst h7;simp at hb;exact hxs hb.2
     ·simp at hb;exact h7 hb.1
    rw[oO,φ hb'] at aa;refine aD (ag [] rfl ⟨j+1,hlj,by dsimp only;omega,?_⟩);dsimp only;rw[aa];exact sl
  have O:=geD hb hkf hj;subst O;rw[Al];refine aL (ag [] rfl ⟨i+1,J,by dsimp only;omega,?_⟩);dsimp only;rw[u];exact sl
 have O:=geD hb hkK hi;subst O;rw[Al] at hl1 ⊢;generalize j4 f s ks o0=Y at hl1 N ⊢;refine aL (a8 (sg rfl (aC (aK (fun i:Nat=>mk [(1,.one (.vp 1 0)),(3,ouV (j5 (bs.take i) Y)),(46,.one (.c (.sl 15 (aQ bs)))),(47,I .i64 ((aQ bs).length:Int)),(48,I .i64 i)] [(500,ouO (j5 (bs.take i) Y)),(1,.var 37 (aW (.mk f n s t ks bs al)))]) (fun i=>i≤bs.length) (fun i=>bs.length-i) 0 (Ag _) sl ?_))));intro i hi;have hl3:(j5 (bs.take i) Y).length≤400000000:=le_trans (aF5 bs Y i) (le_trans (aF7 al _) N);refine sg rfl (a8 (aA rfl (fun hb=>?_) (fun hb=>?_)))
 ·have J:=ltD hb hkB;obtain⟨b,hbi⟩:=aJ J;have hbi':=bX hbi;have hm:=η hbi;have hbm:=aF9 hm;have hc:=ih b.body (ihb b hm) (by have:=ihb b hm;omega) (by omega);have u:=y3 (o:=Y) hbi;obtain⟨s',t',c'⟩:=b;have hbm:fw t'≤aLk bs∧tyM c'≤aLk bs:=hbm;have hc:aU Tryz.prog 74 [.pa (aB c')] [] (aV (tyR c')) []:=hc;have u:j5 (bs.take (i+1)) Y=lQ (lQ (j5 (bs.take i) Y) (tfR t')) (tyR c'):=u;have hf':=aIw t' (by omega);have g1:=a25 t';have g2:(tyR c').length≤400000000:=by have:=aLm c';omega
  generalize j5 (bs.take i) Y=o at u hl3 ⊢;have g3:=sO o (tfR t');have m1:=xM o (tfR t') (by omega);have m2:=xM (lQ o (tfR t')) (tyR c') (by omega);refine aD (a8 (aC (sgh [(0,.row i (b8 (.mk s' t' c')))] rfl (aI mixed (ak 3 [] rfl (kc hf' ?_))))));refine kc m1 ?_;refine ak 2 [] rfl (kc hc ?_);refine kc m2 ?_;refine kz 1 rfl (ag [] rfl ⟨i+1,J,by dsimp only;omega,?_⟩);dsimp only;rw[u];exact sl
 have O:=geD hb hkB hi;subst O;rw[Al] at hl3 ⊢;generalize j5 bs Y=o2 at hl3 N ⊢;refine aL (a8 (sg rfl (aC (aK (fun i:Nat=>mk [(3,ouV (kD (al.take i) o2)),(63,.one (.c (.sl 14 (bV al)))),(64,I .i64 ((bV al).length:Int)),(65,I .i64 i)] [(500,ouO (kD (al.take i) o2))]) (fun i=>i≤al.length) (fun i=>al.length-i) 0 (Ag _) sl ?_))));intro i hi;have hl5:(kD (al.take i) o2).length≤400000000:=le_trans (aF6 al o2 i) N;refine sg rfl (a8 (aA rfl (fun hb=>?_) (fun hb=>?_)))
 ·have J:=ltD hb hkA;obtain⟨a,hai⟩:=aJ J;have hai':=fZ hai;have hm:=η hai;have ham:=aGa hm;have hc:=ih a.body (iha a hm) (by have:=iha a hm;omega) (by omega);have u:=y4 (o:=o2) hai;obtain⟨f',n',s',v',c'⟩:=a;have ham:tyM c'≤aR8 al:=ham;have hc:aU Tryz.prog 74 [.pa (aB c')] [] (aV (tyR c')) []:=hc;have u:kD (al.take (i+1)) o2=lQ (kD (al.take i) o2) (tyR c'):=u;have g2:(tyR c').length≤400000000:=by have:=aLm c';omega
  generalize kD (al.take i) o2=o at u hl5 ⊢;have m2:=xM o (tyR c') (by omega);refine aD (a8 (aC (sgh [(0,.row i (c7 (.mk f' n' s' v' c')))] rfl (aI mixed (ak 3 [] rfl (kc hc ?_))))));refine kc m2 ?_;refine kz 1 rfl (ag [] rfl ⟨i+1,J,by dsimp only;omega,?_⟩);dsimp only;rw[u];exact sl
 have O:=geD hb hkA hi;subst O;rw[Al] at hl5 ⊢;refine aL (AWp.sub (Sub.freeze (id:=500) rfl) ?_);exact sg rfl (aE (rtT (hc:=hs_all rfl rfl (by simp) rfl)))
theorem aCz:∀(n:Nat) (c:Core),aY c≤n→aFp c
 | 0,c,h=>by have:=dX c;omega
 | n+1,c,h=>aAg c fun x hx=>aCz n x (by omega)
mutual
noncomputable def iD:Ty→List (Str×Ty)→Ty
 | .mk f n s a,ps=>
  if f=2 then(match ps.find? (fun p=>decide (p.1=s)) with | some p=>p.2 | none=>.mk f n s a)
  else if f=4 then .mk 4 0 [] (fO a ps)
  else if f=5 then .mk 5 0 (unN s (a.headD zTy) ps) (fO a (unP s (a.headD zTy) ps))
  else .mk f n s a
noncomputable def fO:List Ty→List (Str×Ty)→List Ty
 | [],_=>[]
 | t::l,ps=>iD t ps::fO l ps
end
structure PsOk (ps:List (Str×Ty)):Prop where
 nd:(ps.map (·.1)).Nodup
 ok:∀p∈ps,wfS p.2=true∧fvm p.2≤700000
 len:ps.length≤700000+1
theorem aFa:∀{ps:List (Str×Ty)}{s:Str}{u:Ty},(ps.map (·.1)).Nodup→(s,u)∈ps→ps.find? (fun p=>decide (p.1=s))=some (s,u)
 | p::ps,s,u,hn,h=>by
  rw[Am,B3] at hn;rcases Ap.1 h with h | h
  ·subst h;rw[Cn (by simp)]
  ·have:¬p.1=s:=fun e=>hn.1 (Af.2 ⟨_,h,e.symm⟩)
   rw[Co (by simpa using this)];exact aFa hn.2 h
theorem n5 {ps:List (Str×Ty)}{s:Str}(h:¬s∈ps.map (·.1)):ps.find? (fun p=>decide (p.1=s))=none:=by
 rw[List.find?_eq_none];intro p hp hb;exact h (Af.2 ⟨p,hp,by simpa using hb⟩)
theorem iA:∀(a b:List Str),a.Nodup→(∀x∈a,x∈b)→a.length≤b.length:=by
 intro a
 induction a with
 | nil=>intro b _ _;simp
 | cons x a I=>
  intro b hn hs;rw[B3] at hn;have h1:=I (b.erase x) hn.2 fun y u=>(List.mem_erase_of_ne (by rintro rfl;exact hn.1 u)).2 (hs y (ω _ u))
  have hx:=hs x ζ;rw[List.length_erase_of_mem hx] at h1;have:=List.length_pos_of_mem hx;rw[Ac];omega
theorem aU5 {nm:Str}{body:Ty}{ps:List (Str×Ty)}(h:(ps.map (·.1)).Nodup):((unF nm body ps).map (·.1)).Nodup:=List.Sublist.nodup ((List.filter_sublist (l:=ps)).map _) h
theorem iF {nm:Str}{body:Ty}{ps:List (Str×Ty)}{p:Str×Ty}:p∈unF nm body ps↔p∈ps∧¬p.1=nm∧p.1∈tfR body:=by
 unfold unF;rw[C1,Aj];simp
theorem aD0 {nm:Str}{body:Ty}{ps:List (Str×Ty)}(h:(ps.map (·.1)).Nodup):(unF nm body ps).length≤(tfR body).length:=by
 have:=iA _ (tfR body) (aU5 (nm:=nm) (body:=body) h) fun x hx=>by
  obtain⟨p,hp,rfl⟩:=Af.1 hx;exact(iF.1 hp).2.2
 rwa [θ] at this
theorem pB:∀{l:List (Str×Ty)},(∀p∈l,fvm p.2≤700000)→(unC l).length≤l.length*700000
 | [],_=>by simp[unC]
 | p::l,h=>by
  have h1:=pB (l:=l) fun q u=>h q (ω _ u)
  have h2:=h p ζ;have h3:=j1 p.2;unfold unC at h1 ⊢;rw[Ca,κ,Ac,Nat.succ_mul];omega
theorem aPh {n:Int}{z:Str}:fvm (.mk 2 n z [])=1:=by
 rw[fvm,tfR,ξ rfl,aPg];rfl
theorem aLc {n:Int}{z:Str}:wfS (.mk 2 n z [])=true:=by
 rw[wfS,φ (by decide),φ (by decide),aDz];rfl
theorem PsOk.un {ps:List (Str×Ty)}(h:PsOk ps) (nm:Str) (body:Ty) (hb:fvm body≤700000):PsOk (unP nm body ps):=by
 have h1:=aU5 (nm:=nm) (body:=body) h.nd;have h2:=aD0 (nm:=nm) (body:=body) h.nd;have h3:=j1 body;have h4:∀p∈unF nm body ps,wfS p.2=true∧fvm p.2≤700000:=fun p hp=>h.ok p (iF.1 hp).1
 unfold unP;split
 ·refine⟨?_,fun p hp=>?_,by rw[κ];show _+1≤_;omega⟩
  ·rw[At,Ct];refine⟨h1,by simp,fun x hx y u=>?_⟩;have u:y=nm:=by simpa using u
   obtain⟨p,hp,rfl⟩:=Af.1 hx;rw[u];exact(iF.1 hp).2.1
  ·rcases τ.1 hp with hp | hp
   ·exact h4 p hp
   ·rw[ε.1 hp];exact⟨aLc,by show fvm (.mk 2 0 _ [])≤_;rw[aPh];decide⟩
 ·exact⟨h1,h4,by omega⟩
theorem aWv (hI:dJ 540000000000):∀(k:Nat) (t:Ty),tn t≤k→wfS t=true→fvm t≤700000→∀ps,PsOk ps→wfS (iD t ps)=true∧aU Tryz.prog 78 [tyV t,aV (ps.map (·.1)),aR0 (ps.map (·.2))] [] (tyV (iD t ps)) []:=by
 intro k
 induction k with
 | zero=>intro t h;have:=kJ t;omega
 | succ k ih=>
 intro t h hw hf ps I;obtain⟨f,n,s,a⟩:=t;have O:=aAb (tn (.mk f n s a)) (.mk f n s a) (le_refl _) hw;obtain⟨_,Y,w4,w5,w0⟩:=oE hw;have Z:∀u∈a,fvm u≤700000:=fun u hu=>le_trans (uQ hu) hf
 rw[tn] at h;rw[iD];by_cases h2:f=2
 ·subst h2;rw[ξ rfl];have J:=aQq (ps.map (·.1)) s (by rw[θ];have:=I.len;omega);rcases rE s (ps.map (·.1)) 0 with⟨i,e1,e2⟩ | ⟨e1,e2⟩
  ·rw[A5] at e2;obtain⟨⟨s',u⟩,hu,e3⟩:=Bq.1 e2;have e3:s'=s:=e3;subst e3;have hm:=η hu;have hu':((ps.map (·.2)).map bD)[i]?=some (bD u):=bW bD (by rw[A5,hu];rfl);obtain⟨g2,g3⟩:=I.ok _ hm;have ho:=aAb (tn u) u (le_refl _) g2;rw[e1,Int.zero_add] at J;rw[aFa I.nd hm];refine⟨g2,?_⟩;dsimp only;refine bQ (n:=48) tok Tryz.func78 rfl rfl rfl ?_;refine sg rfl (a8 (sg rfl (aC (sg rfl (aA rfl (fun _=>sk 3 rfl (kc J ?_)) nofun)))));refine kz 1 rfl (sg rfl (aA rfl (fun _=>skh 4 [(2,.row i (bD u))] rfl (kc ho ?_)) (fun hb=>absurd (χ hb) (by omega))));exact kz 1 rfl (aE (rtC trw))
  ·rw[e2] at J;rw[n5 e1];refine⟨hw,?_⟩;dsimp only;refine bQ (n:=48) tok Tryz.func78 rfl rfl rfl ?_;refine sg rfl (a8 (sg rfl (aC (sg rfl (aA rfl (fun _=>sk 3 rfl (kc J ?_)) nofun)))));refine kz 1 rfl (sg rfl (aA rfl (fun hb=>absurd (ψ hb) (by omega)) (fun _=>aD (sk 1 rfl (kc O ?_)))));exact kz 1 rfl (aE (rtC trw))
 rw[φ h2];by_cases h4:f=4
 ·subst h4;obtain⟨rfl,rfl,u,v,rfl⟩:=w4 rfl;rw[tns,tns,tns] at h;obtain⟨a1,a4⟩:=ih u (by omega) (Y u (by simp)) (Z u (by simp)) ps I;obtain⟨b1,b4⟩:=ih v (by omega) (Y v (by simp)) (Z v (by simp)) ps I;rw[ξ rfl,fO,fO,fO];have cA:=aUc (iD u ps) (iD v ps);generalize iD u ps=u' at *;generalize iD v ps=v' at *;have cA:aU Tryz.prog 116 [tyV u',tyV v'] [] (tyV (.mk 4 0 [] [u',v'])) []:=cA;refine⟨?_,?_⟩
  ·rw[wfS,ξ rfl,aDz,aDz,aDz,a1,b1];rfl
  ·refine bQ (n:=48) tok Tryz.func78 rfl rfl rfl ?_;refine sg rfl (a8 (sg rfl (aC (sg rfl (aA rfl nofun (fun _=>sg rfl (aA rfl (fun _=>skh 6 [(2,.row 0 (bD u))] rfl (kc a4 ?_)) nofun)))))));refine ak 6 [(9,.row 1 (bD v))] rfl (kc b4 ?_);refine kc cA ?_;exact kz 1 rfl (aE (rtC trw))
 rw[φ h4];by_cases h5:f=5
 ·subst h5;obtain⟨rfl,body,rfl⟩:=w5 rfl;rw[tns,tns] at h;have hwb:=Y body (by simp);have aa:=Z body (by simp);have hP:=I.un s body aa;obtain⟨a1,a4⟩:=ih body (by omega) hwb aa (unP s body ps) hP;rw[ξ rfl];show wfS (.mk 5 0 (unN s body ps) (fO [body] (unP s body ps)))=true∧aU Tryz.prog _ _ _ (tyV (.mk 5 0 (unN s body ps) (fO [body] (unP s body ps)))) _;rw[fO,fO];have hall:=aZf (unN s body ps) (iD body (unP s body ps)) (aAb _ _ (le_refl _) a1);have hfl:=j1 body;have hCl:∀l:List (Str×Ty),(∀p∈l,p∈ps)→l.length≤ps.length→(unC (unF s body l)).length≤540000000000:=fun l h1 h2=>by
   have h3:=pB (l:=unF s body l) fun p hp=>(I.ok p (h1 p (iF.1 hp).1)).2
   have h4:(unF s body l).length≤l.length:=length_filter_le _ _;have h5:=I.len;have h6:(unF s body l).length*700000≤(700000+1)*700000:=Aw _ (by omega);have h7:(700000+1)*700000≤540000000000:=by decide
   omega
  have hC1:=hCl ps (fun p hp=>hp) (le_refl _);have hU:(unC (unF s body ps)).length+(tfR body).length≤540000000000:=by
   have h3:=pB (l:=unF s body ps) fun p hp=>(I.ok p (iF.1 hp).1).2
   have h4:=aD0 (nm:=s) (body:=body) I.nd;have h6:(unF s body ps).length*700000≤700000*700000:=Aw _ (by omega);have h7:700000*700000=490000000000:=by decide
   omega
  have cU:=aUb s body (iD body (unP s body ps)) ps (by have:=I.len;omega) (qF _ body (le_refl _) hwb (le_trans aa (by decide))) (by omega) hall
   (fun p hp=>⟨qF _ p.2 (le_refl _) (I.ok p hp).1 (le_trans (I.ok p hp).2 (by decide)),le_trans (j1 p.2) (le_trans (I.ok p hp).2 (by decide))⟩)
   ⟨hC1,fun i=>hCl (ps.take i) (fun p hp=>Bb hp) (by rw[Ar];omega)⟩ (fun k hk=>hI k (by omega)) a4
  generalize iD body (unP s body ps)=b' at *;generalize unN s body ps=N at *;refine⟨?_,?_⟩
  ·rw[wfS,φ (by decide),ξ rfl,aDz,aDz,a1];rfl
  ·refine bQ (n:=48) tok Tryz.func78 rfl rfl rfl ?_;refine sg rfl (a8 (sg rfl (aC (sg rfl (aA rfl nofun (fun _=>sg rfl (aA rfl nofun (fun _=>sg rfl (aA rfl (fun _=>sk 3 rfl (kc cU ?_)) nofun)))))))));exact kz 1 rfl (aE (rtC trw))
 rw[φ h5];refine⟨hw,?_⟩;refine bQ (n:=48) tok Tryz.func78 rfl rfl rfl ?_;refine sg rfl (a8 (sg rfl (aC (sg rfl (aA rfl (fun hb=>absurd (ψ hb) h2) (fun _=>sg rfl (aA rfl (fun hb=>absurd (ψ hb) h4) (fun _=>sg rfl (aA rfl (fun hb=>absurd (ψ hb) h5) (fun _=>aD (sk 1 rfl (kc O ?_))))))))))));exact kz 1 rfl (aE (rtC trw))
theorem aR6 {nm:Str}{body:Ty}{ps:List (Str×Ty)}(h:∀p∈ps,p.1∈tfR body→p.1=nm):unN nm body ps=nm∧unP nm body ps=[]:=by
 have u:unF nm body ps=[]:=by
  unfold unF;rw[List.filter_eq_nil_iff];intro p hp hb;rw[Aj] at hb;have h1:¬p.1=nm:=by simpa using hb.1
  exact h1 (h p hp (ψ hb.2))
 have I:unC (unF nm body ps)=[]:=by rw[u];rfl
 exact⟨by unfold unN;rw[I,φ (by simp)],by unfold unP;rw[I,φ (by simp),u]⟩
theorem aD3:∀(k:Nat) (t:Ty),tn t≤k→wfS t=true→∀ps:List (Str×Ty),(∀p∈ps,¬p.1∈tfR t)→iD t ps=t:=by
 intro k
 induction k with
 | zero=>intro t h;have:=kJ t;omega
 | succ k N=>
 intro t h hw ps hp;obtain⟨f,n,s,a⟩:=t;obtain⟨_,J,Y,Z,w0⟩:=oE hw;rw[tn] at h;rw[iD];by_cases h2:f=2
 ·subst h2
  rw[ξ rfl,n5 fun hs=>by
   obtain⟨p,I,e⟩:=Af.1 hs
   exact hp p I (by rw[tfR,ξ rfl,e];simp)]
 rw[φ h2];by_cases h4:f=4
 ·subst h4;obtain⟨rfl,rfl,u,v,rfl⟩:=Y rfl;rw[tns,tns,tns] at h;rw[ξ rfl,fO,fO,fO,N u (by omega) (J u (by simp)) ps fun p I hx=>hp p I (aXn hx),N v (by omega) (J v (by simp)) ps fun p I hx=>hp p I (aXm hx)]
 rw[φ h4];by_cases h5:f=5
 ·subst h5;obtain⟨rfl,body,rfl⟩:=Z rfl;rw[tns,tns] at h;obtain⟨e1,e2⟩:=aR6 (nm:=s) (body:=body) (ps:=ps) fun p I hx=>Classical.byContradiction fun O=>hp p I (a03 hx O)
  rw[ξ rfl];show Ty.mk 5 0 (unN s body ps) (fO [body] (unP s body ps))=_;rw[e1,e2,fO,fO,N body (by omega) (J body (by simp)) [] fun p I=>by cases I]
 rw[φ h5]
theorem aQd (u:dJ 540000000000) (t:Ty) (hw:wfS t=true) (hf:fvm t≤700000):aU Tryz.prog 48 [tyV t] [] (tyV t) []:=by
 have h4:=(aWv u (tn t) t (le_refl _) hw hf [] ⟨by simp,fun p hp=>(by cases hp),by simp⟩).2
 rw[aD3 (tn t) t (le_refl _) hw [] fun p hp=>by cases hp] at h4;refine bQ (n:=5) tok Tryz.func48 rfl rfl rfl ?_;refine sg rfl (sk 1 rfl (kc h4 ?_));exact kz 1 rfl (aE (rtC trw))
end Go.Proofs.YtockgoadliilhaaGreatDoor
