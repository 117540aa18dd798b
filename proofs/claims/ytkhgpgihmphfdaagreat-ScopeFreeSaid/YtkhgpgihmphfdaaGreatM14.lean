/-
  The law ScopeFree: its row.
-/
import Derived.Test.YtkhgpgihmphfdaaGreatM13
import Derived.Test.YtkhgpgihmphfdaaGreatRows
open List (append_assoc append_nil cons_append drop_append_of_le_length length_append length_cons length_drop length_map length_nil length_take map_append map_cons map_nil mem_append mem_cons mem_cons_of_mem mem_cons_self mem_of_mem_take mem_singleton nil_append not_mem_nil take_append_of_le_length take_succ_cons take_zero)
open Nat (le_of_lt le_refl le_trans lt_irrefl zero_add zero_le)
namespace Go.Proofs.YtkhgpgihmphfdaaGreat
open Go Go.AM
set_option maxRecDepth 20000
set_option maxHeartbeats 4000000
def nm2:List Str:=[[102],[103]]
def b2A:Bd:=.mk [102] 0 false jP (vX 4 [103])
def b2B:Bd:=.mk [103] 8 false jP (vX 12 [102])
def aMv:List Bd:=[b2A,b2B]
theorem aWf:aU Tryz.prog 51 [bI nm2,Go.AM.T [102]] [] (I .i64 0) []:=by
 refine bC (n:=19) tok Tryz.func51 rfl rfl rfl ?_;refine sg rfl (aA (sg rfl (aE (aO 1 (rnd ?_)))));exact sg rfl (aA (aB rfl (fun _=>aD (aA (aE (sg rfl (sgh [(3,.row 0 [.str [102]]),(5,.bv true)] rfl (aB rfl (fun _=>sg rfl (aF rtT)) (fun hb=>Bool.noConfusion hb))))))) (fun hb=>Bool.noConfusion hb)))
theorem aWe:aU Tryz.prog 51 [bI nm2,Go.AM.T [103]] [] (I .i64 1) []:=by
 refine bC (n:=19) tok Tryz.func51 rfl rfl rfl ?_;refine sg rfl (aA (sg rfl (aE (aO 2 (rnd ?_)))));refine sg rfl (aA (aB rfl (fun _=>aD (aA (aE (sg rfl (sgh [(3,.row 0 [.str [102]]),(5,.bv false)] rfl (aB rfl (fun hb=>Bool.noConfusion hb) (fun _=>aD (ag [] rfl (rnd ?_))))))))) (fun hb=>Bool.noConfusion hb)));exact sg rfl (aA (aB rfl (fun _=>aD (aA (aE (sg rfl (sgh [(3,.row 1 [.str [103]]),(5,.bv true)] rfl (aB rfl (fun _=>sg rfl (aF rtT)) (fun hb=>Bool.noConfusion hb))))))) (fun hb=>Bool.noConfusion hb)))
theorem aRm (pl:Int) (s:Str):jL (vX pl s):=⟨⟨Ac _,Ac _,Ac _⟩,.z,⟨fun h=>by omega,fun h=>by omega,fun h=>by omega⟩,trivial,trivial,trivial⟩
theorem aHp:aU Tryz.prog 34 [.one (.c (.sl 33 (cN aMv)))] [] (.one (.c (.sl 1 [[.sl 1 [[.int .i64 0],[.int .i64 1]]]]))) []:=by
 have hn:aU Tryz.prog 49 [.one (.c (.sl 33 (cN aMv)))] [] (bI nm2) []:=j6 aMv (by decide);have g:=aWf;have q:=aWe;have u:aU Tryz.prog 10 [.pa (bD (vX 4 [103]))] [] (bI [[103]]) []:=yO (vX 4 [103]) (aRm _ _) (by decide);have y:aU Tryz.prog 10 [.pa (bD (vX 12 [102]))] [] (bI [[102]]) []:=yO (vX 12 [102]) (aRm _ _) (by decide);have A:=aTy;refine bC (n:=54) tok Tryz.func34 rfl rfl rfl ?_;refine sg rfl (sg rfl (AWp.sub (Sub.own (t:=3) (id:=650) 22 1 rfl rfl) ?_));refine sk 1 rfl (kc hn ?_);refine kz 1 rfl (aA (sg rfl (aE (aO 3 (rnd ?_)))));refine sg rfl (aA (aB rfl (fun _=>aD (aA (aE (sgh [(0,.row 0 (b6 b2A))] rfl (sg rfl (AWp.sub (Sub.own (t:=7) (id:=660) 3 1 rfl rfl) ?_)))))) (fun hb=>Bool.noConfusion hb)));refine aA (sk 2 rfl (kc u ?_));refine kz 2 rfl (aE (aO 2 (rnd ?_)));refine sg rfl (aA (aB rfl (fun _=>aD (aA (aE (sgh [(0,.row 0 [.str [103]])] rfl (sk 2 rfl (kc q ?_)))))) (fun hb=>Bool.noConfusion hb)));refine kz 1 rfl (sgh [(1,.bv true),(5,.row 1 (b6 b2B)),(8,.bv true),(9,.bv true)] rfl (aB rfl (fun _=>ag [(2,.all)] rfl (ag [] rfl (rnd ?_))) (fun hb=>Bool.noConfusion hb)));refine sg rfl (aA (aB rfl (fun hb=>Bool.noConfusion hb) (fun _=>aG (AWp.sub (Sub.freeze (id:=660) rfl) ?_))));refine AWp.sub (st2:=mk [(0,.one (.c (.sl 33 (cN aMv)))),(3,.one (.hs 650 0 0 0)),(4,bI nm2),(7,.one (.c (.sl 1 [[.int .i64 1]]))),(13,.one (.c (.sl 33 (cN aMv)))),(14,I .i64 2),(15,I .i64 0)] [(650,.arr 22 1 [] 0)]) ?_ ?_
 ·refine Sub.trans ?_ (cv 7 [[.int .i64 1]]);exact sl
 refine ag [(2,.all)] rfl (ag [] rfl (rnd ?_));refine sg rfl (aA (aB rfl (fun _=>aD (aA (aE (sgh [(0,.row 1 (b6 b2B))] rfl (sg rfl (AWp.sub (Sub.own (t:=7) (id:=661) 3 1 rfl rfl) ?_)))))) (fun hb=>Bool.noConfusion hb)));refine aA (sk 2 rfl (kc y ?_));refine kz 2 rfl (aE (aO 2 (rnd ?_)));refine sg rfl (aA (aB rfl (fun _=>aD (aA (aE (sgh [(0,.row 0 [.str [102]])] rfl (sk 2 rfl (kc g ?_)))))) (fun hb=>Bool.noConfusion hb)));refine kz 1 rfl (sgh [(1,.bv true),(5,.row 0 (b6 b2A)),(8,.bv true),(9,.bv true)] rfl (aB rfl (fun _=>ag [(2,.all)] rfl (ag [] rfl (rnd ?_))) (fun hb=>Bool.noConfusion hb)));refine sg rfl (aA (aB rfl (fun hb=>Bool.noConfusion hb) (fun _=>aG (AWp.sub (Sub.freeze (id:=661) rfl) ?_))));refine AWp.sub (st2:=mk [(0,.one (.c (.sl 33 (cN aMv)))),(3,.one (.hs 650 0 1 1)),(4,bI nm2),(7,.one (.c (.sl 1 [[.int .i64 0]]))),(13,.one (.c (.sl 33 (cN aMv)))),(14,I .i64 2),(15,I .i64 1)] [(650,.arr 22 1 [[.sl 1 [[.int .i64 1]]]] 0)]) ?_ ?_
 ·refine Sub.trans ?_ (cv 7 [[.int .i64 0]]);exact sl
 refine ag [(2,.all)] rfl (ag [] rfl (rnd ?_));refine sg rfl (aA (aB rfl (fun hb=>Bool.noConfusion hb) (fun _=>aG (AWp.sub (Sub.freeze (id:=650) rfl) ?_))));refine AWp.sub (st2:=mk [(0,.one (.c (.sl 33 (cN aMv)))),(3,usV)] []) ?_ ?_
 ·refine Sub.trans ?_ (cv 3 usR);exact sl
 refine sk 3 rfl (kc A ?_);exact kz 1 rfl (aF rtT)
theorem aQf:aU Tryz.prog 33 [(.one (.c (.sl 1 [[.sl 1 [[.int .i64 0],[.int .i64 1]]]]))),(.one (.c (.sl 1 [[.sl 1 [[.int .i64 0],[.int .i64 1]]]])))] [] (B true) []:=by
 refine bC (n:=53) tok Tryz.func33 rfl rfl rfl ?_;refine sg rfl (aA (sgh [(4,.bv false)] rfl (aB rfl (fun hb=>Bool.noConfusion hb) (fun _=>aD (aA (sg rfl (aE (aO 2 (rnd ?_)))))))));refine aA (sg rfl (aB rfl (fun _=>aD (aA (aE (aA (sgh [(2,.row 0 [.sl 1 [[.int .i64 0],[.int .i64 1]]]),(7,.row 0 [.sl 1 [[.int .i64 0],[.int .i64 1]]]),(10,.bv false)] rfl (aB rfl (fun hb=>Bool.noConfusion hb) (fun _=>aD (sg rfl (aE (aO 3 (rnd ?_))))))))))) (fun hb=>Bool.noConfusion hb)));refine aA (sgh [(3,.row 0 [.sl 1 [[.int .i64 0],[.int .i64 1]]])] rfl (aB rfl (fun _=>aD (aA (aE (sgh [(2,.row 0 [.sl 1 [[.int .i64 0],[.int .i64 1]]]),(5,.row 0 [.int .i64 0]),(9,.row 0 [.sl 1 [[.int .i64 0],[.int .i64 1]]]),(12,.row 0 [.int .i64 0]),(14,.bv false)] rfl (aB rfl (fun hb=>Bool.noConfusion hb) (fun _=>aD (ag [] rfl (rnd ?_)))))))) (fun hb=>Bool.noConfusion hb)));refine aA (sgh [(3,.row 0 [.sl 1 [[.int .i64 0],[.int .i64 1]]])] rfl (aB rfl (fun _=>aD (aA (aE (sgh [(2,.row 0 [.sl 1 [[.int .i64 0],[.int .i64 1]]]),(5,.row 1 [.int .i64 1]),(9,.row 0 [.sl 1 [[.int .i64 0],[.int .i64 1]]]),(12,.row 1 [.int .i64 1]),(14,.bv false)] rfl (aB rfl (fun hb=>Bool.noConfusion hb) (fun _=>aD (ag [] rfl (rnd ?_)))))))) (fun hb=>Bool.noConfusion hb)));refine aA (sgh [(3,.row 0 [.sl 1 [[.int .i64 0],[.int .i64 1]]])] rfl (aB rfl (fun hb=>Bool.noConfusion hb) (fun _=>aG (ag [] rfl (rnd ?_)))));exact aA (sg rfl (aB rfl (fun hb=>Bool.noConfusion hb) (fun _=>aG (sg rfl (aF rtT)))))
theorem aK0:aU Tryz.prog 16 [] [] (B true) []:=by
 have hp:=lF aOy (aNa aOy);rw[aSm] at hp;have hq:=lF aOx (aNa aOx);rw[aSl] at hq;have hc:=aLn;have g:=aHp;have hs:=aQf;refine bC (n:=35) tok Tryz.func16 rfl rfl rfl ?_;refine sg rfl (aA (aC mixed (kc hp ?_)));refine kz 7 rfl (aA (aC mixed (kc hq ?_)));refine kz 7 rfl (sk 2 rfl (k_ (g_ rfl rfl (sB tok (by unfold aL9;kernel_rfl) rfl rfl (by decide) (tg rfl) rfl rfl rfl rfl)) ?_));refine ak 3 [(3,.bv true)] rfl (k_ (GStep.yes rfl rfl rfl rfl rfl (sB tok (by unfold aL9;kernel_rfl) rfl rfl (by decide) (tg rfl) rfl rfl rfl rfl)) ?_);refine ak 3 [(3,.bv true),(7,.bv true),(8,.bv true)] rfl (kcG hc ?_);refine ak 1 [(8,.bv true)] rfl (k_ (GStep.yes rfl rfl rfl rfl rfl (sB tok (by unfold aL9;kernel_rfl) rfl rfl (by decide) (tg rfl) rfl rfl rfl rfl)) ?_);refine ak 4 [(8,.bv true),(13,.bv true),(14,.bv true)] rfl (kcG g ?_);refine ak 2 [(14,.bv true),(18,.all),(19,.all)] rfl (kcG hs ?_);exact ak 2 [(14,.bv true),(21,.bv true)] rfl (az (aF rtT))
theorem aNy (a b:Ty):tyW (aIp a b)=26+tyW a+tyW b:=by
 unfold aIp;rw[xH,xH];have:tyW (.mk 3 0 arrow [])=10:=by rw[tyW,aMe];rfl
 rw[this];omega
theorem aSc {a b:Ty}(ha:PT a) (hb:PT b):PT (aIp a b):=.app (.app (.leaf 3 arrow (.inr (.inr rfl))) ha) hb
mutual
theorem aIa:∀(f o:Nat) (R:List Tk) (x:Ty) (R':List Tk),cP f o R=.ok (x,R')→PT x∧tyW x+16+8*wt R'≤8*wt R
 | 0,_,_,_,_,h=>by rw[cP] at h;cases h
 | _+1,_,[],_,_,h=>by rw[cP] at h;cases h
 | f+1,o,t::R,x,R',h=>by
  rw[cP] at h;rw[cB];by_cases h2:t.kind=2
  ·rw[θ h2] at h;cases h;refine⟨.leaf 3 _ (.inr (.inr rfl)),?_⟩;unfold aN0;rw[tyW,aMe];omega
  rw[ξ h2] at h;by_cases h1:t.kind=1
  ·rw[θ h1] at h;cases h;refine⟨.leaf 2 _ (.inr (.inl rfl)),?_⟩;unfold aNz;rw[tyW,aMe];omega
  rw[ξ h1] at h;split at h
  ·cases h
  split at h
  ·cases h
  cases hw:c9 f (o+1) R with
  | error e=>rw[hw,lY] at h;cases h
  | ok y=>
   obtain⟨y,R1⟩:=y;rw[hw] at h;obtain⟨g,q⟩:=xE f (o+1) R y R1 hw;cases R1 with
   | nil=>rw[lY] at h;cases h
   | cons u R2=>
    rw[lY] at h;split at h
    ·cases h;rw[cB] at q;exact⟨g,by omega⟩
    ·cases h
theorem xE:∀(f o:Nat) (R:List Tk) (x:Ty) (R':List Tk),c9 f o R=.ok (x,R')→PT x∧tyW x+16+8*wt R'≤8*wt R
 | 0,_,_,_,_,h=>by rw[c9] at h;cases h
 | f+1,o,R,x,R',h=>by
  rw[c9] at h;cases ha:cP f o R with
  | error e=>rw[ha] at h;cases h
  | ok y=>
   obtain⟨y,R1⟩:=y;rw[ha] at h;obtain⟨g,q⟩:=aIa f o R y R1 ha;obtain⟨A,B⟩:=aNk f o y R1 x R' g h;exact⟨A,by omega⟩
theorem aNk:∀(f o:Nat) (y:Ty) (R:List Tk) (x:Ty) (R':List Tk),PT y→iL f o y R=.ok (x,R')→PT x∧tyW x+8*wt R'≤tyW y+8*wt R
 | 0,_,_,_,_,_,_,h=>by rw[iL] at h;cases h
 | _+1,_,_,[],_,_,_,h=>by rw[iL] at h;cases h
 | f+1,o,y,t::R,x,R',hy,h=>by
  rw[iL] at h;split at h
  ·cases ha:cP f o (t::R) with
   | error e=>rw[ha] at h;cases h
   | ok a=>
    obtain⟨a,R1⟩:=a;rw[ha] at h;obtain⟨g,q⟩:=aIa f o (t::R) a R1 ha;obtain⟨A,B⟩:=aNk f o (qI y a) R1 x R' (.app hy g) h;rw[xH] at B;exact⟨A,by omega⟩
  split at h
  ·cases ha:c9 f o R with
   | error e=>rw[ha] at h;cases h
   | ok a=>
    obtain⟨a,R1⟩:=a;rw[ha] at h;cases h;obtain⟨g,q⟩:=xE f o R a R' ha;rw[aNy,cB];exact⟨aSc hy g,by omega⟩
  ·cases h;exact⟨hy,le_refl _⟩
end
theorem aFf (l m:List Prd):jK (l++m)=jK l+jK m:=by unfold jK;rw[Ai,List.sum_append]
theorem aFe (p:Prd):jK [p]=aWy p:=by unfold jK;rw[Bh,map_nil,List.sum_cons,List.sum_nil];rfl
theorem aFd:∀(f:Nat) (b:Bool) (R:List Tk) (out g:List Prd) (R':List Tk),(∀p∈out,PT p.ty)→gW f b R out=some (g,R')→(∀p∈g,PT p.ty)∧jK g+8*wt R'≤jK out+8*wt R
 | 0,_,_,_,_,_,_,h=>by rw[gW] at h;cases h
 | _+1,_,[],_,_,_,_,h=>by rw[gW] at h;cases h
 | f+1,b,t::R,out,g,R',ho,h=>by
  rw[gW] at h;by_cases h2:t.kind=2
  ·rw[θ h2] at h;have hok:=aIa (3*R.length) (if b=true then 1 else 0) R;generalize cP (3*R.length) (if b=true then 1 else 0) R=w at hok h;cases w with
   | error e=>cases h
   | ok y=>
    obtain⟨x,R1⟩:=y;obtain⟨B,E⟩:=hok x R1 rfl;have A:∀q∈out++[(⟨t.text,x⟩:Prd)],PT q.ty:=fun q hq=>by
     rcases Ba.1 hq with hq | hq
     ·exact ho q hq
     ·rw[As.1 hq];exact B
    have J:jK (out++[(⟨t.text,x⟩:Prd)])=jK out+(t.text.length+8+tyW x):=by rw[aFf,aFe];rfl
    rw[cB];cases R1 with
    | nil=>cases h
    | cons u R2=>
     dsimp only at h;rw[cB] at E;split at h
     ·obtain⟨I,M⟩:=aFd f b R2 (out++[⟨t.text,x⟩]) g R' A h;exact⟨I,by omega⟩
     ·cases h;exact⟨A,by rw[cB];omega⟩
  ·rw[ξ h2] at h;cases h
theorem aOk {R:List Tk}{out:List Prd}{R':List Tk}(h:cU R=.ok (out,R')):(∀p∈out,PT p.ty)∧jK out+8*wt R'≤8*wt R:=by
 have g:∀R:List Tk,(∀p∈([]:List Prd),PT p.ty)∧jK []+8*wt R≤8*wt R:=fun R=>⟨fun p hp=>by(cases hp),by show 0+_≤_;omega⟩
 have q:∀(a:Int) (R0 R1:List Tk) (o:List Prd),(∀p∈o,PT p.ty)→jK o+8*wt R1≤8*wt R0→yW a R0 o R1=.ok (out,R')→(∀p∈out,PT p.ty)∧jK out+8*wt R'≤8*wt R0:=fun a R0 R1 o ho hw h=>by
  cases R1 with
  | nil=>rw[yW] at h;cases h;exact g _
  | cons u R=>
   rw[yW] at h;rw[cB] at hw;split at h
   ·split at h
    ·cases h
    ·cases h;exact⟨ho,by omega⟩
   ·cases h;exact g _
 cases R with
 | nil=>rw[cU] at h;cases h;exact g _
 | cons t R=>
  rw[cU] at h;have hw:wt (if isT t cE=true then R else t::R)≤wt (t::R):=by
   rw[cB];split
   ·omega
   ·rw[cB];omega
  cases hp:gW ((t::R).length+1) (isT t cE) (if isT t cE=true then R else t::R) [] with
  | none=>rw[hp,jQ] at h;cases h;exact g _
  | some y=>
   obtain⟨o,R1⟩:=y;rw[hp,jQ] at h;obtain⟨B,A⟩:=aFd _ _ _ _ _ _ (fun p hp=>by(cases hp)) hp;have A:jK o+8*wt R1≤8*wt (t::R):=by rw[show jK []=0 from rfl] at A;omega
   cases R1 with
   | nil=>rw[brP] at h;cases h;exact g _
   | cons u R2=>
    rw[brP] at h;split at h
    ·split at h
     ·rw[cB] at A;exact q _ _ _ _ B (by omega) h
     ·cases h;exact g _
    ·exact q _ _ _ _ B A h
theorem zL {R:List Tk}{s:Sch}{R':List Tk}(h:cI R=.ok (s,R')):(PT s.ty∧∀p∈s.preds,PT p.ty)∧aDu s+8*wt R'≤8*wt R:=by
 unfold cI at h;cases hp:cU R with
 | error e=>rw[hp,n9] at h;cases h
 | ok y=>
  obtain⟨ps,R1⟩:=y;rw[hp,n9] at h;obtain⟨g,u⟩:=aOk hp;cases hw:c9 (3*R1.length+2) 0 R1 with
  | error e=>rw[hw,n8] at h;cases h
  | ok y=>
   obtain⟨x,R2⟩:=y;rw[hw,n8] at h;cases h;obtain⟨q,A⟩:=xE _ _ _ _ _ hw;refine⟨⟨q,g⟩,?_⟩;show jK ps+8+tyW x+_≤_;omega
mutual
def exP:Ex→Prop
 | .mk _ _ n _ ks ps bs g=>aFm n∧pG ps∧SchP g∧aPf ks∧aBo bs
def aPf:List Ex→Prop
 | []=>True
 | e::l=>exP e∧aPf l
def bdP:Bd→Prop
 | .mk _ _ _ g e=>SchP g∧exP e
def aBo:List Bd→Prop
 | []=>True
 | b::l=>bdP b∧aBo l
end
mutual
def exW:Ex→Nat
 | .mk _ _ _ s ks ps bs g=>s.length+64+kZ ps+nK ks+lT bs+2*aDu g
def nK:List Ex→Nat
 | []=>0
 | e::l=>exW e+nK l
def bdW:Bd→Nat
 | .mk s _ _ g e=>2*s.length+32+2*aDu g+exW e
def lT:List Bd→Nat
 | []=>0
 | b::l=>bdW b+lT l
end
abbrev mu (z:Z):Nat:=40*wt z.R
theorem uD {R:List Tk}(h:¬R=[]):240+40*(R.headD zTk).text.length+40*wt R.tail≤40*wt R:=by
 cases R with
 | nil=>exact absurd rfl h
 | cons t R=>rw[cB];show 240+40*t.text.length+40*wt R≤_;omega
theorem aEe (R:List Tk):40*wt R.tail≤40*wt R:=by
 cases R with
 | nil=>exact le_refl _
 | cons t R=>rw[cB];show 40*wt R≤_;omega
theorem aSw {s:Str}{z:Z}(h:isZ s z=true):¬z.R=[]:=fun g=>by
 unfold isZ b4 at h;rw[g] at h;unfold isK at h;rw[π] at h;exact Bool.noConfusion h.1
theorem qM (s:Str) (z:Z):mu (bQ s z).2≤mu z∧((bQ s z).1=true→240+mu (bQ s z).2≤mu z):=by
 unfold bQ;split
 ·rename_i h;have:=uD (aSw h.2);exact⟨aEe _,fun _=>by show 240+40*wt z.R.tail≤40*wt z.R;omega⟩
 ·exact⟨le_refl _,fun h=>Bool.noConfusion h⟩
theorem jE {s:Str}{z:Z}(h:(aQ s z).e=0):240+mu (aQ s z)≤mu z:=by
 unfold aQ at h ⊢;split at h
 ·rename_i hm;rw[θ hm];exact(qM s z).2 hm
 ·exact(cW (by decide) h).elim
theorem aMb {k:Int}(g:¬k=0) {z:Z}(h:(b5 k z).2.e=0):240+40*(b5 k z).1.text.length+mu (b5 k z).2≤mu z:=by
 unfold b5 at h ⊢;split at h
 ·rename_i hc;rw[θ hc];refine uD fun q=>?_
  have:=hc.2;unfold b4 at this;rw[q] at this;exact g this.symm
 ·exact(cW (by decide) h).elim
theorem aMa (a b:List Tk):wt (a++b)=wt a+wt b:=by unfold wt;rw[Ai,List.sum_append]
theorem aMc:∀l:List Tk,kZ (fW l)+200*l.length≤40*wt l
 | []=>Ac _
 | t::l=>by
  have:=aMc l;show t.text.length+24+0+kZ (fW l)+200*(l.length+1)≤_;rw[cB];omega
theorem aD2 (z:Z):kZ (fW (aZ z).1)+200*(aZ z).1.length+mu (aZ z).2≤mu z:=by
 unfold aZ;split
 ·have h1:=aMc (z.R.takeWhile qN);have h2:=aMa (z.R.takeWhile qN) (z.R.dropWhile qN);rw[List.takeWhile_append_dropWhile] at h2;show kZ (fW (z.R.takeWhile qN))+200*(z.R.takeWhile qN).length+40*wt (z.R.dropWhile qN)≤40*wt z.R;omega
 ·show 0+0+mu z≤mu z;omega
theorem aFu (n m:Nat) (a:Int) (z:Z):mu (cK n m a z)=mu z:=by
 unfold cK;split
 ·unfold mu;rw[nJ]
 ·rfl
theorem aMt (s:Str) (n:Nat) (z:Z):mu (bJ s n z).2≤mu z:=by
 have g:mu (moreA s n z)=mu z:=by
  unfold moreA;split
  ·unfold mu;rw[nJ]
  ·rfl
 have hS:∀z:Z,mu (cO z)≤mu z:=fun z=>by
  unfold cO;split
  ·have h2:=aMa (z.R.takeWhile (isK cC)) (z.R.dropWhile (isK cC));rw[List.takeWhile_append_dropWhile] at h2;show 40*wt (z.R.dropWhile (isK cC))≤40*wt z.R;omega
  ·exact le_refl _
 have:=hS (moreA s n z);unfold bJ;split
 ·show mu (cO (moreA s n z))≤_;omega
 ·show mu (cK _ _ _ _)≤_;rw[aFu];omega
theorem zK {z:Z}(h:(bO z).2.e=0):5*aDu (bO z).1+mu (bO z).2≤mu z:=by
 unfold bO at h ⊢;split at h
 ·rename_i he;rw[θ he];cases hs:cI z.R with
  | error e=>obtain⟨e,p⟩:=e;rw[hs] at h;exact absurd h (n7 hs)
  | ok y=>
   obtain⟨s,R'⟩:=y;have:=(zL hs).2
   show 5*aDu s+40*wt R'≤40*wt z.R;omega
 ·rename_i he;exact absurd h he
theorem jU:SchP jP:=⟨.leaf 0 [] (.inl rfl),fun p hp=>(by cases hp),Ac _⟩
theorem aMk:aDu jP=16:=by kernel_rfl
theorem zM {L:List Tk}{z:Z}(q:ZA L z) (hwt:wt L≤30000):SchP (bO z).1:=by
 have g:=(gC q hwt).2.1.l;unfold bO at g ⊢;split
 ·rename_i he;rw[θ he] at g;cases hs:cI z.R with
  | error e=>exact jU
  | ok y=>
   obtain⟨s,R'⟩:=y;rw[hs] at g;obtain⟨⟨u,A⟩,_⟩:=zL hs;exact⟨u,A,le_trans g (by decide)⟩
 ·exact jU
def aRi (L:List Tk):Prop:=∀t∈L,aFm t.n
theorem dF:aFm 0:=⟨Int.le_refl _,by decide⟩
theorem aSs:∀(s:Str) (k:Int),(∀c∈s,dgB c.toNat=true)→0≤k→0≤kR s k
 | [],_,_,h=>h
 | c::s,k,hs,h=>by
  rw[kR];have hc:=hs c (.head _);unfold dgB at hc;have hc:=χ hc;split
  ·exact aSs s _ (fun c hc=>hs c (.tail _ hc)) (by omega)
  ·exact h
theorem uC (p:Nat→Bool):∀s:Str,∀c∈s.take (cD p s),p c.toNat=true
 | [],c,h=>by rw[cD,B5] at h;cases h
 | a::s,c,h=>by
  rw[cD] at h;split at h
  ·rename_i ha;rw[Ax] at h;rcases Ar.1 h with rfl | h
   ·exact ha
   ·exact uC p s c h
  ·rw[B5] at h;cases h
theorem aOp {c:UInt8}{r:Str}{k:Int}{t:Str}{v:Int}(h:gJ (c::r)=.ok (k,t,v)):aFm v:=by
 rw[gJ] at h;split at h
 ·split at h
  ·cases h
  ·rename_i g;injection h with h;injection h with _ h;injection h with _ h;rw[←h];exact⟨aSs _ _ (uC dgB _) (Int.le_refl _),by omega⟩
 split at h
 ·unfold mC at h;split at h
  ·cases h
  split at h
  ·cases h;exact dF
  split at h
  ·cases h;exact dF
  ·cases h;exact dF
 split at h
 ·cases h
 ·cases h;exact dF
theorem pN:∀(f a:Nat) (s:Str) (l:List Tk),jO f a s=.ok l→aRi l
 | 0,a,s,l,h=>by
  rw[jO] at h;cases h;intro t g;rw[As.1 g];exact dF
 | f+1,a,[],l,h=>by
  rw[jO] at h;cases h;intro t g;rw[As.1 g];exact dF
 | f+1,a,c::r,l,h=>by
  rw[jO] at h;split at h
  ·exact pN f _ _ l h
  ·cases ho:gJ (c::r) with
   | error e=>rw[ho] at h;cases h
   | ok p=>
    obtain⟨k,t,v⟩:=p;rw[ho] at h;dsimp only at h;cases hq:jO f (a+t.length) ((c::r).drop t.length) with
    | error e=>rw[hq] at h;cases h
    | ok L'=>
     rw[hq] at h;have h:(⟨k,t,v,(a:Int)⟩:Tk)::L'=l:=by injection h
     subst h;intro x hx;rcases Ar.1 hx with rfl | hx
     ·exact aOp ho
     ·exact pN f _ _ L' hq x hx
theorem pF:∀{l:List Pt}{p:Pt},pG l→aSe p→pG (l++[p])
 | [],_,_,h=>⟨h,trivial⟩
 | _::_,_,h,k=>⟨h.1,pF h.2 k⟩
theorem sF:∀(l:List Pt) (p:Pt),kZ (l++[p])=kZ l+ptW p
 | [],p=>by rw[A9,kZ,kZ,kZ];omega
 | a::l,p=>by rw[A1,kZ,kZ,sF l p];omega
theorem aB3:aSe zPt∧ptW zPt=24:=⟨⟨dF,trivial⟩,by unfold zPt;rw[ptW,kZ];rfl⟩
theorem aFg {L:List Tk}(hN:aRi L):∀f:Nat,(∀o z,ZA L z→aSe (b8 f o z).1.1∧((b8 f o z).1.2=true→(b8 f o z).2.e=0→ptW (b8 f o z).1.1+mu (b8 f o z).2≤mu z)∧((b8 f o z).2.e=0→mu (b8 f o z).2≤mu z))∧(∀o z,ZA L z→aSe (fS f o z).1∧((fS f o z).2.e=0→ptW (fS f o z).1+mu (fS f o z).2≤mu z))∧(∀o out z,ZA L z→pG out→pG (dY f o out z).1∧((dY f o out z).2.e=0→kZ (dY f o out z).1+mu (dY f o out z).2≤kZ out+mu z))
 | 0=>by
  refine⟨fun o z _=>?_,fun o z _=>?_,fun o out z _ ho=>?_⟩
  ·rw[b8];exact⟨aB3.1,fun h=>Bool.noConfusion h,fun _=>le_refl _⟩
  ·rw[fS];exact⟨aB3.1,fun h=>(cW (by decide) h).elim⟩
  ·rw[dY];exact⟨ho,fun _=>le_refl _⟩
 | f+1=>by
  obtain⟨h1,h2,M⟩:=aFg hN f;obtain⟨k1,k2,k3⟩:=y2 f;refine⟨fun o z g=>?_,fun o z g=>?_,fun o out z g ho=>?_⟩
  ·rw[b8];split
   ·exact⟨aB3.1,fun h=>Bool.noConfusion h,fun _=>le_refl _⟩
   split
   ·rename_i q;have u:¬z.R=[]:=fun B=>by unfold b4 at q;rw[B] at q;exact absurd q.1 (by decide)
    have hw:=uD u;have hm:=hN _ g.mem;refine⟨⟨hm,trivial⟩,fun _ _=>?_,fun _=>aEe _⟩;have hl:(gI (b4 z)).length≤(b4 z).text.length:=by
     unfold gI;split
     ·exact Ac _
     ·exact le_refl _
    show(gI (b4 z)).length+24+0+40*wt z.R.tail≤40*wt z.R;have:(b4 z).text.length=(z.R.headD zTk).text.length:=rfl;omega
   split
   ·rename_i hm;have:=(qM xG z).2 hm;refine⟨⟨dF,trivial⟩,fun _ _=>?_,fun _=>(qM xG z).1⟩;show 0+24+0+mu (bQ xG z).2≤mu z;omega
   split
   ·exact⟨aB3.1,fun h=>Bool.noConfusion h,fun _=>le_refl _⟩
   split
   ·exact⟨aB3.1,fun h=>Bool.noConfusion h,fun h=>(cW (by decide) h).elim⟩
   ·obtain⟨y,A⟩:=h2 (o+1) _ (g.need cE);have key:(aQ lZ (fS f (o+1) (aQ cE z)).2).e=0→ptW (fS f (o+1) (aQ cE z)).1+mu (aQ lZ (fS f (o+1) (aQ cE z)).2)≤mu z:=fun h=>by
     have E:=(Kq.need lZ _ h).1
     have O:=(k2 (o+1) _ E).1
     have U:=jE h;have w2:=A E;have w3:=jE O;omega
    exact⟨y,fun _ h=>key h,fun h=>by have:=key h;dsimp only;omega⟩
  ·rw[fS];obtain⟨y,A,Y⟩:=h1 o z g;split
   ·exact⟨aB3.1,fun h=>(cW (by decide) h).elim⟩
   rename_i hb;have hb:(b8 f o z).1.2=true:=by simpa using hb
   split
   ·rename_i q;have u:¬z.R=[]:=fun B=>by unfold b4 at q;rw[B] at q;exact absurd q.1 (by decide)
    have hw:=uD u;have hm:=hN _ g.mem;obtain⟨I,J⟩:=M o [] (tlZ z) (g.tlp (by rw[q.1];decide)) trivial;refine⟨⟨hm,I⟩,fun h=>?_⟩;have q3:=J h;show(b4 z).text.length+24+kZ (dY f o [] (tlZ z)).1+mu (dY f o [] (tlZ z)).2≤mu z;have E:(b4 z).text.length=(z.R.headD zTk).text.length:=rfl;have O:mu (tlZ z)=40*wt z.R.tail:=rfl;have e3:mu z=40*wt z.R:=rfl;rw[show kZ []=0 from rfl] at q3;omega
   ·exact⟨y,fun h=>A hb h⟩
  ·rw[dY];obtain⟨y,A,Y⟩:=h1 o z g;split
   ·split
    ·exact⟨ho,fun h=>by have:=Y h;dsimp only;omega⟩
    ·rename_i hb;have hb:(b8 f o z).1.2=true:=by simpa using hb
     obtain⟨I,J⟩:=M o (out++[(b8 f o z).1.1]) (b8 f o z).2 ((eV L f).1 o z g).1 (pF ho y);refine⟨I,fun h=>?_⟩;have U:=J h;have w2:=A hb (k3 o _ _ h).1;rw[sF] at U;omega
   ·exact⟨ho,fun _=>le_refl _⟩
theorem aAz:∀{l:List Ex}{p:Ex},aPf l→exP p→aPf (l++[p])
 | [],_,_,h=>⟨h,trivial⟩
 | _::_,_,h,k=>⟨h.1,aAz h.2 k⟩
theorem aBn:∀{l:List Bd}{p:Bd},aBo l→bdP p→aBo (l++[p])
 | [],_,_,h=>⟨h,trivial⟩
 | _::_,_,h,k=>⟨h.1,aBn h.2 k⟩
theorem aAy:∀(l:List Ex) (p:Ex),nK (l++[p])=nK l+exW p
 | [],p=>by rw[A9,nK,nK,nK];omega
 | a::l,p=>by rw[A1,nK,nK,aAy l p];omega
theorem aBm:∀(l:List Bd) (p:Bd),lT (l++[p])=lT l+bdW p
 | [],p=>by rw[A9,lT,lT,lT];omega
 | a::l,p=>by rw[A1,lT,lT,aBm l p];omega
theorem xF:∀l:List Tk,pG (fW l)
 | []=>trivial
 | _::l=>⟨⟨dF,trivial⟩,xF l⟩
theorem aD0:exP zEx:=⟨dF,trivial,jU,trivial,trivial⟩
def uE:List Sg→Nat
 | []=>0
 | s::l=>2*aDu s.ty+uE l
theorem zJ:∀(l:List Sg) (s:Sg),uE (l++[s])=uE l+2*aDu s.ty
 | [],p=>by simp only[A9,uE];omega
 | a::l,p=>by rw[A1,uE,uE,zJ l p];omega
def aJb (l:List Sg):Prop:=∀s∈l,SchP s.ty
theorem aJa {l:List Sg}{s:Sg}(h:aJb l) (k:SchP s.ty):aJb (l++[s]):=fun x hx=>by
 rcases Ba.1 hx with hx | hx
 ·exact h x hx
 ·rw[As.1 hx];exact k
theorem r8 (f a n:Int) (s:Str) (ks:List Ex) (ps:List Pt) (g:List Bd):exW (.mk f a n s ks ps g jP)=s.length+96+kZ ps+nK ks+lT g:=by rw[exW,aMk];omega
theorem aAb:∀(l:List Sg) (b:List Bd) (z:Z),aJb l→aBo b→aBo (cS l b z).1∧lT (cS l b z).1≤lT b+uE l
 | [],b,z,_,hb=>by rw[cS];exact⟨hb,by rw[uE];exact le_refl _⟩
 | s::l,b,z,hs,hb=>by
  have hl:aJb l:=fun x hx=>hs x (.tail _ hx)
  rw[cS,uE];split
  ·split
   ·obtain⟨q,u⟩:=aAb l b (bS 21 s.pl z) hl hb;exact⟨q,by omega⟩
   ·rename_i k _;split
    ·exact⟨hb,by dsimp only;omega⟩
    ·rename_i x hx;split
     ·obtain⟨q,u⟩:=aAb l b (bS 20 s.pl z) hl hb;exact⟨q,by omega⟩
     ·have y:∀(b:List Bd) (k:Nat) (x:Bd),b[k]?=some x→aBo b→aBo (b.set k (jB x s.ty))∧lT (b.set k (jB x s.ty))≤lT b+2*aDu s.ty:=fun b=>by
       induction b with
       | nil=>intro k x hx;cases hx
       | cons a b B=>
        intro k x hx hb;cases k with
        | zero=>
         injection hx with hx;subst hx;cases a with
         | mk A pl h g e=>
          refine⟨⟨⟨hs s (.head _),hb.1.2⟩,hb.2⟩,?_⟩;show(2*A.length+32+2*aDu s.ty+exW e)+lT b≤(2*A.length+32+2*aDu g+exW e)+lT b+2*aDu s.ty;omega
        | succ k=>
         obtain⟨q,u⟩:=B k x hx hb.2;refine⟨⟨hb.1,q⟩,?_⟩;rw[List.set_cons_succ,lT,lT];omega
      obtain⟨E,I⟩:=y b k x hx hb;obtain⟨q,u⟩:=aAb l _ z hl E;exact⟨q,by omega⟩
  ·exact⟨hb,by dsimp only;omega⟩
def aU7 (ex:Nat→Z→Ex×Z) (L:List Tk):Prop:=∀deep z,ZA L z→exP (ex deep z).1∧((ex deep z).2.e=0→96+exW (ex deep z).1+mu (ex deep z).2≤mu z)
section
variable {L:List Tk}{ex:Nat→Z→Ex×Z}(hO:ExO L ex) (hx:aL8 ex) (hP:aU7 ex L) (hN:aRi L) (hwt:wt L≤30000)
include hP hN
theorem aSi (deep:Nat) {z:Z}(h:ZA L z):exP (gU ex deep z).1.1∧((gU ex deep z).1.2=true→(gU ex deep z).2.e=0→96+exW (gU ex deep z).1.1+mu (gU ex deep z).2≤mu z)∧((gU ex deep z).1.2=false→mu (gU ex deep z).2≤mu z):=by
 unfold gU;split
 ·exact⟨aD0,fun h=>Bool.noConfusion h,fun _=>le_refl _⟩
 split
 ·rename_i g;have q:¬z.R=[]:=fun u=>by unfold b4 at g;rw[u] at g;exact absurd g.1 (by decide)
  have hw:=uD q;have hm:=hN _ h.mem;refine⟨?_,fun _ _=>?_,fun h=>Bool.noConfusion h⟩
  ·unfold nM;split
   ·exact⟨hm,trivial,jU,trivial,trivial⟩
   ·exact⟨dF,trivial,jU,trivial,trivial⟩
  ·have B:exW (nM (b4 z))≤(z.R.headD zTk).text.length+96:=by
    unfold nM;split
    ·rw[r8];show 0+96+0+0+0≤_;omega
    ·rw[r8];show(z.R.headD zTk).text.length+96+0+0+0≤_;omega
   show 96+exW (nM (b4 z))+40*wt z.R.tail≤40*wt z.R;omega
 split
 ·exact⟨aD0,fun h=>Bool.noConfusion h,fun _=>le_refl _⟩
 ·obtain⟨y,A⟩:=hP (deep+1) _ (h.may cE);refine⟨y,fun _ he=>?_,fun h=>Bool.noConfusion h⟩;have E:=jE he;have I:=A (Kq.need lZ _ he).1;have J:=(qM cE z).1
  dsimp only;omega
include hO hx
theorem aId (deep:Nat) (a:Int):∀(f:Nat) (e:Ex) (z:Z),ZA L z→exP e→exP (fB ex deep a f e z).1∧((fB ex deep a f e z).2.e=0→exW (fB ex deep a f e z).1+mu (fB ex deep a f e z).2≤exW e+mu z)
 | 0,e,z,_,he=>⟨he,fun _=>le_refl _⟩
 | f+1,e,z,h,he=>by
  rw[fB];obtain⟨g,q,u⟩:=aSi hP hN deep h;split
  ·split
   ·rename_i hb;exact⟨he,fun _=>by have:=u hb;dsimp only;omega⟩
   ·rename_i hb;have hb:(gU ex deep z).1.2=true:=by simpa using hb
    obtain⟨y,A⟩:=aId deep a f (aL2 a e (gU ex deep z).1.1) _ (iT hO deep h).1 ⟨dF,trivial,jU,⟨he,g,trivial⟩,trivial⟩;refine⟨y,fun h0=>?_⟩;have B:=A h0;have E:=q hb (Kq.apps hx deep a f _ _ h0).1;have I:exW (aL2 a e (gU ex deep z).1.1)=96+exW e+exW (gU ex deep z).1.1:=by
     unfold aL2;rw[r8,nK,nK,nK];show 0+96+0+_+0=_;omega
    omega
  ·exact⟨he,fun _=>le_refl _⟩
omit hO hx hP hN in
theorem aMy (a:Int) (l:List Tk) (b:Ex):exW (aSo a l b)=96+kZ (fW l)+exW b:=by
 unfold aSo;rw[r8,nK,nK];show 0+96+_+_+0=_;omega
omit hO hx hP hN in
theorem aQn (l:List Tk) (b:Ex):exW (wK l b)≤96+kZ (fW l)+exW b:=by
 unfold wK;split
 ·omega
 ·exact Nat.le_of_eq (aMy _ _ _)
omit hO hx hP hN in
theorem aQo {l:List Tk}{b:Ex}(h:exP b):exP (wK l b):=by
 unfold wK;split
 ·exact h
 ·exact⟨dF,xF _,jU,⟨h,trivial⟩,trivial⟩
omit hO hx hP hN in
theorem aO4 {a:Int}{z:Z}(h:ZA L z):ZA L (rC a z).2:=by
 unfold rC;refine ZA.need (ZA.long ?_ _ _ _) _;split
 ·exact h.words.fail _ _
 ·exact h.words
omit hO hN in
theorem aV3 (a:Int) (deep:Nat) {z:Z}(h:ZA L z):exP (rB ex a deep z).1∧((rB ex a deep z).2.e=0→96+exW (rB ex a deep z).1+mu (rB ex a deep z).2≤mu z):=by
 obtain⟨q,u⟩:=hP (deep+1) _ (aO4 (a:=a) h);unfold rB;refine⟨⟨dF,xF _,jU,⟨q,trivial⟩,trivial⟩,fun h0=>?_⟩;have y:=u h0;have g:=(hx _ _ h0).1
 have A:kZ (fW (rC a z).1)+240+mu (rC a z).2≤mu z:=by
  unfold rC at g ⊢;have v1:=jE g;rw[aFu] at v1;have v2:=aD2 z;have v3:mu (if(aZ z).1=[] then bS 12 (b4 (aZ z).2).pl (aZ z).2 else(aZ z).2)=mu (aZ z).2:=by
   split
   ·unfold mu;rw[nJ]
   ·rfl
  dsimp only;omega
 dsimp only;rw[aMy];omega
omit hO hN in
theorem aUf (g:Tk) (deep:Nat) {z:Z}(h:ZA L z):bdP (dR ex g deep z).1∧((dR ex g deep z).2.e=0→bdW (dR ex g deep z).1+mu (dR ex g deep z).2≤2*g.text.length+mu z):=by
 have u:ZA L (fJ g z).2:=by
  unfold fJ;exact ZA.need (ZA.long h.words _ _ _) _
 obtain⟨y,A⟩:=hP deep _ u;unfold dR;refine⟨⟨jU,aQo y⟩,fun h0=>?_⟩;have B:=A h0;have q:=(hx _ _ h0).1
 have E:kZ (fW (fJ g z).1)+240+mu (fJ g z).2≤mu z:=by
  unfold fJ at q ⊢;have v1:=jE q;rw[aFu] at v1;have v2:=aD2 z;dsimp only;omega
 have I:=aQn (fJ g z).1 (ex deep (fJ g z).2).1;dsimp only at B ⊢;rw[bdW,aMk];omega
omit hO hN in
include hwt in
theorem aKi (sigs:List Sg) (binds:List Bd) (deep:Nat) {z:Z}(h:ZA L z) (hs:aJb sigs) (hb:aBo binds):(aJb (aT ex sigs binds deep z).1.1∧aBo (aT ex sigs binds deep z).1.2)∧((aT ex sigs binds deep z).2.e=0→uE (aT ex sigs binds deep z).1.1+lT (aT ex sigs binds deep z).1.2+mu (aT ex sigs binds deep z).2≤uE sigs+lT binds+mu z):=by
 have q:=h.word (k:=1) (by decide);have g:=q.may eQ;have hm:=qM eQ (b5 1 z).2;unfold aT;split
 ·refine⟨⟨aJa hs (zM g hwt),hb⟩,fun h0=>?_⟩;have u:=zK h0;have y:=aMb (k:=1) (by decide) (Kq.may eQ _ (Kq.scheme _ h0).1).1;dsimp only;rw[zJ];dsimp only;omega
 ·obtain⟨A,B⟩:=aUf hx hP (b5 1 z).1 deep g;refine⟨⟨hs,aBn hb A⟩,fun h0=>?_⟩;have u:=B h0;have y:=aMb (k:=1) (by decide) (Kq.may eQ _ (Kq.bind hx _ _ _ h0).1).1;dsimp only;rw[aBm];omega
end
section
variable {L:List Tk}{ex:Nat→Z→Ex×Z}(hO:ExO L ex) (hx:aL8 ex) (hP:aU7 ex L) (hN:aRi L) (hwt:wt L≤30000)
include hO hwt
theorem aGe (sigs:List Sg) (binds:List Bd) (deep:Nat) {z:Z}(h:ZA L z):ZA L (aT ex sigs binds deep z).2:=by
 have h1:=(iG hO hwt [] [] deep h (fun s hs=>by cases hs) trivial).1
 have e:(aT ex sigs binds deep z).2=(aT ex [] [] deep z).2:=by
  unfold aT;split<;>rfl
 rw[e];exact h1
include hx hP
theorem aMw (deep:Nat):∀(f n:Nat) (sigs:List Sg) (binds:List Bd) (z:Z),ZA L z→aJb sigs→aBo binds→(ZA L (eP ex deep f n sigs binds z).2∧aJb (eP ex deep f n sigs binds z).1.1∧aBo (eP ex deep f n sigs binds z).1.2)∧((eP ex deep f n sigs binds z).2.e=0→uE (eP ex deep f n sigs binds z).1.1+lT (eP ex deep f n sigs binds z).1.2+mu (eP ex deep f n sigs binds z).2≤uE sigs+lT binds+mu z)
 | 0,n,sigs,binds,z,h,hs,hb=>⟨⟨h,hs,hb⟩,fun _=>le_refl _⟩
 | f+1,n,sigs,binds,z,h,hs,hb=>by
  rw[eP];have hm:=aMt bB n z;split
  ·obtain⟨⟨g,q⟩,u⟩:=aKi hx hP hwt sigs binds deep (h.more bB n) hs hb;obtain⟨y,A⟩:=aMw deep f (n+1) _ _ _ (aGe hO hwt sigs binds deep (h.more bB n)) g q;refine⟨y,fun h0=>?_⟩;have B:=A h0;have E:=u (Kq.lets hx deep f _ _ _ _ h0).1;omega
  ·exact⟨⟨h.more bB n,hs,hb⟩,fun _=>by dsimp only;omega⟩
theorem aV1 (a:Int) (deep:Nat) {z:Z}(h:ZA L z):exP (rA ex a deep z).1∧((rA ex a deep z).2.e=0→96+exW (rA ex a deep z).1+mu (rA ex a deep z).2≤mu z):=by
 obtain⟨⟨u,y,A⟩,M⟩:=aMw hO hx hP hwt (deep+1) ((aQ dS z).R.length+1) 0 [] [] _ (h.need dS) (fun s hs=>by cases hs) trivial;have u:ZA L (lC ex deep z).2:=u;have y:aJb (lC ex deep z).1.1:=y;have A:aBo (lC ex deep z).1.2:=A;obtain⟨B,E⟩:=aAb (lC ex deep z).1.1 (lC ex deep z).1.2 (aQ bB (lC ex deep z).2) y A;have B:aBo (aCu (lC ex deep z)).1:=B;have E:lT (aCu (lC ex deep z)).1≤lT (lC ex deep z).1.2+uE (lC ex deep z).1.1:=E;have hB:ZA L (aCu (lC ex deep z)).2:=by
  unfold aCu;have:=sS hO hwt (deep+1) ((aQ dS z).R.length+1) 0 [] [] _ (h.need dS) (fun s hs=>by cases hs) trivial (by decide) (le_refl _) (le_refl _);exact(fY _ _ _ (u.need _) this.2.1 this.2.2.1).1
 obtain⟨O,U⟩:=hP (deep+1) _ (hB.need inS);unfold rA;refine⟨⟨dF,trivial,jU,⟨O,trivial⟩,B⟩,fun h0=>?_⟩;have Y:=U h0;have I:=(hx _ _ h0).1
 have w2:=jE I;have q:=(Kq.need inS _ I).1
 have g:(aCu (lC ex deep z)).2=aQ bB (lC ex deep z).2:=k9 q;rw[g] at q;have w3:=jE q;have J:=(Kq.need bB _ q).1
 have w4:uE (lC ex deep z).1.1+lT (lC ex deep z).1.2+mu (lC ex deep z).2≤uE []+lT []+mu (aQ dS z):=M J;rw[show uE []=0 from rfl,show lT []=0 from rfl] at w4;have e4:(aQ dS z).e=0:=(Kq.lets hx (deep+1) _ _ _ _ _ J).1
 have w5:=jE e4;have w6:mu (aCu (lC ex deep z)).2=mu (aQ bB (lC ex deep z).2):=by rw[g]
 dsimp only at Y ⊢;unfold letE;rw[r8,nK,nK];rw[show kZ []=0 from rfl,length_nil];omega
include hN
omit hwt in
theorem aNn (deep:Nat):∀(f n:Nat) (ps:List Pt) (ks:List Ex) (z:Z),ZA L z→pG ps→aPf ks→(ZA L (eO ex deep f n ps ks z).2∧pG (eO ex deep f n ps ks z).1.1∧aPf (eO ex deep f n ps ks z).1.2)∧((eO ex deep f n ps ks z).2.e=0→kZ (eO ex deep f n ps ks z).1.1+nK (eO ex deep f n ps ks z).1.2+mu (eO ex deep f n ps ks z).2≤kZ ps+nK ks+mu z)
 | 0,n,ps,ks,z,h,hp,g=>⟨⟨h,hp,g⟩,fun _=>le_refl _⟩
 | f+1,n,ps,ks,z,h,hp,g=>by
  rw[eO];have hm:=aMt bB n z;split
  ·have u:=h.more bB n;have y:=((eV L (3*(bJ bB n z).2.R.length+1)).2.1 0 _ u).1
   obtain⟨E,I⟩:=(aFg hN (3*(bJ bB n z).2.R.length+1)).2.1 0 _ u;have q:=y.need arrow;obtain⟨J,M⟩:=hP (deep+1) _ q;obtain⟨O,U⟩:=aNn deep f (n+1) _ _ _ (hO (deep+1) _ q).1 (pF hp E) (aAz g J);refine⟨O,fun h0=>?_⟩;have Y:=U h0;have A:=(Kq.alts hx deep f _ _ _ _ h0).1
   have w2:=M A;have B:=(hx _ _ A).1
   have w3:=jE B;have w4:=I (Kq.need arrow _ B).1;rw[sF,aAy] at Y;omega
  ·exact⟨⟨h.more bB n,hp,g⟩,fun _=>by dsimp only;omega⟩
omit hwt in
theorem aTc (a:Int) (deep:Nat) {z:Z}(h:ZA L z):exP (gQ ex a deep z).1∧((gQ ex a deep z).2.e=0→96+exW (gQ ex a deep z).1+mu (gQ ex a deep z).2≤mu z):=by
 obtain⟨B,E⟩:=hP (deep+1) z h;have I:ZA L (cT ex deep z).2:=((hO (deep+1) z h).1.need ofS).need dS;obtain⟨⟨O,g,q⟩,J⟩:=aNn hO hx hP hN deep ((cT ex deep z).2.R.length+1) 0 [] [(cT ex deep z).1] _ I trivial ⟨B,trivial⟩;have g:pG (fQ ex deep (cT ex deep z)).1.1:=g;have q:aPf (fQ ex deep (cT ex deep z)).1.2:=q;unfold gQ;refine⟨⟨dF,g,jU,q,trivial⟩,fun h0=>?_⟩;by_cases hn:(fQ ex deep (cT ex deep z)).1.1=[]
 ·rw[θ hn] at h0;exact(cW (by decide) h0).elim
 ·rw[ξ hn] at h0 ⊢;have U:=jE h0;have u:=(Kq.need bB _ h0).1
  have M:kZ (fQ ex deep (cT ex deep z)).1.1+nK (fQ ex deep (cT ex deep z)).1.2+mu (fQ ex deep (cT ex deep z)).2≤kZ []+nK [(cT ex deep z).1]+mu (cT ex deep z).2:=J u;have y:(cT ex deep z).2.e=0:=(Kq.alts hx deep _ _ _ _ _ u).1
  have Y:240+mu (cT ex deep z).2≤mu (aQ ofS (ex (deep+1) z).2):=jE y;have A:(aQ ofS (ex (deep+1) z).2).e=0:=(Kq.need dS _ y).1
  have w4:=jE A;have w5:=E (Kq.need ofS _ A).1;rw[show kZ []=0 from rfl,nK,nK,show(cT ex deep z).1=(ex (deep+1) z).1 from rfl] at M;unfold aKn;dsimp only;rw[r8];rw[show lT []=0 from rfl,length_nil];omega
omit hwt in
theorem aOl (deep:Nat) {z:Z}(h:ZA L z):exP (fG ex deep z).1∧((fG ex deep z).2.e=0→96+exW (fG ex deep z).1+mu (fG ex deep z).2≤mu z):=by
 obtain⟨q,A,B⟩:=aSi hP hN deep h;have u:=(iT hO deep h).1
 unfold fG;by_cases hb:(gU ex deep z).1.2=false
 ·rw[θ hb];obtain⟨g,y⟩:=aId hO hx hP hN deep (b4 z).pl (z.R.length+1) _ _ (u.fail 12 (b4 z).pl) q;exact⟨g,fun h0=>(cW (by decide) (Kq.apps hx deep _ _ _ _ h0).1).elim⟩
 ·rw[ξ hb];obtain⟨g,y⟩:=aId hO hx hP hN deep (b4 z).pl (z.R.length+1) _ _ u q;refine⟨g,fun h0=>?_⟩;have E:=y h0;have I:=A (by simpa using hb) (Kq.apps hx deep _ _ _ _ h0).1;omega
omit hO hx hP hN in
theorem aWn (a:Int) {y:Ex×Z}(h:ZA L y.2) (he:exP y.1):exP (qG a y).1∧((qG a y).2.e=0→exW (qG a y).1+mu (qG a y).2≤exW y.1+mu y.2):=by
 unfold qG;split
 ·rename_i hm;refine⟨⟨dF,trivial,zM (h.may eQ) hwt,⟨he,trivial⟩,trivial⟩,fun h0=>?_⟩;have g:=zK h0;have q:=(qM eQ y.2).2 hm;dsimp only;unfold aW3;rw[exW,nK,nK,show kZ []=0 from rfl,show lT []=0 from rfl,length_nil];omega
 ·have:=(qM eQ y.2).1
  exact⟨he,fun _=>by dsimp only;omega⟩
theorem aS4:aU7 (vR ex) L:=fun deep z h=>by
 unfold vR;split
 ·rename_i h0;exact⟨aD0,fun k=>absurd k h0⟩
 split
 ·exact⟨aD0,fun k=>(cW (by decide) k).elim⟩
 split
 ·obtain⟨g,q⟩:=aV3 hx hP (b4 z).pl deep (h.may vH);exact⟨g,fun h0=>le_trans (q h0) (qM vH z).1⟩
 split
 ·obtain⟨g,q⟩:=aV1 hO hx hP hwt (b4 z).pl deep (h.may vG);exact⟨g,fun h0=>le_trans (q h0) (qM vG z).1⟩
 split
 ·obtain⟨g,q⟩:=aTc hO hx hP hN (b4 z).pl deep (h.may kI);exact⟨g,fun h0=>le_trans (q h0) (qM kI z).1⟩
 ·obtain⟨g,q⟩:=aOl hO hx hP hN deep h;obtain⟨u,y⟩:=aWn hwt (b4 z).pl (uZ hO deep h).1 g;refine⟨u,fun h0=>?_⟩;have A:=y h0;have B:=q (Kq.ann _ _ h0).1;omega
end
theorem aM0 {L:List Tk}(hN:aRi L) (hwt:wt L≤30000):∀f,aU7 (aC2 f) L
 | 0=>fun deep z _=>⟨aD0,fun k=>(cW (by decide) k).elim⟩
 | f+1=>aS4 (kE hwt f) (y3 f) (aM0 hN hwt f) hN hwt
def sA (s:Str):Pt×Z:=if(bP s).2.e=0 then fS (3*(bP s).2.R.length+1) 0 (bP s).2 else(zPt,(bP s).2)
def aIq (s:Str):Pt×Int×Int:=if(iZ (sA s).2).e=0 then((sA s).1,(iZ (sA s).2).e,(iZ (sA s).2).p) else(zPt,(iZ (sA s).2).e,(iZ (sA s).2).p)
theorem aUb (s:Str):aU Tryz.prog 7 [Go.AM.T s] [] (.tup [.pa (bK (aIq s).1),atV (aIq s).2.1 (aIq s).2.2]) []:=by
 have A:=aBh s;obtain⟨B,hwt,_,Y⟩:=fK s;have q:=(aSf (bP s).1 (3*(bP s).2.R.length+1)).2 _ (le_refl _) 0 _ B (fun _=>le_refl _) (by decide);obtain⟨E,_⟩:=(eV (bP s).1 (3*(bP s).2.R.length+1)).2.1 0 _ B;unfold aIq sA;generalize bP s=U at A B hwt q E ⊢;obtain⟨L,z⟩:=U;dsimp only at A B hwt q E ⊢;have ho:=gZ L z;refine bC (n:=28) tok Tryz.func7 rfl rfl rfl ?_;refine sg rfl (sk 1 rfl (kc A ?_));refine kz 1 rfl (sg rfl ?_);have g:∃y,y=(if z.e=0 then fS (3*z.R.length+1) 0 z else(zPt,z))∧ZA L y.2:=⟨_,rfl,by split<;>first | exact E | exact B⟩
 obtain⟨⟨p,M⟩,g,h1⟩:=g;rw[←g];dsimp only at h1 ⊢;refine aA (AWp.cut (mk [(2,.one (.vp 2 0)),(3,.one (.vp 3 0)),(4,xP),(5,.one (.vp 5 0))] [(700,zO L M),(2,.var 43 (aQ5.map .c)),(3,.var 38 [.c (.int .i64 0),.c (.int .i64 0)]),(5,.var 43 ((bK p).map .c))]) ?_ ?_)
 ·refine sk 1 rfl (kc ho ?_);refine az ?_;by_cases he:z.e=0
  ·rw[θ he] at g;have d:decide (z.e=0)=true:=φ he;rw[←g] at q;refine aB rfl (fun _=>aC mixed (ak 1 [] rfl (kc q ?_))) (fun hb=>absurd (hb.symm.trans d) Bool.noConfusion);exact kz 1 rfl sl
  ·rw[ξ he] at g;have d:decide (z.e=0)=false:=ψ he;obtain⟨rfl,rfl⟩:=Prod.mk.inj g;refine aB rfl (fun hb=>absurd (hb.symm.trans d) Bool.noConfusion) (fun _=>aD (Sub.trans ?_ (vp 5 (bK zPt))));exact sl
 have J:=aM8 h1;have h2:=h1.endz;generalize iZ M=I at J h2 ⊢;have O:=gZ L I;refine sk 1 rfl (kc J ?_);refine az (aA (sk 1 rfl (kc O ?_)));refine kz 1 rfl ?_;by_cases u:I.e=0
 ·rw[θ u];have d:(!decide (I.e=0))=false:=by rw[φ u];rfl
  exact aB rfl (fun hb=>absurd (hb.symm.trans d) Bool.noConfusion) (fun _=>aD (sg rfl (aF xK)))
 ·rw[ξ u];have d:(!decide (I.e=0))=true:=by rw[ψ u];rfl
  exact aB rfl (fun _=>sg rfl (aF xK)) (fun hb=>absurd (hb.symm.trans d) Bool.noConfusion)
theorem aOn (s:Str):ptB (aIq s).1:=by
 obtain⟨g,_⟩:=fK s;have h2:=((eV (bP s).1 (3*(bP s).2.R.length+1)).2.1 0 _ g).2.1
 unfold aIq sA;split
 ·split
  ·exact h2
  ·exact sG
 ·split
  ·exact sG
  ·exact sG
def qK (s:Str):Ex×Z:=aC2 (bP s).2.R.length 0 (bP s).2
def aKe (s:Str):Ex×Int×Int:=if(iZ (qK s).2).e=0 then((qK s).1,(iZ (qK s).2).e,(iZ (qK s).2).p) else(zEx,(iZ (qK s).2).e,(iZ (qK s).2).p)
theorem aUe (s:Str):aU Tryz.prog 5 [Go.AM.T s] [] (.tup [.pa (bD (aKe s).1),atV (aKe s).2.1 (aKe s).2.2]) []:=by
 have y:=aBh s;obtain⟨A,hwt,_,O⟩:=fK s;have g:=aS3 hwt (bP s).2.R.length 0 _ A (le_refl _) (by decide);obtain⟨q,_⟩:=kE hwt (bP s).2.R.length 0 _ A;unfold aKe qK;generalize bP s=J at y A hwt g q ⊢;obtain⟨L,z⟩:=J;dsimp only at y A hwt g q ⊢;generalize aC2 z.R.length 0 z=w at g q ⊢;obtain⟨e,M⟩:=w;dsimp only at g q ⊢;have E:=aM8 q;generalize iZ M=B at E ⊢;have I:=gZ L B;refine bC (n:=25) tok Tryz.func5 rfl rfl rfl ?_;refine sg rfl (sk 1 rfl (kc y ?_));refine kz 1 rfl (sk 1 rfl (kc g ?_));refine kz 2 rfl (sk 1 rfl (kc E ?_));refine az (aA (sk 1 rfl (kc I ?_)));refine kz 1 rfl ?_;by_cases u:B.e=0
 ·rw[θ u];have d:(!decide (B.e=0))=false:=by rw[φ u];rfl
  exact aB rfl (fun hb=>absurd (hb.symm.trans d) Bool.noConfusion) (fun _=>aD (sg rfl (aF xK)))
 ·rw[ξ u];have d:(!decide (B.e=0))=true:=by rw[ψ u];rfl
  exact aB rfl (fun _=>sg rfl (aF xK)) (fun hb=>absurd (hb.symm.trans d) Bool.noConfusion)
mutual
theorem aSd:∀p:Pt,psz p≤ptW p
 | .mk f pl n s l=>by
  have:=aFb l;rw[psz,ptW];omega
theorem aFb:∀l:List Pt,l8 l≤kZ l
 | []=>le_refl _
 | p::l=>by
  have h1:=aSd p;have h2:=aFb l;rw[l8,kZ];omega
end
mutual
theorem aPg:∀e:Ex,exM e≤exW e
 | .mk f pl n s ks ps q g=>by
  have h1:=aM2 ks;have h2:=aNc q;have u:=aFb ps;rw[exM,exW];omega
theorem aM2:∀l:List Ex,aDy l≤nK l
 | []=>le_refl _
 | e::l=>by
  have h1:=aPg e;have h2:=aM2 l;rw[aDy,nK];omega
theorem aNc:∀l:List Bd,l.length+aDf l≤lT l
 | []=>le_refl _
 | .mk _ _ _ _ e::l=>by
  have h1:=aPg e;have h2:=aNc l;rw[aDf,lT,bdW,Aa];omega
end
theorem rJ (s:Str):aRi (bP s).1:=by
 unfold bP;cases hl:nE s with
 | ok l=>
  unfold nE at hl;split at hl
  ·cases hl
  ·exact pN _ _ _ _ hl
 | error e=>
  intro t g;rw[As.1 g];exact dF
theorem wN (s:Str):mu (bP s).2≤1200000:=by
 obtain⟨_,hwt,_,h⟩:=fK s;unfold mu;rw[←h];omega
theorem aS6 (s:Str):jL (aKe s).1∧exB (aKe s).1∧exM (aKe s).1≤1200000:=by
 have q:jL zEx∧exB zEx∧exM zEx≤1200000:=⟨.z,aB4,by decide⟩
 unfold aKe;split
 case isFalse=>exact q
 rename_i he;have he:=(Kq.endz _ he).1
 obtain⟨g,hwt,_,_⟩:=fK s;have h1:=aM0 (rJ s) hwt (bP s).2.R.length 0 _ g;have h2:=h1.2 he;have y:=wN s;refine⟨(kE hwt (bP s).2.R.length 0 _ g).2.1,aM1 _ 0 _,?_⟩;have u:=aPg (qK s).1;show exM (qK s).1≤_;unfold qK at u ⊢;omega
theorem aSg (s:Str):ptB (aIq s).1∧psz (aIq s).1≤1200000:=by
 refine⟨aOn s,?_⟩;have g:psz zPt≤1200000:=by decide
 unfold aIq;split
 case isFalse=>exact g
 rename_i he;have he:=(Kq.endz _ he).1
 obtain⟨q,hwt,_,_⟩:=fK s;unfold sA at he ⊢;split
 ·rename_i hb;rw[θ hb] at he;have h1:=(aFg (rJ s) (3*(bP s).2.R.length+1)).2.1 0 _ q;have h2:=h1.2 he;have u:=wN s;have y:=aSd (fS (3*(bP s).2.R.length+1) 0 (bP s).2).1;dsimp only;omega
 ·exact g
def tk0 (t:Tk):Tk:=⟨t.kind,t.text,t.n,0⟩
theorem k0 (t:Tk):(tk0 t).kind=t.kind:=rfl
theorem p0 (t:Tk):(tk0 t).pl=0:=rfl
def lx0:LE→Option (List Tk)
 | .ok l=>some (l.map tk0)
 | .error _=>none
def Lxs (s:Str) (us:List Tk):Prop:=∀f at',s.length≤f→lx0 (jO f at' s)=some us
def Lx (a:Str) (ts:List Tk):Prop:=∀b us,Lxs b us→Lxs (a++b) (ts++us)
theorem Lx.nil:Lx [] []:=fun _ _ h=>h
def s6:List Str:=[[40],[41],[123],[125],[59],[44],[92],[124],[58],[95]]
def aPk (t:Tk):Option (List Tk)→Option (List Tk)
 | none=>none
 | some l=>some (t::l)
def aIr:Nat→Str→Option (List Tk)
 | _,[]=>some []
 | 0,_=>none
 | f+1,c::r=>
  if blB c.toNat=true then aIr f r
  else if preB [45,45] (c::r)=true then none
  else match gJ (c::r) with
   | .error _=>none
   | .ok (k,t,v)=>if t.length<(c::r).length∨t∈s6 then aPk ⟨k,t,v,0⟩ (aIr f ((c::r).drop t.length)) else none
theorem sU (p:Nat→Bool) (b:Str):∀s:Str,cD p s<s.length→cD p (s++b)=cD p s
 | [],h=>absurd h (Ch 0)
 | c::s,h=>by
  rw[A1,cD,cD];rw[cD,Aa] at h;split
  ·rename_i hp;rw[θ hp] at h;rw[sU p b s (by omega)]
  ·rfl
theorem lX {n:Nat}{s b:Str}(h:n≤s.length):(s++b).take n=s.take n:=By h
theorem sJ {x s:Str}(b:Str) (h:x.length≤s.length):preB x (s++b)=preB x s:=by
 unfold preB;rw[lX h,ζ,φ h,φ (by omega)]
theorem aI5:∀x∈qJ,x.length≤2:=by decide
theorem vQ {s:Str}(b:Str) (h:2≤s.length):∀l:List Str,(∀x∈l,x.length≤2)→l.find? (fun x=>preB x (s++b))=l.find? (fun x=>preB x s)
 | [],_=>rfl
 | x::l,hl=>by
  have hx:=hl x B1;rw[List.find?_cons,List.find?_cons,sJ b (by omega),vQ b h l fun y hy=>hl y (Bj _ hy)]
theorem zI {s:Str}(b:Str) (h:2≤s.length):n6 (s++b)=n6 s:=by
 unfold n6;rw[vQ b h qJ aI5]
theorem aMh {c:UInt8}{t:Str}(h:n6 [c]=t) (hn:¬t=[]):t=[c]:=by
 unfold n6 at h;cases g:qJ.find? fun x=>preB x [c] with
 | none=>rw[g] at h;exact absurd h.symm hn
 | some x=>
  rw[g] at h;have:=List.find?_some g;unfold preB at this;rw[π] at this;have h1:=χ this.1;have h2:=χ this.2;subst h
  match x,h1,h2,hn with
  | [d],_,h2,_=>exact h2.symm
  | d::e::y,h1,_,_=>exact absurd h1 (by simp)
theorem s5 {c:UInt8}(b:Str) (h:[c]∈s6):n6 (c::b)=[c]∧preB [45,45] (c::b)=false∧dgB c.toNat=false∧wiB c.toNat 97 122=false∧wiB c.toNat 65 90=false:=by
 unfold s6 at h;simp only[Ar,List.cons.injEq,and_true,not_mem_nil,or_false] at h;rcases h with rfl | rfl | rfl | rfl | rfl | rfl | rfl | rfl | rfl | rfl<;>exact⟨by simp[n6,qJ,preB],by simp[preB],by decide,by decide,by decide⟩
theorem aAf {c:UInt8}{r:Str}(b:Str) {k:Int}{t:Str}{v:Int}(h:gJ (c::r)=.ok (k,t,v)) (hs:t.length<(c::r).length∨t∈s6):gJ (c::(r++b))=.ok (k,t,v):=by
 have hlen:=kQ h;have A:∀p:Nat→Bool,p c.toNat=true→t=(c::r).take (cD p (c::r))→(dgB c.toNat=true∨wiB c.toNat 97 122=true∨wiB c.toNat 65 90=true)→cD p (c::r)<(c::r).length:=fun p hp q hc=>by
  have g:=fO p (c::r);have U:t.length=cD p (c::r):=by rw[q,Aj];omega
  rcases hs with hs | hs
  ·omega
  ·exfalso;have:∃u,t=c::u:=⟨_,by rw[q,cD,θ hp,Ax]⟩
   obtain⟨u,rfl⟩:=this;have hu:u=[]:=by
    unfold s6 at hs;simp only[Ar,List.cons.injEq,not_mem_nil,or_false] at hs;rcases hs with h | h | h | h | h | h | h | h | h | h<;>exact h.2
   subst hu;obtain⟨_,_,I,J,M⟩:=s5 [] hs;rcases hc with hc | hc | hc
   ·rw[I] at hc;cases hc
   ·rw[J] at hc;cases hc
   ·rw[M] at hc;cases hc
 rw[show c::(r++b)=(c::r)++b from rfl];rw[gJ] at h;rw[show gJ ((c::r)++b)=gJ (c::(r++b)) from rfl,gJ];rw[show c::(r++b)=(c::r)++b from rfl];by_cases y:dgB c.toNat=true
 ·rw[θ y] at h ⊢;split at h
  ·cases h
  ·rename_i O;injection h with h;injection h with h1 h;injection h with h2 B;have g:=A dgB y h2.symm (.inl y);rw[sU _ b _ g,lX (Ct g),ξ O,B,h2,h1]
 rw[ξ y] at h ⊢;by_cases hn:wiB c.toNat 97 122=true∨wiB c.toNat 65 90=true
 ·rw[θ hn] at h ⊢;have E:sgB c.toNat=true:=by
   rcases hn with h | h
   ·have:=aEj c.toNat;rw[h] at this;simpa using this
   ·have:=aEi c.toNat;rw[h] at this;simpa using this
  have q:t=(c::r).take (cD sgB (c::r)):=by
   unfold mC at h;split at h
   ·cases h
   split at h
   ·cases h;rfl
   split at h
   ·cases h;rfl
   ·cases h;rfl
  have g:=A sgB E q (.inr hn);unfold mC at h ⊢;rw[sU _ b _ g,lX (Ct g)];exact h
 rw[ξ hn] at h ⊢;split at h
 ·cases h
 rename_i hy;injection h with h;injection h with h1 h;injection h with h2 B;have hS:n6 ((c::r)++b)=t:=by
  rcases hs with hs | hs
  ·rw[zI b (by have:=hlen.1;omega)];exact h2
  ·cases r with
   | nil=>
    have e:=aMh h2 (by rw[←h2];exact hy);rw[e] at hs ⊢;exact(s5 b hs).1
   | cons d r=>rw[zI b (by rw[Aa,Aa];omega)];exact h2
 rw[hS,ξ (by rw[←h2];exact hy),h1,B]
theorem aAl (t:Tk) (r:LE):lx0 (tF t r)=aPk (tk0 t) (lx0 r):=by cases r<;>rfl
theorem xW:∀(f:Nat) (a:Str) (ts:List Tk),aIr f a=some ts→Lx a ts
 | 0,[],ts,h=>by rw[aIr] at h;cases h;exact Lx.nil
 | 0,c::r,ts,h=>by simp[aIr] at h
 | f+1,[],ts,h=>by rw[aIr] at h;cases h;exact Lx.nil
 | f+1,c::r,ts,h=>by
  intro b us hb g at' U;rw[A1,Aa,ζ] at U;obtain⟨g,rfl⟩:∃k,g=k+1:=⟨g-1,by omega⟩
  rw[aIr] at h;rw[A1,jO];by_cases u:blB c.toNat=true
  ·rw[θ u] at h;have hB:eM (c::(r++b))=1:=by unfold eM;exact θ u
   rw[hB,θ (by decide)];exact xW f r ts h b us hb g _ (by show(r++b).length≤g;rw[ζ];omega)
  rw[ξ u] at h;split at h
  ·cases h
  rename_i A;cases ho:gJ (c::r) with
  | error e=>rw[ho] at h;cases h
  | ok p=>
   obtain⟨k,t,v⟩:=p;rw[ho] at h;dsimp only at h;split at h
   case isFalse=>cases h
   rename_i hs;have B:=aAf b ho hs;obtain⟨hl1,y⟩:=kQ ho;have E:preB [45,45] (c::(r++b))=false:=by
    by_cases h2:2≤(c::r).length
    ·rw[show c::(r++b)=(c::r)++b from rfl,sJ (x:=[45,45]) b h2];simpa using A
    ·have Y:r=[]:=by
      cases r with
      | nil=>rfl
      | cons d r=>exact absurd (by rw[Aa,Aa];omega) h2
     subst Y;have q:t∈s6:=by
      rcases hs with hs | hs
      ·rw[Aa,length_nil] at hs;omega
      ·exact hs
     have:t=[c]:=by
      have I:t.length=1:=by rw[Aa,length_nil] at y;omega
      match t,I,ho with
      | [d],_,ho=>
       rw[gJ] at ho;split at ho
       ·split at ho
        ·cases ho
        ·rename_i hd _;injection ho with ho;injection ho with _ ho;injection ho with ho _;rw[cD,θ hd,Ax] at ho;injection ho with ho _;rw[ho]
       split at ho
       ·rename_i hn;have J:sgB c.toNat=true:=by
         rcases hn with h | h
         ·have:=aEj c.toNat;rw[h] at this;simpa using this
         ·have:=aEi c.toNat;rw[h] at this;simpa using this
        have q:[d]=[c].take (cD sgB [c]):=by
         unfold mC at ho;split at ho
         ·cases ho
         split at ho
         ·injection ho with ho;injection ho with _ ho;injection ho with ho _;exact ho.symm
         split at ho
         ·injection ho with ho;injection ho with _ ho;injection ho with ho _;exact ho.symm
         ·injection ho with ho;injection ho with _ ho;injection ho with ho _;exact ho.symm
        rw[cD,θ J,Ax] at q;injection q with q _;rw[q]
       split at ho
       ·cases ho
       rename_i hy;injection ho with ho;injection ho with _ ho;injection ho with ho _;exact aMh ho (by simp)
     rw[this] at q;exact(s5 b q).2.1
   have hB:eM (c::(r++b))=0:=by
    unfold eM;dsimp only;rw[ξ u,ξ (by rw[E];exact ω)]
   rw[hB,ξ (Ch 0),B];dsimp only;rw[aAl];have M:(c::(r++b)).drop t.length=(c::r).drop t.length++b:=by
    rw[show c::(r++b)=(c::r)++b from rfl,Bz y]
   rw[M];cases hq:aIr f ((c::r).drop t.length) with
   | none=>rw[hq] at h;cases h
   | some O=>
    rw[hq] at h;injection h with h;subst h;rw[Aa] at y;rw[xW f _ O hq b us hb g _ (by rw[ζ,Bc,Aa];omega)];rfl
def dlm (b:Str):Prop:=b=[]∨∃d b',b=d::b'∧sgB d.toNat=false
def LxD (a:Str) (ts:List Tk):Prop:=∀b us,dlm b→Lxs b us→Lxs (a++b) (ts++us)
theorem Lx.d {a:Str}{ts:List Tk}(h:Lx a ts):LxD a ts:=fun b us _ k=>h b us k
theorem Lx.appD {a b:Str}{ts us:List Tk}(h:Lx a ts) (k:LxD b us):LxD (a++b) (ts++us):=fun c vs g hc=>by
 rw[Am,Am];exact h _ _ (k _ _ g hc)
theorem LxD.app {a b:Str}{ts us:List Tk}(h:LxD a ts) (hb:∃d g,b=d::g∧sgB d.toNat=false) (k:Lx b us):Lx (a++b) (ts++us):=fun c vs hc=>by
 obtain⟨d,g,rfl,q⟩:=hb;rw[Am,Am];exact h _ _ (.inr ⟨d,g++c,rfl,q⟩) (k _ _ hc)
theorem LxD.appD {a b:Str}{ts us:List Tk}(h:LxD a ts) (hb:∃d g,b=d::g∧sgB d.toNat=false) (k:LxD b us):LxD (a++b) (ts++us):=fun c vs q hc=>by
 obtain⟨d,g,rfl,u⟩:=hb;rw[Am,Am];exact h _ _ (.inr ⟨d,g++c,rfl,u⟩) (k _ _ q hc)
def xZ:Nat→Str→Option (List Tk)
 | _,[]=>some []
 | 0,_=>none
 | f+1,c::r=>
  if blB c.toNat=true then xZ f r
  else if preB [45,45] (c::r)=true then none
  else match gJ (c::r) with
   | .error _=>none
   | .ok (k,t,v)=>if t.length<(c::r).length∨t∈s6∨¬k=4 then aPk ⟨k,t,v,0⟩ (xZ f ((c::r).drop t.length)) else none
theorem sT {p:Nat→Bool}(hp:∀c:UInt8,p c.toNat=true→sgB c.toNat=true) {b:Str}(hb:dlm b):∀s:Str,cD p (s++b)=cD p s
 | []=>by
  rw[A9];rcases hb with rfl | ⟨d,q,rfl,g⟩
  ·rfl
  ·show cD p (d::q)=0;rw[cD,ξ (fun h=>by rw[hp d h] at g;cases g)]
 | c::s=>by rw[A1,cD,cD,sT hp hb s]
theorem aV7:∀c:UInt8,dgB c.toNat=true→sgB c.toNat=true:=j7 (p:=fun c=>dgB c.toNat=true→sgB c.toNat=true) (by decide+kernel)
theorem aOq (k:Int) (t:Str) (v:Int) (h:gJ [45]=.ok (k,t,v)):False:=by
 have:gJ [45]=.error 10:=by kernel_rfl
 rw[this] at h;cases h
theorem aFk {c:UInt8}{r:Str}{b:Str}{k:Int}{t:Str}{v:Int}(hb:dlm b) (h:gJ (c::r)=.ok (k,t,v)) (hs:t.length<(c::r).length∨t∈s6∨¬k=4):gJ (c::(r++b))=.ok (k,t,v):=by
 by_cases hq:t.length<(c::r).length∨t∈s6
 ·exact aAf b h hq
 have q:¬k=4:=by
  rcases hs with hs | hs | hs
  ·exact absurd (.inl hs) hq
  ·exact absurd (.inr hs) hq
  ·exact hs
 rw[gJ] at h;rw[show gJ (c::(r++b))=_ from gJ.eq_2 c (r++b),show c::(r++b)=(c::r)++b from rfl];by_cases g:dgB c.toNat=true
 ·rw[θ g] at h ⊢;rw[sT aV7 hb,lX (fO _ _)];exact h
 rw[ξ g] at h ⊢;by_cases hn:wiB c.toNat 97 122=true∨wiB c.toNat 65 90=true
 ·rw[θ hn] at h ⊢;unfold mC at h ⊢;rw[sT (fun _ h=>h) hb,lX (fO _ _)];exact h
 rw[ξ hn] at h;split at h
 ·cases h
 ·injection h with h;injection h with h _;exact absurd h.symm q
theorem aPi {c:UInt8}{r:Str}{k:Int}{t:Str}{v:Int}(h:gJ (c::r)=.ok (k,t,v)) (g:¬preB [45,45] (c::r)=true) (b:Str):preB [45,45] (c::(r++b))=false:=by
 by_cases h2:2≤(c::r).length
 ·rw[show c::(r++b)=(c::r)++b from rfl,sJ (x:=[45,45]) b h2];simpa using g
 ·have q:r=[]:=by
   cases r with
   | nil=>rfl
   | cons d r=>exact absurd (by rw[Aa,Aa];omega) h2
  subst q;by_cases hc:c=45
  ·subst hc;exact(aOq k t v h).elim
  ·unfold preB;rw[Bool.and_eq_false_iff];refine .inr (ψ fun e=>?_);rw[A9,show([45,45]:Str).length=1+1 from rfl,Ax] at e;injection e with e _;exact hc e
theorem xY:∀(f:Nat) (a:Str) (ts:List Tk),xZ f a=some ts→LxD a ts
 | 0,[],ts,h=>by rw[xZ] at h;cases h;exact Lx.nil.d
 | 0,c::r,ts,h=>by simp[xZ] at h
 | f+1,[],ts,h=>by rw[xZ] at h;cases h;exact Lx.nil.d
 | f+1,c::r,ts,h=>by
  intro b us y hb g O M;rw[A1,Aa,ζ] at M;obtain⟨g,rfl⟩:∃k,g=k+1:=⟨g-1,by omega⟩
  rw[xZ] at h;rw[A1,jO];by_cases q:blB c.toNat=true
  ·rw[θ q] at h;have hB:eM (c::(r++b))=1:=by unfold eM;exact θ q
   rw[hB,θ (by decide)];exact xY f r ts h b us y hb g _ (by show(r++b).length≤g;rw[ζ];omega)
  rw[ξ q] at h;split at h
  ·cases h
  rename_i A;cases ho:gJ (c::r) with
  | error e=>rw[ho] at h;cases h
  | ok p=>
   obtain⟨k,t,v⟩:=p;rw[ho] at h;dsimp only at h;split at h
   case isFalse=>cases h
   rename_i hs;have B:=aFk y ho hs;obtain⟨U,u⟩:=kQ ho;have E:=aPi ho A b;have hB:eM (c::(r++b))=0:=by
    unfold eM;dsimp only;rw[ξ q,ξ (by rw[E];exact ω)]
   rw[hB,ξ (Ch 0),B];dsimp only;rw[aAl];have I:(c::(r++b)).drop t.length=(c::r).drop t.length++b:=by
    rw[show c::(r++b)=(c::r)++b from rfl,Bz u]
   rw[I];cases hq:xZ f ((c::r).drop t.length) with
   | none=>rw[hq] at h;cases h
   | some J=>
    rw[hq] at h;injection h with h;subst h;rw[Aa] at u;rw[xY f _ J hq b us y hb g _ (by rw[ζ,Bc,Aa];omega)];rfl
def LD (s:Str):Prop:=∃ts,LxD s ts
def LQ (s:Str):Prop:=∃ts,Lx s ts
def dlh (s:Str):Prop:=∃d b,s=d::b∧sgB d.toNat=false
theorem LQ.d {s:Str}(h:LQ s):LD s:=by obtain⟨t,h⟩:=h;exact⟨t,h.d⟩
theorem LQ.appD {a b:Str}(h:LQ a) (k:LD b):LD (a++b):=by obtain⟨t,h⟩:=h;obtain⟨u,k⟩:=k;exact⟨_,h.appD k⟩
theorem LD.app {a b:Str}(h:LD a) (hb:dlh b) (k:LQ b):LQ (a++b):=by obtain⟨t,h⟩:=h;obtain⟨u,k⟩:=k;exact⟨_,h.app hb k⟩
theorem LD.appD {a b:Str}(h:LD a) (hb:dlh b) (k:LD b):LD (a++b):=by obtain⟨t,h⟩:=h;obtain⟨u,k⟩:=k;exact⟨_,h.appD hb k⟩
theorem LQ.of {s:Str}(h:(aIr s.length s).isSome=true):LQ s:=by
 cases e:aIr s.length s with
 | none=>rw[e] at h;cases h
 | some ts=>exact⟨ts,xW _ _ _ e⟩
theorem LD.of {s:Str}(h:(xZ s.length s).isSome=true):LD s:=by
 cases e:xZ s.length s with
 | none=>rw[e] at h;cases h
 | some ts=>exact⟨ts,xY _ _ _ e⟩
def TX (n:Nat) (l:List Int) (i j:Nat) (s:Str):Prop:=s.length+30*(l.length-j)≤30*(l.length-i)+n∧LD s
def Nx (l:List Int) (i v j:Nat):Prop:=(i<l.length∧j=i+1)∨(j=i∧l.length≤i∧v=0)
theorem Nx.le {l:List Int}{i v j:Nat}(h:Nx l i v j) (hi:i≤l.length):j≤l.length:=by
 rcases h with⟨h1,h2⟩ | ⟨h1,h2,g⟩<;>omega
theorem Nx.pos {l:List Int}{i v j:Nat}(h:Nx l i v j) (g:¬v=0):i<l.length∧j=i+1:=by
 rcases h with h | ⟨_,_,q⟩
 ·exact h
 ·exact absurd q g
theorem TX.le {n:Nat}{l:List Int}{i j:Nat}{s:Str}(h:TX n l i j s):s.length≤30*l.length+n:=by
 have:=h.1;omega
def tkP:V:=.one (.vp 750 0)
def tkO (l:List Int) (i:Nat):AObj:=.var 97 [.c (.sl 1 (l.map xB)),.c (.int .i64 (i:Nat))]
theorem aW1 (l:List Int) (k:Nat) (g:Fits l) (q:k≤1000):aU Tryz.prog 24 [.one (.c (.sl 1 (l.map xB))),I .i64 (k:Nat)] [] tkP [(750,tkO (l.take k) 0)]:=by
 have hi:=aTu l k g q;refine bC (n:=10) tok Tryz.func24 rfl rfl rfl ?_;refine sg rfl (sk 2 rfl (kc hi ?_));exact ak 3 [(4,.id 750)] rfl (az (aF rtT))
theorem lN (l:List Int) (hl:aNp l) (E:l.length≤1000) (i:Nat) (hi:i≤l.length) (g:Nat) (hm:0<g) (A:g≤1000000):∃v j:Nat,v<g∧Nx l i v j∧aU Tryz.prog 45 [tkP,I .i64 (g:Nat)] [(750,tkO l i)] (I .i64 (v:Nat)) [(750,tkO l j)]:=by
 have q:(l.map xB).length=l.length:=κ _;by_cases h:i<l.length
 ·obtain⟨x,hx⟩:=aM h;have B:=b9 xB hx;have u:i64 x:=hl x (Af hx);obtain⟨h1,h2⟩:=aIc x (k:=(g:Int)) (by omega);obtain⟨v,y⟩:∃v:Nat,qF x g=v:=⟨(qF x g).toNat,by omega⟩
  have hc:=aLg x g u (by omega);rw[y] at hc;refine⟨v,i+1,by omega,.inl ⟨h,rfl⟩,?_⟩;have d1:decide ((l.length:Int)≤(i:Int))=false:=ψ (by omega);refine bC (n:=37) tok Tryz.func45 rfl rfl rfl ?_;refine sg rfl (aA (sg rfl ?_));rw[q];refine aB rfl (fun hb=>absurd (hb.symm.trans d1) Bool.noConfusion) (fun _=>aD (skh 11 [(8,.row i (xB x))] rfl (kc hc ?_)));exact kz 1 rfl (aA (agN [] rfl (sg rfl (aF rtT))))
 ·refine⟨0,i,hm,.inr ⟨rfl,by omega,rfl⟩,?_⟩;have d1:decide ((l.length:Int)≤(i:Int))=true:=φ (by omega);refine bC (n:=37) tok Tryz.func45 rfl rfl rfl ?_;refine sg rfl (aA (sg rfl ?_));rw[q];exact aB rfl (fun _=>sg rfl (aF rtT)) (fun hb=>absurd (hb.symm.trans d1) Bool.noConfusion)
def aJd:Code→Code | .seq _ b=>b | c=>c
def aUw:List Str:=[[120],[95],[48],[50],[78],[84,114,117,101],[78,111],[110]]
theorem aOi:∀s∈aUw,s.length≤4∧(xZ s.length s).isSome=true:=by decide+kernel
theorem pW (l:List Int) (hl:aNp l) (M:l.length≤1000):∀(k i deep:Nat),i≤l.length→deep+k=3→∃(s:Str) (j:Nat),TX 1 l i j s∧j≤l.length∧aU Tryz.prog 26 [tkP,I .i64 (deep:Nat)] [(750,tkO l i)] (Go.AM.T s) [(750,tkO l j)]:=by
 intro k;have hM:1000000000≤maxLen:=by decide
 have leaf:∀(i deep v j:Nat),aU Tryz.prog 45 [tkP,I .i64 ((13:Nat):Int)] [(750,tkO l i)] (I .i64 (v:Nat)) [(750,tkO l j)]→v<13→i≤l.length→Nx l i v j→(v<8∨2<deep)→∃(s:Str) (j:Nat),TX 1 l i j s∧j≤l.length∧aU Tryz.prog 26 [tkP,I .i64 (deep:Nat)] [(750,tkO l i)] (Go.AM.T s) [(750,tkO l j)]:=fun i deep v j hc A hi hx hvd=>by
  obtain⟨s,hs⟩:=aM (l:=aUw) (k:=v%8) (by show v%8<8;omega);have hs':=b9 aR hs;obtain⟨hsl,O⟩:=aOi s (Af hs)
  have hT:TX 1 l i j s:=⟨by
   rcases hx with⟨h1,h2⟩ | ⟨h1,h2,h3⟩
   ·omega
   ·subst h3;have:s=[120]:=(Option.some.inj hs).symm;subst this;subst h1
    show 1+_≤_;omega,LD.of O⟩
  have U:(aUw.map aR).length=8:=rfl;refine⟨s,j,hT,hx.le hi,?_⟩;refine bC (n:=49) tok Tryz.func26 rfl rfl rfl ?_;refine sg rfl (sgh [(0,.all)] rfl (sk 1 rfl (kc hc ?_)));refine kz 1 rfl (AWp.sub (st2:=mk [(0,tkP),(1,I .i64 (deep:Nat)),(5,bI aUw),(6,I .i64 (v:Nat))] [(750,tkO l j)]) sl ?_);exact aA (aA (agF 3 [] rfl rfl rfl (aB rfl (fun _=>aA (agN [(3,.row (v%8) (aR s))] rfl (aF rtT))) (fun hb=>by simp at hb;omega))))
 induction k with
 | zero=>
  intro i deep hi hd;obtain⟨v,j,A,B,hc⟩:=lN l hl M i hi 13 (by decide) (by decide);exact leaf i deep v j hc A hi B (.inr (by omega))
 | succ k Y=>
  intro i deep hi hd;obtain⟨v,j,A,hx,hc⟩:=lN l hl M i hi 13 (by decide) (by decide);by_cases U:v<8
  ·exact leaf i deep v j hc A hi hx (.inl U)
  obtain⟨aa,rfl⟩:=hx.pos (by omega);have B:i+1≤l.length:=aa;obtain⟨s1,E,g,q,u⟩:=Y (i+1) (deep+1) B (by omega);obtain⟨s2,j2,y,ab,ac⟩:=Y E (deep+1) q (by omega);have l1:=g.1;have l2:=y.1;have m1:=g.le;have m2:=y.le;have pre:∀(s:Str) (J:Nat),AWp none Tryz.prog 49 (keys [(750,tkO l i)]) (aJd (aJd (aJd (aJd (Tryz.f26.body.getD .skip))))) (mk [(0,tkP),(1,I .i64 (deep:Nat)),(6,I .i64 (v:Nat))] [(750,tkO l (i+1))]) (fun ex st=>(ex=.normal∨ex=.ret)∧Fin tr.flat Tryz.f26 st [(750,tkO l i)] (Go.AM.T s) [(750,tkO l J)])→aU Tryz.prog 26 [tkP,I .i64 (deep:Nat)] [(750,tkO l i)] (Go.AM.T s) [(750,tkO l J)]:=fun s J h=>by
   refine bC (n:=49) tok Tryz.func26 rfl rfl rfl ?_;refine sg rfl (sgh [(0,.all)] rfl (sk 1 rfl (kc hc ?_)));refine kz 1 rfl (AWp.sub (st2:=mk [(0,tkP),(1,I .i64 (deep:Nat)),(6,I .i64 (v:Nat))] [(750,tkO l (i+1))]) sl ?_);exact aA (aA (agF 3 [] rfl rfl rfl (aB rfl (fun hb=>by simp at hb;omega) (fun _=>aD (AWp.sub sl h)))))
  by_cases h10:v<10
  ·refine⟨[67,32,40]++s1++[41,32,40]++s2++[41],j2,⟨by simp only[ζ,Aa,length_nil];omega,(((((LQ.of rfl).appD g.2).app ⟨_,_,rfl,rfl⟩ (LQ.of rfl)).appD y.2).app ⟨_,_,rfl,rfl⟩ (LQ.of rfl)).d⟩,ab,pre _ _ ?_⟩;have d10:decide ((v:Int)<10)=true:=φ (by omega);refine aA (sg rfl (aB rfl (fun _=>aA (aC mixed (akN 3 [] rfl (kc u ?_)))) (fun hb=>Bool.noConfusion (hb.symm.trans d10))));refine akN 5 [] rfl (kc ac ?_);exact kz 3 rfl (aF rtT)
  have d10:decide ((v:Int)<10)=false:=ψ (by omega);by_cases h12:v<12
  ·refine⟨[89,101,115,32,40]++s1++[41],E,⟨by simp only[ζ,Aa,length_nil];omega,(((LQ.of rfl).appD g.2).app ⟨_,_,rfl,rfl⟩ (LQ.of rfl)).d⟩,q,pre _ _ ?_⟩;have d12:decide ((v:Int)<12)=true:=φ (by omega);refine aA (sg rfl (aB rfl (fun hb=>Bool.noConfusion (hb.symm.trans d10)) (fun _=>aD (aA (sg rfl (aB rfl (fun _=>aA (aC mixed (akN 3 [] rfl (kc u ?_)))) (fun hb=>Bool.noConfusion (hb.symm.trans d12))))))));exact kz 3 rfl (aF rtT)
  have d12:decide ((v:Int)<12)=false:=ψ (by omega);refine⟨[80,32,40]++s1++[41,32,121],E,⟨by simp only[ζ,Aa,length_nil];omega,((LQ.of rfl).appD g.2).appD ⟨_,_,rfl,rfl⟩ (LD.of rfl)⟩,q,pre _ _ ?_⟩;refine aA (sg rfl (aB rfl (fun hb=>Bool.noConfusion (hb.symm.trans d10)) (fun _=>aD (aA (sg rfl (aB rfl (fun hb=>Bool.noConfusion (hb.symm.trans d12)) (fun _=>aD (aA (aC mixed (akN 3 [] rfl (kc u ?_)))))))))));exact kz 3 rfl (aF rtT)
theorem aGf (l:List Int) (hl:aNp l) (g:Fits l):∃s:Str,s.length≤1000∧aU Tryz.prog 8 [.one (.c (.sl 1 (l.map xB)))] [] (Go.AM.T s) []:=by
 have ho:=aW1 l 20 g (by decide);obtain⟨s,j,hs,_,hc⟩:=pW (l.take 20) (fun x hx=>hl x (Bx hx)) (by rw[Aj];omega) 3 0 0 (Ac _) rfl;have q:(l.take 20).length≤20:=by rw[Aj];omega
 have hle:=hs.le;refine⟨s,by omega,?_⟩;refine bC (n:=6) tok Tryz.func8 rfl rfl rfl ?_;refine sg rfl (sk 1 rfl (kc ho ?_));refine kc hc ?_;exact kz 1 rfl (aF rtT)
def aNt:List Str:=[[120],[121],[102],[105,100],[107],[97,100,100],[101,113],[115,97,109,101],[109,97,112],[116,111,112],[84,114,117,101],[78],[67],[80],[89,101,115],[51],[48],[109,101,109,98,101,114],[115,117,109],[109,97,105,110],[122]]
theorem aIy:∀s∈aNt,s.length≤6∧(xZ s.length s).isSome=true:=by decide+kernel
theorem aA4 (l:List Int) (hl:aNp l) (q:l.length≤1000) (i:Nat) (hi:i≤l.length):∃(s:Str) (j:Nat),TX 1 l i j s∧j≤l.length∧aU Tryz.prog 44 [tkP] [(750,tkO l i)] (Go.AM.T s) [(750,tkO l j)]:=by
 obtain⟨v,j,u,hx,hc⟩:=lN l hl q i hi 21 (by decide) (by decide);obtain⟨s,hs⟩:=aM (l:=aNt) (k:=v) u;have B:=b9 aR hs;obtain⟨E,g⟩:=aIy s (Af hs)
 have y:TX 1 l i j s:=⟨by
  rcases hx with⟨h1,h2⟩ | ⟨h1,h2,A⟩
  ·omega
  ·subst A;have:s=[120]:=(Option.some.inj hs).symm;subst this;subst h1
   show 1+_≤_;omega,LD.of g⟩
 have I:(aNt.map aR).length=21:=rfl;refine⟨s,j,y,hx.le hi,?_⟩;refine bC (n:=8) tok Tryz.func44 rfl rfl rfl ?_;refine sg rfl (skh 2 [(0,.all)] rfl (kc hc ?_));exact ak 3 [(3,.row v (aR s))] rfl (az (aF rtT))
def aO3:List Str:=[[120],[121],[120,32,121],[102,32,120]]
def aO1:List Str:=[[120],[102,32,121],[105,100,32,122]]
def aQy:List Str:=[[73,110,116],[66,111,111,108],[97,32,45,62,32,97],[69,32,97,32,61,62,32,97,32,45,62,32,66,111,111,108],[76,32,73,110,116],[70,32,102,32,61,62,32,102,32,97]]
theorem aJ5:∀s∈aO3,s.length≤3∧(xZ s.length s).isSome=true:=by decide+kernel
theorem aJ3:∀s∈aO1,s.length≤4∧(xZ s.length s).isSome=true:=by decide+kernel
theorem aL3:∀s∈aQy,s.length≤16∧(xZ s.length s).isSome=true:=by decide+kernel
theorem aS8 (l:List Int) (hl:aNp l) (hL:l.length≤1000):∀(k i deep:Nat),i≤l.length→deep+k=5→∃(s:Str) (j:Nat),TX 1 l i j s∧j≤l.length∧aU Tryz.prog 23 [tkP,I .i64 (deep:Nat)] [(750,tkO l i)] (Go.AM.T s) [(750,tkO l j)]:=by
 have hM:1000000000≤maxLen:=by decide
 intro k
 induction k with
 | zero=>
  intro i deep hi hd;obtain⟨s,j,hs,M,hc⟩:=aA4 l hl hL i hi;have d4:decide (4<(deep:Int))=true:=φ (by omega);refine⟨s,j,hs,M,?_⟩;refine bC (n:=123) tok Tryz.func23 rfl rfl rfl ?_;refine sg rfl (aA (sg rfl (aB rfl (fun _=>sk 1 rfl (kc hc ?_)) (fun hb=>Bool.noConfusion (hb.symm.trans d4)))));exact kz 1 rfl (aF rtT)
 | succ k O=>
  intro i deep hi hd;have d4:decide (4<(deep:Int))=false:=ψ (by omega);obtain⟨v,j,hv,hx,hc⟩:=lN l hl hL i hi 10 (by decide) (by decide);have M:=hx.le hi
  match v,hv,hx,hc with
  | 0,_,hx,hc=>
   obtain⟨s1,A,g,q,u⟩:=aA4 l hl hL j M;have B:=g.1;have E:=g.le;have hxl:l.length-j≤l.length-i:=by rcases hx with⟨_,_⟩ | ⟨_,_,_⟩<;>omega
   refine⟨s1,A,⟨by omega,g.2⟩,q,?_⟩;refine bC (n:=123) tok Tryz.func23 rfl rfl rfl ?_;refine sg rfl (aA (sg rfl (aB rfl (fun hb=>Bool.noConfusion (hb.symm.trans d4)) (fun _=>aD (aA (sk 1 rfl (kc hc ?_)))))));refine az (aE (aA (sg rfl (aB rfl (fun _=>aD (aB rfl (fun _=>sk 1 rfl (kc u ?_)) (fun hb=>Bool.noConfusion hb))) (fun hb=>Bool.noConfusion hb)))));exact kz 1 rfl (aF rtT)
  | 1,_,hx,hc=>
   obtain⟨s1,A,g,q,u⟩:=aA4 l hl hL j M;have B:=g.1;have E:=g.le;have hxl:l.length-j≤l.length-i:=by rcases hx with⟨_,_⟩ | ⟨_,_,_⟩<;>omega
   refine⟨s1,A,⟨by omega,g.2⟩,q,?_⟩;refine bC (n:=123) tok Tryz.func23 rfl rfl rfl ?_;refine sg rfl (aA (sg rfl (aB rfl (fun hb=>Bool.noConfusion (hb.symm.trans d4)) (fun _=>aD (aA (sk 1 rfl (kc hc ?_)))))));refine az (aE (aA (sg rfl (aB rfl (fun hb=>Bool.noConfusion hb) (fun _=>sg rfl (aB rfl (fun _=>aD (aB rfl (fun _=>sk 1 rfl (kc u ?_)) (fun hb=>Bool.noConfusion hb))) (fun hb=>Bool.noConfusion hb)))))));exact kz 1 rfl (aF rtT)
  | 2,_,hx,hc=>
   obtain⟨s1,A,g,q,u⟩:=aA4 l hl hL j M;have B:=g.1;have E:=g.le;have hxl:l.length-j≤l.length-i:=by rcases hx with⟨_,_⟩ | ⟨_,_,_⟩<;>omega
   refine⟨s1,A,⟨by omega,g.2⟩,q,?_⟩;refine bC (n:=123) tok Tryz.func23 rfl rfl rfl ?_;refine sg rfl (aA (sg rfl (aB rfl (fun hb=>Bool.noConfusion (hb.symm.trans d4)) (fun _=>aD (aA (sk 1 rfl (kc hc ?_)))))));refine az (aE (aA (sg rfl (aB rfl (fun hb=>Bool.noConfusion hb) (fun _=>sg rfl (aB rfl (fun hb=>Bool.noConfusion hb) (fun _=>ag [] rfl (aB rfl (fun _=>sk 1 rfl (kc u ?_)) (fun hb=>Bool.noConfusion hb)))))))));exact kz 1 rfl (aF rtT)
  | 3,_,hx,hc=>
   obtain⟨s1,A,g,q,u⟩:=O j (deep+1) M (by omega);obtain⟨s2,j2,y,Y,aa⟩:=O A (deep+1) q (by omega);have B:=g.1;have E:=g.le;have lhs2:=y.1;have mhs2:=y.le;obtain⟨hi1,rfl⟩:=hx.pos (by decide);refine⟨[40]++s1++[41,32,40]++s2++[41],j2,⟨by simp only[ζ,Aa,length_nil];omega,(((((LQ.of rfl).appD g.2).app ⟨_,_,rfl,rfl⟩ (LQ.of rfl)).appD y.2).app ⟨_,_,rfl,rfl⟩ (LQ.of rfl)).d⟩,Y,?_⟩;refine bC (n:=123) tok Tryz.func23 rfl rfl rfl ?_;refine sg rfl (aA (sg rfl (aB rfl (fun hb=>Bool.noConfusion (hb.symm.trans d4)) (fun _=>aD (aA (sk 1 rfl (kc hc ?_)))))));refine az (aE (aA (sg rfl (aB rfl (fun hb=>Bool.noConfusion hb) (fun _=>sg rfl (aB rfl (fun hb=>Bool.noConfusion hb) (fun _=>ag [] rfl (aB rfl (fun hb=>Bool.noConfusion hb) (fun _=>aA (sg rfl (aB rfl (fun _=>aD (aB rfl (fun _=>aA (aC mixed (akN 3 [] rfl (kc u ?_)))) (fun hb=>Bool.noConfusion hb))) (fun hb=>Bool.noConfusion hb))))))))))));refine akN 5 [] rfl (kc aa ?_);exact kz 3 rfl (aF rtT)
  | 4,_,hx,hc=>
   obtain⟨s1,A,g,q,u⟩:=O j (deep+1) M (by omega);obtain⟨s2,j2,y,Y,aa⟩:=O A (deep+1) q (by omega);have B:=g.1;have E:=g.le;have lhs2:=y.1;have mhs2:=y.le;obtain⟨hi1,rfl⟩:=hx.pos (by decide);refine⟨[40]++s1++[41,32,40]++s2++[41],j2,⟨by simp only[ζ,Aa,length_nil];omega,(((((LQ.of rfl).appD g.2).app ⟨_,_,rfl,rfl⟩ (LQ.of rfl)).appD y.2).app ⟨_,_,rfl,rfl⟩ (LQ.of rfl)).d⟩,Y,?_⟩;refine bC (n:=123) tok Tryz.func23 rfl rfl rfl ?_;refine sg rfl (aA (sg rfl (aB rfl (fun hb=>Bool.noConfusion (hb.symm.trans d4)) (fun _=>aD (aA (sk 1 rfl (kc hc ?_)))))));refine az (aE (aA (sg rfl (aB rfl (fun hb=>Bool.noConfusion hb) (fun _=>sg rfl (aB rfl (fun hb=>Bool.noConfusion hb) (fun _=>ag [] rfl (aB rfl (fun hb=>Bool.noConfusion hb) (fun _=>aA (sg rfl (aB rfl (fun hb=>Bool.noConfusion hb) (fun _=>ag [] rfl (aB rfl (fun _=>aA (aC mixed (akN 3 [] rfl (kc u ?_)))) (fun hb=>Bool.noConfusion hb))))))))))))));refine akN 5 [] rfl (kc aa ?_);exact kz 3 rfl (aF rtT)
  | 5,_,hx,hc=>
   obtain⟨w,j9,hw,U,hcn⟩:=lN l hl hL j M 4 (by decide) (by decide);have hj9:=U.le M;obtain⟨t,ht⟩:=aM (l:=aO3) (k:=w) hw;have ht':=b9 aR ht;obtain⟨htl,J⟩:=aJ5 t (Af ht);have J:=LD.of J;have hxl:l.length-j9≤l.length-j:=by rcases U with⟨_,_⟩ | ⟨_,_,_⟩<;>omega
   have hkw:(aO3.map aR).length=4:=rfl;obtain⟨s1,A,g,q,u⟩:=O j9 (deep+1) hj9 (by omega);have B:=g.1;have E:=g.le;obtain⟨hi1,rfl⟩:=hx.pos (by decide);refine⟨[40,92,32]++t++[32,45,62,32]++s1++[41],A,⟨by simp only[ζ,Aa,length_nil];omega,(((((LQ.of rfl).appD J).app ⟨_,_,rfl,rfl⟩ (LQ.of rfl)).appD g.2).app ⟨_,_,rfl,rfl⟩ (LQ.of rfl)).d⟩,q,?_⟩;refine bC (n:=123) tok Tryz.func23 rfl rfl rfl ?_;refine sg rfl (aA (sg rfl (aB rfl (fun hb=>Bool.noConfusion (hb.symm.trans d4)) (fun _=>aD (aA (sk 1 rfl (kc hc ?_)))))));refine az (aE (aA (sg rfl (aB rfl (fun hb=>Bool.noConfusion hb) (fun _=>sg rfl (aB rfl (fun hb=>Bool.noConfusion hb) (fun _=>ag [] rfl (aB rfl (fun hb=>Bool.noConfusion hb) (fun _=>aA (sg rfl (aB rfl (fun hb=>Bool.noConfusion hb) (fun _=>ag [] rfl (aB rfl (fun hb=>Bool.noConfusion hb) (fun _=>sg rfl (aB rfl (fun _=>skh 2 [(0,.all)] rfl (kc hcn ?_)) (fun hb=>Bool.noConfusion hb))))))))))))))));refine akN 7 [(3,.row w (aR t))] rfl (kc u ?_);exact kz 3 rfl (aF rtT)
  | 6,_,hx,hc=>
   obtain⟨w,j9,hw,U,hcn⟩:=lN l hl hL j M 3 (by decide) (by decide);have hj9:=U.le M;obtain⟨t,ht⟩:=aM (l:=aO1) (k:=w) hw;have ht':=b9 aR ht;obtain⟨htl,J⟩:=aJ3 t (Af ht);have J:=LD.of J;have hxl:l.length-j9≤l.length-j:=by rcases U with⟨_,_⟩ | ⟨_,_,_⟩<;>omega
   have hkw:(aO1.map aR).length=3:=rfl;obtain⟨s1,A,g,q,u⟩:=O j9 (deep+1) hj9 (by omega);obtain⟨s2,j2,y,Y,aa⟩:=O A (deep+1) q (by omega);obtain⟨s3,j3,ab,hj3,hc3⟩:=O j2 (deep+1) Y (by omega);have B:=g.1;have E:=g.le;have lhs2:=y.1;have mhs2:=y.le;have lhs3:=ab.1;have mhs3:=ab.le;obtain⟨hi1,rfl⟩:=hx.pos (by decide);refine⟨[40,108,101,116,32,123,32]++t++[32,61,32]++s1++[32,59,32,121,32,61,32]++s2++[32,125,32,105,110,32]++s3++[41],j3,⟨by simp only[ζ,Aa,length_nil];omega,(((((((((LQ.of rfl).appD J).app ⟨_,_,rfl,rfl⟩ (LQ.of rfl)).appD g.2).app ⟨_,_,rfl,rfl⟩ (LQ.of rfl)).appD y.2).app ⟨_,_,rfl,rfl⟩ (LQ.of rfl)).appD ab.2).app ⟨_,_,rfl,rfl⟩ (LQ.of rfl)).d⟩,hj3,?_⟩;refine bC (n:=123) tok Tryz.func23 rfl rfl rfl ?_;refine sg rfl (aA (sg rfl (aB rfl (fun hb=>Bool.noConfusion (hb.symm.trans d4)) (fun _=>aD (aA (sk 1 rfl (kc hc ?_)))))));refine az (aE (aA (sg rfl (aB rfl (fun hb=>Bool.noConfusion hb) (fun _=>sg rfl (aB rfl (fun hb=>Bool.noConfusion hb) (fun _=>ag [] rfl (aB rfl (fun hb=>Bool.noConfusion hb) (fun _=>aA (sg rfl (aB rfl (fun hb=>Bool.noConfusion hb) (fun _=>ag [] rfl (aB rfl (fun hb=>Bool.noConfusion hb) (fun _=>sg rfl (aB rfl (fun hb=>Bool.noConfusion hb) (fun _=>sg rfl (aB rfl (fun _=>skh 2 [(0,.all)] rfl (kc hcn ?_)) (fun hb=>Bool.noConfusion hb))))))))))))))))));refine akN 7 [(3,.row w (aR t))] rfl (kc u ?_);refine akN 5 [] rfl (kc aa ?_);refine akN 5 [] rfl (kc hc3 ?_);exact kz 3 rfl (aF rtT)
  | 7,_,hx,hc=>
   obtain⟨s1,A,g,q,u⟩:=O j (deep+1) M (by omega);obtain⟨p1,j11,hp1,hj11,hcp1⟩:=pW l hl hL 3 A 0 q rfl;obtain⟨s2,j2,y,Y,aa⟩:=O j11 (deep+1) hj11 (by omega);obtain⟨p2,j12,hp2,hj12,hcp2⟩:=pW l hl hL 3 j2 0 Y rfl;obtain⟨s3,j3,ab,hj3,hc3⟩:=O j12 (deep+1) hj12 (by omega);have B:=g.1;have E:=g.le;have lhp1:=hp1.1;have mhp1:=hp1.le;have lhs2:=y.1;have mhs2:=y.le;have lhp2:=hp2.1;have mhp2:=hp2.le;have lhs3:=ab.1;have mhs3:=ab.le;obtain⟨hi1,rfl⟩:=hx.pos (by decide);refine⟨[40,99,97,115,101,32]++s1++[32,111,102,32,123,32]++p1++[32,45,62,32]++s2++[32,59,32]++p2++[32,45,62,32]++s3++[32,125,41],j3,⟨by simp only[ζ,Aa,length_nil];omega,(((((((((((LQ.of rfl).appD g.2).app ⟨_,_,rfl,rfl⟩ (LQ.of rfl)).appD hp1.2).app ⟨_,_,rfl,rfl⟩ (LQ.of rfl)).appD y.2).app ⟨_,_,rfl,rfl⟩ (LQ.of rfl)).appD hp2.2).app ⟨_,_,rfl,rfl⟩ (LQ.of rfl)).appD ab.2).app ⟨_,_,rfl,rfl⟩ (LQ.of rfl)).d⟩,hj3,?_⟩;refine bC (n:=123) tok Tryz.func23 rfl rfl rfl ?_;refine sg rfl (aA (sg rfl (aB rfl (fun hb=>Bool.noConfusion (hb.symm.trans d4)) (fun _=>aD (aA (sk 1 rfl (kc hc ?_)))))));refine az (aE (aA (sg rfl (aB rfl (fun hb=>Bool.noConfusion hb) (fun _=>sg rfl (aB rfl (fun hb=>Bool.noConfusion hb) (fun _=>ag [] rfl (aB rfl (fun hb=>Bool.noConfusion hb) (fun _=>aA (sg rfl (aB rfl (fun hb=>Bool.noConfusion hb) (fun _=>ag [] rfl (aB rfl (fun hb=>Bool.noConfusion hb) (fun _=>sg rfl (aB rfl (fun hb=>Bool.noConfusion hb) (fun _=>sg rfl (aB rfl (fun hb=>Bool.noConfusion hb) (fun _=>sg rfl (aB rfl (fun _=>aA (aC mixed (akN 3 [] rfl (kc u ?_)))) (fun hb=>Bool.noConfusion hb))))))))))))))))))));refine ak 3 [] rfl (kc hcp1 ?_);refine akN 5 [] rfl (kc aa ?_);refine ak 3 [] rfl (kc hcp2 ?_);refine akN 5 [] rfl (kc hc3 ?_);exact kz 3 rfl (aF rtT)
  | 8,_,hx,hc=>
   obtain⟨s1,A,g,q,u⟩:=O j (deep+1) M (by omega);obtain⟨w,j9,hw,U,hcn⟩:=lN l hl hL A q 6 (by decide) (by decide);have hj9:=U.le q;obtain⟨t,ht⟩:=aM (l:=aQy) (k:=w) hw;have ht':=b9 aR ht;obtain⟨htl,J⟩:=aL3 t (Af ht);have J:=LD.of J;have hxl:l.length-j9≤l.length-A:=by rcases U with⟨_,_⟩ | ⟨_,_,_⟩<;>omega
   have hkw:(aQy.map aR).length=6:=rfl;have B:=g.1;have E:=g.le;obtain⟨hi1,rfl⟩:=hx.pos (by decide);refine⟨[40]++s1++[32,58,32]++t++[41],j9,⟨by simp only[ζ,Aa,length_nil];omega,(((((LQ.of rfl).appD g.2).app ⟨_,_,rfl,rfl⟩ (LQ.of rfl)).appD J).app ⟨_,_,rfl,rfl⟩ (LQ.of rfl)).d⟩,hj9,?_⟩;refine bC (n:=123) tok Tryz.func23 rfl rfl rfl ?_;refine sg rfl (aA (sg rfl (aB rfl (fun hb=>Bool.noConfusion (hb.symm.trans d4)) (fun _=>aD (aA (sk 1 rfl (kc hc ?_)))))));refine az (aE (aA (sg rfl (aB rfl (fun hb=>Bool.noConfusion hb) (fun _=>sg rfl (aB rfl (fun hb=>Bool.noConfusion hb) (fun _=>ag [] rfl (aB rfl (fun hb=>Bool.noConfusion hb) (fun _=>aA (sg rfl (aB rfl (fun hb=>Bool.noConfusion hb) (fun _=>ag [] rfl (aB rfl (fun hb=>Bool.noConfusion hb) (fun _=>sg rfl (aB rfl (fun hb=>Bool.noConfusion hb) (fun _=>sg rfl (aB rfl (fun hb=>Bool.noConfusion hb) (fun _=>sg rfl (aB rfl (fun hb=>Bool.noConfusion hb) (fun _=>sg rfl (aB rfl (fun _=>aA (aC mixed (akN 3 [] rfl (kc u ?_)))) (fun hb=>Bool.noConfusion hb))))))))))))))))))))));refine ak 4 [(6,.all)] rfl (kc hcn ?_);exact ak 5 [(9,.row w (aR t))] rfl (az (aF rtT))
  | 9,_,hx,hc=>
   obtain⟨s1,A,g,q,u⟩:=O j (deep+1) M (by omega);have B:=g.1;have E:=g.le;obtain⟨hi1,rfl⟩:=hx.pos (by decide);refine⟨[97,100,100,32,40]++s1++[41,32,49],A,⟨by simp only[ζ,Aa,length_nil];omega,(((LQ.of rfl).appD g.2).appD ⟨_,_,rfl,rfl⟩ (LD.of rfl))⟩,q,?_⟩;refine bC (n:=123) tok Tryz.func23 rfl rfl rfl ?_;refine sg rfl (aA (sg rfl (aB rfl (fun hb=>Bool.noConfusion (hb.symm.trans d4)) (fun _=>aD (aA (sk 1 rfl (kc hc ?_)))))));refine az (aE (aA (sg rfl (aB rfl (fun hb=>Bool.noConfusion hb) (fun _=>sg rfl (aB rfl (fun hb=>Bool.noConfusion hb) (fun _=>ag [] rfl (aB rfl (fun hb=>Bool.noConfusion hb) (fun _=>aA (sg rfl (aB rfl (fun hb=>Bool.noConfusion hb) (fun _=>ag [] rfl (aB rfl (fun hb=>Bool.noConfusion hb) (fun _=>sg rfl (aB rfl (fun hb=>Bool.noConfusion hb) (fun _=>sg rfl (aB rfl (fun hb=>Bool.noConfusion hb) (fun _=>sg rfl (aB rfl (fun hb=>Bool.noConfusion hb) (fun _=>sg rfl (aB rfl (fun hb=>Bool.noConfusion hb) (fun _=>aD (aA (aC mixed (akN 3 [] rfl (kc u ?_))))))))))))))))))))))))));exact kz 3 rfl (aF rtT)
theorem aGg (l:List Int) (hl:aNp l) (g:Fits l):∃s:Str,s.length≤4000∧aU Tryz.prog 6 [.one (.c (.sl 1 (l.map xB)))] [] (Go.AM.T s) []:=by
 have ho:=aW1 l 40 g (by decide);obtain⟨s,j,hs,_,hc⟩:=aS8 (l.take 40) (fun x hx=>hl x (Bx hx)) (by rw[Aj];omega) 5 0 0 (Ac _) rfl;have q:(l.take 40).length≤40:=by rw[Aj];omega
 have hle:=hs.le;refine⟨s,by omega,?_⟩;refine bC (n:=6) tok Tryz.func6 rfl rfl rfl ?_;refine sg rfl (sk 1 rfl (kc ho ?_));refine kc hc ?_;exact kz 1 rfl (aF rtT)
theorem aPb (e:Ex):(frR e).length≤exM e:=by
 have h1:=aGl ((tdE e []).map Ex.name) [];have h2:=qW e [];rw[κ,length_nil,A4] at h1;exact le_trans h1 h2
theorem yN (l k:List Int) (hl:aNp l) (M:Fits l) (g:aNp k) (q:Fits k):aU Tryz.prog 3 [.one (.c (.sl 1 (l.map xB))),.one (.c (.sl 1 (k.map xB)))] [] (B true) []:=by
 obtain⟨s,_,hs⟩:=aGg l hl M;obtain⟨t,_,O⟩:=aGf k g q;have U:=aUe s;have hP:=aUb t;obtain⟨u,Y,o3⟩:=aS6 s;obtain⟨A,p2⟩:=aSg t;generalize aKe s=x at *;obtain⟨e,a1,a2⟩:=x;generalize aIq t=y at *;obtain⟨p,b1,b2⟩:=y;dsimp only at *;have hF:=yO e u (by omega);have hG:=aKw e u Y (by omega);have hV:=yM _ p (le_refl _) A (by omega);have hW:=tK _ p (le_refl _) A (by omega);have hq:=aBi;have hr:=aG6;have hv:=aK0;have n1:=aPb e;have n2:=oU _ p (le_refl _);have E:=lR (frR e) (frR e) (by omega);have I:=lR (vaR p) (vaR p) (by omega);have J:=lR aCo aCo (by decide);rw[φ rfl] at E I J;refine bC (n:=41) tok Tryz.func3 rfl rfl rfl ?_;refine sg rfl (sk 1 rfl (kc hs ?_));refine kc U ?_;refine kz 7 rfl (sk 1 rfl (kc O ?_));refine kc hP ?_;refine kz 7 rfl (sk 1 rfl (kc hF ?_));refine ak 1 [] rfl (kc hG ?_);refine kc E ?_;refine ak 2 [(5,.bv true)] rfl (kcG hV ?_);refine ak 1 [(5,.bv true)] rfl (kcG hW ?_);refine kcG I ?_;refine ak 2 [(5,.bv true),(11,.bv true),(12,.bv true)] rfl (kcG hq ?_);refine kcG hr ?_;refine kcG J ?_;refine ak 2 [(12,.bv true),(16,.bv true),(17,.bv true)] rfl (kcG hv ?_);exact ak 2 [(17,.bv true),(19,.bv true)] rfl (az (aF rtT))
end Go.Proofs.YtkhgpgihmphfdaaGreat
namespace Go.Proofs.YtkhgpgihmphfdaaGreat
open Go Go.ChangeShapes Go.WideShapes Go.ChangeAt Go.RowKit Go.AM
theorem Tryz.own:ownKnob Tryz.prog.godebug=none:=by kernel_rfl
theorem Tryz.laidOut:laidOutB Tryz.prog=true:=by kernel_rfl
set_option maxRecDepth 100000 in
theorem o8 (os:Os) (started:os.Started) (H:Type) (enc:TypeId×Value→H):
  ReturnsInHanded {} Tryz.checked os 3 .any (Rows.scopeFreeSpec.pre6 enc Tryz.prog Tryz.f3 Rows.scopeFreeRow.domain false) (Rows.scopeFreeSpec.post enc Tryz.prog Tryz.f3 false true false false):=by
 refine returnsInHanded_of_change_sized (C:=Tryz.checked) Tryz.own started (by kernel_rfl) Tryz.func3
  (ChangeSpec.witness6 (enc:=enc) (C:=Tryz.checked) false ⟨#[], #[.slice none 0 0,.slice none 0 0],[]⟩ 8 (by kernel_rfl) (by kernel_rfl) (by kernel_rfl) (by kernel_rfl)) ?_
 intro W base args ds gs before u Y hcnd hwt _
 have g:∀(j:Nat) t v,Tryz.f3.params[j]?=some t→args[j]?=some v→Value.okWide Tryz.prog W .any base t v:=u
 have y:=Y
 obtain⟨p,q,M,hV,rfl,hfz,hnd⟩:=Y
 have hA:DataW.TrodAll enc Tryz.prog W 0 (fun _=>true) true Tryz.f3.params.toList args.toList ds p:=M
 rw[Tryz.params3] at hA g
 obtain⟨v0,v1,d0,d1,p0,p1,rfl,rfl,rfl,h0,h1⟩:=trodAll_two hA
 obtain⟨rfl,rfl⟩:=trodVars_none hV
 obtain⟨l0,I,hr0,xl0,yl0,hd0⟩:=r7 Tryz.underlying22 Tryz.underlying3 (by kernel_rfl) (g 0 22 v0 rfl rfl) h0
 obtain⟨l1,J,hr1,xl1,yl1,hd1⟩:=r7 Tryz.underlying22 Tryz.underlying3 (by kernel_rfl) (g 1 22 v1 rfl rfl) h1
 clear M u
 simp only[Az] at y
 have O:∀x∈p0,x.block<W.heap.size:=fun x hx=>by simpa using y.lt x (Ba.2 (.inl hx))
 have U:∀x∈p1,x.block<W.heap.size:=fun x hx=>by simpa using y.lt x (Ba.2 (.inr (hx)))
 have A:(DataW.weightsEach Tryz.prog (Tryz.f3.params.toList++Rows.scopeFreeSpec.plain.varTypes Tryz.prog) ([d0,d1]++[])).all (· ≤reachBytes)=true:=hwt
 have hf0:Fits l0:=by
  unfold Fits
  rcases hd0 with⟨_,B⟩ | ⟨rfl,B⟩
  ·rw[B];simp
  ·have:=sized_slice A (j:=0) (t:=22) (e:=3) rfl rfl Tryz.underlying22
   rw[show Tryz.prog.bytesOf 3=8 by kernel_rfl] at this
   have hb:=reachBytes_lt
   omega
 have hf1:Fits l1:=by
  unfold Fits
  rcases hd1 with⟨_,B⟩ | ⟨rfl,B⟩
  ·rw[B];simp
  ·have:=sized_slice A (j:=1) (t:=22) (e:=3) rfl rfl Tryz.underlying22
   rw[show Tryz.prog.bytesOf 3=8 by kernel_rfl] at this
   have hb:=reachBytes_lt
   omega
 refine(aF0 (yN l0 l1 hr0 hf0 hr1 hf1) W (vals:=[v0,v1]) ⟨_,_,rfl,I,⟨_,_,rfl,J,rfl⟩⟩).mono fun e W' ⟨v,S,μ,he,E,hv⟩=>?_
 subst he
 rw[aQm hv]
 have hp0:=Below.trod Tryz.laidOut (by kernel_rfl) (χ (by kernel_rfl)) h0 E O
 have hp1:=Below.trod Tryz.laidOut (by kernel_rfl) (χ (by kernel_rfl)) h1 E U
 exact⟨_,rfl,⟨_,_,_,[],_,[],y,trodAll_mk1 (shut_bool Tryz.underlying4 true),trodAll_mk2 hp0 hp1,rfl,E.frame _,fun h=>by cases h⟩⟩
theorem scopeFree_holds:Rows.ScopeFreeSaid:=
 OpenClaim.holds_of_wide 3 Tryz.f3 rfl rfl rfl rfl rfl rfl rfl ⟨rfl,rfl,rfl,rfl,rfl⟩ rfl rfl rfl rfl rfl (by kernel_rfl) Tryz.func3 (by kernel_rfl)
  (χ (by kernel_rfl)) (by unfold Func.isWrapper;first | (rw[θ (by decide+kernel)];kernel_rfl) | (rw[ξ (by decide+kernel)];exact⟨rfl,rfl⟩))
  (fun os started H enc _=>o8 os started H enc)
end Go.Proofs.YtkhgpgihmphfdaaGreat
