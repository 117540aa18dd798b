/-
  The law ScopeLambdas: its row.
-/
import Derived.Test.YtkhgpgihmphfdaaGreatM13
import Derived.Test.YtkhgpgihmphfdaaGreatRows
open List (append_assoc append_nil cons_append drop_append_of_le_length filter_append filter_cons_of_neg filter_cons_of_pos filter_nil length_append length_cons length_drop length_filter_le length_map length_nil length_take map_append map_cons map_nil mem_append mem_cons mem_cons_of_mem mem_cons_self mem_of_mem_take mem_singleton nil_append not_mem_nil take_append_of_le_length take_length take_succ_cons take_zero)
open Nat (le_of_lt le_refl le_trans lt_irrefl zero_add zero_le)
namespace Go.Proofs.YtkhgpgihmphfdaaGreat
open Go Go.AM
set_option maxRecDepth 20000
set_option maxHeartbeats 4000000
def nm2:List Str:=[[102],[103]]
def b2A:Bd:=.mk [102] 0 false iJ (vX 4 [103])
def b2B:Bd:=.mk [103] 8 false iJ (vX 12 [102])
def aMv:List Bd:=[b2A,b2B]
theorem aWh:aV Tryz.prog 51 [bJ nm2,Go.AM.T [102]] [] (I .i64 0) []:=by
 refine bF (n:=19) tok Tryz.func51 rfl rfl rfl ?_;refine sg rfl (aA (sg rfl (aE (aO 1 (rnd ?_)))));exact sg rfl (aA (aB rfl (fun _=>aD (aA (aE (sg rfl (sgh [(3,.row 0 [.str [102]]),(5,.bv true)] rfl (aB rfl (fun _=>sg rfl (aF rtT)) (fun hb=>Bool.noConfusion hb))))))) (fun hb=>Bool.noConfusion hb)))
theorem aWg:aV Tryz.prog 51 [bJ nm2,Go.AM.T [103]] [] (I .i64 1) []:=by
 refine bF (n:=19) tok Tryz.func51 rfl rfl rfl ?_;refine sg rfl (aA (sg rfl (aE (aO 2 (rnd ?_)))));refine sg rfl (aA (aB rfl (fun _=>aD (aA (aE (sg rfl (sgh [(3,.row 0 [.str [102]]),(5,.bv false)] rfl (aB rfl (fun hb=>Bool.noConfusion hb) (fun _=>aD (ag [] rfl (rnd ?_))))))))) (fun hb=>Bool.noConfusion hb)));exact sg rfl (aA (aB rfl (fun _=>aD (aA (aE (sg rfl (sgh [(3,.row 1 [.str [103]]),(5,.bv true)] rfl (aB rfl (fun _=>sg rfl (aF rtT)) (fun hb=>Bool.noConfusion hb))))))) (fun hb=>Bool.noConfusion hb)))
theorem aRn (pl:Int) (s:Str):iX (vX pl s):=⟨⟨Ad _,Ad _,Ad _⟩,.z,⟨fun h=>by omega,fun h=>by omega,fun h=>by omega⟩,trivial,trivial,trivial⟩
theorem aHn:aV Tryz.prog 34 [.one (.c (.sl 33 (cX aMv)))] [] (.one (.c (.sl 1 [[.sl 1 [[.int .i64 0],[.int .i64 1]]]]))) []:=by
 have hn:aV Tryz.prog 49 [.one (.c (.sl 33 (cX aMv)))] [] (bJ nm2) []:=iY aMv (by decide);have g:=aWh;have q:=aWg;have u:aV Tryz.prog 10 [.pa (bC (vX 4 [103]))] [] (bJ [[103]]) []:=nI (vX 4 [103]) (aRn _ _) (by decide);have y:aV Tryz.prog 10 [.pa (bC (vX 12 [102]))] [] (bJ [[102]]) []:=nI (vX 12 [102]) (aRn _ _) (by decide);have A:=aTy;refine bF (n:=54) tok Tryz.func34 rfl rfl rfl ?_;refine sg rfl (sg rfl (AWp.sub (Sub.own (t:=3) (id:=650) 22 1 rfl rfl) ?_));refine sk 1 rfl (kc hn ?_);refine kz 1 rfl (aA (sg rfl (aE (aO 3 (rnd ?_)))));refine sg rfl (aA (aB rfl (fun _=>aD (aA (aE (sgh [(0,.row 0 (b8 b2A))] rfl (sg rfl (AWp.sub (Sub.own (t:=7) (id:=660) 3 1 rfl rfl) ?_)))))) (fun hb=>Bool.noConfusion hb)));refine aA (sk 2 rfl (kc u ?_));refine kz 2 rfl (aE (aO 2 (rnd ?_)));refine sg rfl (aA (aB rfl (fun _=>aD (aA (aE (sgh [(0,.row 0 [.str [103]])] rfl (sk 2 rfl (kc q ?_)))))) (fun hb=>Bool.noConfusion hb)));refine kz 1 rfl (sgh [(1,.bv true),(5,.row 1 (b8 b2B)),(8,.bv true),(9,.bv true)] rfl (aB rfl (fun _=>ag [(2,.all)] rfl (ag [] rfl (rnd ?_))) (fun hb=>Bool.noConfusion hb)));refine sg rfl (aA (aB rfl (fun hb=>Bool.noConfusion hb) (fun _=>aG (AWp.sub (Sub.freeze (id:=660) rfl) ?_))));refine AWp.sub (st2:=mk [(0,.one (.c (.sl 33 (cX aMv)))),(3,.one (.hs 650 0 0 0)),(4,bJ nm2),(7,.one (.c (.sl 1 [[.int .i64 1]]))),(13,.one (.c (.sl 33 (cX aMv)))),(14,I .i64 2),(15,I .i64 0)] [(650,.arr 22 1 [] 0)]) ?_ ?_
 ·refine Sub.trans ?_ (cv 7 [[.int .i64 1]]);exact sl
 refine ag [(2,.all)] rfl (ag [] rfl (rnd ?_));refine sg rfl (aA (aB rfl (fun _=>aD (aA (aE (sgh [(0,.row 1 (b8 b2B))] rfl (sg rfl (AWp.sub (Sub.own (t:=7) (id:=661) 3 1 rfl rfl) ?_)))))) (fun hb=>Bool.noConfusion hb)));refine aA (sk 2 rfl (kc y ?_));refine kz 2 rfl (aE (aO 2 (rnd ?_)));refine sg rfl (aA (aB rfl (fun _=>aD (aA (aE (sgh [(0,.row 0 [.str [102]])] rfl (sk 2 rfl (kc g ?_)))))) (fun hb=>Bool.noConfusion hb)));refine kz 1 rfl (sgh [(1,.bv true),(5,.row 0 (b8 b2A)),(8,.bv true),(9,.bv true)] rfl (aB rfl (fun _=>ag [(2,.all)] rfl (ag [] rfl (rnd ?_))) (fun hb=>Bool.noConfusion hb)));refine sg rfl (aA (aB rfl (fun hb=>Bool.noConfusion hb) (fun _=>aG (AWp.sub (Sub.freeze (id:=661) rfl) ?_))));refine AWp.sub (st2:=mk [(0,.one (.c (.sl 33 (cX aMv)))),(3,.one (.hs 650 0 1 1)),(4,bJ nm2),(7,.one (.c (.sl 1 [[.int .i64 0]]))),(13,.one (.c (.sl 33 (cX aMv)))),(14,I .i64 2),(15,I .i64 1)] [(650,.arr 22 1 [[.sl 1 [[.int .i64 1]]]] 0)]) ?_ ?_
 ·refine Sub.trans ?_ (cv 7 [[.int .i64 0]]);exact sl
 refine ag [(2,.all)] rfl (ag [] rfl (rnd ?_));refine sg rfl (aA (aB rfl (fun hb=>Bool.noConfusion hb) (fun _=>aG (AWp.sub (Sub.freeze (id:=650) rfl) ?_))));refine AWp.sub (st2:=mk [(0,.one (.c (.sl 33 (cX aMv)))),(3,usV)] []) ?_ ?_
 ·refine Sub.trans ?_ (cv 3 usR);exact sl
 refine sk 3 rfl (kc A ?_);exact kz 1 rfl (aF rtT)
theorem aQe:aV Tryz.prog 33 [(.one (.c (.sl 1 [[.sl 1 [[.int .i64 0],[.int .i64 1]]]]))),(.one (.c (.sl 1 [[.sl 1 [[.int .i64 0],[.int .i64 1]]]])))] [] (B true) []:=by
 refine bF (n:=53) tok Tryz.func33 rfl rfl rfl ?_;refine sg rfl (aA (sgh [(4,.bv false)] rfl (aB rfl (fun hb=>Bool.noConfusion hb) (fun _=>aD (aA (sg rfl (aE (aO 2 (rnd ?_)))))))));refine aA (sg rfl (aB rfl (fun _=>aD (aA (aE (aA (sgh [(2,.row 0 [.sl 1 [[.int .i64 0],[.int .i64 1]]]),(7,.row 0 [.sl 1 [[.int .i64 0],[.int .i64 1]]]),(10,.bv false)] rfl (aB rfl (fun hb=>Bool.noConfusion hb) (fun _=>aD (sg rfl (aE (aO 3 (rnd ?_))))))))))) (fun hb=>Bool.noConfusion hb)));refine aA (sgh [(3,.row 0 [.sl 1 [[.int .i64 0],[.int .i64 1]]])] rfl (aB rfl (fun _=>aD (aA (aE (sgh [(2,.row 0 [.sl 1 [[.int .i64 0],[.int .i64 1]]]),(5,.row 0 [.int .i64 0]),(9,.row 0 [.sl 1 [[.int .i64 0],[.int .i64 1]]]),(12,.row 0 [.int .i64 0]),(14,.bv false)] rfl (aB rfl (fun hb=>Bool.noConfusion hb) (fun _=>aD (ag [] rfl (rnd ?_)))))))) (fun hb=>Bool.noConfusion hb)));refine aA (sgh [(3,.row 0 [.sl 1 [[.int .i64 0],[.int .i64 1]]])] rfl (aB rfl (fun _=>aD (aA (aE (sgh [(2,.row 0 [.sl 1 [[.int .i64 0],[.int .i64 1]]]),(5,.row 1 [.int .i64 1]),(9,.row 0 [.sl 1 [[.int .i64 0],[.int .i64 1]]]),(12,.row 1 [.int .i64 1]),(14,.bv false)] rfl (aB rfl (fun hb=>Bool.noConfusion hb) (fun _=>aD (ag [] rfl (rnd ?_)))))))) (fun hb=>Bool.noConfusion hb)));refine aA (sgh [(3,.row 0 [.sl 1 [[.int .i64 0],[.int .i64 1]]])] rfl (aB rfl (fun hb=>Bool.noConfusion hb) (fun _=>aG (ag [] rfl (rnd ?_)))));exact aA (sg rfl (aB rfl (fun hb=>Bool.noConfusion hb) (fun _=>aG (sg rfl (aF rtT)))))
theorem aKx:aV Tryz.prog 16 [] [] (B true) []:=by
 have hp:=lB aOx (aNb aOx);rw[aSk] at hp;have hq:=lB aOw (aNb aOw);rw[aSj] at hq;have hc:=aLl;have g:=aHn;have hs:=aQe;refine bF (n:=35) tok Tryz.func16 rfl rfl rfl ?_;refine sg rfl (aA (aC mixed (kc hp ?_)));refine kz 7 rfl (aA (aC mixed (kc hq ?_)));refine kz 7 rfl (sk 2 rfl (k_ (g_ rfl rfl (rV tok (by unfold aL8;kernel_rfl) rfl rfl (by decide) (tg rfl) rfl rfl rfl rfl)) ?_));refine ak 3 [(3,.bv true)] rfl (k_ (GStep.yes rfl rfl rfl rfl rfl (rV tok (by unfold aL8;kernel_rfl) rfl rfl (by decide) (tg rfl) rfl rfl rfl rfl)) ?_);refine ak 3 [(3,.bv true),(7,.bv true),(8,.bv true)] rfl (kcG hc ?_);refine ak 1 [(8,.bv true)] rfl (k_ (GStep.yes rfl rfl rfl rfl rfl (rV tok (by unfold aL8;kernel_rfl) rfl rfl (by decide) (tg rfl) rfl rfl rfl rfl)) ?_);refine ak 4 [(8,.bv true),(13,.bv true),(14,.bv true)] rfl (kcG g ?_);refine ak 2 [(14,.bv true),(18,.all),(19,.all)] rfl (kcG hs ?_);exact ak 2 [(14,.bv true),(21,.bv true)] rfl (az (aF rtT))
theorem aNy (a b:Ty):tyW (aIn a b)=26+tyW a+tyW b:=by
 unfold aIn;rw[xD,xD];have:tyW (.mk 3 0 arrow [])=10:=by rw[tyW,aMd];rfl
 rw[this];omega
theorem aSd {a b:Ty}(ha:PT a) (hb:PT b):PT (aIn a b):=.app (.app (.leaf 3 arrow (.inr (.inr rfl))) ha) hb
mutual
theorem aH9:∀(f o:Nat) (R:List Tk) (x:Ty) (R':List Tk),cM f o R=.ok (x,R')→PT x∧tyW x+16+8*wt R'≤8*wt R
 | 0,_,_,_,_,h=>by rw[cM] at h;cases h
 | _+1,_,[],_,_,h=>by rw[cM] at h;cases h
 | f+1,o,t::R,x,R',h=>by
  rw[cM] at h;rw[cB];by_cases h2:t.kind=2
  ·rw[θ h2] at h;cases h;refine⟨.leaf 3 _ (.inr (.inr rfl)),?_⟩;unfold aN0;rw[tyW,aMd];omega
  rw[ξ h2] at h;by_cases h1:t.kind=1
  ·rw[θ h1] at h;cases h;refine⟨.leaf 2 _ (.inr (.inl rfl)),?_⟩;unfold aNz;rw[tyW,aMd];omega
  rw[ξ h1] at h;split at h
  ·cases h
  split at h
  ·cases h
  cases hw:c8 f (o+1) R with
  | error e=>rw[hw,lW] at h;cases h
  | ok y=>
   obtain⟨y,R1⟩:=y;rw[hw] at h;obtain⟨g,q⟩:=xA f (o+1) R y R1 hw;cases R1 with
   | nil=>rw[lW] at h;cases h
   | cons u R2=>
    rw[lW] at h;split at h
    ·cases h;rw[cB] at q;exact⟨g,by omega⟩
    ·cases h
theorem xA:∀(f o:Nat) (R:List Tk) (x:Ty) (R':List Tk),c8 f o R=.ok (x,R')→PT x∧tyW x+16+8*wt R'≤8*wt R
 | 0,_,_,_,_,h=>by rw[c8] at h;cases h
 | f+1,o,R,x,R',h=>by
  rw[c8] at h;cases ha:cM f o R with
  | error e=>rw[ha] at h;cases h
  | ok y=>
   obtain⟨y,R1⟩:=y;rw[ha] at h;obtain⟨g,q⟩:=aH9 f o R y R1 ha;obtain⟨A,B⟩:=aNm f o y R1 x R' g h;exact⟨A,by omega⟩
theorem aNm:∀(f o:Nat) (y:Ty) (R:List Tk) (x:Ty) (R':List Tk),PT y→iI f o y R=.ok (x,R')→PT x∧tyW x+8*wt R'≤tyW y+8*wt R
 | 0,_,_,_,_,_,_,h=>by rw[iI] at h;cases h
 | _+1,_,_,[],_,_,_,h=>by rw[iI] at h;cases h
 | f+1,o,y,t::R,x,R',hy,h=>by
  rw[iI] at h;split at h
  ·cases ha:cM f o (t::R) with
   | error e=>rw[ha] at h;cases h
   | ok a=>
    obtain⟨a,R1⟩:=a;rw[ha] at h;obtain⟨g,q⟩:=aH9 f o (t::R) a R1 ha;obtain⟨A,B⟩:=aNm f o (qA y a) R1 x R' (.app hy g) h;rw[xD] at B;exact⟨A,by omega⟩
  split at h
  ·cases ha:c8 f o R with
   | error e=>rw[ha] at h;cases h
   | ok a=>
    obtain⟨a,R1⟩:=a;rw[ha] at h;cases h;obtain⟨g,q⟩:=xA f o R a R' ha;rw[aNy,cB];exact⟨aSd hy g,by omega⟩
  ·cases h;exact⟨hy,le_refl _⟩
end
theorem aFd (l m:List Prd):jG (l++m)=jG l+jG m:=by unfold jG;rw[Ai,List.sum_append]
theorem aFc (p:Prd):jG [p]=aW0 p:=by unfold jG;rw[Be,map_nil,List.sum_cons,List.sum_nil];rfl
theorem aFb:∀(f:Nat) (b:Bool) (R:List Tk) (out g:List Prd) (R':List Tk),(∀p∈out,PT p.ty)→gU f b R out=some (g,R')→(∀p∈g,PT p.ty)∧jG g+8*wt R'≤jG out+8*wt R
 | 0,_,_,_,_,_,_,h=>by rw[gU] at h;cases h
 | _+1,_,[],_,_,_,_,h=>by rw[gU] at h;cases h
 | f+1,b,t::R,out,g,R',ho,h=>by
  rw[gU] at h;by_cases h2:t.kind=2
  ·rw[θ h2] at h;have hok:=aH9 (3*R.length) (if b=true then 1 else 0) R;generalize cM (3*R.length) (if b=true then 1 else 0) R=w at hok h;cases w with
   | error e=>cases h
   | ok y=>
    obtain⟨x,R1⟩:=y;obtain⟨B,E⟩:=hok x R1 rfl;have A:∀q∈out++[(⟨t.text,x⟩:Prd)],PT q.ty:=fun q hq=>by
     rcases Ay.1 hq with hq | hq
     ·exact ho q hq
     ·rw[Ar.1 hq];exact B
    have J:jG (out++[(⟨t.text,x⟩:Prd)])=jG out+(t.text.length+8+tyW x):=by rw[aFd,aFc];rfl
    rw[cB];cases R1 with
    | nil=>cases h
    | cons u R2=>
     dsimp only at h;rw[cB] at E;split at h
     ·obtain⟨I,M⟩:=aFb f b R2 (out++[⟨t.text,x⟩]) g R' A h;exact⟨I,by omega⟩
     ·cases h;exact⟨A,by rw[cB];omega⟩
  ·rw[ξ h2] at h;cases h
theorem aOk {R:List Tk}{out:List Prd}{R':List Tk}(h:cQ R=.ok (out,R')):(∀p∈out,PT p.ty)∧jG out+8*wt R'≤8*wt R:=by
 have g:∀R:List Tk,(∀p∈([]:List Prd),PT p.ty)∧jG []+8*wt R≤8*wt R:=fun R=>⟨fun p hp=>by(cases hp),by show 0+_≤_;omega⟩
 have q:∀(a:Int) (R0 R1:List Tk) (o:List Prd),(∀p∈o,PT p.ty)→jG o+8*wt R1≤8*wt R0→yQ a R0 o R1=.ok (out,R')→(∀p∈out,PT p.ty)∧jG out+8*wt R'≤8*wt R0:=fun a R0 R1 o ho hw h=>by
  cases R1 with
  | nil=>rw[yQ] at h;cases h;exact g _
  | cons u R=>
   rw[yQ] at h;rw[cB] at hw;split at h
   ·split at h
    ·cases h
    ·cases h;exact⟨ho,by omega⟩
   ·cases h;exact g _
 cases R with
 | nil=>rw[cQ] at h;cases h;exact g _
 | cons t R=>
  rw[cQ] at h;have hw:wt (if isT t cE=true then R else t::R)≤wt (t::R):=by
   rw[cB];split
   ·omega
   ·rw[cB];omega
  cases hp:gU ((t::R).length+1) (isT t cE) (if isT t cE=true then R else t::R) [] with
  | none=>rw[hp,jK] at h;cases h;exact g _
  | some y=>
   obtain⟨o,R1⟩:=y;rw[hp,jK] at h;obtain⟨B,A⟩:=aFb _ _ _ _ _ _ (fun p hp=>by(cases hp)) hp;have A:jG o+8*wt R1≤8*wt (t::R):=by rw[show jG []=0 from rfl] at A;omega
   cases R1 with
   | nil=>rw[brP] at h;cases h;exact g _
   | cons u R2=>
    rw[brP] at h;split at h
    ·split at h
     ·rw[cB] at A;exact q _ _ _ _ B (by omega) h
     ·cases h;exact g _
    ·exact q _ _ _ _ B A h
theorem zJ {R:List Tk}{s:Sch}{R':List Tk}(h:cH R=.ok (s,R')):(PT s.ty∧∀p∈s.preds,PT p.ty)∧aDp s+8*wt R'≤8*wt R:=by
 unfold cH at h;cases hp:cQ R with
 | error e=>rw[hp,n6] at h;cases h
 | ok y=>
  obtain⟨ps,R1⟩:=y;rw[hp,n6] at h;obtain⟨g,u⟩:=aOk hp;cases hw:c8 (3*R1.length+2) 0 R1 with
  | error e=>rw[hw,n5] at h;cases h
  | ok y=>
   obtain⟨x,R2⟩:=y;rw[hw,n5] at h;cases h;obtain⟨q,A⟩:=xA _ _ _ _ _ hw;refine⟨⟨q,g⟩,?_⟩;show jG ps+8+tyW x+_≤_;omega
mutual
def exP:Ex→Prop
 | .mk _ _ n _ ks ps bs g=>aFj n∧p9 ps∧SchP g∧aPe ks∧aBj bs
def aPe:List Ex→Prop
 | []=>True
 | e::l=>exP e∧aPe l
def bdP:Bd→Prop
 | .mk _ _ _ g e=>SchP g∧exP e
def aBj:List Bd→Prop
 | []=>True
 | b::l=>bdP b∧aBj l
end
mutual
def exW:Ex→Nat
 | .mk _ _ _ s ks ps bs g=>s.length+64+kW ps+nG ks+lQ bs+2*aDp g
def nG:List Ex→Nat
 | []=>0
 | e::l=>exW e+nG l
def bdW:Bd→Nat
 | .mk s _ _ g e=>2*s.length+32+2*aDp g+exW e
def lQ:List Bd→Nat
 | []=>0
 | b::l=>bdW b+lQ l
end
abbrev mu (z:Z):Nat:=40*wt z.R
theorem u4 {R:List Tk}(h:¬R=[]):240+40*(R.headD zTk).text.length+40*wt R.tail≤40*wt R:=by
 cases R with
 | nil=>exact absurd rfl h
 | cons t R=>rw[cB];show 240+40*t.text.length+40*wt R≤_;omega
theorem aEb (R:List Tk):40*wt R.tail≤40*wt R:=by
 cases R with
 | nil=>exact le_refl _
 | cons t R=>rw[cB];show 40*wt R≤_;omega
theorem aSv {s:Str}{z:Z}(h:isZ s z=true):¬z.R=[]:=fun g=>by
 unfold isZ b4 at h;rw[g] at h;unfold isK at h;rw[ε] at h;exact Bool.noConfusion h.1
theorem qE (s:Str) (z:Z):mu (bP s z).2≤mu z∧((bP s z).1=true→240+mu (bP s z).2≤mu z):=by
 unfold bP;split
 ·rename_i h;have:=u4 (aSv h.2);exact⟨aEb _,fun _=>by show 240+40*wt z.R.tail≤40*wt z.R;omega⟩
 ·exact⟨le_refl _,fun h=>Bool.noConfusion h⟩
theorem jA {s:Str}{z:Z}(h:(aQ s z).e=0):240+mu (aQ s z)≤mu z:=by
 unfold aQ at h ⊢;split at h
 ·rename_i hm;rw[θ hm];exact(qE s z).2 hm
 ·exact(cS (by decide) h).elim
theorem aMa {k:Int}(g:¬k=0) {z:Z}(h:(b5 k z).2.e=0):240+40*(b5 k z).1.text.length+mu (b5 k z).2≤mu z:=by
 unfold b5 at h ⊢;split at h
 ·rename_i hc;rw[θ hc];refine u4 fun q=>?_
  have:=hc.2;unfold b4 at this;rw[q] at this;exact g this.symm
 ·exact(cS (by decide) h).elim
theorem aL9 (a b:List Tk):wt (a++b)=wt a+wt b:=by unfold wt;rw[Ai,List.sum_append]
theorem aMb:∀l:List Tk,kW (fR l)+200*l.length≤40*wt l
 | []=>Ad _
 | t::l=>by
  have:=aMb l;show t.text.length+24+0+kW (fR l)+200*(l.length+1)≤_;rw[cB];omega
theorem aDy (z:Z):kW (fR (aZ z).1)+200*(aZ z).1.length+mu (aZ z).2≤mu z:=by
 unfold aZ;split
 ·have h1:=aMb (z.R.takeWhile qF);have h2:=aL9 (z.R.takeWhile qF) (z.R.dropWhile qF);rw[List.takeWhile_append_dropWhile] at h2;show kW (fR (z.R.takeWhile qF))+200*(z.R.takeWhile qF).length+40*wt (z.R.dropWhile qF)≤40*wt z.R;omega
 ·show 0+0+mu z≤mu z;omega
theorem aFr (n m:Nat) (a:Int) (z:Z):mu (cI n m a z)=mu z:=by
 unfold cI;split
 ·unfold mu;rw[nE]
 ·rfl
theorem aMt (s:Str) (n:Nat) (z:Z):mu (bI s n z).2≤mu z:=by
 have g:mu (moreA s n z)=mu z:=by
  unfold moreA;split
  ·unfold mu;rw[nE]
  ·rfl
 have hS:∀z:Z,mu (cL z)≤mu z:=fun z=>by
  unfold cL;split
  ·have h2:=aL9 (z.R.takeWhile (isK cC)) (z.R.dropWhile (isK cC));rw[List.takeWhile_append_dropWhile] at h2;show 40*wt (z.R.dropWhile (isK cC))≤40*wt z.R;omega
  ·exact le_refl _
 have:=hS (moreA s n z);unfold bI;split
 ·show mu (cL (moreA s n z))≤_;omega
 ·show mu (cI _ _ _ _)≤_;rw[aFr];omega
theorem zI {z:Z}(h:(bN z).2.e=0):5*aDp (bN z).1+mu (bN z).2≤mu z:=by
 unfold bN at h ⊢;split at h
 ·rename_i he;rw[θ he];cases hs:cH z.R with
  | error e=>obtain⟨e,p⟩:=e;rw[hs] at h;exact absurd h (n3 hs)
  | ok y=>
   obtain⟨s,R'⟩:=y;have:=(zJ hs).2
   show 5*aDp s+40*wt R'≤40*wt z.R;omega
 ·rename_i he;exact absurd h he
theorem jN:SchP iJ:=⟨.leaf 0 [] (.inl rfl),fun p hp=>(by cases hp),Ad _⟩
theorem aMj:aDp iJ=16:=by kernel_rfl
theorem zK {L:List Tk}{z:Z}(q:ZA L z) (hwt:wt L≤30000):SchP (bN z).1:=by
 have g:=(fV q hwt).2.1.l;unfold bN at g ⊢;split
 ·rename_i he;rw[θ he] at g;cases hs:cH z.R with
  | error e=>exact jN
  | ok y=>
   obtain⟨s,R'⟩:=y;rw[hs] at g;obtain⟨⟨u,A⟩,_⟩:=zJ hs;exact⟨u,A,le_trans g (by decide)⟩
 ·exact jN
def aRi (L:List Tk):Prop:=∀t∈L,aFj t.n
theorem dC:aFj 0:=⟨Int.le_refl _,by decide⟩
theorem aSr:∀(s:Str) (k:Int),(∀c∈s,dgB c.toNat=true)→0≤k→0≤kR s k
 | [],_,_,h=>h
 | c::s,k,hs,h=>by
  rw[kR];have hc:=hs c (.head _);unfold dgB at hc;have hc:=κ hc;split
  ·exact aSr s _ (fun c hc=>hs c (.tail _ hc)) (by omega)
  ·exact h
theorem u3 (p:Nat→Bool):∀s:Str,∀c∈s.take (cD p s),p c.toNat=true
 | [],c,h=>by rw[cD,Cz] at h;cases h
 | a::s,c,h=>by
  rw[cD] at h;split at h
  ·rename_i ha;rw[Az] at h;rcases Au.1 h with rfl | h
   ·exact ha
   ·exact u3 p s c h
  ·rw[Cz] at h;cases h
theorem aOn {c:UInt8}{r:Str}{k:Int}{t:Str}{v:Int}(h:gG (c::r)=.ok (k,t,v)):aFj v:=by
 rw[gG] at h;split at h
 ·split at h
  ·cases h
  ·rename_i g;injection h with h;injection h with _ h;injection h with _ h;rw[←h];exact⟨aSr _ _ (u3 dgB _) (Int.le_refl _),by omega⟩
 split at h
 ·unfold m8 at h;split at h
  ·cases h
  split at h
  ·cases h;exact dC
  split at h
  ·cases h;exact dC
  ·cases h;exact dC
 split at h
 ·cases h
 ·cases h;exact dC
theorem pG:∀(f a:Nat) (s:Str) (l:List Tk),jJ f a s=.ok l→aRi l
 | 0,a,s,l,h=>by
  rw[jJ] at h;cases h;intro t g;rw[Ar.1 g];exact dC
 | f+1,a,[],l,h=>by
  rw[jJ] at h;cases h;intro t g;rw[Ar.1 g];exact dC
 | f+1,a,c::r,l,h=>by
  rw[jJ] at h;split at h
  ·exact pG f _ _ l h
  ·cases ho:gG (c::r) with
   | error e=>rw[ho] at h;cases h
   | ok p=>
    obtain⟨k,t,v⟩:=p;rw[ho] at h;dsimp only at h;cases hq:jJ f (a+t.length) ((c::r).drop t.length) with
    | error e=>rw[hq] at h;cases h
    | ok L'=>
     rw[hq] at h;have h:(⟨k,t,v,(a:Int)⟩:Tk)::L'=l:=by injection h
     subst h;intro x hx;rcases Au.1 hx with rfl | hx
     ·exact aOn ho
     ·exact pG f _ _ L' hq x hx
theorem oZ:∀{l:List Pt}{p:Pt},p9 l→aSe p→p9 (l++[p])
 | [],_,_,h=>⟨h,trivial⟩
 | _::_,_,h,k=>⟨h.1,oZ h.2 k⟩
theorem rZ:∀(l:List Pt) (p:Pt),kW (l++[p])=kW l+ptW p
 | [],p=>by rw[A2,kW,kW,kW];omega
 | a::l,p=>by rw[A4,kW,kW,rZ l p];omega
theorem aBx:aSe zPt∧ptW zPt=24:=⟨⟨dC,trivial⟩,by unfold zPt;rw[ptW,kW];rfl⟩
theorem aMp {L:List Tk}(hN:aRi L):∀f:Nat,(∀o z,ZA L z→aSe (b7 f o z).1.1∧((b7 f o z).1.2=true→(b7 f o z).2.e=0→ptW (b7 f o z).1.1+mu (b7 f o z).2≤mu z)∧((b7 f o z).2.e=0→mu (b7 f o z).2≤mu z))∧(∀o z,ZA L z→aSe (gF f o z).1∧((gF f o z).2.e=0→ptW (gF f o z).1+mu (gF f o z).2≤mu z))∧(∀o out z,ZA L z→p9 out→p9 (dW f o out z).1∧((dW f o out z).2.e=0→kW (dW f o out z).1+mu (dW f o out z).2≤kW out+mu z))
 | 0=>by
  refine⟨fun o z _=>?_,fun o z _=>?_,fun o out z _ ho=>?_⟩
  ·rw[b7];exact⟨aBx.1,fun h=>Bool.noConfusion h,fun _=>le_refl _⟩
  ·rw[gF];exact⟨aBx.1,fun h=>(cS (by decide) h).elim⟩
  ·rw[dW];exact⟨ho,fun _=>le_refl _⟩
 | f+1=>by
  obtain⟨h1,h2,M⟩:=aMp hN f;obtain⟨k1,k2,k3⟩:=xY f;refine⟨fun o z g=>?_,fun o z g=>?_,fun o out z g ho=>?_⟩
  ·rw[b7];split
   ·exact⟨aBx.1,fun h=>Bool.noConfusion h,fun _=>le_refl _⟩
   split
   ·rename_i q;have u:¬z.R=[]:=fun B=>by unfold b4 at q;rw[B] at q;exact absurd q.1 (by decide)
    have hw:=u4 u;have hm:=hN _ g.mem;refine⟨⟨hm,trivial⟩,fun _ _=>?_,fun _=>aEb _⟩;have hl:(gD (b4 z)).length≤(b4 z).text.length:=by
     unfold gD;split
     ·exact Ad _
     ·exact le_refl _
    show(gD (b4 z)).length+24+0+40*wt z.R.tail≤40*wt z.R;have:(b4 z).text.length=(z.R.headD zTk).text.length:=rfl;omega
   split
   ·rename_i hm;have:=(qE xC z).2 hm;refine⟨⟨dC,trivial⟩,fun _ _=>?_,fun _=>(qE xC z).1⟩;show 0+24+0+mu (bP xC z).2≤mu z;omega
   split
   ·exact⟨aBx.1,fun h=>Bool.noConfusion h,fun _=>le_refl _⟩
   split
   ·exact⟨aBx.1,fun h=>Bool.noConfusion h,fun h=>(cS (by decide) h).elim⟩
   ·obtain⟨y,A⟩:=h2 (o+1) _ (g.need cE);have key:(aQ lX (gF f (o+1) (aQ cE z)).2).e=0→ptW (gF f (o+1) (aQ cE z)).1+mu (aQ lX (gF f (o+1) (aQ cE z)).2)≤mu z:=fun h=>by
     have E:=(Kq.need lX _ h).1
     have O:=(k2 (o+1) _ E).1
     have U:=jA h;have w2:=A E;have w3:=jA O;omega
    exact⟨y,fun _ h=>key h,fun h=>by have:=key h;dsimp only;omega⟩
  ·rw[gF];obtain⟨y,A,Y⟩:=h1 o z g;split
   ·exact⟨aBx.1,fun h=>(cS (by decide) h).elim⟩
   rename_i hb;have hb:(b7 f o z).1.2=true:=by simpa using hb
   split
   ·rename_i q;have u:¬z.R=[]:=fun B=>by unfold b4 at q;rw[B] at q;exact absurd q.1 (by decide)
    have hw:=u4 u;have hm:=hN _ g.mem;obtain⟨I,J⟩:=M o [] (tlZ z) (g.tlp (by rw[q.1];decide)) trivial;refine⟨⟨hm,I⟩,fun h=>?_⟩;have q3:=J h;show(b4 z).text.length+24+kW (dW f o [] (tlZ z)).1+mu (dW f o [] (tlZ z)).2≤mu z;have E:(b4 z).text.length=(z.R.headD zTk).text.length:=rfl;have O:mu (tlZ z)=40*wt z.R.tail:=rfl;have e3:mu z=40*wt z.R:=rfl;rw[show kW []=0 from rfl] at q3;omega
   ·exact⟨y,fun h=>A hb h⟩
  ·rw[dW];obtain⟨y,A,Y⟩:=h1 o z g;split
   ·split
    ·exact⟨ho,fun h=>by have:=Y h;dsimp only;omega⟩
    ·rename_i hb;have hb:(b7 f o z).1.2=true:=by simpa using hb
     obtain⟨I,J⟩:=M o (out++[(b7 f o z).1.1]) (b7 f o z).2 ((gE L f).1 o z g).1 (oZ ho y);refine⟨I,fun h=>?_⟩;have U:=J h;have w2:=A hb (k3 o _ _ h).1;rw[rZ] at U;omega
   ·exact⟨ho,fun _=>le_refl _⟩
theorem aAx:∀{l:List Ex}{p:Ex},aPe l→exP p→aPe (l++[p])
 | [],_,_,h=>⟨h,trivial⟩
 | _::_,_,h,k=>⟨h.1,aAx h.2 k⟩
theorem aBi:∀{l:List Bd}{p:Bd},aBj l→bdP p→aBj (l++[p])
 | [],_,_,h=>⟨h,trivial⟩
 | _::_,_,h,k=>⟨h.1,aBi h.2 k⟩
theorem aAw:∀(l:List Ex) (p:Ex),nG (l++[p])=nG l+exW p
 | [],p=>by rw[A2,nG,nG,nG];omega
 | a::l,p=>by rw[A4,nG,nG,aAw l p];omega
theorem aBh:∀(l:List Bd) (p:Bd),lQ (l++[p])=lQ l+bdW p
 | [],p=>by rw[A2,lQ,lQ,lQ];omega
 | a::l,p=>by rw[A4,lQ,lQ,aBh l p];omega
theorem xB:∀l:List Tk,p9 (fR l)
 | []=>trivial
 | _::l=>⟨⟨dC,trivial⟩,xB l⟩
theorem aDw:exP zEx:=⟨dC,trivial,jN,trivial,trivial⟩
def u5:List Sg→Nat
 | []=>0
 | s::l=>2*aDp s.ty+u5 l
theorem zH:∀(l:List Sg) (s:Sg),u5 (l++[s])=u5 l+2*aDp s.ty
 | [],p=>by simp only[A2,u5];omega
 | a::l,p=>by rw[A4,u5,u5,zH l p];omega
def aJa (l:List Sg):Prop:=∀s∈l,SchP s.ty
theorem aI9 {l:List Sg}{s:Sg}(h:aJa l) (k:SchP s.ty):aJa (l++[s]):=fun x hx=>by
 rcases Ay.1 hx with hx | hx
 ·exact h x hx
 ·rw[Ar.1 hx];exact k
theorem qY (f a n:Int) (s:Str) (ks:List Ex) (ps:List Pt) (g:List Bd):exW (.mk f a n s ks ps g iJ)=s.length+96+kW ps+nG ks+lQ g:=by rw[exW,aMj];omega
theorem zZ:∀(l:List Sg) (b:List Bd) (z:Z),aJa l→aBj b→aBj (cO l b z).1∧lQ (cO l b z).1≤lQ b+u5 l
 | [],b,z,_,hb=>by rw[cO];exact⟨hb,by rw[u5];exact le_refl _⟩
 | s::l,b,z,hs,hb=>by
  have hl:aJa l:=fun x hx=>hs x (.tail _ hx)
  rw[cO,u5];split
  ·split
   ·obtain⟨q,u⟩:=zZ l b (bR 21 s.pl z) hl hb;exact⟨q,by omega⟩
   ·rename_i k _;split
    ·exact⟨hb,by dsimp only;omega⟩
    ·rename_i x hx;split
     ·obtain⟨q,u⟩:=zZ l b (bR 20 s.pl z) hl hb;exact⟨q,by omega⟩
     ·have y:∀(b:List Bd) (k:Nat) (x:Bd),b[k]?=some x→aBj b→aBj (b.set k (j6 x s.ty))∧lQ (b.set k (j6 x s.ty))≤lQ b+2*aDp s.ty:=fun b=>by
       induction b with
       | nil=>intro k x hx;cases hx
       | cons a b B=>
        intro k x hx hb;cases k with
        | zero=>
         injection hx with hx;subst hx;cases a with
         | mk A pl h g e=>
          refine⟨⟨⟨hs s (.head _),hb.1.2⟩,hb.2⟩,?_⟩;show(2*A.length+32+2*aDp s.ty+exW e)+lQ b≤(2*A.length+32+2*aDp g+exW e)+lQ b+2*aDp s.ty;omega
        | succ k=>
         obtain⟨q,u⟩:=B k x hx hb.2;refine⟨⟨hb.1,q⟩,?_⟩;rw[List.set_cons_succ,lQ,lQ];omega
      obtain⟨E,I⟩:=y b k x hx hb;obtain⟨q,u⟩:=zZ l _ z hl E;exact⟨q,by omega⟩
  ·exact⟨hb,by dsimp only;omega⟩
def aU7 (ex:Nat→Z→Ex×Z) (L:List Tk):Prop:=∀deep z,ZA L z→exP (ex deep z).1∧((ex deep z).2.e=0→96+exW (ex deep z).1+mu (ex deep z).2≤mu z)
section
variable {L:List Tk}{ex:Nat→Z→Ex×Z}(hO:ExO L ex) (hx:aL7 ex) (hP:aU7 ex L) (hN:aRi L) (hwt:wt L≤30000)
include hP hN
theorem aSg (deep:Nat) {z:Z}(h:ZA L z):exP (gS ex deep z).1.1∧((gS ex deep z).1.2=true→(gS ex deep z).2.e=0→96+exW (gS ex deep z).1.1+mu (gS ex deep z).2≤mu z)∧((gS ex deep z).1.2=false→mu (gS ex deep z).2≤mu z):=by
 unfold gS;split
 ·exact⟨aDw,fun h=>Bool.noConfusion h,fun _=>le_refl _⟩
 split
 ·rename_i g;have q:¬z.R=[]:=fun u=>by unfold b4 at g;rw[u] at g;exact absurd g.1 (by decide)
  have hw:=u4 q;have hm:=hN _ h.mem;refine⟨?_,fun _ _=>?_,fun h=>Bool.noConfusion h⟩
  ·unfold nJ;split
   ·exact⟨hm,trivial,jN,trivial,trivial⟩
   ·exact⟨dC,trivial,jN,trivial,trivial⟩
  ·have B:exW (nJ (b4 z))≤(z.R.headD zTk).text.length+96:=by
    unfold nJ;split
    ·rw[qY];show 0+96+0+0+0≤_;omega
    ·rw[qY];show(z.R.headD zTk).text.length+96+0+0+0≤_;omega
   show 96+exW (nJ (b4 z))+40*wt z.R.tail≤40*wt z.R;omega
 split
 ·exact⟨aDw,fun h=>Bool.noConfusion h,fun _=>le_refl _⟩
 ·obtain⟨y,A⟩:=hP (deep+1) _ (h.may cE);refine⟨y,fun _ he=>?_,fun h=>Bool.noConfusion h⟩;have E:=jA he;have I:=A (Kq.need lX _ he).1;have J:=(qE cE z).1
  dsimp only;omega
include hO hx
theorem aIb (deep:Nat) (a:Int):∀(f:Nat) (e:Ex) (z:Z),ZA L z→exP e→exP (eZ ex deep a f e z).1∧((eZ ex deep a f e z).2.e=0→exW (eZ ex deep a f e z).1+mu (eZ ex deep a f e z).2≤exW e+mu z)
 | 0,e,z,_,he=>⟨he,fun _=>le_refl _⟩
 | f+1,e,z,h,he=>by
  rw[eZ];obtain⟨g,q,u⟩:=aSg hP hN deep h;split
  ·split
   ·rename_i hb;exact⟨he,fun _=>by have:=u hb;dsimp only;omega⟩
   ·rename_i hb;have hb:(gS ex deep z).1.2=true:=by simpa using hb
    obtain⟨y,A⟩:=aIb deep a f (aL1 a e (gS ex deep z).1.1) _ (iR hO deep h).1 ⟨dC,trivial,jN,⟨he,g,trivial⟩,trivial⟩;refine⟨y,fun h0=>?_⟩;have B:=A h0;have E:=q hb (Kq.apps hx deep a f _ _ h0).1;have I:exW (aL1 a e (gS ex deep z).1.1)=96+exW e+exW (gS ex deep z).1.1:=by
     unfold aL1;rw[qY,nG,nG,nG];show 0+96+0+_+0=_;omega
    omega
  ·exact⟨he,fun _=>le_refl _⟩
omit hO hx hP hN in
theorem aMy (a:Int) (l:List Tk) (b:Ex):exW (aSm a l b)=96+kW (fR l)+exW b:=by
 unfold aSm;rw[qY,nG,nG];show 0+96+_+_+0=_;omega
omit hO hx hP hN in
theorem aQm (l:List Tk) (b:Ex):exW (wH l b)≤96+kW (fR l)+exW b:=by
 unfold wH;split
 ·omega
 ·exact Nat.le_of_eq (aMy _ _ _)
omit hO hx hP hN in
theorem aQn {l:List Tk}{b:Ex}(h:exP b):exP (wH l b):=by
 unfold wH;split
 ·exact h
 ·exact⟨dC,xB _,jN,⟨h,trivial⟩,trivial⟩
omit hO hx hP hN in
theorem aO3 {a:Int}{z:Z}(h:ZA L z):ZA L (r3 a z).2:=by
 unfold r3;refine ZA.need (ZA.long ?_ _ _ _) _;split
 ·exact h.words.fail _ _
 ·exact h.words
omit hO hN in
theorem aV5 (a:Int) (deep:Nat) {z:Z}(h:ZA L z):exP (r2 ex a deep z).1∧((r2 ex a deep z).2.e=0→96+exW (r2 ex a deep z).1+mu (r2 ex a deep z).2≤mu z):=by
 obtain⟨q,u⟩:=hP (deep+1) _ (aO3 (a:=a) h);unfold r2;refine⟨⟨dC,xB _,jN,⟨q,trivial⟩,trivial⟩,fun h0=>?_⟩;have y:=u h0;have g:=(hx _ _ h0).1
 have A:kW (fR (r3 a z).1)+240+mu (r3 a z).2≤mu z:=by
  unfold r3 at g ⊢;have v1:=jA g;rw[aFr] at v1;have v2:=aDy z;have v3:mu (if(aZ z).1=[] then bR 12 (b4 (aZ z).2).pl (aZ z).2 else(aZ z).2)=mu (aZ z).2:=by
   split
   ·unfold mu;rw[nE]
   ·rfl
  dsimp only;omega
 dsimp only;rw[aMy];omega
omit hO hN in
theorem aUe (g:Tk) (deep:Nat) {z:Z}(h:ZA L z):bdP (dP ex g deep z).1∧((dP ex g deep z).2.e=0→bdW (dP ex g deep z).1+mu (dP ex g deep z).2≤2*g.text.length+mu z):=by
 have u:ZA L (fH g z).2:=by
  unfold fH;exact ZA.need (ZA.long h.words _ _ _) _
 obtain⟨y,A⟩:=hP deep _ u;unfold dP;refine⟨⟨jN,aQn y⟩,fun h0=>?_⟩;have B:=A h0;have q:=(hx _ _ h0).1
 have E:kW (fR (fH g z).1)+240+mu (fH g z).2≤mu z:=by
  unfold fH at q ⊢;have v1:=jA q;rw[aFr] at v1;have v2:=aDy z;dsimp only;omega
 have I:=aQm (fH g z).1 (ex deep (fH g z).2).1;dsimp only at B ⊢;rw[bdW,aMj];omega
omit hO hN in
include hwt in
theorem aKg (sigs:List Sg) (binds:List Bd) (deep:Nat) {z:Z}(h:ZA L z) (hs:aJa sigs) (hb:aBj binds):(aJa (aS ex sigs binds deep z).1.1∧aBj (aS ex sigs binds deep z).1.2)∧((aS ex sigs binds deep z).2.e=0→u5 (aS ex sigs binds deep z).1.1+lQ (aS ex sigs binds deep z).1.2+mu (aS ex sigs binds deep z).2≤u5 sigs+lQ binds+mu z):=by
 have q:=h.word (k:=1) (by decide);have g:=q.may eP;have hm:=qE eP (b5 1 z).2;unfold aS;split
 ·refine⟨⟨aI9 hs (zK g hwt),hb⟩,fun h0=>?_⟩;have u:=zI h0;have y:=aMa (k:=1) (by decide) (Kq.may eP _ (Kq.scheme _ h0).1).1;dsimp only;rw[zH];dsimp only;omega
 ·obtain⟨A,B⟩:=aUe hx hP (b5 1 z).1 deep g;refine⟨⟨hs,aBi hb A⟩,fun h0=>?_⟩;have u:=B h0;have y:=aMa (k:=1) (by decide) (Kq.may eP _ (Kq.bind hx _ _ _ h0).1).1;dsimp only;rw[aBh];omega
end
section
variable {L:List Tk}{ex:Nat→Z→Ex×Z}(hO:ExO L ex) (hx:aL7 ex) (hP:aU7 ex L) (hN:aRi L) (hwt:wt L≤30000)
include hO hwt
theorem aGd (sigs:List Sg) (binds:List Bd) (deep:Nat) {z:Z}(h:ZA L z):ZA L (aS ex sigs binds deep z).2:=by
 have h1:=(iC hO hwt [] [] deep h (fun s hs=>by cases hs) trivial).1
 have e:(aS ex sigs binds deep z).2=(aS ex [] [] deep z).2:=by
  unfold aS;split<;>rfl
 rw[e];exact h1
include hx hP
theorem aMw (deep:Nat):∀(f n:Nat) (sigs:List Sg) (binds:List Bd) (z:Z),ZA L z→aJa sigs→aBj binds→(ZA L (eO ex deep f n sigs binds z).2∧aJa (eO ex deep f n sigs binds z).1.1∧aBj (eO ex deep f n sigs binds z).1.2)∧((eO ex deep f n sigs binds z).2.e=0→u5 (eO ex deep f n sigs binds z).1.1+lQ (eO ex deep f n sigs binds z).1.2+mu (eO ex deep f n sigs binds z).2≤u5 sigs+lQ binds+mu z)
 | 0,n,sigs,binds,z,h,hs,hb=>⟨⟨h,hs,hb⟩,fun _=>le_refl _⟩
 | f+1,n,sigs,binds,z,h,hs,hb=>by
  rw[eO];have hm:=aMt bA n z;split
  ·obtain⟨⟨g,q⟩,u⟩:=aKg hx hP hwt sigs binds deep (h.more bA n) hs hb;obtain⟨y,A⟩:=aMw deep f (n+1) _ _ _ (aGd hO hwt sigs binds deep (h.more bA n)) g q;refine⟨y,fun h0=>?_⟩;have B:=A h0;have E:=u (Kq.lets hx deep f _ _ _ _ h0).1;omega
  ·exact⟨⟨h.more bA n,hs,hb⟩,fun _=>by dsimp only;omega⟩
theorem aV3 (a:Int) (deep:Nat) {z:Z}(h:ZA L z):exP (r1 ex a deep z).1∧((r1 ex a deep z).2.e=0→96+exW (r1 ex a deep z).1+mu (r1 ex a deep z).2≤mu z):=by
 obtain⟨⟨u,y,A⟩,M⟩:=aMw hO hx hP hwt (deep+1) ((aQ dQ z).R.length+1) 0 [] [] _ (h.need dQ) (fun s hs=>by cases hs) trivial;have u:ZA L (l8 ex deep z).2:=u;have y:aJa (l8 ex deep z).1.1:=y;have A:aBj (l8 ex deep z).1.2:=A;obtain⟨B,E⟩:=zZ (l8 ex deep z).1.1 (l8 ex deep z).1.2 (aQ bA (l8 ex deep z).2) y A;have B:aBj (aCo (l8 ex deep z)).1:=B;have E:lQ (aCo (l8 ex deep z)).1≤lQ (l8 ex deep z).1.2+u5 (l8 ex deep z).1.1:=E;have hB:ZA L (aCo (l8 ex deep z)).2:=by
  unfold aCo;have:=sH hO hwt (deep+1) ((aQ dQ z).R.length+1) 0 [] [] _ (h.need dQ) (fun s hs=>by cases hs) trivial (by decide) (le_refl _) (le_refl _);exact(fT _ _ _ (u.need _) this.2.1 this.2.2.1).1
 obtain⟨O,U⟩:=hP (deep+1) _ (hB.need inS);unfold r1;refine⟨⟨dC,trivial,jN,⟨O,trivial⟩,B⟩,fun h0=>?_⟩;have Y:=U h0;have I:=(hx _ _ h0).1
 have w2:=jA I;have q:=(Kq.need inS _ I).1
 have g:(aCo (l8 ex deep z)).2=aQ bA (l8 ex deep z).2:=jV q;rw[g] at q;have w3:=jA q;have J:=(Kq.need bA _ q).1
 have w4:u5 (l8 ex deep z).1.1+lQ (l8 ex deep z).1.2+mu (l8 ex deep z).2≤u5 []+lQ []+mu (aQ dQ z):=M J;rw[show u5 []=0 from rfl,show lQ []=0 from rfl] at w4;have e4:(aQ dQ z).e=0:=(Kq.lets hx (deep+1) _ _ _ _ _ J).1
 have w5:=jA e4;have w6:mu (aCo (l8 ex deep z)).2=mu (aQ bA (l8 ex deep z).2):=by rw[g]
 dsimp only at Y ⊢;unfold letE;rw[qY,nG,nG];rw[show kW []=0 from rfl,length_nil];omega
include hN
omit hwt in
theorem aNp (deep:Nat):∀(f n:Nat) (ps:List Pt) (ks:List Ex) (z:Z),ZA L z→p9 ps→aPe ks→(ZA L (eN ex deep f n ps ks z).2∧p9 (eN ex deep f n ps ks z).1.1∧aPe (eN ex deep f n ps ks z).1.2)∧((eN ex deep f n ps ks z).2.e=0→kW (eN ex deep f n ps ks z).1.1+nG (eN ex deep f n ps ks z).1.2+mu (eN ex deep f n ps ks z).2≤kW ps+nG ks+mu z)
 | 0,n,ps,ks,z,h,hp,g=>⟨⟨h,hp,g⟩,fun _=>le_refl _⟩
 | f+1,n,ps,ks,z,h,hp,g=>by
  rw[eN];have hm:=aMt bA n z;split
  ·have u:=h.more bA n;have y:=((gE L (3*(bI bA n z).2.R.length+1)).2.1 0 _ u).1
   obtain⟨E,I⟩:=(aMp hN (3*(bI bA n z).2.R.length+1)).2.1 0 _ u;have q:=y.need arrow;obtain⟨J,M⟩:=hP (deep+1) _ q;obtain⟨O,U⟩:=aNp deep f (n+1) _ _ _ (hO (deep+1) _ q).1 (oZ hp E) (aAx g J);refine⟨O,fun h0=>?_⟩;have Y:=U h0;have A:=(Kq.alts hx deep f _ _ _ _ h0).1
   have w2:=M A;have B:=(hx _ _ A).1
   have w3:=jA B;have w4:=I (Kq.need arrow _ B).1;rw[rZ,aAw] at Y;omega
  ·exact⟨⟨h.more bA n,hp,g⟩,fun _=>by dsimp only;omega⟩
omit hwt in
theorem aTd (a:Int) (deep:Nat) {z:Z}(h:ZA L z):exP (gM ex a deep z).1∧((gM ex a deep z).2.e=0→96+exW (gM ex a deep z).1+mu (gM ex a deep z).2≤mu z):=by
 obtain⟨B,E⟩:=hP (deep+1) z h;have I:ZA L (cP ex deep z).2:=((hO (deep+1) z h).1.need ofS).need dQ;obtain⟨⟨O,g,q⟩,J⟩:=aNp hO hx hP hN deep ((cP ex deep z).2.R.length+1) 0 [] [(cP ex deep z).1] _ I trivial ⟨B,trivial⟩;have g:p9 (fM ex deep (cP ex deep z)).1.1:=g;have q:aPe (fM ex deep (cP ex deep z)).1.2:=q;unfold gM;refine⟨⟨dC,g,jN,q,trivial⟩,fun h0=>?_⟩;by_cases hn:(fM ex deep (cP ex deep z)).1.1=[]
 ·rw[θ hn] at h0;exact(cS (by decide) h0).elim
 ·rw[ξ hn] at h0 ⊢;have U:=jA h0;have u:=(Kq.need bA _ h0).1
  have M:kW (fM ex deep (cP ex deep z)).1.1+nG (fM ex deep (cP ex deep z)).1.2+mu (fM ex deep (cP ex deep z)).2≤kW []+nG [(cP ex deep z).1]+mu (cP ex deep z).2:=J u;have y:(cP ex deep z).2.e=0:=(Kq.alts hx deep _ _ _ _ _ u).1
  have Y:240+mu (cP ex deep z).2≤mu (aQ ofS (ex (deep+1) z).2):=jA y;have A:(aQ ofS (ex (deep+1) z).2).e=0:=(Kq.need dQ _ y).1
  have w4:=jA A;have w5:=E (Kq.need ofS _ A).1;rw[show kW []=0 from rfl,nG,nG,show(cP ex deep z).1=(ex (deep+1) z).1 from rfl] at M;unfold aKl;dsimp only;rw[qY];rw[show lQ []=0 from rfl,length_nil];omega
omit hwt in
theorem aOl (deep:Nat) {z:Z}(h:ZA L z):exP (fE ex deep z).1∧((fE ex deep z).2.e=0→96+exW (fE ex deep z).1+mu (fE ex deep z).2≤mu z):=by
 obtain⟨q,A,B⟩:=aSg hP hN deep h;have u:=(iR hO deep h).1
 unfold fE;by_cases hb:(gS ex deep z).1.2=false
 ·rw[θ hb];obtain⟨g,y⟩:=aIb hO hx hP hN deep (b4 z).pl (z.R.length+1) _ _ (u.fail 12 (b4 z).pl) q;exact⟨g,fun h0=>(cS (by decide) (Kq.apps hx deep _ _ _ _ h0).1).elim⟩
 ·rw[ξ hb];obtain⟨g,y⟩:=aIb hO hx hP hN deep (b4 z).pl (z.R.length+1) _ _ u q;refine⟨g,fun h0=>?_⟩;have E:=y h0;have I:=A (by simpa using hb) (Kq.apps hx deep _ _ _ _ h0).1;omega
omit hO hx hP hN in
theorem aWp (a:Int) {y:Ex×Z}(h:ZA L y.2) (he:exP y.1):exP (pZ a y).1∧((pZ a y).2.e=0→exW (pZ a y).1+mu (pZ a y).2≤exW y.1+mu y.2):=by
 unfold pZ;split
 ·rename_i hm;refine⟨⟨dC,trivial,zK (h.may eP) hwt,⟨he,trivial⟩,trivial⟩,fun h0=>?_⟩;have g:=zI h0;have q:=(qE eP y.2).2 hm;dsimp only;unfold aW4;rw[exW,nG,nG,show kW []=0 from rfl,show lQ []=0 from rfl,length_nil];omega
 ·have:=(qE eP y.2).1
  exact⟨he,fun _=>by dsimp only;omega⟩
theorem aS6:aU7 (vJ ex) L:=fun deep z h=>by
 unfold vJ;split
 ·rename_i h0;exact⟨aDw,fun k=>absurd k h0⟩
 split
 ·exact⟨aDw,fun k=>(cS (by decide) k).elim⟩
 split
 ·obtain⟨g,q⟩:=aV5 hx hP (b4 z).pl deep (h.may v8);exact⟨g,fun h0=>le_trans (q h0) (qE v8 z).1⟩
 split
 ·obtain⟨g,q⟩:=aV3 hO hx hP hwt (b4 z).pl deep (h.may v7);exact⟨g,fun h0=>le_trans (q h0) (qE v7 z).1⟩
 split
 ·obtain⟨g,q⟩:=aTd hO hx hP hN (b4 z).pl deep (h.may kD);exact⟨g,fun h0=>le_trans (q h0) (qE kD z).1⟩
 ·obtain⟨g,q⟩:=aOl hO hx hP hN deep h;obtain⟨u,y⟩:=aWp hwt (b4 z).pl (uR hO deep h).1 g;refine⟨u,fun h0=>?_⟩;have A:=y h0;have B:=q (Kq.ann _ _ h0).1;omega
end
theorem aM2 {L:List Tk}(hN:aRi L) (hwt:wt L≤30000):∀f,aU7 (aCw f) L
 | 0=>fun deep z _=>⟨aDw,fun k=>(cS (by decide) k).elim⟩
 | f+1=>aS6 (k8 hwt f) (xZ f) (aM2 hN hwt f) hN hwt
def qC (s:Str):Ex×Z:=aCw (cA s).2.R.length 0 (cA s).2
def aIq (s:Str):Ex×Int×Int:=if(lK (qC s).2).e=0 then((qC s).1,(lK (qC s).2).e,(lK (qC s).2).p) else(zEx,(lK (qC s).2).e,(lK (qC s).2).p)
theorem aNc (s:Str):aV Tryz.prog 5 [Go.AM.T s] [] (.tup [.pa (bC (aIq s).1),atV (aIq s).2.1 (aIq s).2.2]) []:=by
 have y:=aLa s;obtain⟨A,hwt,_,O⟩:=kF s;have g:=aS5 hwt (cA s).2.R.length 0 _ A (le_refl _) (by decide);obtain⟨q,_⟩:=k8 hwt (cA s).2.R.length 0 _ A;unfold aIq qC;generalize cA s=J at y A hwt g q ⊢;obtain⟨L,z⟩:=J;dsimp only at y A hwt g q ⊢;generalize aCw z.R.length 0 z=w at g q ⊢;obtain⟨e,M⟩:=w;dsimp only at g q ⊢;have E:=aT3 q;generalize lK M=B at E ⊢;have I:=iG L B;refine bF (n:=25) tok Tryz.func5 rfl rfl rfl ?_;refine sg rfl (sk 1 rfl (kc y ?_));refine kz 1 rfl (sk 1 rfl (kc g ?_));refine kz 2 rfl (sk 1 rfl (kc E ?_));refine az (aA (sk 1 rfl (kc I ?_)));refine kz 1 rfl ?_;by_cases u:B.e=0
 ·rw[θ u];have d:(!decide (B.e=0))=false:=by rw[φ u];rfl
  exact aB rfl (fun hb=>absurd (hb.symm.trans d) Bool.noConfusion) (fun _=>aD (sg rfl (aF aEm)))
 ·rw[ξ u];have d:(!decide (B.e=0))=true:=by rw[ψ u];rfl
  exact aB rfl (fun _=>sg rfl (aF aEm)) (fun hb=>absurd (hb.symm.trans d) Bool.noConfusion)
mutual
theorem aVv:∀p:Pt,psz p≤ptW p
 | .mk f pl n s l=>by
  have:=aE9 l;rw[psz,ptW];omega
theorem aE9:∀l:List Pt,jT l≤kW l
 | []=>le_refl _
 | p::l=>by
  have h1:=aVv p;have h2:=aE9 l;rw[jT,kW];omega
end
mutual
theorem aPf:∀e:Ex,exM e≤exW e
 | .mk f pl n s ks ps q g=>by
  have h1:=aM5 ks;have h2:=aNe q;have u:=aE9 ps;rw[exM,exW];omega
theorem aM5:∀l:List Ex,vK l≤nG l
 | []=>le_refl _
 | e::l=>by
  have h1:=aPf e;have h2:=aM5 l;rw[vK,nG];omega
theorem aNe:∀l:List Bd,l.length+aBk l≤lQ l
 | []=>le_refl _
 | .mk _ _ _ _ e::l=>by
  have h1:=aPf e;have h2:=aNe l;rw[aBk,lQ,bdW,Aa];omega
end
theorem aC9 (s:Str):aRi (cA s).1:=by
 unfold cA;cases hl:nA s with
 | ok l=>
  unfold nA at hl;split at hl
  ·cases hl
  ·exact pG _ _ _ _ hl
 | error e=>
  intro t g;rw[Ar.1 g];exact dC
theorem aHp (s:Str):mu (cA s).2≤1200000:=by
 obtain⟨_,hwt,_,h⟩:=kF s;unfold mu;rw[←h];omega
theorem aM4 (s:Str):iX (aIq s).1∧exB (aIq s).1∧exM (aIq s).1≤1200000:=by
 have q:iX zEx∧exB zEx∧exM zEx≤1200000:=⟨.z,aBy,by decide⟩
 unfold aIq;split
 case isFalse=>exact q
 rename_i he;have he:=(Kq.endz _ he).1
 obtain⟨g,hwt,_,_⟩:=kF s;have h1:=aM2 (aC9 s) hwt (cA s).2.R.length 0 _ g;have h2:=h1.2 he;have y:=aHp s;refine⟨(k8 hwt (cA s).2.R.length 0 _ g).2.1,aM3 _ 0 _,?_⟩;have u:=aPf (qC s).1;show exM (qC s).1≤_;unfold qC at u ⊢;omega
def tk0 (t:Tk):Tk:=⟨t.kind,t.text,t.n,0⟩
theorem k0 (t:Tk):(tk0 t).kind=t.kind:=rfl
theorem p0 (t:Tk):(tk0 t).pl=0:=rfl
def lx0:LE→Option (List Tk)
 | .ok l=>some (l.map tk0)
 | .error _=>none
def Lxs (s:Str) (us:List Tk):Prop:=∀f at',s.length≤f→lx0 (jJ f at' s)=some us
def Lx (a:Str) (ts:List Tk):Prop:=∀b us,Lxs b us→Lxs (a++b) (ts++us)
theorem Lx.nil:Lx [] []:=fun _ _ h=>h
def rR:List Str:=[[40],[41],[123],[125],[59],[44],[92],[124],[58],[95]]
def aPk (t:Tk):Option (List Tk)→Option (List Tk)
 | none=>none
 | some l=>some (t::l)
def aIp:Nat→Str→Option (List Tk)
 | _,[]=>some []
 | 0,_=>none
 | f+1,c::r=>
  if blB c.toNat=true then aIp f r
  else if preB [45,45] (c::r)=true then none
  else match gG (c::r) with
   | .error _=>none
   | .ok (k,t,v)=>if t.length<(c::r).length∨t∈rR then aPk ⟨k,t,v,0⟩ (aIp f ((c::r).drop t.length)) else none
theorem sJ (p:Nat→Bool) (b:Str):∀s:Str,cD p s<s.length→cD p (s++b)=cD p s
 | [],h=>absurd h (Cm 0)
 | c::s,h=>by
  rw[A4,cD,cD];rw[cD,Aa] at h;split
  ·rename_i hp;rw[θ hp] at h;rw[sJ p b s (by omega)]
  ·rfl
theorem lV {n:Nat}{s b:Str}(h:n≤s.length):(s++b).take n=s.take n:=B2 h
theorem s8 {x s:Str}(b:Str) (h:x.length≤s.length):preB x (s++b)=preB x s:=by
 unfold preB;rw[lV h,η,φ h,φ (by omega)]
theorem aI4:∀x∈qB,x.length≤2:=by decide
theorem vI {s:Str}(b:Str) (h:2≤s.length):∀l:List Str,(∀x∈l,x.length≤2)→l.find? (fun x=>preB x (s++b))=l.find? (fun x=>preB x s)
 | [],_=>rfl
 | x::l,hl=>by
  have hx:=hl x Bu;rw[List.find?_cons,List.find?_cons,s8 b (by omega),vI b h l fun y hy=>hl y (Bh _ hy)]
theorem zG {s:Str}(b:Str) (h:2≤s.length):n0 (s++b)=n0 s:=by
 unfold n0;rw[vI b h qB aI4]
theorem aMg {c:UInt8}{t:Str}(h:n0 [c]=t) (hn:¬t=[]):t=[c]:=by
 unfold n0 at h;cases g:qB.find? fun x=>preB x [c] with
 | none=>rw[g] at h;exact absurd h.symm hn
 | some x=>
  rw[g] at h;have:=List.find?_some g;unfold preB at this;rw[ε] at this;have h1:=κ this.1;have h2:=κ this.2;subst h
  match x,h1,h2,hn with
  | [d],_,h2,_=>exact h2.symm
  | d::e::y,h1,_,_=>exact absurd h1 (by simp)
theorem rQ {c:UInt8}(b:Str) (h:[c]∈rR):n0 (c::b)=[c]∧preB [45,45] (c::b)=false∧dgB c.toNat=false∧wiB c.toNat 97 122=false∧wiB c.toNat 65 90=false:=by
 unfold rR at h;simp only[Au,List.cons.injEq,and_true,not_mem_nil,or_false] at h;rcases h with rfl | rfl | rfl | rfl | rfl | rfl | rfl | rfl | rfl | rfl<;>exact⟨by simp[n0,qB,preB],by simp[preB],by decide,by decide,by decide⟩
theorem aAd {c:UInt8}{r:Str}(b:Str) {k:Int}{t:Str}{v:Int}(h:gG (c::r)=.ok (k,t,v)) (hs:t.length<(c::r).length∨t∈rR):gG (c::(r++b))=.ok (k,t,v):=by
 have hlen:=kM h;have A:∀p:Nat→Bool,p c.toNat=true→t=(c::r).take (cD p (c::r))→(dgB c.toNat=true∨wiB c.toNat 97 122=true∨wiB c.toNat 65 90=true)→cD p (c::r)<(c::r).length:=fun p hp q hc=>by
  have g:=fK p (c::r);have U:t.length=cD p (c::r):=by rw[q,Aj];omega
  rcases hs with hs | hs
  ·omega
  ·exfalso;have:∃u,t=c::u:=⟨_,by rw[q,cD,θ hp,Az]⟩
   obtain⟨u,rfl⟩:=this;have hu:u=[]:=by
    unfold rR at hs;simp only[Au,List.cons.injEq,not_mem_nil,or_false] at hs;rcases hs with h | h | h | h | h | h | h | h | h | h<;>exact h.2
   subst hu;obtain⟨_,_,I,J,M⟩:=rQ [] hs;rcases hc with hc | hc | hc
   ·rw[I] at hc;cases hc
   ·rw[J] at hc;cases hc
   ·rw[M] at hc;cases hc
 rw[show c::(r++b)=(c::r)++b from rfl];rw[gG] at h;rw[show gG ((c::r)++b)=gG (c::(r++b)) from rfl,gG];rw[show c::(r++b)=(c::r)++b from rfl];by_cases y:dgB c.toNat=true
 ·rw[θ y] at h ⊢;split at h
  ·cases h
  ·rename_i O;injection h with h;injection h with h1 h;injection h with h2 B;have g:=A dgB y h2.symm (.inl y);rw[sJ _ b _ g,lV (Cy g),ξ O,B,h2,h1]
 rw[ξ y] at h ⊢;by_cases hn:wiB c.toNat 97 122=true∨wiB c.toNat 65 90=true
 ·rw[θ hn] at h ⊢;have E:sgB c.toNat=true:=by
   rcases hn with h | h
   ·have:=aEg c.toNat;rw[h] at this;simpa using this
   ·have:=aEf c.toNat;rw[h] at this;simpa using this
  have q:t=(c::r).take (cD sgB (c::r)):=by
   unfold m8 at h;split at h
   ·cases h
   split at h
   ·cases h;rfl
   split at h
   ·cases h;rfl
   ·cases h;rfl
  have g:=A sgB E q (.inr hn);unfold m8 at h ⊢;rw[sJ _ b _ g,lV (Cy g)];exact h
 rw[ξ hn] at h ⊢;split at h
 ·cases h
 rename_i hy;injection h with h;injection h with h1 h;injection h with h2 B;have hS:n0 ((c::r)++b)=t:=by
  rcases hs with hs | hs
  ·rw[zG b (by have:=hlen.1;omega)];exact h2
  ·cases r with
   | nil=>
    have e:=aMg h2 (by rw[←h2];exact hy);rw[e] at hs ⊢;exact(rQ b hs).1
   | cons d r=>rw[zG b (by rw[Aa,Aa];omega)];exact h2
 rw[hS,ξ (by rw[←h2];exact hy),h1,B]
theorem aAj (t:Tk) (r:LE):lx0 (sX t r)=aPk (tk0 t) (lx0 r):=by cases r<;>rfl
theorem xS:∀(f:Nat) (a:Str) (ts:List Tk),aIp f a=some ts→Lx a ts
 | 0,[],ts,h=>by rw[aIp] at h;cases h;exact Lx.nil
 | 0,c::r,ts,h=>by simp[aIp] at h
 | f+1,[],ts,h=>by rw[aIp] at h;cases h;exact Lx.nil
 | f+1,c::r,ts,h=>by
  intro b us hb g at' U;rw[A4,Aa,η] at U;obtain⟨g,rfl⟩:∃k,g=k+1:=⟨g-1,by omega⟩
  rw[aIp] at h;rw[A4,jJ];by_cases u:blB c.toNat=true
  ·rw[θ u] at h;have hB:eL (c::(r++b))=1:=by unfold eL;exact θ u
   rw[hB,θ (by decide)];exact xS f r ts h b us hb g _ (by show(r++b).length≤g;rw[η];omega)
  rw[ξ u] at h;split at h
  ·cases h
  rename_i A;cases ho:gG (c::r) with
  | error e=>rw[ho] at h;cases h
  | ok p=>
   obtain⟨k,t,v⟩:=p;rw[ho] at h;dsimp only at h;split at h
   case isFalse=>cases h
   rename_i hs;have B:=aAd b ho hs;obtain⟨hl1,y⟩:=kM ho;have E:preB [45,45] (c::(r++b))=false:=by
    by_cases h2:2≤(c::r).length
    ·rw[show c::(r++b)=(c::r)++b from rfl,s8 (x:=[45,45]) b h2];simpa using A
    ·have Y:r=[]:=by
      cases r with
      | nil=>rfl
      | cons d r=>exact absurd (by rw[Aa,Aa];omega) h2
     subst Y;have q:t∈rR:=by
      rcases hs with hs | hs
      ·rw[Aa,length_nil] at hs;omega
      ·exact hs
     have:t=[c]:=by
      have I:t.length=1:=by rw[Aa,length_nil] at y;omega
      match t,I,ho with
      | [d],_,ho=>
       rw[gG] at ho;split at ho
       ·split at ho
        ·cases ho
        ·rename_i hd _;injection ho with ho;injection ho with _ ho;injection ho with ho _;rw[cD,θ hd,Az] at ho;injection ho with ho _;rw[ho]
       split at ho
       ·rename_i hn;have J:sgB c.toNat=true:=by
         rcases hn with h | h
         ·have:=aEg c.toNat;rw[h] at this;simpa using this
         ·have:=aEf c.toNat;rw[h] at this;simpa using this
        have q:[d]=[c].take (cD sgB [c]):=by
         unfold m8 at ho;split at ho
         ·cases ho
         split at ho
         ·injection ho with ho;injection ho with _ ho;injection ho with ho _;exact ho.symm
         split at ho
         ·injection ho with ho;injection ho with _ ho;injection ho with ho _;exact ho.symm
         ·injection ho with ho;injection ho with _ ho;injection ho with ho _;exact ho.symm
        rw[cD,θ J,Az] at q;injection q with q _;rw[q]
       split at ho
       ·cases ho
       rename_i hy;injection ho with ho;injection ho with _ ho;injection ho with ho _;exact aMg ho (by simp)
     rw[this] at q;exact(rQ b q).2.1
   have hB:eL (c::(r++b))=0:=by
    unfold eL;dsimp only;rw[ξ u,ξ (by rw[E];exact ω)]
   rw[hB,ξ (Cm 0),B];dsimp only;rw[aAj];have M:(c::(r++b)).drop t.length=(c::r).drop t.length++b:=by
    rw[show c::(r++b)=(c::r)++b from rfl,B3 y]
   rw[M];cases hq:aIp f ((c::r).drop t.length) with
   | none=>rw[hq] at h;cases h
   | some O=>
    rw[hq] at h;injection h with h;subst h;rw[Aa] at y;rw[xS f _ O hq b us hb g _ (by rw[η,Bf,Aa];omega)];rfl
def dlm (b:Str):Prop:=b=[]∨∃d b',b=d::b'∧sgB d.toNat=false
def LxD (a:Str) (ts:List Tk):Prop:=∀b us,dlm b→Lxs b us→Lxs (a++b) (ts++us)
theorem Lx.d {a:Str}{ts:List Tk}(h:Lx a ts):LxD a ts:=fun b us _ k=>h b us k
theorem Lx.appD {a b:Str}{ts us:List Tk}(h:Lx a ts) (k:LxD b us):LxD (a++b) (ts++us):=fun c vs g hc=>by
 rw[An,An];exact h _ _ (k _ _ g hc)
theorem LxD.app {a b:Str}{ts us:List Tk}(h:LxD a ts) (hb:∃d g,b=d::g∧sgB d.toNat=false) (k:Lx b us):Lx (a++b) (ts++us):=fun c vs hc=>by
 obtain⟨d,g,rfl,q⟩:=hb;rw[An,An];exact h _ _ (.inr ⟨d,g++c,rfl,q⟩) (k _ _ hc)
theorem LxD.appD {a b:Str}{ts us:List Tk}(h:LxD a ts) (hb:∃d g,b=d::g∧sgB d.toNat=false) (k:LxD b us):LxD (a++b) (ts++us):=fun c vs q hc=>by
 obtain⟨d,g,rfl,u⟩:=hb;rw[An,An];exact h _ _ (.inr ⟨d,g++c,rfl,u⟩) (k _ _ q hc)
def xW:Nat→Str→Option (List Tk)
 | _,[]=>some []
 | 0,_=>none
 | f+1,c::r=>
  if blB c.toNat=true then xW f r
  else if preB [45,45] (c::r)=true then none
  else match gG (c::r) with
   | .error _=>none
   | .ok (k,t,v)=>if t.length<(c::r).length∨t∈rR∨¬k=4 then aPk ⟨k,t,v,0⟩ (xW f ((c::r).drop t.length)) else none
theorem sI {p:Nat→Bool}(hp:∀c:UInt8,p c.toNat=true→sgB c.toNat=true) {b:Str}(hb:dlm b):∀s:Str,cD p (s++b)=cD p s
 | []=>by
  rw[A2];rcases hb with rfl | ⟨d,q,rfl,g⟩
  ·rfl
  ·show cD p (d::q)=0;rw[cD,ξ (fun h=>by rw[hp d h] at g;cases g)]
 | c::s=>by rw[A4,cD,cD,sI hp hb s]
theorem aV9:∀c:UInt8,dgB c.toNat=true→sgB c.toNat=true:=iZ (p:=fun c=>dgB c.toNat=true→sgB c.toNat=true) (by decide+kernel)
theorem aOo (k:Int) (t:Str) (v:Int) (h:gG [45]=.ok (k,t,v)):False:=by
 have:gG [45]=.error 10:=by kernel_rfl
 rw[this] at h;cases h
theorem aFh {c:UInt8}{r:Str}{b:Str}{k:Int}{t:Str}{v:Int}(hb:dlm b) (h:gG (c::r)=.ok (k,t,v)) (hs:t.length<(c::r).length∨t∈rR∨¬k=4):gG (c::(r++b))=.ok (k,t,v):=by
 by_cases hq:t.length<(c::r).length∨t∈rR
 ·exact aAd b h hq
 have q:¬k=4:=by
  rcases hs with hs | hs | hs
  ·exact absurd (.inl hs) hq
  ·exact absurd (.inr hs) hq
  ·exact hs
 rw[gG] at h;rw[show gG (c::(r++b))=_ from gG.eq_2 c (r++b),show c::(r++b)=(c::r)++b from rfl];by_cases g:dgB c.toNat=true
 ·rw[θ g] at h ⊢;rw[sI aV9 hb,lV (fK _ _)];exact h
 rw[ξ g] at h ⊢;by_cases hn:wiB c.toNat 97 122=true∨wiB c.toNat 65 90=true
 ·rw[θ hn] at h ⊢;unfold m8 at h ⊢;rw[sI (fun _ h=>h) hb,lV (fK _ _)];exact h
 rw[ξ hn] at h;split at h
 ·cases h
 ·injection h with h;injection h with h _;exact absurd h.symm q
theorem aPi {c:UInt8}{r:Str}{k:Int}{t:Str}{v:Int}(h:gG (c::r)=.ok (k,t,v)) (g:¬preB [45,45] (c::r)=true) (b:Str):preB [45,45] (c::(r++b))=false:=by
 by_cases h2:2≤(c::r).length
 ·rw[show c::(r++b)=(c::r)++b from rfl,s8 (x:=[45,45]) b h2];simpa using g
 ·have q:r=[]:=by
   cases r with
   | nil=>rfl
   | cons d r=>exact absurd (by rw[Aa,Aa];omega) h2
  subst q;by_cases hc:c=45
  ·subst hc;exact(aOo k t v h).elim
  ·unfold preB;rw[Bool.and_eq_false_iff];refine .inr (ψ fun e=>?_);rw[A2,show([45,45]:Str).length=1+1 from rfl,Az] at e;injection e with e _;exact hc e
theorem xU:∀(f:Nat) (a:Str) (ts:List Tk),xW f a=some ts→LxD a ts
 | 0,[],ts,h=>by rw[xW] at h;cases h;exact Lx.nil.d
 | 0,c::r,ts,h=>by simp[xW] at h
 | f+1,[],ts,h=>by rw[xW] at h;cases h;exact Lx.nil.d
 | f+1,c::r,ts,h=>by
  intro b us y hb g O M;rw[A4,Aa,η] at M;obtain⟨g,rfl⟩:∃k,g=k+1:=⟨g-1,by omega⟩
  rw[xW] at h;rw[A4,jJ];by_cases q:blB c.toNat=true
  ·rw[θ q] at h;have hB:eL (c::(r++b))=1:=by unfold eL;exact θ q
   rw[hB,θ (by decide)];exact xU f r ts h b us y hb g _ (by show(r++b).length≤g;rw[η];omega)
  rw[ξ q] at h;split at h
  ·cases h
  rename_i A;cases ho:gG (c::r) with
  | error e=>rw[ho] at h;cases h
  | ok p=>
   obtain⟨k,t,v⟩:=p;rw[ho] at h;dsimp only at h;split at h
   case isFalse=>cases h
   rename_i hs;have B:=aFh y ho hs;obtain⟨U,u⟩:=kM ho;have E:=aPi ho A b;have hB:eL (c::(r++b))=0:=by
    unfold eL;dsimp only;rw[ξ q,ξ (by rw[E];exact ω)]
   rw[hB,ξ (Cm 0),B];dsimp only;rw[aAj];have I:(c::(r++b)).drop t.length=(c::r).drop t.length++b:=by
    rw[show c::(r++b)=(c::r)++b from rfl,B3 u]
   rw[I];cases hq:xW f ((c::r).drop t.length) with
   | none=>rw[hq] at h;cases h
   | some J=>
    rw[hq] at h;injection h with h;subst h;rw[Aa] at u;rw[xU f _ J hq b us y hb g _ (by rw[η,Bf,Aa];omega)];rfl
def LD (s:Str):Prop:=∃ts,LxD s ts
def LQ (s:Str):Prop:=∃ts,Lx s ts
def dlh (s:Str):Prop:=∃d b,s=d::b∧sgB d.toNat=false
theorem LQ.d {s:Str}(h:LQ s):LD s:=by obtain⟨t,h⟩:=h;exact⟨t,h.d⟩
theorem LQ.appD {a b:Str}(h:LQ a) (k:LD b):LD (a++b):=by obtain⟨t,h⟩:=h;obtain⟨u,k⟩:=k;exact⟨_,h.appD k⟩
theorem LD.app {a b:Str}(h:LD a) (hb:dlh b) (k:LQ b):LQ (a++b):=by obtain⟨t,h⟩:=h;obtain⟨u,k⟩:=k;exact⟨_,h.app hb k⟩
theorem LD.appD {a b:Str}(h:LD a) (hb:dlh b) (k:LD b):LD (a++b):=by obtain⟨t,h⟩:=h;obtain⟨u,k⟩:=k;exact⟨_,h.appD hb k⟩
theorem LQ.of {s:Str}(h:(aIp s.length s).isSome=true):LQ s:=by
 cases e:aIp s.length s with
 | none=>rw[e] at h;cases h
 | some ts=>exact⟨ts,xS _ _ _ e⟩
theorem LD.of {s:Str}(h:(xW s.length s).isSome=true):LD s:=by
 cases e:xW s.length s with
 | none=>rw[e] at h;cases h
 | some ts=>exact⟨ts,xU _ _ _ e⟩
def TX (n:Nat) (l:List Int) (i j:Nat) (s:Str):Prop:=s.length+30*(l.length-j)≤30*(l.length-i)+n∧LD s
def Nx (l:List Int) (i v j:Nat):Prop:=(i<l.length∧j=i+1)∨(j=i∧l.length≤i∧v=0)
theorem Nx.le {l:List Int}{i v j:Nat}(h:Nx l i v j) (hi:i≤l.length):j≤l.length:=by
 rcases h with⟨h1,h2⟩ | ⟨h1,h2,g⟩<;>omega
theorem Nx.pos {l:List Int}{i v j:Nat}(h:Nx l i v j) (g:¬v=0):i<l.length∧j=i+1:=by
 rcases h with h | ⟨_,_,q⟩
 ·exact h
 ·exact absurd q g
theorem TX.le {n:Nat}{l:List Int}{i j:Nat}{s:Str}(h:TX n l i j s):s.length≤30*l.length+n:=by
 have:=h.1;omega
def tkP:V:=.one (.vp 750 0)
def tkO (l:List Int) (i:Nat):AObj:=.var 97 [.c (.sl 1 (l.map yA)),.c (.int .i64 (i:Nat))]
theorem aXc (l:List Int) (k:Nat) (g:Fits l) (q:k≤1000):aV Tryz.prog 24 [.one (.c (.sl 1 (l.map yA))),I .i64 (k:Nat)] [] tkP [(750,tkO (l.take k) 0)]:=by
 have hi:=aTv l k g q;refine bF (n:=10) tok Tryz.func24 rfl rfl rfl ?_;refine sg rfl (sk 2 rfl (kc hi ?_));exact ak 3 [(4,.id 750)] rfl (az (aF rtT))
theorem lL (l:List Int) (hl:aQ2 l) (E:l.length≤1000) (i:Nat) (hi:i≤l.length) (g:Nat) (hm:0<g) (A:g≤1000000):∃v j:Nat,v<g∧Nx l i v j∧aV Tryz.prog 45 [tkP,I .i64 (g:Nat)] [(750,tkO l i)] (I .i64 (v:Nat)) [(750,tkO l j)]:=by
 have q:(l.map yA).length=l.length:=χ _;by_cases h:i<l.length
 ·obtain⟨x,hx⟩:=aM h;have B:=bB yA hx;have u:i64 x:=hl x (Ag hx);obtain⟨h1,h2⟩:=wV x (k:=(g:Int)) (by omega);obtain⟨v,y⟩:∃v:Nat,nY x g=v:=⟨(nY x g).toNat,by omega⟩
  have hc:=aBe x g u (by omega);rw[y] at hc;refine⟨v,i+1,by omega,.inl ⟨h,rfl⟩,?_⟩;have d1:decide ((l.length:Int)≤(i:Int))=false:=ψ (by omega);refine bF (n:=37) tok Tryz.func45 rfl rfl rfl ?_;refine sg rfl (aA (sg rfl ?_));rw[q];refine aB rfl (fun hb=>absurd (hb.symm.trans d1) Bool.noConfusion) (fun _=>aD (skh 11 [(8,.row i (yA x))] rfl (kc hc ?_)));exact kz 1 rfl (aA (agN [] rfl (sg rfl (aF rtT))))
 ·refine⟨0,i,hm,.inr ⟨rfl,by omega,rfl⟩,?_⟩;have d1:decide ((l.length:Int)≤(i:Int))=true:=φ (by omega);refine bF (n:=37) tok Tryz.func45 rfl rfl rfl ?_;refine sg rfl (aA (sg rfl ?_));rw[q];exact aB rfl (fun _=>sg rfl (aF rtT)) (fun hb=>absurd (hb.symm.trans d1) Bool.noConfusion)
def aJc:Code→Code | .seq _ b=>b | c=>c
def aUw:List Str:=[[120],[95],[48],[50],[78],[84,114,117,101],[78,111],[110]]
theorem aOi:∀s∈aUw,s.length≤4∧(xW s.length s).isSome=true:=by decide+kernel
theorem vQ (l:List Int) (hl:aQ2 l) (M:l.length≤1000):∀(k i deep:Nat),i≤l.length→deep+k=3→∃(s:Str) (j:Nat),TX 1 l i j s∧j≤l.length∧aV Tryz.prog 26 [tkP,I .i64 (deep:Nat)] [(750,tkO l i)] (Go.AM.T s) [(750,tkO l j)]:=by
 intro k;have hM:1000000000≤maxLen:=by decide
 have leaf:∀(i deep v j:Nat),aV Tryz.prog 45 [tkP,I .i64 ((13:Nat):Int)] [(750,tkO l i)] (I .i64 (v:Nat)) [(750,tkO l j)]→v<13→i≤l.length→Nx l i v j→(v<8∨2<deep)→∃(s:Str) (j:Nat),TX 1 l i j s∧j≤l.length∧aV Tryz.prog 26 [tkP,I .i64 (deep:Nat)] [(750,tkO l i)] (Go.AM.T s) [(750,tkO l j)]:=fun i deep v j hc A hi hx hvd=>by
  obtain⟨s,hs⟩:=aM (l:=aUw) (k:=v%8) (by show v%8<8;omega);have hs':=bB aX hs;obtain⟨hsl,O⟩:=aOi s (Ag hs)
  have hT:TX 1 l i j s:=⟨by
   rcases hx with⟨h1,h2⟩ | ⟨h1,h2,h3⟩
   ·omega
   ·subst h3;have:s=[120]:=(Option.some.inj hs).symm;subst this;subst h1
    show 1+_≤_;omega,LD.of O⟩
  have U:(aUw.map aX).length=8:=rfl;refine⟨s,j,hT,hx.le hi,?_⟩;refine bF (n:=49) tok Tryz.func26 rfl rfl rfl ?_;refine sg rfl (sgh [(0,.all)] rfl (sk 1 rfl (kc hc ?_)));refine kz 1 rfl (AWp.sub (st2:=mk [(0,tkP),(1,I .i64 (deep:Nat)),(5,bJ aUw),(6,I .i64 (v:Nat))] [(750,tkO l j)]) sl ?_);exact aA (aA (agF 3 [] rfl rfl rfl (aB rfl (fun _=>aA (agN [(3,.row (v%8) (aX s))] rfl (aF rtT))) (fun hb=>by simp at hb;omega))))
 induction k with
 | zero=>
  intro i deep hi hd;obtain⟨v,j,A,B,hc⟩:=lL l hl M i hi 13 (by decide) (by decide);exact leaf i deep v j hc A hi B (.inr (by omega))
 | succ k Y=>
  intro i deep hi hd;obtain⟨v,j,A,hx,hc⟩:=lL l hl M i hi 13 (by decide) (by decide);by_cases U:v<8
  ·exact leaf i deep v j hc A hi hx (.inl U)
  obtain⟨aa,rfl⟩:=hx.pos (by omega);have B:i+1≤l.length:=aa;obtain⟨s1,E,g,q,u⟩:=Y (i+1) (deep+1) B (by omega);obtain⟨s2,j2,y,ab,ac⟩:=Y E (deep+1) q (by omega);have l1:=g.1;have l2:=y.1;have m1:=g.le;have m2:=y.le;have pre:∀(s:Str) (J:Nat),AWp none Tryz.prog 49 (keys [(750,tkO l i)]) (aJc (aJc (aJc (aJc (Tryz.f26.body.getD .skip))))) (mk [(0,tkP),(1,I .i64 (deep:Nat)),(6,I .i64 (v:Nat))] [(750,tkO l (i+1))]) (fun ex st=>(ex=.normal∨ex=.ret)∧Fin tr.flat Tryz.f26 st [(750,tkO l i)] (Go.AM.T s) [(750,tkO l J)])→aV Tryz.prog 26 [tkP,I .i64 (deep:Nat)] [(750,tkO l i)] (Go.AM.T s) [(750,tkO l J)]:=fun s J h=>by
   refine bF (n:=49) tok Tryz.func26 rfl rfl rfl ?_;refine sg rfl (sgh [(0,.all)] rfl (sk 1 rfl (kc hc ?_)));refine kz 1 rfl (AWp.sub (st2:=mk [(0,tkP),(1,I .i64 (deep:Nat)),(6,I .i64 (v:Nat))] [(750,tkO l (i+1))]) sl ?_);exact aA (aA (agF 3 [] rfl rfl rfl (aB rfl (fun hb=>by simp at hb;omega) (fun _=>aD (AWp.sub sl h)))))
  by_cases h10:v<10
  ·refine⟨[67,32,40]++s1++[41,32,40]++s2++[41],j2,⟨by simp only[η,Aa,length_nil];omega,(((((LQ.of rfl).appD g.2).app ⟨_,_,rfl,rfl⟩ (LQ.of rfl)).appD y.2).app ⟨_,_,rfl,rfl⟩ (LQ.of rfl)).d⟩,ab,pre _ _ ?_⟩;have d10:decide ((v:Int)<10)=true:=φ (by omega);refine aA (sg rfl (aB rfl (fun _=>aA (aC mixed (akN 3 [] rfl (kc u ?_)))) (fun hb=>Bool.noConfusion (hb.symm.trans d10))));refine akN 5 [] rfl (kc ac ?_);exact kz 3 rfl (aF rtT)
  have d10:decide ((v:Int)<10)=false:=ψ (by omega);by_cases h12:v<12
  ·refine⟨[89,101,115,32,40]++s1++[41],E,⟨by simp only[η,Aa,length_nil];omega,(((LQ.of rfl).appD g.2).app ⟨_,_,rfl,rfl⟩ (LQ.of rfl)).d⟩,q,pre _ _ ?_⟩;have d12:decide ((v:Int)<12)=true:=φ (by omega);refine aA (sg rfl (aB rfl (fun hb=>Bool.noConfusion (hb.symm.trans d10)) (fun _=>aD (aA (sg rfl (aB rfl (fun _=>aA (aC mixed (akN 3 [] rfl (kc u ?_)))) (fun hb=>Bool.noConfusion (hb.symm.trans d12))))))));exact kz 3 rfl (aF rtT)
  have d12:decide ((v:Int)<12)=false:=ψ (by omega);refine⟨[80,32,40]++s1++[41,32,121],E,⟨by simp only[η,Aa,length_nil];omega,((LQ.of rfl).appD g.2).appD ⟨_,_,rfl,rfl⟩ (LD.of rfl)⟩,q,pre _ _ ?_⟩;refine aA (sg rfl (aB rfl (fun hb=>Bool.noConfusion (hb.symm.trans d10)) (fun _=>aD (aA (sg rfl (aB rfl (fun hb=>Bool.noConfusion (hb.symm.trans d12)) (fun _=>aD (aA (aC mixed (akN 3 [] rfl (kc u ?_)))))))))));exact kz 3 rfl (aF rtT)
def aNu:List Str:=[[120],[121],[102],[105,100],[107],[97,100,100],[101,113],[115,97,109,101],[109,97,112],[116,111,112],[84,114,117,101],[78],[67],[80],[89,101,115],[51],[48],[109,101,109,98,101,114],[115,117,109],[109,97,105,110],[122]]
theorem aIx:∀s∈aNu,s.length≤6∧(xW s.length s).isSome=true:=by decide+kernel
theorem aA1 (l:List Int) (hl:aQ2 l) (q:l.length≤1000) (i:Nat) (hi:i≤l.length):∃(s:Str) (j:Nat),TX 1 l i j s∧j≤l.length∧aV Tryz.prog 44 [tkP] [(750,tkO l i)] (Go.AM.T s) [(750,tkO l j)]:=by
 obtain⟨v,j,u,hx,hc⟩:=lL l hl q i hi 21 (by decide) (by decide);obtain⟨s,hs⟩:=aM (l:=aNu) (k:=v) u;have B:=bB aX hs;obtain⟨E,g⟩:=aIx s (Ag hs)
 have y:TX 1 l i j s:=⟨by
  rcases hx with⟨h1,h2⟩ | ⟨h1,h2,A⟩
  ·omega
  ·subst A;have:s=[120]:=(Option.some.inj hs).symm;subst this;subst h1
   show 1+_≤_;omega,LD.of g⟩
 have I:(aNu.map aX).length=21:=rfl;refine⟨s,j,y,hx.le hi,?_⟩;refine bF (n:=8) tok Tryz.func44 rfl rfl rfl ?_;refine sg rfl (skh 2 [(0,.all)] rfl (kc hc ?_));exact ak 3 [(3,.row v (aX s))] rfl (az (aF rtT))
def aO2:List Str:=[[120],[121],[120,32,121],[102,32,120]]
def aO0:List Str:=[[120],[102,32,121],[105,100,32,122]]
def aQy:List Str:=[[73,110,116],[66,111,111,108],[97,32,45,62,32,97],[69,32,97,32,61,62,32,97,32,45,62,32,66,111,111,108],[76,32,73,110,116],[70,32,102,32,61,62,32,102,32,97]]
theorem aJ4:∀s∈aO2,s.length≤3∧(xW s.length s).isSome=true:=by decide+kernel
theorem aJ2:∀s∈aO0,s.length≤4∧(xW s.length s).isSome=true:=by decide+kernel
theorem aL2:∀s∈aQy,s.length≤16∧(xW s.length s).isSome=true:=by decide+kernel
theorem aS9 (l:List Int) (hl:aQ2 l) (hL:l.length≤1000):∀(k i deep:Nat),i≤l.length→deep+k=5→∃(s:Str) (j:Nat),TX 1 l i j s∧j≤l.length∧aV Tryz.prog 23 [tkP,I .i64 (deep:Nat)] [(750,tkO l i)] (Go.AM.T s) [(750,tkO l j)]:=by
 have hM:1000000000≤maxLen:=by decide
 intro k
 induction k with
 | zero=>
  intro i deep hi hd;obtain⟨s,j,hs,M,hc⟩:=aA1 l hl hL i hi;have d4:decide (4<(deep:Int))=true:=φ (by omega);refine⟨s,j,hs,M,?_⟩;refine bF (n:=123) tok Tryz.func23 rfl rfl rfl ?_;refine sg rfl (aA (sg rfl (aB rfl (fun _=>sk 1 rfl (kc hc ?_)) (fun hb=>Bool.noConfusion (hb.symm.trans d4)))));exact kz 1 rfl (aF rtT)
 | succ k O=>
  intro i deep hi hd;have d4:decide (4<(deep:Int))=false:=ψ (by omega);obtain⟨v,j,hv,hx,hc⟩:=lL l hl hL i hi 10 (by decide) (by decide);have M:=hx.le hi
  match v,hv,hx,hc with
  | 0,_,hx,hc=>
   obtain⟨s1,A,g,q,u⟩:=aA1 l hl hL j M;have B:=g.1;have E:=g.le;have hxl:l.length-j≤l.length-i:=by rcases hx with⟨_,_⟩ | ⟨_,_,_⟩<;>omega
   refine⟨s1,A,⟨by omega,g.2⟩,q,?_⟩;refine bF (n:=123) tok Tryz.func23 rfl rfl rfl ?_;refine sg rfl (aA (sg rfl (aB rfl (fun hb=>Bool.noConfusion (hb.symm.trans d4)) (fun _=>aD (aA (sk 1 rfl (kc hc ?_)))))));refine az (aE (aA (sg rfl (aB rfl (fun _=>aD (aB rfl (fun _=>sk 1 rfl (kc u ?_)) (fun hb=>Bool.noConfusion hb))) (fun hb=>Bool.noConfusion hb)))));exact kz 1 rfl (aF rtT)
  | 1,_,hx,hc=>
   obtain⟨s1,A,g,q,u⟩:=aA1 l hl hL j M;have B:=g.1;have E:=g.le;have hxl:l.length-j≤l.length-i:=by rcases hx with⟨_,_⟩ | ⟨_,_,_⟩<;>omega
   refine⟨s1,A,⟨by omega,g.2⟩,q,?_⟩;refine bF (n:=123) tok Tryz.func23 rfl rfl rfl ?_;refine sg rfl (aA (sg rfl (aB rfl (fun hb=>Bool.noConfusion (hb.symm.trans d4)) (fun _=>aD (aA (sk 1 rfl (kc hc ?_)))))));refine az (aE (aA (sg rfl (aB rfl (fun hb=>Bool.noConfusion hb) (fun _=>sg rfl (aB rfl (fun _=>aD (aB rfl (fun _=>sk 1 rfl (kc u ?_)) (fun hb=>Bool.noConfusion hb))) (fun hb=>Bool.noConfusion hb)))))));exact kz 1 rfl (aF rtT)
  | 2,_,hx,hc=>
   obtain⟨s1,A,g,q,u⟩:=aA1 l hl hL j M;have B:=g.1;have E:=g.le;have hxl:l.length-j≤l.length-i:=by rcases hx with⟨_,_⟩ | ⟨_,_,_⟩<;>omega
   refine⟨s1,A,⟨by omega,g.2⟩,q,?_⟩;refine bF (n:=123) tok Tryz.func23 rfl rfl rfl ?_;refine sg rfl (aA (sg rfl (aB rfl (fun hb=>Bool.noConfusion (hb.symm.trans d4)) (fun _=>aD (aA (sk 1 rfl (kc hc ?_)))))));refine az (aE (aA (sg rfl (aB rfl (fun hb=>Bool.noConfusion hb) (fun _=>sg rfl (aB rfl (fun hb=>Bool.noConfusion hb) (fun _=>ag [] rfl (aB rfl (fun _=>sk 1 rfl (kc u ?_)) (fun hb=>Bool.noConfusion hb)))))))));exact kz 1 rfl (aF rtT)
  | 3,_,hx,hc=>
   obtain⟨s1,A,g,q,u⟩:=O j (deep+1) M (by omega);obtain⟨s2,j2,y,Y,aa⟩:=O A (deep+1) q (by omega);have B:=g.1;have E:=g.le;have lhs2:=y.1;have mhs2:=y.le;obtain⟨hi1,rfl⟩:=hx.pos (by decide);refine⟨[40]++s1++[41,32,40]++s2++[41],j2,⟨by simp only[η,Aa,length_nil];omega,(((((LQ.of rfl).appD g.2).app ⟨_,_,rfl,rfl⟩ (LQ.of rfl)).appD y.2).app ⟨_,_,rfl,rfl⟩ (LQ.of rfl)).d⟩,Y,?_⟩;refine bF (n:=123) tok Tryz.func23 rfl rfl rfl ?_;refine sg rfl (aA (sg rfl (aB rfl (fun hb=>Bool.noConfusion (hb.symm.trans d4)) (fun _=>aD (aA (sk 1 rfl (kc hc ?_)))))));refine az (aE (aA (sg rfl (aB rfl (fun hb=>Bool.noConfusion hb) (fun _=>sg rfl (aB rfl (fun hb=>Bool.noConfusion hb) (fun _=>ag [] rfl (aB rfl (fun hb=>Bool.noConfusion hb) (fun _=>aA (sg rfl (aB rfl (fun _=>aD (aB rfl (fun _=>aA (aC mixed (akN 3 [] rfl (kc u ?_)))) (fun hb=>Bool.noConfusion hb))) (fun hb=>Bool.noConfusion hb))))))))))));refine akN 5 [] rfl (kc aa ?_);exact kz 3 rfl (aF rtT)
  | 4,_,hx,hc=>
   obtain⟨s1,A,g,q,u⟩:=O j (deep+1) M (by omega);obtain⟨s2,j2,y,Y,aa⟩:=O A (deep+1) q (by omega);have B:=g.1;have E:=g.le;have lhs2:=y.1;have mhs2:=y.le;obtain⟨hi1,rfl⟩:=hx.pos (by decide);refine⟨[40]++s1++[41,32,40]++s2++[41],j2,⟨by simp only[η,Aa,length_nil];omega,(((((LQ.of rfl).appD g.2).app ⟨_,_,rfl,rfl⟩ (LQ.of rfl)).appD y.2).app ⟨_,_,rfl,rfl⟩ (LQ.of rfl)).d⟩,Y,?_⟩;refine bF (n:=123) tok Tryz.func23 rfl rfl rfl ?_;refine sg rfl (aA (sg rfl (aB rfl (fun hb=>Bool.noConfusion (hb.symm.trans d4)) (fun _=>aD (aA (sk 1 rfl (kc hc ?_)))))));refine az (aE (aA (sg rfl (aB rfl (fun hb=>Bool.noConfusion hb) (fun _=>sg rfl (aB rfl (fun hb=>Bool.noConfusion hb) (fun _=>ag [] rfl (aB rfl (fun hb=>Bool.noConfusion hb) (fun _=>aA (sg rfl (aB rfl (fun hb=>Bool.noConfusion hb) (fun _=>ag [] rfl (aB rfl (fun _=>aA (aC mixed (akN 3 [] rfl (kc u ?_)))) (fun hb=>Bool.noConfusion hb))))))))))))));refine akN 5 [] rfl (kc aa ?_);exact kz 3 rfl (aF rtT)
  | 5,_,hx,hc=>
   obtain⟨w,j9,hw,U,hcn⟩:=lL l hl hL j M 4 (by decide) (by decide);have hj9:=U.le M;obtain⟨t,ht⟩:=aM (l:=aO2) (k:=w) hw;have ht':=bB aX ht;obtain⟨htl,J⟩:=aJ4 t (Ag ht);have J:=LD.of J;have hxl:l.length-j9≤l.length-j:=by rcases U with⟨_,_⟩ | ⟨_,_,_⟩<;>omega
   have hkw:(aO2.map aX).length=4:=rfl;obtain⟨s1,A,g,q,u⟩:=O j9 (deep+1) hj9 (by omega);have B:=g.1;have E:=g.le;obtain⟨hi1,rfl⟩:=hx.pos (by decide);refine⟨[40,92,32]++t++[32,45,62,32]++s1++[41],A,⟨by simp only[η,Aa,length_nil];omega,(((((LQ.of rfl).appD J).app ⟨_,_,rfl,rfl⟩ (LQ.of rfl)).appD g.2).app ⟨_,_,rfl,rfl⟩ (LQ.of rfl)).d⟩,q,?_⟩;refine bF (n:=123) tok Tryz.func23 rfl rfl rfl ?_;refine sg rfl (aA (sg rfl (aB rfl (fun hb=>Bool.noConfusion (hb.symm.trans d4)) (fun _=>aD (aA (sk 1 rfl (kc hc ?_)))))));refine az (aE (aA (sg rfl (aB rfl (fun hb=>Bool.noConfusion hb) (fun _=>sg rfl (aB rfl (fun hb=>Bool.noConfusion hb) (fun _=>ag [] rfl (aB rfl (fun hb=>Bool.noConfusion hb) (fun _=>aA (sg rfl (aB rfl (fun hb=>Bool.noConfusion hb) (fun _=>ag [] rfl (aB rfl (fun hb=>Bool.noConfusion hb) (fun _=>sg rfl (aB rfl (fun _=>skh 2 [(0,.all)] rfl (kc hcn ?_)) (fun hb=>Bool.noConfusion hb))))))))))))))));refine akN 7 [(3,.row w (aX t))] rfl (kc u ?_);exact kz 3 rfl (aF rtT)
  | 6,_,hx,hc=>
   obtain⟨w,j9,hw,U,hcn⟩:=lL l hl hL j M 3 (by decide) (by decide);have hj9:=U.le M;obtain⟨t,ht⟩:=aM (l:=aO0) (k:=w) hw;have ht':=bB aX ht;obtain⟨htl,J⟩:=aJ2 t (Ag ht);have J:=LD.of J;have hxl:l.length-j9≤l.length-j:=by rcases U with⟨_,_⟩ | ⟨_,_,_⟩<;>omega
   have hkw:(aO0.map aX).length=3:=rfl;obtain⟨s1,A,g,q,u⟩:=O j9 (deep+1) hj9 (by omega);obtain⟨s2,j2,y,Y,aa⟩:=O A (deep+1) q (by omega);obtain⟨s3,j3,ab,hj3,hc3⟩:=O j2 (deep+1) Y (by omega);have B:=g.1;have E:=g.le;have lhs2:=y.1;have mhs2:=y.le;have lhs3:=ab.1;have mhs3:=ab.le;obtain⟨hi1,rfl⟩:=hx.pos (by decide);refine⟨[40,108,101,116,32,123,32]++t++[32,61,32]++s1++[32,59,32,121,32,61,32]++s2++[32,125,32,105,110,32]++s3++[41],j3,⟨by simp only[η,Aa,length_nil];omega,(((((((((LQ.of rfl).appD J).app ⟨_,_,rfl,rfl⟩ (LQ.of rfl)).appD g.2).app ⟨_,_,rfl,rfl⟩ (LQ.of rfl)).appD y.2).app ⟨_,_,rfl,rfl⟩ (LQ.of rfl)).appD ab.2).app ⟨_,_,rfl,rfl⟩ (LQ.of rfl)).d⟩,hj3,?_⟩;refine bF (n:=123) tok Tryz.func23 rfl rfl rfl ?_;refine sg rfl (aA (sg rfl (aB rfl (fun hb=>Bool.noConfusion (hb.symm.trans d4)) (fun _=>aD (aA (sk 1 rfl (kc hc ?_)))))));refine az (aE (aA (sg rfl (aB rfl (fun hb=>Bool.noConfusion hb) (fun _=>sg rfl (aB rfl (fun hb=>Bool.noConfusion hb) (fun _=>ag [] rfl (aB rfl (fun hb=>Bool.noConfusion hb) (fun _=>aA (sg rfl (aB rfl (fun hb=>Bool.noConfusion hb) (fun _=>ag [] rfl (aB rfl (fun hb=>Bool.noConfusion hb) (fun _=>sg rfl (aB rfl (fun hb=>Bool.noConfusion hb) (fun _=>sg rfl (aB rfl (fun _=>skh 2 [(0,.all)] rfl (kc hcn ?_)) (fun hb=>Bool.noConfusion hb))))))))))))))))));refine akN 7 [(3,.row w (aX t))] rfl (kc u ?_);refine akN 5 [] rfl (kc aa ?_);refine akN 5 [] rfl (kc hc3 ?_);exact kz 3 rfl (aF rtT)
  | 7,_,hx,hc=>
   obtain⟨s1,A,g,q,u⟩:=O j (deep+1) M (by omega);obtain⟨p1,j11,hp1,hj11,hcp1⟩:=vQ l hl hL 3 A 0 q rfl;obtain⟨s2,j2,y,Y,aa⟩:=O j11 (deep+1) hj11 (by omega);obtain⟨p2,j12,hp2,hj12,hcp2⟩:=vQ l hl hL 3 j2 0 Y rfl;obtain⟨s3,j3,ab,hj3,hc3⟩:=O j12 (deep+1) hj12 (by omega);have B:=g.1;have E:=g.le;have lhp1:=hp1.1;have mhp1:=hp1.le;have lhs2:=y.1;have mhs2:=y.le;have lhp2:=hp2.1;have mhp2:=hp2.le;have lhs3:=ab.1;have mhs3:=ab.le;obtain⟨hi1,rfl⟩:=hx.pos (by decide);refine⟨[40,99,97,115,101,32]++s1++[32,111,102,32,123,32]++p1++[32,45,62,32]++s2++[32,59,32]++p2++[32,45,62,32]++s3++[32,125,41],j3,⟨by simp only[η,Aa,length_nil];omega,(((((((((((LQ.of rfl).appD g.2).app ⟨_,_,rfl,rfl⟩ (LQ.of rfl)).appD hp1.2).app ⟨_,_,rfl,rfl⟩ (LQ.of rfl)).appD y.2).app ⟨_,_,rfl,rfl⟩ (LQ.of rfl)).appD hp2.2).app ⟨_,_,rfl,rfl⟩ (LQ.of rfl)).appD ab.2).app ⟨_,_,rfl,rfl⟩ (LQ.of rfl)).d⟩,hj3,?_⟩;refine bF (n:=123) tok Tryz.func23 rfl rfl rfl ?_;refine sg rfl (aA (sg rfl (aB rfl (fun hb=>Bool.noConfusion (hb.symm.trans d4)) (fun _=>aD (aA (sk 1 rfl (kc hc ?_)))))));refine az (aE (aA (sg rfl (aB rfl (fun hb=>Bool.noConfusion hb) (fun _=>sg rfl (aB rfl (fun hb=>Bool.noConfusion hb) (fun _=>ag [] rfl (aB rfl (fun hb=>Bool.noConfusion hb) (fun _=>aA (sg rfl (aB rfl (fun hb=>Bool.noConfusion hb) (fun _=>ag [] rfl (aB rfl (fun hb=>Bool.noConfusion hb) (fun _=>sg rfl (aB rfl (fun hb=>Bool.noConfusion hb) (fun _=>sg rfl (aB rfl (fun hb=>Bool.noConfusion hb) (fun _=>sg rfl (aB rfl (fun _=>aA (aC mixed (akN 3 [] rfl (kc u ?_)))) (fun hb=>Bool.noConfusion hb))))))))))))))))))));refine ak 3 [] rfl (kc hcp1 ?_);refine akN 5 [] rfl (kc aa ?_);refine ak 3 [] rfl (kc hcp2 ?_);refine akN 5 [] rfl (kc hc3 ?_);exact kz 3 rfl (aF rtT)
  | 8,_,hx,hc=>
   obtain⟨s1,A,g,q,u⟩:=O j (deep+1) M (by omega);obtain⟨w,j9,hw,U,hcn⟩:=lL l hl hL A q 6 (by decide) (by decide);have hj9:=U.le q;obtain⟨t,ht⟩:=aM (l:=aQy) (k:=w) hw;have ht':=bB aX ht;obtain⟨htl,J⟩:=aL2 t (Ag ht);have J:=LD.of J;have hxl:l.length-j9≤l.length-A:=by rcases U with⟨_,_⟩ | ⟨_,_,_⟩<;>omega
   have hkw:(aQy.map aX).length=6:=rfl;have B:=g.1;have E:=g.le;obtain⟨hi1,rfl⟩:=hx.pos (by decide);refine⟨[40]++s1++[32,58,32]++t++[41],j9,⟨by simp only[η,Aa,length_nil];omega,(((((LQ.of rfl).appD g.2).app ⟨_,_,rfl,rfl⟩ (LQ.of rfl)).appD J).app ⟨_,_,rfl,rfl⟩ (LQ.of rfl)).d⟩,hj9,?_⟩;refine bF (n:=123) tok Tryz.func23 rfl rfl rfl ?_;refine sg rfl (aA (sg rfl (aB rfl (fun hb=>Bool.noConfusion (hb.symm.trans d4)) (fun _=>aD (aA (sk 1 rfl (kc hc ?_)))))));refine az (aE (aA (sg rfl (aB rfl (fun hb=>Bool.noConfusion hb) (fun _=>sg rfl (aB rfl (fun hb=>Bool.noConfusion hb) (fun _=>ag [] rfl (aB rfl (fun hb=>Bool.noConfusion hb) (fun _=>aA (sg rfl (aB rfl (fun hb=>Bool.noConfusion hb) (fun _=>ag [] rfl (aB rfl (fun hb=>Bool.noConfusion hb) (fun _=>sg rfl (aB rfl (fun hb=>Bool.noConfusion hb) (fun _=>sg rfl (aB rfl (fun hb=>Bool.noConfusion hb) (fun _=>sg rfl (aB rfl (fun hb=>Bool.noConfusion hb) (fun _=>sg rfl (aB rfl (fun _=>aA (aC mixed (akN 3 [] rfl (kc u ?_)))) (fun hb=>Bool.noConfusion hb))))))))))))))))))))));refine ak 4 [(6,.all)] rfl (kc hcn ?_);exact ak 5 [(9,.row w (aX t))] rfl (az (aF rtT))
  | 9,_,hx,hc=>
   obtain⟨s1,A,g,q,u⟩:=O j (deep+1) M (by omega);have B:=g.1;have E:=g.le;obtain⟨hi1,rfl⟩:=hx.pos (by decide);refine⟨[97,100,100,32,40]++s1++[41,32,49],A,⟨by simp only[η,Aa,length_nil];omega,(((LQ.of rfl).appD g.2).appD ⟨_,_,rfl,rfl⟩ (LD.of rfl))⟩,q,?_⟩;refine bF (n:=123) tok Tryz.func23 rfl rfl rfl ?_;refine sg rfl (aA (sg rfl (aB rfl (fun hb=>Bool.noConfusion (hb.symm.trans d4)) (fun _=>aD (aA (sk 1 rfl (kc hc ?_)))))));refine az (aE (aA (sg rfl (aB rfl (fun hb=>Bool.noConfusion hb) (fun _=>sg rfl (aB rfl (fun hb=>Bool.noConfusion hb) (fun _=>ag [] rfl (aB rfl (fun hb=>Bool.noConfusion hb) (fun _=>aA (sg rfl (aB rfl (fun hb=>Bool.noConfusion hb) (fun _=>ag [] rfl (aB rfl (fun hb=>Bool.noConfusion hb) (fun _=>sg rfl (aB rfl (fun hb=>Bool.noConfusion hb) (fun _=>sg rfl (aB rfl (fun hb=>Bool.noConfusion hb) (fun _=>sg rfl (aB rfl (fun hb=>Bool.noConfusion hb) (fun _=>sg rfl (aB rfl (fun hb=>Bool.noConfusion hb) (fun _=>aD (aA (aC mixed (akN 3 [] rfl (kc u ?_))))))))))))))))))))))))));exact kz 3 rfl (aF rtT)
theorem vR (l:List Int) (hl:aQ2 l) (g:Fits l):∃s:Str,s.length≤4000∧aV Tryz.prog 6 [.one (.c (.sl 1 (l.map yA)))] [] (Go.AM.T s) []:=by
 have ho:=aXc l 40 g (by decide);obtain⟨s,j,hs,_,hc⟩:=aS9 (l.take 40) (fun x hx=>hl x (B9 hx)) (by rw[Aj];omega) 5 0 0 (Ad _) rfl;have q:(l.take 40).length≤40:=by rw[Aj];omega
 have hle:=hs.le;refine⟨s,by omega,?_⟩;refine bF (n:=6) tok Tryz.func6 rfl rfl rfl ?_;refine sg rfl (sk 1 rfl (kc ho ?_));refine kc hc ?_;exact kz 1 rfl (aF rtT)
theorem aF4 (e:Ex):(frR e).length≤exM e:=by
 have h1:=aGi ((tdE e []).map Ex.name) [];have h2:=aD9 e [];rw[χ,length_nil,Ba] at h1;exact le_trans h1 h2
def nm4:List Str:=[[120],[102],[105,100],[121]]
theorem aOq (n:Int):∃(i:Nat) (s:Str),nY n 4=(i:Int)∧i<4∧(nm4.map aX)[i]?=some (aX s):=by
 obtain⟨h1,h2⟩:=wV n (k:=4) (by decide);obtain⟨i,hi⟩:=Int.eq_ofNat_of_zero_le h1;have g:i<4:=by omega
 obtain⟨s,hs⟩:=aM (l:=nm4) (k:=i) g;exact⟨i,s,hi,g,bB aX hs⟩
def aDt (s:Str) (a:Ex):Ex:=.mk 5 0 0 [] [a] [.mk 2 0 0 s []] [] iJ
def aDv (a b:Ex):Ex:=.mk 4 0 0 [] [a,b] [] [] iJ
theorem aO4 {s:Str}{a:Ex}(h:iX a):iX (aDt s a):=⟨⟨by show 1≤4002;decide,by show 1≤_;decide,Ad _⟩,.z,⟨fun h=>by omega,fun _=>rfl,fun h=>by omega⟩,⟨⟨Ad _,trivial⟩,trivial⟩,⟨h,trivial⟩,trivial⟩
theorem aQw {a b:Ex}(ha:iX a) (hb:iX b):iX (aDv a b):=⟨⟨by show 2≤4002;decide,Ad _,Ad _⟩,.z,⟨fun _=>rfl,fun h=>by omega,fun h=>by omega⟩,trivial,⟨ha,hb,trivial⟩,trivial⟩
theorem aSn (s:Str) (a:Ex):exM (aDt s a)≤exM a+10:=by
 unfold aDt;rw[exM,vK,vK,aBk,jT,jT,psz,jT,length_nil];omega
theorem aUm (a b:Ex):exM (aDv a b)≤exM a+exM b+10:=by
 unfold aDv;rw[exM,vK,vK,vK,aBk,jT,length_nil];omega
def lsR (s:Str) (l:List Str):List Str:=l.filter (fun y=>decide (¬y=s))
def btR (a l:List Str):List Str:=l.filter (fun y=>decide (¬y∈a))
theorem aF7 {q:Str→Bool}{l:List Str}{i:Nat}{x:Str}(h:l[i]?=some x) (hq:q x=true):(l.take (i+1)).filter q=(l.take i).filter q++[x]:=by
 rw[dF h,Bv,Bo hq,Ci]
theorem aM1 {q:Str→Bool}{l:List Str}{i:Nat}{x:Str}(h:l[i]?=some x) (hq:q x=false):(l.take (i+1)).filter q=(l.take i).filter q:=by
 rw[dF h,Bv,Bn (by rw[hq];exact ω),Ci,A0]
theorem aF8 {q:Str→Bool}{l:List Str}{i:Nat}:((l.take i).filter q).length≤l.length:=le_trans (length_filter_le _ _) (by rw[Aj];omega)
theorem qJ (l k:List Int) (n:Int) (hl:aQ2 l) (hf:Fits l) (hl':aQ2 k) (hf':Fits k) (hn:i64 n):aV Tryz.prog 4 [.one (.c (.sl 1 (l.map yA))),.one (.c (.sl 1 (k.map yA))),I .i64 n] [] (B true) []:=by
 obtain⟨s,_,hs⟩:=vR l hl hf;obtain⟨t,_,ht⟩:=vR k hl' hf';have hE:=aNc s;have hP:=aNc t;obtain⟨o1,o2,o3⟩:=aM4 s;obtain⟨p1,p2,p3⟩:=aM4 t;generalize aIq s=x at *;obtain⟨a,a1,a2⟩:=x;generalize aIq t=y at *;obtain⟨b,b1,b2⟩:=y;dsimp only at *;obtain⟨i4,g,hi4,hlt4,hnm⟩:=aOq n;have U:=aBe n 4 hn (by decide);rw[hi4] at U;have hF:=nI a o1 (by omega);have hG:=nI b p1 (by omega);have m1:=aSn g a;have m2:=aUm a b;have hL:=nI (aDt g a) (aO4 o1) (by omega);have hA:=nI (aDv a b) (aQw o1 p1) (by omega);have n1:=aF4 a;have n2:=aF4 b;rw[show frR (aDt g a)=lsR g (frR a) from aS2 a 0 0 [] g _ iJ rfl] at hL;rw[show frR (aDv a b)=frR a++btR (frR a) (frR b) from aS3 a b 0 0 [] iJ] at hA;have q1:(lsR g (frR a)).length≤(frR a).length:=length_filter_le _ _;have q2:(btR (frR a) (frR b)).length≤(frR b).length:=length_filter_le _ _;have e1:=pS (lsR g (frR a)) (lsR g (frR a)) (by omega);have e2:=pS (frR a++btR (frR a) (frR b)) (frR a++btR (frR a) (frR b)) (by rw[η];omega);rw[φ rfl] at e1 e2;have hv:=aKx;refine bF (n:=106) tok Tryz.func4 rfl rfl rfl ?_;refine sg rfl (sk 1 rfl (kc hs ?_));refine kc hE ?_;refine kz 7 rfl (sk 1 rfl (kc ht ?_));refine kc hP ?_;refine kz 7 rfl (skh 2 [(0,.all)] rfl (kc U ?_));refine ak 3 [(3,.row i4 (aX g))] rfl (az (sgh [(2,.id 700),(4,.all)] rfl (AWp.sub (aw 700 [[.int .i64 2,.int .i64 0,.int .i64 0,.str g,.sl 10 [],.int .i64 0,.int .i64 0,.str [],.sl 4 [],.sl 4 []]]) ?_)));refine AWp.sub (Sub.freeze (id:=700) rfl) ?_;refine AWp.sub (Sub.varPure (x:=12) (cs:=bC (aDt g a)) rfl (.c .refl (.c .refl (.c .refl (.c .refl (.c .refl (.hs rfl rfl rfl (.c .nl (.c .nl (.c .nl (.c .nl (.c .refl (.c .refl (.c .refl (.c .nl (.c .nl .nil)))))))))))))))) ?_;refine sgh [(2,.all)] rfl (AWp.sub (Sub.varPure (x:=13) (cs:=bC (aDv a b)) rfl (.c .refl (.c .refl (.c .refl (.c .refl (.c .refl (.c .nl (.c .nl (.c .nl (.c .nl (.c .nl (.c .refl (.c .refl (.c .refl (.c .nl (.c .nl .nil)))))))))))))))) ?_);refine AWp.sub (st2:=mk [(7,.one (.vp 7 0)),(9,.one (.vp 9 0)),(11,Go.AM.T g),(12,.one (.vp 12 0)),(13,.one (.vp 13 0))] [(7,.var 35 ((bC a).map .c)),(9,.var 35 ((bC b).map .c)),(12,.var 35 ((bC (aDt g a)).map .c)),(13,.var 35 ((bC (aDv a b)).map .c))]) sl ?_;refine sk 1 rfl (kc hF ?_);refine kz 1 rfl (sk 1 rfl (kc hG ?_));refine kz 1 rfl ?_;generalize frR a=A at *;generalize frR b=D at *;have Y:(A.map aX).length=A.length:=χ _;have aa:(D.map aX).length=D.length:=χ _;refine sg rfl (AWp.sub (Sub.own (t:=16) (id:=650) 9 1 rfl rfl) ?_);refine aA (sg rfl (aE (aL (fun i:Nat=>mk [(11,Go.AM.T g),(12,.one (.vp 12 0)),(13,.one (.vp 13 0)),(14,bJ A),(15,bJ D),(16,.one (.hs 650 0 ((lsR g (A.take i)).map aX).length ((lsR g (A.take i)).map aX).length)),(17,I .i64 (i:Nat))] [(12,.var 35 ((bC (aDt g a)).map .c)),(13,.var 35 ((bC (aDv a b)).map .c)),(650,.arr 9 1 ((lsR g (A.take i)).map aX) 0)]) (fun i=>i≤A.length) (fun i=>A.length-i) 0 (Ad _) sl ?_)))
 ·intro i hi;refine aA (sg rfl (aB rfl (fun hb=>?_) (fun hb=>?_)))
  ·have E:i<A.length:=ltD hb Y;obtain⟨x,hx⟩:=aM E;have hx':=bB aX hx;have M:((lsR g (A.take i)).map aX).length≤A.length:=by rw[χ];exact aF8
   refine aD (aA (aE (sgh [(2,.row i (aX x))] rfl ?_)));by_cases u:x=g
   ·have d:(!decide (x=g))=false:=by rw[φ u];rfl
    have J:lsR g (A.take (i+1))=lsR g (A.take i):=aM1 hx (ψ (fun k=>k u));exact aB rfl (fun hb=>Bool.noConfusion (hb.symm.trans d)) (fun _=>aD (agN [] rfl ⟨i+1,E,by dsimp only;omega,by dsimp only;rw[J];exact sl⟩))
   ·have d:(!decide (x=g))=true:=by rw[ψ u];rfl
    have J:lsR g (A.take (i+1))=lsR g (A.take i)++[x]:=aF7 hx (φ u);have q:((lsR g (A.take i)).map aX)++[[.str x]]=(lsR g (A.take (i+1))).map aX:=by rw[J,Ai];rfl
    have hle:((lsR g (A.take (i+1))).map aX).length=((lsR g (A.take i)).map aX).length+1:=by rw[←q,η];rfl
    generalize (lsR g (A.take i)).map aX=R at q hle M ⊢;exact aB rfl (fun _=>ag [(3,.row i (aX x)),(5,.all)] rfl (agN [] rfl ⟨i+1,E,by dsimp only;omega,sl (he:=⟨rfl,rfl,rfl,rfl,rfl,Go.AM.hs_ren (by rw[hle];rfl) (by rw[hle];rfl),rfl,trivial⟩) (hh:=⟨⟨_,rfl,.var rfl⟩,⟨_,rfl,.var rfl⟩,⟨_,rfl,.arrS q⟩,trivial⟩)⟩)) (fun hb=>Bool.noConfusion (hb.symm.trans d))
  ·have O:i=A.length:=geD hb Y hi;subst O;refine aG ?_;rw[Ao];refine AWp.sub (Sub.freeze (id:=650) rfl) ?_;refine AWp.sub (st2:=mk [(12,.one (.vp 12 0)),(13,.one (.vp 13 0)),(14,bJ A),(15,bJ D),(16,bJ (lsR g A))] [(12,.var 35 ((bC (aDt g a)).map .c)),(13,.var 35 ((bC (aDv a b)).map .c))]) ?_ ?_
   ·refine Sub.trans ?_ (cv 16 ((lsR g A).map aX));exact sl
   refine sg rfl (AWp.sub (Sub.own (t:=18) (id:=660) 9 1 rfl rfl) ?_);refine sg rfl (aA (sg rfl (AWp.sub (st2:=mk [(12,.one (.vp 12 0)),(13,.one (.vp 13 0)),(14,bJ A),(15,bJ D),(16,bJ (lsR g A)),(18,.one (.hs 660 0 ((A++btR A (D.take 0)).map aX).length ((A++btR A (D.take 0)).map aX).length)),(19,I .i64 ((0:Nat):Int))] [(12,.var 35 ((bC (aDt g a)).map .c)),(13,.var 35 ((bC (aDv a b)).map .c)),(660,.arr 9 1 ((A++btR A (D.take 0)).map aX) 0)]) (by rw[show A++btR A (D.take 0)=A from A0 A];exact sl) ?_)));refine aE (aL (fun i:Nat=>mk [(12,.one (.vp 12 0)),(13,.one (.vp 13 0)),(14,bJ A),(15,bJ D),(16,bJ (lsR g A)),(18,.one (.hs 660 0 ((A++btR A (D.take i)).map aX).length ((A++btR A (D.take i)).map aX).length)),(19,I .i64 (i:Nat))] [(12,.var 35 ((bC (aDt g a)).map .c)),(13,.var 35 ((bC (aDv a b)).map .c)),(660,.arr 9 1 ((A++btR A (D.take i)).map aX) 0)]) (fun i=>i≤D.length) (fun i=>D.length-i) 0 (Ad _) sl ?_);intro i hi;refine aA (sg rfl (aB rfl (fun hb=>?_) (fun hb=>?_)))
   ·have E:i<D.length:=ltD hb aa;obtain⟨x,hx⟩:=aM E;have hx':=bB aX hx;have M:((A++btR A (D.take i)).map aX).length≤A.length+D.length:=by rw[χ,η];exact Nat.add_le_add_left aF8 _
    have hh:=aG9 A x (by unfold Fits;omega);refine aD (aA (aE (skh 5 [(3,.row i (aX x))] rfl (kc hh ?_))));refine kz 1 rfl ?_;by_cases u:x∈A
    ·have d:(!decide (x∈A))=false:=by rw[φ u];rfl
     have J:btR A (D.take (i+1))=btR A (D.take i):=aM1 hx (ψ (fun k=>k u));exact aB rfl (fun hb=>Bool.noConfusion (hb.symm.trans d)) (fun _=>aD (agN [] rfl ⟨i+1,E,by dsimp only;omega,by dsimp only;rw[J];exact sl⟩))
    ·have d:(!decide (x∈A))=true:=by rw[ψ u];rfl
     have J:A++btR A (D.take (i+1))=A++btR A (D.take i)++[x]:=by rw[show btR A (D.take (i+1))=btR A (D.take i)++[x] from aF7 hx (φ u),An]
     have q:((A++btR A (D.take i)).map aX)++[[.str x]]=(A++btR A (D.take (i+1))).map aX:=by rw[J,Ai (l₂:=[x])];rfl
     have hle:((A++btR A (D.take (i+1))).map aX).length=((A++btR A (D.take i)).map aX).length+1:=by rw[←q,η];rfl
     generalize (A++btR A (D.take i)).map aX=R at q hle M ⊢;exact aB rfl (fun _=>ag [(3,.row i (aX x)),(5,.all)] rfl (agN [] rfl ⟨i+1,E,by dsimp only;omega,sl (he:=⟨rfl,rfl,rfl,rfl,rfl,Go.AM.hs_ren (by rw[hle];rfl) (by rw[hle];rfl),rfl,trivial⟩) (hh:=⟨⟨_,rfl,.var rfl⟩,⟨_,rfl,.var rfl⟩,⟨_,rfl,.arrS q⟩,trivial⟩)⟩)) (fun hb=>Bool.noConfusion (hb.symm.trans d))
   ·have O:i=D.length:=geD hb aa hi;subst O;refine aG ?_;rw[Ao];refine AWp.sub (Sub.freeze (id:=660) rfl) ?_;refine AWp.sub (st2:=mk [(12,.one (.vp 12 0)),(13,.one (.vp 13 0)),(16,bJ (lsR g A)),(18,bJ (A++btR A D))] [(12,.var 35 ((bC (aDt g a)).map .c)),(13,.var 35 ((bC (aDv a b)).map .c))]) ?_ ?_
    ·refine Sub.trans ?_ (cv 18 ((A++btR A D).map aX));exact sl
    refine sk 1 rfl (kc hL ?_);refine ak 1 [] rfl (kc e1 ?_);refine ak 2 [(4,.bv true)] rfl (kcG hA ?_);refine ak 1 [(4,.bv true)] rfl (kcG e2 ?_);refine ak 2 [(4,.bv true),(9,.bv true),(10,.bv true)] rfl (kcG hv ?_);exact ak 2 [(10,.bv true),(12,.bv true)] rfl (az (aF rtT))
end Go.Proofs.YtkhgpgihmphfdaaGreat
namespace Go.Proofs.YtkhgpgihmphfdaaGreat
open Go Go.ChangeShapes Go.WideShapes Go.ChangeAt Go.RowKit Go.AM
theorem Tryz.own:ownKnob Tryz.prog.godebug=none:=by kernel_rfl
theorem Tryz.laidOut:laidOutB Tryz.prog=true:=by kernel_rfl
theorem aSw {n:Int}(h:(Lit.int .i64 n).wf=true):i64 n:=by
 simp only[Lit.wf,ε,As] at h;exact h
set_option maxRecDepth 100000 in
theorem lG (os:Os) (started:os.Started) (H:Type) (enc:TypeId×Value→H):
  ReturnsInHanded {} Tryz.checked os 4 .any (Rows.scopeLambdasSpec.pre6 enc Tryz.prog Tryz.f4 Rows.scopeLambdasRow.domain false) (Rows.scopeLambdasSpec.post enc Tryz.prog Tryz.f4 false true false false):=by
 refine returnsInHanded_of_change_sized (C:=Tryz.checked) Tryz.own started (by kernel_rfl) Tryz.func4
  (ChangeSpec.witness6 (enc:=enc) (C:=Tryz.checked) false ⟨#[], #[.slice none 0 0,.slice none 0 0,.int .i64 0],[]⟩ 8 (by kernel_rfl) (by kernel_rfl) (by kernel_rfl) (by kernel_rfl)) ?_
 intro W base args ds gs before u hW hcnd hwt _
 have g:∀(j:Nat) t v,Tryz.f4.params[j]?=some t→args[j]?=some v→Value.okWide Tryz.prog W .any base t v:=u
 have y:=hW
 obtain⟨p,q,M,hV,rfl,hfz,hnd⟩:=hW
 have hA:DataW.TrodAll enc Tryz.prog W 0 (fun _=>true) true Tryz.f4.params.toList args.toList ds p:=M
 rw[Tryz.params4] at hA g
 obtain⟨v0,v1,v2,d0,d1,d2,p0,p1,p2,rfl,rfl,rfl,h0,h1,h2⟩:=trodAll_three hA
 obtain⟨rfl,rfl⟩:=trodVars_none hV
 obtain⟨l0,I,hr0,xl0,yl0,hd0⟩:=qX Tryz.underlying22 Tryz.underlying3 (by kernel_rfl) (g 0 22 v0 rfl rfl) h0
 obtain⟨l1,J,hr1,xl1,yl1,hd1⟩:=qX Tryz.underlying22 Tryz.underlying3 (by kernel_rfl) (g 1 22 v1 rfl rfl) h1
 obtain⟨O,rfl,rfl,rfl,w2⟩:=open_int Tryz.underlying3 (g 2 3 v2 rfl rfl) h2
 clear M u
 simp only[A0] at y
 have U:∀x∈p0,x.block<W.heap.size:=fun x hx=>by simpa using y.lt x (Ay.2 (.inl hx))
 have Y:∀x∈p1,x.block<W.heap.size:=fun x hx=>by simpa using y.lt x (Ay.2 (.inr (hx)))
 have A:(DataW.weightsEach Tryz.prog (Tryz.f4.params.toList++Rows.scopeLambdasSpec.plain.varTypes Tryz.prog) ([d0,d1,.lit (.int .i64 O)]++[])).all (· ≤reachBytes)=true:=hwt
 have hf0:Fits l0:=by
  unfold Fits
  rcases hd0 with⟨_,B⟩ | ⟨rfl,B⟩
  ·rw[B];simp
  ·have:=sized_slice A (j:=0) (t:=22) (e:=3) rfl rfl Tryz.underlying22
   rw[show Tryz.prog.bytesOf 3=8 by kernel_rfl] at this
   have hb:=reachBytes_lt
   omega
 have hf1:Fits l1:=by
  unfold Fits
  rcases hd1 with⟨_,B⟩ | ⟨rfl,B⟩
  ·rw[B];simp
  ·have:=sized_slice A (j:=1) (t:=22) (e:=3) rfl rfl Tryz.underlying22
   rw[show Tryz.prog.bytesOf 3=8 by kernel_rfl] at this
   have hb:=reachBytes_lt
   omega
 refine(aFx (qJ l0 l1 O hr0 hf0 hr1 hf1 (aSw w2)) W (vals:=[v0,v1,.int .i64 O]) ⟨_,_,rfl,I,⟨_,_,rfl,J,⟨_,_,rfl,rfl,rfl⟩⟩⟩).mono fun e W' ⟨v,S,μ,he,E,hv⟩=>?_
 subst he
 rw[aQl hv]
 have hp0:=Below.trod Tryz.laidOut (by kernel_rfl) (κ (by kernel_rfl)) h0 E U
 have hp1:=Below.trod Tryz.laidOut (by kernel_rfl) (κ (by kernel_rfl)) h1 E Y
 exact⟨_,rfl,⟨_,_,_,[],_,[],y,trodAll_mk1 (shut_bool Tryz.underlying4 true),trodAll_mk3 hp0 hp1 (shut_int Tryz.underlying3 w2),rfl,E.frame _,fun h=>by cases h⟩⟩
theorem scopeLambdas_holds:Rows.ScopeLambdasSaid:=
 OpenClaim.holds_of_wide 4 Tryz.f4 rfl rfl rfl rfl rfl rfl rfl ⟨rfl,rfl,rfl,rfl,rfl⟩ rfl rfl rfl rfl rfl (by kernel_rfl) Tryz.func4 (by kernel_rfl)
  (κ (by kernel_rfl)) (by unfold Func.isWrapper;first | (rw[θ (by decide+kernel)];kernel_rfl) | (rw[ξ (by decide+kernel)];exact⟨rfl,rfl⟩))
  (fun os started H enc _=>lG os started H enc)
end Go.Proofs.YtkhgpgihmphfdaaGreat
