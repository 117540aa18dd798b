/-
  Texts Rd62 to Pr4 in one.
-/
import Derived.Test.YtpmheldmadendaaGreatDoorM12
open List (append_assoc append_nil cons_append drop_drop drop_eq_getElem_cons drop_length drop_take drop_zero filter_cons filter_eq_self flatten_append flatten_cons length_append length_cons length_drop length_map length_nil length_replicate length_set length_take map_append map_cons map_nil map_set map_toArray mem_append mem_cons mem_cons_of_mem mem_cons_self mem_of_mem_take mem_singleton nil_append replicate_succ take_add_one take_append_drop take_left' take_length take_of_length_le take_succ_cons take_take take_zero)
open Nat (add_zero le_refl le_trans lt_succ_self mul_le_mul_right mul_one sub_self sub_zero succ_pos zero_add zero_le zero_mul)
namespace Go.Proofs.YtpmheldmadendaaGreatDoor
open Go Go.AM
set_option maxRecDepth 20000
set_option maxHeartbeats 4000000
def iI:AObj:=.var 29 [.c .nl,.c .nl,.c .nl,.c .nl]
def pgO (p:Pg):AObj:=.var 29 ((mI p).map .c)
theorem aQr {L:List Tk}{z c:Z}{p:Pg}(h:b8 Tryz.prog 37 [rP] [(600,rO L z)] (.pa (mI p)) [(600,rO L c)]):b8 Tryz.prog 36 ([rP]++[R.vp 9 0].map V.one) [(600,rO L z),(9,iI)] (.tup []) [(600,rO L c),(9,pgO p)]:=by
 refine bM (n:=5) tok Tryz.func36 rfl rfl rfl ?_;refine aC mixed (ak 1 [] rfl (kc h ?_));exact kz 1 rfl rtN
theorem aNc {L:List Tk}{z:Z}{v:Value}(h:aA8 Tryz.prog 37 [rP] [(600,rO L z)] v) (S:Sto) (μ:Mu) (w:World) (vals:List Value) (y:Go.AM.Inv ⟨w,S,hH μ (Go.AM.look [(600,rO L z),(9,iI)]),μ,Go.AM.look [(600,rO L z),(9,iI)]⟩ S μ (Go.AM.look [(600,rO L z),(9,iI)]) w)
  (A:aU S μ (Go.AM.look [(600,rO L z),(9,iI)]) ([rP]++[R.vp 9 0].map V.one) vals):Calls Tryz.prog 36 ⟨vals⟩ w fun e w'=>∃S' μ' hout,e=.panicked [{ v:=v,recovered:=false }]∧(∀id o,Go.AM.look hout id=some o→∃o',Go.AM.look [(600,rO L z),(9,iI)] id=some o')∧(∃x,hout=[(600,x),(9,iI)])∧Go.AM.Inv ⟨w,S,hH μ (Go.AM.look [(600,rO L z),(9,iI)]),μ,Go.AM.look [(600,rO L z),(9,iI)]⟩ S' μ' (Go.AM.look hout) w':=by
 refine(Go.AM.Wd.calls (ro:=none) (n:=0)).1 (callsIn_of_wp_defers Tryz.func36 rfl trivial ?_);have q:=aDj (n:=5) (k:=(Tryz.f36).ntmps) rfl rfl y A;refine wpIn_mono (oU.wp mixed (aS4 (v:=v) [(600,rO L z)] [(0,rP)] q rfl ⟨rfl,trivial⟩ rfl ⟨rfl,trivial⟩ rfl rfl rfl ?_)) ?_
 ·exact ak 1 [] rfl (kp h (hq:=rfl))
 rintro e r w' ⟨rfl,B,_,S',E,hout,u,c,I⟩;show LeavesIn _ _ _ _ r.tmps _ r.defers (.panicking _) w';rw[B];have J:Go.AM.look hout 9=none:=by
  cases hl:Go.AM.look hout 9 with
  | none=>rfl
  | some o=>obtain⟨o',ho⟩:=u 9 o hl;cases ho
 have hx:∃x,gO (mk (wG 0 ([rP]++[R.vp 9 0].map V.one)) [(600,rO L z),(9,iI)]).h (outs hout)=Go.AM.look [(600,x),(9,iI)]:=by
  refine⟨(Go.AM.look hout 600).getD (rO L z),funext fun id=>?_⟩;rw[fS];by_cases j:id=600
  ·subst j;cases hl:Go.AM.look hout 600 with
   | none=>rfl
   | some o=>rfl
  ·have hn:Go.AM.look hout id=none:=by
    cases hl:Go.AM.look hout id with
    | none=>rfl
    | some o=>
     obtain⟨o',ho⟩:=u id o hl;simp[Go.AM.look] at ho;exact absurd ho.1 j
   rw[hn];show Go.AM.look [(600,rO L z),(9,iI)] id=_;simp[Go.AM.look,j]
 obtain⟨x,hx⟩:=hx;rw[hx] at c;refine⟨S',E,[(600,x),(9,iI)],rfl,fun id o ho=>?_,⟨x,rfl⟩,c⟩;have hm:=b9 ho;rcases Ap.1 hm with hm | hm
 ·obtain⟨rfl,rfl⟩:=Prod.mk.inj hm;exact⟨_,rfl⟩
 ·obtain⟨rfl,rfl⟩:=Prod.mk.inj (A4.1 hm);exact⟨_,rfl⟩
theorem wK {w0:World}{S0 S:Sto}{μ0 μ:Mu}{st:St}{a:Act}{w:World}{u:Value}(c:AObj) (b:Bool) (e p:Int) (q r:FrameMode) (hok:(subset (atV e p).refs (keys [(9,c)])&&subset (fI [(9,c)]) (keys [(9,c)])&&Go.AM.distinct (keys [(9,c)])&&subset (keys [(9,iI)]) (keys [(9,c)])&&([(9,iI)].all fun p=>p.2.plain)&&([(9,c)].all fun p=>p.2.plain))=true)
  (hs:Sim ⟨w0,S0,hH μ0 (Go.AM.look [(9,iI)]),μ0,Go.AM.look [(9,iI)]⟩ 38 S μ st a w) (hd:st.d=[]) (B:st.e 4=some (.one (.vp 4 0))) (M:st.e 17=some (.one (.clo 80 [.vp 4 0]))) (O:st.h 4=some (atO 0 0)) (U:st.h 9=some c) (Y:Ole (fun i=>i) c c)
  (hk:Kp 17 (.func (.func 80) #[] ⟨[u]⟩) a)
  (hu:∀(y:Frame) (cs:List Frame),y.mode=q→(b=true∧recoverD (y::cs)=some (rF e p,{ y with mode:=r }::cs))∨(b=false∧recoverD (y::cs)=none∧r=q∧e=0∧p=0)) (E:q≠ .run) (I:settle r=.returning):
  LeavesIn (Wd none) 0 Tryz.prog Tryz.f35 a.tmps (fun en w'=>∃S' μ' v,en=.returned v∧Go.AM.Inv ⟨w0,S0,hH μ0 (Go.AM.look [(9,iI)]),μ0,Go.AM.look [(9,iI)]⟩ S' μ' (Go.AM.look [(9,c)]) w'∧aO S' μ' (Go.AM.look [(9,c)]) (atV e p) v) (qA a [{ target:=.fn (.func 80) ⟨[u]⟩,args:= #[] }]).defers q w:=by
 have hda:a.defers=[]:=by have:=hs.defers;rw[hd] at this;exact this
 show LeavesIn _ _ _ _ _ _ (a.defers++_) _ _;rw[hda,Br];have hh:∀id o,Go.AM.look [(4,atO 0 0)] id=some o→st.h id=some o∧o≠ .dead:=by
  intro id o ho;obtain⟨rfl,rfl⟩:=Prod.mk.inj (A4.1 (b9 ho));exact⟨O,fun k=>by cases k⟩
 have hI:=hs.inv.hand hh rfl;have A:∀i∈keys [(4,atO 0 0)],Go.AM.Good st.h (Go.AM.look [(4,atO 0 0)]) (fun i=>i) i:=by
  intro i hi;obtain⟨o,ho⟩:=cE hi;obtain⟨h1,h2⟩:=hh i o ho;exact⟨o,o,h1,ho,.refl_id h2⟩
 have j:=hs.env 17 _ M;have hk':a.tmps.getD 17 undef=.func (.func 80) #[] ⟨[u]⟩:=hk;rw[hk'] at j;have hvu:aU S μ st.h [.one (.vp 4 0)] [u]:=by
  simp only[aO,aT,aP] at j;obtain⟨vs,h1,v,vs',h2,h3,B⟩:=j;subst B h2;cases h1;simp only[aU,aO];exact⟨_,_,rfl,h3,rfl⟩
 have J:aU S μ (Go.AM.look [(4,atO 0 0)]) [.one (.vp 4 0)] [u]:=by
  have:=aU.ren (H:=st.h) (H':=Go.AM.look [(4,atO 0 0)]) (σ:=fun i=>i) [.one (.vp 4 0)] [u] (fun i hi=>A i (by simpa [V.refsL,V.refs,R.refs,keys] using hi)) (by rw[V.renL_id];exact hvu);exact this
 have hb1:gL Tryz.prog 80:=aGe (by kernel_rfl);have hi:(invoke (.fn (.func 80) ⟨[u]⟩) #[]).run Tryz.prog w=.ok (.enter 80 ⟨[u]⟩) w:=by
  simp only[invoke];rw[dU hb1];simp
 refine leavesIn_cons E (fun h=>by simp[Go.AM.Wd] at h) hi (fun _ _=>trivial) (CallsDIn.mono (aP4 b e p _ hI J q r hu) ?_);rintro en u' w' ⟨⟨v,rfl⟩,rfl,S',μ',hI6⟩;dsimp only;rw[I];obtain⟨μ2,q1,q2,q3,q4⟩:=hs.inv.back (hin:=[(4,atO 0 0)]) (hout:=[(4,atO e p)]) (fun id o ho=>(hh id o ho).1) (fun id o ho=>.inl (by obtain⟨rfl,_⟩:=Prod.mk.inj (A4.1 (b9 ho));exact⟨_,rfl⟩)) hI6;have hs6:Sim ⟨w0,S0,hH μ0 (Go.AM.look [(9,iI)]),μ0,Go.AM.look [(9,iI)]⟩ 38 S' μ2 ⟨st.e,gO st.h (outs [(4,atO e p)]),st.d⟩ a w':=⟨q2,hs.size,hs.defers.evolve q3,fun t v e=>aO.evolve q3 v _ (hs.env t v e)⟩
 have g4:gO st.h (outs [(4,atO e p)]) 4=some (atO e p):=by rw[fS];rfl
 have g9:gO st.h (outs [(4,atO e p)]) 9=some c:=by rw[fS];exact U
 have hf:Fin tr.flat Tryz.f35 ⟨st.e,gO st.h (outs [(4,atO e p)]),st.d⟩ [(9,iI)] (atV e p) [(9,c)]:=(rtC (fn:=Tryz.f35) (st:=⟨st.e,gO st.h (outs [(4,atO e p)]),st.d⟩) (hin:=[(9,iI)]) (hout:=[(9,c)]) (res:=atV e p) trw (ha:=B) (hh:=g4) (ho:=⟨⟨_,g9,Y⟩,trivial⟩) (hok:=hok)).2
 obtain⟨v2,k1,k2,k3⟩:=aFb (fn:=Tryz.f35) tok hs6 hf;exact⟨v2,k1,_,_,_,rfl,k2,k3⟩
section
variable {m:Nat}{P:Program}{ops:Array Oper}{Q:Exit→Act→World→Prop}{i:Nat}{a:Act}{w:World}{o:Oper}{K:Act→World→Prop}
theorem aLm {x:Operand}{ts:Array TypeId}{f:FuncId}{caps:Array Value}(ho:ops[i]?=some o) (j:o.guard=none) (c:o.op=.defer { callee:=.value x,args:= #[],argTypes:=ts }) (q:o.dst=none) (hx:a.eval x=.func (.func f) #[] caps)
  (r:K ⟨a.tmps,{ target:=.fn (.func f) caps,args:= #[] }::a.defers⟩ w):wpOpIn (Go.AM.Wd none) m P ops Q i K a w:=by
 unfold wpOpIn;simp only[ho];rw[θ (by simp[Region.wanted,j])];refine⟨fun _ _=>trivial,?_⟩;have u:(o.semAt none a.eval).run P w=.ok (.defer { target:=.fn (.func f) caps,args:= #[] }) w:=by
  rw[Oper.semAt_none];simp[execOp,c,resolve,hx,Deferred.ofValue,Aa]
 show o.uponIn (Go.AM.Wd none) m P a K Q ((o.semAt none a.eval).run P w);rw[u,Oper.uponIn_defer,q];exact r
theorem aBv (ho:ops[i]?=some o) (c:o.guard=none) (h:o.wpIn (Go.AM.Wd none) m P a w K Q):wpOpIn (Go.AM.Wd none) m P ops Q i K a w:=by
 unfold wpOpIn;simp only[ho];rw[θ (by simp[Region.wanted,c])];exact h
end
theorem aCe (s:Str) (l:List Tk) (B:b8 Tryz.prog 79 [Go.AM.T s] [] (.tup [.one (.c (.sl 4 (l.map aG))),atV 0 0]) []) (pg:Pg) (j:Z) (hA:ZA l j) (y:bB Tryz.prog 37 [rP] [(600,rO l ⟨l,0,0⟩)] (fL l (.pa (mI pg)) j [])):
  b8 Tryz.prog 35 [Go.AM.T s,.one (.clo 36 [.vp 9 0])] [(9,iI)] (atV (n8 j).e (if(n8 j).e=0 then 0 else(n8 j).p)) [(9,if j.e=0 then pgO pg else iI)]:=by
 have er:rO l ⟨l,0,0⟩=.var 136 [.c (.sl 4 (l.map aG)),.c (.int .i64 0)]:=by unfold rO;dsimp only;rw[Cb];rfl
 unfold atV at B;intro S μ w vals hI hv;refine(Go.AM.Wd.calls (ro:=none) (n:=0)).1 (callsIn_of_wp_defers Tryz.func35 rfl trivial ?_);have hs0:=aDj (n:=38) (k:=(Tryz.f35).ntmps) rfl rfl hI hv;refine Cs (aR0 mixed hs0 ?_);refine ak 1 [(0,.id 4)] rfl (az ?_);intro S1 μ1 a1 w1 hs1;refine Cs (aR0 mixed hs1 ?_);refine ak 1 [] rfl (kc B ?_);refine kz 6 rfl ?_;intro S2 E a2 w2 hs2;refine Cs (Cs (aR0 mixed hs2 ?_));refine kz 3 rfl ?_;intro S3 μ3 a3 w3 hs3;have hb:=hs3.env 15 _ rfl;simp only[aO,aT,Rep] at hb;refine wpIn_cond (t:=false) hb ?_;refine wpIn_skip ?_;refine Cs (wpIn_region ?_);show wpOpsIn _ _ _ _ _ [0,1] _ _;rw[Bn];refine(g_ rfl rfl (qZ (l:=[.vp 4 0]) rfl rfl (iF rfl) rfl)) _ (eR.refl _ _) _ S3 μ3 a3 w3 _ _ hs3 (fun S4 μ4 a4 w4 I=>?_) none;rw[Bn];have hd4:a4.defers=[]:=I.defers;have hv4:=I.env 17 _ rfl;simp only[aO,aT,aP] at hv4;obtain⟨vs,hv5,u,vs',rfl,_,rfl⟩:=hv4;have hk4:Kp 17 (.func (.func 80) #[] ⟨[u]⟩) a4:=hv5;refine aLm rfl rfl rfl rfl hv5 ?_;have he:(⟨a4.tmps,({ target:=.fn (.func 80) ⟨[u]⟩,args:= #[] }:Deferred)::a4.defers⟩:Act)=qA a4 [{ target:=.fn (.func 80) ⟨[u]⟩,args:= #[] }]:=by unfold qA;rw[hd4];rfl
 rw[he];refine Cs (aQ9 mixed I hk4 rfl ?_);refine ak 5 [(3,.id 600)] rfl (az ?_);intro S5 μ5 a5 w5 hk5 hs5;by_cases q:j.e=0
 case neg=>
  have hp:=bB.err y q;have J:n8 j=j:=ξ fun k=>q k.1
  rw[J,ξ q,ξ q];refine Cs (oU.wp (draw:=false) mixed (oU.ext (Q:=fun e a w'=>(e=pan (rF j.e j.p)∧∃S' μ' st',Sim ⟨w,S,hH μ (Go.AM.look [(9,iI)]),μ,Go.AM.look [(9,iI)]⟩ 38 S' μ' st' a w'∧st'.d=[]∧st'.e 4=some (.one (.vp 4 0))∧st'.e 17=some (.one (.clo 80 [.vp 4 0]))∧st'.h 4=some (atO 0 0)∧st'.h 9=some iI)∧Kp 17 (.func (.func 80) #[] ⟨[u]⟩) a) ?_ (oU.kp rfl ?_ hk5 ?_)))
  ·rintro e a w' ⟨⟨rfl,S',μ',st',hs',M,h4,h17,hh4,hh9⟩,A⟩;exact wK iI true j.e j.p (.panicking [{ v:=rF j.e j.p,recovered:=false }]) (.panicking [{ v:=rF j.e j.p,recovered:=true }]) rfl hs' M h4 h17 hh4 hh9 (.var rfl) A (fun c₀ cs hc=>.inl ⟨rfl,by simp only[recoverD,hc]⟩) (fun k=>by cases k) rfl
  ·rintro⟨a,w,h,_⟩;cases h
  unfold oU;dsimp only;show wpOpsIn _ _ _ _ _ [0,1,2] _ _;rw[Bn];refine(g_ rfl rfl (aDx rfl rfl (iF rfl) rfl)) _ (eR.refl _ _) _ S5 μ5 a5 w5 _ _ hs5 (fun S6 μ6 O w6 r=>?_) none;rw[Bn];refine(g_ rfl rfl (aDx rfl rfl (iF rfl) rfl)) _ (eR.refl _ _) _ S6 μ6 O w6 _ _ r (fun S7 μ7 a7 w7 hs7=>?_) none;rw[Bn];rw[er] at hp;refine aBv rfl rfl (aP2 (v:=rF j.e j.p) (good:=fun hout=>∃x,hout=[(600,x),(9,iI)]) (args:=[rP]) (caps:=[.vp 9 0]) (f:=36) [(600,rO l ⟨l,0,0⟩),(9,iI)] (aGe (by kernel_rfl)) rfl rfl (fun S μ w vals hI hv=>aNc (by rw[er];exact hp) S μ w vals hI hv) (.cons rfl .refl .nil) ⟨by rw[er];rfl,rfl,trivial⟩ rfl hs7 ?_);rintro S' μ8 hout w' ⟨x,rfl⟩ hI8 U;exact⟨rfl,S',μ8,⟨_,_,_⟩,⟨hI8,hs7.size,hs7.defers.evolve U,fun t v e=>aO.evolve U v _ (hs7.env t v e)⟩,rfl,rfl,rfl,rfl,rfl⟩
 have y:=bB.ok y q;rw[θ q];have hP1:=aQr y;rw[er] at hP1;refine Cs (aQ9 mixed hs5 hk5 rfl ?_);refine ak 2 [] rfl (kv (args:=[rP]) hP1 ?_);refine az ?_;intro S6 μ6 O w6 Y r;have hn:=dH hA;by_cases A:(aX j).kind=6
 case neg=>
  have J:n8 j=⟨j.R,12,(aX j).pl⟩:=(θ ⟨q,A⟩).trans (θ q);have h12:¬(12:Int)=0:=by decide
  rw[J];dsimp only;rw[ξ h12];have d:decide ((aX j).kind=6)=false:=ψ A;have hmn:=bJ 12 (aX j).pl;refine Cs (oU.wp mixed (oU.ext (Q:=fun e a w'=>((e=pan (rF 12 (aX j).pl)∧a.defers=[]∧a.tmps.size=38∧∃S' E hout,(∀id o,Go.AM.look hout id=some o→∃o',Go.AM.look [(600,rO l j)] id=some o')∧Go.AM.Inv ⟨w,S,hH μ (Go.AM.look [(9,iI)]),μ,Go.AM.look [(9,iI)]⟩ S' E (gO _ (outs hout)) w'∧Evolve S6 μ6 _ S' E (gO _ (outs hout)))∧Kp 4 (O.tmps.getD 4 undef) a)∧Kp 17 (.func (.func 80) #[] ⟨[u]⟩) a) ?_ (oU.kp rfl ?_ Y (oU.kp rfl ?_ rfl (aS4 (v:=rF 12 (aX j).pl) [(600,rO l j)] [(7,rP)] r rfl ⟨rfl,trivial⟩ rfl ⟨rfl,trivial⟩ rfl rfl rfl ?_)))))
  ·rintro e a' w' ⟨⟨⟨rfl,M,hsz,S',E,hout,hkeys,hI',U⟩,hk4'⟩,aa⟩;have hno:∀id,id≠600→Go.AM.look hout id=none:=fun id h6=>by
    cases hl:Go.AM.look hout id with
    | none=>rfl
    | some o=>
     obtain⟨o',ho⟩:=hkeys id o hl;simp[Go.AM.look] at ho;exact absurd ho.1 h6
   have hs7:Sim ⟨w,S,hH μ (Go.AM.look [(9,iI)]),μ,Go.AM.look [(9,iI)]⟩ 38 S' E ⟨Go.AM.look [(4,.one (.vp 4 0)),(17,.one (.clo 80 [.vp 4 0]))],_,[]⟩ a' w':=⟨hI',hsz,M,fun t v ht=>by
    have hm:=b9 ht;rcases Ap.1 hm with hm | hm
    ·obtain⟨rfl,rfl⟩:=Prod.mk.inj hm;have h1:a'.tmps.getD 4 undef=O.tmps.getD 4 undef:=hk4';rw[h1];exact aO.evolve U _ _ (r.env 4 _ rfl)
    ·obtain⟨rfl,rfl⟩:=Prod.mk.inj (A4.1 hm);have h1:a'.tmps.getD 17 undef=O.tmps.getD 17 undef:=Eq.trans aa (Eq.symm Y);rw[h1]
     exact aO.evolve U _ _ (r.env 17 _ rfl)⟩
   exact wK (pgO pg) true 12 (aX j).pl (.panicking [{ v:=rF 12 (aX j).pl,recovered:=false }]) (.panicking [{ v:=rF 12 (aX j).pl,recovered:=true }]) rfl hs7 rfl rfl rfl ((fS _ hout 4).trans (by rw[hno 4 (by decide)];rfl)) ((fS _ hout 9).trans (by rw[hno 9 (by decide)];rfl)) (.var rfl) aa (fun c₀ cs hc=>.inl ⟨rfl,by simp only[recoverD,hc]⟩) (fun k=>by cases k) rfl
  ·rintro⟨a,w,h,_⟩;cases h.1
  ·rintro⟨a,w,h,_⟩;cases h
  refine ak 3 [] rfl (kc hn ?_);refine ak 5 [] rfl (kc hn ?_);refine ak 1 [] rfl ?_;rw[d];refine kpD (.tup []) [] hmn ?_ (hq:=rfl);exact az trivial
 have J:n8 j=j:=ξ fun k=>k.2 A
 rw[J,θ q,q];have d:decide ((aX j).kind=6)=true:=φ A;have hmo:=bI 12 (aX j).pl;refine Cs (aQ9 mixed r Y rfl ?_);refine ak 3 [] rfl (kc hn ?_);refine ak 5 [] rfl (kc hn ?_);refine ak 1 [] rfl ?_;rw[d];refine kc hmo ?_;refine az ?_;intro S7 μ7 a7 w7 hk7 hs7;refine Cs (aQ9 mixed hs7 hk7 rfl ?_);refine kz 2 rfl ?_;intro S8 μ8 a8 w8 hk8 hs8;refine wpIn_ret ?_;exact wK (pgO pg) false 0 0 .returning .returning rfl hs8 rfl rfl rfl rfl rfl (.var rfl) hk8 (fun c₀ cs hc=>.inr ⟨rfl,by simp only[recoverD,hc],rfl,rfl,rfl⟩) (fun k=>by cases k) rfl
theorem xL (s:Str) (e p:Int) (q:¬e=0) (j:b8 Tryz.prog 79 [Go.AM.T s] [] (.tup [.one (.c .nl),atV e p]) []):
  b8 Tryz.prog 35 [Go.AM.T s,.one (.clo 36 [.vp 9 0])] [(9,iI)] (atV e p) [(9,iI)]:=by
 unfold atV at j ⊢;have d0:(!decide (e=0))=true:=by rw[ψ q];rfl
 refine bM (n:=38) tok Tryz.func35 rfl rfl rfl ?_;refine sgh [(0,.id 4)] rfl (sk 1 rfl (kc j ?_));exact kz 6 rfl (aA (sg rfl (aB rfl (fun _=>sg rfl (aE (rtC trw))) (fun hb=>absurd (hb.symm.trans d0) Bool.noConfusion))))
theorem aI4 (hX:wC) (s:Str) (c:b8 Tryz.prog 79 [Go.AM.T s] [] (aC1 (oB s)) []) (hC:aNu (cL s).1 (cL s).2.R.length):
  b8 Tryz.prog 35 [Go.AM.T s,.one (.clo 36 [.vp 9 0])] [(9,iI)] (atV (n8 (fU s).2).e (if(n8 (fU s).2).e=0 then 0 else(n8 (fU s).2).p)) [(9,if(fU s).2.e=0 then pgO (fU s).1 else iI)]:=by
 obtain⟨j,hwt,hZ,q⟩:=mS s;have r:= @sE s;have u:∀l,oB s=.ok l→aKc l:=fun l h=>by
  unfold oB at h;split at h
  ·cases h
  ·exact sC _ _ _ _ h
 unfold fU;unfold cL at j hwt hZ q hC ⊢;generalize oB s=w at c j hwt hZ q hC r u ⊢;cases w with
 | error e=>
  obtain⟨e,p⟩:=e;have he:¬e=0:=r rfl;have A:n8 ⟨[uU],e,p⟩=⟨[uU],e,p⟩:=ξ fun k=>he k.1
  dsimp only;rw[ξ he];dsimp only;rw[A];dsimp only;rw[ξ he,ξ he];exact xL s e p he c
 | ok l=>
  dsimp only at j hwt hZ q hC ⊢;rw[θ rfl];have y:=aCh (sK l.length) (aMh hwt hZ (u l rfl) l.length) hX (jR hwt l.length) hZ hwt hC j rfl (le_refl _);obtain⟨g1,_⟩:=lM (jR hwt l.length) hwt j;exact aCe s l c _ _ g1 y
theorem aCm (hX:wC) (s:Str) (j:b8 Tryz.prog 79 [Go.AM.T s] [] (aC1 (oB s)) []) (hC:aNu (cL s).1 (cL s).2.R.length):
  b8 Tryz.prog 8 [Go.AM.T s] [] (.tup [.pa (mI (dK s).1),atV (dK s).2.1 (if(dK s).2.1=0 then 0 else(dK s).2.2)]) []:=by
 have hs:=aI4 hX s j hC;have c:(n8 (fU s).2).e=0→(fU s).2.e=0:=fun h=>by
  unfold n8 at h;split at h
  ·rename_i hc;exact hc.1
  ·exact h
 unfold dK;generalize (fU s).1=q at hs ⊢;generalize r:(n8 (fU s).2)=z at hs c ⊢;unfold atV at hs ⊢;by_cases he:z.e=0
 ·rw[θ he,θ (c he)] at hs;rw[θ he];dsimp only;rw[θ he];have d0:(!decide (z.e=0))=false:=by rw[φ he];rfl
  refine bM (n:=16) tok Tryz.func8 rfl rfl rfl ?_;refine sg rfl (sgh [(0,.id 9)] rfl (sk 2 rfl (kc hs ?_)));exact kz 2 rfl (aA (sg rfl (aB rfl (fun hb=>absurd (hb.symm.trans d0) Bool.noConfusion) (fun _=>aD (sg rfl (aE aDo))))))
 ·rw[ξ he] at hs;rw[ξ he];dsimp only;rw[ξ he];have d0:(!decide (z.e=0))=true:=by rw[ψ he];rfl
  by_cases h1:(fU s).2.e=0
  ·rw[θ h1] at hs;refine bM (n:=16) tok Tryz.func8 rfl rfl rfl ?_;refine sg rfl (sgh [(0,.id 9)] rfl (sk 2 rfl (kc hs ?_)));exact kz 2 rfl (aA (sg rfl (aB rfl (fun _=>sg rfl (aE aDo)) (fun hb=>absurd (hb.symm.trans d0) Bool.noConfusion))))
  ·rw[ξ h1] at hs;refine bM (n:=16) tok Tryz.func8 rfl rfl rfl ?_;refine sg rfl (sgh [(0,.id 9)] rfl (sk 2 rfl (kc hs ?_)));exact kz 2 rfl (aA (sg rfl (aB rfl (fun _=>sg rfl (aE aDo)) (fun hb=>absurd (hb.symm.trans d0) Bool.noConfusion))))
def bxL:List Tk:=[⟨4,eqS,0,0⟩,⟨1,[120],0,0⟩,uU]
theorem aQv:wC:=by
 have j:ZA bxL ⟨bxL,0,0⟩:=⟨rfl,⟨[⟨4,eqS,0,0⟩,⟨1,[120],0,0⟩],uU,rfl,rfl⟩,by decide⟩
 have hwt:wt bxL≤30000:=by decide
 have c:aKc bxL:=fun t ht=>by
  intro _;simp only[bxL,Ap,List.not_mem_nil,or_false] at ht;rcases ht with rfl | rfl | rfl<;>rfl
 have hZ:o5 bxL:=fun t ht q=>c t ht (by rw[q];decide)
 have hb:=sS (sK 3) (aMh hwt hZ c 3) ⟨1,[120],0,0⟩ 0 j rfl (by decide) (by decide);have he:(dL (aHf 3) ⟨1,[120],0,0⟩ 0 ⟨bxL,0,0⟩).2.e=0:=by decide
 have hb:=bB.ok hb he;exact⟨bxL,⟨bxL,0,0⟩,_,⟨1,[120],0,0⟩,_,hb⟩
end Go.Proofs.YtpmheldmadendaaGreatDoor
namespace Go.AM
open Go
section
variable {P:Program}{n:Nat}{o:Oper}{st:St}{d:Nat}{T:TT}
theorem aRr {rd:Rd}{id:Nat}{ao j:AObj}(E:o.dst=none) (hid:st.h id=some ao) (y:id∈rd.h) (r:ao.succ True j)
  (h:∀st',eR rd st st'→st'.h id=some ao→∀G S μ a w,Sim G n S μ st' a w→∃v w' u b c,(execOp a.eval o).run P w=.ok (.value v) w'∧μ id=some (b,c)∧WChg w w' b u∧
   j6 S (upd μ id (some (b,c))) (upd st'.h id (some j)) w' id j∧(∀o v,S.cell b o=some v→∃vs t I,u=.cells vs t I∧vs[o]?=some v)∧(∀m,S.mapo b=some m→w.heap.size≤b)):
  Step P n o st rd ⟨none,[(id,some j)]⟩:=by
 intro st' ha G S μ a w K Q hs J;have q:st'.h id=some ao:=by rw[ha.2 id y,hid]
 obtain⟨v,w',u,b,c,M,hm,hw,hO,hS,A⟩:=h st' ha q G S μ a w hs;refine fun ro=>eB M ?_
 rw[E];have B:=gG (S:=S) (μ:=μ) q hm r;have hi:=hs.inv.chg (id:=id) (cap:=c) (ao:=j) hw (.inr ⟨ao,c,q,hm⟩) B hO hS A;refine J S (upd μ id (some (b,c))) _ _ ?_;have:=hs.put_none hi B v;unfold Eff.apply;rw[bY];exact this
theorem rS (w:World) (t e ty:TypeId) (z:Value) (ht:P.underlying t=some (.slice e)) (A:∀w,(zeroValue e).run P w=.ok z w) (B:z.cells= #[z]) (h1:z.oneCell'=true) (b off l c:Nat) (hn:0<l) (vs:List Value) (r:TypeId) (E:w.heap[b]?=some (.cells ⟨vs⟩ r (0,0))) (q:off+l≤vs.length):
  (Builtin.clear_ #[t] ty #[.slice (some ⟨b,off,none⟩) l c]).run P w=.ok (.tuple #[]) (w.setRow b ⟨vs.take off++List.replicate l z++vs.drop (off+l)⟩):=by
 have u:(Builtin.zeroCells z.cells l).toList=List.replicate l z:=by
  rw[B];simp[Builtin.zeroCells];apply List.ext_getElem
  ·simp
  ·intro i h1 h2;simp[Nat.mod_one]
 have j:=run_storeCells_at (P:=P) b off r (List.replicate l z) 0 ⟨vs⟩ w E (by simpa using q) (by intro v y;rw[List.eq_of_mem_replicate y];exact h1);simp only[Cf,length_replicate] at j;obtain⟨m,rfl⟩:∃m,l=m+1:=⟨l-1,by omega⟩
 simp[Builtin.clear_,Ah ht,A,u,j]
theorem aRy {elems:List (List C)}(h:∀r∈elems,r.length=1):elems.flatten.length=elems.length:=by
 induction elems with
 | nil=>rfl
 | cons r l c=>
  rw[A9,ζ,c (fun r j=>h r (Ba _ j)),h r Bq,ε];omega
theorem aB6 {elems:List (List C)}(h:∀r∈elems,r.length=1) (k:Nat):(elems.take k).flatten=elems.flatten.take k:=by
 induction elems generalizing k with
 | nil=>simp
 | cons r l j=>
  cases k with
  | zero=>simp
  | succ k=>
   have c:=h r Bq;rw[A8,A9,A9,j (fun r c=>h r (Ba _ c)),List.take_append,c,Nat.add_sub_cancel,A5 (l:=r) (i:=k+1) (by omega)]
theorem uS (c:C):∀l:Nat,(List.replicate l [c]).flatten=List.replicate l c
 | 0=>rfl
 | l+1=>by rw[replicate_succ,A9,uS c l,replicate_succ];rfl
theorem yK {S:Sto}{c:C}{z:Value}(h:Rep S c z):∀l:Nat,bW S (List.replicate l c) (List.replicate l z)
 | 0=>by rw[List.replicate_zero,bW];rfl
 | l+1=>by rw[replicate_succ,replicate_succ,bW];exact⟨_,_,rfl,h,yK h l⟩
theorem aD7 {t e:TypeId}{x:Operand}{te id off len sz:Nat}{elems:List (List C)}{z:Value}{zc:C}(ho:o.op=.call { callee:=.builtin .clear,args:= #[x],argTypes:= #[t] }) (hd:o.dst=none) (hu:P.underlying t=some (.slice e)) (hzero:∀w,(zeroValue e).run P w=.ok z w) (hz:z.cells= #[z]) (O:z.oneCell'=true) (E:∀S,Rep S zc z)
  (hx:(opv st x=some (.one (.tl id off len sz)))∨(opv st x=some (.one (.hs id off len sz))∧off=0)) (hh:st.h id=some (.arr te 1 elems 0)) (hsz:sz=elems.length) (hlen:0<len) (hol:off+len=sz):Step P n o st ⟨opr x,[id]⟩ ⟨none,[(id,some (.arr te 1 (elems.take off++List.replicate len [zc]) 0))]⟩:=by
 have A:(elems.take off++List.replicate len [zc]).length=elems.length:=by rw[ζ,Am,length_replicate];omega
 refine aRr hd hh (by simp) ⟨rfl,by rw[A];exact le_refl _,fun _=>trivial⟩ fun st' ha r G S μ a w hs=>?_
 obtain⟨b,base,cap,c,u,y⟩:∃b base cap c,μ id=some (b,base,cap)∧(elems.length≤cap→a.eval x=.slice (some ⟨b,base+off,none⟩) len c):=by
  rcases hx with hx | ⟨hx,h0⟩
  ·have j:=aL hs hx ha.1;simp only[aO,aT] at j;obtain⟨_,j | ⟨U,Y,elems',aa,h1,h2,I⟩⟩:=j
   ·rw[r] at j;cases j
   rw[r] at h1;cases h1;obtain⟨h4,b,base,cap,u,h6,B⟩:=I hsz;refine⟨b,base,cap,cap-off,u,fun hc=>?_⟩;rw[B,ξ (by omega),mul_one]
  ·have j:=aL hs hx ha.1;simp only[aO,aT] at j;obtain⟨_,j | ⟨U,Y,elems',aa,h1,h2,I⟩⟩:=j
   ·rw[r] at j;cases j
   rw[r] at h1;cases h1;obtain⟨h4,⟨u,h6,B⟩ | ⟨b,base,cap,u,B⟩⟩:=I hsz
   ·subst h6;rw[length_nil] at hsz;omega
   ·exact⟨b,base,cap,cap-off,u,fun hc=>by rw[B,mul_one]⟩
 obtain⟨g0,vs,g1,g2,g3,g4,g5,g6,g7⟩:=(hs.inv.obj id _ r).arr u;have y:=y g3;rw[mul_one] at g2 g5;have J:=rS (P:=P) w t e o.type z hu hzero hz O b (base+off) len c hlen vs te g1 (by omega);have hW:=WChg.setRow w b ⟨vs⟩ ⟨vs.take (base+off)++List.replicate len z++vs.drop (base+off+len)⟩ te (0,0) g1;have hfl:=aRy g0;have hrl:=g5.length;refine⟨.tuple #[],_,_,b,(base,cap),?_,u,hW,⟨?_,.inr ⟨b,base,cap,_,aJ _ _ _,hW.new,?_,by rw[A];exact g3,g4,?_,g6,by rw[A];exact g7.1,fun e=>by cases e⟩⟩,fun o v e=>?_,fun m e=>eL g4.2 m e⟩
 ·simp only[execOp,ho,resolve,map_toArray,Av,map_nil,y,π,Aa,κ,invoke,builtin,J]
 ·intro q hq;rcases Bi.1 hq with hq | hq
  ·exact g0 q (Cq hq)
  ·rw[List.eq_of_mem_replicate hq];rfl
 ·simp only[ζ,Am,Bg,length_replicate];omega
 ·rw[A,mul_one,Cm,aB6 g0,uS];have e2:((vs.take (base+off)++List.replicate len z++vs.drop (base+off+len)).drop base).take elems.length=((vs.drop base).take elems.length).take off++List.replicate len z:=by
   have hA:(vs.take (base+off)++List.replicate len z++vs.drop (base+off+len)).drop base=(vs.drop base).take off++List.replicate len z++vs.drop (base+off+len):=by
    rw[As,List.drop_append_of_le_length (by rw[Am];omega),drop_take,show base+off-base=off by omega,As]
   rw[hA,take_left' (by rw[ζ,Am,Bg,length_replicate];omega),take_take,show min off elems.length=off by omega]
  show bW S _ (((vs.take (base+off)++List.replicate len z++vs.drop (base+off+len)).drop base).take elems.length);rw[e2];exact(g5.take off).append (yK (E S) len)
 ·by_cases hb:base≤o
  ·rw[g6 rfl o hb] at e;cases e
  ·obtain⟨vs0,t0,fr0,q1,M⟩:=hs.inv.holds.1 b o v e;rw[g1] at q1;cases q1;refine⟨_,_,_,rfl,?_⟩;simp only[Cd] at M ⊢;have hlt:o<vs.length:=(Af.1 M).1
   rw[As,A1 (by simp;omega),Aj,θ (by omega)];exact M
theorem aLp {t e:TypeId}{i r:TI}{x y:Operand}{te es id len sz:Nat}{kk:IntKind}{elems:List (List C)}{fz:Nat}(M:Tok P T) (ho:o.op=.slice t x (some y) none none) (O:o.dst=some d) (u:d<n) (hi:T[t]?=some (some i)) (U:i.k=.sl e) (A:T[e]?=some (some r)) (hes:r.size=es)
  (hx:opv st x=some (.one (.hs id 0 len sz))) (hh:st.h id=some (.arr te es elems fz)) (hsz:sz=elems.length) (hlen:1≤len) (hls:len≤sz) (hy:opv st y=some (I kk ((0:Nat):Int))):Step P n o st ⟨opr x++opr y,[id]⟩ ⟨some (d,some (.one (.hs id 0 len sz))),[]⟩:=by
 refine Step.value O u fun st' ha G S μ a w hs=>?_
 have c:=aL hs hx fun t ht=>ha.1 t (by simp[ht])
 have B:=dB (aL hs hy fun t ht=>ha.1 t (by simp[ht]));have q:st'.h id=some (.arr te es elems fz):=by rw[ha.2 id (by simp),hh]
 have E:=c;simp only[aO,aT] at c;obtain⟨_,c | ⟨te',es',elems',fz',h1,h2,Y⟩⟩:=c
 ·rw[q] at c;cases c
 rw[q] at h1;cases h1;obtain⟨h4,⟨h5,j,h7⟩ | ⟨b,base,cap,h5,j⟩⟩:=Y hsz
 ·subst j;simp at hsz;omega
 rw[zero_mul,Cf,sub_zero] at j;refine⟨a.eval x,?_,E⟩;have J:=yF (P:=P) M hi U A w (some ⟨b,base,none⟩) len cap 0 kk (Ac _);simp only[execOp,ho,By,Option.map_none,j,B,π,Aa] at J ⊢;rw[J];by_cases hc:cap=0
 ·simp[hc]
 ·simp[hc,Addr.add_mid]
end
end Go.AM
namespace Go.Proofs.YtpmheldmadendaaGreatDoor
open Go Go.AM
set_option maxRecDepth 20000
set_option maxHeartbeats 4000000
theorem aF8 (s:Str) (t:Tk):b8 Tryz.prog 146 ([Go.AM.T s]++[R.c (.pt (aG t))].map V.one) [] (B (decide (s=t.text))) []:=by
 refine bM (n:=8) tok Tryz.func146 rfl rfl rfl ?_;exact sg rfl (sg rfl (aE rtT))
def aIt (v:Str) (l:List Str) (m:Nat):Int:=match (l.drop m).findIdx? (fun s=>decide (s=v)) with
 | none=> -1
 | some d=>((m+d:Nat):Int)
theorem aIs (v:Str) (l:List Str):aIt v l l.length= -1:=by unfold aIt;rw[Ci];rfl
theorem aE7 (v:Str) {l:List Str}{m:Nat}{s:Str}(h:l[m]?=some s):aIt v l m=if s=v then(m:Int) else aIt v l (m+1):=by
 obtain⟨h1,h2⟩:=Af.1 h;have c:=Aw h1;rw[h2] at c;unfold aIt;rw[c,List.findIdx?_cons];by_cases hp:s=v
 ·rw[θ (φ hp),θ hp];rfl
 ·rw[ξ (by rw[ψ hp];exact ω),ξ hp];cases (l.drop (m+1)).findIdx? _ with
  | none=>rfl
  | some d=>simp;omega
def svA (l:List (List C)) (f:Nat):AObj:=.arr 9 1 l f
theorem aQi (l:List Str) (hl:l.length≤1000000000) (t:Tk):b8 Tryz.prog 186 [hsV 710 l.length,.one (.clo 146 [.c (.pt (aG t))])] [(710,svA (l.map bE) 0)] (I .i64 (aIt t.text l 0)) [(710,svA (l.map bE) 0)]:=by
 have y:(l.map bE).length=l.length:=η _;refine bM (n:=19) tok Tryz.func186 rfl rfl rfl ?_;refine sg rfl (aA (sg rfl (aF (aK (fun i:Nat=>mk [(0,hsV 710 l.length),(1,.one (.clo 146 [.c (.pt (aG t))])),(7,I .i64 (l.length:Int)),(8,I .i64 i)] [(710,svA (l.map bE) 0)]) (fun i=>i≤l.length∧aIt t.text l 0=aIt t.text l i) (fun i=>l.length-i) 0 ⟨Ac _,rfl⟩ sl ?_))));intro i ⟨hi,hid⟩;refine sg rfl (aA (aB rfl (fun hb=>?_) (fun hb=>?_)))
 ·have j:i<l.length:=by have:=χ hb;omega
  obtain⟨x,q⟩:=aN j;have u:=aY bE q;have hc:=aF8 x t;rw[aE7 _ q] at hid;refine aD (aA (aF (sg rfl (skh 5 [(4,.row i (bE x))] rfl (kv (args:=[Go.AM.T x]) hc ?_)))));refine az (aB rfl (fun hb=>?_) (fun hb=>?_))
  ·rw[θ (χ hb)] at hid;rw[hid];exact sg rfl (aE rtT)
  ·rw[ξ (Ad hb)] at hid;exact aD (ag [] rfl ⟨i+1,⟨j,hid⟩,by dsimp only;omega,sl⟩)
 have r:i=l.length:=by have:=Ad hb;omega
 subst r;rw[aIs] at hid;rw[hid];exact aH (sg rfl (aE rtT))
def dl (v:Str) (l:List Str):List Str:=l.filter (fun s=>!decide (s=v))
theorem aSo (v:Str) (l:List Str):(dl v l).length≤l.length:=List.length_filter_le _ _
theorem aFh {v:Str}{l:List Str}(h:∀s∈l,¬s=v):dl v l=l:=filter_eq_self.2 fun s hs=>by rw[ψ (h s hs)];rfl
theorem aFg {v:Str}{l:List Str}{i:Nat}{x:Str}(h:l[i]?=some x):dl v (l.take (i+1))=if x=v then dl v (l.take i) else dl v (l.take i)++[x]:=by
 unfold dl;rw[A7,h,List.filter_append];by_cases hx:x=v
 ·rw[θ hx];show _++List.filter _ [x]=_;rw[Cg,ξ (by rw[φ hx];decide)];simp
 ·rw[ξ hx];show _++List.filter _ [x]=_;rw[Cg,θ (by rw[ψ hx];rfl)];rfl
def aC3 (v:Str) (l:List Str):List (List C):=(dl v l).map bE++List.replicate (l.length-(dl v l).length) [.str []]
theorem aF7 (l:List Str) (hl:l.length≤1000000000) (t:Tk):b8 Tryz.prog 145 [hsV 710 l.length,.one (.clo 146 [.c (.pt (aG t))])] [(710,svA (l.map bE) 0)] (.one (.c (.sl 1 ((dl t.text l).map bE)))) [(710,svA (aC3 t.text l) 2)]:=by
 have aa:(l.map bE).length=l.length:=η _;have A:=aQi l hl t;unfold aIt at A;rw[B5] at A;refine bM (n:=42) tok Tryz.func145 rfl rfl rfl ?_;refine sg rfl (sk 2 rfl (kc A ?_));refine kz 1 rfl ?_;cases hf:l.findIdx? (fun s=>decide (s=t.text)) with
 | none=>
  have ab:∀s∈l,¬s=t.text:=fun s hs he=>by
   have:=(List.findIdx?_eq_none_iff.1 hf) s hs;rw[φ he] at this;cases this
  have e1:aC3 t.text l=l.map bE:=by
   unfold aC3;rw[aFh ab,Cb,List.replicate_zero,Cc]
  rw[e1,aFh ab];dsimp only;refine aA (sg rfl (aB rfl (fun _=>AWp.sub (Sub.freeze (id:=710) rfl) ?_) (fun hb=>Bool.noConfusion hb)));exact sg rfl (aE (rtH (hsz:=aa.symm) (hlen:=aa.symm)))
 | some d=>
 obtain⟨J,ac,ad⟩:=List.findIdx?_eq_some_iff_getElem.1 hf;have ae:l[d]?=some t.text:=by rw[List.getElem?_eq_getElem J,χ ac]
 have af:dl t.text (l.take d)=l.take d:=aFh fun s hs he=>by
  obtain⟨j,hj1,ah⟩:=List.mem_iff_getElem.1 hs;rw[Am] at hj1;rw[List.getElem_take] at ah;exact ad j (by omega) (by rw[ah];exact φ he)
 have M:dl t.text (l.take (d+1))=l.take d:=by rw[aFg ae,θ rfl,af]
 dsimp only;rw[Bb];have dn:decide (((d:Nat):Int)= -1)=false:=ψ (by omega);refine aA (sg rfl (aB rfl (fun hb=>absurd (hb.symm.trans dn) Bool.noConfusion) (fun _=>aD (aA (aA (agN [] rfl (aF (aK (fun q:List Str×Nat×Nat=>mk [(0,hsV 710 l.length),(1,.one (.clo 146 [.c (.pt (aG t))])),(5,I .i64 (q.2.1:Nat)),(6,I .i64 (q.2.2:Nat))] [(710,svA (q.1.map bE) 0)]) (fun q=>q.1.length=l.length∧q.2.1<q.2.2∧q.2.2≤l.length∧q.1.take q.2.1=dl t.text (l.take q.2.2)∧q.1.drop q.2.2=l.drop q.2.2) (fun q=>l.length-q.2.2) (l,d,d+1) ⟨rfl,by dsimp only;omega,J,M.symm,rfl⟩ sl ?_))))))));clear A M af ae J ac ad hf dn;rintro⟨R,k,i⟩ ⟨u,hki,hi,ht,O⟩;dsimp only at u hki hi ht O ⊢;have B:(R.map bE).length=R.length:=η _;refine aA (sg rfl (aB rfl (fun hb=>?_) (fun hb=>?_)))
 ·have U:i<l.length:=by have:=χ hb;omega
  obtain⟨x,hx⟩:=aN U;have hRx:R[i]?=some x:=by
   have h1:(R.drop i)[0]?=(l.drop i)[0]?:=by rw[O]
   rw[Ak,Ak,Cf] at h1;rw[h1,hx]
  obtain⟨y,hy⟩:=aN (l:=R) (k:=k) (by omega);have hRx':=aY bE hRx;have hy':=aY bE hy;have hc:=aF8 x t;have E:=aFg (v:=t.text) hx;have Y:R.drop (i+1)=l.drop (i+1):=by
   rw[←Cr,←Cr,O]
  refine aD (aA (aF (sgh [(3,.row i (bE x))] rfl (sk 2 rfl (kv (args:=[Go.AM.T x]) hc ?_)))));refine kz 1 rfl (aB rfl (fun hb=>?_) (fun hb=>?_))
  ·have hne:¬x=t.text:=fun e=>by rw[φ e] at hb;cases hb
   rw[ξ hne] at E;have hs1:(R.map bE).set k (bE x)=(R.set k x).map bE:=by rw[map_set]
   refine sgh [(4,.row k (bE y))] rfl (agN [] rfl (agN [] rfl ⟨(R.set k x,k+1,i+1),⟨by dsimp only;rw[length_set,u],by dsimp only;omega,U,?_,?_⟩,by dsimp only;omega,sl (hh:=⟨⟨_,rfl,.arrS hs1⟩,trivial⟩)⟩))
   ·dsimp only;rw[E,←ht,A7,List.getElem?_set_self (by omega),List.take_set_of_le (by omega)];rfl
   ·dsimp only;rw[List.drop_set_of_lt (by omega),Y]
  ·have he:x=t.text:=by
    by_cases he:x=t.text
    ·exact he
    ·rw[ψ he] at hb;cases hb
   rw[θ he] at E;exact aD (agN [] rfl ⟨(R,k,i+1),⟨u,by dsimp only;omega,U,by dsimp only;rw[E,ht],Y⟩,by dsimp only;omega,sl⟩)
 have hge:i=l.length:=by have:=Ad hb;omega
 subst hge;rw[Aq] at ht;have hk:(dl t.text l).length=k:=by rw[←ht,Am];omega
 have r:(R.map bE).take k++List.replicate (l.length-k) [.str []]=aC3 t.text l:=by
  unfold aC3;rw[hk,←ht,List.map_take]
 have htk:(aC3 t.text l).take k=(dl t.text l).map bE:=by
  unfold aC3;rw[take_left' (by rw[η,hk])]
 have ai:(aC3 t.text l).length=l.length:=by
  unfold aC3;rw[ζ,η,length_replicate,hk];omega
 refine aH (aA (AWp.cut (mk [(0,hsV 710 l.length),(5,I .i64 (k:Nat))] [(710,svA (aC3 t.text l) 0)]) ?_ ?_))
 ·refine aC mixed (ak 2 [] rfl ?_);by_cases h0:k=0
  ·subst h0;refine k_ (g_ rfl rfl (aLp tok rfl rfl (iF rfl) (tg rfl) rfl (tg rfl) rfl rfl (by omega) (by omega) rfl (hh:=rfl) (hsz:=by rw[B,u]))) ?_;refine k_ (g_ rfl rfl (aD7 (e:=9) (z:=.string ⟨#[]⟩) (zc:=.str []) rfl rfl (by kernel_rfl) (fun w=>by kernel_rfl) rfl rfl (fun S=>by rw[Rep]) (.inr ⟨rfl,rfl⟩) rfl (by rw[B,u]) (by omega) (by omega))) ?_;refine az ?_;rw[sub_zero] at r;exact sl (hh:=⟨⟨_,rfl,.arrS r⟩,trivial⟩)
  ·refine k_ (g_ rfl rfl (aOu k tok rfl rfl (iF rfl) (tg rfl) rfl (tg rfl) rfl rfl (hh:=rfl) (hsz:=by rw[B,u]) (hlen:=rfl) (hy:=rfl) (hl:=⟨by omega,by omega⟩))) ?_;refine k_ (g_ rfl rfl (aD7 (e:=9) (z:=.string ⟨#[]⟩) (zc:=.str []) rfl rfl (by kernel_rfl) (fun w=>by kernel_rfl) rfl rfl (fun S=>by rw[Rep]) (.inl rfl) rfl (by rw[B,u]) (by omega) (by omega))) ?_;exact az (sl (hh:=⟨⟨_,rfl,.arrS r⟩,trivial⟩))
 have hkd:k≤(aC3 t.text l).length:=by omega
 refine AWp.sub (Sub.freeze (id:=710) rfl) ?_;refine AWp.sub (cv 0 (aC3 t.text l) (h1:=ai.symm) (h2:=ai.symm)) ?_;refine sg rfl ?_;rw[htk];exact aE rtT
def hs7 (l:List Str):V:=.one (.hs 710 0 l.length l.length)
def sv7 (l:List Str):AObj:=.arr 9 1 (l.map bE) 0
theorem aJc (l:List Str) (s:Str) (h:l.length≤600000000000):b8 Tryz.prog 214 [.one (.hs 710 0 l.length l.length),Go.AM.T s] [(710,.arr 9 1 (l.map bE) 0)] (I .i64 (xF s l 0)) [(710,.arr 9 1 (l.map bE) 0)]:=by
 refine bM (n:=19) tok Tryz.func214 rfl rfl rfl ?_;refine sg rfl (aA (sg rfl ?_));have r:(l.map bE).length=l.length:=η _;refine aF (aK (fun i:Nat=>mk [(0,.one (.hs 710 0 l.length l.length)),(1,Go.AM.T s),(7,I .i64 (l.length:Int)),(8,I .i64 i)] [(710,.arr 9 1 (l.map bE) 0)]) (fun i=>i≤l.length∧xF s l 0=xF s (l.drop i) i) (fun i=>l.length-i) 0 ⟨Ac _,rfl⟩ sl ?_);intro i ⟨hi,he⟩;refine sg rfl (aA (aB rfl (fun hb=>?_) (fun hb=>?_)))
 ·have c:i<l.length:=by have:=χ hb;omega
  obtain⟨x,hx⟩:=aN c;have u:=aY bE hx;have q:l.drop i=x::l.drop (i+1):=by rw[Aw c,(Af.1 hx).2]
  rw[q,xF] at he;refine aD (aA (aF (sg rfl (sgh [(4,.row i (bE x))] rfl (aB rfl (fun hb=>?_) (fun hb=>?_))))))
  ·have hs:s=x:=χ hb;rw[θ hs] at he;rw[he];exact sg rfl (aE rtT)
  ·have hs:¬s=x:=Ad hb;rw[ξ hs] at he;exact aD (ag [] rfl ⟨i+1,⟨c,he⟩,by dsimp only;omega,sl⟩)
 ·have j:i=l.length:=by have:=Ad hb;omega
  subst j;rw[Ci,xF] at he;rw[he];exact aH (sg rfl (aE rtT))
theorem xR (l:List Str) (s:Str) (h:l.length≤600000000000):b8 Tryz.prog 179 [.one (.hs 710 0 l.length l.length),Go.AM.T s] [(710,.arr 9 1 (l.map bE) 0)] (B (decide (s∈l))) [(710,.arr 9 1 (l.map bE) 0)]:=by
 have hi:=aJc l s h;refine bM (n:=9) tok Tryz.func179 rfl rfl rfl ?_;refine sg rfl (sk 2 rfl (kc hi ?_));refine kz 2 rfl ?_;rw[←sJ s l 0 (by omega)];exact aE rtT
def aN1 (s:Sch):List AM.R:=[.hs 710 0 s.vars.length s.vars.length,.c .nl,.c (.sl 5 (s.preds.map aM)),.c (.int .i64 s.ty.form),.c (.int .i64 s.ty.n),.c (.str s.ty.name),.c (.sl 4 (cK s.ty))]
theorem aCk (L:List Tk) (hZ:o5 L) (R:List Tk) (i:Nat) (U:At L i R) (hwt:wt L≤30000) {s:Sch}{R':List Tk}(hok:cW R=.ok (s,R')):b8 Tryz.prog 185 [nB L,I .i64 (i:Nat)] [] (.tup [.ma (aN1 s),I .i64 ((L.length-R'.length:Nat):Int),atV 0 0]) [(710,svA (s.vars.map bE) 0)]:=by
 have hp:=sT L hZ R i U;have ac:= @kG R;have am:= @fV R;unfold cW at hok;refine bM (n:=74) tok Tryz.func185 rfl rfl rfl ?_;refine sg rfl (sk 2 rfl (kc hp ?_));generalize dA R=w at ac am hok ⊢;cases w with
 | error e=>
  obtain⟨e,p⟩:=e;rw[pF] at hok;cases hok
 | ok y=>
 obtain⟨ps,R1⟩:=y;obtain⟨k1,⟨q,k2,_⟩,k3,k4⟩:=ac rfl;obtain⟨ad,hn1⟩:=U.to k2 (k1 U.e);rw[pF] at hok;rw[nI,hn1];generalize i+q.length=j at ad;have hty:=aAe L hZ R1 j ad;have ae:=eS (3*R1.length+2) 0 R1;have hte:=dJ (3*R1.length+2) 0 R1;have Y:wt R≤30000:=by
  have:L=L.take i++R:=by rw[←U.d,take_append_drop]
  rw[this] at hwt;exact le_trans lX hwt
 have hwtR1:wt R1≤30000:=by rw[k2] at Y;exact le_trans lX Y
 have hRl:=U.lt;have hLl:=U.l;unfold atV;refine kz 8 rfl (aA (sg rfl (aB rfl (fun hb=>absurd hb (by decide)) (fun _=>aD (sk 2 rfl (kc hty ?_))))));generalize cD (3*R1.length+2) 0 R1=w at ae hte hok ⊢;cases w with
 | error e=>
  obtain⟨e,p⟩:=e;rw[pE] at hok;cases hok
 | ok y=>
 obtain⟨x,R2⟩:=y;obtain⟨hT,hTn⟩:=ae x R2 rfl;rw[pE] at hok;cases hok;rw[iZ];unfold aN1;unfold atV;dsimp only;generalize ((L.length-R'.length:Nat):Int)=m;refine kz 8 rfl (aA (sg rfl (aB rfl (fun hb=>absurd hb (by decide)) (fun _=>aD (sg rfl ?_)))));have hsv:aN0 ps x=gP [] (ps++[(⟨[],x⟩:Prd)]):=by rw[xC];rfl
 rw[hsv];have E:∀p∈ps++[(⟨[],x⟩:Prd)],WF p.ty∧tn p.ty≤30000:=fun p hp=>by
  rcases Bi.1 hp with hp | hp
  ·exact⟨(k3 p hp).1,by have:=(k3 p hp).2;omega⟩
  ·rw[A4.1 hp];exact⟨hT.w,by show tn x≤30000;omega⟩
 have hcl:=mR (ps.map aM) (by rw[η];omega);have hkl:(ps.map aM).length=ps.length:=η _;have O:ps.map aM++[[.str [],.int .i64 x.form,.int .i64 x.n,.str x.name,.sl 4 (cK x)]]=(ps++[(⟨[],x⟩:Prd)]).map aM:=by rw[Ai];rfl
 have af:(ps++[(⟨[],x⟩:Prd)]).length=ps.length+1:=by rw[ζ];rfl
 generalize ps++[(⟨[],x⟩:Prd)]=u at E O af ⊢;have hqe:(u.map aM).length=u.length:=η _;refine aA (sk 1 rfl (kc hcl ?_));refine ak 6 [(4,.all),(5,.fz)] rfl (az (AWp.sub (Sub.own (t:=10) (id:=710) 9 1 rfl rfl) ?_));have B:∀r:List C,(ps.map aM).length+[r].length=u.length:=fun r=>by rw[hkl,af];rfl
 refine aF (aK (fun k:Nat=>mk [(1,I .i64 m),(4,.one (.vp 4 0)),(6,.one (.vp 6 0)),(7,.one (.c (.sl 5 (ps.map aM)))),(9,.one (.vp 9 0)),(10,hs7 (gP [] (u.take k))),(44,.one (.hs 720 0 u.length u.length)),(45,I .i64 (u.length:Nat)),(46,I .i64 (k:Nat))] [(4,.var 59 aHi),(6,.var 32 [.c (.int .i64 0),.c (.int .i64 0)]),(9,.var 47 ((bL x).map .c)),(710,sv7 (gP [] (u.take k))),(720,.arr 113 5 (u.map aM) 2)]) (fun k=>k≤u.length) (fun k=>u.length-k) 0 (Ac _) (sl (he:=⟨rfl,rfl,rfl,rfl,rfl,rfl,Go.AM.hs_ren (B _) (B _),Go.AM.int_eq (congrArg Int.ofNat (B _)),rfl,trivial⟩) (hh:=⟨⟨_,rfl,.var rfl⟩,⟨_,rfl,.var rfl⟩,⟨_,rfl,.var rfl⟩,⟨_,rfl,.arrS rfl⟩,⟨_,rfl,.arrS O⟩,trivial⟩)) ?_);intro k hk;have hgl:(gP [] (u.take k)).length≤4002*30000:=by
  have h1:=uO (W:=30000) (u.take k) [] (fun p hp=>(E p (Cq hp)).2);rw[Am,length_nil] at h1;have:min k u.length*30000≤4002*30000:=Ar _ (by omega);omega
 refine sg rfl (aA (aB rfl (fun hb=>?_) (fun hb=>?_)))
 ·have ah:k<u.length:=by have:=χ hb;omega
  obtain⟨p,hp⟩:=aN ah;have hp':=aY aM hp;have hpm:=E p (Ag hp);have ai:=aAj p.ty (by have:=aPr p.ty;omega);have htf:=lY p.ty;have aa:=xB hp;generalize gP [] (u.take k)=o at hgl aa ⊢;generalize tfR p.ty=l at ai htf aa ⊢;have aj:(l.map bE).length=l.length:=η _;refine aD (aA (aF (sgh [(1,.row k (aM p))] rfl (sk 2 rfl (kc ai ?_)))));refine kz 2 rfl (aF (aK (fun j:Nat=>mk [(1,I .i64 m),(4,.one (.vp 4 0)),(6,.one (.vp 6 0)),(7,.one (.c (.sl 5 (ps.map aM)))),(9,.one (.vp 9 0)),(10,hs7 (eA o (l.take j))),(44,.one (.hs 720 0 u.length u.length)),(45,I .i64 (u.length:Nat)),(46,I .i64 (k:Nat)),(52,cM l),(53,I .i64 ((l.map bE).length:Nat)),(54,I .i64 (j:Nat))] [(4,.var 59 aHi),(6,.var 32 [.c (.int .i64 0),.c (.int .i64 0)]),(9,.var 47 ((bL x).map .c)),(710,sv7 (eA o (l.take j))),(720,.arr 113 5 (u.map aM) 2)]) (fun j=>j≤l.length) (fun j=>l.length-j) 0 (Ac _) sl ?_));intro j hj;refine sg rfl (aA (aB rfl (fun hb=>?_) (fun hb=>?_)))
  ·have J:=ltD hb aj;obtain⟨s,hs⟩:=aN J;have hs':=aY bE hs;have A:eA o (l.take (j+1))=n5 (eA o (l.take j)) s:=by rw[A7,hs,oK];rfl
   have hml:(eA o (l.take j)).length≤1000000000:=by
    have:=iR (l.take j) o;rw[Am] at this;omega
   have al:=xR (eA o (l.take j)) s (by omega);generalize eA o (l.take j)=M at A hml al ⊢;have hml':(M.map bE).length=M.length:=η _;refine aD (aA (aF (sgh [(0,.row j (bE s))] rfl (sk 2 rfl (kc al ?_)))));refine kz 1 rfl (aB rfl (fun hb=>?_) (fun hb=>?_))
   ·have hm:¬s∈M:=fun h=>by rw[φ h] at hb;cases hb
    unfold n5 at A;rw[ξ hm] at A;refine ag [(2,.all)] rfl (ag [] rfl ⟨j+1,J,by dsimp only;omega,?_⟩);dsimp only;rw[A];exact sl
   ·have hm:s∈M:=by
     by_cases h:s∈M
     ·exact h
     ·rw[ψ h] at hb;cases hb
    unfold n5 at A;rw[θ hm] at A;refine aD (ag [] rfl ⟨j+1,J,by dsimp only;omega,?_⟩);dsimp only;rw[A];exact sl
  ·have ab:=geD hb aj hj;subst ab;rw[Aq];refine aH (ag [] rfl ⟨k+1,ah,by dsimp only;omega,?_⟩);dsimp only;rw[aa];exact sl
 ·have ab:k=u.length:=by have:=Ad hb;omega
  subst ab;rw[Aq];exact aH (sg rfl (aE iM))
theorem aI2 (s:Str):b8 Tryz.prog 111 [Go.AM.T s] [] (tyV (.mk 2 0 s [])) []:=by
 refine bM (n:=5) tok Tryz.func111 rfl rfl rfl ?_;exact sg rfl (sg rfl (aE (rtC trw)))
theorem xN {L:List Tk}{z:Z}(h:ZA L z) (hZ:o5 L) (hwt:wt L≤30000) {s:Sch}{R':List Tk}(hok:cW z.R=.ok (s,R')):b8 Tryz.prog 144 [rP] [(600,rO L z)] (.ma (aN1 s)) [(600,rO L ⟨R',z.e,z.p⟩),(710,sv7 s.vars)]:=by
 have c:=aCk L hZ z.R _ h hwt hok;have hm:=bI 0 0;unfold atV aN1 at c;unfold aN1;refine bM (n:=35) tok Tryz.func144 rfl rfl rfl ?_;refine sg rfl (sk 10 rfl (kc c ?_));refine kz 9 rfl (sk 7 rfl (kc hm ?_));exact az (sg rfl (sg rfl (aE (rtC trw))))
def aB3 (nm v:Tk) (sup:List Str) (ms:List Sg):List (Nat×AObj):=[(1,pR),(6,.var 90 [.c (.str nm.text),.c (.int .i64 nm.pl),.c (.str v.text),.c .nl,.c (.sl 1 (sup.map bE)),.hs 530 0 ms.length ms.length]),(530,.arr 92 9 (ms.map c6) 0)]
def clS (nm v:Tk) (s:List Sg) (z:Z):List Sg×Z:=(s++[(kS nm.text v.text z).1],c7 (s++[(kS nm.text v.text z).1]).length 16 nm.pl (kS nm.text v.text z).2)
theorem aQo {L:List Tk}(hZ:o5 L) (hwt:wt L≤30000) (j v:Tk) (sup:List Str) (ms:List Sg) {z:Z}(h:ZA L z) (he:z.e=0) (h2:ms.length≤4001):
  bB Tryz.prog 143 ([]++[R.vp 1 0,R.c (.pt (aG v)),R.vp 6 0,R.c (.pt (aG j))].map V.one) ((600,rO L z)::aB3 j v sup ms) (fL L (.tup []) (clS j v ms z).2 (aB3 j v sup (clS j v ms z).1)):=by
 have hmk:(ms.map c6).length=ms.length:=η _;unfold clS kS;dsimp only;have hw:=gK h he 1 (by decide);have g1:=h.word (k:=1) (by decide);generalize aR 1 z=w at hw g1 ⊢;obtain⟨u,z1⟩:=w;dsimp only at hw g1 ⊢;refine mG (n:=50) tok Tryz.func143 rfl rfl rfl rfl ?_;by_cases r:z1.e=0
 case neg=>
  have hp:=bB.err hw r;rw[bD r,rD r];dsimp only;rw[dM r,aI r];exact sk 1 rfl (kp hp)
 have hw:=bB.ok hw r;refine sk 1 rfl (kc hw ?_);refine ak 2 [(2,.id 41)] rfl (az ?_);have A:=cQ g1 r eU;have g2:=g1.need eU;generalize aQ eU z1=z2 at A g2 ⊢;by_cases q:z2.e=0
 case neg=>
  have hp:=bB.err A q;rw[rD q];dsimp only;rw[dM q,aI q];exact sk 1 rfl (kp hp)
 have A:=bB.ok A q;refine sk 1 rfl (kc A ?_);refine az ?_;have B:=kM g2 q hZ hwt;have I:= @xN L z2 g2 hZ hwt;have E:=fO g2 hwt;unfold bO at B E ⊢;rw[θ q] at B E;simp only[θ q];cases J:cW z2.R with
 | error e=>
  obtain⟨e,p⟩:=e;rw[J] at B;have U:=pD J;dsimp only[aOq] at B ⊢;have hp:=bB.err (z:=⟨z2.R,e,p⟩) B U;rw[dM (show ¬(Z.mk z2.R e p).e=0 from U),aI (show ¬(Z.mk z2.R e p).e=0 from U)];exact sk 1 rfl (kp hp)
 | ok y=>
 obtain⟨s,R'⟩:=y;rw[J] at E;have I:=I J;dsimp only[aOq] at E ⊢;obtain⟨k1,k2,_,_⟩:=E;unfold aN1 sv7 at I;have Y:=aF7 s.vars (by have:=k2.v;omega) v;unfold svA at Y;have htv:b8 Tryz.prog 111 [Go.AM.T v.text] [] (.pa [.int .i64 2,.int .i64 0,.str v.text,.sl 4 []]) []:=aI2 v.text;have hq1:((dl v.text s.vars).map bE).length=(dl v.text s.vars).length:=η _;have hq2:=aSo v.text s.vars;have hq3:=k2.v;have hq4:(s.preds.map aM).length=s.preds.length:=η _;have hq5:=k2.l;refine sk 1 rfl (kc I ?_);refine ak 2 [(2,.id 42)] rfl (az (skh 6 [(2,.id 540)] rfl (kc Y ?_)));refine kz 3 rfl (sk 4 rfl (kc htv ?_));refine ak 7 [(6,.id 541)] rfl (az (AWp.sub (Sub.freeze (id:=540) rfl) ?_));refine AWp.sub (Sub.freeze (id:=541) rfl) ?_;have hv1:[[C.str v.text]]++(dl v.text s.vars).map bE=(pT j.text v.text s).vars.map bE:=rfl;have hv2:[[C.str j.text,.int .i64 2,.int .i64 0,.str v.text,.sl 4 []]]++s.preds.map aM=(pT j.text v.text s).preds.map aM:=rfl;refine AWp.sub (vp 42 (eH (pT j.text v.text s)) (hp:=.hs rfl (by rw[ζ]) (hv1.symm.trans (Go.AM.take_all (by rw[ζ]))) (.c .nl (.hs rfl (by rw[ζ]) (hv2.symm.trans (Go.AM.take_all (by rw[ζ]))) (.c .refl (.c .refl (.c .refl (.c .refl .nil)))))))) ?_;have O:ms.map c6++[c6 ⟨u.text,u.pl,pT j.text v.text s⟩]=(ms++[(⟨u.text,u.pl,pT j.text v.text s⟩:Sg)]).map c6:=by rw[Ai];rfl
 have hle:(ms++[(⟨u.text,u.pl,pT j.text v.text s⟩:Sg)]).length=ms.length+1:=by rw[ζ];rfl
 refine sgh [(8,.all)] rfl ?_;generalize ms++[(⟨u.text,u.pl,pT j.text v.text s⟩:Sg)]=M at O hle ⊢;refine AWp.sub (st2:=mk [(0,.one (.vp 1 0)),(1,.one (.c (.pt (aG v)))),(2,.one (.vp 6 0)),(3,.one (.c (.pt (aG j))))] ((600,rO L ⟨R',z2.e,z2.p⟩)::aB3 j v sup M)) (sl (hh:=⟨⟨_,rfl,.var rfl⟩,⟨_,rfl,.var rfl⟩,⟨_,rfl,.var (by rw[hle,←hmk];rfl)⟩,⟨_,rfl,.arrS O⟩,trivial⟩)) ?_;by_cases hM:M.length≤16
 case neg=>
  have d:decide (((M.length:Nat):Int)≤16)=false:=ψ (by omega);have hm:=bJ 2 j.pl;rw[fD hM (show(Z.mk R' z2.e z2.p).e=0 from q),aI cC];refine aC mixed (ak 6 [] rfl ?_);rw[d];exact kp hm
 have d:decide (((M.length:Nat):Int)≤16)=true:=φ (by omega);have hm:=bI 2 j.pl;rw[fC hM,b7 (show(Z.mk R' z2.e z2.p).e=0 from q)];refine aC mixed (ak 6 [] rfl ?_);rw[d];refine kc hm ?_;exact az rtN
theorem sA (c v:Tk):∀(f n:Nat) (out:List Sg) (z:Z),eX c.text v.text c.pl f n out z=lpZ b6 (clS c v) f n out z
 | 0,_,_,_=>rfl
 | f+1,n,out,z=>by
  rw[eX,lpZ];split
  ·exact sA c v f _ _ _
  ·rfl
theorem rC {v:Str}{a:Int}{l:List Prd}{out:List Str}{z:Z}(h:¬z.e=0):(c9 v a l out z).2=z:=by
 cases l with
 | nil=>rfl
 | cons p l=>rw[c9,ξ h]
theorem lV {y:List Prd×Tk×Tk×Z}(h:¬y.2.2.2.e=0):aQ b6 (mK y (mL y)).2=y.2.2.2:=by
 have h1:(mL y).2=y.2.2.2:=by unfold mL;dsimp only;rw[rC h];exact bD h
 unfold mK;rw[sA,fG (by rw[h1];exact h),h1];exact bD h
theorem aMu (A v:Tk) (sup:List Str) {step:(List Sg)→Z→(List Sg)×Z}{Inv:Nat→(List Sg)→Prop}{L:List Tk}{N:Nat}
  (hone:∀n s z,Inv n s→n<60→ZA L z→z.e=0→z.R.length≤N→bB Tryz.prog 143 ([]++[R.vp 1 0,R.c (.pt (aG v)),R.vp 6 0,R.c (.pt (aG A))].map V.one) ((600,rO L z)::aB3 A v sup s) (fL L (.tup []) (step s z).2 (aB3 A v sup (step s z).1)))
  (hst:∀n s z,Inv n s→n<60→ZA L z→z.e=0→ZA L (step s z).2∧Inv (n+1) (step s z).1∧((step s z).2.e=0→(step s z).2.R.length<z.R.length)∧Ze z (step s z).2)
  {z:Z} (h:ZA L z) (he:z.e=0) (hN:z.R.length≤N) {s:(List Sg)} (hI:Inv 0 s):
  bB Tryz.prog 83 [rP,.one (.clo 184 [R.vp 2 0]),.one (.clo 143 [R.vp 1 0,R.c (.pt (aG v)),R.vp 6 0,R.c (.pt (aG A))])] ((600,rO L z)::(2,pR)::aB3 A v sup s) (fL L (.tup []) (lpZ b6 step (z.R.length+1) 0 s z).2 ((2,pR)::aB3 A v sup (lpZ b6 step (z.R.length+1) 0 s z).1)):=by
 have j:∃W,W=lpZ b6 step (z.R.length+1) 0 s z:=⟨_,rfl⟩
 obtain⟨W,j⟩:=j;rw[←j];refine mG (n:=35) tok Tryz.func83 rfl rfl rfl rfl ?_;refine sg rfl (aF (aK (fun q:Nat×(List Sg)×Z×Nat=>mk [(0,rP),(1,.one (.clo 184 [R.vp 2 0])),(2,.one (.clo 143 [R.vp 1 0,R.c (.pt (aG v)),R.vp 6 0,R.c (.pt (aG A))])),(6,I .i64 (q.1:Nat))] ((600,rO L q.2.2.1)::(2,pR)::aB3 A v sup q.2.1)) (fun q=>Inv q.1 q.2.1∧q.1≤60∧ZA L q.2.2.1∧q.2.2.1.e=0∧q.2.2.1.R.length≤N∧q.2.2.1.R.length<q.2.2.2∧moreA b6 q.1 q.2.2.1=q.2.2.1∧W=lpZ b6 step q.2.2.2 q.1 q.2.1 q.2.2.1) (fun q=>q.2.2.1.R.length) (0,s,z,z.R.length+1) ⟨hI,Ac _,h,he,hN,Bk _,pS _ _,j⟩ sl ?_));clear j h he hN hI;rintro⟨n,s,z,f⟩ ⟨hI,hn,h,he,hN,hf,hA,j⟩;dsimp only at hI hn h he hN hf hA j;refine aF (aA (aF (aK (fun y:Z=>mk [(0,rP),(1,.one (.clo 184 [R.vp 2 0])),(2,.one (.clo 143 [R.vp 1 0,R.c (.pt (aG v)),R.vp 6 0,R.c (.pt (aG A))])),(6,I .i64 (n:Nat))] ((600,rO L y)::(2,pR)::aB3 A v sup s)) (fun y=>ZA L y∧y.e=0∧cN z=cN y∧y.R.length≤z.R.length) (fun y=>y.R.length) z ⟨h,he,rfl,le_refl _⟩ sl ?_)));rintro y ⟨h2,u,e2,hle2⟩

 have hm:=eJ h2 u cB;obtain⟨m1,m2,m3⟩:=kI h2;have M:=h2.may cB;have he3:=(gR cB y).trans u;generalize bP cB y=m at hm m1 m2 m3 M he3;obtain⟨b,z3⟩:=m;dsimp only at m1 m2 m3 M he3;refine aA (sk 1 rfl (kc hm ?_));refine az (aB rfl (fun hb=>?_) (fun hb=>?_))
 ·have hb:b=true:=hb;have:=m3 hb;exact aD (aF (aD ⟨z3,⟨M,he3,e2.trans m1.symm,by omega⟩,m3 hb,sl⟩))
 have hb:b=false:=hb;obtain⟨g1,g2⟩:=m2 hb;subst g1;have e3:cN z=z3:=e2.trans g2;clear m1 m2 m3 M e2 hm;have hf0:∃g,f=g+1:=⟨f-1,by omega⟩
 obtain⟨f,rfl⟩:=hf0;rw[lpZ] at j;unfold b5 at j;rw[hA,e3] at j;have hs3:=nZ h2;have hn3:=dH h2;refine aH (aA (sk 1 rfl (kv (args:=[]) hs3 ?_)));refine az (aB rfl (fun hb=>?_) (fun hb=>?_))
 ·have hb:cY b6 z3=true:=hb;rw[θ (show ¬z3.e=0∨cY b6 z3=true from .inr hb)] at j;rw[ξ ω] at j;rw[j,b7 u];exact aE rtN
 have hb:cY b6 z3=false:=hb;have hnb:¬(¬z3.e=0∨cY b6 z3=true):=fun k=>k.elim (fun k=>k u) fun k=>by rw[hb] at k;cases k
 rw[ξ hnb] at j;refine aD ?_;by_cases hn60:n<60
 case neg=>
  have d:decide (((n:Nat):Int)<60)=false:=ψ (by omega);rw[fD (by omega) u] at j;dsimp only at j;rw[ψ cC,ξ ω] at j;rw[j,aI cC];have hmn:=bJ 2 (aX z3).pl;refine sk 5 rfl (kc hn3 ?_);refine ak 1 [] rfl ?_;rw[d];exact kp hmn
 have d:decide (((n:Nat):Int)<60)=true:=φ (by omega);rw[fC (by omega),φ u,θ rfl] at j;have hmo:=bI 2 (aX z3).pl;refine sk 5 rfl (kc hn3 ?_);refine ak 1 [] rfl ?_;rw[d];refine kc hmo ?_;refine az ?_;have ho:=hone n s z3 hI hn60 h2 u (by omega);obtain⟨B,k2,k3,_⟩:=hst n s z3 hI hn60 h2 u;generalize step s z3=y at ho B k2 k3 j;obtain⟨s4,z4⟩:=y;dsimp only at ho B k2 k3 j;by_cases r:z4.e=0
 case neg=>
  have hp:=bB.err ho r;rw[fG r] at j;rw[j,aI r];exact sk 1 rfl (kpv (args:=[]) hp)
 have ho:=bB.ok ho r;have k3:=k3 r;refine sk 1 rfl (kv (args:=[]) ho ?_);refine az (aA (agN [] rfl ?_));have hlp:=B.lp;have E:=lH B cB;have hn4:=dH B;have O:=nZ B;have hmo4:=bI 12 (aX z4).pl;cases U:isZ cB z4 with
 | true=>
  rw[U] at E;have J:moreA b6 (n+1) z4=z4:=ξ fun k=>by rw[U] at k;cases k.2.2.1
  refine aC mixed (ak 1 [] rfl (kc E ?_));refine ak 7 [(2,.bv true),(5,.bv true)] rfl (kc hn4 ?_);refine ak 1 [(2,.bv true),(5,.bv true)] rfl (kc hmo4 ?_);exact az ⟨(n+1,s4,z4,f),⟨k2,by omega,B,r,by dsimp only;omega,by dsimp only;omega,J,j⟩,by dsimp only;omega,sl⟩
 | false=>
  rw[U] at E;cases Y:cY b6 z4 with
  | true=>
   rw[Y] at O;have J:moreA b6 (n+1) z4=z4:=ξ fun k=>by rw[Y] at k;cases k.2.2.2
   refine aC mixed (ak 1 [] rfl (kc E ?_));refine ak 2 [(2,.bv false)] rfl (kvG (args:=[]) O ?_);refine ak 4 [(2,.bv false),(5,.bv false)] rfl (kc hn4 ?_);refine ak 1 [(2,.bv false),(5,.bv false)] rfl (kc hmo4 ?_);exact az ⟨(n+1,s4,z4,f),⟨k2,by omega,B,r,by dsimp only;omega,by dsimp only;omega,J,j⟩,by dsimp only;omega,sl⟩
  | false=>
   rw[Y] at O;have hmn4:=bJ 12 (aX z4).pl;have J:moreA b6 (n+1) z4=⟨z4.R,12,(aX z4).pl⟩:=(θ ⟨succ_pos n,r,U,Y⟩).trans (θ r);have h12:¬(12:Int)=0:=by decide
   have hWb:W.2=⟨z4.R,12,(aX z4).pl⟩:=by
    obtain⟨f,rfl⟩:∃g,f=g+1:=⟨f-1,by omega⟩
    rw[lpZ] at j;unfold b5 at j;rw[J,kP h12,θ (show ¬(Z.mk z4.R 12 (aX z4).pl).e=0∨_ from .inl h12),ξ ω] at j;rw[j]
   rw[hWb,aI h12];refine aC mixed (ak 1 [] rfl (kc E ?_));refine ak 2 [(2,.bv false)] rfl (kvG (args:=[]) O ?_);refine ak 4 [(2,.bv false),(5,.bv false)] rfl (kc hn4 ?_);refine ak 1 [(2,.bv false),(5,.bv false)] rfl (kpD (.tup []) [] hmn4 ?_);exact az trivial
theorem aJj (y v:Tk) (sup:List Str) {step:(List Sg)→Z→(List Sg)×Z}{Inv:Nat→(List Sg)→Prop}{L:List Tk}{N:Nat}
  (I:∀n s z,Inv n s→n<60→ZA L z→z.e=0→z.R.length≤N→bB Tryz.prog 143 ([]++[R.vp 1 0,R.c (.pt (aG v)),R.vp 6 0,R.c (.pt (aG y))].map V.one) ((600,rO L z)::aB3 y v sup s) (fL L (.tup []) (step s z).2 (aB3 y v sup (step s z).1)))
  (E:∀n s z,Inv n s→n<60→ZA L z→z.e=0→ZA L (step s z).2∧Inv (n+1) (step s z).1∧((step s z).2.e=0→(step s z).2.R.length<z.R.length)∧Ze z (step s z).2)
  {z:Z} (h:ZA L z) (he:z.e=0) (U:z.R.length≤N) {s:(List Sg)} (J:Inv 0 s):
  bB Tryz.prog 142 [rP,.one (.clo 143 [R.vp 1 0,R.c (.pt (aG v)),R.vp 6 0,R.c (.pt (aG y))])] ((600,rO L z)::aB3 y v sup s) (fL L (.tup []) (tJ step s z).2 (aB3 y v sup (tJ step s z).1)):=by
 have j:=cQ h he dG;have h1:=h.need dG;have M:=Ze.need dG z;unfold tJ;generalize aQ dG z=B at j h1 M ⊢;have O:B.R.length≤z.R.length:=M;refine mG (n:=12) tok Tryz.func142 rfl rfl rfl rfl ?_;refine sg rfl ?_;by_cases q:B.e=0
 case neg=>
  have hp:=bB.err j q;rw[fG q];dsimp only;rw[bD q,aI q];exact sk 1 rfl (kp hp)
 have j:=bB.ok j q;refine sk 1 rfl (kc j ?_);refine az ?_;have r:=aMu y v sup (step:=step) (Inv:=Inv) (L:=L) (N:=N) I E h1 q (by omega) J;have hok:=(sB (sh:=b6) E (B.R.length+1) 0 s B (Ac _) J h1).1
 generalize lpZ b6 step (B.R.length+1) 0 s B=W at r hok ⊢;obtain⟨s2,z2⟩:=W;dsimp only at r hok ⊢;by_cases u:z2.e=0
 case neg=>
  have hp:=bB.err r u;rw[bD u,aI u];exact sk 3 rfl (kp hp)
 have r:=bB.ok r u;refine sk 3 rfl (kc r ?_);refine az ?_;have j:=cQ hok u b6;generalize aQ b6 z2=z3 at j ⊢;by_cases A:z3.e=0
 case neg=>
  have hp:=bB.err j A;rw[aI A];exact aC mixed (ak 1 [] rfl (kp hp))
 have j:=bB.ok j A;rw[b7 A];refine aC mixed (ak 1 [] rfl (kc j ?_));exact az rtN
def aTi (L:List Tk) (z:Z) (nm v:Tk) (sup:List Str):List (Nat×AObj):=[(600,rO L z),(1,pR),(2,.var 90 [.c (.str []),.c (.int .i64 0),.c (.str []),.c .nl,.c .nl,.c .nl]),(4,.var 139 ((aG nm).map .c)),(5,.var 139 ((aG v).map .c)),(6,.var 90 [.c (.str nm.text),.c (.int .i64 nm.pl),.c (.str v.text),.c .nl,.hs 531 0 sup.length sup.length,.c .nl]),(531,svA (sup.map bE) 0)]
theorem aJh {L:List Tk}(hZ:o5 L) (hwt:wt L≤30000) {z:Z}(h:ZA L z) (he:z.e=0):bB Tryz.prog 88 [rP] [(600,rO L z)] (fL L (.pa (fN (eY z).1)) (eY z).2 []):=by
 unfold eY;have hA:gW z=((bK z).1,(aR 2 (bK z).2).1,(aR 1 (aR 2 (bK z).2).2).1,(aR 1 (aR 2 (bK z).2).2).2):=rfl;rw[hA];have hp:=vG h he hZ;obtain⟨h1,aa,l1⟩:=iC h hwt;generalize bK z=y at hp h1 aa l1 ⊢;obtain⟨ps,z1⟩:=y;dsimp only at hp h1 aa l1 ⊢;refine mG (n:=55) tok Tryz.func88 rfl rfl rfl rfl ?_;refine sg rfl ?_;by_cases A:z1.e=0
 case neg=>
  have hp:=bB.err hp A;have J:(aR 1 (aR 2 z1).2).2=z1:=by rw[kO A];exact kO A
  rw[lV (by dsimp only;rw[J];exact A)];dsimp only;rw[J,aI A];exact sk 1 rfl (kp hp)
 have hp:=bB.ok hp A;refine sk 1 rfl (kc hp ?_);refine kz 1 rfl ?_;have hw:=gK h1 A 2 (by decide);have h2:=h1.word (k:=2) (by decide);generalize aR 2 z1=y at hw h2 ⊢;obtain⟨j,z2⟩:=y;dsimp only at hw h2 ⊢;by_cases E:z2.e=0
 case neg=>
  have hp:=bB.err hw E;have J:(aR 1 z2).2=z2:=kO E;rw[lV (by dsimp only;rw[J];exact E)];dsimp only;rw[J,aI E];exact sk 1 rfl (kp hp)
 have hw:=bB.ok hw E;refine sk 1 rfl (kc hw ?_);refine kz 2 rfl ?_;have hw:=gK h2 E 1 (by decide);have h3:=h2.word (k:=1) (by decide);generalize aR 1 z2=y at hw h3 ⊢;obtain⟨v,z3⟩:=y;dsimp only at hw h3 ⊢;by_cases B:z3.e=0
 case neg=>
  have hp:=bB.err hw B;rw[lV (by exact B)];dsimp only;rw[aI B];exact sk 1 rfl (kp hp)
 have hw:=bB.ok hw B;refine sk 1 rfl (kc hw ?_);refine kz 2 rfl (sg rfl ?_);have hpk:(ps.map aM).length=ps.length:=η _;have r:∃F,F=c9 v.text j.pl ps [] z3:=⟨_,rfl⟩
 obtain⟨F,r⟩:=r;have hB:mL (ps,j,v,z3)=(F.1,aQ dG F.2):=by rw[r];rfl
 rw[hB];have hC:∀w:List Str×Z,mK (ps,j,v,z3) w=lpZ b6 (clS j v) (w.2.R.length+1) 0 [] w.2:=fun w=>sA j v _ _ _ _
 rw[hC];dsimp only;refine aA (sg rfl (AWp.sub (Sub.ownCell (x:=6) (k:=4) (id:=531) 9 1 rfl rfl rfl) ?_));refine aF (aK (fun q:Nat×List Str=>mk [(1,.one (.vp 1 0)),(2,.one (.vp 2 0)),(4,.one (.vp 4 0)),(5,.one (.vp 5 0)),(6,.one (.vp 6 0)),(22,.one (.c (.sl 5 (ps.map aM)))),(23,I .i64 ((ps.map aM).length:Nat)),(24,I .i64 (q.1:Nat))] (aTi L z3 j v q.2)) (fun q=>q.1≤ps.length∧q.2.length=q.1∧F=c9 v.text j.pl (ps.drop q.1) q.2 z3) (fun q=>ps.length-q.1) (0,[]) ⟨Ac _,rfl,r⟩ sl ?_);clear r hB hC hw hp hA;rintro⟨i,sup⟩ ⟨hi,hsl,r⟩;dsimp only at hi hsl r ⊢;have ab:(sup.map bE).length=sup.length:=η _;refine sg rfl (aA (aB rfl (fun hb=>?_) (fun hb=>?_)))
 ·have hlt:=ltD hb hpk;obtain⟨p,hpi⟩:=aN hlt;have hpi':=aY aM hpi;have hds:ps.drop i=p::ps.drop (i+1):=by
   obtain⟨k1,k2⟩:=Af.1 hpi;rw[←k2];exact Aw k1
  rw[hds,c9,θ B] at r;refine aD (aA (aF (sgh [(0,.row i (aM p))] rfl ?_)));have ac:¬(p.ty.form=2∧p.ty.name=v.text)→aQ b6 (lpZ b6 (clS j v) ((aQ dG F.2).R.length+1) 0 [] (aQ dG F.2)).2=⟨z3.R,12,j.pl⟩:=fun hn=>by
   have h12:¬(12:Int)=0:=by decide
   have J:F.2=⟨z3.R,12,j.pl⟩:=by
    rw[ξ hn] at r;unfold bS at r;rw[θ B] at r;rw[r,rC h12]
   have M:¬(Z.mk z3.R 12 j.pl).e=0:=h12;rw[J,bD M,fG M];exact bD M
  have hmn:=bJ 12 j.pl;by_cases O:p.ty.form=2
  case neg=>
   have d:decide (p.ty.form=2)=false:=ψ O;rw[ac (fun k=>O k.1),aI (show ¬(12:Int)=0 by decide)];exact skh 14 [(4,.bv false),(11,.bv false)] rfl (kp hmn)
  have d:decide (p.ty.form=2)=true:=φ O;by_cases U:p.ty.name=v.text
  case neg=>
   have d2:decide (p.ty.name=v.text)=false:=ψ U;rw[ac (fun k=>U k.2),aI (show ¬(12:Int)=0 by decide)];refine skh 14 [(4,.bv true),(11,.bv true)] rfl ?_;rw[d2];exact kp hmn
  have d2:decide (p.ty.name=v.text)=true:=φ U;have hmo:=bI 12 j.pl;rw[θ ⟨O,U⟩] at r;refine skh 14 [(4,.bv true),(11,.bv true)] rfl ?_;rw[d2];refine kc hmo ?_;refine az ?_;have hrows:sup.map bE++[[.str p.cls]]=(sup++[p.cls]).map bE:=by rw[Ai];rfl
  have hle:(sup++[p.cls]).length=sup.length+1:=by rw[ζ];rfl
  have hpl1:=aa.1;exact ag [(4,.all)] rfl (agN [] rfl ⟨(i+1,sup++[p.cls]),⟨hlt,by dsimp only;rw[hle,hsl],r⟩,by dsimp only;omega,sl (hh:=⟨⟨_,rfl,.var rfl⟩,⟨_,rfl,.var rfl⟩,⟨_,rfl,.var rfl⟩,⟨_,rfl,.var rfl⟩,⟨_,rfl,.var rfl⟩,⟨_,rfl,.var (by rw[hle,←ab];rfl)⟩,⟨_,rfl,.arrS hrows⟩,trivial⟩)⟩)
 have hge:=geD hb hpk hi;rw[hge,Ci,c9] at r;subst r;dsimp only;refine aH (AWp.sub (Sub.freeze (id:=531) rfl) ?_);refine AWp.sub (vp 6 [.str j.text,.int .i64 j.pl,.str v.text,.nl,.sl 1 (sup.map bE),.nl] (hp:=.c .refl (.c .refl (.c .refl (.c .refl (.hs rfl ab.symm (Go.AM.take_all ab.symm) (.c .refl .nil))))))) ?_;refine AWp.sub (Sub.ownCell (x:=6) (k:=5) (id:=530) 92 9 rfl rfl rfl) ?_;refine AWp.sub (Sub.fvar (id:=4) (l:=aG j) rfl (by simp[keys])) ?_;refine AWp.sub (Sub.fvar (id:=5) (l:=aG v) rfl (by simp[keys])) ?_;have hst:∀(n:Nat) (s:List Sg) (z:Z),s.length=n→n<60→ZA L z→z.e=0→ZA L (clS j v s z).2∧(clS j v s z).1.length=n+1∧((clS j v s z).2.e=0→(clS j v s z).2.R.length<z.R.length)∧Ze z (clS j v s z).2:=fun n s z hI hn h he=>by
  have k1:=(h.word (k:=1) (by decide)).need eU;obtain⟨g1,_,g3,g4⟩:=fO k1 hwt;have l1:(aR 1 z).2.R.length≤z.R.length:=Ze.word 1 z;have l2:(aQ eU (aR 1 z).2).R.length≤(aR 1 z).2.R.length:=Ze.need _ _;have g4':(bO (aQ eU (aR 1 z).2)).2.R.length≤(aQ eU (aR 1 z).2).R.length:=g4;unfold clS kS;dsimp only;refine⟨g1.long _ _ _,by rw[ζ,hI];rfl,fun h0=>?_,(((Ze.word 1 z).trans (Ze.need _ _)).trans g4).trans (Ze.long _ _ _ _)⟩;by_cases hs:(bO (aQ eU (aR 1 z).2)).2.e=0
  ·have:=g3 hs;have l3:=Ze.long (s++[(⟨(aR 1 z).1.text,(aR 1 z).1.pl,pT j.text v.text (bO (aQ eU (aR 1 z).2)).1⟩:Sg)]).length 16 j.pl (bO (aQ eU (aR 1 z).2)).2;unfold Ze at l3;omega
  ·rw[dM hs] at h0;exact absurd h0 hs
 have hI0:([]:List Sg).length=0:=rfl;have u:=aJj j v sup (step:=clS j v) (Inv:=fun n s=>s.length=n) (L:=L) (N:=z3.R.length) (fun n s z hI hn h he hN=>aQo hZ hwt j v sup s h he (by omega)) hst h3 B (le_refl _) (s:=[]) hI0;unfold tJ at u;dsimp only at u;generalize aQ dG z3=z7 at u ⊢;generalize lpZ b6 (clS j v) (z7.R.length+1) 0 [] z7=W at u ⊢;obtain⟨ms,zB⟩:=W;dsimp only at u ⊢;have hmk:(ms.map c6).length=ms.length:=η _;generalize aQ b6 zB=z8 at u ⊢;by_cases Y:z8.e=0
 case neg=>
  have hp:=bB.err u Y;rw[aI Y];exact sk 2 rfl (kp hp)
 have u:=bB.ok u Y;rw[b7 Y];refine sk 2 rfl (kc u ?_);refine az (AWp.sub (Sub.freeze (id:=530) rfl) ?_);exact sg rfl (aE (rtC trw (hc:=.agg (.c .refl (.c .refl (.c .refl (.c .nl (.c .refl (.hs rfl hmk.symm (Go.AM.take_all hmk.symm) .nil)))))))))
theorem qR (s:Str) (c:b8 Tryz.prog 79 [Go.AM.T s] [] (aC1 (oB s)) []):b8 Tryz.prog 8 [Go.AM.T s] [] (.tup [.pa (mI (dK s).1),atV (dK s).2.1 (if(dK s).2.1=0 then 0 else(dK s).2.2)]) []:=by
 obtain⟨q,hwt,hZ,j⟩:=mS s;exact aCm aQv s c fun z h he _=>aJh hZ hwt h he
def Kq (z z':Z):Prop:=z'.e=0→z.e=0∧z'.p=z.p
theorem Kq.refl (z:Z):Kq z z:=fun h=>⟨h,rfl⟩
theorem Kq.trans {a b c:Z}(h:Kq a b) (k:Kq b c):Kq a c:=fun e=>by
 obtain⟨j,q⟩:=k e;obtain⟨r,u⟩:=h j;exact⟨r,q.trans u⟩
theorem Kq.fail {e p:Int}(he:¬e=0) (z:Z):Kq z (bS e p z):=fun h=>(gF he h).elim
theorem Kq.may (s:Str) (z:Z):Kq z (bP s z).2:=by
 unfold Kq bP;split
 ·exact fun h=>⟨h,rfl⟩
 ·exact fun h=>⟨h,rfl⟩
theorem Kq.need (s:Str) (z:Z):Kq z (aQ s z):=by
 unfold aQ;split
 ·exact Kq.may s z
 ·exact Kq.fail (by decide) z
theorem Kq.word (k:Int) (z:Z):Kq z (aR k z).2:=by
 unfold aR;split
 ·exact fun h=>⟨h,rfl⟩
 ·exact Kq.fail (by decide) z
theorem Kq.words (z:Z):Kq z (aV z).2:=by
 unfold aV;split
 ·exact fun h=>⟨h,rfl⟩
 ·exact Kq.refl z
theorem Kq.long (n m:Nat) (a:Int) (z:Z):Kq z (c7 n m a z):=by
 unfold c7;split
 ·exact Kq.fail (by decide) z
 ·exact Kq.refl z
theorem Kq.semi (z:Z):Kq z (cN z):=by
 unfold cN;split
 ·exact fun h=>⟨h,rfl⟩
 ·exact Kq.refl z
theorem Kq.mA (s:Str) (n:Nat) (z:Z):Kq z (moreA s n z):=by
 unfold moreA;split
 ·exact Kq.fail (by decide) z
 ·exact Kq.refl z
theorem Kq.more (s:Str) (n:Nat) (z:Z):Kq z (b5 s n z).2:=by
 unfold b5;split
 ·exact(Kq.mA s n z).trans (Kq.semi _)
 ·exact((Kq.mA s n z).trans (Kq.semi _)).trans (Kq.long _ _ _ _)
theorem Kq.scheme (z:Z):Kq z (bO z).2:=by
 unfold bO;split
 ·cases h:cW z.R with
  | error e=>obtain⟨e,p⟩:=e;exact fun h0=>absurd h0 (pD h)
  | ok y=>exact fun h=>⟨h,rfl⟩
 ·exact Kq.refl z
theorem Kq.preds (z:Z):Kq z (bK z).2:=by
 unfold bK;split
 ·cases h:dA z.R with
  | error e=>obtain⟨e,p⟩:=e;exact fun h0=>absurd h0 (fV h)
  | ok y=>exact fun h=>⟨h,rfl⟩
 ·exact Kq.refl z
theorem Kq.atom (z:Z):Kq z (eQ z).2:=by
 unfold eQ;cases h:cX (3*z.R.length) 0 z.R with
 | error e=>obtain⟨e,p⟩:=e;exact fun h0=>absurd h0 (dP _ 0 z.R e p h)
 | ok y=>exact fun h=>⟨h,rfl⟩
theorem Kq.fields:∀(f:Nat) (out:List Ty) (z:Z),Kq z (cA f out z).2
 | 0,_,z=>Kq.refl z
 | f+1,out,z=>by
  rw[cA];split
  ·exact(Kq.atom z).trans (Kq.fields f _ _)
  ·exact Kq.refl z
theorem Kq.con (z:Z):Kq z (rA z).2:=((Kq.word 2 z).trans (Kq.fields _ _ _)).trans (Kq.long _ _ _ _)
theorem Kq.cons:∀(f:Nat) (a:Int) (out:List Cn) (z:Z),Kq z (jV f a out z).2
 | 0,_,_,z=>Kq.refl z
 | f+1,a,out,z=>by
  rw[jV];split
  ·exact(((Kq.con z).trans (Kq.long _ _ _ _)).trans (Kq.may _ _)).trans (Kq.cons f a _ _)
  ·exact((Kq.con z).trans (Kq.long _ _ _ _)).trans (Kq.may _ _)
theorem Kq.data (z:Z):Kq z (kT z).2:=by
 have h1:Kq z (kU z).2.2:=(((Kq.word 2 z).trans (Kq.words _)).trans (Kq.long _ _ _ _)).trans (Kq.need _ _);unfold kT jU;dsimp only;split
 ·exact h1.trans (Kq.cons _ _ _ _)
 ·exact h1
theorem Kq.tl (z:Z):Kq z (tlZ z):=fun h=>⟨h,rfl⟩
theorem aEy:∀f:Nat,(∀o z,Kq z (bH f o z).2)∧(∀o z,Kq z (j3 f o z).2)∧(∀o out z,Kq z (gC f o out z).2)
 | 0=>⟨fun o z=>by rw[bH];exact Kq.refl z,fun o z=>by rw[j3];exact Kq.fail (by decide) z,fun o out z=>by rw[gC];exact Kq.refl z⟩
 | f+1=>by
  obtain⟨h1,h2,c⟩:=aEy f;refine⟨fun o z=>?_,fun o z=>?_,fun o out z=>?_⟩
  ·rw[bH];split
   ·exact Kq.refl z
   split
   ·exact Kq.tl z
   split
   ·exact Kq.may _ z
   split
   ·exact Kq.refl z
   split
   ·exact Kq.fail (by decide) z
   ·exact((Kq.need _ z).trans (h2 _ _)).trans (Kq.need _ _)
  ·rw[j3];split
   ·exact(h1 _ _).trans (Kq.fail (by decide) _)
   split
   ·exact(Kq.tl z).trans (c _ _ _)
   ·exact h1 _ _
  ·rw[gC];split
   ·split
    ·exact h1 _ _
    ·exact(h1 _ _).trans (c _ _ _)
   ·exact Kq.refl z
theorem Kq.pair:∀(l:List Sg) (b:List Bd) (z:Z),Kq z (dF l b z).2:=fun l b z h=>by
 have h1:=mF h;rw[h1] at h ⊢;exact⟨h,rfl⟩
def aNt (ex:Nat→Z→Ex×Z):Prop:=∀deep z,Kq z (ex deep z).2
section
variable {ex:Nat→Z→Ex×Z}(hx:aNt ex)
include hx
theorem Kq.one (deep:Nat) (z:Z):Kq z (lO ex deep z).2:=by
 unfold lO;split
 ·exact Kq.refl z
 split
 ·exact Kq.tl z
 split
 ·exact Kq.refl z
 ·exact((Kq.may _ z).trans (hx _ _)).trans (Kq.need _ _)
theorem Kq.apps (deep:Nat) (a:Int):∀(f:Nat) (e:Ex) (z:Z),Kq z (iH ex deep a f e z).2
 | 0,_,z=>Kq.refl z
 | f+1,e,z=>by
  rw[iH];split
  ·split
   ·exact Kq.one hx deep z
   ·exact(Kq.one hx deep z).trans (Kq.apps deep a f _ _)
  ·exact Kq.refl z
theorem Kq.lam (a:Int) (deep:Nat) (z:Z):Kq z (zH ex a deep z).2:=by
 have h0:Kq z (if(aV z).1=[] then bS 12 (aX (aV z).2).pl (aV z).2 else(aV z).2):=by
  split
  ·exact(Kq.words z).trans (Kq.fail (by decide) _)
  ·exact Kq.words z
 exact((h0.trans (Kq.long _ _ _ _)).trans (Kq.need _ _)).trans (hx _ _)
theorem Kq.bind (c:Tk) (deep:Nat) (z:Z):Kq z (dL ex c deep z).2:=(((Kq.words z).trans (Kq.long _ _ _ _)).trans (Kq.need _ _)).trans (hx _ _)
theorem Kq.either (sigs:List Sg) (binds:List Bd) (deep:Nat) (z:Z):Kq z (aZ ex sigs binds deep z).2:=by
 unfold aZ;split
 ·exact((Kq.word _ z).trans (Kq.may _ _)).trans (Kq.scheme _)
 ·exact((Kq.word _ z).trans (Kq.may _ _)).trans (Kq.bind hx _ _ _)
theorem Kq.lets (deep:Nat):∀(f n:Nat) (sigs:List Sg) (binds:List Bd) (z:Z),Kq z (j8 ex deep f n sigs binds z).2
 | 0,_,_,_,z=>Kq.refl z
 | f+1,n,sigs,binds,z=>by
  rw[j8];split
  ·exact((Kq.more _ _ z).trans (Kq.either hx _ _ _ _)).trans (Kq.lets deep f _ _ _ _)
  ·exact Kq.more _ _ z
theorem Kq.let' (a:Int) (deep:Nat) (z:Z):Kq z (zG ex a deep z).2:=
 (((((Kq.need _ z).trans (Kq.lets hx _ _ _ _ _ _)).trans (Kq.need _ _)).trans (Kq.pair _ _ _)).trans (Kq.need _ _)).trans (hx _ _)
theorem Kq.alts (deep:Nat):∀(f n:Nat) (ps:List Pt) (ks:List Ex) (z:Z),Kq z (iY ex deep f n ps ks z).2
 | 0,_,_,_,z=>Kq.refl z
 | f+1,n,ps,ks,z=>by
  rw[iY];split
  ·exact((((Kq.more _ _ z).trans ((aEy _).2.1 _ _)).trans (Kq.need _ _)).trans (hx _ _)).trans (Kq.alts deep f _ _ _ _)
  ·exact Kq.more _ _ z
theorem Kq.case' (a:Int) (deep:Nat) (z:Z):Kq z (jX ex a deep z).2:=by
 have h1:Kq z (jA ex deep (gJ ex deep z)).2:=(((hx _ z).trans (Kq.need _ _)).trans (Kq.need _ _)).trans (Kq.alts hx _ _ _ _ _ _);unfold jX;dsimp only;split
 ·exact(h1.trans (Kq.need _ _)).trans (Kq.fail (by decide) _)
 ·exact h1.trans (Kq.need _ _)
omit hx in
theorem Kq.ann (a:Int) (y:Ex×Z):Kq y.2 (y2 a y).2:=by
 unfold y2;split
 ·exact(Kq.may _ _).trans (Kq.scheme _)
 ·exact Kq.may _ _
theorem Kq.plain (deep:Nat) (z:Z):Kq z (lC ex deep z).2:=by
 unfold lC;refine Kq.trans ?_ (Kq.apps hx _ _ _ _ _);split
 ·exact(Kq.one hx deep z).trans (Kq.fail (by decide) _)
 ·exact Kq.one hx deep z
theorem aMa:aNt (aB8 ex):=fun deep z=>by
 unfold aB8;split
 ·exact Kq.refl z
 split
 ·exact Kq.fail (by decide) z
 split
 ·exact(Kq.may _ z).trans (Kq.lam hx _ _ _)
 split
 ·exact(Kq.may _ z).trans (Kq.let' hx _ _ _)
 split
 ·exact(Kq.may _ z).trans (Kq.case' hx _ _ _)
 ·exact(Kq.plain hx deep z).trans (Kq.ann _ _)
end
theorem aEz:∀f,aNt (aHf f)
 | 0=>fun _ z=>Kq.fail (by decide) z
 | f+1=>aMa (aEz f)
theorem Kq.supers (v:Str) (a:Int):∀(l:List Prd) (out:List Str) (z:Z),Kq z (c9 v a l out z).2
 | [],_,z=>Kq.refl z
 | p::l,out,z=>by
  rw[c9];split
  ·refine Kq.trans ?_ (Kq.supers v a l _ _);split
   ·exact Kq.refl z
   ·exact Kq.fail (by decide) z
  ·exact Kq.refl z
theorem Kq.meths (c v:Str) (a:Int):∀(f n:Nat) (out:List Sg) (z:Z),Kq z (eX c v a f n out z).2
 | 0,_,_,z=>Kq.refl z
 | f+1,n,out,z=>by
  rw[eX];split
  ·exact(((((Kq.more _ _ z).trans (Kq.word _ _)).trans (Kq.need _ _)).trans (Kq.scheme _)).trans (Kq.long _ _ _ _)).trans (Kq.meths c v a f _ _ _)
  ·exact Kq.more _ _ z
theorem Kq.cls (z:Z):Kq z (eY z).2:=
 ((((((Kq.preds z).trans (Kq.word _ _)).trans (Kq.word _ _)).trans (Kq.supers _ _ _ _ _)).trans (Kq.need _ _)).trans (Kq.meths _ _ _ _ _ _ _)).trans (Kq.need _ _)
theorem Kq.forms (a:Int):∀(l:List Prd) (z:Z),Kq z (eC a l z)
 | [],z=>Kq.refl z
 | p::l,z=>by
  rw[eC];refine Kq.trans ?_ (Kq.forms a l _);split
  ·exact Kq.fail (by decide) z
  ·exact Kq.refl z
theorem Kq.ibinds {ex:Nat→Z→Ex×Z}(hx:aNt ex):∀(f n:Nat) (out:List Bd) (z:Z),Kq z (dD ex f n out z).2
 | 0,_,_,z=>Kq.refl z
 | f+1,n,out,z=>by
  rw[dD];split
  ·exact(((Kq.more _ _ z).trans (Kq.word _ _)).trans (Kq.bind hx _ _ _)).trans (Kq.ibinds hx f _ _ _)
  ·exact Kq.more _ _ z
theorem Kq.instV (b:Bool) (z:Z):Kq z (instV b z).2:=by
 cases b with
 | true=>exact(Kq.words z).trans (Kq.need _ _)
 | false=>exact Kq.refl z
theorem Kq.inst {ex:Nat→Z→Ex×Z}(hx:aNt ex) (z:Z):Kq z (lQ ex z).2:=by
 have h1:Kq z (gD z).2.2.2.2:=(((Kq.preds z).trans (Kq.word _ _)).trans (Kq.may _ _)).trans (Kq.word _ _);have h2:=h1.trans (Kq.instV (gD z).2.2.1 _);refine Kq.trans ?_ (Kq.need _ _);refine Kq.trans ?_ (Kq.ibinds hx _ _ _ _);refine Kq.trans ?_ (Kq.need _ _);refine Kq.trans ?_ (Kq.forms _ _ _);split
 ·exact h2.trans (Kq.long _ _ _ _)
 ·exact h2
theorem Kq.decl {ex:Nat→Z→Ex×Z}(hx:aNt ex) (p:Pg) (sigs:List Sg) (z:Z):Kq z (eE ex p sigs z).2:=by
 unfold eE;split
 ·exact(Kq.may _ z).trans (Kq.data _)
 split
 ·exact(Kq.may _ z).trans (Kq.cls _)
 split
 ·exact(Kq.may _ z).trans (Kq.inst hx _)
 ·exact Kq.either hx _ _ _ z
theorem Kq.prog {ex:Nat→Z→Ex×Z}(hx:aNt ex):∀(f n:Nat) (p:Pg) (sigs:List Sg) (z:Z),Kq z (iB ex f n p sigs z).2
 | 0,_,_,_,z=>Kq.refl z
 | f+1,n,p,sigs,z=>by
  rw[iB];split
  ·exact((Kq.more _ _ z).trans (Kq.decl hx _ _ _)).trans (Kq.prog hx f _ _ _ _)
  ·exact Kq.more _ _ z
theorem Kq.endz (z:Z):Kq z (n8 z):=by
 unfold n8;split
 ·exact Kq.fail (by decide) z
 ·exact Kq.refl z
theorem aL2 (s:Str) (h:(dK s).2.1=0):(dK s).2.2=0:=by
 have hb:(cL s).2.p=0∨¬(cL s).2.e=0:=by
  unfold cL;have c:= @sE s;generalize oB s=w at c ⊢;cases w with
  | ok l=>exact .inl rfl
  | error e=>obtain⟨e,p⟩:=e;exact .inr (c rfl)
 have j:Kq (cL s).2 (n8 (fU s).2):=by
  refine Kq.trans ?_ (Kq.endz _);unfold fU;split
  ·exact(Kq.prog (aEz _) _ _ _ _ _).trans (Kq.pair _ _ _)
  ·exact Kq.refl _
 have q:(dK s).2.1=(n8 (fU s).2).e:=by unfold dK;split<;>rfl
 have r:(dK s).2.2=(n8 (fU s).2).p:=by unfold dK;split<;>rfl
 rw[q] at h;obtain⟨u,y⟩:=j h;rw[r,y];rcases hb with hb | hb
 ·exact hb
 ·exact absurd u hb
theorem lG (s:Str) (c:b8 Tryz.prog 79 [Go.AM.T s] [] (aC1 (oB s)) []):b8 Tryz.prog 8 [Go.AM.T s] [] (.tup [.pa (mI (dK s).1),atV (dK s).2.1 (dK s).2.2]) []:=by
 have h:=qR s c;by_cases he:(dK s).2.1=0
 ·rw[θ he] at h;rw[aL2 s he];exact h
 ·rw[ξ he] at h;exact h
theorem vE (a b:List Str) (h:a.length≤600000000000):b8 Tryz.prog 42 [cM a,cM b] [] (B (decide (a=b))) []:=by
 refine bM (n:=26) tok Tryz.func42 rfl rfl rfl ?_;refine sg rfl (aA (sg rfl (aB rfl (fun hb=>?_) (fun hb=>?_))))
 ·have c:¬a=b:=by
   rintro rfl;simp at hb
  refine sg rfl ?_;rw[ψ c];exact aE rtT
 ·have hlen:a.length=b.length:=by
   have:(a.length:Int)=(b.length:Int):=by simpa using hb
   omega
  refine aD (aA (sg rfl (aF ?_)));have q:(a.map bE).length=a.length:=η _;refine aK (fun i:Nat=>mk [(0,cM a),(1,cM b),(5,I .i64 i)] []) (fun i=>i≤a.length∧a.take i=b.take i) (fun i=>a.length-i) 0 ⟨Ac _,by simp⟩ sl ?_;intro i ⟨hi,he⟩;refine aA (sg rfl (aB rfl (fun hb=>?_) (fun hb=>?_)))
  ·have r:=ltD hb q;obtain⟨x,hx⟩:=aN r;obtain⟨y,hy⟩:=aN (show i<b.length by omega);have E:=aY bE hx;have J:=aY bE hy;refine aD (aA (aF (sgh [(2,.row i (bE x)),(6,.row i (bE y))] rfl (aB rfl (fun hb=>?_) (fun hb=>?_)))))
   ·have j:¬x=y:=by simpa using hb
    have c:¬a=b:=by
     rintro rfl;rw[hx] at hy;exact j (Option.some.inj hy)
    rw[ψ c];exact sg rfl (aE rtT)
   ·have j:x=y:=by simpa using hb
    refine aD (ag [] rfl ⟨i+1,⟨r,?_⟩,by dsimp only;omega,sl⟩);rw[i7 hx,i7 hy,he,j]
  ·have u:=geD hb q hi;have A:a=b:=by
    have:=he;rw[u,Aq,A5 (by omega)] at this;exact this
   refine aH ?_;rw[φ A];exact sg rfl (aE (rtT (hc:=.refl)))
noncomputable def aOa {α:Type}(a b:α):Bool:= @decide (a=b) (Classical.propDecidable _)
theorem aKr {α:Type}{a b:α}(h:a=b):aOa a b=true:= @decide_eq_true _ (Classical.propDecidable _) h
theorem aKs {α:Type}{a b:α}(h:¬a=b):aOa a b=false:= @decide_eq_false _ (Classical.propDecidable _) h
theorem aEk {α:Type}{a b:α}(h:aOa a b=true):a=b:= @of_decide_eq_true _ (Classical.propDecidable _) h
theorem aEl {α:Type}{a b:α}(h:aOa a b=false):¬a=b:= @of_decide_eq_false _ (Classical.propDecidable _) h
theorem aIn {α:Type}{l m:List α}(h:l.length=m.length) (he:∀j,j<l.length→l[j]?=m[j]?):l=m:=
 B6 fun j=>by
  by_cases c:j<l.length
  ·exact he j c
  ·rw[List.getElem?_eq_none (by omega),List.getElem?_eq_none (by omega)]
theorem aP3:∀(k:Nat) (t u:Ty),tn t≤k→tn t≤1000000000→b8 Tryz.prog 43 [tyV t,tyV u] [] (B (aOa t u)) []:=by
 intro k
 induction k with
 | zero=>intro t u h;have:=oZ t;omega
 | succ k U=>
 intro t u h J;obtain⟨f,n,s,a⟩:=t;rw[tn] at h J;have hal:=wI a;obtain⟨f',n',s',q⟩:=u;have A:(cF a).length=a.length:=by rw[cJ,η]
 have Y:(cF q).length=q.length:=by rw[cJ,η]
 refine bM (n:=55) tok Tryz.func43 rfl rfl rfl ?_;refine sg rfl (aA (aA (agF 6 [] rfl rfl rfl (aB rfl (fun hb=>?_) (fun hb=>?_)))))
 ·rw[aKs (fun e=>by cases e;simp at hb)];exact sg rfl (aE rtT)
 simp[Ty.form,Ty.n,Ty.name,cK] at hb;obtain⟨d1,d2,d3,d4⟩:=hb;obtain rfl:=χ d1;obtain rfl:=χ d2;obtain rfl:=χ d3;have e4:a.length=q.length:=by have:=χ d4;omega
 refine aD (aA (sg rfl (aF (aK (fun i:Nat=>mk [(2,.one (.vp 2 0)),(3,.one (.vp 3 0)),(5,I .i64 i)] [(2,.var 47 ((bL (.mk f n s a)).map .c)),(3,.var 47 ((bL (.mk f n s q)).map .c))]) (fun i=>i≤a.length∧∀j,j<i→a[j]?=q[j]?) (fun i=>a.length-i) 0 ⟨Ac _,fun j hj=>by omega⟩ sl ?_))));intro i ⟨hi,r⟩;refine aA (sg rfl (aB rfl (fun hb=>?_) (fun hb=>?_)))
 ·have E:i<a.length:=ltD hb A;obtain⟨x,hx⟩:=aN E;obtain⟨y,hy⟩:=aN (l:=q) (k:=i) (by omega);have hx':(cF a)[i]?=some (bL x):=by rw[cJ];exact aY bL hx
  have hy':(cF q)[i]?=some (bL y):=by rw[cJ];exact aY bL hy
  have hc:=U x y (by have:=jB (Ag hx);omega) (by have:=jB (Ag hx);omega);refine aD (aA (aF (skh 10 [(3,.row i (bL x)),(8,.row i (bL y))] rfl (kc hc ?_))));refine kz 1 rfl ?_;cases he:aOa x y with
  | false=>
   have M:=aEl he;refine sg rfl (aB rfl (fun _=>?_) nofun)
   rw[aKs (fun e=>by
    injection e with _ _ _ e;rw[e,hy] at hx
    exact M (Option.some.inj hx).symm)]
   exact sg rfl (aE rtT)
  | true=>
   have heq:=aEk he;refine sg rfl (aB rfl nofun (fun _=>aD (ag [] rfl ⟨i+1,⟨E,fun j hj=>?_⟩,by dsimp only;omega,sl⟩)));by_cases e:j=i
   ·rw[e,hx,hy,heq]
   ·exact r j (by omega)
 have O:=geD hb A hi;subst O;rw[aKr (by rw[aIn e4 r])];exact aH (sg rfl (aE rtT))
theorem aAl (t:Ty) (h:tn t≤1000000000):b8 Tryz.prog 43 [tyV t,tyV t] [] (B true) []:=by
 have:=aP3 (tn t) t t (le_refl _) h;rwa [aKr rfl] at this
theorem oP (l:List Str) (h:l.length≤600000000000):b8 Tryz.prog 42 [cM l,cM l] [] (B true) []:=by
 have:=vE l l h;rwa [φ rfl] at this
theorem aAo (l:List Prd) (hl:l.length≤100000) (h:∀p∈l,tn p.ty≤30000):b8 Tryz.prog 45 [.one (.c (.sl 5 (l.map aM))),.one (.c (.sl 5 (l.map aM)))] [] (B true) []:=by
 have q:(l.map aM).length=l.length:=η _;have d0:(!decide (((l.map aM).length:Int)=((l.map aM).length:Int)))=false:=by rw[φ rfl];rfl
 refine bM (n:=42) tok Tryz.func45 rfl rfl rfl ?_;refine sg rfl (aA (sg rfl (aB rfl (fun hb=>absurd (hb.symm.trans d0) Bool.noConfusion) (fun _=>aD (aA (sg rfl (aF (aK (fun i:Nat=>mk [(0,.one (.c (.sl 5 (l.map aM)))),(1,.one (.c (.sl 5 (l.map aM)))),(5,I .i64 (i:Nat))] []) (fun i=>i≤l.length) (fun i=>l.length-i) 0 (Ac _) sl ?_))))))));intro i hi;refine aA (sg rfl (aB rfl (fun hb=>?_) (fun hb=>?_)))
 ·have j:=ltD hb q;obtain⟨p,hp⟩:=aN j;have r:=aY aM hp;have ht:=aAl p.ty (by have:=h p (Ag hp);omega);have d1:(!decide (p.cls=p.cls))=false:=by rw[φ rfl];rfl
  refine aD (aA (aF (skh 22 [(11,.bv false),(2,.row i (aM p)),(7,.row i (aM p)),(14,.row i (aM p)),(19,.row i (aM p))] rfl (kcG ht ?_))));exact ak 2 [(11,.bv false),(24,.bv false)] rfl (az (aB rfl (fun hb=>Bool.noConfusion hb) (fun _=>aD (agN [] rfl ⟨i+1,j,by dsimp only;omega,sl⟩))))
 ·exact aH (sg rfl (aE rtT))
theorem aFx (s:Sch) (h:tn s.ty≤30000) (hp:∀p∈s.preds,tn p.ty≤30000) (hl:s.preds.length≤100000) (c:s.vars.length≤600000000000):b8 Tryz.prog 102 [.pa (eH s),.pa (eH s)] [] (B true) []:=by
 have h1:=oP s.vars c;have h2:=aAo s.preds hl hp;have j:=aAl s.ty (by omega);refine bM (n:=30) tok Tryz.func102 rfl rfl rfl ?_;refine sg rfl (sk 4 rfl (kc h1 ?_));refine kz 1 rfl (sk 4 rfl (kc h2 ?_));refine kz 1 rfl (sk 4 rfl (kc j ?_));exact kz 1 rfl (sgh [(1,.bv true),(3,.bv true),(4,.bv true),(6,.bv true)] rfl (aE rtT))
theorem aKv (s:Sch) (h:tn s.ty≤30000) (hp:∀p∈s.preds,tn p.ty≤30000) (hl:s.preds.length≤100000) (c:s.vars.length≤600000000000):b8 Tryz.prog 44 [.pa (eH s),.pa (eH s)] [] (B true) []:=by
 have h1:=aFx s h hp hl c;refine bM (n:=17) tok Tryz.func44 rfl rfl rfl ?_;refine sg rfl (sk 2 rfl (kc h1 ?_));exact ak 10 [(3,.bv true),(11,.bv true)] rfl (az (aE rtT))
theorem j7 {α:Type} [DecidableEq α] (a:α):(!decide (a=a))=false:=by rw[φ rfl];rfl
mutual
def psz:Pt→Nat
 | .mk _ _ _ _ l=>aRa l+1
def aRa:List Pt→Nat
 | []=>0
 | p::l=>psz p+aRa l
end
theorem wQ:∀{l:List Pt}{p:Pt},p∈l→psz p≤aRa l
 | [],p,h=>by cases h
 | a::l,p,h=>by
  rw[aRa];rcases Ap.1 h with rfl | h
  ·omega
  ·have:=wQ h;omega
theorem kF:∀{l:List Pt},u6 l→∀p∈l,ptB p
 | a::l,h,p,hp=>by
  rcases Ap.1 hp with rfl | hp
  ·exact h.1
  ·exact kF h.2 p hp
theorem vF:∀(k:Nat) (p:Pt),psz p≤k→ptB p→b8 Tryz.prog 21 [.pa (bG p),.pa (bG p)] [] (B true) []
 | 0,p,h,_=>by cases p;rw[psz] at h;omega
 | k+1,p,h,hB=>by
  obtain⟨f,pl,n,s,l⟩:=p;rw[psz] at h;have hq:=aAl zTy (by unfold zTy;rw[tn,tns];decide);have r:=hB.1;have q:(j9 (.mk f pl n s l)).length=l.length:=by rw[gV,η];rfl
  have d1:=j7 f;have d2:=j7 pl;have d3:=j7 n;have d4:=j7 s;have d5:=j7 ((j9 (.mk f pl n s l)).length:Int);have d6:=j7 ((([]:List (List C)).length:Nat):Int);refine bM (n:=97) tok Tryz.func21 rfl rfl rfl ?_;refine sg rfl (aA (skh 49 [(5,.bv false),(11,.bv false),(12,.bv false),(18,.bv false),(19,.bv false),(25,.bv false),(26,.bv false),(34,.bv false),(35,.bv false),(43,.bv false),(44,.bv false),(51,.bv false)] rfl (kcG hq ?_)));refine ak 2 [(5,.bv false),(11,.bv false),(12,.bv false),(18,.bv false),(19,.bv false),(25,.bv false),(26,.bv false),(34,.bv false),(35,.bv false),(43,.bv false),(44,.bv false),(51,.bv false)] rfl (az (aB rfl (fun hb=>Bool.noConfusion hb) (fun _=>aD (aA (sg rfl (aF (aK (fun _:Nat=>mk [(2,.one (.vp 2 0)),(3,.one (.vp 3 0)),(5,I .i64 0)] [(2,.var 49 ((bG (.mk f pl n s l)).map .c)),(3,.var 49 ((bG (.mk f pl n s l)).map .c))]) (fun _=>True) (fun _=>0) 0 trivial sl ?_)))))));intro i _;refine aA (sg rfl (aB rfl (fun hb=>absurd hb (by decide)) (fun _=>aH (aA (sg rfl (aF (aK (fun i:Nat=>mk [(2,.one (.vp 2 0)),(3,.one (.vp 3 0)),(6,I .i64 (i:Nat))] [(2,.var 49 ((bG (.mk f pl n s l)).map .c)),(3,.var 49 ((bG (.mk f pl n s l)).map .c))]) (fun i=>i≤l.length) (fun i=>l.length-i) 0 (Ac _) sl ?_)))))));intro i hi;refine aA (sg rfl (aB rfl (fun hb=>?_) (fun hb=>?_)))
  ·have j:=ltD hb q;obtain⟨x,hx⟩:=aN j;have u:(j9 (.mk f pl n s l))[i]?=some (bG x):=by rw[gV];exact aY bG hx
   have hm:=Ag hx;have hc:=vF k x (by have:=wQ hm;omega) (kF hB.2 x hm);refine aD (aA (aF (skh 10 [(3,.row i (bG x)),(8,.row i (bG x))] rfl (kc hc ?_))));exact kz 1 rfl (aB rfl (fun hb=>Bool.noConfusion hb) (fun _=>aD (agN [] rfl ⟨i+1,j,by dsimp only;omega,sl⟩)))
  ·exact aH (sg rfl (aE rtT))
def aRj (n:Int):Str:=Lib.decDigits n.toNat
def aBw (n:Int):Prop:=0≤n∧n≤2147483647
theorem aAb {n:Int}(h:aBw n):(aRj n).length≤20:=qE _ (by have:=h.2;omega)
theorem aF4 {n:Int}(h:aBw n):b8 Tryz.prog 68 [I .i64 n] [] (Go.AM.T (aRj n)) []:=by
 have:=aMy n.toNat (by have:=h.2;omega);rwa [Int.toNat_of_nonneg h.1] at this
mutual
def ptW:Pt→Nat
 | .mk _ _ _ s l=>s.length+24+u5 l
def u5:List Pt→Nat
 | []=>0
 | p::l=>ptW p+u5 l
end
mutual
def prP:Pt→Str
 | .mk f _ n s l=>if f=1 then [95] else if f=3 then aRj n else s++wD l
def wD:List Pt→Str
 | []=>[]
 | p::l=>[32]++brk (decide (0<p.kids.length)) (prP p)++wD l
end
mutual
def aRc:Pt→Prop
 | .mk _ _ n _ l=>aBw n∧qP l
def qP:List Pt→Prop
 | []=>True
 | p::l=>aRc p∧qP l
end
theorem fX:∀{l:List Pt},qP l→∀p∈l,aRc p
 | a::l,h,p,hp=>by
  rcases Ap.1 hp with rfl | hp
  ·exact h.1
  ·exact fX h.2 p hp
theorem oI:∀{l:List Pt}{p:Pt},p∈l→ptW p≤u5 l
 | a::l,p,h=>by
  rw[u5];rcases Ap.1 h with rfl | h
  ·omega
  ·have:=oI h;omega
theorem pL:∀(l:List Pt) (i:Nat),u5 (l.take i)≤u5 l
 | [],i=>by rw[List.take_nil];exact le_refl _
 | p::l,0=>Ac _
 | p::l,i+1=>by
  rw[A8,u5,u5];have:=pL l i;omega
theorem nJ:∀(l:List Pt) (i:Nat),qP l→qP (l.take i)
 | [],i,_=>by rw[List.take_nil];trivial
 | p::l,0,_=>trivial
 | p::l,i+1,h=>⟨h.1,nJ l i h.2⟩
mutual
theorem u9:∀p:Pt,aRc p→(prP p).length+3≤ptW p
 | .mk f pl n s l,h=>by
  have h1:=rZ l h.2;have h2:=aAb h.1;rw[prP,ptW];split
  ·show 1+3≤_;omega
  split
  ·omega
  ·rw[ζ];omega
theorem rZ:∀l:List Pt,qP l→(wD l).length≤u5 l
 | [],_=>le_refl _
 | p::l,h=>by
  have h1:=u9 p h.1;have h2:=rZ l h.2;have c:=dR (decide (0<p.kids.length)) (prP p);rw[wD,u5,ζ,ζ,ε,length_nil];omega
end
theorem yR:∀(l m:List Pt),wD (l++m)=wD l++wD m
 | [],m=>rfl
 | p::l,m=>by rw[Bl,wD,wD,yR l m];simp
theorem lU:∀(k:Nat) (p:Pt),psz p≤k→aRc p→ptB p→ptW p≤1000000000→b8 Tryz.prog 30 [.pa (bG p)] [] (Go.AM.T (prP p)) []
 | 0,p,h,_,_,_=>by cases p;rw[psz] at h;omega
 | k+1,p,h,j,hB,U=>by
  obtain⟨f,pl,n,s,l⟩:=p;rw[psz] at h;have hM:3000000000≤maxLen:=by decide
  have ab:=hB.1;have r:(j9 (.mk f pl n s l)).length=l.length:=by rw[gV,η];rfl
  have hi:=aF4 j.1;rw[ptW] at U;rw[prP];refine bM (n:=36) tok Tryz.func30 rfl rfl rfl ?_;refine sg rfl (aA (sg rfl (aF (sg rfl ?_))));by_cases h1:f=1
  ·have d1:decide (f=1)=true:=φ h1;rw[θ h1];exact aB rfl (fun _=>sg rfl (aE rtT)) (fun hb=>Bool.noConfusion (hb.symm.trans d1))
  have d1:decide (f=1)=false:=ψ h1;rw[ξ h1];refine aB rfl (fun hb=>Bool.noConfusion (hb.symm.trans d1)) (fun _=>sg rfl ?_);by_cases q:f=3
  ·have d3:decide (f=3)=true:=φ q;rw[θ q];refine aB rfl (fun _=>sk 2 rfl (kc hi ?_)) (fun hb=>Bool.noConfusion (hb.symm.trans d3));exact kz 1 rfl (aE rtT)
  have d3:decide (f=3)=false:=ψ q;rw[ξ q];refine aB rfl (fun hb=>Bool.noConfusion (hb.symm.trans d3)) (fun _=>aD (sg rfl (aA (sg rfl (aF (aK (fun i:Nat=>mk [(3,Go.AM.T (s++wD (l.take i))),(18,.one (.c (.sl 10 (j9 (.mk f pl n s l))))),(19,I .i64 ((j9 (.mk f pl n s l)).length:Nat)),(20,I .i64 (i:Nat))] []) (fun i=>i≤l.length) (fun i=>l.length-i) 0 (Ac _) (sl (he:=⟨by rw[take_zero,wD,Cc];rfl,rfl,rfl,rfl,trivial⟩)) ?_))))));intro i A;have ac:=pL l i;have ad:=rZ (l.take i) (nJ l i j.2);refine sg rfl (aA (aB rfl (fun hb=>?_) (fun hb=>?_)))
  ·have u:=ltD hb r;obtain⟨x,hx⟩:=aN u;have ae:(j9 (.mk f pl n s l))[i]?=some (bG x):=by rw[gV];exact aY bG hx
   have hm:=Ag hx;have af:=oI hm;have hc:=lU k x (by have:=wQ hm;omega) (fX j.2 x hm) (kF hB.2 x hm) (by omega);have ah:=u9 x (fX j.2 x hm);have B:(j9 x).length=x.kids.length:=by rw[gV,η]
   have E:=eP (prP x) (decide ((0:Int)<((j9 x).length:Nat))) (by omega);have ai:=dR (decide ((0:Int)<((j9 x).length:Nat))) (prP x);have J:decide (0<x.kids.length)=decide ((0:Int)<((j9 x).length:Nat)):=by
    rw[B];by_cases h0:0<x.kids.length
    ·rw[φ h0,φ (by omega)]
    ·rw[ψ h0,ψ (by omega)]
   have M:l.take (i+1)=l.take i++[x]:=i7 hx;have y:s++wD (l.take i)++([32]++brk (decide ((0:Int)<((j9 x).length:Nat))) (prP x))=s++wD (l.take (i+1)):=by
    rw[M,yR,wD,wD,J];simp
   have Y:=pL l (i+1);have aa:=rZ (l.take (i+1)) (nJ l (i+1) j.2);have hlen:(s++wD (l.take i)++([32]++brk (decide ((0:Int)<((j9 x).length:Nat))) (prP x))).length≤2000000000:=by rw[y,ζ];omega
   clear hlen J;generalize brk (decide ((0:Int)<((j9 x).length:Nat))) (prP x)=B0 at *;refine aD (aA (aF (sgh [(0,.row i (bG x))] rfl (aC mixed (ak 2 [] rfl (kc hc ?_))))));refine ak 4 [] rfl (kc E ?_);exact kz 3 rfl (agN [] rfl ⟨i+1,u,by dsimp only;omega,sl (he:=⟨by rw[←y];rfl,rfl,rfl,rfl,trivial⟩)⟩)
  ·have O:=geD hb r A;subst O;rw[Aq];exact aH (sg rfl (aE rtT))
end Go.Proofs.YtpmheldmadendaaGreatDoor
