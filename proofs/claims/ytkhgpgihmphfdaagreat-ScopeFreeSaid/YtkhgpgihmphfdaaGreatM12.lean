/-
  Texts Rd62 to Sc6 in one.
-/
import Derived.Test.YtkhgpgihmphfdaaGreatM11
open List (append_assoc append_nil drop_append_of_le_length drop_drop drop_eq_getElem_cons drop_length drop_take drop_zero filter_cons filter_eq_self flatten_append flatten_cons foldl_append length_append length_cons length_drop length_map length_nil length_replicate length_set length_take map_append map_cons map_nil map_set map_toArray mem_append mem_cons mem_cons_of_mem mem_cons_self mem_of_mem_take mem_singleton nil_append not_mem_nil replicate_succ take_add_one take_append_drop take_left' take_length take_of_length_le take_succ_cons take_take take_zero)
open Nat (add_zero le_refl le_trans lt_succ_self mul_le_mul_right mul_one sub_self sub_zero succ_pos zero_add zero_le zero_mul)
namespace Go.Proofs.YtkhgpgihmphfdaaGreat
open Go Go.AM
set_option maxRecDepth 20000
set_option maxHeartbeats 4000000
def iM:AObj:=.var 75 [.c .nl,.c .nl,.c .nl,.c .nl]
def pgO (p:Pg):AObj:=.var 75 ((mI p).map .c)
theorem aUa {L:List Tk}{z g:Z}{p:Pg}(h:aU Tryz.prog 54 [rP] [(600,rO L z)] (.pa (mI p)) [(600,rO L g)]):aU Tryz.prog 53 ([rP]++[R.vp 9 0].map V.one) [(600,rO L z),(9,iM)] (.tup []) [(600,rO L g),(9,pgO p)]:=by
 refine bC (n:=5) tok Tryz.func53 rfl rfl rfl ?_;refine aC mixed (ak 1 [] rfl (kc h ?_));exact kz 1 rfl rtN
theorem aQg {L:List Tk}{z:Z}{v:Value}(h:aB2 Tryz.prog 54 [rP] [(600,rO L z)] v) (S:Sto) (μ:Mu) (w:World) (vals:List Value) (B:Go.AM.Inv ⟨w,S,i9 μ (Go.AM.look [(600,rO L z),(9,iM)]),μ,Go.AM.look [(600,rO L z),(9,iM)]⟩ S μ (Go.AM.look [(600,rO L z),(9,iM)]) w)
  (E:aV S μ (Go.AM.look [(600,rO L z),(9,iM)]) ([rP]++[R.vp 9 0].map V.one) vals):Calls Tryz.prog 53 ⟨vals⟩ w fun e w'=>∃S' μ' hout,e=.panicked [{ v:=v,recovered:=false }]∧(∀id o,Go.AM.look hout id=some o→∃o',Go.AM.look [(600,rO L z),(9,iM)] id=some o')∧(∃x,hout=[(600,x),(9,iM)])∧Go.AM.Inv ⟨w,S,i9 μ (Go.AM.look [(600,rO L z),(9,iM)]),μ,Go.AM.look [(600,rO L z),(9,iM)]⟩ S' μ' (Go.AM.look hout) w':=by
 refine(Go.AM.Wd.calls (ro:=none) (n:=0)).1 (callsIn_of_wp_defers Tryz.func53 rfl trivial ?_);have u:=aEh (n:=5) (k:=(Tryz.f53).ntmps) rfl rfl B E;refine wpIn_mono (oR.wp mixed (aWx (v:=v) [(600,rO L z)] [(0,rP)] u rfl ⟨rfl,trivial⟩ rfl ⟨rfl,trivial⟩ rfl rfl rfl ?_)) ?_
 ·exact ak 1 [] rfl (kp h (hq:=rfl))
 rintro e y w' ⟨rfl,I,_,S',J,hout,A,g,M⟩;show LeavesIn _ _ _ _ y.tmps _ y.defers (.panicking _) w';rw[I];have O:Go.AM.look hout 9=none:=by
  cases hl:Go.AM.look hout 9 with
  | none=>rfl
  | some o=>obtain⟨o',ho⟩:=A 9 o hl;cases ho
 have hx:∃x,fE (mk (xC 0 ([rP]++[R.vp 9 0].map V.one)) [(600,rO L z),(9,iM)]).h (outs hout)=Go.AM.look [(600,x),(9,iM)]:=by
  refine⟨(Go.AM.look hout 600).getD (rO L z),funext fun id=>?_⟩;rw[dH];by_cases q:id=600
  ·subst q;cases hl:Go.AM.look hout 600 with
   | none=>rfl
   | some o=>rfl
  ·have hn:Go.AM.look hout id=none:=by
    cases hl:Go.AM.look hout id with
    | none=>rfl
    | some o=>
     obtain⟨o',ho⟩:=A id o hl;simp[Go.AM.look] at ho;exact absurd ho.1 q
   rw[hn];show Go.AM.look [(600,rO L z),(9,iM)] id=_;simp[Go.AM.look,q]
 obtain⟨x,hx⟩:=hx;rw[hx] at g;refine⟨S',J,[(600,x),(9,iM)],rfl,fun id o ho=>?_,⟨x,rfl⟩,g⟩;have hm:=b7 ho;rcases Ar.1 hm with hm | hm
 ·obtain⟨rfl,rfl⟩:=Prod.mk.inj hm;exact⟨_,rfl⟩
 ·obtain⟨rfl,rfl⟩:=Prod.mk.inj (As.1 hm);exact⟨_,rfl⟩
theorem xJ {w0:World}{S0 S:Sto}{μ0 μ:Mu}{st:St}{a:Act}{w:World}{u:Value}(g:AObj) (b:Bool) (e p:Int) (y A:FrameMode) (hok:(subset (atV e p).refs (keys [(9,g)])&&subset (eH [(9,g)]) (keys [(9,g)])&&Go.AM.distinct (keys [(9,g)])&&subset (keys [(9,iM)]) (keys [(9,g)])&&([(9,iM)].all fun p=>p.2.plain)&&([(9,g)].all fun p=>p.2.plain))=true)
  (hs:Sim ⟨w0,S0,i9 μ0 (Go.AM.look [(9,iM)]),μ0,Go.AM.look [(9,iM)]⟩ 38 S μ st a w) (hd:st.d=[]) (I:st.e 4=some (.one (.vp 4 0))) (U:st.e 17=some (.one (.clo 87 [.vp 4 0]))) (Y:st.h 4=some (atO 0 0)) (aa:st.h 9=some g) (ab:Ole (fun i=>i) g g)
  (hk:Kp 17 (.func (.func 87) #[] ⟨[u]⟩) a)
  (hu:∀(B:Frame) (cs:List Frame),B.mode=y→(b=true∧recoverD (B::cs)=some (rN e p,{ B with mode:=A }::cs))∨(b=false∧recoverD (B::cs)=none∧A=y∧e=0∧p=0)) (J:y≠ .run) (M:settle A=.returning):
  LeavesIn (Wd none) 0 Tryz.prog Tryz.f52 a.tmps (fun en w'=>∃S' μ' v,en=.returned v∧Go.AM.Inv ⟨w0,S0,i9 μ0 (Go.AM.look [(9,iM)]),μ0,Go.AM.look [(9,iM)]⟩ S' μ' (Go.AM.look [(9,g)]) w'∧aN S' μ' (Go.AM.look [(9,g)]) (atV e p) v) (pU a [{ target:=.fn (.func 87) ⟨[u]⟩,args:= #[] }]).defers y w:=by
 have hda:a.defers=[]:=by have:=hs.defers;rw[hd] at this;exact this
 show LeavesIn _ _ _ _ _ _ (a.defers++_) _ _;rw[hda,A9];have hh:∀id o,Go.AM.look [(4,atO 0 0)] id=some o→st.h id=some o∧o≠ .dead:=by
  intro id o ho;obtain⟨rfl,rfl⟩:=Prod.mk.inj (As.1 (b7 ho));exact⟨Y,fun k=>by cases k⟩
 have hI:=hs.inv.hand hh rfl;have E:∀i∈keys [(4,atO 0 0)],Go.AM.Good st.h (Go.AM.look [(4,atO 0 0)]) (fun i=>i) i:=by
  intro i hi;obtain⟨o,ho⟩:=c6 hi;obtain⟨h1,h2⟩:=hh i o ho;exact⟨o,o,h1,ho,.refl_id h2⟩
 have q:=hs.env 17 _ U;have hk':a.tmps.getD 17 undef=.func (.func 87) #[] ⟨[u]⟩:=hk;rw[hk'] at q;have hvu:aV S μ st.h [.one (.vp 4 0)] [u]:=by
  simp only[aN,aX,aP] at q;obtain⟨vs,h1,v,vs',h2,h3,I⟩:=q;subst I h2;cases h1;simp only[aV,aN];exact⟨_,_,rfl,h3,rfl⟩
 have O:aV S μ (Go.AM.look [(4,atO 0 0)]) [.one (.vp 4 0)] [u]:=by
  have:=aV.ren (H:=st.h) (H':=Go.AM.look [(4,atO 0 0)]) (σ:=fun i=>i) [.one (.vp 4 0)] [u] (fun i hi=>E i (by simpa [V.refsL,V.refs,R.refs,keys] using hi)) (by rw[V.renL_id];exact hvu);exact this
 have hb1:fI Tryz.prog 87:=aDe (by kernel_rfl);have hi:(invoke (.fn (.func 87) ⟨[u]⟩) #[]).run Tryz.prog w=.ok (.enter 87 ⟨[u]⟩) w:=by
  simp only[invoke];rw[dK hb1];simp
 refine leavesIn_cons J (fun h=>by simp[Go.AM.Wd] at h) hi (fun _ _=>trivial) (CallsDIn.mono (aTf b e p _ hI O y A hu) ?_);rintro en u' w' ⟨⟨v,rfl⟩,rfl,S',μ',hI6⟩;dsimp only;rw[M];obtain⟨μ2,q1,q2,q3,q4⟩:=hs.inv.back (hin:=[(4,atO 0 0)]) (hout:=[(4,atO e p)]) (fun id o ho=>(hh id o ho).1) (fun id o ho=>.inl (by obtain⟨rfl,_⟩:=Prod.mk.inj (As.1 (b7 ho));exact⟨_,rfl⟩)) hI6;have hs6:Sim ⟨w0,S0,i9 μ0 (Go.AM.look [(9,iM)]),μ0,Go.AM.look [(9,iM)]⟩ 38 S' μ2 ⟨st.e,fE st.h (outs [(4,atO e p)]),st.d⟩ a w':=⟨q2,hs.size,hs.defers.evolve q3,fun t v e=>aN.evolve q3 v _ (hs.env t v e)⟩
 have g4:fE st.h (outs [(4,atO e p)]) 4=some (atO e p):=by rw[dH];rfl
 have g9:fE st.h (outs [(4,atO e p)]) 9=some g:=by rw[dH];exact aa
 have hf:Fin tr.flat Tryz.f52 ⟨st.e,fE st.h (outs [(4,atO e p)]),st.d⟩ [(9,iM)] (atV e p) [(9,g)]:=(rtC (fn:=Tryz.f52) (st:=⟨st.e,fE st.h (outs [(4,atO e p)]),st.d⟩) (hin:=[(9,iM)]) (hout:=[(9,g)]) (res:=atV e p) trw (ha:=I) (hh:=g4) (ho:=⟨⟨_,g9,ab⟩,trivial⟩) (hok:=hok)).2
 obtain⟨v2,k1,k2,k3⟩:=aGa (fn:=Tryz.f52) tok hs6 hf;exact⟨v2,k1,_,_,_,rfl,k2,k3⟩
section
variable {m:Nat}{P:Program}{ops:Array Oper}{Q:Exit→Act→World→Prop}{i:Nat}{a:Act}{w:World}{o:Oper}{K:Act→World→Prop}
theorem aN3 {x:Operand}{ts:Array TypeId}{f:FuncId}{caps:Array Value}(ho:ops[i]?=some o) (q:o.guard=none) (g:o.op=.defer { callee:=.value x,args:= #[],argTypes:=ts }) (u:o.dst=none) (hx:a.eval x=.func (.func f) #[] caps)
  (y:K ⟨a.tmps,{ target:=.fn (.func f) caps,args:= #[] }::a.defers⟩ w):wpOpIn (Go.AM.Wd none) m P ops Q i K a w:=by
 unfold wpOpIn;simp only[ho];rw[θ (by simp[Region.wanted,q])];refine⟨fun _ _=>trivial,?_⟩;have A:(o.semAt none a.eval).run P w=.ok (.defer { target:=.fn (.func f) caps,args:= #[] }) w:=by
  rw[Oper.semAt_none];simp[execOp,g,resolve,hx,Deferred.ofValue]
 show o.uponIn (Go.AM.Wd none) m P a K Q ((o.semAt none a.eval).run P w);rw[A,Oper.uponIn_defer,u];exact y
theorem aCq (ho:ops[i]?=some o) (g:o.guard=none) (h:o.wpIn (Go.AM.Wd none) m P a w K Q):wpOpIn (Go.AM.Wd none) m P ops Q i K a w:=by
 unfold wpOpIn;simp only[ho];rw[θ (by simp[Region.wanted,g])];exact h
end
theorem aDa (s:Str) (l:List Tk) (E:aU Tryz.prog 86 [Go.AM.T s] [] (.tup [.one (.c (.sl 4 (l.map aI))),atV 0 0]) []) (pg:Pg) (g:Z) (hA:ZA l g) (A:bF Tryz.prog 54 [rP] [(600,rO l ⟨l,0,0⟩)] (fZ l (.pa (mI pg)) g [])):
  aU Tryz.prog 52 [Go.AM.T s,.one (.clo 53 [.vp 9 0])] [(9,iM)] (atV (iZ g).e (if(iZ g).e=0 then 0 else(iZ g).p)) [(9,if g.e=0 then pgO pg else iM)]:=by
 have er:rO l ⟨l,0,0⟩=.var 166 [.c (.sl 4 (l.map aI)),.c (.int .i64 0)]:=by unfold rO;dsimp only;rw[B8];rfl
 unfold atV at E;intro S μ w vals hI hv;refine(Go.AM.Wd.calls (ro:=none) (n:=0)).1 (callsIn_of_wp_defers Tryz.func52 rfl trivial ?_);have hs0:=aEh (n:=38) (k:=(Tryz.f52).ntmps) rfl rfl hI hv;refine Cs (aVg mixed hs0 ?_);refine ak 1 [(0,.id 4)] rfl (az ?_);intro S1 μ1 a1 w1 hs1;refine Cs (aVg mixed hs1 ?_);refine ak 1 [] rfl (kc E ?_);refine kz 6 rfl ?_;intro S2 I a2 w2 hs2;refine Cs (Cs (aVg mixed hs2 ?_));refine kz 3 rfl ?_;intro S3 μ3 a3 w3 hs3;have hb:=hs3.env 15 _ rfl;simp only[aN,aX,Rep] at hb;refine wpIn_cond (t:=false) hb ?_;refine wpIn_skip ?_;refine Cs (wpIn_region ?_);show wpOpsIn _ _ _ _ _ [0,1] _ _;rw[Bo];refine(g_ rfl rfl (r2 (l:=[.vp 4 0]) rfl rfl (eD rfl) rfl)) _ (fC.refl _ _) _ S3 μ3 a3 w3 _ _ hs3 (fun S4 μ4 a4 w4 J=>?_) none;rw[Bo];have hd4:a4.defers=[]:=J.defers;have hv4:=J.env 17 _ rfl;simp only[aN,aX,aP] at hv4;obtain⟨vs,hv5,u,vs',rfl,_,rfl⟩:=hv4;have hk4:Kp 17 (.func (.func 87) #[] ⟨[u]⟩) a4:=hv5;refine aN3 rfl rfl rfl rfl hv5 ?_;have he:(⟨a4.tmps,({ target:=.fn (.func 87) ⟨[u]⟩,args:= #[] }:Deferred)::a4.defers⟩:Act)=pU a4 [{ target:=.fn (.func 87) ⟨[u]⟩,args:= #[] }]:=by unfold pU;rw[hd4];rfl
 rw[he];refine Cs (aUv mixed J hk4 rfl ?_);refine ak 5 [(3,.id 600)] rfl (az ?_);intro S5 μ5 a5 w5 hk5 hs5;by_cases q:g.e=0
 case neg=>
  have hp:=bF.err A q;have M:iZ g=g:=ξ fun k=>q k.1
  rw[M,ξ q,ξ q];refine Cs (oR.wp (draw:=false) mixed (oR.ext (Q:=fun e a w'=>(e=pan (rN g.e g.p)∧∃S' μ' st',Sim ⟨w,S,i9 μ (Go.AM.look [(9,iM)]),μ,Go.AM.look [(9,iM)]⟩ 38 S' μ' st' a w'∧st'.d=[]∧st'.e 4=some (.one (.vp 4 0))∧st'.e 17=some (.one (.clo 87 [.vp 4 0]))∧st'.h 4=some (atO 0 0)∧st'.h 9=some iM)∧Kp 17 (.func (.func 87) #[] ⟨[u]⟩) a) ?_ (oR.kp rfl ?_ hk5 ?_)))
  ·rintro e a w' ⟨⟨rfl,S',μ',st',hs',O,h4,h17,hh4,hh9⟩,B⟩;exact xJ iM true g.e g.p (.panicking [{ v:=rN g.e g.p,recovered:=false }]) (.panicking [{ v:=rN g.e g.p,recovered:=true }]) rfl hs' O h4 h17 hh4 hh9 (.var rfl) B (fun c₀ cs hc=>.inl ⟨rfl,by simp only[recoverD,hc]⟩) (fun k=>by cases k) rfl
  ·rintro⟨a,w,h,_⟩;cases h
  unfold oR;dsimp only;show wpOpsIn _ _ _ _ _ [0,1,2] _ _;rw[Bo];refine(g_ rfl rfl (aEu rfl rfl (eD rfl) rfl)) _ (fC.refl _ _) _ S5 μ5 a5 w5 _ _ hs5 (fun S6 μ6 U w6 y=>?_) none;rw[Bo];refine(g_ rfl rfl (aEu rfl rfl (eD rfl) rfl)) _ (fC.refl _ _) _ S6 μ6 U w6 _ _ y (fun S7 μ7 a7 w7 hs7=>?_) none;rw[Bo];rw[er] at hp;refine aCq rfl rfl (aTe (v:=rN g.e g.p) (good:=fun hout=>∃x,hout=[(600,x),(9,iM)]) (args:=[rP]) (caps:=[.vp 9 0]) (f:=53) [(600,rO l ⟨l,0,0⟩),(9,iM)] (aDe (by kernel_rfl)) rfl rfl (fun S μ w vals hI hv=>aQg (by rw[er];exact hp) S μ w vals hI hv) (.cons rfl .refl .nil) ⟨by rw[er];rfl,rfl,trivial⟩ rfl hs7 ?_);rintro S' μ8 hout w' ⟨x,rfl⟩ hI8 Y;exact⟨rfl,S',μ8,⟨_,_,_⟩,⟨hI8,hs7.size,hs7.defers.evolve Y,fun t v e=>aN.evolve Y v _ (hs7.env t v e)⟩,rfl,rfl,rfl,rfl,rfl⟩
 have A:=bF.ok A q;rw[θ q];have hP1:=aUa A;rw[er] at hP1;refine Cs (aUv mixed hs5 hk5 rfl ?_);refine ak 2 [] rfl (kv (args:=[rP]) hP1 ?_);refine az ?_;intro S6 μ6 U w6 aa y;have hn:=dU hA;by_cases B:(b4 g).kind=6
 case neg=>
  have M:iZ g=⟨g.R,12,(b4 g).pl⟩:=(θ ⟨q,B⟩).trans (θ q);have h12:¬(12:Int)=0:=by decide
  rw[M];dsimp only;rw[ξ h12];have d:decide ((b4 g).kind=6)=false:=ψ B;have hmn:=bM 12 (b4 g).pl;refine Cs (oR.wp mixed (oR.ext (Q:=fun e a w'=>((e=pan (rN 12 (b4 g).pl)∧a.defers=[]∧a.tmps.size=38∧∃S' I hout,(∀id o,Go.AM.look hout id=some o→∃o',Go.AM.look [(600,rO l g)] id=some o')∧Go.AM.Inv ⟨w,S,i9 μ (Go.AM.look [(9,iM)]),μ,Go.AM.look [(9,iM)]⟩ S' I (fE _ (outs hout)) w'∧Evolve S6 μ6 _ S' I (fE _ (outs hout)))∧Kp 4 (U.tmps.getD 4 undef) a)∧Kp 17 (.func (.func 87) #[] ⟨[u]⟩) a) ?_ (oR.kp rfl ?_ aa (oR.kp rfl ?_ rfl (aWx (v:=rN 12 (b4 g).pl) [(600,rO l g)] [(7,rP)] y rfl ⟨rfl,trivial⟩ rfl ⟨rfl,trivial⟩ rfl rfl rfl ?_)))))
  ·rintro e a' w' ⟨⟨⟨rfl,O,hsz,S',I,hout,hkeys,hI',Y⟩,hk4'⟩,ab⟩;have hno:∀id,id≠600→Go.AM.look hout id=none:=fun id h6=>by
    cases hl:Go.AM.look hout id with
    | none=>rfl
    | some o=>
     obtain⟨o',ho⟩:=hkeys id o hl;simp[Go.AM.look] at ho;exact absurd ho.1 h6
   have hs7:Sim ⟨w,S,i9 μ (Go.AM.look [(9,iM)]),μ,Go.AM.look [(9,iM)]⟩ 38 S' I ⟨Go.AM.look [(4,.one (.vp 4 0)),(17,.one (.clo 87 [.vp 4 0]))],_,[]⟩ a' w':=⟨hI',hsz,O,fun t v ht=>by
    have hm:=b7 ht;rcases Ar.1 hm with hm | hm
    ·obtain⟨rfl,rfl⟩:=Prod.mk.inj hm;have h1:a'.tmps.getD 4 undef=U.tmps.getD 4 undef:=hk4';rw[h1];exact aN.evolve Y _ _ (y.env 4 _ rfl)
    ·obtain⟨rfl,rfl⟩:=Prod.mk.inj (As.1 hm);have h1:a'.tmps.getD 17 undef=U.tmps.getD 17 undef:=Eq.trans ab (Eq.symm aa);rw[h1]
     exact aN.evolve Y _ _ (y.env 17 _ rfl)⟩
   exact xJ (pgO pg) true 12 (b4 g).pl (.panicking [{ v:=rN 12 (b4 g).pl,recovered:=false }]) (.panicking [{ v:=rN 12 (b4 g).pl,recovered:=true }]) rfl hs7 rfl rfl rfl ((dH _ hout 4).trans (by rw[hno 4 (by decide)];rfl)) ((dH _ hout 9).trans (by rw[hno 9 (by decide)];rfl)) (.var rfl) ab (fun c₀ cs hc=>.inl ⟨rfl,by simp only[recoverD,hc]⟩) (fun k=>by cases k) rfl
  ·rintro⟨a,w,h,_⟩;cases h.1
  ·rintro⟨a,w,h,_⟩;cases h
  refine ak 3 [] rfl (kc hn ?_);refine ak 5 [] rfl (kc hn ?_);refine ak 1 [] rfl ?_;rw[d];refine kpD (.tup []) [] hmn ?_ (hq:=rfl);exact az trivial
 have M:iZ g=g:=ξ fun k=>k.2 B
 rw[M,θ q,q];have d:decide ((b4 g).kind=6)=true:=φ B;have hmo:=bL 12 (b4 g).pl;refine Cs (aUv mixed y aa rfl ?_);refine ak 3 [] rfl (kc hn ?_);refine ak 5 [] rfl (kc hn ?_);refine ak 1 [] rfl ?_;rw[d];refine kc hmo ?_;refine az ?_;intro S7 μ7 a7 w7 hk7 hs7;refine Cs (aUv mixed hs7 hk7 rfl ?_);refine kz 2 rfl ?_;intro S8 μ8 a8 w8 hk8 hs8;refine wpIn_ret ?_;exact xJ (pgO pg) false 0 0 .returning .returning rfl hs8 rfl rfl rfl rfl rfl (.var rfl) hk8 (fun c₀ cs hc=>.inr ⟨rfl,by simp only[recoverD,hc],rfl,rfl,rfl⟩) (fun k=>by cases k) rfl
theorem yI (s:Str) (e p:Int) (q:¬e=0) (g:aU Tryz.prog 86 [Go.AM.T s] [] (.tup [.one (.c .nl),atV e p]) []):
  aU Tryz.prog 52 [Go.AM.T s,.one (.clo 53 [.vp 9 0])] [(9,iM)] (atV e p) [(9,iM)]:=by
 unfold atV at g ⊢;have d0:(!decide (e=0))=true:=by rw[ψ q];rfl
 refine bC (n:=38) tok Tryz.func52 rfl rfl rfl ?_;refine sgh [(0,.id 4)] rfl (sk 1 rfl (kc g ?_));exact kz 6 rfl (aA (sg rfl (aB rfl (fun _=>sg rfl (aF (rtC trw))) (fun hb=>absurd (hb.symm.trans d0) Bool.noConfusion))))
theorem aKt (hX:x6) (s:Str) (g:aU Tryz.prog 86 [Go.AM.T s] [] (aDx (nE s)) []) (hC:aQ2 (bP s).1 (bP s).2.R.length):
  aU Tryz.prog 52 [Go.AM.T s,.one (.clo 53 [.vp 9 0])] [(9,iM)] (atV (iZ (iA s).2).e (if(iZ (iA s).2).e=0 then 0 else(iZ (iA s).2).p)) [(9,if(iA s).2.e=0 then pgO (iA s).1 else iM)]:=by
 obtain⟨q,hwt,hZ,u⟩:=fK s;have y:= @sR s;have A:∀l,nE s=.ok l→aL7 l:=fun l h=>by
  unfold nE at h;split at h
  ·cases h
  ·exact sP _ _ _ _ h
 unfold iA;unfold bP at q hwt hZ u hC ⊢;generalize nE s=w at g q hwt hZ u hC y A ⊢;cases w with
 | error e=>
  obtain⟨e,p⟩:=e;have he:¬e=0:=y rfl;have E:iZ ⟨[vS],e,p⟩=⟨[vS],e,p⟩:=ξ fun k=>he k.1
  dsimp only;rw[ξ he];dsimp only;rw[E];dsimp only;rw[ξ he,ξ he];exact yI s e p he g
 | ok l=>
  dsimp only at q hwt hZ u hC ⊢;rw[θ rfl];have B:=aDb (tA l.length) (aPd hwt hZ (A l rfl) l.length) hX (kE hwt l.length) hZ hwt hC q rfl (le_refl _);obtain⟨I,_⟩:=xR (kE hwt l.length) hwt q;exact aDa s l g _ _ I B
theorem aDd (hX:x6) (s:Str) (q:aU Tryz.prog 86 [Go.AM.T s] [] (aDx (nE s)) []) (hC:aQ2 (bP s).1 (bP s).2.R.length):
  aU Tryz.prog 31 [Go.AM.T s] [] (.tup [.pa (mI (iB s).1),atV (iB s).2.1 (if(iB s).2.1=0 then 0 else(iB s).2.2)]) []:=by
 have hs:=aKt hX s q hC;have g:(iZ (iA s).2).e=0→(iA s).2.e=0:=fun h=>by
  unfold iZ at h;split at h
  ·rename_i hc;exact hc.1
  ·exact h
 unfold iB;generalize (iA s).1=u at hs ⊢;generalize y:(iZ (iA s).2)=z at hs g ⊢;unfold atV at hs ⊢;by_cases he:z.e=0
 ·rw[θ he,θ (g he)] at hs;rw[θ he];dsimp only;rw[θ he];have d0:(!decide (z.e=0))=false:=by rw[φ he];rfl
  refine bC (n:=16) tok Tryz.func31 rfl rfl rfl ?_;refine sg rfl (sgh [(0,.id 9)] rfl (sk 2 rfl (kc hs ?_)));exact kz 2 rfl (aA (sg rfl (aB rfl (fun hb=>absurd (hb.symm.trans d0) Bool.noConfusion) (fun _=>aD (sg rfl (aF xK))))))
 ·rw[ξ he] at hs;rw[ξ he];dsimp only;rw[ξ he];have d0:(!decide (z.e=0))=true:=by rw[ψ he];rfl
  by_cases h1:(iA s).2.e=0
  ·rw[θ h1] at hs;refine bC (n:=16) tok Tryz.func31 rfl rfl rfl ?_;refine sg rfl (sgh [(0,.id 9)] rfl (sk 2 rfl (kc hs ?_)));exact kz 2 rfl (aA (sg rfl (aB rfl (fun _=>sg rfl (aF xK)) (fun hb=>absurd (hb.symm.trans d0) Bool.noConfusion))))
  ·rw[ξ h1] at hs;refine bC (n:=16) tok Tryz.func31 rfl rfl rfl ?_;refine sg rfl (sgh [(0,.id 9)] rfl (sk 2 rfl (kc hs ?_)));exact kz 2 rfl (aA (sg rfl (aB rfl (fun _=>sg rfl (aF xK)) (fun hb=>absurd (hb.symm.trans d0) Bool.noConfusion))))
def bxL:List Tk:=[⟨4,eqS,0,0⟩,⟨1,[120],0,0⟩,vS]
theorem aUh:x6:=by
 have q:ZA bxL ⟨bxL,0,0⟩:=⟨rfl,⟨[⟨4,eqS,0,0⟩,⟨1,[120],0,0⟩],vS,rfl,rfl⟩,by decide⟩
 have hwt:wt bxL≤30000:=by decide
 have hN:aL7 bxL:=fun t g=>by
  intro _;simp only[bxL,Ar,not_mem_nil,or_false] at g;rcases g with rfl | rfl | rfl<;>rfl
 have hZ:o7 bxL:=fun t g u=>hN t g (by rw[u];decide)
 have hb:=tO (tA 3) (aPd hwt hZ hN 3) ⟨1,[120],0,0⟩ 0 q rfl (by decide) (by decide);have he:(dR (aC2 3) ⟨1,[120],0,0⟩ 0 ⟨bxL,0,0⟩).2.e=0:=by decide
 have hb:=bF.ok hb he;exact⟨bxL,⟨bxL,0,0⟩,_,⟨1,[120],0,0⟩,_,hb⟩
end Go.Proofs.YtkhgpgihmphfdaaGreat
namespace Go.AM
open Go
section
variable {P:Program}{n:Nat}{o:Oper}{st:St}{d:Nat}{T:TT}
theorem aU8 {rd:Rd}{id:Nat}{ao g:AObj}(J:o.dst=none) (A:st.h id=some ao) (B:id∈rd.h) (u:ao.succ True g)
  (h:∀st',fC rd st st'→st'.h id=some ao→∀G S μ a w,Sim G n S μ st' a w→∃v w' y b c,(execOp a.eval o).run P w=.ok (.value v) w'∧μ id=some (b,c)∧WChg w w' b y∧
   jJ S (upd μ id (some (b,c))) (upd st'.h id (some g)) w' id g∧(∀o v,S.cell b o=some v→∃vs t M,y=.cells vs t M∧vs[o]?=some v)∧(∀m,S.mapo b=some m→w.heap.size≤b)):
  Step P n o st rd ⟨none,[(id,some g)]⟩:=by
 intro st' ha G S μ a w K Q hs O;have q:st'.h id=some ao:=by rw[ha.2 id B,A]
 obtain⟨v,w',y,b,c,U,hm,hw,hO,hS,E⟩:=h st' ha q G S μ a w hs;refine fun ro=>eJ U ?_
 rw[J];have I:=eX (S:=S) (μ:=μ) q hm u;have hi:=hs.inv.chg (id:=id) (cap:=c) (ao:=g) hw (.inr ⟨ao,c,q,hm⟩) I hO hS E;refine O S (upd μ id (some (b,c))) _ _ ?_;have:=hs.put_none hi I v;unfold Eff.apply;rw[bZ];exact this
theorem s8 (w:World) (t e ty:TypeId) (z:Value) (B:P.underlying t=some (.slice e)) (E:∀w,(zeroValue e).run P w=.ok z w) (I:z.cells= #[z]) (h1:z.oneCell'=true) (b off l c:Nat) (hn:0<l) (vs:List Value) (u:TypeId) (J:w.heap[b]?=some (.cells ⟨vs⟩ u (0,0))) (q:off+l≤vs.length):
  (Builtin.clear_ #[t] ty #[.slice (some ⟨b,off,none⟩) l c]).run P w=.ok (.tuple #[]) (w.setRow b ⟨vs.take off++List.replicate l z++vs.drop (off+l)⟩):=by
 have y:(Builtin.zeroCells z.cells l).toList=List.replicate l z:=by
  rw[I];simp[Builtin.zeroCells];apply List.ext_getElem
  ·simp
  ·intro i h1 h2;simp[Nat.mod_one]
 have g:=run_storeCells_at (P:=P) b off u (List.replicate l z) 0 ⟨vs⟩ w J (by simpa using q) (by intro v A;rw[List.eq_of_mem_replicate A];exact h1);simp only[Cg,Cm] at g;obtain⟨m,rfl⟩:∃m,l=m+1:=⟨l-1,by omega⟩
 simp[Builtin.clear_,Ah B,E,y,g]
theorem aVe {elems:List (List C)}(h:∀r∈elems,r.length=1):elems.flatten.length=elems.length:=by
 induction elems with
 | nil=>rfl
 | cons r l g=>
  rw[Bb,ζ,g (fun r q=>h r (Bj _ q)),h r B1,Aa];omega
theorem aC0 {elems:List (List C)}(h:∀r∈elems,r.length=1) (k:Nat):(elems.take k).flatten=elems.flatten.take k:=by
 induction elems generalizing k with
 | nil=>simp
 | cons r l q=>
  cases k with
  | zero=>simp
  | succ k=>
   have g:=h r B1;rw[Ax,Bb,Bb,q (fun r g=>h r (Bj _ g)),List.take_append,g,Nat.add_sub_cancel,Av (l:=r) (i:=k+1) (by omega)]
theorem vP (c:C):∀l:Nat,(List.replicate l [c]).flatten=List.replicate l c
 | 0=>rfl
 | l+1=>by rw[replicate_succ,Bb,vP c l,replicate_succ];rfl
theorem zT {S:Sto}{c:C}{z:Value}(h:Rep S c z):∀l:Nat,bU S (List.replicate l c) (List.replicate l z)
 | 0=>by rw[List.replicate_zero,bU];rfl
 | l+1=>by rw[replicate_succ,replicate_succ,bU];exact⟨_,_,rfl,h,zT h l⟩
theorem aE4 {t e:TypeId}{x:Operand}{te id off len sz:Nat}{elems:List (List C)}{z:Value}{zc:C}(ho:o.op=.call { callee:=.builtin .clear,args:= #[x],argTypes:= #[t] }) (hd:o.dst=none) (hu:P.underlying t=some (.slice e)) (hzero:∀w,(zeroValue e).run P w=.ok z w) (hz:z.cells= #[z]) (hz1:z.oneCell'=true) (I:∀S,Rep S zc z)
  (hx:(opv st x=some (.one (.tl id off len sz)))∨(opv st x=some (.one (.hs id off len sz))∧off=0)) (hh:st.h id=some (.arr te 1 elems 0)) (hsz:sz=elems.length) (hlen:0<len) (hol:off+len=sz):Step P n o st ⟨opr x,[id]⟩ ⟨none,[(id,some (.arr te 1 (elems.take off++List.replicate len [zc]) 0))]⟩:=by
 have B:(elems.take off++List.replicate len [zc]).length=elems.length:=by rw[ζ,Aj,Cm];omega
 refine aU8 hd hh (by simp) ⟨rfl,by rw[B];exact le_refl _,fun _=>trivial⟩ fun st' ha u G S μ a w hs=>?_
 obtain⟨b,base,cap,c,y,A⟩:∃b base cap c,μ id=some (b,base,cap)∧(elems.length≤cap→a.eval x=.slice (some ⟨b,base+off,none⟩) len c):=by
  rcases hx with hx | ⟨hx,h0⟩
  ·have g:=aK hs hx ha.1;simp only[aN,aX] at g;obtain⟨_,g | ⟨te',es',elems',fz',h1,h2,J⟩⟩:=g
   ·rw[u] at g;cases g
   rw[u] at h1;cases h1;obtain⟨h4,b,base,cap,y,h6,E⟩:=J hsz;refine⟨b,base,cap,cap-off,y,fun hc=>?_⟩;rw[E,ξ (by omega),mul_one]
  ·have g:=aK hs hx ha.1;simp only[aN,aX] at g;obtain⟨_,g | ⟨te',es',elems',fz',h1,h2,J⟩⟩:=g
   ·rw[u] at g;cases g
   rw[u] at h1;cases h1;obtain⟨h4,⟨y,h6,E⟩ | ⟨b,base,cap,y,E⟩⟩:=J hsz
   ·subst h6;rw[length_nil] at hsz;omega
   ·exact⟨b,base,cap,cap-off,y,fun hc=>by rw[E,mul_one]⟩
 obtain⟨M,vs,O,g2,g3,g4,U,g6,g7⟩:=(hs.inv.obj id _ u).arr y;have A:=A g3;rw[mul_one] at g2 U;have Y:=s8 (P:=P) w t e o.type z hu hzero hz hz1 b (base+off) len c hlen vs te O (by omega);have hW:=WChg.setRow w b ⟨vs⟩ ⟨vs.take (base+off)++List.replicate len z++vs.drop (base+off+len)⟩ te (0,0) O;have hfl:=aVe M;have hrl:=U.length;refine⟨.tuple #[],_,_,b,(base,cap),?_,y,hW,⟨?_,.inr ⟨b,base,cap,_,aH _ _ _,hW.new,?_,by rw[B];exact g3,g4,?_,g6,by rw[B];exact g7.1,fun e=>by cases e⟩⟩,fun o v e=>?_,fun m e=>eW g4.2 m e⟩
 ·simp only[execOp,ho,resolve,map_toArray,Bh,map_nil,A,ε,τ,η,invoke,builtin,Y]
 ·intro q hq;rcases Ba.1 hq with hq | hq
  ·exact M q (Bx hq)
  ·rw[List.eq_of_mem_replicate hq];rfl
 ·simp only[ζ,Aj,Bc,Cm];omega
 ·rw[B,mul_one,Cj,aC0 M,vP];have e2:((vs.take (base+off)++List.replicate len z++vs.drop (base+off+len)).drop base).take elems.length=((vs.drop base).take elems.length).take off++List.replicate len z:=by
   have hA:(vs.take (base+off)++List.replicate len z++vs.drop (base+off+len)).drop base=(vs.drop base).take off++List.replicate len z++vs.drop (base+off+len):=by
    rw[Am,Bz (by rw[Aj];omega),drop_take,show base+off-base=off by omega,Am]
   rw[hA,take_left' (by rw[ζ,Aj,Bc,Cm];omega),take_take,show min off elems.length=off by omega]
  show bU S _ (((vs.take (base+off)++List.replicate len z++vs.drop (base+off+len)).drop base).take elems.length);rw[e2];exact(U.take off).append (zT (I S) len)
 ·by_cases hb:base≤o
  ·rw[g6 rfl o hb] at e;cases e
  ·obtain⟨vs0,t0,fr0,q1,q2⟩:=hs.inv.holds.1 b o v e;rw[O] at q1;cases q1;refine⟨_,_,_,rfl,?_⟩;simp only[Ca] at q2 ⊢;have hlt:o<vs.length:=(Ag.1 q2).1
   rw[Am,A2 (by simp;omega),Ak,θ (by omega)];exact q2
theorem aN6 {t e:TypeId}{i B:TI}{x y:Operand}{te es id len sz:Nat}{kk:IntKind}{elems:List (List C)}{fz:Nat}(Y:Tok P T) (ho:o.op=.slice t x (some y) none none) (hd:o.dst=some d) (E:d<n) (hi:T[t]?=some (some i)) (hk:i.k=.sl e) (J:T[e]?=some (some B)) (_:B.size=es)
  (hx:opv st x=some (.one (.hs id 0 len sz))) (hh:st.h id=some (.arr te es elems fz)) (hsz:sz=elems.length) (hlen:1≤len) (hls:len≤sz) (hy:opv st y=some (I kk ((0:Nat):Int))):Step P n o st ⟨opr x++opr y,[id]⟩ ⟨some (d,some (.one (.hs id 0 len sz))),[]⟩:=by
 refine Step.value hd E fun st' ha G S μ a w hs=>?_
 have g:=aK hs hx fun t A=>ha.1 t (by simp[A])
 have M:=dP (aK hs hy fun t A=>ha.1 t (by simp[A]));have u:st'.h id=some (.arr te es elems fz):=by rw[ha.2 id (by simp),hh]
 have O:=g;simp only[aN,aX] at g;obtain⟨_,g | ⟨te',es',elems',fz',h1,h2,h3⟩⟩:=g
 ·rw[u] at g;cases g
 rw[u] at h1;cases h1;obtain⟨h4,⟨h5,q,h7⟩ | ⟨b,base,cap,h5,q⟩⟩:=h3 hsz
 ·subst q;simp at hsz;omega
 rw[zero_mul,Cg,sub_zero] at q;refine⟨a.eval x,?_,O⟩;have U:=zN (P:=P) Y hi hk J w (some ⟨b,base,none⟩) len cap 0 kk (Ac _);simp only[execOp,ho,Bw,Option.map_none,q,M,ε,τ] at U ⊢;rw[U];by_cases hc:cap=0
 ·simp[hc]
 ·simp[hc,Addr.add_mid]
end
end Go.AM
namespace Go.Proofs.YtkhgpgihmphfdaaGreat
open Go Go.AM
set_option maxRecDepth 20000
set_option maxHeartbeats 4000000
theorem aHg (s:Str) (t:Tk):aU Tryz.prog 147 ([Go.AM.T s]++[R.c (.pt (aI t))].map V.one) [] (B (decide (s=t.text))) []:=by
 refine bC (n:=8) tok Tryz.func147 rfl rfl rfl ?_;exact sg rfl (sg rfl (aF rtT))
def aKb (v:Str) (l:List Str) (m:Nat):Int:=match (l.drop m).findIdx? (fun s=>decide (s=v)) with
 | none=> -1
 | some d=>((m+d:Nat):Int)
theorem aKa (v:Str) (l:List Str):aKb v l l.length= -1:=by unfold aKb;rw[Cp];rfl
theorem aF6 (v:Str) {l:List Str}{m:Nat}{s:Str}(h:l[m]?=some s):aKb v l m=if s=v then(m:Int) else aKb v l (m+1):=by
 obtain⟨h1,h2⟩:=Ag.1 h;have g:=A5 h1;rw[h2] at g;unfold aKb;rw[g,List.findIdx?_cons];by_cases hp:s=v
 ·rw[θ (φ hp),θ hp];rfl
 ·rw[ξ (by rw[ψ hp];exact ω),ξ hp];cases (l.drop (m+1)).findIdx? _ with
  | none=>rfl
  | some d=>simp;omega
def svA (l:List (List C)) (f:Nat):AObj:=.arr 9 1 l f
theorem aTv (l:List Str) (hl:l.length≤1000000000) (t:Tk):aU Tryz.prog 191 [hsV 710 l.length,.one (.clo 147 [.c (.pt (aI t))])] [(710,svA (l.map aR) 0)] (I .i64 (aKb t.text l 0)) [(710,svA (l.map aR) 0)]:=by
 have B:(l.map aR).length=l.length:=κ _;refine bC (n:=19) tok Tryz.func191 rfl rfl rfl ?_;refine sg rfl (aA (sg rfl (aE (aL (fun i:Nat=>mk [(0,hsV 710 l.length),(1,.one (.clo 147 [.c (.pt (aI t))])),(7,I .i64 (l.length:Int)),(8,I .i64 i)] [(710,svA (l.map aR) 0)]) (fun i=>i≤l.length∧aKb t.text l 0=aKb t.text l i) (fun i=>l.length-i) 0 ⟨Ac _,rfl⟩ sl ?_))));intro i ⟨hi,g⟩;refine sg rfl (aA (aB rfl (fun hb=>?_) (fun hb=>?_)))
 ·have q:i<l.length:=by have:=χ hb;omega
  obtain⟨x,u⟩:=aM q;have A:=b9 aR u;have hc:=aHg x t;rw[aF6 _ u] at g;refine aD (aA (aE (sg rfl (skh 5 [(4,.row i (aR x))] rfl (kv (args:=[Go.AM.T x]) hc ?_)))));refine az (aB rfl (fun hb=>?_) (fun hb=>?_))
  ·rw[θ (χ hb)] at g;rw[g];exact sg rfl (aF rtT)
  ·rw[ξ (Ad hb)] at g;exact aD (ag [] rfl ⟨i+1,⟨q,g⟩,by dsimp only;omega,sl⟩)
 have y:i=l.length:=by have:=Ad hb;omega
 subst y;rw[aKa] at g;rw[g];exact aG (sg rfl (aF rtT))
def dl (v:Str) (l:List Str):List Str:=l.filter (fun s=>!decide (s=v))
theorem aV6 (v:Str) (l:List Str):(dl v l).length≤l.length:=List.length_filter_le _ _
theorem aGi {v:Str}{l:List Str}(h:∀s∈l,¬s=v):dl v l=l:=filter_eq_self.2 fun s hs=>by rw[ψ (h s hs)];rfl
theorem aGh {v:Str}{l:List Str}{i:Nat}{x:Str}(h:l[i]?=some x):dl v (l.take (i+1))=if x=v then dl v (l.take i) else dl v (l.take i)++[x]:=by
 unfold dl;rw[Be,h,List.filter_append];by_cases hx:x=v
 ·rw[θ hx];show _++List.filter _ [x]=_;rw[Cc,ξ (by rw[φ hx];decide)];simp
 ·rw[ξ hx];show _++List.filter _ [x]=_;rw[Cc,θ (by rw[ψ hx];rfl)];rfl
def aDz (v:Str) (l:List Str):List (List C):=(dl v l).map aR++List.replicate (l.length-(dl v l).length) [.str []]
theorem aHf (l:List Str) (hl:l.length≤1000000000) (t:Tk):aU Tryz.prog 146 [hsV 710 l.length,.one (.clo 147 [.c (.pt (aI t))])] [(710,svA (l.map aR) 0)] (.one (.c (.sl 1 ((dl t.text l).map aR)))) [(710,svA (aDz t.text l) 2)]:=by
 have ab:(l.map aR).length=l.length:=κ _;have A:=aTv l hl t;unfold aKb at A;rw[Bv] at A;refine bC (n:=42) tok Tryz.func146 rfl rfl rfl ?_;refine sg rfl (sk 2 rfl (kc A ?_));refine kz 1 rfl ?_;cases hf:l.findIdx? (fun s=>decide (s=t.text)) with
 | none=>
  have ac:∀s∈l,¬s=t.text:=fun s hs he=>by
   have:=(List.findIdx?_eq_none_iff.1 hf) s hs;rw[φ he] at this;cases this
  have e1:aDz t.text l=l.map aR:=by
   unfold aDz;rw[aGi ac,B8,List.replicate_zero,Az]
  rw[e1,aGi ac];dsimp only;refine aA (sg rfl (aB rfl (fun _=>AWp.sub (Sub.freeze (id:=710) rfl) ?_) (fun hb=>Bool.noConfusion hb)));exact sg rfl (aF (rtH (hsz:=ab.symm) (hlen:=ab.symm)))
 | some d=>
 obtain⟨M,ad,ae⟩:=List.findIdx?_eq_some_iff_getElem.1 hf;have af:l[d]?=some t.text:=by rw[List.getElem?_eq_getElem M,χ ad]
 have ah:dl t.text (l.take d)=l.take d:=aGi fun s hs he=>by
  obtain⟨j,hj1,ai⟩:=List.mem_iff_getElem.1 hs;rw[Aj] at hj1;rw[List.getElem_take] at ai;exact ae j (by omega) (by rw[ai];exact φ he)
 have O:dl t.text (l.take (d+1))=l.take d:=by rw[aGh af,θ rfl,ah]
 dsimp only;rw[A4];have dn:decide (((d:Nat):Int)= -1)=false:=ψ (by omega);refine aA (sg rfl (aB rfl (fun hb=>absurd (hb.symm.trans dn) Bool.noConfusion) (fun _=>aD (aA (aA (agN [] rfl (aE (aL (fun q:List Str×Nat×Nat=>mk [(0,hsV 710 l.length),(1,.one (.clo 147 [.c (.pt (aI t))])),(5,I .i64 (q.2.1:Nat)),(6,I .i64 (q.2.2:Nat))] [(710,svA (q.1.map aR) 0)]) (fun q=>q.1.length=l.length∧q.2.1<q.2.2∧q.2.2≤l.length∧q.1.take q.2.1=dl t.text (l.take q.2.2)∧q.1.drop q.2.2=l.drop q.2.2) (fun q=>l.length-q.2.2) (l,d,d+1) ⟨rfl,by dsimp only;omega,M,O.symm,rfl⟩ sl ?_))))))));clear A O ah af M ad ae hf dn;rintro⟨R,k,i⟩ ⟨u,hki,hi,J,U⟩;dsimp only at u hki hi J U ⊢;have B:(R.map aR).length=R.length:=κ _;refine aA (sg rfl (aB rfl (fun hb=>?_) (fun hb=>?_)))
 ·have Y:i<l.length:=by have:=χ hb;omega
  obtain⟨x,hx⟩:=aM Y;have hRx:R[i]?=some x:=by
   have h1:(R.drop i)[0]?=(l.drop i)[0]?:=by rw[U]
   rw[Al,Al,Cg] at h1;rw[h1,hx]
  obtain⟨y,hy⟩:=aM (l:=R) (k:=k) (by omega);have hRx':=b9 aR hRx;have hy':=b9 aR hy;have hc:=aHg x t;have E:=aGh (v:=t.text) hx;have aa:R.drop (i+1)=l.drop (i+1):=by
   rw[←Ci,←Ci,U]
  refine aD (aA (aE (sgh [(3,.row i (aR x))] rfl (sk 2 rfl (kv (args:=[Go.AM.T x]) hc ?_)))));refine kz 1 rfl (aB rfl (fun hb=>?_) (fun hb=>?_))
  ·have hne:¬x=t.text:=fun e=>by rw[φ e] at hb;cases hb
   rw[ξ hne] at E;have hs1:(R.map aR).set k (aR x)=(R.set k x).map aR:=by rw[map_set]
   refine sgh [(4,.row k (aR y))] rfl (agN [] rfl (agN [] rfl ⟨(R.set k x,k+1,i+1),⟨by dsimp only;rw[length_set,u],by dsimp only;omega,Y,?_,?_⟩,by dsimp only;omega,sl (hh:=⟨⟨_,rfl,.arrS hs1⟩,trivial⟩)⟩))
   ·dsimp only;rw[E,←J,Be,List.getElem?_set_self (by omega),List.take_set_of_le (by omega)];rfl
   ·dsimp only;rw[List.drop_set_of_lt (by omega),aa]
  ·have he:x=t.text:=by
    by_cases he:x=t.text
    ·exact he
    ·rw[ψ he] at hb;cases hb
   rw[θ he] at E;exact aD (agN [] rfl ⟨(R,k,i+1),⟨u,by dsimp only;omega,Y,by dsimp only;rw[E,J],aa⟩,by dsimp only;omega,sl⟩)
 have hge:i=l.length:=by have:=Ad hb;omega
 subst hge;rw[Ao] at J;have hk:(dl t.text l).length=k:=by rw[←J,Aj];omega
 have g:(R.map aR).take k++List.replicate (l.length-k) [.str []]=aDz t.text l:=by
  unfold aDz;rw[hk,←J,List.map_take]
 have htk:(aDz t.text l).take k=(dl t.text l).map aR:=by
  unfold aDz;rw[take_left' (by rw[κ,hk])]
 have aj:(aDz t.text l).length=l.length:=by
  unfold aDz;rw[ζ,κ,Cm,hk];omega
 refine aG (aA (AWp.cut (mk [(0,hsV 710 l.length),(5,I .i64 (k:Nat))] [(710,svA (aDz t.text l) 0)]) ?_ ?_))
 ·refine aC mixed (ak 2 [] rfl ?_);by_cases h0:k=0
  ·subst h0;refine k_ (g_ rfl rfl (aN6 tok rfl rfl (eD rfl) (tg rfl) rfl (tg rfl) rfl rfl (by omega) (by omega) rfl (hh:=rfl) (hsz:=by rw[B,u]))) ?_;refine k_ (g_ rfl rfl (aE4 (e:=9) (z:=.string ⟨#[]⟩) (zc:=.str []) rfl rfl (by kernel_rfl) (fun w=>by kernel_rfl) rfl rfl (fun S=>by rw[Rep]) (.inr ⟨rfl,rfl⟩) rfl (by rw[B,u]) (by omega) (by omega))) ?_;refine az ?_;rw[sub_zero] at g;exact sl (hh:=⟨⟨_,rfl,.arrS g⟩,trivial⟩)
  ·refine k_ (g_ rfl rfl (uV k tok rfl rfl (eD rfl) (tg rfl) rfl (tg rfl) rfl rfl (hh:=rfl) (hsz:=by rw[B,u]) (hlen:=rfl) (hy:=rfl) (hl:=⟨by omega,by omega⟩))) ?_;refine k_ (g_ rfl rfl (aE4 (e:=9) (z:=.string ⟨#[]⟩) (zc:=.str []) rfl rfl (by kernel_rfl) (fun w=>by kernel_rfl) rfl rfl (fun S=>by rw[Rep]) (.inl rfl) rfl (by rw[B,u]) (by omega) (by omega))) ?_;exact az (sl (hh:=⟨⟨_,rfl,.arrS g⟩,trivial⟩))
 have hkd:k≤(aDz t.text l).length:=by omega
 refine AWp.sub (Sub.freeze (id:=710) rfl) ?_;refine AWp.sub (cv 0 (aDz t.text l) (h1:=aj.symm) (h2:=aj.symm)) ?_;refine sg rfl ?_;rw[htk];exact aF rtT
def hs7 (l:List Str):V:=.one (.hs 710 0 l.length l.length)
def sv7 (l:List Str):AObj:=.arr 9 1 (l.map aR) 0
theorem aK3 (l:List Str) (s:Str) (h:l.length≤600000000000):aU Tryz.prog 51 [.one (.hs 710 0 l.length l.length),Go.AM.T s] [(710,.arr 9 1 (l.map aR) 0)] (I .i64 (yB s l 0)) [(710,.arr 9 1 (l.map aR) 0)]:=by
 refine bC (n:=19) tok Tryz.func51 rfl rfl rfl ?_;refine sg rfl (aA (sg rfl ?_));have y:(l.map aR).length=l.length:=κ _;refine aE (aL (fun i:Nat=>mk [(0,.one (.hs 710 0 l.length l.length)),(1,Go.AM.T s),(7,I .i64 (l.length:Int)),(8,I .i64 i)] [(710,.arr 9 1 (l.map aR) 0)]) (fun i=>i≤l.length∧yB s l 0=yB s (l.drop i) i) (fun i=>l.length-i) 0 ⟨Ac _,rfl⟩ sl ?_);intro i ⟨hi,he⟩;refine sg rfl (aA (aB rfl (fun hb=>?_) (fun hb=>?_)))
 ·have g:i<l.length:=by have:=χ hb;omega
  obtain⟨x,hx⟩:=aM g;have A:=b9 aR hx;have u:l.drop i=x::l.drop (i+1):=by rw[A5 g,(Ag.1 hx).2]
  rw[u,yB] at he;refine aD (aA (aE (sg rfl (sgh [(4,.row i (aR x))] rfl (aB rfl (fun hb=>?_) (fun hb=>?_))))))
  ·have hs:s=x:=χ hb;rw[θ hs] at he;rw[he];exact sg rfl (aF rtT)
  ·have hs:¬s=x:=Ad hb;rw[ξ hs] at he;exact aD (ag [] rfl ⟨i+1,⟨g,he⟩,by dsimp only;omega,sl⟩)
 ·have q:i=l.length:=by have:=Ad hb;omega
  subst q;rw[Cp,yB] at he;rw[he];exact aG (sg rfl (aF rtT))
theorem qB (l:List Str) (s:Str) (h:l.length≤600000000000):aU Tryz.prog 29 [.one (.hs 710 0 l.length l.length),Go.AM.T s] [(710,.arr 9 1 (l.map aR) 0)] (B (decide (s∈l))) [(710,.arr 9 1 (l.map aR) 0)]:=by
 have hi:=aK3 l s h;refine bC (n:=9) tok Tryz.func29 rfl rfl rfl ?_;refine sg rfl (sk 2 rfl (kc hi ?_));refine kz 2 rfl ?_;rw[←sZ s l 0 (by omega)];exact aF rtT
def aQ9 (s:Sch):List AM.R:=[.hs 710 0 s.vars.length s.vars.length,.c .nl,.c (.sl 5 (s.preds.map aS)),.c (.int .i64 s.ty.form),.c (.int .i64 s.ty.n),.c (.str s.ty.name),.c (.sl 4 (dG s.ty))]
theorem aDc (L:List Tk) (hZ:o7 L) (R:List Tk) (i:Nat) (O:At L i R) (hwt:wt L≤30000) {s:Sch}{R':List Tk}(hok:cI R=.ok (s,R')):aU Tryz.prog 190 [nQ L,I .i64 (i:Nat)] [] (.tup [.ma (aQ9 s),I .i64 ((L.length-R'.length:Nat):Int),atV 0 0]) [(710,svA (s.vars.map aR) 0)]:=by
 have hp:=tP L hZ R i O;have ab:= @kP R;have al:= @iF R;unfold cI at hok;refine bC (n:=74) tok Tryz.func190 rfl rfl rfl ?_;refine sg rfl (sk 2 rfl (kc hp ?_));generalize cU R=w at ab al hok ⊢;cases w with
 | error e=>
  obtain⟨e,p⟩:=e;rw[n9] at hok;cases hok
 | ok y=>
 obtain⟨ps,R1⟩:=y;obtain⟨k1,⟨q,k2,_⟩,k3,k4⟩:=ab rfl;obtain⟨ac,hn1⟩:=O.to k2 (k1 O.e);rw[n9] at hok;rw[nD,hn1];generalize i+q.length=j at ac;have hty:=aBa L hZ R1 j ac;have ad:=fD (3*R1.length+2) 0 R1;have hte:=dV (3*R1.length+2) 0 R1;have U:wt R≤30000:=by
  have:L=L.take i++R:=by rw[←O.d,take_append_drop]
  rw[this] at hwt;exact le_trans lV hwt
 have hwtR1:wt R1≤30000:=by rw[k2] at U;exact le_trans lV U
 have hRl:=O.lt;have hLl:=O.l;unfold atV;refine kz 8 rfl (aA (sg rfl (aB rfl (fun hb=>absurd hb (by decide)) (fun _=>aD (sk 2 rfl (kc hty ?_))))));generalize c9 (3*R1.length+2) 0 R1=w at ad hte hok ⊢;cases w with
 | error e=>
  obtain⟨e,p⟩:=e;rw[n8] at hok;cases hok
 | ok y=>
 obtain⟨x,R2⟩:=y;obtain⟨hT,hTn⟩:=ad x R2 rfl;rw[n8] at hok;cases hok;rw[jA];unfold aQ9;unfold atV;dsimp only;generalize ((L.length-R'.length:Nat):Int)=m;refine kz 8 rfl (aA (sg rfl (aB rfl (fun hb=>absurd hb (by decide)) (fun _=>aD (sg rfl ?_)))));have hsv:aQ8 ps x=gP [] (ps++[(⟨[],x⟩:Prd)]):=by rw[y8];rfl
 rw[hsv];have B:∀p∈ps++[(⟨[],x⟩:Prd)],WF p.ty∧tn p.ty≤30000:=fun p hp=>by
  rcases Ba.1 hp with hp | hp
  ·exact⟨(k3 p hp).1,by have:=(k3 p hp).2;omega⟩
  ·rw[As.1 hp];exact⟨hT.w,by show tn x≤30000;omega⟩
 have hcl:=mQ (ps.map aS) (by rw[κ];omega);have hkl:(ps.map aS).length=ps.length:=κ _;have J:ps.map aS++[[.str [],.int .i64 x.form,.int .i64 x.n,.str x.name,.sl 4 (dG x)]]=(ps++[(⟨[],x⟩:Prd)]).map aS:=by rw[Ai];rfl
 have ae:(ps++[(⟨[],x⟩:Prd)]).length=ps.length+1:=by rw[ζ];rfl
 generalize ps++[(⟨[],x⟩:Prd)]=g at B J ae ⊢;have hqe:(g.map aS).length=g.length:=κ _;refine aA (sk 1 rfl (kc hcl ?_));refine ak 6 [(4,.all),(5,.fz)] rfl (az (AWp.sub (Sub.own (t:=10) (id:=710) 9 1 rfl rfl) ?_));have A:∀r:List C,(ps.map aS).length+[r].length=g.length:=fun r=>by rw[hkl,ae];rfl
 refine aE (aL (fun k:Nat=>mk [(1,I .i64 m),(4,.one (.vp 4 0)),(6,.one (.vp 6 0)),(7,.one (.c (.sl 5 (ps.map aS)))),(9,.one (.vp 9 0)),(10,hs7 (gP [] (g.take k))),(44,.one (.hs 720 0 g.length g.length)),(45,I .i64 (g.length:Nat)),(46,I .i64 (k:Nat))] [(4,.var 33 aIu),(6,.var 38 [.c (.int .i64 0),.c (.int .i64 0)]),(9,.var 31 ((cF x).map .c)),(710,sv7 (gP [] (g.take k))),(720,.arr 195 5 (g.map aS) 2)]) (fun k=>k≤g.length) (fun k=>g.length-k) 0 (Ac _) (sl (he:=⟨rfl,rfl,rfl,rfl,rfl,rfl,Go.AM.hs_ren (A _) (A _),Go.AM.int_eq (congrArg Int.ofNat (A _)),rfl,trivial⟩) (hh:=⟨⟨_,rfl,.var rfl⟩,⟨_,rfl,.var rfl⟩,⟨_,rfl,.var rfl⟩,⟨_,rfl,.arrS rfl⟩,⟨_,rfl,.arrS J⟩,trivial⟩)) ?_);intro k hk;have hgl:(gP [] (g.take k)).length≤4002*30000:=by
  have h1:=vK (W:=30000) (g.take k) [] (fun p hp=>(B p (Bx hp)).2);rw[Aj,length_nil] at h1;have:min k g.length*30000≤4002*30000:=Au _ (by omega);omega
 refine sg rfl (aA (aB rfl (fun hb=>?_) (fun hb=>?_)))
 ·have af:k<g.length:=by have:=χ hb;omega
  obtain⟨p,hp⟩:=aM af;have hp':=b9 aS hp;have hpm:=B p (Af hp);have ah:=aBf p.ty (by have:=aSz p.ty;omega);have htf:=lW p.ty;have Y:=y7 hp;generalize gP [] (g.take k)=o at hgl Y ⊢;generalize tfR p.ty=l at ah htf Y ⊢;have ai:(l.map aR).length=l.length:=κ _;refine aD (aA (aE (sgh [(1,.row k (aS p))] rfl (sk 2 rfl (kc ah ?_)))));refine kz 2 rfl (aE (aL (fun j:Nat=>mk [(1,I .i64 m),(4,.one (.vp 4 0)),(6,.one (.vp 6 0)),(7,.one (.c (.sl 5 (ps.map aS)))),(9,.one (.vp 9 0)),(10,hs7 (eI o (l.take j))),(44,.one (.hs 720 0 g.length g.length)),(45,I .i64 (g.length:Nat)),(46,I .i64 (k:Nat)),(52,bI l),(53,I .i64 ((l.map aR).length:Nat)),(54,I .i64 (j:Nat))] [(4,.var 33 aIu),(6,.var 38 [.c (.int .i64 0),.c (.int .i64 0)]),(9,.var 31 ((cF x).map .c)),(710,sv7 (eI o (l.take j))),(720,.arr 195 5 (g.map aS) 2)]) (fun j=>j≤l.length) (fun j=>l.length-j) 0 (Ac _) sl ?_));intro j hj;refine sg rfl (aA (aB rfl (fun hb=>?_) (fun hb=>?_)))
  ·have E:=ltD hb ai;obtain⟨s,hs⟩:=aM E;have hs':=b9 aR hs;have u:eI o (l.take (j+1))=mZ (eI o (l.take j)) s:=by rw[Be,hs,oJ];rfl
   have hml:(eI o (l.take j)).length≤1000000000:=by
    have:=iV (l.take j) o;rw[Aj] at this;omega
   have aj:=qB (eI o (l.take j)) s (by omega);generalize eI o (l.take j)=M at u hml aj ⊢;have hml':(M.map aR).length=M.length:=κ _;refine aD (aA (aE (sgh [(0,.row j (aR s))] rfl (sk 2 rfl (kc aj ?_)))));refine kz 1 rfl (aB rfl (fun hb=>?_) (fun hb=>?_))
   ·have hm:¬s∈M:=fun h=>by rw[φ h] at hb;cases hb
    unfold mZ at u;rw[ξ hm] at u;refine ag [(2,.all)] rfl (ag [] rfl ⟨j+1,E,by dsimp only;omega,?_⟩);dsimp only;rw[u];exact sl
   ·have hm:s∈M:=by
     by_cases h:s∈M
     ·exact h
     ·rw[ψ h] at hb;cases hb
    unfold mZ at u;rw[θ hm] at u;refine aD (ag [] rfl ⟨j+1,E,by dsimp only;omega,?_⟩);dsimp only;rw[u];exact sl
  ·have aa:=geD hb ai hj;subst aa;rw[Ao];refine aG (ag [] rfl ⟨k+1,af,by dsimp only;omega,?_⟩);dsimp only;rw[Y];exact sl
 ·have aa:k=g.length:=by have:=Ad hb;omega
  subst aa;rw[Ao];exact aG (sg rfl (aF iR))
theorem aKq (s:Str):aU Tryz.prog 148 [Go.AM.T s] [] (tyV (.mk 2 0 s [])) []:=by
 refine bC (n:=5) tok Tryz.func148 rfl rfl rfl ?_;exact sg rfl (sg rfl (aF (rtC trw)))
theorem yJ {L:List Tk}{z:Z}(h:ZA L z) (hZ:o7 L) (hwt:wt L≤30000) {s:Sch}{R':List Tk}(hok:cI z.R=.ok (s,R')):aU Tryz.prog 145 [rP] [(600,rO L z)] (.ma (aQ9 s)) [(600,rO L ⟨R',z.e,z.p⟩),(710,sv7 s.vars)]:=by
 have g:=aDc L hZ z.R _ h hwt hok;have hm:=bL 0 0;unfold atV aQ9 at g;unfold aQ9;refine bC (n:=35) tok Tryz.func145 rfl rfl rfl ?_;refine sg rfl (sk 10 rfl (kc g ?_));refine kz 9 rfl (sk 7 rfl (kc hm ?_));exact az (sg rfl (sg rfl (aF (rtC trw))))
def aCx (nm v:Tk) (sup:List Str) (ms:List Sg):List (Nat×AObj):=[(1,pR),(6,.var 118 [.c (.str nm.text),.c (.int .i64 nm.pl),.c (.str v.text),.c .nl,.c (.sl 1 (sup.map aR)),.hs 530 0 ms.length ms.length]),(530,.arr 121 9 (ms.map cX) 0)]
def clS (nm v:Tk) (s:List Sg) (z:Z):List Sg×Z:=(s++[(oB nm.text v.text z).1],cK (s++[(oB nm.text v.text z).1]).length 16 nm.pl (oB nm.text v.text z).2)
theorem aT5 {L:List Tk}(hZ:o7 L) (hwt:wt L≤30000) (g v:Tk) (sup:List Str) (ms:List Sg) {z:Z}(h:ZA L z) (he:z.e=0) (h2:ms.length≤4001):
  bF Tryz.prog 144 ([]++[R.vp 1 0,R.c (.pt (aI v)),R.vp 6 0,R.c (.pt (aI g))].map V.one) ((600,rO L z)::aCx g v sup ms) (fZ L (.tup []) (clS g v ms z).2 (aCx g v sup (clS g v ms z).1)):=by
 have hmk:(ms.map cX).length=ms.length:=κ _;unfold clS oB;dsimp only;have hw:=gR h he 1 (by decide);have g1:=h.word (k:=1) (by decide);generalize b5 1 z=w at hw g1 ⊢;obtain⟨B,z1⟩:=w;dsimp only at hw g1 ⊢;refine mE (n:=50) tok Tryz.func144 rfl rfl rfl rfl ?_;by_cases A:z1.e=0
 case neg=>
  have hp:=bF.err hw A;rw[bH A,rL A];dsimp only;rw[dX A,aJ A];exact sk 1 rfl (kp hp)
 have hw:=bF.ok hw A;refine sk 1 rfl (kc hw ?_);refine ak 2 [(2,.id 41)] rfl (az ?_);have E:=cY g1 A eQ;have g2:=g1.need eQ;generalize aQ eQ z1=u at E g2 ⊢;by_cases q:u.e=0
 case neg=>
  have hp:=bF.err E q;rw[rL q];dsimp only;rw[dX q,aJ q];exact sk 1 rfl (kp hp)
 have E:=bF.ok E q;refine sk 1 rfl (kc E ?_);refine az ?_;have I:=kV g2 q hZ hwt;have O:= @yJ L u g2 hZ hwt;have J:=gC g2 hwt;unfold bO at I J ⊢;rw[θ q] at I J;simp only[θ q];cases U:cI u.R with
 | error e=>
  obtain⟨e,p⟩:=e;rw[U] at I;have aa:=n7 U;dsimp only[aRq] at I ⊢;have hp:=bF.err (z:=⟨u.R,e,p⟩) I aa;rw[dX (show ¬(Z.mk u.R e p).e=0 from aa),aJ (show ¬(Z.mk u.R e p).e=0 from aa)];exact sk 1 rfl (kp hp)
 | ok y=>
 obtain⟨s,R'⟩:=y;rw[U] at J;have O:=O U;dsimp only[aRq] at J ⊢;obtain⟨k1,k2,_,_⟩:=J;unfold aQ9 sv7 at O;have hde:=aHf s.vars (by have:=k2.v;omega) v;unfold svA at hde;have htv:aU Tryz.prog 148 [Go.AM.T v.text] [] (.pa [.int .i64 2,.int .i64 0,.str v.text,.sl 4 []]) []:=aKq v.text;have hq1:((dl v.text s.vars).map aR).length=(dl v.text s.vars).length:=κ _;have hq2:=aV6 v.text s.vars;have hq3:=k2.v;have hq4:(s.preds.map aS).length=s.preds.length:=κ _;have hq5:=k2.l;refine sk 1 rfl (kc O ?_);refine ak 2 [(2,.id 42)] rfl (az (skh 6 [(2,.id 540)] rfl (kc hde ?_)));refine kz 3 rfl (sk 4 rfl (kc htv ?_));refine ak 7 [(6,.id 541)] rfl (az (AWp.sub (Sub.freeze (id:=540) rfl) ?_));refine AWp.sub (Sub.freeze (id:=541) rfl) ?_;have hv1:[[C.str v.text]]++(dl v.text s.vars).map aR=(qL g.text v.text s).vars.map aR:=rfl;have hv2:[[C.str g.text,.int .i64 2,.int .i64 0,.str v.text,.sl 4 []]]++s.preds.map aS=(qL g.text v.text s).preds.map aS:=rfl;refine AWp.sub (vp 42 (mH (qL g.text v.text s)) (hp:=.hs rfl (by rw[ζ]) (hv1.symm.trans (Go.AM.take_all (by rw[ζ]))) (.c .nl (.hs rfl (by rw[ζ]) (hv2.symm.trans (Go.AM.take_all (by rw[ζ]))) (.c .refl (.c .refl (.c .refl (.c .refl .nil)))))))) ?_;have Y:ms.map cX++[cX ⟨B.text,B.pl,qL g.text v.text s⟩]=(ms++[(⟨B.text,B.pl,qL g.text v.text s⟩:Sg)]).map cX:=by rw[Ai];rfl
 have hle:(ms++[(⟨B.text,B.pl,qL g.text v.text s⟩:Sg)]).length=ms.length+1:=by rw[ζ];rfl
 refine sgh [(8,.all)] rfl ?_;generalize ms++[(⟨B.text,B.pl,qL g.text v.text s⟩:Sg)]=M at Y hle ⊢;refine AWp.sub (st2:=mk [(0,.one (.vp 1 0)),(1,.one (.c (.pt (aI v)))),(2,.one (.vp 6 0)),(3,.one (.c (.pt (aI g))))] ((600,rO L ⟨R',u.e,u.p⟩)::aCx g v sup M)) (sl (hh:=⟨⟨_,rfl,.var rfl⟩,⟨_,rfl,.var rfl⟩,⟨_,rfl,.var (by rw[hle,←hmk];rfl)⟩,⟨_,rfl,.arrS Y⟩,trivial⟩)) ?_;by_cases hM:M.length≤16
 case neg=>
  have d:decide (((M.length:Nat):Int)≤16)=false:=ψ (by omega);have hm:=bM 2 g.pl;rw[fN hM (show(Z.mk R' u.e u.p).e=0 from q),aJ cH];refine aC mixed (ak 6 [] rfl ?_);rw[d];exact kp hm
 have d:decide (((M.length:Nat):Int)≤16)=true:=φ (by omega);have hm:=bL 2 g.pl;rw[fM hM,bA (show(Z.mk R' u.e u.p).e=0 from q)];refine aC mixed (ak 6 [] rfl ?_);rw[d];refine kc hm ?_;exact az rtN
theorem sM (g v:Tk):∀(f n:Nat) (out:List Sg) (z:Z),jG g.text v.text g.pl f n out z=lpZ bB (clS g v) f n out z
 | 0,_,_,_=>rfl
 | f+1,n,out,z=>by
  rw[jG,lpZ];split
  ·exact sM g v f _ _ _
  ·rfl
theorem rK {v:Str}{a:Int}{l:List Prd}{out:List Str}{z:Z}(h:¬z.e=0):(dI v a l out z).2=z:=by
 cases l with
 | nil=>rfl
 | cons p l=>rw[dI,ξ h]
theorem lU {y:List Prd×Tk×Tk×Z}(h:¬y.2.2.2.e=0):aQ bB (vY y (nZ y)).2=y.2.2.2:=by
 have h1:(nZ y).2=y.2.2.2:=by unfold nZ;dsimp only;rw[rK h];exact bH h
 unfold vY;rw[sM,fV (by rw[h1];exact h),h1];exact bH h
theorem aPv (E v:Tk) (sup:List Str) {step:(List Sg)→Z→(List Sg)×Z}{Inv:Nat→(List Sg)→Prop}{L:List Tk}{N:Nat}
  (hone:∀n s z,Inv n s→n<60→ZA L z→z.e=0→z.R.length≤N→bF Tryz.prog 144 ([]++[R.vp 1 0,R.c (.pt (aI v)),R.vp 6 0,R.c (.pt (aI E))].map V.one) ((600,rO L z)::aCx E v sup s) (fZ L (.tup []) (step s z).2 (aCx E v sup (step s z).1)))
  (hst:∀n s z,Inv n s→n<60→ZA L z→z.e=0→ZA L (step s z).2∧Inv (n+1) (step s z).1∧((step s z).2.e=0→(step s z).2.R.length<z.R.length)∧Ze z (step s z).2)
  {z:Z} (h:ZA L z) (he:z.e=0) (hN:z.R.length≤N) {s:(List Sg)} (hI:Inv 0 s):
  bF Tryz.prog 90 [rP,.one (.clo 189 [R.vp 2 0]),.one (.clo 144 [R.vp 1 0,R.c (.pt (aI v)),R.vp 6 0,R.c (.pt (aI E))])] ((600,rO L z)::(2,pR)::aCx E v sup s) (fZ L (.tup []) (lpZ bB step (z.R.length+1) 0 s z).2 ((2,pR)::aCx E v sup (lpZ bB step (z.R.length+1) 0 s z).1)):=by
 have u:∃W,W=lpZ bB step (z.R.length+1) 0 s z:=⟨_,rfl⟩
 obtain⟨W,u⟩:=u;rw[←u];refine mE (n:=35) tok Tryz.func90 rfl rfl rfl rfl ?_;refine sg rfl (aE (aL (fun q:Nat×(List Sg)×Z×Nat=>mk [(0,rP),(1,.one (.clo 189 [R.vp 2 0])),(2,.one (.clo 144 [R.vp 1 0,R.c (.pt (aI v)),R.vp 6 0,R.c (.pt (aI E))])),(6,I .i64 (q.1:Nat))] ((600,rO L q.2.2.1)::(2,pR)::aCx E v sup q.2.1)) (fun q=>Inv q.1 q.2.1∧q.1≤60∧ZA L q.2.2.1∧q.2.2.1.e=0∧q.2.2.1.R.length≤N∧q.2.2.1.R.length<q.2.2.2∧moreA bB q.1 q.2.2.1=q.2.2.1∧W=lpZ bB step q.2.2.2 q.1 q.2.1 q.2.2.1) (fun q=>q.2.2.1.R.length) (0,s,z,z.R.length+1) ⟨hI,Ac _,h,he,hN,B2 _,pJ _ _,u⟩ sl ?_));clear u h he hN hI;rintro⟨n,s,z,f⟩ ⟨hI,hn,h,he,hN,hf,hA,u⟩;dsimp only at hI hn h he hN hf hA u;refine aE (aA (aE (aL (fun y:Z=>mk [(0,rP),(1,.one (.clo 189 [R.vp 2 0])),(2,.one (.clo 144 [R.vp 1 0,R.c (.pt (aI v)),R.vp 6 0,R.c (.pt (aI E))])),(6,I .i64 (n:Nat))] ((600,rO L y)::(2,pR)::aCx E v sup s)) (fun y=>ZA L y∧y.e=0∧cO z=cO y∧y.R.length≤z.R.length) (fun y=>y.R.length) z ⟨h,he,rfl,le_refl _⟩ sl ?_)));rintro y ⟨h2,B,e2,hle2⟩

 have hm:=eT h2 B cC;obtain⟨m1,m2,m3⟩:=kU h2;have U:=h2.may cC;have he3:=(gX cC y).trans B;generalize bQ cC y=m at hm m1 m2 m3 U he3;obtain⟨b,z3⟩:=m;dsimp only at m1 m2 m3 U he3;refine aA (sk 1 rfl (kc hm ?_));refine az (aB rfl (fun hb=>?_) (fun hb=>?_))
 ·have hb:b=true:=hb;have:=m3 hb;exact aD (aE (aD ⟨z3,⟨U,he3,e2.trans m1.symm,by omega⟩,m3 hb,sl⟩))
 have hb:b=false:=hb;obtain⟨g1,g2⟩:=m2 hb;subst g1;have e3:cO z=z3:=e2.trans g2;clear m1 m2 m3 U e2 hm;have hf0:∃g,f=g+1:=⟨f-1,by omega⟩
 obtain⟨f,rfl⟩:=hf0;rw[lpZ] at u;unfold bJ at u;rw[hA,e3] at u;have hs3:=o6 h2;have hn3:=dU h2;refine aG (aA (sk 1 rfl (kv (args:=[]) hs3 ?_)));refine az (aB rfl (fun hb=>?_) (fun hb=>?_))
 ·have hb:dJ bB z3=true:=hb;rw[θ (show ¬z3.e=0∨dJ bB z3=true from .inr hb)] at u;rw[ξ ω] at u;rw[u,bA B];exact aF rtN
 have hb:dJ bB z3=false:=hb;have hnb:¬(¬z3.e=0∨dJ bB z3=true):=fun k=>k.elim (fun k=>k B) fun k=>by rw[hb] at k;cases k
 rw[ξ hnb] at u;refine aD ?_;by_cases hn60:n<60
 case neg=>
  have d:decide (((n:Nat):Int)<60)=false:=ψ (by omega);rw[fN (by omega) B] at u;dsimp only at u;rw[ψ cH,ξ ω] at u;rw[u,aJ cH];have hmn:=bM 2 (b4 z3).pl;refine sk 5 rfl (kc hn3 ?_);refine ak 1 [] rfl ?_;rw[d];exact kp hmn
 have d:decide (((n:Nat):Int)<60)=true:=φ (by omega);rw[fM (by omega),φ B,θ rfl] at u;have hmo:=bL 2 (b4 z3).pl;refine sk 5 rfl (kc hn3 ?_);refine ak 1 [] rfl ?_;rw[d];refine kc hmo ?_;refine az ?_;have ho:=hone n s z3 hI hn60 h2 B (by omega);obtain⟨J,k2,k3,_⟩:=hst n s z3 hI hn60 h2 B;generalize step s z3=y at ho J k2 k3 u;obtain⟨s4,z4⟩:=y;dsimp only at ho J k2 k3 u;by_cases A:z4.e=0
 case neg=>
  have hp:=bF.err ho A;rw[fV A] at u;rw[u,aJ A];exact sk 1 rfl (kpv (args:=[]) hp)
 have ho:=bF.ok ho A;have k3:=k3 A;refine sk 1 rfl (kv (args:=[]) ho ?_);refine az (aA (agN [] rfl ?_));have hlp:=J.lp;have M:=lG J cC;have hn4:=dU J;have Y:=o6 J;have hmo4:=bL 12 (b4 z4).pl;cases aa:isZ cC z4 with
 | true=>
  rw[aa] at M;have O:moreA bB (n+1) z4=z4:=ξ fun k=>by rw[aa] at k;cases k.2.2.1
  refine aC mixed (ak 1 [] rfl (kc M ?_));refine ak 7 [(2,.bv true),(5,.bv true)] rfl (kc hn4 ?_);refine ak 1 [(2,.bv true),(5,.bv true)] rfl (kc hmo4 ?_);exact az ⟨(n+1,s4,z4,f),⟨k2,by omega,J,A,by dsimp only;omega,by dsimp only;omega,O,u⟩,by dsimp only;omega,sl⟩
 | false=>
  rw[aa] at M;cases ab:dJ bB z4 with
  | true=>
   rw[ab] at Y;have O:moreA bB (n+1) z4=z4:=ξ fun k=>by rw[ab] at k;cases k.2.2.2
   refine aC mixed (ak 1 [] rfl (kc M ?_));refine ak 2 [(2,.bv false)] rfl (kvG (args:=[]) Y ?_);refine ak 4 [(2,.bv false),(5,.bv false)] rfl (kc hn4 ?_);refine ak 1 [(2,.bv false),(5,.bv false)] rfl (kc hmo4 ?_);exact az ⟨(n+1,s4,z4,f),⟨k2,by omega,J,A,by dsimp only;omega,by dsimp only;omega,O,u⟩,by dsimp only;omega,sl⟩
  | false=>
   rw[ab] at Y;have hmn4:=bM 12 (b4 z4).pl;have O:moreA bB (n+1) z4=⟨z4.R,12,(b4 z4).pl⟩:=(θ ⟨succ_pos n,A,aa,ab⟩).trans (θ A);have h12:¬(12:Int)=0:=by decide
   have hWb:W.2=⟨z4.R,12,(b4 z4).pl⟩:=by
    obtain⟨f,rfl⟩:∃g,f=g+1:=⟨f-1,by omega⟩
    rw[lpZ] at u;unfold bJ at u;rw[O,kX h12,θ (show ¬(Z.mk z4.R 12 (b4 z4).pl).e=0∨_ from .inl h12),ξ ω] at u;rw[u]
   rw[hWb,aJ h12];refine aC mixed (ak 1 [] rfl (kc M ?_));refine ak 2 [(2,.bv false)] rfl (kvG (args:=[]) Y ?_);refine ak 4 [(2,.bv false),(5,.bv false)] rfl (kc hn4 ?_);refine ak 1 [(2,.bv false),(5,.bv false)] rfl (kpD (.tup []) [] hmn4 ?_);exact az trivial
theorem aK9 (A v:Tk) (sup:List Str) {step:(List Sg)→Z→(List Sg)×Z}{Inv:Nat→(List Sg)→Prop}{L:List Tk}{N:Nat}
  (J:∀n s z,Inv n s→n<60→ZA L z→z.e=0→z.R.length≤N→bF Tryz.prog 144 ([]++[R.vp 1 0,R.c (.pt (aI v)),R.vp 6 0,R.c (.pt (aI A))].map V.one) ((600,rO L z)::aCx A v sup s) (fZ L (.tup []) (step s z).2 (aCx A v sup (step s z).1)))
  (I:∀n s z,Inv n s→n<60→ZA L z→z.e=0→ZA L (step s z).2∧Inv (n+1) (step s z).1∧((step s z).2.e=0→(step s z).2.R.length<z.R.length)∧Ze z (step s z).2)
  {z:Z} (h:ZA L z) (he:z.e=0) (hN:z.R.length≤N) {s:(List Sg)} (M:Inv 0 s):
  bF Tryz.prog 143 [rP,.one (.clo 144 [R.vp 1 0,R.c (.pt (aI v)),R.vp 6 0,R.c (.pt (aI A))])] ((600,rO L z)::aCx A v sup s) (fZ L (.tup []) (u6 step s z).2 (aCx A v sup (u6 step s z).1)):=by
 have g:=cY h he dS;have h1:=h.need dS;have O:=Ze.need dS z;unfold u6;generalize aQ dS z=E at g h1 O ⊢;have Y:E.R.length≤z.R.length:=O;refine mE (n:=12) tok Tryz.func143 rfl rfl rfl rfl ?_;refine sg rfl ?_;by_cases q:E.e=0
 case neg=>
  have hp:=bF.err g q;rw[fV q];dsimp only;rw[bH q,aJ q];exact sk 1 rfl (kp hp)
 have g:=bF.ok g q;refine sk 1 rfl (kc g ?_);refine az ?_;have u:=aPv A v sup (step:=step) (Inv:=Inv) (L:=L) (N:=N) J I h1 q (by omega) M;have hok:=(sO (sh:=bB) I (E.R.length+1) 0 s E (Ac _) M h1).1
 generalize lpZ bB step (E.R.length+1) 0 s E=W at u hok ⊢;obtain⟨s2,U⟩:=W;dsimp only at u hok ⊢;by_cases y:U.e=0
 case neg=>
  have hp:=bF.err u y;rw[bH y,aJ y];exact sk 3 rfl (kp hp)
 have u:=bF.ok u y;refine sk 3 rfl (kc u ?_);refine az ?_;have g:=cY hok y bB;generalize aQ bB U=z3 at g ⊢;by_cases B:z3.e=0
 case neg=>
  have hp:=bF.err g B;rw[aJ B];exact aC mixed (ak 1 [] rfl (kp hp))
 have g:=bF.ok g B;rw[bA B];refine aC mixed (ak 1 [] rfl (kc g ?_));exact az rtN
def aXa (L:List Tk) (z:Z) (nm v:Tk) (sup:List Str):List (Nat×AObj):=[(600,rO L z),(1,pR),(2,.var 118 [.c (.str []),.c (.int .i64 0),.c (.str []),.c .nl,.c .nl,.c .nl]),(4,.var 167 ((aI nm).map .c)),(5,.var 167 ((aI v).map .c)),(6,.var 118 [.c (.str nm.text),.c (.int .i64 nm.pl),.c (.str v.text),.c .nl,.hs 531 0 sup.length sup.length,.c .nl]),(531,svA (sup.map aR) 0)]
theorem aK7 {L:List Tk}(hZ:o7 L) (hwt:wt L≤30000) {z:Z}(h:ZA L z) (he:z.e=0):bF Tryz.prog 95 [rP] [(600,rO L z)] (fZ L (.pa (qP (iH z).1)) (iH z).2 []):=by
 unfold iH;have hA:iJ z=((bT z).1,(b5 2 (bT z).2).1,(b5 1 (b5 2 (bT z).2).2).1,(b5 1 (b5 2 (bT z).2).2).2):=rfl;rw[hA];have hp:=wE h he hZ;obtain⟨h1,ab,l1⟩:=mB h hwt;generalize bT z=y at hp h1 ab l1 ⊢;obtain⟨ps,z1⟩:=y;dsimp only at hp h1 ab l1 ⊢;refine mE (n:=55) tok Tryz.func95 rfl rfl rfl rfl ?_;refine sg rfl ?_;by_cases B:z1.e=0
 case neg=>
  have hp:=bF.err hp B;have M:(b5 1 (b5 2 z1).2).2=z1:=by rw[kW B];exact kW B
  rw[lU (by dsimp only;rw[M];exact B)];dsimp only;rw[M,aJ B];exact sk 1 rfl (kp hp)
 have hp:=bF.ok hp B;refine sk 1 rfl (kc hp ?_);refine kz 1 rfl ?_;have hw:=gR h1 B 2 (by decide);have h2:=h1.word (k:=2) (by decide);generalize b5 2 z1=y at hw h2 ⊢;obtain⟨g,z2⟩:=y;dsimp only at hw h2 ⊢;by_cases J:z2.e=0
 case neg=>
  have hp:=bF.err hw J;have M:(b5 1 z2).2=z2:=kW J;rw[lU (by dsimp only;rw[M];exact J)];dsimp only;rw[M,aJ J];exact sk 1 rfl (kp hp)
 have hw:=bF.ok hw J;refine sk 1 rfl (kc hw ?_);refine kz 2 rfl ?_;have hw:=gR h2 J 1 (by decide);have h3:=h2.word (k:=1) (by decide);generalize b5 1 z2=y at hw h3 ⊢;obtain⟨v,z3⟩:=y;dsimp only at hw h3 ⊢;by_cases E:z3.e=0
 case neg=>
  have hp:=bF.err hw E;rw[lU (by exact E)];dsimp only;rw[aJ E];exact sk 1 rfl (kp hp)
 have hw:=bF.ok hw E;refine sk 1 rfl (kc hw ?_);refine kz 2 rfl (sg rfl ?_);have hpk:(ps.map aS).length=ps.length:=κ _;have u:∃F,F=dI v.text g.pl ps [] z3:=⟨_,rfl⟩
 obtain⟨F,u⟩:=u;have hB:nZ (ps,g,v,z3)=(F.1,aQ dS F.2):=by rw[u];rfl
 rw[hB];have hC:∀w:List Str×Z,vY (ps,g,v,z3) w=lpZ bB (clS g v) (w.2.R.length+1) 0 [] w.2:=fun w=>sM g v _ _ _ _
 rw[hC];dsimp only;refine aA (sg rfl (AWp.sub (Sub.ownCell (x:=6) (k:=4) (id:=531) 9 1 rfl rfl rfl) ?_));refine aE (aL (fun q:Nat×List Str=>mk [(1,.one (.vp 1 0)),(2,.one (.vp 2 0)),(4,.one (.vp 4 0)),(5,.one (.vp 5 0)),(6,.one (.vp 6 0)),(22,.one (.c (.sl 5 (ps.map aS)))),(23,I .i64 ((ps.map aS).length:Nat)),(24,I .i64 (q.1:Nat))] (aXa L z3 g v q.2)) (fun q=>q.1≤ps.length∧q.2.length=q.1∧F=dI v.text g.pl (ps.drop q.1) q.2 z3) (fun q=>ps.length-q.1) (0,[]) ⟨Ac _,rfl,u⟩ sl ?_);clear u hB hC hw hp hA;rintro⟨i,sup⟩ ⟨hi,hsl,u⟩;dsimp only at hi hsl u ⊢;have ac:(sup.map aR).length=sup.length:=κ _;refine sg rfl (aA (aB rfl (fun hb=>?_) (fun hb=>?_)))
 ·have hlt:=ltD hb hpk;obtain⟨p,hpi⟩:=aM hlt;have hpi':=b9 aS hpi;have hds:ps.drop i=p::ps.drop (i+1):=by
   obtain⟨k1,k2⟩:=Ag.1 hpi;rw[←k2];exact A5 k1
  rw[hds,dI,θ E] at u;refine aD (aA (aE (sgh [(0,.row i (aS p))] rfl ?_)));have ad:¬(p.ty.form=2∧p.ty.name=v.text)→aQ bB (lpZ bB (clS g v) ((aQ dS F.2).R.length+1) 0 [] (aQ dS F.2)).2=⟨z3.R,12,g.pl⟩:=fun hn=>by
   have h12:¬(12:Int)=0:=by decide
   have M:F.2=⟨z3.R,12,g.pl⟩:=by
    rw[ξ hn] at u;unfold bS at u;rw[θ E] at u;rw[u,rK h12]
   have O:¬(Z.mk z3.R 12 g.pl).e=0:=h12;rw[M,bH O,fV O];exact bH O
  have hmn:=bM 12 g.pl;by_cases U:p.ty.form=2
  case neg=>
   have d:decide (p.ty.form=2)=false:=ψ U;rw[ad (fun k=>U k.1),aJ (show ¬(12:Int)=0 by decide)];exact skh 14 [(4,.bv false),(11,.bv false)] rfl (kp hmn)
  have d:decide (p.ty.form=2)=true:=φ U;by_cases Y:p.ty.name=v.text
  case neg=>
   have d2:decide (p.ty.name=v.text)=false:=ψ Y;rw[ad (fun k=>Y k.2),aJ (show ¬(12:Int)=0 by decide)];refine skh 14 [(4,.bv true),(11,.bv true)] rfl ?_;rw[d2];exact kp hmn
  have d2:decide (p.ty.name=v.text)=true:=φ Y;have hmo:=bL 12 g.pl;rw[θ ⟨U,Y⟩] at u;refine skh 14 [(4,.bv true),(11,.bv true)] rfl ?_;rw[d2];refine kc hmo ?_;refine az ?_;have hrows:sup.map aR++[[.str p.cls]]=(sup++[p.cls]).map aR:=by rw[Ai];rfl
  have hle:(sup++[p.cls]).length=sup.length+1:=by rw[ζ];rfl
  have hpl1:=ab.1;exact ag [(4,.all)] rfl (agN [] rfl ⟨(i+1,sup++[p.cls]),⟨hlt,by dsimp only;rw[hle,hsl],u⟩,by dsimp only;omega,sl (hh:=⟨⟨_,rfl,.var rfl⟩,⟨_,rfl,.var rfl⟩,⟨_,rfl,.var rfl⟩,⟨_,rfl,.var rfl⟩,⟨_,rfl,.var rfl⟩,⟨_,rfl,.var (by rw[hle,←ac];rfl)⟩,⟨_,rfl,.arrS hrows⟩,trivial⟩)⟩)
 have hge:=geD hb hpk hi;rw[hge,Cp,dI] at u;subst u;dsimp only;refine aG (AWp.sub (Sub.freeze (id:=531) rfl) ?_);refine AWp.sub (vp 6 [.str g.text,.int .i64 g.pl,.str v.text,.nl,.sl 1 (sup.map aR),.nl] (hp:=.c .refl (.c .refl (.c .refl (.c .refl (.hs rfl ac.symm (Go.AM.take_all ac.symm) (.c .refl .nil))))))) ?_;refine AWp.sub (Sub.ownCell (x:=6) (k:=5) (id:=530) 121 9 rfl rfl rfl) ?_;refine AWp.sub (Sub.fvar (id:=4) (l:=aI g) rfl (by simp[keys])) ?_;refine AWp.sub (Sub.fvar (id:=5) (l:=aI v) rfl (by simp[keys])) ?_;have hst:∀(n:Nat) (s:List Sg) (z:Z),s.length=n→n<60→ZA L z→z.e=0→ZA L (clS g v s z).2∧(clS g v s z).1.length=n+1∧((clS g v s z).2.e=0→(clS g v s z).2.R.length<z.R.length)∧Ze z (clS g v s z).2:=fun n s z hI hn h he=>by
  have k1:=(h.word (k:=1) (by decide)).need eQ;obtain⟨g1,_,g3,g4⟩:=gC k1 hwt;have l1:(b5 1 z).2.R.length≤z.R.length:=Ze.word 1 z;have l2:(aQ eQ (b5 1 z).2).R.length≤(b5 1 z).2.R.length:=Ze.need _ _;have g4':(bO (aQ eQ (b5 1 z).2)).2.R.length≤(aQ eQ (b5 1 z).2).R.length:=g4;unfold clS oB;dsimp only;refine⟨g1.long _ _ _,by rw[ζ,hI];rfl,fun h0=>?_,(((Ze.word 1 z).trans (Ze.need _ _)).trans g4).trans (Ze.long _ _ _ _)⟩;by_cases hs:(bO (aQ eQ (b5 1 z).2)).2.e=0
  ·have:=g3 hs;have l3:=Ze.long (s++[(⟨(b5 1 z).1.text,(b5 1 z).1.pl,qL g.text v.text (bO (aQ eQ (b5 1 z).2)).1⟩:Sg)]).length 16 g.pl (bO (aQ eQ (b5 1 z).2)).2;unfold Ze at l3;omega
  ·rw[dX hs] at h0;exact absurd h0 hs
 have hI0:([]:List Sg).length=0:=rfl;have A:=aK9 g v sup (step:=clS g v) (Inv:=fun n s=>s.length=n) (L:=L) (N:=z3.R.length) (fun n s z hI hn h he hN=>aT5 hZ hwt g v sup s h he (by omega)) hst h3 E (le_refl _) (s:=[]) hI0;unfold u6 at A;dsimp only at A;generalize aQ dS z3=z7 at A ⊢;generalize lpZ bB (clS g v) (z7.R.length+1) 0 [] z7=W at A ⊢;obtain⟨ms,zB⟩:=W;dsimp only at A ⊢;have hmk:(ms.map cX).length=ms.length:=κ _;generalize aQ bB zB=z8 at A ⊢;by_cases aa:z8.e=0
 case neg=>
  have hp:=bF.err A aa;rw[aJ aa];exact sk 2 rfl (kp hp)
 have A:=bF.ok A aa;rw[bA aa];refine sk 2 rfl (kc A ?_);refine az (AWp.sub (Sub.freeze (id:=530) rfl) ?_);exact sg rfl (aF (rtC trw (hc:=.agg (.c .refl (.c .refl (.c .refl (.c .nl (.c .refl (.hs rfl hmk.symm (Go.AM.take_all hmk.symm) .nil)))))))))
theorem qR (s:Str) (g:aU Tryz.prog 86 [Go.AM.T s] [] (aDx (nE s)) []):aU Tryz.prog 31 [Go.AM.T s] [] (.tup [.pa (mI (iB s).1),atV (iB s).2.1 (if(iB s).2.1=0 then 0 else(iB s).2.2)]) []:=by
 obtain⟨u,hwt,hZ,q⟩:=fK s;exact aDd aUh s g fun z h he _=>aK7 hZ hwt h he
def Kq (z z':Z):Prop:=z'.e=0→z.e=0∧z'.p=z.p
theorem Kq.refl (z:Z):Kq z z:=fun h=>⟨h,rfl⟩
theorem Kq.trans {a b c:Z}(h:Kq a b) (k:Kq b c):Kq a c:=fun e=>by
 obtain⟨g,q⟩:=k e;obtain⟨u,y⟩:=h g;exact⟨u,q.trans y⟩
theorem Kq.fail {e p:Int}(he:¬e=0) (z:Z):Kq z (bS e p z):=fun h=>(cW he h).elim
theorem Kq.may (s:Str) (z:Z):Kq z (bQ s z).2:=by
 unfold Kq bQ;split
 ·exact fun h=>⟨h,rfl⟩
 ·exact fun h=>⟨h,rfl⟩
theorem Kq.need (s:Str) (z:Z):Kq z (aQ s z):=by
 unfold aQ;split
 ·exact Kq.may s z
 ·exact Kq.fail (by decide) z
theorem Kq.word (k:Int) (z:Z):Kq z (b5 k z).2:=by
 unfold b5;split
 ·exact fun h=>⟨h,rfl⟩
 ·exact Kq.fail (by decide) z
theorem Kq.words (z:Z):Kq z (aZ z).2:=by
 unfold aZ;split
 ·exact fun h=>⟨h,rfl⟩
 ·exact Kq.refl z
theorem Kq.long (n m:Nat) (a:Int) (z:Z):Kq z (cK n m a z):=by
 unfold cK;split
 ·exact Kq.fail (by decide) z
 ·exact Kq.refl z
theorem Kq.semi (z:Z):Kq z (cO z):=by
 unfold cO;split
 ·exact fun h=>⟨h,rfl⟩
 ·exact Kq.refl z
theorem Kq.mA (s:Str) (n:Nat) (z:Z):Kq z (moreA s n z):=by
 unfold moreA;split
 ·exact Kq.fail (by decide) z
 ·exact Kq.refl z
theorem Kq.more (s:Str) (n:Nat) (z:Z):Kq z (bJ s n z).2:=by
 unfold bJ;split
 ·exact(Kq.mA s n z).trans (Kq.semi _)
 ·exact((Kq.mA s n z).trans (Kq.semi _)).trans (Kq.long _ _ _ _)
theorem Kq.scheme (z:Z):Kq z (bO z).2:=by
 unfold bO;split
 ·cases h:cI z.R with
  | error e=>obtain⟨e,p⟩:=e;exact fun h0=>absurd h0 (n7 h)
  | ok y=>exact fun h=>⟨h,rfl⟩
 ·exact Kq.refl z
theorem Kq.preds (z:Z):Kq z (bT z).2:=by
 unfold bT;split
 ·cases h:cU z.R with
  | error e=>obtain⟨e,p⟩:=e;exact fun h0=>absurd h0 (iF h)
  | ok y=>exact fun h=>⟨h,rfl⟩
 ·exact Kq.refl z
theorem Kq.atom (z:Z):Kq z (gT z).2:=by
 unfold gT;cases h:cP (3*z.R.length) 0 z.R with
 | error e=>obtain⟨e,p⟩:=e;exact fun h0=>absurd h0 (eN _ 0 z.R e p h)
 | ok y=>exact fun h=>⟨h,rfl⟩
theorem Kq.fields:∀(f:Nat) (out:List Ty) (z:Z),Kq z (cQ f out z).2
 | 0,_,z=>Kq.refl z
 | f+1,out,z=>by
  rw[cQ];split
  ·exact(Kq.atom z).trans (Kq.fields f _ _)
  ·exact Kq.refl z
theorem Kq.con (z:Z):Kq z (tG z).2:=((Kq.word 2 z).trans (Kq.fields _ _ _)).trans (Kq.long _ _ _ _)
theorem Kq.cons:∀(f:Nat) (a:Int) (out:List Cn) (z:Z),Kq z (mK f a out z).2
 | 0,_,_,z=>Kq.refl z
 | f+1,a,out,z=>by
  rw[mK];split
  ·exact(((Kq.con z).trans (Kq.long _ _ _ _)).trans (Kq.may _ _)).trans (Kq.cons f a _ _)
  ·exact((Kq.con z).trans (Kq.long _ _ _ _)).trans (Kq.may _ _)
theorem Kq.data (z:Z):Kq z (oE z).2:=by
 have h1:Kq z (lO z).2.2:=(((Kq.word 2 z).trans (Kq.words _)).trans (Kq.long _ _ _ _)).trans (Kq.need _ _);unfold oE lP;dsimp only;split
 ·exact h1.trans (Kq.cons _ _ _ _)
 ·exact h1
theorem Kq.tl (z:Z):Kq z (tlZ z):=fun h=>⟨h,rfl⟩
theorem y2:∀f:Nat,(∀o z,Kq z (b8 f o z).2)∧(∀o z,Kq z (fS f o z).2)∧(∀o out z,Kq z (dY f o out z).2)
 | 0=>⟨fun o z=>by rw[b8];exact Kq.refl z,fun o z=>by rw[fS];exact Kq.fail (by decide) z,fun o out z=>by rw[dY];exact Kq.refl z⟩
 | f+1=>by
  obtain⟨h1,h2,g⟩:=y2 f;refine⟨fun o z=>?_,fun o z=>?_,fun o out z=>?_⟩
  ·rw[b8];split
   ·exact Kq.refl z
   split
   ·exact Kq.tl z
   split
   ·exact Kq.may _ z
   split
   ·exact Kq.refl z
   split
   ·exact Kq.fail (by decide) z
   ·exact((Kq.need _ z).trans (h2 _ _)).trans (Kq.need _ _)
  ·rw[fS];split
   ·exact(h1 _ _).trans (Kq.fail (by decide) _)
   split
   ·exact(Kq.tl z).trans (g _ _ _)
   ·exact h1 _ _
  ·rw[dY];split
   ·split
    ·exact h1 _ _
    ·exact(h1 _ _).trans (g _ _ _)
   ·exact Kq.refl z
theorem Kq.pair:∀(l:List Sg) (b:List Bd) (z:Z),Kq z (cS l b z).2:=fun l b z h=>by
 have h1:=k9 h;rw[h1] at h ⊢;exact⟨h,rfl⟩
def aL8 (ex:Nat→Z→Ex×Z):Prop:=∀deep z,Kq z (ex deep z).2
section
variable {ex:Nat→Z→Ex×Z}(hx:aL8 ex)
include hx
theorem Kq.one (deep:Nat) (z:Z):Kq z (gU ex deep z).2:=by
 unfold gU;split
 ·exact Kq.refl z
 split
 ·exact Kq.tl z
 split
 ·exact Kq.refl z
 ·exact((Kq.may _ z).trans (hx _ _)).trans (Kq.need _ _)
theorem Kq.apps (deep:Nat) (a:Int):∀(f:Nat) (e:Ex) (z:Z),Kq z (fB ex deep a f e z).2
 | 0,_,z=>Kq.refl z
 | f+1,e,z=>by
  rw[fB];split
  ·split
   ·exact Kq.one hx deep z
   ·exact(Kq.one hx deep z).trans (Kq.apps deep a f _ _)
  ·exact Kq.refl z
theorem Kq.lam (a:Int) (deep:Nat) (z:Z):Kq z (rB ex a deep z).2:=by
 have h0:Kq z (if(aZ z).1=[] then bS 12 (b4 (aZ z).2).pl (aZ z).2 else(aZ z).2):=by
  split
  ·exact(Kq.words z).trans (Kq.fail (by decide) _)
  ·exact Kq.words z
 exact((h0.trans (Kq.long _ _ _ _)).trans (Kq.need _ _)).trans (hx _ _)
theorem Kq.bind (g:Tk) (deep:Nat) (z:Z):Kq z (dR ex g deep z).2:=(((Kq.words z).trans (Kq.long _ _ _ _)).trans (Kq.need _ _)).trans (hx _ _)
theorem Kq.either (sigs:List Sg) (binds:List Bd) (deep:Nat) (z:Z):Kq z (aT ex sigs binds deep z).2:=by
 unfold aT;split
 ·exact((Kq.word _ z).trans (Kq.may _ _)).trans (Kq.scheme _)
 ·exact((Kq.word _ z).trans (Kq.may _ _)).trans (Kq.bind hx _ _ _)
theorem Kq.lets (deep:Nat):∀(f n:Nat) (sigs:List Sg) (binds:List Bd) (z:Z),Kq z (eP ex deep f n sigs binds z).2
 | 0,_,_,_,z=>Kq.refl z
 | f+1,n,sigs,binds,z=>by
  rw[eP];split
  ·exact((Kq.more _ _ z).trans (Kq.either hx _ _ _ _)).trans (Kq.lets deep f _ _ _ _)
  ·exact Kq.more _ _ z
theorem Kq.let' (a:Int) (deep:Nat) (z:Z):Kq z (rA ex a deep z).2:=
 (((((Kq.need _ z).trans (Kq.lets hx _ _ _ _ _ _)).trans (Kq.need _ _)).trans (Kq.pair _ _ _)).trans (Kq.need _ _)).trans (hx _ _)
theorem Kq.alts (deep:Nat):∀(f n:Nat) (ps:List Pt) (ks:List Ex) (z:Z),Kq z (eO ex deep f n ps ks z).2
 | 0,_,_,_,z=>Kq.refl z
 | f+1,n,ps,ks,z=>by
  rw[eO];split
  ·exact((((Kq.more _ _ z).trans ((y2 _).2.1 _ _)).trans (Kq.need _ _)).trans (hx _ _)).trans (Kq.alts deep f _ _ _ _)
  ·exact Kq.more _ _ z
theorem Kq.case' (a:Int) (deep:Nat) (z:Z):Kq z (gQ ex a deep z).2:=by
 have h1:Kq z (fQ ex deep (cT ex deep z)).2:=(((hx _ z).trans (Kq.need _ _)).trans (Kq.need _ _)).trans (Kq.alts hx _ _ _ _ _ _);unfold gQ;dsimp only;split
 ·exact(h1.trans (Kq.need _ _)).trans (Kq.fail (by decide) _)
 ·exact h1.trans (Kq.need _ _)
omit hx in
theorem Kq.ann (a:Int) (y:Ex×Z):Kq y.2 (qG a y).2:=by
 unfold qG;split
 ·exact(Kq.may _ _).trans (Kq.scheme _)
 ·exact Kq.may _ _
theorem Kq.plain (deep:Nat) (z:Z):Kq z (fG ex deep z).2:=by
 unfold fG;refine Kq.trans ?_ (Kq.apps hx _ _ _ _ _);split
 ·exact(Kq.one hx deep z).trans (Kq.fail (by decide) _)
 ·exact Kq.one hx deep z
theorem aO5:aL8 (vR ex):=fun deep z=>by
 unfold vR;split
 ·exact Kq.refl z
 split
 ·exact Kq.fail (by decide) z
 split
 ·exact(Kq.may _ z).trans (Kq.lam hx _ _ _)
 split
 ·exact(Kq.may _ z).trans (Kq.let' hx _ _ _)
 split
 ·exact(Kq.may _ z).trans (Kq.case' hx _ _ _)
 ·exact(Kq.plain hx deep z).trans (Kq.ann _ _)
end
theorem y3:∀f,aL8 (aC2 f)
 | 0=>fun _ z=>Kq.fail (by decide) z
 | f+1=>aO5 (y3 f)
theorem Kq.supers (v:Str) (a:Int):∀(l:List Prd) (out:List Str) (z:Z),Kq z (dI v a l out z).2
 | [],_,z=>Kq.refl z
 | p::l,out,z=>by
  rw[dI];split
  ·refine Kq.trans ?_ (Kq.supers v a l _ _);split
   ·exact Kq.refl z
   ·exact Kq.fail (by decide) z
  ·exact Kq.refl z
theorem Kq.meths (c v:Str) (a:Int):∀(f n:Nat) (out:List Sg) (z:Z),Kq z (jG c v a f n out z).2
 | 0,_,_,z=>Kq.refl z
 | f+1,n,out,z=>by
  rw[jG];split
  ·exact(((((Kq.more _ _ z).trans (Kq.word _ _)).trans (Kq.need _ _)).trans (Kq.scheme _)).trans (Kq.long _ _ _ _)).trans (Kq.meths c v a f _ _ _)
  ·exact Kq.more _ _ z
theorem Kq.cls (z:Z):Kq z (iH z).2:=
 ((((((Kq.preds z).trans (Kq.word _ _)).trans (Kq.word _ _)).trans (Kq.supers _ _ _ _ _)).trans (Kq.need _ _)).trans (Kq.meths _ _ _ _ _ _ _)).trans (Kq.need _ _)
theorem Kq.forms (a:Int):∀(l:List Prd) (z:Z),Kq z (i5 a l z)
 | [],z=>Kq.refl z
 | p::l,z=>by
  rw[i5];refine Kq.trans ?_ (Kq.forms a l _);split
  ·exact Kq.fail (by decide) z
  ·exact Kq.refl z
theorem Kq.ibinds {ex:Nat→Z→Ex×Z}(hx:aL8 ex):∀(f n:Nat) (out:List Bd) (z:Z),Kq z (fP ex f n out z).2
 | 0,_,_,z=>Kq.refl z
 | f+1,n,out,z=>by
  rw[fP];split
  ·exact(((Kq.more _ _ z).trans (Kq.word _ _)).trans (Kq.bind hx _ _ _)).trans (Kq.ibinds hx f _ _ _)
  ·exact Kq.more _ _ z
theorem Kq.instV (b:Bool) (z:Z):Kq z (instV b z).2:=by
 cases b with
 | true=>exact(Kq.words z).trans (Kq.need _ _)
 | false=>exact Kq.refl z
theorem Kq.inst {ex:Nat→Z→Ex×Z}(hx:aL8 ex) (z:Z):Kq z (pQ ex z).2:=by
 have h1:Kq z (gY z).2.2.2.2:=(((Kq.preds z).trans (Kq.word _ _)).trans (Kq.may _ _)).trans (Kq.word _ _);have h2:=h1.trans (Kq.instV (gY z).2.2.1 _);refine Kq.trans ?_ (Kq.need _ _);refine Kq.trans ?_ (Kq.ibinds hx _ _ _ _);refine Kq.trans ?_ (Kq.need _ _);refine Kq.trans ?_ (Kq.forms _ _ _);split
 ·exact h2.trans (Kq.long _ _ _ _)
 ·exact h2
theorem Kq.decl {ex:Nat→Z→Ex×Z}(hx:aL8 ex) (p:Pg) (sigs:List Sg) (z:Z):Kq z (jM ex p sigs z).2:=by
 unfold jM;split
 ·exact(Kq.may _ z).trans (Kq.data _)
 split
 ·exact(Kq.may _ z).trans (Kq.cls _)
 split
 ·exact(Kq.may _ z).trans (Kq.inst hx _)
 ·exact Kq.either hx _ _ _ z
theorem Kq.prog {ex:Nat→Z→Ex×Z}(hx:aL8 ex):∀(f n:Nat) (p:Pg) (sigs:List Sg) (z:Z),Kq z (m9 ex f n p sigs z).2
 | 0,_,_,_,z=>Kq.refl z
 | f+1,n,p,sigs,z=>by
  rw[m9];split
  ·exact((Kq.more _ _ z).trans (Kq.decl hx _ _ _)).trans (Kq.prog hx f _ _ _ _)
  ·exact Kq.more _ _ z
theorem Kq.endz (z:Z):Kq z (iZ z):=by
 unfold iZ;split
 ·exact Kq.fail (by decide) z
 ·exact Kq.refl z
theorem aOj (s:Str) (h:(iB s).2.1=0):(iB s).2.2=0:=by
 have hb:(bP s).2.p=0∨¬(bP s).2.e=0:=by
  unfold bP;have g:= @sR s;generalize nE s=w at g ⊢;cases w with
  | ok l=>exact .inl rfl
  | error e=>obtain⟨e,p⟩:=e;exact .inr (g rfl)
 have q:Kq (bP s).2 (iZ (iA s).2):=by
  refine Kq.trans ?_ (Kq.endz _);unfold iA;split
  ·exact(Kq.prog (y3 _) _ _ _ _ _).trans (Kq.pair _ _ _)
  ·exact Kq.refl _
 have u:(iB s).2.1=(iZ (iA s).2).e:=by unfold iB;split<;>rfl
 have y:(iB s).2.2=(iZ (iA s).2).p:=by unfold iB;split<;>rfl
 rw[u] at h;obtain⟨A,B⟩:=q h;rw[y,B];rcases hb with hb | hb
 ·exact hb
 ·exact absurd A hb
theorem lF (s:Str) (g:aU Tryz.prog 86 [Go.AM.T s] [] (aDx (nE s)) []):aU Tryz.prog 31 [Go.AM.T s] [] (.tup [.pa (mI (iB s).1),atV (iB s).2.1 (iB s).2.2]) []:=by
 have h:=qR s g;by_cases he:(iB s).2.1=0
 ·rw[θ he] at h;rw[aOj s he];exact h
 ·rw[ξ he] at h;exact h
mutual
def psz:Pt→Nat
 | .mk _ _ _ _ l=>l8 l+1
def l8:List Pt→Nat
 | []=>0
 | p::l=>psz p+l8 l
end
theorem nC:∀{l:List Pt}{p:Pt},p∈l→psz p≤l8 l
 | [],p,h=>by cases h
 | a::l,p,h=>by
  rw[l8];rcases Ar.1 h with rfl | h
  ·omega
  ·have:=nC h;omega
theorem m8:∀{l:List Pt},x8 l→∀p∈l,ptB p
 | a::l,h,p,hp=>by
  rcases Ar.1 hp with rfl | hp
  ·exact h.1
  ·exact m8 h.2 p hp
def aFm (n:Int):Prop:=0≤n∧n≤2147483647
mutual
def ptW:Pt→Nat
 | .mk _ _ _ s l=>s.length+24+kZ l
def kZ:List Pt→Nat
 | []=>0
 | p::l=>ptW p+kZ l
end
mutual
def aSe:Pt→Prop
 | .mk _ _ n _ l=>aFm n∧pG l
def pG:List Pt→Prop
 | []=>True
 | p::l=>aSe p∧pG l
end
theorem aBk {l:List Bd}{i:Nat}{b:Bd}(h:l[i]?=some b):bnR (l.take (i+1))=bnR (l.take i)++[b.name]:=by unfold bnR;rw[cJ h,Ai];rfl
theorem j6 (l:List Bd) (hl:l.length≤100000):aU Tryz.prog 49 [.one (.c (.sl 33 (cN l)))] [] (bI (bnR l)) []:=by
 have q:(cN l).length=l.length:=by rw[cR,κ]
 refine bC (n:=19) tok Tryz.func49 rfl rfl rfl ?_;refine sg rfl (sg rfl (AWp.sub (Sub.own (t:=3) (id:=500) 9 1 rfl rfl) ?_));refine aA (sg rfl (aE (aL (fun i:Nat=>mk [(3,.one (.hs 500 0 ((bnR (l.take i)).map aR).length ((bnR (l.take i)).map aR).length)),(6,.one (.c (.sl 33 (cN l)))),(7,I .i64 ((cN l).length:Nat)),(8,I .i64 (i:Nat))] [(500,.arr 9 1 ((bnR (l.take i)).map aR) 0)]) (fun i=>i≤l.length) (fun i=>l.length-i) 0 (Ac _) sl ?_)));intro i hi;refine sg rfl (aA (aB rfl (fun hb=>?_) (fun hb=>?_)))
 ·have u:=ltD hb q;obtain⟨b,y⟩:=aM u;have U:(cN l)[i]?=some (b6 b):=by rw[cR];exact b9 b6 y
  have E:=aBk y;have g:((bnR (l.take i)).map aR)++[[.str b.name]]=(bnR (l.take (i+1))).map aR:=by rw[E,Ai];rfl
  have hle:((bnR (l.take (i+1))).map aR).length=((bnR (l.take i)).map aR).length+1:=by rw[←g,ζ];rfl
  have J:((bnR (l.take i)).map aR).length≤100000:=by unfold bnR;rw[κ,κ,Aj];omega
  obtain⟨B,pl,has,A,e⟩:=b;have M:Bd.name (.mk B pl has A e)=B:=rfl;rw[M] at g;generalize (bnR (l.take i)).map aR=R at g hle J ⊢;exact aD (aA (aE (sgh [(0,.row i (b6 (.mk B pl has A e)))] rfl (ag [(3,.all)] rfl (agN [] rfl ⟨i+1,u,by dsimp only;omega,sl (he:=⟨Go.AM.hs_ren (by rw[hle];rfl) (by rw[hle];rfl),rfl,rfl,rfl,trivial⟩) (hh:=⟨⟨_,rfl,.arrS g⟩,trivial⟩)⟩)))))
 ·have O:=geD hb q hi;subst O;refine aG ?_;rw[Ao];refine AWp.sub (Sub.freeze (id:=500) rfl) ?_;refine AWp.sub (st2:=mk [(3,bI (bnR l))] []) ?_ ?_
  ·refine Sub.trans ?_ (cv 3 ((bnR l).map aR));exact sl
  exact sg rfl (aF rtT)
theorem oU:∀(k:Nat) (p:Pt),psz p≤k→(vaR p).length≤psz p
 | 0,p,h=>by cases p;rw[psz] at h;omega
 | k+1,.mk f pl n s l,h=>by
  have:∀l:List Pt,l8 l≤k→(hY l).length≤l8 l:=fun l=>by
   induction l with
   | nil=>intro _;exact Ac _
   | cons a l g=>
    intro hl;rw[l8] at hl ⊢;have h1:=oU k a (by omega);have h2:=g (by omega);rw[hY,ζ];omega
  rw[psz] at h ⊢;have:=this l (by omega);rw[vaR,ζ];split
  ·show 1+_≤_;omega
  ·show 0+_≤_;omega
theorem nP (l:List Pt) (i:Nat):(hY (l.take i)).length≤l8 l:=by
 have h1:∀l:List Pt,(hY l).length≤l8 l:=fun l=>by
  induction l with
  | nil=>exact Ac _
  | cons a l g=>rw[hY,l8,ζ];have:=oU (psz a) a (le_refl _);omega
 have h2:∀(l:List Pt) (i:Nat),l8 (l.take i)≤l8 l:=fun l=>by
  induction l with
  | nil=>intro i;rw[List.take_nil];exact le_refl _
  | cons a l g=>
   intro i;cases i with
   | zero=>exact Ac _
   | succ i=>rw[Ax,l8,l8];have:=g i;omega
 exact le_trans (h1 _) (h2 l i)
theorem yM:∀(k:Nat) (p:Pt),psz p≤k→ptB p→psz p≤100000000→aU Tryz.prog 12 [.pa (bK p)] [] (bI (vaR p)) []
 | 0,p,h,_,_=>by cases p;rw[psz] at h;omega
 | k+1,p,h,hB,Y=>by
  obtain⟨f,pl,n,s,l⟩:=p;rw[psz] at h Y;have ab:=hB.1;have y:(qO (.mk f pl n s l)).length=l.length:=by rw[j4,κ];rfl
  rw[vaR];obtain⟨A,q,E⟩:∃A:List Str,A=(if f=2 then [s] else [])∧A.length≤1:=⟨_,rfl,by split<;>first | exact le_refl _ | exact Ac _⟩
  rw[←q];have ac:(A.map aR).length≤1:=by rw[κ];exact E
  refine bC (n:=27) tok Tryz.func12 rfl rfl rfl ?_;refine sg rfl (sg rfl (AWp.sub (Sub.own (t:=3) (id:=500) 9 1 rfl rfl) ?_));refine aA (AWp.cut (mk [(1,.one (.vp 1 0)),(3,.one (.hs 500 0 (A.map aR).length (A.map aR).length))] [(1,.var 43 ((bK (.mk f pl n s l)).map .c)),(500,.arr 9 1 (A.map aR) 0)]) ?_ ?_)
  ·refine sg rfl ?_;by_cases u:f=2
   ·have d:decide (f=2)=true:=φ u;rw[θ u] at q;subst q;exact aB rfl (fun _=>ag [(3,.all)] rfl sl) (fun hb=>Bool.noConfusion (hb.symm.trans d))
   ·have d:decide (f=2)=false:=ψ u;rw[ξ u] at q;subst q;exact aB rfl (fun hb=>Bool.noConfusion (hb.symm.trans d)) (fun _=>aD sl)
  refine aA (sg rfl (aE (aL (fun i:Nat=>mk [(3,.one (.hs 500 0 ((A++hY (l.take i)).map aR).length ((A++hY (l.take i)).map aR).length)),(15,.one (.c (.sl 10 (qO (.mk f pl n s l))))),(16,I .i64 ((qO (.mk f pl n s l)).length:Nat)),(17,I .i64 (i:Nat))] [(500,.arr 9 1 ((A++hY (l.take i)).map aR) 0)]) (fun i=>i≤l.length) (fun i=>l.length-i) 0 (Ac _) (by rw[B5,hY,Az];exact sl) ?_)));intro i hi;have ad:=nP l i;refine sg rfl (aA (aB rfl (fun hb=>?_) (fun hb=>?_)))
  ·have B:=ltD hb y;obtain⟨x,hx⟩:=aM B;have ae:(qO (.mk f pl n s l))[i]?=some (bK x):=by rw[j4];exact b9 bK hx
   have hm:=Af hx;have aa:=nC hm;have hc:=yM k x (by omega) (m8 hB.2 x hm) (by omega);have af:=oU (psz x) x (le_refl _);have J:A++hY (l.take (i+1))=(A++hY (l.take i))++vaR x:=by rw[cJ hx,rV,Am]
   have g:((A++hY (l.take i)).map aR)++(vaR x).map aR=(A++hY (l.take (i+1))).map aR:=by rw[J,Ai (l₁:=A++hY (l.take i))]
   have hle:((A++hY (l.take (i+1))).map aR).length=((A++hY (l.take i)).map aR).length+((vaR x).map aR).length:=by rw[←g,ζ]
   have M:((A++hY (l.take i)).map aR).length≤100000001:=by rw[κ,ζ];omega
   have O:((vaR x).map aR).length≤100000000:=by rw[κ];omega
   generalize (A++hY (l.take i)).map aR=R at g hle M ⊢;generalize vaR x=V at hc g hle O;refine aD (aA (aE (sgh [(0,.row i (bK x))] rfl (aC mixed (ak 2 [] rfl (kc hc ?_))))));exact kz 2 rfl (agN [] rfl ⟨i+1,B,by dsimp only;omega,sl (he:=⟨Go.AM.hs_ren (by rw[hle]) (by rw[hle]),rfl,rfl,rfl,trivial⟩) (hh:=⟨⟨_,rfl,.arrS g⟩,trivial⟩)⟩)
  ·have U:=geD hb y hi;subst U;refine aG ?_;rw[Ao];refine AWp.sub (Sub.freeze (id:=500) rfl) ?_;refine AWp.sub (st2:=mk [(3,bI (A++hY l))] []) ?_ ?_
   ·refine Sub.trans ?_ (cv 3 ((A++hY l).map aR));exact sl
   exact sg rfl (aF rtT)
theorem zW {l:List Pt}{p:Pt}(h:p∈l):psz p≤l8 l:=nC h
theorem tL (e:Ex) (i:Nat) (hO:jL e) (hz:l8 e.pats≤100000000) (hi:i<e.kids.length):aU Tryz.prog 50 [.pa (bD e),I .i64 (i:Nat)] [] (bI (gvR e.form e.pats (bnR e.binds) i)) []:=by
 obtain⟨f,pl,n,s,ks,ps,U,g⟩:=e;obtain⟨⟨J,hl2,hl3⟩,hsg,⟨ar1,ar2,ar3⟩,hps,hks,hbs⟩:=hO;have hz:l8 ps≤100000000:=hz;have hi:i<ks.length:=hi;show aU _ _ _ _ (bI (gvR f ps (bnR U) i)) _;have hnm:=j6 U (by omega);have M:(ps.map bK).length=ps.length:=κ _;unfold gvR;refine bC (n:=48) tok Tryz.func50 rfl rfl rfl ?_;refine sg rfl (aA (aE (sg rfl ?_)));by_cases A:f=6
 ·have d:decide (f=6)=true:=φ A;rw[θ A];refine aB rfl (fun _=>sk 2 rfl (kc hnm ?_)) (fun hb=>Bool.noConfusion (hb.symm.trans d));exact kz 1 rfl (aF rtT)
 have d6:decide (f=6)=false:=ψ A;rw[ξ A];refine aB rfl (fun hb=>Bool.noConfusion (hb.symm.trans d6)) (fun _=>?_);by_cases y:f=7∧0<i
 ·obtain⟨y,h0⟩:=y;subst y;obtain⟨q,rfl⟩:∃q,i=q+1:=⟨i-1,by omega⟩
  have hq:q<ps.length:=by have:=ar3 rfl;omega
  obtain⟨p,hp⟩:=aM hq;have hp':=b9 bK hp;have hm:=Af hp;have hszm:=zW hm;have hv:=yM _ p (le_refl _) (m8 hps p hm) (by omega);rw[θ ⟨rfl,h0⟩,show q+1-1=q from rfl,hp];have d:decide ((0:Int)<((q+1:Nat):Int))=true:=φ (by omega);refine sgh [(3,.bv true),(6,.bv true)] rfl (aB rfl (fun _=>aA (aC mixed (akN 6 [(4,.row q (bK p)),(5,.row q (bK p))] rfl (kc hv ?_)))) (fun hb=>Bool.noConfusion (hb.symm.trans d)));exact kz 1 rfl (aF rtT)
 rw[ξ y];have key:∃t:Bool,t=false∧(f=7→decide ((0:Int)<(i:Int))=t):=⟨false,rfl,fun h=>ψ (fun k=>y ⟨h,by omega⟩)⟩
 obtain⟨t,ht,Y⟩:=key;refine aA (AWp.cut (mk [(2,.one (.vp 2 0)),(15,B false)] [(2,.var 35 ((bD (.mk f pl n s ks ps U g)).map .c))]) ?_ ?_)
 ·by_cases h:f=7
  ·have d7:decide (f=7)=true:=φ h;have dk:=(Y h).trans ht;exact ag [(3,.bv true),(6,.bv true)] rfl (sl (he:=⟨rfl,by rw[←dk];rfl,trivial⟩))
  ·have d7:decide (f=7)=false:=ψ h;exact ag [(3,.bv false),(6,.bv false)] rfl sl
 refine aB rfl (fun hb=>Bool.noConfusion hb) (fun _=>sg rfl ?_);by_cases E:f=5
 case neg=>
  have d:(!decide (f=5))=true:=by rw[ψ E];rfl
  rw[ξ E];exact aB rfl (fun _=>sg rfl (aF ⟨.inr rfl,⟨_,_,.tmp rfl .nil,.cons (.one (.c .nl .nil)) .nil,rfl⟩,trivial,rfl⟩)) (fun hb=>Bool.noConfusion (hb.symm.trans d))
 have d:(!decide (f=5))=false:=by rw[φ E];rfl
 rw[θ E];refine aB rfl (fun hb=>Bool.noConfusion (hb.symm.trans d)) (fun _=>aD (sg rfl (AWp.sub (Sub.own (t:=5) (id:=500) 9 1 rfl rfl) ?_)));refine aA (sg rfl (aE (aL (fun k:Nat=>mk [(5,.one (.hs 500 0 (((ps.take k).map Pt.name).map aR).length (((ps.take k).map Pt.name).map aR).length)),(35,.one (.c (.sl 10 (ps.map bK)))),(36,I .i64 ((ps.map bK).length:Nat)),(37,I .i64 (k:Nat))] [(500,.arr 9 1 (((ps.take k).map Pt.name).map aR) 0)]) (fun k=>k≤ps.length) (fun k=>ps.length-k) 0 (Ac _) sl ?_)));intro k Y;refine sg rfl (aA (aB rfl (fun hb=>?_) (fun hb=>?_)))
 ·have O:=ltD hb M;obtain⟨x,hx⟩:=aM O;have hx':=b9 bK hx;have hst:(ps.take (k+1)).map Pt.name=(ps.take k).map Pt.name++[x.name]:=by rw[cJ hx,Ai];rfl
  have u:(((ps.take k).map Pt.name).map aR)++[[.str x.name]]=((ps.take (k+1)).map Pt.name).map aR:=by rw[hst,Ai];rfl
  have hle:(((ps.take (k+1)).map Pt.name).map aR).length=(((ps.take k).map Pt.name).map aR).length+1:=by rw[←u,ζ];rfl
  have J:(((ps.take k).map Pt.name).map aR).length≤5000:=by rw[κ,κ,Aj];omega
  generalize ((ps.take k).map Pt.name).map aR=R at u hle J ⊢;exact aD (aA (aE (sgh [(0,.row k (bK x))] rfl (ag [(3,.all)] rfl (agN [] rfl ⟨k+1,O,by dsimp only;omega,sl (he:=⟨Go.AM.hs_ren (by rw[hle];rfl) (by rw[hle];rfl),rfl,rfl,rfl,trivial⟩) (hh:=⟨⟨_,rfl,.arrS u⟩,trivial⟩)⟩)))))
 ·have hge:=geD hb M Y;subst hge;refine aG ?_;rw[Ao];refine AWp.sub (Sub.freeze (id:=500) rfl) ?_;refine AWp.sub (st2:=mk [(5,bI (ps.map Pt.name))] []) ?_ ?_
  ·refine Sub.trans ?_ (cv 5 ((ps.map Pt.name).map aR));exact sl
  exact sg rfl (aF rtT)
mutual
def exM:Ex→Nat
 | .mk _ _ _ _ ks ps bs _=>1+bs.length+l8 ps+aDy ks+aDf bs
def aDy:List Ex→Nat
 | []=>0
 | e::l=>exM e+aDy l
def aDf:List Bd→Nat
 | []=>0
 | .mk _ _ _ _ e::l=>exM e+aDf l
end
theorem mG:∀{l:List Ex}{i:Nat}{e:Ex},l[i]?=some e→aDy (l.take i)+exM e≤aDy l
 | a::l,0,e,h=>by cases h;rw[B5,aDy,aDy];omega
 | a::l,i+1,e,h=>by
  have:=mG (l:=l) (i:=i) h;rw[Ax,aDy,aDy];omega
theorem mS:∀{l:List Bd}{i:Nat}{b:Bd},l[i]?=some b→aDf (l.take i)+exM b.body≤aDf l
 | .mk _ _ _ _ e::l,0,b,h=>by cases h;rw[B5,aDf,aDf];show 0+exM e≤_;omega
 | .mk _ _ _ _ e::l,i+1,b,h=>by
  have:=mS (l:=l) (i:=i) h;rw[Ax,aDf,aDf];omega
theorem sH:∀l:List Pt,l.length≤l8 l
 | []=>Ac _
 | p::l=>by
  have:=sH l;have:1≤psz p:=by cases p;rw[psz];omega
  rw[l8,Aa];omega
theorem aF2 (f:Int) (ps:List Pt) (g:List Bd) (i:Nat):(gvR f ps (bnR g) i).length≤g.length+l8 ps:=by
 unfold gvR;split
 ·unfold bnR;rw[κ];omega
 split
 ·cases h:ps[i-1]? with
  | none=>exact Ac _
  | some p=>
   have h1:=oU (psz p) p (le_refl _);have h2:=nC (Af h);show(vaR p).length≤_;omega
 split
 ·rw[κ];have:=sH ps;omega
 ·exact Ac _
mutual
theorem qW:∀(e:Ex) (q:List Str),(tdE e q).length≤exM e
 | .mk f pl n s ks ps u g,q=>by
  have h1:=jS u (q++bnR u);have h2:=oY f ps (bnR u) ks 0 q;rw[tdE,exM,ζ,ζ];split
  ·show 1+_+_≤_;omega
  ·show 0+_+_≤_;omega
theorem jS:∀(l:List Bd) (q:List Str),(tdB l q).length≤aDf l
 | [],_=>Ac _
 | .mk _ _ _ _ e::l,q=>by
  have h1:=qW e q;have h2:=jS l q;rw[tdB,aDf,ζ];omega
theorem oY (f:Int) (ps:List Pt) (y:List Str):∀(l:List Ex) (i:Nat) (q:List Str),(tdK f ps y i l q).length≤aDy l
 | [],_,_=>Ac _
 | k::l,i,q=>by
  have h1:=qW k (q++gvR f ps y i);have h2:=oY f ps y l (i+1) q;rw[tdK,aDy,ζ];omega
end
def ddE (out:List Str) (l:List Ex):List Str:=(l.map Ex.name).foldl ddS out
theorem pZ (out:List Str) (l m:List Ex):ddE out (l++m)=ddE (ddE out l) m:=by unfold ddE;rw[Ai,foldl_append]
theorem aGl:∀(l out:List Str),(l.foldl ddS out).length≤out.length+l.length
 | [],out=>le_refl _
 | a::l,out=>by
  have h1:=aGl l (ddS out a);have h2:(ddS out a).length≤out.length+1:=by
   unfold ddS;split
   ·omega
   ·rw[ζ];exact le_refl _
  rw[List.foldl_cons,Aa];omega
theorem pY (out:List Str) (l:List Ex):(ddE out l).length≤out.length+l.length:=by
 have:=aGl (l.map Ex.name) out;rw[κ] at this;exact this
def otO (n:Nat):AObj:=.var 26 [.hs 901 0 n n]
def arO (l:List Str):AObj:=.arr 9 1 (l.map aR) 0
theorem tM (l:List Str) (s:Str) (h:l.length≤600000000000):aU Tryz.prog 29 [.one (.hs 901 0 l.length l.length),Go.AM.T s] [(901,arO l)] (B (decide (s∈l))) [(901,arO l)]:=(qB l s h).swap 710 901
theorem aQj (e:Ex) (L:List Str) (y:L.length≤100000000):aU Tryz.prog 28 ([.pa (bD e)]++[R.vp 900 0].map V.one) [(900,otO L.length),(901,arO L)] (.tup []) [(900,otO (ddS L e.name).length),(901,arO (ddS L e.name))]:=by
 have hc:=tM L e.name (by omega);have hl:(L.map aR).length=L.length:=κ _;obtain⟨f,pl,n,s,ks,ps,u,g⟩:=e;rw[show(Ex.mk f pl n s ks ps u g).name=s from rfl] at hc ⊢;refine bC (n:=13) tok Tryz.func28 rfl rfl rfl ?_;refine sg rfl (sk 3 rfl (kc hc ?_));refine kz 1 rfl ?_;by_cases h:s∈L
 ·have d:(!decide (s∈L))=false:=by rw[φ h];rfl
  rw[show ddS L s=L from θ h];exact aB rfl (fun hb=>Bool.noConfusion (hb.symm.trans d)) (fun _=>aD rtN)
 ·have d:(!decide (s∈L))=true:=by rw[ψ h];rfl
  have q:(L.map aR)++[[.str s]]=(L++[s]).map aR:=by rw[Ai];rfl
  have hle:(L++[s]).length=L.length+1:=ζ;rw[show ddS L s=L++[s] from ξ h];exact aB rfl (fun _=>ag [(3,.all)] rfl (rtN (ho:=⟨⟨_,rfl,Go.AM.Ole.var (by rw[hle,←hl];rfl)⟩,⟨_,rfl,.arrS q⟩,trivial⟩))) (fun hb=>Bool.noConfusion (hb.symm.trans d))
theorem oM:∀{l:List Ex},oD l→∀p∈l,jL p
 | a::l,h,p,hp=>by
  rcases Ar.1 hp with rfl | hp
  ·exact h.1
  ·exact oM h.2 p hp
def frO (L:List Str):List (Nat×AObj):=[(900,otO L.length),(901,arO L)]
theorem yG:∀(k:Nat) (e:Ex) (q L:List Str),exM e≤k→jL e→q.length+exM e≤90000000→L.length+exM e≤90000000→aU Tryz.prog 27 [.pa (bD e),bI q,.one (.clo 28 [R.vp 900 0])] (frO L) (.tup []) (frO (ddE L (tdE e q)))
 | 0,e,q,L,hk,_,_,_=>by cases e;rw[exM] at hk;omega
 | k+1,e,q,L,hk,hO,hi,hL=>by
  have Y:=eZ q e.name (by omega);have hcn:=lH (q.map aR) (by rw[κ];omega);have hO':=hO;have hgz:l8 e.pats≤100000000:=by cases e with | mk f pl n s ks ps u g=>rw[exM] at hk hi;show l8 ps≤_;omega
  have aa:=fun i hi=>tL e i hO hgz hi
  have E:=aQj e L (by omega);have ab:=fun i=>aF2 e.form e.pats e.binds i
  obtain⟨f,pl,n,s,ks,ps,u,g⟩:=e;rw[exM] at hk hi hL;obtain⟨⟨hl1,hl2,hl3⟩,hsg,⟨ar1,ar2,ar3⟩,hps,hks,hbs⟩:=hO';rw[show(Ex.mk f pl n s ks ps u g).name=s from rfl] at Y E;have aa:∀i,i<ks.length→aU Tryz.prog 50 [.pa (bD (.mk f pl n s ks ps u g)),I .i64 (i:Nat)] [] (bI (gvR f ps (bnR u) i)) []:=aa;have ab:∀i,(gvR f ps (bnR u) i).length≤u.length+l8 ps:=ab;have hnm:=j6 u (by omega);have hkB:(cN u).length=u.length:=by rw[cR,κ]
  have hkK:(j5 (.mk f pl n s ks ps u g)).length=ks.length:=by rw[i6,κ];rfl
  have hinl:(q.map aR).length=q.length:=κ _;obtain⟨T0,y⟩:∃T,T=(if f=1∧¬s∈q then [Ex.mk f pl n s ks ps u g] else []):=⟨_,rfl⟩
  have hT0l:T0.length≤1:=by rw[y];split<;>first | exact le_refl _ | exact Ac _
  rw[tdE,←y,pZ,pZ];have hdl:=pY L T0;obtain⟨L1,M⟩:∃l,l=ddE L T0:=⟨_,rfl⟩
  rw[←M] at hdl ⊢;refine bC (n:=61) tok Tryz.func27 rfl rfl rfl ?_;refine sg rfl (aA (AWp.cut (mk [(1,bI q),(2,.one (.clo 28 [R.vp 900 0])),(3,.one (.vp 3 0))] ((3,.var 35 ((bD (.mk f pl n s ks ps u g)).map .c))::frO L1)) ?_ ?_))
  ·by_cases hf:f=1
   ·have df:decide (f=1)=true:=φ hf;refine skh 7 [(3,.bv true)] rfl (kcG Y ?_);refine ak 2 [(3,.bv true),(9,.bv true)] rfl (az ?_);by_cases hs:s∈q
    ·have ds:(!decide (s∈q))=false:=by rw[φ hs];rfl
     rw[ξ (fun k=>k.2 hs)] at y;subst y;have:L1=L:=M;subst this;exact aB rfl (fun hb=>Bool.noConfusion (hb.symm.trans ds)) (fun _=>aD sl)
    ·have ds:(!decide (s∈q))=true:=by rw[ψ hs];rfl
     rw[θ ⟨hf,hs⟩] at y;subst y;have:L1=ddS L s:=M;subst this;refine aB rfl (fun _=>aC mixed (ak 2 [] rfl (kv E ?_))) (fun hb=>Bool.noConfusion (hb.symm.trans ds));exact az sl
   ·have df:decide (f=1)=false:=ψ hf;rw[ξ (fun k=>hf k.1)] at y;subst y;have:L1=L:=M;subst this;exact sgh [(3,.bv false),(9,.bv false)] rfl (aB rfl (fun hb=>Bool.noConfusion hb) (fun _=>aD sl))
  clear y E Y;have hbl:(bnR u).length=u.length:=by unfold bnR;rw[κ]
  have O:q.map aR++(bnR u).map aR=(q++bnR u).map aR:=(Ai).symm;have hr2:(q.map aR).length+((bnR u).map aR).length=((q++bnR u).map aR).length:=by rw[←O,ζ]
  have hr3:((bnR u).map aR).length≤90000000:=by rw[κ,hbl];omega
  refine sk 1 rfl (kc hcn ?_);refine ak 2 [] rfl (kc hnm ?_);refine kz 2 rfl (AWp.sub (Sub.freeze (id:=710) rfl) ?_);refine AWp.sub (st2:=mk [(1,bI q),(2,.one (.clo 28 [R.vp 900 0])),(3,.one (.vp 3 0)),(6,bI (q++bnR u))] ((3,.var 35 ((bD (.mk f pl n s ks ps u g)).map .c))::frO L1)) ?_ ?_
  ·refine Sub.trans ?_ (cv 6 ((q++bnR u).map aR));exact sl
  have hol:(q++bnR u).length≤q.length+u.length:=by rw[ζ,hbl];exact le_refl _
  generalize hOw:q++bnR u=own at O hr2 hol ⊢;refine aA (sg rfl (aE (aL (fun i:Nat=>mk [(1,bI q),(2,.one (.clo 28 [R.vp 900 0])),(3,.one (.vp 3 0)),(6,bI own),(31,.one (.c (.sl 33 (cN u)))),(32,I .i64 ((cN u).length:Nat)),(33,I .i64 (i:Nat))] ((3,.var 35 ((bD (.mk f pl n s ks ps u g)).map .c))::frO (ddE L1 (tdB (u.take i) own)))) (fun i=>i≤u.length) (fun i=>u.length-i) 0 (Ac _) sl ?_)));intro i hib;refine sg rfl (aA (aB rfl (fun hb=>?_) (fun hb=>?_)))
  ·have B:=ltD hb hkB;obtain⟨b,U⟩:=aM B;have hx':(cN u)[i]?=some (b6 b):=by rw[cR];exact b9 b6 U
   have hm:=Af U;have hbo:=fL.1 hbs b hm;have hsz:=mS U;have E:=jS (u.take i) own;have J:=pY L1 (tdB (u.take i) own);have A:ddE L1 (tdB (u.take (i+1)) own)=ddE (ddE L1 (tdB (u.take i) own)) (tdE b.body own):=by rw[cJ U,rY,pZ]
   have hbo2:jL b.body:=by cases b;exact hbo.2
   have ac:=yG k b.body own (ddE L1 (tdB (u.take i) own)) (by omega) hbo2 (by omega) (by omega);obtain⟨nm,bpl,has,sgn,be⟩:=b;rw[show(Bd.mk nm bpl has sgn be).body=be from rfl] at ac A;generalize ddE L1 (tdB (u.take i) own)=Li at ac A J ⊢;refine aD (aA (aE (sgh [(0,.row i (b6 (.mk nm bpl has sgn be)))] rfl (aC mixed (ak 4 [] rfl (kc ac ?_))))));exact az (agN [] rfl ⟨i+1,B,by dsimp only;omega,by dsimp only;rw[A];exact sl⟩)
  have ad:=geD hb hkB hib;subst ad;clear hb hib;refine aG ?_;rw[Ao];have E:=jS u own;have J:=pY L1 (tdB u own);generalize ddE L1 (tdB u own)=L2 at J ⊢;refine sg rfl (aE (aL (fun i:Nat=>mk [(1,bI q),(2,.one (.clo 28 [R.vp 900 0])),(3,.one (.vp 3 0)),(44,.one (.c (.sl 15 (j5 (.mk f pl n s ks ps u g))))),(45,I .i64 ((j5 (.mk f pl n s ks ps u g)).length:Nat)),(46,I .i64 (i:Nat))] ((3,.var 35 ((bD (.mk f pl n s ks ps u g)).map .c))::frO (ddE L2 (tdK f ps (bnR u) 0 (ks.take i) q)))) (fun i=>i≤ks.length) (fun i=>ks.length-i) 0 (Ac _) sl ?_));intro i hik;refine sg rfl (aA (aB rfl (fun hb=>?_) (fun hb=>?_)))
  ·have B:=ltD hb hkK;obtain⟨x,hx⟩:=aM B;have hx':(j5 (.mk f pl n s ks ps u g))[i]?=some (bD x):=by rw[i6];exact b9 bD hx
   have hm:=Af hx;have hxo:=oM hks x hm;have hsz:=mG hx;have htl2:=oY f ps (bnR u) (ks.take i) 0 q;have hdl3:=pY L2 (tdK f ps (bnR u) 0 (ks.take i) q);have hit:(ks.take i).length=i:=by rw[Aj];omega
   have A:ddE L2 (tdK f ps (bnR u) 0 (ks.take (i+1)) q)=ddE (ddE L2 (tdK f ps (bnR u) 0 (ks.take i) q)) (tdE x (q++gvR f ps (bnR u) i)):=by rw[cJ hx,rX,pZ,hit,A4]
   have hg:=aa i B;have hgl':=ab i;generalize gvR f ps (bnR u) i=G at hg hgl' A;have hil:(q++G).length≤q.length+(u.length+l8 ps):=by rw[ζ];omega
   have ihx:=yG k x (q++G) (ddE L2 (tdK f ps (bnR u) 0 (ks.take i) q)) (by omega) hxo (by omega) (by omega);have O:q.map aR++G.map aR=(q++G).map aR:=(Ai).symm;have hr2:(q.map aR).length+(G.map aR).length=((q++G).map aR).length:=by rw[←O,ζ]
   have hr3:(G.map aR).length≤90000000:=by rw[κ];omega
   generalize ddE L2 (tdK f ps (bnR u) 0 (ks.take i) q)=Li at ihx A hdl3 ⊢;refine aD (aA (aE (sgh [(1,.row i (bD x))] rfl (aC mixed (ak 2 [] rfl (kc hcn ?_))))));refine ak 2 [] rfl (kc hg ?_);refine ak 2 [(6,.fz)] rfl (kc ihx ?_);exact az (agN [] rfl ⟨i+1,B,by dsimp only;omega,by dsimp only;rw[A];exact sl⟩)
  have ad:=geD hb hkK hik;subst ad;refine aG ?_;rw[Ao];exact rtN
end Go.Proofs.YtkhgpgihmphfdaaGreat
