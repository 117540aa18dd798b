/-
  Texts Rd62 to Rt3 in one.
-/
import Derived.Test.YtpmheldmadendaaGreatDoorM10
open List (append_assoc append_nil drop_drop drop_eq_getElem_cons drop_length drop_take drop_zero filter_cons filter_eq_self flatten_append flatten_cons length_append length_cons length_drop length_map length_nil length_replicate length_set length_take map_append map_cons map_nil map_toArray mem_append mem_cons mem_cons_of_mem mem_cons_self mem_of_mem_take mem_singleton nil_append replicate_succ take_add_one take_append_drop take_left' take_length take_of_length_le take_succ_cons take_take)
open Nat (add_zero le_refl le_trans lt_succ_self mul_le_mul_right mul_one sub_self sub_zero succ_pos zero_add zero_le zero_mul)
namespace Go.Proofs.YtpmheldmadendaaGreatDoor
open Go Go.AM
set_option maxRecDepth 20000
set_option maxHeartbeats 4000000
def gM:AObj:=.var 29 [.c .nl,.c .nl,.c .nl,.c .nl]
def pgO (p:Pg):AObj:=.var 29 ((vY p).map .c)
theorem aO2 {L:List Tk}{z c:Z}{p:Pg}(h:b9 Tryz.prog 37 [rP] [(600,rO L z)] (.pa (vY p)) [(600,rO L c)]):b9 Tryz.prog 36 ([rP]++[R.vp 9 0].map V.one) [(600,rO L z),(9,gM)] (.tup []) [(600,rO L c),(9,pgO p)]:=by
 refine bM (n:=5) tok Tryz.func36 rfl rfl rfl ?_;refine aC mixed (ak 1 [] rfl (kc h ?_));exact kz 1 rfl rtN
theorem aLp {L:List Tk}{z:Z}{v:Value}(h:wS Tryz.prog 37 [rP] [(600,rO L z)] v) (S:Sto) (μ:Mu) (w:World) (vals:List Value) (B:Go.AM.Inv ⟨w,S,fJ μ (Go.AM.look [(600,rO L z),(9,gM)]),μ,Go.AM.look [(600,rO L z),(9,gM)]⟩ S μ (Go.AM.look [(600,rO L z),(9,gM)]) w)
  (E:aS S μ (Go.AM.look [(600,rO L z),(9,gM)]) ([rP]++[R.vp 9 0].map V.one) vals):Calls Tryz.prog 36 ⟨vals⟩ w fun e w'=>∃S' μ' hout,e=.panicked [{ v:=v,recovered:=false }]∧(∀id o,Go.AM.look hout id=some o→∃o',Go.AM.look [(600,rO L z),(9,gM)] id=some o')∧(∃x,hout=[(600,x),(9,gM)])∧Go.AM.Inv ⟨w,S,fJ μ (Go.AM.look [(600,rO L z),(9,gM)]),μ,Go.AM.look [(600,rO L z),(9,gM)]⟩ S' μ' (Go.AM.look hout) w':=by
 refine(Go.AM.Wd.calls (ro:=none) (n:=0)).1 (callsIn_of_wp_defers Tryz.func36 rfl trivial ?_);have r:=s7 (n:=5) (k:=(Tryz.f36).ntmps) rfl rfl B E;refine wpIn_mono (jI.wp mixed (aPs (v:=v) [(600,rO L z)] [(0,rP)] r rfl ⟨rfl,trivial⟩ rfl ⟨rfl,trivial⟩ rfl rfl rfl ?_)) ?_
 ·exact ak 1 [] rfl (kp h (hq:=rfl))
 rintro e y w' ⟨rfl,I,_,S',J,hout,A,c,M⟩;show LeavesIn _ _ _ _ y.tmps _ y.defers (.panicking _) w';rw[I];have O:Go.AM.look hout 9=none:=by
  cases hl:Go.AM.look hout 9 with
  | none=>rfl
  | some o=>obtain⟨o',ho⟩:=A 9 o hl;cases ho
 have hx:∃x,dX (mk (uM 0 ([rP]++[R.vp 9 0].map V.one)) [(600,rO L z),(9,gM)]).h (outs hout)=Go.AM.look [(600,x),(9,gM)]:=by
  refine⟨(Go.AM.look hout 600).getD (rO L z),funext fun id=>?_⟩;rw[cF];by_cases q:id=600
  ·subst q;cases hl:Go.AM.look hout 600 with
   | none=>rfl
   | some o=>rfl
  ·have hn:Go.AM.look hout id=none:=by
    cases hl:Go.AM.look hout id with
    | none=>rfl
    | some o=>
     obtain⟨o',ho⟩:=A id o hl;simp[Go.AM.look] at ho;exact absurd ho.1 q
   rw[hn];show Go.AM.look [(600,rO L z),(9,gM)] id=_;simp[Go.AM.look,q]
 obtain⟨x,hx⟩:=hx;rw[hx] at c;refine⟨S',J,[(600,x),(9,gM)],rfl,fun id o ho=>?_,⟨x,rfl⟩,c⟩;have hm:=aU ho;rcases Ap.1 hm with hm | hm
 ·obtain⟨rfl,rfl⟩:=Prod.mk.inj hm;exact⟨_,rfl⟩
 ·obtain⟨rfl,rfl⟩:=Prod.mk.inj (Aw.1 hm);exact⟨_,rfl⟩
theorem v7 {w0:World}{S0 S:Sto}{μ0 μ:Mu}{st:St}{a:Act}{w:World}{u:Value}(c:AObj) (b:Bool) (e p:Int) (r y:FrameMode) (hok:(subset (atV e p).refs (keys [(9,c)])&&subset (eK [(9,c)]) (keys [(9,c)])&&Go.AM.distinct (keys [(9,c)])&&subset (keys [(9,gM)]) (keys [(9,c)])&&([(9,gM)].all fun p=>p.2.plain)&&([(9,c)].all fun p=>p.2.plain))=true)
  (hs:Sim ⟨w0,S0,fJ μ0 (Go.AM.look [(9,gM)]),μ0,Go.AM.look [(9,gM)]⟩ 38 S μ st a w) (hd:st.d=[]) (E:st.e 4=some (.one (.vp 4 0))) (O:st.e 17=some (.one (.clo 80 [.vp 4 0]))) (U:st.h 4=some (atO 0 0)) (Y:st.h 9=some c) (aa:Ole (fun i=>i) c c)
  (hk:Kp 17 (.func (.func 80) #[] ⟨[u]⟩) a)
  (hu:∀(A:Frame) (cs:List Frame),A.mode=r→(b=true∧recoverD (A::cs)=some (lJ e p,{ A with mode:=y }::cs))∨(b=false∧recoverD (A::cs)=none∧y=r∧e=0∧p=0)) (I:r≠ .run) (J:settle y=.returning):
  LeavesIn (Wd none) 0 Tryz.prog Tryz.f35 a.tmps (fun en w'=>∃S' μ' v,en=.returned v∧Go.AM.Inv ⟨w0,S0,fJ μ0 (Go.AM.look [(9,gM)]),μ0,Go.AM.look [(9,gM)]⟩ S' μ' (Go.AM.look [(9,c)]) w'∧aK S' μ' (Go.AM.look [(9,c)]) (atV e p) v) (mP a [{ target:=.fn (.func 80) ⟨[u]⟩,args:= #[] }]).defers r w:=by
 have hda:a.defers=[]:=by have:=hs.defers;rw[hd] at this;exact this
 show LeavesIn _ _ _ _ _ _ (a.defers++_) _ _;rw[hda,Bv];have hh:∀id o,Go.AM.look [(4,atO 0 0)] id=some o→st.h id=some o∧o≠ .dead:=by
  intro id o ho;obtain⟨rfl,rfl⟩:=Prod.mk.inj (Aw.1 (aU ho));exact⟨U,fun k=>by cases k⟩
 have hI:=hs.inv.hand hh rfl;have B:∀i∈keys [(4,atO 0 0)],Go.AM.Good st.h (Go.AM.look [(4,atO 0 0)]) (fun i=>i) i:=by
  intro i hi;obtain⟨o,ho⟩:=bZ hi;obtain⟨h1,h2⟩:=hh i o ho;exact⟨o,o,h1,ho,.refl_id h2⟩
 have q:=hs.env 17 _ O;have hk':a.tmps.getD 17 undef=.func (.func 80) #[] ⟨[u]⟩:=hk;rw[hk'] at q;have hvu:aS S μ st.h [.one (.vp 4 0)] [u]:=by
  simp only[aK,aQ,aN] at q;obtain⟨vs,h1,v,vs',h2,h3,E⟩:=q;subst E h2;cases h1;simp only[aS,aK];exact⟨_,_,rfl,h3,rfl⟩
 have M:aS S μ (Go.AM.look [(4,atO 0 0)]) [.one (.vp 4 0)] [u]:=by
  have:=aS.ren (H:=st.h) (H':=Go.AM.look [(4,atO 0 0)]) (σ:=fun i=>i) [.one (.vp 4 0)] [u] (fun i hi=>B i (by simpa [V.refsL,V.refs,R.refs,keys] using hi)) (by rw[V.renL_id];exact hvu);exact this
 have hb1:eH Tryz.prog 80:=aA4 (by kernel_rfl);have hi:(invoke (.fn (.func 80) ⟨[u]⟩) #[]).run Tryz.prog w=.ok (.enter 80 ⟨[u]⟩) w:=by
  simp only[invoke];rw[cP hb1];simp
 refine leavesIn_cons I (fun h=>by simp[Go.AM.Wd] at h) hi (fun _ _=>trivial) (CallsDIn.mono (aJe b e p _ hI M r y hu) ?_);rintro en u' w' ⟨⟨v,rfl⟩,rfl,S',μ',hI6⟩;dsimp only;rw[J];obtain⟨μ2,q1,q2,q3,q4⟩:=hs.inv.back (hin:=[(4,atO 0 0)]) (hout:=[(4,atO e p)]) (fun id o ho=>(hh id o ho).1) (fun id o ho=>.inl (by obtain⟨rfl,_⟩:=Prod.mk.inj (Aw.1 (aU ho));exact⟨_,rfl⟩)) hI6;have hs6:Sim ⟨w0,S0,fJ μ0 (Go.AM.look [(9,gM)]),μ0,Go.AM.look [(9,gM)]⟩ 38 S' μ2 ⟨st.e,dX st.h (outs [(4,atO e p)]),st.d⟩ a w':=⟨q2,hs.size,hs.defers.evolve q3,fun t v e=>aK.evolve q3 v _ (hs.env t v e)⟩
 have g4:dX st.h (outs [(4,atO e p)]) 4=some (atO e p):=by rw[cF];rfl
 have g9:dX st.h (outs [(4,atO e p)]) 9=some c:=by rw[cF];exact Y
 have hf:Fin tr.flat Tryz.f35 ⟨st.e,dX st.h (outs [(4,atO e p)]),st.d⟩ [(9,gM)] (atV e p) [(9,c)]:=(rtC (fn:=Tryz.f35) (st:=⟨st.e,dX st.h (outs [(4,atO e p)]),st.d⟩) (hin:=[(9,gM)]) (hout:=[(9,c)]) (res:=atV e p) trw (ha:=E) (hh:=g4) (ho:=⟨⟨_,g9,aa⟩,trivial⟩) (hok:=hok)).2
 obtain⟨v2,k1,k2,k3⟩:=vV (fn:=Tryz.f35) tok hs6 hf;exact⟨v2,k1,_,_,_,rfl,k2,k3⟩
section
variable {m:Nat}{P:Program}{ops:Array Oper}{Q:Exit→Act→World→Prop}{i:Nat}{a:Act}{w:World}{o:Oper}{K:Act→World→Prop}
theorem aB4 {x:Operand}{ts:Array TypeId}{f:FuncId}{caps:Array Value}(ho:ops[i]?=some o) (q:o.guard=none) (c:o.op=.defer { callee:=.value x,args:= #[],argTypes:=ts }) (r:o.dst=none) (hx:a.eval x=.func (.func f) #[] caps)
  (y:K ⟨a.tmps,{ target:=.fn (.func f) caps,args:= #[] }::a.defers⟩ w):wpOpIn (Go.AM.Wd none) m P ops Q i K a w:=by
 unfold wpOpIn;simp only[ho];rw[ξ (by simp[Region.wanted,q])];refine⟨fun _ _=>trivial,?_⟩;have A:(o.semAt none a.eval).run P w=.ok (.defer { target:=.fn (.func f) caps,args:= #[] }) w:=by
  rw[Oper.semAt_none];simp[execOp,c,resolve,hx,Deferred.ofValue]
 show o.uponIn (Go.AM.Wd none) m P a K Q ((o.semAt none a.eval).run P w);rw[A,Oper.uponIn_defer,r];exact y
theorem pI (ho:ops[i]?=some o) (c:o.guard=none) (h:o.wpIn (Go.AM.Wd none) m P a w K Q):wpOpIn (Go.AM.Wd none) m P ops Q i K a w:=by
 unfold wpOpIn;simp only[ho];rw[ξ (by simp[Region.wanted,c])];exact h
end
theorem aAx (s:Str) (l:List Tk) (E:b9 Tryz.prog 79 [Go.AM.T s] [] (.tup [.one (.c (.sl 4 (l.map aJ))),atV 0 0]) []) (pg:Pg) (q:Z) (hA:ZA l q) (A:aY Tryz.prog 37 [rP] [(600,rO l ⟨l,0,0⟩)] (eF l (.pa (vY pg)) q [])):
  b9 Tryz.prog 35 [Go.AM.T s,.one (.clo 36 [.vp 9 0])] [(9,gM)] (atV (eM q).e (if(eM q).e=0 then 0 else(eM q).p)) [(9,if q.e=0 then pgO pg else gM)]:=by
 have er:rO l ⟨l,0,0⟩=.var 136 [.c (.sl 4 (l.map aJ)),.c (.int .i64 0)]:=by unfold rO;dsimp only;rw[B4];rfl
 unfold atV at E;intro S μ w vals hI hv;refine(Go.AM.Wd.calls (ro:=none) (n:=0)).1 (callsIn_of_wp_defers Tryz.func35 rfl trivial ?_);have hs0:=s7 (n:=38) (k:=(Tryz.f35).ntmps) rfl rfl hI hv;refine Bl (aMe mixed hs0 ?_);refine ak 1 [(0,.id 4)] rfl (az ?_);intro S1 μ1 a1 w1 hs1;refine Bl (aMe mixed hs1 ?_);refine ak 1 [] rfl (kc E ?_);refine kz 6 rfl ?_;intro S2 I a2 w2 hs2;refine Bl (Bl (aMe mixed hs2 ?_));refine kz 3 rfl ?_;intro S3 μ3 a3 w3 hs3;have hb:=hs3.env 15 _ rfl;simp only[aK,aQ,Rep] at hb;refine wpIn_cond (t:=false) hb ?_;refine wpIn_skip ?_;refine Bl (wpIn_region ?_);show wpOpsIn _ _ _ _ _ [0,1] _ _;rw[A7];refine(g_ rfl rfl (lT (l:=[.vp 4 0]) rfl rfl (eI rfl) rfl)) _ (dJ.refl _ _) _ S3 μ3 a3 w3 _ _ hs3 (fun S4 μ4 a4 w4 J=>?_) none;rw[A7];have hd4:a4.defers=[]:=J.defers;have hv4:=J.env 17 _ rfl;simp only[aK,aQ,aN] at hv4;obtain⟨vs,hv5,u,vs',rfl,_,rfl⟩:=hv4;have hk4:Kp 17 (.func (.func 80) #[] ⟨[u]⟩) a4:=hv5;refine aB4 rfl rfl rfl rfl hv5 ?_;have he:(⟨a4.tmps,({ target:=.fn (.func 80) ⟨[u]⟩,args:= #[] }:Deferred)::a4.defers⟩:Act)=mP a4 [{ target:=.fn (.func 80) ⟨[u]⟩,args:= #[] }]:=by unfold mP;rw[hd4];rfl
 rw[he];refine Bl (aIy mixed J hk4 rfl ?_);refine ak 5 [(3,.id 600)] rfl (az ?_);intro S5 μ5 a5 w5 hk5 hs5;by_cases r:q.e=0
 case neg=>
  have hp:=aY.err A r;have M:eM q=q:=η fun k=>r k.1
  rw[M,η r,η r];refine Bl (jI.wp (draw:=false) mixed (jI.ext (Q:=fun e a w'=>(e=pan (lJ q.e q.p)∧∃S' μ' st',Sim ⟨w,S,fJ μ (Go.AM.look [(9,gM)]),μ,Go.AM.look [(9,gM)]⟩ 38 S' μ' st' a w'∧st'.d=[]∧st'.e 4=some (.one (.vp 4 0))∧st'.e 17=some (.one (.clo 80 [.vp 4 0]))∧st'.h 4=some (atO 0 0)∧st'.h 9=some gM)∧Kp 17 (.func (.func 80) #[] ⟨[u]⟩) a) ?_ (jI.kp rfl ?_ hk5 ?_)))
  ·rintro e a w' ⟨⟨rfl,S',μ',st',hs',O,h4,h17,hh4,hh9⟩,B⟩;exact v7 gM true q.e q.p (.panicking [{ v:=lJ q.e q.p,recovered:=false }]) (.panicking [{ v:=lJ q.e q.p,recovered:=true }]) rfl hs' O h4 h17 hh4 hh9 (.var rfl) B (fun c₀ cs hc=>.inl ⟨rfl,by simp only[recoverD,hc]⟩) (fun k=>by cases k) rfl
  ·rintro⟨a,w,h,_⟩;cases h
  unfold jI;dsimp only;show wpOpsIn _ _ _ _ _ [0,1,2] _ _;rw[A7];refine(g_ rfl rfl (sJ rfl rfl (eI rfl) rfl)) _ (dJ.refl _ _) _ S5 μ5 a5 w5 _ _ hs5 (fun S6 μ6 U w6 y=>?_) none;rw[A7];refine(g_ rfl rfl (sJ rfl rfl (eI rfl) rfl)) _ (dJ.refl _ _) _ S6 μ6 U w6 _ _ y (fun S7 μ7 a7 w7 hs7=>?_) none;rw[A7];rw[er] at hp;refine pI rfl rfl (aJd (v:=lJ q.e q.p) (good:=fun hout=>∃x,hout=[(600,x),(9,gM)]) (args:=[rP]) (caps:=[.vp 9 0]) (f:=36) [(600,rO l ⟨l,0,0⟩),(9,gM)] (aA4 (by kernel_rfl)) rfl rfl (fun S μ w vals hI hv=>aLp (by rw[er];exact hp) S μ w vals hI hv) (.cons rfl .refl .nil) ⟨by rw[er];rfl,rfl,trivial⟩ rfl hs7 ?_);rintro S' μ8 hout w' ⟨x,rfl⟩ hI8 Y;exact⟨rfl,S',μ8,⟨_,_,_⟩,⟨hI8,hs7.size,hs7.defers.evolve Y,fun t v e=>aK.evolve Y v _ (hs7.env t v e)⟩,rfl,rfl,rfl,rfl,rfl⟩
 have A:=aY.ok A r;rw[ξ r];have hP1:=aO2 A;rw[er] at hP1;refine Bl (aIy mixed hs5 hk5 rfl ?_);refine ak 2 [] rfl (kv (args:=[rP]) hP1 ?_);refine az ?_;intro S6 μ6 U w6 aa y;have hn:=cT hA;by_cases B:(aX q).kind=6
 case neg=>
  have M:eM q=⟨q.R,12,(aX q).pl⟩:=(ξ ⟨r,B⟩).trans (ξ r);have h12:¬(12:Int)=0:=by decide
  rw[M];dsimp only;rw[η h12];have d:decide ((aX q).kind=6)=false:=ψ B;have hmn:=bB 12 (aX q).pl;refine Bl (jI.wp mixed (jI.ext (Q:=fun e a w'=>((e=pan (lJ 12 (aX q).pl)∧a.defers=[]∧a.tmps.size=38∧∃S' I hout,(∀id o,Go.AM.look hout id=some o→∃o',Go.AM.look [(600,rO l q)] id=some o')∧Go.AM.Inv ⟨w,S,fJ μ (Go.AM.look [(9,gM)]),μ,Go.AM.look [(9,gM)]⟩ S' I (dX _ (outs hout)) w'∧Evolve S6 μ6 _ S' I (dX _ (outs hout)))∧Kp 4 (U.tmps.getD 4 undef) a)∧Kp 17 (.func (.func 80) #[] ⟨[u]⟩) a) ?_ (jI.kp rfl ?_ aa (jI.kp rfl ?_ rfl (aPs (v:=lJ 12 (aX q).pl) [(600,rO l q)] [(7,rP)] y rfl ⟨rfl,trivial⟩ rfl ⟨rfl,trivial⟩ rfl rfl rfl ?_)))))
  ·rintro e a' w' ⟨⟨⟨rfl,O,hsz,S',I,hout,hkeys,hI',Y⟩,hk4'⟩,ab⟩;have hno:∀id,id≠600→Go.AM.look hout id=none:=fun id h6=>by
    cases hl:Go.AM.look hout id with
    | none=>rfl
    | some o=>
     obtain⟨o',ho⟩:=hkeys id o hl;simp[Go.AM.look] at ho;exact absurd ho.1 h6
   have hs7:Sim ⟨w,S,fJ μ (Go.AM.look [(9,gM)]),μ,Go.AM.look [(9,gM)]⟩ 38 S' I ⟨Go.AM.look [(4,.one (.vp 4 0)),(17,.one (.clo 80 [.vp 4 0]))],_,[]⟩ a' w':=⟨hI',hsz,O,fun t v ht=>by
    have hm:=aU ht;rcases Ap.1 hm with hm | hm
    ·obtain⟨rfl,rfl⟩:=Prod.mk.inj hm;have h1:a'.tmps.getD 4 undef=U.tmps.getD 4 undef:=hk4';rw[h1];exact aK.evolve Y _ _ (y.env 4 _ rfl)
    ·obtain⟨rfl,rfl⟩:=Prod.mk.inj (Aw.1 hm);have h1:a'.tmps.getD 17 undef=U.tmps.getD 17 undef:=Eq.trans ab (Eq.symm aa);rw[h1]
     exact aK.evolve Y _ _ (y.env 17 _ rfl)⟩
   exact v7 (pgO pg) true 12 (aX q).pl (.panicking [{ v:=lJ 12 (aX q).pl,recovered:=false }]) (.panicking [{ v:=lJ 12 (aX q).pl,recovered:=true }]) rfl hs7 rfl rfl rfl ((cF _ hout 4).trans (by rw[hno 4 (by decide)];rfl)) ((cF _ hout 9).trans (by rw[hno 9 (by decide)];rfl)) (.var rfl) ab (fun c₀ cs hc=>.inl ⟨rfl,by simp only[recoverD,hc]⟩) (fun k=>by cases k) rfl
  ·rintro⟨a,w,h,_⟩;cases h.1
  ·rintro⟨a,w,h,_⟩;cases h
  refine ak 3 [] rfl (kc hn ?_);refine ak 5 [] rfl (kc hn ?_);refine ak 1 [] rfl ?_;rw[d];refine kpD (.tup []) [] hmn ?_ (hq:=rfl);exact az trivial
 have M:eM q=q:=η fun k=>k.2 B
 rw[M,ξ r,r];have d:decide ((aX q).kind=6)=true:=φ B;have hmo:=b7 12 (aX q).pl;refine Bl (aIy mixed y aa rfl ?_);refine ak 3 [] rfl (kc hn ?_);refine ak 5 [] rfl (kc hn ?_);refine ak 1 [] rfl ?_;rw[d];refine kc hmo ?_;refine az ?_;intro S7 μ7 a7 w7 hk7 hs7;refine Bl (aIy mixed hs7 hk7 rfl ?_);refine kz 2 rfl ?_;intro S8 μ8 a8 w8 hk8 hs8;refine wpIn_ret ?_;exact v7 (pgO pg) false 0 0 .returning .returning rfl hs8 rfl rfl rfl rfl rfl (.var rfl) hk8 (fun c₀ cs hc=>.inr ⟨rfl,by simp only[recoverD,hc],rfl,rfl,rfl⟩) (fun k=>by cases k) rfl
theorem wC (s:Str) (e p:Int) (r:¬e=0) (q:b9 Tryz.prog 79 [Go.AM.T s] [] (.tup [.one (.c .nl),atV e p]) []):
  b9 Tryz.prog 35 [Go.AM.T s,.one (.clo 36 [.vp 9 0])] [(9,gM)] (atV e p) [(9,gM)]:=by
 unfold atV at q ⊢;have d0:(!decide (e=0))=true:=by rw[ψ r];rfl
 refine bM (n:=38) tok Tryz.func35 rfl rfl rfl ?_;refine sgh [(0,.id 4)] rfl (sk 1 rfl (kc q ?_));exact kz 6 rfl (aA (sg rfl (aB rfl (fun _=>sg rfl (aD (rtC trw))) (fun hb=>absurd (hb.symm.trans d0) Bool.noConfusion))))
theorem aHp (hX:uQ) (s:Str) (c:b9 Tryz.prog 79 [Go.AM.T s] [] (aAl (kA s)) []) (hC:aL7 (bP s).1 (bP s).2.R.length):
  b9 Tryz.prog 35 [Go.AM.T s,.one (.clo 36 [.vp 9 0])] [(9,gM)] (atV (eM (fU s).2).e (if(eM (fU s).2).e=0 then 0 else(eM (fU s).2).p)) [(9,if(fU s).2.e=0 then pgO (fU s).1 else gM)]:=by
 obtain⟨q,hwt,hZ,r⟩:=j3 s;have y:= @kQ s;have A:∀l,kA s=.ok l→aF0 l:=fun l h=>by
  unfold kA at h;split at h
  ·cases h
  ·exact n9 _ _ _ _ h
 unfold fU;unfold bP at q hwt hZ r hC ⊢;generalize kA s=w at c q hwt hZ r hC y A ⊢;cases w with
 | error e=>
  obtain⟨e,p⟩:=e;have he:¬e=0:=y rfl;have E:eM ⟨[oL],e,p⟩=⟨[oL],e,p⟩:=η fun k=>he k.1
  dsimp only;rw[η he];dsimp only;rw[E];dsimp only;rw[η he,η he];exact wC s e p he c
 | ok l=>
  dsimp only at q hwt hZ r hC ⊢;rw[ξ rfl];have B:=aAy (r6 l.length) (aKx hwt hZ (A l rfl) l.length) hX (r5 hwt l.length) hZ hwt hC q rfl (le_refl _);obtain⟨g1,_⟩:=vG (r5 hwt l.length) hwt q;exact aAx s l c _ _ g1 B
theorem aA3 (hX:uQ) (s:Str) (q:b9 Tryz.prog 79 [Go.AM.T s] [] (aAl (kA s)) []) (hC:aL7 (bP s).1 (bP s).2.R.length):
  b9 Tryz.prog 8 [Go.AM.T s] [] (.tup [.pa (vY (gD s).1),atV (gD s).2.1 (if(gD s).2.1=0 then 0 else(gD s).2.2)]) []:=by
 have hs:=aHp hX s q hC;have c:(eM (fU s).2).e=0→(fU s).2.e=0:=fun h=>by
  unfold eM at h;split at h
  ·rename_i hc;exact hc.1
  ·exact h
 unfold gD;generalize (fU s).1=r at hs ⊢;generalize y:(eM (fU s).2)=z at hs c ⊢;unfold atV at hs ⊢;by_cases he:z.e=0
 ·rw[ξ he,ξ (c he)] at hs;rw[ξ he];dsimp only;rw[ξ he];have d0:(!decide (z.e=0))=false:=by rw[φ he];rfl
  refine bM (n:=16) tok Tryz.func8 rfl rfl rfl ?_;refine sg rfl (sgh [(0,.id 9)] rfl (sk 2 rfl (kc hs ?_)));exact kz 2 rfl (aA (sg rfl (aB rfl (fun hb=>absurd (hb.symm.trans d0) Bool.noConfusion) (fun _=>aE (sg rfl (aD sD))))))
 ·rw[η he] at hs;rw[η he];dsimp only;rw[η he];have d0:(!decide (z.e=0))=true:=by rw[ψ he];rfl
  by_cases h1:(fU s).2.e=0
  ·rw[ξ h1] at hs;refine bM (n:=16) tok Tryz.func8 rfl rfl rfl ?_;refine sg rfl (sgh [(0,.id 9)] rfl (sk 2 rfl (kc hs ?_)));exact kz 2 rfl (aA (sg rfl (aB rfl (fun _=>sg rfl (aD sD)) (fun hb=>absurd (hb.symm.trans d0) Bool.noConfusion))))
  ·rw[η h1] at hs;refine bM (n:=16) tok Tryz.func8 rfl rfl rfl ?_;refine sg rfl (sgh [(0,.id 9)] rfl (sk 2 rfl (kc hs ?_)));exact kz 2 rfl (aA (sg rfl (aB rfl (fun _=>sg rfl (aD sD)) (fun hb=>absurd (hb.symm.trans d0) Bool.noConfusion))))
def gL:AObj:=.var 49 (aJt.map .c)
def ptO (p:Pt):AObj:=.var 49 ((bF p).map .c)
theorem aO5 {L:List Tk}{z c:Z}{p:Pt}(h:b9 Tryz.prog 50 [rP,I .i64 (0:Nat)] [(600,rO L z)] (.pa (bF p)) [(600,rO L c)]):b9 Tryz.prog 49 ([rP]++[R.vp 9 0].map V.one) [(600,rO L z),(9,gL)] (.tup []) [(600,rO L c),(9,ptO p)]:=by
 refine bM (n:=5) tok Tryz.func49 rfl rfl rfl ?_;refine aC mixed (ak 1 [] rfl (kc h ?_));exact kz 1 rfl rtN
theorem aLq {L:List Tk}{z:Z}{v:Value}(h:wS Tryz.prog 50 [rP,I .i64 (0:Nat)] [(600,rO L z)] v) (S:Sto) (μ:Mu) (w:World) (vals:List Value) (B:Go.AM.Inv ⟨w,S,fJ μ (Go.AM.look [(600,rO L z),(9,gL)]),μ,Go.AM.look [(600,rO L z),(9,gL)]⟩ S μ (Go.AM.look [(600,rO L z),(9,gL)]) w)
  (E:aS S μ (Go.AM.look [(600,rO L z),(9,gL)]) ([rP]++[R.vp 9 0].map V.one) vals):Calls Tryz.prog 49 ⟨vals⟩ w fun e w'=>∃S' μ' hout,e=.panicked [{ v:=v,recovered:=false }]∧(∀id o,Go.AM.look hout id=some o→∃o',Go.AM.look [(600,rO L z),(9,gL)] id=some o')∧(∃x,hout=[(600,x),(9,gL)])∧Go.AM.Inv ⟨w,S,fJ μ (Go.AM.look [(600,rO L z),(9,gL)]),μ,Go.AM.look [(600,rO L z),(9,gL)]⟩ S' μ' (Go.AM.look hout) w':=by
 refine(Go.AM.Wd.calls (ro:=none) (n:=0)).1 (callsIn_of_wp_defers Tryz.func49 rfl trivial ?_);have r:=s7 (n:=5) (k:=(Tryz.f49).ntmps) rfl rfl B E;refine wpIn_mono (jI.wp mixed (aPs (v:=v) [(600,rO L z)] [(0,rP)] r rfl ⟨rfl,trivial⟩ rfl ⟨rfl,trivial⟩ rfl rfl rfl ?_)) ?_
 ·exact ak 1 [] rfl (kp h (hq:=rfl))
 rintro e y w' ⟨rfl,J,_,S',M,hout,A,c,O⟩;show LeavesIn _ _ _ _ y.tmps _ y.defers (.panicking _) w';rw[J];have U:Go.AM.look hout 9=none:=by
  cases hl:Go.AM.look hout 9 with
  | none=>rfl
  | some o=>obtain⟨o',ho⟩:=A 9 o hl;cases ho
 have hx:∃x,dX (mk (uM 0 ([rP]++[R.vp 9 0].map V.one)) [(600,rO L z),(9,gL)]).h (outs hout)=Go.AM.look [(600,x),(9,gL)]:=by
  refine⟨(Go.AM.look hout 600).getD (rO L z),funext fun id=>?_⟩;rw[cF];by_cases q:id=600
  ·subst q;cases hl:Go.AM.look hout 600 with
   | none=>rfl
   | some o=>rfl
  ·have hn:Go.AM.look hout id=none:=by
    cases hl:Go.AM.look hout id with
    | none=>rfl
    | some o=>
     obtain⟨o',ho⟩:=A id o hl;simp[Go.AM.look] at ho;exact absurd ho.1 q
   rw[hn];show Go.AM.look [(600,rO L z),(9,gL)] id=_;simp[Go.AM.look,q]
 obtain⟨x,hx⟩:=hx;rw[hx] at c;refine⟨S',M,[(600,x),(9,gL)],rfl,fun id o ho=>?_,⟨x,rfl⟩,c⟩;have hm:=aU ho;rcases Ap.1 hm with hm | hm
 ·obtain⟨rfl,rfl⟩:=Prod.mk.inj hm;exact⟨_,rfl⟩
 ·obtain⟨rfl,rfl⟩:=Prod.mk.inj (Aw.1 hm);exact⟨_,rfl⟩
theorem qD {w0:World}{S0 S:Sto}{μ0 μ:Mu}{st:St}{a:Act}{w:World}{u:Value}(c:AObj) (b:Bool) (e p:Int) (r y:FrameMode) (hok:(subset (atV e p).refs (keys [(9,c)])&&subset (eK [(9,c)]) (keys [(9,c)])&&Go.AM.distinct (keys [(9,c)])&&subset (keys [(9,gL)]) (keys [(9,c)])&&([(9,gL)].all fun p=>p.2.plain)&&([(9,c)].all fun p=>p.2.plain))=true)
  (hs:Sim ⟨w0,S0,fJ μ0 (Go.AM.look [(9,gL)]),μ0,Go.AM.look [(9,gL)]⟩ 38 S μ st a w) (hd:st.d=[]) (E:st.e 4=some (.one (.vp 4 0))) (O:st.e 17=some (.one (.clo 80 [.vp 4 0]))) (U:st.h 4=some (atO 0 0)) (Y:st.h 9=some c) (aa:Ole (fun i=>i) c c)
  (hk:Kp 17 (.func (.func 80) #[] ⟨[u]⟩) a)
  (hu:∀(A:Frame) (cs:List Frame),A.mode=r→(b=true∧recoverD (A::cs)=some (lJ e p,{ A with mode:=y }::cs))∨(b=false∧recoverD (A::cs)=none∧y=r∧e=0∧p=0)) (I:r≠ .run) (J:settle y=.returning):
  LeavesIn (Wd none) 0 Tryz.prog Tryz.f35 a.tmps (fun en w'=>∃S' μ' v,en=.returned v∧Go.AM.Inv ⟨w0,S0,fJ μ0 (Go.AM.look [(9,gL)]),μ0,Go.AM.look [(9,gL)]⟩ S' μ' (Go.AM.look [(9,c)]) w'∧aK S' μ' (Go.AM.look [(9,c)]) (atV e p) v) (mP a [{ target:=.fn (.func 80) ⟨[u]⟩,args:= #[] }]).defers r w:=by
 have hda:a.defers=[]:=by have:=hs.defers;rw[hd] at this;exact this
 show LeavesIn _ _ _ _ _ _ (a.defers++_) _ _;rw[hda,Bv];have hh:∀id o,Go.AM.look [(4,atO 0 0)] id=some o→st.h id=some o∧o≠ .dead:=by
  intro id o ho;obtain⟨rfl,rfl⟩:=Prod.mk.inj (Aw.1 (aU ho));exact⟨U,fun k=>by cases k⟩
 have hI:=hs.inv.hand hh rfl;have B:∀i∈keys [(4,atO 0 0)],Go.AM.Good st.h (Go.AM.look [(4,atO 0 0)]) (fun i=>i) i:=by
  intro i hi;obtain⟨o,ho⟩:=bZ hi;obtain⟨h1,h2⟩:=hh i o ho;exact⟨o,o,h1,ho,.refl_id h2⟩
 have q:=hs.env 17 _ O;have hk':a.tmps.getD 17 undef=.func (.func 80) #[] ⟨[u]⟩:=hk;rw[hk'] at q;have hvu:aS S μ st.h [.one (.vp 4 0)] [u]:=by
  simp only[aK,aQ,aN] at q;obtain⟨vs,h1,v,vs',h2,h3,E⟩:=q;subst E h2;cases h1;simp only[aS,aK];exact⟨_,_,rfl,h3,rfl⟩
 have M:aS S μ (Go.AM.look [(4,atO 0 0)]) [.one (.vp 4 0)] [u]:=by
  have:=aS.ren (H:=st.h) (H':=Go.AM.look [(4,atO 0 0)]) (σ:=fun i=>i) [.one (.vp 4 0)] [u] (fun i hi=>B i (by simpa [V.refsL,V.refs,R.refs,keys] using hi)) (by rw[V.renL_id];exact hvu);exact this
 have hb1:eH Tryz.prog 80:=aA4 (by kernel_rfl);have hi:(invoke (.fn (.func 80) ⟨[u]⟩) #[]).run Tryz.prog w=.ok (.enter 80 ⟨[u]⟩) w:=by
  simp only[invoke];rw[cP hb1];simp
 refine leavesIn_cons I (fun h=>by simp[Go.AM.Wd] at h) hi (fun _ _=>trivial) (CallsDIn.mono (aJe b e p _ hI M r y hu) ?_);rintro en u' w' ⟨⟨v,rfl⟩,rfl,S',μ',hI6⟩;dsimp only;rw[J];obtain⟨μ2,q1,q2,q3,q4⟩:=hs.inv.back (hin:=[(4,atO 0 0)]) (hout:=[(4,atO e p)]) (fun id o ho=>(hh id o ho).1) (fun id o ho=>.inl (by obtain⟨rfl,_⟩:=Prod.mk.inj (Aw.1 (aU ho));exact⟨_,rfl⟩)) hI6;have hs6:Sim ⟨w0,S0,fJ μ0 (Go.AM.look [(9,gL)]),μ0,Go.AM.look [(9,gL)]⟩ 38 S' μ2 ⟨st.e,dX st.h (outs [(4,atO e p)]),st.d⟩ a w':=⟨q2,hs.size,hs.defers.evolve q3,fun t v e=>aK.evolve q3 v _ (hs.env t v e)⟩
 have g4:dX st.h (outs [(4,atO e p)]) 4=some (atO e p):=by rw[cF];rfl
 have g9:dX st.h (outs [(4,atO e p)]) 9=some c:=by rw[cF];exact Y
 have hf:Fin tr.flat Tryz.f35 ⟨st.e,dX st.h (outs [(4,atO e p)]),st.d⟩ [(9,gL)] (atV e p) [(9,c)]:=(rtC (fn:=Tryz.f35) (st:=⟨st.e,dX st.h (outs [(4,atO e p)]),st.d⟩) (hin:=[(9,gL)]) (hout:=[(9,c)]) (res:=atV e p) trw (ha:=E) (hh:=g4) (ho:=⟨⟨_,g9,aa⟩,trivial⟩) (hok:=hok)).2
 obtain⟨v2,k1,k2,k3⟩:=vV (fn:=Tryz.f35) tok hs6 hf;exact⟨v2,k1,_,_,_,rfl,k2,k3⟩
theorem wB (s:Str) (l:List Tk) (E:b9 Tryz.prog 79 [Go.AM.T s] [] (.tup [.one (.c (.sl 4 (l.map aJ))),atV 0 0]) []) (pg:Pt) (q:Z) (hA:ZA l q) (A:aY Tryz.prog 50 [rP,I .i64 (0:Nat)] [(600,rO l ⟨l,0,0⟩)] (eF l (.pa (bF pg)) q [])):
  b9 Tryz.prog 35 [Go.AM.T s,.one (.clo 49 [.vp 9 0])] [(9,gL)] (atV (eM q).e (if(eM q).e=0 then 0 else(eM q).p)) [(9,if q.e=0 then ptO pg else gL)]:=by
 have er:rO l ⟨l,0,0⟩=.var 136 [.c (.sl 4 (l.map aJ)),.c (.int .i64 0)]:=by unfold rO;dsimp only;rw[B4];rfl
 unfold atV at E;intro S μ w vals hI hv;refine(Go.AM.Wd.calls (ro:=none) (n:=0)).1 (callsIn_of_wp_defers Tryz.func35 rfl trivial ?_);have hs0:=s7 (n:=38) (k:=(Tryz.f35).ntmps) rfl rfl hI hv;refine Bl (aMe mixed hs0 ?_);refine ak 1 [(0,.id 4)] rfl (az ?_);intro S1 μ1 a1 w1 hs1;refine Bl (aMe mixed hs1 ?_);refine ak 1 [] rfl (kc E ?_);refine kz 6 rfl ?_;intro S2 J a2 w2 hs2;refine Bl (Bl (aMe mixed hs2 ?_));refine kz 3 rfl ?_;intro S3 μ3 a3 w3 hs3;have hb:=hs3.env 15 _ rfl;simp only[aK,aQ,Rep] at hb;refine wpIn_cond (t:=false) hb ?_;refine wpIn_skip ?_;refine Bl (wpIn_region ?_);show wpOpsIn _ _ _ _ _ [0,1] _ _;rw[A7];refine(g_ rfl rfl (lT (l:=[.vp 4 0]) rfl rfl (eI rfl) rfl)) _ (dJ.refl _ _) _ S3 μ3 a3 w3 _ _ hs3 (fun S4 μ4 a4 w4 M=>?_) none;rw[A7];have hd4:a4.defers=[]:=M.defers;have hv4:=M.env 17 _ rfl;simp only[aK,aQ,aN] at hv4;obtain⟨vs,hv5,u,vs',rfl,_,rfl⟩:=hv4;have hk4:Kp 17 (.func (.func 80) #[] ⟨[u]⟩) a4:=hv5;refine aB4 rfl rfl rfl rfl hv5 ?_;have he:(⟨a4.tmps,({ target:=.fn (.func 80) ⟨[u]⟩,args:= #[] }:Deferred)::a4.defers⟩:Act)=mP a4 [{ target:=.fn (.func 80) ⟨[u]⟩,args:= #[] }]:=by unfold mP;rw[hd4];rfl
 rw[he];refine Bl (aIy mixed M hk4 rfl ?_);refine ak 5 [(3,.id 600)] rfl (az ?_);intro S5 μ5 a5 w5 hk5 hs5;by_cases r:q.e=0
 case neg=>
  have hp:=aY.err A r;have O:eM q=q:=η fun k=>r k.1
  rw[O,η r,η r];refine Bl (jI.wp (draw:=false) mixed (jI.ext (Q:=fun e a w'=>(e=pan (lJ q.e q.p)∧∃S' μ' st',Sim ⟨w,S,fJ μ (Go.AM.look [(9,gL)]),μ,Go.AM.look [(9,gL)]⟩ 38 S' μ' st' a w'∧st'.d=[]∧st'.e 4=some (.one (.vp 4 0))∧st'.e 17=some (.one (.clo 80 [.vp 4 0]))∧st'.h 4=some (atO 0 0)∧st'.h 9=some gL)∧Kp 17 (.func (.func 80) #[] ⟨[u]⟩) a) ?_ (jI.kp rfl ?_ hk5 ?_)))
  ·rintro e a w' ⟨⟨rfl,S',μ',st',hs',U,h4,h17,hh4,hh9⟩,B⟩;exact qD gL true q.e q.p (.panicking [{ v:=lJ q.e q.p,recovered:=false }]) (.panicking [{ v:=lJ q.e q.p,recovered:=true }]) rfl hs' U h4 h17 hh4 hh9 (.var rfl) B (fun c₀ cs hc=>.inl ⟨rfl,by simp only[recoverD,hc]⟩) (fun k=>by cases k) rfl
  ·rintro⟨a,w,h,_⟩;cases h
  unfold jI;dsimp only;show wpOpsIn _ _ _ _ _ [0,1,2] _ _;rw[A7];refine(g_ rfl rfl (sJ rfl rfl (eI rfl) rfl)) _ (dJ.refl _ _) _ S5 μ5 a5 w5 _ _ hs5 (fun S6 μ6 Y w6 y=>?_) none;rw[A7];refine(g_ rfl rfl (sJ rfl rfl (eI rfl) rfl)) _ (dJ.refl _ _) _ S6 μ6 Y w6 _ _ y (fun S7 μ7 a7 w7 hs7=>?_) none;rw[A7];rw[er] at hp;refine pI rfl rfl (aJd (v:=lJ q.e q.p) (good:=fun hout=>∃x,hout=[(600,x),(9,gL)]) (args:=[rP]) (caps:=[.vp 9 0]) (f:=49) [(600,rO l ⟨l,0,0⟩),(9,gL)] (aA4 (by kernel_rfl)) rfl rfl (fun S μ w vals hI hv=>aLq (by rw[er];exact hp) S μ w vals hI hv) (.cons rfl .refl .nil) ⟨by rw[er];rfl,rfl,trivial⟩ rfl hs7 ?_);rintro S' μ8 hout w' ⟨x,rfl⟩ hI8 hE;exact⟨rfl,S',μ8,⟨_,_,_⟩,⟨hI8,hs7.size,hs7.defers.evolve hE,fun t v e=>aK.evolve hE v _ (hs7.env t v e)⟩,rfl,rfl,rfl,rfl,rfl⟩
 have A:=aY.ok A r;rw[ξ r];have hP1:=aO5 A;rw[er] at hP1;refine Bl (aIy mixed hs5 hk5 rfl ?_);refine ak 2 [] rfl (kv (args:=[rP]) hP1 ?_);refine az ?_;intro S6 μ6 Y w6 hk6 y;have hn:=cT hA;by_cases B:(aX q).kind=6
 case neg=>
  have O:eM q=⟨q.R,12,(aX q).pl⟩:=(ξ ⟨r,B⟩).trans (ξ r);have h12:¬(12:Int)=0:=by decide
  rw[O];dsimp only;rw[η h12];have d:decide ((aX q).kind=6)=false:=ψ B;have hmn:=bB 12 (aX q).pl;refine Bl (jI.wp mixed (jI.ext (Q:=fun e a w'=>((e=pan (lJ 12 (aX q).pl)∧a.defers=[]∧a.tmps.size=38∧∃S' J hout,(∀id o,Go.AM.look hout id=some o→∃o',Go.AM.look [(600,rO l q)] id=some o')∧Go.AM.Inv ⟨w,S,fJ μ (Go.AM.look [(9,gL)]),μ,Go.AM.look [(9,gL)]⟩ S' J (dX _ (outs hout)) w'∧Evolve S6 μ6 _ S' J (dX _ (outs hout)))∧Kp 4 (Y.tmps.getD 4 undef) a)∧Kp 17 (.func (.func 80) #[] ⟨[u]⟩) a) ?_ (jI.kp rfl ?_ hk6 (jI.kp rfl ?_ rfl (aPs (v:=lJ 12 (aX q).pl) [(600,rO l q)] [(7,rP)] y rfl ⟨rfl,trivial⟩ rfl ⟨rfl,trivial⟩ rfl rfl rfl ?_)))))
  ·rintro e a' w' ⟨⟨⟨rfl,U,hsz,S',J,hout,hkeys,hI',hE⟩,hk4'⟩,hk17⟩;have hno:∀id,id≠600→Go.AM.look hout id=none:=fun id h6=>by
    cases hl:Go.AM.look hout id with
    | none=>rfl
    | some o=>
     obtain⟨o',ho⟩:=hkeys id o hl;simp[Go.AM.look] at ho;exact absurd ho.1 h6
   have hs7:Sim ⟨w,S,fJ μ (Go.AM.look [(9,gL)]),μ,Go.AM.look [(9,gL)]⟩ 38 S' J ⟨Go.AM.look [(4,.one (.vp 4 0)),(17,.one (.clo 80 [.vp 4 0]))],_,[]⟩ a' w':=⟨hI',hsz,U,fun t v ht=>by
    have hm:=aU ht;rcases Ap.1 hm with hm | hm
    ·obtain⟨rfl,rfl⟩:=Prod.mk.inj hm;have h1:a'.tmps.getD 4 undef=Y.tmps.getD 4 undef:=hk4';rw[h1];exact aK.evolve hE _ _ (y.env 4 _ rfl)
    ·obtain⟨rfl,rfl⟩:=Prod.mk.inj (Aw.1 hm);have h1:a'.tmps.getD 17 undef=Y.tmps.getD 17 undef:=Eq.trans hk17 (Eq.symm hk6);rw[h1]
     exact aK.evolve hE _ _ (y.env 17 _ rfl)⟩
   exact qD (ptO pg) true 12 (aX q).pl (.panicking [{ v:=lJ 12 (aX q).pl,recovered:=false }]) (.panicking [{ v:=lJ 12 (aX q).pl,recovered:=true }]) rfl hs7 rfl rfl rfl ((cF _ hout 4).trans (by rw[hno 4 (by decide)];rfl)) ((cF _ hout 9).trans (by rw[hno 9 (by decide)];rfl)) (.var rfl) hk17 (fun c₀ cs hc=>.inl ⟨rfl,by simp only[recoverD,hc]⟩) (fun k=>by cases k) rfl
  ·rintro⟨a,w,h,_⟩;cases h.1
  ·rintro⟨a,w,h,_⟩;cases h
  refine ak 3 [] rfl (kc hn ?_);refine ak 5 [] rfl (kc hn ?_);refine ak 1 [] rfl ?_;rw[d];refine kpD (.tup []) [] hmn ?_ (hq:=rfl);exact az trivial
 have O:eM q=q:=η fun k=>k.2 B
 rw[O,ξ r,r];have d:decide ((aX q).kind=6)=true:=φ B;have hmo:=b7 12 (aX q).pl;refine Bl (aIy mixed y hk6 rfl ?_);refine ak 3 [] rfl (kc hn ?_);refine ak 5 [] rfl (kc hn ?_);refine ak 1 [] rfl ?_;rw[d];refine kc hmo ?_;refine az ?_;intro S7 μ7 a7 w7 hk7 hs7;refine Bl (aIy mixed hs7 hk7 rfl ?_);refine kz 2 rfl ?_;intro S8 μ8 a8 w8 hk8 hs8;refine wpIn_ret ?_;exact qD (ptO pg) false 0 0 .returning .returning rfl hs8 rfl rfl rfl rfl rfl (.var rfl) hk8 (fun c₀ cs hc=>.inr ⟨rfl,by simp only[recoverD,hc],rfl,rfl,rfl⟩) (fun k=>by cases k) rfl
def bxL:List Tk:=[⟨4,eqS,0,0⟩,⟨1,[120],0,0⟩,oL]
theorem aO9:uQ:=by
 have q:ZA bxL ⟨bxL,0,0⟩:=⟨rfl,⟨[⟨4,eqS,0,0⟩,⟨1,[120],0,0⟩],oL,rfl,rfl⟩,by decide⟩
 have hwt:wt bxL≤30000:=by decide
 have c:aF0 bxL:=fun t ht=>by
  intro _;simp only[bxL,Ap,List.not_mem_nil,or_false] at ht;rcases ht with rfl | rfl | rfl<;>rfl
 have hZ:mT bxL:=fun t ht r=>c t ht (by rw[r];decide)
 have hb:=rI (r6 3) (aKx hwt hZ c 3) ⟨1,[120],0,0⟩ 0 q rfl (by decide) (by decide);have he:(eE (aI6 3) ⟨1,[120],0,0⟩ 0 ⟨bxL,0,0⟩).2.e=0:=by decide
 have hb:=aY.ok hb he;exact⟨bxL,⟨bxL,0,0⟩,_,⟨1,[120],0,0⟩,_,hb⟩
end Go.Proofs.YtpmheldmadendaaGreatDoor
namespace Go.AM
open Go
section
variable {P:Program}{n:Nat}{o:Oper}{st:St}{d:Nat}{T:TT}
theorem aQd {rd:Rd}{id:Nat}{ao q:AObj}(J:o.dst=none) (hid:st.h id=some ao) (B:id∈rd.h) (y:ao.succ True q)
  (h:∀st',dJ rd st st'→st'.h id=some ao→∀G S μ a w,Sim G n S μ st' a w→∃v w' A b c,(execOp a.eval o).run P w=.ok (.value v) w'∧μ id=some (b,c)∧WChg w w' b A∧
   iG S (upd μ id (some (b,c))) (upd st'.h id (some q)) w' id q∧(∀o v,S.cell b o=some v→∃vs t M,A=.cells vs t M∧vs[o]?=some v)∧(∀m,S.mapo b=some m→w.heap.size≤b)):
  Step P n o st rd ⟨none,[(id,some q)]⟩:=by
 intro st' ha G S μ a w K Q hs O;have r:st'.h id=some ao:=by rw[ha.2 id B,hid]
 obtain⟨v,w',A,b,c,U,hm,hw,hO,hS,E⟩:=h st' ha r G S μ a w hs;refine fun ro=>dK U ?_
 rw[J];have I:=fD (S:=S) (μ:=μ) r hm y;have hi:=hs.inv.chg (id:=id) (cap:=c) (ao:=q) hw (.inr ⟨ao,c,r,hm⟩) I hO hS E;refine O S (upd μ id (some (b,c))) _ _ ?_;have:=hs.put_none hi I v;unfold Eff.apply;rw[bU];exact this
theorem qK (w:World) (t e ty:TypeId) (z:Value) (ht:P.underlying t=some (.slice e)) (E:∀w,(zeroValue e).run P w=.ok z w) (I:z.cells= #[z]) (h1:z.oneCell'=true) (b off l c:Nat) (hn:0<l) (vs:List Value) (y:TypeId) (J:w.heap[b]?=some (.cells ⟨vs⟩ y (0,0))) (r:off+l≤vs.length):
  (Builtin.clear_ #[t] ty #[.slice (some ⟨b,off,none⟩) l c]).run P w=.ok (.tuple #[]) (w.setRow b ⟨vs.take off++List.replicate l z++vs.drop (off+l)⟩):=by
 have A:(Builtin.zeroCells z.cells l).toList=List.replicate l z:=by
  rw[I];simp[Builtin.zeroCells];apply List.ext_getElem
  ·simp
  ·intro i h1 h2;simp[Nat.mod_one]
 have q:=run_storeCells_at (P:=P) b off y (List.replicate l z) 0 ⟨vs⟩ w J (by simpa using r) (by intro v B;rw[List.eq_of_mem_replicate B];exact h1);simp only[Cb,length_replicate] at q;obtain⟨m,rfl⟩:∃m,l=m+1:=⟨l-1,by omega⟩
 simp[Builtin.clear_,Ah ht,E,A,q]
theorem aQj {elems:List (List C)}(h:∀r∈elems,r.length=1):elems.flatten.length=elems.length:=by
 induction elems with
 | nil=>rfl
 | cons r l c=>
  rw[A6,ζ,c (fun r q=>h r (A9 _ q)),h r Bn,τ];omega
theorem aAq {elems:List (List C)}(h:∀r∈elems,r.length=1) (k:Nat):(elems.take k).flatten=elems.flatten.take k:=by
 induction elems generalizing k with
 | nil=>simp
 | cons r l q=>
  cases k with
  | zero=>simp
  | succ k=>
   have c:=h r Bn;rw[Bc,A6,A6,q (fun r c=>h r (A9 _ c)),List.take_append,c,Nat.add_sub_cancel,Aq (l:=r) (i:=k+1) (by omega)]
theorem tI (c:C):∀l:Nat,(List.replicate l [c]).flatten=List.replicate l c
 | 0=>rfl
 | l+1=>by rw[replicate_succ,A6,tI c l,replicate_succ];rfl
theorem xB {S:Sto}{c:C}{z:Value}(h:Rep S c z):∀l:Nat,bR S (List.replicate l c) (List.replicate l z)
 | 0=>by rw[List.replicate_zero,bR];rfl
 | l+1=>by rw[replicate_succ,replicate_succ,bR];exact⟨_,_,rfl,h,xB h l⟩
theorem aCn {t e:TypeId}{x:Operand}{te id off len sz:Nat}{elems:List (List C)}{z:Value}{zc:C}(ho:o.op=.call { callee:=.builtin .clear,args:= #[x],argTypes:= #[t] }) (hd:o.dst=none) (hu:P.underlying t=some (.slice e)) (hzero:∀w,(zeroValue e).run P w=.ok z w) (hz:z.cells= #[z]) (Y:z.oneCell'=true) (J:∀S,Rep S zc z)
  (hx:(opv st x=some (.one (.tl id off len sz)))∨(opv st x=some (.one (.hs id off len sz))∧off=0)) (hh:st.h id=some (.arr te 1 elems 0)) (hsz:sz=elems.length) (hlen:0<len) (hol:off+len=sz):Step P n o st ⟨opr x,[id]⟩ ⟨none,[(id,some (.arr te 1 (elems.take off++List.replicate len [zc]) 0))]⟩:=by
 have E:(elems.take off++List.replicate len [zc]).length=elems.length:=by rw[ζ,Al,length_replicate];omega
 refine aQd hd hh (by simp) ⟨rfl,by rw[E];exact le_refl _,fun _=>trivial⟩ fun st' ha y G S μ a w hs=>?_
 obtain⟨b,base,cap,c,A,B⟩:∃b base cap c,μ id=some (b,base,cap)∧(elems.length≤cap→a.eval x=.slice (some ⟨b,base+off,none⟩) len c):=by
  rcases hx with hx | ⟨hx,h0⟩
  ·have r:=aI hs hx ha.1;simp only[aK,aQ] at r;obtain⟨_,r | ⟨aa,ab,elems',ac,h1,h2,M⟩⟩:=r
   ·rw[y] at r;cases r
   rw[y] at h1;cases h1;obtain⟨h4,b,base,cap,A,h6,I⟩:=M hsz;refine⟨b,base,cap,cap-off,A,fun hc=>?_⟩;rw[I,η (by omega),mul_one]
  ·have r:=aI hs hx ha.1;simp only[aK,aQ] at r;obtain⟨_,r | ⟨aa,ab,elems',ac,h1,h2,M⟩⟩:=r
   ·rw[y] at r;cases r
   rw[y] at h1;cases h1;obtain⟨h4,⟨A,h6,I⟩ | ⟨b,base,cap,A,I⟩⟩:=M hsz
   ·subst h6;rw[length_nil] at hsz;omega
   ·exact⟨b,base,cap,cap-off,A,fun hc=>by rw[I,mul_one]⟩
 obtain⟨g0,vs,g1,g2,g3,g4,g5,g6,g7⟩:=(hs.inv.obj id _ y).arr A;have B:=B g3;rw[mul_one] at g2 g5;have O:=qK (P:=P) w t e o.type z hu hzero hz Y b (base+off) len c hlen vs te g1 (by omega);have hW:=WChg.setRow w b ⟨vs⟩ ⟨vs.take (base+off)++List.replicate len z++vs.drop (base+off+len)⟩ te (0,0) g1;have hfl:=aQj g0;have hrl:=g5.length;refine⟨.tuple #[],_,_,b,(base,cap),?_,A,hW,⟨?_,.inr ⟨b,base,cap,_,aH _ _ _,hW.new,?_,by rw[E];exact g3,g4,?_,g6,by rw[E];exact g7.1,fun e=>by cases e⟩⟩,fun o v e=>?_,fun m e=>dT g4.2 m e⟩
 ·simp only[execOp,ho,resolve,map_toArray,As,map_nil,B,δ,ε,θ,invoke,builtin,O]
 ·intro q hq;rcases Bi.1 hq with hq | hq
  ·exact g0 q (B3 hq)
  ·rw[List.eq_of_mem_replicate hq];rfl
 ·simp only[ζ,Al,Bf,length_replicate];omega
 ·rw[E,mul_one,Ch,aAq g0,tI];have e2:((vs.take (base+off)++List.replicate len z++vs.drop (base+off+len)).drop base).take elems.length=((vs.drop base).take elems.length).take off++List.replicate len z:=by
   have hA:(vs.take (base+off)++List.replicate len z++vs.drop (base+off+len)).drop base=(vs.drop base).take off++List.replicate len z++vs.drop (base+off+len):=by
    rw[Ar,List.drop_append_of_le_length (by rw[Al];omega),drop_take,show base+off-base=off by omega,Ar]
   rw[hA,take_left' (by rw[ζ,Al,Bf,length_replicate];omega),take_take,show min off elems.length=off by omega]
  show bR S _ (((vs.take (base+off)++List.replicate len z++vs.drop (base+off+len)).drop base).take elems.length);rw[e2];exact(g5.take off).append (xB (J S) len)
 ·by_cases hb:base≤o
  ·rw[g6 rfl o hb] at e;cases e
  ·obtain⟨vs0,t0,fr0,q1,U⟩:=hs.inv.holds.1 b o v e;rw[g1] at q1;cases q1;refine⟨_,_,_,rfl,?_⟩;simp only[B9] at U ⊢;have hlt:o<vs.length:=(Ad.1 U).1
   rw[Ar,A1 (by simp;omega),Ai,ξ (by omega)];exact U
theorem aJ5 {t e:TypeId}{i A:TI}{x y:Operand}{te es id len sz:Nat}{kk:IntKind}{elems:List (List C)}{fz:Nat}(U:Tok P T) (ho:o.op=.slice t x (some y) none none) (Y:o.dst=some d) (B:d<n) (hi:T[t]?=some (some i)) (hk:i.k=.sl e) (E:T[e]?=some (some A)) (_:A.size=es)
  (hx:opv st x=some (.one (.hs id 0 len sz))) (hh:st.h id=some (.arr te es elems fz)) (hsz:sz=elems.length) (hlen:1≤len) (hls:len≤sz) (hy:opv st y=some (I kk ((0:Nat):Int))):Step P n o st ⟨opr x++opr y,[id]⟩ ⟨some (d,some (.one (.hs id 0 len sz))),[]⟩:=by
 refine Step.value Y B fun st' ha G S μ a w hs=>?_
 have c:=aI hs hx fun t ht=>ha.1 t (by simp[ht])
 have J:=cR (aI hs hy fun t ht=>ha.1 t (by simp[ht]));have r:st'.h id=some (.arr te es elems fz):=by rw[ha.2 id (by simp),hh]
 have M:=c;simp only[aK,aQ] at c;obtain⟨_,c | ⟨te',es',elems',fz',h1,h2,h3⟩⟩:=c
 ·rw[r] at c;cases c
 rw[r] at h1;cases h1;obtain⟨h4,⟨h5,q,h7⟩ | ⟨b,base,cap,h5,q⟩⟩:=h3 hsz
 ·subst q;simp at hsz;omega
 rw[zero_mul,Cb,sub_zero] at q;refine⟨a.eval x,?_,M⟩;have O:=x6 (P:=P) U hi hk E w (some ⟨b,base,none⟩) len cap 0 kk (Ae _);simp only[execOp,ho,Bu,Option.map_none,q,J,δ,ε] at O ⊢;rw[O];by_cases hc:cap=0
 ·simp[hc]
 ·simp[hc,Addr.add_mid]
end
end Go.AM
namespace Go.Proofs.YtpmheldmadendaaGreatDoor
open Go Go.AM
set_option maxRecDepth 20000
set_option maxHeartbeats 4000000
theorem aEr (s:Str) (t:Tk):b9 Tryz.prog 146 ([Go.AM.T s]++[R.c (.pt (aJ t))].map V.one) [] (B (decide (s=t.text))) []:=by
 refine bM (n:=8) tok Tryz.func146 rfl rfl rfl ?_;exact sg rfl (sg rfl (aD rtT))
def aHb (v:Str) (l:List Str) (m:Nat):Int:=match (l.drop m).findIdx? (fun s=>decide (s=v)) with
 | none=> -1
 | some d=>((m+d:Nat):Int)
theorem aHa (v:Str) (l:List Str):aHb v l l.length= -1:=by unfold aHb;rw[Ck];rfl
theorem aDs (v:Str) {l:List Str}{m:Nat}{s:Str}(h:l[m]?=some s):aHb v l m=if s=v then(m:Int) else aHb v l (m+1):=by
 obtain⟨h1,h2⟩:=Ad.1 h;have c:=A8 h1;rw[h2] at c;unfold aHb;rw[c,List.findIdx?_cons];by_cases hp:s=v
 ·rw[ξ (φ hp),ξ hp];rfl
 ·rw[η (by rw[ψ hp];exact π),η hp];cases (l.drop (m+1)).findIdx? _ with
  | none=>rfl
  | some d=>simp;omega
def svA (l:List (List C)) (f:Nat):AObj:=.arr 9 1 l f
theorem aOw (l:List Str) (hl:l.length≤1000000000) (t:Tk):b9 Tryz.prog 186 [hsV 710 l.length,.one (.clo 146 [.c (.pt (aJ t))])] [(710,svA (l.map bD) 0)] (I .i64 (aHb t.text l 0)) [(710,svA (l.map bD) 0)]:=by
 have B:(l.map bD).length=l.length:=χ _;refine bM (n:=19) tok Tryz.func186 rfl rfl rfl ?_;refine sg rfl (aA (sg rfl (aF (aM (fun i:Nat=>mk [(0,hsV 710 l.length),(1,.one (.clo 146 [.c (.pt (aJ t))])),(7,I .i64 (l.length:Int)),(8,I .i64 i)] [(710,svA (l.map bD) 0)]) (fun i=>i≤l.length∧aHb t.text l 0=aHb t.text l i) (fun i=>l.length-i) 0 ⟨Ae _,rfl⟩ sl ?_))));intro i ⟨hi,hid⟩;refine sg rfl (aA (aB rfl (fun hb=>?_) (fun hb=>?_)))
 ·have q:i<l.length:=by have:=κ hb;omega
  obtain⟨x,r⟩:=aP q;have A:=bG bD r;have hc:=aEr x t;rw[aDs _ r] at hid;refine aE (aA (aF (sg rfl (skh 5 [(4,.row i (bD x))] rfl (kv (args:=[Go.AM.T x]) hc ?_)))));refine az (aB rfl (fun hb=>?_) (fun hb=>?_))
  ·rw[ξ (κ hb)] at hid;rw[hid];exact sg rfl (aD rtT)
  ·rw[η (Af hb)] at hid;exact aE (ag [] rfl ⟨i+1,⟨q,hid⟩,by dsimp only;omega,sl⟩)
 have y:i=l.length:=by have:=Af hb;omega
 subst y;rw[aHa] at hid;rw[hid];exact aL (sg rfl (aD rtT))
def dl (v:Str) (l:List Str):List Str:=l.filter (fun s=>!decide (s=v))
theorem aQ7 (v:Str) (l:List Str):(dl v l).length≤l.length:=List.length_filter_le _ _
theorem aD3 {v:Str}{l:List Str}(h:∀s∈l,¬s=v):dl v l=l:=filter_eq_self.2 fun s hs=>by rw[ψ (h s hs)];rfl
theorem aD2 {v:Str}{l:List Str}{i:Nat}{x:Str}(h:l[i]?=some x):dl v (l.take (i+1))=if x=v then dl v (l.take i) else dl v (l.take i)++[x]:=by
 unfold dl;rw[Bk,h,List.filter_append];by_cases hx:x=v
 ·rw[ξ hx];show _++List.filter _ [x]=_;rw[Cc,η (by rw[φ hx];decide)];simp
 ·rw[η hx];show _++List.filter _ [x]=_;rw[Cc,ξ (by rw[ψ hx];rfl)];rfl
def aBk (v:Str) (l:List Str):List (List C):=(dl v l).map bD++List.replicate (l.length-(dl v l).length) [.str []]
theorem aEq (l:List Str) (hl:l.length≤1000000000) (t:Tk):b9 Tryz.prog 145 [hsV 710 l.length,.one (.clo 146 [.c (.pt (aJ t))])] [(710,svA (l.map bD) 0)] (.one (.c (.sl 1 ((dl t.text l).map bD)))) [(710,svA (aBk t.text l) 2)]:=by
 have ab:(l.map bD).length=l.length:=χ _;have B:=aOw l hl t;unfold aHb at B;rw[B1] at B;refine bM (n:=42) tok Tryz.func145 rfl rfl rfl ?_;refine sg rfl (sk 2 rfl (kc B ?_));refine kz 1 rfl ?_;cases hf:l.findIdx? (fun s=>decide (s=t.text)) with
 | none=>
  have ac:∀s∈l,¬s=t.text:=fun s hs he=>by
   have:=(List.findIdx?_eq_none_iff.1 hf) s hs;rw[φ he] at this;cases this
  have e1:aBk t.text l=l.map bD:=by
   unfold aBk;rw[aD3 ac,B4,List.replicate_zero,Cm]
  rw[e1,aD3 ac];dsimp only;refine aA (sg rfl (aB rfl (fun _=>AWp.sub (Sub.freeze (id:=710) rfl) ?_) (fun hb=>Bool.noConfusion hb)));exact sg rfl (aD (rtH (hsz:=ab.symm) (hlen:=ab.symm)))
 | some d=>
 obtain⟨M,ad,ae⟩:=List.findIdx?_eq_some_iff_getElem.1 hf;have af:l[d]?=some t.text:=by rw[List.getElem?_eq_getElem M,κ ad]
 have ah:dl t.text (l.take d)=l.take d:=aD3 fun s hs he=>by
  obtain⟨j,hj1,ai⟩:=List.mem_iff_getElem.1 hs;rw[Al] at hj1;rw[List.getElem_take] at ai;exact ae j (by omega) (by rw[ai];exact φ he)
 have O:dl t.text (l.take (d+1))=l.take d:=by rw[aD2 af,ξ rfl,ah]
 dsimp only;rw[A5];have dn:decide (((d:Nat):Int)= -1)=false:=ψ (by omega);refine aA (sg rfl (aB rfl (fun hb=>absurd (hb.symm.trans dn) Bool.noConfusion) (fun _=>aE (aA (aA (agN [] rfl (aF (aM (fun q:List Str×Nat×Nat=>mk [(0,hsV 710 l.length),(1,.one (.clo 146 [.c (.pt (aJ t))])),(5,I .i64 (q.2.1:Nat)),(6,I .i64 (q.2.2:Nat))] [(710,svA (q.1.map bD) 0)]) (fun q=>q.1.length=l.length∧q.2.1<q.2.2∧q.2.2≤l.length∧q.1.take q.2.1=dl t.text (l.take q.2.2)∧q.1.drop q.2.2=l.drop q.2.2) (fun q=>l.length-q.2.2) (l,d,d+1) ⟨rfl,by dsimp only;omega,M,O.symm,rfl⟩ sl ?_))))))));clear B O ah af M ad ae hf dn;rintro⟨R,k,i⟩ ⟨A,hki,hi,ht,U⟩;dsimp only at A hki hi ht U ⊢;have E:(R.map bD).length=R.length:=χ _;refine aA (sg rfl (aB rfl (fun hb=>?_) (fun hb=>?_)))
 ·have Y:i<l.length:=by have:=κ hb;omega
  obtain⟨x,hx⟩:=aP Y;have hRx:R[i]?=some x:=by
   have h1:(R.drop i)[0]?=(l.drop i)[0]?:=by rw[U]
   rw[Aj,Aj,Cb] at h1;rw[h1,hx]
  obtain⟨y,hy⟩:=aP (l:=R) (k:=k) (by omega);have hRx':=bG bD hRx;have hy':=bG bD hy;have hc:=aEr x t;have J:=aD2 (v:=t.text) hx;have aa:R.drop (i+1)=l.drop (i+1):=by
   rw[←Cp,←Cp,U]
  refine aE (aA (aF (sgh [(3,.row i (bD x))] rfl (sk 2 rfl (kv (args:=[Go.AM.T x]) hc ?_)))));refine kz 1 rfl (aB rfl (fun hb=>?_) (fun hb=>?_))
  ·have hne:¬x=t.text:=fun e=>by rw[φ e] at hb;cases hb
   rw[η hne] at J;have hs1:(R.map bD).set k (bD x)=(R.set k x).map bD:=by rw[List.map_set]
   refine sgh [(4,.row k (bD y))] rfl (agN [] rfl (agN [] rfl ⟨(R.set k x,k+1,i+1),⟨by dsimp only;rw[length_set,A],by dsimp only;omega,Y,?_,?_⟩,by dsimp only;omega,sl (hh:=⟨⟨_,rfl,.arrS hs1⟩,trivial⟩)⟩))
   ·dsimp only;rw[J,←ht,Bk,List.getElem?_set_self (by omega),List.take_set_of_le (by omega)];rfl
   ·dsimp only;rw[List.drop_set_of_lt (by omega),aa]
  ·have he:x=t.text:=by
    by_cases he:x=t.text
    ·exact he
    ·rw[ψ he] at hb;cases hb
   rw[ξ he] at J;exact aE (agN [] rfl ⟨(R,k,i+1),⟨A,by dsimp only;omega,Y,by dsimp only;rw[J,ht],aa⟩,by dsimp only;omega,sl⟩)
 have hge:i=l.length:=by have:=Af hb;omega
 subst hge;rw[Az] at ht;have hk:(dl t.text l).length=k:=by rw[←ht,Al];omega
 have r:(R.map bD).take k++List.replicate (l.length-k) [.str []]=aBk t.text l:=by
  unfold aBk;rw[hk,←ht,List.map_take]
 have htk:(aBk t.text l).take k=(dl t.text l).map bD:=by
  unfold aBk;rw[take_left' (by rw[χ,hk])]
 have aj:(aBk t.text l).length=l.length:=by
  unfold aBk;rw[ζ,χ,length_replicate,hk];omega
 refine aL (aA (AWp.cut (mk [(0,hsV 710 l.length),(5,I .i64 (k:Nat))] [(710,svA (aBk t.text l) 0)]) ?_ ?_))
 ·refine aC mixed (ak 2 [] rfl ?_);by_cases h0:k=0
  ·subst h0;refine k_ (g_ rfl rfl (aJ5 tok rfl rfl (eI rfl) (tg rfl) rfl (tg rfl) rfl rfl (by omega) (by omega) rfl (hh:=rfl) (hsz:=by rw[E,A]))) ?_;refine k_ (g_ rfl rfl (aCn (e:=9) (z:=.string ⟨#[]⟩) (zc:=.str []) rfl rfl (by kernel_rfl) (fun w=>by kernel_rfl) rfl rfl (fun S=>by rw[Rep]) (.inr ⟨rfl,rfl⟩) rfl (by rw[E,A]) (by omega) (by omega))) ?_;refine az ?_;rw[sub_zero] at r;exact sl (hh:=⟨⟨_,rfl,.arrS r⟩,trivial⟩)
  ·refine k_ (g_ rfl rfl (aM6 k tok rfl rfl (eI rfl) (tg rfl) rfl (tg rfl) rfl rfl (hh:=rfl) (hsz:=by rw[E,A]) (hlen:=rfl) (hy:=rfl) (hl:=⟨by omega,by omega⟩))) ?_;refine k_ (g_ rfl rfl (aCn (e:=9) (z:=.string ⟨#[]⟩) (zc:=.str []) rfl rfl (by kernel_rfl) (fun w=>by kernel_rfl) rfl rfl (fun S=>by rw[Rep]) (.inl rfl) rfl (by rw[E,A]) (by omega) (by omega))) ?_;exact az (sl (hh:=⟨⟨_,rfl,.arrS r⟩,trivial⟩))
 have hkd:k≤(aBk t.text l).length:=by omega
 refine AWp.sub (Sub.freeze (id:=710) rfl) ?_;refine AWp.sub (cv 0 (aBk t.text l) (h1:=aj.symm) (h2:=aj.symm)) ?_;refine sg rfl ?_;rw[htk];exact aD rtT
def hs7 (l:List Str):V:=.one (.hs 710 0 l.length l.length)
def sv7 (l:List Str):AObj:=.arr 9 1 (l.map bD) 0
theorem aHw (l:List Str) (s:Str) (h:l.length≤600000000000):b9 Tryz.prog 214 [.one (.hs 710 0 l.length l.length),Go.AM.T s] [(710,.arr 9 1 (l.map bD) 0)] (I .i64 (vW s l 0)) [(710,.arr 9 1 (l.map bD) 0)]:=by
 refine bM (n:=19) tok Tryz.func214 rfl rfl rfl ?_;refine sg rfl (aA (sg rfl ?_));have y:(l.map bD).length=l.length:=χ _;refine aF (aM (fun i:Nat=>mk [(0,.one (.hs 710 0 l.length l.length)),(1,Go.AM.T s),(7,I .i64 (l.length:Int)),(8,I .i64 i)] [(710,.arr 9 1 (l.map bD) 0)]) (fun i=>i≤l.length∧vW s l 0=vW s (l.drop i) i) (fun i=>l.length-i) 0 ⟨Ae _,rfl⟩ sl ?_);intro i ⟨hi,he⟩;refine sg rfl (aA (aB rfl (fun hb=>?_) (fun hb=>?_)))
 ·have c:i<l.length:=by have:=κ hb;omega
  obtain⟨x,hx⟩:=aP c;have A:=bG bD hx;have r:l.drop i=x::l.drop (i+1):=by rw[A8 c,(Ad.1 hx).2]
  rw[r,vW] at he;refine aE (aA (aF (sg rfl (sgh [(4,.row i (bD x))] rfl (aB rfl (fun hb=>?_) (fun hb=>?_))))))
  ·have hs:s=x:=κ hb;rw[ξ hs] at he;rw[he];exact sg rfl (aD rtT)
  ·have hs:¬s=x:=Af hb;rw[η hs] at he;exact aE (ag [] rfl ⟨i+1,⟨c,he⟩,by dsimp only;omega,sl⟩)
 ·have q:i=l.length:=by have:=Af hb;omega
  subst q;rw[Ck,vW] at he;rw[he];exact aL (sg rfl (aD rtT))
theorem wG (l:List Str) (s:Str) (h:l.length≤600000000000):b9 Tryz.prog 179 [.one (.hs 710 0 l.length l.length),Go.AM.T s] [(710,.arr 9 1 (l.map bD) 0)] (B (decide (s∈l))) [(710,.arr 9 1 (l.map bD) 0)]:=by
 have hi:=aHw l s h;refine bM (n:=9) tok Tryz.func179 rfl rfl rfl ?_;refine sg rfl (sk 2 rfl (kc hi ?_));refine kz 2 rfl ?_;rw[←r4 s l 0 (by omega)];exact aD rtT
def aMc (s:Sch):List AM.R:=[.hs 710 0 s.vars.length s.vars.length,.c .nl,.c (.sl 5 (s.preds.map aT)),.c (.int .i64 s.ty.form),.c (.int .i64 s.ty.n),.c (.str s.ty.name),.c (.sl 4 (cW s.ty))]
theorem aA1 (L:List Tk) (hZ:mT L) (R:List Tk) (i:Nat) (Y:At L i R) (hwt:wt L≤30000) {s:Sch}{R':List Tk}(hok:cZ R=.ok (s,R')):b9 Tryz.prog 185 [uX L,I .i64 (i:Nat)] [] (.tup [.ma (aMc s),I .i64 ((L.length-R'.length:Nat):Int),atV 0 0]) [(710,svA (s.vars.map bD) 0)]:=by
 have hp:=rJ L hZ R i Y;have ad:= @kJ R;have an:= @iQ R;unfold cZ at hok;refine bM (n:=74) tok Tryz.func185 rfl rfl rfl ?_;refine sg rfl (sk 2 rfl (kc hp ?_));generalize dL R=w at ad an hok ⊢;cases w with
 | error e=>
  obtain⟨e,p⟩:=e;rw[qI] at hok;cases hok
 | ok y=>
 obtain⟨ps,R1⟩:=y;obtain⟨k1,⟨q,k2,_⟩,k3,k4⟩:=ad rfl;obtain⟨ae,hn1⟩:=Y.to k2 (k1 Y.e);rw[qI] at hok;rw[lU,hn1];generalize i+q.length=j at ae;have hty:=yK L hZ R1 j ae;have af:=gO (3*R1.length+2) 0 R1;have hte:=eS (3*R1.length+2) 0 R1;have aa:wt R≤30000:=by
  have:L=L.take i++R:=by rw[←Y.d,take_append_drop]
  rw[this] at hwt;exact le_trans oX hwt
 have hwtR1:wt R1≤30000:=by rw[k2] at aa;exact le_trans oX aa
 have hRl:=Y.lt;have hLl:=Y.l;unfold atV;refine kz 8 rfl (aA (sg rfl (aB rfl (fun hb=>absurd hb (by decide)) (fun _=>aE (sk 2 rfl (kc hty ?_))))));generalize cL (3*R1.length+2) 0 R1=w at af hte hok ⊢;cases w with
 | error e=>
  obtain⟨e,p⟩:=e;rw[qH] at hok;cases hok
 | ok y=>
 obtain⟨x,R2⟩:=y;obtain⟨hT,hTn⟩:=af x R2 rfl;rw[qH] at hok;cases hok;rw[hY];unfold aMc;unfold atV;dsimp only;generalize ((L.length-R'.length:Nat):Int)=m;refine kz 8 rfl (aA (sg rfl (aB rfl (fun hb=>absurd hb (by decide)) (fun _=>aE (sg rfl ?_)))));have hsv:aM2 ps x=gP [] (ps++[(⟨[],x⟩:Prd)]):=by rw[vS];rfl
 rw[hsv];have J:∀p∈ps++[(⟨[],x⟩:Prd)],WF p.ty∧tn p.ty≤30000:=fun p hp=>by
  rcases Bi.1 hp with hp | hp
  ·exact⟨(k3 p hp).1,by have:=(k3 p hp).2;omega⟩
  ·rw[Aw.1 hp];exact⟨hT.w,by show tn x≤30000;omega⟩
 have hcl:=lD (ps.map aT) (by rw[χ];omega);have hkl:(ps.map aT).length=ps.length:=χ _;have U:ps.map aT++[[.str [],.int .i64 x.form,.int .i64 x.n,.str x.name,.sl 4 (cW x)]]=(ps++[(⟨[],x⟩:Prd)]).map aT:=by rw[Am];rfl
 have ah:(ps++[(⟨[],x⟩:Prd)]).length=ps.length+1:=by rw[ζ];rfl
 generalize ps++[(⟨[],x⟩:Prd)]=A at J U ah ⊢;have hqe:(A.map aT).length=A.length:=χ _;refine aA (sk 1 rfl (kc hcl ?_));refine ak 6 [(4,.all),(5,.fz)] rfl (az (AWp.sub (Sub.own (t:=10) (id:=710) 9 1 rfl rfl) ?_));have E:∀r:List C,(ps.map aT).length+[r].length=A.length:=fun r=>by rw[hkl,ah];rfl
 refine aF (aM (fun k:Nat=>mk [(1,I .i64 m),(4,.one (.vp 4 0)),(6,.one (.vp 6 0)),(7,.one (.c (.sl 5 (ps.map aT)))),(9,.one (.vp 9 0)),(10,hs7 (gP [] (A.take k))),(44,.one (.hs 720 0 A.length A.length)),(45,I .i64 (A.length:Nat)),(46,I .i64 (k:Nat))] [(4,.var 59 aF1),(6,.var 32 [.c (.int .i64 0),.c (.int .i64 0)]),(9,.var 47 ((bT x).map .c)),(710,sv7 (gP [] (A.take k))),(720,.arr 113 5 (A.map aT) 2)]) (fun k=>k≤A.length) (fun k=>A.length-k) 0 (Ae _) (sl (he:=⟨rfl,rfl,rfl,rfl,rfl,rfl,Go.AM.hs_ren (E _) (E _),Go.AM.int_eq (congrArg Int.ofNat (E _)),rfl,trivial⟩) (hh:=⟨⟨_,rfl,.var rfl⟩,⟨_,rfl,.var rfl⟩,⟨_,rfl,.var rfl⟩,⟨_,rfl,.arrS rfl⟩,⟨_,rfl,.arrS U⟩,trivial⟩)) ?_);intro k hk;have hgl:(gP [] (A.take k)).length≤4002*30000:=by
  have h1:=y3 (W:=30000) (A.take k) [] (fun p hp=>(J p (B3 hp)).2);rw[Al,length_nil] at h1;have:min k A.length*30000≤4002*30000:=Au _ (by omega);omega
 refine sg rfl (aA (aB rfl (fun hb=>?_) (fun hb=>?_)))
 ·have ai:k<A.length:=by have:=κ hb;omega
  obtain⟨p,hp⟩:=aP ai;have hp':=bG aT hp;have hpm:=J p (Ag hp);have aj:=yO p.ty (by have:=aN7 p.ty;omega);have htf:=oZ p.ty;have ab:=aDp hp;generalize gP [] (A.take k)=o at hgl ab ⊢;generalize tfR p.ty=l at aj htf ab ⊢;have al:(l.map bD).length=l.length:=χ _;refine aE (aA (aF (sgh [(1,.row k (aT p))] rfl (sk 2 rfl (kc aj ?_)))));refine kz 2 rfl (aF (aM (fun j:Nat=>mk [(1,I .i64 m),(4,.one (.vp 4 0)),(6,.one (.vp 6 0)),(7,.one (.c (.sl 5 (ps.map aT)))),(9,.one (.vp 9 0)),(10,hs7 (mM o (l.take j))),(44,.one (.hs 720 0 A.length A.length)),(45,I .i64 (A.length:Nat)),(46,I .i64 (k:Nat)),(52,dH l),(53,I .i64 ((l.map bD).length:Nat)),(54,I .i64 (j:Nat))] [(4,.var 59 aF1),(6,.var 32 [.c (.int .i64 0),.c (.int .i64 0)]),(9,.var 47 ((bT x).map .c)),(710,sv7 (mM o (l.take j))),(720,.arr 113 5 (A.map aT) 2)]) (fun j=>j≤l.length) (fun j=>l.length-j) 0 (Ae _) sl ?_));intro j hj;refine sg rfl (aA (aB rfl (fun hb=>?_) (fun hb=>?_)))
  ·have O:=ltD hb al;obtain⟨s,hs⟩:=aP O;have hs':=bG bD hs;have B:mM o (l.take (j+1))=aC5 (mM o (l.take j)) s:=by rw[Bk,hs,xU];rfl
   have hml:(mM o (l.take j)).length≤1000000000:=by
    have:=kO (l.take j) o;rw[Al] at this;omega
   have am:=wG (mM o (l.take j)) s (by omega);generalize mM o (l.take j)=M at B hml am ⊢;have hml':(M.map bD).length=M.length:=χ _;refine aE (aA (aF (sgh [(0,.row j (bD s))] rfl (sk 2 rfl (kc am ?_)))));refine kz 1 rfl (aB rfl (fun hb=>?_) (fun hb=>?_))
   ·have hm:¬s∈M:=fun h=>by rw[φ h] at hb;cases hb
    unfold aC5 at B;rw[η hm] at B;refine ag [(2,.all)] rfl (ag [] rfl ⟨j+1,O,by dsimp only;omega,?_⟩);dsimp only;rw[B];exact sl
   ·have hm:s∈M:=by
     by_cases h:s∈M
     ·exact h
     ·rw[ψ h] at hb;cases hb
    unfold aC5 at B;rw[ξ hm] at B;refine aE (ag [] rfl ⟨j+1,O,by dsimp only;omega,?_⟩);dsimp only;rw[B];exact sl
  ·have ac:=geD hb al hj;subst ac;rw[Az];refine aL (ag [] rfl ⟨k+1,ai,by dsimp only;omega,?_⟩);dsimp only;rw[ab];exact sl
 ·have ac:k=A.length:=by have:=Af hb;omega
  subst ac;rw[Az];exact aL (sg rfl (aD gS))
theorem aHn (s:Str):b9 Tryz.prog 111 [Go.AM.T s] [] (tyV (.mk 2 0 s [])) []:=by
 refine bM (n:=5) tok Tryz.func111 rfl rfl rfl ?_;exact sg rfl (sg rfl (aD (rtC trw)))
theorem wD {L:List Tk}{z:Z}(h:ZA L z) (hZ:mT L) (hwt:wt L≤30000) {s:Sch}{R':List Tk}(hok:cZ z.R=.ok (s,R')):b9 Tryz.prog 144 [rP] [(600,rO L z)] (.ma (aMc s)) [(600,rO L ⟨R',z.e,z.p⟩),(710,sv7 s.vars)]:=by
 have c:=aA1 L hZ z.R _ h hwt hok;have hm:=b7 0 0;unfold atV aMc at c;unfold aMc;refine bM (n:=35) tok Tryz.func144 rfl rfl rfl ?_;refine sg rfl (sk 10 rfl (kc c ?_));refine kz 9 rfl (sk 7 rfl (kc hm ?_));exact az (sg rfl (sg rfl (aD (rtC trw))))
def aAo (nm v:Tk) (sup:List Str) (ms:List Sg):List (Nat×AObj):=[(1,pR),(6,.var 90 [.c (.str nm.text),.c (.int .i64 nm.pl),.c (.str v.text),.c .nl,.c (.sl 1 (sup.map bD)),.hs 530 0 ms.length ms.length]),(530,.arr 92 9 (ms.map fF) 0)]
def clS (nm v:Tk) (s:List Sg) (z:Z):List Sg×Z:=(s++[(mX nm.text v.text z).1],cN (s++[(mX nm.text v.text z).1]).length 16 nm.pl (mX nm.text v.text z).2)
theorem aO0 {L:List Tk}(hZ:mT L) (hwt:wt L≤30000) (q v:Tk) (sup:List Str) (ms:List Sg) {z:Z}(h:ZA L z) (he:z.e=0) (h2:ms.length≤4001):
  aY Tryz.prog 143 ([]++[R.vp 1 0,R.c (.pt (aJ v)),R.vp 6 0,R.c (.pt (aJ q))].map V.one) ((600,rO L z)::aAo q v sup ms) (eF L (.tup []) (clS q v ms z).2 (aAo q v sup (clS q v ms z).1)):=by
 have hmk:(ms.map fF).length=ms.length:=χ _;unfold clS mX;dsimp only;have hw:=fH h he 1 (by decide);have g1:=h.word (k:=1) (by decide);generalize aV 1 z=w at hw g1 ⊢;obtain⟨B,z1⟩:=w;dsimp only at hw g1 ⊢;refine kT (n:=50) tok Tryz.func143 rfl rfl rfl rfl ?_;by_cases A:z1.e=0
 case neg=>
  have hp:=aY.err hw A;rw[b5 A,pU A];dsimp only;rw[cX A,aG A];exact sk 1 rfl (kp hp)
 have hw:=aY.ok hw A;refine sk 1 rfl (kc hw ?_);refine ak 2 [(2,.id 41)] rfl (az ?_);have E:=cE g1 A fV;have g2:=g1.need fV;generalize aR fV z1=z2 at E g2 ⊢;by_cases r:z2.e=0
 case neg=>
  have hp:=aY.err E r;rw[pU r];dsimp only;rw[cX r,aG r];exact sk 1 rfl (kp hp)
 have E:=aY.ok E r;refine sk 1 rfl (kc E ?_);refine az ?_;have I:=jC g2 r hZ hwt;have O:= @wD L z2 g2 hZ hwt;have J:=gA g2 hwt;unfold bN at I J ⊢;rw[ξ r] at I J;simp only[ξ r];cases U:cZ z2.R with
 | error e=>
  obtain⟨e,p⟩:=e;rw[U] at I;have aa:=qG U;dsimp only[aM1] at I ⊢;have hp:=aY.err (z:=⟨z2.R,e,p⟩) I aa;rw[cX (show ¬(Z.mk z2.R e p).e=0 from aa),aG (show ¬(Z.mk z2.R e p).e=0 from aa)];exact sk 1 rfl (kp hp)
 | ok y=>
 obtain⟨s,R'⟩:=y;rw[U] at J;have O:=O U;dsimp only[aM1] at J ⊢;obtain⟨k1,k2,_,_⟩:=J;unfold aMc sv7 at O;have ab:=aEq s.vars (by have:=k2.v;omega) v;unfold svA at ab;have htv:b9 Tryz.prog 111 [Go.AM.T v.text] [] (.pa [.int .i64 2,.int .i64 0,.str v.text,.sl 4 []]) []:=aHn v.text;have hq1:((dl v.text s.vars).map bD).length=(dl v.text s.vars).length:=χ _;have hq2:=aQ7 v.text s.vars;have hq3:=k2.v;have hq4:(s.preds.map aT).length=s.preds.length:=χ _;have hq5:=k2.l;refine sk 1 rfl (kc O ?_);refine ak 2 [(2,.id 42)] rfl (az (skh 6 [(2,.id 540)] rfl (kc ab ?_)));refine kz 3 rfl (sk 4 rfl (kc htv ?_));refine ak 7 [(6,.id 541)] rfl (az (AWp.sub (Sub.freeze (id:=540) rfl) ?_));refine AWp.sub (Sub.freeze (id:=541) rfl) ?_;have hv1:[[C.str v.text]]++(dl v.text s.vars).map bD=(oK q.text v.text s).vars.map bD:=rfl;have hv2:[[C.str q.text,.int .i64 2,.int .i64 0,.str v.text,.sl 4 []]]++s.preds.map aT=(oK q.text v.text s).preds.map aT:=rfl;refine AWp.sub (vp 42 (kV (oK q.text v.text s)) (hp:=.hs rfl (by rw[ζ]) (hv1.symm.trans (Go.AM.take_all (by rw[ζ]))) (.c .nl (.hs rfl (by rw[ζ]) (hv2.symm.trans (Go.AM.take_all (by rw[ζ]))) (.c .refl (.c .refl (.c .refl (.c .refl .nil)))))))) ?_;have Y:ms.map fF++[fF ⟨B.text,B.pl,oK q.text v.text s⟩]=(ms++[(⟨B.text,B.pl,oK q.text v.text s⟩:Sg)]).map fF:=by rw[Am];rfl
 have hle:(ms++[(⟨B.text,B.pl,oK q.text v.text s⟩:Sg)]).length=ms.length+1:=by rw[ζ];rfl
 refine sgh [(8,.all)] rfl ?_;generalize ms++[(⟨B.text,B.pl,oK q.text v.text s⟩:Sg)]=M at Y hle ⊢;refine AWp.sub (st2:=mk [(0,.one (.vp 1 0)),(1,.one (.c (.pt (aJ v)))),(2,.one (.vp 6 0)),(3,.one (.c (.pt (aJ q))))] ((600,rO L ⟨R',z2.e,z2.p⟩)::aAo q v sup M)) (sl (hh:=⟨⟨_,rfl,.var rfl⟩,⟨_,rfl,.var rfl⟩,⟨_,rfl,.var (by rw[hle,←hmk];rfl)⟩,⟨_,rfl,.arrS Y⟩,trivial⟩)) ?_;by_cases hM:M.length≤16
 case neg=>
  have d:decide (((M.length:Nat):Int)≤16)=false:=ψ (by omega);have hm:=bB 2 q.pl;rw[eC hM (show(Z.mk R' z2.e z2.p).e=0 from r),aG c0];refine aC mixed (ak 6 [] rfl ?_);rw[d];exact kp hm
 have d:decide (((M.length:Nat):Int)≤16)=true:=φ (by omega);have hm:=b7 2 q.pl;rw[eB hM,aW (show(Z.mk R' z2.e z2.p).e=0 from r)];refine aC mixed (ak 6 [] rfl ?_);rw[d];refine kc hm ?_;exact az rtN
theorem qY (c v:Tk):∀(f n:Nat) (out:List Sg) (z:Z),iB c.text v.text c.pl f n out z=lpZ bE (clS c v) f n out z
 | 0,_,_,_=>rfl
 | f+1,n,out,z=>by
  rw[iB,lpZ];split
  ·exact qY c v f _ _ _
  ·rfl
theorem pT {v:Str}{a:Int}{l:List Prd}{out:List Str}{z:Z}(h:¬z.e=0):(cO v a l out z).2=z:=by
 cases l with
 | nil=>rfl
 | cons p l=>rw[cO,η h]
theorem jY {y:List Prd×Tk×Tk×Z}(h:¬y.2.2.2.e=0):aR bE (tR y (mQ y)).2=y.2.2.2:=by
 have h1:(mQ y).2=y.2.2.2:=by unfold mQ;dsimp only;rw[pT h];exact b5 h
 unfold tR;rw[qY,eJ (by rw[h1];exact h),h1];exact b5 h
theorem aLc (E v:Tk) (sup:List Str) {step:(List Sg)→Z→(List Sg)×Z}{Inv:Nat→(List Sg)→Prop}{L:List Tk}{N:Nat}
  (hone:∀n s z,Inv n s→n<60→ZA L z→z.e=0→z.R.length≤N→aY Tryz.prog 143 ([]++[R.vp 1 0,R.c (.pt (aJ v)),R.vp 6 0,R.c (.pt (aJ E))].map V.one) ((600,rO L z)::aAo E v sup s) (eF L (.tup []) (step s z).2 (aAo E v sup (step s z).1)))
  (hst:∀n s z,Inv n s→n<60→ZA L z→z.e=0→ZA L (step s z).2∧Inv (n+1) (step s z).1∧((step s z).2.e=0→(step s z).2.R.length<z.R.length)∧Ze z (step s z).2)
  {z:Z} (h:ZA L z) (he:z.e=0) (hN:z.R.length≤N) {s:(List Sg)} (hI:Inv 0 s):
  aY Tryz.prog 83 [rP,.one (.clo 184 [R.vp 2 0]),.one (.clo 143 [R.vp 1 0,R.c (.pt (aJ v)),R.vp 6 0,R.c (.pt (aJ E))])] ((600,rO L z)::(2,pR)::aAo E v sup s) (eF L (.tup []) (lpZ bE step (z.R.length+1) 0 s z).2 ((2,pR)::aAo E v sup (lpZ bE step (z.R.length+1) 0 s z).1)):=by
 have r:∃W,W=lpZ bE step (z.R.length+1) 0 s z:=⟨_,rfl⟩
 obtain⟨W,r⟩:=r;rw[←r];refine kT (n:=35) tok Tryz.func83 rfl rfl rfl rfl ?_;refine sg rfl (aF (aM (fun q:Nat×(List Sg)×Z×Nat=>mk [(0,rP),(1,.one (.clo 184 [R.vp 2 0])),(2,.one (.clo 143 [R.vp 1 0,R.c (.pt (aJ v)),R.vp 6 0,R.c (.pt (aJ E))])),(6,I .i64 (q.1:Nat))] ((600,rO L q.2.2.1)::(2,pR)::aAo E v sup q.2.1)) (fun q=>Inv q.1 q.2.1∧q.1≤60∧ZA L q.2.2.1∧q.2.2.1.e=0∧q.2.2.1.R.length≤N∧q.2.2.1.R.length<q.2.2.2∧moreA bE q.1 q.2.2.1=q.2.2.1∧W=lpZ bE step q.2.2.2 q.1 q.2.1 q.2.2.1) (fun q=>q.2.2.1.R.length) (0,s,z,z.R.length+1) ⟨hI,Ae _,h,he,hN,lt_succ_self _,nV _ _,r⟩ sl ?_));clear r h he hN hI;rintro⟨n,s,z,f⟩ ⟨hI,hn,h,he,hN,hf,hA,r⟩;dsimp only at hI hn h he hN hf hA r;refine aF (aA (aF (aM (fun y:Z=>mk [(0,rP),(1,.one (.clo 184 [R.vp 2 0])),(2,.one (.clo 143 [R.vp 1 0,R.c (.pt (aJ v)),R.vp 6 0,R.c (.pt (aJ E))])),(6,I .i64 (n:Nat))] ((600,rO L y)::(2,pR)::aAo E v sup s)) (fun y=>ZA L y∧y.e=0∧cU z=cU y∧y.R.length≤z.R.length) (fun y=>y.R.length) z ⟨h,he,rfl,le_refl _⟩ sl ?_)));rintro y ⟨h2,B,e2,hle2⟩

 have hm:=dQ h2 B cA;obtain⟨m1,m2,m3⟩:=kP h2;have U:=h2.may cA;have he3:=(fL cA y).trans B;generalize bV cA y=m at hm m1 m2 m3 U he3;obtain⟨b,z3⟩:=m;dsimp only at m1 m2 m3 U he3;refine aA (sk 1 rfl (kc hm ?_));refine az (aB rfl (fun hb=>?_) (fun hb=>?_))
 ·have hb:b=true:=hb;have:=m3 hb;exact aE (aF (aE ⟨z3,⟨U,he3,e2.trans m1.symm,by omega⟩,m3 hb,sl⟩))
 have hb:b=false:=hb;obtain⟨g1,g2⟩:=m2 hb;subst g1;have e3:cU z=z3:=e2.trans g2;clear m1 m2 m3 U e2 hm;have hf0:∃g,f=g+1:=⟨f-1,by omega⟩
 obtain⟨f,rfl⟩:=hf0;rw[lpZ] at r;unfold bI at r;rw[hA,e3] at r;have hs3:=mS h2;have hn3:=cT h2;refine aL (aA (sk 1 rfl (kv (args:=[]) hs3 ?_)));refine az (aB rfl (fun hb=>?_) (fun hb=>?_))
 ·have hb:cY bE z3=true:=hb;rw[ξ (show ¬z3.e=0∨cY bE z3=true from .inr hb)] at r;rw[η π] at r;rw[r,aW B];exact aD rtN
 have hb:cY bE z3=false:=hb;have hnb:¬(¬z3.e=0∨cY bE z3=true):=fun k=>k.elim (fun k=>k B) fun k=>by rw[hb] at k;cases k
 rw[η hnb] at r;refine aE ?_;by_cases hn60:n<60
 case neg=>
  have d:decide (((n:Nat):Int)<60)=false:=ψ (by omega);rw[eC (by omega) B] at r;dsimp only at r;rw[ψ c0,η π] at r;rw[r,aG c0];have hmn:=bB 2 (aX z3).pl;refine sk 5 rfl (kc hn3 ?_);refine ak 1 [] rfl ?_;rw[d];exact kp hmn
 have d:decide (((n:Nat):Int)<60)=true:=φ (by omega);rw[eB (by omega),φ B,ξ rfl] at r;have hmo:=b7 2 (aX z3).pl;refine sk 5 rfl (kc hn3 ?_);refine ak 1 [] rfl ?_;rw[d];refine kc hmo ?_;refine az ?_;have ho:=hone n s z3 hI hn60 h2 B (by omega);obtain⟨J,k2,k3,_⟩:=hst n s z3 hI hn60 h2 B;generalize step s z3=y at ho J k2 k3 r;obtain⟨s4,z4⟩:=y;dsimp only at ho J k2 k3 r;by_cases A:z4.e=0
 case neg=>
  have hp:=aY.err ho A;rw[eJ A] at r;rw[r,aG A];exact sk 1 rfl (kpv (args:=[]) hp)
 have ho:=aY.ok ho A;have k3:=k3 A;refine sk 1 rfl (kv (args:=[]) ho ?_);refine az (aA (agN [] rfl ?_));have hlp:=J.lp;have M:=jO J cA;have hn4:=cT J;have Y:=mS J;have hmo4:=b7 12 (aX z4).pl;cases aa:isZ cA z4 with
 | true=>
  rw[aa] at M;have O:moreA bE (n+1) z4=z4:=η fun k=>by rw[aa] at k;cases k.2.2.1
  refine aC mixed (ak 1 [] rfl (kc M ?_));refine ak 7 [(2,.bv true),(5,.bv true)] rfl (kc hn4 ?_);refine ak 1 [(2,.bv true),(5,.bv true)] rfl (kc hmo4 ?_);exact az ⟨(n+1,s4,z4,f),⟨k2,by omega,J,A,by dsimp only;omega,by dsimp only;omega,O,r⟩,by dsimp only;omega,sl⟩
 | false=>
  rw[aa] at M;cases ab:cY bE z4 with
  | true=>
   rw[ab] at Y;have O:moreA bE (n+1) z4=z4:=η fun k=>by rw[ab] at k;cases k.2.2.2
   refine aC mixed (ak 1 [] rfl (kc M ?_));refine ak 2 [(2,.bv false)] rfl (kvG (args:=[]) Y ?_);refine ak 4 [(2,.bv false),(5,.bv false)] rfl (kc hn4 ?_);refine ak 1 [(2,.bv false),(5,.bv false)] rfl (kc hmo4 ?_);exact az ⟨(n+1,s4,z4,f),⟨k2,by omega,J,A,by dsimp only;omega,by dsimp only;omega,O,r⟩,by dsimp only;omega,sl⟩
  | false=>
   rw[ab] at Y;have hmn4:=bB 12 (aX z4).pl;have O:moreA bE (n+1) z4=⟨z4.R,12,(aX z4).pl⟩:=(ξ ⟨succ_pos n,A,aa,ab⟩).trans (ξ A);have h12:¬(12:Int)=0:=by decide
   have hWb:W.2=⟨z4.R,12,(aX z4).pl⟩:=by
    obtain⟨f,rfl⟩:∃g,f=g+1:=⟨f-1,by omega⟩
    rw[lpZ] at r;unfold bI at r;rw[O,jF h12,ξ (show ¬(Z.mk z4.R 12 (aX z4).pl).e=0∨_ from .inl h12),η π] at r;rw[r]
   rw[hWb,aG h12];refine aC mixed (ak 1 [] rfl (kc M ?_));refine ak 2 [(2,.bv false)] rfl (kvG (args:=[]) Y ?_);refine ak 4 [(2,.bv false),(5,.bv false)] rfl (kc hn4 ?_);refine ak 1 [(2,.bv false),(5,.bv false)] rfl (kpD (.tup []) [] hmn4 ?_);exact az trivial
theorem aH1 (B v:Tk) (sup:List Str) {step:(List Sg)→Z→(List Sg)×Z}{Inv:Nat→(List Sg)→Prop}{L:List Tk}{N:Nat}
  (M:∀n s z,Inv n s→n<60→ZA L z→z.e=0→z.R.length≤N→aY Tryz.prog 143 ([]++[R.vp 1 0,R.c (.pt (aJ v)),R.vp 6 0,R.c (.pt (aJ B))].map V.one) ((600,rO L z)::aAo B v sup s) (eF L (.tup []) (step s z).2 (aAo B v sup (step s z).1)))
  (J:∀n s z,Inv n s→n<60→ZA L z→z.e=0→ZA L (step s z).2∧Inv (n+1) (step s z).1∧((step s z).2.e=0→(step s z).2.R.length<z.R.length)∧Ze z (step s z).2)
  {z:Z} (h:ZA L z) (he:z.e=0) (hN:z.R.length≤N) {s:(List Sg)} (O:Inv 0 s):
  aY Tryz.prog 142 [rP,.one (.clo 143 [R.vp 1 0,R.c (.pt (aJ v)),R.vp 6 0,R.c (.pt (aJ B))])] ((600,rO L z)::aAo B v sup s) (eF L (.tup []) (rW step s z).2 (aAo B v sup (rW step s z).1)):=by
 have q:=cE h he dZ;have h1:=h.need dZ;have U:=Ze.need dZ z;unfold rW;generalize aR dZ z=I at q h1 U ⊢;have Y:I.R.length≤z.R.length:=U;refine kT (n:=12) tok Tryz.func142 rfl rfl rfl rfl ?_;refine sg rfl ?_;by_cases r:I.e=0
 case neg=>
  have hp:=aY.err q r;rw[eJ r];dsimp only;rw[b5 r,aG r];exact sk 1 rfl (kp hp)
 have q:=aY.ok q r;refine sk 1 rfl (kc q ?_);refine az ?_;have y:=aLc B v sup (step:=step) (Inv:=Inv) (L:=L) (N:=N) M J h1 r (by omega) O;have hok:=(qZ (sh:=bE) J (I.R.length+1) 0 s I (Ae _) O h1).1
 generalize lpZ bE step (I.R.length+1) 0 s I=W at y hok ⊢;obtain⟨s2,z2⟩:=W;dsimp only at y hok ⊢;by_cases A:z2.e=0
 case neg=>
  have hp:=aY.err y A;rw[b5 A,aG A];exact sk 3 rfl (kp hp)
 have y:=aY.ok y A;refine sk 3 rfl (kc y ?_);refine az ?_;have q:=cE hok A bE;generalize aR bE z2=z3 at q ⊢;by_cases E:z3.e=0
 case neg=>
  have hp:=aY.err q E;rw[aG E];exact aC mixed (ak 1 [] rfl (kp hp))
 have q:=aY.ok q E;rw[aW E];refine aC mixed (ak 1 [] rfl (kc q ?_));exact az rtN
def aRz (L:List Tk) (z:Z) (nm v:Tk) (sup:List Str):List (Nat×AObj):=[(600,rO L z),(1,pR),(2,.var 90 [.c (.str []),.c (.int .i64 0),.c (.str []),.c .nl,.c .nl,.c .nl]),(4,.var 139 ((aJ nm).map .c)),(5,.var 139 ((aJ v).map .c)),(6,.var 90 [.c (.str nm.text),.c (.int .i64 nm.pl),.c (.str v.text),.c .nl,.hs 531 0 sup.length sup.length,.c .nl]),(531,svA (sup.map bD) 0)]
theorem aHz {L:List Tk}(hZ:mT L) (hwt:wt L≤30000) {z:Z}(h:ZA L z) (he:z.e=0):aY Tryz.prog 88 [rP] [(600,rO L z)] (eF L (.pa (oM (gF z).1)) (gF z).2 []):=by
 unfold gF;have hA:gH z=((bL z).1,(aV 2 (bL z).2).1,(aV 1 (aV 2 (bL z).2).2).1,(aV 1 (aV 2 (bL z).2).2).2):=rfl;rw[hA];have hp:=tZ h he hZ;obtain⟨h1,ac,l1⟩:=kK h hwt;generalize bL z=y at hp h1 ac l1 ⊢;obtain⟨ps,z1⟩:=y;dsimp only at hp h1 ac l1 ⊢;refine kT (n:=55) tok Tryz.func88 rfl rfl rfl rfl ?_;refine sg rfl ?_;by_cases E:z1.e=0
 case neg=>
  have hp:=aY.err hp E;have O:(aV 1 (aV 2 z1).2).2=z1:=by rw[jE E];exact jE E
  rw[jY (by dsimp only;rw[O];exact E)];dsimp only;rw[O,aG E];exact sk 1 rfl (kp hp)
 have hp:=aY.ok hp E;refine sk 1 rfl (kc hp ?_);refine kz 1 rfl ?_;have hw:=fH h1 E 2 (by decide);have h2:=h1.word (k:=2) (by decide);generalize aV 2 z1=y at hw h2 ⊢;obtain⟨r,z2⟩:=y;dsimp only at hw h2 ⊢;by_cases M:z2.e=0
 case neg=>
  have hp:=aY.err hw M;have O:(aV 1 z2).2=z2:=jE M;rw[jY (by dsimp only;rw[O];exact M)];dsimp only;rw[O,aG M];exact sk 1 rfl (kp hp)
 have hw:=aY.ok hw M;refine sk 1 rfl (kc hw ?_);refine kz 2 rfl ?_;have hw:=fH h2 M 1 (by decide);have h3:=h2.word (k:=1) (by decide);generalize aV 1 z2=y at hw h3 ⊢;obtain⟨v,z3⟩:=y;dsimp only at hw h3 ⊢;by_cases J:z3.e=0
 case neg=>
  have hp:=aY.err hw J;rw[jY (by exact J)];dsimp only;rw[aG J];exact sk 1 rfl (kp hp)
 have hw:=aY.ok hw J;refine sk 1 rfl (kc hw ?_);refine kz 2 rfl (sg rfl ?_);have hpk:(ps.map aT).length=ps.length:=χ _;have A:∃F,F=cO v.text r.pl ps [] z3:=⟨_,rfl⟩
 obtain⟨F,A⟩:=A;have hB:mQ (ps,r,v,z3)=(F.1,aR dZ F.2):=by rw[A];rfl
 rw[hB];have hC:∀w:List Str×Z,tR (ps,r,v,z3) w=lpZ bE (clS r v) (w.2.R.length+1) 0 [] w.2:=fun w=>qY r v _ _ _ _
 rw[hC];dsimp only;refine aA (sg rfl (AWp.sub (Sub.ownCell (x:=6) (k:=4) (id:=531) 9 1 rfl rfl rfl) ?_));refine aF (aM (fun q:Nat×List Str=>mk [(1,.one (.vp 1 0)),(2,.one (.vp 2 0)),(4,.one (.vp 4 0)),(5,.one (.vp 5 0)),(6,.one (.vp 6 0)),(22,.one (.c (.sl 5 (ps.map aT)))),(23,I .i64 ((ps.map aT).length:Nat)),(24,I .i64 (q.1:Nat))] (aRz L z3 r v q.2)) (fun q=>q.1≤ps.length∧q.2.length=q.1∧F=cO v.text r.pl (ps.drop q.1) q.2 z3) (fun q=>ps.length-q.1) (0,[]) ⟨Ae _,rfl,A⟩ sl ?_);clear A hB hC hw hp hA;rintro⟨i,sup⟩ ⟨hi,hsl,A⟩;dsimp only at hi hsl A ⊢;have ad:(sup.map bD).length=sup.length:=χ _;refine sg rfl (aA (aB rfl (fun hb=>?_) (fun hb=>?_)))
 ·have hlt:=ltD hb hpk;obtain⟨p,hpi⟩:=aP hlt;have hpi':=bG aT hpi;have hds:ps.drop i=p::ps.drop (i+1):=by
   obtain⟨k1,k2⟩:=Ad.1 hpi;rw[←k2];exact A8 k1
  rw[hds,cO,ξ J] at A;refine aE (aA (aF (sgh [(0,.row i (aT p))] rfl ?_)));have ae:¬(p.ty.form=2∧p.ty.name=v.text)→aR bE (lpZ bE (clS r v) ((aR dZ F.2).R.length+1) 0 [] (aR dZ F.2)).2=⟨z3.R,12,r.pl⟩:=fun hn=>by
   have h12:¬(12:Int)=0:=by decide
   have O:F.2=⟨z3.R,12,r.pl⟩:=by
    rw[η hn] at A;unfold bY at A;rw[ξ J] at A;rw[A,pT h12]
   have U:¬(Z.mk z3.R 12 r.pl).e=0:=h12;rw[O,b5 U,eJ U];exact b5 U
  have hmn:=bB 12 r.pl;by_cases Y:p.ty.form=2
  case neg=>
   have d:decide (p.ty.form=2)=false:=ψ Y;rw[ae (fun k=>Y k.1),aG (show ¬(12:Int)=0 by decide)];exact skh 14 [(4,.bv false),(11,.bv false)] rfl (kp hmn)
  have d:decide (p.ty.form=2)=true:=φ Y;by_cases aa:p.ty.name=v.text
  case neg=>
   have d2:decide (p.ty.name=v.text)=false:=ψ aa;rw[ae (fun k=>aa k.2),aG (show ¬(12:Int)=0 by decide)];refine skh 14 [(4,.bv true),(11,.bv true)] rfl ?_;rw[d2];exact kp hmn
  have d2:decide (p.ty.name=v.text)=true:=φ aa;have hmo:=b7 12 r.pl;rw[ξ ⟨Y,aa⟩] at A;refine skh 14 [(4,.bv true),(11,.bv true)] rfl ?_;rw[d2];refine kc hmo ?_;refine az ?_;have hrows:sup.map bD++[[.str p.cls]]=(sup++[p.cls]).map bD:=by rw[Am];rfl
  have hle:(sup++[p.cls]).length=sup.length+1:=by rw[ζ];rfl
  have hpl1:=ac.1;exact ag [(4,.all)] rfl (agN [] rfl ⟨(i+1,sup++[p.cls]),⟨hlt,by dsimp only;rw[hle,hsl],A⟩,by dsimp only;omega,sl (hh:=⟨⟨_,rfl,.var rfl⟩,⟨_,rfl,.var rfl⟩,⟨_,rfl,.var rfl⟩,⟨_,rfl,.var rfl⟩,⟨_,rfl,.var rfl⟩,⟨_,rfl,.var (by rw[hle,←ad];rfl)⟩,⟨_,rfl,.arrS hrows⟩,trivial⟩)⟩)
 have hge:=geD hb hpk hi;rw[hge,Ck,cO] at A;subst A;dsimp only;refine aL (AWp.sub (Sub.freeze (id:=531) rfl) ?_);refine AWp.sub (vp 6 [.str r.text,.int .i64 r.pl,.str v.text,.nl,.sl 1 (sup.map bD),.nl] (hp:=.c .refl (.c .refl (.c .refl (.c .refl (.hs rfl ad.symm (Go.AM.take_all ad.symm) (.c .refl .nil))))))) ?_;refine AWp.sub (Sub.ownCell (x:=6) (k:=5) (id:=530) 92 9 rfl rfl rfl) ?_;refine AWp.sub (Sub.fvar (id:=4) (l:=aJ r) rfl (by simp[keys])) ?_;refine AWp.sub (Sub.fvar (id:=5) (l:=aJ v) rfl (by simp[keys])) ?_;have hst:∀(n:Nat) (s:List Sg) (z:Z),s.length=n→n<60→ZA L z→z.e=0→ZA L (clS r v s z).2∧(clS r v s z).1.length=n+1∧((clS r v s z).2.e=0→(clS r v s z).2.R.length<z.R.length)∧Ze z (clS r v s z).2:=fun n s z hI hn h he=>by
  have k1:=(h.word (k:=1) (by decide)).need fV;obtain⟨g1,_,g3,g4⟩:=gA k1 hwt;have l1:(aV 1 z).2.R.length≤z.R.length:=Ze.word 1 z;have l2:(aR fV (aV 1 z).2).R.length≤(aV 1 z).2.R.length:=Ze.need _ _;have g4':(bN (aR fV (aV 1 z).2)).2.R.length≤(aR fV (aV 1 z).2).R.length:=g4;unfold clS mX;dsimp only;refine⟨g1.long _ _ _,by rw[ζ,hI];rfl,fun h0=>?_,(((Ze.word 1 z).trans (Ze.need _ _)).trans g4).trans (Ze.long _ _ _ _)⟩;by_cases hs:(bN (aR fV (aV 1 z).2)).2.e=0
  ·have:=g3 hs;have l3:=Ze.long (s++[(⟨(aV 1 z).1.text,(aV 1 z).1.pl,oK r.text v.text (bN (aR fV (aV 1 z).2)).1⟩:Sg)]).length 16 r.pl (bN (aR fV (aV 1 z).2)).2;unfold Ze at l3;omega
  ·rw[cX hs] at h0;exact absurd h0 hs
 have hI0:([]:List Sg).length=0:=rfl;have B:=aH1 r v sup (step:=clS r v) (Inv:=fun n s=>s.length=n) (L:=L) (N:=z3.R.length) (fun n s z hI hn h he hN=>aO0 hZ hwt r v sup s h he (by omega)) hst h3 J (le_refl _) (s:=[]) hI0;unfold rW at B;dsimp only at B;generalize aR dZ z3=z7 at B ⊢;generalize lpZ bE (clS r v) (z7.R.length+1) 0 [] z7=W at B ⊢;obtain⟨ms,zB⟩:=W;dsimp only at B ⊢;have hmk:(ms.map fF).length=ms.length:=χ _;generalize aR bE zB=z8 at B ⊢;by_cases ab:z8.e=0
 case neg=>
  have hp:=aY.err B ab;rw[aG ab];exact sk 2 rfl (kp hp)
 have B:=aY.ok B ab;rw[aW ab];refine sk 2 rfl (kc B ?_);refine az (AWp.sub (Sub.freeze (id:=530) rfl) ?_);exact sg rfl (aD (rtC trw (hc:=.agg (.c .refl (.c .refl (.c .refl (.c .nl (.c .refl (.hs rfl hmk.symm (Go.AM.take_all hmk.symm) .nil)))))))))
theorem oR (s:Str) (c:b9 Tryz.prog 79 [Go.AM.T s] [] (aAl (kA s)) []):b9 Tryz.prog 8 [Go.AM.T s] [] (.tup [.pa (vY (gD s).1),atV (gD s).2.1 (if(gD s).2.1=0 then 0 else(gD s).2.2)]) []:=by
 obtain⟨r,hwt,hZ,q⟩:=j3 s;exact aA3 aO9 s c fun z h he _=>aHz hZ hwt h he
def Kq (z z':Z):Prop:=z'.e=0→z.e=0∧z'.p=z.p
theorem Kq.refl (z:Z):Kq z z:=fun h=>⟨h,rfl⟩
theorem Kq.trans {a b c:Z}(h:Kq a b) (k:Kq b c):Kq a c:=fun e=>by
 obtain⟨q,r⟩:=k e;obtain⟨y,A⟩:=h q;exact⟨y,r.trans A⟩
theorem Kq.fail {e p:Int}(he:¬e=0) (z:Z):Kq z (bY e p z):=fun h=>(hH he h).elim
theorem Kq.may (s:Str) (z:Z):Kq z (bV s z).2:=by
 unfold Kq bV;split
 ·exact fun h=>⟨h,rfl⟩
 ·exact fun h=>⟨h,rfl⟩
theorem Kq.need (s:Str) (z:Z):Kq z (aR s z):=by
 unfold aR;split
 ·exact Kq.may s z
 ·exact Kq.fail (by decide) z
theorem Kq.word (k:Int) (z:Z):Kq z (aV k z).2:=by
 unfold aV;split
 ·exact fun h=>⟨h,rfl⟩
 ·exact Kq.fail (by decide) z
theorem Kq.words (z:Z):Kq z (b8 z).2:=by
 unfold b8;split
 ·exact fun h=>⟨h,rfl⟩
 ·exact Kq.refl z
theorem Kq.long (n m:Nat) (a:Int) (z:Z):Kq z (cN n m a z):=by
 unfold cN;split
 ·exact Kq.fail (by decide) z
 ·exact Kq.refl z
theorem Kq.semi (z:Z):Kq z (cU z):=by
 unfold cU;split
 ·exact fun h=>⟨h,rfl⟩
 ·exact Kq.refl z
theorem Kq.mA (s:Str) (n:Nat) (z:Z):Kq z (moreA s n z):=by
 unfold moreA;split
 ·exact Kq.fail (by decide) z
 ·exact Kq.refl z
theorem Kq.more (s:Str) (n:Nat) (z:Z):Kq z (bI s n z).2:=by
 unfold bI;split
 ·exact(Kq.mA s n z).trans (Kq.semi _)
 ·exact((Kq.mA s n z).trans (Kq.semi _)).trans (Kq.long _ _ _ _)
theorem Kq.scheme (z:Z):Kq z (bN z).2:=by
 unfold bN;split
 ·cases h:cZ z.R with
  | error e=>obtain⟨e,p⟩:=e;exact fun h0=>absurd h0 (qG h)
  | ok y=>exact fun h=>⟨h,rfl⟩
 ·exact Kq.refl z
theorem Kq.preds (z:Z):Kq z (bL z).2:=by
 unfold bL;split
 ·cases h:dL z.R with
  | error e=>obtain⟨e,p⟩:=e;exact fun h0=>absurd h0 (iQ h)
  | ok y=>exact fun h=>⟨h,rfl⟩
 ·exact Kq.refl z
theorem Kq.atom (z:Z):Kq z (fI z).2:=by
 unfold fI;cases h:dI (3*z.R.length) 0 z.R with
 | error e=>obtain⟨e,p⟩:=e;exact fun h0=>absurd h0 (fS _ 0 z.R e p h)
 | ok y=>exact fun h=>⟨h,rfl⟩
theorem Kq.fields:∀(f:Nat) (out:List Ty) (z:Z),Kq z (cB f out z).2
 | 0,_,z=>Kq.refl z
 | f+1,out,z=>by
  rw[cB];split
  ·exact(Kq.atom z).trans (Kq.fields f _ _)
  ·exact Kq.refl z
theorem Kq.con (z:Z):Kq z (rE z).2:=((Kq.word 2 z).trans (Kq.fields _ _ _)).trans (Kq.long _ _ _ _)
theorem Kq.cons:∀(f:Nat) (a:Int) (out:List Cn) (z:Z),Kq z (kY f a out z).2
 | 0,_,_,z=>Kq.refl z
 | f+1,a,out,z=>by
  rw[kY];split
  ·exact(((Kq.con z).trans (Kq.long _ _ _ _)).trans (Kq.may _ _)).trans (Kq.cons f a _ _)
  ·exact((Kq.con z).trans (Kq.long _ _ _ _)).trans (Kq.may _ _)
theorem Kq.data (z:Z):Kq z (n0 z).2:=by
 have h1:Kq z (jU z).2.2:=(((Kq.word 2 z).trans (Kq.words _)).trans (Kq.long _ _ _ _)).trans (Kq.need _ _);unfold n0 jV;dsimp only;split
 ·exact h1.trans (Kq.cons _ _ _ _)
 ·exact h1
theorem Kq.tl (z:Z):Kq z (tlZ z):=fun h=>⟨h,rfl⟩
theorem vN:∀f:Nat,(∀o z,Kq z (bA f o z).2)∧(∀o z,Kq z (iJ f o z).2)∧(∀o out z,Kq z (fB f o out z).2)
 | 0=>⟨fun o z=>by rw[bA];exact Kq.refl z,fun o z=>by rw[iJ];exact Kq.fail (by decide) z,fun o out z=>by rw[fB];exact Kq.refl z⟩
 | f+1=>by
  obtain⟨h1,h2,c⟩:=vN f;refine⟨fun o z=>?_,fun o z=>?_,fun o out z=>?_⟩
  ·rw[bA];split
   ·exact Kq.refl z
   split
   ·exact Kq.tl z
   split
   ·exact Kq.may _ z
   split
   ·exact Kq.refl z
   split
   ·exact Kq.fail (by decide) z
   ·exact((Kq.need _ z).trans (h2 _ _)).trans (Kq.need _ _)
  ·rw[iJ];split
   ·exact(h1 _ _).trans (Kq.fail (by decide) _)
   split
   ·exact(Kq.tl z).trans (c _ _ _)
   ·exact h1 _ _
  ·rw[fB];split
   ·split
    ·exact h1 _ _
    ·exact(h1 _ _).trans (c _ _ _)
   ·exact Kq.refl z
theorem Kq.pair:∀(l:List Sg) (b:List Bd) (z:Z),Kq z (dY l b z).2:=fun l b z h=>by
 have h1:=kN h;rw[h1] at h ⊢;exact⟨h,rfl⟩
def aL6 (ex:Nat→Z→Ex×Z):Prop:=∀deep z,Kq z (ex deep z).2
section
variable {ex:Nat→Z→Ex×Z}(hx:aL6 ex)
include hx
theorem Kq.one (deep:Nat) (z:Z):Kq z (mV ex deep z).2:=by
 unfold mV;split
 ·exact Kq.refl z
 split
 ·exact Kq.tl z
 split
 ·exact Kq.refl z
 ·exact((Kq.may _ z).trans (hx _ _)).trans (Kq.need _ _)
theorem Kq.apps (deep:Nat) (a:Int):∀(f:Nat) (e:Ex) (z:Z),Kq z (jZ ex deep a f e z).2
 | 0,_,z=>Kq.refl z
 | f+1,e,z=>by
  rw[jZ];split
  ·split
   ·exact Kq.one hx deep z
   ·exact(Kq.one hx deep z).trans (Kq.apps deep a f _ _)
  ·exact Kq.refl z
theorem Kq.lam (a:Int) (deep:Nat) (z:Z):Kq z (aDf ex a deep z).2:=by
 have h0:Kq z (if(b8 z).1=[] then bY 12 (aX (b8 z).2).pl (b8 z).2 else(b8 z).2):=by
  split
  ·exact(Kq.words z).trans (Kq.fail (by decide) _)
  ·exact Kq.words z
 exact((h0.trans (Kq.long _ _ _ _)).trans (Kq.need _ _)).trans (hx _ _)
theorem Kq.bind (c:Tk) (deep:Nat) (z:Z):Kq z (eE ex c deep z).2:=(((Kq.words z).trans (Kq.long _ _ _ _)).trans (Kq.need _ _)).trans (hx _ _)
theorem Kq.either (sigs:List Sg) (binds:List Bd) (deep:Nat) (z:Z):Kq z (b6 ex sigs binds deep z).2:=by
 unfold b6;split
 ·exact((Kq.word _ z).trans (Kq.may _ _)).trans (Kq.scheme _)
 ·exact((Kq.word _ z).trans (Kq.may _ _)).trans (Kq.bind hx _ _ _)
theorem Kq.lets (deep:Nat):∀(f n:Nat) (sigs:List Sg) (binds:List Bd) (z:Z),Kq z (kS ex deep f n sigs binds z).2
 | 0,_,_,_,z=>Kq.refl z
 | f+1,n,sigs,binds,z=>by
  rw[kS];split
  ·exact((Kq.more _ _ z).trans (Kq.either hx _ _ _ _)).trans (Kq.lets deep f _ _ _ _)
  ·exact Kq.more _ _ z
theorem Kq.let' (a:Int) (deep:Nat) (z:Z):Kq z (aDc ex a deep z).2:=
 (((((Kq.need _ z).trans (Kq.lets hx _ _ _ _ _ _)).trans (Kq.need _ _)).trans (Kq.pair _ _ _)).trans (Kq.need _ _)).trans (hx _ _)
theorem Kq.alts (deep:Nat):∀(f n:Nat) (ps:List Pt) (ks:List Ex) (z:Z),Kq z (k8 ex deep f n ps ks z).2
 | 0,_,_,_,z=>Kq.refl z
 | f+1,n,ps,ks,z=>by
  rw[k8];split
  ·exact((((Kq.more _ _ z).trans ((vN _).2.1 _ _)).trans (Kq.need _ _)).trans (hx _ _)).trans (Kq.alts deep f _ _ _ _)
  ·exact Kq.more _ _ z
theorem Kq.case' (a:Int) (deep:Nat) (z:Z):Kq z (l8 ex a deep z).2:=by
 have h1:Kq z (jG ex deep (fW ex deep z)).2:=(((hx _ z).trans (Kq.need _ _)).trans (Kq.need _ _)).trans (Kq.alts hx _ _ _ _ _ _);unfold l8;dsimp only;split
 ·exact(h1.trans (Kq.need _ _)).trans (Kq.fail (by decide) _)
 ·exact h1.trans (Kq.need _ _)
omit hx in
theorem Kq.ann (a:Int) (y:Ex×Z):Kq y.2 (aBm a y).2:=by
 unfold aBm;split
 ·exact(Kq.may _ _).trans (Kq.scheme _)
 ·exact Kq.may _ _
theorem Kq.plain (deep:Nat) (z:Z):Kq z (kM ex deep z).2:=by
 unfold kM;refine Kq.trans ?_ (Kq.apps hx _ _ _ _ _);split
 ·exact(Kq.one hx deep z).trans (Kq.fail (by decide) _)
 ·exact Kq.one hx deep z
theorem aKq:aL6 (aFx ex):=fun deep z=>by
 unfold aFx;split
 ·exact Kq.refl z
 split
 ·exact Kq.fail (by decide) z
 split
 ·exact(Kq.may _ z).trans (Kq.lam hx _ _ _)
 split
 ·exact(Kq.may _ z).trans (Kq.let' hx _ _ _)
 split
 ·exact(Kq.may _ z).trans (Kq.case' hx _ _ _)
 ·exact(Kq.plain hx deep z).trans (Kq.ann _ _)
end
theorem aDi:∀f,aL6 (aI6 f)
 | 0=>fun _ z=>Kq.fail (by decide) z
 | f+1=>aKq (aDi f)
theorem Kq.supers (v:Str) (a:Int):∀(l:List Prd) (out:List Str) (z:Z),Kq z (cO v a l out z).2
 | [],_,z=>Kq.refl z
 | p::l,out,z=>by
  rw[cO];split
  ·refine Kq.trans ?_ (Kq.supers v a l _ _);split
   ·exact Kq.refl z
   ·exact Kq.fail (by decide) z
  ·exact Kq.refl z
theorem Kq.meths (c v:Str) (a:Int):∀(f n:Nat) (out:List Sg) (z:Z),Kq z (iB c v a f n out z).2
 | 0,_,_,z=>Kq.refl z
 | f+1,n,out,z=>by
  rw[iB];split
  ·exact(((((Kq.more _ _ z).trans (Kq.word _ _)).trans (Kq.need _ _)).trans (Kq.scheme _)).trans (Kq.long _ _ _ _)).trans (Kq.meths c v a f _ _ _)
  ·exact Kq.more _ _ z
theorem Kq.cls (z:Z):Kq z (gF z).2:=
 ((((((Kq.preds z).trans (Kq.word _ _)).trans (Kq.word _ _)).trans (Kq.supers _ _ _ _ _)).trans (Kq.need _ _)).trans (Kq.meths _ _ _ _ _ _ _)).trans (Kq.need _ _)
theorem Kq.forms (a:Int):∀(l:List Prd) (z:Z),Kq z (fQ a l z)
 | [],z=>Kq.refl z
 | p::l,z=>by
  rw[fQ];refine Kq.trans ?_ (Kq.forms a l _);split
  ·exact Kq.fail (by decide) z
  ·exact Kq.refl z
theorem Kq.ibinds {ex:Nat→Z→Ex×Z}(hx:aL6 ex):∀(f n:Nat) (out:List Bd) (z:Z),Kq z (eD ex f n out z).2
 | 0,_,_,z=>Kq.refl z
 | f+1,n,out,z=>by
  rw[eD];split
  ·exact(((Kq.more _ _ z).trans (Kq.word _ _)).trans (Kq.bind hx _ _ _)).trans (Kq.ibinds hx f _ _ _)
  ·exact Kq.more _ _ z
theorem Kq.instV (b:Bool) (z:Z):Kq z (instV b z).2:=by
 cases b with
 | true=>exact(Kq.words z).trans (Kq.need _ _)
 | false=>exact Kq.refl z
theorem Kq.inst {ex:Nat→Z→Ex×Z}(hx:aL6 ex) (z:Z):Kq z (nZ ex z).2:=by
 have h1:Kq z (fM z).2.2.2.2:=(((Kq.preds z).trans (Kq.word _ _)).trans (Kq.may _ _)).trans (Kq.word _ _);have h2:=h1.trans (Kq.instV (fM z).2.2.1 _);refine Kq.trans ?_ (Kq.need _ _);refine Kq.trans ?_ (Kq.ibinds hx _ _ _ _);refine Kq.trans ?_ (Kq.need _ _);refine Kq.trans ?_ (Kq.forms _ _ _);split
 ·exact h2.trans (Kq.long _ _ _ _)
 ·exact h2
theorem Kq.decl {ex:Nat→Z→Ex×Z}(hx:aL6 ex) (p:Pg) (sigs:List Sg) (z:Z):Kq z (iI ex p sigs z).2:=by
 unfold iI;split
 ·exact(Kq.may _ z).trans (Kq.data _)
 split
 ·exact(Kq.may _ z).trans (Kq.cls _)
 split
 ·exact(Kq.may _ z).trans (Kq.inst hx _)
 ·exact Kq.either hx _ _ _ z
theorem Kq.prog {ex:Nat→Z→Ex×Z}(hx:aL6 ex):∀(f n:Nat) (p:Pg) (sigs:List Sg) (z:Z),Kq z (kH ex f n p sigs z).2
 | 0,_,_,_,z=>Kq.refl z
 | f+1,n,p,sigs,z=>by
  rw[kH];split
  ·exact((Kq.more _ _ z).trans (Kq.decl hx _ _ _)).trans (Kq.prog hx f _ _ _ _)
  ·exact Kq.more _ _ z
theorem Kq.endz (z:Z):Kq z (eM z):=by
 unfold eM;split
 ·exact Kq.fail (by decide) z
 ·exact Kq.refl z
theorem aKi (s:Str) (h:(gD s).2.1=0):(gD s).2.2=0:=by
 have hb:(bP s).2.p=0∨¬(bP s).2.e=0:=by
  unfold bP;have c:= @kQ s;generalize kA s=w at c ⊢;cases w with
  | ok l=>exact .inl rfl
  | error e=>obtain⟨e,p⟩:=e;exact .inr (c rfl)
 have q:Kq (bP s).2 (eM (fU s).2):=by
  refine Kq.trans ?_ (Kq.endz _);unfold fU;split
  ·exact(Kq.prog (aDi _) _ _ _ _ _).trans (Kq.pair _ _ _)
  ·exact Kq.refl _
 have r:(gD s).2.1=(eM (fU s).2).e:=by unfold gD;split<;>rfl
 have y:(gD s).2.2=(eM (fU s).2).p:=by unfold gD;split<;>rfl
 rw[r] at h;obtain⟨A,B⟩:=q h;rw[y,B];rcases hb with hb | hb
 ·exact hb
 ·exact absurd A hb
theorem oQ (s:Str) (c:b9 Tryz.prog 79 [Go.AM.T s] [] (aAl (kA s)) []):b9 Tryz.prog 8 [Go.AM.T s] [] (.tup [.pa (vY (gD s).1),atV (gD s).2.1 (gD s).2.2]) []:=by
 have h:=oR s c;by_cases he:(gD s).2.1=0
 ·rw[ξ he] at h;rw[aKi s he];exact h
 ·rw[η he] at h;exact h
def eV (s:Str):Pt×Z:=if(bP s).2.e=0 then iJ (3*(bP s).2.R.length+1) 0 (bP s).2 else(zPt,(bP s).2)
def nR (s:Str):Pt×Int×Int:=if(eM (eV s).2).e=0 then((eV s).1,(eM (eV s).2).e,(eM (eV s).2).p) else(zPt,(eM (eV s).2).e,(eM (eV s).2).p)
theorem aO3 (s:Str):b9 Tryz.prog 20 [Go.AM.T s] [] (.tup [.pa (bF (nR s).1),atV (nR s).2.1 (nR s).2.2]) []:=by
 have B:=aH4 s;obtain⟨E,hwt,_,Y⟩:=j3 s;have r:=(aQ0 (bP s).1 (3*(bP s).2.R.length+1)).2 _ (le_refl _) 0 _ E (fun _=>le_refl _) (by decide);obtain⟨I,_⟩:=(eY (bP s).1 (3*(bP s).2.R.length+1)).2.1 0 _ E;unfold nR eV;generalize bP s=U at B E hwt r I ⊢;obtain⟨L,z⟩:=U;dsimp only at B E hwt r I ⊢;have ho:=rH L z;refine bM (n:=28) tok Tryz.func20 rfl rfl rfl ?_;refine sg rfl (sk 1 rfl (kc B ?_));refine kz 1 rfl (sg rfl ?_);have q:∃y,y=(if z.e=0 then iJ (3*z.R.length+1) 0 z else(zPt,z))∧ZA L y.2:=⟨_,rfl,by split<;>first | exact I | exact E⟩
 obtain⟨⟨p,M⟩,q,h1⟩:=q;rw[←q];dsimp only at h1 ⊢;refine aA (AWp.cut (mk [(2,.one (.vp 2 0)),(3,.one (.vp 3 0)),(4,xP),(5,.one (.vp 5 0))] [(700,zO L M),(2,.var 49 (aJt.map .c)),(3,.var 32 [.c (.int .i64 0),.c (.int .i64 0)]),(5,.var 49 ((bF p).map .c))]) ?_ ?_)
 ·refine sk 1 rfl (kc ho ?_);refine az ?_;by_cases he:z.e=0
  ·rw[ξ he] at q;have d:decide (z.e=0)=true:=φ he;rw[←q] at r;refine aB rfl (fun _=>aC mixed (ak 1 [] rfl (kc r ?_))) (fun hb=>absurd (hb.symm.trans d) Bool.noConfusion);exact kz 1 rfl sl
  ·rw[η he] at q;have d:decide (z.e=0)=false:=ψ he;obtain⟨rfl,rfl⟩:=Prod.mk.inj q;refine aB rfl (fun hb=>absurd (hb.symm.trans d) Bool.noConfusion) (fun _=>aE (Sub.trans ?_ (vp 5 (bF zPt))));exact sl
 have J:=aOy h1;have h2:=h1.endz;generalize eM M=z2 at J h2 ⊢;have O:=rH L z2;refine sk 1 rfl (kc J ?_);refine az (aA (sk 1 rfl (kc O ?_)));refine kz 1 rfl ?_;by_cases A:z2.e=0
 ·rw[ξ A];have d:(!decide (z2.e=0))=false:=by rw[φ A];rfl
  exact aB rfl (fun hb=>absurd (hb.symm.trans d) Bool.noConfusion) (fun _=>aE (sg rfl (aD sD)))
 ·rw[η A];have d:(!decide (z2.e=0))=true:=by rw[ψ A];rfl
  exact aB rfl (fun _=>sg rfl (aD sD)) (fun hb=>absurd (hb.symm.trans d) Bool.noConfusion)
theorem tW (s:Str) (e p:Int) (r:¬e=0) (q:b9 Tryz.prog 79 [Go.AM.T s] [] (.tup [.one (.c .nl),atV e p]) []):
  b9 Tryz.prog 35 [Go.AM.T s,.one (.clo 49 [.vp 9 0])] [(9,gL)] (atV e p) [(9,gL)]:=by
 unfold atV at q ⊢;have d0:(!decide (e=0))=true:=by rw[ψ r];rfl
 refine bM (n:=38) tok Tryz.func35 rfl rfl rfl ?_;refine sgh [(0,.id 4)] rfl (sk 1 rfl (kc q ?_));exact kz 6 rfl (aA (sg rfl (aB rfl (fun _=>sg rfl (aD (rtC trw))) (fun hb=>absurd (hb.symm.trans d0) Bool.noConfusion))))
theorem aEg (s:Str) (c:b9 Tryz.prog 79 [Go.AM.T s] [] (aAl (kA s)) []):
  b9 Tryz.prog 35 [Go.AM.T s,.one (.clo 49 [.vp 9 0])] [(9,gL)] (atV (eM (eV s).2).e (if(eM (eV s).2).e=0 then 0 else(eM (eV s).2).p)) [(9,if(eV s).2.e=0 then ptO (eV s).1 else gL)]:=by
 obtain⟨q,hwt,hZ,r⟩:=j3 s;have y:= @kQ s;have A:∀l,kA s=.ok l→aF0 l:=fun l h=>by
  unfold kA at h;split at h
  ·cases h
  ·exact n9 _ _ _ _ h
 unfold eV;unfold bP at q hwt hZ r ⊢;generalize kA s=w at c q hwt hZ r y A ⊢;cases w with
 | error e=>
  obtain⟨e,p⟩:=e;have he:¬e=0:=y rfl;have E:eM ⟨[oL],e,p⟩=⟨[oL],e,p⟩:=η fun k=>he k.1
  dsimp only;rw[η he];dsimp only;rw[E];dsimp only;rw[η he,η he];exact tW s e p he c
 | ok l=>
  dsimp only at q hwt hZ r ⊢;rw[ξ rfl];have B:=(aNr l (A l rfl) (3*l.length+1)).2 _ (le_refl _) 0 ⟨l,0,0⟩ q rfl (le_refl _) (by decide);obtain⟨g1,_⟩:=(eY l (3*l.length+1)).2.1 0 ⟨l,0,0⟩ q;exact wB s l c _ _ g1 B
theorem aNs (s:Str) (h:(nR s).2.1=0):(nR s).2.2=0:=by
 have hb:(bP s).2.p=0∨¬(bP s).2.e=0:=by
  unfold bP;have c:= @kQ s;generalize kA s=w at c ⊢;cases w with
  | ok l=>exact .inl rfl
  | error e=>obtain⟨e,p⟩:=e;exact .inr (c rfl)
 have q:Kq (bP s).2 (eM (eV s).2):=by
  refine Kq.trans ?_ (Kq.endz _);unfold eV;split
  ·exact(vN _).2.1 _ _
  ·exact Kq.refl _
 have r:(nR s).2.1=(eM (eV s).2).e:=by unfold nR;split<;>rfl
 have y:(nR s).2.2=(eM (eV s).2).p:=by unfold nR;split<;>rfl
 rw[r] at h;obtain⟨A,B⟩:=q h;rw[y,B];rcases hb with hb | hb
 ·exact hb
 ·exact absurd A hb
theorem aO4 (s:Str):b9 Tryz.prog 19 [Go.AM.T s] [] (.tup [.pa (bF (nR s).1),atV (nR s).2.1 (nR s).2.2]) []:=by
 have hs:=aEg s (aJh s);have c:=aNs s;have q:(eM (eV s).2).e=0→(eV s).2.e=0:=fun h=>by
  unfold eM at h;split at h
  ·rename_i hc;exact hc.1
  ·exact h
 unfold nR at c ⊢;generalize (eV s).1=r at hs c ⊢;generalize y:(eM (eV s).2)=z at hs q c ⊢;unfold atV at hs ⊢;by_cases he:z.e=0
 ·rw[ξ he,ξ (q he)] at hs;rw[ξ he] at c ⊢;dsimp only at c ⊢;rw[c he];have d0:(!decide (z.e=0))=false:=by rw[φ he];rfl
  refine bM (n:=16) tok Tryz.func19 rfl rfl rfl ?_;refine sg rfl (sgh [(0,.id 9)] rfl (sk 2 rfl (kc hs ?_)));exact kz 2 rfl (aA (sg rfl (aB rfl (fun hb=>absurd (hb.symm.trans d0) Bool.noConfusion) (fun _=>aE (sg rfl (aD sD))))))
 ·rw[η he] at hs;rw[η he];dsimp only;have d0:(!decide (z.e=0))=true:=by rw[ψ he];rfl
  by_cases h1:(eV s).2.e=0
  ·rw[ξ h1] at hs;refine bM (n:=16) tok Tryz.func19 rfl rfl rfl ?_;refine sg rfl (sgh [(0,.id 9)] rfl (sk 2 rfl (kc hs ?_)));exact kz 2 rfl (aA (sg rfl (aB rfl (fun _=>sg rfl (aD sD)) (fun hb=>absurd (hb.symm.trans d0) Bool.noConfusion))))
  ·rw[η h1] at hs;refine bM (n:=16) tok Tryz.func19 rfl rfl rfl ?_;refine sg rfl (sgh [(0,.id 9)] rfl (sk 2 rfl (kc hs ?_)));exact kz 2 rfl (aA (sg rfl (aB rfl (fun _=>sg rfl (aD sD)) (fun hb=>absurd (hb.symm.trans d0) Bool.noConfusion))))
theorem aKj (s:Str):ptB (nR s).1:=by
 obtain⟨c,_⟩:=j3 s;have h2:=((eY (bP s).1 (3*(bP s).2.R.length+1)).2.1 0 _ c).2.1
 unfold nR eV;split
 ·split
  ·exact h2
  ·exact qQ
 ·split
  ·exact qQ
  ·exact qQ
end Go.Proofs.YtpmheldmadendaaGreatDoor
