/-
  Texts Rd62 to Rw2 in one.
-/
import Derived.Test.YtkhgpgihmphfdaaGreatDoorM11
open List (append_assoc append_nil cons_append drop_append_of_le_length drop_drop drop_eq_getElem_cons drop_length drop_take drop_zero filter_cons filter_eq_self flatten_append flatten_cons length_append length_cons length_drop length_map length_nil length_replicate length_set length_take map_append map_cons map_map map_nil map_set map_toArray mem_append mem_cons mem_cons_of_mem mem_cons_self mem_of_mem_take mem_singleton nil_append not_mem_nil replicate_succ sum_append sum_cons take_add_one take_append_drop take_left' take_length take_nil take_of_length_le take_succ_cons take_take take_zero)
open Nat (add_zero le_refl le_trans lt_succ_self mul_le_mul_right mul_one sub_self sub_zero succ_pos zero_add zero_le zero_mul)
namespace Go.Proofs.YtkhgpgihmphfdaaGreatDoor
open Go Go.AM
set_option maxRecDepth 20000
set_option maxHeartbeats 4000000
def jK:AObj:=.var 30 [.c .nl,.c .nl,.c .nl,.c .nl]
def pgO (p:Pg):AObj:=.var 30 ((rG p).map .c)
theorem aVy {L:List Tk}{z q:Z}{p:Pg}(h:bI Tryz.prog 65 [rP] [(600,rO L z)] (.pa (rG p)) [(600,rO L q)]):bI Tryz.prog 64 ([rP]++[R.vp 9 0].map V.one) [(600,rO L z),(9,jK)] (.tup []) [(600,rO L q),(9,pgO p)]:=by
 refine bM (n:=5) tok Tryz.func64 rfl rfl rfl ?_;refine aC mixed (ak 1 [] rfl (kc h ?_));exact kz 1 rfl rtN
theorem aRy {L:List Tk}{z:Z}{v:Value}(h:aDr Tryz.prog 65 [rP] [(600,rO L z)] v) (S:Sto) (μ:Mu) (w:World) (vals:List Value) (B:Go.AM.Inv ⟨w,S,k8 μ (Go.AM.look [(600,rO L z),(9,jK)]),μ,Go.AM.look [(600,rO L z),(9,jK)]⟩ S μ (Go.AM.look [(600,rO L z),(9,jK)]) w)
  (E:aY S μ (Go.AM.look [(600,rO L z),(9,jK)]) ([rP]++[R.vp 9 0].map V.one) vals):Calls Tryz.prog 64 ⟨vals⟩ w fun e w'=>∃S' μ' hout,e=.panicked [{ v:=v,recovered:=false }]∧(∀id o,Go.AM.look hout id=some o→∃o',Go.AM.look [(600,rO L z),(9,jK)] id=some o')∧(∃x,hout=[(600,x),(9,jK)])∧Go.AM.Inv ⟨w,S,k8 μ (Go.AM.look [(600,rO L z),(9,jK)]),μ,Go.AM.look [(600,rO L z),(9,jK)]⟩ S' μ' (Go.AM.look hout) w':=by
 refine(Go.AM.Wd.calls (ro:=none) (n:=0)).1 (callsIn_of_wp_defers Tryz.func64 rfl trivial ?_);have u:=aGa (n:=5) (k:=(Tryz.f64).ntmps) rfl rfl B E;refine wpIn_mono (qG.wp mixed (aY9 (v:=v) [(600,rO L z)] [(0,rP)] u rfl ⟨rfl,trivial⟩ rfl ⟨rfl,trivial⟩ rfl rfl rfl ?_)) ?_
 ·exact ak 1 [] rfl (kp h (hq:=rfl))
 rintro e y w' ⟨rfl,I,_,S',J,hout,A,q,M⟩;show LeavesIn _ _ _ _ y.tmps _ y.defers (.panicking _) w';rw[I];have O:Go.AM.look hout 9=none:=by
  cases hl:Go.AM.look hout 9 with
  | none=>rfl
  | some o=>obtain⟨o',ho⟩:=A 9 o hl;cases ho
 have hx:∃x,iB (mk (yN 0 ([rP]++[R.vp 9 0].map V.one)) [(600,rO L z),(9,jK)]).h (outs hout)=Go.AM.look [(600,x),(9,jK)]:=by
  refine⟨(Go.AM.look hout 600).getD (rO L z),funext fun id=>?_⟩;rw[gN];by_cases r:id=600
  ·subst r;cases hl:Go.AM.look hout 600 with
   | none=>rfl
   | some o=>rfl
  ·have hn:Go.AM.look hout id=none:=by
    cases hl:Go.AM.look hout id with
    | none=>rfl
    | some o=>
     obtain⟨o',ho⟩:=A id o hl;simp[Go.AM.look] at ho;exact absurd ho.1 r
   rw[hn];show Go.AM.look [(600,rO L z),(9,jK)] id=_;simp[Go.AM.look,r]
 obtain⟨x,hx⟩:=hx;rw[hx] at q;refine⟨S',J,[(600,x),(9,jK)],rfl,fun id o ho=>?_,⟨x,rfl⟩,q⟩;have hm:=b6 ho;rcases Aq.1 hm with hm | hm
 ·obtain⟨rfl,rfl⟩:=Prod.mk.inj hm;exact⟨_,rfl⟩
 ·obtain⟨rfl,rfl⟩:=Prod.mk.inj (Ar.1 hm);exact⟨_,rfl⟩
theorem yV {w0:World}{S0 S:Sto}{μ0 μ:Mu}{st:St}{a:Act}{w:World}{u:Value}(q:AObj) (b:Bool) (e p:Int) (y A:FrameMode) (hok:(subset (atV e p).refs (keys [(9,q)])&&subset (gS [(9,q)]) (keys [(9,q)])&&Go.AM.distinct (keys [(9,q)])&&subset (keys [(9,jK)]) (keys [(9,q)])&&([(9,jK)].all fun p=>p.2.plain)&&([(9,q)].all fun p=>p.2.plain))=true)
  (hs:Sim ⟨w0,S0,k8 μ0 (Go.AM.look [(9,jK)]),μ0,Go.AM.look [(9,jK)]⟩ 38 S μ st a w) (hd:st.d=[]) (I:st.e 4=some (.one (.vp 4 0))) (U:st.e 17=some (.one (.clo 110 [.vp 4 0]))) (Y:st.h 4=some (atO 0 0)) (aa:st.h 9=some q) (ab:Ole (fun i=>i) q q)
  (hk:Kp 17 (.func (.func 110) #[] ⟨[u]⟩) a)
  (hu:∀(B:Frame) (cs:List Frame),B.mode=y→(b=true∧recoverD (B::cs)=some (tF e p,{ B with mode:=A }::cs))∨(b=false∧recoverD (B::cs)=none∧A=y∧e=0∧p=0)) (J:y≠ .run) (M:settle A=.returning):
  LeavesIn (Wd none) 0 Tryz.prog Tryz.f63 a.tmps (fun en w'=>∃S' μ' v,en=.returned v∧Go.AM.Inv ⟨w0,S0,k8 μ0 (Go.AM.look [(9,jK)]),μ0,Go.AM.look [(9,jK)]⟩ S' μ' (Go.AM.look [(9,q)]) w'∧aL S' μ' (Go.AM.look [(9,q)]) (atV e p) v) (rD a [{ target:=.fn (.func 110) ⟨[u]⟩,args:= #[] }]).defers y w:=by
 have hda:a.defers=[]:=by have:=hs.defers;rw[hd] at this;exact this
 show LeavesIn _ _ _ _ _ _ (a.defers++_) _ _;rw[hda,Az];have hh:∀id o,Go.AM.look [(4,atO 0 0)] id=some o→st.h id=some o∧o≠ .dead:=by
  intro id o ho;obtain⟨rfl,rfl⟩:=Prod.mk.inj (Ar.1 (b6 ho));exact⟨Y,fun k=>by cases k⟩
 have hI:=hs.inv.hand hh rfl;have E:∀i∈keys [(4,atO 0 0)],Go.AM.Good st.h (Go.AM.look [(4,atO 0 0)]) (fun i=>i) i:=by
  intro i hi;obtain⟨o,ho⟩:=cM hi;obtain⟨h1,h2⟩:=hh i o ho;exact⟨o,o,h1,ho,.refl_id h2⟩
 have r:=hs.env 17 _ U;have hk':a.tmps.getD 17 undef=.func (.func 110) #[] ⟨[u]⟩:=hk;rw[hk'] at r;have hvu:aY S μ st.h [.one (.vp 4 0)] [u]:=by
  simp only[aL,aV,aM] at r;obtain⟨vs,h1,v,vs',h2,h3,I⟩:=r;subst I h2;cases h1;simp only[aY,aL];exact⟨_,_,rfl,h3,rfl⟩
 have O:aY S μ (Go.AM.look [(4,atO 0 0)]) [.one (.vp 4 0)] [u]:=by
  have:=aY.ren (H:=st.h) (H':=Go.AM.look [(4,atO 0 0)]) (σ:=fun i=>i) [.one (.vp 4 0)] [u] (fun i hi=>E i (by simpa [V.refsL,V.refs,R.refs,keys] using hi)) (by rw[V.renL_id];exact hvu);exact this
 have hb1:i7 Tryz.prog 110:=aJg (by kernel_rfl);have hi:(invoke (.fn (.func 110) ⟨[u]⟩) #[]).run Tryz.prog w=.ok (.enter 110 ⟨[u]⟩) w:=by
  simp only[invoke];rw[eL hb1];simp
 refine leavesIn_cons J (fun h=>by simp[Go.AM.Wd] at h) hi (fun _ _=>trivial) (CallsDIn.mono (aVj b e p _ hI O y A hu) ?_);rintro en u' w' ⟨⟨v,rfl⟩,rfl,S',μ',hI6⟩;dsimp only;rw[M];obtain⟨μ2,q1,q2,q3,q4⟩:=hs.inv.back (hin:=[(4,atO 0 0)]) (hout:=[(4,atO e p)]) (fun id o ho=>(hh id o ho).1) (fun id o ho=>.inl (by obtain⟨rfl,_⟩:=Prod.mk.inj (Ar.1 (b6 ho));exact⟨_,rfl⟩)) hI6;have hs6:Sim ⟨w0,S0,k8 μ0 (Go.AM.look [(9,jK)]),μ0,Go.AM.look [(9,jK)]⟩ 38 S' μ2 ⟨st.e,iB st.h (outs [(4,atO e p)]),st.d⟩ a w':=⟨q2,hs.size,hs.defers.evolve q3,fun t v e=>aL.evolve q3 v _ (hs.env t v e)⟩
 have g4:iB st.h (outs [(4,atO e p)]) 4=some (atO e p):=by rw[gN];rfl
 have g9:iB st.h (outs [(4,atO e p)]) 9=some q:=by rw[gN];exact aa
 have hf:Fin tr.flat Tryz.f63 ⟨st.e,iB st.h (outs [(4,atO e p)]),st.d⟩ [(9,jK)] (atV e p) [(9,q)]:=(rtC (fn:=Tryz.f63) (st:=⟨st.e,iB st.h (outs [(4,atO e p)]),st.d⟩) (hin:=[(9,jK)]) (hout:=[(9,q)]) (res:=atV e p) trw (ha:=I) (hh:=g4) (ho:=⟨⟨_,g9,ab⟩,trivial⟩) (hok:=hok)).2
 obtain⟨v2,k1,k2,k3⟩:=aIj (fn:=Tryz.f63) tok hs6 hf;exact⟨v2,k1,_,_,_,rfl,k2,k3⟩
section
variable {m:Nat}{P:Program}{ops:Array Oper}{Q:Exit→Act→World→Prop}{i:Nat}{a:Act}{w:World}{o:Oper}{K:Act→World→Prop}
theorem aPg {x:Operand}{ts:Array TypeId}{f:FuncId}{caps:Array Value}(ho:ops[i]?=some o) (r:o.guard=none) (q:o.op=.defer { callee:=.value x,args:= #[],argTypes:=ts }) (u:o.dst=none) (hx:a.eval x=.func (.func f) #[] caps)
  (y:K ⟨a.tmps,{ target:=.fn (.func f) caps,args:= #[] }::a.defers⟩ w):wpOpIn (Go.AM.Wd none) m P ops Q i K a w:=by
 unfold wpOpIn;simp only[ho];rw[ξ (by simp[Region.wanted,r])];refine⟨fun _ _=>trivial,?_⟩;have A:(o.semAt none a.eval).run P w=.ok (.defer { target:=.fn (.func f) caps,args:= #[] }) w:=by
  rw[Oper.semAt_none];simp[execOp,q,resolve,hx,Deferred.ofValue]
 show o.uponIn (Go.AM.Wd none) m P a K Q ((o.semAt none a.eval).run P w);rw[A,Oper.uponIn_defer,u];exact y
theorem aEf (ho:ops[i]?=some o) (q:o.guard=none) (h:o.wpIn (Go.AM.Wd none) m P a w K Q):wpOpIn (Go.AM.Wd none) m P ops Q i K a w:=by
 unfold wpOpIn;simp only[ho];rw[ξ (by simp[Region.wanted,q])];exact h
end
theorem aEz (s:Str) (l:List Tk) (E:bI Tryz.prog 20 [Go.AM.T s] [] (.tup [.one (.c (.sl 4 (l.map aK))),atV 0 0]) []) (pg:Pg) (q:Z) (hA:ZA l q) (A:b8 Tryz.prog 65 [rP] [(600,rO l ⟨l,0,0⟩)] (gD l (.pa (rG pg)) q [])):
  bI Tryz.prog 63 [Go.AM.T s,.one (.clo 64 [.vp 9 0])] [(9,jK)] (atV (oF q).e (if(oF q).e=0 then 0 else(oF q).p)) [(9,if q.e=0 then pgO pg else jK)]:=by
 have er:rO l ⟨l,0,0⟩=.var 168 [.c (.sl 4 (l.map aK)),.c (.int .i64 0)]:=by unfold rO;dsimp only;rw[Ch];rfl
 unfold atV at E;intro S μ w vals hI hv;refine(Go.AM.Wd.calls (ro:=none) (n:=0)).1 (callsIn_of_wp_defers Tryz.func63 rfl trivial ?_);have hs0:=aGa (n:=38) (k:=(Tryz.f63).ntmps) rfl rfl hI hv;refine Co (aXf mixed hs0 ?_);refine ak 1 [(0,.id 4)] rfl (az ?_);intro S1 μ1 a1 w1 hs1;refine Co (aXf mixed hs1 ?_);refine ak 1 [] rfl (kc E ?_);refine kz 6 rfl ?_;intro S2 I a2 w2 hs2;refine Co (Co (aXf mixed hs2 ?_));refine kz 3 rfl ?_;intro S3 μ3 a3 w3 hs3;have hb:=hs3.env 15 _ rfl;simp only[aL,aV,Rep] at hb;refine wpIn_cond (t:=false) hb ?_;refine wpIn_skip ?_;refine Co (wpIn_region ?_);show wpOpsIn _ _ _ _ _ [0,1] _ _;rw[Br];refine(g_ rfl rfl (sJ (l:=[.vp 4 0]) rfl rfl (jH rfl) rfl)) _ (fL.refl _ _) _ S3 μ3 a3 w3 _ _ hs3 (fun S4 μ4 a4 w4 J=>?_) none;rw[Br];have hd4:a4.defers=[]:=J.defers;have hv4:=J.env 17 _ rfl;simp only[aL,aV,aM] at hv4;obtain⟨vs,hv5,u,vs',rfl,_,rfl⟩:=hv4;have hk4:Kp 17 (.func (.func 110) #[] ⟨[u]⟩) a4:=hv5;refine aPg rfl rfl rfl rfl hv5 ?_;have he:(⟨a4.tmps,({ target:=.fn (.func 110) ⟨[u]⟩,args:= #[] }:Deferred)::a4.defers⟩:Act)=rD a4 [{ target:=.fn (.func 110) ⟨[u]⟩,args:= #[] }]:=by unfold rD;rw[hd4];rfl
 rw[he];refine Co (aWj mixed J hk4 rfl ?_);refine ak 5 [(3,.id 600)] rfl (az ?_);intro S5 μ5 a5 w5 hk5 hs5;by_cases r:q.e=0
 case neg=>
  have hp:=b8.err A r;have M:oF q=q:=ζ fun k=>r k.1
  rw[M,ζ r,ζ r];refine Co (qG.wp (draw:=false) mixed (qG.ext (Q:=fun e a w'=>(e=pan (tF q.e q.p)∧∃S' μ' st',Sim ⟨w,S,k8 μ (Go.AM.look [(9,jK)]),μ,Go.AM.look [(9,jK)]⟩ 38 S' μ' st' a w'∧st'.d=[]∧st'.e 4=some (.one (.vp 4 0))∧st'.e 17=some (.one (.clo 110 [.vp 4 0]))∧st'.h 4=some (atO 0 0)∧st'.h 9=some jK)∧Kp 17 (.func (.func 110) #[] ⟨[u]⟩) a) ?_ (qG.kp rfl ?_ hk5 ?_)))
  ·rintro e a w' ⟨⟨rfl,S',μ',st',hs',O,h4,h17,hh4,hh9⟩,B⟩;exact yV jK true q.e q.p (.panicking [{ v:=tF q.e q.p,recovered:=false }]) (.panicking [{ v:=tF q.e q.p,recovered:=true }]) rfl hs' O h4 h17 hh4 hh9 (.var rfl) B (fun c₀ cs hc=>.inl ⟨rfl,by simp only[recoverD,hc]⟩) (fun k=>by cases k) rfl
  ·rintro⟨a,w,h,_⟩;cases h
  unfold qG;dsimp only;show wpOpsIn _ _ _ _ _ [0,1,2] _ _;rw[Br];refine(g_ rfl rfl (aGs rfl rfl (jH rfl) rfl)) _ (fL.refl _ _) _ S5 μ5 a5 w5 _ _ hs5 (fun S6 μ6 U w6 y=>?_) none;rw[Br];refine(g_ rfl rfl (aGs rfl rfl (jH rfl) rfl)) _ (fL.refl _ _) _ S6 μ6 U w6 _ _ y (fun S7 μ7 a7 w7 hs7=>?_) none;rw[Br];rw[er] at hp;refine aEf rfl rfl (aVh (v:=tF q.e q.p) (good:=fun hout=>∃x,hout=[(600,x),(9,jK)]) (args:=[rP]) (caps:=[.vp 9 0]) (f:=64) [(600,rO l ⟨l,0,0⟩),(9,jK)] (aJg (by kernel_rfl)) rfl rfl (fun S μ w vals hI hv=>aRy (by rw[er];exact hp) S μ w vals hI hv) (.cons rfl .refl .nil) ⟨by rw[er];rfl,rfl,trivial⟩ rfl hs7 ?_);rintro S' μ8 hout w' ⟨x,rfl⟩ hI8 Y;exact⟨rfl,S',μ8,⟨_,_,_⟩,⟨hI8,hs7.size,hs7.defers.evolve Y,fun t v e=>aL.evolve Y v _ (hs7.env t v e)⟩,rfl,rfl,rfl,rfl,rfl⟩
 have A:=b8.ok A r;rw[ξ r];have hP1:=aVy A;rw[er] at hP1;refine Co (aWj mixed hs5 hk5 rfl ?_);refine ak 2 [] rfl (kv (args:=[rP]) hP1 ?_);refine az ?_;intro S6 μ6 U w6 aa y;have hn:=dZ hA;by_cases B:(bA q).kind=6
 case neg=>
  have M:oF q=⟨q.R,12,(bA q).pl⟩:=(ξ ⟨r,B⟩).trans (ξ r);have h12:¬(12:Int)=0:=by decide
  rw[M];dsimp only;rw[ζ h12];have d:decide ((bA q).kind=6)=false:=φ B;have hmn:=bH 12 (bA q).pl;refine Co (qG.wp mixed (qG.ext (Q:=fun e a w'=>((e=pan (tF 12 (bA q).pl)∧a.defers=[]∧a.tmps.size=38∧∃S' I hout,(∀id o,Go.AM.look hout id=some o→∃o',Go.AM.look [(600,rO l q)] id=some o')∧Go.AM.Inv ⟨w,S,k8 μ (Go.AM.look [(9,jK)]),μ,Go.AM.look [(9,jK)]⟩ S' I (iB _ (outs hout)) w'∧Evolve S6 μ6 _ S' I (iB _ (outs hout)))∧Kp 4 (U.tmps.getD 4 undef) a)∧Kp 17 (.func (.func 110) #[] ⟨[u]⟩) a) ?_ (qG.kp rfl ?_ aa (qG.kp rfl ?_ rfl (aY9 (v:=tF 12 (bA q).pl) [(600,rO l q)] [(7,rP)] y rfl ⟨rfl,trivial⟩ rfl ⟨rfl,trivial⟩ rfl rfl rfl ?_)))))
  ·rintro e a' w' ⟨⟨⟨rfl,O,hsz,S',I,hout,hkeys,hI',Y⟩,hk4'⟩,ab⟩;have hno:∀id,id≠600→Go.AM.look hout id=none:=fun id h6=>by
    cases hl:Go.AM.look hout id with
    | none=>rfl
    | some o=>
     obtain⟨o',ho⟩:=hkeys id o hl;simp[Go.AM.look] at ho;exact absurd ho.1 h6
   have hs7:Sim ⟨w,S,k8 μ (Go.AM.look [(9,jK)]),μ,Go.AM.look [(9,jK)]⟩ 38 S' I ⟨Go.AM.look [(4,.one (.vp 4 0)),(17,.one (.clo 110 [.vp 4 0]))],_,[]⟩ a' w':=⟨hI',hsz,O,fun t v ht=>by
    have hm:=b6 ht;rcases Aq.1 hm with hm | hm
    ·obtain⟨rfl,rfl⟩:=Prod.mk.inj hm;have h1:a'.tmps.getD 4 undef=U.tmps.getD 4 undef:=hk4';rw[h1];exact aL.evolve Y _ _ (y.env 4 _ rfl)
    ·obtain⟨rfl,rfl⟩:=Prod.mk.inj (Ar.1 hm);have h1:a'.tmps.getD 17 undef=U.tmps.getD 17 undef:=Eq.trans ab (Eq.symm aa);rw[h1]
     exact aL.evolve Y _ _ (y.env 17 _ rfl)⟩
   exact yV (pgO pg) true 12 (bA q).pl (.panicking [{ v:=tF 12 (bA q).pl,recovered:=false }]) (.panicking [{ v:=tF 12 (bA q).pl,recovered:=true }]) rfl hs7 rfl rfl rfl ((gN _ hout 4).trans (by rw[hno 4 (by decide)];rfl)) ((gN _ hout 9).trans (by rw[hno 9 (by decide)];rfl)) (.var rfl) ab (fun c₀ cs hc=>.inl ⟨rfl,by simp only[recoverD,hc]⟩) (fun k=>by cases k) rfl
  ·rintro⟨a,w,h,_⟩;cases h.1
  ·rintro⟨a,w,h,_⟩;cases h
  refine ak 3 [] rfl (kc hn ?_);refine ak 5 [] rfl (kc hn ?_);refine ak 1 [] rfl ?_;rw[d];refine kpD (.tup []) [] hmn ?_ (hq:=rfl);exact az trivial
 have M:oF q=q:=ζ fun k=>k.2 B
 rw[M,ξ r,r];have d:decide ((bA q).kind=6)=true:=χ B;have hmo:=bF 12 (bA q).pl;refine Co (aWj mixed y aa rfl ?_);refine ak 3 [] rfl (kc hn ?_);refine ak 5 [] rfl (kc hn ?_);refine ak 1 [] rfl ?_;rw[d];refine kc hmo ?_;refine az ?_;intro S7 μ7 a7 w7 hk7 hs7;refine Co (aWj mixed hs7 hk7 rfl ?_);refine kz 2 rfl ?_;intro S8 μ8 a8 w8 hk8 hs8;refine wpIn_ret ?_;exact yV (pgO pg) false 0 0 .returning .returning rfl hs8 rfl rfl rfl rfl rfl (.var rfl) hk8 (fun c₀ cs hc=>.inr ⟨rfl,by simp only[recoverD,hc],rfl,rfl,rfl⟩) (fun k=>by cases k) rfl
theorem aAb (s:Str) (e p:Int) (r:¬e=0) (q:bI Tryz.prog 20 [Go.AM.T s] [] (.tup [.one (.c .nl),atV e p]) []):
  bI Tryz.prog 63 [Go.AM.T s,.one (.clo 64 [.vp 9 0])] [(9,jK)] (atV e p) [(9,jK)]:=by
 unfold atV at q ⊢;have d0:(!decide (e=0))=true:=by rw[φ r];rfl
 refine bM (n:=38) tok Tryz.func63 rfl rfl rfl ?_;refine sgh [(0,.id 4)] rfl (sk 1 rfl (kc q ?_));exact kz 6 rfl (aA (sg rfl (aB rfl (fun _=>sg rfl (aD (rtC trw))) (fun hb=>absurd (hb.symm.trans d0) Bool.noConfusion))))
theorem aMa (hX:yH) (s:Str) (q:bI Tryz.prog 20 [Go.AM.T s] [] (aP9 (lexA s)) []) (hC:aSh (bS s).1 (bS s).2.R.length):
  bI Tryz.prog 63 [Go.AM.T s,.one (.clo 64 [.vp 9 0])] [(9,jK)] (atV (oF (gC s).2).e (if(oF (gC s).2).e=0 then 0 else(oF (gC s).2).p)) [(9,if(gC s).2.e=0 then pgO (gC s).1 else jK)]:=by
 obtain⟨r,hwt,hZ,u⟩:=lB s;have y:= @aB4 s;have A:∀l,lexA s=.ok l→aNa l:=fun l h=>by
  unfold lexA at h;split at h
  ·cases h
  ·exact uD _ _ _ _ h
 unfold gC;unfold bS at r hwt hZ u hC ⊢;generalize lexA s=w at q r hwt hZ u hC y A ⊢;cases w with
 | error e=>
  obtain⟨e,p⟩:=e;have he:¬e=0:=y rfl;have E:oF ⟨[rF],e,p⟩=⟨[rF],e,p⟩:=ζ fun k=>he k.1
  dsimp only;rw[ζ he];dsimp only;rw[E];dsimp only;rw[ζ he,ζ he];exact aAb s e p he q
 | ok l=>
  dsimp only at r hwt hZ u hC ⊢;rw[ξ rfl];have B:=aE0 (uL l.length) (aQs hwt hZ (A l rfl) l.length) hX (mM hwt l.length) hZ hwt hC r rfl (le_refl _);obtain⟨g1,_⟩:=qW (mM hwt l.length) hwt r;exact aEz s l q _ _ g1 B
theorem aE3 (hX:yH) (s:Str) (r:bI Tryz.prog 20 [Go.AM.T s] [] (aP9 (lexA s)) []) (hC:aSh (bS s).1 (bS s).2.R.length):
  bI Tryz.prog 22 [Go.AM.T s] [] (.tup [.pa (rG (cC s).1),atV (cC s).2.1 (if(cC s).2.1=0 then 0 else(cC s).2.2)]) []:=by
 have hs:=aMa hX s r hC;have q:(oF (gC s).2).e=0→(gC s).2.e=0:=fun h=>by
  unfold oF at h;split at h
  ·rename_i hc;exact hc.1
  ·exact h
 unfold cC;generalize (gC s).1=u at hs ⊢;generalize y:(oF (gC s).2)=z at hs q ⊢;unfold atV at hs ⊢;by_cases he:z.e=0
 ·rw[ξ he,ξ (q he)] at hs;rw[ξ he];dsimp only;rw[ξ he];have d0:(!decide (z.e=0))=false:=by rw[χ he];rfl
  refine bM (n:=16) tok Tryz.func22 rfl rfl rfl ?_;refine sg rfl (sgh [(0,.id 9)] rfl (sk 2 rfl (kc hs ?_)));exact kz 2 rfl (aA (sg rfl (aB rfl (fun hb=>absurd (hb.symm.trans d0) Bool.noConfusion) (fun _=>aF (sg rfl (aD aPj))))))
 ·rw[ζ he] at hs;rw[ζ he];dsimp only;rw[ζ he];have d0:(!decide (z.e=0))=true:=by rw[φ he];rfl
  by_cases h1:(gC s).2.e=0
  ·rw[ξ h1] at hs;refine bM (n:=16) tok Tryz.func22 rfl rfl rfl ?_;refine sg rfl (sgh [(0,.id 9)] rfl (sk 2 rfl (kc hs ?_)));exact kz 2 rfl (aA (sg rfl (aB rfl (fun _=>sg rfl (aD aPj)) (fun hb=>absurd (hb.symm.trans d0) Bool.noConfusion))))
  ·rw[ζ h1] at hs;refine bM (n:=16) tok Tryz.func22 rfl rfl rfl ?_;refine sg rfl (sgh [(0,.id 9)] rfl (sk 2 rfl (kc hs ?_)));exact kz 2 rfl (aA (sg rfl (aB rfl (fun _=>sg rfl (aD aPj)) (fun hb=>absurd (hb.symm.trans d0) Bool.noConfusion))))
def bxL:List Tk:=[⟨4,eqS,0,0⟩,⟨1,[120],0,0⟩,rF]
theorem aV1:yH:=by
 have q:ZA bxL ⟨bxL,0,0⟩:=⟨rfl,⟨[⟨4,eqS,0,0⟩,⟨1,[120],0,0⟩],rF,rfl,rfl⟩,by decide⟩
 have hwt:wt bxL≤30000:=by decide
 have hN:aNa bxL:=fun t ht=>by
  intro _;simp only[bxL,Aq,not_mem_nil,or_false] at ht;rcases ht with rfl | rfl | rfl<;>rfl
 have hZ:pG bxL:=fun t ht r=>hN t ht (by rw[r];decide)
 have hb:=uV (uL 3) (aQs hwt hZ hN 3) ⟨1,[120],0,0⟩ 0 q rfl (by decide) (by decide);have he:(dP (yL 3) ⟨1,[120],0,0⟩ 0 ⟨bxL,0,0⟩).2.e=0:=by decide
 have hb:=b8.ok hb he;exact⟨bxL,⟨bxL,0,0⟩,_,⟨1,[120],0,0⟩,_,hb⟩
end Go.Proofs.YtkhgpgihmphfdaaGreatDoor
namespace Go.AM
open Go
section
variable {P:Program}{n:Nat}{o:Oper}{st:St}{d:Nat}{T:TT}
theorem aW3 {rd:Rd}{id:Nat}{ao q:AObj}(I:o.dst=none) (hid:st.h id=some ao) (A:id∈rd.h) (u:ao.succ True q)
  (h:∀st',fL rd st st'→st'.h id=some ao→∀G S μ a w,Sim G n S μ st' a w→∃v w' y b c,(execOp a.eval o).run P w=.ok (.value v) w'∧μ id=some (b,c)∧WChg w w' b y∧
   kF S (upd μ id (some (b,c))) (upd st'.h id (some q)) w' id q∧(∀o v,S.cell b o=some v→∃vs t J,y=.cells vs t J∧vs[o]?=some v)∧(∀m,S.mapo b=some m→w.heap.size≤b)):
  Step P n o st rd ⟨none,[(id,some q)]⟩:=by
 intro st' ha G S μ a w K Q hs M;have r:st'.h id=some ao:=by rw[ha.2 id A,hid]
 obtain⟨v,w',y,b,c,O,hm,hw,hO,hS,B⟩:=h st' ha r G S μ a w hs;refine fun ro=>eS O ?_
 rw[I];have E:=gY (S:=S) (μ:=μ) r hm u;have hi:=hs.inv.chg (id:=id) (cap:=c) (ao:=q) hw (.inr ⟨ao,c,r,hm⟩) E hO hS B;refine M S (upd μ id (some (b,c))) _ _ ?_;have:=hs.put_none hi E v;unfold Eff.apply;rw[c7];exact this
theorem tS (w:World) (t e ty:TypeId) (z:Value) (ht:P.underlying t=some (.slice e)) (B:∀w,(zeroValue e).run P w=.ok z w) (E:z.cells= #[z]) (h1:z.oneCell'=true) (b off l c:Nat) (hn:0<l) (vs:List Value) (u:TypeId) (I:w.heap[b]?=some (.cells ⟨vs⟩ u (0,0))) (r:off+l≤vs.length):
  (Builtin.clear_ #[t] ty #[.slice (some ⟨b,off,none⟩) l c]).run P w=.ok (.tuple #[]) (w.setRow b ⟨vs.take off++List.replicate l z++vs.drop (off+l)⟩):=by
 have y:(Builtin.zeroCells z.cells l).toList=List.replicate l z:=by
  rw[E];simp[Builtin.zeroCells];apply List.ext_getElem
  ·simp
  ·intro i h1 h2;simp[Nat.mod_one]
 have q:=run_storeCells_at (P:=P) b off u (List.replicate l z) 0 ⟨vs⟩ w I (by simpa using r) (by intro v A;rw[List.eq_of_mem_replicate A];exact h1);simp only[Cc,length_replicate] at q;obtain⟨m,rfl⟩:∃m,l=m+1:=⟨l-1,by omega⟩
 simp[Builtin.clear_,Ag ht,B,y,q]
theorem aXd {elems:List (List C)}(h:∀r∈elems,r.length=1):elems.flatten.length=elems.length:=by
 induction elems with
 | nil=>rfl
 | cons r l q=>
  rw[Ba,ψ,q (fun r u=>h r (Bc _ u)),h r Bp,κ];omega
theorem aEq {elems:List (List C)}(h:∀r∈elems,r.length=1) (k:Nat):(elems.take k).flatten=elems.flatten.take k:=by
 induction elems generalizing k with
 | nil=>simp
 | cons r l u=>
  cases k with
  | zero=>simp
  | succ k=>
   have q:=h r Bp;rw[As,Ba,Ba,u (fun r q=>h r (Bc _ q)),List.take_append,q,Nat.add_sub_cancel,A0 (l:=r) (i:=k+1) (by omega)]
theorem xB (c:C):∀l:Nat,(List.replicate l [c]).flatten=List.replicate l c
 | 0=>rfl
 | l+1=>by rw[replicate_succ,Ba,xB c l,replicate_succ];rfl
theorem aBc {S:Sto}{c:C}{z:Value}(h:Rep S c z):∀l:Nat,bZ S (List.replicate l c) (List.replicate l z)
 | 0=>by rw[List.replicate_zero,bZ];rfl
 | l+1=>by rw[replicate_succ,replicate_succ,bZ];exact⟨_,_,rfl,h,aBc h l⟩
theorem aG2 {t e:TypeId}{x:Operand}{te id off len sz:Nat}{elems:List (List C)}{z:Value}{zc:C}(ho:o.op=.call { callee:=.builtin .clear,args:= #[x],argTypes:= #[t] }) (hd:o.dst=none) (hu:P.underlying t=some (.slice e)) (hzero:∀w,(zeroValue e).run P w=.ok z w) (hz:z.cells= #[z]) (U:z.oneCell'=true) (I:∀S,Rep S zc z)
  (hx:(opv st x=some (.one (.tl id off len sz)))∨(opv st x=some (.one (.hs id off len sz))∧off=0)) (hh:st.h id=some (.arr te 1 elems 0)) (hsz:sz=elems.length) (hlen:0<len) (hol:off+len=sz):Step P n o st ⟨opr x,[id]⟩ ⟨none,[(id,some (.arr te 1 (elems.take off++List.replicate len [zc]) 0))]⟩:=by
 have B:(elems.take off++List.replicate len [zc]).length=elems.length:=by rw[ψ,Ak,length_replicate];omega
 refine aW3 hd hh (by simp) ⟨rfl,by rw[B];exact le_refl _,fun _=>trivial⟩ fun st' ha u G S μ a w hs=>?_
 obtain⟨b,base,cap,c,y,A⟩:∃b base cap c,μ id=some (b,base,cap)∧(elems.length≤cap→a.eval x=.slice (some ⟨b,base+off,none⟩) len c):=by
  rcases hx with hx | ⟨hx,h0⟩
  ·have r:=aI hs hx ha.1;simp only[aL,aV] at r;obtain⟨_,r | ⟨Y,aa,elems',ab,h1,h2,J⟩⟩:=r
   ·rw[u] at r;cases r
   rw[u] at h1;cases h1;obtain⟨h4,b,base,cap,y,h6,E⟩:=J hsz;refine⟨b,base,cap,cap-off,y,fun hc=>?_⟩;rw[E,ζ (by omega),mul_one]
  ·have r:=aI hs hx ha.1;simp only[aL,aV] at r;obtain⟨_,r | ⟨Y,aa,elems',ab,h1,h2,J⟩⟩:=r
   ·rw[u] at r;cases r
   rw[u] at h1;cases h1;obtain⟨h4,⟨y,h6,E⟩ | ⟨b,base,cap,y,E⟩⟩:=J hsz
   ·subst h6;rw[length_nil] at hsz;omega
   ·exact⟨b,base,cap,cap-off,y,fun hc=>by rw[E,mul_one]⟩
 obtain⟨g0,vs,g1,g2,g3,g4,g5,g6,g7⟩:=(hs.inv.obj id _ u).arr y;have A:=A g3;rw[mul_one] at g2 g5;have M:=tS (P:=P) w t e o.type z hu hzero hz U b (base+off) len c hlen vs te g1 (by omega);have hW:=WChg.setRow w b ⟨vs⟩ ⟨vs.take (base+off)++List.replicate len z++vs.drop (base+off+len)⟩ te (0,0) g1;have hfl:=aXd g0;have hrl:=g5.length;refine⟨.tuple #[],_,_,b,(base,cap),?_,y,hW,⟨?_,.inr ⟨b,base,cap,_,aH _ _ _,hW.new,?_,by rw[B];exact g3,g4,?_,g6,by rw[B];exact g7.1,fun e=>by cases e⟩⟩,fun o v e=>?_,fun m e=>fG g4.2 m e⟩
 ·simp only[execOp,ho,resolve,map_toArray,An,Bz,A,ε,τ,θ,invoke,builtin,M]
 ·intro q hq;rcases A2.1 hq with hq | hq
  ·exact g0 q (By hq)
  ·rw[List.eq_of_mem_replicate hq];rfl
 ·simp only[ψ,Ak,Be,length_replicate];omega
 ·rw[B,mul_one,Ci,aEq g0,xB];have e2:((vs.take (base+off)++List.replicate len z++vs.drop (base+off+len)).drop base).take elems.length=((vs.drop base).take elems.length).take off++List.replicate len z:=by
   have hA:(vs.take (base+off)++List.replicate len z++vs.drop (base+off+len)).drop base=(vs.drop base).take off++List.replicate len z++vs.drop (base+off+len):=by
    rw[Aj,B1 (by rw[Ak];omega),drop_take,show base+off-base=off by omega,Aj]
   rw[hA,take_left' (by rw[ψ,Ak,Be,length_replicate];omega),take_take,show min off elems.length=off by omega]
  show bZ S _ (((vs.take (base+off)++List.replicate len z++vs.drop (base+off+len)).drop base).take elems.length);rw[e2];exact(g5.take off).append (aBc (I S) len)
 ·by_cases hb:base≤o
  ·rw[g6 rfl o hb] at e;cases e
  ·obtain⟨vs0,t0,fr0,q1,O⟩:=hs.inv.holds.1 b o v e;rw[g1] at q1;cases q1;refine⟨_,_,_,rfl,?_⟩;simp only[Ca] at O ⊢;have hlt:o<vs.length:=(Af.1 O).1
   rw[Aj,A6 (by simp;omega),Al,ξ (by omega)];exact O
theorem aPk {t e:TypeId}{i A:TI}{x y:Operand}{te es id len sz:Nat}{kk:IntKind}{elems:List (List C)}{fz:Nat}(U:Tok P T) (ho:o.op=.slice t x (some y) none none) (Y:o.dst=some d) (B:d<n) (hi:T[t]?=some (some i)) (hk:i.k=.sl e) (E:T[e]?=some (some A)) (_:A.size=es)
  (hx:opv st x=some (.one (.hs id 0 len sz))) (hh:st.h id=some (.arr te es elems fz)) (hsz:sz=elems.length) (hlen:1≤len) (hls:len≤sz) (hy:opv st y=some (I kk ((0:Nat):Int))):Step P n o st ⟨opr x++opr y,[id]⟩ ⟨some (d,some (.one (.hs id 0 len sz))),[]⟩:=by
 refine Step.value Y B fun st' ha G S μ a w hs=>?_
 have q:=aI hs hx fun t ht=>ha.1 t (by simp[ht])
 have J:=dS (aI hs hy fun t ht=>ha.1 t (by simp[ht]));have u:st'.h id=some (.arr te es elems fz):=by rw[ha.2 id (by simp),hh]
 have M:=q;simp only[aL,aV] at q;obtain⟨_,q | ⟨te',es',elems',fz',h1,h2,h3⟩⟩:=q
 ·rw[u] at q;cases q
 rw[u] at h1;cases h1;obtain⟨h4,⟨h5,r,h7⟩ | ⟨b,base,cap,h5,r⟩⟩:=h3 hsz
 ·subst r;simp at hsz;omega
 rw[zero_mul,Cc,sub_zero] at r;refine⟨a.eval x,?_,M⟩;have O:=aA8 (P:=P) U hi hk E w (some ⟨b,base,none⟩) len cap 0 kk (Ae _);simp only[execOp,ho,Bx,Option.map_none,r,J,ε,τ] at O ⊢;rw[O];by_cases hc:cap=0
 ·simp[hc]
 ·simp[hc,Addr.add_mid]
end
end Go.AM
namespace Go.Proofs.YtkhgpgihmphfdaaGreatDoor
open Go Go.AM
set_option maxRecDepth 20000
set_option maxHeartbeats 4000000
theorem aJb (s:Str) (t:Tk):bI Tryz.prog 162 ([Go.AM.T s]++[R.c (.pt (aK t))].map V.one) [] (B (decide (s=t.text))) []:=by
 refine bM (n:=8) tok Tryz.func162 rfl rfl rfl ?_;exact sg rfl (sg rfl (aD rtT))
def aLy (v:Str) (l:List Str) (m:Nat):Int:=match (l.drop m).findIdx? (fun s=>decide (s=v)) with
 | none=> -1
 | some d=>((m+d:Nat):Int)
theorem aLx (v:Str) (l:List Str):aLy v l l.length= -1:=by unfold aLy;rw[Cq];rfl
theorem aIf (v:Str) {l:List Str}{m:Nat}{s:Str}(h:l[m]?=some s):aLy v l m=if s=v then(m:Int) else aLy v l (m+1):=by
 obtain⟨h1,h2⟩:=Af.1 h;have q:=Bf h1;rw[h2] at q;unfold aLy;rw[q,List.findIdx?_cons];by_cases hp:s=v
 ·rw[ξ (χ hp),ξ hp];rfl
 ·rw[ζ (by rw[φ hp];exact π),ζ hp];cases (l.drop (m+1)).findIdx? _ with
  | none=>rfl
  | some d=>simp;omega
def svA (l:List (List C)) (f:Nat):AObj:=.arr 9 1 l f
theorem aVs (l:List Str) (hl:l.length≤1000000000) (t:Tk):bI Tryz.prog 196 [hsV 710 l.length,.one (.clo 162 [.c (.pt (aK t))])] [(710,svA (l.map aR) 0)] (I .i64 (aLy t.text l 0)) [(710,svA (l.map aR) 0)]:=by
 have A:(l.map aR).length=l.length:=η _;refine bM (n:=19) tok Tryz.func196 rfl rfl rfl ?_;refine sg rfl (aA (sg rfl (aE (aP (fun i:Nat=>mk [(0,hsV 710 l.length),(1,.one (.clo 162 [.c (.pt (aK t))])),(7,I .i64 (l.length:Int)),(8,I .i64 i)] [(710,svA (l.map aR) 0)]) (fun i=>i≤l.length∧aLy t.text l 0=aLy t.text l i) (fun i=>l.length-i) 0 ⟨Ae _,rfl⟩ sl ?_))));intro i ⟨hi,hid⟩;refine sg rfl (aA (aB rfl (fun hb=>?_) (fun hb=>?_)))
 ·have q:i<l.length:=by have:=ω hb;omega
  obtain⟨x,r⟩:=aJ q;have y:=b9 aR r;have hc:=aJb x t;rw[aIf _ r] at hid;refine aF (aA (aE (sg rfl (skh 5 [(4,.row i (aR x))] rfl (kv (args:=[Go.AM.T x]) hc ?_)))));refine az (aB rfl (fun hb=>?_) (fun hb=>?_))
  ·rw[ξ (ω hb)] at hid;rw[hid];exact sg rfl (aD rtT)
  ·rw[ζ (Ai hb)] at hid;exact aF (ag [] rfl ⟨i+1,⟨q,hid⟩,by dsimp only;omega,sl⟩)
 have u:i=l.length:=by have:=Ai hb;omega
 subst u;rw[aLx] at hid;rw[hid];exact aS (sg rfl (aD rtT))
def dl (v:Str) (l:List Str):List Str:=l.filter (fun s=>!decide (s=v))
theorem aYe (v:Str) (l:List Str):(dl v l).length≤l.length:=List.length_filter_le _ _
theorem aIq {v:Str}{l:List Str}(h:∀s∈l,¬s=v):dl v l=l:=filter_eq_self.2 fun s hs=>by rw[φ (h s hs)];rfl
theorem aIp {v:Str}{l:List Str}{i:Nat}{x:Str}(h:l[i]?=some x):dl v (l.take (i+1))=if x=v then dl v (l.take i) else dl v (l.take i)++[x]:=by
 unfold dl;rw[Bw,h,List.filter_append];by_cases hx:x=v
 ·rw[ξ hx];show _++List.filter _ [x]=_;rw[Cd,ζ (by rw[χ hx];decide)];simp
 ·rw[ζ hx];show _++List.filter _ [x]=_;rw[Cd,ξ (by rw[φ hx];rfl)];rfl
def aFk (v:Str) (l:List Str):List (List C):=(dl v l).map aR++List.replicate (l.length-(dl v l).length) [.str []]
theorem aJa (l:List Str) (hl:l.length≤1000000000) (t:Tk):bI Tryz.prog 161 [hsV 710 l.length,.one (.clo 162 [.c (.pt (aK t))])] [(710,svA (l.map aR) 0)] (.one (.c (.sl 1 ((dl t.text l).map aR)))) [(710,svA (aFk t.text l) 2)]:=by
 have aa:(l.map aR).length=l.length:=η _;have A:=aVs l hl t;unfold aLy at A;rw[B8] at A;refine bM (n:=42) tok Tryz.func161 rfl rfl rfl ?_;refine sg rfl (sk 2 rfl (kc A ?_));refine kz 1 rfl ?_;cases hf:l.findIdx? (fun s=>decide (s=t.text)) with
 | none=>
  have ab:∀s∈l,¬s=t.text:=fun s hs he=>by
   have:=(List.findIdx?_eq_none_iff.1 hf) s hs;rw[χ he] at this;cases this
  have e1:aFk t.text l=l.map aR:=by
   unfold aFk;rw[aIq ab,Ch,List.replicate_zero,Bm]
  rw[e1,aIq ab];dsimp only;refine aA (sg rfl (aB rfl (fun _=>AWp.sub (Sub.freeze (id:=710) rfl) ?_) (fun hb=>Bool.noConfusion hb)));exact sg rfl (aD (rtH (hsz:=aa.symm) (hlen:=aa.symm)))
 | some d=>
 obtain⟨J,ac,ad⟩:=List.findIdx?_eq_some_iff_getElem.1 hf;have ae:l[d]?=some t.text:=by rw[List.getElem?_eq_getElem J,ω ac]
 have af:dl t.text (l.take d)=l.take d:=aIq fun s hs he=>by
  obtain⟨j,hj1,ah⟩:=List.mem_iff_getElem.1 hs;rw[Ak] at hj1;rw[List.getElem_take] at ah;exact ad j (by omega) (by rw[ah];exact χ he)
 have M:dl t.text (l.take (d+1))=l.take d:=by rw[aIp ae,ξ rfl,af]
 dsimp only;rw[Bb];have dn:decide (((d:Nat):Int)= -1)=false:=φ (by omega);refine aA (sg rfl (aB rfl (fun hb=>absurd (hb.symm.trans dn) Bool.noConfusion) (fun _=>aF (aA (aA (agN [] rfl (aE (aP (fun q:List Str×Nat×Nat=>mk [(0,hsV 710 l.length),(1,.one (.clo 162 [.c (.pt (aK t))])),(5,I .i64 (q.2.1:Nat)),(6,I .i64 (q.2.2:Nat))] [(710,svA (q.1.map aR) 0)]) (fun q=>q.1.length=l.length∧q.2.1<q.2.2∧q.2.2≤l.length∧q.1.take q.2.1=dl t.text (l.take q.2.2)∧q.1.drop q.2.2=l.drop q.2.2) (fun q=>l.length-q.2.2) (l,d,d+1) ⟨rfl,by dsimp only;omega,J,M.symm,rfl⟩ sl ?_))))))));clear A M af ae J ac ad hf dn;rintro⟨R,k,i⟩ ⟨u,hki,hi,ht,O⟩;dsimp only at u hki hi ht O ⊢;have B:(R.map aR).length=R.length:=η _;refine aA (sg rfl (aB rfl (fun hb=>?_) (fun hb=>?_)))
 ·have U:i<l.length:=by have:=ω hb;omega
  obtain⟨x,hx⟩:=aJ U;have hRx:R[i]?=some x:=by
   have h1:(R.drop i)[0]?=(l.drop i)[0]?:=by rw[O]
   rw[Am,Am,Cc] at h1;rw[h1,hx]
  obtain⟨y,hy⟩:=aJ (l:=R) (k:=k) (by omega);have hRx':=b9 aR hRx;have hy':=b9 aR hy;have hc:=aJb x t;have E:=aIp (v:=t.text) hx;have Y:R.drop (i+1)=l.drop (i+1):=by
   rw[←Cr,←Cr,O]
  refine aF (aA (aE (sgh [(3,.row i (aR x))] rfl (sk 2 rfl (kv (args:=[Go.AM.T x]) hc ?_)))));refine kz 1 rfl (aB rfl (fun hb=>?_) (fun hb=>?_))
  ·have hne:¬x=t.text:=fun e=>by rw[χ e] at hb;cases hb
   rw[ζ hne] at E;have hs1:(R.map aR).set k (aR x)=(R.set k x).map aR:=by rw[map_set]
   refine sgh [(4,.row k (aR y))] rfl (agN [] rfl (agN [] rfl ⟨(R.set k x,k+1,i+1),⟨by dsimp only;rw[length_set,u],by dsimp only;omega,U,?_,?_⟩,by dsimp only;omega,sl (hh:=⟨⟨_,rfl,.arrS hs1⟩,trivial⟩)⟩))
   ·dsimp only;rw[E,←ht,Bw,List.getElem?_set_self (by omega),List.take_set_of_le (by omega)];rfl
   ·dsimp only;rw[List.drop_set_of_lt (by omega),Y]
  ·have he:x=t.text:=by
    by_cases he:x=t.text
    ·exact he
    ·rw[φ he] at hb;cases hb
   rw[ξ he] at E;exact aF (agN [] rfl ⟨(R,k,i+1),⟨u,by dsimp only;omega,U,by dsimp only;rw[E,ht],Y⟩,by dsimp only;omega,sl⟩)
 have hge:i=l.length:=by have:=Ai hb;omega
 subst hge;rw[Aw] at ht;have hk:(dl t.text l).length=k:=by rw[←ht,Ak];omega
 have r:(R.map aR).take k++List.replicate (l.length-k) [.str []]=aFk t.text l:=by
  unfold aFk;rw[hk,←ht,List.map_take]
 have htk:(aFk t.text l).take k=(dl t.text l).map aR:=by
  unfold aFk;rw[take_left' (by rw[η,hk])]
 have ai:(aFk t.text l).length=l.length:=by
  unfold aFk;rw[ψ,η,length_replicate,hk];omega
 refine aS (aA (AWp.cut (mk [(0,hsV 710 l.length),(5,I .i64 (k:Nat))] [(710,svA (aFk t.text l) 0)]) ?_ ?_))
 ·refine aC mixed (ak 2 [] rfl ?_);by_cases h0:k=0
  ·subst h0;refine k_ (g_ rfl rfl (aPk tok rfl rfl (jH rfl) (tg rfl) rfl (tg rfl) rfl rfl (by omega) (by omega) rfl (hh:=rfl) (hsz:=by rw[B,u]))) ?_;refine k_ (g_ rfl rfl (aG2 (e:=9) (z:=.string ⟨#[]⟩) (zc:=.str []) rfl rfl (by kernel_rfl) (fun w=>by kernel_rfl) rfl rfl (fun S=>by rw[Rep]) (.inr ⟨rfl,rfl⟩) rfl (by rw[B,u]) (by omega) (by omega))) ?_;refine az ?_;rw[sub_zero] at r;exact sl (hh:=⟨⟨_,rfl,.arrS r⟩,trivial⟩)
  ·refine k_ (g_ rfl rfl (aTh k tok rfl rfl (jH rfl) (tg rfl) rfl (tg rfl) rfl rfl (hh:=rfl) (hsz:=by rw[B,u]) (hlen:=rfl) (hy:=rfl) (hl:=⟨by omega,by omega⟩))) ?_;refine k_ (g_ rfl rfl (aG2 (e:=9) (z:=.string ⟨#[]⟩) (zc:=.str []) rfl rfl (by kernel_rfl) (fun w=>by kernel_rfl) rfl rfl (fun S=>by rw[Rep]) (.inl rfl) rfl (by rw[B,u]) (by omega) (by omega))) ?_;exact az (sl (hh:=⟨⟨_,rfl,.arrS r⟩,trivial⟩))
 have hkd:k≤(aFk t.text l).length:=by omega
 refine AWp.sub (Sub.freeze (id:=710) rfl) ?_;refine AWp.sub (cv 0 (aFk t.text l) (h1:=ai.symm) (h2:=ai.symm)) ?_;refine sg rfl ?_;rw[htk];exact aD rtT
def hs7 (l:List Str):V:=.one (.hs 710 0 l.length l.length)
def sv7 (l:List Str):AObj:=.arr 9 1 (l.map aR) 0
theorem aMe (l:List Str) (s:Str) (h:l.length≤600000000000):bI Tryz.prog 148 [.one (.hs 710 0 l.length l.length),Go.AM.T s] [(710,.arr 9 1 (l.map aR) 0)] (I .i64 (zW s l 0)) [(710,.arr 9 1 (l.map aR) 0)]:=by
 refine bM (n:=19) tok Tryz.func148 rfl rfl rfl ?_;refine sg rfl (aA (sg rfl ?_));have y:(l.map aR).length=l.length:=η _;refine aE (aP (fun i:Nat=>mk [(0,.one (.hs 710 0 l.length l.length)),(1,Go.AM.T s),(7,I .i64 (l.length:Int)),(8,I .i64 i)] [(710,.arr 9 1 (l.map aR) 0)]) (fun i=>i≤l.length∧zW s l 0=zW s (l.drop i) i) (fun i=>l.length-i) 0 ⟨Ae _,rfl⟩ sl ?_);intro i ⟨hi,he⟩;refine sg rfl (aA (aB rfl (fun hb=>?_) (fun hb=>?_)))
 ·have q:i<l.length:=by have:=ω hb;omega
  obtain⟨x,hx⟩:=aJ q;have A:=b9 aR hx;have u:l.drop i=x::l.drop (i+1):=by rw[Bf q,(Af.1 hx).2]
  rw[u,zW] at he;refine aF (aA (aE (sg rfl (sgh [(4,.row i (aR x))] rfl (aB rfl (fun hb=>?_) (fun hb=>?_))))))
  ·have hs:s=x:=ω hb;rw[ξ hs] at he;rw[he];exact sg rfl (aD rtT)
  ·have hs:¬s=x:=Ai hb;rw[ζ hs] at he;exact aF (ag [] rfl ⟨i+1,⟨q,he⟩,by dsimp only;omega,sl⟩)
 ·have r:i=l.length:=by have:=Ai hb;omega
  subst r;rw[Cq,zW] at he;rw[he];exact aS (sg rfl (aD rtT))
theorem aAf (l:List Str) (s:Str) (h:l.length≤600000000000):bI Tryz.prog 107 [.one (.hs 710 0 l.length l.length),Go.AM.T s] [(710,.arr 9 1 (l.map aR) 0)] (B (decide (s∈l))) [(710,.arr 9 1 (l.map aR) 0)]:=by
 have hi:=aMe l s h;refine bM (n:=9) tok Tryz.func107 rfl rfl rfl ?_;refine sg rfl (sk 2 rfl (kc hi ?_));refine kz 2 rfl ?_;rw[←uK s l 0 (by omega)];exact aD rtT
def aSl (s:Sch):List AM.R:=[.hs 710 0 s.vars.length s.vars.length,.c .nl,.c (.sl 5 (s.preds.map aQ)),.c (.int .i64 s.ty.form),.c (.int .i64 s.ty.n),.c (.str s.ty.name),.c (.sl 4 (eI s.ty))]
theorem aE2 (L:List Tk) (hZ:pG L) (R:List Tk) (i:Nat) (U:At L i R) (hwt:wt L≤30000) {s:Sch}{R':List Tk}(hok:cG R=.ok (s,R')):bI Tryz.prog 195 [yS L,I .i64 (i:Nat)] [] (.tup [.ma (aSl s),I .i64 ((L.length-R'.length:Nat):Int),atV 0 0]) [(710,svA (s.vars.map aR) 0)]:=by
 have hp:=uW L hZ R i U;have ac:= @n0 R;have am:= @iY R;unfold cG at hok;refine bM (n:=74) tok Tryz.func195 rfl rfl rfl ?_;refine sg rfl (sk 2 rfl (kc hp ?_));generalize cH R=w at ac am hok ⊢;cases w with
 | error e=>
  obtain⟨e,p⟩:=e;rw[qP] at hok;cases hok
 | ok y=>
 obtain⟨ps,R1⟩:=y;obtain⟨k1,⟨q,k2,_⟩,k3,k4⟩:=ac rfl;obtain⟨ad,hn1⟩:=U.to k2 (k1 U.e);rw[qP] at hok;rw[o8,hn1];generalize i+q.length=j at ad;have hty:=aC2 L hZ R1 j ad;have ae:=jM (3*R1.length+2) 0 R1;have hte:=gM (3*R1.length+2) 0 R1;have Y:wt R≤30000:=by
  have:L=L.take i++R:=by rw[←U.d,take_append_drop]
  rw[this] at hwt;exact le_trans sC hwt
 have hwtR1:wt R1≤30000:=by rw[k2] at Y;exact le_trans sC Y
 have hRl:=U.lt;have hLl:=U.l;unfold atV;refine kz 8 rfl (aA (sg rfl (aB rfl (fun hb=>absurd hb (by decide)) (fun _=>aF (sk 2 rfl (kc hty ?_))))));generalize bV (3*R1.length+2) 0 R1=w at ae hte hok ⊢;cases w with
 | error e=>
  obtain⟨e,p⟩:=e;rw[nZ] at hok;cases hok
 | ok y=>
 obtain⟨x,R2⟩:=y;obtain⟨hT,hTn⟩:=ae x R2 rfl;rw[nZ] at hok;cases hok;rw[k9];unfold aSl;unfold atV;dsimp only;generalize ((L.length-R'.length:Nat):Int)=m;refine kz 8 rfl (aA (sg rfl (aB rfl (fun hb=>absurd hb (by decide)) (fun _=>aF (sg rfl ?_)))));have hsv:aTd ps x=gP [] (ps++[(⟨[],x⟩:Prd)]):=by rw[zT];rfl
 rw[hsv];have E:∀p∈ps++[(⟨[],x⟩:Prd)],WF p.ty∧tn p.ty≤30000:=fun p hp=>by
  rcases A2.1 hp with hp | hp
  ·exact⟨(k3 p hp).1,by have:=(k3 p hp).2;omega⟩
  ·rw[Ar.1 hp];exact⟨hT.w,by show tn x≤30000;omega⟩
 have hcl:=nM (ps.map aQ) (by rw[η];omega);have hkl:(ps.map aQ).length=ps.length:=η _;have O:ps.map aQ++[[.str [],.int .i64 x.form,.int .i64 x.n,.str x.name,.sl 4 (eI x)]]=(ps++[(⟨[],x⟩:Prd)]).map aQ:=by rw[Ah];rfl
 have af:(ps++[(⟨[],x⟩:Prd)]).length=ps.length+1:=by rw[ψ];rfl
 generalize ps++[(⟨[],x⟩:Prd)]=u at E O af ⊢;have hqe:(u.map aQ).length=u.length:=η _;refine aA (sk 1 rfl (kc hcl ?_));refine ak 6 [(4,.all),(5,.fz)] rfl (az (AWp.sub (Sub.own (t:=10) (id:=710) 9 1 rfl rfl) ?_));have B:∀r:List C,(ps.map aQ).length+[r].length=u.length:=fun r=>by rw[hkl,af];rfl
 refine aE (aP (fun k:Nat=>mk [(1,I .i64 m),(4,.one (.vp 4 0)),(6,.one (.vp 6 0)),(7,.one (.c (.sl 5 (ps.map aQ)))),(9,.one (.vp 9 0)),(10,hs7 (gP [] (u.take k))),(44,.one (.hs 720 0 u.length u.length)),(45,I .i64 (u.length:Nat)),(46,I .i64 (k:Nat))] [(4,.var 45 aKh),(6,.var 33 [.c (.int .i64 0),.c (.int .i64 0)]),(9,.var 43 ((bG x).map .c)),(710,sv7 (gP [] (u.take k))),(720,.arr 98 5 (u.map aQ) 2)]) (fun k=>k≤u.length) (fun k=>u.length-k) 0 (Ae _) (sl (he:=⟨rfl,rfl,rfl,rfl,rfl,rfl,Go.AM.hs_ren (B _) (B _),Go.AM.int_eq (congrArg Int.ofNat (B _)),rfl,trivial⟩) (hh:=⟨⟨_,rfl,.var rfl⟩,⟨_,rfl,.var rfl⟩,⟨_,rfl,.var rfl⟩,⟨_,rfl,.arrS rfl⟩,⟨_,rfl,.arrS O⟩,trivial⟩)) ?_);intro k hk;have hgl:(gP [] (u.take k)).length≤4002*30000:=by
  have h1:=aCc (W:=30000) (u.take k) [] (fun p hp=>(E p (By hp)).2);rw[Ak,length_nil] at h1;have:min k u.length*30000≤4002*30000:=Ax _ (by omega);omega
 refine sg rfl (aA (aB rfl (fun hb=>?_) (fun hb=>?_)))
 ·have ah:k<u.length:=by have:=ω hb;omega
  obtain⟨p,hp⟩:=aJ ah;have hp':=b9 aQ hp;have hpm:=E p (Aa hp);have ai:=aC6 p.ty (by have:=aUu p.ty;omega);have htf:=sD p.ty;have aa:=aIc hp;generalize gP [] (u.take k)=o at hgl aa ⊢;generalize tfR p.ty=l at ai htf aa ⊢;have aj:(l.map aR).length=l.length:=η _;refine aF (aA (aE (sgh [(1,.row k (aQ p))] rfl (sk 2 rfl (kc ai ?_)))));refine kz 2 rfl (aE (aP (fun j:Nat=>mk [(1,I .i64 m),(4,.one (.vp 4 0)),(6,.one (.vp 6 0)),(7,.one (.c (.sl 5 (ps.map aQ)))),(9,.one (.vp 9 0)),(10,hs7 (oY o (l.take j))),(44,.one (.hs 720 0 u.length u.length)),(45,I .i64 (u.length:Nat)),(46,I .i64 (k:Nat)),(52,eG l),(53,I .i64 ((l.map aR).length:Nat)),(54,I .i64 (j:Nat))] [(4,.var 45 aKh),(6,.var 33 [.c (.int .i64 0),.c (.int .i64 0)]),(9,.var 43 ((bG x).map .c)),(710,sv7 (oY o (l.take j))),(720,.arr 98 5 (u.map aQ) 2)]) (fun j=>j≤l.length) (fun j=>l.length-j) 0 (Ae _) sl ?_));intro j hj;refine sg rfl (aA (aB rfl (fun hb=>?_) (fun hb=>?_)))
  ·have J:=ltD hb aj;obtain⟨s,hs⟩:=aJ J;have hs':=b9 aR hs;have A:oY o (l.take (j+1))=aHt (oY o (l.take j)) s:=by rw[Bw,hs,aB0];rfl
   have hml:(oY o (l.take j)).length≤1000000000:=by
    have:=n9 (l.take j) o;rw[Ak] at this;omega
   have al:=aAf (oY o (l.take j)) s (by omega);generalize oY o (l.take j)=M at A hml al ⊢;have hml':(M.map aR).length=M.length:=η _;refine aF (aA (aE (sgh [(0,.row j (aR s))] rfl (sk 2 rfl (kc al ?_)))));refine kz 1 rfl (aB rfl (fun hb=>?_) (fun hb=>?_))
   ·have hm:¬s∈M:=fun h=>by rw[χ h] at hb;cases hb
    unfold aHt at A;rw[ζ hm] at A;refine ag [(2,.all)] rfl (ag [] rfl ⟨j+1,J,by dsimp only;omega,?_⟩);dsimp only;rw[A];exact sl
   ·have hm:s∈M:=by
     by_cases h:s∈M
     ·exact h
     ·rw[φ h] at hb;cases hb
    unfold aHt at A;rw[ξ hm] at A;refine aF (ag [] rfl ⟨j+1,J,by dsimp only;omega,?_⟩);dsimp only;rw[A];exact sl
  ·have ab:=geD hb aj hj;subst ab;rw[Aw];refine aS (ag [] rfl ⟨k+1,ah,by dsimp only;omega,?_⟩);dsimp only;rw[aa];exact sl
 ·have ab:k=u.length:=by have:=Ai hb;omega
  subst ab;rw[Aw];exact aS (sg rfl (aD jP))
theorem aL9 (s:Str):bI Tryz.prog 85 [Go.AM.T s] [] (tyV (.mk 2 0 s [])) []:=by
 refine bM (n:=5) tok Tryz.func85 rfl rfl rfl ?_;exact sg rfl (sg rfl (aD (rtC trw)))
theorem aAc {L:List Tk}{z:Z}(h:ZA L z) (hZ:pG L) (hwt:wt L≤30000) {s:Sch}{R':List Tk}(hok:cG z.R=.ok (s,R')):bI Tryz.prog 160 [rP] [(600,rO L z)] (.ma (aSl s)) [(600,rO L ⟨R',z.e,z.p⟩),(710,sv7 s.vars)]:=by
 have q:=aE2 L hZ z.R _ h hwt hok;have hm:=bF 0 0;unfold atV aSl at q;unfold aSl;refine bM (n:=35) tok Tryz.func160 rfl rfl rfl ?_;refine sg rfl (sk 10 rfl (kc q ?_));refine kz 9 rfl (sk 7 rfl (kc hm ?_));exact az (sg rfl (sg rfl (aD (rtC trw))))
def aEo (nm v:Tk) (sup:List Str) (ms:List Sg):List (Nat×AObj):=[(1,pR),(6,.var 87 [.c (.str nm.text),.c (.int .i64 nm.pl),.c (.str v.text),.c .nl,.c (.sl 1 (sup.map aR)),.hs 530 0 ms.length ms.length]),(530,.arr 100 9 (ms.map eC) 0)]
def clS (nm v:Tk) (s:List Sg) (z:Z):List Sg×Z:=(s++[(fS nm.text v.text z).1],cB (s++[(fS nm.text v.text z).1]).length 16 nm.pl (fS nm.text v.text z).2)
theorem aVw {L:List Tk}(hZ:pG L) (hwt:wt L≤30000) (q v:Tk) (sup:List Str) (ms:List Sg) {z:Z}(h:ZA L z) (he:z.e=0) (h2:ms.length≤4001):
  b8 Tryz.prog 159 ([]++[R.vp 1 0,R.c (.pt (aK v)),R.vp 6 0,R.c (.pt (aK q))].map V.one) ((600,rO L z)::aEo q v sup ms) (gD L (.tup []) (clS q v ms z).2 (aEo q v sup (clS q v ms z).1)):=by
 have hmk:(ms.map eC).length=ms.length:=η _;unfold clS fS;dsimp only;have hw:=i6 h he 1 (by decide);have g1:=h.word (k:=1) (by decide);generalize aO 1 z=w at hw g1 ⊢;obtain⟨A,z1⟩:=w;dsimp only at hw g1 ⊢;refine nC (n:=50) tok Tryz.func159 rfl rfl rfl rfl ?_;by_cases u:z1.e=0
 case neg=>
  have hp:=b8.err hw u;rw[bD u,tD u];dsimp only;rw[eF u,aG u];exact sk 1 rfl (kp hp)
 have hw:=b8.ok hw u;refine sk 1 rfl (kc hw ?_);refine ak 2 [(2,.id 41)] rfl (az ?_);have B:=cZ g1 u fH;have g2:=g1.need fH;generalize aN fH z1=z2 at B g2 ⊢;by_cases r:z2.e=0
 case neg=>
  have hp:=b8.err B r;rw[tD r];dsimp only;rw[eF r,aG r];exact sk 1 rfl (kp hp)
 have B:=b8.ok B r;refine sk 1 rfl (kc B ?_);refine az ?_;have E:=lP g2 r hZ hwt;have J:= @aAc L z2 g2 hZ hwt;have I:=gH g2 hwt;unfold bK at E I ⊢;rw[ξ r] at E I;simp only[ξ r];cases O:cG z2.R with
 | error e=>
  obtain⟨e,p⟩:=e;rw[O] at E;have Y:=qO O;dsimp only[aTc] at E ⊢;have hp:=b8.err (z:=⟨z2.R,e,p⟩) E Y;rw[eF (show ¬(Z.mk z2.R e p).e=0 from Y),aG (show ¬(Z.mk z2.R e p).e=0 from Y)];exact sk 1 rfl (kp hp)
 | ok y=>
 obtain⟨s,R'⟩:=y;rw[O] at I;have J:=J O;dsimp only[aTc] at I ⊢;obtain⟨k1,k2,_,_⟩:=I;unfold aSl sv7 at J;have aa:=aJa s.vars (by have:=k2.v;omega) v;unfold svA at aa;have htv:bI Tryz.prog 85 [Go.AM.T v.text] [] (.pa [.int .i64 2,.int .i64 0,.str v.text,.sl 4 []]) []:=aL9 v.text;have hq1:((dl v.text s.vars).map aR).length=(dl v.text s.vars).length:=η _;have hq2:=aYe v.text s.vars;have hq3:=k2.v;have hq4:(s.preds.map aQ).length=s.preds.length:=η _;have hq5:=k2.l;refine sk 1 rfl (kc J ?_);refine ak 2 [(2,.id 42)] rfl (az (skh 6 [(2,.id 540)] rfl (kc aa ?_)));refine kz 3 rfl (sk 4 rfl (kc htv ?_));refine ak 7 [(6,.id 541)] rfl (az (AWp.sub (Sub.freeze (id:=540) rfl) ?_));refine AWp.sub (Sub.freeze (id:=541) rfl) ?_;have hv1:[[C.str v.text]]++(dl v.text s.vars).map aR=(rU q.text v.text s).vars.map aR:=rfl;have hv2:[[C.str q.text,.int .i64 2,.int .i64 0,.str v.text,.sl 4 []]]++s.preds.map aQ=(rU q.text v.text s).preds.map aQ:=rfl;refine AWp.sub (vp 42 (nE (rU q.text v.text s)) (hp:=.hs rfl (by rw[ψ]) (hv1.symm.trans (Go.AM.take_all (by rw[ψ]))) (.c .nl (.hs rfl (by rw[ψ]) (hv2.symm.trans (Go.AM.take_all (by rw[ψ]))) (.c .refl (.c .refl (.c .refl (.c .refl .nil)))))))) ?_;have U:ms.map eC++[eC ⟨A.text,A.pl,rU q.text v.text s⟩]=(ms++[(⟨A.text,A.pl,rU q.text v.text s⟩:Sg)]).map eC:=by rw[Ah];rfl
 have hle:(ms++[(⟨A.text,A.pl,rU q.text v.text s⟩:Sg)]).length=ms.length+1:=by rw[ψ];rfl
 refine sgh [(8,.all)] rfl ?_;generalize ms++[(⟨A.text,A.pl,rU q.text v.text s⟩:Sg)]=M at U hle ⊢;refine AWp.sub (st2:=mk [(0,.one (.vp 1 0)),(1,.one (.c (.pt (aK v)))),(2,.one (.vp 6 0)),(3,.one (.c (.pt (aK q))))] ((600,rO L ⟨R',z2.e,z2.p⟩)::aEo q v sup M)) (sl (hh:=⟨⟨_,rfl,.var rfl⟩,⟨_,rfl,.var rfl⟩,⟨_,rfl,.var (by rw[hle,←hmk];rfl)⟩,⟨_,rfl,.arrS U⟩,trivial⟩)) ?_;by_cases hM:M.length≤16
 case neg=>
  have d:decide (((M.length:Nat):Int)≤16)=false:=φ (by omega);have hm:=bH 2 q.pl;rw[fU hM (show(Z.mk R' z2.e z2.p).e=0 from r),aG cK];refine aC mixed (ak 6 [] rfl ?_);rw[d];exact kp hm
 have d:decide (((M.length:Nat):Int)≤16)=true:=χ (by omega);have hm:=bF 2 q.pl;rw[fT hM,b4 (show(Z.mk R' z2.e z2.p).e=0 from r)];refine aC mixed (ak 6 [] rfl ?_);rw[d];refine kc hm ?_;exact az rtN
theorem uA (q v:Tk):∀(f n:Nat) (out:List Sg) (z:Z),dK q.text v.text q.pl f n out z=lpZ b5 (clS q v) f n out z
 | 0,_,_,_=>rfl
 | f+1,n,out,z=>by
  rw[dK,lpZ];split
  ·exact uA q v f _ _ _
  ·rfl
theorem tC {v:Str}{a:Int}{l:List Prd}{out:List Str}{z:Z}(h:¬z.e=0):(bP v a l out z).2=z:=by
 cases l with
 | nil=>rfl
 | cons p l=>rw[bP,ζ h]
theorem mR {y:List Prd×Tk×Tk×Z}(h:¬y.2.2.2.e=0):aN b5 (iL y (cO y)).2=y.2.2.2:=by
 have h1:(cO y).2=y.2.2.2:=by unfold cO;dsimp only;rw[tC h];exact bD h
 unfold iL;rw[uA,gA (by rw[h1];exact h),h1];exact bD h
theorem aRj (B v:Tk) (sup:List Str) {step:(List Sg)→Z→(List Sg)×Z}{Inv:Nat→(List Sg)→Prop}{L:List Tk}{N:Nat}
  (hone:∀n s z,Inv n s→n<60→ZA L z→z.e=0→z.R.length≤N→b8 Tryz.prog 159 ([]++[R.vp 1 0,R.c (.pt (aK v)),R.vp 6 0,R.c (.pt (aK B))].map V.one) ((600,rO L z)::aEo B v sup s) (gD L (.tup []) (step s z).2 (aEo B v sup (step s z).1)))
  (hst:∀n s z,Inv n s→n<60→ZA L z→z.e=0→ZA L (step s z).2∧Inv (n+1) (step s z).1∧((step s z).2.e=0→(step s z).2.R.length<z.R.length)∧Ze z (step s z).2)
  {z:Z} (h:ZA L z) (he:z.e=0) (hN:z.R.length≤N) {s:(List Sg)} (hI:Inv 0 s):
  b8 Tryz.prog 113 [rP,.one (.clo 194 [R.vp 2 0]),.one (.clo 159 [R.vp 1 0,R.c (.pt (aK v)),R.vp 6 0,R.c (.pt (aK B))])] ((600,rO L z)::(2,pR)::aEo B v sup s) (gD L (.tup []) (lpZ b5 step (z.R.length+1) 0 s z).2 ((2,pR)::aEo B v sup (lpZ b5 step (z.R.length+1) 0 s z).1)):=by
 have r:∃W,W=lpZ b5 step (z.R.length+1) 0 s z:=⟨_,rfl⟩
 obtain⟨W,r⟩:=r;rw[←r];refine nC (n:=35) tok Tryz.func113 rfl rfl rfl rfl ?_;refine sg rfl (aE (aP (fun q:Nat×(List Sg)×Z×Nat=>mk [(0,rP),(1,.one (.clo 194 [R.vp 2 0])),(2,.one (.clo 159 [R.vp 1 0,R.c (.pt (aK v)),R.vp 6 0,R.c (.pt (aK B))])),(6,I .i64 (q.1:Nat))] ((600,rO L q.2.2.1)::(2,pR)::aEo B v sup q.2.1)) (fun q=>Inv q.1 q.2.1∧q.1≤60∧ZA L q.2.2.1∧q.2.2.1.e=0∧q.2.2.1.R.length≤N∧q.2.2.1.R.length<q.2.2.2∧moreA b5 q.1 q.2.2.1=q.2.2.1∧W=lpZ b5 step q.2.2.2 q.1 q.2.1 q.2.2.1) (fun q=>q.2.2.1.R.length) (0,s,z,z.R.length+1) ⟨hI,Ae _,h,he,hN,lt_succ_self _,r5 _ _,r⟩ sl ?_));clear r h he hN hI;rintro⟨n,s,z,f⟩ ⟨hI,hn,h,he,hN,hf,hA,r⟩;dsimp only at hI hn h he hN hf hA r;refine aE (aA (aE (aP (fun y:Z=>mk [(0,rP),(1,.one (.clo 194 [R.vp 2 0])),(2,.one (.clo 159 [R.vp 1 0,R.c (.pt (aK v)),R.vp 6 0,R.c (.pt (aK B))])),(6,I .i64 (n:Nat))] ((600,rO L y)::(2,pR)::aEo B v sup s)) (fun y=>ZA L y∧y.e=0∧cV z=cV y∧y.R.length≤z.R.length) (fun y=>y.R.length) z ⟨h,he,rfl,le_refl _⟩ sl ?_)));rintro y ⟨h2,A,e2,hle2⟩

 have hm:=fD h2 A cL;obtain⟨m1,m2,m3⟩:=nA h2;have O:=h2.may cL;have he3:=(iE cL y).trans A;generalize bX cL y=m at hm m1 m2 m3 O he3;obtain⟨b,z3⟩:=m;dsimp only at m1 m2 m3 O he3;refine aA (sk 1 rfl (kc hm ?_));refine az (aB rfl (fun hb=>?_) (fun hb=>?_))
 ·have hb:b=true:=hb;have:=m3 hb;exact aF (aE (aF ⟨z3,⟨O,he3,e2.trans m1.symm,by omega⟩,m3 hb,sl⟩))
 have hb:b=false:=hb;obtain⟨g1,g2⟩:=m2 hb;subst g1;have e3:cV z=z3:=e2.trans g2;clear m1 m2 m3 O e2 hm;have hf0:∃g,f=g+1:=⟨f-1,by omega⟩
 obtain⟨f,rfl⟩:=hf0;rw[lpZ] at r;unfold bB at r;rw[hA,e3] at r;have hs3:=pE h2;have hn3:=dZ h2;refine aS (aA (sk 1 rfl (kv (args:=[]) hs3 ?_)));refine az (aB rfl (fun hb=>?_) (fun hb=>?_))
 ·have hb:dX b5 z3=true:=hb;rw[ξ (show ¬z3.e=0∨dX b5 z3=true from .inr hb)] at r;rw[ζ π] at r;rw[r,b4 A];exact aD rtN
 have hb:dX b5 z3=false:=hb;have hnb:¬(¬z3.e=0∨dX b5 z3=true):=fun k=>k.elim (fun k=>k A) fun k=>by rw[hb] at k;cases k
 rw[ζ hnb] at r;refine aF ?_;by_cases hn60:n<60
 case neg=>
  have d:decide (((n:Nat):Int)<60)=false:=φ (by omega);rw[fU (by omega) A] at r;dsimp only at r;rw[φ cK,ζ π] at r;rw[r,aG cK];have hmn:=bH 2 (bA z3).pl;refine sk 5 rfl (kc hn3 ?_);refine ak 1 [] rfl ?_;rw[d];exact kp hmn
 have d:decide (((n:Nat):Int)<60)=true:=χ (by omega);rw[fT (by omega),χ A,ξ rfl] at r;have hmo:=bF 2 (bA z3).pl;refine sk 5 rfl (kc hn3 ?_);refine ak 1 [] rfl ?_;rw[d];refine kc hmo ?_;refine az ?_;have ho:=hone n s z3 hI hn60 h2 A (by omega);obtain⟨E,k2,k3,_⟩:=hst n s z3 hI hn60 h2 A;generalize step s z3=y at ho E k2 k3 r;obtain⟨s4,z4⟩:=y;dsimp only at ho E k2 k3 r;by_cases u:z4.e=0
 case neg=>
  have hp:=b8.err ho u;rw[gA u] at r;rw[r,aG u];exact sk 1 rfl (kpv (args:=[]) hp)
 have ho:=b8.ok ho u;have k3:=k3 u;refine sk 1 rfl (kv (args:=[]) ho ?_);refine az (aA (agN [] rfl ?_));have hlp:=E.lp;have J:=mD E cL;have hn4:=dZ E;have U:=pE E;have hmo4:=bF 12 (bA z4).pl;cases Y:isZ cL z4 with
 | true=>
  rw[Y] at J;have M:moreA b5 (n+1) z4=z4:=ζ fun k=>by rw[Y] at k;cases k.2.2.1
  refine aC mixed (ak 1 [] rfl (kc J ?_));refine ak 7 [(2,.bv true),(5,.bv true)] rfl (kc hn4 ?_);refine ak 1 [(2,.bv true),(5,.bv true)] rfl (kc hmo4 ?_);exact az ⟨(n+1,s4,z4,f),⟨k2,by omega,E,u,by dsimp only;omega,by dsimp only;omega,M,r⟩,by dsimp only;omega,sl⟩
 | false=>
  rw[Y] at J;cases aa:dX b5 z4 with
  | true=>
   rw[aa] at U;have M:moreA b5 (n+1) z4=z4:=ζ fun k=>by rw[aa] at k;cases k.2.2.2
   refine aC mixed (ak 1 [] rfl (kc J ?_));refine ak 2 [(2,.bv false)] rfl (kvG (args:=[]) U ?_);refine ak 4 [(2,.bv false),(5,.bv false)] rfl (kc hn4 ?_);refine ak 1 [(2,.bv false),(5,.bv false)] rfl (kc hmo4 ?_);exact az ⟨(n+1,s4,z4,f),⟨k2,by omega,E,u,by dsimp only;omega,by dsimp only;omega,M,r⟩,by dsimp only;omega,sl⟩
  | false=>
   rw[aa] at U;have hmn4:=bH 12 (bA z4).pl;have M:moreA b5 (n+1) z4=⟨z4.R,12,(bA z4).pl⟩:=(ξ ⟨succ_pos n,u,Y,aa⟩).trans (ξ u);have h12:¬(12:Int)=0:=by decide
   have hWb:W.2=⟨z4.R,12,(bA z4).pl⟩:=by
    obtain⟨f,rfl⟩:∃g,f=g+1:=⟨f-1,by omega⟩
    rw[lpZ] at r;unfold bB at r;rw[M,lS h12,ξ (show ¬(Z.mk z4.R 12 (bA z4).pl).e=0∨_ from .inl h12),ζ π] at r;rw[r]
   rw[hWb,aG h12];refine aC mixed (ak 1 [] rfl (kc J ?_));refine ak 2 [(2,.bv false)] rfl (kvG (args:=[]) U ?_);refine ak 4 [(2,.bv false),(5,.bv false)] rfl (kc hn4 ?_);refine ak 1 [(2,.bv false),(5,.bv false)] rfl (kpD (.tup []) [] hmn4 ?_);exact az trivial
theorem aMj (A v:Tk) (sup:List Str) {step:(List Sg)→Z→(List Sg)×Z}{Inv:Nat→(List Sg)→Prop}{L:List Tk}{N:Nat}
  (J:∀n s z,Inv n s→n<60→ZA L z→z.e=0→z.R.length≤N→b8 Tryz.prog 159 ([]++[R.vp 1 0,R.c (.pt (aK v)),R.vp 6 0,R.c (.pt (aK A))].map V.one) ((600,rO L z)::aEo A v sup s) (gD L (.tup []) (step s z).2 (aEo A v sup (step s z).1)))
  (I:∀n s z,Inv n s→n<60→ZA L z→z.e=0→ZA L (step s z).2∧Inv (n+1) (step s z).1∧((step s z).2.e=0→(step s z).2.R.length<z.R.length)∧Ze z (step s z).2)
  {z:Z} (h:ZA L z) (he:z.e=0) (hN:z.R.length≤N) {s:(List Sg)} (M:Inv 0 s):
  b8 Tryz.prog 158 [rP,.one (.clo 159 [R.vp 1 0,R.c (.pt (aK v)),R.vp 6 0,R.c (.pt (aK A))])] ((600,rO L z)::aEo A v sup s) (gD L (.tup []) (vK step s z).2 (aEo A v sup (vK step s z).1)):=by
 have q:=cZ h he eB;have h1:=h.need eB;have O:=Ze.need eB z;unfold vK;generalize aN eB z=E at q h1 O ⊢;have U:E.R.length≤z.R.length:=O;refine nC (n:=12) tok Tryz.func158 rfl rfl rfl rfl ?_;refine sg rfl ?_;by_cases r:E.e=0
 case neg=>
  have hp:=b8.err q r;rw[gA r];dsimp only;rw[bD r,aG r];exact sk 1 rfl (kp hp)
 have q:=b8.ok q r;refine sk 1 rfl (kc q ?_);refine az ?_;have u:=aRj A v sup (step:=step) (Inv:=Inv) (L:=L) (N:=N) J I h1 r (by omega) M;have hok:=(uC (sh:=b5) I (E.R.length+1) 0 s E (Ae _) M h1).1
 generalize lpZ b5 step (E.R.length+1) 0 s E=W at u hok ⊢;obtain⟨s2,z2⟩:=W;dsimp only at u hok ⊢;by_cases y:z2.e=0
 case neg=>
  have hp:=b8.err u y;rw[bD y,aG y];exact sk 3 rfl (kp hp)
 have u:=b8.ok u y;refine sk 3 rfl (kc u ?_);refine az ?_;have q:=cZ hok y b5;generalize aN b5 z2=z3 at q ⊢;by_cases B:z3.e=0
 case neg=>
  have hp:=b8.err q B;rw[aG B];exact aC mixed (ak 1 [] rfl (kp hp))
 have q:=b8.ok q B;rw[b4 B];refine aC mixed (ak 1 [] rfl (kc q ?_));exact az rtN
def aZq (L:List Tk) (z:Z) (nm v:Tk) (sup:List Str):List (Nat×AObj):=[(600,rO L z),(1,pR),(2,.var 87 [.c (.str []),.c (.int .i64 0),.c (.str []),.c .nl,.c .nl,.c .nl]),(4,.var 62 ((aK nm).map .c)),(5,.var 62 ((aK v).map .c)),(6,.var 87 [.c (.str nm.text),.c (.int .i64 nm.pl),.c (.str v.text),.c .nl,.hs 531 0 sup.length sup.length,.c .nl]),(531,svA (sup.map aR) 0)]
theorem aMh {L:List Tk}(hZ:pG L) (hwt:wt L≤30000) {z:Z}(h:ZA L z) (he:z.e=0):b8 Tryz.prog 118 [rP] [(600,rO L z)] (gD L (.pa (iT (eE z).1)) (eE z).2 []):=by
 unfold eE;have hA:aX z=((bE z).1,(aO 2 (bE z).2).1,(aO 1 (aO 2 (bE z).2).2).1,(aO 1 (aO 2 (bE z).2).2).2):=rfl;rw[hA];have hp:=xU h he hZ;obtain⟨h1,ab,l1⟩:=n3 h hwt;generalize bE z=y at hp h1 ab l1 ⊢;obtain⟨ps,z1⟩:=y;dsimp only at hp h1 ab l1 ⊢;refine nC (n:=55) tok Tryz.func118 rfl rfl rfl rfl ?_;refine sg rfl ?_;by_cases B:z1.e=0
 case neg=>
  have hp:=b8.err hp B;have M:(aO 1 (aO 2 z1).2).2=z1:=by rw[lR B];exact lR B
  rw[mR (by dsimp only;rw[M];exact B)];dsimp only;rw[M,aG B];exact sk 1 rfl (kp hp)
 have hp:=b8.ok hp B;refine sk 1 rfl (kc hp ?_);refine kz 1 rfl ?_;have hw:=i6 h1 B 2 (by decide);have h2:=h1.word (k:=2) (by decide);generalize aO 2 z1=y at hw h2 ⊢;obtain⟨r,z2⟩:=y;dsimp only at hw h2 ⊢;by_cases J:z2.e=0
 case neg=>
  have hp:=b8.err hw J;have M:(aO 1 z2).2=z2:=lR J;rw[mR (by dsimp only;rw[M];exact J)];dsimp only;rw[M,aG J];exact sk 1 rfl (kp hp)
 have hw:=b8.ok hw J;refine sk 1 rfl (kc hw ?_);refine kz 2 rfl ?_;have hw:=i6 h2 J 1 (by decide);have h3:=h2.word (k:=1) (by decide);generalize aO 1 z2=y at hw h3 ⊢;obtain⟨v,z3⟩:=y;dsimp only at hw h3 ⊢;by_cases E:z3.e=0
 case neg=>
  have hp:=b8.err hw E;rw[mR (by exact E)];dsimp only;rw[aG E];exact sk 1 rfl (kp hp)
 have hw:=b8.ok hw E;refine sk 1 rfl (kc hw ?_);refine kz 2 rfl (sg rfl ?_);have hpk:(ps.map aQ).length=ps.length:=η _;have u:∃F,F=bP v.text r.pl ps [] z3:=⟨_,rfl⟩
 obtain⟨F,u⟩:=u;have hB:cO (ps,r,v,z3)=(F.1,aN eB F.2):=by rw[u];rfl
 rw[hB];have hC:∀w:List Str×Z,iL (ps,r,v,z3) w=lpZ b5 (clS r v) (w.2.R.length+1) 0 [] w.2:=fun w=>uA r v _ _ _ _
 rw[hC];dsimp only;refine aA (sg rfl (AWp.sub (Sub.ownCell (x:=6) (k:=4) (id:=531) 9 1 rfl rfl rfl) ?_));refine aE (aP (fun q:Nat×List Str=>mk [(1,.one (.vp 1 0)),(2,.one (.vp 2 0)),(4,.one (.vp 4 0)),(5,.one (.vp 5 0)),(6,.one (.vp 6 0)),(22,.one (.c (.sl 5 (ps.map aQ)))),(23,I .i64 ((ps.map aQ).length:Nat)),(24,I .i64 (q.1:Nat))] (aZq L z3 r v q.2)) (fun q=>q.1≤ps.length∧q.2.length=q.1∧F=bP v.text r.pl (ps.drop q.1) q.2 z3) (fun q=>ps.length-q.1) (0,[]) ⟨Ae _,rfl,u⟩ sl ?_);clear u hB hC hw hp hA;rintro⟨i,sup⟩ ⟨hi,hsl,u⟩;dsimp only at hi hsl u ⊢;have ac:(sup.map aR).length=sup.length:=η _;refine sg rfl (aA (aB rfl (fun hb=>?_) (fun hb=>?_)))
 ·have hlt:=ltD hb hpk;obtain⟨p,hpi⟩:=aJ hlt;have hpi':=b9 aQ hpi;have hds:ps.drop i=p::ps.drop (i+1):=by
   obtain⟨k1,k2⟩:=Af.1 hpi;rw[←k2];exact Bf k1
  rw[hds,bP,ξ E] at u;refine aF (aA (aE (sgh [(0,.row i (aQ p))] rfl ?_)));have ad:¬(p.ty.form=2∧p.ty.name=v.text)→aN b5 (lpZ b5 (clS r v) ((aN eB F.2).R.length+1) 0 [] (aN eB F.2)).2=⟨z3.R,12,r.pl⟩:=fun hn=>by
   have h12:¬(12:Int)=0:=by decide
   have M:F.2=⟨z3.R,12,r.pl⟩:=by
    rw[ζ hn] at u;unfold bN at u;rw[ξ E] at u;rw[u,tC h12]
   have O:¬(Z.mk z3.R 12 r.pl).e=0:=h12;rw[M,bD O,gA O];exact bD O
  have hmn:=bH 12 r.pl;by_cases U:p.ty.form=2
  case neg=>
   have d:decide (p.ty.form=2)=false:=φ U;rw[ad (fun k=>U k.1),aG (show ¬(12:Int)=0 by decide)];exact skh 14 [(4,.bv false),(11,.bv false)] rfl (kp hmn)
  have d:decide (p.ty.form=2)=true:=χ U;by_cases Y:p.ty.name=v.text
  case neg=>
   have d2:decide (p.ty.name=v.text)=false:=φ Y;rw[ad (fun k=>Y k.2),aG (show ¬(12:Int)=0 by decide)];refine skh 14 [(4,.bv true),(11,.bv true)] rfl ?_;rw[d2];exact kp hmn
  have d2:decide (p.ty.name=v.text)=true:=χ Y;have hmo:=bF 12 r.pl;rw[ξ ⟨U,Y⟩] at u;refine skh 14 [(4,.bv true),(11,.bv true)] rfl ?_;rw[d2];refine kc hmo ?_;refine az ?_;have hrows:sup.map aR++[[.str p.cls]]=(sup++[p.cls]).map aR:=by rw[Ah];rfl
  have hle:(sup++[p.cls]).length=sup.length+1:=by rw[ψ];rfl
  have hpl1:=ab.1;exact ag [(4,.all)] rfl (agN [] rfl ⟨(i+1,sup++[p.cls]),⟨hlt,by dsimp only;rw[hle,hsl],u⟩,by dsimp only;omega,sl (hh:=⟨⟨_,rfl,.var rfl⟩,⟨_,rfl,.var rfl⟩,⟨_,rfl,.var rfl⟩,⟨_,rfl,.var rfl⟩,⟨_,rfl,.var rfl⟩,⟨_,rfl,.var (by rw[hle,←ac];rfl)⟩,⟨_,rfl,.arrS hrows⟩,trivial⟩)⟩)
 have hge:=geD hb hpk hi;rw[hge,Cq,bP] at u;subst u;dsimp only;refine aS (AWp.sub (Sub.freeze (id:=531) rfl) ?_);refine AWp.sub (vp 6 [.str r.text,.int .i64 r.pl,.str v.text,.nl,.sl 1 (sup.map aR),.nl] (hp:=.c .refl (.c .refl (.c .refl (.c .refl (.hs rfl ac.symm (Go.AM.take_all ac.symm) (.c .refl .nil))))))) ?_;refine AWp.sub (Sub.ownCell (x:=6) (k:=5) (id:=530) 100 9 rfl rfl rfl) ?_;refine AWp.sub (Sub.fvar (id:=4) (l:=aK r) rfl (by simp[keys])) ?_;refine AWp.sub (Sub.fvar (id:=5) (l:=aK v) rfl (by simp[keys])) ?_;have hst:∀(n:Nat) (s:List Sg) (z:Z),s.length=n→n<60→ZA L z→z.e=0→ZA L (clS r v s z).2∧(clS r v s z).1.length=n+1∧((clS r v s z).2.e=0→(clS r v s z).2.R.length<z.R.length)∧Ze z (clS r v s z).2:=fun n s z hI hn h he=>by
  have k1:=(h.word (k:=1) (by decide)).need fH;obtain⟨g1,_,g3,g4⟩:=gH k1 hwt;have l1:(aO 1 z).2.R.length≤z.R.length:=Ze.word 1 z;have l2:(aN fH (aO 1 z).2).R.length≤(aO 1 z).2.R.length:=Ze.need _ _;have g4':(bK (aN fH (aO 1 z).2)).2.R.length≤(aN fH (aO 1 z).2).R.length:=g4;unfold clS fS;dsimp only;refine⟨g1.long _ _ _,by rw[ψ,hI];rfl,fun h0=>?_,(((Ze.word 1 z).trans (Ze.need _ _)).trans g4).trans (Ze.long _ _ _ _)⟩;by_cases hs:(bK (aN fH (aO 1 z).2)).2.e=0
  ·have:=g3 hs;have l3:=Ze.long (s++[(⟨(aO 1 z).1.text,(aO 1 z).1.pl,rU r.text v.text (bK (aN fH (aO 1 z).2)).1⟩:Sg)]).length 16 r.pl (bK (aN fH (aO 1 z).2)).2;unfold Ze at l3;omega
  ·rw[eF hs] at h0;exact absurd h0 hs
 have hI0:([]:List Sg).length=0:=rfl;have A:=aMj r v sup (step:=clS r v) (Inv:=fun n s=>s.length=n) (L:=L) (N:=z3.R.length) (fun n s z hI hn h he hN=>aVw hZ hwt r v sup s h he (by omega)) hst h3 E (le_refl _) (s:=[]) hI0;unfold vK at A;dsimp only at A;generalize aN eB z3=z7 at A ⊢;generalize lpZ b5 (clS r v) (z7.R.length+1) 0 [] z7=W at A ⊢;obtain⟨ms,zB⟩:=W;dsimp only at A ⊢;have hmk:(ms.map eC).length=ms.length:=η _;generalize aN b5 zB=z8 at A ⊢;by_cases aa:z8.e=0
 case neg=>
  have hp:=b8.err A aa;rw[aG aa];exact sk 2 rfl (kp hp)
 have A:=b8.ok A aa;rw[b4 aa];refine sk 2 rfl (kc A ?_);refine az (AWp.sub (Sub.freeze (id:=530) rfl) ?_);exact sg rfl (aD (rtC trw (hc:=.agg (.c .refl (.c .refl (.c .refl (.c .nl (.c .refl (.hs rfl hmk.symm (Go.AM.take_all hmk.symm) .nil)))))))))
theorem s5 (s:Str) (q:bI Tryz.prog 20 [Go.AM.T s] [] (aP9 (lexA s)) []):bI Tryz.prog 22 [Go.AM.T s] [] (.tup [.pa (rG (cC s).1),atV (cC s).2.1 (if(cC s).2.1=0 then 0 else(cC s).2.2)]) []:=by
 obtain⟨u,hwt,hZ,r⟩:=lB s;exact aE3 aV1 s q fun z h he _=>aMh hZ hwt h he
def Kq (z z':Z):Prop:=z'.e=0→z.e=0∧z'.p=z.p
theorem Kq.refl (z:Z):Kq z z:=fun h=>⟨h,rfl⟩
theorem Kq.trans {a b c:Z}(h:Kq a b) (k:Kq b c):Kq a c:=fun e=>by
 obtain⟨q,r⟩:=k e;obtain⟨u,y⟩:=h q;exact⟨u,r.trans y⟩
theorem Kq.fail {e p:Int}(he:¬e=0) (z:Z):Kq z (bN e p z):=fun h=>(cX he h).elim
theorem Kq.may (s:Str) (z:Z):Kq z (bX s z).2:=by
 unfold Kq bX;split
 ·exact fun h=>⟨h,rfl⟩
 ·exact fun h=>⟨h,rfl⟩
theorem Kq.need (s:Str) (z:Z):Kq z (aN s z):=by
 unfold aN;split
 ·exact Kq.may s z
 ·exact Kq.fail (by decide) z
theorem Kq.word (k:Int) (z:Z):Kq z (aO k z).2:=by
 unfold aO;split
 ·exact fun h=>⟨h,rfl⟩
 ·exact Kq.fail (by decide) z
theorem Kq.words (z:Z):Kq z (aU z).2:=by
 unfold aU;split
 ·exact fun h=>⟨h,rfl⟩
 ·exact Kq.refl z
theorem Kq.long (n m:Nat) (a:Int) (z:Z):Kq z (cB n m a z):=by
 unfold cB;split
 ·exact Kq.fail (by decide) z
 ·exact Kq.refl z
theorem Kq.semi (z:Z):Kq z (cV z):=by
 unfold cV;split
 ·exact fun h=>⟨h,rfl⟩
 ·exact Kq.refl z
theorem Kq.mA (s:Str) (n:Nat) (z:Z):Kq z (moreA s n z):=by
 unfold moreA;split
 ·exact Kq.fail (by decide) z
 ·exact Kq.refl z
theorem Kq.more (s:Str) (n:Nat) (z:Z):Kq z (bB s n z).2:=by
 unfold bB;split
 ·exact(Kq.mA s n z).trans (Kq.semi _)
 ·exact((Kq.mA s n z).trans (Kq.semi _)).trans (Kq.long _ _ _ _)
theorem Kq.scheme (z:Z):Kq z (bK z).2:=by
 unfold bK;split
 ·cases h:cG z.R with
  | error e=>obtain⟨e,p⟩:=e;exact fun h0=>absurd h0 (qO h)
  | ok y=>exact fun h=>⟨h,rfl⟩
 ·exact Kq.refl z
theorem Kq.preds (z:Z):Kq z (bE z).2:=by
 unfold bE;split
 ·cases h:cH z.R with
  | error e=>obtain⟨e,p⟩:=e;exact fun h0=>absurd h0 (iY h)
  | ok y=>exact fun h=>⟨h,rfl⟩
 ·exact Kq.refl z
theorem Kq.atom (z:Z):Kq z (dW z).2:=by
 unfold dW;cases h:cD (3*z.R.length) 0 z.R with
 | error e=>obtain⟨e,p⟩:=e;exact fun h0=>absurd h0 (gE _ 0 z.R e p h)
 | ok y=>exact fun h=>⟨h,rfl⟩
theorem Kq.fields:∀(f:Nat) (out:List Ty) (z:Z),Kq z (bQ f out z).2
 | 0,_,z=>Kq.refl z
 | f+1,out,z=>by
  rw[bQ];split
  ·exact(Kq.atom z).trans (Kq.fields f _ _)
  ·exact Kq.refl z
theorem Kq.con (z:Z):Kq z (jF z).2:=((Kq.word 2 z).trans (Kq.fields _ _ _)).trans (Kq.long _ _ _ _)
theorem Kq.cons:∀(f:Nat) (a:Int) (out:List Cn) (z:Z),Kq z (fO f a out z).2
 | 0,_,_,z=>Kq.refl z
 | f+1,a,out,z=>by
  rw[fO];split
  ·exact(((Kq.con z).trans (Kq.long _ _ _ _)).trans (Kq.may _ _)).trans (Kq.cons f a _ _)
  ·exact((Kq.con z).trans (Kq.long _ _ _ _)).trans (Kq.may _ _)
theorem Kq.data (z:Z):Kq z (jE z).2:=by
 have h1:Kq z (dD z).2.2:=(((Kq.word 2 z).trans (Kq.words _)).trans (Kq.long _ _ _ _)).trans (Kq.need _ _);unfold jE fN;dsimp only;split
 ·exact h1.trans (Kq.cons _ _ _ _)
 ·exact h1
theorem Kq.tl (z:Z):Kq z (tlZ z):=fun h=>⟨h,rfl⟩
theorem zP:∀f:Nat,(∀o z,Kq z (aZ f o z).2)∧(∀o z,Kq z (gJ f o z).2)∧(∀o out z,Kq z (eA f o out z).2)
 | 0=>⟨fun o z=>by rw[aZ];exact Kq.refl z,fun o z=>by rw[gJ];exact Kq.fail (by decide) z,fun o out z=>by rw[eA];exact Kq.refl z⟩
 | f+1=>by
  obtain⟨h1,h2,q⟩:=zP f;refine⟨fun o z=>?_,fun o z=>?_,fun o out z=>?_⟩
  ·rw[aZ];split
   ·exact Kq.refl z
   split
   ·exact Kq.tl z
   split
   ·exact Kq.may _ z
   split
   ·exact Kq.refl z
   split
   ·exact Kq.fail (by decide) z
   ·exact((Kq.need _ z).trans (h2 _ _)).trans (Kq.need _ _)
  ·rw[gJ];split
   ·exact(h1 _ _).trans (Kq.fail (by decide) _)
   split
   ·exact(Kq.tl z).trans (q _ _ _)
   ·exact h1 _ _
  ·rw[eA];split
   ·split
    ·exact h1 _ _
    ·exact(h1 _ _).trans (q _ _ _)
   ·exact Kq.refl z
theorem Kq.pair:∀(l:List Sg) (b:List Bd) (z:Z),Kq z (dI l b z).2:=fun l b z h=>by
 have h1:=iZ h;rw[h1] at h ⊢;exact⟨h,rfl⟩
def aKd (ex:Nat→Z→Ex×Z):Prop:=∀deep z,Kq z (ex deep z).2
section
variable {ex:Nat→Z→Ex×Z}(hx:aKd ex)
include hx
theorem Kq.one (deep:Nat) (z:Z):Kq z (fX ex deep z).2:=by
 unfold fX;split
 ·exact Kq.refl z
 split
 ·exact Kq.tl z
 split
 ·exact Kq.refl z
 ·exact((Kq.may _ z).trans (hx _ _)).trans (Kq.need _ _)
theorem Kq.apps (deep:Nat) (a:Int):∀(f:Nat) (e:Ex) (z:Z),Kq z (fK ex deep a f e z).2
 | 0,_,z=>Kq.refl z
 | f+1,e,z=>by
  rw[fK];split
  ·split
   ·exact Kq.one hx deep z
   ·exact(Kq.one hx deep z).trans (Kq.apps deep a f _ _)
  ·exact Kq.refl z
theorem Kq.lam (a:Int) (deep:Nat) (z:Z):Kq z (sS ex a deep z).2:=by
 have h0:Kq z (if(aU z).1=[] then bN 12 (bA (aU z).2).pl (aU z).2 else(aU z).2):=by
  split
  ·exact(Kq.words z).trans (Kq.fail (by decide) _)
  ·exact Kq.words z
 exact((h0.trans (Kq.long _ _ _ _)).trans (Kq.need _ _)).trans (hx _ _)
theorem Kq.bind (q:Tk) (deep:Nat) (z:Z):Kq z (dP ex q deep z).2:=(((Kq.words z).trans (Kq.long _ _ _ _)).trans (Kq.need _ _)).trans (hx _ _)
theorem Kq.either (sigs:List Sg) (binds:List Bd) (deep:Nat) (z:Z):Kq z (aW ex sigs binds deep z).2:=by
 unfold aW;split
 ·exact((Kq.word _ z).trans (Kq.may _ _)).trans (Kq.scheme _)
 ·exact((Kq.word _ z).trans (Kq.may _ _)).trans (Kq.bind hx _ _ _)
theorem Kq.lets (deep:Nat):∀(f n:Nat) (sigs:List Sg) (binds:List Bd) (z:Z),Kq z (eR ex deep f n sigs binds z).2
 | 0,_,_,_,z=>Kq.refl z
 | f+1,n,sigs,binds,z=>by
  rw[eR];split
  ·exact((Kq.more _ _ z).trans (Kq.either hx _ _ _ _)).trans (Kq.lets deep f _ _ _ _)
  ·exact Kq.more _ _ z
theorem Kq.let' (a:Int) (deep:Nat) (z:Z):Kq z (sR ex a deep z).2:=
 (((((Kq.need _ z).trans (Kq.lets hx _ _ _ _ _ _)).trans (Kq.need _ _)).trans (Kq.pair _ _ _)).trans (Kq.need _ _)).trans (hx _ _)
theorem Kq.alts (deep:Nat):∀(f n:Nat) (ps:List Pt) (ks:List Ex) (z:Z),Kq z (eJ ex deep f n ps ks z).2
 | 0,_,_,_,z=>Kq.refl z
 | f+1,n,ps,ks,z=>by
  rw[eJ];split
  ·exact((((Kq.more _ _ z).trans ((zP _).2.1 _ _)).trans (Kq.need _ _)).trans (hx _ _)).trans (Kq.alts deep f _ _ _ _)
  ·exact Kq.more _ _ z
theorem Kq.case' (a:Int) (deep:Nat) (z:Z):Kq z (hY ex a deep z).2:=by
 have h1:Kq z (fI ex deep (cJ ex deep z)).2:=(((hx _ z).trans (Kq.need _ _)).trans (Kq.need _ _)).trans (Kq.alts hx _ _ _ _ _ _);unfold hY;dsimp only;split
 ·exact(h1.trans (Kq.need _ _)).trans (Kq.fail (by decide) _)
 ·exact h1.trans (Kq.need _ _)
omit hx in
theorem Kq.ann (a:Int) (y:Ex×Z):Kq y.2 (sA a y).2:=by
 unfold sA;split
 ·exact(Kq.may _ _).trans (Kq.scheme _)
 ·exact Kq.may _ _
theorem Kq.plain (deep:Nat) (z:Z):Kq z (fA ex deep z).2:=by
 unfold fA;refine Kq.trans ?_ (Kq.apps hx _ _ _ _ _);split
 ·exact(Kq.one hx deep z).trans (Kq.fail (by decide) _)
 ·exact Kq.one hx deep z
theorem aQg:aKd (aCk ex):=fun deep z=>by
 unfold aCk;split
 ·exact Kq.refl z
 split
 ·exact Kq.fail (by decide) z
 split
 ·exact(Kq.may _ z).trans (Kq.lam hx _ _ _)
 split
 ·exact(Kq.may _ z).trans (Kq.let' hx _ _ _)
 split
 ·exact(Kq.may _ z).trans (Kq.case' hx _ _ _)
 ·exact(Kq.plain hx deep z).trans (Kq.ann _ _)
end
theorem uH:∀f,aKd (yL f)
 | 0=>fun _ z=>Kq.fail (by decide) z
 | f+1=>aQg (uH f)
theorem Kq.supers (v:Str) (a:Int):∀(l:List Prd) (out:List Str) (z:Z),Kq z (bP v a l out z).2
 | [],_,z=>Kq.refl z
 | p::l,out,z=>by
  rw[bP];split
  ·refine Kq.trans ?_ (Kq.supers v a l _ _);split
   ·exact Kq.refl z
   ·exact Kq.fail (by decide) z
  ·exact Kq.refl z
theorem Kq.meths (c v:Str) (a:Int):∀(f n:Nat) (out:List Sg) (z:Z),Kq z (dK c v a f n out z).2
 | 0,_,_,z=>Kq.refl z
 | f+1,n,out,z=>by
  rw[dK];split
  ·exact(((((Kq.more _ _ z).trans (Kq.word _ _)).trans (Kq.need _ _)).trans (Kq.scheme _)).trans (Kq.long _ _ _ _)).trans (Kq.meths c v a f _ _ _)
  ·exact Kq.more _ _ z
theorem Kq.cls (z:Z):Kq z (eE z).2:=
 ((((((Kq.preds z).trans (Kq.word _ _)).trans (Kq.word _ _)).trans (Kq.supers _ _ _ _ _)).trans (Kq.need _ _)).trans (Kq.meths _ _ _ _ _ _ _)).trans (Kq.need _ _)
theorem Kq.forms (a:Int):∀(l:List Prd) (z:Z),Kq z (dL a l z)
 | [],z=>Kq.refl z
 | p::l,z=>by
  rw[dL];refine Kq.trans ?_ (Kq.forms a l _);split
  ·exact Kq.fail (by decide) z
  ·exact Kq.refl z
theorem Kq.ibinds {ex:Nat→Z→Ex×Z}(hx:aKd ex):∀(f n:Nat) (out:List Bd) (z:Z),Kq z (cE ex f n out z).2
 | 0,_,_,z=>Kq.refl z
 | f+1,n,out,z=>by
  rw[cE];split
  ·exact(((Kq.more _ _ z).trans (Kq.word _ _)).trans (Kq.bind hx _ _ _)).trans (Kq.ibinds hx f _ _ _)
  ·exact Kq.more _ _ z
theorem Kq.instV (b:Bool) (z:Z):Kq z (instV b z).2:=by
 cases b with
 | true=>exact(Kq.words z).trans (Kq.need _ _)
 | false=>exact Kq.refl z
theorem Kq.inst {ex:Nat→Z→Ex×Z}(hx:aKd ex) (z:Z):Kq z (iS ex z).2:=by
 have h1:Kq z (bO z).2.2.2.2:=(((Kq.preds z).trans (Kq.word _ _)).trans (Kq.may _ _)).trans (Kq.word _ _);have h2:=h1.trans (Kq.instV (bO z).2.2.1 _);refine Kq.trans ?_ (Kq.need _ _);refine Kq.trans ?_ (Kq.ibinds hx _ _ _ _);refine Kq.trans ?_ (Kq.need _ _);refine Kq.trans ?_ (Kq.forms _ _ _);split
 ·exact h2.trans (Kq.long _ _ _ _)
 ·exact h2
theorem Kq.decl {ex:Nat→Z→Ex×Z}(hx:aKd ex) (p:Pg) (sigs:List Sg) (z:Z):Kq z (eD ex p sigs z).2:=by
 unfold eD;split
 ·exact(Kq.may _ z).trans (Kq.data _)
 split
 ·exact(Kq.may _ z).trans (Kq.cls _)
 split
 ·exact(Kq.may _ z).trans (Kq.inst hx _)
 ·exact Kq.either hx _ _ _ z
theorem Kq.prog {ex:Nat→Z→Ex×Z}(hx:aKd ex):∀(f n:Nat) (p:Pg) (sigs:List Sg) (z:Z),Kq z (dR ex f n p sigs z).2
 | 0,_,_,_,z=>Kq.refl z
 | f+1,n,p,sigs,z=>by
  rw[dR];split
  ·exact((Kq.more _ _ z).trans (Kq.decl hx _ _ _)).trans (Kq.prog hx f _ _ _ _)
  ·exact Kq.more _ _ z
theorem Kq.endz (z:Z):Kq z (oF z):=by
 unfold oF;split
 ·exact Kq.fail (by decide) z
 ·exact Kq.refl z
theorem aPx (s:Str) (h:(cC s).2.1=0):(cC s).2.2=0:=by
 have hb:(bS s).2.p=0∨¬(bS s).2.e=0:=by
  unfold bS;have q:= @aB4 s;generalize lexA s=w at q ⊢;cases w with
  | ok l=>exact .inl rfl
  | error e=>obtain⟨e,p⟩:=e;exact .inr (q rfl)
 have r:Kq (bS s).2 (oF (gC s).2):=by
  refine Kq.trans ?_ (Kq.endz _);unfold gC;split
  ·exact(Kq.prog (uH _) _ _ _ _ _).trans (Kq.pair _ _ _)
  ·exact Kq.refl _
 have u:(cC s).2.1=(oF (gC s).2).e:=by unfold cC;split<;>rfl
 have y:(cC s).2.2=(oF (gC s).2).p:=by unfold cC;split<;>rfl
 rw[u] at h;obtain⟨A,B⟩:=r h;rw[y,B];rcases hb with hb | hb
 ·exact hb
 ·exact absurd A hb
theorem iU (s:Str) (q:bI Tryz.prog 20 [Go.AM.T s] [] (aP9 (lexA s)) []):bI Tryz.prog 22 [Go.AM.T s] [] (.tup [.pa (rG (cC s).1),atV (cC s).2.1 (cC s).2.2]) []:=by
 have h:=s5 s q;by_cases he:(cC s).2.1=0
 ·rw[ξ he] at h;rw[aPx s he];exact h
 ·rw[ζ he] at h;exact h
mutual
def psz:Pt→Nat
 | .mk _ _ _ _ l=>aWl l+1
def aWl:List Pt→Nat
 | []=>0
 | p::l=>psz p+aWl l
end
theorem aG8:∀{l:List Pt}{p:Pt},p∈l→psz p≤aWl l
 | [],p,h=>by cases h
 | a::l,p,h=>by
  rw[aWl];rcases Aq.1 h with rfl | h
  ·omega
  ·have:=aG8 h;omega
theorem pX:∀{l:List Pt},wI l→∀p∈l,ptB p
 | a::l,h,p,hp=>by
  rcases Aq.1 hp with rfl | hp
  ·exact h.1
  ·exact pX h.2 p hp
def aWu (n:Int):Str:=Lib.decDigits n.toNat
def u9 (n:Int):Prop:=0≤n∧n≤2147483647
theorem aCv {n:Int}(h:u9 n):(aWu n).length≤20:=aQu _ (by have:=h.2;omega)
theorem aI9 {n:Int}(h:u9 n):bI Tryz.prog 49 [I .i64 n] [] (Go.AM.T (aWu n)) []:=by
 have:=aRn n.toNat (by have:=h.2;omega);rwa [Int.toNat_of_nonneg h.1] at this
mutual
def ptW:Pt→Nat
 | .mk _ _ _ s l=>s.length+24+iD l
def iD:List Pt→Nat
 | []=>0
 | p::l=>ptW p+iD l
end
mutual
def prP:Pt→Str
 | .mk f _ n s l=>if f=1 then [95] else if f=3 then aWu n else s++sL l
def sL:List Pt→Str
 | []=>[]
 | p::l=>[32]++brk (decide (0<p.kids.length)) (prP p)++sL l
end
mutual
def aNy:Pt→Prop
 | .mk _ _ n _ l=>u9 n∧kG l
def kG:List Pt→Prop
 | []=>True
 | p::l=>aNy p∧kG l
end
theorem gU:∀{l:List Pt},kG l→∀p∈l,aNy p
 | a::l,h,p,hp=>by
  rcases Aq.1 hp with rfl | hp
  ·exact h.1
  ·exact gU h.2 p hp
theorem pW:∀{l:List Pt}{p:Pt},p∈l→ptW p≤iD l
 | a::l,p,h=>by
  rw[iD];rcases Aq.1 h with rfl | h
  ·omega
  ·have:=pW h;omega
theorem qV:∀(l:List Pt) (i:Nat),iD (l.take i)≤iD l
 | [],i=>by rw[take_nil];exact le_refl _
 | p::l,0=>Ae _
 | p::l,i+1=>by
  rw[As,iD,iD];have:=qV l i;omega
theorem oA:∀(l:List Pt) (i:Nat),kG l→kG (l.take i)
 | [],i,_=>by rw[take_nil];trivial
 | p::l,0,_=>trivial
 | p::l,i+1,h=>⟨h.1,oA l i h.2⟩
mutual
theorem wK:∀p:Pt,aNy p→(prP p).length+3≤ptW p
 | .mk f pl n s l,h=>by
  have h1:=u4 l h.2;have h2:=aCv h.1;rw[prP,ptW];split
  ·show 1+3≤_;omega
  split
  ·omega
  ·rw[ψ];omega
theorem u4:∀l:List Pt,kG l→(sL l).length≤iD l
 | [],_=>le_refl _
 | p::l,h=>by
  have h1:=wK p h.1;have h2:=u4 l h.2;have q:=bU (decide (0<p.kids.length)) (prP p);rw[sL,iD,ψ,ψ,κ,length_nil];omega
end
theorem aBk:∀(l m:List Pt),sL (l++m)=sL l++sL m
 | [],m=>rfl
 | p::l,m=>by rw[Ap,sL,sL,aBk l m];simp
theorem mQ:∀(k:Nat) (p:Pt),psz p≤k→aNy p→ptB p→ptW p≤1000000000→bI Tryz.prog 17 [.pa (cF p)] [] (Go.AM.T (prP p)) []
 | 0,p,h,_,_,_=>by cases p;rw[psz] at h;omega
 | k+1,p,h,hP,hB,U=>by
  obtain⟨f,pl,n,s,l⟩:=p;rw[psz] at h;have hM:3000000000≤maxLen:=by decide
  have ab:=hB.1;have r:(mN (.mk f pl n s l)).length=l.length:=by rw[qB,η];rfl
  have hi:=aI9 hP.1;rw[ptW] at U;rw[prP];refine bM (n:=36) tok Tryz.func17 rfl rfl rfl ?_;refine sg rfl (aA (sg rfl (aE (sg rfl ?_))));by_cases h1:f=1
  ·have d1:decide (f=1)=true:=χ h1;rw[ξ h1];exact aB rfl (fun _=>sg rfl (aD rtT)) (fun hb=>Bool.noConfusion (hb.symm.trans d1))
  have d1:decide (f=1)=false:=φ h1;rw[ζ h1];refine aB rfl (fun hb=>Bool.noConfusion (hb.symm.trans d1)) (fun _=>sg rfl ?_);by_cases q:f=3
  ·have d3:decide (f=3)=true:=χ q;rw[ξ q];refine aB rfl (fun _=>sk 2 rfl (kc hi ?_)) (fun hb=>Bool.noConfusion (hb.symm.trans d3));exact kz 1 rfl (aD rtT)
  have d3:decide (f=3)=false:=φ q;rw[ζ q];refine aB rfl (fun hb=>Bool.noConfusion (hb.symm.trans d3)) (fun _=>aF (sg rfl (aA (sg rfl (aE (aP (fun i:Nat=>mk [(3,Go.AM.T (s++sL (l.take i))),(18,.one (.c (.sl 10 (mN (.mk f pl n s l))))),(19,I .i64 ((mN (.mk f pl n s l)).length:Nat)),(20,I .i64 (i:Nat))] []) (fun i=>i≤l.length) (fun i=>l.length-i) 0 (Ae _) (sl (he:=⟨by rw[B5,sL,Bm];rfl,rfl,rfl,rfl,trivial⟩)) ?_))))));intro i A;have ac:=qV l i;have ad:=u4 (l.take i) (oA l i hP.2);refine sg rfl (aA (aB rfl (fun hb=>?_) (fun hb=>?_)))
  ·have u:=ltD hb r;obtain⟨x,hx⟩:=aJ u;have ae:(mN (.mk f pl n s l))[i]?=some (cF x):=by rw[qB];exact b9 cF hx
   have hm:=Aa hx;have af:=pW hm;have hc:=mQ k x (by have:=aG8 hm;omega) (gU hP.2 x hm) (pX hB.2 x hm) (by omega);have ah:=wK x (gU hP.2 x hm);have B:(mN x).length=x.kids.length:=by rw[qB,η]
   have E:=eO (prP x) (decide ((0:Int)<((mN x).length:Nat))) (by omega);have ai:=bU (decide ((0:Int)<((mN x).length:Nat))) (prP x);have J:decide (0<x.kids.length)=decide ((0:Int)<((mN x).length:Nat)):=by
    rw[B];by_cases h0:0<x.kids.length
    ·rw[χ h0,χ (by omega)]
    ·rw[φ h0,φ (by omega)]
   have M:l.take (i+1)=l.take i++[x]:=cU hx;have y:s++sL (l.take i)++([32]++brk (decide ((0:Int)<((mN x).length:Nat))) (prP x))=s++sL (l.take (i+1)):=by
    rw[M,aBk,sL,sL,J];simp
   have Y:=qV l (i+1);have aa:=u4 (l.take (i+1)) (oA l (i+1) hP.2);have hlen:(s++sL (l.take i)++([32]++brk (decide ((0:Int)<((mN x).length:Nat))) (prP x))).length≤2000000000:=by rw[y,ψ];omega
   clear hlen J;generalize brk (decide ((0:Int)<((mN x).length:Nat))) (prP x)=B0 at *;refine aF (aA (aE (sgh [(0,.row i (cF x))] rfl (aC mixed (ak 2 [] rfl (kc hc ?_))))));refine ak 4 [] rfl (kc E ?_);exact kz 3 rfl (agN [] rfl ⟨i+1,u,by dsimp only;omega,sl (he:=⟨by rw[←y];rfl,rfl,rfl,rfl,trivial⟩)⟩)
  ·have O:=geD hb r A;subst O;rw[Aw];exact aS (sg rfl (aD rtT))
mutual
def esz:Ex→Nat
 | .mk _ _ _ _ ks _ bs _=>aCo ks+aR1 bs+1
def aCo:List Ex→Nat
 | []=>0
 | e::l=>esz e+aCo l
def bsz:Bd→Nat
 | .mk _ _ _ _ e=>esz e+1
def aR1:List Bd→Nat
 | []=>0
 | b::l=>bsz b+aR1 l
end
theorem aIm:∀{l:List Ex}{p:Ex},p∈l→esz p≤aCo l
 | [],p,h=>by cases h
 | a::l,p,h=>by
  rw[aCo];rcases Aq.1 h with rfl | h
  ·omega
  ·have:=aIm h;omega
theorem aJf:∀{l:List Bd}{p:Bd},p∈l→bsz p≤aR1 l
 | [],p,h=>by cases h
 | a::l,p,h=>by
  rw[aR1];rcases Aq.1 h with rfl | h
  ·omega
  ·have:=aJf h;omega
theorem xF:∀{l:List Ex},pM l→∀p∈l,oE p
 | a::l,h,p,hp=>by
  rcases Aq.1 hp with rfl | hp
  ·exact h.1
  ·exact xF h.2 p hp
def uS:Str:=[32,58,32]
def eqP:Str:=[32,61,32]
def aWp:Str:=[108,101,116,32]
def inP:Str:=[32,105,110,32]
def aWw:Str:=[99,97,115,101,32]
def ofP:Str:=[32,111,102,32]
def aWq:Str:=[92,32]
def opn (f:Int):Bool:=decide (f=5) || (decide (f=6) || (decide (f=7) || decide (f=8)))
def aH9:List (Int×Str)→Str
 | []=>[]
 | x::_=>x.2
def aZf:List (Int×Str)→Str
 | a::b::_=>brk (opn a.1) a.2++[32]++brk (opn b.1 || decide (b.1=4)) b.2
 | _=>[]
def aY3:List (Int×Str)→Str
 | []=>[]
 | a::_=>brk (opn a.1) a.2
def kH:List Pt→List (Int×Str)→List Str
 | p::ps,x::xs=>(prP p++arrS++x.2)::kH ps xs
 | _,_=>[]
mutual
def prE:Ex→Str
 | .mk f _ n s ks ps bs g=>
  if f=3 then aWu n
  else if f=4 then aZf (fM ks)
  else if f=5 then aWq++Lib.join (ps.map prP) [32]++arrS++aH9 (fM ks)
  else if f=6 then aWp++yM (fP bs)++inP++aH9 (fM ks)
  else if f=7 then aWw++aH9 (fM ks)++ofP++yM (kH ps (fM ks).tail)
  else if f=8 then aY3 (fM ks)++uS++sG g
  else s
def fM:List Ex→List (Int×Str)
 | []=>[]
 | e::l=>(e.form,prE e)::fM l
def prB:Bd→List Str
 | .mk s _ h g e=>(if h=true then [s++uS++sG g] else [])++[s++eqP++prE e]
def fP:List Bd→List Str
 | []=>[]
 | b::l=>prB b++fP l
end
mutual
def exP:Ex→Prop
 | .mk _ _ n _ ks ps bs g=>u9 n∧kG ps∧SchP g∧aL2 ks∧pF bs
def aL2:List Ex→Prop
 | []=>True
 | e::l=>exP e∧aL2 l
def bdP:Bd→Prop
 | .mk _ _ _ g e=>SchP g∧exP e
def pF:List Bd→Prop
 | []=>True
 | b::l=>bdP b∧pF l
end
mutual
def exW:Ex→Nat
 | .mk _ _ _ s ks ps bs g=>s.length+64+iD ps+jX ks+iN bs+2*rS g
def jX:List Ex→Nat
 | []=>0
 | e::l=>exW e+jX l
def bdW:Bd→Nat
 | .mk s _ _ g e=>2*s.length+32+2*rS g+exW e
def iN:List Bd→Nat
 | []=>0
 | b::l=>bdW b+iN l
end
theorem uM:∀{l:List Ex},aL2 l→∀p∈l,exP p
 | a::l,h,p,hp=>by
  rcases Aq.1 hp with rfl | hp
  ·exact h.1
  ·exact uM h.2 p hp
theorem aDf:∀{l:List Bd},pF l→∀p∈l,bdP p
 | a::l,h,p,hp=>by
  rcases Aq.1 hp with rfl | hp
  ·exact h.1
  ·exact aDf h.2 p hp
theorem aCl:∀{l:List Ex}{p:Ex},p∈l→exW p≤jX l
 | a::l,p,h=>by
  rw[jX];rcases Aq.1 h with rfl | h
  ·omega
  ·have:=aCl h;omega
theorem aDe:∀{l:List Bd}{p:Bd},p∈l→bdW p≤iN l
 | a::l,p,h=>by
  rw[iN];rcases Aq.1 h with rfl | h
  ·omega
  ·have:=aDe h;omega
theorem aBg:∀l:List Pt,iD l=(l.map ptW).sum
 | []=>rfl
 | p::l=>by rw[iD,An,Bq,aBg l]
theorem u6 {l:List Pt}(h:kG l):(Lib.join (l.map prP) [32]).length≤iD l:=by
 have h1:=join_le [32] (l.map prP);rw[map_map,η,show([32]:Str).length=1 from rfl] at h1;have h2:=aF7 (fun p=>(prP p).length+3) ptW l fun p hp=>wK p (gU h p hp)
 have r:(l.map fun p=>(prP p).length+3).sum=(l.map ((fun s:Str=>s.length)∘prP)).sum+3*l.length:=by
  clear h h1 h2
  induction l with
  | nil=>rfl
  | cons p l q=>
   rw[An,An,Bq,Bq,q,κ];show(prP p).length+3+_=(prP p).length+_+_;omega
 rw[aBg];omega
theorem y2 (l:List Str):(yM l).length≤(l.map (fun s:Str=>s.length)).sum+3*l.length+4:=by
 have h:=join_le [32,59,32] l;rw[show([32,59,32]:Str).length=3 from rfl] at h;unfold yM;split
 ·show 3≤_;omega
 ·rw[ψ,ψ,show([123,32]:Str).length=2 from rfl,show([32,125]:Str).length=2 from rfl];omega
def kW (l:List (Int×Str)):Nat:=(l.map fun x=>x.2.length+8).sum
theorem aQo (l:List (Int×Str)):(aH9 l).length≤kW l:=by
 cases l with
 | nil=>exact Ae _
 | cons x l=>unfold kW;rw[An,Bq];show x.2.length≤_;omega
theorem aJ7:∀(ps:List Pt) (xs:List (Int×Str)),kG ps→((kH ps xs).map (fun s:Str=>s.length)).sum+3*(kH ps xs).length≤iD ps+kW xs
 | [],xs,_=>by cases xs<;>exact Ae _
 | p::ps,[],_=>Ae _
 | p::ps,x::xs,h=>by
  have h1:=aJ7 ps xs h.2;have h2:=wK p h.1;rw[kH,An,Bq,κ,iD];unfold kW at h1 ⊢;rw[An,Bq,ψ,ψ,show arrS.length=4 from rfl];omega
mutual
theorem kT:∀e:Ex,exP e→(prE e).length+8≤exW e
 | .mk f pl n s ks ps q g,h=>by
  obtain⟨hn,hp,r,u,hb⟩:=h;have h1:=zG ks u;have h2:=u5 q hb;have y:=u6 hp;have A:=sF r;have B:=aCv hn;have E:=y2 (fP q);have I:=y2 (kH ps (fM ks).tail);have J:=aJ7 ps (fM ks).tail hp;have M:=aQo (fM ks);rw[prE,exW];split
  ·omega
  split
  ·clear h2 y A B E I J M;generalize fM ks=l at h1;unfold kW at h1
   match l,h1 with
   | [],_=>show 0+8≤_;omega
   | [_],_=>show 0+8≤_;omega
   | a::b::l,h1=>
    have O:=bU (opn a.1) a.2;have U:=bU (opn b.1 || decide (b.1=4)) b.2;rw[An,An,Bq,Bq] at h1;rw[aZf,ψ,ψ,κ,length_nil];omega
  split
  ·rw[ψ,ψ,ψ,show aWq.length=2 from rfl,show arrS.length=4 from rfl];omega
  split
  ·rw[ψ,ψ,ψ,show aWp.length=4 from rfl,show inP.length=4 from rfl];omega
  split
  ·have ht:kW (fM ks).tail+(aH9 (fM ks)).length≤kW (fM ks):=by
    cases fM ks with
    | nil=>exact le_refl _
    | cons x l=>unfold kW;rw[An,Bq];show _+x.2.length≤_;rw[List.tail_cons];omega
   rw[ψ,ψ,ψ,show aWw.length=5 from rfl,show ofP.length=4 from rfl];omega
  split
  ·have ha:(aY3 (fM ks)).length≤kW (fM ks)+2:=by
    cases fM ks with
    | nil=>exact Ae _
    | cons x l=>
     have:=bU (opn x.1) x.2;unfold kW;rw[An,Bq,aY3];omega
   rw[ψ,ψ,show uS.length=3 from rfl];omega
  ·omega
theorem zG:∀l:List Ex,aL2 l→kW (fM l)≤jX l
 | [],_=>le_refl _
 | e::l,h=>by
  have h1:=kT e h.1;have h2:=zG l h.2;rw[fM,jX];unfold kW at h2 ⊢;rw[An,Bq];dsimp only;omega
theorem aT6:∀b:Bd,bdP b→((prB b).map (fun s:Str=>s.length)).sum+3*(prB b).length≤bdW b
 | .mk s pl h g e,hb=>by
  have h1:=kT e hb.2;have h2:=sF hb.1;rw[prB,bdW];cases h with
  | true=>
   rw[ξ rfl];simp only[Ap,Az,An,Bz,Bq,List.sum_nil,κ,length_nil,ψ,show uS.length=3 from rfl,show eqP.length=3 from rfl];omega
  | false=>
   rw[ζ π];simp only[Az,An,Bz,Bq,List.sum_nil,κ,length_nil,ψ,show eqP.length=3 from rfl];omega
theorem u5:∀l:List Bd,pF l→((fP l).map (fun s:Str=>s.length)).sum+3*(fP l).length≤iN l
 | [],_=>le_refl _
 | b::l,h=>by
  have h1:=aT6 b h.1;have h2:=u5 l h.2;rw[fP,iN,Ah,sum_append,ψ];omega
end
theorem aBn:∀(l m:List Bd),fP (l++m)=fP l++fP m
 | [],m=>by rw[fP];rfl
 | b::l,m=>by rw[Ap,fP,fP,aBn l m,Aj]
abbrev mu (z:Z):Nat:=40*wt z.R
theorem vU {R:List Tk}(h:¬R=[]):240+40*(R.headD zTk).text.length+40*wt R.tail≤40*wt R:=by
 cases R with
 | nil=>exact absurd rfl h
 | cons t R=>rw[c9];show 240+40*t.text.length+40*wt R≤_;omega
theorem aF3 (R:List Tk):40*wt R.tail≤40*wt R:=by
 cases R with
 | nil=>exact le_refl _
 | cons t R=>rw[c9];show 40*wt R≤_;omega
theorem aUn {s:Str}{z:Z}(h:isZ s z=true):¬z.R=[]:=fun q=>by
 unfold isZ bA at h;rw[q] at h;unfold isK at h;rw[Ab] at h;exact Bool.noConfusion h.1
theorem mK (s:Str) (z:Z):mu (bX s z).2≤mu z∧((bX s z).1=true→240+mu (bX s z).2≤mu z):=by
 unfold bX;split
 ·rename_i h;have:=vU (aUn h.2);exact⟨aF3 _,fun _=>by show 240+40*wt z.R.tail≤40*wt z.R;omega⟩
 ·exact⟨le_refl _,fun h=>Bool.noConfusion h⟩
theorem eU {s:Str}{z:Z}(h:(aN s z).e=0):240+mu (aN s z)≤mu z:=by
 unfold aN at h ⊢;split at h
 ·rename_i hm;rw[ξ hm];exact(mK s z).2 hm
 ·exact(cX (by decide) h).elim
theorem lZ {k:Int}(q:¬k=0) {z:Z}(h:(aO k z).2.e=0):240+40*(aO k z).1.text.length+mu (aO k z).2≤mu z:=by
 unfold aO at h ⊢;split at h
 ·rename_i hc;rw[ξ hc];refine vU fun r=>?_
  have:=hc.2;unfold bA at this;rw[r] at this;exact q this.symm
 ·exact(cX (by decide) h).elim
theorem aFo (a b:List Tk):wt (a++b)=wt a+wt b:=by unfold wt;rw[Ah,sum_append]
theorem aNe:∀l:List Tk,iD (iQ l)+200*l.length≤40*wt l
 | []=>Ae _
 | t::l=>by
  have:=aNe l;show t.text.length+24+0+iD (iQ l)+200*(l.length+1)≤_;rw[c9];omega
theorem aFq (z:Z):iD (iQ (aU z).1)+200*(aU z).1.length+mu (aU z).2≤mu z:=by
 unfold aU;split
 ·have h1:=aNe (z.R.takeWhile rV);have h2:=aFo (z.R.takeWhile rV) (z.R.dropWhile rV);rw[List.takeWhile_append_dropWhile] at h2;show iD (iQ (z.R.takeWhile rV))+200*(z.R.takeWhile rV).length+40*wt (z.R.dropWhile rV)≤40*wt z.R;omega
 ·show 0+0+mu z≤mu z;omega
theorem p9 (n m:Nat) (a:Int) (z:Z):mu (cB n m a z)=mu z:=by
 unfold cB;split
 ·unfold mu;rw[rC]
 ·rfl
theorem wR (s:Str) (n:Nat) (z:Z):mu (bB s n z).2≤mu z:=by
 have q:mu (moreA s n z)=mu z:=by
  unfold moreA;split
  ·unfold mu;rw[rC]
  ·rfl
 have hS:∀z:Z,mu (cV z)≤mu z:=fun z=>by
  unfold cV;split
  ·have h2:=aFo (z.R.takeWhile (isK cL)) (z.R.dropWhile (isK cL));rw[List.takeWhile_append_dropWhile] at h2;show 40*wt (z.R.dropWhile (isK cL))≤40*wt z.R;omega
  ·exact le_refl _
 have:=hS (moreA s n z);unfold bB;split
 ·show mu (cV (moreA s n z))≤_;omega
 ·show mu (cB _ _ _ _)≤_;rw[p9];omega
theorem tP {z:Z}(h:(bK z).2.e=0):5*rS (bK z).1+mu (bK z).2≤mu z:=by
 unfold bK at h ⊢;split at h
 ·rename_i he;rw[ξ he];cases hs:cG z.R with
  | error e=>obtain⟨e,p⟩:=e;rw[hs] at h;exact absurd h (qO hs)
  | ok y=>
   obtain⟨s,R'⟩:=y;have:=(aA7 hs).2
   show 5*rS s+40*wt R'≤40*wt z.R;omega
 ·rename_i he;exact absurd h he
theorem kL:SchP mT:=⟨.leaf 0 [] (.inl rfl),fun p hp=>(by cases hp),Ae _⟩
theorem aNl:rS mT=16:=by kernel_rfl
theorem tQ {L:List Tk}{z:Z}(r:ZA L z) (hwt:wt L≤30000):SchP (bK z).1:=by
 have q:=(gH r hwt).2.1.l;unfold bK at q ⊢;split
 ·rename_i he;rw[ξ he] at q;cases hs:cG z.R with
  | error e=>exact kL
  | ok y=>
   obtain⟨s,R'⟩:=y;rw[hs] at q;obtain⟨⟨g1,g2⟩,_⟩:=aA7 hs;exact⟨g1,g2,le_trans q (by decide)⟩
 ·exact kL
def aSy (L:List Tk):Prop:=∀t∈L,u9 t.n
theorem dJ:u9 0:=⟨Int.le_refl _,by decide⟩
theorem aUm:∀(s:Str) (k:Int),(∀c∈s,dgB c.toNat=true)→0≤k→0≤kR s k
 | [],_,_,h=>h
 | c::s,k,hs,h=>by
  rw[kR];have hc:=hs c (.head _);unfold dgB at hc;have hc:=ω hc;split
  ·exact aUm s _ (fun c hc=>hs c (.tail _ hc)) (by omega)
  ·exact h
theorem vT (p:Nat→Bool):∀s:Str,∀c∈s.take (cN p s),p c.toNat=true
 | [],c,h=>by rw[cN,B5] at h;cases h
 | a::s,c,h=>by
  rw[cN] at h;split at h
  ·rename_i ha;rw[As] at h;rcases Aq.1 h with rfl | h
   ·exact ha
   ·exact vT p s c h
  ·rw[B5] at h;cases h
theorem aP2 {c:UInt8}{r:Str}{k:Int}{t:Str}{v:Int}(h:fQ (c::r)=.ok (k,t,v)):u9 v:=by
 rw[fQ] at h;split at h
 ·split at h
  ·cases h
  ·rename_i q;injection h with h;injection h with _ h;injection h with _ h;rw[←h];exact⟨aUm _ _ (vT dgB _) (Int.le_refl _),by omega⟩
 split at h
 ·unfold n8 at h;split at h
  ·cases h
  split at h
  ·cases h;exact dJ
  split at h
  ·cases h;exact dJ
  ·cases h;exact dJ
 split at h
 ·cases h
 ·cases h;exact dJ
theorem r8:∀(f a:Nat) (s:Str) (l:List Tk),jA f a s=.ok l→aSy l
 | 0,a,s,l,h=>by
  rw[jA] at h;cases h;intro t ht;rw[Ar.1 ht];exact dJ
 | f+1,a,[],l,h=>by
  rw[jA] at h;cases h;intro t ht;rw[Ar.1 ht];exact dJ
 | f+1,a,c::r,l,h=>by
  rw[jA] at h;split at h
  ·exact r8 f _ _ l h
  ·cases ho:fQ (c::r) with
   | error e=>rw[ho] at h;cases h
   | ok p=>
    obtain⟨k,t,v⟩:=p;rw[ho] at h;dsimp only at h;cases hq:jA f (a+t.length) ((c::r).drop t.length) with
    | error e=>rw[hq] at h;cases h
    | ok L'=>
     rw[hq] at h;have h:(⟨k,t,v,(a:Int)⟩:Tk)::L'=l:=by injection h
     subst h;intro x hx;rcases Aq.1 hx with rfl | hx
     ·exact aP2 ho
     ·exact r8 f _ _ L' hq x hx
theorem qY:∀{l:List Pt}{p:Pt},kG l→aNy p→kG (l++[p])
 | [],_,_,h=>⟨h,trivial⟩
 | _::_,_,h,k=>⟨h.1,qY h.2 k⟩
theorem tY:∀(l:List Pt) (p:Pt),iD (l++[p])=iD l+ptW p
 | [],p=>by rw[Az,iD,iD,iD];omega
 | a::l,p=>by rw[Ap,iD,iD,tY l p];omega
theorem aDs:aNy zPt∧ptW zPt=24:=⟨⟨dJ,trivial⟩,by unfold zPt;rw[ptW,iD];rfl⟩
theorem aNz {L:List Tk}(hN:aSy L):∀f:Nat,(∀o z,ZA L z→aNy (aZ f o z).1.1∧((aZ f o z).1.2=true→(aZ f o z).2.e=0→ptW (aZ f o z).1.1+mu (aZ f o z).2≤mu z)∧((aZ f o z).2.e=0→mu (aZ f o z).2≤mu z))∧(∀o z,ZA L z→aNy (gJ f o z).1∧((gJ f o z).2.e=0→ptW (gJ f o z).1+mu (gJ f o z).2≤mu z))∧(∀o out z,ZA L z→kG out→kG (eA f o out z).1∧((eA f o out z).2.e=0→iD (eA f o out z).1+mu (eA f o out z).2≤iD out+mu z))
 | 0=>by
  refine⟨fun o z _=>?_,fun o z _=>?_,fun o out z _ ho=>?_⟩
  ·rw[aZ];exact⟨aDs.1,fun h=>Bool.noConfusion h,fun _=>le_refl _⟩
  ·rw[gJ];exact⟨aDs.1,fun h=>(cX (by decide) h).elim⟩
  ·rw[eA];exact⟨ho,fun _=>le_refl _⟩
 | f+1=>by
  obtain⟨h1,h2,I⟩:=aNz hN f;obtain⟨k1,O,U⟩:=zP f;refine⟨fun o z q=>?_,fun o z q=>?_,fun o out z q ho=>?_⟩
  ·rw[aZ];split
   ·exact⟨aDs.1,fun h=>Bool.noConfusion h,fun _=>le_refl _⟩
   split
   ·rename_i r;have u:¬z.R=[]:=fun y=>by unfold bA at r;rw[y] at r;exact absurd r.1 (by decide)
    have hw:=vU u;have hm:=hN _ q.mem;refine⟨⟨hm,trivial⟩,fun _ _=>?_,fun _=>aF3 _⟩;have hl:(oT (bA z)).length≤(bA z).text.length:=by
     unfold oT;split
     ·exact Ae _
     ·exact le_refl _
    show(oT (bA z)).length+24+0+40*wt z.R.tail≤40*wt z.R;have:(bA z).text.length=(z.R.headD zTk).text.length:=rfl;omega
   split
   ·rename_i hm;have:=(mK aFu z).2 hm;refine⟨⟨dJ,trivial⟩,fun _ _=>?_,fun _=>(mK aFu z).1⟩;show 0+24+0+mu (bX aFu z).2≤mu z;omega
   split
   ·exact⟨aDs.1,fun h=>Bool.noConfusion h,fun _=>le_refl _⟩
   split
   ·exact⟨aDs.1,fun h=>Bool.noConfusion h,fun h=>(cX (by decide) h).elim⟩
   ·obtain⟨g1,g2⟩:=h2 (o+1) _ (q.need cW);have key:(aN oR (gJ f (o+1) (aN cW z)).2).e=0→ptW (gJ f (o+1) (aN cW z)).1+mu (aN oR (gJ f (o+1) (aN cW z)).2)≤mu z:=fun h=>by
     have A:=(Kq.need oR _ h).1
     have J:=(O (o+1) _ A).1
     have M:=eU h;have Y:=g2 A;have w3:=eU J;omega
    exact⟨g1,fun _ h=>key h,fun h=>by have:=key h;dsimp only;omega⟩
  ·rw[gJ];obtain⟨g1,g2,g3⟩:=h1 o z q;split
   ·exact⟨aDs.1,fun h=>(cX (by decide) h).elim⟩
   rename_i hb;have hb:(aZ f o z).1.2=true:=by simpa using hb
   split
   ·rename_i r;have u:¬z.R=[]:=fun y=>by unfold bA at r;rw[y] at r;exact absurd r.1 (by decide)
    have hw:=vU u;have hm:=hN _ q.mem;obtain⟨B,E⟩:=I o [] (tlZ z) (q.tlp (by rw[r.1];decide)) trivial;refine⟨⟨hm,B⟩,fun h=>?_⟩;have q3:=E h;show(bA z).text.length+24+iD (eA f o [] (tlZ z)).1+mu (eA f o [] (tlZ z)).2≤mu z;have A:(bA z).text.length=(z.R.headD zTk).text.length:=rfl;have J:mu (tlZ z)=40*wt z.R.tail:=rfl;have e3:mu z=40*wt z.R:=rfl;rw[show iD []=0 from rfl] at q3;omega
   ·exact⟨g1,fun h=>g2 hb h⟩
  ·rw[eA];obtain⟨g1,g2,g3⟩:=h1 o z q;split
   ·split
    ·exact⟨ho,fun h=>by have:=g3 h;dsimp only;omega⟩
    ·rename_i hb;have hb:(aZ f o z).1.2=true:=by simpa using hb
     obtain⟨B,E⟩:=I o (out++[(aZ f o z).1.1]) (aZ f o z).2 ((mI L f).1 o z q).1 (qY ho g1);refine⟨B,fun h=>?_⟩;have M:=E h;have Y:=g2 hb (U o _ _ h).1;rw[tY] at M;omega
   ·exact⟨ho,fun _=>le_refl _⟩
end Go.Proofs.YtkhgpgihmphfdaaGreatDoor
