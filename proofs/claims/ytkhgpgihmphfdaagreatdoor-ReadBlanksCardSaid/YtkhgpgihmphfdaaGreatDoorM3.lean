/-
  Texts Am12 to Am16 in one.
-/
import Derived.Test.YtkhgpgihmphfdaaGreatDoorM2
import Derived.RangeFuncRecord
import Derived.IntWalk
import Derived.Laws.StructEq
open List (all_eq_true append_assoc append_nil cons_append drop_drop drop_succ_cons eq_nil_of_length_eq_zero filter_cons filter_eq_self length_append length_cons length_nil length_range length_singleton length_take map_cons map_nil mem_append mem_cons mem_filter mem_map mem_range nil_append nodup_cons range'_succ range_eq_range' take_of_length_le take_succ_cons)
open Nat (eq_of_beq_eq_true le_of_ble_eq_true le_of_lt le_refl le_trans lt_of_lt_of_le min_eq_left sub_zero zero_add zero_le)
namespace Go.AM
open Go
def k8 (μ:Mu) (h:c8):Nat→Prop:=fun b=>∃id o c,h id=some o∧μ id=some (b,c)
def bI (P:Program) (f:FuncId) (args:List V) (hin:List (Nat×AObj)) (res:V) (hout:List (Nat×AObj)):Prop:=
 ∀S μ w vals,Inv ⟨w,S,k8 μ (look hin),μ,look hin⟩ S μ (look hin) w→aY S μ (look hin) args vals→
  Calls P f ⟨vals⟩ w fun e w'=>∃S' μ' v,e=.returned v∧Inv ⟨w,S,k8 μ (look hin),μ,look hin⟩ S' μ' (look hout) w'∧aL S' μ' (look hout) res v
mutual
theorem R.ren_id:∀r:R,r.ren (fun i=>i)=r
 | .c _=>rfl
 | .hs ..=>rfl
 | .tl ..=>rfl
 | .vp ..=>rfl
 | .ep ..=>rfl
 | .mr ..=>rfl
 | .clo f caps=>by simp only[R.ren,R.renL_id caps]
 | .mth f x=>by simp only[R.ren,R.ren_id x]
 | .yl _=>rfl
 | .ra _ _ _ _=>rfl
 | .rp _ _ _ _=>rfl
 | .ras n es l=>by simp only[R.ren,R.renL_id l]
 | .pas l=>by simp only[R.ren,R.renL_id l]
theorem R.renL_id:∀r:List R,R.renL (fun i=>i) r=r
 | []=>rfl
 | r::rs=>by simp only[R.renL,R.ren_id r,R.renL_id rs]
end
mutual
theorem V.ren_id:∀r:V,r.ren (fun i=>i)=r
 | .one r=>by simp only[V.ren,R.ren_id r]
 | .pa _=>rfl
 | .ma l=>by simp only[V.ren,R.renL_id l]
 | .tup l=>by simp only[V.ren,V.renL_id l]
theorem V.renL_id:∀r:List V,V.renL (fun i=>i) r=r
 | []=>rfl
 | r::rs=>by simp only[V.renL,V.ren_id r,V.renL_id rs]
end
theorem aGn:∀l:List (Nat×V),aSn (fun i=>i) l=l
 | []=>rfl
 | (t,v)::l=>by simp only[aSn,V.ren_id v,aGn l]
theorem aGl:∀l:List (List R),aGm (fun i=>i) l=l
 | []=>rfl
 | r::l=>by simp only[aGm,R.renL_id r,aGl l]
theorem Ole.refl_id {o:AObj}(h:o≠ .dead):Ole (fun i=>i) o o:=by
 cases o with
 | var t cells=>exact .var (R.renL_id cells).symm
 | arr=>exact .arr
 | map=>exact .map
 | dead=>exact absurd rfl h
 | lp st j i e=>exact .lp (aGn e).symm
 | dfr=>exact .dfr
 | rarr te es l=>exact .rarr (aGl l).symm
 | tok r k=>exact .tok (R.ren_id r).symm
inductive Conv (h:c8):List Nat→V→V→Prop
 | refl {v}:Conv h [] v v
 | one {ids r c}:PureL h ids [r] [c]→Conv h ids (.one r) (.one (.c c))
 | agg {ids rs cs}:PureL h ids rs cs→Conv h ids (.ma rs) (.pa cs)
 | pa {ids l cs}:PureL h ids (l.map R.c) cs→Conv h ids (.pa l) (.pa cs)
inductive ArgsV (st:St):List Nat→List Operand→List V→Prop
 | nil:ArgsV st [] [] []
 | cons {ids ids' x xs v v' vs}:opv st x=some v→Conv st.h ids v v'→ArgsV st ids' xs vs→ArgsV st (ids++ids') (x::xs) (v'::vs)
theorem Conv.rel {S:Sto}{μ:Mu}{H H0:c8}{w:World}{ids:List Nat}{v v':V}{u:Value}(h:Conv H0 ids v v') (hi:∀i∈ids,H i=H0 i) (hO:∀id o,H id=some o→kF S μ H w id o) (q:aL S μ H v u):aL S μ H v' u:=by
 cases h with
 | refl=>exact q
 | @one _ r c h=>
  simp only[aL,aV] at q ⊢;have:=h.rel hi hO (vs:=[u]) (by simp only[aM];exact⟨u,[],rfl,q,rfl⟩);simp only[bZ] at this;obtain⟨v,vs',h1,h2,y⟩:=this;cases h1;exact h2
 | @agg _ rs cs h=>
  simp only[aL] at q ⊢;obtain⟨vs,h1,h2⟩:=q;exact⟨vs,h1,h.rel hi hO h2⟩
 | @pa _ l cs h=>
  simp only[aL] at q ⊢;obtain⟨vs,h1,h2⟩:=q;exact⟨vs,h1,h.rel hi hO h2.toR⟩
def bW:List Operand→List Nat
 | []=>[]
 | x::xs=>opr x++bW xs
theorem ArgsV.rel {G:Ctx}{n:Nat}{S:Sto}{μ:Mu}{st st':St}{a:Act}{w:World}(hs:Sim G n S μ st' a w):∀{ids:List Nat}{xs:List Operand}{vs:List V},ArgsV st ids xs vs→(∀t∈bW xs,st'.e t=st.e t)→(∀i∈ids,st'.h i=st.h i)→aY S μ st'.h vs (xs.map a.eval):=by
 intro ids xs vs h
 induction h with
 | nil=>intro _ _;simp[aY]
 | cons hx hc _ q=>
  intro ht hi;simp only[An,aY];refine⟨_,_,rfl,?_,q (fun t h=>ht t (by simp[bW,h])) fun i h=>hi i (by simp[h])⟩;exact hc.rel (fun i h=>hi i (by simp[h])) hs.inv.obj (aI hs hx fun t h=>ht t (by simp[bW,h]))
theorem Inv.hand {G:Ctx}{S:Sto}{μ:Mu}{H:c8}{w:World}{hin:List (Nat×AObj)}(h:Inv G S μ H w) (hh:∀id o,look hin id=some o→H id=some o∧o≠ .dead) (hc:subset (gS hin) (hin.map (·.1))=true):
  Inv ⟨w,S,k8 μ (look hin),μ,look hin⟩ S μ (look hin) w:=by
 have q:∀i∈hin.map (·.1),Good H (look hin) (fun i=>i) i:=by
  intro i hi;obtain⟨o,ho⟩:=cM hi;obtain⟨h1,h2⟩:=hh i o ho;exact⟨o,o,h1,ho,.refl_id h2⟩
 refine⟨h.holds,fun id o ho=>?_,fun i j o o' b c c' hi A hm r=>h.inj i j o o' b c c' (hh _ _ hi).1 (hh _ _ A).1 hm r,fun i o b c hi hm=>.inr ⟨i,o,c,hi,hm⟩,FrameW.refl _ _ ⟨h.frame.tabAt,fun g u=>?_⟩,S.le_refl,fun b _ _=>⟨fun _=>rfl,rfl⟩,Evolve.refl _ _ _,h.fre⟩
 ·obtain⟨h1,h2⟩:=hh id o ho;exact(h.obj id o h1).ren (.refl_id h2) fun i hi=>q i (bT hc i (kQ (b6 ho) i hi))
 ·rintro⟨i,o,c,h1,h2⟩;have B:=(h.frame.tab.1 g u).1
  rcases h.own i o g c (hh i o h1).1 h2 with y | y
  ·omega
  ·exact h.frame.tab.2 g u y
def outs (l:List (Nat×AObj)):List (Nat×Option AObj):=l.map fun p=>(p.1,some p.2)
theorem wW:∀(l:List (Nat×AObj)) (i:Nat),look (outs l) i=(look l i).map some
 | [],_=>rfl
 | (k,o)::l,i=>by
  simp only[outs,An,look];cases Nat.beq i k
  ·have:=wW l i;unfold outs at this;simpa using this
  ·rfl
theorem gN (H:c8) (l:List (Nat×AObj)) (i:Nat):iB H (outs l) i=match look l i with | some o=>some o | none=>H i:=by
 simp only[iB,wW];cases look l i<;>rfl
theorem Inv.back {G:Ctx}{S S':Sto}{μ μ':Mu}{H:c8}{w w':World}{hin hout:List (Nat×AObj)}(h:Inv G S μ H w) (hh:∀id o,look hin id=some o→H id=some o)
  (hnew:∀id o,look hout id=some o→(∃o',look hin id=some o')∨H id=none)
  (u:Inv ⟨w,S,k8 μ (look hin),μ,look hin⟩ S' μ' (look hout) w'):
  ∃B:Mu,(∀id o,look hout id=some o→B id=μ' id)∧Inv G S' B (iB H (outs hout)) w'∧Evolve S μ H S' B (iB H (outs hout))∧Evolve S' μ' (look hout) S' B (iB H (outs hout)):=by
 have hE:Evolve S μ (look hin) S' μ' (look hout):=u.evo
 let B:Mu:=fun id=>match look hout id with | some _=>μ' id | none=>μ id
 have y:∀id o,look hout id=some o→B id=μ' id:=fun id o ho=>by simp only[B,ho]
 have M:∀id,look hout id=none→B id=μ id:=fun id ho=>by simp only[B,ho]
 have ab:∀id o,look hout id=some o→iB H (outs hout) id=some o:=fun id o ho=>by rw[gN,ho]
 have O:∀id,look hout id=none→iB H (outs hout) id=H id:=fun id ho=>by rw[gN,ho]
 have aa:∀id o,look hin id=some o→∃o',look hout id=some o':=fun id o ho=>by
  obtain⟨o',h1,_⟩:=hE.obj id o ho;exact⟨o',h1⟩
 have ac:Evolve S μ H S' B (iB H (outs hout)):=by
  refine⟨hE.le,fun id o ho=>?_⟩;cases hq:look hout id with
  | none=>exact⟨o,by rw[O id hq,ho],o.succ_refl (M id hq)⟩
  | some J=>
   rcases hnew id J hq with⟨o',hi⟩ | hi
   ·have:=hh id o' hi;rw[ho] at this;cases this;obtain⟨o3,h1,h2⟩:=hE.obj id o hi;rw[hq] at h1;cases h1;exact⟨J,ab id J hq,by rw[y id J hq];exact h2⟩
   ·rw[ho] at hi;cases hi
 have hE2:Evolve S' μ' (look hout) S' B (iB H (outs hout)):=⟨S'.le_refl,fun id o ho=>⟨o,ab id o ho,o.succ_refl (y id o ho)⟩⟩
 have Y:∀id o,H id=some o→look hout id=none→∀b c,μ id=some (b,c)→b<w.heap.size∧¬k8 μ (look hin) b:=by
  intro id o ho hq b c hm;refine⟨(h.obj id o ho).lt hm,?_⟩;rintro⟨E,o',c',h1,h2⟩;have:=h.inj id E o o' b c c' ho (hh _ _ h1) hm h2;subst this;obtain⟨J,q⟩:=aa id o' h1;rw[hq] at q;cases q
 have I:∀id o b c,look hout id=some o→μ' id=some (b,c)→w.heap.size≤b∨k8 μ (look hin) b:=fun id o b c ho hm=>u.own id o b c ho hm
 refine⟨B,y,⟨u.holds,fun id o ho=>?_,fun i j o o' b c c' hi hj hm A=>?_,fun i o b c hi hm=>?_,?_,Sto.le_trans h.sle hE.le,fun b hb hF=>?_,h.evo.trans ac,u.fre⟩,ac,hE2⟩
 ·cases hq:look hout id with
  | some J=>
   rw[ab id J hq] at ho;cases ho;exact(u.obj id _ hq).evolve hE2 (y id _ hq) fun b c hm=>⟨rfl,fun _=>rfl,rfl⟩
  | none=>
   rw[O id hq] at ho;refine(h.obj id o ho).evolve ac (M id hq) fun b c hm=>?_
   obtain⟨h1,h2⟩:=Y id o ho hq b c hm;exact⟨u.frame.block b h1 h2,(u.sto b h1 h2).1,(u.sto b h1 h2).2⟩
 ·cases U:look hout i with
  | some oi=>
   rw[y i oi U] at hm;cases r:look hout j with
   | some oj=>
    rw[y j oj r] at A;exact u.inj i j oi oj b c c' U r hm A
   | none=>
    rw[M j r] at A;rw[O j r] at hj;obtain⟨h1,h2⟩:=Y j o' hj r b c' A;rcases I i oi b c U hm with q | q
    ·omega
    ·exact absurd q h2
  | none=>
   rw[M i U] at hm;rw[O i U] at hi;obtain⟨h1,h2⟩:=Y i o hi U b c hm;cases r:look hout j with
   | some oj=>
    rw[y j oj r] at A;rcases I j oj b c' r A with q | q
    ·omega
    ·exact absurd q h2
   | none=>
    rw[M j r] at A;rw[O j r] at hj;exact h.inj i j o o' b c c' hi hj hm A
 ·cases hq:look hout i with
  | some J=>
   rw[y i J hq] at hm;rcases I i J b c hq hm with q | ⟨E,o',c',q,h4⟩
   ·exact .inl (le_trans h.frame.size q)
   ·exact h.own E o' b c' (hh _ _ q) h4
  | none=>
   rw[M i hq] at hm;rw[O i hq] at hi;exact h.own i o b c hi hm
 ·refine⟨u.frame.os.trans h.frame.os,u.frame.tape.trans h.frame.tape,u.frame.output.trans h.frame.output,le_trans h.frame.size u.frame.size,fun k hk hF=>?_,h.frame.tab⟩;rw[u.frame.block k (A4 hk h.frame.size) ?_,h.frame.block k hk hF];rintro⟨E,o',c',q,h4⟩;rcases h.own E o' k c' (hh _ _ q) h4 with h5 | h5
  ·omega
  ·exact hF h5
 ·have hnf:¬k8 μ (look hin) b:=by
   rintro⟨E,o',c',q,h4⟩;rcases h.own E o' b c' (hh _ _ q) h4 with h5 | h5
   ·omega
   ·exact hF h5
  have h1:=u.sto b (A4 hb h.frame.size) hnf;have h2:=h.sto b hb hF;exact⟨fun o=>(h1.1 o).trans (h2.1 o),h1.2.trans h2.2⟩
section
variable {P:Program}{n:Nat}{o:Oper}{st:St}{d:Nat}
def keys {α:Type}(l:List (Nat×α)):List Nat:=l.map (·.1)
theorem x6 {w:World}{S:Sto}{F:Nat→Prop}{μ:Mu}{hin:List (Nat×AObj)}:Ctx.keeps ⟨w,S,F,μ,look hin⟩ (keys hin):=
 ⟨fun id o ho=>mem_map.2 ⟨_,b6 ho,rfl⟩,fun h1 h2=>by
  obtain⟨o,ho⟩:=cM h1;rw[show look hin 997=none from h2] at ho
  cases ho⟩
def AObj.live:AObj→Bool
 | .dead=>false
 | _=>true
def fC (args:List V) (hin:List (Nat×AObj)):Bool:=subset (V.refsL args) (keys hin)&&subset (gS hin) (keys hin)&&(hin.all fun p=>p.2.live)
theorem Step.call {f:FuncId}{ids q:List Nat}{args:List V}{hin hout:List (Nat×AObj)}{res:V}(O:o.dst=some d) (I:d<n) (U:bI P f args hin res hout)
  (y:gG (fun p=>st.h p.1=some p.2) hin) (r:gG (fun p=>p.1∈keys hin∨st.h p.1=none) hout) (hok:fC args hin=true)
  (A:∀st',fL ⟨q,ids++keys hin++keys hout⟩ st st'→∀G S μ a w,Sim G n S μ st' a w→∃vals,(execOp a.eval o).run P w=.ok (.enter f ⟨vals⟩) w∧aY S μ st'.h args vals):
  Step P n o st ⟨q,ids++keys hin++keys hout⟩ ⟨some (d,some res),outs hout⟩:=by
 intro st' ha G S μ a w K Q hs Y;obtain⟨vals,hr,hv⟩:=A st' ha G S μ a w hs;simp only[fC,Ab] at hok;obtain⟨⟨k1,k2⟩,k3⟩:=hok;have hh:∀id o,look hin id=some o→st'.h id=some o∧o≠ .dead:=by
  intro id o ho;have hm:=b6 ho;have h1:=y.mem _ hm;refine⟨by rw[ha.2 id (by simp only[A2];exact .inl (.inr (mem_map.2 ⟨_,hm,rfl⟩)))];exact h1,?_⟩;have:=(A8.1 k3) _ hm;rintro rfl;simp[AObj.live] at this
 have B:∀id o,look hout id=some o→(∃o',look hin id=some o')∨st'.h id=none:=by
  intro id o ho;have hm:=b6 ho;rcases r.mem _ hm with h1 | h1
  ·exact .inl (cM h1)
  ·exact .inr (by rw[ha.2 id (by simp only[A2];exact .inr (mem_map.2 ⟨_,hm,rfl⟩))];exact h1)
 have hI:=hs.inv.hand hh k2;have u:∀i∈keys hin,Good st'.h (look hin) (fun i=>i) i:=by
  intro i hi;obtain⟨o,ho⟩:=cM hi;obtain⟨h1,h2⟩:=hh i o ho;exact⟨o,o,h1,ho,.refl_id h2⟩
 have J:aY S μ (look hin) args vals:=by
  have:=aY.ren (H:=st'.h) (H':=look hin) (σ:=fun i=>i) args vals (fun i hi=>u i (bT k1 i hi)) (by rw[V.renL_id];exact hv);exact this
 have hc:=U S μ w vals hI J;refine fun ro=>jL hr ?_
 refine hc.mono fun e w' ⟨S',μ',v,he,M,E⟩=>?_
 subst he;obtain⟨μ2,q1,q2,q3,q4⟩:=hs.inv.back (fun id o ho=>(hh id o ho).1) B M;show K (a.put o.dst v) w';rw[O];refine Y S' μ2 _ _ ?_;exact hs.put q2 q3 I (x:=some res) fun z hz=>by cases hz;exact aL.evolve q4 _ _ E
def i7 (P : Program) (f : FuncId) : Prop := ∃ fn, P.funcs[f]? = some fn ∧ (fn.name == "runtime.NumGoroutine") = false ∧ fn.body.isNone = false
theorem eL {f:FuncId}(hb:i7 P f) (args:Array Value) (w:World):(callFunc f args).run P w=.ok (.enter f args) w:=by
 obtain⟨fn,h1,h2,q⟩:=hb;have hp:(program:Sem Program).run P w=.ok P w:=rfl;simp only[callFunc,ε,hp,θ,h1,h2,q,Av,Bn,τ]
theorem aG5 {f:FuncId}{xs:Array Operand}{ts:Array TypeId}{ids:List Nat}{args:List V}{res:V}(hin hout:List (Nat×AObj)) (hb:i7 P f) (ho:o.op=.call { callee:=.value (.func f),args:=xs,argTypes:=ts }) (A:o.dst=some d) (y:d<n)
  (B:bI P f args hin res hout) (ha:ArgsV st ids xs.toList args) (u:gG (fun p=>st.h p.1=some p.2) hin) (q:gG (fun p=>p.1∈keys hin∨st.h p.1=none) hout) (hok:fC args hin=true):
  Step P n o st ⟨bW xs.toList,ids++keys hin++keys hout⟩ ⟨some (d,some res),outs hout⟩:=by
 refine Step.call A y B u q hok fun st' r G S μ a w hs=>⟨xs.toList.map a.eval,?_,ha.rel hs r.1 fun i h=>r.2 i (by simp[h])⟩
 simp only[execOp,ho,resolve,Deferred.ofValue,Act.eval,ε,τ,θ,invoke,eL hb];congr 2;apply Array.ext';simp
theorem aG3 {f:FuncId}{x:Operand}{caps:List R}{xs:Array Operand}{ts:Array TypeId}{ids:List Nat}{args:List V}{res:V}(hin hout:List (Nat×AObj)) (hb:i7 P f) (ho:o.op=.call { callee:=.value x,args:=xs,argTypes:=ts }) (O:o.dst=some d) (I:d<n)
  (hx:opv st x=some (.one (.clo f caps))) (U:bI P f (args++caps.map V.one) hin res hout) (ha:ArgsV st ids xs.toList args) (y:gG (fun p=>st.h p.1=some p.2) hin) (u:gG (fun p=>p.1∈keys hin∨st.h p.1=none) hout) (hok:fC (args++caps.map V.one) hin=true):
  Step P n o st ⟨opr x++bW xs.toList,ids++keys hin++keys hout⟩ ⟨some (d,some res),outs hout⟩:=by
 refine Step.call O I U y u hok fun st' q G S μ a w hs=>?_
 have J:=aI hs hx fun t ht=>q.1 t (by simp[ht])
 simp only[aL,aV] at J;obtain⟨vs,h1,h2⟩:=J;refine⟨xs.toList.map a.eval++vs,?_,?_⟩
 ·simp only[execOp,ho,resolve,h1,Deferred.ofValue,ε,τ,θ,invoke,eL hb];congr 2;apply Array.ext';simp
 ·have M:∀(l:List V) (us:List Value) (rs:List R) (vs:List Value),aY S μ st'.h l us→aM S μ st'.h rs vs→aY S μ st'.h (l++rs.map V.one) (us++vs):=by
   intro l
   induction l with
   | nil=>
    intro us rs vs h k;simp only[aY] at h;subst h;simp only[Az]
    induction rs generalizing vs with
    | nil=>simp only[aM] at k;subst k;simp[aY]
    | cons r rs A=>
     simp only[aM] at k;obtain⟨v,vs',rfl,B,E⟩:=k;simp only[An,aY];exact⟨v,vs',rfl,by simpa [aL] using B,A vs' E⟩
   | cons x l A=>
    intro us rs vs h k;simp only[aY] at h;obtain⟨v,vs',rfl,B,E⟩:=h;simp only[Ap,aY];exact⟨v,_,rfl,B,A vs' rs vs E k⟩
  exact M _ _ _ _ (ha.rel hs (fun t ht=>q.1 t (by simp[ht])) fun i h=>q.2 i (by simp[h])) h2
end
theorem Sim.freeze {G:Ctx}{n:Nat}{S:Sto}{μ:Mu}{a:Act}{w:World}{st:St}{id te es:Nat}{elems:List (List C)}{fz:Nat}(h:st.h id=some (.arr te es elems fz)) (hs:Sim G n S μ st a w):∃S' μ',Sim G n S' μ' ⟨st.e,upd st.h id (some (.arr te es elems 2)),st.d⟩ a w:=by
 have hO:=hs.inv.obj id _ h
 have M:∀S',S.le S'→Evolve S μ st.h S' μ (upd st.h id (some (.arr te es elems 2))):=fun S' hle=>⟨hle,fun j x y=>by
  by_cases r:j=id
  ·subst r;rw[h] at y;cases y;exact⟨_,aH _ _ _,by simp[AObj.succ]⟩
  ·exact⟨x,by rw[bJ _ _ _ r];exact y,x.succ_refl rfl⟩⟩
 have hold:∀j x,upd st.h id (some (.arr te es elems 2)) j=some x→∃U,st.h j=some U:=fun j x y=>by
  by_cases r:j=id
  ·subst r;exact⟨_,h⟩
  ·rw[bJ _ _ _ r] at y;exact⟨_,y⟩
 obtain⟨h1,h2,Y,h4,h5,h6,h7,h8,O⟩:=hs.inv;obtain⟨g0,⟨g1,g2⟩ | ⟨b,base,cap,vs,g1,g2,g3,g4,g5,g6,g7,g8,g9⟩⟩:=hO
 ·--no block yet
  have B:=M S S.le_refl;refine⟨S,μ,⟨h1,fun j x y=>?_,fun i j x U b c c' hi y hm I=>?_,fun i x b c hi hm=>?_,h5,h6,h7,h8.trans B,O⟩,hs.size,hs.defers.evolve B,fun t v e=>aL.evolve B v _ (hs.env t v e)⟩
  ·by_cases r:j=id
   ·subst r;have u:some (AObj.arr te es elems 2)=some x:=by rw[←y];exact(aH _ _ _).symm
    cases u;exact⟨g0,.inl ⟨g1,g2⟩⟩
   ·have u:st.h j=some x:=by rw[←y];exact(bJ _ _ _ r).symm
    exact(h2 j x u).evolve B rfl fun _ _ _=>⟨rfl,fun _=>rfl,rfl⟩
  ·obtain⟨_,A⟩:=hold _ _ hi;obtain⟨_,u⟩:=hold _ _ y;exact Y i j _ _ b c c' A u hm I
  ·obtain⟨_,A⟩:=hold _ _ hi;exact h4 i _ b c A hm
 ·let S':Sto:=⟨fun q o=>if q=b∧base≤o∧o<base+elems.length*es then vs[o]? else S.cell q o,S.mapo⟩
  have J:∀o v,S.cell b o=some v→vs[o]?=some v:=fun o v e=>by
   obtain⟨vs0,t0,fr0,p1,p2⟩:=h1.1 b o v e;rw[g2] at p1;cases p1;simpa using p2
  have hle:S.le S':=⟨fun q o v e=>by
   show(if q=b∧base≤o∧o<base+elems.length*es then vs[o]? else S.cell q o)=some v;by_cases hc:q=b∧base≤o∧o<base+elems.length*es
   ·rw[ξ hc];obtain⟨rfl,_⟩:=hc;exact J o v e
   ·rw[ζ hc];exact e,fun q m e=>⟨m,e,m.le_refl⟩⟩
  have B:=M S' hle;have E:∀q o,q≠b→S'.cell q o=S.cell q o:=fun q o r=>ζ fun hc=>r hc.1
  refine⟨S',μ,⟨⟨fun q o v e=>?_,h1.2⟩,fun j x y=>?_,fun i j x U b c c' hi y hm I=>?_,fun i x b c hi hm=>?_,h5,Sto.le_trans h6 hle,fun q hb hF=>?_,h8.trans B,fun q te' lo hi e o ho=>(E q o fun eb=>by rw[eb] at e;have e:S.mapo b=_:=e;rw[g5.2] at e;cases e).trans (O q te' lo hi e o ho)⟩,hs.size,hs.defers.evolve B,fun t v e=>aL.evolve B v _ (hs.env t v e)⟩
  ·by_cases hc:q=b∧base≤o∧o<base+elems.length*es
   ·have e':vs[o]?=some v:=by rw[←e];exact(ξ hc).symm
    obtain⟨rfl,_⟩:=hc;exact⟨⟨vs⟩,te,(0,0),g2,by simpa using e'⟩
   ·have e':S.cell q o=some v:=by rw[←e];exact(ζ hc).symm
    exact h1.1 q o v e'
  ·by_cases r:j=id
   ·subst r;have u:some (AObj.arr te es elems 2)=some x:=by rw[←y];exact(aH _ _ _).symm
    cases u;refine⟨g0,.inr ⟨b,base,cap,vs,g1,g2,g3,g4,g5,bZ.mono hle _ _ g6,(fun e=>by cases e),fun o ho=>?_,fun _ i v hi=>?_⟩⟩
    ·show(if b=b∧base≤o∧o<base+elems.length*es then vs[o]? else S.cell b o)=none;rw[ζ (by omega)];exact g8 o ho
    ·rw[Al] at hi;split at hi
     ·rw[Am] at hi;show(if b=b∧base≤base+i∧base+i<base+elems.length*es then vs[base+i]? else S.cell b (base+i))=some v;rw[ξ ⟨rfl,by omega,by omega⟩];exact hi
     ·cases hi
   ·have u:st.h j=some x:=by rw[←y];exact(bJ _ _ _ r).symm
    refine(h2 j x u).evolve B rfl fun q c' hm=>⟨rfl,fun o=>E q o ?_,rfl⟩
    rintro rfl;exact r (Y j id x _ q c' _ u h hm g1)
  ·obtain⟨_,A⟩:=hold _ _ hi;obtain⟨_,u⟩:=hold _ _ y;exact Y i j _ _ b c c' A u hm I
  ·obtain⟨_,A⟩:=hold _ _ hi;exact h4 i _ b c A hm
  ·have r:q≠b:=by
    rintro rfl;rcases h4 id _ q _ h g1 with h9 | h9
    ·omega
    ·exact hF h9
   exact⟨fun o=>(E q o r).trans ((h7 q hb hF).1 o),(h7 q hb hF).2⟩
theorem Sub.freeze {kf:List Nat}{st:St}{id te es:Nat}{elems:List (List C)}{fz:Nat}(h:st.h id=some (.arr te es elems fz)):Sub kf ⟨st.e,upd st.h id (some (.arr te es elems 2)),st.d⟩ st:=
 fun _ _ _ _ _ _ _ hs=>hs.freeze h
theorem Inv.empty {G:Ctx}{S:Sto}{μ:Mu}{H:c8}{w:World}{id:Nat}(te es:Nat) (h:Inv G S μ H w) (hid:H id=none):Inv G S (upd μ id none) (upd H id (some (.arr te es [] 0))) w∧Evolve S μ H S (upd μ id none) (upd H id (some (.arr te es [] 0))):=by
 have y:Evolve S μ H S (upd μ id none) (upd H id (some (.arr te es [] 0))):=gK hid _ _;refine⟨⟨h.holds,fun j x q=>?_,fun i j x A b c c' hi q hm r=>?_,fun i x b c hi hm=>?_,h.frame,h.sle,h.sto,h.evo.trans y,h.fre⟩,y⟩
 ·by_cases u:j=id
  ·subst u;rw[aH] at q;cases q;exact⟨by simp,.inl ⟨aH _ _ _,rfl⟩⟩
  ·rw[bJ _ _ _ u] at q;exact(h.obj j x q).evolve y (bJ _ _ _ u) fun _ _ _=>⟨rfl,fun _=>rfl,rfl⟩
 ·have h1:i≠id:=fun e=>by subst e;rw[aH] at hm;cases hm
  have h2:j≠id:=fun e=>by subst e;rw[aH] at r;cases r
  rw[bJ _ _ _ h1] at hi hm;rw[bJ _ _ _ h2] at q r;exact h.inj i j x A b c c' hi q hm r
 ·have h1:i≠id:=fun e=>by subst e;rw[aH] at hm;cases hm
  rw[bJ _ _ _ h1] at hi hm;exact h.own i x b c hi hm
theorem Sub.own {kf:List Nat}{st:St}{t id:Nat}(te es:Nat) (h:st.e t=some (.one (.c .nl))) (hid:st.h id=none):Sub kf ⟨upd st.e t (some (.one (.hs id 0 0 0))),upd st.h id (some (.arr te es [] 0)),st.d⟩ st:=by
 intro G n S μ a w _ hs;obtain⟨hi,u⟩:=hs.inv.empty te es hid;refine⟨S,upd μ id none,⟨hi,hs.size,hs.defers.evolve u,fun s v e=>?_⟩⟩;by_cases q:s=t
 ·subst q;have r:=hs.env s _ h;have e':v=.one (.hs id 0 0 0):=by
   have:some v=some (V.one (.hs id 0 0 0)):=by rw[←e];exact aH _ _ _
   cases this;rfl
  subst e';simp only[aL,aV,Rep] at r ⊢;exact⟨⟨_,_,_,r⟩,.inr ⟨te,es,[],0,aH _ _ _,le_refl _,fun _=>⟨le_refl _,.inl ⟨aH _ _ _,rfl,r⟩⟩⟩⟩
 ·have e':st.e s=some v:=by rw[←e];exact(bJ _ _ _ q).symm
  exact aL.evolve u v _ (hs.env s v e')
theorem Sub.ownCell {kf:List Nat}{st:St}{x k id tv:Nat}{cells:List R}(te es:Nat) (h:st.h x=some (.var tv cells)) (O:cells[k]?=some (.c .nl)) (hid:st.h id=none):
  Sub kf ⟨st.e,upd (upd st.h id (some (.arr te es [] 0))) x (some (.var tv (cells.set k (.hs id 0 0 0)))),st.d⟩ st:=by
 intro G n S μ a w _ hs;obtain⟨hi,U⟩:=hs.inv.empty te es hid;have M:x≠id:=fun e=>by subst e;rw[h] at hid;cases hid
 have hx:upd st.h id (some (.arr te es [] 0)) x=some (.var tv cells):=by rw[bJ _ _ _ M];exact h
 obtain⟨b,vs,g1,g2,g3,g4⟩:=hi.obj x _ hx
 have A:Evolve S (upd μ id none) (upd st.h id (some (.arr te es [] 0))) S (upd μ id none) (upd (upd st.h id (some (.arr te es [] 0))) x (some (.var tv (cells.set k (.hs id 0 0 0))))):=⟨S.le_refl,fun j y r=>by
  by_cases q:j=x
  ·subst q;rw[hx] at r;cases r;exact⟨_,aH _ _ _,by simp[AObj.succ]⟩
  ·exact⟨y,by rw[bJ _ _ _ q];exact r,y.succ_refl rfl⟩⟩
 have hold:∀j y,upd (upd st.h id (some (.arr te es [] 0))) x (some (.var tv (cells.set k (.hs id 0 0 0)))) j=some y→∃Y,upd st.h id (some (.arr te es [] 0)) j=some Y:=fun j y r=>by
  by_cases q:j=x
  ·subst q;exact⟨_,hx⟩
  ·rw[bJ _ _ _ q] at r;exact⟨_,r⟩
 refine⟨S,upd μ id none,⟨⟨hi.holds,fun j y r=>?_,fun i j y Y b c c' B r hm aa=>?_,fun i y b c B hm=>?_,hi.frame,hi.sle,hi.sto,hi.evo.trans A,hi.fre⟩,hs.size,hs.defers.evolve (U.trans A),fun s v e=>aL.evolve (U.trans A) v _ (hs.env s v e)⟩⟩
 ·by_cases q:j=x
  ·subst q;have E:some (AObj.var tv (cells.set k (.hs id 0 0 0)))=some y:=by rw[←r];exact(aH _ _ _).symm
   cases E;refine⟨b,vs,g1,g2,?_,g4⟩;have h3:=aM.evolve A _ _ g3;obtain⟨u,hu,I⟩:=g3.get k _ O;simp only[aV,Rep] at I;have hkl:k<cells.length:=(Af.1 O).1
   have J:cells.set k (.hs id 0 0 0)=bR cells k [.hs id 0 0 0]:=by
    unfold bR;rw[Cb,ξ hkl];simp
   have hvl:=g3.length;have hvs:vs=bR vs k [u]:=by
    unfold bR;apply Cf;intro i;simp only[B3,ψ,Ak,κ,length_nil,Al,Am];have hm:min k vs.length=k:=by omega
    rw[hm];by_cases c1:i<k
    ·simp[c1,show i<k+1 by omega]
    ·by_cases c2:i=k
     ·subst c2;simp[hu]
     ·simp[show ¬i<k+1 by omega,show k+1+(i-(k+1))=i by omega]
   rw[J] at h3 ⊢;rw[hvs];refine sE h3 ?_;simp only[aM,aV];exact⟨u,[],rfl,⟨⟨_,_,_,I⟩,.inr ⟨te,es,[],0,by rw[bJ _ _ _ M.symm];exact aH _ _ _,le_refl _,fun _=>⟨le_refl _,.inl ⟨aH _ _ _,rfl,I⟩⟩⟩⟩,rfl⟩
  ·have E:upd st.h id (some (.arr te es [] 0)) j=some y:=by rw[←r];exact(bJ _ _ _ q).symm
   exact(hi.obj j y E).evolve A rfl fun _ _ _=>⟨rfl,fun _=>rfl,rfl⟩
 ·obtain⟨_,h1⟩:=hold _ _ B;obtain⟨_,h2⟩:=hold _ _ r;exact hi.inj i j _ _ b c c' h1 h2 hm aa
 ·obtain⟨_,h1⟩:=hold _ _ B;exact hi.own i _ b c h1 hm
def yN:Nat→List V→List (Nat×V)
 | _,[]=>[]
 | k,v::vs=>(k,v)::yN (k+1) vs
inductive ResV (T:TT) (st:St):List ResultVar→List V→Prop
 | nil:ResV T st [] []
 | tmp {t v rs vs}:st.e t=some v→ResV T st rs vs→ResV T st (.tmp t::rs) (v::vs)
 | cell {a t i id off tv cells v rs vs}:st.e a=some (.one (.vp id off))→T[t]?=some (some i)→st.h id=some (.var tv cells)→Nat.ble (off+i.size) cells.length=true→jV i ((cells.drop off).take i.size)=some v→ResV T st rs vs→
   ResV T st (.cell a t::rs) (v::vs)
inductive Convs (h:c8):List V→List V→Prop
 | nil:Convs h [] []
 | cons {ids v v' vs vs'}:Conv h ids v v'→Convs h vs vs'→Convs h (v::vs) (v'::vs')
def aFx:List Value→Value
 | [u]=>u
 | us=>.tuple ⟨us⟩
def aPa:List V→V
 | [v]=>v
 | vs=>.tup vs
theorem Convs.rel {S:Sto}{μ:Mu}{H:c8}{w:World}:∀{vs vs':List V}{us:List Value},Convs H vs vs'→(∀id o,H id=some o→kF S μ H w id o)→aY S μ H vs us→aY S μ H vs' us:=by
 intro vs vs' us h
 induction h generalizing us with
 | nil=>intro _ q;exact q
 | cons hc _ u=>
  intro hO q;simp only[aY] at q ⊢;obtain⟨v,r,rfl,h1,h2⟩:=q;exact⟨v,r,rfl,hc.rel (fun _ _=>rfl) hO h1,u hO h2⟩
section
variable {P:Program}{T:TT}
theorem pI {G:Ctx}{n:Nat}{S:Sto}{μ:Mu}{st:St}{a:Act}{w:World}(E:Tok P T) (hs:Sim G n S μ st a w):∀{rs:List ResultVar}{vs:List V},ResV T st rs vs→
  ∃us,(rs.mapM fun(x:ResultVar)=>(match x with | .tmp t=>pure (a.tmps.getD t undef) | .cell p t=>do loadVar t (←asAddr (a.tmps.getD p undef)):Sem Value)).run P w=.ok us w∧aY S μ st.h vs us:=by
 intro rs vs h
 induction h with
 | nil=>exact⟨[],by simp,by simp[aY]⟩
 | @tmp t v rs vs ht _ y=>
  obtain⟨us,h1,h2⟩:=y;refine⟨a.tmps.getD t undef::us,?_,?_⟩
  ·simp only[List.mapM_cons,ε,τ,θ,h1]
  ·simp only[aY];exact⟨_,_,rfl,hs.env _ _ ht,h2⟩
 | @cell p t i id off tv cells v rs vs ht hi hh hb hl _ y=>
  obtain⟨us,h1,h2⟩:=y;have A:=hs.env _ _ ht;simp only[aL,aV] at A;obtain⟨U,cells',b,c,g1,g2,g3⟩:=A;obtain⟨Y,ws,I,J,B,q4⟩:=hs.inv.obj id _ hh;rw[I] at g2;cases g2;have hlen:=Ao hb;have O:=B.length;have q:=run_load (E.get hi) w b off _ (jQ J off i.size) (aYl (by omega));have r:=kY ((B.drop off).take i.size) hl;generalize (if i.k.agg then Value.agg ⟨(ws.drop off).take i.size⟩ else((ws.drop off).take i.size).headD undef)=u at q r;refine⟨u::us,?_,by simp only[aY];exact⟨_,_,rfl,r,h2⟩⟩
  ·simp only[Instr.loadAt,Instr.sureAddr,ε,τ,θ] at q;have M:(asAddr (a.tmps.getD p undef)).run P w=.ok ⟨b,off,none⟩ w:=by rw[g3];rfl
   simp only[List.mapM_cons,ε,τ,θ,M,q,h1]
theorem qQ {G:Ctx}{n:Nat}{S:Sto}{μ:Mu}{st:St}{a:Act}{w:World}{fn:Func}{vs:List V}(q:Tok P T) (hs:Sim G n S μ st a w) (h:ResV T st fn.results.toList vs):
  ∃us,(results fn a.tmps).run P w=.ok (aFx us) w∧aY S μ st.h vs us:=by
 obtain⟨us,h1,h2⟩:=pI q hs h;refine⟨us,?_,h2⟩;unfold results;rw[Array.mapM_eq_mapM_toList,ε,Sem.run_map]
 erw [h1]
 simp only[θ,τ];congr 1
 match us with
 | []=>simp[aFx]
 | [u]=>simp[aFx]
 | u::r::us=>simp[aFx]
def AObj.plain:AObj→Bool
 | .dfr=>false
 | _=>true
theorem aKu {o:AObj}{p:Prop}(h:o.succ p .dfr):o=.dfr:=by cases o<;>simp only[AObj.succ] at h;rfl
theorem Sim.take {P:Program}{G:Ctx}{n:Nat}{S:Sto}{μ:Mu}{st:St}{a:Act}{w:World}{id:Nat}{ids:List Nat}(hs:Sim G n S μ st a w) (Y:st.d=id::ids) (hG:∀id,G.h0 id≠some .dfr):
  ∃b I w',a.defers={ target:=.collected b,args:= #[] }::I∧(Instr.takeDeferred b).run P w=.ok [] w'∧Sim G n S μ ⟨st.e,upd st.h id none,ids⟩ { a with defers:=I } w':=by
 have hm:=hs.defers;rw[Y] at hm;obtain⟨b,c,I,h1,h2,J,h4,h5,h6⟩:=hm;obtain⟨A,g1,g2,g3,g4⟩:=hs.inv.obj _ _ J;rw[h2] at g1;cases g1;have hlt:b<w.heap.size:=(B9.1 g2).1
 have M:∀j,upd st.h id none j=none∨j≠id:=fun j=>by
  by_cases q:j=id
  ·exact .inl (by rw[q,aH])
  ·exact .inr q
 have aLw:∀{j o},upd st.h id none j=some o→j≠id∧st.h j=some o:=by
  intro j o q;rcases M j with h | h
  ·rw[h] at q;cases q
  ·exact⟨h,by rwa [bJ _ _ _ h] at q⟩
 have O:Evo0 S μ st.h S μ (upd st.h id none):=⟨S.le_refl,fun j o q ho=>by
  have r:j≠id:=by rintro rfl;rw[J] at q;cases q;exact ho rfl
  exact⟨o,by rw[bJ _ _ _ r];exact q,o.succ_refl rfl⟩⟩
 refine⟨b,I,w.putObj b (.deferred none),h1,run_takeDeferred g2,⟨⟨⟨fun A o v e=>?_,fun A mk e=>?_⟩,fun j o q=>?_,fun i j o o' B E c2 hi q m1 m2=>?_,fun i o B E hi m1=>?_,?_,hs.inv.sle,hs.inv.sto,⟨hs.inv.evo.le,fun j o q=>?_⟩,hs.inv.fre⟩,hs.size,?_,fun t v e=>aL.evolve0 O _ _ (hs.env t v e)⟩⟩
 ·obtain⟨vs,t,fr,u,y⟩:=hs.inv.holds.1 A o v e;have:A≠b:=by rintro rfl;rw[g3] at e;cases e
  exact⟨vs,t,fr,by rw[World.putObj_heap_other this];exact u,y⟩
 ·have:A≠b:=by rintro rfl;rw[g4] at e;cases e
  rw[World.putObj_heap_other this];exact hs.inv.holds.2 A mk e
 ·obtain⟨u,y⟩:=aLw q;refine(hs.inv.obj j o y).evolve0 O rfl fun B E m1=>⟨World.putObj_heap_other ?_,fun _=>rfl,rfl⟩
  rintro rfl;exact u (hs.inv.inj j id o .dfr B E _ y J m1 h2)
 ·exact hs.inv.inj i j o o' B E c2 (aLw hi).2 (aLw q).2 m1 m2
 ·exact hs.inv.own i o B E (aLw hi).2 m1
 ·obtain⟨f1,f2,f3,f4,f5,f6⟩:=hs.inv.frame;refine⟨f1,f2,f3,by simpa using f4,fun k hk hF=>?_,f6⟩;rw[World.putObj_heap_other (by omega)];exact f5 k hk hF
 ·obtain⟨o',u,y⟩:=hs.inv.evo.obj j o q;have r:j≠id:=by
   rintro rfl;rw[J] at u;cases u;rw[aKu y] at q;exact hG _ q
  exact⟨o',by show upd st.h id none j=some o';rw[bJ _ _ _ r];exact u,y⟩
 ·exact h6.go fun j q U=>⟨rfl,by
   have r:j≠id:=by rintro rfl;exact h5 q
   show upd st.h id none j=some .dfr
   rw[bJ _ _ _ r];exact U⟩
theorem Sim.leave {P:Program}{fn:Func}{R:Ending→World→Prop}{G:Ctx}{n:Nat}{S:Sto}{μ:Mu}(A:∀id,G.h0 id≠some .dfr):∀(ids:List Nat) {e:Nat→Option V}{h:c8}{a:Act}{w:World},Sim G n S μ ⟨e,h,ids⟩ a w→
  (∀q w',(∀id o,h id=some o→o≠ .dfr→q id=some o)→Sim G n S μ ⟨e,q,[]⟩ { a with defers:=[] } w'→∃v,(results fn a.tmps).run P w'=.ok v w'∧R (.returned v) w')→
  LeavesInM (Wd none) 0 P fn a.tmps R a.defers .returning w
 | [],e,h,a,w,hs,r=>by
  have M:a.defers=[]:=hs.defers;rw[M];refine r h w (fun _ _ h _=>h) ?_;obtain⟨h1,h2,B,O⟩:=hs;exact⟨h1,h2,rfl,O⟩
 | id::ids,e,h,a,w,hs,r=>by
  have B:h id=some .dfr:=by
   obtain⟨b,c,aa,q1,q2,U,_⟩:=hs.defers;exact U
  obtain⟨b,Y,w',h1,h2,E⟩:=hs.take (P:=P) rfl A;rw[h1];refine⟨by simp,.inl ⟨b,w',rfl,h2,?_⟩⟩;refine Sim.leave A ids (a:={ a with defers:=Y }) E fun q I hh u=>r q I (fun j o y ho=>hh j o ?_ ho) u
  have J:j≠id:=by rintro rfl;rw[B] at y;cases y;exact ho rfl
  rw[bJ _ _ _ J];exact y
structure Fin (T:TT) (fn:Func) (st:St) (hin:List (Nat×AObj)) (res:V) (hout:List (Nat×AObj)):Prop where
 ex:∃vs vs',ResV T st fn.results.toList vs∧Convs st.h vs vs'∧aPa vs'=res
 out:gG (fun p=>∃o,st.h p.1=some o∧Ole (fun i=>i) o p.2) hout
 ok:(subset res.refs (keys hout)&&subset (gS hout) (keys hout)&&distinct (keys hout)&&subset (keys hin) (keys hout)&&(hin.all fun p=>p.2.plain)&&(hout.all fun p=>p.2.plain))=true
theorem ResV.keep {st:St}{r:c8}{d:List Nat}(hh:∀id o,st.h id=some o→o≠ .dfr→r id=some o):∀{rs:List ResultVar}{vs:List V},ResV T st rs vs→ResV T ⟨st.e,r,d⟩ rs vs:=by
 intro rs vs h
 induction h with
 | nil=>exact .nil
 | tmp h1 _ q=>exact .tmp h1 q
 | cell h1 h2 u y A _ q=>exact .cell h1 h2 (hh _ _ u (by simp)) y A q
theorem PureL.keep {h u:c8}(hh:∀id o,h id=some o→o≠ .dfr→u id=some o):∀{ids:List Nat}{rs:List R}{cs:List C},PureL h ids rs cs→PureL u ids rs cs:=by
 intro ids rs cs k
 induction k with
 | nil=>exact .nil
 | c h1 _ q=>exact .c h1 q
 | hs h1 h2 r _ q=>exact .hs (hh _ _ h1 (by simp)) h2 r q
 | any _ q=>exact .any q
 | fn _ q=>exact .fn q
 | ras h0 _ h1 h2 r _ y q=>exact .ras h0 y h1 h2 r q
theorem Convs.keep {h q:c8}(hh:∀id o,h id=some o→o≠ .dfr→q id=some o):∀{vs vs':List V},Convs h vs vs'→Convs q vs vs':=by
 intro vs vs' k
 induction k with
 | nil=>exact .nil
 | @cons ids v v' vs vs' h1 _ r=>
  refine .cons (ids:=ids) ?_ r;cases h1 with
  | refl=>exact .refl
  | one h=>exact .one (h.keep hh)
  | agg h=>exact .agg (h.keep hh)
  | pa h=>exact .pa (h.keep hh)
theorem aYc {X:Sto→Prop}{kf:List Nat}{f:FuncId}{fn:Func}{c:Code}{n:Nat}{args:List V}{hin hout:List (Nat×AObj)}{res:V}(hX:∀S μ w,X S→Ctx.keeps ⟨w,S,k8 μ (look hin),μ,look hin⟩ kf) (hT:Tok P T) (hf:P.funcs[f]?=some fn) (hb:fn.body=some c) (hn:fn.ntmps=n) (hle:Nat.ble args.length n=true)
  (h:AWp none P n kf c (mk (yN 0 args) hin) (fun ex st=>(ex=.normal∨ex=.ret)∧Fin T fn st hin res hout)):∀S μ w vals,X S→Inv ⟨w,S,k8 μ (look hin),μ,look hin⟩ S μ (look hin) w→aY S μ (look hin) args vals→
  Calls P f ⟨vals⟩ w fun e w'=>∃S' μ' v,e=.returned v∧Inv ⟨w,S,k8 μ (look hin),μ,look hin⟩ S' μ' (look hout) w'∧aL S' μ' (look hout) res v:=by
 intro S μ w vals hXS hI hv;refine(Wd.calls (ro:=none) (n:=0)).1 (callsIn_of_wp_marks hf hb trivial ?_);have hvl:∀(l:List V) (us:List Value),aY S μ (look hin) l us→us.length=l.length:=by
  intro l
  induction l with
  | nil=>intro us h;simp only[aY] at h;subst h;rfl
  | cons x l J=>
   intro us h;simp only[aY] at h;obtain⟨v,vs',rfl,_,h2⟩:=h;simp[J _ h2]
 have hvals:=hvl _ _ hv;have hle':=Ao hle;have U:=hX S μ w hXS;refine h ⟨w,S,k8 μ (look hin),μ,look hin⟩ S μ _ w _ ⟨U,trivial⟩ ⟨hI,by simp;omega,rfl,fun t v ht=>?_⟩ ?_
 ·have key:∀(l:List V) (us:List Value) (k:Nat),aY S μ (look hin) l us→look (yN k l) t=some v→∃j,t=k+j∧∃u,us[j]?=some u∧aL S μ (look hin) v u:=by
   intro l
   induction l with
   | nil=>intro us k _ h;simp[yN,look] at h
   | cons x l J=>
    intro us k I hl;simp only[aY] at I;obtain⟨u,M,rfl,h1,h2⟩:=I;simp only[yN,look] at hl;split at hl
    ·rename_i hbq;cases hl;exact⟨0,by rw[δ hbq];rfl,u,rfl,h1⟩
    ·obtain⟨j,y,u',h4,h5⟩:=J M (k+1) h2 hl;exact⟨j+1,by omega,u',by simpa using h4,h5⟩
  obtain⟨j,h1,u,h2,y⟩:=key args vals 0 hv ht;rw[Bb] at h1;subst h1;have hj:t<vals.length:=(Af.1 h2).1
  have:((⟨vals⟩:Array Value)++Array.replicate (fn.ntmps-(⟨vals⟩:Array Value).size) undef).getD t undef=u:=by
   rw[Ad,Bv (by simpa using hj)];simp[h2]
  show aL S μ (look hin) v (((⟨vals⟩:Array Value)++Array.replicate (fn.ntmps-(⟨vals⟩:Array Value).size) undef).getD t undef);rw[this];exact y
 ·intro ex st' S' μ' a' w' ⟨hex,hfin⟩ hs;obtain⟨⟨vs,vs',I,hc,hres⟩,r,hok⟩:=hfin;simp only[Ab] at hok;obtain⟨⟨⟨⟨⟨k1,k2⟩,k3⟩,k4⟩,k5⟩,k6⟩:=hok;have B:LeavesInM (Wd none) 0 P fn a'.tmps (fun e w'=>∃S' μ' v,e=.returned v∧Inv ⟨w,S,k8 μ (look hin),μ,look hin⟩ S' μ' (look hout) w'∧aL S' μ' (look hout) res v) a'.defers .returning w':=by
   refine Sim.leave (G:=⟨w,S,k8 μ (look hin),μ,look hin⟩) (n:=n) (S:=S') (μ:=μ') (fun id e=>?_) st'.d (e:=st'.e) (h:=st'.h) hs fun E w'' hh hs=>?_
   ·have:=(A8.1 k5) _ (b6 (show look hin id=some .dfr from e));cases this
   have I:ResV T ⟨st'.e,E,[]⟩ fn.results.toList vs:=ResV.keep (fun id o ho O=>hh id o ho O) I;have hc:Convs E vs vs':=hc.keep fun id o ho O=>hh id o ho O
   have r:gG (fun p=>∃o,E p.1=some o∧Ole (fun i=>i) o p.2) hout:=by
    have hk:∀l:List (Nat×AObj),(∀p∈l,p∈hout)→gG (fun p=>∃o,E p.1=some o∧Ole (fun i=>i) o p.2) l:=by
     intro l
     induction l with
     | nil=>intro _;trivial
     | cons p l J=>
      intro hl;refine⟨?_,J fun q hq=>hl q (by simp[hq])⟩;obtain⟨o,g1,g2⟩:=r.mem p (hl p (by simp));refine⟨o,hh _ _ g1 ?_,g2⟩;rintro rfl;have hp:=(A8.1 k6) p (hl p (by simp));cases hq:p.2<;>rw[hq] at g2 hp<;>cases g2;cases hp
    exact hk hout fun p hp=>hp
   obtain⟨us,h1,h2⟩:=qQ hT hs I;refine⟨_,h1,?_⟩;have y:=hc.rel hs.inv.obj h2;have A:∀i∈keys hout,Good E (look hout) (fun i=>i) i:=by
    intro i hi;obtain⟨o',Y⟩:=cM hi;obtain⟨o,g1,g2⟩:=r.mem _ (b6 Y);exact⟨o,o',g1,Y,g2⟩
   have hv4:aL S' μ' E res (aFx us):=by
    rw[←hres]
    match vs',us,y with
    | [],us,y=>simp only[aY] at y;subst y;simp[aPa,aFx,aL,aY]
    | [v],us,y=>
     simp only[aY] at y;obtain⟨u,M,rfl,h5,rfl⟩:=y;exact h5
    | v::v'::l,us,y=>
     have aa:=y;simp only[aY] at aa;obtain⟨u,M,rfl,_,u',us'',rfl,_,_⟩:=aa;simp only[aPa,aFx,aL];exact⟨_,rfl,y⟩
   have hI':Inv ⟨w,S,k8 μ (look hin),μ,look hin⟩ S' μ' (look hout) w'':=by
    refine⟨hs.inv.holds,fun id o ho=>?_,fun i j o o' b c c' hi hj hm hm'=>?_,fun i o b c hi hm=>?_,hs.inv.frame,hs.inv.sle,hs.inv.sto,⟨hs.inv.evo.le,fun id o ho=>?_⟩,hs.inv.fre⟩
    ·obtain⟨o1,g1,g2⟩:=r.mem _ (b6 ho);exact(hs.inv.obj _ _ g1).ren g2 fun i hi=>A i (bT k2 i (kQ (b6 ho) i hi))
    ·obtain⟨o1,g1,g2⟩:=r.mem _ (b6 hi);obtain⟨o2,g3,g4⟩:=r.mem _ (b6 hj);exact hs.inv.inj _ _ _ _ b c c' g1 g3 hm hm'
    ·obtain⟨o1,g1,g2⟩:=r.mem _ (b6 hi);exact hs.inv.own _ _ b c g1 hm
    ·obtain⟨o',(g1:E id=some o'),g2⟩:=hs.inv.evo.obj id o ho;have hk:id∈keys hin:=mem_map.2 ⟨_,b6 (show look hin id=some o from ho),rfl⟩;obtain⟨o1,o2,g3,g4,g5⟩:=A id (bT k4 id hk);rw[g1] at g3;cases g3;exact⟨o2,g4,AObj.succ_trans g2 g5.succ fun e _=>e⟩
   have hR:aL S' μ' (look hout) res (aFx us):=by
    have:=aL.ren (H:=E) (H':=look hout) (σ:=fun i=>i) res _ (fun i hi=>A i (bT k1 i hi)) (by rw[V.ren_id];exact hv4);exact this
   exact⟨S',μ',_,rfl,hI',hR⟩
  rcases hex with rfl | rfl
  ·exact B
  ·exact B
end
section
variable {P:Program}{T:TT}
theorem bM {f:FuncId}{fn:Func}{c:Code}{n:Nat}{args:List V}{hin hout:List (Nat×AObj)}{res:V}(q:Tok P T) (r:P.funcs[f]?=some fn) (hb:fn.body=some c) (hn:fn.ntmps=n) (hle:Nat.ble args.length n=true)
  (h:AWp none P n (keys hin) c (mk (yN 0 args) hin) (fun ex st=>(ex=.normal∨ex=.ret)∧Fin T fn st hin res hout)):bI P f args hin res hout:=
 fun S μ w vals u y=>aYc (X:=fun _=>True) (fun _ _ _ _=>x6) q r hb hn hle h S μ w vals trivial u y
end
abbrev pan (v:Value):Exit:=.panic [{ v:=v,recovered:=false }]
def aDr (P:Program) (f:FuncId) (args:List V) (hin:List (Nat×AObj)) (v:Value):Prop:=
 ∀S μ w vals,Inv ⟨w,S,k8 μ (look hin),μ,look hin⟩ S μ (look hin) w→aY S μ (look hin) args vals→
  Calls P f ⟨vals⟩ w fun e w'=>∃S' μ' hout,e=.panicked [{ v:=v,recovered:=false }]∧(∀id o,look hout id=some o→∃o',look hin id=some o')∧Inv ⟨w,S,k8 μ (look hin),μ,look hin⟩ S' μ' (look hout) w'
def aM9 (v:Value) (P:Program) (n:Nat) (o:Oper) (st:St) (rd:Rd):Prop:=
 ∀st',fL rd st st'→∀G S μ a w (K:Act→World→Prop) (Q:Exit→Act→World→Prop),Sim G n S μ st' a w→
  (∀S' μ' e h a' w',Sim G n S' μ' ⟨e,h,st'.d⟩ a' w'→Q (pan v) a' w')→∀ro,o.wpIn (Wd ro) 0 P a w K Q
def nS (v:Value) (P:Program) (n:Nat) (ops:Array Oper) (i:Nat) (st:St) (rd:Rd):Prop:=
 ∀st',fL rd st st'→∀G S μ a w (K:Act→World→Prop) (Q:Exit→Act→World→Prop),Sim G n S μ st' a w→
  (∀S' μ' e h a' w',Sim G n S' μ' ⟨e,h,st'.d⟩ a' w'→Q (pan v) a' w')→∀ro,wpOpIn (Wd ro) 0 P ops Q i K a w
section
variable {P:Program}{n:Nat}{o:Oper}{ops:Array Oper}{i:Nat}{st:St}{rd:Rd}{v:Value}
theorem nS.plain (ho:ops[i]?=some o) (q:o.guard=none) (h:aM9 v P n o st rd):nS v P n ops i st rd:=by
 intro st' ha G S μ a w K Q hs r ro;unfold wpOpIn;simp only[ho];rw[ξ (by simp[Region.wanted,q])];exact h st' ha G S μ a w K Q hs r ro
theorem Step.callP {f:FuncId}{ids q:List Nat}{args:List V}{hin:List (Nat×AObj)}(J:aDr P f args hin v)
  (u:gG (fun p=>st.h p.1=some p.2) hin) (hok:fC args hin=true)
  (y:∀st',fL ⟨q,ids++keys hin⟩ st st'→∀G S μ a w,Sim G n S μ st' a w→∃vals,(execOp a.eval o).run P w=.ok (.enter f ⟨vals⟩) w∧aY S μ st'.h args vals):
  aM9 v P n o st ⟨q,ids++keys hin⟩:=by
 intro st' ha G S μ a w K Q hs M;obtain⟨vals,O,U⟩:=y st' ha G S μ a w hs;simp only[fC,Ab] at hok;obtain⟨⟨Y,k2⟩,k3⟩:=hok;have hh:∀id o,look hin id=some o→st'.h id=some o∧o≠ .dead:=by
  intro id o ho;have hm:=b6 ho;have h1:=u.mem _ hm;refine⟨by rw[ha.2 id (by simp only[A2];exact .inr (mem_map.2 ⟨_,hm,rfl⟩))];exact h1,?_⟩;have:=(A8.1 k3) _ hm;rintro rfl;simp[AObj.live] at this
 have hI:=hs.inv.hand hh k2;have r:∀i∈keys hin,Good st'.h (look hin) (fun i=>i) i:=by
  intro i hi;obtain⟨o,ho⟩:=cM hi;obtain⟨h1,h2⟩:=hh i o ho;exact⟨o,o,h1,ho,.refl_id h2⟩
 have B:aY S μ (look hin) args vals:=by
  have:=aY.ren (H:=st'.h) (H':=look hin) (σ:=fun i=>i) args vals (fun i hi=>r i (bT Y i hi)) (by rw[V.renL_id];exact U);exact this
 have hc:=J S μ w vals hI B;refine fun ro=>jL O ?_
 refine hc.mono fun e w' ⟨S',μ',hout,he,A,E⟩=>?_
 subst he;obtain⟨μ2,q1,q2,I,q4⟩:=hs.inv.back (fun id o ho=>(hh id o ho).1) (fun id o ho=>.inl (A id o ho)) E;exact M S' μ2 st'.e _ a w' ⟨q2,hs.size,hs.defers.evolve I,fun t v e=>aL.evolve I v _ (hs.env t v e)⟩
theorem aG4 {f:FuncId}{xs:Array Operand}{ts:Array TypeId}{ids:List Nat}{args:List V}(hin:List (Nat×AObj)) (hb:i7 P f) (ho:o.op=.call { callee:=.value (.func f),args:=xs,argTypes:=ts })
  (u:aDr P f args hin v) (ha:ArgsV st ids xs.toList args) (r:gG (fun p=>st.h p.1=some p.2) hin) (hok:fC args hin=true):aM9 v P n o st ⟨bW xs.toList,ids++keys hin⟩:=by
 refine Step.callP u r hok fun st' q G S μ a w hs=>⟨xs.toList.map a.eval,?_,ha.rel hs q.1 fun i h=>q.2 i (by simp[h])⟩
 simp only[execOp,ho,resolve,Deferred.ofValue,Act.eval,ε,τ,θ,invoke,eL hb];congr 2;apply Array.ext';simp
theorem aLg {f:FuncId}{x:Operand}{caps:List R}{xs:Array Operand}{ts:Array TypeId}{ids:List Nat}{args:List V}(hin:List (Nat×AObj)) (hb:i7 P f) (ho:o.op=.call { callee:=.value x,args:=xs,argTypes:=ts })
  (hx:opv st x=some (.one (.clo f caps))) (J:aDr P f (args++caps.map V.one) hin v) (ha:ArgsV st ids xs.toList args) (u:gG (fun p=>st.h p.1=some p.2) hin) (hok:fC (args++caps.map V.one) hin=true):
  aM9 v P n o st ⟨opr x++bW xs.toList,ids++keys hin⟩:=by
 refine Step.callP J u hok fun st' q G S μ a w hs=>?_
 have E:=aI hs hx fun t ht=>q.1 t (by simp[ht])
 simp only[aL,aV] at E;obtain⟨vs,h1,h2⟩:=E;refine⟨xs.toList.map a.eval++vs,?_,?_⟩
 ·simp only[execOp,ho,resolve,h1,Deferred.ofValue,ε,τ,θ,invoke,eL hb];congr 2;apply Array.ext';simp
 ·have I:∀(l:List V) (us:List Value) (rs:List R) (vs:List Value),aY S μ st'.h l us→aM S μ st'.h rs vs→aY S μ st'.h (l++rs.map V.one) (us++vs):=by
   intro l
   induction l with
   | nil=>
    intro us rs vs h k;simp only[aY] at h;subst h;simp only[Az]
    induction rs generalizing vs with
    | nil=>simp only[aM] at k;subst k;simp[aY]
    | cons r rs y=>
     simp only[aM] at k;obtain⟨v,vs',rfl,A,B⟩:=k;simp only[An,aY];exact⟨v,vs',rfl,by simpa [aL] using A,y vs' B⟩
   | cons x l y=>
    intro us rs vs h k;simp only[aY] at h;obtain⟨v,vs',rfl,A,B⟩:=h;simp only[Ap,aY];exact⟨v,_,rfl,A,y vs' rs vs B k⟩
  exact I _ _ _ _ (ha.rel hs (fun t ht=>q.1 t (by simp[ht])) fun i h=>q.2 i (by simp[h])) h2
end
inductive RunP (v:Value) (p:Nat) (P:Program) (n:Nat) (ops:Array Oper):Nat→St→REs→St→Prop
 | nil {k st}:RunP v p P n ops k st [] st
 | cons {k st rd f xs st'}:k≠p→GStep P n ops k st rd f→RunP v p P n ops (k+1) (f.apply st) xs st'→RunP v p P n ops k st ((rd,f)::xs) st'
 | pan {st rd f xs st'}:nS v P n ops p st rd→RunP v p P n ops (p+1) (f.apply st) xs st'→RunP v p P n ops p st ((rd,f)::xs) st'
theorem Run.toP {v:Value}{p:Nat}{P:Program}{n:Nat}{ops:Array Oper}{k:Nat}{st st':St}{xs:REs}(h:Run P n ops k st xs st') (hp:p<k):RunP v p P n ops k st xs st':=by
 induction h with
 | nil=>exact .nil
 | cons q _ r=>exact .cons (by omega) q (r (by omega))
theorem fold_zero {k:Nat}:∀(q:REs) (m:Nat) (s:St),k<m→cA (fun j=>decide (j<k+0)) m q s=s:=by
 intro q
 induction q with
 | nil=>intro m s _;rfl
 | cons y q r=>
  intro m s hm;simp only[cA];have:decide (m<k+0)=false:=by simp;omega
  rw[this,Bj];exact r (m+1) _ (by omega)
theorem RunP.at {v:Value}{p:Nat}{P:Program}{n:Nat}{ops:Array Oper}{k:Nat}{st st':St}{xs:REs}(h:RunP v p P n ops k st xs st'):∀(i:Nat) (x:Rd×Eff),xs[i]?=some x→
  (k+i≠p→GStep P n ops (k+i) (cA (fun j=>decide (j<k+i)) k xs st) x.1 x.2)∧(k+i=p→nS v P n ops (k+i) (cA (fun j=>decide (j<k+i)) k xs st) x.1):=by
 induction h with
 | nil=>intro i x hx;simp at hx
 | @cons k st rd f xs st' y r A u=>
  intro i x hx;cases i with
  | zero=>
   simp at hx;subst hx;simp only[cA];have:decide (k<k+0)=false:=by simp
   rw[this,Bj,fold_zero xs (k+1) st (by omega)];exact⟨fun _=>r,fun e=>absurd e y⟩
  | succ i=>
   simp at hx;have:=u i x hx;simp only[cA];have q:decide (k<k+(i+1))=true:=by simp
   rw[q,Bt];rw[show k+(i+1)=k+1+i by omega];exact this
 | @pan st rd f xs st' r A u=>
  intro i x hx;cases i with
  | zero=>
   simp at hx;subst hx;simp only[cA];have:decide (p<p+0)=false:=by simp
   rw[this,Bj,fold_zero xs (p+1) st (by omega)];exact⟨fun e=>absurd rfl e,fun _=>r⟩
  | succ i=>
   simp at hx;have:=u i x hx;simp only[cA];have q:decide (p<p+(i+1))=true:=by simp
   rw[q,Bt];rw[show p+(i+1)=p+1+i by omega];exact this
theorem aA9 {v:Value}{p:Nat}{P:Program}{n:Nat}{ops:Array Oper}{G:Ctx}{st st':St}{xs:REs}{Q:Exit→Act→World→Prop}(hr:RunP v p P n ops 0 st xs st') (hlen:xs.length=ops.size)
  (hap:cR (preds ops) xs []=true) (hed:dU ops=true) (hp:p<ops.size)
  (hQ:∀S' μ' e h a' w',Sim G n S' μ' ⟨e,h,st.d⟩ a' w'→Q (pan v) a' w'):
  ∀(fuel:Nat) (listed:Array Bool),listed.size=ops.size→((List.range ops.size).filter fun i=>!listed.getD i false).length=fuel→tK ops listed→listed.getD p false=false→
   ∀S μ a w,Sim G n S μ (cA (fun j=>listed.getD j false) 0 xs st) a w→∀ro,wpAnyIn (Wd ro) 0 P .any ops Q fuel listed a w:=by
 have hfin:∀(listed:Array Bool),listed.size=ops.size→Region.ready .any ops listed=[]→listed.getD p false=false→False:=by
  intro listed hl hre u;have hall:∀i,i<ops.size→listed.getD i false=true:=by
   intro i
   induction i using Nat.strongRecOn with
   | _ i ih=>
    intro hi;cases hc:listed.getD i false with
    | true=>rfl
    | false=>
     exfalso;have:i∈Region.ready .any ops listed:=by
      simp only[Region.ready,mem_filter,mem_range,Ab,Bk];refine⟨hi,by rw[gX (by omega)];exact hc,?_⟩;have ho:ops[i]?=some ops[i]:=by simp[hi]
      simp only[ho,Bx,Option.getD_some];refine Array.all_eq_true_iff_forall_mem.2 fun e he=>?_
      have hlt:=(A8.1 hed) (ops[i],i) (by
       rw[List.mem_iff_getElem?]
       exact⟨i,by simp[hi]⟩)
      have r:=(A8.1 hlt) e (by simpa using he);simp only[Bool.or_eq_true,Bk,decide_eq_true_eq] at r ⊢;rcases r with r | r
      ·exact .inl r
      ·exact .inr (ih e.on r (by omega))
     rw[hre] at this;simp at this
  rw[hall p hp] at u;cases u
 intro fuel
 induction fuel with
 | zero=>
  intro listed hl hf _ u S μ a w hs;have:p∈(List.range ops.size).filter fun i=>!listed.getD i false:=by simp only[mem_filter,mem_range,Bk];exact⟨hp,u⟩
  rw[Au hf] at this;simp at this
 | succ fuel ih=>
  intro listed hl hf hcl u S μ a w hs ro;refine⟨fun hre=>(hfin listed hl hre u).elim,fun i hi=>?_⟩;obtain⟨h1,h2,h3⟩:=o6 hl hi;have hx:xs[i]?=some xs[i]:=by simp[hlen,h1]
  have ho:ops[i]?=some ops[i]:=by simp[h1]
  have hcl':tK ops (listed.setIfInBounds i true):=by
   intro j o B A e he hb;simp only[Ad,A5] at A ⊢;have hmon:listed.getD e.on false=true→(if i=e.on then if i<listed.size then some true else none else listed[e.on]?).getD false=true:=by
    intro hh;split
    ·simp[hl,h1]
    ·rwa [Ad] at hh
   by_cases Y:i=j
   ·subst Y;exact hmon (h3 o B e he hb)
   ·rw[ζ Y] at A;exact hmon (hcl j o B (by rwa [Ad]) e he hb)
  have hpd:∀(L:Array Bool),tK ops L→∀k p,(preds ops)[k]?=some p→L.getD k false=true→∀j∈p,L.getD j false=true:=by
   intro L hL k p hp E;refine oU (fun j=>L.getD j false) ops.toList [] (by simp) ?_ k p hp E;intro k' o ho' hl' e he hb;exact hL k' o (by simpa using ho') (by simpa using hl') e he hb
  have J:(listed.setIfInBounds i true).getD i false=true:=by simp[hl,h1]
  have hold:∀j,j≠i→(listed.setIfInBounds i true).getD j false=listed.getD j false:=by
   intro j B;simp only[Ad,A5];rw[ζ (fun e=>B e.symm)]
  have hdis1:∀j y,xs[j]?=some y→j<i→listed.getD j false=false→indep y xs[i]=true:=by
   intro j y hy hji A;obtain⟨p,hp,M⟩:=iP _ _ _ hap i _ hx;rcases M j y (by simpa using hji) (by simpa using hy) with hm | hm
   ·have:=hpd _ hcl' i p hp J j hm;rw[hold j (by omega)] at this;rw[this] at A;cases A
   ·exact hm
  have aa:∀j y,xs[j]?=some y→i<j→listed.getD j false=true→indep xs[i] y=true:=by
   intro j y hy Y A;obtain⟨p,hp,M⟩:=iP _ _ _ hap j _ hy;rcases M i xs[i] (by simpa using Y) (by simp) with hm | hm
   ·have:=hpd _ hcl j p hp A i hm;rw[this] at h2;cases h2
   ·exact hm
  have hg:=hr.at i _ hx;simp only[Bb] at hg;have hag:fL xs[i].1 (cA (fun j=>decide (j<i)) 0 xs st) (cA (fun j=>listed.getD j false) 0 xs st):=by
   have key:∀k x,xs[k]?=some x→listed.getD (0+k) false≠decide (0+k<i)→(∀t∈xs[i].1.e,t∉x.2.we)∧(∀t∈xs[i].1.h,t∉x.2.wh):=by
    intro k x E q;rw[Bb] at q;by_cases hki:k<i
    ·have I:listed.getD k false=false:=by
      cases hc:listed.getD k false with
      | false=>rfl
      | true=>simp[hc,hki] at q
     have O:=hdis1 k x E hki I;simp only[indep,Ab] at O;obtain⟨⟨⟨d1,d2⟩,d3⟩,d4⟩:=O;exact⟨fun t ht hw=>dC d1 t hw (by simp[ht]),fun t ht hw=>dC d2 t hw (by simp[ht])⟩
    ·by_cases hke:k=i
     ·subst hke;rw[h2] at q;simp at q
     ·have I:listed.getD k false=true:=by
       cases hc:listed.getD k false with
       | true=>rfl
       | false=>simp[hc,hki] at q
      have O:=aa k x E (by omega) I;simp only[indep,Ab] at O;obtain⟨⟨⟨d1,d2⟩,d3⟩,d4⟩:=O;exact⟨fun t ht hw=>dC d3 t hw ht,fun t ht hw=>dC d4 t hw ht⟩
   exact⟨fun t ht=>oD t xs 0 _ _ _ _ rfl fun k x E q=>(key k x E q).1 t ht,fun t ht=>oC t xs 0 _ _ _ _ rfl fun k x E q=>(key k x E q).2 t ht⟩
  by_cases hip:i=p
  ·refine hg.2 hip _ hag G S μ a w _ Q hs (fun S' μ' e h a' w' U=>?_) ro;rw[uJ] at U;exact hQ S' μ' e h a' w' U
  refine hg.1 hip _ hag G S μ a w _ Q hs (fun S' μ' a' w' U=>?_) ro;refine ih (listed.setIfInBounds i true) (by simp[hl]) ?_ hcl' (by rw[hold p (fun e=>hip e.symm)];exact u) S' μ' a' w' ?_ ro
  ·--one fewer is left
   have:∀(l:List Nat),l.Nodup→i∈l→((l.filter fun j=>!listed.getD j false).length=((l.filter fun j=>!(listed.setIfInBounds i true).getD j false).length)+1):=by
    intro l
    induction l with
    | nil=>intro _ h;simp at h
    | cons b l ihl=>
     intro hnd hmem;have hnd':=(nodup_cons.1 hnd)
     by_cases hb:b=i
     ·subst hb;have hno:∀j∈l,(!(listed.setIfInBounds b true).getD j false)=(!listed.getD j false):=fun j B=>by rw[hold j (fun e=>hnd'.1 (e▸B))]
      rw[Cd,Cd,h2,J];simp only[Bool.not_false,Ce,Bool.not_true,Av,Bn,κ];rw[List.filter_congr hno]
     ·have hm':i∈l:=(Aq.1 hmem).resolve_left fun e=>hb e.symm
      have:=ihl hnd'.2 hm';rw[Cd,Cd,hold b hb];split
      ·simp only[κ];omega
      ·exact this
   have:=this (List.range ops.size) List.nodup_range (by simpa using h1);omega
  ·have hadd:=x9 (fun j=>listed.getD j false) i xs[i].2 xs 0 xs[i].1 st (Ae _) (by rw[sub_zero,hx]) h2 (by
    intro k x E I hik;rw[Bb] at I hik;have O:=aa k x E hik I;simp only[indep,Ab] at O;obtain⟨⟨⟨d1,d2⟩,d3⟩,d4⟩:=O
    exact⟨fun t ht hw=>dC d1 t ht (by simp[hw]),fun t ht hw=>dC d2 t ht (by simp[hw])⟩)
   rw[←hadd] at U;have hfe:(fun j=>(listed.setIfInBounds i true).getD j false)=fun j=>listed.getD j false || Nat.beq j i:=funext fun j=>by
    by_cases B:j=i
    ·subst B;rw[J];simp
    ·rw[hold j B];have hb:Nat.beq j i=false:=by
      cases hb:Nat.beq j i with
      | false=>rfl
      | true=>exact absurd (δ hb) B
     rw[hb,Bool.or_false]
   rw[hfe];exact U
section
variable {ro:Option Nat}{P:Program}{n:Nat}{st:St}{kf:List Nat}{Q:Exit→St→Prop}{v:Value}{p:Nat}
theorem aAo {id:Nat}{ops:Array Oper}{draw:Bool}{st':St}{xs:REs}(hm:P.follows .mixedOrders=true) (r:RunP v p P n ops 0 st xs st') (hp:p<xs.length) (hle:xs.length≤ops.size)
  (q:draw=true→xs.length=ops.size∧(cR (preds ops) xs []&&dU ops)=true) (h:∀e h,Q (pan v) ⟨e,h,st.d⟩):AWp ro P n kf (.region id ops draw) st Q:=fun G S μ a w Q' u hs hQ=>by
 cases draw with
 | true=>
  obtain⟨A,q⟩:=q rfl;rw[Ab] at q;refine wpIn_region_any hm ?_;refine aA9 (G:=G) r A q.1 q.2 (by omega) (fun S' μ' e h' a' w' s=>hQ _ _ S' μ' a' w' (h e h') s) ops.size _ (by simp) ?_ ?_ ?_ S μ a _ ?_ ro
  ·have:((List.range ops.size).filter fun i=>!(Array.replicate ops.size false).getD i false)=List.range ops.size:=by
    apply filter_eq_self.2;intro i hi;simp at hi;simp[hi]
   rw[this,length_range]
  ·intro i o ho hl;simp[A3] at hl;split at hl<;>simp at hl
  ·simp[A3];split<;>rfl
  ·have hz:∀(B:REs) (k:Nat) (s:St),cA (fun j=>(Array.replicate ops.size false).getD j false) k B s=s:=by
    intro B
    induction B with
    | nil=>intro k s;rfl
    | cons y B I=>
     intro k s;have hf:(Array.replicate ops.size false).getD k false=false:=by
      simp[A3];split<;>rfl
     simp only[cA,hf,Bj];exact I _ _
   rw[hz];exact⟨hs.inv.same rfl rfl rfl rfl,hs.size,hs.defers,hs.env⟩
 | false=>
  refine wpIn_region ?_;have key:∀(k:Nat) (s E:St) (xs:REs) (m:Nat),RunP v p P n ops k s xs E→k≤p→p<k+xs.length→k+xs.length≤m→s.d=st.d→∀S μ a w,Sim G n S μ s a w→wpOpsIn (Wd ro) 0 P ops Q' (List.range' k (m-k)) a w:=by
   intro k s E xs m r
   induction r with
   | nil=>intro h1 h2;simp at h2;omega
   | @cons k s rd f xs E hne u _ I=>
    intro h1 h2 J M S μ a w hs;simp only[κ] at h2 J;rw[show m-k=(m-(k+1))+1 by omega];simp only[range'_succ,Br];exact u s (fL.refl _ _) G S μ a w _ Q' hs (fun S1 O U Y s1=>I (by omega) (by omega) (by omega) M S1 O U Y s1) ro
   | @pan s rd f xs E u _ _=>
    intro h1 h2 J M S μ a w hs;simp only[κ] at h2 J;rw[show m-p=(m-(p+1))+1 by omega];simp only[range'_succ,Br];exact u s (fL.refl _ _) G S μ a w _ Q' hs (fun S1 O e1 h1 U Y s1=>hQ _ _ S1 O U Y (h e1 h1) (by rw[←M];exact s1)) ro
  have:=key 0 st st' xs ops.size r (Ae _) (by omega) (by omega) rfl S μ a w hs;rwa [range_eq_range',←sub_zero ops.size]
end
def blur:AObj→AObj
 | .var t cells=>.var t (cells.map fun _=>.c .any)
 | o=>o
def mE:AObj→Bool
 | .var _ _=>true
 | .arr _ _ _ _=>true
 | .dead=>true
 | _=>false
theorem y1 {o:AObj}{p:Prop}(h:p):o.succ p (blur o):=by cases o<;>simp[blur,AObj.succ,h]
theorem aM.blur {S:Sto}{μ:Mu}{H H':c8}:∀{rs:List R}{vs:List Value},aM S μ H rs vs→aM S μ H' (rs.map fun _=>R.c .any) vs
 | [],_,h=>by simpa only[aM,Bz] using h
 | _::_,_,h=>by
  simp only[aM,An] at h ⊢;obtain⟨v,vs',rfl,h1,h2⟩:=h;exact⟨v,vs',rfl,by simp only[aV,Rep];exact h1.one,h2.blur⟩
theorem kF.blur {S:Sto}{μ:Mu}{H H':c8}{w:World}{id:Nat}{o:AObj}(h:kF S μ H w id o) (hb:mE o=true):kF S μ H' w id (blur o):=by
 cases o with
 | var t cells=>
  obtain⟨b,vs,h1,h2,q,r,u⟩:=h;exact⟨b,vs,h1,h2,q.blur,r,u⟩
 | arr te es elems fz=>exact h
 | dead=>exact h
 | _=>simp[mE] at hb
theorem aF8 {o o':AObj}{p:Prop}(h:o.succ p o') (hb:mE o=true):mE o'=true:=by
 cases o<;>cases o'<;>simp[mE,AObj.succ] at h hb ⊢
def wB (hin:List (Nat×AObj)) (h:c8):List (Nat×AObj):=hin.filterMap fun p=>(h p.1).map fun o=>(p.1,blur o)
theorem dB {h:c8}:∀{hin:List (Nat×AObj)}{id:Nat}{o:AObj},look (wB hin h) id=some o→(∃o',look hin id=some o')∧∃x,h id=some x∧o=blur x
 | [],id,o,e=>by simp[wB,look] at e
 | (k,y)::l,id,o,e=>by
  have q:=dB (h:=h) (hin:=l) (id:=id) (o:=o);have hl:(∃o',look l id=some o')→∃o',look ((k,y)::l) id=some o':=fun⟨o',ho⟩=>by
   simp only[look];split
   ·exact⟨_,rfl⟩
   ·exact⟨_,ho⟩
  unfold wB at e q;rw[List.filterMap_cons] at e;dsimp only at e;cases r:h k with
  | none=>
   rw[r] at e;exact⟨hl (q e).1,(q e).2⟩
  | some x=>
   rw[r] at e;simp only[Bx,look] at e;split at e
   ·rename_i hb;have hb:=δ hb;subst hb;cases e;exact⟨⟨y,by simp[look]⟩,x,r,rfl⟩
   ·exact⟨hl (q e).1,(q e).2⟩
theorem qR {h:c8}:∀{hin:List (Nat×AObj)}{id:Nat}{o x:AObj},look hin id=some o→h id=some x→look (wB hin h) id=some (blur x)
 | [],id,o,x,e,_=>by simp[look] at e
 | (k,y)::l,id,o,x,e,hx=>by
  have q:=qR (h:=h) (hin:=l) (id:=id) (o:=o) (x:=x);unfold wB at q ⊢;rw[List.filterMap_cons];dsimp only;simp only[look] at e;by_cases hb:Nat.beq id k=true
  ·have r:=δ hb;subst r;rw[hx];simp[look]
  ·rw[ζ hb] at e;cases u:h k with
   | none=>exact q e hx
   | some z=>
    simp only[Bx,look];rw[ζ hb];exact q e hx
section
variable {P:Program}
theorem aQn {f:FuncId}{fn:Func}{c:Code}{n:Nat}{args:List V}{hin:List (Nat×AObj)}{v:Value}(hf:P.funcs[f]?=some fn) (hb:fn.body=some c) (hn:fn.ntmps=n) (hle:Nat.ble args.length n=true) (hok:(hin.all fun p=>mE p.2)=true)
  (h:AWp none P n (keys hin) c (mk (yN 0 args) hin) (fun ex st=>ex=pan v∧st.d=[])):aDr P f args hin v:=by
 intro S μ w vals hI M;refine(Wd.calls (ro:=none) (n:=0)).1 (callsIn_of_wp_marks hf hb trivial ?_);have O:∀(l:List V) (us:List Value),aY S μ (look hin) l us→us.length=l.length:=by
  intro l
  induction l with
  | nil=>intro us h;simp only[aY] at h;subst h;rfl
  | cons x l A=>
   intro us h;simp only[aY] at h;obtain⟨v,vs',rfl,_,h2⟩:=h;simp[A _ h2]
 have hvals:=O _ _ M;have hle':=Ao hle;refine h ⟨w,S,k8 μ (look hin),μ,look hin⟩ S μ _ w _ ⟨x6,trivial⟩ ⟨hI,by simp;omega,rfl,fun t v ht=>?_⟩ ?_
 ·have key:∀(l:List V) (us:List Value) (k:Nat),aY S μ (look hin) l us→look (yN k l) t=some v→∃j,t=k+j∧∃u,us[j]?=some u∧aL S μ (look hin) v u:=by
   intro l
   induction l with
   | nil=>intro us k _ h;simp[yN,look] at h
   | cons x l A=>
    intro us k U hl;simp only[aY] at U;obtain⟨u,Y,rfl,h1,h2⟩:=U;simp only[yN,look] at hl;split at hl
    ·rename_i aa;cases hl;exact⟨0,by rw[δ aa];rfl,u,rfl,h1⟩
    ·obtain⟨j,r,u',h4,h5⟩:=A Y (k+1) h2 hl;exact⟨j+1,by omega,u',by simpa using h4,h5⟩
  obtain⟨j,h1,u,h2,r⟩:=key args vals 0 M ht;rw[Bb] at h1;subst h1;have B:t<vals.length:=(Af.1 h2).1
  have:((⟨vals⟩:Array Value)++Array.replicate (fn.ntmps-(⟨vals⟩:Array Value).size) undef).getD t undef=u:=by
   rw[Ad,Bv (by simpa using B)];simp[h2]
  show aL S μ (look hin) v (((⟨vals⟩:Array Value)++Array.replicate (fn.ntmps-(⟨vals⟩:Array Value).size) undef).getD t undef);rw[this];exact r
 ·rintro ex ⟨e',E,d'⟩ S' μ' I w' ⟨rfl,hd⟩ hs;dsimp only at hd;subst hd;have hdf:I.defers=[]:=hs.defers;show LeavesInM (Wd none) 0 P fn I.tmps _ I.defers (.panicking _) w';rw[hdf];have q:=hs.inv.evo;refine⟨S',μ',wB hin E,rfl,fun id o ho=>(dB ho).1,?_⟩;have hbl:∀id x,(∃o',look hin id=some o')→E id=some x→mE x=true:=fun id x ⟨o',ho⟩ hx=>by
   obtain⟨J,g1,g2⟩:=q.obj id o' ho;have g1:E id=some J:=g1;rw[hx] at g1;cases g1;exact aF8 g2 ((A8.1 hok) _ (b6 ho))
  refine⟨hs.inv.holds,fun id o ho=>?_,fun i j o o' b c c' hi B hm hm'=>?_,fun i o b c hi hm=>?_,hs.inv.frame,hs.inv.sle,hs.inv.sto,⟨q.le,fun id o ho=>?_⟩,hs.inv.fre⟩
  ·obtain⟨h1,x,h2,rfl⟩:=dB ho;exact(hs.inv.obj id x h2).blur (hbl id x h1 h2)
  ·obtain⟨_,x,h2,_⟩:=dB hi;obtain⟨_,y,r,_⟩:=dB B;exact hs.inv.inj i j x y b c c' h2 r hm hm'
  ·obtain⟨_,x,h2,_⟩:=dB hi;exact hs.inv.own i x b c h2 hm
  ·obtain⟨J,g1,g2⟩:=q.obj id o ho;refine⟨blur J,qR ho g1,?_⟩;exact AObj.succ_trans g2 (y1 (p:=True) trivial) fun e _=>e
end
def iV (QP:Value→Prop) (P:Program) (n:Nat) (ops:Array Oper) (draw:Bool) (k:Nat) (st:St) (pre:REs) (Q:St→Prop):Prop:=
 (∃xs st',Run P n ops k st xs st'∧Nat.beq (k+xs.length) ops.size=true∧(!draw || (cR (preds ops) (pre.reverse++xs) []&&dU ops))=true∧Q st')∨
 ∃v p xs st',QP v∧RunP v p P n ops k st xs st'∧k≤p∧p<k+xs.length∧k+xs.length≤ops.size∧(draw=true→k+xs.length=ops.size∧(cR (preds ops) (pre.reverse++xs) []&&dU ops)=true)
section
variable {QP:Value→Prop}{ro:Option Nat}{P:Program}{n:Nat}{ops:Array Oper}{draw:Bool}{k:Nat}{st:St}{pre:REs}{Q:St→Prop}
theorem k_ {rd:Rd}{f:Eff}(h:GStep P n ops k st rd f) (u:iV QP P n ops draw (k+1) (f.apply st) ((rd,f)::pre) Q):iV QP P n ops draw k st pre Q:=by
 rcases u with⟨xs,st',h1,h2,q,r⟩ | ⟨v,p,xs,st',h0,h1,h2,q,r,y⟩
 ·refine .inl ⟨(rd,f)::xs,st',.cons h h1,?_,?_,r⟩
  ·rw[κ,show k+(xs.length+1)=k+1+xs.length by omega];exact h2
  ·rw[List.reverse_cons,Aj] at q;exact q
 ·refine .inr ⟨v,p,(rd,f)::xs,st',h0,.cons (by omega) h h1,by omega,by rw[κ];omega,by rw[κ];omega,fun A=>?_⟩;obtain⟨g1,g2⟩:=y A;rw[List.reverse_cons,Aj] at g2;exact⟨by rw[κ];omega,g2⟩
theorem z_ (h1:Nat.beq k ops.size=true) (h2:(!draw || (cR (preds ops) pre.reverse []&&dU ops))=true) (hq:Q st):iV QP P n ops draw k st pre Q:=
 .inl ⟨[],st,.nil,h1,by rw[Bm];exact h2,hq⟩
theorem aUk {rd:Rd}{v:Value}(h:nS v P n ops k st rd) (hq:QP v) (q:draw=false) (hl:Nat.blt k ops.size=true):iV QP P n ops draw k st pre Q:=
 .inr ⟨v,k,[(rd,⟨none,[]⟩)],_,hq,.pan h .nil,le_refl _,by rw[Bi];omega,by rw[Bi];exact Ao hl,fun e=>by rw[q] at e;cases e⟩
theorem aUj {rd:Rd}{v:Value}(f:Eff) (h:nS v P n ops k st rd) (hq:QP v) (r:iV (fun _=>False) P n ops draw (k+1) (f.apply st) ((rd,f)::pre) fun _=>True):iV QP P n ops draw k st pre Q:=by
 rcases r with⟨xs,st',h1,h2,q,_⟩ | ⟨v,p,xs,st',h0,_⟩
 ·have h2:=δ h2;refine .inr ⟨v,k,(rd,f)::xs,st',hq,.pan h (h1.toP (by omega)),le_refl _,by rw[κ];omega,by rw[κ];omega,fun u=>?_⟩;rw[u,List.reverse_cons,Aj] at q;exact⟨by rw[κ];omega,q⟩
 ·exact h0.elim
theorem aC {kf:List Nat}{id:Nat}{Q:Exit→St→Prop}(hm:P.follows .mixedOrders=true) (h:iV (fun v=>∀e h,Q (pan v) ⟨e,h,st.d⟩) P n ops draw 0 st [] (fun st'=>Q .normal st')):AWp ro P n kf (.region id ops draw) st Q:=by
 rcases h with⟨xs,st',h1,h2,q,r⟩ | ⟨v,p,xs,st',h0,h1,h2,r,q,u⟩
 ·rw[Bb] at h2;exact tH hm h1 h2 q r
 ·rw[Bb] at r q u;exact aAo hm h1 r q (fun y=>u y) h0
theorem aSb {kf:List Nat}{id:Nat}{Q:Exit→St→Prop}(st2:St) (hm:P.follows .mixedOrders=true) (h:iV (fun _=>False) P n ops draw 0 st [] (fun st'=>Sub kf st2 st')) (hq:Q .normal st2):AWp ro P n kf (.region id ops draw) st Q:=by
 rcases h with⟨xs,st',h1,h2,q,r⟩ | ⟨v,p,xs,st',h0,_⟩
 ·rw[Bb] at h2;refine AWp.post (Q:=fun ex s=>ex=.normal∧Sub kf st2 s) (tH hm h1 h2 q ⟨rfl,r⟩) ?_;rintro ex s ⟨rfl,hs⟩;exact⟨st2,hs,hq⟩
 ·exact h0.elim
theorem g_ {i:Nat}{o:Oper}{rd:Rd}{f:Eff}(ho:ops[i]?=some o) (q:o.guard=none) (h:Step P n o st rd f):GStep P n ops i st rd f:=GStep.plain ho q h
theorem AWp.cut {kf:List Nat}{c:Code}{Q:Exit→St→Prop}(st2:St) (h:AWp ro P n kf c st (fun ex s=>match ex with | .normal=>Sub kf st2 s | ex=>Q ex s)) (hq:Q .normal st2):AWp ro P n kf c st Q:=by
 refine AWp.post h ?_;intro ex s hs;cases ex with
 | normal=>exact⟨st2,hs,hq⟩
 | _=>exact⟨s,Sub.refl _ _,hs⟩
end
section
variable {P:Program}{n:Nat}{o:Oper}{st:St}{d:Nat}{T:TT}
theorem aTz {r ty:TypeId}{x y:Operand}{a b:Int}(ho:o.op=.binOp .add r x y ty) (u:o.dst=some d) (q:d<n) (hx:opv st x=some (I .i64 a)) (hy:opv st y=some (I .i64 b)) (A: -9223372036854775808≤a+b∧a+b≤9223372036854775807):
  Step P n o st ⟨opr x++opr y,[]⟩ ⟨some (d,some (I .i64 (a+b))),[]⟩:=aPv ho u q hx hy (B4 _ A)
theorem aTj {r ty:TypeId}{x y:Operand}{a b:Int}(ho:o.op=.binOp .sub r x y ty) (u:o.dst=some d) (q:d<n) (hx:opv st x=some (I .i64 a)) (hy:opv st y=some (I .i64 b)) (A: -9223372036854775808≤a-b∧a-b≤9223372036854775807):
  Step P n o st ⟨opr x++opr y,[]⟩ ⟨some (d,some (I .i64 (a-b))),[]⟩:=aPl ho u q hx hy (B4 _ A)
theorem aTu {r ty:TypeId}{x y:Operand}{a b:Int}(ho:o.op=.binOp .mul r x y ty) (u:o.dst=some d) (q:d<n) (hx:opv st x=some (I .i64 a)) (hy:opv st y=some (I .i64 b)) (A: -9223372036854775808≤a*b∧a*b≤9223372036854775807):
  Step P n o st ⟨opr x++opr y,[]⟩ ⟨some (d,some (I .i64 (a*b))),[]⟩:=aPo ho u q hx hy (B4 _ A)
theorem aNp {u ty:TypeId}{x y:Operand}{a b:Int}(ho:o.op=.binOp .quo u x y ty) (A:o.dst=some d) (r:d<n) (hx:opv st x=some (I .i64 a)) (hy:opv st y=some (I .i64 b)) (q:0≤a∧a≤9223372036854775807∧1≤b):
  Step P n o st ⟨opr x++opr y,[]⟩ ⟨some (d,some (I .i64 (a/b))),[]⟩:=aXi ho A r hx hy (by omega) (by
   have h1:a.tdiv b=a/b:=Int.tdiv_eq_ediv_of_nonneg q.1;rw[h1];refine B4 _ ⟨?_,?_⟩
   ·have:=Int.ediv_nonneg q.1 (show(0:Int)≤b by omega);omega
   ·have:=Int.ediv_le_self b q.1;omega)
theorem aNo {r ty:TypeId}{x y:Operand}{k:IntKind}{a b:Int}(ho:o.op=.binOp .rem r x y ty) (u:o.dst=some d) (q:d<n) (hx:opv st x=some (I k a)) (hy:opv st y=some (I k b)) (A:0≤a∧1≤b):
  Step P n o st ⟨opr x++opr y,[]⟩ ⟨some (d,some (I k (a%b))),[]⟩:=aXh ho u q hx hy (by omega) (Int.tmod_eq_emod_of_nonneg A.1)
theorem gZ (op:BinOp) (t:TypeId) (x y:Operand) (u v:Value) (w:World) (h1:(match u with | .agg _=>true | .nilIface=>true | _=>false)=false):(eqGuard op t x y u v).run P w=.ok () w:=by
 unfold eqGuard;cases u<;>simp at h1<;>(split<;>rfl)
theorem o5 {t:TypeId}(hu:P.underlying t=some .bool) (d:Nat) (a b:Bool) (w:World):(Op.equalIn (d+1) t (.bool a) (.bool b)).run P w=.ok (a==b) w:=by
 simp only[Op.equalIn,ε,Ag hu w,θ,τ]
theorem w9 {t e:TypeId}(hu:P.underlying t=some (.pointer e)) (d:Nat) (p:Option Addr) (w:World):(Op.equalIn (d+1) t (.pointer p) (.pointer none)).run P w=.ok p.isNone w:=by
 cases p<;>simp only[Op.equalIn,ε,Ag hu w,θ,τ]<;>rfl
theorem aK1 {t e:TypeId}(hu:P.underlying t=some (.slice e)) (d:Nat) (p:Option Addr) (l c:Nat) (w:World):(Op.equalIn (d+1) t (.slice p l c) (.slice none 0 0)).run P w=.ok p.isNone w:=by
 cases p<;>simp only[Op.equalIn,ε,Ag hu w,θ,τ]<;>rfl
theorem tR {q ty:TypeId}{x y:Operand}{a:Act}{w:World}{u v:Value}{b:Bool}(ho:o.op=.binOp .eql q x y ty) (hx:a.eval x=u) (hy:a.eval y=v) (A:(eqGuard .eql q x y u v).run P w=.ok () w)
  (hb:binOp .eql q u v=(do pure (.bool (←Op.equal q u v)))) (B:(Op.equalIn (9999+1) q u v).run P w=.ok b w):(execOp a.eval o).run P w=.ok (.value (.bool b)) w:=by
 have r:(Op.equal q u v).run P w=.ok b w:=B;simp only[execOp,ho,hx,hy,ε,A,θ,hb,r,τ]
theorem yY {q ty:TypeId}{x y:Operand}{a:Act}{w:World}{u v:Value}{b:Bool}(ho:o.op=.binOp .neq q x y ty) (hx:a.eval x=u) (hy:a.eval y=v) (A:(eqGuard .neq q x y u v).run P w=.ok () w)
  (hb:binOp .neq q u v=(do pure (.bool (!(←Op.equal q u v))))) (B:(Op.equalIn (9999+1) q u v).run P w=.ok b w):(execOp a.eval o).run P w=.ok (.value (.bool (!b))) w:=by
 have r:(Op.equal q u v).run P w=.ok b w:=B;simp only[execOp,ho,hx,hy,ε,A,θ,hb,r,τ]
theorem aTx {q ty:TypeId}{i:TI}{x y:Operand}{a b:Bool}(u:Tok P T) (ho:o.op=.binOp .eql q x y ty) (A:o.dst=some d) (r:d<n) (hi:T[q]?=some (some i)) (E:i.k=.bool) (hx:opv st x=some (B a)) (hy:opv st y=some (B b)):
  Step P n o st ⟨opr x++opr y,[]⟩ ⟨some (d,some (B (a==b))),[]⟩:=by
 refine Step.value A r fun _ ha _ _ _ ac w hs=>?_
 have h1:=iJ (aI hs hx (cS ha).1);have h2:=iJ (aI hs hy (cS ha).2);exact⟨.bool (a==b),tR ho h1 h2 (gZ _ _ _ _ _ _ _ rfl) rfl (o5 ((u.get hi).bool E) _ _ _ _),by simp[aL,aV,Rep]⟩
theorem aTw {q ty:TypeId}{i:TI}{x y:Operand}{a b:Bool}(u:Tok P T) (ho:o.op=.binOp .neq q x y ty) (A:o.dst=some d) (r:d<n) (hi:T[q]?=some (some i)) (E:i.k=.bool) (hx:opv st x=some (B a)) (hy:opv st y=some (B b)):
  Step P n o st ⟨opr x++opr y,[]⟩ ⟨some (d,some (B (!(a==b)))),[]⟩:=by
 refine Step.value A r fun _ ha _ _ _ ac w hs=>?_
 have h1:=iJ (aI hs hx (cS ha).1);have h2:=iJ (aI hs hy (cS ha).2);exact⟨.bool (!(a==b)),yY ho h1 h2 (gZ _ _ _ _ _ _ _ rfl) rfl (o5 ((u.get hi).bool E) _ _ _ _),by simp[aL,aV,Rep]⟩
def wG:V→Option Bool
 | .one (.c .np)=>some true
 | .one (.c (.pt _))=>some false
 | .one (.vp _ _)=>some false
 | _=>none
theorem sK {S:Sto}{μ:Mu}{H:c8}{v:V}{u:Value}{b:Bool}(h:aL S μ H v u) (hb:wG v=some b):∃p,u=.pointer p∧p.isNone=b:=by
 unfold wG at hb;split at hb
 ·cases hb;simp only[aL,aV,Rep] at h;exact⟨none,h,rfl⟩
 ·cases hb;simp only[aL,aV,Rep] at h;obtain⟨b,o,h,_⟩:=h;exact⟨_,h,rfl⟩
 ·cases hb;simp only[aL,aV] at h;obtain⟨t,cells,b,c,_,_,h⟩:=h;exact⟨_,h,rfl⟩
 ·cases hb
theorem aTs {q ty e:TypeId}{i:TI}{x y:Operand}{v:V}{b:Bool}(u:Tok P T) (ho:o.op=.binOp .eql q x y ty) (A:o.dst=some d) (r:d<n) (hi:T[q]?=some (some i)) (E:i.k=.pt e) (hx:opv st x=some v) (I:wG v=some b) (hy:opv st y=some (.one (.c .np))):
  Step P n o st ⟨opr x++opr y,[]⟩ ⟨some (d,some (B b)),[]⟩:=by
 refine Step.value A r fun _ ha _ _ _ ac w hs=>?_
 obtain⟨p,h1,hp⟩:=sK (aI hs hx (cS ha).1) I;have h2:=aI hs hy (cS ha).2;simp only[aL,aV,Rep] at h2;subst hp;exact⟨.bool p.isNone,tR ho h1 h2 (gZ _ _ _ _ _ _ _ rfl) (by cases p<;>rfl) (w9 ((u.get hi).ptr E) _ _ _),by simp[aL,aV,Rep]⟩
theorem aTr {q ty e:TypeId}{i:TI}{x y:Operand}{v:V}{b:Bool}(u:Tok P T) (ho:o.op=.binOp .neq q x y ty) (A:o.dst=some d) (r:d<n) (hi:T[q]?=some (some i)) (E:i.k=.pt e) (hx:opv st x=some v) (I:wG v=some b) (hy:opv st y=some (.one (.c .np))):
  Step P n o st ⟨opr x++opr y,[]⟩ ⟨some (d,some (B (!b))),[]⟩:=by
 refine Step.value A r fun _ ha _ _ _ ac w hs=>?_
 obtain⟨p,h1,hp⟩:=sK (aI hs hx (cS ha).1) I;have h2:=aI hs hy (cS ha).2;simp only[aL,aV,Rep] at h2;subst hp;exact⟨.bool (!p.isNone),yY ho h1 h2 (gZ _ _ _ _ _ _ _ rfl) (by cases p<;>rfl) (w9 ((u.get hi).ptr E) _ _ _),by simp[aL,aV,Rep]⟩
def aKv:V→Option Bool
 | .one (.c .nl)=>some true
 | .one (.c (.sn _ _))=>some false
 | _=>none
theorem aF9 {S:Sto}{μ:Mu}{H:c8}{v:V}{u:Value}{b:Bool}(h:aL S μ H v u) (hb:aKv v=some b):∃p l c,u=.slice p l c∧p.isNone=b:=by
 unfold aKv at hb;split at hb
 ·cases hb;simp only[aL,aV,Rep] at h;exact⟨none,_,_,h,rfl⟩
 ·cases hb;simp only[aL,aV,Rep] at h;obtain⟨b,o,sp,l,c,h,_⟩:=h;exact⟨_,_,_,h,rfl⟩
 ·cases hb
theorem aPn {q ty e:TypeId}{i:TI}{x y:Operand}{v:V}{b:Bool}(u:Tok P T) (ho:o.op=.binOp .eql q x y ty) (A:o.dst=some d) (r:d<n) (hi:T[q]?=some (some i)) (E:i.k=.sl e) (hx:opv st x=some v) (I:aKv v=some b) (hy:opv st y=some (.one (.c .nl))):
  Step P n o st ⟨opr x++opr y,[]⟩ ⟨some (d,some (B b)),[]⟩:=by
 refine Step.value A r fun _ ha _ _ _ ac w hs=>?_
 obtain⟨p,l,c,h1,hp⟩:=aF9 (aI hs hx (cS ha).1) I;have h2:=aI hs hy (cS ha).2;simp only[aL,aV,Rep] at h2;subst hp;exact⟨.bool p.isNone,tR ho h1 h2 (gZ _ _ _ _ _ _ _ rfl) (by cases p<;>rfl) (aK1 ((u.get hi).slice E) _ _ _ _ _),by simp[aL,aV,Rep]⟩
def ceq:C→C→Bool
 | .int _ a,.int _ b=>decide (a=b)
 | .str a,.str b=>decide (a=b)
 | .bool a,.bool b=>a==b
 | _,_=>false
def aFl:List C→List C→Bool
 | a::as,b::bs=>ceq a b&&aFl as bs
 | _,_=>true
def scalar:TK→C→C→Bool
 | .int k,.int k1 _,.int k2 _=>k==k1&&k==k2
 | .str,.str _,.str _=>true
 | .bool,.bool _,.bool _=>true
 | _,_,_=>false
def scalars (T:TT):Nat→List (Nat×TypeId)→List C→List C→Bool
 | _,[],[],[]=>true
 | k,(off,t)::fs,a::as,b::bs=>Nat.beq off k&&(match T[t]? with | some (some i)=>scalar i.k a b | _=>false)&&scalars T (k+1) fs as bs
 | _,_,_,_=>false
def aFm.check (P : Program) (t : TypeId) : Bool := (match P.underlying t with | some (.struct fs) => fs.toList.all fun f => f.name != "_" | _ => false) && !P.stoodInHeld t && !P.eqGuardType P.depth t
def aFm (P:Program) (t:TypeId):Prop:=aFm.check P t=true
theorem vZ {t:TypeId}{i:TI}{a b:C}{u v:Value}(hi:TIok P t i) (h:scalar i.k a b=true) {S:Sto}(ha:Rep S a u) (hb:Rep S b v) (d:Nat) (w:World):(Op.equalIn (d+1) t u v).run P w=.ok (ceq a b) w:=by
 cases q:i.k<;>rw[q] at h<;>cases a<;>cases b<;>simp only[scalar] at h<;>try (cases h;done)
 ·simp only[Rep] at ha hb;subst ha;subst hb;rw[o5 (hi.bool q)];rfl
 ·rename_i k r m1 y m2;simp only[Ab,beq_iff_eq] at h;obtain⟨rfl,rfl⟩:=h;simp only[Rep] at ha hb;subst ha;subst hb;simp only[Op.equalIn,ε,Ag (hi.int q) w,θ,Ce,τ,ceq];congr 1
 ·simp only[Rep] at ha hb;subst ha;subst hb;simp only[Op.equalIn,ε,Ag (hi.str q) w,θ,τ,ceq];congr 1;rw[beq_toListBytes,gV,gV];exact Bool.beq_eq_decide_eq _ _
theorem aDx {k:TK}{a b:C}(h:scalar k a b=true):k.agg=false:=by cases k<;>first | rfl | (cases a<;>cases b<;>cases h)
theorem oQ (J : Tok P T) {S : Sto} (xs r : Array Value) (d : Nat) (w : World) : ∀ (fields : List Field) (k : Nat) (as q : List C), scalars T k (fields.map fun f => (f.offset, f.type)) as q = true → (∀ f ∈ fields, f.name ≠ "_") →
  bZ S as (xs.toList.drop k)→bZ S q (r.toList.drop k)→(Op.eqFields (d+1) xs r fields).run P w=.ok (aFl as q) w:=by
 intro fields
 induction fields with
 | nil=>
  intro k as q h _ _ _;cases as<;>cases q<;>simp[scalars] at h;rfl
 | cons f fields ih=>
  intro k as q h hn hx hy;cases as with
  | nil=>cases q<;>simp[scalars] at h
  | cons a as=>
   cases q with
   | nil=>simp[scalars] at h
   | cons b q=>
    simp only[An,scalars,Ab] at h;obtain⟨⟨h1,h2⟩,h3⟩:=h;have y:=δ h1;split at h2
    ·rename_i i hi;simp only[bZ] at hx hy;obtain⟨u,us,E,M,O⟩:=hx;obtain⟨v,vs,I,U,Y⟩:=hy;have e1:xs[k]?=some u:=by
      have:=congrArg (fun l=>l[0]?) E;simpa using this
     have e2:r[k]?=some v:=by
      have:=congrArg (fun l=>l[0]?) I;simpa using this
     have e3:xs.toList.drop (k+1)=us:=by rw[←Cr,E];rfl
     have e4:r.toList.drop (k+1)=vs:=by rw[←Cr,I];rfl
     have A:=(J.get hi).agg_run w;rw[aDx h2] at A;have p1:(part f.type xs f.offset).run P w=.ok u w:=by
      simp only[part,ε,A,θ,Av,Bn,y,e1,τ]
     have p2:(part f.type r f.offset).run P w=.ok v w:=by
      simp only[part,ε,A,θ,Av,Bn,y,e2,τ]
     have B:=ih (k+1) as q h3 (fun g hg=>hn g (by simp[hg])) (by rw[e3];exact O) (by rw[e4];exact Y);simp only[Op.eqFields];rw[ξ (hn f (by simp))];simp only[ε,p1,p2,θ,vZ (J.get hi) h2 M U];cases hc:ceq a b with
     | true=>simp[B,aFl,hc]
     | false=>simp[aFl,hc]
    ·cases h2
theorem aGq {q ty:TypeId}{i:TI}{fs:List (Nat×TypeId)}{x y:Operand}{as r:List C}(I:Tok P T) (hq:aFm P q) (ho:o.op=.binOp .eql q x y ty) (M:o.dst=some d) (J:d<n) (hi:T[q]?=some (some i)) (O:i.k=.st fs)
  (hx:opv st x=some (.pa as)) (hy:opv st y=some (.pa r)) (hs:scalars T 0 fs as r=true):Step P n o st ⟨opr x++opr y,[]⟩ ⟨some (d,some (B (aFl as r))),[]⟩:=by
 refine Step.value M J fun _ ha _ S μ ac w u=>?_
 have h1:=aI u hx (cS ha).1;have h2:=aI u hy (cS ha).2;simp only[aL] at h1 h2;obtain⟨us,h1,U⟩:=h1;obtain⟨vs,h2,Y⟩:=h2;obtain⟨fields,hu,E⟩:=(I.get hi).struct O;unfold aFm aFm.check at hq;simp only[hu,Ab,Bk] at hq;obtain⟨⟨q1,q2⟩,q3⟩:=hq;have A:P.fieldsOf q=fields:=by simp[Program.fieldsOf,hu]
 have hn : ∀ f ∈ fields.toList, f.name ≠ "_" := fun f E => by
  have:=(A8.1 q1) f E;simpa using this
 refine⟨.bool (aFl as r),tR ho h1 h2 ?_ rfl ?_,by simp[aL,aV,Rep]⟩
 ·have hp:(program:Sem Program).run P w=.ok P w:=rfl;simp only[eqGuard];simp[hp,q3]
 ·rw[run_equalIn_struct w 9999 q _ _ (by rw[A,hu]) q2,A];exact oQ I ⟨us⟩ ⟨vs⟩ 9998 w fields.toList 0 as r (by rw[←E];exact hs) hn (by simpa using U) (by simpa using Y)
end
theorem take_map {α β:Type}{f:α→β}{l:List α}:(l.map f).take l.length=l.map f:=A0 (by simp)
theorem Ole.arrE {σ:Nat→Nat}{te es fz:Nat}{e e':List (List C)}(h:e=e'):Ole σ (.arr te es e fz) (.arr te es e' 1):=by subst h;exact .arr1
theorem int_eq {k:IntKind}{a b:Int}(h:a=b):some (I k a)=some (I k b):=by rw[h]
section
variable {P:Program}{n:Nat}{o:Oper}{st:St}{d:Nat}{T:TT}
def xR (st:St):List Operand→Option (List R)
 | []=>some []
 | x::xs=>match opv st x with
  | some (.one r)=>match xR st xs with | some l=>some (r::l) | none=>none
  | _=>none
theorem xQ {G:Ctx}{S:Sto}{μ:Mu}{st':St}{a:Act}{w:World}(hs:Sim G n S μ st' a w):∀(xs:List Operand) (l:List R),xR st xs=some l→(∀t∈bW xs,st'.e t=st.e t)→aM S μ st'.h l (xs.map a.eval)
 | [],l,h,_=>by simp[xR] at h;subst h;simp[aM]
 | x::xs,l,h,ht=>by
  simp only[xR] at h;split at h
  ·rename_i r u;split at h
   ·rename_i y q;cases h;have h1:=aI hs u fun t h=>ht t (by simp[bW,h])
    simp only[aL] at h1;simp only[An,aM];exact⟨_,_,rfl,h1,xQ hs xs y q fun t h=>ht t (by simp[bW,h])⟩
   ·cases h
  ·cases h
theorem sJ {f:FuncId}{caps:Array Operand}{l:List R}(ho:o.op=.makeFunc (.func f) #[] caps) (r:o.dst=some d) (q:d<n) (hc:xR st caps.toList=some l):Step P n o st ⟨bW caps.toList,[]⟩ ⟨some (d,some (.one (.clo f l))),[]⟩:=by
 refine Step.value r q fun st' ha _ S μ ac w hs=>?_
 have h:=xQ hs _ _ hc ha.1;refine⟨.func (.func f) #[] (caps.map ac.eval),by simp[execOp,ho,Instr.makeFunc],?_⟩;simp only[aL,aV];refine⟨caps.toList.map ac.eval,?_,h⟩;congr 1;apply Array.ext';simp
theorem wF {f:FuncId}{x:Operand}{c:R}(ho:o.op=.makeFunc (.func f) #[x] #[]) (r:o.dst=some d) (q:d<n) (hx:opv st x=some (.one c)):Step P n o st ⟨opr x,[]⟩ ⟨some (d,some (.one (.mth f c))),[]⟩:=by
 refine Step.value r q fun st' ha _ S μ ac w hs=>?_
 have h:=aI hs hx ha.1;refine⟨.func (.func f) #[ac.eval x] #[],by simp[execOp,ho,Instr.makeFunc],?_⟩;simp only[aL,aV] at h ⊢;exact⟨_,rfl,h⟩
def jU (k:List UInt8):List (List C)→Option (List C)
 | []=>none
 | (.str s::vs)::r=>if s=k then some vs else jU k r
 | _::r=>jU k r
def aEg (k:List UInt8) (vs:List C):List (List C)→List (List C)
 | []=>[.str k::vs]
 | (.str s::us)::r=>if s=k then(.str k::vs)::r else(.str s::us)::aEg k vs r
 | x::r=>x::aEg k vs r
theorem aDc (a b:List UInt8):((ByteArray.mk ⟨a⟩)==(ByteArray.mk ⟨b⟩))=decide (b=a):=by
 rw[beq_toListBytes,gV,gV,Bool.beq_eq_decide_eq];by_cases h:a=b
 ·subst h;simp
 ·have q:¬b=a:=fun e=>h e.symm
  simp[h,q]
theorem jW {S:Sto}{agg:Bool}{k:List UInt8}:∀(l:List (List C)) (es:List MapEntry) (i:Nat),b7 S agg l es→kX l→
  (∀vs,jU k l=some vs→∃j e,Instr.findNow .string (.string ⟨⟨k⟩⟩) es i=some (some (i+j,e.val))∧es[j]?=some e∧(∃us,bZ S vs us∧e.val=(if agg then .agg ⟨us⟩ else us.headD undef)∧(agg=false→us.length=1))∧e.key=.string ⟨⟨k⟩⟩∧j<es.length∧
   ∀ws,aEg k ws l=(l.take j)++(.str k::ws)::l.drop (j+1))∧
  (jU k l=none→Instr.findNow .string (.string ⟨⟨k⟩⟩) es i=some none∧∀ws,aEg k ws l=l++[.str k::ws])
 | [],es,i,h,_=>by
  simp only[b7] at h;subst h;exact⟨fun vs A=>by simp[jU] at A,fun _=>⟨rfl,fun ws=>rfl⟩⟩
 | r::l,es,i,h,hm=>by
  simp only[b7] at h;obtain⟨e,u,rfl,⟨vs,h1,h2,U⟩,Y⟩:=h
  match r,h1,hm with
  | .str s::us,h1,hm=>
   simp only[kX] at hm;simp only[bZ] at h1;obtain⟨v,vs',A,I,h6⟩:=h1;simp only[Rep] at I;injection A with J M;subst M;have q:e.key=.string ⟨⟨s⟩⟩:=by rw[J,I]
   have O:=jW (k:=k) l u (i+1) Y hm;by_cases hs:s=k
   ·subst hs;refine⟨fun ws hw=>?_,fun hn=>by simp[jU] at hn⟩;simp only[jU,Ce,Option.some.injEq] at hw;subst hw;refine⟨0,e,?_,rfl,⟨vs,h6,h2,U⟩,q,by simp,fun ws=>by simp[aEg]⟩;simp only[Instr.findNow,q,Instr.sameNow];rw[aDc];simp
   ·have y:Instr.findNow .string (.string ⟨⟨k⟩⟩) (e::u) i=Instr.findNow .string (.string ⟨⟨k⟩⟩) u (i+1):=by
     simp only[Instr.findNow,q,Instr.sameNow];rw[aDc];simp[hs]
    refine⟨fun ws hw=>?_,fun hn=>?_⟩
    ·simp only[jU,hs,Bn] at hw;obtain⟨j,e',B,E,q3,q4,q5,q6⟩:=O.1 ws hw;refine⟨j+1,e',?_,by simpa using E,q3,q4,by simpa using q5,fun ws=>?_⟩
     ·rw[y,B,show i+1+j=i+(j+1) by omega]
     ·simp only[aEg,hs,Bn,q6 ws];simp
    ·simp only[jU,hs,Bn] at hn;obtain⟨B,E⟩:=O.2 hn;exact⟨by rw[y,B],fun ws=>by simp only[aEg,hs,Bn,E ws];simp⟩
  | [],h1,_=>simp only[bZ] at h1;cases h1
  | .int _ _::_,_,hm=>simp[kX] at hm
  | .bool _::_,_,hm=>simp[kX] at hm
  | .nl::_,_,hm=>simp[kX] at hm
  | .sl _ _::_,_,hm=>simp[kX] at hm
  | .sn _ _::_,_,hm=>simp[kX] at hm
  | .np::_,_,hm=>simp[kX] at hm
  | .pt _::_,_,hm=>simp[kX] at hm
  | .mp _ _::_,_,hm=>simp[kX] at hm
  | .zv _::_,_,hm=>simp[kX] at hm
theorem l9 {t:TypeId}(hu:P.underlying t=some .string) (b:Bool) (d:Nat) (s:ByteArray) (w:World):(Instr.checkKey b (d+1) t (.string s)).run P w=.ok () w:=by
 simp only[Instr.checkKey,ε,Ag hu w,θ,τ]
inductive MapE (st:St):List Nat→V→Bool→List (List C)→Prop
 | mr {id agg ents}:st.h id=some (.map agg ents)→MapE st [id] (.one (.mr id)) agg ents
 | mp {agg ents}:MapE st [] (.one (.c (.mp agg ents))) agg ents
 | nil {agg}:MapE st [] (.one (.c (.zv 0))) agg []
theorem MapE.rel {G:Ctx}{S:Sto}{μ:Mu}{st':St}{a:Act}{w:World}{ids:List Nat}{v:V}{agg:Bool}{ents:List (List C)}{u:Value}(hs:Sim G n S μ st' a w) (h:MapE st ids v agg ents) (A:kX ents) (hi:∀i∈ids,st'.h i=st.h i) (y:aL S μ st'.h v u):
  ∃es:Array MapEntry,b7 S agg ents es.toList∧((u=.map none∧es= #[])∨∃b clk,u=.map (some b)∧w.heap[b]?=some (.map es clk)):=by
 cases h with
 | mr hh=>
  have B:=(hi _ (by simp)).trans hh;simp only[aL,aV] at y;obtain⟨I,E,b,c,h1,h2,q⟩:=y;rw[B] at h1;cases h1;obtain⟨J,es,clk,g1,g2,g3,g4⟩:=hs.inv.obj _ _ B;rw[h2] at g1;cases g1;exact⟨es,g3.rep A,.inr ⟨_,clk,q,g2⟩⟩
 | mp=>
  simp only[aL,aV,Rep] at y;obtain⟨b,es,clk,h1,h2,q⟩:=y;refine⟨es,q.elim id fun q=>?_,.inr ⟨b,clk,h1,hs.inv.holds.2 _ _ h2⟩⟩;cases ents with
  | nil=>simp only[aKg] at q
  | cons r l=>simp only[aKg] at q;rw[q.1] at A;simp[kX] at A
 | nil=>
  simp only[aL,aV,Rep,aSi] at y;exact⟨#[],by simp[b7],.inl ⟨y,rfl⟩⟩
def pK (i:TI) (r:Option (List C)):V:=match r with
 | some vs=>if i.k.agg then .pa vs else match vs with | [c]=>.one (.c c) | _=>.tup []
 | none=>if i.k.agg then .pa i.zero else match i.zero with | [c]=>.one (.c c) | _=>.tup []
def aHy (r:Option (List C)):Bool:=r.isSome
def aIh (r:Option (Nat×Value)) (z:Value):Value:=match r with | some p=>p.2 | none=>z
theorem iX (w:World) (b:Nat) (es:Array MapEntry) (clk:Nat) (h:w.heap[b]?=some (.map es clk)):(getObj b).run P w=.ok (.map es clk) w:=by
 exact MapKept.run_getObj_map h
theorem aGu {t kt et:TypeId}{i ki E:TI}{x y:Operand}{ok:Bool}{ids:List Nat}{agg:Bool}{k:List UInt8}{r:Option (List C)}(U:Tok P T) (ho:o.op=.lookup t x y ok) (hd:o.dst=some d) (hdn:d<n) (hi:T[t]?=some (some i)) (hk:i.k=.mp kt et)
  (hki:T[kt]?=some (some ki)) (hkk:ki.k=.str) (Y:T[et]?=some (some E)) (I:E.k.agg=agg) (hy:opv st y=some (Go.AM.T k))
  (hrel:∀(st':St),fL ⟨opr x++opr y,ids⟩ st st'→∀(G:Ctx) (S:Sto) (μ:Mu) (a:Act) (w:World),Sim G n S μ st' a w→∃(es:Array MapEntry) (ents:List (List C)),kX ents∧jU k ents=r∧b7 S agg ents es.toList∧((a.eval x=.map none∧es= #[])∨∃b clk,a.eval x=.map (some b)∧w.heap[b]?=some (.map es clk))):
  Step P n o st ⟨opr x++opr y,ids⟩ ⟨some (d,some (if ok then .tup [pK E r,B (aHy r)] else pK E r)),[]⟩:=by
 refine Step.value hd hdn fun st' ha G S μ a w hs=>?_
 obtain⟨es,ents,hms,hr,h1,h2⟩:=hrel st' ha G S μ a w hs;have h3:=kV (aI hs hy fun t h=>ha.1 t (by simp[h]));have hu:=Ag ((U.get hi).map hk) w;have aa:=(U.get hki).str hkk;obtain⟨z,hz,hzr,hz1,hz2⟩:=(U.get Y).zero_run;have J:=jW (k:=k) ents es.toList 0 h1 hms;have key:∃q:Option (Nat×Value),(Instr.findKey kt (.string ⟨⟨k⟩⟩) es.toList).run P w=.ok q w∧aL S μ st'.h (pK E r) (aIh q z)∧aHy r=q.isSome:=by
  cases hq:jU k ents with
  | some vs=>
   obtain⟨j,e,q1,q2,⟨us,M,q4,q5⟩,q6,q7,q8⟩:=J.1 vs hq;refine⟨some (0+j,e.val),?_,?_,by rw[←hr,hq];rfl⟩
   ·simp only[Instr.findKey,ε,Ag aa w,θ,q1,τ]
   ·rw[←hr,hq];simp only[pK,I];cases agg with
    | true=>
     simp only[Ce,aL] at q4 ⊢;exact⟨us,q4,M⟩
    | false=>
     simp only[Av,Bn] at q4 ⊢;have hl:=q5 rfl;have hl2:=M.length
     match vs,us,M,hl,hl2 with
     | [c],[u],M,_,_=>
      simp only[bZ] at M;obtain⟨v,vs',O,hc,_⟩:=M;cases O;rw[q4];simp only[aL,aV];exact hc
  | none=>
   obtain⟨q1,_⟩:=J.2 hq;refine⟨none,?_,?_,by rw[←hr,hq];rfl⟩
   ·simp only[Instr.findKey,ε,Ag aa w,θ,q1,τ]
   ·rw[←hr,hq];simp only[pK,I];have A:=hzr S;cases agg with
    | true=>
     rw[I,ξ rfl] at hz1;simp only[Ce,aL];exact⟨z.cells.toList,hz1,A⟩
    | false=>
     obtain⟨u,hu1,hu2⟩:=hz2 I;simp only[Av,Bn];have hl:=(U.get Y).len;rw[(U.get Y).one I] at hl
     match hzz:E.zero,hl with
     | [c],_=>
      rw[hzz,hu1] at A;simp only[bZ] at A;obtain⟨v,vs',O,hc,_⟩:=A;cases O;rw[hu2];simp only[aL,aV];exact hc
 obtain⟨q,hf,O,hb⟩:=key;have hck:=fun b=>l9 (P:=P) aa b 9999 ⟨⟨k⟩⟩ w
 have fin:aL S μ st'.h (if ok then .tup [pK E r,B (aHy r)] else pK E r) (if ok then .tuple #[(aIh q z),.bool q.isSome] else(aIh q z)):=by
  cases ok with
  | false=>exact O
  | true=>
   simp only[Ce,aL,aY];exact⟨[_,.bool q.isSome],rfl,_,[.bool q.isSome],rfl,O,.bool q.isSome,[],rfl,by rw[hb];simp[aV,Rep],rfl⟩
 refine⟨_,?_,fin⟩;rcases h2 with⟨h2,rfl⟩ | ⟨b,clk,h2,h4⟩
 ·simp only[execOp,ho,h2,h3,ε,Instr.lookup,hu,θ,τ];rw[show(10000:Nat)=9999+1 from rfl,hck];simp only[θ,hf];cases q with
  | none=>simp only[ε,hz w,θ,τ];rfl
  | some p=>rfl
 ·simp only[execOp,ho,h2,h3,ε,Instr.lookup,hu,θ,τ,iX w b es clk h4];rw[show(10000:Nat)=9999+1 from rfl,hck];simp only[θ,hf];cases q with
  | none=>simp only[ε,hz w,θ,τ];rfl
  | some p=>rfl
theorem tW {t A E:TypeId}{i I q:TI}{x y:Operand}{ok:Bool}{v:V}{ids:List Nat}{agg:Bool}{ents:List (List C)}{k:List UInt8}{r:Option (List C)}(hT:Tok P T) (ho:o.op=.lookup t x y ok) (hd:o.dst=some d) (J:d<n) (hi:T[t]?=some (some i)) (hk:i.k=.mp A E)
  (M:T[A]?=some (some I)) (O:I.k=.str) (U:T[E]?=some (some q)) (Y:q.k.agg=agg) (hx:opv st x=some v) (hm:MapE st ids v agg ents) (u:kX ents) (hy:opv st y=some (Go.AM.T k)) (hr:jU k ents=r):
  Step P n o st ⟨opr x++opr y,ids⟩ ⟨some (d,some (if ok then .tup [pK q r,B (aHy r)] else pK q r)),[]⟩:=
 aGu hT ho hd J hi hk M O U Y hy fun _ ha _ _ _ _ _ hs=>by
  obtain⟨es,h1,h2⟩:=hm.rel hs u ha.2 (aI hs hx fun t h=>ha.1 t (by simp[h]));exact⟨es,ents,u,hr,h1,h2⟩
theorem cQ {S:Sto}{agg:Bool}:∀{a:List (List C)}{x:List MapEntry}{b:List (List C)}{y:List MapEntry},b7 S agg a x→b7 S agg b y→b7 S agg (a++b) (x++y)
 | [],_,_,_,h,k=>by simp only[b7] at h;subst h;simpa using k
 | _::_,_,_,_,h,k=>by
  simp only[b7,Ap] at h ⊢;obtain⟨v,vs',rfl,h1,h2⟩:=h;exact⟨v,vs'++_,rfl,h1,cQ h2 k⟩
theorem kN {S:Sto}{agg:Bool}:∀{a:List (List C)}{x:List MapEntry}(n:Nat),b7 S agg a x→b7 S agg (a.take n) (x.take n)
 | _,_,0,_=>by simp[b7]
 | [],_,n+1,h=>by simp only[b7] at h;subst h;simp[b7]
 | _::_,_,n+1,h=>by
  simp only[b7,As] at h ⊢;obtain⟨v,vs',rfl,h1,h2⟩:=h;exact⟨v,vs'.take n,by simp,h1,kN n h2⟩
theorem kO {S:Sto}{agg:Bool}:∀{a:List (List C)}{x:List MapEntry}(n:Nat),b7 S agg a x→b7 S agg (a.drop n) (x.drop n)
 | _,_,0,h=>by simpa using h
 | [],_,n+1,h=>by simp only[b7] at h;subst h;simp[b7]
 | _::_,_,n+1,h=>by
  simp only[b7,Cg] at h ⊢;obtain⟨v,vs',rfl,h1,h2⟩:=h;simpa using kO n h2
theorem zA {t kt et:TypeId}{i ki:TI}{x y z:Operand}{id:Nat}{agg:Bool}{ents:List (List C)}{k:List UInt8}{v:V}{rs:List R}{cs:List C}{ids:List Nat}(hT:Tok P T) (ho:o.op=.mapUpdate t x y z) (hd:o.dst=none) (hi:T[t]?=some (some i)) (hk:i.k=.mp kt et)
  (hki:T[kt]?=some (some ki)) (hkk:ki.k=.str) (hx:opv st x=some (.one (.mr id))) (hh:st.h id=some (.map agg ents)) (E:kX ents) (hy:opv st y=some (Go.AM.T k))
  (hz:opv st z=some v) (q:(match v with | .one _=>!agg | .pa _=>agg | .ma _=>agg | _=>false)=true) (hc:fZ v=some rs) (hp:PureL st.h ids rs cs):
  Step P n o st ⟨opr x++opr y++opr z,id::ids⟩ ⟨none,[(id,some (.map agg (aEg k cs ents)))]⟩:=by
 refine Step.turn hd hh (by simp) (by simp[AObj.succ]) fun st' ha hh' G S μ a w hs=>?_
 have h1:=aI hs hx fun t h=>ha.1 t (by simp[h])
 have h3:=kV (aI hs hy fun t h=>ha.1 t (by simp[h]));have u:=aI hs hz fun t h=>ha.1 t (by simp[h])
 simp only[aL,aV] at h1;obtain⟨agg',ents',b,c,q1,q2,q3⟩:=h1;obtain⟨b',es,clk,g1,g2,g3,g4⟩:=hs.inv.obj id _ hh';rw[g1] at q2;cases q2;have g3:=g3.rep E;have ad:=hp.rel (fun i h=>ha.2 i (by simp[h])) hs.inv.obj (dG u hc);have I:a.eval z=(if agg then .agg ⟨(a.eval z).cells.toList⟩ else(a.eval z).cells.toList.headD undef)∧(agg=false→(a.eval z).cells.toList.length=1):=by
  cases v with
  | one r=>
   simp at q;subst q;simp only[aL] at u;rw[u.one.1];simp
  | pa l=>
   simp at q;subst q;simp only[aL] at u;obtain⟨vs,u,_⟩:=u;rw[u];simp[Value.cells]
  | ma l=>
   simp at q;subst q;simp only[aL] at u;obtain⟨vs,u,_⟩:=u;rw[u];simp[Value.cells]
  | tup l=>simp at q
 have J:=(hT.get hki).str hkk;have hu:=Ag ((hT.get hi).map hk) w;have A:=jW (k:=k) ents es.toList 0 g3 E;have aa:=fun b=>l9 (P:=P) J b 9999 ⟨⟨k⟩⟩ w
 have M:∀e:MapEntry,e.key=.string ⟨⟨k⟩⟩→e.val=a.eval z→b7 S agg [.str k::cs] [e]:=by
  intro e he1 he2;simp only[b7];refine⟨e,[],rfl,⟨(a.eval z).cells.toList,?_,by rw[he2];exact I.1,I.2⟩,rfl⟩;simp only[bZ];exact⟨e.key,_,rfl,by simp[Rep,he1],ad⟩
 have O:∀(ob:Obj),(setObj b ob).run P w=.ok () { w with heap:=w.heap.setIfInBounds b ob }:=by
  intro ob;exact MapKept.run_setObj_map _ g2
 have U:∀ob,WChg w { w with heap:=w.heap.setIfInBounds b ob } b ob:=fun ob=>by
  have hlt:=bY g2;refine⟨rfl,rfl,rfl,by simp,by simp[hlt],fun k _ hne=>?_⟩;show(w.heap.setIfInBounds b ob)[k]?=_;rw[A5,ζ (fun e=>hne e.symm)]
 have ab:∀(ob:Obj) (o:Nat) (v:Value),S.cell b o=some v→∃vs t fr,ob=.cells vs t fr∧vs[o]?=some v:=fun ob o v e=>by
  obtain⟨vs,t,fr,B,_⟩:=hs.inv.holds.1 b o v e;rw[g2] at B;cases B
 have g4:=g4.kn0 E;have ac:∀m,S.mapo b=some m→w.heap.size≤b:=fun m e=>by rw[g4] at e;cases e
 cases hq:jU k ents with
 | some vs=>
  obtain⟨j,e,B,Y,_,p4,p5,p6⟩:=A.1 vs hq;refine⟨_,.map (es.modify j fun e=>{ e with key:=.string ⟨⟨k⟩⟩,val:=a.eval z }) clk,b,(0,0),?_,g1,U _,⟨b,_,clk,aH _ _ _,(U _).new,.inr (.inl ?_),.inl g4⟩,ab _,ac⟩
  ·have ae:((es[j]?).map (·.key)).getD (.string ⟨⟨k⟩⟩)=.string ⟨⟨k⟩⟩:=by
    rw[←Array.getElem?_toList,Y];simpa using p4
   have hkt:(Instr.keyThatStays (.string ⟨⟨k⟩⟩) (.string ⟨⟨k⟩⟩)).run P w=.ok (.string ⟨⟨k⟩⟩) w:=by
    have hsb:Instr.sameBits 10000 (.string ⟨⟨k⟩⟩) (.string ⟨⟨k⟩⟩)=true:=by simp[Instr.sameBits,aDc]
    simp only[Instr.keyThatStays,hsb,Ce,τ]
   simp only[execOp,ho,q3,h3,ε,Instr.mapUpdate,hu,θ,iX w b es clk g2];rw[show(10000:Nat)=9999+1 from rfl,aa];simp only[θ,Instr.findKey,ε,Ag J w,B,τ,Bb,ae,hkt,O]
  ·rw[p6 cs,Array.toList_modify];have af:es.toList.modify j (fun e=>{ e with key:=.string ⟨⟨k⟩⟩,val:=a.eval z })=es.toList.take j++{ e with key:=.string ⟨⟨k⟩⟩,val:=a.eval z }::es.toList.drop (j+1):=by
    apply Cf;intro i;rw[List.getElem?_modify];have p5':j<es.size:=by simpa using p5
    by_cases c1:i<j
    ·rw[A6 (by simp;omega),Al,ξ c1];simp[show ¬j=i by omega]
    ·rw[A9 (by simp;omega)];simp only[Ak];by_cases c2:j=i
     ·subst c2;rw[Y];have hm:min j es.toList.length=j:=by simp;omega
      rw[hm];simp
     ·rw[min_eq_left (Cp p5),show i-j=(i-j-1)+1 by omega,List.getElem?_cons_succ,Am];simp[c2,show j+1+(i-j-1)=i by omega]
   rw[af];have:=cQ (kN j g3) (cQ (M { e with key:=.string ⟨⟨k⟩⟩,val:=a.eval z } rfl rfl) (kO (j+1) g3));exact this
 | none=>
  obtain⟨B,Y⟩:=A.2 hq;refine⟨_,.map (es.push { key:=.string ⟨⟨k⟩⟩,val:=a.eval z,born:=clk }) (clk+1),b,(0,0),?_,g1,U _,⟨b,_,clk+1,aH _ _ _,(U _).new,.inr (.inl ?_),.inl g4⟩,ab _,ac⟩
  ·simp only[execOp,ho,q3,h3,ε,Instr.mapUpdate,hu,θ,iX w b es clk g2];rw[show(10000:Nat)=9999+1 from rfl,aa];simp only[θ,Instr.findKey,ε,Ag J w,B,τ,O]
  ·rw[Y cs,Array.toList_push];exact cQ g3 (M _ rfl rfl)
theorem aPh {P:Program}{T:TT}{o:Oper}{t kt et:TypeId}{i ki:TI}{x y z:Operand}{agg:Bool}{ents:List (List C)}{k:List UInt8}{cs:List C}{S:Sto}{a:Act}{w:World}{b:Nat}{es:Array MapEntry}{clk:Nat}(hT:Tok P T) (ho:o.op=.insert t x y z) (hi:T[t]?=some (some i)) (hk:i.k=.mp kt et)
  (hki:T[kt]?=some (some ki)) (hkk:ki.k=.str) (q3:a.eval x=.map (some b)) (h3:a.eval y=.string ⟨⟨k⟩⟩) (g2:w.heap[b]?=some (.map es clk)) (g3:b7 S agg ents es.toList) (hms:kX ents)
  (M:bZ S cs (a.eval z).cells.toList) (r:a.eval z=(if agg then .agg ⟨(a.eval z).cells.toList⟩ else(a.eval z).cells.toList.headD undef)∧(agg=false→(a.eval z).cells.toList.length=1)):
  ∃I O,(execOp a.eval o).run P w=.ok .skip { w with heap:=w.heap.setIfInBounds b (.map I O) }∧b7 S agg (aEg k cs ents) I.toList:=by
 have u:=(hT.get hki).str hkk;have hu:=Ag ((hT.get hi).map hk) w;have q:=jW (k:=k) ents es.toList 0 g3 hms;have J:=fun b=>l9 (P:=P) u b 9999 ⟨⟨k⟩⟩ w
 have A:∀e:MapEntry,e.key=.string ⟨⟨k⟩⟩→e.val=a.eval z→b7 S agg [.str k::cs] [e]:=by
  intro e he1 he2;simp only[b7];refine⟨e,[],rfl,⟨(a.eval z).cells.toList,?_,by rw[he2];exact r.1,r.2⟩,rfl⟩;simp only[bZ];exact⟨e.key,_,rfl,by simp[Rep,he1],M⟩
 have B:∀(ob:Obj),(setObj b ob).run P w=.ok () { w with heap:=w.heap.setIfInBounds b ob }:=by
  intro ob;exact MapKept.run_setObj_map _ g2
 cases hq:jU k ents with
 | some vs=>
  obtain⟨j,e,U,E,_,p4,p5,p6⟩:=q.1 vs hq;refine⟨es.modify j fun e=>{ e with key:=.string ⟨⟨k⟩⟩,val:=a.eval z },clk,?_,?_⟩
  ·have Y:((es[j]?).map (·.key)).getD (.string ⟨⟨k⟩⟩)=.string ⟨⟨k⟩⟩:=by
    rw[←Array.getElem?_toList,E];simpa using p4
   have hkt:(Instr.keyThatStays (.string ⟨⟨k⟩⟩) (.string ⟨⟨k⟩⟩)).run P w=.ok (.string ⟨⟨k⟩⟩) w:=by
    have hsb:Instr.sameBits 10000 (.string ⟨⟨k⟩⟩) (.string ⟨⟨k⟩⟩)=true:=by simp[Instr.sameBits,aDc]
    simp only[Instr.keyThatStays,hsb,Ce,τ]
   simp only[execOp,ho,q3,h3,ε,Instr.mapUpdate,hu,θ,iX w b es clk g2];rw[show(10000:Nat)=9999+1 from rfl,J];simp only[θ,Instr.findKey,ε,Ag u w,U,τ,Bb,Y,hkt,B]
  ·rw[p6 cs,Array.toList_modify];have aa:es.toList.modify j (fun e=>{ e with key:=.string ⟨⟨k⟩⟩,val:=a.eval z })=es.toList.take j++{ e with key:=.string ⟨⟨k⟩⟩,val:=a.eval z }::es.toList.drop (j+1):=by
    apply Cf;intro i;rw[List.getElem?_modify];have p5':j<es.size:=by simpa using p5
    by_cases c1:i<j
    ·rw[A6 (by simp;omega),Al,ξ c1];simp[show ¬j=i by omega]
    ·rw[A9 (by simp;omega)];simp only[Ak];by_cases c2:j=i
     ·subst c2;rw[E];have hm:min j es.toList.length=j:=by simp;omega
      rw[hm];simp
     ·rw[min_eq_left (Cp p5),show i-j=(i-j-1)+1 by omega,List.getElem?_cons_succ,Am];simp[c2,show j+1+(i-j-1)=i by omega]
   rw[aa];have:=cQ (kN j g3) (cQ (A { e with key:=.string ⟨⟨k⟩⟩,val:=a.eval z } rfl rfl) (kO (j+1) g3));exact this
 | none=>
  obtain⟨U,E⟩:=q.2 hq;refine⟨es.push { key:=.string ⟨⟨k⟩⟩,val:=a.eval z,born:=clk },clk+1,?_,?_⟩
  ·simp only[execOp,ho,q3,h3,ε,Instr.mapUpdate,hu,θ,iX w b es clk g2];rw[show(10000:Nat)=9999+1 from rfl,J];simp only[θ,Instr.findKey,ε,Ag u w,U,τ,B]
  ·rw[E cs,Array.toList_push];exact cQ g3 (A _ rfl rfl)
theorem aLf {t O et:TypeId}{i U:TI}{x y z:Operand}{id:Nat}{agg:Bool}{ents:List (List C)}{k:List UInt8}{v:V}{rs:List R}{cs:List C}{ids:List Nat}(hT:Tok P T) (ho:o.op=.insert t x y z) (hd:o.dst=none) (hi:T[t]?=some (some i)) (hk:i.k=.mp O et)
  (Y:T[O]?=some (some U)) (aa:U.k=.str) (hx:opv st x=some (.one (.mr id))) (hh:st.h id=some (.map agg ents)) (A:kX ents) (hy:opv st y=some (Go.AM.T k))
  (hz:opv st z=some v) (q:(match v with | .one _=>!agg | .pa _=>agg | .ma _=>agg | _=>false)=true) (hc:fZ v=some rs) (hp:PureL st.h ids rs cs):
  Step P n o st ⟨opr x++opr y++opr z,id::ids⟩ ⟨none,[(id,some (.map agg (aEg k cs ents)))]⟩:=by
 refine Step.turn hd hh (by simp) (by simp[AObj.succ]) fun st' ha ab G S μ a w hs=>?_
 have h1:=aI hs hx fun t h=>ha.1 t (by simp[h])
 have h3:=kV (aI hs hy fun t h=>ha.1 t (by simp[h]));have u:=aI hs hz fun t h=>ha.1 t (by simp[h])
 simp only[aL,aV] at h1;obtain⟨agg',ents',b,c,q1,q2,q3⟩:=h1;obtain⟨b',es,clk,g1,g2,g3,g4⟩:=hs.inv.obj id _ ab;rw[g1] at q2;cases q2;have g3:=g3.rep A;have E:=hp.rel (fun i h=>ha.2 i (by simp[h])) hs.inv.obj (dG u hc);have I:a.eval z=(if agg then .agg ⟨(a.eval z).cells.toList⟩ else(a.eval z).cells.toList.headD undef)∧(agg=false→(a.eval z).cells.toList.length=1):=by
  cases v with
  | one r=>
   simp at q;subst q;simp only[aL] at u;rw[u.one.1];simp
  | pa l=>
   simp at q;subst q;simp only[aL] at u;obtain⟨vs,u,_⟩:=u;rw[u];simp[Value.cells]
  | ma l=>
   simp at q;subst q;simp only[aL] at u;obtain⟨vs,u,_⟩:=u;rw[u];simp[Value.cells]
  | tup l=>simp at q
 obtain⟨es',B,J,M⟩:=aPh (P:=P) hT ho hi hk Y aa q3 h3 g2 g3 A E I;have hW:∀ob,WChg w { w with heap:=w.heap.setIfInBounds b ob } b ob:=fun ob=>by
  have hlt:=bY g2;refine⟨rfl,rfl,rfl,by simp,by simp[hlt],fun k _ hne=>?_⟩;show(w.heap.setIfInBounds b ob)[k]?=_;rw[A5,ζ (fun e=>hne e.symm)]
 have hSc:∀(ob:Obj) (o:Nat) (v:Value),S.cell b o=some v→∃vs t fr,ob=.cells vs t fr∧vs[o]?=some v:=fun ob o v e=>by
  obtain⟨vs,t,fr,p1,_⟩:=hs.inv.holds.1 b o v e;rw[g2] at p1;cases p1
 have g4:=g4.kn0 A;have hSm:∀m,S.mapo b=some m→w.heap.size≤b:=fun m e=>by rw[g4] at e;cases e
 exact⟨_,.map es' B,b,(0,0),J,g1,hW _,⟨b,_,B,aH _ _ _,(hW _).new,.inr (.inl M),.inl g4⟩,hSc _,hSm⟩
end
end Go.AM
