/-
  Texts Am12 to Am16 in one.
-/
import Derived.Test.YtpmheldmadendaaGreatDoorM2
import Derived.RangeFuncRecord
import Derived.IntWalk
import Derived.Laws.StructEq
open List (all_eq_true append_assoc append_nil cons_append drop_drop drop_succ_cons eq_nil_of_length_eq_zero filter_cons filter_eq_self length_append length_cons length_nil length_range length_singleton length_take map_cons map_nil mem_append mem_cons mem_filter mem_map mem_range nil_append nodup_cons range'_succ range_eq_range' take_of_length_le take_succ_cons)
open Nat (eq_of_beq_eq_true le_of_ble_eq_true le_of_lt le_refl le_trans lt_of_lt_of_le min_eq_left sub_zero zero_add zero_le)
namespace Go.AM
open Go
def hH (μ:Mu) (h:bZ):Nat→Prop:=fun b=>∃id o c,h id=some o∧μ id=some (b,c)
def b8 (P:Program) (f:FuncId) (args:List V) (hin:List (Nat×AObj)) (res:V) (hout:List (Nat×AObj)):Prop:=
 ∀S μ w vals,Inv ⟨w,S,hH μ (look hin),μ,look hin⟩ S μ (look hin) w→aU S μ (look hin) args vals→
  Calls P f ⟨vals⟩ w fun e w'=>∃S' μ' v,e=.returned v∧Inv ⟨w,S,hH μ (look hin),μ,look hin⟩ S' μ' (look hout) w'∧aO S' μ' (look hout) res v
mutual
theorem R.ren_id:∀r:R,r.ren (fun i=>i)=r
 | .c _=>rfl
 | .hs ..=>rfl
 | .tl ..=>rfl
 | .vp ..=>rfl
 | .ep ..=>rfl
 | .mr ..=>rfl
 | .clo f caps=>by simp only[R.ren,R.renL_id caps]
 | .mth f x=>by simp only[R.ren,R.ren_id x]
 | .yl _=>rfl
 | .ra _ _ _ _=>rfl
 | .rp _ _ _ _=>rfl
 | .ras n es l=>by simp only[R.ren,R.renL_id l]
 | .pas l=>by simp only[R.ren,R.renL_id l]
theorem R.renL_id:∀r:List R,R.renL (fun i=>i) r=r
 | []=>rfl
 | r::rs=>by simp only[R.renL,R.ren_id r,R.renL_id rs]
end
mutual
theorem V.ren_id:∀r:V,r.ren (fun i=>i)=r
 | .one r=>by simp only[V.ren,R.ren_id r]
 | .pa _=>rfl
 | .ma l=>by simp only[V.ren,R.renL_id l]
 | .tup l=>by simp only[V.ren,V.renL_id l]
theorem V.renL_id:∀r:List V,V.renL (fun i=>i) r=r
 | []=>rfl
 | r::rs=>by simp only[V.renL,V.ren_id r,V.renL_id rs]
end
theorem aDt:∀l:List (Nat×V),aN3 (fun i=>i) l=l
 | []=>rfl
 | (t,v)::l=>by simp only[aN3,V.ren_id v,aDt l]
theorem aDr:∀l:List (List R),aDs (fun i=>i) l=l
 | []=>rfl
 | r::l=>by simp only[aDs,R.renL_id r,aDr l]
theorem Ole.refl_id {o:AObj}(h:o≠ .dead):Ole (fun i=>i) o o:=by
 cases o with
 | var t cells=>exact .var (R.renL_id cells).symm
 | arr=>exact .arr
 | map=>exact .map
 | dead=>exact absurd rfl h
 | lp st j i e=>exact .lp (aDt e).symm
 | dfr=>exact .dfr
 | rarr te es l=>exact .rarr (aDr l).symm
 | tok r k=>exact .tok (R.ren_id r).symm
inductive Conv (h:bZ):List Nat→V→V→Prop
 | refl {v}:Conv h [] v v
 | one {ids r c}:PureL h ids [r] [c]→Conv h ids (.one r) (.one (.c c))
 | agg {ids rs cs}:PureL h ids rs cs→Conv h ids (.ma rs) (.pa cs)
 | pa {ids l cs}:PureL h ids (l.map R.c) cs→Conv h ids (.pa l) (.pa cs)
inductive ArgsV (st:St):List Nat→List Operand→List V→Prop
 | nil:ArgsV st [] [] []
 | cons {ids ids' x xs v v' vs}:opv st x=some v→Conv st.h ids v v'→ArgsV st ids' xs vs→ArgsV st (ids++ids') (x::xs) (v'::vs)
theorem Conv.rel {S:Sto}{μ:Mu}{H H0:bZ}{w:World}{ids:List Nat}{v v':V}{u:Value}(h:Conv H0 ids v v') (hi:∀i∈ids,H i=H0 i) (hO:∀id o,H id=some o→j6 S μ H w id o) (j:aO S μ H v u):aO S μ H v' u:=by
 cases h with
 | refl=>exact j
 | @one _ r c h=>
  simp only[aO,aT] at j ⊢;have:=h.rel hi hO (vs:=[u]) (by simp only[aP];exact⟨u,[],rfl,j,rfl⟩);simp only[bW] at this;obtain⟨v,vs',h1,h2,q⟩:=this;cases h1;exact h2
 | @agg _ rs cs h=>
  simp only[aO] at j ⊢;obtain⟨vs,h1,h2⟩:=j;exact⟨vs,h1,h.rel hi hO h2⟩
 | @pa _ l cs h=>
  simp only[aO] at j ⊢;obtain⟨vs,h1,h2⟩:=j;exact⟨vs,h1,h.rel hi hO h2.toR⟩
def bT:List Operand→List Nat
 | []=>[]
 | x::xs=>opr x++bT xs
theorem ArgsV.rel {G:Ctx}{n:Nat}{S:Sto}{μ:Mu}{st st':St}{a:Act}{w:World}(hs:Sim G n S μ st' a w):∀{ids:List Nat}{xs:List Operand}{vs:List V},ArgsV st ids xs vs→(∀t∈bT xs,st'.e t=st.e t)→(∀i∈ids,st'.h i=st.h i)→aU S μ st'.h vs (xs.map a.eval):=by
 intro ids xs vs h
 induction h with
 | nil=>intro _ _;simp[aU]
 | cons hx hc _ c=>
  intro ht hi;simp only[Av,aU];refine⟨_,_,rfl,?_,c (fun t h=>ht t (by simp[bT,h])) fun i h=>hi i (by simp[h])⟩;exact hc.rel (fun i h=>hi i (by simp[h])) hs.inv.obj (aL hs hx fun t h=>ht t (by simp[bT,h]))
theorem Inv.hand {G:Ctx}{S:Sto}{μ:Mu}{H:bZ}{w:World}{hin:List (Nat×AObj)}(h:Inv G S μ H w) (hh:∀id o,look hin id=some o→H id=some o∧o≠ .dead) (hc:subset (fI hin) (hin.map (·.1))=true):
  Inv ⟨w,S,hH μ (look hin),μ,look hin⟩ S μ (look hin) w:=by
 have q:∀i∈hin.map (·.1),Good H (look hin) (fun i=>i) i:=by
  intro i hi;obtain⟨o,ho⟩:=cE hi;obtain⟨h1,h2⟩:=hh i o ho;exact⟨o,o,h1,ho,.refl_id h2⟩
 refine⟨h.holds,fun id o ho=>?_,fun i j o o' b c c' hi A hm r=>h.inj i j o o' b c c' (hh _ _ hi).1 (hh _ _ A).1 hm r,fun i o b c hi hm=>.inr ⟨i,o,c,hi,hm⟩,FrameW.refl _ _ ⟨h.frame.tabAt,fun g u=>?_⟩,S.le_refl,fun b _ _=>⟨fun _=>rfl,rfl⟩,Evolve.refl _ _ _,h.fre⟩
 ·obtain⟨h1,h2⟩:=hh id o ho;exact(h.obj id o h1).ren (.refl_id h2) fun i hi=>q i (bR hc i (jJ (b9 ho) i hi))
 ·rintro⟨i,o,c,h1,h2⟩;have B:=(h.frame.tab.1 g u).1
  rcases h.own i o g c (hh i o h1).1 h2 with y | y
  ·omega
  ·exact h.frame.tab.2 g u y
def outs (l:List (Nat×AObj)):List (Nat×Option AObj):=l.map fun p=>(p.1,some p.2)
theorem uI:∀(l:List (Nat×AObj)) (i:Nat),look (outs l) i=(look l i).map some
 | [],_=>rfl
 | (k,o)::l,i=>by
  simp only[outs,Av,look];cases Nat.beq i k
  ·have:=uI l i;unfold outs at this;simpa using this
  ·rfl
theorem fS (H:bZ) (l:List (Nat×AObj)) (i:Nat):gO H (outs l) i=match look l i with | some o=>some o | none=>H i:=by
 simp only[gO,uI];cases look l i<;>rfl
theorem Inv.back {G:Ctx}{S S':Sto}{μ μ':Mu}{H:bZ}{w w':World}{hin hout:List (Nat×AObj)}(h:Inv G S μ H w) (hh:∀id o,look hin id=some o→H id=some o)
  (hnew:∀id o,look hout id=some o→(∃o',look hin id=some o')∨H id=none)
  (u:Inv ⟨w,S,hH μ (look hin),μ,look hin⟩ S' μ' (look hout) w'):
  ∃B:Mu,(∀id o,look hout id=some o→B id=μ' id)∧Inv G S' B (gO H (outs hout)) w'∧Evolve S μ H S' B (gO H (outs hout))∧Evolve S' μ' (look hout) S' B (gO H (outs hout)):=by
 have hE:Evolve S μ (look hin) S' μ' (look hout):=u.evo
 let B:Mu:=fun id=>match look hout id with | some _=>μ' id | none=>μ id
 have y:∀id o,look hout id=some o→B id=μ' id:=fun id o ho=>by simp only[B,ho]
 have M:∀id,look hout id=none→B id=μ id:=fun id ho=>by simp only[B,ho]
 have ab:∀id o,look hout id=some o→gO H (outs hout) id=some o:=fun id o ho=>by rw[fS,ho]
 have O:∀id,look hout id=none→gO H (outs hout) id=H id:=fun id ho=>by rw[fS,ho]
 have aa:∀id o,look hin id=some o→∃o',look hout id=some o':=fun id o ho=>by
  obtain⟨o',h1,_⟩:=hE.obj id o ho;exact⟨o',h1⟩
 have ac:Evolve S μ H S' B (gO H (outs hout)):=by
  refine⟨hE.le,fun id o ho=>?_⟩;cases hq:look hout id with
  | none=>exact⟨o,by rw[O id hq,ho],o.succ_refl (M id hq)⟩
  | some J=>
   rcases hnew id J hq with⟨o',hi⟩ | hi
   ·have:=hh id o' hi;rw[ho] at this;cases this;obtain⟨o3,h1,h2⟩:=hE.obj id o hi;rw[hq] at h1;cases h1;exact⟨J,ab id J hq,by rw[y id J hq];exact h2⟩
   ·rw[ho] at hi;cases hi
 have hE2:Evolve S' μ' (look hout) S' B (gO H (outs hout)):=⟨S'.le_refl,fun id o ho=>⟨o,ab id o ho,o.succ_refl (y id o ho)⟩⟩
 have Y:∀id o,H id=some o→look hout id=none→∀b c,μ id=some (b,c)→b<w.heap.size∧¬hH μ (look hin) b:=by
  intro id o ho hq b c hm;refine⟨(h.obj id o ho).lt hm,?_⟩;rintro⟨E,o',c',h1,h2⟩;have:=h.inj id E o o' b c c' ho (hh _ _ h1) hm h2;subst this;obtain⟨J,q⟩:=aa id o' h1;rw[hq] at q;cases q
 have I:∀id o b c,look hout id=some o→μ' id=some (b,c)→w.heap.size≤b∨hH μ (look hin) b:=fun id o b c ho hm=>u.own id o b c ho hm
 refine⟨B,y,⟨u.holds,fun id o ho=>?_,fun i j o o' b c c' hi hj hm A=>?_,fun i o b c hi hm=>?_,?_,Sto.le_trans h.sle hE.le,fun b hb hF=>?_,h.evo.trans ac,u.fre⟩,ac,hE2⟩
 ·cases hq:look hout id with
  | some J=>
   rw[ab id J hq] at ho;cases ho;exact(u.obj id _ hq).evolve hE2 (y id _ hq) fun b c hm=>⟨rfl,fun _=>rfl,rfl⟩
  | none=>
   rw[O id hq] at ho;refine(h.obj id o ho).evolve ac (M id hq) fun b c hm=>?_
   obtain⟨h1,h2⟩:=Y id o ho hq b c hm;exact⟨u.frame.block b h1 h2,(u.sto b h1 h2).1,(u.sto b h1 h2).2⟩
 ·cases U:look hout i with
  | some oi=>
   rw[y i oi U] at hm;cases r:look hout j with
   | some oj=>
    rw[y j oj r] at A;exact u.inj i j oi oj b c c' U r hm A
   | none=>
    rw[M j r] at A;rw[O j r] at hj;obtain⟨h1,h2⟩:=Y j o' hj r b c' A;rcases I i oi b c U hm with q | q
    ·omega
    ·exact absurd q h2
  | none=>
   rw[M i U] at hm;rw[O i U] at hi;obtain⟨h1,h2⟩:=Y i o hi U b c hm;cases r:look hout j with
   | some oj=>
    rw[y j oj r] at A;rcases I j oj b c' r A with q | q
    ·omega
    ·exact absurd q h2
   | none=>
    rw[M j r] at A;rw[O j r] at hj;exact h.inj i j o o' b c c' hi hj hm A
 ·cases hq:look hout i with
  | some J=>
   rw[y i J hq] at hm;rcases I i J b c hq hm with q | ⟨E,o',c',q,h4⟩
   ·exact .inl (le_trans h.frame.size q)
   ·exact h.own E o' b c' (hh _ _ q) h4
  | none=>
   rw[M i hq] at hm;rw[O i hq] at hi;exact h.own i o b c hi hm
 ·refine⟨u.frame.os.trans h.frame.os,u.frame.tape.trans h.frame.tape,u.frame.output.trans h.frame.output,le_trans h.frame.size u.frame.size,fun k hk hF=>?_,h.frame.tab⟩;rw[u.frame.block k (Ay hk h.frame.size) ?_,h.frame.block k hk hF];rintro⟨E,o',c',q,h4⟩;rcases h.own E o' k c' (hh _ _ q) h4 with h5 | h5
  ·omega
  ·exact hF h5
 ·have hnf:¬hH μ (look hin) b:=by
   rintro⟨E,o',c',q,h4⟩;rcases h.own E o' b c' (hh _ _ q) h4 with h5 | h5
   ·omega
   ·exact hF h5
  have h1:=u.sto b (Ay hb h.frame.size) hnf;have h2:=h.sto b hb hF;exact⟨fun o=>(h1.1 o).trans (h2.1 o),h1.2.trans h2.2⟩
section
variable {P:Program}{n:Nat}{o:Oper}{st:St}{d:Nat}
def keys {α:Type}(l:List (Nat×α)):List Nat:=l.map (·.1)
theorem pX {w:World}{S:Sto}{F:Nat→Prop}{μ:Mu}{hin:List (Nat×AObj)}:Ctx.keeps ⟨w,S,F,μ,look hin⟩ (keys hin):=
 ⟨fun id o ho=>mem_map.2 ⟨_,b9 ho,rfl⟩,fun h1 h2=>by
  obtain⟨o,ho⟩:=cE h1;rw[show look hin 997=none from h2] at ho
  cases ho⟩
def AObj.live:AObj→Bool
 | .dead=>false
 | _=>true
def eI (args:List V) (hin:List (Nat×AObj)):Bool:=subset (V.refsL args) (keys hin)&&subset (fI hin) (keys hin)&&(hin.all fun p=>p.2.live)
theorem Step.call {f:FuncId}{ids c:List Nat}{args:List V}{hin hout:List (Nat×AObj)}{res:V}(J:o.dst=some d) (B:d<n) (M:b8 P f args hin res hout)
  (r:fH (fun p=>st.h p.1=some p.2) hin) (j:fH (fun p=>p.1∈keys hin∨st.h p.1=none) hout) (hok:eI args hin=true)
  (u:∀st',eR ⟨c,ids++keys hin++keys hout⟩ st st'→∀G S μ a w,Sim G n S μ st' a w→∃vals,(execOp a.eval o).run P w=.ok (.enter f ⟨vals⟩) w∧aU S μ st'.h args vals):
  Step P n o st ⟨c,ids++keys hin++keys hout⟩ ⟨some (d,some res),outs hout⟩:=by
 intro st' ha G S μ a w K Q hs O;obtain⟨vals,U,Y⟩:=u st' ha G S μ a w hs;simp only[eI,τ] at hok;obtain⟨⟨k1,k2⟩,k3⟩:=hok;have hh:∀id o,look hin id=some o→st'.h id=some o∧o≠ .dead:=by
  intro id o ho;have hm:=b9 ho;have h1:=r.mem _ hm;refine⟨by rw[ha.2 id (by simp only[Bi];exact .inl (.inr (mem_map.2 ⟨_,hm,rfl⟩)))];exact h1,?_⟩;have:=(A3.1 k3) _ hm;rintro rfl;simp[AObj.live] at this
 have y:∀id o,look hout id=some o→(∃o',look hin id=some o')∨st'.h id=none:=by
  intro id o ho;have hm:=b9 ho;rcases j.mem _ hm with h1 | h1
  ·exact .inl (cE h1)
  ·exact .inr (by rw[ha.2 id (by simp only[Bi];exact .inr (mem_map.2 ⟨_,hm,rfl⟩))];exact h1)
 have hI:=hs.inv.hand hh k2;have q:∀i∈keys hin,Good st'.h (look hin) (fun i=>i) i:=by
  intro i hi;obtain⟨o,ho⟩:=cE hi;obtain⟨h1,h2⟩:=hh i o ho;exact⟨o,o,h1,ho,.refl_id h2⟩
 have E:aU S μ (look hin) args vals:=by
  have:=aU.ren (H:=st'.h) (H':=look hin) (σ:=fun i=>i) args vals (fun i hi=>q i (bR k1 i hi)) (by rw[V.renL_id];exact Y);exact this
 have hc:=M S μ w vals hI E;refine fun ro=>iJ U ?_
 refine hc.mono fun e w' ⟨S',μ',v,he,I,A⟩=>?_
 subst he;obtain⟨μ2,q1,q2,q3,q4⟩:=hs.inv.back (fun id o ho=>(hh id o ho).1) y I;show K (a.put o.dst v) w';rw[J];refine O S' μ2 _ _ ?_;exact hs.put q2 q3 B (x:=some res) fun z hz=>by cases hz;exact aO.evolve q4 _ _ A
def gL (P : Program) (f : FuncId) : Prop := ∃ fn, P.funcs[f]? = some fn ∧ (fn.name == "runtime.NumGoroutine") = false ∧ fn.body.isNone = false
theorem dU {f:FuncId}(hb:gL P f) (args:Array Value) (w:World):(callFunc f args).run P w=.ok (.enter f args) w:=by
 obtain⟨fn,h1,h2,c⟩:=hb;have hp:(program:Sem Program).run P w=.ok P w:=rfl;simp only[callFunc,π,hp,κ,h1,h2,c,Ao,Bm,Aa]
theorem aEa {f:FuncId}{xs:Array Operand}{ts:Array TypeId}{ids:List Nat}{args:List V}{res:V}(hin hout:List (Nat×AObj)) (hb:gL P f) (ho:o.op=.call { callee:=.value (.func f),args:=xs,argTypes:=ts }) (u:o.dst=some d) (r:d<n)
  (y:b8 P f args hin res hout) (ha:ArgsV st ids xs.toList args) (q:fH (fun p=>st.h p.1=some p.2) hin) (c:fH (fun p=>p.1∈keys hin∨st.h p.1=none) hout) (hok:eI args hin=true):
  Step P n o st ⟨bT xs.toList,ids++keys hin++keys hout⟩ ⟨some (d,some res),outs hout⟩:=by
 refine Step.call u r y q c hok fun st' j G S μ a w hs=>⟨xs.toList.map a.eval,?_,ha.rel hs j.1 fun i h=>j.2 i (by simp[h])⟩
 simp only[execOp,ho,resolve,Deferred.ofValue,Act.eval,π,Aa,κ,invoke,dU hb];congr 2;apply Array.ext';simp
theorem aD8 {f:FuncId}{x:Operand}{caps:List R}{xs:Array Operand}{ts:Array TypeId}{ids:List Nat}{args:List V}{res:V}(hin hout:List (Nat×AObj)) (hb:gL P f) (ho:o.op=.call { callee:=.value x,args:=xs,argTypes:=ts }) (J:o.dst=some d) (B:d<n)
  (hx:opv st x=some (.one (.clo f caps))) (M:b8 P f (args++caps.map V.one) hin res hout) (ha:ArgsV st ids xs.toList args) (q:fH (fun p=>st.h p.1=some p.2) hin) (j:fH (fun p=>p.1∈keys hin∨st.h p.1=none) hout) (hok:eI (args++caps.map V.one) hin=true):
  Step P n o st ⟨opr x++bT xs.toList,ids++keys hin++keys hout⟩ ⟨some (d,some res),outs hout⟩:=by
 refine Step.call J B M q j hok fun st' c G S μ a w hs=>?_
 have E:=aL hs hx fun t ht=>c.1 t (by simp[ht])
 simp only[aO,aT] at E;obtain⟨vs,h1,h2⟩:=E;refine⟨xs.toList.map a.eval++vs,?_,?_⟩
 ·simp only[execOp,ho,resolve,h1,Deferred.ofValue,π,Aa,κ,invoke,dU hb];congr 2;apply Array.ext';simp
 ·have I:∀(l:List V) (us:List Value) (rs:List R) (vs:List Value),aU S μ st'.h l us→aP S μ st'.h rs vs→aU S μ st'.h (l++rs.map V.one) (us++vs):=by
   intro l
   induction l with
   | nil=>
    intro us rs vs h k;simp only[aU] at h;subst h;simp only[Br]
    induction rs generalizing vs with
    | nil=>simp only[aP] at k;subst k;simp[aU]
    | cons r rs u=>
     simp only[aP] at k;obtain⟨v,vs',rfl,y,A⟩:=k;simp only[Av,aU];exact⟨v,vs',rfl,by simpa [aO] using y,u vs' A⟩
   | cons x l u=>
    intro us rs vs h k;simp only[aU] at h;obtain⟨v,vs',rfl,y,A⟩:=h;simp only[Bl,aU];exact⟨v,_,rfl,y,u vs' rs vs A k⟩
  exact I _ _ _ _ (ha.rel hs (fun t ht=>c.1 t (by simp[ht])) fun i h=>c.2 i (by simp[h])) h2
end
theorem Sim.freeze {G:Ctx}{n:Nat}{S:Sto}{μ:Mu}{a:Act}{w:World}{st:St}{id te es:Nat}{elems:List (List C)}{fz:Nat}(h:st.h id=some (.arr te es elems fz)) (hs:Sim G n S μ st a w):∃S' μ',Sim G n S' μ' ⟨st.e,upd st.h id (some (.arr te es elems 2)),st.d⟩ a w:=by
 have hO:=hs.inv.obj id _ h
 have M:∀S',S.le S'→Evolve S μ st.h S' μ (upd st.h id (some (.arr te es elems 2))):=fun S' hle=>⟨hle,fun j x y=>by
  by_cases r:j=id
  ·subst r;rw[h] at y;cases y;exact⟨_,aJ _ _ _,by simp[AObj.succ]⟩
  ·exact⟨x,by rw[bC _ _ _ r];exact y,x.succ_refl rfl⟩⟩
 have hold:∀j x,upd st.h id (some (.arr te es elems 2)) j=some x→∃U,st.h j=some U:=fun j x y=>by
  by_cases r:j=id
  ·subst r;exact⟨_,h⟩
  ·rw[bC _ _ _ r] at y;exact⟨_,y⟩
 obtain⟨h1,h2,Y,h4,h5,h6,h7,h8,O⟩:=hs.inv;obtain⟨g0,⟨g1,g2⟩ | ⟨b,base,cap,vs,g1,g2,g3,g4,g5,g6,g7,g8,g9⟩⟩:=hO
 ·--no block yet
  have B:=M S S.le_refl;refine⟨S,μ,⟨h1,fun j x y=>?_,fun i j x U b c c' hi y hm I=>?_,fun i x b c hi hm=>?_,h5,h6,h7,h8.trans B,O⟩,hs.size,hs.defers.evolve B,fun t v e=>aO.evolve B v _ (hs.env t v e)⟩
  ·by_cases r:j=id
   ·subst r;have u:some (AObj.arr te es elems 2)=some x:=by rw[←y];exact(aJ _ _ _).symm
    cases u;exact⟨g0,.inl ⟨g1,g2⟩⟩
   ·have u:st.h j=some x:=by rw[←y];exact(bC _ _ _ r).symm
    exact(h2 j x u).evolve B rfl fun _ _ _=>⟨rfl,fun _=>rfl,rfl⟩
  ·obtain⟨_,A⟩:=hold _ _ hi;obtain⟨_,u⟩:=hold _ _ y;exact Y i j _ _ b c c' A u hm I
  ·obtain⟨_,A⟩:=hold _ _ hi;exact h4 i _ b c A hm
 ·let S':Sto:=⟨fun q o=>if q=b∧base≤o∧o<base+elems.length*es then vs[o]? else S.cell q o,S.mapo⟩
  have J:∀o v,S.cell b o=some v→vs[o]?=some v:=fun o v e=>by
   obtain⟨vs0,t0,fr0,p1,p2⟩:=h1.1 b o v e;rw[g2] at p1;cases p1;simpa using p2
  have hle:S.le S':=⟨fun q o v e=>by
   show(if q=b∧base≤o∧o<base+elems.length*es then vs[o]? else S.cell q o)=some v;by_cases hc:q=b∧base≤o∧o<base+elems.length*es
   ·rw[θ hc];obtain⟨rfl,_⟩:=hc;exact J o v e
   ·rw[ξ hc];exact e,fun q m e=>⟨m,e,m.le_refl⟩⟩
  have B:=M S' hle;have E:∀q o,q≠b→S'.cell q o=S.cell q o:=fun q o r=>ξ fun hc=>r hc.1
  refine⟨S',μ,⟨⟨fun q o v e=>?_,h1.2⟩,fun j x y=>?_,fun i j x U b c c' hi y hm I=>?_,fun i x b c hi hm=>?_,h5,Sto.le_trans h6 hle,fun q hb hF=>?_,h8.trans B,fun q te' lo hi e o ho=>(E q o fun eb=>by rw[eb] at e;have e:S.mapo b=_:=e;rw[g5.2] at e;cases e).trans (O q te' lo hi e o ho)⟩,hs.size,hs.defers.evolve B,fun t v e=>aO.evolve B v _ (hs.env t v e)⟩
  ·by_cases hc:q=b∧base≤o∧o<base+elems.length*es
   ·have e':vs[o]?=some v:=by rw[←e];exact(θ hc).symm
    obtain⟨rfl,_⟩:=hc;exact⟨⟨vs⟩,te,(0,0),g2,by simpa using e'⟩
   ·have e':S.cell q o=some v:=by rw[←e];exact(ξ hc).symm
    exact h1.1 q o v e'
  ·by_cases r:j=id
   ·subst r;have u:some (AObj.arr te es elems 2)=some x:=by rw[←y];exact(aJ _ _ _).symm
    cases u;refine⟨g0,.inr ⟨b,base,cap,vs,g1,g2,g3,g4,g5,bW.mono hle _ _ g6,(fun e=>by cases e),fun o ho=>?_,fun _ i v hi=>?_⟩⟩
    ·show(if b=b∧base≤o∧o<base+elems.length*es then vs[o]? else S.cell b o)=none;rw[ξ (by omega)];exact g8 o ho
    ·rw[Aj] at hi;split at hi
     ·rw[Ak] at hi;show(if b=b∧base≤base+i∧base+i<base+elems.length*es then vs[base+i]? else S.cell b (base+i))=some v;rw[θ ⟨rfl,by omega,by omega⟩];exact hi
     ·cases hi
   ·have u:st.h j=some x:=by rw[←y];exact(bC _ _ _ r).symm
    refine(h2 j x u).evolve B rfl fun q c' hm=>⟨rfl,fun o=>E q o ?_,rfl⟩
    rintro rfl;exact r (Y j id x _ q c' _ u h hm g1)
  ·obtain⟨_,A⟩:=hold _ _ hi;obtain⟨_,u⟩:=hold _ _ y;exact Y i j _ _ b c c' A u hm I
  ·obtain⟨_,A⟩:=hold _ _ hi;exact h4 i _ b c A hm
  ·have r:q≠b:=by
    rintro rfl;rcases h4 id _ q _ h g1 with h9 | h9
    ·omega
    ·exact hF h9
   exact⟨fun o=>(E q o r).trans ((h7 q hb hF).1 o),(h7 q hb hF).2⟩
theorem Sub.freeze {kf:List Nat}{st:St}{id te es:Nat}{elems:List (List C)}{fz:Nat}(h:st.h id=some (.arr te es elems fz)):Sub kf ⟨st.e,upd st.h id (some (.arr te es elems 2)),st.d⟩ st:=
 fun _ _ _ _ _ _ _ hs=>hs.freeze h
theorem Inv.empty {G:Ctx}{S:Sto}{μ:Mu}{H:bZ}{w:World}{id:Nat}(te es:Nat) (h:Inv G S μ H w) (hid:H id=none):Inv G S (upd μ id none) (upd H id (some (.arr te es [] 0))) w∧Evolve S μ H S (upd μ id none) (upd H id (some (.arr te es [] 0))):=by
 have y:Evolve S μ H S (upd μ id none) (upd H id (some (.arr te es [] 0))):=eM hid _ _;refine⟨⟨h.holds,fun j x q=>?_,fun i j x A b c c' hi q hm r=>?_,fun i x b c hi hm=>?_,h.frame,h.sle,h.sto,h.evo.trans y,h.fre⟩,y⟩
 ·by_cases u:j=id
  ·subst u;rw[aJ] at q;cases q;exact⟨by simp,.inl ⟨aJ _ _ _,rfl⟩⟩
  ·rw[bC _ _ _ u] at q;exact(h.obj j x q).evolve y (bC _ _ _ u) fun _ _ _=>⟨rfl,fun _=>rfl,rfl⟩
 ·have h1:i≠id:=fun e=>by subst e;rw[aJ] at hm;cases hm
  have h2:j≠id:=fun e=>by subst e;rw[aJ] at r;cases r
  rw[bC _ _ _ h1] at hi hm;rw[bC _ _ _ h2] at q r;exact h.inj i j x A b c c' hi q hm r
 ·have h1:i≠id:=fun e=>by subst e;rw[aJ] at hm;cases hm
  rw[bC _ _ _ h1] at hi hm;exact h.own i x b c hi hm
theorem Sub.own {kf:List Nat}{st:St}{t id:Nat}(te es:Nat) (h:st.e t=some (.one (.c .nl))) (hid:st.h id=none):Sub kf ⟨upd st.e t (some (.one (.hs id 0 0 0))),upd st.h id (some (.arr te es [] 0)),st.d⟩ st:=by
 intro G n S μ a w _ hs;obtain⟨hi,r⟩:=hs.inv.empty te es hid;refine⟨S,upd μ id none,⟨hi,hs.size,hs.defers.evolve r,fun s v e=>?_⟩⟩;by_cases j:s=t
 ·subst j;have q:=hs.env s _ h;have e':v=.one (.hs id 0 0 0):=by
   have:some v=some (V.one (.hs id 0 0 0)):=by rw[←e];exact aJ _ _ _
   cases this;rfl
  subst e';simp only[aO,aT,Rep] at q ⊢;exact⟨⟨_,_,_,q⟩,.inr ⟨te,es,[],0,aJ _ _ _,le_refl _,fun _=>⟨le_refl _,.inl ⟨aJ _ _ _,rfl,q⟩⟩⟩⟩
 ·have e':st.e s=some v:=by rw[←e];exact(bC _ _ _ j).symm
  exact aO.evolve r v _ (hs.env s v e')
theorem Sub.ownCell {kf:List Nat}{st:St}{x k id tv:Nat}{cells:List R}(te es:Nat) (h:st.h x=some (.var tv cells)) (O:cells[k]?=some (.c .nl)) (hid:st.h id=none):
  Sub kf ⟨st.e,upd (upd st.h id (some (.arr te es [] 0))) x (some (.var tv (cells.set k (.hs id 0 0 0)))),st.d⟩ st:=by
 intro G n S μ a w _ hs;obtain⟨hi,U⟩:=hs.inv.empty te es hid;have M:x≠id:=fun e=>by subst e;rw[h] at hid;cases hid
 have hx:upd st.h id (some (.arr te es [] 0)) x=some (.var tv cells):=by rw[bC _ _ _ M];exact h
 obtain⟨b,vs,g1,g2,g3,g4⟩:=hi.obj x _ hx
 have A:Evolve S (upd μ id none) (upd st.h id (some (.arr te es [] 0))) S (upd μ id none) (upd (upd st.h id (some (.arr te es [] 0))) x (some (.var tv (cells.set k (.hs id 0 0 0))))):=⟨S.le_refl,fun j y r=>by
  by_cases q:j=x
  ·subst q;rw[hx] at r;cases r;exact⟨_,aJ _ _ _,by simp[AObj.succ]⟩
  ·exact⟨y,by rw[bC _ _ _ q];exact r,y.succ_refl rfl⟩⟩
 have hold:∀j y,upd (upd st.h id (some (.arr te es [] 0))) x (some (.var tv (cells.set k (.hs id 0 0 0)))) j=some y→∃Y,upd st.h id (some (.arr te es [] 0)) j=some Y:=fun j y r=>by
  by_cases q:j=x
  ·subst q;exact⟨_,hx⟩
  ·rw[bC _ _ _ q] at r;exact⟨_,r⟩
 refine⟨S,upd μ id none,⟨⟨hi.holds,fun j y r=>?_,fun i j y Y b c c' B r hm aa=>?_,fun i y b c B hm=>?_,hi.frame,hi.sle,hi.sto,hi.evo.trans A,hi.fre⟩,hs.size,hs.defers.evolve (U.trans A),fun s v e=>aO.evolve (U.trans A) v _ (hs.env s v e)⟩⟩
 ·by_cases q:j=x
  ·subst q;have E:some (AObj.var tv (cells.set k (.hs id 0 0 0)))=some y:=by rw[←r];exact(aJ _ _ _).symm
   cases E;refine⟨b,vs,g1,g2,?_,g4⟩;have h3:=aP.evolve A _ _ g3;obtain⟨u,hu,I⟩:=g3.get k _ O;simp only[aT,Rep] at I;have hkl:k<cells.length:=(Af.1 O).1
   have J:cells.set k (.hs id 0 0 0)=bQ cells k [.hs id 0 0 0]:=by
    unfold bQ;rw[Ce,θ hkl];simp
   have hvl:=g3.length;have hvs:vs=bQ vs k [u]:=by
    unfold bQ;apply B6;intro i;simp only[B2,ζ,Am,ε,length_nil,Aj,Ak];have hm:min k vs.length=k:=by omega
    rw[hm];by_cases c1:i<k
    ·simp[c1,show i<k+1 by omega]
    ·by_cases c2:i=k
     ·subst c2;simp[hu]
     ·simp[show ¬i<k+1 by omega,show k+1+(i-(k+1))=i by omega]
   rw[J] at h3 ⊢;rw[hvs];refine qW h3 ?_;simp only[aP,aT];exact⟨u,[],rfl,⟨⟨_,_,_,I⟩,.inr ⟨te,es,[],0,by rw[bC _ _ _ M.symm];exact aJ _ _ _,le_refl _,fun _=>⟨le_refl _,.inl ⟨aJ _ _ _,rfl,I⟩⟩⟩⟩,rfl⟩
  ·have E:upd st.h id (some (.arr te es [] 0)) j=some y:=by rw[←r];exact(bC _ _ _ q).symm
   exact(hi.obj j y E).evolve A rfl fun _ _ _=>⟨rfl,fun _=>rfl,rfl⟩
 ·obtain⟨_,h1⟩:=hold _ _ B;obtain⟨_,h2⟩:=hold _ _ r;exact hi.inj i j _ _ b c c' h1 h2 hm aa
 ·obtain⟨_,h1⟩:=hold _ _ B;exact hi.own i _ b c h1 hm
def wG:Nat→List V→List (Nat×V)
 | _,[]=>[]
 | k,v::vs=>(k,v)::wG (k+1) vs
inductive ResV (T:TT) (st:St):List ResultVar→List V→Prop
 | nil:ResV T st [] []
 | tmp {t v rs vs}:st.e t=some v→ResV T st rs vs→ResV T st (.tmp t::rs) (v::vs)
 | cell {a t i id off tv cells v rs vs}:st.e a=some (.one (.vp id off))→T[t]?=some (some i)→st.h id=some (.var tv cells)→Nat.ble (off+i.size) cells.length=true→iS i ((cells.drop off).take i.size)=some v→ResV T st rs vs→
   ResV T st (.cell a t::rs) (v::vs)
inductive Convs (h:bZ):List V→List V→Prop
 | nil:Convs h [] []
 | cons {ids v v' vs vs'}:Conv h ids v v'→Convs h vs vs'→Convs h (v::vs) (v'::vs')
def aDb:List Value→Value
 | [u]=>u
 | us=>.tuple ⟨us⟩
def aHo:List V→V
 | [v]=>v
 | vs=>.tup vs
theorem Convs.rel {S:Sto}{μ:Mu}{H:bZ}{w:World}:∀{vs vs':List V}{us:List Value},Convs H vs vs'→(∀id o,H id=some o→j6 S μ H w id o)→aU S μ H vs us→aU S μ H vs' us:=by
 intro vs vs' us h
 induction h generalizing us with
 | nil=>intro _ c;exact c
 | cons hc _ q=>
  intro hO c;simp only[aU] at c ⊢;obtain⟨v,j,rfl,h1,h2⟩:=c;exact⟨v,j,rfl,hc.rel (fun _ _=>rfl) hO h1,q hO h2⟩
section
variable {P:Program}{T:TT}
theorem o6 {G:Ctx}{n:Nat}{S:Sto}{μ:Mu}{st:St}{a:Act}{w:World}(B:Tok P T) (hs:Sim G n S μ st a w):∀{rs:List ResultVar}{vs:List V},ResV T st rs vs→
  ∃us,(rs.mapM fun(x:ResultVar)=>(match x with | .tmp t=>pure (a.tmps.getD t undef) | .cell p t=>do loadVar t (←asAddr (a.tmps.getD p undef)):Sem Value)).run P w=.ok us w∧aU S μ st.h vs us:=by
 intro rs vs h
 induction h with
 | nil=>exact⟨[],by simp,by simp[aU]⟩
 | @tmp t v rs vs ht _ r=>
  obtain⟨us,h1,h2⟩:=r;refine⟨a.tmps.getD t undef::us,?_,?_⟩
  ·simp only[List.mapM_cons,π,Aa,κ,h1]
  ·simp only[aU];exact⟨_,_,rfl,hs.env _ _ ht,h2⟩
 | @cell p t i id off tv cells v rs vs ht hi hh hb hl _ r=>
  obtain⟨us,h1,h2⟩:=r;have y:=hs.env _ _ ht;simp only[aO,aT] at y;obtain⟨O,cells',b,c,g1,g2,g3⟩:=y;obtain⟨U,ws,E,I,A,Y⟩:=hs.inv.obj id _ hh;rw[E] at g2;cases g2;have hlen:=Al hb;have M:=A.length;have j:=run_load (B.get hi) w b off _ (iN I off i.size) (aSq (by omega));have q:=jP ((A.drop off).take i.size) hl;generalize (if i.k.agg then Value.agg ⟨(ws.drop off).take i.size⟩ else((ws.drop off).take i.size).headD undef)=u at j q;refine⟨u::us,?_,by simp only[aU];exact⟨_,_,rfl,q,h2⟩⟩
  ·simp only[Instr.loadAt,Instr.sureAddr,π,Aa,κ] at j;have J:(asAddr (a.tmps.getD p undef)).run P w=.ok ⟨b,off,none⟩ w:=by rw[g3];rfl
   simp only[List.mapM_cons,π,Aa,κ,J,j,h1]
theorem pG {G:Ctx}{n:Nat}{S:Sto}{μ:Mu}{st:St}{a:Act}{w:World}{fn:Func}{vs:List V}(c:Tok P T) (hs:Sim G n S μ st a w) (h:ResV T st fn.results.toList vs):
  ∃us,(results fn a.tmps).run P w=.ok (aDb us) w∧aU S μ st.h vs us:=by
 obtain⟨us,h1,h2⟩:=o6 c hs h;refine⟨us,?_,h2⟩;unfold results;rw[Array.mapM_eq_mapM_toList,π,Sem.run_map]
 erw [h1]
 simp only[κ,Aa];congr 1
 match us with
 | []=>simp[aDb]
 | [u]=>simp[aDb]
 | u::j::us=>simp[aDb]
def AObj.plain:AObj→Bool
 | .dfr=>false
 | _=>true
theorem aHu {o:AObj}{p:Prop}(h:o.succ p .dfr):o=.dfr:=by cases o<;>simp only[AObj.succ] at h;rfl
theorem Sim.take {P:Program}{G:Ctx}{n:Nat}{S:Sto}{μ:Mu}{st:St}{a:Act}{w:World}{id:Nat}{ids:List Nat}(hs:Sim G n S μ st a w) (Y:st.d=id::ids) (hG:∀id,G.h0 id≠some .dfr):
  ∃b I w',a.defers={ target:=.collected b,args:= #[] }::I∧(Instr.takeDeferred b).run P w=.ok [] w'∧Sim G n S μ ⟨st.e,upd st.h id none,ids⟩ { a with defers:=I } w':=by
 have hm:=hs.defers;rw[Y] at hm;obtain⟨b,c,I,h1,h2,J,h4,h5,h6⟩:=hm;obtain⟨A,g1,g2,g3,g4⟩:=hs.inv.obj _ _ J;rw[h2] at g1;cases g1;have hlt:b<w.heap.size:=(Ca.1 g2).1
 have M:∀j,upd st.h id none j=none∨j≠id:=fun j=>by
  by_cases q:j=id
  ·exact .inl (by rw[q,aJ])
  ·exact .inr q
 have aIr:∀{j o},upd st.h id none j=some o→j≠id∧st.h j=some o:=by
  intro j o q;rcases M j with h | h
  ·rw[h] at q;cases q
  ·exact⟨h,by rwa [bC _ _ _ h] at q⟩
 have O:Evo0 S μ st.h S μ (upd st.h id none):=⟨S.le_refl,fun j o q ho=>by
  have r:j≠id:=by rintro rfl;rw[J] at q;cases q;exact ho rfl
  exact⟨o,by rw[bC _ _ _ r];exact q,o.succ_refl rfl⟩⟩
 refine⟨b,I,w.putObj b (.deferred none),h1,run_takeDeferred g2,⟨⟨⟨fun A o v e=>?_,fun A mk e=>?_⟩,fun j o q=>?_,fun i j o o' B E c2 hi q m1 m2=>?_,fun i o B E hi m1=>?_,?_,hs.inv.sle,hs.inv.sto,⟨hs.inv.evo.le,fun j o q=>?_⟩,hs.inv.fre⟩,hs.size,?_,fun t v e=>aO.evolve0 O _ _ (hs.env t v e)⟩⟩
 ·obtain⟨vs,t,fr,u,y⟩:=hs.inv.holds.1 A o v e;have:A≠b:=by rintro rfl;rw[g3] at e;cases e
  exact⟨vs,t,fr,by rw[World.putObj_heap_other this];exact u,y⟩
 ·have:A≠b:=by rintro rfl;rw[g4] at e;cases e
  rw[World.putObj_heap_other this];exact hs.inv.holds.2 A mk e
 ·obtain⟨u,y⟩:=aIr q;refine(hs.inv.obj j o y).evolve0 O rfl fun B E m1=>⟨World.putObj_heap_other ?_,fun _=>rfl,rfl⟩
  rintro rfl;exact u (hs.inv.inj j id o .dfr B E _ y J m1 h2)
 ·exact hs.inv.inj i j o o' B E c2 (aIr hi).2 (aIr q).2 m1 m2
 ·exact hs.inv.own i o B E (aIr hi).2 m1
 ·obtain⟨f1,f2,f3,f4,f5,f6⟩:=hs.inv.frame;refine⟨f1,f2,f3,by simpa using f4,fun k hk hF=>?_,f6⟩;rw[World.putObj_heap_other (by omega)];exact f5 k hk hF
 ·obtain⟨o',u,y⟩:=hs.inv.evo.obj j o q;have r:j≠id:=by
   rintro rfl;rw[J] at u;cases u;rw[aHu y] at q;exact hG _ q
  exact⟨o',by show upd st.h id none j=some o';rw[bC _ _ _ r];exact u,y⟩
 ·exact h6.go fun j q U=>⟨rfl,by
   have r:j≠id:=by rintro rfl;exact h5 q
   show upd st.h id none j=some .dfr
   rw[bC _ _ _ r];exact U⟩
theorem Sim.leave {P:Program}{fn:Func}{R:Ending→World→Prop}{G:Ctx}{n:Nat}{S:Sto}{μ:Mu}(A:∀id,G.h0 id≠some .dfr):∀(ids:List Nat) {e:Nat→Option V}{h:bZ}{a:Act}{w:World},Sim G n S μ ⟨e,h,ids⟩ a w→
  (∀q w',(∀id o,h id=some o→o≠ .dfr→q id=some o)→Sim G n S μ ⟨e,q,[]⟩ { a with defers:=[] } w'→∃v,(results fn a.tmps).run P w'=.ok v w'∧R (.returned v) w')→
  LeavesInM (Wd none) 0 P fn a.tmps R a.defers .returning w
 | [],e,h,a,w,hs,r=>by
  have M:a.defers=[]:=hs.defers;rw[M];refine r h w (fun _ _ h _=>h) ?_;obtain⟨h1,h2,B,O⟩:=hs;exact⟨h1,h2,rfl,O⟩
 | id::ids,e,h,a,w,hs,r=>by
  have B:h id=some .dfr:=by
   obtain⟨b,c,aa,q1,q2,U,_⟩:=hs.defers;exact U
  obtain⟨b,Y,w',h1,h2,E⟩:=hs.take (P:=P) rfl A;rw[h1];refine⟨by simp,.inl ⟨b,w',rfl,h2,?_⟩⟩;refine Sim.leave A ids (a:={ a with defers:=Y }) E fun q I hh u=>r q I (fun j o y ho=>hh j o ?_ ho) u
  have J:j≠id:=by rintro rfl;rw[B] at y;cases y;exact ho rfl
  rw[bC _ _ _ J];exact y
structure Fin (T:TT) (fn:Func) (st:St) (hin:List (Nat×AObj)) (res:V) (hout:List (Nat×AObj)):Prop where
 ex:∃vs vs',ResV T st fn.results.toList vs∧Convs st.h vs vs'∧aHo vs'=res
 out:fH (fun p=>∃o,st.h p.1=some o∧Ole (fun i=>i) o p.2) hout
 ok:(subset res.refs (keys hout)&&subset (fI hout) (keys hout)&&distinct (keys hout)&&subset (keys hin) (keys hout)&&(hin.all fun p=>p.2.plain)&&(hout.all fun p=>p.2.plain))=true
theorem ResV.keep {st:St}{j:bZ}{d:List Nat}(hh:∀id o,st.h id=some o→o≠ .dfr→j id=some o):∀{rs:List ResultVar}{vs:List V},ResV T st rs vs→ResV T ⟨st.e,j,d⟩ rs vs:=by
 intro rs vs h
 induction h with
 | nil=>exact .nil
 | tmp h1 _ c=>exact .tmp h1 c
 | cell h1 h2 q r u _ c=>exact .cell h1 h2 (hh _ _ q (by simp)) r u c
theorem PureL.keep {h r:bZ}(hh:∀id o,h id=some o→o≠ .dfr→r id=some o):∀{ids:List Nat}{rs:List R}{cs:List C},PureL h ids rs cs→PureL r ids rs cs:=by
 intro ids rs cs k
 induction k with
 | nil=>exact .nil
 | c h1 _ j=>exact .c h1 j
 | hs h1 h2 q _ j=>exact .hs (hh _ _ h1 (by simp)) h2 q j
 | any _ j=>exact .any j
 | fn _ j=>exact .fn j
 | ras h0 _ h1 h2 q _ u j=>exact .ras h0 u h1 h2 q j
theorem Convs.keep {h c:bZ}(hh:∀id o,h id=some o→o≠ .dfr→c id=some o):∀{vs vs':List V},Convs h vs vs'→Convs c vs vs':=by
 intro vs vs' k
 induction k with
 | nil=>exact .nil
 | @cons ids v v' vs vs' h1 _ j=>
  refine .cons (ids:=ids) ?_ j;cases h1 with
  | refl=>exact .refl
  | one h=>exact .one (h.keep hh)
  | agg h=>exact .agg (h.keep hh)
  | pa h=>exact .pa (h.keep hh)
theorem aSn {X:Sto→Prop}{kf:List Nat}{f:FuncId}{fn:Func}{c:Code}{n:Nat}{args:List V}{hin hout:List (Nat×AObj)}{res:V}(hX:∀S μ w,X S→Ctx.keeps ⟨w,S,hH μ (look hin),μ,look hin⟩ kf) (hT:Tok P T) (hf:P.funcs[f]?=some fn) (hb:fn.body=some c) (hn:fn.ntmps=n) (hle:Nat.ble args.length n=true)
  (h:AWp none P n kf c (mk (wG 0 args) hin) (fun ex st=>(ex=.normal∨ex=.ret)∧Fin T fn st hin res hout)):∀S μ w vals,X S→Inv ⟨w,S,hH μ (look hin),μ,look hin⟩ S μ (look hin) w→aU S μ (look hin) args vals→
  Calls P f ⟨vals⟩ w fun e w'=>∃S' μ' v,e=.returned v∧Inv ⟨w,S,hH μ (look hin),μ,look hin⟩ S' μ' (look hout) w'∧aO S' μ' (look hout) res v:=by
 intro S μ w vals hXS hI hv;refine(Wd.calls (ro:=none) (n:=0)).1 (callsIn_of_wp_marks hf hb trivial ?_);have hvl:∀(l:List V) (us:List Value),aU S μ (look hin) l us→us.length=l.length:=by
  intro l
  induction l with
  | nil=>intro us h;simp only[aU] at h;subst h;rfl
  | cons x l J=>
   intro us h;simp only[aU] at h;obtain⟨v,vs',rfl,_,h2⟩:=h;simp[J _ h2]
 have hvals:=hvl _ _ hv;have hle':=Al hle;have U:=hX S μ w hXS;refine h ⟨w,S,hH μ (look hin),μ,look hin⟩ S μ _ w _ ⟨U,trivial⟩ ⟨hI,by simp;omega,rfl,fun t v ht=>?_⟩ ?_
 ·have key:∀(l:List V) (us:List Value) (k:Nat),aU S μ (look hin) l us→look (wG k l) t=some v→∃j,t=k+j∧∃u,us[j]?=some u∧aO S μ (look hin) v u:=by
   intro l
   induction l with
   | nil=>intro us k _ h;simp[wG,look] at h
   | cons x l J=>
    intro us k I hl;simp only[aU] at I;obtain⟨u,M,rfl,h1,h2⟩:=I;simp only[wG,look] at hl;split at hl
    ·rename_i hbq;cases hl;exact⟨0,by rw[δ hbq];rfl,u,rfl,h1⟩
    ·obtain⟨j,y,u',h4,h5⟩:=J M (k+1) h2 hl;exact⟨j+1,by omega,u',by simpa using h4,h5⟩
  obtain⟨j,h1,u,h2,y⟩:=key args vals 0 hv ht;rw[Bb] at h1;subst h1;have hj:t<vals.length:=(Af.1 h2).1
  have:((⟨vals⟩:Array Value)++Array.replicate (fn.ntmps-(⟨vals⟩:Array Value).size) undef).getD t undef=u:=by
   rw[Ae,Bu (by simpa using hj)];simp[h2]
  show aO S μ (look hin) v (((⟨vals⟩:Array Value)++Array.replicate (fn.ntmps-(⟨vals⟩:Array Value).size) undef).getD t undef);rw[this];exact y
 ·intro ex st' S' μ' a' w' ⟨hex,hfin⟩ hs;obtain⟨⟨vs,vs',I,hc,hres⟩,r,hok⟩:=hfin;simp only[τ] at hok;obtain⟨⟨⟨⟨⟨k1,k2⟩,k3⟩,k4⟩,k5⟩,k6⟩:=hok;have B:LeavesInM (Wd none) 0 P fn a'.tmps (fun e w'=>∃S' μ' v,e=.returned v∧Inv ⟨w,S,hH μ (look hin),μ,look hin⟩ S' μ' (look hout) w'∧aO S' μ' (look hout) res v) a'.defers .returning w':=by
   refine Sim.leave (G:=⟨w,S,hH μ (look hin),μ,look hin⟩) (n:=n) (S:=S') (μ:=μ') (fun id e=>?_) st'.d (e:=st'.e) (h:=st'.h) hs fun E w'' hh hs=>?_
   ·have:=(A3.1 k5) _ (b9 (show look hin id=some .dfr from e));cases this
   have I:ResV T ⟨st'.e,E,[]⟩ fn.results.toList vs:=ResV.keep (fun id o ho O=>hh id o ho O) I;have hc:Convs E vs vs':=hc.keep fun id o ho O=>hh id o ho O
   have r:fH (fun p=>∃o,E p.1=some o∧Ole (fun i=>i) o p.2) hout:=by
    have hk:∀l:List (Nat×AObj),(∀p∈l,p∈hout)→fH (fun p=>∃o,E p.1=some o∧Ole (fun i=>i) o p.2) l:=by
     intro l
     induction l with
     | nil=>intro _;trivial
     | cons p l J=>
      intro hl;refine⟨?_,J fun q hq=>hl q (by simp[hq])⟩;obtain⟨o,g1,g2⟩:=r.mem p (hl p (by simp));refine⟨o,hh _ _ g1 ?_,g2⟩;rintro rfl;have hp:=(A3.1 k6) p (hl p (by simp));cases hq:p.2<;>rw[hq] at g2 hp<;>cases g2;cases hp
    exact hk hout fun p hp=>hp
   obtain⟨us,h1,h2⟩:=pG hT hs I;refine⟨_,h1,?_⟩;have y:=hc.rel hs.inv.obj h2;have A:∀i∈keys hout,Good E (look hout) (fun i=>i) i:=by
    intro i hi;obtain⟨o',Y⟩:=cE hi;obtain⟨o,g1,g2⟩:=r.mem _ (b9 Y);exact⟨o,o',g1,Y,g2⟩
   have hv4:aO S' μ' E res (aDb us):=by
    rw[←hres]
    match vs',us,y with
    | [],us,y=>simp only[aU] at y;subst y;simp[aHo,aDb,aO,aU]
    | [v],us,y=>
     simp only[aU] at y;obtain⟨u,M,rfl,h5,rfl⟩:=y;exact h5
    | v::v'::l,us,y=>
     have aa:=y;simp only[aU] at aa;obtain⟨u,M,rfl,_,u',us'',rfl,_,_⟩:=aa;simp only[aHo,aDb,aO];exact⟨_,rfl,y⟩
   have hI':Inv ⟨w,S,hH μ (look hin),μ,look hin⟩ S' μ' (look hout) w'':=by
    refine⟨hs.inv.holds,fun id o ho=>?_,fun i j o o' b c c' hi hj hm hm'=>?_,fun i o b c hi hm=>?_,hs.inv.frame,hs.inv.sle,hs.inv.sto,⟨hs.inv.evo.le,fun id o ho=>?_⟩,hs.inv.fre⟩
    ·obtain⟨o1,g1,g2⟩:=r.mem _ (b9 ho);exact(hs.inv.obj _ _ g1).ren g2 fun i hi=>A i (bR k2 i (jJ (b9 ho) i hi))
    ·obtain⟨o1,g1,g2⟩:=r.mem _ (b9 hi);obtain⟨o2,g3,g4⟩:=r.mem _ (b9 hj);exact hs.inv.inj _ _ _ _ b c c' g1 g3 hm hm'
    ·obtain⟨o1,g1,g2⟩:=r.mem _ (b9 hi);exact hs.inv.own _ _ b c g1 hm
    ·obtain⟨o',(g1:E id=some o'),g2⟩:=hs.inv.evo.obj id o ho;have hk:id∈keys hin:=mem_map.2 ⟨_,b9 (show look hin id=some o from ho),rfl⟩;obtain⟨o1,o2,g3,g4,g5⟩:=A id (bR k4 id hk);rw[g1] at g3;cases g3;exact⟨o2,g4,AObj.succ_trans g2 g5.succ fun e _=>e⟩
   have hR:aO S' μ' (look hout) res (aDb us):=by
    have:=aO.ren (H:=E) (H':=look hout) (σ:=fun i=>i) res _ (fun i hi=>A i (bR k1 i hi)) (by rw[V.ren_id];exact hv4);exact this
   exact⟨S',μ',_,rfl,hI',hR⟩
  rcases hex with rfl | rfl
  ·exact B
  ·exact B
end
section
variable {P:Program}{T:TT}
theorem bM {f:FuncId}{fn:Func}{c:Code}{n:Nat}{args:List V}{hin hout:List (Nat×AObj)}{res:V}(j:Tok P T) (q:P.funcs[f]?=some fn) (hb:fn.body=some c) (hn:fn.ntmps=n) (hle:Nat.ble args.length n=true)
  (h:AWp none P n (keys hin) c (mk (wG 0 args) hin) (fun ex st=>(ex=.normal∨ex=.ret)∧Fin T fn st hin res hout)):b8 P f args hin res hout:=
 fun S μ w vals r u=>aSn (X:=fun _=>True) (fun _ _ _ _=>pX) j q hb hn hle h S μ w vals trivial r u
end
abbrev pan (v:Value):Exit:=.panic [{ v:=v,recovered:=false }]
def aA8 (P:Program) (f:FuncId) (args:List V) (hin:List (Nat×AObj)) (v:Value):Prop:=
 ∀S μ w vals,Inv ⟨w,S,hH μ (look hin),μ,look hin⟩ S μ (look hin) w→aU S μ (look hin) args vals→
  Calls P f ⟨vals⟩ w fun e w'=>∃S' μ' hout,e=.panicked [{ v:=v,recovered:=false }]∧(∀id o,look hout id=some o→∃o',look hin id=some o')∧Inv ⟨w,S,hH μ (look hin),μ,look hin⟩ S' μ' (look hout) w'
def aKb (v:Value) (P:Program) (n:Nat) (o:Oper) (st:St) (rd:Rd):Prop:=
 ∀st',eR rd st st'→∀G S μ a w (K:Act→World→Prop) (Q:Exit→Act→World→Prop),Sim G n S μ st' a w→
  (∀S' μ' e h a' w',Sim G n S' μ' ⟨e,h,st'.d⟩ a' w'→Q (pan v) a' w')→∀ro,o.wpIn (Wd ro) 0 P a w K Q
def mY (v:Value) (P:Program) (n:Nat) (ops:Array Oper) (i:Nat) (st:St) (rd:Rd):Prop:=
 ∀st',eR rd st st'→∀G S μ a w (K:Act→World→Prop) (Q:Exit→Act→World→Prop),Sim G n S μ st' a w→
  (∀S' μ' e h a' w',Sim G n S' μ' ⟨e,h,st'.d⟩ a' w'→Q (pan v) a' w')→∀ro,wpOpIn (Wd ro) 0 P ops Q i K a w
section
variable {P:Program}{n:Nat}{o:Oper}{ops:Array Oper}{i:Nat}{st:St}{rd:Rd}{v:Value}
theorem mY.plain (ho:ops[i]?=some o) (c:o.guard=none) (h:aKb v P n o st rd):mY v P n ops i st rd:=by
 intro st' ha G S μ a w K Q hs j ro;unfold wpOpIn;simp only[ho];rw[θ (by simp[Region.wanted,c])];exact h st' ha G S μ a w K Q hs j ro
theorem Step.callP {f:FuncId}{ids c:List Nat}{args:List V}{hin:List (Nat×AObj)}(E:aA8 P f args hin v)
  (q:fH (fun p=>st.h p.1=some p.2) hin) (hok:eI args hin=true)
  (r:∀st',eR ⟨c,ids++keys hin⟩ st st'→∀G S μ a w,Sim G n S μ st' a w→∃vals,(execOp a.eval o).run P w=.ok (.enter f ⟨vals⟩) w∧aU S μ st'.h args vals):
  aKb v P n o st ⟨c,ids++keys hin⟩:=by
 intro st' ha G S μ a w K Q hs I;obtain⟨vals,J,M⟩:=r st' ha G S μ a w hs;simp only[eI,τ] at hok;obtain⟨⟨O,U⟩,Y⟩:=hok;have hh:∀id o,look hin id=some o→st'.h id=some o∧o≠ .dead:=by
  intro id o ho;have hm:=b9 ho;have h1:=q.mem _ hm;refine⟨by rw[ha.2 id (by simp only[Bi];exact .inr (mem_map.2 ⟨_,hm,rfl⟩))];exact h1,?_⟩;have:=(A3.1 Y) _ hm;rintro rfl;simp[AObj.live] at this
 have hI:=hs.inv.hand hh U;have j:∀i∈keys hin,Good st'.h (look hin) (fun i=>i) i:=by
  intro i hi;obtain⟨o,ho⟩:=cE hi;obtain⟨h1,h2⟩:=hh i o ho;exact⟨o,o,h1,ho,.refl_id h2⟩
 have y:aU S μ (look hin) args vals:=by
  have:=aU.ren (H:=st'.h) (H':=look hin) (σ:=fun i=>i) args vals (fun i hi=>j i (bR O i hi)) (by rw[V.renL_id];exact M);exact this
 have hc:=E S μ w vals hI y;refine fun ro=>iJ J ?_
 refine hc.mono fun e w' ⟨S',μ',hout,he,u,A⟩=>?_
 subst he;obtain⟨μ2,q1,q2,B,q4⟩:=hs.inv.back (fun id o ho=>(hh id o ho).1) (fun id o ho=>.inl (u id o ho)) A;exact I S' μ2 st'.e _ a w' ⟨q2,hs.size,hs.defers.evolve B,fun t v e=>aO.evolve B v _ (hs.env t v e)⟩
theorem aD9 {f:FuncId}{xs:Array Operand}{ts:Array TypeId}{ids:List Nat}{args:List V}(hin:List (Nat×AObj)) (hb:gL P f) (ho:o.op=.call { callee:=.value (.func f),args:=xs,argTypes:=ts })
  (q:aA8 P f args hin v) (ha:ArgsV st ids xs.toList args) (j:fH (fun p=>st.h p.1=some p.2) hin) (hok:eI args hin=true):aKb v P n o st ⟨bT xs.toList,ids++keys hin⟩:=by
 refine Step.callP q j hok fun st' c G S μ a w hs=>⟨xs.toList.map a.eval,?_,ha.rel hs c.1 fun i h=>c.2 i (by simp[h])⟩
 simp only[execOp,ho,resolve,Deferred.ofValue,Act.eval,π,Aa,κ,invoke,dU hb];congr 2;apply Array.ext';simp
theorem aIc {f:FuncId}{x:Operand}{caps:List R}{xs:Array Operand}{ts:Array TypeId}{ids:List Nat}{args:List V}(hin:List (Nat×AObj)) (hb:gL P f) (ho:o.op=.call { callee:=.value x,args:=xs,argTypes:=ts })
  (hx:opv st x=some (.one (.clo f caps))) (E:aA8 P f (args++caps.map V.one) hin v) (ha:ArgsV st ids xs.toList args) (j:fH (fun p=>st.h p.1=some p.2) hin) (hok:eI (args++caps.map V.one) hin=true):
  aKb v P n o st ⟨opr x++bT xs.toList,ids++keys hin⟩:=by
 refine Step.callP E j hok fun st' c G S μ a w hs=>?_
 have A:=aL hs hx fun t ht=>c.1 t (by simp[ht])
 simp only[aO,aT] at A;obtain⟨vs,h1,h2⟩:=A;refine⟨xs.toList.map a.eval++vs,?_,?_⟩
 ·simp only[execOp,ho,resolve,h1,Deferred.ofValue,π,Aa,κ,invoke,dU hb];congr 2;apply Array.ext';simp
 ·have B:∀(l:List V) (us:List Value) (rs:List R) (vs:List Value),aU S μ st'.h l us→aP S μ st'.h rs vs→aU S μ st'.h (l++rs.map V.one) (us++vs):=by
   intro l
   induction l with
   | nil=>
    intro us rs vs h k;simp only[aU] at h;subst h;simp only[Br]
    induction rs generalizing vs with
    | nil=>simp only[aP] at k;subst k;simp[aU]
    | cons r rs q=>
     simp only[aP] at k;obtain⟨v,vs',rfl,u,y⟩:=k;simp only[Av,aU];exact⟨v,vs',rfl,by simpa [aO] using u,q vs' y⟩
   | cons x l q=>
    intro us rs vs h k;simp only[aU] at h;obtain⟨v,vs',rfl,u,y⟩:=h;simp only[Bl,aU];exact⟨v,_,rfl,u,q vs' rs vs y k⟩
  exact B _ _ _ _ (ha.rel hs (fun t ht=>c.1 t (by simp[ht])) fun i h=>c.2 i (by simp[h])) h2
end
inductive RunP (v:Value) (p:Nat) (P:Program) (n:Nat) (ops:Array Oper):Nat→St→REs→St→Prop
 | nil {k st}:RunP v p P n ops k st [] st
 | cons {k st rd f xs st'}:k≠p→GStep P n ops k st rd f→RunP v p P n ops (k+1) (f.apply st) xs st'→RunP v p P n ops k st ((rd,f)::xs) st'
 | pan {st rd f xs st'}:mY v P n ops p st rd→RunP v p P n ops (p+1) (f.apply st) xs st'→RunP v p P n ops p st ((rd,f)::xs) st'
theorem Run.toP {v:Value}{p:Nat}{P:Program}{n:Nat}{ops:Array Oper}{k:Nat}{st st':St}{xs:REs}(h:Run P n ops k st xs st') (hp:p<k):RunP v p P n ops k st xs st':=by
 induction h with
 | nil=>exact .nil
 | cons c _ j=>exact .cons (by omega) c (j (by omega))
theorem fold_zero {k:Nat}:∀(c:REs) (m:Nat) (s:St),k<m→c0 (fun j=>decide (j<k+0)) m c s=s:=by
 intro c
 induction c with
 | nil=>intro m s _;rfl
 | cons y c q=>
  intro m s hm;simp only[c0];have:decide (m<k+0)=false:=by simp;omega
  rw[this,Bh];exact q (m+1) _ (by omega)
theorem RunP.at {v:Value}{p:Nat}{P:Program}{n:Nat}{ops:Array Oper}{k:Nat}{st st':St}{xs:REs}(h:RunP v p P n ops k st xs st'):∀(i:Nat) (x:Rd×Eff),xs[i]?=some x→
  (k+i≠p→GStep P n ops (k+i) (c0 (fun j=>decide (j<k+i)) k xs st) x.1 x.2)∧(k+i=p→mY v P n ops (k+i) (c0 (fun j=>decide (j<k+i)) k xs st) x.1):=by
 induction h with
 | nil=>intro i x hx;simp at hx
 | @cons k st rd f xs st' u q y r=>
  intro i x hx;cases i with
  | zero=>
   simp at hx;subst hx;simp only[c0];have:decide (k<k+0)=false:=by simp
   rw[this,Bh,fold_zero xs (k+1) st (by omega)];exact⟨fun _=>q,fun e=>absurd e u⟩
  | succ i=>
   simp at hx;have:=r i x hx;simp only[c0];have c:decide (k<k+(i+1))=true:=by simp
   rw[c,Bp];rw[show k+(i+1)=k+1+i by omega];exact this
 | @pan st rd f xs st' q y r=>
  intro i x hx;cases i with
  | zero=>
   simp at hx;subst hx;simp only[c0];have:decide (p<p+0)=false:=by simp
   rw[this,Bh,fold_zero xs (p+1) st (by omega)];exact⟨fun e=>absurd rfl e,fun _=>q⟩
  | succ i=>
   simp at hx;have:=r i x hx;simp only[c0];have c:decide (p<p+(i+1))=true:=by simp
   rw[c,Bp];rw[show p+(i+1)=p+1+i by omega];exact this
theorem yG {v:Value}{p:Nat}{P:Program}{n:Nat}{ops:Array Oper}{G:Ctx}{st st':St}{xs:REs}{Q:Exit→Act→World→Prop}(hr:RunP v p P n ops 0 st xs st') (hlen:xs.length=ops.size)
  (hap:cH (preds ops) xs []=true) (hed:dE ops=true) (hp:p<ops.size)
  (hQ:∀S' μ' e h a' w',Sim G n S' μ' ⟨e,h,st.d⟩ a' w'→Q (pan v) a' w'):
  ∀(fuel:Nat) (listed:Array Bool),listed.size=ops.size→((List.range ops.size).filter fun i=>!listed.getD i false).length=fuel→rK ops listed→listed.getD p false=false→
   ∀S μ a w,Sim G n S μ (c0 (fun j=>listed.getD j false) 0 xs st) a w→∀ro,wpAnyIn (Wd ro) 0 P .any ops Q fuel listed a w:=by
 have hfin:∀(listed:Array Bool),listed.size=ops.size→Region.ready .any ops listed=[]→listed.getD p false=false→False:=by
  intro listed hl hre r;have hall:∀i,i<ops.size→listed.getD i false=true:=by
   intro i
   induction i using Nat.strongRecOn with
   | _ i ih=>
    intro hi;cases hc:listed.getD i false with
    | true=>rfl
    | false=>
     exfalso;have:i∈Region.ready .any ops listed:=by
      simp only[Region.ready,mem_filter,mem_range,τ,Be];refine⟨hi,by rw[gE (by omega)];exact hc,?_⟩;have ho:ops[i]?=some ops[i]:=by simp[hi]
      simp only[ho,By,Option.getD_some];refine Array.all_eq_true_iff_forall_mem.2 fun e he=>?_
      have hlt:=(A3.1 hed) (ops[i],i) (by
       rw[List.mem_iff_getElem?]
       exact⟨i,by simp[hi]⟩)
      have q:=(A3.1 hlt) e (by simpa using he);simp only[Bool.or_eq_true,Be,decide_eq_true_eq] at q ⊢;rcases q with q | q
      ·exact .inl q
      ·exact .inr (ih e.on q (by omega))
     rw[hre] at this;simp at this
  rw[hall p hp] at r;cases r
 intro fuel
 induction fuel with
 | zero=>
  intro listed hl hf _ r S μ a w hs;have:p∈(List.range ops.size).filter fun i=>!listed.getD i false:=by simp only[mem_filter,mem_range,Be];exact⟨hp,r⟩
  rw[An hf] at this;simp at this
 | succ fuel ih=>
  intro listed hl hf hcl r S μ a w hs ro;refine⟨fun hre=>(hfin listed hl hre r).elim,fun i hi=>?_⟩;obtain⟨h1,h2,h3⟩:=nG hl hi;have hx:xs[i]?=some xs[i]:=by simp[hlen,h1]
  have ho:ops[i]?=some ops[i]:=by simp[h1]
  have hcl':rK ops (listed.setIfInBounds i true):=by
   intro j o A u e he hb;simp only[Ae,A0] at u ⊢;have hmon:listed.getD e.on false=true→(if i=e.on then if i<listed.size then some true else none else listed[e.on]?).getD false=true:=by
    intro hh;split
    ·simp[hl,h1]
    ·rwa [Ae] at hh
   by_cases U:i=j
   ·subst U;exact hmon (h3 o A e he hb)
   ·rw[ξ U] at u;exact hmon (hcl j o A (by rwa [Ae]) e he hb)
  have hpd:∀(L:Array Bool),rK ops L→∀k p,(preds ops)[k]?=some p→L.getD k false=true→∀j∈p,L.getD j false=true:=by
   intro L hL k p hp B;refine nS (fun j=>L.getD j false) ops.toList [] (by simp) ?_ k p hp B;intro k' o ho' hl' e he hb;exact hL k' o (by simpa using ho') (by simpa using hl') e he hb
  have I:(listed.setIfInBounds i true).getD i false=true:=by simp[Ae,hl,h1]
  have hold:∀j,j≠i→(listed.setIfInBounds i true).getD j false=listed.getD j false:=by
   intro j A;simp only[Ae,A0];rw[ξ (fun e=>A e.symm)]
  have hdis1:∀j y,xs[j]?=some y→j<i→listed.getD j false=false→indep y xs[i]=true:=by
   intro j y hy hji u;obtain⟨p,hp,J⟩:=gY _ _ _ hap i _ hx;rcases J j y (by simpa using hji) (by simpa using hy) with hm | hm
   ·have:=hpd _ hcl' i p hp I j hm;rw[hold j (by omega)] at this;rw[this] at u;cases u
   ·exact hm
  have Y:∀j y,xs[j]?=some y→i<j→listed.getD j false=true→indep xs[i] y=true:=by
   intro j y hy U u;obtain⟨p,hp,J⟩:=gY _ _ _ hap j _ hy;rcases J i xs[i] (by simpa using U) (by simp) with hm | hm
   ·have:=hpd _ hcl j p hp u i hm;rw[this] at h2;cases h2
   ·exact hm
  have hg:=hr.at i _ hx;simp only[Bb] at hg;have hag:eR xs[i].1 (c0 (fun j=>decide (j<i)) 0 xs st) (c0 (fun j=>listed.getD j false) 0 xs st):=by
   have key:∀k x,xs[k]?=some x→listed.getD (0+k) false≠decide (0+k<i)→(∀t∈xs[i].1.e,t∉x.2.we)∧(∀t∈xs[i].1.h,t∉x.2.wh):=by
    intro k x B c;rw[Bb] at c;by_cases hki:k<i
    ·have E:listed.getD k false=false:=by
      cases hc:listed.getD k false with
      | false=>rfl
      | true=>simp[hc,hki] at c
     have M:=hdis1 k x B hki E;simp only[indep,τ] at M;obtain⟨⟨⟨d1,d2⟩,d3⟩,d4⟩:=M;exact⟨fun t ht hw=>cS d1 t hw (by simp[ht]),fun t ht hw=>cS d2 t hw (by simp[ht])⟩
    ·by_cases hke:k=i
     ·subst hke;rw[h2] at c;simp at c
     ·have E:listed.getD k false=true:=by
       cases hc:listed.getD k false with
       | true=>rfl
       | false=>simp[hc,hki] at c
      have M:=Y k x B (by omega) E;simp only[indep,τ] at M;obtain⟨⟨⟨d1,d2⟩,d3⟩,d4⟩:=M;exact⟨fun t ht hw=>cS d3 t hw ht,fun t ht hw=>cS d4 t hw ht⟩
   exact⟨fun t ht=>nL t xs 0 _ _ _ _ rfl fun k x B c=>(key k x B c).1 t ht,fun t ht=>nK t xs 0 _ _ _ _ rfl fun k x B c=>(key k x B c).2 t ht⟩
  by_cases hip:i=p
  ·refine hg.2 hip _ hag G S μ a w _ Q hs (fun S' μ' e h a' w' O=>?_) ro;rw[sI] at O;exact hQ S' μ' e h a' w' O
  refine hg.1 hip _ hag G S μ a w _ Q hs (fun S' μ' a' w' O=>?_) ro;refine ih (listed.setIfInBounds i true) (by simp[hl]) ?_ hcl' (by rw[hold p (fun e=>hip e.symm)];exact r) S' μ' a' w' ?_ ro
  ·--one fewer is left
   have:∀(l:List Nat),l.Nodup→i∈l→((l.filter fun j=>!listed.getD j false).length=((l.filter fun j=>!(listed.setIfInBounds i true).getD j false).length)+1):=by
    intro l
    induction l with
    | nil=>intro _ h;simp at h
    | cons b l ihl=>
     intro hnd hmem;have hnd':=(nodup_cons.1 hnd)
     by_cases hb:b=i
     ·subst hb;have hno:∀j∈l,(!(listed.setIfInBounds b true).getD j false)=(!listed.getD j false):=fun j A=>by rw[hold j (fun e=>hnd'.1 (e▸A))]
      rw[Cg,Cg,h2,I];simp only[Bool.not_false,Ch,Bool.not_true,Ao,Bm,ε];rw[List.filter_congr hno]
     ·have hm':i∈l:=(Ap.1 hmem).resolve_left fun e=>hb e.symm
      have:=ihl hnd'.2 hm';rw[Cg,Cg,hold b hb];split
      ·simp only[ε];omega
      ·exact this
   have:=this (List.range ops.size) List.nodup_range (by simpa using h1);omega
  ·have hadd:=uQ (fun j=>listed.getD j false) i xs[i].2 xs 0 xs[i].1 st (Ac _) (by rw[sub_zero,hx]) h2 (by
    intro k x B E hik;rw[Bb] at E hik;have M:=Y k x B hik E;simp only[indep,τ] at M;obtain⟨⟨⟨d1,d2⟩,d3⟩,d4⟩:=M
    exact⟨fun t ht hw=>cS d1 t ht (by simp[hw]),fun t ht hw=>cS d2 t ht (by simp[hw])⟩)
   rw[←hadd] at O;have hfe:(fun j=>(listed.setIfInBounds i true).getD j false)=fun j=>listed.getD j false || Nat.beq j i:=funext fun j=>by
    by_cases A:j=i
    ·subst A;rw[I];simp
    ·rw[hold j A];have hb:Nat.beq j i=false:=by
      cases hb:Nat.beq j i with
      | false=>rfl
      | true=>exact absurd (δ hb) A
     rw[hb,Bool.or_false]
   rw[hfe];exact O
section
variable {ro:Option Nat}{P:Program}{n:Nat}{st:St}{kf:List Nat}{Q:Exit→St→Prop}{v:Value}{p:Nat}
theorem y1 {id:Nat}{ops:Array Oper}{draw:Bool}{st':St}{xs:REs}(hm:P.follows .mixedOrders=true) (q:RunP v p P n ops 0 st xs st') (hp:p<xs.length) (hle:xs.length≤ops.size)
  (c:draw=true→xs.length=ops.size∧(cH (preds ops) xs []&&dE ops)=true) (h:∀e h,Q (pan v) ⟨e,h,st.d⟩):AWp ro P n kf (.region id ops draw) st Q:=fun G S μ a w Q' r hs Y=>by
 cases draw with
 | true=>
  obtain⟨u,c⟩:=c rfl;rw[τ] at c;refine wpIn_region_any hm ?_;refine yG (G:=G) q u c.1 c.2 (by omega) (fun S' μ' e h' a' w' s=>Y _ _ S' μ' a' w' (h e h') s) ops.size _ (by simp) ?_ ?_ ?_ S μ a _ ?_ ro
  ·have:((List.range ops.size).filter fun i=>!(Array.replicate ops.size false).getD i false)=List.range ops.size:=by
    apply filter_eq_self.2;intro i hi;simp at hi;simp[hi]
   rw[this,length_range]
  ·intro i o ho hl;simp[Ae,Ax] at hl;split at hl<;>simp at hl
  ·simp[Ae,Ax];split<;>rfl
  ·have hz:∀(A:REs) (k:Nat) (s:St),c0 (fun j=>(Array.replicate ops.size false).getD j false) k A s=s:=by
    intro A
    induction A with
    | nil=>intro k s;rfl
    | cons y A E=>
     intro k s;have hf:(Array.replicate ops.size false).getD k false=false:=by
      simp[Ae,Ax];split<;>rfl
     simp only[c0,hf,Bh];exact E _ _
   rw[hz];exact⟨hs.inv.same rfl rfl rfl rfl,hs.size,hs.defers,hs.env⟩
 | false=>
  refine wpIn_region ?_;have key:∀(k:Nat) (s B:St) (xs:REs) (m:Nat),RunP v p P n ops k s xs B→k≤p→p<k+xs.length→k+xs.length≤m→s.d=st.d→∀S μ a w,Sim G n S μ s a w→wpOpsIn (Wd ro) 0 P ops Q' (List.range' k (m-k)) a w:=by
   intro k s B xs m q
   induction q with
   | nil=>intro h1 h2;simp at h2;omega
   | @cons k s rd f xs B hne r _ E=>
    intro h1 h2 I J S μ a w hs;simp only[ε] at h2 I;rw[show m-k=(m-(k+1))+1 by omega];simp only[range'_succ,Bn];exact r s (eR.refl _ _) G S μ a w _ Q' hs (fun S1 M O U s1=>E (by omega) (by omega) (by omega) J S1 M O U s1) ro
   | @pan s rd f xs B r _ _=>
    intro h1 h2 I J S μ a w hs;simp only[ε] at h2 I;rw[show m-p=(m-(p+1))+1 by omega];simp only[range'_succ,Bn];exact r s (eR.refl _ _) G S μ a w _ Q' hs (fun S1 M e1 h1 O U s1=>Y _ _ S1 M O U (h e1 h1) (by rw[←J];exact s1)) ro
  have:=key 0 st st' xs ops.size q (Ac _) (by omega) (by omega) rfl S μ a w hs;rwa [range_eq_range',←sub_zero ops.size]
end
def blur:AObj→AObj
 | .var t cells=>.var t (cells.map fun _=>.c .any)
 | o=>o
def lI:AObj→Bool
 | .var _ _=>true
 | .arr _ _ _ _=>true
 | .dead=>true
 | _=>false
theorem vO {o:AObj}{p:Prop}(h:p):o.succ p (blur o):=by cases o<;>simp[blur,AObj.succ,h]
theorem aP.blur {S:Sto}{μ:Mu}{H H':bZ}:∀{rs:List R}{vs:List Value},aP S μ H rs vs→aP S μ H' (rs.map fun _=>R.c .any) vs
 | [],_,h=>by simpa only[aP,map_nil] using h
 | _::_,_,h=>by
  simp only[aP,Av] at h ⊢;obtain⟨v,vs',rfl,h1,h2⟩:=h;exact⟨v,vs',rfl,by simp only[aT,Rep];exact h1.one,h2.blur⟩
theorem j6.blur {S:Sto}{μ:Mu}{H H':bZ}{w:World}{id:Nat}{o:AObj}(h:j6 S μ H w id o) (hb:lI o=true):j6 S μ H' w id (blur o):=by
 cases o with
 | var t cells=>
  obtain⟨b,vs,h1,h2,c,j,q⟩:=h;exact⟨b,vs,h1,h2,c.blur,j,q⟩
 | arr te es elems fz=>exact h
 | dead=>exact h
 | _=>simp[lI] at hb
theorem aDh {o o':AObj}{p:Prop}(h:o.succ p o') (hb:lI o=true):lI o'=true:=by
 cases o<;>cases o'<;>simp[lI,AObj.succ] at h hb ⊢
def tX (hin:List (Nat×AObj)) (h:bZ):List (Nat×AObj):=hin.filterMap fun p=>(h p.1).map fun o=>(p.1,blur o)
theorem cR {h:bZ}:∀{hin:List (Nat×AObj)}{id:Nat}{o:AObj},look (tX hin h) id=some o→(∃o',look hin id=some o')∧∃x,h id=some x∧o=blur x
 | [],id,o,e=>by simp[tX,look] at e
 | (k,y)::l,id,o,e=>by
  have c:=cR (h:=h) (hin:=l) (id:=id) (o:=o);have hl:(∃o',look l id=some o')→∃o',look ((k,y)::l) id=some o':=fun⟨o',ho⟩=>by
   simp only[look];split
   ·exact⟨_,rfl⟩
   ·exact⟨_,ho⟩
  unfold tX at e c;rw[List.filterMap_cons] at e;dsimp only at e;cases j:h k with
  | none=>
   rw[j] at e;exact⟨hl (c e).1,(c e).2⟩
  | some x=>
   rw[j] at e;simp only[By,look] at e;split at e
   ·rename_i hb;have hb:=δ hb;subst hb;cases e;exact⟨⟨y,by simp[look]⟩,x,j,rfl⟩
   ·exact⟨hl (c e).1,(c e).2⟩
theorem pH {h:bZ}:∀{hin:List (Nat×AObj)}{id:Nat}{o x:AObj},look hin id=some o→h id=some x→look (tX hin h) id=some (blur x)
 | [],id,o,x,e,_=>by simp[look] at e
 | (k,y)::l,id,o,x,e,hx=>by
  have c:=pH (h:=h) (hin:=l) (id:=id) (o:=o) (x:=x);unfold tX at c ⊢;rw[List.filterMap_cons];dsimp only;simp only[look] at e;by_cases hb:Nat.beq id k=true
  ·have j:=δ hb;subst j;rw[hx];simp[look]
  ·rw[ξ hb] at e;cases q:h k with
   | none=>exact c e hx
   | some z=>
    simp only[By,look];rw[ξ hb];exact c e hx
section
variable {P:Program}
theorem aMe {f:FuncId}{fn:Func}{c:Code}{n:Nat}{args:List V}{hin:List (Nat×AObj)}{v:Value}(hf:P.funcs[f]?=some fn) (hb:fn.body=some c) (hn:fn.ntmps=n) (hle:Nat.ble args.length n=true) (hok:(hin.all fun p=>lI p.2)=true)
  (h:AWp none P n (keys hin) c (mk (wG 0 args) hin) (fun ex st=>ex=pan v∧st.d=[])):aA8 P f args hin v:=by
 intro S μ w vals hI M;refine(Wd.calls (ro:=none) (n:=0)).1 (callsIn_of_wp_marks hf hb trivial ?_);have O:∀(l:List V) (us:List Value),aU S μ (look hin) l us→us.length=l.length:=by
  intro l
  induction l with
  | nil=>intro us h;simp only[aU] at h;subst h;rfl
  | cons x l A=>
   intro us h;simp only[aU] at h;obtain⟨v,vs',rfl,_,h2⟩:=h;simp[A _ h2]
 have hvals:=O _ _ M;have hle':=Al hle;refine h ⟨w,S,hH μ (look hin),μ,look hin⟩ S μ _ w _ ⟨pX,trivial⟩ ⟨hI,by simp;omega,rfl,fun t v ht=>?_⟩ ?_
 ·have key:∀(l:List V) (us:List Value) (k:Nat),aU S μ (look hin) l us→look (wG k l) t=some v→∃j,t=k+j∧∃u,us[j]?=some u∧aO S μ (look hin) v u:=by
   intro l
   induction l with
   | nil=>intro us k _ h;simp[wG,look] at h
   | cons x l A=>
    intro us k U hl;simp only[aU] at U;obtain⟨u,Y,rfl,h1,h2⟩:=U;simp only[wG,look] at hl;split at hl
    ·rename_i aa;cases hl;exact⟨0,by rw[δ aa];rfl,u,rfl,h1⟩
    ·obtain⟨j,r,u',h4,h5⟩:=A Y (k+1) h2 hl;exact⟨j+1,by omega,u',by simpa using h4,h5⟩
  obtain⟨j,h1,u,h2,r⟩:=key args vals 0 M ht;rw[Bb] at h1;subst h1;have B:t<vals.length:=(Af.1 h2).1
  have:((⟨vals⟩:Array Value)++Array.replicate (fn.ntmps-(⟨vals⟩:Array Value).size) undef).getD t undef=u:=by
   rw[Ae,Bu (by simpa using B)];simp[h2]
  show aO S μ (look hin) v (((⟨vals⟩:Array Value)++Array.replicate (fn.ntmps-(⟨vals⟩:Array Value).size) undef).getD t undef);rw[this];exact r
 ·rintro ex ⟨e',E,d'⟩ S' μ' I w' ⟨rfl,hd⟩ hs;dsimp only at hd;subst hd;have hdf:I.defers=[]:=hs.defers;show LeavesInM (Wd none) 0 P fn I.tmps _ I.defers (.panicking _) w';rw[hdf];have q:=hs.inv.evo;refine⟨S',μ',tX hin E,rfl,fun id o ho=>(cR ho).1,?_⟩;have hbl:∀id x,(∃o',look hin id=some o')→E id=some x→lI x=true:=fun id x ⟨o',ho⟩ hx=>by
   obtain⟨J,g1,g2⟩:=q.obj id o' ho;have g1:E id=some J:=g1;rw[hx] at g1;cases g1;exact aDh g2 ((A3.1 hok) _ (b9 ho))
  refine⟨hs.inv.holds,fun id o ho=>?_,fun i j o o' b c c' hi B hm hm'=>?_,fun i o b c hi hm=>?_,hs.inv.frame,hs.inv.sle,hs.inv.sto,⟨q.le,fun id o ho=>?_⟩,hs.inv.fre⟩
  ·obtain⟨h1,x,h2,rfl⟩:=cR ho;exact(hs.inv.obj id x h2).blur (hbl id x h1 h2)
  ·obtain⟨_,x,h2,_⟩:=cR hi;obtain⟨_,y,r,_⟩:=cR B;exact hs.inv.inj i j x y b c c' h2 r hm hm'
  ·obtain⟨_,x,h2,_⟩:=cR hi;exact hs.inv.own i x b c h2 hm
  ·obtain⟨J,g1,g2⟩:=q.obj id o ho;refine⟨blur J,pH ho g1,?_⟩;exact AObj.succ_trans g2 (vO (p:=True) trivial) fun e _=>e
end
def hY (QP:Value→Prop) (P:Program) (n:Nat) (ops:Array Oper) (draw:Bool) (k:Nat) (st:St) (pre:REs) (Q:St→Prop):Prop:=
 (∃xs st',Run P n ops k st xs st'∧Nat.beq (k+xs.length) ops.size=true∧(!draw || (cH (preds ops) (pre.reverse++xs) []&&dE ops))=true∧Q st')∨
 ∃v p xs st',QP v∧RunP v p P n ops k st xs st'∧k≤p∧p<k+xs.length∧k+xs.length≤ops.size∧(draw=true→k+xs.length=ops.size∧(cH (preds ops) (pre.reverse++xs) []&&dE ops)=true)
section
variable {QP:Value→Prop}{ro:Option Nat}{P:Program}{n:Nat}{ops:Array Oper}{draw:Bool}{k:Nat}{st:St}{pre:REs}{Q:St→Prop}
theorem k_ {rd:Rd}{f:Eff}(h:GStep P n ops k st rd f) (q:hY QP P n ops draw (k+1) (f.apply st) ((rd,f)::pre) Q):hY QP P n ops draw k st pre Q:=by
 rcases q with⟨xs,st',h1,h2,c,j⟩ | ⟨v,p,xs,st',h0,h1,h2,c,j,r⟩
 ·refine .inl ⟨(rd,f)::xs,st',.cons h h1,?_,?_,j⟩
  ·rw[ε,show k+(xs.length+1)=k+1+xs.length by omega];exact h2
  ·rw[List.reverse_cons,As] at c;exact c
 ·refine .inr ⟨v,p,(rd,f)::xs,st',h0,.cons (by omega) h h1,by omega,by rw[ε];omega,by rw[ε];omega,fun u=>?_⟩;obtain⟨g1,g2⟩:=r u;rw[List.reverse_cons,As] at g2;exact⟨by rw[ε];omega,g2⟩
theorem z_ (h1:Nat.beq k ops.size=true) (h2:(!draw || (cH (preds ops) pre.reverse []&&dE ops))=true) (hq:Q st):hY QP P n ops draw k st pre Q:=
 .inl ⟨[],st,.nil,h1,by rw[Cc];exact h2,hq⟩
theorem aPm {rd:Rd}{v:Value}(h:mY v P n ops k st rd) (hq:QP v) (c:draw=false) (hl:Nat.blt k ops.size=true):hY QP P n ops draw k st pre Q:=
 .inr ⟨v,k,[(rd,⟨none,[]⟩)],_,hq,.pan h .nil,le_refl _,by rw[Bc];omega,by rw[Bc];exact Al hl,fun e=>by rw[c] at e;cases e⟩
theorem aPl {rd:Rd}{v:Value}(f:Eff) (h:mY v P n ops k st rd) (hq:QP v) (j:hY (fun _=>False) P n ops draw (k+1) (f.apply st) ((rd,f)::pre) fun _=>True):hY QP P n ops draw k st pre Q:=by
 rcases j with⟨xs,st',h1,h2,c,_⟩ | ⟨v,p,xs,st',h0,_⟩
 ·have h2:=δ h2;refine .inr ⟨v,k,(rd,f)::xs,st',hq,.pan h (h1.toP (by omega)),le_refl _,by rw[ε];omega,by rw[ε];omega,fun q=>?_⟩;rw[q,List.reverse_cons,As] at c;exact⟨by rw[ε];omega,c⟩
 ·exact h0.elim
theorem aC {kf:List Nat}{id:Nat}{Q:Exit→St→Prop}(hm:P.follows .mixedOrders=true) (h:hY (fun v=>∀e h,Q (pan v) ⟨e,h,st.d⟩) P n ops draw 0 st [] (fun st'=>Q .normal st')):AWp ro P n kf (.region id ops draw) st Q:=by
 rcases h with⟨xs,st',h1,h2,c,j⟩ | ⟨v,p,xs,st',h0,h1,h2,j,c,q⟩
 ·rw[Bb] at h2;exact rH hm h1 h2 c j
 ·rw[Bb] at j c q;exact y1 hm h1 j c (fun r=>q r) h0
theorem aNn {kf:List Nat}{id:Nat}{Q:Exit→St→Prop}(st2:St) (hm:P.follows .mixedOrders=true) (h:hY (fun _=>False) P n ops draw 0 st [] (fun st'=>Sub kf st2 st')) (hq:Q .normal st2):AWp ro P n kf (.region id ops draw) st Q:=by
 rcases h with⟨xs,st',h1,h2,c,j⟩ | ⟨v,p,xs,st',h0,_⟩
 ·rw[Bb] at h2;refine AWp.post (Q:=fun ex s=>ex=.normal∧Sub kf st2 s) (rH hm h1 h2 c ⟨rfl,j⟩) ?_;rintro ex s ⟨rfl,hs⟩;exact⟨st2,hs,hq⟩
 ·exact h0.elim
theorem g_ {i:Nat}{o:Oper}{rd:Rd}{f:Eff}(ho:ops[i]?=some o) (c:o.guard=none) (h:Step P n o st rd f):GStep P n ops i st rd f:=GStep.plain ho c h
theorem AWp.cut {kf:List Nat}{c:Code}{Q:Exit→St→Prop}(st2:St) (h:AWp ro P n kf c st (fun ex s=>match ex with | .normal=>Sub kf st2 s | ex=>Q ex s)) (hq:Q .normal st2):AWp ro P n kf c st Q:=by
 refine AWp.post h ?_;intro ex s hs;cases ex with
 | normal=>exact⟨st2,hs,hq⟩
 | _=>exact⟨s,Sub.refl _ _,hs⟩
end
section
variable {P:Program}{n:Nat}{o:Oper}{st:St}{d:Nat}{T:TT}
theorem aPc {j ty:TypeId}{x y:Operand}{a b:Int}(ho:o.op=.binOp .add j x y ty) (q:o.dst=some d) (c:d<n) (hx:opv st x=some (I .i64 a)) (hy:opv st y=some (I .i64 b)) (r: -9223372036854775808≤a+b∧a+b≤9223372036854775807):
  Step P n o st ⟨opr x++opr y,[]⟩ ⟨some (d,some (I .i64 (a+b))),[]⟩:=aL1 ho q c hx hy (Bv _ r)
theorem aOw {j ty:TypeId}{x y:Operand}{a b:Int}(ho:o.op=.binOp .sub j x y ty) (q:o.dst=some d) (c:d<n) (hx:opv st x=some (I .i64 a)) (hy:opv st y=some (I .i64 b)) (r: -9223372036854775808≤a-b∧a-b≤9223372036854775807):
  Step P n o st ⟨opr x++opr y,[]⟩ ⟨some (d,some (I .i64 (a-b))),[]⟩:=aLq ho q c hx hy (Bv _ r)
theorem aO7 {j ty:TypeId}{x y:Operand}{a b:Int}(ho:o.op=.binOp .mul j x y ty) (q:o.dst=some d) (c:d<n) (hx:opv st x=some (I .i64 a)) (hy:opv st y=some (I .i64 b)) (r: -9223372036854775808≤a*b∧a*b≤9223372036854775807):
  Step P n o st ⟨opr x++opr y,[]⟩ ⟨some (d,some (I .i64 (a*b))),[]⟩:=aLu ho q c hx hy (Bv _ r)
theorem aKl {q ty:TypeId}{x y:Operand}{a b:Int}(ho:o.op=.binOp .quo q x y ty) (r:o.dst=some d) (j:d<n) (hx:opv st x=some (I .i64 a)) (hy:opv st y=some (I .i64 b)) (c:0≤a∧a≤9223372036854775807∧1≤b):
  Step P n o st ⟨opr x++opr y,[]⟩ ⟨some (d,some (I .i64 (a/b))),[]⟩:=aR2 ho r j hx hy (by omega) (by
   have h1:a.tdiv b=a/b:=Int.tdiv_eq_ediv_of_nonneg c.1;rw[h1];refine Bv _ ⟨?_,?_⟩
   ·have:=Int.ediv_nonneg c.1 (show(0:Int)≤b by omega);omega
   ·have:=Int.ediv_le_self b c.1;omega)
theorem aKk {j ty:TypeId}{x y:Operand}{k:IntKind}{a b:Int}(ho:o.op=.binOp .rem j x y ty) (q:o.dst=some d) (c:d<n) (hx:opv st x=some (I k a)) (hy:opv st y=some (I k b)) (r:0≤a∧1≤b):
  Step P n o st ⟨opr x++opr y,[]⟩ ⟨some (d,some (I k (a%b))),[]⟩:=aR1 ho q c hx hy (by omega) (Int.tmod_eq_emod_of_nonneg r.1)
theorem gH (op:BinOp) (t:TypeId) (x y:Operand) (u v:Value) (w:World) (h1:(match u with | .agg _=>true | .nilIface=>true | _=>false)=false):(eqGuard op t x y u v).run P w=.ok () w:=by
 unfold eqGuard;cases u<;>simp at h1<;>(split<;>rfl)
theorem nD {t:TypeId}(hu:P.underlying t=some .bool) (d:Nat) (a b:Bool) (w:World):(Op.equalIn (d+1) t (.bool a) (.bool b)).run P w=.ok (a==b) w:=by
 simp only[Op.equalIn,π,Ah hu w,κ,Aa]
theorem tV {t e:TypeId}(hu:P.underlying t=some (.pointer e)) (d:Nat) (p:Option Addr) (w:World):(Op.equalIn (d+1) t (.pointer p) (.pointer none)).run P w=.ok p.isNone w:=by
 cases p<;>simp only[Op.equalIn,π,Ah hu w,κ,Aa]<;>rfl
theorem aHy {t e:TypeId}(hu:P.underlying t=some (.slice e)) (d:Nat) (p:Option Addr) (l c:Nat) (w:World):(Op.equalIn (d+1) t (.slice p l c) (.slice none 0 0)).run P w=.ok p.isNone w:=by
 cases p<;>simp only[Op.equalIn,π,Ah hu w,κ,Aa]<;>rfl
theorem rR {c ty:TypeId}{x y:Operand}{a:Act}{w:World}{u v:Value}{b:Bool}(ho:o.op=.binOp .eql c x y ty) (hx:a.eval x=u) (hy:a.eval y=v) (q:(eqGuard .eql c x y u v).run P w=.ok () w)
  (hb:binOp .eql c u v=(do pure (.bool (←Op.equal c u v)))) (r:(Op.equalIn (9999+1) c u v).run P w=.ok b w):(execOp a.eval o).run P w=.ok (.value (.bool b)) w:=by
 have j:(Op.equal c u v).run P w=.ok b w:=r;simp only[execOp,ho,hx,hy,π,q,κ,hb,j,Aa]
theorem wL {c ty:TypeId}{x y:Operand}{a:Act}{w:World}{u v:Value}{b:Bool}(ho:o.op=.binOp .neq c x y ty) (hx:a.eval x=u) (hy:a.eval y=v) (q:(eqGuard .neq c x y u v).run P w=.ok () w)
  (hb:binOp .neq c u v=(do pure (.bool (!(←Op.equal c u v))))) (r:(Op.equalIn (9999+1) c u v).run P w=.ok b w):(execOp a.eval o).run P w=.ok (.value (.bool (!b))) w:=by
 have j:(Op.equal c u v).run P w=.ok b w:=r;simp only[execOp,ho,hx,hy,π,q,κ,hb,j,Aa]
theorem aPa {c ty:TypeId}{i:TI}{x y:Operand}{a b:Bool}(q:Tok P T) (ho:o.op=.binOp .eql c x y ty) (r:o.dst=some d) (j:d<n) (hi:T[c]?=some (some i)) (u:i.k=.bool) (hx:opv st x=some (B a)) (hy:opv st y=some (B b)):
  Step P n o st ⟨opr x++opr y,[]⟩ ⟨some (d,some (B (a==b))),[]⟩:=by
 refine Step.value r j fun _ ha _ _ _ ac w hs=>?_
 have h1:=gT (aL hs hx (cI ha).1);have h2:=gT (aL hs hy (cI ha).2);exact⟨.bool (a==b),rR ho h1 h2 (gH _ _ _ _ _ _ _ rfl) rfl (nD ((q.get hi).bool u) _ _ _ _),by simp[aO,aT,Rep]⟩
theorem aO9 {c ty:TypeId}{i:TI}{x y:Operand}{a b:Bool}(q:Tok P T) (ho:o.op=.binOp .neq c x y ty) (r:o.dst=some d) (j:d<n) (hi:T[c]?=some (some i)) (u:i.k=.bool) (hx:opv st x=some (B a)) (hy:opv st y=some (B b)):
  Step P n o st ⟨opr x++opr y,[]⟩ ⟨some (d,some (B (!(a==b)))),[]⟩:=by
 refine Step.value r j fun _ ha _ _ _ ac w hs=>?_
 have h1:=gT (aL hs hx (cI ha).1);have h2:=gT (aL hs hy (cI ha).2);exact⟨.bool (!(a==b)),wL ho h1 h2 (gH _ _ _ _ _ _ _ rfl) rfl (nD ((q.get hi).bool u) _ _ _ _),by simp[aO,aT,Rep]⟩
def u4:V→Option Bool
 | .one (.c .np)=>some true
 | .one (.c (.pt _))=>some false
 | .one (.vp _ _)=>some false
 | _=>none
theorem r1 {S:Sto}{μ:Mu}{H:bZ}{v:V}{u:Value}{b:Bool}(h:aO S μ H v u) (hb:u4 v=some b):∃p,u=.pointer p∧p.isNone=b:=by
 unfold u4 at hb;split at hb
 ·cases hb;simp only[aO,aT,Rep] at h;exact⟨none,h,rfl⟩
 ·cases hb;simp only[aO,aT,Rep] at h;obtain⟨b,o,h,_⟩:=h;exact⟨_,h,rfl⟩
 ·cases hb;simp only[aO,aT] at h;obtain⟨t,cells,b,c,_,_,h⟩:=h;exact⟨_,h,rfl⟩
 ·cases hb
theorem aO5 {j ty e:TypeId}{i:TI}{x y:Operand}{v:V}{b:Bool}(r:Tok P T) (ho:o.op=.binOp .eql j x y ty) (u:o.dst=some d) (q:d<n) (hi:T[j]?=some (some i)) (A:i.k=.pt e) (hx:opv st x=some v) (E:u4 v=some b) (hy:opv st y=some (.one (.c .np))):
  Step P n o st ⟨opr x++opr y,[]⟩ ⟨some (d,some (B b)),[]⟩:=by
 refine Step.value u q fun _ ha _ _ _ ac w hs=>?_
 obtain⟨p,h1,hp⟩:=r1 (aL hs hx (cI ha).1) E;have h2:=aL hs hy (cI ha).2;simp only[aO,aT,Rep] at h2;subst hp;exact⟨.bool p.isNone,rR ho h1 h2 (gH _ _ _ _ _ _ _ rfl) (by cases p<;>rfl) (tV ((r.get hi).ptr A) _ _ _),by simp[aO,aT,Rep]⟩
theorem aO4 {j ty e:TypeId}{i:TI}{x y:Operand}{v:V}{b:Bool}(r:Tok P T) (ho:o.op=.binOp .neq j x y ty) (u:o.dst=some d) (q:d<n) (hi:T[j]?=some (some i)) (A:i.k=.pt e) (hx:opv st x=some v) (E:u4 v=some b) (hy:opv st y=some (.one (.c .np))):
  Step P n o st ⟨opr x++opr y,[]⟩ ⟨some (d,some (B (!b))),[]⟩:=by
 refine Step.value u q fun _ ha _ _ _ ac w hs=>?_
 obtain⟨p,h1,hp⟩:=r1 (aL hs hx (cI ha).1) E;have h2:=aL hs hy (cI ha).2;simp only[aO,aT,Rep] at h2;subst hp;exact⟨.bool (!p.isNone),wL ho h1 h2 (gH _ _ _ _ _ _ _ rfl) (by cases p<;>rfl) (tV ((r.get hi).ptr A) _ _ _),by simp[aO,aT,Rep]⟩
def aHv:V→Option Bool
 | .one (.c .nl)=>some true
 | .one (.c (.sn _ _))=>some false
 | _=>none
theorem aDi {S:Sto}{μ:Mu}{H:bZ}{v:V}{u:Value}{b:Bool}(h:aO S μ H v u) (hb:aHv v=some b):∃p l c,u=.slice p l c∧p.isNone=b:=by
 unfold aHv at hb;split at hb
 ·cases hb;simp only[aO,aT,Rep] at h;exact⟨none,_,_,h,rfl⟩
 ·cases hb;simp only[aO,aT,Rep] at h;obtain⟨b,o,sp,l,c,h,_⟩:=h;exact⟨_,_,_,h,rfl⟩
 ·cases hb
theorem aLt {j ty e:TypeId}{i:TI}{x y:Operand}{v:V}{b:Bool}(r:Tok P T) (ho:o.op=.binOp .eql j x y ty) (u:o.dst=some d) (q:d<n) (hi:T[j]?=some (some i)) (A:i.k=.sl e) (hx:opv st x=some v) (E:aHv v=some b) (hy:opv st y=some (.one (.c .nl))):
  Step P n o st ⟨opr x++opr y,[]⟩ ⟨some (d,some (B b)),[]⟩:=by
 refine Step.value u q fun _ ha _ _ _ ac w hs=>?_
 obtain⟨p,l,c,h1,hp⟩:=aDi (aL hs hx (cI ha).1) E;have h2:=aL hs hy (cI ha).2;simp only[aO,aT,Rep] at h2;subst hp;exact⟨.bool p.isNone,rR ho h1 h2 (gH _ _ _ _ _ _ _ rfl) (by cases p<;>rfl) (aHy ((r.get hi).slice A) _ _ _ _ _),by simp[aO,aT,Rep]⟩
def ceq:C→C→Bool
 | .int _ a,.int _ b=>decide (a=b)
 | .str a,.str b=>decide (a=b)
 | .bool a,.bool b=>a==b
 | _,_=>false
def aC4:List C→List C→Bool
 | a::as,b::bs=>ceq a b&&aC4 as bs
 | _,_=>true
def scalar:TK→C→C→Bool
 | .int k,.int k1 _,.int k2 _=>k==k1&&k==k2
 | .str,.str _,.str _=>true
 | .bool,.bool _,.bool _=>true
 | _,_,_=>false
def scalars (T:TT):Nat→List (Nat×TypeId)→List C→List C→Bool
 | _,[],[],[]=>true
 | k,(off,t)::fs,a::as,b::bs=>Nat.beq off k&&(match T[t]? with | some (some i)=>scalar i.k a b | _=>false)&&scalars T (k+1) fs as bs
 | _,_,_,_=>false
def aHb.check (P : Program) (t : TypeId) : Bool := (match P.underlying t with | some (.struct fs) => fs.toList.all fun f => f.name != "_" | _ => false) && !P.stoodInHeld t && !P.eqGuardType P.depth t
def aHb (P:Program) (t:TypeId):Prop:=aHb.check P t=true
theorem tU {t:TypeId}{i:TI}{a b:C}{u v:Value}(hi:TIok P t i) (h:scalar i.k a b=true) {S:Sto}(ha:Rep S a u) (hb:Rep S b v) (d:Nat) (w:World):(Op.equalIn (d+1) t u v).run P w=.ok (ceq a b) w:=by
 cases c:i.k<;>rw[c] at h<;>cases a<;>cases b<;>simp only[scalar] at h<;>try (cases h;done)
 ·simp only[Rep] at ha hb;subst ha;subst hb;rw[nD (hi.bool c)];rfl
 ·rename_i k j m1 q m2;simp only[τ,beq_iff_eq] at h;obtain⟨rfl,rfl⟩:=h;simp only[Rep] at ha hb;subst ha;subst hb;simp only[Op.equalIn,π,Ah (hi.int c) w,κ,Ch,Aa,ceq];congr 1
 ·simp only[Rep] at ha hb;subst ha;subst hb;simp only[Op.equalIn,π,Ah (hi.str c) w,κ,Aa,ceq];congr 1;rw[beq_toListBytes,fY,fY];exact Bool.beq_eq_decide_eq _ _
theorem aBd {k:TK}{a b:C}(h:scalar k a b=true):k.agg=false:=by cases k<;>first | rfl | (cases a<;>cases b<;>cases h)
theorem nR (E : Tok P T) {S : Sto} (xs j : Array Value) (d : Nat) (w : World) : ∀ (fields : List Field) (k : Nat) (as c : List C), scalars T k (fields.map fun f => (f.offset, f.type)) as c = true → (∀ f ∈ fields, f.name ≠ "_") →
  bW S as (xs.toList.drop k)→bW S c (j.toList.drop k)→(Op.eqFields (d+1) xs j fields).run P w=.ok (aC4 as c) w:=by
 intro fields
 induction fields with
 | nil=>
  intro k as c h _ _ _;cases as<;>cases c<;>simp[scalars] at h;rfl
 | cons f fields U=>
  intro k as c h hn hx hy;cases as with
  | nil=>cases c<;>simp[scalars] at h
  | cons a as=>
   cases c with
   | nil=>simp[scalars] at h
   | cons b c=>
    simp only[Av,scalars,τ] at h;obtain⟨⟨h1,h2⟩,Y⟩:=h;have q:=δ h1;split at h2
    ·rename_i i hi;simp only[bW] at hx hy;obtain⟨u,us,A,I,J⟩:=hx;obtain⟨v,vs,B,M,O⟩:=hy;have e1:xs[k]?=some u:=by
      have:=congrArg (fun l=>l[0]?) A;simpa using this
     have e2:j[k]?=some v:=by
      have:=congrArg (fun l=>l[0]?) B;simpa using this
     have e3:xs.toList.drop (k+1)=us:=by rw[←Cr,A];rfl
     have e4:j.toList.drop (k+1)=vs:=by rw[←Cr,B];rfl
     have r:=(E.get hi).agg_run w;rw[aBd h2] at r;have p1:(part f.type xs f.offset).run P w=.ok u w:=by
      simp only[part,π,r,κ,Ao,Bm,q,e1,Aa]
     have p2:(part f.type j f.offset).run P w=.ok v w:=by
      simp only[part,π,r,κ,Ao,Bm,q,e2,Aa]
     have y:=U (k+1) as c Y (fun g hg=>hn g (by simp[hg])) (by rw[e3];exact J) (by rw[e4];exact O);simp only[Op.eqFields];rw[θ (hn f (by simp))];simp only[π,p1,p2,κ,tU (E.get hi) h2 I M];cases hc:ceq a b with
     | true=>simp[y,aC4,hc]
     | false=>simp[aC4,hc]
    ·cases h2
theorem aLs {c ty:TypeId}{i:TI}{fs:List (Nat×TypeId)}{x y:Operand}{as j:List C}(A:Tok P T) (hq:aHb P c) (ho:o.op=.binOp .eql c x y ty) (I:o.dst=some d) (E:d<n) (hi:T[c]?=some (some i)) (J:i.k=.st fs)
  (hx:opv st x=some (.pa as)) (hy:opv st y=some (.pa j)) (hs:scalars T 0 fs as j=true):Step P n o st ⟨opr x++opr y,[]⟩ ⟨some (d,some (B (aC4 as j))),[]⟩:=by
 refine Step.value I E fun _ ha _ S μ ac w q=>?_
 have h1:=aL q hx (cI ha).1;have h2:=aL q hy (cI ha).2;simp only[aO] at h1 h2;obtain⟨us,h1,M⟩:=h1;obtain⟨vs,h2,O⟩:=h2;obtain⟨fields,hu,u⟩:=(A.get hi).struct J;unfold aHb aHb.check at hq;simp only[hu,τ,Be] at hq;obtain⟨⟨U,Y⟩,q3⟩:=hq;have r:P.fieldsOf c=fields:=by simp[Program.fieldsOf,hu]
 have hn : ∀ f ∈ fields.toList, f.name ≠ "_" := fun f u => by
  have:=(A3.1 U) f u;simpa using this
 refine⟨.bool (aC4 as j),rR ho h1 h2 ?_ rfl ?_,by simp[aO,aT,Rep]⟩
 ·have hp:(program:Sem Program).run P w=.ok P w:=rfl;simp only[eqGuard];simp[hp,q3]
 ·rw[run_equalIn_struct w 9999 c _ _ (by rw[r,hu]) Y,r];exact nR A ⟨us⟩ ⟨vs⟩ 9998 w fields.toList 0 as j (by rw[←u];exact hs) hn (by simpa using M) (by simpa using O)
end
theorem take_map {α β:Type}{f:α→β}{l:List α}:(l.map f).take l.length=l.map f:=A5 (by simp)
theorem Ole.arrE {σ:Nat→Nat}{te es fz:Nat}{e e':List (List C)}(h:e=e'):Ole σ (.arr te es e fz) (.arr te es e' 1):=by subst h;exact .arr1
theorem int_eq {k:IntKind}{a b:Int}(h:a=b):some (I k a)=some (I k b):=by rw[h]
section
variable {P:Program}{n:Nat}{o:Oper}{st:St}{d:Nat}{T:TT}
def vA (st:St):List Operand→Option (List R)
 | []=>some []
 | x::xs=>match opv st x with
  | some (.one r)=>match vA st xs with | some l=>some (r::l) | none=>none
  | _=>none
theorem v8 {G:Ctx}{S:Sto}{μ:Mu}{st':St}{a:Act}{w:World}(hs:Sim G n S μ st' a w):∀(xs:List Operand) (l:List R),vA st xs=some l→(∀t∈bT xs,st'.e t=st.e t)→aP S μ st'.h l (xs.map a.eval)
 | [],l,h,_=>by simp[vA] at h;subst h;simp[aP]
 | x::xs,l,h,ht=>by
  simp only[vA] at h;split at h
  ·rename_i r j;split at h
   ·rename_i q c;cases h;have h1:=aL hs j fun t h=>ht t (by simp[bT,h])
    simp only[aO] at h1;simp only[Av,aP];exact⟨_,_,rfl,h1,v8 hs xs q c fun t h=>ht t (by simp[bT,h])⟩
   ·cases h
  ·cases h
theorem qZ {f:FuncId}{caps:Array Operand}{l:List R}(ho:o.op=.makeFunc (.func f) #[] caps) (j:o.dst=some d) (c:d<n) (hc:vA st caps.toList=some l):Step P n o st ⟨bT caps.toList,[]⟩ ⟨some (d,some (.one (.clo f l))),[]⟩:=by
 refine Step.value j c fun st' ha _ S μ ac w hs=>?_
 have h:=v8 hs _ _ hc ha.1;refine⟨.func (.func f) #[] (caps.map ac.eval),by simp[execOp,ho,Instr.makeFunc],?_⟩;simp only[aO,aT];refine⟨caps.toList.map ac.eval,?_,h⟩;congr 1;apply Array.ext';simp
theorem u3 {f:FuncId}{x:Operand}{c:R}(ho:o.op=.makeFunc (.func f) #[x] #[]) (q:o.dst=some d) (j:d<n) (hx:opv st x=some (.one c)):Step P n o st ⟨opr x,[]⟩ ⟨some (d,some (.one (.mth f c))),[]⟩:=by
 refine Step.value q j fun st' ha _ S μ ac w hs=>?_
 have h:=aL hs hx ha.1;refine⟨.func (.func f) #[ac.eval x] #[],by simp[execOp,ho,Instr.makeFunc],?_⟩;simp only[aO,aT] at h ⊢;exact⟨_,rfl,h⟩
def iQ (k:List UInt8):List (List C)→Option (List C)
 | []=>none
 | (.str s::vs)::r=>if s=k then some vs else iQ k r
 | _::r=>iQ k r
def aBx (k:List UInt8) (vs:List C):List (List C)→List (List C)
 | []=>[.str k::vs]
 | (.str s::us)::r=>if s=k then(.str k::vs)::r else(.str s::us)::aBx k vs r
 | x::r=>x::aBx k vs r
theorem aAv (a b:List UInt8):((ByteArray.mk ⟨a⟩)==(ByteArray.mk ⟨b⟩))=decide (b=a):=by
 rw[beq_toListBytes,fY,fY,Bool.beq_eq_decide_eq];by_cases h:a=b
 ·subst h;simp
 ·have c:¬b=a:=fun e=>h e.symm
  simp[h,c]
theorem iW {S:Sto}{agg:Bool}{k:List UInt8}:∀(l:List (List C)) (es:List MapEntry) (i:Nat),bA S agg l es→jO l→
  (∀vs,iQ k l=some vs→∃j e,Instr.findNow .string (.string ⟨⟨k⟩⟩) es i=some (some (i+j,e.val))∧es[j]?=some e∧(∃us,bW S vs us∧e.val=(if agg then .agg ⟨us⟩ else us.headD undef)∧(agg=false→us.length=1))∧e.key=.string ⟨⟨k⟩⟩∧j<es.length∧
   ∀ws,aBx k ws l=(l.take j)++(.str k::ws)::l.drop (j+1))∧
  (iQ k l=none→Instr.findNow .string (.string ⟨⟨k⟩⟩) es i=some none∧∀ws,aBx k ws l=l++[.str k::ws])
 | [],es,i,h,_=>by
  simp only[bA] at h;subst h;exact⟨fun vs y=>by simp[iQ] at y,fun _=>⟨rfl,fun ws=>rfl⟩⟩
 | r::l,es,i,h,hm=>by
  simp only[bA] at h;obtain⟨e,q,rfl,⟨vs,h1,h2,O⟩,U⟩:=h
  match r,h1,hm with
  | .str s::us,h1,hm=>
   simp only[jO] at hm;simp only[bW] at h1;obtain⟨v,vs',y,E,Y⟩:=h1;simp only[Rep] at E;injection y with I J;subst J;have c:e.key=.string ⟨⟨s⟩⟩:=by rw[I,E]
   have M:=iW (k:=k) l q (i+1) U hm;by_cases hs:s=k
   ·subst hs;refine⟨fun ws hw=>?_,fun hn=>by simp[iQ] at hn⟩;simp only[iQ,Ch,Option.some.injEq] at hw;subst hw;refine⟨0,e,?_,rfl,⟨vs,Y,h2,O⟩,c,by simp,fun ws=>by simp[aBx]⟩;simp only[Instr.findNow,c,Instr.sameNow];rw[aAv];simp
   ·have u:Instr.findNow .string (.string ⟨⟨k⟩⟩) (e::q) i=Instr.findNow .string (.string ⟨⟨k⟩⟩) q (i+1):=by
     simp only[Instr.findNow,c,Instr.sameNow];rw[aAv];simp[hs]
    refine⟨fun ws hw=>?_,fun hn=>?_⟩
    ·simp only[iQ,hs,Bm] at hw;obtain⟨j,e',A,B,q3,q4,q5,q6⟩:=M.1 ws hw;refine⟨j+1,e',?_,by simpa using B,q3,q4,by simpa using q5,fun ws=>?_⟩
     ·rw[u,A,show i+1+j=i+(j+1) by omega]
     ·simp only[aBx,hs,Bm,q6 ws];simp
    ·simp only[iQ,hs,Bm] at hn;obtain⟨A,B⟩:=M.2 hn;exact⟨by rw[u,A],fun ws=>by simp only[aBx,hs,Bm,B ws];simp⟩
  | [],h1,_=>simp only[bW] at h1;cases h1
  | .int _ _::_,_,hm=>simp[jO] at hm
  | .bool _::_,_,hm=>simp[jO] at hm
  | .nl::_,_,hm=>simp[jO] at hm
  | .sl _ _::_,_,hm=>simp[jO] at hm
  | .sn _ _::_,_,hm=>simp[jO] at hm
  | .np::_,_,hm=>simp[jO] at hm
  | .pt _::_,_,hm=>simp[jO] at hm
  | .mp _ _::_,_,hm=>simp[jO] at hm
  | .zv _::_,_,hm=>simp[jO] at hm
theorem jW {t:TypeId}(hu:P.underlying t=some .string) (b:Bool) (d:Nat) (s:ByteArray) (w:World):(Instr.checkKey b (d+1) t (.string s)).run P w=.ok () w:=by
 simp only[Instr.checkKey,π,Ah hu w,κ,Aa]
inductive MapE (st:St):List Nat→V→Bool→List (List C)→Prop
 | mr {id agg ents}:st.h id=some (.map agg ents)→MapE st [id] (.one (.mr id)) agg ents
 | mp {agg ents}:MapE st [] (.one (.c (.mp agg ents))) agg ents
 | nil {agg}:MapE st [] (.one (.c (.zv 0))) agg []
theorem MapE.rel {G:Ctx}{S:Sto}{μ:Mu}{st':St}{a:Act}{w:World}{ids:List Nat}{v:V}{agg:Bool}{ents:List (List C)}{u:Value}(hs:Sim G n S μ st' a w) (h:MapE st ids v agg ents) (y:jO ents) (hi:∀i∈ids,st'.h i=st.h i) (q:aO S μ st'.h v u):
  ∃es:Array MapEntry,bA S agg ents es.toList∧((u=.map none∧es= #[])∨∃b clk,u=.map (some b)∧w.heap[b]?=some (.map es clk)):=by
 cases h with
 | mr hh=>
  have A:=(hi _ (by simp)).trans hh;simp only[aO,aT] at q;obtain⟨E,B,b,c,h1,h2,j⟩:=q;rw[A] at h1;cases h1;obtain⟨I,es,clk,g1,g2,g3,g4⟩:=hs.inv.obj _ _ A;rw[h2] at g1;cases g1;exact⟨es,g3.rep y,.inr ⟨_,clk,j,g2⟩⟩
 | mp=>
  simp only[aO,aT,Rep] at q;obtain⟨b,es,clk,h1,h2,j⟩:=q;refine⟨es,j.elim id fun j=>?_,.inr ⟨b,clk,h1,hs.inv.holds.2 _ _ h2⟩⟩;cases ents with
  | nil=>simp only[aHh] at j
  | cons r l=>simp only[aHh] at j;rw[j.1] at y;simp[jO] at y
 | nil=>
  simp only[aO,aT,Rep,aNw] at q;exact⟨#[],by simp[bA],.inl ⟨q,rfl⟩⟩
def oA (i:TI) (r:Option (List C)):V:=match r with
 | some vs=>if i.k.agg then .pa vs else match vs with | [c]=>.one (.c c) | _=>.tup []
 | none=>if i.k.agg then .pa i.zero else match i.zero with | [c]=>.one (.c c) | _=>.tup []
def aEt (r:Option (List C)):Bool:=r.isSome
def aFa (r:Option (Nat×Value)) (z:Value):Value:=match r with | some p=>p.2 | none=>z
theorem iA (w:World) (b:Nat) (es:Array MapEntry) (clk:Nat) (h:w.heap[b]?=some (.map es clk)):(getObj b).run P w=.ok (.map es clk) w:=by
 exact MapKept.run_getObj_map h
theorem aDz {t kt et:TypeId}{i ki E:TI}{x y:Operand}{ok:Bool}{ids:List Nat}{agg:Bool}{k:List UInt8}{r:Option (List C)}(U:Tok P T) (ho:o.op=.lookup t x y ok) (hd:o.dst=some d) (hdn:d<n) (hi:T[t]?=some (some i)) (hk:i.k=.mp kt et)
  (hki:T[kt]?=some (some ki)) (hkk:ki.k=.str) (Y:T[et]?=some (some E)) (I:E.k.agg=agg) (hy:opv st y=some (Go.AM.T k))
  (hrel:∀(st':St),eR ⟨opr x++opr y,ids⟩ st st'→∀(G:Ctx) (S:Sto) (μ:Mu) (a:Act) (w:World),Sim G n S μ st' a w→∃(es:Array MapEntry) (ents:List (List C)),jO ents∧iQ k ents=r∧bA S agg ents es.toList∧((a.eval x=.map none∧es= #[])∨∃b clk,a.eval x=.map (some b)∧w.heap[b]?=some (.map es clk))):
  Step P n o st ⟨opr x++opr y,ids⟩ ⟨some (d,some (if ok then .tup [oA E r,B (aEt r)] else oA E r)),[]⟩:=by
 refine Step.value hd hdn fun st' ha G S μ a w hs=>?_
 obtain⟨es,ents,hms,hr,h1,h2⟩:=hrel st' ha G S μ a w hs;have h3:=jN (aL hs hy fun t h=>ha.1 t (by simp[h]));have hu:=Ah ((U.get hi).map hk) w;have aa:=(U.get hki).str hkk;obtain⟨z,hz,hzr,hz1,hz2⟩:=(U.get Y).zero_run;have J:=iW (k:=k) ents es.toList 0 h1 hms;have key:∃q:Option (Nat×Value),(Instr.findKey kt (.string ⟨⟨k⟩⟩) es.toList).run P w=.ok q w∧aO S μ st'.h (oA E r) (aFa q z)∧aEt r=q.isSome:=by
  cases hq:iQ k ents with
  | some vs=>
   obtain⟨j,e,q1,q2,⟨us,M,q4,q5⟩,q6,q7,q8⟩:=J.1 vs hq;refine⟨some (0+j,e.val),?_,?_,by rw[←hr,hq];rfl⟩
   ·simp only[Instr.findKey,π,Ah aa w,κ,q1,Aa]
   ·rw[←hr,hq];simp only[oA,I];cases agg with
    | true=>
     simp only[Ch,aO] at q4 ⊢;exact⟨us,q4,M⟩
    | false=>
     simp only[Ao,Bm] at q4 ⊢;have hl:=q5 rfl;have hl2:=M.length
     match vs,us,M,hl,hl2 with
     | [c],[u],M,_,_=>
      simp only[bW] at M;obtain⟨v,vs',O,hc,_⟩:=M;cases O;rw[q4];simp only[aO,aT];exact hc
  | none=>
   obtain⟨q1,_⟩:=J.2 hq;refine⟨none,?_,?_,by rw[←hr,hq];rfl⟩
   ·simp only[Instr.findKey,π,Ah aa w,κ,q1,Aa]
   ·rw[←hr,hq];simp only[oA,I];have A:=hzr S;cases agg with
    | true=>
     rw[I,θ rfl] at hz1;simp only[Ch,aO];exact⟨z.cells.toList,hz1,A⟩
    | false=>
     obtain⟨u,hu1,hu2⟩:=hz2 I;simp only[Ao,Bm];have hl:=(U.get Y).len;rw[(U.get Y).one I] at hl
     match hzz:E.zero,hl with
     | [c],_=>
      rw[hzz,hu1] at A;simp only[bW] at A;obtain⟨v,vs',O,hc,_⟩:=A;cases O;rw[hu2];simp only[aO,aT];exact hc
 obtain⟨q,hf,O,hb⟩:=key;have hck:=fun b=>jW (P:=P) aa b 9999 ⟨⟨k⟩⟩ w
 have fin:aO S μ st'.h (if ok then .tup [oA E r,B (aEt r)] else oA E r) (if ok then .tuple #[(aFa q z),.bool q.isSome] else(aFa q z)):=by
  cases ok with
  | false=>exact O
  | true=>
   simp only[Ch,aO,aU];exact⟨[_,.bool q.isSome],rfl,_,[.bool q.isSome],rfl,O,.bool q.isSome,[],rfl,by rw[hb];simp[aT,Rep],rfl⟩
 refine⟨_,?_,fin⟩;rcases h2 with⟨h2,rfl⟩ | ⟨b,clk,h2,h4⟩
 ·simp only[execOp,ho,h2,h3,π,Instr.lookup,hu,κ,Aa];rw[show(10000:Nat)=9999+1 from rfl,hck];simp only[κ,hf];cases q with
  | none=>simp only[π,hz w,κ,Aa];rfl
  | some p=>rfl
 ·simp only[execOp,ho,h2,h3,π,Instr.lookup,hu,κ,Aa,iA w b es clk h4];rw[show(10000:Nat)=9999+1 from rfl,hck];simp only[κ,hf];cases q with
  | none=>simp only[π,hz w,κ,Aa];rfl
  | some p=>rfl
theorem rW {t q u:TypeId}{i A c:TI}{x y:Operand}{ok:Bool}{v:V}{ids:List Nat}{agg:Bool}{ents:List (List C)}{k:List UInt8}{r:Option (List C)}(U:Tok P T) (ho:o.op=.lookup t x y ok) (Y:o.dst=some d) (E:d<n) (hi:T[t]?=some (some i)) (hk:i.k=.mp q u)
  (I:T[q]?=some (some A)) (J:A.k=.str) (M:T[u]?=some (some c)) (O:c.k.agg=agg) (hx:opv st x=some v) (hm:MapE st ids v agg ents) (j:jO ents) (hy:opv st y=some (Go.AM.T k)) (hr:iQ k ents=r):
  Step P n o st ⟨opr x++opr y,ids⟩ ⟨some (d,some (if ok then .tup [oA c r,B (aEt r)] else oA c r)),[]⟩:=
 aDz U ho Y E hi hk I J M O hy fun _ ha _ _ _ _ _ hs=>by
  obtain⟨es,h1,h2⟩:=hm.rel hs j ha.2 (aL hs hx fun t h=>ha.1 t (by simp[h]));exact⟨es,ents,j,hr,h1,h2⟩
theorem cG {S:Sto}{agg:Bool}:∀{a:List (List C)}{x:List MapEntry}{b:List (List C)}{y:List MapEntry},bA S agg a x→bA S agg b y→bA S agg (a++b) (x++y)
 | [],_,_,_,h,k=>by simp only[bA] at h;subst h;simpa using k
 | _::_,_,_,_,h,k=>by
  simp only[bA,Bl] at h ⊢;obtain⟨v,vs',rfl,h1,h2⟩:=h;exact⟨v,vs'++_,rfl,h1,cG h2 k⟩
theorem jG {S:Sto}{agg:Bool}:∀{a:List (List C)}{x:List MapEntry}(n:Nat),bA S agg a x→bA S agg (a.take n) (x.take n)
 | _,_,0,_=>by simp[bA]
 | [],_,n+1,h=>by simp only[bA] at h;subst h;simp[bA]
 | _::_,_,n+1,h=>by
  simp only[bA,A8] at h ⊢;obtain⟨v,vs',rfl,h1,h2⟩:=h;exact⟨v,vs'.take n,by simp,h1,jG n h2⟩
theorem jH {S:Sto}{agg:Bool}:∀{a:List (List C)}{x:List MapEntry}(n:Nat),bA S agg a x→bA S agg (a.drop n) (x.drop n)
 | _,_,0,h=>by simpa using h
 | [],_,n+1,h=>by simp only[bA] at h;subst h;simp[bA]
 | _::_,_,n+1,h=>by
  simp only[bA,Ck] at h ⊢;obtain⟨v,vs',rfl,h1,h2⟩:=h;simpa using jH n h2
theorem wN {t kt et:TypeId}{i ki:TI}{x y z:Operand}{id:Nat}{agg:Bool}{ents:List (List C)}{k:List UInt8}{v:V}{rs:List R}{cs:List C}{ids:List Nat}(hT:Tok P T) (ho:o.op=.mapUpdate t x y z) (hd:o.dst=none) (hi:T[t]?=some (some i)) (hk:i.k=.mp kt et)
  (hki:T[kt]?=some (some ki)) (hkk:ki.k=.str) (hx:opv st x=some (.one (.mr id))) (hh:st.h id=some (.map agg ents)) (E:jO ents) (hy:opv st y=some (Go.AM.T k))
  (hz:opv st z=some v) (q:(match v with | .one _=>!agg | .pa _=>agg | .ma _=>agg | _=>false)=true) (hc:fF v=some rs) (hp:PureL st.h ids rs cs):
  Step P n o st ⟨opr x++opr y++opr z,id::ids⟩ ⟨none,[(id,some (.map agg (aBx k cs ents)))]⟩:=by
 refine Step.turn hd hh (by simp) (by simp[AObj.succ]) fun st' ha hh' G S μ a w hs=>?_
 have h1:=aL hs hx fun t h=>ha.1 t (by simp[h])
 have h3:=jN (aL hs hy fun t h=>ha.1 t (by simp[h]));have u:=aL hs hz fun t h=>ha.1 t (by simp[h])
 simp only[aO,aT] at h1;obtain⟨agg',ents',b,c,q1,q2,q3⟩:=h1;obtain⟨b',es,clk,g1,g2,g3,g4⟩:=hs.inv.obj id _ hh';rw[g1] at q2;cases q2;have g3:=g3.rep E;have ad:=hp.rel (fun i h=>ha.2 i (by simp[h])) hs.inv.obj (cV u hc);have I:a.eval z=(if agg then .agg ⟨(a.eval z).cells.toList⟩ else(a.eval z).cells.toList.headD undef)∧(agg=false→(a.eval z).cells.toList.length=1):=by
  cases v with
  | one r=>
   simp at q;subst q;simp only[aO] at u;rw[u.one.1];simp
  | pa l=>
   simp at q;subst q;simp only[aO] at u;obtain⟨vs,u,_⟩:=u;rw[u];simp[Value.cells]
  | ma l=>
   simp at q;subst q;simp only[aO] at u;obtain⟨vs,u,_⟩:=u;rw[u];simp[Value.cells]
  | tup l=>simp at q
 have J:=(hT.get hki).str hkk;have hu:=Ah ((hT.get hi).map hk) w;have A:=iW (k:=k) ents es.toList 0 g3 E;have aa:=fun b=>jW (P:=P) J b 9999 ⟨⟨k⟩⟩ w
 have M:∀e:MapEntry,e.key=.string ⟨⟨k⟩⟩→e.val=a.eval z→bA S agg [.str k::cs] [e]:=by
  intro e he1 he2;simp only[bA];refine⟨e,[],rfl,⟨(a.eval z).cells.toList,?_,by rw[he2];exact I.1,I.2⟩,rfl⟩;simp only[bW];exact⟨e.key,_,rfl,by simp[Rep,he1],ad⟩
 have O:∀(ob:Obj),(setObj b ob).run P w=.ok () { w with heap:=w.heap.setIfInBounds b ob }:=by
  intro ob;exact MapKept.run_setObj_map _ g2
 have U:∀ob,WChg w { w with heap:=w.heap.setIfInBounds b ob } b ob:=fun ob=>by
  have hlt:=bV g2;refine⟨rfl,rfl,rfl,by simp,by simp[hlt],fun k _ hne=>?_⟩;show(w.heap.setIfInBounds b ob)[k]?=_;rw[A0,ξ (fun e=>hne e.symm)]
 have ab:∀(ob:Obj) (o:Nat) (v:Value),S.cell b o=some v→∃vs t fr,ob=.cells vs t fr∧vs[o]?=some v:=fun ob o v e=>by
  obtain⟨vs,t,fr,B,_⟩:=hs.inv.holds.1 b o v e;rw[g2] at B;cases B
 have g4:=g4.kn0 E;have ac:∀m,S.mapo b=some m→w.heap.size≤b:=fun m e=>by rw[g4] at e;cases e
 cases hq:iQ k ents with
 | some vs=>
  obtain⟨j,e,B,Y,_,p4,p5,p6⟩:=A.1 vs hq;refine⟨_,.map (es.modify j fun e=>{ e with key:=.string ⟨⟨k⟩⟩,val:=a.eval z }) clk,b,(0,0),?_,g1,U _,⟨b,_,clk,aJ _ _ _,(U _).new,.inr (.inl ?_),.inl g4⟩,ab _,ac⟩
  ·have ae:((es[j]?).map (·.key)).getD (.string ⟨⟨k⟩⟩)=.string ⟨⟨k⟩⟩:=by
    rw[←Array.getElem?_toList,Y];simpa using p4
   have hkt:(Instr.keyThatStays (.string ⟨⟨k⟩⟩) (.string ⟨⟨k⟩⟩)).run P w=.ok (.string ⟨⟨k⟩⟩) w:=by
    have hsb:Instr.sameBits 10000 (.string ⟨⟨k⟩⟩) (.string ⟨⟨k⟩⟩)=true:=by simp[Instr.sameBits,aAv]
    simp only[Instr.keyThatStays,hsb,Ch,Aa]
   simp only[execOp,ho,q3,h3,π,Instr.mapUpdate,hu,κ,iA w b es clk g2];rw[show(10000:Nat)=9999+1 from rfl,aa];simp only[κ,Instr.findKey,π,Ah J w,B,Aa,Bb,ae,hkt,O]
  ·rw[p6 cs,Array.toList_modify];have af:es.toList.modify j (fun e=>{ e with key:=.string ⟨⟨k⟩⟩,val:=a.eval z })=es.toList.take j++{ e with key:=.string ⟨⟨k⟩⟩,val:=a.eval z }::es.toList.drop (j+1):=by
    apply B6;intro i;rw[List.getElem?_modify];have p5':j<es.size:=by simpa using p5
    by_cases c1:i<j
    ·rw[A1 (by simp;omega),Aj,θ c1];simp[show ¬j=i by omega]
    ·rw[A6 (by simp;omega)];simp only[Am];by_cases c2:j=i
     ·subst c2;rw[Y];have hm:min j es.toList.length=j:=by simp;omega
      rw[hm];simp
     ·rw[min_eq_left (le_of_lt p5),show i-j=(i-j-1)+1 by omega,List.getElem?_cons_succ,Ak];simp[c2,show j+1+(i-j-1)=i by omega]
   rw[af];have:=cG (jG j g3) (cG (M { e with key:=.string ⟨⟨k⟩⟩,val:=a.eval z } rfl rfl) (jH (j+1) g3));exact this
 | none=>
  obtain⟨B,Y⟩:=A.2 hq;refine⟨_,.map (es.push { key:=.string ⟨⟨k⟩⟩,val:=a.eval z,born:=clk }) (clk+1),b,(0,0),?_,g1,U _,⟨b,_,clk+1,aJ _ _ _,(U _).new,.inr (.inl ?_),.inl g4⟩,ab _,ac⟩
  ·simp only[execOp,ho,q3,h3,π,Instr.mapUpdate,hu,κ,iA w b es clk g2];rw[show(10000:Nat)=9999+1 from rfl,aa];simp only[κ,Instr.findKey,π,Ah J w,B,Aa,O]
  ·rw[Y cs,Array.toList_push];exact cG g3 (M _ rfl rfl)
theorem aLn {P:Program}{T:TT}{o:Oper}{t kt et:TypeId}{i ki:TI}{x y z:Operand}{agg:Bool}{ents:List (List C)}{k:List UInt8}{cs:List C}{S:Sto}{a:Act}{w:World}{b:Nat}{es:Array MapEntry}{clk:Nat}(hT:Tok P T) (ho:o.op=.insert t x y z) (hi:T[t]?=some (some i)) (hk:i.k=.mp kt et)
  (hki:T[kt]?=some (some ki)) (hkk:ki.k=.str) (q3:a.eval x=.map (some b)) (h3:a.eval y=.string ⟨⟨k⟩⟩) (g2:w.heap[b]?=some (.map es clk)) (g3:bA S agg ents es.toList) (hms:jO ents)
  (J:bW S cs (a.eval z).cells.toList) (q:a.eval z=(if agg then .agg ⟨(a.eval z).cells.toList⟩ else(a.eval z).cells.toList.headD undef)∧(agg=false→(a.eval z).cells.toList.length=1)):
  ∃E M,(execOp a.eval o).run P w=.ok .skip { w with heap:=w.heap.setIfInBounds b (.map E M) }∧bA S agg (aBx k cs ents) E.toList:=by
 have r:=(hT.get hki).str hkk;have hu:=Ah ((hT.get hi).map hk) w;have c:=iW (k:=k) ents es.toList 0 g3 hms;have I:=fun b=>jW (P:=P) r b 9999 ⟨⟨k⟩⟩ w
 have u:∀e:MapEntry,e.key=.string ⟨⟨k⟩⟩→e.val=a.eval z→bA S agg [.str k::cs] [e]:=by
  intro e he1 he2;simp only[bA];refine⟨e,[],rfl,⟨(a.eval z).cells.toList,?_,by rw[he2];exact q.1,q.2⟩,rfl⟩;simp only[bW];exact⟨e.key,_,rfl,by simp[Rep,he1],J⟩
 have A:∀(ob:Obj),(setObj b ob).run P w=.ok () { w with heap:=w.heap.setIfInBounds b ob }:=by
  intro ob;exact MapKept.run_setObj_map _ g2
 cases hq:iQ k ents with
 | some vs=>
  obtain⟨j,e,O,B,_,p4,p5,p6⟩:=c.1 vs hq;refine⟨es.modify j fun e=>{ e with key:=.string ⟨⟨k⟩⟩,val:=a.eval z },clk,?_,?_⟩
  ·have U:((es[j]?).map (·.key)).getD (.string ⟨⟨k⟩⟩)=.string ⟨⟨k⟩⟩:=by
    rw[←Array.getElem?_toList,B];simpa using p4
   have hkt:(Instr.keyThatStays (.string ⟨⟨k⟩⟩) (.string ⟨⟨k⟩⟩)).run P w=.ok (.string ⟨⟨k⟩⟩) w:=by
    have hsb:Instr.sameBits 10000 (.string ⟨⟨k⟩⟩) (.string ⟨⟨k⟩⟩)=true:=by simp[Instr.sameBits,aAv]
    simp only[Instr.keyThatStays,hsb,Ch,Aa]
   simp only[execOp,ho,q3,h3,π,Instr.mapUpdate,hu,κ,iA w b es clk g2];rw[show(10000:Nat)=9999+1 from rfl,I];simp only[κ,Instr.findKey,π,Ah r w,O,Aa,Bb,U,hkt,A]
  ·rw[p6 cs,Array.toList_modify];have Y:es.toList.modify j (fun e=>{ e with key:=.string ⟨⟨k⟩⟩,val:=a.eval z })=es.toList.take j++{ e with key:=.string ⟨⟨k⟩⟩,val:=a.eval z }::es.toList.drop (j+1):=by
    apply B6;intro i;rw[List.getElem?_modify];have p5':j<es.size:=by simpa using p5
    by_cases c1:i<j
    ·rw[A1 (by simp;omega),Aj,θ c1];simp[show ¬j=i by omega]
    ·rw[A6 (by simp;omega)];simp only[Am];by_cases c2:j=i
     ·subst c2;rw[B];have hm:min j es.toList.length=j:=by simp;omega
      rw[hm];simp
     ·rw[min_eq_left (le_of_lt p5),show i-j=(i-j-1)+1 by omega,List.getElem?_cons_succ,Ak];simp[c2,show j+1+(i-j-1)=i by omega]
   rw[Y];have:=cG (jG j g3) (cG (u { e with key:=.string ⟨⟨k⟩⟩,val:=a.eval z } rfl rfl) (jH (j+1) g3));exact this
 | none=>
  obtain⟨O,B⟩:=c.2 hq;refine⟨es.push { key:=.string ⟨⟨k⟩⟩,val:=a.eval z,born:=clk },clk+1,?_,?_⟩
  ·simp only[execOp,ho,q3,h3,π,Instr.mapUpdate,hu,κ,iA w b es clk g2];rw[show(10000:Nat)=9999+1 from rfl,I];simp only[κ,Instr.findKey,π,Ah r w,O,Aa,A]
  ·rw[B cs,Array.toList_push];exact cG g3 (u _ rfl rfl)
theorem aIb {t M et:TypeId}{i O:TI}{x y z:Operand}{id:Nat}{agg:Bool}{ents:List (List C)}{k:List UInt8}{v:V}{rs:List R}{cs:List C}{ids:List Nat}(hT:Tok P T) (ho:o.op=.insert t x y z) (hd:o.dst=none) (hi:T[t]?=some (some i)) (hk:i.k=.mp M et)
  (U:T[M]?=some (some O)) (Y:O.k=.str) (hx:opv st x=some (.one (.mr id))) (hh:st.h id=some (.map agg ents)) (u:jO ents) (hy:opv st y=some (Go.AM.T k))
  (hz:opv st z=some v) (j:(match v with | .one _=>!agg | .pa _=>agg | .ma _=>agg | _=>false)=true) (hc:fF v=some rs) (hp:PureL st.h ids rs cs):
  Step P n o st ⟨opr x++opr y++opr z,id::ids⟩ ⟨none,[(id,some (.map agg (aBx k cs ents)))]⟩:=by
 refine Step.turn hd hh (by simp) (by simp[AObj.succ]) fun st' ha aa G S μ a w hs=>?_
 have h1:=aL hs hx fun t h=>ha.1 t (by simp[h])
 have h3:=jN (aL hs hy fun t h=>ha.1 t (by simp[h]));have q:=aL hs hz fun t h=>ha.1 t (by simp[h])
 simp only[aO,aT] at h1;obtain⟨agg',ents',b,c,q1,q2,q3⟩:=h1;obtain⟨b',es,clk,g1,g2,g3,g4⟩:=hs.inv.obj id _ aa;rw[g1] at q2;cases q2;have g3:=g3.rep u;have B:=hp.rel (fun i h=>ha.2 i (by simp[h])) hs.inv.obj (cV q hc);have E:a.eval z=(if agg then .agg ⟨(a.eval z).cells.toList⟩ else(a.eval z).cells.toList.headD undef)∧(agg=false→(a.eval z).cells.toList.length=1):=by
  cases v with
  | one r=>
   simp at j;subst j;simp only[aO] at q;rw[q.one.1];simp
  | pa l=>
   simp at j;subst j;simp only[aO] at q;obtain⟨vs,q,_⟩:=q;rw[q];simp[Value.cells]
  | ma l=>
   simp at j;subst j;simp only[aO] at q;obtain⟨vs,q,_⟩:=q;rw[q];simp[Value.cells]
  | tup l=>simp at j
 obtain⟨es',A,I,J⟩:=aLn (P:=P) hT ho hi hk U Y q3 h3 g2 g3 u B E;have hW:∀ob,WChg w { w with heap:=w.heap.setIfInBounds b ob } b ob:=fun ob=>by
  have hlt:=bV g2;refine⟨rfl,rfl,rfl,by simp,by simp[hlt],fun k _ hne=>?_⟩;show(w.heap.setIfInBounds b ob)[k]?=_;rw[A0,ξ (fun e=>hne e.symm)]
 have hSc:∀(ob:Obj) (o:Nat) (v:Value),S.cell b o=some v→∃vs t fr,ob=.cells vs t fr∧vs[o]?=some v:=fun ob o v e=>by
  obtain⟨vs,t,fr,p1,_⟩:=hs.inv.holds.1 b o v e;rw[g2] at p1;cases p1
 have g4:=g4.kn0 u;have hSm:∀m,S.mapo b=some m→w.heap.size≤b:=fun m e=>by rw[g4] at e;cases e
 exact⟨_,.map es' A,b,(0,0),I,g1,hW _,⟨b,_,A,aJ _ _ _,(hW _).new,.inr (.inl J),.inl g4⟩,hSc _,hSm⟩
end
end Go.AM
