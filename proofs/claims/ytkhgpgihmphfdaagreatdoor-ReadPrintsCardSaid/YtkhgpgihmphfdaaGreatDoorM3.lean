/-
  Texts Am12 to Am16 in one.
-/
import Derived.Test.YtkhgpgihmphfdaaGreatDoorM2
import Derived.RangeFuncRecord
import Derived.IntWalk
import Derived.Laws.StructEq
open List (all_eq_true append_assoc append_nil cons_append drop_drop drop_succ_cons eq_nil_of_length_eq_zero filter_cons filter_eq_self length_append length_cons length_nil length_range length_singleton length_take map_cons map_nil mem_append mem_cons mem_filter mem_map mem_range nil_append nodup_cons range'_succ range_eq_range' take_of_length_le take_succ_cons)
open Nat (eq_of_beq_eq_true le_of_ble_eq_true le_of_lt le_refl le_trans lt_of_lt_of_le min_eq_left sub_zero zero_add zero_le)
namespace Go.AM
open Go
def kI (μ:Mu) (h:cF):Nat→Prop:=fun b=>∃id o c,h id=some o∧μ id=some (b,c)
def aW (P:Program) (f:FuncId) (args:List V) (hin:List (Nat×AObj)) (res:V) (hout:List (Nat×AObj)):Prop:=
 ∀S μ w vals,Inv ⟨w,S,kI μ (look hin),μ,look hin⟩ S μ (look hin) w→b7 S μ (look hin) args vals→
  Calls P f ⟨vals⟩ w fun e w'=>∃S' μ' v,e=.returned v∧Inv ⟨w,S,kI μ (look hin),μ,look hin⟩ S' μ' (look hout) w'∧aS S' μ' (look hout) res v
mutual
theorem R.ren_id:∀r:R,r.ren (fun i=>i)=r
 | .c _=>rfl
 | .hs ..=>rfl
 | .tl ..=>rfl
 | .vp ..=>rfl
 | .ep ..=>rfl
 | .mr ..=>rfl
 | .clo f caps=>by simp only[R.ren,R.renL_id caps]
 | .mth f x=>by simp only[R.ren,R.ren_id x]
 | .yl _=>rfl
 | .ra _ _ _ _=>rfl
 | .rp _ _ _ _=>rfl
 | .ras n es l=>by simp only[R.ren,R.renL_id l]
 | .pas l=>by simp only[R.ren,R.renL_id l]
theorem R.renL_id:∀r:List R,R.renL (fun i=>i) r=r
 | []=>rfl
 | r::rs=>by simp only[R.renL,R.ren_id r,R.renL_id rs]
end
mutual
theorem V.ren_id:∀r:V,r.ren (fun i=>i)=r
 | .one r=>by simp only[V.ren,R.ren_id r]
 | .pa _=>rfl
 | .ma l=>by simp only[V.ren,R.renL_id l]
 | .tup l=>by simp only[V.ren,V.renL_id l]
theorem V.renL_id:∀r:List V,V.renL (fun i=>i) r=r
 | []=>rfl
 | r::rs=>by simp only[V.renL,V.ren_id r,V.renL_id rs]
end
theorem aJk:∀l:List (Nat×V),aWp (fun i=>i) l=l
 | []=>rfl
 | (t,v)::l=>by simp only[aWp,V.ren_id v,aJk l]
theorem aJi:∀l:List (List R),aJj (fun i=>i) l=l
 | []=>rfl
 | r::l=>by simp only[aJj,R.renL_id r,aJi l]
theorem Ole.refl_id {o:AObj}(h:o≠ .dead):Ole (fun i=>i) o o:=by
 cases o with
 | var t cells=>exact .var (R.renL_id cells).symm
 | arr=>exact .arr
 | map=>exact .map
 | dead=>exact absurd rfl h
 | lp st j i e=>exact .lp (aJk e).symm
 | dfr=>exact .dfr
 | rarr te es l=>exact .rarr (aJi l).symm
 | tok r k=>exact .tok (R.ren_id r).symm
inductive Conv (h:cF):List Nat→V→V→Prop
 | refl {v}:Conv h [] v v
 | one {ids r c}:PureL h ids [r] [c]→Conv h ids (.one r) (.one (.c c))
 | agg {ids rs cs}:PureL h ids rs cs→Conv h ids (.ma rs) (.pa cs)
 | pa {ids l cs}:PureL h ids (l.map R.c) cs→Conv h ids (.pa l) (.pa cs)
inductive ArgsV (st:St):List Nat→List Operand→List V→Prop
 | nil:ArgsV st [] [] []
 | cons {ids ids' x xs v v' vs}:opv st x=some v→Conv st.h ids v v'→ArgsV st ids' xs vs→ArgsV st (ids++ids') (x::xs) (v'::vs)
theorem Conv.rel {S:Sto}{μ:Mu}{H H0:cF}{w:World}{ids:List Nat}{v v':V}{u:Value}(h:Conv H0 ids v v') (hi:∀i∈ids,H i=H0 i) (hO:∀id o,H id=some o→mB S μ H w id o) (hv:aS S μ H v u):aS S μ H v' u:=by
 cases h with
 | refl=>exact hv
 | @one _ r c h=>
  simp only[aS,aZ] at hv ⊢;have:=h.rel hi hO (vs:=[u]) (by simp only[aT];exact⟨u,[],rfl,hv,rfl⟩);simp only[bZ] at this;obtain⟨v,vs',h1,h2,q⟩:=this;cases h1;exact h2
 | @agg _ rs cs h=>
  simp only[aS] at hv ⊢;obtain⟨vs,h1,h2⟩:=hv;exact⟨vs,h1,h.rel hi hO h2⟩
 | @pa _ l cs h=>
  simp only[aS] at hv ⊢;obtain⟨vs,h1,h2⟩:=hv;exact⟨vs,h1,h.rel hi hO h2.toR⟩
def c7:List Operand→List Nat
 | []=>[]
 | x::xs=>opr x++c7 xs
theorem ArgsV.rel {G:Ctx}{n:Nat}{S:Sto}{μ:Mu}{st st':St}{a:Act}{w:World}(hs:Sim G n S μ st' a w):∀{ids:List Nat}{xs:List Operand}{vs:List V},ArgsV st ids xs vs→(∀t∈c7 xs,st'.e t=st.e t)→(∀i∈ids,st'.h i=st.h i)→b7 S μ st'.h vs (xs.map a.eval):=by
 intro ids xs vs h
 induction h with
 | nil=>intro _ _;simp[b7]
 | cons hx hc _ q=>
  intro ht hi;simp only[Ar,b7];refine⟨_,_,rfl,?_,q (fun t h=>ht t (by simp[c7,h])) fun i h=>hi i (by simp[h])⟩;exact hc.rel (fun i h=>hi i (by simp[h])) hs.inv.obj (aO hs hx fun t h=>ht t (by simp[c7,h]))
theorem Inv.hand {G:Ctx}{S:Sto}{μ:Mu}{H:cF}{w:World}{hin:List (Nat×AObj)}(h:Inv G S μ H w) (hh:∀id o,look hin id=some o→H id=some o∧o≠ .dead) (hc:subset (iN hin) (hin.map (·.1))=true):
  Inv ⟨w,S,kI μ (look hin),μ,look hin⟩ S μ (look hin) w:=by
 have q:∀i∈hin.map (·.1),Good H (look hin) (fun i=>i) i:=by
  intro i hi;obtain⟨o,ho⟩:=cW hi;obtain⟨h1,h2⟩:=hh i o ho;exact⟨o,o,h1,ho,.refl_id h2⟩
 refine⟨h.holds,fun id o ho=>?_,fun i j o o' b c c' hi hj hm u=>h.inj i j o o' b c c' (hh _ _ hi).1 (hh _ _ hj).1 hm u,fun i o b c hi hm=>.inr ⟨i,o,c,hi,hm⟩,FrameW.refl _ _ ⟨h.frame.tabAt,fun g y=>?_⟩,S.le_refl,fun b _ _=>⟨fun _=>rfl,rfl⟩,Evolve.refl _ _ _,h.fre⟩
 ·obtain⟨h1,h2⟩:=hh id o ho;exact(h.obj id o h1).ren (.refl_id h2) fun i hi=>q i (bY hc i (mN (bE ho) i hi))
 ·rintro⟨i,o,c,h1,h2⟩;have B:=(h.frame.tab.1 g y).1
  rcases h.own i o g c (hh i o h1).1 h2 with A | A
  ·omega
  ·exact h.frame.tab.2 g y A
def outs (l:List (Nat×AObj)):List (Nat×Option AObj):=l.map fun p=>(p.1,some p.2)
theorem aAe:∀(l:List (Nat×AObj)) (i:Nat),look (outs l) i=(look l i).map some
 | [],_=>rfl
 | (k,o)::l,i=>by
  simp only[outs,Ar,look];cases Nat.beq i k
  ·have:=aAe l i;unfold outs at this;simpa using this
  ·rfl
theorem iZ (H:cF) (l:List (Nat×AObj)) (i:Nat):jT H (outs l) i=match look l i with | some o=>some o | none=>H i:=by
 simp only[jT,aAe];cases look l i<;>rfl
theorem Inv.back {G:Ctx}{S S':Sto}{μ μ':Mu}{H:cF}{w w':World}{hin hout:List (Nat×AObj)}(h:Inv G S μ H w) (hh:∀id o,look hin id=some o→H id=some o)
  (hnew:∀id o,look hout id=some o→(∃o',look hin id=some o')∨H id=none)
  (h':Inv ⟨w,S,kI μ (look hin),μ,look hin⟩ S' μ' (look hout) w'):
  ∃B:Mu,(∀id o,look hout id=some o→B id=μ' id)∧Inv G S' B (jT H (outs hout)) w'∧Evolve S μ H S' B (jT H (outs hout))∧Evolve S' μ' (look hout) S' B (jT H (outs hout)):=by
 have hE:Evolve S μ (look hin) S' μ' (look hout):=h'.evo
 let B:Mu:=fun id=>match look hout id with | some _=>μ' id | none=>μ id
 have y:∀id o,look hout id=some o→B id=μ' id:=fun id o ho=>by simp only[B,ho]
 have M:∀id,look hout id=none→B id=μ id:=fun id ho=>by simp only[B,ho]
 have ab:∀id o,look hout id=some o→jT H (outs hout) id=some o:=fun id o ho=>by rw[iZ,ho]
 have O:∀id,look hout id=none→jT H (outs hout) id=H id:=fun id ho=>by rw[iZ,ho]
 have aa:∀id o,look hin id=some o→∃o',look hout id=some o':=fun id o ho=>by
  obtain⟨o',h1,_⟩:=hE.obj id o ho;exact⟨o',h1⟩
 have ac:Evolve S μ H S' B (jT H (outs hout)):=by
  refine⟨hE.le,fun id o ho=>?_⟩;cases hq:look hout id with
  | none=>exact⟨o,by rw[O id hq,ho],o.succ_refl (M id hq)⟩
  | some J=>
   rcases hnew id J hq with⟨o',hi⟩ | hi
   ·have:=hh id o' hi;rw[ho] at this;cases this;obtain⟨o3,h1,h2⟩:=hE.obj id o hi;rw[hq] at h1;cases h1;exact⟨J,ab id J hq,by rw[y id J hq];exact h2⟩
   ·rw[ho] at hi;cases hi
 have hE2:Evolve S' μ' (look hout) S' B (jT H (outs hout)):=⟨S'.le_refl,fun id o ho=>⟨o,ab id o ho,o.succ_refl (y id o ho)⟩⟩
 have Y:∀id o,H id=some o→look hout id=none→∀b c,μ id=some (b,c)→b<w.heap.size∧¬kI μ (look hin) b:=by
  intro id o ho hq b c hm;refine⟨(h.obj id o ho).lt hm,?_⟩;rintro⟨E,o',c',h1,h2⟩;have:=h.inj id E o o' b c c' ho (hh _ _ h1) hm h2;subst this;obtain⟨J,q⟩:=aa id o' h1;rw[hq] at q;cases q
 have I:∀id o b c,look hout id=some o→μ' id=some (b,c)→w.heap.size≤b∨kI μ (look hin) b:=fun id o b c ho hm=>h'.own id o b c ho hm
 refine⟨B,y,⟨h'.holds,fun id o ho=>?_,fun i j o o' b c c' hi hj hm A=>?_,fun i o b c hi hm=>?_,?_,Sto.le_trans h.sle hE.le,fun b hb hF=>?_,h.evo.trans ac,h'.fre⟩,ac,hE2⟩
 ·cases hq:look hout id with
  | some J=>
   rw[ab id J hq] at ho;cases ho;exact(h'.obj id _ hq).evolve hE2 (y id _ hq) fun b c hm=>⟨rfl,fun _=>rfl,rfl⟩
  | none=>
   rw[O id hq] at ho;refine(h.obj id o ho).evolve ac (M id hq) fun b c hm=>?_
   obtain⟨h1,h2⟩:=Y id o ho hq b c hm;exact⟨h'.frame.block b h1 h2,(h'.sto b h1 h2).1,(h'.sto b h1 h2).2⟩
 ·cases U:look hout i with
  | some oi=>
   rw[y i oi U] at hm;cases u:look hout j with
   | some oj=>
    rw[y j oj u] at A;exact h'.inj i j oi oj b c c' U u hm A
   | none=>
    rw[M j u] at A;rw[O j u] at hj;obtain⟨h1,h2⟩:=Y j o' hj u b c' A;rcases I i oi b c U hm with q | q
    ·omega
    ·exact absurd q h2
  | none=>
   rw[M i U] at hm;rw[O i U] at hi;obtain⟨h1,h2⟩:=Y i o hi U b c hm;cases u:look hout j with
   | some oj=>
    rw[y j oj u] at A;rcases I j oj b c' u A with q | q
    ·omega
    ·exact absurd q h2
   | none=>
    rw[M j u] at A;rw[O j u] at hj;exact h.inj i j o o' b c c' hi hj hm A
 ·cases hq:look hout i with
  | some J=>
   rw[y i J hq] at hm;rcases I i J b c hq hm with q | ⟨E,o',c',q,h4⟩
   ·exact .inl (le_trans h.frame.size q)
   ·exact h.own E o' b c' (hh _ _ q) h4
  | none=>
   rw[M i hq] at hm;rw[O i hq] at hi;exact h.own i o b c hi hm
 ·refine⟨h'.frame.os.trans h.frame.os,h'.frame.tape.trans h.frame.tape,h'.frame.output.trans h.frame.output,le_trans h.frame.size h'.frame.size,fun k hk hF=>?_,h.frame.tab⟩;rw[h'.frame.block k (A8 hk h.frame.size) ?_,h.frame.block k hk hF];rintro⟨E,o',c',q,h4⟩;rcases h.own E o' k c' (hh _ _ q) h4 with h5 | h5
  ·omega
  ·exact hF h5
 ·have hnf:¬kI μ (look hin) b:=by
   rintro⟨E,o',c',q,h4⟩;rcases h.own E o' b c' (hh _ _ q) h4 with h5 | h5
   ·omega
   ·exact hF h5
  have h1:=h'.sto b (A8 hb h.frame.size) hnf;have h2:=h.sto b hb hF;exact⟨fun o=>(h1.1 o).trans (h2.1 o),h1.2.trans h2.2⟩
section
variable {P:Program}{n:Nat}{o:Oper}{st:St}{d:Nat}
def keys {α:Type}(l:List (Nat×α)):List Nat:=l.map (·.1)
theorem tT {w:World}{S:Sto}{F:Nat→Prop}{μ:Mu}{hin:List (Nat×AObj)}:Ctx.keeps ⟨w,S,F,μ,look hin⟩ (keys hin):=
 ⟨fun id o ho=>C7.2 ⟨_,bE ho,rfl⟩,fun h1 h2=>by
  obtain⟨o,ho⟩:=cW h1;rw[show look hin 997=none from h2] at ho
  cases ho⟩
def AObj.live:AObj→Bool
 | .dead=>false
 | _=>true
def gG (args:List V) (hin:List (Nat×AObj)):Bool:=subset (V.refsL args) (keys hin)&&subset (iN hin) (keys hin)&&(hin.all fun p=>p.2.live)
theorem Step.call {f:FuncId}{ids q:List Nat}{args:List V}{hin hout:List (Nat×AObj)}{res:V}(U:o.dst=some d) (J:d<n) (Y:aW P f args hin res hout)
  (A:iM (fun p=>st.h p.1=some p.2) hin) (u:iM (fun p=>p.1∈keys hin∨st.h p.1=none) hout) (hok:gG args hin=true)
  (B:∀st',gS ⟨q,ids++keys hin++keys hout⟩ st st'→∀G S μ a w,Sim G n S μ st' a w→∃vals,(execOp a.eval o).run P w=.ok (.enter f ⟨vals⟩) w∧b7 S μ st'.h args vals):
  Step P n o st ⟨q,ids++keys hin++keys hout⟩ ⟨some (d,some res),outs hout⟩:=by
 intro st' ha G S μ a w K Q hs hk;obtain⟨vals,hr,hv⟩:=B st' ha G S μ a w hs;simp only[gG,π] at hok;obtain⟨⟨k1,k2⟩,k3⟩:=hok;have hh:∀id o,look hin id=some o→st'.h id=some o∧o≠ .dead:=by
  intro id o ho;have hm:=bE ho;have h1:=A.mem _ hm;refine⟨by rw[ha.2 id (by simp only[A4];exact .inl (.inr (C7.2 ⟨_,hm,rfl⟩)))];exact h1,?_⟩;have:=(A5.1 k3) _ hm;rintro rfl;simp[AObj.live] at this
 have E:∀id o,look hout id=some o→(∃o',look hin id=some o')∨st'.h id=none:=by
  intro id o ho;have hm:=bE ho;rcases u.mem _ hm with h1 | h1
  ·exact .inl (cW h1)
  ·exact .inr (by rw[ha.2 id (by simp only[A4];exact .inr (C7.2 ⟨_,hm,rfl⟩))];exact h1)
 have hI:=hs.inv.hand hh k2;have y:∀i∈keys hin,Good st'.h (look hin) (fun i=>i) i:=by
  intro i hi;obtain⟨o,ho⟩:=cW hi;obtain⟨h1,h2⟩:=hh i o ho;exact⟨o,o,h1,ho,.refl_id h2⟩
 have M:b7 S μ (look hin) args vals:=by
  have:=b7.ren (H:=st'.h) (H':=look hin) (σ:=fun i=>i) args vals (fun i hi=>y i (bY k1 i hi)) (by rw[V.renL_id];exact hv);exact this
 have hc:=Y S μ w vals hI M;refine fun ro=>lB hr ?_
 refine hc.mono fun e w' ⟨S',μ',v,he,O,I⟩=>?_
 subst he;obtain⟨μ2,q1,q2,q3,q4⟩:=hs.inv.back (fun id o ho=>(hh id o ho).1) E O;show K (a.put o.dst v) w';rw[U];refine hk S' μ2 _ _ ?_;exact hs.put q2 q3 J (x:=some res) fun z hz=>by cases hz;exact aS.evolve q4 _ _ I
def jO (P : Program) (f : FuncId) : Prop := ∃ fn, P.funcs[f]? = some fn ∧ (fn.name == "runtime.NumGoroutine") = false ∧ fn.body.isNone = false
theorem fF {f:FuncId}(hb:jO P f) (args:Array Value) (w:World):(callFunc f args).run P w=.ok (.enter f args) w:=by
 obtain⟨fn,h1,h2,q⟩:=hb;have hp:(program:Sem Program).run P w=.ok P w:=rfl;simp only[callFunc,Aa,hp,δ,h1,h2,q,Ax,Bw,Ad]
theorem aJ0 {f:FuncId}{xs:Array Operand}{ts:Array TypeId}{ids:List Nat}{args:List V}{res:V}(hin hout:List (Nat×AObj)) (hb:jO P f) (ho:o.op=.call { callee:=.value (.func f),args:=xs,argTypes:=ts }) (B:o.dst=some d) (A:d<n)
  (E:aW P f args hin res hout) (ha:ArgsV st ids xs.toList args) (y:iM (fun p=>st.h p.1=some p.2) hin) (q:iM (fun p=>p.1∈keys hin∨st.h p.1=none) hout) (hok:gG args hin=true):
  Step P n o st ⟨c7 xs.toList,ids++keys hin++keys hout⟩ ⟨some (d,some res),outs hout⟩:=by
 refine Step.call B A E y q hok fun st' u G S μ a w hs=>⟨xs.toList.map a.eval,?_,ha.rel hs u.1 fun i h=>u.2 i (by simp[h])⟩
 simp only[execOp,ho,resolve,Deferred.ofValue,Act.eval,Aa,Ad,δ,invoke,fF hb];congr 2;apply Array.ext';simp
theorem aJy {f:FuncId}{x:Operand}{caps:List R}{xs:Array Operand}{ts:Array TypeId}{ids:List Nat}{args:List V}{res:V}(hin hout:List (Nat×AObj)) (hb:jO P f) (ho:o.op=.call { callee:=.value x,args:=xs,argTypes:=ts }) (M:o.dst=some d) (I:d<n)
  (hx:opv st x=some (.one (.clo f caps))) (O:aW P f (args++caps.map V.one) hin res hout) (ha:ArgsV st ids xs.toList args) (y:iM (fun p=>st.h p.1=some p.2) hin) (u:iM (fun p=>p.1∈keys hin∨st.h p.1=none) hout) (hok:gG (args++caps.map V.one) hin=true):
  Step P n o st ⟨opr x++c7 xs.toList,ids++keys hin++keys hout⟩ ⟨some (d,some res),outs hout⟩:=by
 refine Step.call M I O y u hok fun st' q G S μ a w hs=>?_
 have hv:=aO hs hx fun t ht=>q.1 t (by simp[ht])
 simp only[aS,aZ] at hv;obtain⟨vs,h1,h2⟩:=hv;refine⟨xs.toList.map a.eval++vs,?_,?_⟩
 ·simp only[execOp,ho,resolve,h1,Deferred.ofValue,Aa,Ad,δ,invoke,fF hb];congr 2;apply Array.ext';simp
 ·have J:∀(l:List V) (us:List Value) (rs:List R) (vs:List Value),b7 S μ st'.h l us→aT S μ st'.h rs vs→b7 S μ st'.h (l++rs.map V.one) (us++vs):=by
   intro l
   induction l with
   | nil=>
    intro us rs vs h k;simp only[b7] at h;subst h;simp only[Av]
    induction rs generalizing vs with
    | nil=>simp only[aT] at k;subst k;simp[b7]
    | cons r rs A=>
     simp only[aT] at k;obtain⟨v,vs',rfl,B,E⟩:=k;simp only[Ar,b7];exact⟨v,vs',rfl,by simpa [aS] using B,A vs' E⟩
   | cons x l A=>
    intro us rs vs h k;simp only[b7] at h;obtain⟨v,vs',rfl,B,E⟩:=h;simp only[As,b7];exact⟨v,_,rfl,B,A vs' rs vs E k⟩
  exact J _ _ _ _ (ha.rel hs (fun t ht=>q.1 t (by simp[ht])) fun i h=>q.2 i (by simp[h])) h2
end
theorem Sim.freeze {G:Ctx}{n:Nat}{S:Sto}{μ:Mu}{a:Act}{w:World}{st:St}{id te es:Nat}{elems:List (List C)}{fz:Nat}(h:st.h id=some (.arr te es elems fz)) (hs:Sim G n S μ st a w):∃S' μ',Sim G n S' μ' ⟨st.e,upd st.h id (some (.arr te es elems 2)),st.d⟩ a w:=by
 have hO:=hs.inv.obj id _ h
 have M:∀S',S.le S'→Evolve S μ st.h S' μ (upd st.h id (some (.arr te es elems 2))):=fun S' hle=>⟨hle,fun j x hj=>by
  by_cases u:j=id
  ·subst u;rw[h] at hj;cases hj;exact⟨_,aN _ _ _,by simp[AObj.succ]⟩
  ·exact⟨x,by rw[bJ _ _ _ u];exact hj,x.succ_refl rfl⟩⟩
 have hold:∀j x,upd st.h id (some (.arr te es elems 2)) j=some x→∃U,st.h j=some U:=fun j x hj=>by
  by_cases u:j=id
  ·subst u;exact⟨_,h⟩
  ·rw[bJ _ _ _ u] at hj;exact⟨_,hj⟩
 obtain⟨h1,h2,Y,h4,h5,h6,h7,h8,O⟩:=hs.inv;obtain⟨g0,⟨g1,g2⟩ | ⟨b,base,cap,vs,g1,g2,g3,g4,g5,g6,g7,g8,g9⟩⟩:=hO
 ·--no block yet
  have B:=M S S.le_refl;refine⟨S,μ,⟨h1,fun j x hj=>?_,fun i j x U b c c' hi hj hm I=>?_,fun i x b c hi hm=>?_,h5,h6,h7,h8.trans B,O⟩,hs.size,hs.defers.evolve B,fun t v e=>aS.evolve B v _ (hs.env t v e)⟩
  ·by_cases u:j=id
   ·subst u;have y:some (AObj.arr te es elems 2)=some x:=by rw[←hj];exact(aN _ _ _).symm
    cases y;exact⟨g0,.inl ⟨g1,g2⟩⟩
   ·have y:st.h j=some x:=by rw[←hj];exact(bJ _ _ _ u).symm
    exact(h2 j x y).evolve B rfl fun _ _ _=>⟨rfl,fun _=>rfl,rfl⟩
  ·obtain⟨_,A⟩:=hold _ _ hi;obtain⟨_,y⟩:=hold _ _ hj;exact Y i j _ _ b c c' A y hm I
  ·obtain⟨_,A⟩:=hold _ _ hi;exact h4 i _ b c A hm
 ·let S':Sto:=⟨fun q o=>if q=b∧base≤o∧o<base+elems.length*es then vs[o]? else S.cell q o,S.mapo⟩
  have J:∀o v,S.cell b o=some v→vs[o]?=some v:=fun o v e=>by
   obtain⟨vs0,t0,fr0,p1,p2⟩:=h1.1 b o v e;rw[g2] at p1;cases p1;simpa using p2
  have hle:S.le S':=⟨fun q o v e=>by
   show(if q=b∧base≤o∧o<base+elems.length*es then vs[o]? else S.cell q o)=some v;by_cases hc:q=b∧base≤o∧o<base+elems.length*es
   ·rw[ζ hc];obtain⟨rfl,_⟩:=hc;exact J o v e
   ·rw[η hc];exact e,fun q m e=>⟨m,e,m.le_refl⟩⟩
  have B:=M S' hle;have E:∀q o,q≠b→S'.cell q o=S.cell q o:=fun q o u=>η fun hc=>u hc.1
  refine⟨S',μ,⟨⟨fun q o v e=>?_,h1.2⟩,fun j x hj=>?_,fun i j x U b c c' hi hj hm I=>?_,fun i x b c hi hm=>?_,h5,Sto.le_trans h6 hle,fun q hb hF=>?_,h8.trans B,fun q te' lo hi e o ho=>(E q o fun eb=>by rw[eb] at e;have e:S.mapo b=_:=e;rw[g5.2] at e;cases e).trans (O q te' lo hi e o ho)⟩,hs.size,hs.defers.evolve B,fun t v e=>aS.evolve B v _ (hs.env t v e)⟩
  ·by_cases hc:q=b∧base≤o∧o<base+elems.length*es
   ·have e':vs[o]?=some v:=by rw[←e];exact(ζ hc).symm
    obtain⟨rfl,_⟩:=hc;exact⟨⟨vs⟩,te,(0,0),g2,by simpa using e'⟩
   ·have e':S.cell q o=some v:=by rw[←e];exact(η hc).symm
    exact h1.1 q o v e'
  ·by_cases u:j=id
   ·subst u;have y:some (AObj.arr te es elems 2)=some x:=by rw[←hj];exact(aN _ _ _).symm
    cases y;refine⟨g0,.inr ⟨b,base,cap,vs,g1,g2,g3,g4,g5,bZ.mono hle _ _ g6,(fun e=>by cases e),fun o ho=>?_,fun _ i v hi=>?_⟩⟩
    ·show(if b=b∧base≤o∧o<base+elems.length*es then vs[o]? else S.cell b o)=none;rw[η (by omega)];exact g8 o ho
    ·rw[An] at hi;split at hi
     ·rw[Ao] at hi;show(if b=b∧base≤base+i∧base+i<base+elems.length*es then vs[base+i]? else S.cell b (base+i))=some v;rw[ζ ⟨rfl,by omega,by omega⟩];exact hi
     ·cases hi
   ·have y:st.h j=some x:=by rw[←hj];exact(bJ _ _ _ u).symm
    refine(h2 j x y).evolve B rfl fun q c' hm=>⟨rfl,fun o=>E q o ?_,rfl⟩
    rintro rfl;exact u (Y j id x _ q c' _ y h hm g1)
  ·obtain⟨_,A⟩:=hold _ _ hi;obtain⟨_,y⟩:=hold _ _ hj;exact Y i j _ _ b c c' A y hm I
  ·obtain⟨_,A⟩:=hold _ _ hi;exact h4 i _ b c A hm
  ·have u:q≠b:=by
    rintro rfl;rcases h4 id _ q _ h g1 with h9 | h9
    ·omega
    ·exact hF h9
   exact⟨fun o=>(E q o u).trans ((h7 q hb hF).1 o),(h7 q hb hF).2⟩
theorem Sub.freeze {kf:List Nat}{st:St}{id te es:Nat}{elems:List (List C)}{fz:Nat}(h:st.h id=some (.arr te es elems fz)):Sub kf ⟨st.e,upd st.h id (some (.arr te es elems 2)),st.d⟩ st:=
 fun _ _ _ _ _ _ _ hs=>hs.freeze h
theorem Inv.empty {G:Ctx}{S:Sto}{μ:Mu}{H:cF}{w:World}{id:Nat}(te es:Nat) (h:Inv G S μ H w) (hid:H id=none):Inv G S (upd μ id none) (upd H id (some (.arr te es [] 0))) w∧Evolve S μ H S (upd μ id none) (upd H id (some (.arr te es [] 0))):=by
 have y:Evolve S μ H S (upd μ id none) (upd H id (some (.arr te es [] 0))):=gM hid _ _;refine⟨⟨h.holds,fun j x hj=>?_,fun i j x A b c c' hi hj hm q=>?_,fun i x b c hi hm=>?_,h.frame,h.sle,h.sto,h.evo.trans y,h.fre⟩,y⟩
 ·by_cases u:j=id
  ·subst u;rw[aN] at hj;cases hj;exact⟨by simp,.inl ⟨aN _ _ _,rfl⟩⟩
  ·rw[bJ _ _ _ u] at hj;exact(h.obj j x hj).evolve y (bJ _ _ _ u) fun _ _ _=>⟨rfl,fun _=>rfl,rfl⟩
 ·have h1:i≠id:=fun e=>by subst e;rw[aN] at hm;cases hm
  have h2:j≠id:=fun e=>by subst e;rw[aN] at q;cases q
  rw[bJ _ _ _ h1] at hi hm;rw[bJ _ _ _ h2] at hj q;exact h.inj i j x A b c c' hi hj hm q
 ·have h1:i≠id:=fun e=>by subst e;rw[aN] at hm;cases hm
  rw[bJ _ _ _ h1] at hi hm;exact h.own i x b c hi hm
theorem Sub.own {kf:List Nat}{st:St}{t id:Nat}(te es:Nat) (h:st.e t=some (.one (.c .nl))) (hid:st.h id=none):Sub kf ⟨upd st.e t (some (.one (.hs id 0 0 0))),upd st.h id (some (.arr te es [] 0)),st.d⟩ st:=by
 intro G n S μ a w _ hs;obtain⟨hi,u⟩:=hs.inv.empty te es hid;refine⟨S,upd μ id none,⟨hi,hs.size,hs.defers.evolve u,fun s v e=>?_⟩⟩;by_cases q:s=t
 ·subst q;have hv:=hs.env s _ h;have e':v=.one (.hs id 0 0 0):=by
   have:some v=some (V.one (.hs id 0 0 0)):=by rw[←e];exact aN _ _ _
   cases this;rfl
  subst e';simp only[aS,aZ,Rep] at hv ⊢;exact⟨⟨_,_,_,hv⟩,.inr ⟨te,es,[],0,aN _ _ _,le_refl _,fun _=>⟨le_refl _,.inl ⟨aN _ _ _,rfl,hv⟩⟩⟩⟩
 ·have e':st.e s=some v:=by rw[←e];exact(bJ _ _ _ q).symm
  exact aS.evolve u v _ (hs.env s v e')
theorem Sub.ownCell {kf:List Nat}{st:St}{x k id tv:Nat}{cells:List R}(te es:Nat) (h:st.h x=some (.var tv cells)) (O:cells[k]?=some (.c .nl)) (hid:st.h id=none):
  Sub kf ⟨st.e,upd (upd st.h id (some (.arr te es [] 0))) x (some (.var tv (cells.set k (.hs id 0 0 0)))),st.d⟩ st:=by
 intro G n S μ a w _ hs;obtain⟨hi,U⟩:=hs.inv.empty te es hid;have M:x≠id:=fun e=>by subst e;rw[h] at hid;cases hid
 have hx:upd st.h id (some (.arr te es [] 0)) x=some (.var tv cells):=by rw[bJ _ _ _ M];exact h
 obtain⟨b,vs,g1,g2,g3,g4⟩:=hi.obj x _ hx
 have A:Evolve S (upd μ id none) (upd st.h id (some (.arr te es [] 0))) S (upd μ id none) (upd (upd st.h id (some (.arr te es [] 0))) x (some (.var tv (cells.set k (.hs id 0 0 0))))):=⟨S.le_refl,fun j y hj=>by
  by_cases q:j=x
  ·subst q;rw[hx] at hj;cases hj;exact⟨_,aN _ _ _,by simp[AObj.succ]⟩
  ·exact⟨y,by rw[bJ _ _ _ q];exact hj,y.succ_refl rfl⟩⟩
 have hold:∀j y,upd (upd st.h id (some (.arr te es [] 0))) x (some (.var tv (cells.set k (.hs id 0 0 0)))) j=some y→∃Y,upd st.h id (some (.arr te es [] 0)) j=some Y:=fun j y hj=>by
  by_cases q:j=x
  ·subst q;exact⟨_,hx⟩
  ·rw[bJ _ _ _ q] at hj;exact⟨_,hj⟩
 refine⟨S,upd μ id none,⟨⟨hi.holds,fun j y hj=>?_,fun i j y Y b c c' B hj hm aa=>?_,fun i y b c B hm=>?_,hi.frame,hi.sle,hi.sto,hi.evo.trans A,hi.fre⟩,hs.size,hs.defers.evolve (U.trans A),fun s v e=>aS.evolve (U.trans A) v _ (hs.env s v e)⟩⟩
 ·by_cases q:j=x
  ·subst q;have E:some (AObj.var tv (cells.set k (.hs id 0 0 0)))=some y:=by rw[←hj];exact(aN _ _ _).symm
   cases E;refine⟨b,vs,g1,g2,?_,g4⟩;have h3:=aT.evolve A _ _ g3;obtain⟨u,hu,I⟩:=g3.get k _ O;simp only[aZ,Rep] at I;have hkl:k<cells.length:=(Ah.1 O).1
   have J:cells.set k (.hs id 0 0 0)=bW cells k [.hs id 0 0 0]:=by
    unfold bW;rw[Cs,ζ hkl];simp
   have hvl:=g3.length;have hvs:vs=bW vs k [u]:=by
    unfold bW;apply Cv;intro i;simp only[Cf,ψ,Ai,ω,length_nil,An,Ao];have hm:min k vs.length=k:=by omega
    rw[hm];by_cases c1:i<k
    ·simp[c1,show i<k+1 by omega]
    ·by_cases c2:i=k
     ·subst c2;simp[hu]
     ·simp[show ¬i<k+1 by omega,show k+1+(i-(k+1))=i by omega]
   rw[J] at h3 ⊢;rw[hvs];refine vA h3 ?_;simp only[aT,aZ];exact⟨u,[],rfl,⟨⟨_,_,_,I⟩,.inr ⟨te,es,[],0,by rw[bJ _ _ _ M.symm];exact aN _ _ _,le_refl _,fun _=>⟨le_refl _,.inl ⟨aN _ _ _,rfl,I⟩⟩⟩⟩,rfl⟩
  ·have E:upd st.h id (some (.arr te es [] 0)) j=some y:=by rw[←hj];exact(bJ _ _ _ q).symm
   exact(hi.obj j y E).evolve A rfl fun _ _ _=>⟨rfl,fun _=>rfl,rfl⟩
 ·obtain⟨_,h1⟩:=hold _ _ B;obtain⟨_,h2⟩:=hold _ _ hj;exact hi.inj i j _ _ b c c' h1 h2 hm aa
 ·obtain⟨_,h1⟩:=hold _ _ B;exact hi.own i _ b c h1 hm
def aB7:Nat→List V→List (Nat×V)
 | _,[]=>[]
 | k,v::vs=>(k,v)::aB7 (k+1) vs
inductive ResV (T:TT) (st:St):List ResultVar→List V→Prop
 | nil:ResV T st [] []
 | tmp {t v rs vs}:st.e t=some v→ResV T st rs vs→ResV T st (.tmp t::rs) (v::vs)
 | cell {a t i id off tv cells v rs vs}:st.e a=some (.one (.vp id off))→T[t]?=some (some i)→st.h id=some (.var tv cells)→Nat.ble (off+i.size) cells.length=true→lO i ((cells.drop off).take i.size)=some v→ResV T st rs vs→
   ResV T st (.cell a t::rs) (v::vs)
inductive Convs (h:cF):List V→List V→Prop
 | nil:Convs h [] []
 | cons {ids v v' vs vs'}:Conv h ids v v'→Convs h vs vs'→Convs h (v::vs) (v'::vs')
def aIz:List Value→Value
 | [u]=>u
 | us=>.tuple ⟨us⟩
def aNy:List V→V
 | [v]=>v
 | vs=>.tup vs
theorem Convs.rel {S:Sto}{μ:Mu}{H:cF}{w:World}:∀{vs vs':List V}{us:List Value},Convs H vs vs'→(∀id o,H id=some o→mB S μ H w id o)→b7 S μ H vs us→b7 S μ H vs' us:=by
 intro vs vs' us h
 induction h generalizing us with
 | nil=>intro _ hv;exact hv
 | cons hc _ u=>
  intro hO hv;simp only[b7] at hv ⊢;obtain⟨v,q,rfl,h1,h2⟩:=hv;exact⟨v,q,rfl,hc.rel (fun _ _=>rfl) hO h1,u hO h2⟩
section
variable {P:Program}{T:TT}
theorem rS {G:Ctx}{n:Nat}{S:Sto}{μ:Mu}{st:St}{a:Act}{w:World}(E:Tok P T) (hs:Sim G n S μ st a w):∀{rs:List ResultVar}{vs:List V},ResV T st rs vs→
  ∃us,(rs.mapM fun(x:ResultVar)=>(match x with | .tmp t=>pure (a.tmps.getD t undef) | .cell p t=>do loadVar t (←asAddr (a.tmps.getD p undef)):Sem Value)).run P w=.ok us w∧b7 S μ st.h vs us:=by
 intro rs vs h
 induction h with
 | nil=>exact⟨[],by simp,by simp[b7]⟩
 | @tmp t v rs vs ht _ A=>
  obtain⟨us,h1,h2⟩:=A;refine⟨a.tmps.getD t undef::us,?_,?_⟩
  ·simp only[List.mapM_cons,Aa,Ad,δ,h1]
  ·simp only[b7];exact⟨_,_,rfl,hs.env _ _ ht,h2⟩
 | @cell p t i id off tv cells v rs vs ht hi hh hb hl _ A=>
  obtain⟨us,h1,h2⟩:=A;have hv:=hs.env _ _ ht;simp only[aS,aZ] at hv;obtain⟨U,cells',b,c,g1,g2,g3⟩:=hv;obtain⟨Y,ws,I,J,B,q4⟩:=hs.inv.obj id _ hh;rw[I] at g2;cases g2;have hlen:=Ap hb;have O:=B.length;have q:=run_load (E.get hi) w b off _ (lG J off i.size) (a2s (by omega));have y:=mV ((B.drop off).take i.size) hl;generalize (if i.k.agg then Value.agg ⟨(ws.drop off).take i.size⟩ else((ws.drop off).take i.size).headD undef)=u at q y;refine⟨u::us,?_,by simp only[b7];exact⟨_,_,rfl,y,h2⟩⟩
  ·simp only[Instr.loadAt,Instr.sureAddr,Aa,Ad,δ] at q;have M:(asAddr (a.tmps.getD p undef)).run P w=.ok ⟨b,off,none⟩ w:=by rw[g3];rfl
   simp only[List.mapM_cons,Aa,Ad,δ,M,q,h1]
theorem tB {G:Ctx}{n:Nat}{S:Sto}{μ:Mu}{st:St}{a:Act}{w:World}{fn:Func}{vs:List V}(q:Tok P T) (hs:Sim G n S μ st a w) (h:ResV T st fn.results.toList vs):
  ∃us,(results fn a.tmps).run P w=.ok (aIz us) w∧b7 S μ st.h vs us:=by
 obtain⟨us,h1,h2⟩:=rS q hs h;refine⟨us,?_,h2⟩;unfold results;rw[Array.mapM_eq_mapM_toList,Aa,Sem.run_map]
 erw [h1]
 simp only[δ,Ad];congr 1
 match us with
 | []=>simp[aIz]
 | [u]=>simp[aIz]
 | u::y::us=>simp[aIz]
def AObj.plain:AObj→Bool
 | .dfr=>false
 | _=>true
theorem aN7 {o:AObj}{p:Prop}(h:o.succ p .dfr):o=.dfr:=by cases o<;>simp only[AObj.succ] at h;rfl
theorem Sim.take {P:Program}{G:Ctx}{n:Nat}{S:Sto}{μ:Mu}{st:St}{a:Act}{w:World}{id:Nat}{ids:List Nat}(hs:Sim G n S μ st a w) (Y:st.d=id::ids) (hG:∀id,G.h0 id≠some .dfr):
  ∃b I w',a.defers={ target:=.collected b,args:= #[] }::I∧(Instr.takeDeferred b).run P w=.ok [] w'∧Sim G n S μ ⟨st.e,upd st.h id none,ids⟩ { a with defers:=I } w':=by
 have hm:=hs.defers;rw[Y] at hm;obtain⟨b,c,I,h1,h2,J,h4,h5,h6⟩:=hm;obtain⟨A,g1,g2,g3,g4⟩:=hs.inv.obj _ _ J;rw[h2] at g1;cases g1;have hlt:b<w.heap.size:=(Cp.1 g2).1
 have M:∀j,upd st.h id none j=none∨j≠id:=fun j=>by
  by_cases hj:j=id
  ·exact .inl (by rw[hj,aN])
  ·exact .inr hj
 have aPb:∀{j o},upd st.h id none j=some o→j≠id∧st.h j=some o:=by
  intro j o hj;rcases M j with h | h
  ·rw[h] at hj;cases hj
  ·exact⟨h,by rwa [bJ _ _ _ h] at hj⟩
 have O:Evo0 S μ st.h S μ (upd st.h id none):=⟨S.le_refl,fun j o hj ho=>by
  have q:j≠id:=by rintro rfl;rw[J] at hj;cases hj;exact ho rfl
  exact⟨o,by rw[bJ _ _ _ q];exact hj,o.succ_refl rfl⟩⟩
 refine⟨b,I,w.putObj b (.deferred none),h1,run_takeDeferred g2,⟨⟨⟨fun A o v e=>?_,fun A mk e=>?_⟩,fun j o hj=>?_,fun i j o o' B E c2 hi hj m1 m2=>?_,fun i o B E hi m1=>?_,?_,hs.inv.sle,hs.inv.sto,⟨hs.inv.evo.le,fun j o hj=>?_⟩,hs.inv.fre⟩,hs.size,?_,fun t v e=>aS.evolve0 O _ _ (hs.env t v e)⟩⟩
 ·obtain⟨vs,t,fr,u,y⟩:=hs.inv.holds.1 A o v e;have:A≠b:=by rintro rfl;rw[g3] at e;cases e
  exact⟨vs,t,fr,by rw[World.putObj_heap_other this];exact u,y⟩
 ·have:A≠b:=by rintro rfl;rw[g4] at e;cases e
  rw[World.putObj_heap_other this];exact hs.inv.holds.2 A mk e
 ·obtain⟨u,y⟩:=aPb hj;refine(hs.inv.obj j o y).evolve0 O rfl fun B E m1=>⟨World.putObj_heap_other ?_,fun _=>rfl,rfl⟩
  rintro rfl;exact u (hs.inv.inj j id o .dfr B E _ y J m1 h2)
 ·exact hs.inv.inj i j o o' B E c2 (aPb hi).2 (aPb hj).2 m1 m2
 ·exact hs.inv.own i o B E (aPb hi).2 m1
 ·obtain⟨f1,f2,f3,f4,f5,f6⟩:=hs.inv.frame;refine⟨f1,f2,f3,by simpa using f4,fun k hk hF=>?_,f6⟩;rw[World.putObj_heap_other (by omega)];exact f5 k hk hF
 ·obtain⟨o',u,y⟩:=hs.inv.evo.obj j o hj;have q:j≠id:=by
   rintro rfl;rw[J] at u;cases u;rw[aN7 y] at hj;exact hG _ hj
  exact⟨o',by show upd st.h id none j=some o';rw[bJ _ _ _ q];exact u,y⟩
 ·exact h6.go fun j hj U=>⟨rfl,by
   have q:j≠id:=by rintro rfl;exact h5 hj
   show upd st.h id none j=some .dfr
   rw[bJ _ _ _ q];exact U⟩
theorem Sim.leave {P:Program}{fn:Func}{R:Ending→World→Prop}{G:Ctx}{n:Nat}{S:Sto}{μ:Mu}(y:∀id,G.h0 id≠some .dfr):∀(ids:List Nat) {e:Nat→Option V}{h:cF}{a:Act}{w:World},Sim G n S μ ⟨e,h,ids⟩ a w→
  (∀h' w',(∀id o,h id=some o→o≠ .dfr→h' id=some o)→Sim G n S μ ⟨e,h',[]⟩ { a with defers:=[] } w'→∃v,(results fn a.tmps).run P w'=.ok v w'∧R (.returned v) w')→
  LeavesInM (Wd none) 0 P fn a.tmps R a.defers .returning w
 | [],e,h,a,w,hs,q=>by
  have J:a.defers=[]:=hs.defers;rw[J];refine q h w (fun _ _ h _=>h) ?_;obtain⟨h1,h2,A,M⟩:=hs;exact⟨h1,h2,rfl,M⟩
 | id::ids,e,h,a,w,hs,q=>by
  have A:h id=some .dfr:=by
   obtain⟨b,c,Y,q1,q2,O,_⟩:=hs.defers;exact O
  obtain⟨b,U,w',h1,h2,B⟩:=hs.take (P:=P) rfl y;rw[h1];refine⟨by simp,.inl ⟨b,w',rfl,h2,?_⟩⟩;refine Sim.leave y ids (a:={ a with defers:=U }) B fun h' E hh u=>q h' E (fun j o hj ho=>hh j o ?_ ho) u
  have I:j≠id:=by rintro rfl;rw[A] at hj;cases hj;exact ho rfl
  rw[bJ _ _ _ I];exact hj
structure Fin (T:TT) (fn:Func) (st:St) (hin:List (Nat×AObj)) (res:V) (hout:List (Nat×AObj)):Prop where
 ex:∃vs vs',ResV T st fn.results.toList vs∧Convs st.h vs vs'∧aNy vs'=res
 out:iM (fun p=>∃o,st.h p.1=some o∧Ole (fun i=>i) o p.2) hout
 ok:(subset res.refs (keys hout)&&subset (iN hout) (keys hout)&&distinct (keys hout)&&subset (keys hin) (keys hout)&&(hin.all fun p=>p.2.plain)&&(hout.all fun p=>p.2.plain))=true
theorem ResV.keep {st:St}{h':cF}{d:List Nat}(hh:∀id o,st.h id=some o→o≠ .dfr→h' id=some o):∀{rs:List ResultVar}{vs:List V},ResV T st rs vs→ResV T ⟨st.e,h',d⟩ rs vs:=by
 intro rs vs h
 induction h with
 | nil=>exact .nil
 | tmp h1 _ q=>exact .tmp h1 q
 | cell h1 h2 u y A _ q=>exact .cell h1 h2 (hh _ _ u (by simp)) y A q
theorem PureL.keep {h h':cF}(hh:∀id o,h id=some o→o≠ .dfr→h' id=some o):∀{ids:List Nat}{rs:List R}{cs:List C},PureL h ids rs cs→PureL h' ids rs cs:=by
 intro ids rs cs k
 induction k with
 | nil=>exact .nil
 | c h1 _ q=>exact .c h1 q
 | hs h1 h2 u _ q=>exact .hs (hh _ _ h1 (by simp)) h2 u q
 | any _ q=>exact .any q
 | fn _ q=>exact .fn q
 | ras h0 _ h1 h2 u _ y q=>exact .ras h0 y h1 h2 u q
theorem Convs.keep {h h':cF}(hh:∀id o,h id=some o→o≠ .dfr→h' id=some o):∀{vs vs':List V},Convs h vs vs'→Convs h' vs vs':=by
 intro vs vs' k
 induction k with
 | nil=>exact .nil
 | @cons ids v v' vs vs' h1 _ q=>
  refine .cons (ids:=ids) ?_ q;cases h1 with
  | refl=>exact .refl
  | one h=>exact .one (h.keep hh)
  | agg h=>exact .agg (h.keep hh)
  | pa h=>exact .pa (h.keep hh)
theorem a2l {X:Sto→Prop}{kf:List Nat}{f:FuncId}{fn:Func}{c:Code}{n:Nat}{args:List V}{hin hout:List (Nat×AObj)}{res:V}(hX:∀S μ w,X S→Ctx.keeps ⟨w,S,kI μ (look hin),μ,look hin⟩ kf) (hT:Tok P T) (hf:P.funcs[f]?=some fn) (hb:fn.body=some c) (hn:fn.ntmps=n) (hle:Nat.ble args.length n=true)
  (h:AWp none P n kf c (mk (aB7 0 args) hin) (fun ex st=>(ex=.normal∨ex=.ret)∧Fin T fn st hin res hout)):∀S μ w vals,X S→Inv ⟨w,S,kI μ (look hin),μ,look hin⟩ S μ (look hin) w→b7 S μ (look hin) args vals→
  Calls P f ⟨vals⟩ w fun e w'=>∃S' μ' v,e=.returned v∧Inv ⟨w,S,kI μ (look hin),μ,look hin⟩ S' μ' (look hout) w'∧aS S' μ' (look hout) res v:=by
 intro S μ w vals hXS hI hv;refine(Wd.calls (ro:=none) (n:=0)).1 (callsIn_of_wp_marks hf hb trivial ?_);have hvl:∀(l:List V) (us:List Value),b7 S μ (look hin) l us→us.length=l.length:=by
  intro l
  induction l with
  | nil=>intro us h;simp only[b7] at h;subst h;rfl
  | cons x l J=>
   intro us h;simp only[b7] at h;obtain⟨v,vs',rfl,_,h2⟩:=h;simp[J _ h2]
 have hvals:=hvl _ _ hv;have hle':=Ap hle;have U:=hX S μ w hXS;refine h ⟨w,S,kI μ (look hin),μ,look hin⟩ S μ _ w _ ⟨U,trivial⟩ ⟨hI,by simp;omega,rfl,fun t v ht=>?_⟩ ?_
 ·have key:∀(l:List V) (us:List Value) (k:Nat),b7 S μ (look hin) l us→look (aB7 k l) t=some v→∃j,t=k+j∧∃u,us[j]?=some u∧aS S μ (look hin) v u:=by
   intro l
   induction l with
   | nil=>intro us k _ h;simp[aB7,look] at h
   | cons x l J=>
    intro us k I hl;simp only[b7] at I;obtain⟨u,M,rfl,h1,h2⟩:=I;simp only[aB7,look] at hl;split at hl
    ·rename_i hbq;cases hl;exact⟨0,by rw[τ hbq];rfl,u,rfl,h1⟩
    ·obtain⟨j,A,u',h4,h5⟩:=J M (k+1) h2 hl;exact⟨j+1,by omega,u',by simpa using h4,h5⟩
  obtain⟨j,h1,u,h2,A⟩:=key args vals 0 hv ht;rw[Bk] at h1;subst h1;have hj:t<vals.length:=(Ah.1 h2).1
  have:((⟨vals⟩:Array Value)++Array.replicate (fn.ntmps-(⟨vals⟩:Array Value).size) undef).getD t undef=u:=by
   rw[Ag,B4 (by simpa using hj)];simp[h2]
  show aS S μ (look hin) v (((⟨vals⟩:Array Value)++Array.replicate (fn.ntmps-(⟨vals⟩:Array Value).size) undef).getD t undef);rw[this];exact A
 ·intro ex st' S' μ' a' w' ⟨hex,hfin⟩ hs;obtain⟨⟨vs,vs',I,hc,hres⟩,y,hok⟩:=hfin;simp only[π] at hok;obtain⟨⟨⟨⟨⟨k1,k2⟩,k3⟩,k4⟩,k5⟩,k6⟩:=hok;have E:LeavesInM (Wd none) 0 P fn a'.tmps (fun e w'=>∃S' μ' v,e=.returned v∧Inv ⟨w,S,kI μ (look hin),μ,look hin⟩ S' μ' (look hout) w'∧aS S' μ' (look hout) res v) a'.defers .returning w':=by
   refine Sim.leave (G:=⟨w,S,kI μ (look hin),μ,look hin⟩) (n:=n) (S:=S') (μ:=μ') (fun id e=>?_) st'.d (e:=st'.e) (h:=st'.h) hs fun h' w'' hh hs=>?_
   ·have:=(A5.1 k5) _ (bE (show look hin id=some .dfr from e));cases this
   have I:ResV T ⟨st'.e,h',[]⟩ fn.results.toList vs:=ResV.keep (fun id o ho O=>hh id o ho O) I;have hc:Convs h' vs vs':=hc.keep fun id o ho O=>hh id o ho O
   have y:iM (fun p=>∃o,h' p.1=some o∧Ole (fun i=>i) o p.2) hout:=by
    have hk:∀l:List (Nat×AObj),(∀p∈l,p∈hout)→iM (fun p=>∃o,h' p.1=some o∧Ole (fun i=>i) o p.2) l:=by
     intro l
     induction l with
     | nil=>intro _;trivial
     | cons p l J=>
      intro hl;refine⟨?_,J fun q hq=>hl q (by simp[hq])⟩;obtain⟨o,g1,g2⟩:=y.mem p (hl p (by simp));refine⟨o,hh _ _ g1 ?_,g2⟩;rintro rfl;have hp:=(A5.1 k6) p (hl p (by simp));cases hq:p.2<;>rw[hq] at g2 hp<;>cases g2;cases hp
    exact hk hout fun p hp=>hp
   obtain⟨us,h1,h2⟩:=tB hT hs I;refine⟨_,h1,?_⟩;have A:=hc.rel hs.inv.obj h2;have B:∀i∈keys hout,Good h' (look hout) (fun i=>i) i:=by
    intro i hi;obtain⟨o',Y⟩:=cW hi;obtain⟨o,g1,g2⟩:=y.mem _ (bE Y);exact⟨o,o',g1,Y,g2⟩
   have hv4:aS S' μ' h' res (aIz us):=by
    rw[←hres]
    match vs',us,A with
    | [],us,A=>simp only[b7] at A;subst A;simp[aNy,aIz,aS,b7]
    | [v],us,A=>
     simp only[b7] at A;obtain⟨u,M,rfl,h5,rfl⟩:=A;exact h5
    | v::v'::l,us,A=>
     have aa:=A;simp only[b7] at aa;obtain⟨u,M,rfl,_,u',us'',rfl,_,_⟩:=aa;simp only[aNy,aIz,aS];exact⟨_,rfl,A⟩
   have hI':Inv ⟨w,S,kI μ (look hin),μ,look hin⟩ S' μ' (look hout) w'':=by
    refine⟨hs.inv.holds,fun id o ho=>?_,fun i j o o' b c c' hi hj hm hm'=>?_,fun i o b c hi hm=>?_,hs.inv.frame,hs.inv.sle,hs.inv.sto,⟨hs.inv.evo.le,fun id o ho=>?_⟩,hs.inv.fre⟩
    ·obtain⟨o1,g1,g2⟩:=y.mem _ (bE ho);exact(hs.inv.obj _ _ g1).ren g2 fun i hi=>B i (bY k2 i (mN (bE ho) i hi))
    ·obtain⟨o1,g1,g2⟩:=y.mem _ (bE hi);obtain⟨o2,g3,g4⟩:=y.mem _ (bE hj);exact hs.inv.inj _ _ _ _ b c c' g1 g3 hm hm'
    ·obtain⟨o1,g1,g2⟩:=y.mem _ (bE hi);exact hs.inv.own _ _ b c g1 hm
    ·obtain⟨o',(g1:h' id=some o'),g2⟩:=hs.inv.evo.obj id o ho;have hk:id∈keys hin:=C7.2 ⟨_,bE (show look hin id=some o from ho),rfl⟩;obtain⟨o1,o2,g3,g4,g5⟩:=B id (bY k4 id hk);rw[g1] at g3;cases g3;exact⟨o2,g4,AObj.succ_trans g2 g5.succ fun e _=>e⟩
   have hR:aS S' μ' (look hout) res (aIz us):=by
    have:=aS.ren (H:=h') (H':=look hout) (σ:=fun i=>i) res _ (fun i hi=>B i (bY k1 i hi)) (by rw[V.ren_id];exact hv4);exact this
   exact⟨S',μ',_,rfl,hI',hR⟩
  rcases hex with rfl | rfl
  ·exact E
  ·exact E
end
section
variable {P:Program}{T:TT}
theorem b9 {f:FuncId}{fn:Func}{c:Code}{n:Nat}{args:List V}{hin hout:List (Nat×AObj)}{res:V}(q:Tok P T) (u:P.funcs[f]?=some fn) (hb:fn.body=some c) (hn:fn.ntmps=n) (hle:Nat.ble args.length n=true)
  (h:AWp none P n (keys hin) c (mk (aB7 0 args) hin) (fun ex st=>(ex=.normal∨ex=.ret)∧Fin T fn st hin res hout)):aW P f args hin res hout:=
 fun S μ w vals y hv=>a2l (X:=fun _=>True) (fun _ _ _ _=>tT) q u hb hn hle h S μ w vals trivial y hv
end
abbrev pan (v:Value):Exit:=.panic [{ v:=v,recovered:=false }]
def aGs (P:Program) (f:FuncId) (args:List V) (hin:List (Nat×AObj)) (v:Value):Prop:=
 ∀S μ w vals,Inv ⟨w,S,kI μ (look hin),μ,look hin⟩ S μ (look hin) w→b7 S μ (look hin) args vals→
  Calls P f ⟨vals⟩ w fun e w'=>∃S' μ' hout,e=.panicked [{ v:=v,recovered:=false }]∧(∀id o,look hout id=some o→∃o',look hin id=some o')∧Inv ⟨w,S,kI μ (look hin),μ,look hin⟩ S' μ' (look hout) w'
def aQ2 (v:Value) (P:Program) (n:Nat) (o:Oper) (st:St) (rd:Rd):Prop:=
 ∀st',gS rd st st'→∀G S μ a w (K:Act→World→Prop) (Q:Exit→Act→World→Prop),Sim G n S μ st' a w→
  (∀S' μ' e h a' w',Sim G n S' μ' ⟨e,h,st'.d⟩ a' w'→Q (pan v) a' w')→∀ro,o.wpIn (Wd ro) 0 P a w K Q
def qD (v:Value) (P:Program) (n:Nat) (ops:Array Oper) (i:Nat) (st:St) (rd:Rd):Prop:=
 ∀st',gS rd st st'→∀G S μ a w (K:Act→World→Prop) (Q:Exit→Act→World→Prop),Sim G n S μ st' a w→
  (∀S' μ' e h a' w',Sim G n S' μ' ⟨e,h,st'.d⟩ a' w'→Q (pan v) a' w')→∀ro,wpOpIn (Wd ro) 0 P ops Q i K a w
section
variable {P:Program}{n:Nat}{o:Oper}{ops:Array Oper}{i:Nat}{st:St}{rd:Rd}{v:Value}
theorem qD.plain (ho:ops[i]?=some o) (q:o.guard=none) (h:aQ2 v P n o st rd):qD v P n ops i st rd:=by
 intro st' ha G S μ a w K Q hs u ro;unfold wpOpIn;simp only[ho];rw[ζ (by simp[Region.wanted,q])];exact h st' ha G S μ a w K Q hs u ro
theorem Step.callP {f:FuncId}{ids q:List Nat}{args:List V}{hin:List (Nat×AObj)}(M:aGs P f args hin v)
  (y:iM (fun p=>st.h p.1=some p.2) hin) (hok:gG args hin=true)
  (A:∀st',gS ⟨q,ids++keys hin⟩ st st'→∀G S μ a w,Sim G n S μ st' a w→∃vals,(execOp a.eval o).run P w=.ok (.enter f ⟨vals⟩) w∧b7 S μ st'.h args vals):
  aQ2 v P n o st ⟨q,ids++keys hin⟩:=by
 intro st' ha G S μ a w K Q hs O;obtain⟨vals,U,hv⟩:=A st' ha G S μ a w hs;simp only[gG,π] at hok;obtain⟨⟨Y,k2⟩,k3⟩:=hok;have hh:∀id o,look hin id=some o→st'.h id=some o∧o≠ .dead:=by
  intro id o ho;have hm:=bE ho;have h1:=y.mem _ hm;refine⟨by rw[ha.2 id (by simp only[A4];exact .inr (C7.2 ⟨_,hm,rfl⟩))];exact h1,?_⟩;have:=(A5.1 k3) _ hm;rintro rfl;simp[AObj.live] at this
 have hI:=hs.inv.hand hh k2;have u:∀i∈keys hin,Good st'.h (look hin) (fun i=>i) i:=by
  intro i hi;obtain⟨o,ho⟩:=cW hi;obtain⟨h1,h2⟩:=hh i o ho;exact⟨o,o,h1,ho,.refl_id h2⟩
 have E:b7 S μ (look hin) args vals:=by
  have:=b7.ren (H:=st'.h) (H':=look hin) (σ:=fun i=>i) args vals (fun i hi=>u i (bY Y i hi)) (by rw[V.renL_id];exact hv);exact this
 have hc:=M S μ w vals hI E;refine fun ro=>lB U ?_
 refine hc.mono fun e w' ⟨S',μ',hout,he,B,I⟩=>?_
 subst he;obtain⟨μ2,q1,q2,J,q4⟩:=hs.inv.back (fun id o ho=>(hh id o ho).1) (fun id o ho=>.inl (B id o ho)) I;exact O S' μ2 st'.e _ a w' ⟨q2,hs.size,hs.defers.evolve J,fun t v e=>aS.evolve J v _ (hs.env t v e)⟩
theorem aJz {f:FuncId}{xs:Array Operand}{ts:Array TypeId}{ids:List Nat}{args:List V}(hin:List (Nat×AObj)) (hb:jO P f) (ho:o.op=.call { callee:=.value (.func f),args:=xs,argTypes:=ts })
  (y:aGs P f args hin v) (ha:ArgsV st ids xs.toList args) (u:iM (fun p=>st.h p.1=some p.2) hin) (hok:gG args hin=true):aQ2 v P n o st ⟨c7 xs.toList,ids++keys hin⟩:=by
 refine Step.callP y u hok fun st' q G S μ a w hs=>⟨xs.toList.map a.eval,?_,ha.rel hs q.1 fun i h=>q.2 i (by simp[h])⟩
 simp only[execOp,ho,resolve,Deferred.ofValue,Act.eval,Aa,Ad,δ,invoke,fF hb];congr 2;apply Array.ext';simp
theorem aOr {f:FuncId}{x:Operand}{caps:List R}{xs:Array Operand}{ts:Array TypeId}{ids:List Nat}{args:List V}(hin:List (Nat×AObj)) (hb:jO P f) (ho:o.op=.call { callee:=.value x,args:=xs,argTypes:=ts })
  (hx:opv st x=some (.one (.clo f caps))) (I:aGs P f (args++caps.map V.one) hin v) (ha:ArgsV st ids xs.toList args) (u:iM (fun p=>st.h p.1=some p.2) hin) (hok:gG (args++caps.map V.one) hin=true):
  aQ2 v P n o st ⟨opr x++c7 xs.toList,ids++keys hin⟩:=by
 refine Step.callP I u hok fun st' q G S μ a w hs=>?_
 have hv:=aO hs hx fun t ht=>q.1 t (by simp[ht])
 simp only[aS,aZ] at hv;obtain⟨vs,h1,h2⟩:=hv;refine⟨xs.toList.map a.eval++vs,?_,?_⟩
 ·simp only[execOp,ho,resolve,h1,Deferred.ofValue,Aa,Ad,δ,invoke,fF hb];congr 2;apply Array.ext';simp
 ·have E:∀(l:List V) (us:List Value) (rs:List R) (vs:List Value),b7 S μ st'.h l us→aT S μ st'.h rs vs→b7 S μ st'.h (l++rs.map V.one) (us++vs):=by
   intro l
   induction l with
   | nil=>
    intro us rs vs h k;simp only[b7] at h;subst h;simp only[Av]
    induction rs generalizing vs with
    | nil=>simp only[aT] at k;subst k;simp[b7]
    | cons r rs y=>
     simp only[aT] at k;obtain⟨v,vs',rfl,A,B⟩:=k;simp only[Ar,b7];exact⟨v,vs',rfl,by simpa [aS] using A,y vs' B⟩
   | cons x l y=>
    intro us rs vs h k;simp only[b7] at h;obtain⟨v,vs',rfl,A,B⟩:=h;simp only[As,b7];exact⟨v,_,rfl,A,y vs' rs vs B k⟩
  exact E _ _ _ _ (ha.rel hs (fun t ht=>q.1 t (by simp[ht])) fun i h=>q.2 i (by simp[h])) h2
end
inductive RunP (v:Value) (p:Nat) (P:Program) (n:Nat) (ops:Array Oper):Nat→St→REs→St→Prop
 | nil {k st}:RunP v p P n ops k st [] st
 | cons {k st rd f xs st'}:k≠p→GStep P n ops k st rd f→RunP v p P n ops (k+1) (f.apply st) xs st'→RunP v p P n ops k st ((rd,f)::xs) st'
 | pan {st rd f xs st'}:qD v P n ops p st rd→RunP v p P n ops (p+1) (f.apply st) xs st'→RunP v p P n ops p st ((rd,f)::xs) st'
theorem Run.toP {v:Value}{p:Nat}{P:Program}{n:Nat}{ops:Array Oper}{k:Nat}{st st':St}{xs:REs}(h:Run P n ops k st xs st') (hp:p<k):RunP v p P n ops k st xs st':=by
 induction h with
 | nil=>exact .nil
 | cons q _ u=>exact .cons (by omega) q (u (by omega))
theorem fold_zero {k:Nat}:∀(q:REs) (m:Nat) (s:St),k<m→cH (fun j=>decide (j<k+0)) m q s=s:=by
 intro q
 induction q with
 | nil=>intro m s _;rfl
 | cons y q u=>
  intro m s hm;simp only[cH];have:decide (m<k+0)=false:=by simp;omega
  rw[this,Bq];exact u (m+1) _ (by omega)
theorem RunP.at {v:Value}{p:Nat}{P:Program}{n:Nat}{ops:Array Oper}{k:Nat}{st st':St}{xs:REs}(h:RunP v p P n ops k st xs st'):∀(i:Nat) (x:Rd×Eff),xs[i]?=some x→
  (k+i≠p→GStep P n ops (k+i) (cH (fun j=>decide (j<k+i)) k xs st) x.1 x.2)∧(k+i=p→qD v P n ops (k+i) (cH (fun j=>decide (j<k+i)) k xs st) x.1):=by
 induction h with
 | nil=>intro i x hx;simp at hx
 | @cons k st rd f xs st' A u B y=>
  intro i x hx;cases i with
  | zero=>
   simp at hx;subst hx;simp only[cH];have:decide (k<k+0)=false:=by simp
   rw[this,Bq,fold_zero xs (k+1) st (by omega)];exact⟨fun _=>u,fun e=>absurd e A⟩
  | succ i=>
   simp at hx;have:=y i x hx;simp only[cH];have q:decide (k<k+(i+1))=true:=by simp
   rw[q,B1];rw[show k+(i+1)=k+1+i by omega];exact this
 | @pan st rd f xs st' u B y=>
  intro i x hx;cases i with
  | zero=>
   simp at hx;subst hx;simp only[cH];have:decide (p<p+0)=false:=by simp
   rw[this,Bq,fold_zero xs (p+1) st (by omega)];exact⟨fun e=>absurd rfl e,fun _=>u⟩
  | succ i=>
   simp at hx;have:=y i x hx;simp only[cH];have q:decide (p<p+(i+1))=true:=by simp
   rw[q,B1];rw[show p+(i+1)=p+1+i by omega];exact this
theorem aD9 {v:Value}{p:Nat}{P:Program}{n:Nat}{ops:Array Oper}{G:Ctx}{st st':St}{xs:REs}{Q:Exit→Act→World→Prop}(hr:RunP v p P n ops 0 st xs st') (hlen:xs.length=ops.size)
  (hap:dA (preds ops) xs []=true) (hed:eJ ops=true) (hp:p<ops.size)
  (hQ:∀S' μ' e h a' w',Sim G n S' μ' ⟨e,h,st.d⟩ a' w'→Q (pan v) a' w'):
  ∀(fuel:Nat) (listed:Array Bool),listed.size=ops.size→((List.range ops.size).filter fun i=>!listed.getD i false).length=fuel→vX ops listed→listed.getD p false=false→
   ∀S μ a w,Sim G n S μ (cH (fun j=>listed.getD j false) 0 xs st) a w→∀ro,wpAnyIn (Wd ro) 0 P .any ops Q fuel listed a w:=by
 have hfin:∀(listed:Array Bool),listed.size=ops.size→Region.ready .any ops listed=[]→listed.getD p false=false→False:=by
  intro listed hl hre A;have hall:∀i,i<ops.size→listed.getD i false=true:=by
   intro i
   induction i using Nat.strongRecOn with
   | _ i ih=>
    intro hi;cases hc:listed.getD i false with
    | true=>rfl
    | false=>
     exfalso;have:i∈Region.ready .any ops listed:=by
      simp only[Region.ready,mem_filter,mem_range,π,Bn];refine⟨hi,by rw[jI (by omega)];exact hc,?_⟩;have ho:ops[i]?=some ops[i]:=by simp[hi]
      simp only[ho,B9,Cm];refine Array.all_eq_true_iff_forall_mem.2 fun e he=>?_
      have hlt:=(A5.1 hed) (ops[i],i) (by
       rw[List.mem_iff_getElem?]
       exact⟨i,by simp[hi]⟩)
      have u:=(A5.1 hlt) e (by simpa using he);simp only[Bool.or_eq_true,Bn,decide_eq_true_eq] at u ⊢;rcases u with u | u
      ·exact .inl u
      ·exact .inr (ih e.on u (by omega))
     rw[hre] at this;simp at this
  rw[hall p hp] at A;cases A
 intro fuel
 induction fuel with
 | zero=>
  intro listed hl hf _ A S μ a w hs;have:p∈(List.range ops.size).filter fun i=>!listed.getD i false:=by simp only[mem_filter,mem_range,Bn];exact⟨hp,A⟩
  rw[Aw hf] at this;simp at this
 | succ fuel ih=>
  intro listed hl hf hcl A S μ a w hs ro;refine⟨fun hre=>(hfin listed hl hre A).elim,fun i hi=>?_⟩;obtain⟨h1,h2,h3⟩:=qR hl hi;have hx:xs[i]?=some xs[i]:=by simp[hlen,h1]
  have ho:ops[i]?=some ops[i]:=by simp[h1]
  have hcl':vX ops (listed.setIfInBounds i true):=by
   intro j o hj B e he hb;simp only[Ag,Ba] at B ⊢;have hmon:listed.getD e.on false=true→(if i=e.on then if i<listed.size then some true else none else listed[e.on]?).getD false=true:=by
    intro hh;split
    ·simp[hl,h1]
    ·rwa [Ag] at hh
   by_cases Y:i=j
   ·subst Y;exact hmon (h3 o hj e he hb)
   ·rw[η Y] at B;exact hmon (hcl j o hj (by rwa [Ag]) e he hb)
  have hpd:∀(L:Array Bool),vX ops L→∀k p,(preds ops)[k]?=some p→L.getD k false=true→∀j∈p,L.getD j false=true:=by
   intro L hL k p hp E;refine rC (fun j=>L.getD j false) ops.toList [] (by simp) ?_ k p hp E;intro k' o ho' hl' e he hb;exact hL k' o (by simpa using ho') (by simpa using hl') e he hb
  have J:(listed.setIfInBounds i true).getD i false=true:=by simp[hl,h1]
  have hold:∀j,j≠i→(listed.setIfInBounds i true).getD j false=listed.getD j false:=by
   intro j hj;simp only[Ag,Ba];rw[η (fun e=>hj e.symm)]
  have hdis1:∀j y,xs[j]?=some y→j<i→listed.getD j false=false→indep y xs[i]=true:=by
   intro j y hy hji B;obtain⟨p,hp,M⟩:=kF _ _ _ hap i _ hx;rcases M j y (by simpa using hji) (by simpa using hy) with hm | hm
   ·have:=hpd _ hcl' i p hp J j hm;rw[hold j (by omega)] at this;rw[this] at B;cases B
   ·exact hm
  have aa:∀j y,xs[j]?=some y→i<j→listed.getD j false=true→indep xs[i] y=true:=by
   intro j y hy Y B;obtain⟨p,hp,M⟩:=kF _ _ _ hap j _ hy;rcases M i xs[i] (by simpa using Y) (by simp) with hm | hm
   ·have:=hpd _ hcl j p hp B i hm;rw[this] at h2;cases h2
   ·exact hm
  have hg:=hr.at i _ hx;simp only[Bk] at hg;have hag:gS xs[i].1 (cH (fun j=>decide (j<i)) 0 xs st) (cH (fun j=>listed.getD j false) 0 xs st):=by
   have key:∀k x,xs[k]?=some x→listed.getD (0+k) false≠decide (0+k<i)→(∀t∈xs[i].1.e,t∉x.2.we)∧(∀t∈xs[i].1.h,t∉x.2.wh):=by
    intro k x E q;rw[Bk] at q;by_cases hki:k<i
    ·have I:listed.getD k false=false:=by
      cases hc:listed.getD k false with
      | false=>rfl
      | true=>simp[hc,hki] at q
     have O:=hdis1 k x E hki I;simp only[indep,π] at O;obtain⟨⟨⟨d1,d2⟩,d3⟩,d4⟩:=O;exact⟨fun t ht hw=>dW d1 t hw (by simp[ht]),fun t ht hw=>dW d2 t hw (by simp[ht])⟩
    ·by_cases hke:k=i
     ·subst hke;rw[h2] at q;simp at q
     ·have I:listed.getD k false=true:=by
       cases hc:listed.getD k false with
       | true=>rfl
       | false=>simp[hc,hki] at q
      have O:=aa k x E (by omega) I;simp only[indep,π] at O;obtain⟨⟨⟨d1,d2⟩,d3⟩,d4⟩:=O;exact⟨fun t ht hw=>dW d3 t hw ht,fun t ht hw=>dW d4 t hw ht⟩
   exact⟨fun t ht=>qW t xs 0 _ _ _ _ rfl fun k x E q=>(key k x E q).1 t ht,fun t ht=>qV t xs 0 _ _ _ _ rfl fun k x E q=>(key k x E q).2 t ht⟩
  by_cases hip:i=p
  ·refine hg.2 hip _ hag G S μ a w _ Q hs (fun S' μ' e h a' w' U=>?_) ro;rw[xN] at U;exact hQ S' μ' e h a' w' U
  refine hg.1 hip _ hag G S μ a w _ Q hs (fun S' μ' a' w' U=>?_) ro;refine ih (listed.setIfInBounds i true) (by simp[hl]) ?_ hcl' (by rw[hold p (fun e=>hip e.symm)];exact A) S' μ' a' w' ?_ ro
  ·--one fewer is left
   have:∀(l:List Nat),l.Nodup→i∈l→((l.filter fun j=>!listed.getD j false).length=((l.filter fun j=>!(listed.setIfInBounds i true).getD j false).length)+1):=by
    intro l
    induction l with
    | nil=>intro _ h;simp at h
    | cons b l ihl=>
     intro hnd hmem;have hnd':=(nodup_cons.1 hnd)
     by_cases hb:b=i
     ·subst hb;have hno:∀j∈l,(!(listed.setIfInBounds b true).getD j false)=(!listed.getD j false):=fun j hj=>by rw[hold j (fun e=>hnd'.1 (e▸hj))]
      rw[Ce,Ce,h2,J];simp only[Bool.not_false,Cu,Bool.not_true,Ax,Bw,ω];rw[List.filter_congr hno]
     ·have hm':i∈l:=(Aq.1 hmem).resolve_left fun e=>hb e.symm
      have:=ihl hnd'.2 hm';rw[Ce,Ce,hold b hb];split
      ·simp only[ω];omega
      ·exact this
   have:=this (List.range ops.size) List.nodup_range (by simpa using h1);omega
  ·have hadd:=aAr (fun j=>listed.getD j false) i xs[i].2 xs 0 xs[i].1 st (Ab _) (by rw[sub_zero,hx]) h2 (by
    intro k x E I hik;rw[Bk] at I hik;have O:=aa k x E hik I;simp only[indep,π] at O;obtain⟨⟨⟨d1,d2⟩,d3⟩,d4⟩:=O
    exact⟨fun t ht hw=>dW d1 t ht (by simp[hw]),fun t ht hw=>dW d2 t ht (by simp[hw])⟩)
   rw[←hadd] at U;have hfe:(fun j=>(listed.setIfInBounds i true).getD j false)=fun j=>listed.getD j false || Nat.beq j i:=funext fun j=>by
    by_cases hj:j=i
    ·subst hj;rw[J];simp
    ·rw[hold j hj];have hb:Nat.beq j i=false:=by
      cases hb:Nat.beq j i with
      | false=>rfl
      | true=>exact absurd (τ hb) hj
     rw[hb,Bool.or_false]
   rw[hfe];exact U
section
variable {ro:Option Nat}{P:Program}{n:Nat}{st:St}{kf:List Nat}{Q:Exit→St→Prop}{v:Value}{p:Nat}
theorem aDn {id:Nat}{ops:Array Oper}{draw:Bool}{st':St}{xs:REs}(hm:P.follows .mixedOrders=true) (u:RunP v p P n ops 0 st xs st') (hp:p<xs.length) (hle:xs.length≤ops.size)
  (q:draw=true→xs.length=ops.size∧(dA (preds ops) xs []&&eJ ops)=true) (h:∀e h,Q (pan v) ⟨e,h,st.d⟩):AWp ro P n kf (.region id ops draw) st Q:=fun G S μ a w Q' A hs hQ=>by
 cases draw with
 | true=>
  obtain⟨B,q⟩:=q rfl;rw[π] at q;refine wpIn_region_any hm ?_;refine aD9 (G:=G) u B q.1 q.2 (by omega) (fun S' μ' e h' a' w' s=>hQ _ _ S' μ' a' w' (h e h') s) ops.size _ (by simp) ?_ ?_ ?_ S μ a _ ?_ ro
  ·have:((List.range ops.size).filter fun i=>!(Array.replicate ops.size false).getD i false)=List.range ops.size:=by
    apply filter_eq_self.2;intro i hi;simp at hi;simp[hi]
   rw[this,length_range]
  ·intro i o ho hl;simp[A7] at hl;split at hl<;>simp at hl
  ·simp[A7];split<;>rfl
  ·have hz:∀(E:REs) (k:Nat) (s:St),cH (fun j=>(Array.replicate ops.size false).getD j false) k E s=s:=by
    intro E
    induction E with
    | nil=>intro k s;rfl
    | cons y E J=>
     intro k s;have hf:(Array.replicate ops.size false).getD k false=false:=by
      simp[A7];split<;>rfl
     simp only[cH,hf,Bq];exact J _ _
   rw[hz];exact⟨hs.inv.same rfl rfl rfl rfl,hs.size,hs.defers,hs.env⟩
 | false=>
  refine wpIn_region ?_;have key:∀(k:Nat) (s I:St) (xs:REs) (m:Nat),RunP v p P n ops k s xs I→k≤p→p<k+xs.length→k+xs.length≤m→s.d=st.d→∀S μ a w,Sim G n S μ s a w→wpOpsIn (Wd ro) 0 P ops Q' (List.range' k (m-k)) a w:=by
   intro k s I xs m u
   induction u with
   | nil=>intro h1 h2;simp at h2;omega
   | @cons k s rd f xs I hne A _ J=>
    intro h1 h2 M O S μ a w hs;simp only[ω] at h2 M;rw[show m-k=(m-(k+1))+1 by omega];simp only[range'_succ,By];exact A s (gS.refl _ _) G S μ a w _ Q' hs (fun S1 U Y w1 s1=>J (by omega) (by omega) (by omega) O S1 U Y w1 s1) ro
   | @pan s rd f xs I A _ _=>
    intro h1 h2 M O S μ a w hs;simp only[ω] at h2 M;rw[show m-p=(m-(p+1))+1 by omega];simp only[range'_succ,By];exact A s (gS.refl _ _) G S μ a w _ Q' hs (fun S1 U e1 h1 Y w1 s1=>hQ _ _ S1 U Y w1 (h e1 h1) (by rw[←O];exact s1)) ro
  have:=key 0 st st' xs ops.size u (Ab _) (by omega) (by omega) rfl S μ a w hs;rwa [range_eq_range',←sub_zero ops.size]
end
def blur:AObj→AObj
 | .var t cells=>.var t (cells.map fun _=>.c .any)
 | o=>o
def oC:AObj→Bool
 | .var _ _=>true
 | .arr _ _ _ _=>true
 | .dead=>true
 | _=>false
theorem aBo {o:AObj}{p:Prop}(h:p):o.succ p (blur o):=by cases o<;>simp[blur,AObj.succ,h]
theorem aT.blur {S:Sto}{μ:Mu}{H H':cF}:∀{rs:List R}{vs:List Value},aT S μ H rs vs→aT S μ H' (rs.map fun _=>R.c .any) vs
 | [],_,h=>by simpa only[aT,Ca] using h
 | _::_,_,h=>by
  simp only[aT,Ar] at h ⊢;obtain⟨v,vs',rfl,h1,h2⟩:=h;exact⟨v,vs',rfl,by simp only[aZ,Rep];exact h1.one,h2.blur⟩
theorem mB.blur {S:Sto}{μ:Mu}{H H':cF}{w:World}{id:Nat}{o:AObj}(h:mB S μ H w id o) (hb:oC o=true):mB S μ H' w id (blur o):=by
 cases o with
 | var t cells=>
  obtain⟨b,vs,h1,h2,q,u,y⟩:=h;exact⟨b,vs,h1,h2,q.blur,u,y⟩
 | arr te es elems fz=>exact h
 | dead=>exact h
 | _=>simp[oC] at hb
theorem aI7 {o o':AObj}{p:Prop}(h:o.succ p o') (hb:oC o=true):oC o'=true:=by
 cases o<;>cases o'<;>simp[oC,AObj.succ] at h hb ⊢
def zG (hin:List (Nat×AObj)) (h:cF):List (Nat×AObj):=hin.filterMap fun p=>(h p.1).map fun o=>(p.1,blur o)
theorem dU {h:cF}:∀{hin:List (Nat×AObj)}{id:Nat}{o:AObj},look (zG hin h) id=some o→(∃o',look hin id=some o')∧∃x,h id=some x∧o=blur x
 | [],id,o,e=>by simp[zG,look] at e
 | (k,y)::l,id,o,e=>by
  have q:=dU (h:=h) (hin:=l) (id:=id) (o:=o);have hl:(∃o',look l id=some o')→∃o',look ((k,y)::l) id=some o':=fun⟨o',ho⟩=>by
   simp only[look];split
   ·exact⟨_,rfl⟩
   ·exact⟨_,ho⟩
  unfold zG at e q;rw[List.filterMap_cons] at e;dsimp only at e;cases u:h k with
  | none=>
   rw[u] at e;exact⟨hl (q e).1,(q e).2⟩
  | some x=>
   rw[u] at e;simp only[B9,look] at e;split at e
   ·rename_i hb;have hb:=τ hb;subst hb;cases e;exact⟨⟨y,by simp[look]⟩,x,u,rfl⟩
   ·exact⟨hl (q e).1,(q e).2⟩
theorem tC {h:cF}:∀{hin:List (Nat×AObj)}{id:Nat}{o x:AObj},look hin id=some o→h id=some x→look (zG hin h) id=some (blur x)
 | [],id,o,x,e,_=>by simp[look] at e
 | (k,y)::l,id,o,x,e,hx=>by
  have q:=tC (h:=h) (hin:=l) (id:=id) (o:=o) (x:=x);unfold zG at q ⊢;rw[List.filterMap_cons];dsimp only;simp only[look] at e;by_cases hb:Nat.beq id k=true
  ·have u:=τ hb;subst u;rw[hx];simp[look]
  ·rw[η hb] at e;cases A:h k with
   | none=>exact q e hx
   | some z=>
    simp only[B9,look];rw[η hb];exact q e hx
section
variable {P:Program}
theorem aUc {f:FuncId}{fn:Func}{c:Code}{n:Nat}{args:List V}{hin:List (Nat×AObj)}{v:Value}(hf:P.funcs[f]?=some fn) (hb:fn.body=some c) (hn:fn.ntmps=n) (hle:Nat.ble args.length n=true) (hok:(hin.all fun p=>oC p.2)=true)
  (h:AWp none P n (keys hin) c (mk (aB7 0 args) hin) (fun ex st=>ex=pan v∧st.d=[])):aGs P f args hin v:=by
 intro S μ w vals hI hv;refine(Wd.calls (ro:=none) (n:=0)).1 (callsIn_of_wp_marks hf hb trivial ?_);have J:∀(l:List V) (us:List Value),b7 S μ (look hin) l us→us.length=l.length:=by
  intro l
  induction l with
  | nil=>intro us h;simp only[b7] at h;subst h;rfl
  | cons x l B=>
   intro us h;simp only[b7] at h;obtain⟨v,vs',rfl,_,h2⟩:=h;simp[B _ h2]
 have ad:=J _ _ hv;have hle':=Ap hle;refine h ⟨w,S,kI μ (look hin),μ,look hin⟩ S μ _ w _ ⟨tT,trivial⟩ ⟨hI,by simp;omega,rfl,fun t v ht=>?_⟩ ?_
 ·have key:∀(l:List V) (us:List Value) (k:Nat),b7 S μ (look hin) l us→look (aB7 k l) t=some v→∃j,t=k+j∧∃u,us[j]?=some u∧aS S μ (look hin) v u:=by
   intro l
   induction l with
   | nil=>intro us k _ h;simp[aB7,look] at h
   | cons x l B=>
    intro us k M hl;simp only[b7] at M;obtain⟨u,O,rfl,h1,h2⟩:=M;simp only[aB7,look] at hl;split at hl
    ·rename_i U;cases hl;exact⟨0,by rw[τ U];rfl,u,rfl,h1⟩
    ·obtain⟨j,A,u',h4,h5⟩:=B O (k+1) h2 hl;exact⟨j+1,by omega,u',by simpa using h4,h5⟩
  obtain⟨j,h1,u,h2,A⟩:=key args vals 0 hv ht;rw[Bk] at h1;subst h1;have hj:t<vals.length:=(Ah.1 h2).1
  have:((⟨vals⟩:Array Value)++Array.replicate (fn.ntmps-(⟨vals⟩:Array Value).size) undef).getD t undef=u:=by
   rw[Ag,B4 (by simpa using hj)];simp[h2]
  show aS S μ (look hin) v (((⟨vals⟩:Array Value)++Array.replicate (fn.ntmps-(⟨vals⟩:Array Value).size) undef).getD t undef);rw[this];exact A
 ·rintro ex ⟨e',h',d'⟩ S' μ' E w' ⟨rfl,Y⟩ hs;dsimp only at Y;subst Y;have aa:E.defers=[]:=hs.defers;show LeavesInM (Wd none) 0 P fn E.tmps _ E.defers (.panicking _) w';rw[aa];have q:=hs.inv.evo;refine⟨S',μ',zG hin h',rfl,fun id o ho=>(dU ho).1,?_⟩;have ab:∀id x,(∃o',look hin id=some o')→h' id=some x→oC x=true:=fun id x ⟨o',ho⟩ hx=>by
   obtain⟨I,g1,g2⟩:=q.obj id o' ho;have g1:h' id=some I:=g1;rw[hx] at g1;cases g1;exact aI7 g2 ((A5.1 hok) _ (bE ho))
  refine⟨hs.inv.holds,fun id o ho=>?_,fun i j o o' b c c' hi hj hm ac=>?_,fun i o b c hi hm=>?_,hs.inv.frame,hs.inv.sle,hs.inv.sto,⟨q.le,fun id o ho=>?_⟩,hs.inv.fre⟩
  ·obtain⟨h1,x,h2,rfl⟩:=dU ho;exact(hs.inv.obj id x h2).blur (ab id x h1 h2)
  ·obtain⟨_,x,h2,_⟩:=dU hi;obtain⟨_,y,A,_⟩:=dU hj;exact hs.inv.inj i j x y b c c' h2 A hm ac
  ·obtain⟨_,x,h2,_⟩:=dU hi;exact hs.inv.own i x b c h2 hm
  ·obtain⟨I,g1,g2⟩:=q.obj id o ho;refine⟨blur I,tC ho g1,?_⟩;exact AObj.succ_trans g2 (aBo (p:=True) trivial) fun e _=>e
end
def kK (QP:Value→Prop) (P:Program) (n:Nat) (ops:Array Oper) (draw:Bool) (k:Nat) (st:St) (pre:REs) (Q:St→Prop):Prop:=
 (∃xs st',Run P n ops k st xs st'∧Nat.beq (k+xs.length) ops.size=true∧(!draw || (dA (preds ops) (pre.reverse++xs) []&&eJ ops))=true∧Q st')∨
 ∃v p xs st',QP v∧RunP v p P n ops k st xs st'∧k≤p∧p<k+xs.length∧k+xs.length≤ops.size∧(draw=true→k+xs.length=ops.size∧(dA (preds ops) (pre.reverse++xs) []&&eJ ops)=true)
section
variable {QP:Value→Prop}{ro:Option Nat}{P:Program}{n:Nat}{ops:Array Oper}{draw:Bool}{k:Nat}{st:St}{pre:REs}{Q:St→Prop}
theorem k_ {rd:Rd}{f:Eff}(h:GStep P n ops k st rd f) (y:kK QP P n ops draw (k+1) (f.apply st) ((rd,f)::pre) Q):kK QP P n ops draw k st pre Q:=by
 rcases y with⟨xs,st',h1,h2,q,u⟩ | ⟨v,p,xs,st',h0,h1,h2,q,u,A⟩
 ·refine .inl ⟨(rd,f)::xs,st',.cons h h1,?_,?_,u⟩
  ·rw[ω,show k+(xs.length+1)=k+1+xs.length by omega];exact h2
  ·rw[List.reverse_cons,Aj] at q;exact q
 ·refine .inr ⟨v,p,(rd,f)::xs,st',h0,.cons (by omega) h h1,by omega,by rw[ω];omega,by rw[ω];omega,fun B=>?_⟩;obtain⟨g1,g2⟩:=A B;rw[List.reverse_cons,Aj] at g2;exact⟨by rw[ω];omega,g2⟩
theorem z_ (h1:Nat.beq k ops.size=true) (h2:(!draw || (dA (preds ops) pre.reverse []&&eJ ops))=true) (hq:Q st):kK QP P n ops draw k st pre Q:=
 .inl ⟨[],st,.nil,h1,by rw[Ay];exact h2,hq⟩
theorem aYm {rd:Rd}{v:Value}(h:qD v P n ops k st rd) (hq:QP v) (q:draw=false) (hl:Nat.blt k ops.size=true):kK QP P n ops draw k st pre Q:=
 .inr ⟨v,k,[(rd,⟨none,[]⟩)],_,hq,.pan h .nil,le_refl _,by rw[Bm];omega,by rw[Bm];exact Ap hl,fun e=>by rw[q] at e;cases e⟩
theorem aYl {rd:Rd}{v:Value}(f:Eff) (h:qD v P n ops k st rd) (hq:QP v) (u:kK (fun _=>False) P n ops draw (k+1) (f.apply st) ((rd,f)::pre) fun _=>True):kK QP P n ops draw k st pre Q:=by
 rcases u with⟨xs,st',h1,h2,q,_⟩ | ⟨v,p,xs,st',h0,_⟩
 ·have h2:=τ h2;refine .inr ⟨v,k,(rd,f)::xs,st',hq,.pan h (h1.toP (by omega)),le_refl _,by rw[ω];omega,by rw[ω];omega,fun y=>?_⟩;rw[y,List.reverse_cons,Aj] at q;exact⟨by rw[ω];omega,q⟩
 ·exact h0.elim
theorem aC {kf:List Nat}{id:Nat}{Q:Exit→St→Prop}(hm:P.follows .mixedOrders=true) (h:kK (fun v=>∀e h,Q (pan v) ⟨e,h,st.d⟩) P n ops draw 0 st [] (fun st'=>Q .normal st')):AWp ro P n kf (.region id ops draw) st Q:=by
 rcases h with⟨xs,st',h1,h2,q,u⟩ | ⟨v,p,xs,st',h0,h1,h2,u,q,y⟩
 ·rw[Bk] at h2;exact vU hm h1 h2 q u
 ·rw[Bk] at u q y;exact aDn hm h1 u q (fun A=>y A) h0
theorem aV8 {kf:List Nat}{id:Nat}{Q:Exit→St→Prop}(st2:St) (hm:P.follows .mixedOrders=true) (h:kK (fun _=>False) P n ops draw 0 st [] (fun st'=>Sub kf st2 st')) (hq:Q .normal st2):AWp ro P n kf (.region id ops draw) st Q:=by
 rcases h with⟨xs,st',h1,h2,q,u⟩ | ⟨v,p,xs,st',h0,_⟩
 ·rw[Bk] at h2;refine AWp.post (Q:=fun ex s=>ex=.normal∧Sub kf st2 s) (vU hm h1 h2 q ⟨rfl,u⟩) ?_;rintro ex s ⟨rfl,hs⟩;exact⟨st2,hs,hq⟩
 ·exact h0.elim
theorem g_ {i:Nat}{o:Oper}{rd:Rd}{f:Eff}(ho:ops[i]?=some o) (q:o.guard=none) (h:Step P n o st rd f):GStep P n ops i st rd f:=GStep.plain ho q h
theorem AWp.cut {kf:List Nat}{c:Code}{Q:Exit→St→Prop}(st2:St) (h:AWp ro P n kf c st (fun ex s=>match ex with | .normal=>Sub kf st2 s | ex=>Q ex s)) (hq:Q .normal st2):AWp ro P n kf c st Q:=by
 refine AWp.post h ?_;intro ex s hs;cases ex with
 | normal=>exact⟨st2,hs,hq⟩
 | _=>exact⟨s,Sub.refl _ _,hs⟩
end
section
variable {P:Program}{n:Nat}{o:Oper}{st:St}{d:Nat}{T:TT}
theorem aX3 {u ty:TypeId}{x y:Operand}{a b:Int}(ho:o.op=.binOp .add u x y ty) (A:o.dst=some d) (q:d<n) (hx:opv st x=some (I .i64 a)) (hy:opv st y=some (I .i64 b)) (B: -9223372036854775808≤a+b∧a+b≤9223372036854775807):
  Step P n o st ⟨opr x++opr y,[]⟩ ⟨some (d,some (I .i64 (a+b))),[]⟩:=aTi ho A q hx hy (B5 _ B)
theorem aXm {u ty:TypeId}{x y:Operand}{a b:Int}(ho:o.op=.binOp .sub u x y ty) (A:o.dst=some d) (q:d<n) (hx:opv st x=some (I .i64 a)) (hy:opv st y=some (I .i64 b)) (B: -9223372036854775808≤a-b∧a-b≤9223372036854775807):
  Step P n o st ⟨opr x++opr y,[]⟩ ⟨some (d,some (I .i64 (a-b))),[]⟩:=aS6 ho A q hx hy (B5 _ B)
theorem aXx {u ty:TypeId}{x y:Operand}{a b:Int}(ho:o.op=.binOp .mul u x y ty) (A:o.dst=some d) (q:d<n) (hx:opv st x=some (I .i64 a)) (hy:opv st y=some (I .i64 b)) (B: -9223372036854775808≤a*b∧a*b≤9223372036854775807):
  Step P n o st ⟨opr x++opr y,[]⟩ ⟨some (d,some (I .i64 (a*b))),[]⟩:=aTb ho A q hx hy (B5 _ B)
theorem aRg {A ty:TypeId}{x y:Operand}{a b:Int}(ho:o.op=.binOp .quo A x y ty) (B:o.dst=some d) (u:d<n) (hx:opv st x=some (I .i64 a)) (hy:opv st y=some (I .i64 b)) (q:0≤a∧a≤9223372036854775807∧1≤b):
  Step P n o st ⟨opr x++opr y,[]⟩ ⟨some (d,some (I .i64 (a/b))),[]⟩:=a1v ho B u hx hy (by omega) (by
   have h1:a.tdiv b=a/b:=Int.tdiv_eq_ediv_of_nonneg q.1;rw[h1];refine B5 _ ⟨?_,?_⟩
   ·have:=Int.ediv_nonneg q.1 (show(0:Int)≤b by omega);omega
   ·have:=Int.ediv_le_self b q.1;omega)
theorem aRf {u ty:TypeId}{x y:Operand}{k:IntKind}{a b:Int}(ho:o.op=.binOp .rem u x y ty) (A:o.dst=some d) (q:d<n) (hx:opv st x=some (I k a)) (hy:opv st y=some (I k b)) (B:0≤a∧1≤b):
  Step P n o st ⟨opr x++opr y,[]⟩ ⟨some (d,some (I k (a%b))),[]⟩:=a1u ho A q hx hy (by omega) (Int.tmod_eq_emod_of_nonneg B.1)
theorem jK (op:BinOp) (t:TypeId) (x y:Operand) (u v:Value) (w:World) (h1:(match u with | .agg _=>true | .nilIface=>true | _=>false)=false):(eqGuard op t x y u v).run P w=.ok () w:=by
 unfold eqGuard;cases u<;>simp at h1<;>(split<;>rfl)
theorem qQ {t:TypeId}(hu:P.underlying t=some .bool) (d:Nat) (a b:Bool) (w:World):(Op.equalIn (d+1) t (.bool a) (.bool b)).run P w=.ok (a==b) w:=by
 simp only[Op.equalIn,Aa,Ak hu w,δ,Ad]
theorem zE {t e:TypeId}(hu:P.underlying t=some (.pointer e)) (d:Nat) (p:Option Addr) (w:World):(Op.equalIn (d+1) t (.pointer p) (.pointer none)).run P w=.ok p.isNone w:=by
 cases p<;>simp only[Op.equalIn,Aa,Ak hu w,δ,Ad]<;>rfl
theorem aOc {t e:TypeId}(hu:P.underlying t=some (.slice e)) (d:Nat) (p:Option Addr) (l c:Nat) (w:World):(Op.equalIn (d+1) t (.slice p l c) (.slice none 0 0)).run P w=.ok p.isNone w:=by
 cases p<;>simp only[Op.equalIn,Aa,Ak hu w,δ,Ad]<;>rfl
theorem wG {q ty:TypeId}{x y:Operand}{a:Act}{w:World}{u v:Value}{b:Bool}(ho:o.op=.binOp .eql q x y ty) (hx:a.eval x=u) (hy:a.eval y=v) (B:(eqGuard .eql q x y u v).run P w=.ok () w)
  (hb:binOp .eql q u v=(do pure (.bool (←Op.equal q u v)))) (E:(Op.equalIn (9999+1) q u v).run P w=.ok b w):(execOp a.eval o).run P w=.ok (.value (.bool b)) w:=by
 have A:(Op.equal q u v).run P w=.ok b w:=E;simp only[execOp,ho,hx,hy,Aa,B,δ,hb,A,Ad]
theorem aCe {q ty:TypeId}{x y:Operand}{a:Act}{w:World}{u v:Value}{b:Bool}(ho:o.op=.binOp .neq q x y ty) (hx:a.eval x=u) (hy:a.eval y=v) (B:(eqGuard .neq q x y u v).run P w=.ok () w)
  (hb:binOp .neq q u v=(do pure (.bool (!(←Op.equal q u v))))) (E:(Op.equalIn (9999+1) q u v).run P w=.ok b w):(execOp a.eval o).run P w=.ok (.value (.bool (!b))) w:=by
 have A:(Op.equal q u v).run P w=.ok b w:=E;simp only[execOp,ho,hx,hy,Aa,B,δ,hb,A,Ad]
theorem aX1 {q ty:TypeId}{i:TI}{x y:Operand}{a b:Bool}(A:Tok P T) (ho:o.op=.binOp .eql q x y ty) (E:o.dst=some d) (u:d<n) (hi:T[q]?=some (some i)) (I:i.k=.bool) (hx:opv st x=some (B a)) (hy:opv st y=some (B b)):
  Step P n o st ⟨opr x++opr y,[]⟩ ⟨some (d,some (B (a==b))),[]⟩:=by
 refine Step.value E u fun _ ha _ _ _ ac w hs=>?_
 have h1:=kA (aO hs hx (dB ha).1);have h2:=kA (aO hs hy (dB ha).2);exact⟨.bool (a==b),wG ho h1 h2 (jK _ _ _ _ _ _ _ rfl) rfl (qQ ((A.get hi).bool I) _ _ _ _),by simp[aS,aZ,Rep]⟩
theorem aX0 {q ty:TypeId}{i:TI}{x y:Operand}{a b:Bool}(A:Tok P T) (ho:o.op=.binOp .neq q x y ty) (E:o.dst=some d) (u:d<n) (hi:T[q]?=some (some i)) (I:i.k=.bool) (hx:opv st x=some (B a)) (hy:opv st y=some (B b)):
  Step P n o st ⟨opr x++opr y,[]⟩ ⟨some (d,some (B (!(a==b)))),[]⟩:=by
 refine Step.value E u fun _ ha _ _ _ ac w hs=>?_
 have h1:=kA (aO hs hx (dB ha).1);have h2:=kA (aO hs hy (dB ha).2);exact⟨.bool (!(a==b)),aCe ho h1 h2 (jK _ _ _ _ _ _ _ rfl) rfl (qQ ((A.get hi).bool I) _ _ _ _),by simp[aS,aZ,Rep]⟩
def zM:V→Option Bool
 | .one (.c .np)=>some true
 | .one (.c (.pt _))=>some false
 | .one (.vp _ _)=>some false
 | _=>none
theorem vE {S:Sto}{μ:Mu}{H:cF}{v:V}{u:Value}{b:Bool}(h:aS S μ H v u) (hb:zM v=some b):∃p,u=.pointer p∧p.isNone=b:=by
 unfold zM at hb;split at hb
 ·cases hb;simp only[aS,aZ,Rep] at h;exact⟨none,h,rfl⟩
 ·cases hb;simp only[aS,aZ,Rep] at h;obtain⟨b,o,h,_⟩:=h;exact⟨_,h,rfl⟩
 ·cases hb;simp only[aS,aZ] at h;obtain⟨t,cells,b,c,_,_,h⟩:=h;exact⟨_,h,rfl⟩
 ·cases hb
theorem aXv {q ty e:TypeId}{i:TI}{x y:Operand}{v:V}{b:Bool}(A:Tok P T) (ho:o.op=.binOp .eql q x y ty) (E:o.dst=some d) (u:d<n) (hi:T[q]?=some (some i)) (I:i.k=.pt e) (hx:opv st x=some v) (hv:zM v=some b) (hy:opv st y=some (.one (.c .np))):
  Step P n o st ⟨opr x++opr y,[]⟩ ⟨some (d,some (B b)),[]⟩:=by
 refine Step.value E u fun _ ha _ _ _ ac w hs=>?_
 obtain⟨p,h1,hp⟩:=vE (aO hs hx (dB ha).1) hv;have h2:=aO hs hy (dB ha).2;simp only[aS,aZ,Rep] at h2;subst hp;exact⟨.bool p.isNone,wG ho h1 h2 (jK _ _ _ _ _ _ _ rfl) (by cases p<;>rfl) (zE ((A.get hi).ptr I) _ _ _),by simp[aS,aZ,Rep]⟩
theorem aXu {q ty e:TypeId}{i:TI}{x y:Operand}{v:V}{b:Bool}(A:Tok P T) (ho:o.op=.binOp .neq q x y ty) (E:o.dst=some d) (u:d<n) (hi:T[q]?=some (some i)) (I:i.k=.pt e) (hx:opv st x=some v) (hv:zM v=some b) (hy:opv st y=some (.one (.c .np))):
  Step P n o st ⟨opr x++opr y,[]⟩ ⟨some (d,some (B (!b))),[]⟩:=by
 refine Step.value E u fun _ ha _ _ _ ac w hs=>?_
 obtain⟨p,h1,hp⟩:=vE (aO hs hx (dB ha).1) hv;have h2:=aO hs hy (dB ha).2;simp only[aS,aZ,Rep] at h2;subst hp;exact⟨.bool (!p.isNone),aCe ho h1 h2 (jK _ _ _ _ _ _ _ rfl) (by cases p<;>rfl) (zE ((A.get hi).ptr I) _ _ _),by simp[aS,aZ,Rep]⟩
def aN8:V→Option Bool
 | .one (.c .nl)=>some true
 | .one (.c (.sn _ _))=>some false
 | _=>none
theorem aI8 {S:Sto}{μ:Mu}{H:cF}{v:V}{u:Value}{b:Bool}(h:aS S μ H v u) (hb:aN8 v=some b):∃p l c,u=.slice p l c∧p.isNone=b:=by
 unfold aN8 at hb;split at hb
 ·cases hb;simp only[aS,aZ,Rep] at h;exact⟨none,_,_,h,rfl⟩
 ·cases hb;simp only[aS,aZ,Rep] at h;obtain⟨b,o,sp,l,c,h,_⟩:=h;exact⟨_,_,_,h,rfl⟩
 ·cases hb
theorem aTa {q ty e:TypeId}{i:TI}{x y:Operand}{v:V}{b:Bool}(A:Tok P T) (ho:o.op=.binOp .eql q x y ty) (E:o.dst=some d) (u:d<n) (hi:T[q]?=some (some i)) (I:i.k=.sl e) (hx:opv st x=some v) (hv:aN8 v=some b) (hy:opv st y=some (.one (.c .nl))):
  Step P n o st ⟨opr x++opr y,[]⟩ ⟨some (d,some (B b)),[]⟩:=by
 refine Step.value E u fun _ ha _ _ _ ac w hs=>?_
 obtain⟨p,l,c,h1,hp⟩:=aI8 (aO hs hx (dB ha).1) hv;have h2:=aO hs hy (dB ha).2;simp only[aS,aZ,Rep] at h2;subst hp;exact⟨.bool p.isNone,wG ho h1 h2 (jK _ _ _ _ _ _ _ rfl) (by cases p<;>rfl) (aOc ((A.get hi).slice I) _ _ _ _ _),by simp[aS,aZ,Rep]⟩
def ceq:C→C→Bool
 | .int _ a,.int _ b=>decide (a=b)
 | .str a,.str b=>decide (a=b)
 | .bool a,.bool b=>a==b
 | _,_=>false
def aNm:List C→List C→Bool
 | a::as,b::bs=>ceq a b&&aNm as bs
 | _,_=>true
def scalar:TK→C→C→Bool
 | .int k,.int k1 _,.int k2 _=>k==k1&&k==k2
 | .str,.str _,.str _=>true
 | .bool,.bool _,.bool _=>true
 | _,_,_=>false
def scalars (T:TT):Nat→List (Nat×TypeId)→List C→List C→Bool
 | _,[],[],[]=>true
 | k,(off,t)::fs,a::as,b::bs=>Nat.beq off k&&(match T[t]? with | some (some i)=>scalar i.k a b | _=>false)&&scalars T (k+1) fs as bs
 | _,_,_,_=>false
def aNq.check (P : Program) (t : TypeId) : Bool := (match P.underlying t with | some (.struct fs) => fs.toList.all fun f => f.name != "_" | _ => false) && !P.stoodInHeld t && !P.eqGuardType P.depth t
def aNq (P:Program) (t:TypeId):Prop:=aNq.check P t=true
theorem zD {t:TypeId}{i:TI}{a b:C}{u v:Value}(hi:TIok P t i) (h:scalar i.k a b=true) {S:Sto}(ha:Rep S a u) (hb:Rep S b v) (d:Nat) (w:World):(Op.equalIn (d+1) t u v).run P w=.ok (ceq a b) w:=by
 cases q:i.k<;>rw[q] at h<;>cases a<;>cases b<;>simp only[scalar] at h<;>try (cases h;done)
 ·simp only[Rep] at ha hb;subst ha;subst hb;rw[qQ (hi.bool q)];rfl
 ·rename_i k y m1 A m2;simp only[π,beq_iff_eq] at h;obtain⟨rfl,rfl⟩:=h;simp only[Rep] at ha hb;subst ha;subst hb;simp only[Op.equalIn,Aa,Ak (hi.int q) w,δ,Cu,Ad,ceq];congr 1
 ·simp only[Rep] at ha hb;subst ha;subst hb;simp only[Op.equalIn,Aa,Ak (hi.str q) w,δ,Ad,ceq];congr 1;rw[beq_toListBytes,jF,jF];exact Bool.beq_eq_decide_eq _ _
theorem aG0 {k:TK}{a b:C}(h:scalar k a b=true):k.agg=false:=by cases k<;>first | rfl | (cases a<;>cases b<;>cases h)
theorem rB (M : Tok P T) {S : Sto} (xs y : Array Value) (d : Nat) (w : World) : ∀ (fields : List Field) (k : Nat) (as q : List C), scalars T k (fields.map fun f => (f.offset, f.type)) as q = true → (∀ f ∈ fields, f.name ≠ "_") →
  bZ S as (xs.toList.drop k)→bZ S q (y.toList.drop k)→(Op.eqFields (d+1) xs y fields).run P w=.ok (aNm as q) w:=by
 intro fields
 induction fields with
 | nil=>
  intro k as q h _ _ _;cases as<;>cases q<;>simp[scalars] at h;rfl
 | cons f fields ih=>
  intro k as q h hn hx hy;cases as with
  | nil=>cases q<;>simp[scalars] at h
  | cons a as=>
   cases q with
   | nil=>simp[scalars] at h
   | cons b q=>
    simp only[Ar,scalars,π] at h;obtain⟨⟨h1,h2⟩,h3⟩:=h;have A:=τ h1;split at h2
    ·rename_i i hi;simp only[bZ] at hx hy;obtain⟨u,us,I,O,U⟩:=hx;obtain⟨v,vs,J,Y,aa⟩:=hy;have e1:xs[k]?=some u:=by
      have:=congrArg (fun l=>l[0]?) I;simpa using this
     have e2:y[k]?=some v:=by
      have:=congrArg (fun l=>l[0]?) J;simpa using this
     have e3:xs.toList.drop (k+1)=us:=by rw[←Cx,I];rfl
     have e4:y.toList.drop (k+1)=vs:=by rw[←Cx,J];rfl
     have B:=(M.get hi).agg_run w;rw[aG0 h2] at B;have p1:(part f.type xs f.offset).run P w=.ok u w:=by
      simp only[part,Aa,B,δ,Ax,Bw,A,e1,Ad]
     have p2:(part f.type y f.offset).run P w=.ok v w:=by
      simp only[part,Aa,B,δ,Ax,Bw,A,e2,Ad]
     have E:=ih (k+1) as q h3 (fun g hg=>hn g (by simp[hg])) (by rw[e3];exact U) (by rw[e4];exact aa);simp only[Op.eqFields];rw[ζ (hn f (by simp))];simp only[Aa,p1,p2,δ,zD (M.get hi) h2 O Y];cases hc:ceq a b with
     | true=>simp[E,aNm,hc]
     | false=>simp[aNm,hc]
    ·cases h2
theorem aS9 {q ty:TypeId}{i:TI}{fs:List (Nat×TypeId)}{x y:Operand}{as u:List C}(J:Tok P T) (hq:aNq P q) (ho:o.op=.binOp .eql q x y ty) (O:o.dst=some d) (M:d<n) (hi:T[q]?=some (some i)) (U:i.k=.st fs)
  (hx:opv st x=some (.pa as)) (hy:opv st y=some (.pa u)) (hs:scalars T 0 fs as u=true):Step P n o st ⟨opr x++opr y,[]⟩ ⟨some (d,some (B (aNm as u))),[]⟩:=by
 refine Step.value O M fun _ ha _ S μ ac w A=>?_
 have h1:=aO A hx (dB ha).1;have h2:=aO A hy (dB ha).2;simp only[aS] at h1 h2;obtain⟨us,h1,Y⟩:=h1;obtain⟨vs,h2,h4⟩:=h2;obtain⟨fields,hu,I⟩:=(J.get hi).struct U;unfold aNq aNq.check at hq;simp only[hu,π,Bn] at hq;obtain⟨⟨q1,q2⟩,q3⟩:=hq;have E:P.fieldsOf q=fields:=by simp[Program.fieldsOf,hu]
 have hn : ∀ f ∈ fields.toList, f.name ≠ "_" := fun f I => by
  have:=(A5.1 q1) f I;simpa using this
 refine⟨.bool (aNm as u),wG ho h1 h2 ?_ rfl ?_,by simp[aS,aZ,Rep]⟩
 ·have hp:(program:Sem Program).run P w=.ok P w:=rfl;simp only[eqGuard];simp[hp,q3]
 ·rw[run_equalIn_struct w 9999 q _ _ (by rw[E,hu]) q2,E];exact rB J ⟨us⟩ ⟨vs⟩ 9998 w fields.toList 0 as u (by rw[←I];exact hs) hn (by simpa using Y) (by simpa using h4)
end
theorem take_map {α β:Type}{f:α→β}{l:List α}:(l.map f).take l.length=l.map f:=Au (by simp)
theorem Ole.arrE {σ:Nat→Nat}{te es fz:Nat}{e e':List (List C)}(h:e=e'):Ole σ (.arr te es e fz) (.arr te es e' 1):=by subst h;exact .arr1
theorem int_eq {k:IntKind}{a b:Int}(h:a=b):some (I k a)=some (I k b):=by rw[h]
section
variable {P:Program}{n:Nat}{o:Oper}{st:St}{d:Nat}{T:TT}
def aA9 (st:St):List Operand→Option (List R)
 | []=>some []
 | x::xs=>match opv st x with
  | some (.one r)=>match aA9 st xs with | some l=>some (r::l) | none=>none
  | _=>none
theorem aA8 {G:Ctx}{S:Sto}{μ:Mu}{st':St}{a:Act}{w:World}(hs:Sim G n S μ st' a w):∀(xs:List Operand) (l:List R),aA9 st xs=some l→(∀t∈c7 xs,st'.e t=st.e t)→aT S μ st'.h l (xs.map a.eval)
 | [],l,h,_=>by simp[aA9] at h;subst h;simp[aT]
 | x::xs,l,h,ht=>by
  simp only[aA9] at h;split at h
  ·rename_i r u;split at h
   ·rename_i y q;cases h;have h1:=aO hs u fun t h=>ht t (by simp[c7,h])
    simp only[aS] at h1;simp only[Ar,aT];exact⟨_,_,rfl,h1,aA8 hs xs y q fun t h=>ht t (by simp[c7,h])⟩
   ·cases h
  ·cases h
theorem vD {f:FuncId}{caps:Array Operand}{l:List R}(ho:o.op=.makeFunc (.func f) #[] caps) (u:o.dst=some d) (q:d<n) (hc:aA9 st caps.toList=some l):Step P n o st ⟨c7 caps.toList,[]⟩ ⟨some (d,some (.one (.clo f l))),[]⟩:=by
 refine Step.value u q fun st' ha _ S μ ac w hs=>?_
 have h:=aA8 hs _ _ hc ha.1;refine⟨.func (.func f) #[] (caps.map ac.eval),by simp[execOp,ho,Instr.makeFunc],?_⟩;simp only[aS,aZ];refine⟨caps.toList.map ac.eval,?_,h⟩;congr 1;apply Array.ext';simp
theorem zL {f:FuncId}{x:Operand}{c:R}(ho:o.op=.makeFunc (.func f) #[x] #[]) (u:o.dst=some d) (q:d<n) (hx:opv st x=some (.one c)):Step P n o st ⟨opr x,[]⟩ ⟨some (d,some (.one (.mth f c))),[]⟩:=by
 refine Step.value u q fun st' ha _ S μ ac w hs=>?_
 have h:=aO hs hx ha.1;refine⟨.func (.func f) #[ac.eval x] #[],by simp[execOp,ho,Instr.makeFunc],?_⟩;simp only[aS,aZ] at h ⊢;exact⟨_,rfl,h⟩
def lM (k:List UInt8):List (List C)→Option (List C)
 | []=>none
 | (.str s::vs)::r=>if s=k then some vs else lM k r
 | _::r=>lM k r
def aHj (k:List UInt8) (vs:List C):List (List C)→List (List C)
 | []=>[.str k::vs]
 | (.str s::us)::r=>if s=k then(.str k::vs)::r else(.str s::us)::aHj k vs r
 | x::r=>x::aHj k vs r
theorem aGf (a b:List UInt8):((ByteArray.mk ⟨a⟩)==(ByteArray.mk ⟨b⟩))=decide (b=a):=by
 rw[beq_toListBytes,jF,jF,Bool.beq_eq_decide_eq];by_cases h:a=b
 ·subst h;simp
 ·have h':¬b=a:=fun e=>h e.symm
  simp[h,h']
theorem lQ {S:Sto}{agg:Bool}{k:List UInt8}:∀(l:List (List C)) (es:List MapEntry) (i:Nat),bG S agg l es→mT l→
  (∀vs,lM k l=some vs→∃j e,Instr.findNow .string (.string ⟨⟨k⟩⟩) es i=some (some (i+j,e.val))∧es[j]?=some e∧(∃us,bZ S vs us∧e.val=(if agg then .agg ⟨us⟩ else us.headD undef)∧(agg=false→us.length=1))∧e.key=.string ⟨⟨k⟩⟩∧j<es.length∧
   ∀ws,aHj k ws l=(l.take j)++(.str k::ws)::l.drop (j+1))∧
  (lM k l=none→Instr.findNow .string (.string ⟨⟨k⟩⟩) es i=some none∧∀ws,aHj k ws l=l++[.str k::ws])
 | [],es,i,h,_=>by
  simp only[bG] at h;subst h;exact⟨fun vs hv=>by simp[lM] at hv,fun _=>⟨rfl,fun ws=>rfl⟩⟩
 | r::l,es,i,h,hm=>by
  simp only[bG] at h;obtain⟨e,u,rfl,⟨vs,h1,h2,O⟩,U⟩:=h
  match r,h1,hm with
  | .str s::us,h1,hm=>
   simp only[mT] at hm;simp only[bZ] at h1;obtain⟨v,vs',hv,E,Y⟩:=h1;simp only[Rep] at E;injection hv with I J;subst J;have q:e.key=.string ⟨⟨s⟩⟩:=by rw[I,E]
   have M:=lQ (k:=k) l u (i+1) U hm;by_cases hs:s=k
   ·subst hs;refine⟨fun ws hw=>?_,fun hn=>by simp[lM] at hn⟩;simp only[lM,Cu,Option.some.injEq] at hw;subst hw;refine⟨0,e,?_,rfl,⟨vs,Y,h2,O⟩,q,by simp,fun ws=>by simp[aHj]⟩;simp only[Instr.findNow,q,Instr.sameNow];rw[aGf];simp
   ·have y:Instr.findNow .string (.string ⟨⟨k⟩⟩) (e::u) i=Instr.findNow .string (.string ⟨⟨k⟩⟩) u (i+1):=by
     simp only[Instr.findNow,q,Instr.sameNow];rw[aGf];simp[hs]
    refine⟨fun ws hw=>?_,fun hn=>?_⟩
    ·simp only[lM,hs,Bw] at hw;obtain⟨j,e',A,B,q3,q4,q5,q6⟩:=M.1 ws hw;refine⟨j+1,e',?_,by simpa using B,q3,q4,by simpa using q5,fun ws=>?_⟩
     ·rw[y,A,show i+1+j=i+(j+1) by omega]
     ·simp only[aHj,hs,Bw,q6 ws];simp
    ·simp only[lM,hs,Bw] at hn;obtain⟨A,B⟩:=M.2 hn;exact⟨by rw[y,A],fun ws=>by simp only[aHj,hs,Bw,B ws];simp⟩
  | [],h1,_=>simp only[bZ] at h1;cases h1
  | .int _ _::_,_,hm=>simp[mT] at hm
  | .bool _::_,_,hm=>simp[mT] at hm
  | .nl::_,_,hm=>simp[mT] at hm
  | .sl _ _::_,_,hm=>simp[mT] at hm
  | .sn _ _::_,_,hm=>simp[mT] at hm
  | .np::_,_,hm=>simp[mT] at hm
  | .pt _::_,_,hm=>simp[mT] at hm
  | .mp _ _::_,_,hm=>simp[mT] at hm
  | .zv _::_,_,hm=>simp[mT] at hm
theorem n0 {t:TypeId}(hu:P.underlying t=some .string) (b:Bool) (d:Nat) (s:ByteArray) (w:World):(Instr.checkKey b (d+1) t (.string s)).run P w=.ok () w:=by
 simp only[Instr.checkKey,Aa,Ak hu w,δ,Ad]
inductive MapE (st:St):List Nat→V→Bool→List (List C)→Prop
 | mr {id agg ents}:st.h id=some (.map agg ents)→MapE st [id] (.one (.mr id)) agg ents
 | mp {agg ents}:MapE st [] (.one (.c (.mp agg ents))) agg ents
 | nil {agg}:MapE st [] (.one (.c (.zv 0))) agg []
theorem MapE.rel {G:Ctx}{S:Sto}{μ:Mu}{st':St}{a:Act}{w:World}{ids:List Nat}{v:V}{agg:Bool}{ents:List (List C)}{u:Value}(hs:Sim G n S μ st' a w) (h:MapE st ids v agg ents) (y:mT ents) (hi:∀i∈ids,st'.h i=st.h i) (hv:aS S μ st'.h v u):
  ∃es:Array MapEntry,bG S agg ents es.toList∧((u=.map none∧es= #[])∨∃b clk,u=.map (some b)∧w.heap[b]?=some (.map es clk)):=by
 cases h with
 | mr hh=>
  have A:=(hi _ (by simp)).trans hh;simp only[aS,aZ] at hv;obtain⟨E,B,b,c,h1,h2,q⟩:=hv;rw[A] at h1;cases h1;obtain⟨I,es,clk,g1,g2,g3,g4⟩:=hs.inv.obj _ _ A;rw[h2] at g1;cases g1;exact⟨es,g3.rep y,.inr ⟨_,clk,q,g2⟩⟩
 | mp=>
  simp only[aS,aZ,Rep] at hv;obtain⟨b,es,clk,h1,h2,q⟩:=hv;refine⟨es,q.elim id fun q=>?_,.inr ⟨b,clk,h1,hs.inv.holds.2 _ _ h2⟩⟩;cases ents with
  | nil=>simp only[aNp] at q
  | cons r l=>simp only[aNp] at q;rw[q.1] at y;simp[mT] at y
 | nil=>
  simp only[aS,aZ,Rep,aWi] at hv;exact⟨#[],by simp[bG],.inl ⟨hv,rfl⟩⟩
def rV (i:TI) (r:Option (List C)):V:=match r with
 | some vs=>if i.k.agg then .pa vs else match vs with | [c]=>.one (.c c) | _=>.tup []
 | none=>if i.k.agg then .pa i.zero else match i.zero with | [c]=>.one (.c c) | _=>.tup []
def aKn (r:Option (List C)):Bool:=r.isSome
def aK5 (r:Option (Nat×Value)) (z:Value):Value:=match r with | some p=>p.2 | none=>z
theorem kO (w:World) (b:Nat) (es:Array MapEntry) (clk:Nat) (h:w.heap[b]?=some (.map es clk)):(getObj b).run P w=.ok (.map es clk) w:=by
 exact MapKept.run_getObj_map h
theorem aJp {t kt et:TypeId}{i ki E:TI}{x y:Operand}{ok:Bool}{ids:List Nat}{agg:Bool}{k:List UInt8}{r:Option (List C)}(O:Tok P T) (ho:o.op=.lookup t x y ok) (hd:o.dst=some d) (hdn:d<n) (hi:T[t]?=some (some i)) (hk:i.k=.mp kt et)
  (hki:T[kt]?=some (some ki)) (hkk:ki.k=.str) (U:T[et]?=some (some E)) (I:E.k.agg=agg) (hy:opv st y=some (Go.AM.T k))
  (hrel:∀(st':St),gS ⟨opr x++opr y,ids⟩ st st'→∀(G:Ctx) (S:Sto) (μ:Mu) (a:Act) (w:World),Sim G n S μ st' a w→∃(es:Array MapEntry) (ents:List (List C)),mT ents∧lM k ents=r∧bG S agg ents es.toList∧((a.eval x=.map none∧es= #[])∨∃b clk,a.eval x=.map (some b)∧w.heap[b]?=some (.map es clk))):
  Step P n o st ⟨opr x++opr y,ids⟩ ⟨some (d,some (if ok then .tup [rV E r,B (aKn r)] else rV E r)),[]⟩:=by
 refine Step.value hd hdn fun st' ha G S μ a w hs=>?_
 obtain⟨es,ents,hms,hr,h1,h2⟩:=hrel st' ha G S μ a w hs;have h3:=mS (aO hs hy fun t h=>ha.1 t (by simp[h]));have hu:=Ak ((O.get hi).map hk) w;have Y:=(O.get hki).str hkk;obtain⟨z,hz,hzr,hz1,hz2⟩:=(O.get U).zero_run;have J:=lQ (k:=k) ents es.toList 0 h1 hms;have key:∃q:Option (Nat×Value),(Instr.findKey kt (.string ⟨⟨k⟩⟩) es.toList).run P w=.ok q w∧aS S μ st'.h (rV E r) (aK5 q z)∧aKn r=q.isSome:=by
  cases hq:lM k ents with
  | some vs=>
   obtain⟨j,e,q1,q2,⟨us,M,q4,q5⟩,q6,q7,q8⟩:=J.1 vs hq;refine⟨some (0+j,e.val),?_,?_,by rw[←hr,hq];rfl⟩
   ·simp only[Instr.findKey,Aa,Ak Y w,δ,q1,Ad]
   ·rw[←hr,hq];simp only[rV,I];cases agg with
    | true=>
     simp only[Cu,aS] at q4 ⊢;exact⟨us,q4,M⟩
    | false=>
     simp only[Ax,Bw] at q4 ⊢;have hl:=q5 rfl;have hl2:=M.length
     match vs,us,M,hl,hl2 with
     | [c],[u],M,_,_=>
      simp only[bZ] at M;obtain⟨v,vs',hv,hc,_⟩:=M;cases hv;rw[q4];simp only[aS,aZ];exact hc
  | none=>
   obtain⟨q1,_⟩:=J.2 hq;refine⟨none,?_,?_,by rw[←hr,hq];rfl⟩
   ·simp only[Instr.findKey,Aa,Ak Y w,δ,q1,Ad]
   ·rw[←hr,hq];simp only[rV,I];have A:=hzr S;cases agg with
    | true=>
     rw[I,ζ rfl] at hz1;simp only[Cu,aS];exact⟨z.cells.toList,hz1,A⟩
    | false=>
     obtain⟨u,hu1,hu2⟩:=hz2 I;simp only[Ax,Bw];have hl:=(O.get U).len;rw[(O.get U).one I] at hl
     match hzz:E.zero,hl with
     | [c],_=>
      rw[hzz,hu1] at A;simp only[bZ] at A;obtain⟨v,vs',hv,hc,_⟩:=A;cases hv;rw[hu2];simp only[aS,aZ];exact hc
 obtain⟨q,hf,hv,hb⟩:=key;have hck:=fun b=>n0 (P:=P) Y b 9999 ⟨⟨k⟩⟩ w
 have fin:aS S μ st'.h (if ok then .tup [rV E r,B (aKn r)] else rV E r) (if ok then .tuple #[(aK5 q z),.bool q.isSome] else(aK5 q z)):=by
  cases ok with
  | false=>exact hv
  | true=>
   simp only[Cu,aS,b7];exact⟨[_,.bool q.isSome],rfl,_,[.bool q.isSome],rfl,hv,.bool q.isSome,[],rfl,by rw[hb];simp[aZ,Rep],rfl⟩
 refine⟨_,?_,fin⟩;rcases h2 with⟨h2,rfl⟩ | ⟨b,clk,h2,h4⟩
 ·simp only[execOp,ho,h2,h3,Aa,Instr.lookup,hu,δ,Ad];rw[show(10000:Nat)=9999+1 from rfl,hck];simp only[δ,hf];cases q with
  | none=>simp only[Aa,hz w,δ,Ad];rfl
  | some p=>rfl
 ·simp only[execOp,ho,h2,h3,Aa,Instr.lookup,hu,δ,Ad,kO w b es clk h4];rw[show(10000:Nat)=9999+1 from rfl,hck];simp only[δ,hf];cases q with
  | none=>simp only[Aa,hz w,δ,Ad];rfl
  | some p=>rfl
theorem wP {t A E:TypeId}{i I q:TI}{x y:Operand}{ok:Bool}{v:V}{ids:List Nat}{agg:Bool}{ents:List (List C)}{k:List UInt8}{r:Option (List C)}(hT:Tok P T) (ho:o.op=.lookup t x y ok) (hd:o.dst=some d) (J:d<n) (hi:T[t]?=some (some i)) (hk:i.k=.mp A E)
  (M:T[A]?=some (some I)) (O:I.k=.str) (U:T[E]?=some (some q)) (Y:q.k.agg=agg) (hx:opv st x=some v) (hm:MapE st ids v agg ents) (u:mT ents) (hy:opv st y=some (Go.AM.T k)) (hr:lM k ents=r):
  Step P n o st ⟨opr x++opr y,ids⟩ ⟨some (d,some (if ok then .tup [rV q r,B (aKn r)] else rV q r)),[]⟩:=
 aJp hT ho hd J hi hk M O U Y hy fun _ ha _ _ _ _ _ hs=>by
  obtain⟨es,h1,h2⟩:=hm.rel hs u ha.2 (aO hs hx fun t h=>ha.1 t (by simp[h]));exact⟨es,ents,u,hr,h1,h2⟩
theorem cZ {S:Sto}{agg:Bool}:∀{a:List (List C)}{x:List MapEntry}{b:List (List C)}{y:List MapEntry},bG S agg a x→bG S agg b y→bG S agg (a++b) (x++y)
 | [],_,_,_,h,k=>by simp only[bG] at h;subst h;simpa using k
 | _::_,_,_,_,h,k=>by
  simp only[bG,As] at h ⊢;obtain⟨v,vs',rfl,h1,h2⟩:=h;exact⟨v,vs'++_,rfl,h1,cZ h2 k⟩
theorem mK {S:Sto}{agg:Bool}:∀{a:List (List C)}{x:List MapEntry}(n:Nat),bG S agg a x→bG S agg (a.take n) (x.take n)
 | _,_,0,_=>by simp[bG]
 | [],_,n+1,h=>by simp only[bG] at h;subst h;simp[bG]
 | _::_,_,n+1,h=>by
  simp only[bG,A3] at h ⊢;obtain⟨v,vs',rfl,h1,h2⟩:=h;exact⟨v,vs'.take n,by simp,h1,mK n h2⟩
theorem mL {S:Sto}{agg:Bool}:∀{a:List (List C)}{x:List MapEntry}(n:Nat),bG S agg a x→bG S agg (a.drop n) (x.drop n)
 | _,_,0,h=>by simpa using h
 | [],_,n+1,h=>by simp only[bG] at h;subst h;simp[bG]
 | _::_,_,n+1,h=>by
  simp only[bG,Cw] at h ⊢;obtain⟨v,vs',rfl,h1,h2⟩:=h;simpa using mL n h2
theorem aCg {t kt et:TypeId}{i ki:TI}{x y z:Operand}{id:Nat}{agg:Bool}{ents:List (List C)}{k:List UInt8}{v:V}{rs:List R}{cs:List C}{ids:List Nat}(hT:Tok P T) (ho:o.op=.mapUpdate t x y z) (hd:o.dst=none) (hi:T[t]?=some (some i)) (hk:i.k=.mp kt et)
  (hki:T[kt]?=some (some ki)) (hkk:ki.k=.str) (hx:opv st x=some (.one (.mr id))) (hh:st.h id=some (.map agg ents)) (B:mT ents) (hy:opv st y=some (Go.AM.T k))
  (hz:opv st z=some v) (q:(match v with | .one _=>!agg | .pa _=>agg | .ma _=>agg | _=>false)=true) (hc:iK v=some rs) (hp:PureL st.h ids rs cs):
  Step P n o st ⟨opr x++opr y++opr z,id::ids⟩ ⟨none,[(id,some (.map agg (aHj k cs ents)))]⟩:=by
 refine Step.turn hd hh (by simp) (by simp[AObj.succ]) fun st' ha hh' G S μ a w hs=>?_
 have h1:=aO hs hx fun t h=>ha.1 t (by simp[h])
 have h3:=mS (aO hs hy fun t h=>ha.1 t (by simp[h]));have hv:=aO hs hz fun t h=>ha.1 t (by simp[h])
 simp only[aS,aZ] at h1;obtain⟨agg',ents',b,c,q1,q2,q3⟩:=h1;obtain⟨b',es,clk,g1,g2,g3,g4⟩:=hs.inv.obj id _ hh';rw[g1] at q2;cases q2;have g3:=g3.rep B;have ac:=hp.rel (fun i h=>ha.2 i (by simp[h])) hs.inv.obj (dZ hv hc);have E:a.eval z=(if agg then .agg ⟨(a.eval z).cells.toList⟩ else(a.eval z).cells.toList.headD undef)∧(agg=false→(a.eval z).cells.toList.length=1):=by
  cases v with
  | one r=>
   simp at q;subst q;simp only[aS] at hv;rw[hv.one.1];simp
  | pa l=>
   simp at q;subst q;simp only[aS] at hv;obtain⟨vs,hv,_⟩:=hv;rw[hv];simp[Value.cells]
  | ma l=>
   simp at q;subst q;simp only[aS] at hv;obtain⟨vs,hv,_⟩:=hv;rw[hv];simp[Value.cells]
  | tup l=>simp at q
 have I:=(hT.get hki).str hkk;have hu:=Ak ((hT.get hi).map hk) w;have u:=lQ (k:=k) ents es.toList 0 g3 B;have Y:=fun b=>n0 (P:=P) I b 9999 ⟨⟨k⟩⟩ w
 have J:∀e:MapEntry,e.key=.string ⟨⟨k⟩⟩→e.val=a.eval z→bG S agg [.str k::cs] [e]:=by
  intro e he1 he2;simp only[bG];refine⟨e,[],rfl,⟨(a.eval z).cells.toList,?_,by rw[he2];exact E.1,E.2⟩,rfl⟩;simp only[bZ];exact⟨e.key,_,rfl,by simp[Rep,he1],ac⟩
 have M:∀(ob:Obj),(setObj b ob).run P w=.ok () { w with heap:=w.heap.setIfInBounds b ob }:=by
  intro ob;exact MapKept.run_setObj_map _ g2
 have O:∀ob,WChg w { w with heap:=w.heap.setIfInBounds b ob } b ob:=fun ob=>by
  have hlt:=cA g2;refine⟨rfl,rfl,rfl,by simp,by simp[hlt],fun k _ hne=>?_⟩;show(w.heap.setIfInBounds b ob)[k]?=_;rw[Ba,η (fun e=>hne e.symm)]
 have aa:∀(ob:Obj) (o:Nat) (v:Value),S.cell b o=some v→∃vs t fr,ob=.cells vs t fr∧vs[o]?=some v:=fun ob o v e=>by
  obtain⟨vs,t,fr,A,_⟩:=hs.inv.holds.1 b o v e;rw[g2] at A;cases A
 have g4:=g4.kn0 B;have ab:∀m,S.mapo b=some m→w.heap.size≤b:=fun m e=>by rw[g4] at e;cases e
 cases hq:lM k ents with
 | some vs=>
  obtain⟨j,e,A,U,_,p4,p5,p6⟩:=u.1 vs hq;refine⟨_,.map (es.modify j fun e=>{ e with key:=.string ⟨⟨k⟩⟩,val:=a.eval z }) clk,b,(0,0),?_,g1,O _,⟨b,_,clk,aN _ _ _,(O _).new,.inr (.inl ?_),.inl g4⟩,aa _,ab⟩
  ·have ad:((es[j]?).map (·.key)).getD (.string ⟨⟨k⟩⟩)=.string ⟨⟨k⟩⟩:=by
    rw[←Array.getElem?_toList,U];simpa using p4
   have hkt:(Instr.keyThatStays (.string ⟨⟨k⟩⟩) (.string ⟨⟨k⟩⟩)).run P w=.ok (.string ⟨⟨k⟩⟩) w:=by
    have hsb:Instr.sameBits 10000 (.string ⟨⟨k⟩⟩) (.string ⟨⟨k⟩⟩)=true:=by simp[Instr.sameBits,aGf]
    simp only[Instr.keyThatStays,hsb,Cu,Ad]
   simp only[execOp,ho,q3,h3,Aa,Instr.mapUpdate,hu,δ,kO w b es clk g2];rw[show(10000:Nat)=9999+1 from rfl,Y];simp only[δ,Instr.findKey,Aa,Ak I w,A,Ad,Bk,ad,hkt,M]
  ·rw[p6 cs,Array.toList_modify];have ae:es.toList.modify j (fun e=>{ e with key:=.string ⟨⟨k⟩⟩,val:=a.eval z })=es.toList.take j++{ e with key:=.string ⟨⟨k⟩⟩,val:=a.eval z }::es.toList.drop (j+1):=by
    apply Cv;intro i;rw[List.getElem?_modify];have p5':j<es.size:=by simpa using p5
    by_cases c1:i<j
    ·rw[Bc (by simp;omega),An,ζ c1];simp[show ¬j=i by omega]
    ·rw[Bg (by simp;omega)];simp only[Ai];by_cases c2:j=i
     ·subst c2;rw[U];have hm:min j es.toList.length=j:=by simp;omega
      rw[hm];simp
     ·rw[C4 (C6 p5),show i-j=(i-j-1)+1 by omega,List.getElem?_cons_succ,Ao];simp[c2,show j+1+(i-j-1)=i by omega]
   rw[ae];have:=cZ (mK j g3) (cZ (J { e with key:=.string ⟨⟨k⟩⟩,val:=a.eval z } rfl rfl) (mL (j+1) g3));exact this
 | none=>
  obtain⟨A,U⟩:=u.2 hq;refine⟨_,.map (es.push { key:=.string ⟨⟨k⟩⟩,val:=a.eval z,born:=clk }) (clk+1),b,(0,0),?_,g1,O _,⟨b,_,clk+1,aN _ _ _,(O _).new,.inr (.inl ?_),.inl g4⟩,aa _,ab⟩
  ·simp only[execOp,ho,q3,h3,Aa,Instr.mapUpdate,hu,δ,kO w b es clk g2];rw[show(10000:Nat)=9999+1 from rfl,Y];simp only[δ,Instr.findKey,Aa,Ak I w,A,Ad,M]
  ·rw[U cs,Array.toList_push];exact cZ g3 (J _ rfl rfl)
theorem aS2 {P:Program}{T:TT}{o:Oper}{t kt et:TypeId}{i ki:TI}{x y z:Operand}{agg:Bool}{ents:List (List C)}{k:List UInt8}{cs:List C}{S:Sto}{a:Act}{w:World}{b:Nat}{es:Array MapEntry}{clk:Nat}(hT:Tok P T) (ho:o.op=.insert t x y z) (hi:T[t]?=some (some i)) (hk:i.k=.mp kt et)
  (hki:T[kt]?=some (some ki)) (hkk:ki.k=.str) (q3:a.eval x=.map (some b)) (h3:a.eval y=.string ⟨⟨k⟩⟩) (g2:w.heap[b]?=some (.map es clk)) (g3:bG S agg ents es.toList) (hms:mT ents)
  (O:bZ S cs (a.eval z).cells.toList) (u:a.eval z=(if agg then .agg ⟨(a.eval z).cells.toList⟩ else(a.eval z).cells.toList.headD undef)∧(agg=false→(a.eval z).cells.toList.length=1)):
  ∃J U,(execOp a.eval o).run P w=.ok .skip { w with heap:=w.heap.setIfInBounds b (.map J U) }∧bG S agg (aHj k cs ents) J.toList:=by
 have A:=(hT.get hki).str hkk;have hu:=Ak ((hT.get hi).map hk) w;have q:=lQ (k:=k) ents es.toList 0 g3 hms;have M:=fun b=>n0 (P:=P) A b 9999 ⟨⟨k⟩⟩ w
 have B:∀e:MapEntry,e.key=.string ⟨⟨k⟩⟩→e.val=a.eval z→bG S agg [.str k::cs] [e]:=by
  intro e he1 he2;simp only[bG];refine⟨e,[],rfl,⟨(a.eval z).cells.toList,?_,by rw[he2];exact u.1,u.2⟩,rfl⟩;simp only[bZ];exact⟨e.key,_,rfl,by simp[Rep,he1],O⟩
 have E:∀(ob:Obj),(setObj b ob).run P w=.ok () { w with heap:=w.heap.setIfInBounds b ob }:=by
  intro ob;exact MapKept.run_setObj_map _ g2
 cases hq:lM k ents with
 | some vs=>
  obtain⟨j,e,Y,I,_,p4,p5,p6⟩:=q.1 vs hq;refine⟨es.modify j fun e=>{ e with key:=.string ⟨⟨k⟩⟩,val:=a.eval z },clk,?_,?_⟩
  ·have aa:((es[j]?).map (·.key)).getD (.string ⟨⟨k⟩⟩)=.string ⟨⟨k⟩⟩:=by
    rw[←Array.getElem?_toList,I];simpa using p4
   have hkt:(Instr.keyThatStays (.string ⟨⟨k⟩⟩) (.string ⟨⟨k⟩⟩)).run P w=.ok (.string ⟨⟨k⟩⟩) w:=by
    have hsb:Instr.sameBits 10000 (.string ⟨⟨k⟩⟩) (.string ⟨⟨k⟩⟩)=true:=by simp[Instr.sameBits,aGf]
    simp only[Instr.keyThatStays,hsb,Cu,Ad]
   simp only[execOp,ho,q3,h3,Aa,Instr.mapUpdate,hu,δ,kO w b es clk g2];rw[show(10000:Nat)=9999+1 from rfl,M];simp only[δ,Instr.findKey,Aa,Ak A w,Y,Ad,Bk,aa,hkt,E]
  ·rw[p6 cs,Array.toList_modify];have ab:es.toList.modify j (fun e=>{ e with key:=.string ⟨⟨k⟩⟩,val:=a.eval z })=es.toList.take j++{ e with key:=.string ⟨⟨k⟩⟩,val:=a.eval z }::es.toList.drop (j+1):=by
    apply Cv;intro i;rw[List.getElem?_modify];have p5':j<es.size:=by simpa using p5
    by_cases c1:i<j
    ·rw[Bc (by simp;omega),An,ζ c1];simp[show ¬j=i by omega]
    ·rw[Bg (by simp;omega)];simp only[Ai];by_cases c2:j=i
     ·subst c2;rw[I];have hm:min j es.toList.length=j:=by simp;omega
      rw[hm];simp
     ·rw[C4 (C6 p5),show i-j=(i-j-1)+1 by omega,List.getElem?_cons_succ,Ao];simp[c2,show j+1+(i-j-1)=i by omega]
   rw[ab];have:=cZ (mK j g3) (cZ (B { e with key:=.string ⟨⟨k⟩⟩,val:=a.eval z } rfl rfl) (mL (j+1) g3));exact this
 | none=>
  obtain⟨Y,I⟩:=q.2 hq;refine⟨es.push { key:=.string ⟨⟨k⟩⟩,val:=a.eval z,born:=clk },clk+1,?_,?_⟩
  ·simp only[execOp,ho,q3,h3,Aa,Instr.mapUpdate,hu,δ,kO w b es clk g2];rw[show(10000:Nat)=9999+1 from rfl,M];simp only[δ,Instr.findKey,Aa,Ak A w,Y,Ad,E]
  ·rw[I cs,Array.toList_push];exact cZ g3 (B _ rfl rfl)
theorem aOq {t M et:TypeId}{i O:TI}{x y z:Operand}{id:Nat}{agg:Bool}{ents:List (List C)}{k:List UInt8}{v:V}{rs:List R}{cs:List C}{ids:List Nat}(hT:Tok P T) (ho:o.op=.insert t x y z) (hd:o.dst=none) (hi:T[t]?=some (some i)) (hk:i.k=.mp M et)
  (U:T[M]?=some (some O)) (Y:O.k=.str) (hx:opv st x=some (.one (.mr id))) (hh:st.h id=some (.map agg ents)) (u:mT ents) (hy:opv st y=some (Go.AM.T k))
  (hz:opv st z=some v) (q:(match v with | .one _=>!agg | .pa _=>agg | .ma _=>agg | _=>false)=true) (hc:iK v=some rs) (hp:PureL st.h ids rs cs):
  Step P n o st ⟨opr x++opr y++opr z,id::ids⟩ ⟨none,[(id,some (.map agg (aHj k cs ents)))]⟩:=by
 refine Step.turn hd hh (by simp) (by simp[AObj.succ]) fun st' ha aa G S μ a w hs=>?_
 have h1:=aO hs hx fun t h=>ha.1 t (by simp[h])
 have h3:=mS (aO hs hy fun t h=>ha.1 t (by simp[h]));have hv:=aO hs hz fun t h=>ha.1 t (by simp[h])
 simp only[aS,aZ] at h1;obtain⟨agg',ents',b,c,q1,q2,q3⟩:=h1;obtain⟨b',es,clk,g1,g2,g3,g4⟩:=hs.inv.obj id _ aa;rw[g1] at q2;cases q2;have g3:=g3.rep u;have B:=hp.rel (fun i h=>ha.2 i (by simp[h])) hs.inv.obj (dZ hv hc);have E:a.eval z=(if agg then .agg ⟨(a.eval z).cells.toList⟩ else(a.eval z).cells.toList.headD undef)∧(agg=false→(a.eval z).cells.toList.length=1):=by
  cases v with
  | one r=>
   simp at q;subst q;simp only[aS] at hv;rw[hv.one.1];simp
  | pa l=>
   simp at q;subst q;simp only[aS] at hv;obtain⟨vs,hv,_⟩:=hv;rw[hv];simp[Value.cells]
  | ma l=>
   simp at q;subst q;simp only[aS] at hv;obtain⟨vs,hv,_⟩:=hv;rw[hv];simp[Value.cells]
  | tup l=>simp at q
 obtain⟨es',A,I,J⟩:=aS2 (P:=P) hT ho hi hk U Y q3 h3 g2 g3 u B E;have hW:∀ob,WChg w { w with heap:=w.heap.setIfInBounds b ob } b ob:=fun ob=>by
  have hlt:=cA g2;refine⟨rfl,rfl,rfl,by simp,by simp[hlt],fun k _ hne=>?_⟩;show(w.heap.setIfInBounds b ob)[k]?=_;rw[Ba,η (fun e=>hne e.symm)]
 have hSc:∀(ob:Obj) (o:Nat) (v:Value),S.cell b o=some v→∃vs t fr,ob=.cells vs t fr∧vs[o]?=some v:=fun ob o v e=>by
  obtain⟨vs,t,fr,p1,_⟩:=hs.inv.holds.1 b o v e;rw[g2] at p1;cases p1
 have g4:=g4.kn0 u;have hSm:∀m,S.mapo b=some m→w.heap.size≤b:=fun m e=>by rw[g4] at e;cases e
 exact⟨_,.map es' A,b,(0,0),I,g1,hW _,⟨b,_,A,aN _ _ _,(hW _).new,.inr (.inl J),.inl g4⟩,hSc _,hSm⟩
end
end Go.AM
