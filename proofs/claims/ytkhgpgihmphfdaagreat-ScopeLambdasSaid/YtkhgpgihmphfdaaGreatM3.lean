/-
  Texts Am12 to Am16 in one.
-/
import Derived.Test.YtkhgpgihmphfdaaGreatM2
import Derived.RangeFuncRecord
import Derived.IntWalk
import Derived.Laws.StructEq
open List (all_eq_true append_assoc append_nil cons_append drop_drop drop_succ_cons eq_nil_of_length_eq_zero filter_cons filter_eq_self length_append length_cons length_nil length_range length_singleton length_take map_cons map_nil mem_append mem_cons mem_filter mem_map mem_range nil_append nodup_cons range'_succ range_eq_range' take_of_length_le take_succ_cons)
open Nat (eq_of_beq_eq_true le_of_ble_eq_true le_of_lt le_refl le_trans lt_of_lt_of_le min_eq_left sub_zero zero_add zero_le)
namespace Go.AM
open Go
def i3 (μ:Mu) (h:bX):Nat→Prop:=fun b=>∃id o c,h id=some o∧μ id=some (b,c)
def aV (P:Program) (f:FuncId) (args:List V) (hin:List (Nat×AObj)) (res:V) (hout:List (Nat×AObj)):Prop:=
 ∀S μ w vals,Inv ⟨w,S,i3 μ (look hin),μ,look hin⟩ S μ (look hin) w→aT S μ (look hin) args vals→
  Calls P f ⟨vals⟩ w fun e w'=>∃S' μ' v,e=.returned v∧Inv ⟨w,S,i3 μ (look hin),μ,look hin⟩ S' μ' (look hout) w'∧aN S' μ' (look hout) res v
mutual
theorem R.ren_id:∀r:R,r.ren (fun i=>i)=r
 | .c _=>rfl
 | .hs ..=>rfl
 | .tl ..=>rfl
 | .vp ..=>rfl
 | .ep ..=>rfl
 | .mr ..=>rfl
 | .clo f caps=>by simp only[R.ren,R.renL_id caps]
 | .mth f x=>by simp only[R.ren,R.ren_id x]
 | .yl _=>rfl
 | .ra _ _ _ _=>rfl
 | .rp _ _ _ _=>rfl
 | .ras n es l=>by simp only[R.ren,R.renL_id l]
 | .pas l=>by simp only[R.ren,R.renL_id l]
theorem R.renL_id:∀r:List R,R.renL (fun i=>i) r=r
 | []=>rfl
 | r::rs=>by simp only[R.renL,R.ren_id r,R.renL_id rs]
end
mutual
theorem V.ren_id:∀r:V,r.ren (fun i=>i)=r
 | .one r=>by simp only[V.ren,R.ren_id r]
 | .pa _=>rfl
 | .ma l=>by simp only[V.ren,R.renL_id l]
 | .tup l=>by simp only[V.ren,V.renL_id l]
theorem V.renL_id:∀r:List V,V.renL (fun i=>i) r=r
 | []=>rfl
 | r::rs=>by simp only[V.renL,V.ren_id r,V.renL_id rs]
end
theorem aEq:∀l:List (Nat×V),aDq (fun i=>i) l=l
 | []=>rfl
 | (t,v)::l=>by simp only[aDq,V.ren_id v,aEq l]
theorem aEp:∀l:List (List R),uH (fun i=>i) l=l
 | []=>rfl
 | r::l=>by simp only[uH,R.renL_id r,aEp l]
theorem Ole.refl_id {o:AObj}(h:o≠ .dead):Ole (fun i=>i) o o:=by
 cases o with
 | var t cells=>exact .var (R.renL_id cells).symm
 | arr=>exact .arr
 | map=>exact .map
 | dead=>exact absurd rfl h
 | lp st j i e=>exact .lp (aEq e).symm
 | dfr=>exact .dfr
 | rarr te es l=>exact .rarr (aEp l).symm
 | tok r k=>exact .tok (R.ren_id r).symm
inductive Conv (h:bX):List Nat→V→V→Prop
 | refl {v}:Conv h [] v v
 | one {ids r c}:PureL h ids [r] [c]→Conv h ids (.one r) (.one (.c c))
 | agg {ids rs cs}:PureL h ids rs cs→Conv h ids (.ma rs) (.pa cs)
 | pa {ids l cs}:PureL h ids (l.map R.c) cs→Conv h ids (.pa l) (.pa cs)
inductive ArgsV (st:St):List Nat→List Operand→List V→Prop
 | nil:ArgsV st [] [] []
 | cons {ids ids' x xs v v' vs}:opv st x=some v→Conv st.h ids v v'→ArgsV st ids' xs vs→ArgsV st (ids++ids') (x::xs) (v'::vs)
theorem Conv.rel {S:Sto}{μ:Mu}{H H0:bX}{w:World}{ids:List Nat}{v v':V}{u:Value}(h:Conv H0 ids v v') (hi:∀i∈ids,H i=H0 i) (hO:∀id o,H id=some o→jF S μ H w id o) (g:aN S μ H v u):aN S μ H v' u:=by
 cases h with
 | refl=>exact g
 | @one _ r c h=>
  simp only[aN,aY] at g ⊢;have:=h.rel hi hO (vs:=[u]) (by simp only[aP];exact⟨u,[],rfl,g,rfl⟩);simp only[bS] at this;obtain⟨v,vs',h1,h2,q⟩:=this;cases h1;exact h2
 | @agg _ rs cs h=>
  simp only[aN] at g ⊢;obtain⟨vs,h1,h2⟩:=g;exact⟨vs,h1,h.rel hi hO h2⟩
 | @pa _ l cs h=>
  simp only[aN] at g ⊢;obtain⟨vs,h1,h2⟩:=g;exact⟨vs,h1,h.rel hi hO h2.toR⟩
def bU:List Operand→List Nat
 | []=>[]
 | x::xs=>opr x++bU xs
theorem ArgsV.rel {G:Ctx}{n:Nat}{S:Sto}{μ:Mu}{st st':St}{a:Act}{w:World}(hs:Sim G n S μ st' a w):∀{ids:List Nat}{xs:List Operand}{vs:List V},ArgsV st ids xs vs→(∀t∈bU xs,st'.e t=st.e t)→(∀i∈ids,st'.h i=st.h i)→aT S μ st'.h vs (xs.map a.eval):=by
 intro ids xs vs h
 induction h with
 | nil=>intro _ _;simp[aT]
 | cons hx hc _ q=>
  intro g hi;simp only[Be,aT];refine⟨_,_,rfl,?_,q (fun t h=>g t (by simp[bU,h])) fun i h=>hi i (by simp[h])⟩;exact hc.rel (fun i h=>hi i (by simp[h])) hs.inv.obj (aK hs hx fun t h=>g t (by simp[bU,h]))
theorem Inv.hand {G:Ctx}{S:Sto}{μ:Mu}{H:bX}{w:World}{hin:List (Nat×AObj)}(h:Inv G S μ H w) (hh:∀id o,look hin id=some o→H id=some o∧o≠ .dead) (hc:subset (eG hin) (hin.map (·.1))=true):
  Inv ⟨w,S,i3 μ (look hin),μ,look hin⟩ S μ (look hin) w:=by
 have q:∀i∈hin.map (·.1),Good H (look hin) (fun i=>i) i:=by
  intro i hi;obtain⟨o,ho⟩:=bZ hi;obtain⟨h1,h2⟩:=hh i o ho;exact⟨o,o,h1,ho,.refl_id h2⟩
 refine⟨h.holds,fun id o ho=>?_,fun i j o o' b c c' hi B hm u=>h.inj i j o o' b c c' (hh _ _ hi).1 (hh _ _ B).1 hm u,fun i o b c hi hm=>.inr ⟨i,o,c,hi,hm⟩,FrameW.refl _ _ ⟨h.frame.tabAt,fun g y=>?_⟩,S.le_refl,fun b _ _=>⟨fun _=>rfl,rfl⟩,Evolve.refl _ _ _,h.fre⟩
 ·obtain⟨h1,h2⟩:=hh id o ho;exact(h.obj id o h1).ren (.refl_id h2) fun i hi=>q i (bM hc i (gC (b6 ho) i hi))
 ·rintro⟨i,o,c,h1,h2⟩;have E:=(h.frame.tab.1 g y).1
  rcases h.own i o g c (hh i o h1).1 h2 with A | A
  ·omega
  ·exact h.frame.tab.2 g y A
def outs (l:List (Nat×AObj)):List (Nat×Option AObj):=l.map fun p=>(p.1,some p.2)
theorem uY:∀(l:List (Nat×AObj)) (i:Nat),look (outs l) i=(look l i).map some
 | [],_=>rfl
 | (k,o)::l,i=>by
  simp only[outs,Be,look];cases Nat.beq i k
  ·have:=uY l i;unfold outs at this;simpa using this
  ·rfl
theorem dE (H:bX) (l:List (Nat×AObj)) (i:Nat):fC H (outs l) i=match look l i with | some o=>some o | none=>H i:=by
 simp only[fC,uY];cases look l i<;>rfl
theorem Inv.back {G:Ctx}{S S':Sto}{μ μ':Mu}{H:bX}{w w':World}{hin hout:List (Nat×AObj)}(h:Inv G S μ H w) (hh:∀id o,look hin id=some o→H id=some o)
  (hnew:∀id o,look hout id=some o→(∃o',look hin id=some o')∨H id=none)
  (u:Inv ⟨w,S,i3 μ (look hin),μ,look hin⟩ S' μ' (look hout) w'):
  ∃B:Mu,(∀id o,look hout id=some o→B id=μ' id)∧Inv G S' B (fC H (outs hout)) w'∧Evolve S μ H S' B (fC H (outs hout))∧Evolve S' μ' (look hout) S' B (fC H (outs hout)):=by
 have hE:Evolve S μ (look hin) S' μ' (look hout):=u.evo
 let B:Mu:=fun id=>match look hout id with | some _=>μ' id | none=>μ id
 have y:∀id o,look hout id=some o→B id=μ' id:=fun id o ho=>by simp only[B,ho]
 have J:∀id,look hout id=none→B id=μ id:=fun id ho=>by simp only[B,ho]
 have aa:∀id o,look hout id=some o→fC H (outs hout) id=some o:=fun id o ho=>by rw[dE,ho]
 have M:∀id,look hout id=none→fC H (outs hout) id=H id:=fun id ho=>by rw[dE,ho]
 have Y:∀id o,look hin id=some o→∃o',look hout id=some o':=fun id o ho=>by
  obtain⟨o',h1,_⟩:=hE.obj id o ho;exact⟨o',h1⟩
 have ab:Evolve S μ H S' B (fC H (outs hout)):=by
  refine⟨hE.le,fun id o ho=>?_⟩;cases hq:look hout id with
  | none=>exact⟨o,by rw[M id hq,ho],o.succ_refl (J id hq)⟩
  | some I=>
   rcases hnew id I hq with⟨o',hi⟩ | hi
   ·have:=hh id o' hi;rw[ho] at this;cases this;obtain⟨o3,h1,h2⟩:=hE.obj id o hi;rw[hq] at h1;cases h1;exact⟨I,aa id I hq,by rw[y id I hq];exact h2⟩
   ·rw[ho] at hi;cases hi
 have hE2:Evolve S' μ' (look hout) S' B (fC H (outs hout)):=⟨S'.le_refl,fun id o ho=>⟨o,aa id o ho,o.succ_refl (y id o ho)⟩⟩
 have U:∀id o,H id=some o→look hout id=none→∀b c,μ id=some (b,c)→b<w.heap.size∧¬i3 μ (look hin) b:=by
  intro id o ho hq b c hm;refine⟨(h.obj id o ho).lt hm,?_⟩;rintro⟨id',o',c',h1,h2⟩;have:=h.inj id id' o o' b c c' ho (hh _ _ h1) hm h2;subst this;obtain⟨I,g⟩:=Y id o' h1;rw[hq] at g;cases g
 have E:∀id o b c,look hout id=some o→μ' id=some (b,c)→w.heap.size≤b∨i3 μ (look hin) b:=fun id o b c ho hm=>u.own id o b c ho hm
 refine⟨B,y,⟨u.holds,fun id o ho=>?_,fun i j o o' b c c' hi hj hm A=>?_,fun i o b c hi hm=>?_,?_,Sto.le_trans h.sle hE.le,fun b hb hF=>?_,h.evo.trans ab,u.fre⟩,ab,hE2⟩
 ·cases hq:look hout id with
  | some I=>
   rw[aa id I hq] at ho;cases ho;exact(u.obj id _ hq).evolve hE2 (y id _ hq) fun b c hm=>⟨rfl,fun _=>rfl,rfl⟩
  | none=>
   rw[M id hq] at ho;refine(h.obj id o ho).evolve ab (J id hq) fun b c hm=>?_
   obtain⟨h1,h2⟩:=U id o ho hq b c hm;exact⟨u.frame.block b h1 h2,(u.sto b h1 h2).1,(u.sto b h1 h2).2⟩
 ·cases O:look hout i with
  | some oi=>
   rw[y i oi O] at hm;cases q:look hout j with
   | some oj=>
    rw[y j oj q] at A;exact u.inj i j oi oj b c c' O q hm A
   | none=>
    rw[J j q] at A;rw[M j q] at hj;obtain⟨h1,h2⟩:=U j o' hj q b c' A;rcases E i oi b c O hm with g | g
    ·omega
    ·exact absurd g h2
  | none=>
   rw[J i O] at hm;rw[M i O] at hi;obtain⟨h1,h2⟩:=U i o hi O b c hm;cases q:look hout j with
   | some oj=>
    rw[y j oj q] at A;rcases E j oj b c' q A with g | g
    ·omega
    ·exact absurd g h2
   | none=>
    rw[J j q] at A;rw[M j q] at hj;exact h.inj i j o o' b c c' hi hj hm A
 ·cases hq:look hout i with
  | some I=>
   rw[y i I hq] at hm;rcases E i I b c hq hm with g | ⟨id',o',c',g,h4⟩
   ·exact .inl (le_trans h.frame.size g)
   ·exact h.own id' o' b c' (hh _ _ g) h4
  | none=>
   rw[J i hq] at hm;rw[M i hq] at hi;exact h.own i o b c hi hm
 ·refine⟨u.frame.os.trans h.frame.os,u.frame.tape.trans h.frame.tape,u.frame.output.trans h.frame.output,le_trans h.frame.size u.frame.size,fun k hk hF=>?_,h.frame.tab⟩;rw[u.frame.block k (A8 hk h.frame.size) ?_,h.frame.block k hk hF];rintro⟨id',o',c',g,h4⟩;rcases h.own id' o' k c' (hh _ _ g) h4 with h5 | h5
  ·omega
  ·exact hF h5
 ·have hnf:¬i3 μ (look hin) b:=by
   rintro⟨id',o',c',g,h4⟩;rcases h.own id' o' b c' (hh _ _ g) h4 with h5 | h5
   ·omega
   ·exact hF h5
  have h1:=u.sto b (A8 hb h.frame.size) hnf;have h2:=h.sto b hb hF;exact⟨fun o=>(h1.1 o).trans (h2.1 o),h1.2.trans h2.2⟩
section
variable {P:Program}{n:Nat}{o:Oper}{st:St}{d:Nat}
def keys {α:Type}(l:List (Nat×α)):List Nat:=l.map (·.1)
theorem pI {w:World}{S:Sto}{F:Nat→Prop}{μ:Mu}{hin:List (Nat×AObj)}:Ctx.keeps ⟨w,S,F,μ,look hin⟩ (keys hin):=
 ⟨fun id o ho=>mem_map.2 ⟨_,b6 ho,rfl⟩,fun h1 h2=>by
  obtain⟨o,ho⟩:=bZ h1;rw[show look hin 997=none from h2] at ho
  cases ho⟩
def AObj.live:AObj→Bool
 | .dead=>false
 | _=>true
def dU (args:List V) (hin:List (Nat×AObj)):Bool:=subset (V.refsL args) (keys hin)&&subset (eG hin) (keys hin)&&(hin.all fun p=>p.2.live)
theorem Step.call {f:FuncId}{ids g:List Nat}{args:List V}{hin hout:List (Nat×AObj)}{res:V}(O:o.dst=some d) (I:d<n) (U:aV P f args hin res hout)
  (y:eF (fun p=>st.h p.1=some p.2) hin) (q:eF (fun p=>p.1∈keys hin∨st.h p.1=none) hout) (hok:dU args hin=true)
  (A:∀st',fA ⟨g,ids++keys hin++keys hout⟩ st st'→∀G S μ a w,Sim G n S μ st' a w→∃vals,(execOp a.eval o).run P w=.ok (.enter f ⟨vals⟩) w∧aT S μ st'.h args vals):
  Step P n o st ⟨g,ids++keys hin++keys hout⟩ ⟨some (d,some res),outs hout⟩:=by
 intro st' ha G S μ a w K Q hs Y;obtain⟨vals,hr,hv⟩:=A st' ha G S μ a w hs;simp only[dU,ε] at hok;obtain⟨⟨k1,k2⟩,k3⟩:=hok;have hh:∀id o,look hin id=some o→st'.h id=some o∧o≠ .dead:=by
  intro id o ho;have hm:=b6 ho;have h1:=y.mem _ hm;refine⟨by rw[ha.2 id (by simp only[Ay];exact .inl (.inr (mem_map.2 ⟨_,hm,rfl⟩)))];exact h1,?_⟩;have:=(Bc.1 k3) _ hm;rintro rfl;simp[AObj.live] at this
 have B:∀id o,look hout id=some o→(∃o',look hin id=some o')∨st'.h id=none:=by
  intro id o ho;have hm:=b6 ho;rcases q.mem _ hm with h1 | h1
  ·exact .inl (bZ h1)
  ·exact .inr (by rw[ha.2 id (by simp only[Ay];exact .inr (mem_map.2 ⟨_,hm,rfl⟩))];exact h1)
 have hI:=hs.inv.hand hh k2;have u:∀i∈keys hin,Good st'.h (look hin) (fun i=>i) i:=by
  intro i hi;obtain⟨o,ho⟩:=bZ hi;obtain⟨h1,h2⟩:=hh i o ho;exact⟨o,o,h1,ho,.refl_id h2⟩
 have J:aT S μ (look hin) args vals:=by
  have:=aT.ren (H:=st'.h) (H':=look hin) (σ:=fun i=>i) args vals (fun i hi=>u i (bM k1 i hi)) (by rw[V.renL_id];exact hv);exact this
 have hc:=U S μ w vals hI J;refine fun ro=>iL hr ?_
 refine hc.mono fun e w' ⟨S',μ',v,he,M,E⟩=>?_
 subst he;obtain⟨μ2,q1,q2,q3,q4⟩:=hs.inv.back (fun id o ho=>(hh id o ho).1) B M;show K (a.put o.dst v) w';rw[O];refine Y S' μ2 _ _ ?_;exact hs.put q2 q3 I (x:=some res) fun z hz=>by cases hz;exact aN.evolve q4 _ _ E
def fG (P : Program) (f : FuncId) : Prop := ∃ fn, P.funcs[f]? = some fn ∧ (fn.name == "runtime.NumGoroutine") = false ∧ fn.body.isNone = false
theorem dI {f:FuncId}(hb:fG P f) (args:Array Value) (w:World):(callFunc f args).run P w=.ok (.enter f args) w:=by
 obtain⟨fn,h1,h2,g⟩:=hb;have hp:(program:Sem Program).run P w=.ok P w:=rfl;simp only[callFunc,π,hp,ζ,h1,h2,g,Aq,Bq,τ]
theorem aE5 {f:FuncId}{xs:Array Operand}{ts:Array TypeId}{ids:List Nat}{args:List V}{res:V}(hin hout:List (Nat×AObj)) (hb:fG P f) (ho:o.op=.call { callee:=.value (.func f),args:=xs,argTypes:=ts }) (A:o.dst=some d) (y:d<n)
  (B:aV P f args hin res hout) (ha:ArgsV st ids xs.toList args) (u:eF (fun p=>st.h p.1=some p.2) hin) (g:eF (fun p=>p.1∈keys hin∨st.h p.1=none) hout) (hok:dU args hin=true):
  Step P n o st ⟨bU xs.toList,ids++keys hin++keys hout⟩ ⟨some (d,some res),outs hout⟩:=by
 refine Step.call A y B u g hok fun st' q G S μ a w hs=>⟨xs.toList.map a.eval,?_,ha.rel hs q.1 fun i h=>q.2 i (by simp[h])⟩
 simp only[execOp,ho,resolve,Deferred.ofValue,Act.eval,π,τ,ζ,invoke,dI hb];congr 2;apply Array.ext';simp
theorem aE3 {f:FuncId}{x:Operand}{caps:List R}{xs:Array Operand}{ts:Array TypeId}{ids:List Nat}{args:List V}{res:V}(hin hout:List (Nat×AObj)) (hb:fG P f) (ho:o.op=.call { callee:=.value x,args:=xs,argTypes:=ts }) (O:o.dst=some d) (I:d<n)
  (hx:opv st x=some (.one (.clo f caps))) (U:aV P f (args++caps.map V.one) hin res hout) (ha:ArgsV st ids xs.toList args) (u:eF (fun p=>st.h p.1=some p.2) hin) (q:eF (fun p=>p.1∈keys hin∨st.h p.1=none) hout) (hok:dU (args++caps.map V.one) hin=true):
  Step P n o st ⟨opr x++bU xs.toList,ids++keys hin++keys hout⟩ ⟨some (d,some res),outs hout⟩:=by
 refine Step.call O I U u q hok fun st' g G S μ a w hs=>?_
 have J:=aK hs hx fun t y=>g.1 t (by simp[y])
 simp only[aN,aY] at J;obtain⟨vs,h1,h2⟩:=J;refine⟨xs.toList.map a.eval++vs,?_,?_⟩
 ·simp only[execOp,ho,resolve,h1,Deferred.ofValue,π,τ,ζ,invoke,dI hb];congr 2;apply Array.ext';simp
 ·have M:∀(l:List V) (us:List Value) (rs:List R) (vs:List Value),aT S μ st'.h l us→aP S μ st'.h rs vs→aT S μ st'.h (l++rs.map V.one) (us++vs):=by
   intro l
   induction l with
   | nil=>
    intro us rs vs h k;simp only[aT] at h;subst h;simp only[A2]
    induction rs generalizing vs with
    | nil=>simp only[aP] at k;subst k;simp[aT]
    | cons r rs A=>
     simp only[aP] at k;obtain⟨v,vs',rfl,B,E⟩:=k;simp only[Be,aT];exact⟨v,vs',rfl,by simpa [aN] using B,A vs' E⟩
   | cons x l A=>
    intro us rs vs h k;simp only[aT] at h;obtain⟨v,vs',rfl,B,E⟩:=h;simp only[A4,aT];exact⟨v,_,rfl,B,A vs' rs vs E k⟩
  exact M _ _ _ _ (ha.rel hs (fun t y=>g.1 t (by simp[y])) fun i h=>g.2 i (by simp[h])) h2
end
theorem Sim.freeze {G:Ctx}{n:Nat}{S:Sto}{μ:Mu}{a:Act}{w:World}{st:St}{id te es:Nat}{elems:List (List C)}{fz:Nat}(h:st.h id=some (.arr te es elems fz)) (hs:Sim G n S μ st a w):∃S' μ',Sim G n S' μ' ⟨st.e,upd st.h id (some (.arr te es elems 2)),st.d⟩ a w:=by
 have hO:=hs.inv.obj id _ h
 have U:∀S',S.le S'→Evolve S μ st.h S' μ (upd st.h id (some (.arr te es elems 2))):=fun S' hle=>⟨hle,fun j x y=>by
  by_cases q:j=id
  ·subst q;rw[h] at y;cases y;exact⟨_,aH _ _ _,by simp[AObj.succ]⟩
  ·exact⟨x,by rw[aW _ _ _ q];exact y,x.succ_refl rfl⟩⟩
 have hold:∀j x,upd st.h id (some (.arr te es elems 2)) j=some x→∃x',st.h j=some x':=fun j x y=>by
  by_cases q:j=id
  ·subst q;exact⟨_,h⟩
  ·rw[aW _ _ _ q] at y;exact⟨_,y⟩
 obtain⟨h1,h2,h3,h4,h5,h6,h7,h8,Y⟩:=hs.inv;obtain⟨g0,⟨I,J⟩ | ⟨b,base,cap,vs,I,J,g3,g4,g5,g6,g7,g8,g9⟩⟩:=hO
 ·--no block yet
  have B:=U S S.le_refl;refine⟨S,μ,⟨h1,fun j x y=>?_,fun i j x x' b c c' hi y hm M=>?_,fun i x b c hi hm=>?_,h5,h6,h7,h8.trans B,Y⟩,hs.size,hs.defers.evolve B,fun t v e=>aN.evolve B v _ (hs.env t v e)⟩
  ·by_cases q:j=id
   ·subst q;have u:some (AObj.arr te es elems 2)=some x:=by rw[←y];exact(aH _ _ _).symm
    cases u;exact⟨g0,.inl ⟨I,J⟩⟩
   ·have u:st.h j=some x:=by rw[←y];exact(aW _ _ _ q).symm
    exact(h2 j x u).evolve B rfl fun _ _ _=>⟨rfl,fun _=>rfl,rfl⟩
  ·obtain⟨_,A⟩:=hold _ _ hi;obtain⟨_,u⟩:=hold _ _ y;exact h3 i j _ _ b c c' A u hm M
  ·obtain⟨_,A⟩:=hold _ _ hi;exact h4 i _ b c A hm
 ·let S':Sto:=⟨fun g o=>if g=b∧base≤o∧o<base+elems.length*es then vs[o]? else S.cell g o,S.mapo⟩
  have O:∀o v,S.cell b o=some v→vs[o]?=some v:=fun o v e=>by
   obtain⟨vs0,t0,fr0,p1,p2⟩:=h1.1 b o v e;rw[J] at p1;cases p1;simpa using p2
  have hle:S.le S':=⟨fun g o v e=>by
   show(if g=b∧base≤o∧o<base+elems.length*es then vs[o]? else S.cell g o)=some v;by_cases hc:g=b∧base≤o∧o<base+elems.length*es
   ·rw[θ hc];obtain⟨rfl,_⟩:=hc;exact O o v e
   ·rw[ξ hc];exact e,fun g m e=>⟨m,e,m.le_refl⟩⟩
  have B:=U S' hle;have E:∀g o,g≠b→S'.cell g o=S.cell g o:=fun g o q=>ξ fun hc=>q hc.1
  refine⟨S',μ,⟨⟨fun g o v e=>?_,h1.2⟩,fun j x y=>?_,fun i j x x' b c c' hi y hm M=>?_,fun i x b c hi hm=>?_,h5,Sto.le_trans h6 hle,fun g hb hF=>?_,h8.trans B,fun g te' lo hi e o ho=>(E g o fun eb=>by rw[eb] at e;have e:S.mapo b=_:=e;rw[g5.2] at e;cases e).trans (Y g te' lo hi e o ho)⟩,hs.size,hs.defers.evolve B,fun t v e=>aN.evolve B v _ (hs.env t v e)⟩
  ·by_cases hc:g=b∧base≤o∧o<base+elems.length*es
   ·have e':vs[o]?=some v:=by rw[←e];exact(θ hc).symm
    obtain⟨rfl,_⟩:=hc;exact⟨⟨vs⟩,te,(0,0),J,by simpa using e'⟩
   ·have e':S.cell g o=some v:=by rw[←e];exact(ξ hc).symm
    exact h1.1 g o v e'
  ·by_cases q:j=id
   ·subst q;have u:some (AObj.arr te es elems 2)=some x:=by rw[←y];exact(aH _ _ _).symm
    cases u;refine⟨g0,.inr ⟨b,base,cap,vs,I,J,g3,g4,g5,bS.mono hle _ _ g6,(fun e=>by cases e),fun o ho=>?_,fun _ i v hi=>?_⟩⟩
    ·show(if b=b∧base≤o∧o<base+elems.length*es then vs[o]? else S.cell b o)=none;rw[ξ (by omega)];exact g8 o ho
    ·rw[Ak] at hi;split at hi
     ·rw[Al] at hi;show(if b=b∧base≤base+i∧base+i<base+elems.length*es then vs[base+i]? else S.cell b (base+i))=some v;rw[θ ⟨rfl,by omega,by omega⟩];exact hi
     ·cases hi
   ·have u:st.h j=some x:=by rw[←y];exact(aW _ _ _ q).symm
    refine(h2 j x u).evolve B rfl fun g c' hm=>⟨rfl,fun o=>E g o ?_,rfl⟩
    rintro rfl;exact q (h3 j id x _ g c' _ u h hm I)
  ·obtain⟨_,A⟩:=hold _ _ hi;obtain⟨_,u⟩:=hold _ _ y;exact h3 i j _ _ b c c' A u hm M
  ·obtain⟨_,A⟩:=hold _ _ hi;exact h4 i _ b c A hm
  ·have q:g≠b:=by
    rintro rfl;rcases h4 id _ g _ h I with h9 | h9
    ·omega
    ·exact hF h9
   exact⟨fun o=>(E g o q).trans ((h7 g hb hF).1 o),(h7 g hb hF).2⟩
theorem Sub.freeze {kf:List Nat}{st:St}{id te es:Nat}{elems:List (List C)}{fz:Nat}(h:st.h id=some (.arr te es elems fz)):Sub kf ⟨st.e,upd st.h id (some (.arr te es elems 2)),st.d⟩ st:=
 fun _ _ _ _ _ _ _ hs=>hs.freeze h
theorem Inv.empty {G:Ctx}{S:Sto}{μ:Mu}{H:bX}{w:World}{id:Nat}(te es:Nat) (h:Inv G S μ H w) (A:H id=none):Inv G S (upd μ id none) (upd H id (some (.arr te es [] 0))) w∧Evolve S μ H S (upd μ id none) (upd H id (some (.arr te es [] 0))):=by
 have y:Evolve S μ H S (upd μ id none) (upd H id (some (.arr te es [] 0))):=dR A _ _;refine⟨⟨h.holds,fun j x g=>?_,fun i j x B b c c' hi g hm q=>?_,fun i x b c hi hm=>?_,h.frame,h.sle,h.sto,h.evo.trans y,h.fre⟩,y⟩
 ·by_cases u:j=id
  ·subst u;rw[aH] at g;cases g;exact⟨by simp,.inl ⟨aH _ _ _,rfl⟩⟩
  ·rw[aW _ _ _ u] at g;exact(h.obj j x g).evolve y (aW _ _ _ u) fun _ _ _=>⟨rfl,fun _=>rfl,rfl⟩
 ·have h1:i≠id:=fun e=>by subst e;rw[aH] at hm;cases hm
  have h2:j≠id:=fun e=>by subst e;rw[aH] at q;cases q
  rw[aW _ _ _ h1] at hi hm;rw[aW _ _ _ h2] at g q;exact h.inj i j x B b c c' hi g hm q
 ·have h1:i≠id:=fun e=>by subst e;rw[aH] at hm;cases hm
  rw[aW _ _ _ h1] at hi hm;exact h.own i x b c hi hm
theorem Sub.own {kf:List Nat}{st:St}{t id:Nat}(te es:Nat) (h:st.e t=some (.one (.c .nl))) (u:st.h id=none):Sub kf ⟨upd st.e t (some (.one (.hs id 0 0 0))),upd st.h id (some (.arr te es [] 0)),st.d⟩ st:=by
 intro G n S μ a w _ hs;obtain⟨hi,y⟩:=hs.inv.empty te es u;refine⟨S,upd μ id none,⟨hi,hs.size,hs.defers.evolve y,fun s v e=>?_⟩⟩;by_cases g:s=t
 ·subst g;have q:=hs.env s _ h;have e':v=.one (.hs id 0 0 0):=by
   have:some v=some (V.one (.hs id 0 0 0)):=by rw[←e];exact aH _ _ _
   cases this;rfl
  subst e';simp only[aN,aY,Rep] at q ⊢;exact⟨⟨_,_,_,q⟩,.inr ⟨te,es,[],0,aH _ _ _,le_refl _,fun _=>⟨le_refl _,.inl ⟨aH _ _ _,rfl,q⟩⟩⟩⟩
 ·have e':st.e s=some v:=by rw[←e];exact(aW _ _ _ g).symm
  exact aN.evolve y v _ (hs.env s v e')
theorem Sub.ownCell {kf:List Nat}{st:St}{x k id tv:Nat}{cells:List R}(te es:Nat) (h:st.h x=some (.var tv cells)) (Y:cells[k]?=some (.c .nl)) (B:st.h id=none):
  Sub kf ⟨st.e,upd (upd st.h id (some (.arr te es [] 0))) x (some (.var tv (cells.set k (.hs id 0 0 0)))),st.d⟩ st:=by
 intro G n S μ a w _ hs;obtain⟨hi,hE⟩:=hs.inv.empty te es B;have O:x≠id:=fun e=>by subst e;rw[h] at B;cases B
 have hx:upd st.h id (some (.arr te es [] 0)) x=some (.var tv cells):=by rw[aW _ _ _ O];exact h
 obtain⟨b,vs,g1,g2,U,g4⟩:=hi.obj x _ hx
 have A:Evolve S (upd μ id none) (upd st.h id (some (.arr te es [] 0))) S (upd μ id none) (upd (upd st.h id (some (.arr te es [] 0))) x (some (.var tv (cells.set k (.hs id 0 0 0))))):=⟨S.le_refl,fun j y q=>by
  by_cases g:j=x
  ·subst g;rw[hx] at q;cases q;exact⟨_,aH _ _ _,by simp[AObj.succ]⟩
  ·exact⟨y,by rw[aW _ _ _ g];exact q,y.succ_refl rfl⟩⟩
 have hold:∀j y,upd (upd st.h id (some (.arr te es [] 0))) x (some (.var tv (cells.set k (.hs id 0 0 0)))) j=some y→∃y',upd st.h id (some (.arr te es [] 0)) j=some y':=fun j y q=>by
  by_cases g:j=x
  ·subst g;exact⟨_,hx⟩
  ·rw[aW _ _ _ g] at q;exact⟨_,q⟩
 refine⟨S,upd μ id none,⟨⟨hi.holds,fun j y q=>?_,fun i j y y' b c c' E q hm hm'=>?_,fun i y b c E hm=>?_,hi.frame,hi.sle,hi.sto,hi.evo.trans A,hi.fre⟩,hs.size,hs.defers.evolve (hE.trans A),fun s v e=>aN.evolve (hE.trans A) v _ (hs.env s v e)⟩⟩
 ·by_cases g:j=x
  ·subst g;have I:some (AObj.var tv (cells.set k (.hs id 0 0 0)))=some y:=by rw[←q];exact(aH _ _ _).symm
   cases I;refine⟨b,vs,g1,g2,?_,g4⟩;have h3:=aP.evolve A _ _ U;obtain⟨u,hu,J⟩:=U.get k _ Y;simp only[aY,Rep] at J;have hkl:k<cells.length:=(Af.1 Y).1
   have M:cells.set k (.hs id 0 0 0)=bQ cells k [.hs id 0 0 0]:=by
    unfold bQ;rw[Ce,θ hkl];simp
   have hvl:=U.length;have hvs:vs=bQ vs k [u]:=by
    unfold bQ;apply Ch;intro i;simp only[B6,η,Aj,Aa,length_nil,Ak,Al];have hm:min k vs.length=k:=by omega
    rw[hm];by_cases c1:i<k
    ·simp[c1,show i<k+1 by omega]
    ·by_cases c2:i=k
     ·subst c2;simp[hu]
     ·simp[show ¬i<k+1 by omega,show k+1+(i-(k+1))=i by omega]
   rw[M] at h3 ⊢;rw[hvs];refine qP h3 ?_;simp only[aP,aY];exact⟨u,[],rfl,⟨⟨_,_,_,J⟩,.inr ⟨te,es,[],0,by rw[aW _ _ _ O.symm];exact aH _ _ _,le_refl _,fun _=>⟨le_refl _,.inl ⟨aH _ _ _,rfl,J⟩⟩⟩⟩,rfl⟩
  ·have I:upd st.h id (some (.arr te es [] 0)) j=some y:=by rw[←q];exact(aW _ _ _ g).symm
   exact(hi.obj j y I).evolve A rfl fun _ _ _=>⟨rfl,fun _=>rfl,rfl⟩
 ·obtain⟨_,h1⟩:=hold _ _ E;obtain⟨_,h2⟩:=hold _ _ q;exact hi.inj i j _ _ b c c' h1 h2 hm hm'
 ·obtain⟨_,h1⟩:=hold _ _ E;exact hi.own i _ b c h1 hm
def x8:Nat→List V→List (Nat×V)
 | _,[]=>[]
 | k,v::vs=>(k,v)::x8 (k+1) vs
inductive ResV (T:TT) (st:St):List ResultVar→List V→Prop
 | nil:ResV T st [] []
 | tmp {t v rs vs}:st.e t=some v→ResV T st rs vs→ResV T st (.tmp t::rs) (v::vs)
 | cell {a t i id off tv cells v rs vs}:st.e a=some (.one (.vp id off))→T[t]?=some (some i)→st.h id=some (.var tv cells)→Nat.ble (off+i.size) cells.length=true→iU i ((cells.drop off).take i.size)=some v→ResV T st rs vs→
   ResV T st (.cell a t::rs) (v::vs)
inductive Convs (h:bX):List V→List V→Prop
 | nil:Convs h [] []
 | cons {ids v v' vs vs'}:Conv h ids v v'→Convs h vs vs'→Convs h (v::vs) (v'::vs')
def aD3:List Value→Value
 | [u]=>u
 | us=>.tuple ⟨us⟩
def aI0:List V→V
 | [v]=>v
 | vs=>.tup vs
theorem Convs.rel {S:Sto}{μ:Mu}{H:bX}{w:World}:∀{vs vs':List V}{us:List Value},Convs H vs vs'→(∀id o,H id=some o→jF S μ H w id o)→aT S μ H vs us→aT S μ H vs' us:=by
 intro vs vs' us h
 induction h generalizing us with
 | nil=>intro _ g;exact g
 | cons hc _ u=>
  intro hO g;simp only[aT] at g ⊢;obtain⟨v,q,rfl,h1,h2⟩:=g;exact⟨v,q,rfl,hc.rel (fun _ _=>rfl) hO h1,u hO h2⟩
section
variable {P:Program}{T:TT}
theorem o5 {G:Ctx}{n:Nat}{S:Sto}{μ:Mu}{st:St}{a:Act}{w:World}(J:Tok P T) (hs:Sim G n S μ st a w):∀{rs:List ResultVar}{vs:List V},ResV T st rs vs→
  ∃us,(rs.mapM fun(x:ResultVar)=>(match x with | .tmp t=>pure (a.tmps.getD t undef) | .cell p t=>do loadVar t (←asAddr (a.tmps.getD p undef)):Sem Value)).run P w=.ok us w∧aT S μ st.h vs us:=by
 intro rs vs h
 induction h with
 | nil=>exact⟨[],by simp,by simp[aT]⟩
 | @tmp t v rs vs y _ A=>
  obtain⟨us,h1,h2⟩:=A;refine⟨a.tmps.getD t undef::us,?_,?_⟩
  ·simp only[List.mapM_cons,π,τ,ζ,h1]
  ·simp only[aT];exact⟨_,_,rfl,hs.env _ _ y,h2⟩
 | @cell p t i id off tv cells v rs vs y hi hh hb hl _ A=>
  obtain⟨us,h1,h2⟩:=A;have B:=hs.env _ _ y;simp only[aN,aY] at B;obtain⟨t',cells',b,c,g1,E,M⟩:=B;obtain⟨b',ws,O,U,I,q4⟩:=hs.inv.obj id _ hh;rw[O] at E;cases E;have hlen:=Am hb;have aa:=I.length;have g:=run_load (J.get hi) w b off _ (iQ U off i.size) (aWb (by omega));have q:=jZ ((I.drop off).take i.size) hl;generalize (if i.k.agg then Value.agg ⟨(ws.drop off).take i.size⟩ else((ws.drop off).take i.size).headD undef)=u at g q;refine⟨u::us,?_,by simp only[aT];exact⟨_,_,rfl,q,h2⟩⟩
  ·simp only[Instr.loadAt,Instr.sureAddr,π,τ,ζ] at g;have Y:(asAddr (a.tmps.getD p undef)).run P w=.ok ⟨b,off,none⟩ w:=by rw[M];rfl
   simp only[List.mapM_cons,π,τ,ζ,Y,g,h1]
theorem oT {G:Ctx}{n:Nat}{S:Sto}{μ:Mu}{st:St}{a:Act}{w:World}{fn:Func}{vs:List V}(g:Tok P T) (hs:Sim G n S μ st a w) (h:ResV T st fn.results.toList vs):
  ∃us,(results fn a.tmps).run P w=.ok (aD3 us) w∧aT S μ st.h vs us:=by
 obtain⟨us,h1,h2⟩:=o5 g hs h;refine⟨us,?_,h2⟩;unfold results;rw[Array.mapM_eq_mapM_toList,π,Sem.run_map]
 erw [h1]
 simp only[ζ,τ];congr 1
 match us with
 | []=>simp[aD3]
 | [u]=>simp[aD3]
 | u::q::us=>simp[aD3]
def AObj.plain:AObj→Bool
 | .dfr=>false
 | _=>true
theorem aI6 {o:AObj}{p:Prop}(h:o.succ p .dfr):o=.dfr:=by cases o<;>simp only[AObj.succ] at h;rfl
theorem Sim.take {P:Program}{G:Ctx}{n:Nat}{S:Sto}{μ:Mu}{st:St}{a:Act}{w:World}{id:Nat}{ids:List Nat}(hs:Sim G n S μ st a w) (hd:st.d=id::ids) (hG:∀id,G.h0 id≠some .dfr):
  ∃b J w',a.defers={ target:=.collected b,args:= #[] }::J∧(Instr.takeDeferred b).run P w=.ok [] w'∧Sim G n S μ ⟨st.e,upd st.h id none,ids⟩ { a with defers:=J } w':=by
 have hm:=hs.defers;rw[hd] at hm;obtain⟨b,c,J,h1,h2,M,h4,h5,h6⟩:=hm;obtain⟨A,O,U,g3,g4⟩:=hs.inv.obj _ _ M;rw[h2] at O;cases O;have hlt:b<w.heap.size:=(Bw.1 U).1
 have Y:∀j,upd st.h id none j=none∨j≠id:=fun j=>by
  by_cases g:j=id
  ·exact .inl (by rw[g,aH])
  ·exact .inr g
 have aJ8:∀{j o},upd st.h id none j=some o→j≠id∧st.h j=some o:=by
  intro j o g;rcases Y j with h | h
  ·rw[h] at g;cases g
  ·exact⟨h,by rwa [aW _ _ _ h] at g⟩
 have hE:Evo0 S μ st.h S μ (upd st.h id none):=⟨S.le_refl,fun j o g ho=>by
  have q:j≠id:=by rintro rfl;rw[M] at g;cases g;exact ho rfl
  exact⟨o,by rw[aW _ _ _ q];exact g,o.succ_refl rfl⟩⟩
 refine⟨b,J,w.putObj b (.deferred none),h1,run_takeDeferred U,⟨⟨⟨fun A o v e=>?_,fun A mk e=>?_⟩,fun j o g=>?_,fun i j o o' B E c2 hi g I m2=>?_,fun i o B E hi I=>?_,?_,hs.inv.sle,hs.inv.sto,⟨hs.inv.evo.le,fun j o g=>?_⟩,hs.inv.fre⟩,hs.size,?_,fun t v e=>aN.evolve0 hE _ _ (hs.env t v e)⟩⟩
 ·obtain⟨vs,t,fr,u,y⟩:=hs.inv.holds.1 A o v e;have:A≠b:=by rintro rfl;rw[g3] at e;cases e
  exact⟨vs,t,fr,by rw[World.putObj_heap_other this];exact u,y⟩
 ·have:A≠b:=by rintro rfl;rw[g4] at e;cases e
  rw[World.putObj_heap_other this];exact hs.inv.holds.2 A mk e
 ·obtain⟨u,y⟩:=aJ8 g;refine(hs.inv.obj j o y).evolve0 hE rfl fun B E I=>⟨World.putObj_heap_other ?_,fun _=>rfl,rfl⟩
  rintro rfl;exact u (hs.inv.inj j id o .dfr B E _ y M I h2)
 ·exact hs.inv.inj i j o o' B E c2 (aJ8 hi).2 (aJ8 g).2 I m2
 ·exact hs.inv.own i o B E (aJ8 hi).2 I
 ·obtain⟨f1,f2,f3,f4,f5,f6⟩:=hs.inv.frame;refine⟨f1,f2,f3,by simpa using f4,fun k hk hF=>?_,f6⟩;rw[World.putObj_heap_other (by omega)];exact f5 k hk hF
 ·obtain⟨o',u,y⟩:=hs.inv.evo.obj j o g;have q:j≠id:=by
   rintro rfl;rw[M] at u;cases u;rw[aI6 y] at g;exact hG _ g
  exact⟨o',by show upd st.h id none j=some o';rw[aW _ _ _ q];exact u,y⟩
 ·exact h6.go fun j g hjd=>⟨rfl,by
   have q:j≠id:=by rintro rfl;exact h5 g
   show upd st.h id none j=some .dfr
   rw[aW _ _ _ q];exact hjd⟩
theorem Sim.leave {P:Program}{fn:Func}{R:Ending→World→Prop}{G:Ctx}{n:Nat}{S:Sto}{μ:Mu}(A:∀id,G.h0 id≠some .dfr):∀(ids:List Nat) {e:Nat→Option V}{h:bX}{a:Act}{w:World},Sim G n S μ ⟨e,h,ids⟩ a w→
  (∀g w',(∀id o,h id=some o→o≠ .dfr→g id=some o)→Sim G n S μ ⟨e,g,[]⟩ { a with defers:=[] } w'→∃v,(results fn a.tmps).run P w'=.ok v w'∧R (.returned v) w')→
  LeavesInM (Wd none) 0 P fn a.tmps R a.defers .returning w
 | [],e,h,a,w,hs,q=>by
  have M:a.defers=[]:=hs.defers;rw[M];refine q h w (fun _ _ h _=>h) ?_;obtain⟨h1,h2,B,O⟩:=hs;exact⟨h1,h2,rfl,O⟩
 | id::ids,e,h,a,w,hs,q=>by
  have B:h id=some .dfr:=by
   obtain⟨b,c,aa,q1,q2,U,_⟩:=hs.defers;exact U
  obtain⟨b,Y,w',h1,h2,E⟩:=hs.take (P:=P) rfl A;rw[h1];refine⟨by simp,.inl ⟨b,w',rfl,h2,?_⟩⟩;refine Sim.leave A ids (a:={ a with defers:=Y }) E fun g I hh u=>q g I (fun j o y ho=>hh j o ?_ ho) u
  have J:j≠id:=by rintro rfl;rw[B] at y;cases y;exact ho rfl
  rw[aW _ _ _ J];exact y
structure Fin (T:TT) (fn:Func) (st:St) (hin:List (Nat×AObj)) (res:V) (hout:List (Nat×AObj)):Prop where
 ex:∃vs vs',ResV T st fn.results.toList vs∧Convs st.h vs vs'∧aI0 vs'=res
 out:eF (fun p=>∃o,st.h p.1=some o∧Ole (fun i=>i) o p.2) hout
 ok:(subset res.refs (keys hout)&&subset (eG hout) (keys hout)&&distinct (keys hout)&&subset (keys hin) (keys hout)&&(hin.all fun p=>p.2.plain)&&(hout.all fun p=>p.2.plain))=true
theorem ResV.keep {st:St}{q:bX}{d:List Nat}(hh:∀id o,st.h id=some o→o≠ .dfr→q id=some o):∀{rs:List ResultVar}{vs:List V},ResV T st rs vs→ResV T ⟨st.e,q,d⟩ rs vs:=by
 intro rs vs h
 induction h with
 | nil=>exact .nil
 | tmp h1 _ g=>exact .tmp h1 g
 | cell h1 h2 u y A _ g=>exact .cell h1 h2 (hh _ _ u (by simp)) y A g
theorem PureL.keep {h u:bX}(hh:∀id o,h id=some o→o≠ .dfr→u id=some o):∀{ids:List Nat}{rs:List R}{cs:List C},PureL h ids rs cs→PureL u ids rs cs:=by
 intro ids rs cs k
 induction k with
 | nil=>exact .nil
 | c h1 _ g=>exact .c h1 g
 | hs h1 h2 q _ g=>exact .hs (hh _ _ h1 (by simp)) h2 q g
 | any _ g=>exact .any g
 | fn _ g=>exact .fn g
 | ras h0 _ h1 h2 q _ y g=>exact .ras h0 y h1 h2 q g
theorem Convs.keep {h g:bX}(hh:∀id o,h id=some o→o≠ .dfr→g id=some o):∀{vs vs':List V},Convs h vs vs'→Convs g vs vs':=by
 intro vs vs' k
 induction k with
 | nil=>exact .nil
 | @cons ids v v' vs vs' h1 _ q=>
  refine .cons (ids:=ids) ?_ q;cases h1 with
  | refl=>exact .refl
  | one h=>exact .one (h.keep hh)
  | agg h=>exact .agg (h.keep hh)
  | pa h=>exact .pa (h.keep hh)
theorem aV7 {X:Sto→Prop}{kf:List Nat}{f:FuncId}{fn:Func}{c:Code}{n:Nat}{args:List V}{hin hout:List (Nat×AObj)}{res:V}(hX:∀S μ w,X S→Ctx.keeps ⟨w,S,i3 μ (look hin),μ,look hin⟩ kf) (hT:Tok P T) (hf:P.funcs[f]?=some fn) (hb:fn.body=some c) (hn:fn.ntmps=n) (hle:Nat.ble args.length n=true)
  (h:AWp none P n kf c (mk (x8 0 args) hin) (fun ex st=>(ex=.normal∨ex=.ret)∧Fin T fn st hin res hout)):∀S μ w vals,X S→Inv ⟨w,S,i3 μ (look hin),μ,look hin⟩ S μ (look hin) w→aT S μ (look hin) args vals→
  Calls P f ⟨vals⟩ w fun e w'=>∃S' μ' v,e=.returned v∧Inv ⟨w,S,i3 μ (look hin),μ,look hin⟩ S' μ' (look hout) w'∧aN S' μ' (look hout) res v:=by
 intro S μ w vals hXS hI hv;refine(Wd.calls (ro:=none) (n:=0)).1 (callsIn_of_wp_marks hf hb trivial ?_);have hvl:∀(l:List V) (us:List Value),aT S μ (look hin) l us→us.length=l.length:=by
  intro l
  induction l with
  | nil=>intro us h;simp only[aT] at h;subst h;rfl
  | cons x l O=>
   intro us h;simp only[aT] at h;obtain⟨v,vs',rfl,_,h2⟩:=h;simp[O _ h2]
 have hvals:=hvl _ _ hv;have hle':=Am hle;have aa:=hX S μ w hXS;refine h ⟨w,S,i3 μ (look hin),μ,look hin⟩ S μ _ w _ ⟨aa,trivial⟩ ⟨hI,by simp;omega,rfl,fun t v ht=>?_⟩ ?_
 ·have key:∀(l:List V) (us:List Value) (k:Nat),aT S μ (look hin) l us→look (x8 k l) t=some v→∃j,t=k+j∧∃u,us[j]?=some u∧aN S μ (look hin) v u:=by
   intro l
   induction l with
   | nil=>intro us k _ h;simp[x8,look] at h
   | cons x l O=>
    intro us k M hl;simp only[aT] at M;obtain⟨u,U,rfl,h1,h2⟩:=M;simp only[x8,look] at hl;split at hl
    ·rename_i hbq;cases hl;exact⟨0,by rw[δ hbq];rfl,u,rfl,h1⟩
    ·obtain⟨j,y,u',h4,h5⟩:=O U (k+1) h2 hl;exact⟨j+1,by omega,u',by simpa using h4,h5⟩
  obtain⟨j,h1,u,h2,y⟩:=key args vals 0 hv ht;rw[Ba] at h1;subst h1;have hj:t<vals.length:=(Af.1 h2).1
  have:((⟨vals⟩:Array Value)++Array.replicate (fn.ntmps-(⟨vals⟩:Array Value).size) undef).getD t undef=u:=by
   rw[Ac,Cc (by simpa using hj)];simp[h2]
  show aN S μ (look hin) v (((⟨vals⟩:Array Value)++Array.replicate (fn.ntmps-(⟨vals⟩:Array Value).size) undef).getD t undef);rw[this];exact y
 ·intro ex st' S' μ' a' w' ⟨hex,hfin⟩ hs;obtain⟨⟨vs,vs',M,hc,hres⟩,g,hok⟩:=hfin;simp only[ε] at hok;obtain⟨⟨⟨⟨⟨k1,k2⟩,k3⟩,k4⟩,k5⟩,k6⟩:=hok;have I:LeavesInM (Wd none) 0 P fn a'.tmps (fun e w'=>∃S' μ' v,e=.returned v∧Inv ⟨w,S,i3 μ (look hin),μ,look hin⟩ S' μ' (look hout) w'∧aN S' μ' (look hout) res v) a'.defers .returning w':=by
   refine Sim.leave (G:=⟨w,S,i3 μ (look hin),μ,look hin⟩) (n:=n) (S:=S') (μ:=μ') (fun id e=>?_) st'.d (e:=st'.e) (h:=st'.h) hs fun J w'' hh hs=>?_
   ·have:=(Bc.1 k5) _ (b6 (show look hin id=some .dfr from e));cases this
   have M:ResV T ⟨st'.e,J,[]⟩ fn.results.toList vs:=ResV.keep (fun id o ho Y=>hh id o ho Y) M;have hc:Convs J vs vs':=hc.keep fun id o ho Y=>hh id o ho Y
   have g:eF (fun p=>∃o,J p.1=some o∧Ole (fun i=>i) o p.2) hout:=by
    have hk:∀l:List (Nat×AObj),(∀p∈l,p∈hout)→eF (fun p=>∃o,J p.1=some o∧Ole (fun i=>i) o p.2) l:=by
     intro l
     induction l with
     | nil=>intro _;trivial
     | cons p l O=>
      intro hl;refine⟨?_,O fun q hq=>hl q (by simp[hq])⟩;obtain⟨o,A,B⟩:=g.mem p (hl p (by simp));refine⟨o,hh _ _ A ?_,B⟩;rintro rfl;have hp:=(Bc.1 k6) p (hl p (by simp));cases hq:p.2<;>rw[hq] at B hp<;>cases B;cases hp
    exact hk hout fun p hp=>hp
   obtain⟨us,h1,h2⟩:=oT hT hs M;refine⟨_,h1,?_⟩;have y:=hc.rel hs.inv.obj h2;have E:∀i∈keys hout,Good J (look hout) (fun i=>i) i:=by
    intro i hi;obtain⟨o',ho'⟩:=bZ hi;obtain⟨o,A,B⟩:=g.mem _ (b6 ho');exact⟨o,o',A,ho',B⟩
   have hv4:aN S' μ' J res (aD3 us):=by
    rw[←hres]
    match vs',us,y with
    | [],us,y=>simp only[aT] at y;subst y;simp[aI0,aD3,aN,aT]
    | [v],us,y=>
     simp only[aT] at y;obtain⟨u,U,rfl,h5,rfl⟩:=y;exact h5
    | v::v'::l,us,y=>
     have h3':=y;simp only[aT] at h3';obtain⟨u,U,rfl,_,u',us'',rfl,_,_⟩:=h3';simp only[aI0,aD3,aN];exact⟨_,rfl,y⟩
   have hI':Inv ⟨w,S,i3 μ (look hin),μ,look hin⟩ S' μ' (look hout) w'':=by
    refine⟨hs.inv.holds,fun id o ho=>?_,fun i j o o' b c c' hi hj hm hm'=>?_,fun i o b c hi hm=>?_,hs.inv.frame,hs.inv.sle,hs.inv.sto,⟨hs.inv.evo.le,fun id o ho=>?_⟩,hs.inv.fre⟩
    ·obtain⟨o1,A,B⟩:=g.mem _ (b6 ho);exact(hs.inv.obj _ _ A).ren B fun i hi=>E i (bM k2 i (gC (b6 ho) i hi))
    ·obtain⟨o1,A,B⟩:=g.mem _ (b6 hi);obtain⟨o2,g3,g4⟩:=g.mem _ (b6 hj);exact hs.inv.inj _ _ _ _ b c c' A g3 hm hm'
    ·obtain⟨o1,A,B⟩:=g.mem _ (b6 hi);exact hs.inv.own _ _ b c A hm
    ·obtain⟨o',(A:J id=some o'),B⟩:=hs.inv.evo.obj id o ho;have hk:id∈keys hin:=mem_map.2 ⟨_,b6 (show look hin id=some o from ho),rfl⟩;obtain⟨o1,o2,g3,g4,g5⟩:=E id (bM k4 id hk);rw[A] at g3;cases g3;exact⟨o2,g4,AObj.succ_trans B g5.succ fun e _=>e⟩
   have hR:aN S' μ' (look hout) res (aD3 us):=by
    have:=aN.ren (H:=J) (H':=look hout) (σ:=fun i=>i) res _ (fun i hi=>E i (bM k1 i hi)) (by rw[V.ren_id];exact hv4);exact this
   exact⟨S',μ',_,rfl,hI',hR⟩
  rcases hex with rfl | rfl
  ·exact I
  ·exact I
end
section
variable {P:Program}{T:TT}
theorem bF {f:FuncId}{fn:Func}{c:Code}{n:Nat}{args:List V}{hin hout:List (Nat×AObj)}{res:V}(g:Tok P T) (q:P.funcs[f]?=some fn) (hb:fn.body=some c) (hn:fn.ntmps=n) (hle:Nat.ble args.length n=true)
  (h:AWp none P n (keys hin) c (mk (x8 0 args) hin) (fun ex st=>(ex=.normal∨ex=.ret)∧Fin T fn st hin res hout)):aV P f args hin res hout:=
 fun S μ w vals u y=>aV7 (X:=fun _=>True) (fun _ _ _ _=>pI) g q hb hn hle h S μ w vals trivial u y
end
abbrev pan (v:Value):Exit:=.panic [{ v:=v,recovered:=false }]
def aBw (P:Program) (f:FuncId) (args:List V) (hin:List (Nat×AObj)) (v:Value):Prop:=
 ∀S μ w vals,Inv ⟨w,S,i3 μ (look hin),μ,look hin⟩ S μ (look hin) w→aT S μ (look hin) args vals→
  Calls P f ⟨vals⟩ w fun e w'=>∃S' μ' hout,e=.panicked [{ v:=v,recovered:=false }]∧(∀id o,look hout id=some o→∃o',look hin id=some o')∧Inv ⟨w,S,i3 μ (look hin),μ,look hin⟩ S' μ' (look hout) w'
def aL5 (v:Value) (P:Program) (n:Nat) (o:Oper) (st:St) (rd:Rd):Prop:=
 ∀st',fA rd st st'→∀G S μ a w (K:Act→World→Prop) (Q:Exit→Act→World→Prop),Sim G n S μ st' a w→
  (∀S' μ' e h a' w',Sim G n S' μ' ⟨e,h,st'.d⟩ a' w'→Q (pan v) a' w')→∀ro,o.wpIn (Wd ro) 0 P a w K Q
def mT (v:Value) (P:Program) (n:Nat) (ops:Array Oper) (i:Nat) (st:St) (rd:Rd):Prop:=
 ∀st',fA rd st st'→∀G S μ a w (K:Act→World→Prop) (Q:Exit→Act→World→Prop),Sim G n S μ st' a w→
  (∀S' μ' e h a' w',Sim G n S' μ' ⟨e,h,st'.d⟩ a' w'→Q (pan v) a' w')→∀ro,wpOpIn (Wd ro) 0 P ops Q i K a w
section
variable {P:Program}{n:Nat}{o:Oper}{ops:Array Oper}{i:Nat}{st:St}{rd:Rd}{v:Value}
theorem mT.plain (ho:ops[i]?=some o) (g:o.guard=none) (h:aL5 v P n o st rd):mT v P n ops i st rd:=by
 intro st' ha G S μ a w K Q hs q ro;unfold wpOpIn;simp only[ho];rw[θ (by simp[Region.wanted,g])];exact h st' ha G S μ a w K Q hs q ro
theorem Step.callP {f:FuncId}{ids g:List Nat}{args:List V}{hin:List (Nat×AObj)}(J:aBw P f args hin v)
  (u:eF (fun p=>st.h p.1=some p.2) hin) (hok:dU args hin=true)
  (y:∀st',fA ⟨g,ids++keys hin⟩ st st'→∀G S μ a w,Sim G n S μ st' a w→∃vals,(execOp a.eval o).run P w=.ok (.enter f ⟨vals⟩) w∧aT S μ st'.h args vals):
  aL5 v P n o st ⟨g,ids++keys hin⟩:=by
 intro st' ha G S μ a w K Q hs M;obtain⟨vals,O,U⟩:=y st' ha G S μ a w hs;simp only[dU,ε] at hok;obtain⟨⟨Y,k2⟩,k3⟩:=hok;have hh:∀id o,look hin id=some o→st'.h id=some o∧o≠ .dead:=by
  intro id o ho;have hm:=b6 ho;have h1:=u.mem _ hm;refine⟨by rw[ha.2 id (by simp only[Ay];exact .inr (mem_map.2 ⟨_,hm,rfl⟩))];exact h1,?_⟩;have:=(Bc.1 k3) _ hm;rintro rfl;simp[AObj.live] at this
 have hI:=hs.inv.hand hh k2;have q:∀i∈keys hin,Good st'.h (look hin) (fun i=>i) i:=by
  intro i hi;obtain⟨o,ho⟩:=bZ hi;obtain⟨h1,h2⟩:=hh i o ho;exact⟨o,o,h1,ho,.refl_id h2⟩
 have B:aT S μ (look hin) args vals:=by
  have:=aT.ren (H:=st'.h) (H':=look hin) (σ:=fun i=>i) args vals (fun i hi=>q i (bM Y i hi)) (by rw[V.renL_id];exact U);exact this
 have hc:=J S μ w vals hI B;refine fun ro=>iL O ?_
 refine hc.mono fun e w' ⟨S',μ',hout,he,A,E⟩=>?_
 subst he;obtain⟨μ2,q1,q2,I,q4⟩:=hs.inv.back (fun id o ho=>(hh id o ho).1) (fun id o ho=>.inl (A id o ho)) E;exact M S' μ2 st'.e _ a w' ⟨q2,hs.size,hs.defers.evolve I,fun t v e=>aN.evolve I v _ (hs.env t v e)⟩
theorem aE4 {f:FuncId}{xs:Array Operand}{ts:Array TypeId}{ids:List Nat}{args:List V}(hin:List (Nat×AObj)) (hb:fG P f) (ho:o.op=.call { callee:=.value (.func f),args:=xs,argTypes:=ts })
  (u:aBw P f args hin v) (ha:ArgsV st ids xs.toList args) (q:eF (fun p=>st.h p.1=some p.2) hin) (hok:dU args hin=true):aL5 v P n o st ⟨bU xs.toList,ids++keys hin⟩:=by
 refine Step.callP u q hok fun st' g G S μ a w hs=>⟨xs.toList.map a.eval,?_,ha.rel hs g.1 fun i h=>g.2 i (by simp[h])⟩
 simp only[execOp,ho,resolve,Deferred.ofValue,Act.eval,π,τ,ζ,invoke,dI hb];congr 2;apply Array.ext';simp
theorem aJr {f:FuncId}{x:Operand}{caps:List R}{xs:Array Operand}{ts:Array TypeId}{ids:List Nat}{args:List V}(hin:List (Nat×AObj)) (hb:fG P f) (ho:o.op=.call { callee:=.value x,args:=xs,argTypes:=ts })
  (hx:opv st x=some (.one (.clo f caps))) (J:aBw P f (args++caps.map V.one) hin v) (ha:ArgsV st ids xs.toList args) (q:eF (fun p=>st.h p.1=some p.2) hin) (hok:dU (args++caps.map V.one) hin=true):
  aL5 v P n o st ⟨opr x++bU xs.toList,ids++keys hin⟩:=by
 refine Step.callP J q hok fun st' g G S μ a w hs=>?_
 have E:=aK hs hx fun t u=>g.1 t (by simp[u])
 simp only[aN,aY] at E;obtain⟨vs,h1,h2⟩:=E;refine⟨xs.toList.map a.eval++vs,?_,?_⟩
 ·simp only[execOp,ho,resolve,h1,Deferred.ofValue,π,τ,ζ,invoke,dI hb];congr 2;apply Array.ext';simp
 ·have I:∀(l:List V) (us:List Value) (rs:List R) (vs:List Value),aT S μ st'.h l us→aP S μ st'.h rs vs→aT S μ st'.h (l++rs.map V.one) (us++vs):=by
   intro l
   induction l with
   | nil=>
    intro us rs vs h k;simp only[aT] at h;subst h;simp only[A2]
    induction rs generalizing vs with
    | nil=>simp only[aP] at k;subst k;simp[aT]
    | cons r rs y=>
     simp only[aP] at k;obtain⟨v,vs',rfl,A,B⟩:=k;simp only[Be,aT];exact⟨v,vs',rfl,by simpa [aN] using A,y vs' B⟩
   | cons x l y=>
    intro us rs vs h k;simp only[aT] at h;obtain⟨v,vs',rfl,A,B⟩:=h;simp only[A4,aT];exact⟨v,_,rfl,A,y vs' rs vs B k⟩
  exact I _ _ _ _ (ha.rel hs (fun t u=>g.1 t (by simp[u])) fun i h=>g.2 i (by simp[h])) h2
end
inductive RunP (v:Value) (p:Nat) (P:Program) (n:Nat) (ops:Array Oper):Nat→St→REs→St→Prop
 | nil {k st}:RunP v p P n ops k st [] st
 | cons {k st rd f xs st'}:k≠p→GStep P n ops k st rd f→RunP v p P n ops (k+1) (f.apply st) xs st'→RunP v p P n ops k st ((rd,f)::xs) st'
 | pan {st rd f xs st'}:mT v P n ops p st rd→RunP v p P n ops (p+1) (f.apply st) xs st'→RunP v p P n ops p st ((rd,f)::xs) st'
theorem Run.toP {v:Value}{p:Nat}{P:Program}{n:Nat}{ops:Array Oper}{k:Nat}{st st':St}{xs:REs}(h:Run P n ops k st xs st') (hp:p<k):RunP v p P n ops k st xs st':=by
 induction h with
 | nil=>exact .nil
 | cons g _ q=>exact .cons (by omega) g (q (by omega))
theorem fold_zero {k:Nat}:∀(g:REs) (m:Nat) (s:St),k<m→c7 (fun j=>decide (j<k+0)) m g s=s:=by
 intro g
 induction g with
 | nil=>intro m s _;rfl
 | cons y g q=>
  intro m s hm;simp only[c7];have:decide (m<k+0)=false:=by simp;omega
  rw[this,Bi];exact q (m+1) _ (by omega)
theorem RunP.at {v:Value}{p:Nat}{P:Program}{n:Nat}{ops:Array Oper}{k:Nat}{st st':St}{xs:REs}(h:RunP v p P n ops k st xs st'):∀(i:Nat) (x:Rd×Eff),xs[i]?=some x→
  (k+i≠p→GStep P n ops (k+i) (c7 (fun j=>decide (j<k+i)) k xs st) x.1 x.2)∧(k+i=p→mT v P n ops (k+i) (c7 (fun j=>decide (j<k+i)) k xs st) x.1):=by
 induction h with
 | nil=>intro i x hx;simp at hx
 | @cons k st rd f xs st' y q A u=>
  intro i x hx;cases i with
  | zero=>
   simp at hx;subst hx;simp only[c7];have:decide (k<k+0)=false:=by simp
   rw[this,Bi,fold_zero xs (k+1) st (by omega)];exact⟨fun _=>q,fun e=>absurd e y⟩
  | succ i=>
   simp at hx;have:=u i x hx;simp only[c7];have g:decide (k<k+(i+1))=true:=by simp
   rw[g,Bk];rw[show k+(i+1)=k+1+i by omega];exact this
 | @pan st rd f xs st' q A u=>
  intro i x hx;cases i with
  | zero=>
   simp at hx;subst hx;simp only[c7];have:decide (p<p+0)=false:=by simp
   rw[this,Bi,fold_zero xs (p+1) st (by omega)];exact⟨fun e=>absurd rfl e,fun _=>q⟩
  | succ i=>
   simp at hx;have:=u i x hx;simp only[c7];have g:decide (p<p+(i+1))=true:=by simp
   rw[g,Bk];rw[show p+(i+1)=p+1+i by omega];exact this
theorem zM {v:Value}{p:Nat}{P:Program}{n:Nat}{ops:Array Oper}{G:Ctx}{st st':St}{xs:REs}{Q:Exit→Act→World→Prop}(hr:RunP v p P n ops 0 st xs st') (hlen:xs.length=ops.size)
  (hap:cK (preds ops) xs []=true) (hed:dM ops=true) (hp:p<ops.size)
  (hQ:∀S' μ' e h a' w',Sim G n S' μ' ⟨e,h,st.d⟩ a' w'→Q (pan v) a' w'):
  ∀(fuel:Nat) (listed:Array Bool),listed.size=ops.size→((List.range ops.size).filter fun i=>!listed.getD i false).length=fuel→rJ ops listed→listed.getD p false=false→
   ∀S μ a w,Sim G n S μ (c7 (fun j=>listed.getD j false) 0 xs st) a w→∀ro,wpAnyIn (Wd ro) 0 P .any ops Q fuel listed a w:=by
 have hfin:∀(listed:Array Bool),listed.size=ops.size→Region.ready .any ops listed=[]→listed.getD p false=false→False:=by
  intro listed hl hre A;have hall:∀i,i<ops.size→listed.getD i false=true:=by
   intro i
   induction i using Nat.strongRecOn with
   | _ i ih=>
    intro hi;cases hc:listed.getD i false with
    | true=>rfl
    | false=>
     exfalso;have:i∈Region.ready .any ops listed:=by
      simp only[Region.ready,mem_filter,mem_range,ε,Bm];refine⟨hi,by rw[gJ (by omega)];exact hc,?_⟩;have ho:ops[i]?=some ops[i]:=by simp[hi]
      simp only[ho,B1,Option.getD_some];refine Array.all_eq_true_iff_forall_mem.2 fun e he=>?_
      have hlt:=(Bc.1 hed) (ops[i],i) (by
       rw[List.mem_iff_getElem?]
       exact⟨i,by simp[hi]⟩)
      have u:=(Bc.1 hlt) e (by simpa using he);simp only[Bool.or_eq_true,Bm,As] at u ⊢;rcases u with u | u
      ·exact .inl u
      ·exact .inr (ih e.on u (by omega))
     rw[hre] at this;simp at this
  rw[hall p hp] at A;cases A
 intro fuel
 induction fuel with
 | zero=>
  intro listed hl hf _ A S μ a w hs;have:p∈(List.range ops.size).filter fun i=>!listed.getD i false:=by simp only[mem_filter,mem_range,Bm];exact⟨hp,A⟩
  rw[Ap hf] at this;simp at this
 | succ fuel ih=>
  intro listed hl hf hcl A S μ a w hs ro;refine⟨fun hre=>(hfin listed hl hre A).elim,fun i hi=>?_⟩;obtain⟨h1,h2,h3⟩:=n8 hl hi;have hx:xs[i]?=some xs[i]:=by simp[hlen,h1]
  have ho:ops[i]?=some ops[i]:=by simp[h1]
  have hcl':rJ ops (listed.setIfInBounds i true):=by
   intro j o E B e he hb;simp only[Ac,A3] at B ⊢;have hmon:listed.getD e.on false=true→(if i=e.on then if i<listed.size then some true else none else listed[e.on]?).getD false=true:=by
    intro hh;split
    ·simp[hl,h1]
    ·rwa [Ac] at hh
   by_cases aa:i=j
   ·subst aa;exact hmon (h3 o E e he hb)
   ·rw[ξ aa] at B;exact hmon (hcl j o E (by rwa [Ac]) e he hb)
  have hpd:∀(L:Array Bool),rJ ops L→∀k p,(preds ops)[k]?=some p→L.getD k false=true→∀j∈p,L.getD j false=true:=by
   intro L hL k p hp I;refine nO (fun j=>L.getD j false) ops.toList [] (by simp) ?_ k p hp I;intro k' o ho' hl' e he hb;exact hL k' o (by simpa using ho') (by simpa using hl') e he hb
  have M:(listed.setIfInBounds i true).getD i false=true:=by simp[hl,h1]
  have hold:∀j,j≠i→(listed.setIfInBounds i true).getD j false=listed.getD j false:=by
   intro j E;simp only[Ac,A3];rw[ξ (fun e=>E e.symm)]
  have hdis1:∀j y,xs[j]?=some y→j<i→listed.getD j false=false→indep y xs[i]=true:=by
   intro j y hy hji B;obtain⟨p,hp,O⟩:=hY _ _ _ hap i _ hx;rcases O j y (by simpa using hji) (by simpa using hy) with hm | hm
   ·have:=hpd _ hcl' i p hp M j hm;rw[hold j (by omega)] at this;rw[this] at B;cases B
   ·exact hm
  have ab:∀j y,xs[j]?=some y→i<j→listed.getD j false=true→indep xs[i] y=true:=by
   intro j y hy aa B;obtain⟨p,hp,O⟩:=hY _ _ _ hap j _ hy;rcases O i xs[i] (by simpa using aa) (by simp) with hm | hm
   ·have:=hpd _ hcl j p hp B i hm;rw[this] at h2;cases h2
   ·exact hm
  have hg:=hr.at i _ hx;simp only[Ba] at hg;have hag:fA xs[i].1 (c7 (fun j=>decide (j<i)) 0 xs st) (c7 (fun j=>listed.getD j false) 0 xs st):=by
   have key:∀k x,xs[k]?=some x→listed.getD (0+k) false≠decide (0+k<i)→(∀t∈xs[i].1.e,t∉x.2.we)∧(∀t∈xs[i].1.h,t∉x.2.wh):=by
    intro k x I q;rw[Ba] at q;by_cases hki:k<i
    ·have J:listed.getD k false=false:=by
      cases hc:listed.getD k false with
      | false=>rfl
      | true=>simp[hc,hki] at q
     have U:=hdis1 k x I hki J;simp only[indep,ε] at U;obtain⟨⟨⟨d1,d2⟩,d3⟩,d4⟩:=U;exact⟨fun t g hw=>cY d1 t hw (by simp[g]),fun t g hw=>cY d2 t hw (by simp[g])⟩
    ·by_cases hke:k=i
     ·subst hke;rw[h2] at q;simp at q
     ·have J:listed.getD k false=true:=by
       cases hc:listed.getD k false with
       | true=>rfl
       | false=>simp[hc,hki] at q
      have U:=ab k x I (by omega) J;simp only[indep,ε] at U;obtain⟨⟨⟨d1,d2⟩,d3⟩,d4⟩:=U;exact⟨fun t g hw=>cY d3 t hw g,fun t g hw=>cY d4 t hw g⟩
   exact⟨fun t g=>nD t xs 0 _ _ _ _ rfl fun k x I q=>(key k x I q).1 t g,fun t g=>nC t xs 0 _ _ _ _ rfl fun k x I q=>(key k x I q).2 t g⟩
  by_cases hip:i=p
  ·refine hg.2 hip _ hag G S μ a w _ Q hs (fun S' μ' e h a' w' Y=>?_) ro;rw[sN] at Y;exact hQ S' μ' e h a' w' Y
  refine hg.1 hip _ hag G S μ a w _ Q hs (fun S' μ' a' w' Y=>?_) ro;refine ih (listed.setIfInBounds i true) (by simp[hl]) ?_ hcl' (by rw[hold p (fun e=>hip e.symm)];exact A) S' μ' a' w' ?_ ro
  ·--one fewer is left
   have:∀(l:List Nat),l.Nodup→i∈l→((l.filter fun j=>!listed.getD j false).length=((l.filter fun j=>!(listed.setIfInBounds i true).getD j false).length)+1):=by
    intro l
    induction l with
    | nil=>intro _ h;simp at h
    | cons b l ihl=>
     intro hnd hmem;have hnd':=(nodup_cons.1 hnd)
     by_cases hb:b=i
     ·subst hb;have hno:∀j∈l,(!(listed.setIfInBounds b true).getD j false)=(!listed.getD j false):=fun j E=>by rw[hold j (fun e=>hnd'.1 (e▸E))]
      rw[Cf,Cf,h2,M];simp only[Bool.not_false,Cg,Bool.not_true,Aq,Bq,Aa];rw[List.filter_congr hno]
     ·have hm':i∈l:=(Au.1 hmem).resolve_left fun e=>hb e.symm
      have:=ihl hnd'.2 hm';rw[Cf,Cf,hold b hb];split
      ·simp only[Aa];omega
      ·exact this
   have:=this (List.range ops.size) List.nodup_range (by simpa using h1);omega
  ·have hadd:=vF (fun j=>listed.getD j false) i xs[i].2 xs 0 xs[i].1 st (Ad _) (by rw[sub_zero,hx]) h2 (by
    intro k x I J hik;rw[Ba] at J hik;have U:=ab k x I hik J;simp only[indep,ε] at U;obtain⟨⟨⟨d1,d2⟩,d3⟩,d4⟩:=U
    exact⟨fun t g hw=>cY d1 t g (by simp[hw]),fun t g hw=>cY d2 t g (by simp[hw])⟩)
   rw[←hadd] at Y;have hfe:(fun j=>(listed.setIfInBounds i true).getD j false)=fun j=>listed.getD j false || Nat.beq j i:=funext fun j=>by
    by_cases E:j=i
    ·subst E;rw[M];simp
    ·rw[hold j E];have hb:Nat.beq j i=false:=by
      cases hb:Nat.beq j i with
      | false=>rfl
      | true=>exact absurd (δ hb) E
     rw[hb,Bool.or_false]
   rw[hfe];exact Y
section
variable {ro:Option Nat}{P:Program}{n:Nat}{st:St}{kf:List Nat}{Q:Exit→St→Prop}{v:Value}{p:Nat}
theorem yP {id:Nat}{ops:Array Oper}{draw:Bool}{st':St}{xs:REs}(hm:P.follows .mixedOrders=true) (q:RunP v p P n ops 0 st xs st') (hp:p<xs.length) (hle:xs.length≤ops.size)
  (g:draw=true→xs.length=ops.size∧(cK (preds ops) xs []&&dM ops)=true) (h:∀e h,Q (pan v) ⟨e,h,st.d⟩):AWp ro P n kf (.region id ops draw) st Q:=fun G S μ a w Q' u hs hQ=>by
 cases draw with
 | true=>
  obtain⟨A,g⟩:=g rfl;rw[ε] at g;refine wpIn_region_any hm ?_;refine zM (G:=G) q A g.1 g.2 (by omega) (fun S' μ' e h' a' w' s=>hQ _ _ S' μ' a' w' (h e h') s) ops.size _ (by simp) ?_ ?_ ?_ S μ a _ ?_ ro
  ·have:((List.range ops.size).filter fun i=>!(Array.replicate ops.size false).getD i false)=List.range ops.size:=by
    apply filter_eq_self.2;intro i hi;simp at hi;simp[hi]
   rw[this,length_range]
  ·intro i o ho hl;simp[A1] at hl;split at hl<;>simp at hl
  ·simp[A1];split<;>rfl
  ·have hz:∀(B:REs) (k:Nat) (s:St),c7 (fun j=>(Array.replicate ops.size false).getD j false) k B s=s:=by
    intro B
    induction B with
    | nil=>intro k s;rfl
    | cons y B I=>
     intro k s;have hf:(Array.replicate ops.size false).getD k false=false:=by
      simp[A1];split<;>rfl
     simp only[c7,hf,Bi];exact I _ _
   rw[hz];exact⟨hs.inv.same rfl rfl rfl rfl,hs.size,hs.defers,hs.env⟩
 | false=>
  refine wpIn_region ?_;have key:∀(k:Nat) (s E:St) (xs:REs) (m:Nat),RunP v p P n ops k s xs E→k≤p→p<k+xs.length→k+xs.length≤m→s.d=st.d→∀S μ a w,Sim G n S μ s a w→wpOpsIn (Wd ro) 0 P ops Q' (List.range' k (m-k)) a w:=by
   intro k s E xs m q
   induction q with
   | nil=>intro h1 h2;simp at h2;omega
   | @cons k s rd f xs E hne u _ I=>
    intro h1 h2 J M S μ a w hs;simp only[Aa] at h2 J;rw[show m-k=(m-(k+1))+1 by omega];simp only[range'_succ,Br];exact u s (fA.refl _ _) G S μ a w _ Q' hs (fun S1 O U Y s1=>I (by omega) (by omega) (by omega) M S1 O U Y s1) ro
   | @pan s rd f xs E u _ _=>
    intro h1 h2 J M S μ a w hs;simp only[Aa] at h2 J;rw[show m-p=(m-(p+1))+1 by omega];simp only[range'_succ,Br];exact u s (fA.refl _ _) G S μ a w _ Q' hs (fun S1 O e1 h1 U Y s1=>hQ _ _ S1 O U Y (h e1 h1) (by rw[←M];exact s1)) ro
  have:=key 0 st st' xs ops.size q (Ad _) (by omega) (by omega) rfl S μ a w hs;rwa [range_eq_range',←sub_zero ops.size]
end
def blur:AObj→AObj
 | .var t cells=>.var t (cells.map fun _=>.c .any)
 | o=>o
def lE:AObj→Bool
 | .var _ _=>true
 | .arr _ _ _ _=>true
 | .dead=>true
 | _=>false
theorem wI {o:AObj}{p:Prop}(h:p):o.succ p (blur o):=by cases o<;>simp[blur,AObj.succ,h]
theorem aP.blur {S:Sto}{μ:Mu}{H H':bX}:∀{rs:List R}{vs:List Value},aP S μ H rs vs→aP S μ H' (rs.map fun _=>R.c .any) vs
 | [],_,h=>by simpa only[aP,map_nil] using h
 | _::_,_,h=>by
  simp only[aP,Be] at h ⊢;obtain⟨v,vs',rfl,h1,h2⟩:=h;exact⟨v,vs',rfl,by simp only[aY,Rep];exact h1.one,h2.blur⟩
theorem jF.blur {S:Sto}{μ:Mu}{H H':bX}{w:World}{id:Nat}{o:AObj}(h:jF S μ H w id o) (hb:lE o=true):jF S μ H' w id (blur o):=by
 cases o with
 | var t cells=>
  obtain⟨b,vs,h1,h2,g,q,u⟩:=h;exact⟨b,vs,h1,h2,g.blur,q,u⟩
 | arr te es elems fz=>exact h
 | dead=>exact h
 | _=>simp[lE] at hb
theorem aEc {o o':AObj}{p:Prop}(h:o.succ p o') (hb:lE o=true):lE o'=true:=by
 cases o<;>cases o'<;>simp[lE,AObj.succ] at h hb ⊢
def uD (hin:List (Nat×AObj)) (h:bX):List (Nat×AObj):=hin.filterMap fun p=>(h p.1).map fun o=>(p.1,blur o)
theorem cV {h:bX}:∀{hin:List (Nat×AObj)}{id:Nat}{o:AObj},look (uD hin h) id=some o→(∃o',look hin id=some o')∧∃x,h id=some x∧o=blur x
 | [],id,o,e=>by simp[uD,look] at e
 | (k,y)::l,id,o,e=>by
  have g:=cV (h:=h) (hin:=l) (id:=id) (o:=o);have hl:(∃o',look l id=some o')→∃o',look ((k,y)::l) id=some o':=fun⟨o',ho⟩=>by
   simp only[look];split
   ·exact⟨_,rfl⟩
   ·exact⟨_,ho⟩
  unfold uD at e g;rw[List.filterMap_cons] at e;dsimp only at e;cases q:h k with
  | none=>
   rw[q] at e;exact⟨hl (g e).1,(g e).2⟩
  | some x=>
   rw[q] at e;simp only[B1,look] at e;split at e
   ·rename_i hb;have hb:=δ hb;subst hb;cases e;exact⟨⟨y,by simp[look]⟩,x,q,rfl⟩
   ·exact⟨hl (g e).1,(g e).2⟩
theorem oU {h:bX}:∀{hin:List (Nat×AObj)}{id:Nat}{o x:AObj},look hin id=some o→h id=some x→look (uD hin h) id=some (blur x)
 | [],id,o,x,e,_=>by simp[look] at e
 | (k,y)::l,id,o,x,e,hx=>by
  have g:=oU (h:=h) (hin:=l) (id:=id) (o:=o) (x:=x);unfold uD at g ⊢;rw[List.filterMap_cons];dsimp only;simp only[look] at e;by_cases hb:Nat.beq id k=true
  ·have q:=δ hb;subst q;rw[hx];simp[look]
  ·rw[ξ hb] at e;cases u:h k with
   | none=>exact g e hx
   | some z=>
    simp only[B1,look];rw[ξ hb];exact g e hx
section
variable {P:Program}
theorem aPa {f:FuncId}{fn:Func}{c:Code}{n:Nat}{args:List V}{hin:List (Nat×AObj)}{v:Value}(hf:P.funcs[f]?=some fn) (hb:fn.body=some c) (hn:fn.ntmps=n) (hle:Nat.ble args.length n=true) (hok:(hin.all fun p=>lE p.2)=true)
  (h:AWp none P n (keys hin) c (mk (x8 0 args) hin) (fun ex st=>ex=pan v∧st.d=[])):aBw P f args hin v:=by
 intro S μ w vals hI U;refine(Wd.calls (ro:=none) (n:=0)).1 (callsIn_of_wp_marks hf hb trivial ?_);have Y:∀(l:List V) (us:List Value),aT S μ (look hin) l us→us.length=l.length:=by
  intro l
  induction l with
  | nil=>intro us h;simp only[aT] at h;subst h;rfl
  | cons x l B=>
   intro us h;simp only[aT] at h;obtain⟨v,vs',rfl,_,h2⟩:=h;simp[B _ h2]
 have hvals:=Y _ _ U;have hle':=Am hle;refine h ⟨w,S,i3 μ (look hin),μ,look hin⟩ S μ _ w _ ⟨pI,trivial⟩ ⟨hI,by simp;omega,rfl,fun t v ht=>?_⟩ ?_
 ·have key:∀(l:List V) (us:List Value) (k:Nat),aT S μ (look hin) l us→look (x8 k l) t=some v→∃j,t=k+j∧∃u,us[j]?=some u∧aN S μ (look hin) v u:=by
   intro l
   induction l with
   | nil=>intro us k _ h;simp[x8,look] at h
   | cons x l B=>
    intro us k hr hl;simp only[aT] at hr;obtain⟨u,us',rfl,h1,h2⟩:=hr;simp only[x8,look] at hl;split at hl
    ·rename_i hbq;cases hl;exact⟨0,by rw[δ hbq];rfl,u,rfl,h1⟩
    ·obtain⟨j,A,u',h4,h5⟩:=B us' (k+1) h2 hl;exact⟨j+1,by omega,u',by simpa using h4,h5⟩
  obtain⟨j,h1,u,h2,A⟩:=key args vals 0 U ht;rw[Ba] at h1;subst h1;have E:t<vals.length:=(Af.1 h2).1
  have:((⟨vals⟩:Array Value)++Array.replicate (fn.ntmps-(⟨vals⟩:Array Value).size) undef).getD t undef=u:=by
   rw[Ac,Cc (by simpa using E)];simp[h2]
  show aN S μ (look hin) v (((⟨vals⟩:Array Value)++Array.replicate (fn.ntmps-(⟨vals⟩:Array Value).size) undef).getD t undef);rw[this];exact A
 ·rintro ex ⟨e',I,d'⟩ S' μ' J w' ⟨rfl,hd⟩ hs;dsimp only at hd;subst hd;have hdf:J.defers=[]:=hs.defers;show LeavesInM (Wd none) 0 P fn J.tmps _ J.defers (.panicking _) w';rw[hdf];have g:=hs.inv.evo;refine⟨S',μ',uD hin I,rfl,fun id o ho=>(cV ho).1,?_⟩;have hbl:∀id x,(∃o',look hin id=some o')→I id=some x→lE x=true:=fun id x ⟨o',ho⟩ hx=>by
   obtain⟨M,q,O⟩:=g.obj id o' ho;have q:I id=some M:=q;rw[hx] at q;cases q;exact aEc O ((Bc.1 hok) _ (b6 ho))
  refine⟨hs.inv.holds,fun id o ho=>?_,fun i j o o' b c c' hi E hm hm'=>?_,fun i o b c hi hm=>?_,hs.inv.frame,hs.inv.sle,hs.inv.sto,⟨g.le,fun id o ho=>?_⟩,hs.inv.fre⟩
  ·obtain⟨h1,x,h2,rfl⟩:=cV ho;exact(hs.inv.obj id x h2).blur (hbl id x h1 h2)
  ·obtain⟨_,x,h2,_⟩:=cV hi;obtain⟨_,y,A,_⟩:=cV E;exact hs.inv.inj i j x y b c c' h2 A hm hm'
  ·obtain⟨_,x,h2,_⟩:=cV hi;exact hs.inv.own i x b c h2 hm
  ·obtain⟨M,q,O⟩:=g.obj id o ho;refine⟨blur M,oU ho q,?_⟩;exact AObj.succ_trans O (wI (p:=True) trivial) fun e _=>e
end
def i7 (QP:Value→Prop) (P:Program) (n:Nat) (ops:Array Oper) (draw:Bool) (k:Nat) (st:St) (pre:REs) (Q:St→Prop):Prop:=
 (∃xs st',Run P n ops k st xs st'∧Nat.beq (k+xs.length) ops.size=true∧(!draw || (cK (preds ops) (pre.reverse++xs) []&&dM ops))=true∧Q st')∨
 ∃v p xs st',QP v∧RunP v p P n ops k st xs st'∧k≤p∧p<k+xs.length∧k+xs.length≤ops.size∧(draw=true→k+xs.length=ops.size∧(cK (preds ops) (pre.reverse++xs) []&&dM ops)=true)
section
variable {QP:Value→Prop}{ro:Option Nat}{P:Program}{n:Nat}{ops:Array Oper}{draw:Bool}{k:Nat}{st:St}{pre:REs}{Q:St→Prop}
theorem k_ {rd:Rd}{f:Eff}(h:GStep P n ops k st rd f) (y:i7 QP P n ops draw (k+1) (f.apply st) ((rd,f)::pre) Q):i7 QP P n ops draw k st pre Q:=by
 rcases y with⟨xs,st',h1,h2,g,q⟩ | ⟨v,p,xs,st',h0,h1,h2,g,q,A⟩
 ·refine .inl ⟨(rd,f)::xs,st',.cons h h1,?_,?_,q⟩
  ·rw[Aa,show k+(xs.length+1)=k+1+xs.length by omega];exact h2
  ·rw[List.reverse_cons,An] at g;exact g
 ·refine .inr ⟨v,p,(rd,f)::xs,st',h0,.cons (by omega) h h1,by omega,by rw[Aa];omega,by rw[Aa];omega,fun B=>?_⟩;obtain⟨E,u⟩:=A B;rw[List.reverse_cons,An] at u;exact⟨by rw[Aa];omega,u⟩
theorem z_ (h1:Nat.beq k ops.size=true) (h2:(!draw || (cK (preds ops) pre.reverse []&&dM ops))=true) (hq:Q st):i7 QP P n ops draw k st pre Q:=
 .inl ⟨[],st,.nil,h1,by rw[A0];exact h2,hq⟩
theorem aSp {rd:Rd}{v:Value}(h:mT v P n ops k st rd) (hq:QP v) (g:draw=false) (hl:Nat.blt k ops.size=true):i7 QP P n ops draw k st pre Q:=
 .inr ⟨v,k,[(rd,⟨none,[]⟩)],_,hq,.pan h .nil,le_refl _,by rw[Bj];omega,by rw[Bj];exact Am hl,fun e=>by rw[g] at e;cases e⟩
theorem aSo {rd:Rd}{v:Value}(f:Eff) (h:mT v P n ops k st rd) (hq:QP v) (q:i7 (fun _=>False) P n ops draw (k+1) (f.apply st) ((rd,f)::pre) fun _=>True):i7 QP P n ops draw k st pre Q:=by
 rcases q with⟨xs,st',h1,h2,g,_⟩ | ⟨v,p,xs,st',h0,_⟩
 ·have h2:=δ h2;refine .inr ⟨v,k,(rd,f)::xs,st',hq,.pan h (h1.toP (by omega)),le_refl _,by rw[Aa];omega,by rw[Aa];omega,fun u=>?_⟩;rw[u,List.reverse_cons,An] at g;exact⟨by rw[Aa];omega,g⟩
 ·exact h0.elim
theorem aC {kf:List Nat}{id:Nat}{Q:Exit→St→Prop}(hm:P.follows .mixedOrders=true) (h:i7 (fun v=>∀e h,Q (pan v) ⟨e,h,st.d⟩) P n ops draw 0 st [] (fun st'=>Q .normal st')):AWp ro P n kf (.region id ops draw) st Q:=by
 rcases h with⟨xs,st',h1,h2,g,q⟩ | ⟨v,p,xs,st',h0,h1,h2,q,g,u⟩
 ·rw[Ba] at h2;exact rG hm h1 h2 g q
 ·rw[Ba] at q g u;exact yP hm h1 q g (fun y=>u y) h0
theorem aQt {kf:List Nat}{id:Nat}{Q:Exit→St→Prop}(st2:St) (hm:P.follows .mixedOrders=true) (h:i7 (fun _=>False) P n ops draw 0 st [] (fun st'=>Sub kf st2 st')) (hq:Q .normal st2):AWp ro P n kf (.region id ops draw) st Q:=by
 rcases h with⟨xs,st',h1,h2,g,q⟩ | ⟨v,p,xs,st',h0,_⟩
 ·rw[Ba] at h2;refine AWp.post (Q:=fun ex s=>ex=.normal∧Sub kf st2 s) (rG hm h1 h2 g ⟨rfl,q⟩) ?_;rintro ex s ⟨rfl,hs⟩;exact⟨st2,hs,hq⟩
 ·exact h0.elim
theorem g_ {i:Nat}{o:Oper}{rd:Rd}{f:Eff}(ho:ops[i]?=some o) (g:o.guard=none) (h:Step P n o st rd f):GStep P n ops i st rd f:=GStep.plain ho g h
theorem AWp.cut {kf:List Nat}{c:Code}{Q:Exit→St→Prop}(st2:St) (h:AWp ro P n kf c st (fun ex s=>match ex with | .normal=>Sub kf st2 s | ex=>Q ex s)) (hq:Q .normal st2):AWp ro P n kf c st Q:=by
 refine AWp.post h ?_;intro ex s hs;cases ex with
 | normal=>exact⟨st2,hs,hq⟩
 | _=>exact⟨s,Sub.refl _ _,hs⟩
end
section
variable {P:Program}{n:Nat}{o:Oper}{st:St}{d:Nat}{T:TT}
theorem aSc {q ty:TypeId}{x y:Operand}{a b:Int}(ho:o.op=.binOp .add q x y ty) (u:o.dst=some d) (g:d<n) (hx:opv st x=some (I .i64 a)) (hy:opv st y=some (I .i64 b)) (A: -9223372036854775808≤a+b∧a+b≤9223372036854775807):
  Step P n o st ⟨opr x++opr y,[]⟩ ⟨some (d,some (I .i64 (a+b))),[]⟩:=aOh ho u g hx hy (Bz _ A)
theorem aRw {q ty:TypeId}{x y:Operand}{a b:Int}(ho:o.op=.binOp .sub q x y ty) (u:o.dst=some d) (g:d<n) (hx:opv st x=some (I .i64 a)) (hy:opv st y=some (I .i64 b)) (A: -9223372036854775808≤a-b∧a-b≤9223372036854775807):
  Step P n o st ⟨opr x++opr y,[]⟩ ⟨some (d,some (I .i64 (a-b))),[]⟩:=aN7 ho u g hx hy (Bz _ A)
theorem aR7 {q ty:TypeId}{x y:Operand}{a b:Int}(ho:o.op=.binOp .mul q x y ty) (u:o.dst=some d) (g:d<n) (hx:opv st x=some (I .i64 a)) (hy:opv st y=some (I .i64 b)) (A: -9223372036854775808≤a*b∧a*b≤9223372036854775807):
  Step P n o st ⟨opr x++opr y,[]⟩ ⟨some (d,some (I .i64 (a*b))),[]⟩:=aOa ho u g hx hy (Bz _ A)
theorem aMo {u ty:TypeId}{x y:Operand}{a b:Int}(ho:o.op=.binOp .quo u x y ty) (A:o.dst=some d) (q:d<n) (hx:opv st x=some (I .i64 a)) (hy:opv st y=some (I .i64 b)) (g:0≤a∧a≤9223372036854775807∧1≤b):
  Step P n o st ⟨opr x++opr y,[]⟩ ⟨some (d,some (I .i64 (a/b))),[]⟩:=aVi ho A q hx hy (by omega) (by
   have h1:a.tdiv b=a/b:=Int.tdiv_eq_ediv_of_nonneg g.1;rw[h1];refine Bz _ ⟨?_,?_⟩
   ·have:=Int.ediv_nonneg g.1 (show(0:Int)≤b by omega);omega
   ·have:=Int.ediv_le_self b g.1;omega)
theorem aMn {q ty:TypeId}{x y:Operand}{k:IntKind}{a b:Int}(ho:o.op=.binOp .rem q x y ty) (u:o.dst=some d) (g:d<n) (hx:opv st x=some (I k a)) (hy:opv st y=some (I k b)) (A:0≤a∧1≤b):
  Step P n o st ⟨opr x++opr y,[]⟩ ⟨some (d,some (I k (a%b))),[]⟩:=aVh ho u g hx hy (by omega) (Int.tmod_eq_emod_of_nonneg A.1)
theorem gK (op:BinOp) (t:TypeId) (x y:Operand) (u v:Value) (w:World) (h1:(match u with | .agg _=>true | .nilIface=>true | _=>false)=false):(eqGuard op t x y u v).run P w=.ok () w:=by
 unfold eqGuard;cases u<;>simp at h1<;>(split<;>rfl)
theorem n7 {t:TypeId}(hu:P.underlying t=some .bool) (d:Nat) (a b:Bool) (w:World):(Op.equalIn (d+1) t (.bool a) (.bool b)).run P w=.ok (a==b) w:=by
 simp only[Op.equalIn,π,Ah hu w,ζ,τ]
theorem uA {t e:TypeId}(hu:P.underlying t=some (.pointer e)) (d:Nat) (p:Option Addr) (w:World):(Op.equalIn (d+1) t (.pointer p) (.pointer none)).run P w=.ok p.isNone w:=by
 cases p<;>simp only[Op.equalIn,π,Ah hu w,ζ,τ]<;>rfl
theorem aJd {t e:TypeId}(hu:P.underlying t=some (.slice e)) (d:Nat) (p:Option Addr) (l c:Nat) (w:World):(Op.equalIn (d+1) t (.slice p l c) (.slice none 0 0)).run P w=.ok p.isNone w:=by
 cases p<;>simp only[Op.equalIn,π,Ah hu w,ζ,τ]<;>rfl
theorem rS {g ty:TypeId}{x y:Operand}{a:Act}{w:World}{u v:Value}{b:Bool}(ho:o.op=.binOp .eql g x y ty) (hx:a.eval x=u) (hy:a.eval y=v) (A:(eqGuard .eql g x y u v).run P w=.ok () w)
  (hb:binOp .eql g u v=(do pure (.bool (←Op.equal g u v)))) (B:(Op.equalIn (9999+1) g u v).run P w=.ok b w):(execOp a.eval o).run P w=.ok (.value (.bool b)) w:=by
 have q:(Op.equal g u v).run P w=.ok b w:=B;simp only[execOp,ho,hx,hy,π,A,ζ,hb,q,τ]
theorem aEk {g ty:TypeId}{x y:Operand}{a:Act}{w:World}{u v:Value}{b:Bool}(ho:o.op=.binOp .neq g x y ty) (hx:a.eval x=u) (hy:a.eval y=v) (A:(eqGuard .neq g x y u v).run P w=.ok () w)
  (hb:binOp .neq g u v=(do pure (.bool (!(←Op.equal g u v))))) (B:(Op.equalIn (9999+1) g u v).run P w=.ok b w):(execOp a.eval o).run P w=.ok (.value (.bool (!b))) w:=by
 have q:(Op.equal g u v).run P w=.ok b w:=B;simp only[execOp,ho,hx,hy,π,A,ζ,hb,q,τ]
theorem aSa {g ty:TypeId}{i:TI}{x y:Operand}{a b:Bool}(u:Tok P T) (ho:o.op=.binOp .eql g x y ty) (A:o.dst=some d) (q:d<n) (hi:T[g]?=some (some i)) (E:i.k=.bool) (hx:opv st x=some (B a)) (hy:opv st y=some (B b)):
  Step P n o st ⟨opr x++opr y,[]⟩ ⟨some (d,some (B (a==b))),[]⟩:=by
 refine Step.value A q fun _ ha _ _ _ ac w hs=>?_
 have h1:=gY (aK hs hx (cR ha).1);have h2:=gY (aK hs hy (cR ha).2);exact⟨.bool (a==b),rS ho h1 h2 (gK _ _ _ _ _ _ _ rfl) rfl (n7 ((u.get hi).bool E) _ _ _ _),by simp[aN,aY,Rep]⟩
theorem aR9 {g ty:TypeId}{i:TI}{x y:Operand}{a b:Bool}(u:Tok P T) (ho:o.op=.binOp .neq g x y ty) (A:o.dst=some d) (q:d<n) (hi:T[g]?=some (some i)) (E:i.k=.bool) (hx:opv st x=some (B a)) (hy:opv st y=some (B b)):
  Step P n o st ⟨opr x++opr y,[]⟩ ⟨some (d,some (B (!(a==b)))),[]⟩:=by
 refine Step.value A q fun _ ha _ _ _ ac w hs=>?_
 have h1:=gY (aK hs hx (cR ha).1);have h2:=gY (aK hs hy (cR ha).2);exact⟨.bool (!(a==b)),aEk ho h1 h2 (gK _ _ _ _ _ _ _ rfl) rfl (n7 ((u.get hi).bool E) _ _ _ _),by simp[aN,aY,Rep]⟩
def uP:V→Option Bool
 | .one (.c .np)=>some true
 | .one (.c (.pt _))=>some false
 | .one (.vp _ _)=>some false
 | _=>none
theorem qT {S:Sto}{μ:Mu}{H:bX}{v:V}{u:Value}{b:Bool}(h:aN S μ H v u) (hb:uP v=some b):∃p,u=.pointer p∧p.isNone=b:=by
 unfold uP at hb;split at hb
 ·cases hb;simp only[aN,aY,Rep] at h;exact⟨none,h,rfl⟩
 ·cases hb;simp only[aN,aY,Rep] at h;obtain⟨b,o,h,_⟩:=h;exact⟨_,h,rfl⟩
 ·cases hb;simp only[aN,aY] at h;obtain⟨t,cells,b,c,_,_,h⟩:=h;exact⟨_,h,rfl⟩
 ·cases hb
theorem aR5 {g ty e:TypeId}{i:TI}{x y:Operand}{v:V}{b:Bool}(u:Tok P T) (ho:o.op=.binOp .eql g x y ty) (A:o.dst=some d) (q:d<n) (hi:T[g]?=some (some i)) (E:i.k=.pt e) (hx:opv st x=some v) (I:uP v=some b) (hy:opv st y=some (.one (.c .np))):
  Step P n o st ⟨opr x++opr y,[]⟩ ⟨some (d,some (B b)),[]⟩:=by
 refine Step.value A q fun _ ha _ _ _ ac w hs=>?_
 obtain⟨p,h1,hp⟩:=qT (aK hs hx (cR ha).1) I;have h2:=aK hs hy (cR ha).2;simp only[aN,aY,Rep] at h2;subst hp;exact⟨.bool p.isNone,rS ho h1 h2 (gK _ _ _ _ _ _ _ rfl) (by cases p<;>rfl) (uA ((u.get hi).ptr E) _ _ _),by simp[aN,aY,Rep]⟩
theorem aR4 {g ty e:TypeId}{i:TI}{x y:Operand}{v:V}{b:Bool}(u:Tok P T) (ho:o.op=.binOp .neq g x y ty) (A:o.dst=some d) (q:d<n) (hi:T[g]?=some (some i)) (E:i.k=.pt e) (hx:opv st x=some v) (I:uP v=some b) (hy:opv st y=some (.one (.c .np))):
  Step P n o st ⟨opr x++opr y,[]⟩ ⟨some (d,some (B (!b))),[]⟩:=by
 refine Step.value A q fun _ ha _ _ _ ac w hs=>?_
 obtain⟨p,h1,hp⟩:=qT (aK hs hx (cR ha).1) I;have h2:=aK hs hy (cR ha).2;simp only[aN,aY,Rep] at h2;subst hp;exact⟨.bool (!p.isNone),aEk ho h1 h2 (gK _ _ _ _ _ _ _ rfl) (by cases p<;>rfl) (uA ((u.get hi).ptr E) _ _ _),by simp[aN,aY,Rep]⟩
def aI7:V→Option Bool
 | .one (.c .nl)=>some true
 | .one (.c (.sn _ _))=>some false
 | _=>none
theorem aEd {S:Sto}{μ:Mu}{H:bX}{v:V}{u:Value}{b:Bool}(h:aN S μ H v u) (hb:aI7 v=some b):∃p l c,u=.slice p l c∧p.isNone=b:=by
 unfold aI7 at hb;split at hb
 ·cases hb;simp only[aN,aY,Rep] at h;exact⟨none,_,_,h,rfl⟩
 ·cases hb;simp only[aN,aY,Rep] at h;obtain⟨b,o,sp,l,c,h,_⟩:=h;exact⟨_,_,_,h,rfl⟩
 ·cases hb
theorem aN9 {g ty e:TypeId}{i:TI}{x y:Operand}{v:V}{b:Bool}(u:Tok P T) (ho:o.op=.binOp .eql g x y ty) (A:o.dst=some d) (q:d<n) (hi:T[g]?=some (some i)) (E:i.k=.sl e) (hx:opv st x=some v) (I:aI7 v=some b) (hy:opv st y=some (.one (.c .nl))):
  Step P n o st ⟨opr x++opr y,[]⟩ ⟨some (d,some (B b)),[]⟩:=by
 refine Step.value A q fun _ ha _ _ _ ac w hs=>?_
 obtain⟨p,l,c,h1,hp⟩:=aEd (aK hs hx (cR ha).1) I;have h2:=aK hs hy (cR ha).2;simp only[aN,aY,Rep] at h2;subst hp;exact⟨.bool p.isNone,rS ho h1 h2 (gK _ _ _ _ _ _ _ rfl) (by cases p<;>rfl) (aJd ((u.get hi).slice E) _ _ _ _ _),by simp[aN,aY,Rep]⟩
def ceq:C→C→Bool
 | .int _ a,.int _ b=>decide (a=b)
 | .str a,.str b=>decide (a=b)
 | .bool a,.bool b=>a==b
 | _,_=>false
def aM7:List C→List C→Bool
 | a::as,b::bs=>ceq a b&&aM7 as bs
 | _,_=>true
def scalar:TK→C→C→Bool
 | .int k,.int k1 _,.int k2 _=>k==k1&&k==k2
 | .str,.str _,.str _=>true
 | .bool,.bool _,.bool _=>true
 | _,_,_=>false
def lH (T:TT):Nat→List (Nat×TypeId)→List C→List C→Bool
 | _,[],[],[]=>true
 | k,(off,t)::fs,a::as,b::bs=>Nat.beq off k&&(match T[t]? with | some (some i)=>scalar i.k a b | _=>false)&&lH T (k+1) fs as bs
 | _,_,_,_=>false
def aL8.check (P : Program) (t : TypeId) : Bool := (match P.underlying t with | some (.struct fs) => fs.toList.all fun f => f.name != "_" | _ => false) && !P.stoodInHeld t && !P.eqGuardType P.depth t
def aL8 (P:Program) (t:TypeId):Prop:=aL8.check P t=true
theorem u9 {t:TypeId}{i:TI}{a b:C}{u v:Value}(hi:TIok P t i) (h:scalar i.k a b=true) {S:Sto}(ha:Rep S a u) (hb:Rep S b v) (d:Nat) (w:World):(Op.equalIn (d+1) t u v).run P w=.ok (ceq a b) w:=by
 cases g:i.k<;>rw[g] at h<;>cases a<;>cases b<;>simp only[scalar] at h<;>try (cases h;done)
 ·simp only[Rep] at ha hb;subst ha;subst hb;rw[n7 (hi.bool g)];rfl
 ·rename_i k q y A B;simp only[ε,beq_iff_eq] at h;obtain⟨rfl,rfl⟩:=h;simp only[Rep] at ha hb;subst ha;subst hb;simp only[Op.equalIn,π,Ah (hi.int g) w,ζ,Cg,τ,ceq];congr 1
 ·simp only[Rep] at ha hb;subst ha;subst hb;simp only[Op.equalIn,π,Ah (hi.str g) w,ζ,τ,ceq];congr 1;rw[beq_toListBytes,gH,gH];exact Bool.beq_eq_decide_eq _ _
theorem aB2 {k:TK}{a b:C}(h:scalar k a b=true):k.agg=false:=by cases k<;>first | rfl | (cases a<;>cases b<;>cases h)
theorem uB (M : Tok P T) {S : Sto} (xs y : Array Value) (d : Nat) (w : World) : ∀ (fields : List Field) (k : Nat) (as q : List C), lH T k (fields.map fun f => (f.offset, f.type)) as q = true → (∀ f ∈ fields, f.name ≠ "_") →
  bS S as (xs.toList.drop k)→bS S q (y.toList.drop k)→(Op.eqFields (d+1) xs y fields).run P w=.ok (aM7 as q) w:=by
 intro fields
 induction fields with
 | nil=>
  intro k as q h _ _ _;cases as<;>cases q<;>simp[lH] at h;rfl
 | cons f fields ih=>
  intro k as q h hn hx hy;cases as with
  | nil=>cases q<;>simp[lH] at h
  | cons a as=>
   cases q with
   | nil=>simp[lH] at h
   | cons b q=>
    simp only[Be,lH,ε] at h;obtain⟨⟨h1,h2⟩,h3⟩:=h;have A:=δ h1;split at h2
    ·rename_i i hi;simp only[bS] at hx hy;obtain⟨u,us,I,O,U⟩:=hx;obtain⟨v,vs,J,Y,aa⟩:=hy;have e1:xs[k]?=some u:=by
      have:=congrArg (fun l=>l[0]?) I;simpa using this
     have e2:y[k]?=some v:=by
      have:=congrArg (fun l=>l[0]?) J;simpa using this
     have e3:xs.toList.drop (k+1)=us:=by rw[←Co,I];rfl
     have e4:y.toList.drop (k+1)=vs:=by rw[←Co,J];rfl
     have B:=(M.get hi).agg_run w;rw[aB2 h2] at B;have p1:(part f.type xs f.offset).run P w=.ok u w:=by
      simp only[part,π,B,ζ,Aq,Bq,A,e1,τ]
     have p2:(part f.type y f.offset).run P w=.ok v w:=by
      simp only[part,π,B,ζ,Aq,Bq,A,e2,τ]
     have E:=ih (k+1) as q h3 (fun g hg=>hn g (by simp[hg])) (by rw[e3];exact U) (by rw[e4];exact aa);simp only[Op.eqFields];rw[θ (hn f (by simp))];simp only[π,p1,p2,ζ,u9 (M.get hi) h2 O Y];cases hc:ceq a b with
     | true=>simp[E,aM7,hc]
     | false=>simp[aM7,hc]
    ·cases h2
theorem rV {g ty:TypeId}{i:TI}{fs:List (Nat×TypeId)}{x y:Operand}{as q:List C}(I:Tok P T) (hq:aL8 P g) (ho:o.op=.binOp .eql g x y ty) (M:o.dst=some d) (J:d<n) (hi:T[g]?=some (some i)) (O:i.k=.st fs)
  (hx:opv st x=some (.pa as)) (hy:opv st y=some (.pa q)) (hs:lH T 0 fs as q=true):Step P n o st ⟨opr x++opr y,[]⟩ ⟨some (d,some (B (aM7 as q))),[]⟩:=by
 refine Step.value M J fun _ ha _ S μ ac w u=>?_
 have h1:=aK u hx (cR ha).1;have h2:=aK u hy (cR ha).2;simp only[aN] at h1 h2;obtain⟨us,h1,U⟩:=h1;obtain⟨vs,h2,Y⟩:=h2;obtain⟨fields,hu,E⟩:=(I.get hi).struct O;unfold aL8 aL8.check at hq;simp only[hu,ε,Bm] at hq;obtain⟨⟨q1,q2⟩,q3⟩:=hq;have A:P.fieldsOf g=fields:=by simp[Program.fieldsOf,hu]
 have hn : ∀ f ∈ fields.toList, f.name ≠ "_" := fun f E => by
  have:=(Bc.1 q1) f E;simpa using this
 refine⟨.bool (aM7 as q),rS ho h1 h2 ?_ rfl ?_,by simp[aN,aY,Rep]⟩
 ·have hp:(program:Sem Program).run P w=.ok P w:=rfl;simp only[eqGuard];simp[hp,q3]
 ·rw[run_equalIn_struct w 9999 g _ _ (by rw[A,hu]) q2,A];exact uB I ⟨us⟩ ⟨vs⟩ 9998 w fields.toList 0 as q (by rw[←E];exact hs) hn (by simpa using U) (by simpa using Y)
end
theorem take_map {α β:Type}{f:α→β}{l:List α}:(l.map f).take l.length=l.map f:=Aw (by simp)
theorem Ole.arrE {σ:Nat→Nat}{te es fz:Nat}{e e':List (List C)}(h:e=e'):Ole σ (.arr te es e fz) (.arr te es e' 1):=by subst h;exact .arr1
theorem int_eq {k:IntKind}{a b:Int}(h:a=b):some (I k a)=some (I k b):=by rw[h]
section
variable {P:Program}{n:Nat}{o:Oper}{st:St}{d:Nat}{T:TT}
def vW (st:St):List Operand→Option (List R)
 | []=>some []
 | x::xs=>match opv st x with
  | some (.one r)=>match vW st xs with | some l=>some (r::l) | none=>none
  | _=>none
theorem vV {G:Ctx}{S:Sto}{μ:Mu}{st':St}{a:Act}{w:World}(hs:Sim G n S μ st' a w):∀(xs:List Operand) (l:List R),vW st xs=some l→(∀t∈bU xs,st'.e t=st.e t)→aP S μ st'.h l (xs.map a.eval)
 | [],l,h,_=>by simp[vW] at h;subst h;simp[aP]
 | x::xs,l,h,g=>by
  simp only[vW] at h;split at h
  ·rename_i r u;split at h
   ·rename_i l' q;cases h;have h1:=aK hs u fun t h=>g t (by simp[bU,h])
    simp only[aN] at h1;simp only[Be,aP];exact⟨_,_,rfl,h1,vV hs xs l' q fun t h=>g t (by simp[bU,h])⟩
   ·cases h
  ·cases h
theorem qS {f:FuncId}{caps:Array Operand}{l:List R}(ho:o.op=.makeFunc (.func f) #[] caps) (q:o.dst=some d) (g:d<n) (hc:vW st caps.toList=some l):Step P n o st ⟨bU caps.toList,[]⟩ ⟨some (d,some (.one (.clo f l))),[]⟩:=by
 refine Step.value q g fun st' ha _ S μ ac w hs=>?_
 have h:=vV hs _ _ hc ha.1;refine⟨.func (.func f) #[] (caps.map ac.eval),by simp[execOp,ho,Instr.makeFunc],?_⟩;simp only[aN,aY];refine⟨caps.toList.map ac.eval,?_,h⟩;congr 1;apply Array.ext';simp
theorem uO {f:FuncId}{x:Operand}{c:R}(ho:o.op=.makeFunc (.func f) #[x] #[]) (q:o.dst=some d) (g:d<n) (hx:opv st x=some (.one c)):Step P n o st ⟨opr x,[]⟩ ⟨some (d,some (.one (.mth f c))),[]⟩:=by
 refine Step.value q g fun st' ha _ S μ ac w hs=>?_
 have h:=aK hs hx ha.1;refine⟨.func (.func f) #[ac.eval x] #[],by simp[execOp,ho,Instr.makeFunc],?_⟩;simp only[aN,aY] at h ⊢;exact⟨_,rfl,h⟩
def iS (k:List UInt8):List (List C)→Option (List C)
 | []=>none
 | (.str s::vs)::r=>if s=k then some vs else iS k r
 | _::r=>iS k r
def sA (k:List UInt8) (vs:List C):List (List C)→List (List C)
 | []=>[.str k::vs]
 | (.str s::us)::r=>if s=k then(.str k::vs)::r else(.str s::us)::sA k vs r
 | x::r=>x::sA k vs r
theorem aBg (a b:List UInt8):((ByteArray.mk ⟨a⟩)==(ByteArray.mk ⟨b⟩))=decide (b=a):=by
 rw[beq_toListBytes,gH,gH,Bool.beq_eq_decide_eq];by_cases h:a=b
 ·subst h;simp
 ·have g:¬b=a:=fun e=>h e.symm
  simp[h,g]
theorem iW {S:Sto}{agg:Bool}{k:List UInt8}:∀(l:List (List C)) (es:List MapEntry) (i:Nat),bD S agg l es→jB l→
  (∀vs,iS k l=some vs→∃j e,Instr.findNow .string (.string ⟨⟨k⟩⟩) es i=some (some (i+j,e.val))∧es[j]?=some e∧(∃us,bS S vs us∧e.val=(if agg then .agg ⟨us⟩ else us.headD undef)∧(agg=false→us.length=1))∧e.key=.string ⟨⟨k⟩⟩∧j<es.length∧
   ∀ws,sA k ws l=(l.take j)++(.str k::ws)::l.drop (j+1))∧
  (iS k l=none→Instr.findNow .string (.string ⟨⟨k⟩⟩) es i=some none∧∀ws,sA k ws l=l++[.str k::ws])
 | [],es,i,h,_=>by
  simp only[bD] at h;subst h;exact⟨fun vs y=>by simp[iS] at y,fun _=>⟨rfl,fun ws=>rfl⟩⟩
 | r::l,es,i,h,hm=>by
  simp only[bD] at h;obtain⟨e,q,rfl,⟨vs,h1,h2,O⟩,U⟩:=h
  match r,h1,hm with
  | .str s::us,h1,hm=>
   simp only[jB] at hm;simp only[bS] at h1;obtain⟨v,vs',y,E,Y⟩:=h1;simp only[Rep] at E;injection y with I J;subst J;have g:e.key=.string ⟨⟨s⟩⟩:=by rw[I,E]
   have M:=iW (k:=k) l q (i+1) U hm;by_cases hs:s=k
   ·subst hs;refine⟨fun ws hw=>?_,fun hn=>by simp[iS] at hn⟩;simp only[iS,Cg,Option.some.injEq] at hw;subst hw;refine⟨0,e,?_,rfl,⟨vs,Y,h2,O⟩,g,by simp,fun ws=>by simp[sA]⟩;simp only[Instr.findNow,g,Instr.sameNow];rw[aBg];simp
   ·have u:Instr.findNow .string (.string ⟨⟨k⟩⟩) (e::q) i=Instr.findNow .string (.string ⟨⟨k⟩⟩) q (i+1):=by
     simp only[Instr.findNow,g,Instr.sameNow];rw[aBg];simp[hs]
    refine⟨fun ws hw=>?_,fun hn=>?_⟩
    ·simp only[iS,hs,Bq] at hw;obtain⟨j,e',A,B,q3,q4,q5,q6⟩:=M.1 ws hw;refine⟨j+1,e',?_,by simpa using B,q3,q4,by simpa using q5,fun ws=>?_⟩
     ·rw[u,A,show i+1+j=i+(j+1) by omega]
     ·simp only[sA,hs,Bq,q6 ws];simp
    ·simp only[iS,hs,Bq] at hn;obtain⟨A,B⟩:=M.2 hn;exact⟨by rw[u,A],fun ws=>by simp only[sA,hs,Bq,B ws];simp⟩
  | [],h1,_=>simp only[bS] at h1;cases h1
  | .int _ _::_,_,hm=>simp[jB] at hm
  | .bool _::_,_,hm=>simp[jB] at hm
  | .nl::_,_,hm=>simp[jB] at hm
  | .sl _ _::_,_,hm=>simp[jB] at hm
  | .sn _ _::_,_,hm=>simp[jB] at hm
  | .np::_,_,hm=>simp[jB] at hm
  | .pt _::_,_,hm=>simp[jB] at hm
  | .mp _ _::_,_,hm=>simp[jB] at hm
  | .zv _::_,_,hm=>simp[jB] at hm
theorem kC {t:TypeId}(hu:P.underlying t=some .string) (b:Bool) (d:Nat) (s:ByteArray) (w:World):(Instr.checkKey b (d+1) t (.string s)).run P w=.ok () w:=by
 simp only[Instr.checkKey,π,Ah hu w,ζ,τ]
inductive MapE (st:St):List Nat→V→Bool→List (List C)→Prop
 | mr {id agg ents}:st.h id=some (.map agg ents)→MapE st [id] (.one (.mr id)) agg ents
 | mp {agg ents}:MapE st [] (.one (.c (.mp agg ents))) agg ents
 | nil {agg}:MapE st [] (.one (.c (.zv 0))) agg []
theorem MapE.rel {G:Ctx}{S:Sto}{μ:Mu}{st':St}{a:Act}{w:World}{ids:List Nat}{v:V}{agg:Bool}{ents:List (List C)}{u:Value}(hs:Sim G n S μ st' a w) (h:MapE st ids v agg ents) (y:jB ents) (hi:∀i∈ids,st'.h i=st.h i) (q:aN S μ st'.h v u):
  ∃es:Array MapEntry,bD S agg ents es.toList∧((u=.map none∧es= #[])∨∃b clk,u=.map (some b)∧w.heap[b]?=some (.map es clk)):=by
 cases h with
 | mr hh=>
  have A:=(hi _ (by simp)).trans hh;simp only[aN,aY] at q;obtain⟨I,E,b,c,h1,h2,g⟩:=q;rw[A] at h1;cases h1;obtain⟨O,es,clk,B,J,M,U⟩:=hs.inv.obj _ _ A;rw[h2] at B;cases B;exact⟨es,M.rep y,.inr ⟨_,clk,g,J⟩⟩
 | mp=>
  simp only[aN,aY,Rep] at q;obtain⟨b,es,clk,h1,h2,g⟩:=q;refine⟨es,g.elim id fun g=>?_,.inr ⟨b,clk,h1,hs.inv.holds.2 _ _ h2⟩⟩;cases ents with
  | nil=>simp only[aIs] at g
  | cons r l=>simp only[aIs] at g;rw[g.1] at y;simp[jB] at y
 | nil=>
  simp only[aN,aY,Rep,aQ5] at q;exact⟨#[],by simp[bD],.inl ⟨q,rfl⟩⟩
def o7 (i:TI) (r:Option (List C)):V:=match r with
 | some vs=>if i.k.agg then .pa vs else match vs with | [c]=>.one (.c c) | _=>.tup []
 | none=>if i.k.agg then .pa i.zero else match i.zero with | [c]=>.one (.c c) | _=>.tup []
def aFq (r:Option (List C)):Bool:=r.isSome
def aF6 (r:Option (Nat×Value)) (z:Value):Value:=match r with | some p=>p.2 | none=>z
theorem iA (w:World) (b:Nat) (es:Array MapEntry) (clk:Nat) (h:w.heap[b]?=some (.map es clk)):(getObj b).run P w=.ok (.map es clk) w:=by
 exact MapKept.run_getObj_map h
theorem aEu {t kt et:TypeId}{i ki A:TI}{x y:Operand}{ok:Bool}{ids:List Nat}{agg:Bool}{k:List UInt8}{r:Option (List C)}(O:Tok P T) (ho:o.op=.lookup t x y ok) (hd:o.dst=some d) (hdn:d<n) (hi:T[t]?=some (some i)) (hk:i.k=.mp kt et)
  (hki:T[kt]?=some (some ki)) (hkk:ki.k=.str) (U:T[et]?=some (some A)) (E:A.k.agg=agg) (hy:opv st y=some (Go.AM.T k))
  (hrel:∀(st':St),fA ⟨opr x++opr y,ids⟩ st st'→∀(G:Ctx) (S:Sto) (μ:Mu) (a:Act) (w:World),Sim G n S μ st' a w→∃(es:Array MapEntry) (ents:List (List C)),jB ents∧iS k ents=r∧bD S agg ents es.toList∧((a.eval x=.map none∧es= #[])∨∃b clk,a.eval x=.map (some b)∧w.heap[b]?=some (.map es clk))):
  Step P n o st ⟨opr x++opr y,ids⟩ ⟨some (d,some (if ok then .tup [o7 A r,B (aFq r)] else o7 A r)),[]⟩:=by
 refine Step.value hd hdn fun st' ha G S μ a w hs=>?_
 obtain⟨es,ents,hms,hr,h1,h2⟩:=hrel st' ha G S μ a w hs;have h3:=jW (aK hs hy fun t h=>ha.1 t (by simp[h]));have hu:=Ah ((O.get hi).map hk) w;have Y:=(O.get hki).str hkk;obtain⟨z,hz,hzr,hz1,hz2⟩:=(O.get U).zero_run;have I:=iW (k:=k) ents es.toList 0 h1 hms;have key:∃g:Option (Nat×Value),(Instr.findKey kt (.string ⟨⟨k⟩⟩) es.toList).run P w=.ok g w∧aN S μ st'.h (o7 A r) (aF6 g z)∧aFq r=g.isSome:=by
  cases hq:iS k ents with
  | some vs=>
   obtain⟨j,e,q1,q2,⟨us,J,q4,q5⟩,q6,q7,q8⟩:=I.1 vs hq;refine⟨some (0+j,e.val),?_,?_,by rw[←hr,hq];rfl⟩
   ·simp only[Instr.findKey,π,Ah Y w,ζ,q1,τ]
   ·rw[←hr,hq];simp only[o7,E];cases agg with
    | true=>
     simp only[Cg,aN] at q4 ⊢;exact⟨us,q4,J⟩
    | false=>
     simp only[Aq,Bq] at q4 ⊢;have hl:=q5 rfl;have hl2:=J.length
     match vs,us,J,hl,hl2 with
     | [c],[u],J,_,_=>
      simp only[bS] at J;obtain⟨v,vs',M,hc,_⟩:=J;cases M;rw[q4];simp only[aN,aY];exact hc
  | none=>
   obtain⟨q1,_⟩:=I.2 hq;refine⟨none,?_,?_,by rw[←hr,hq];rfl⟩
   ·simp only[Instr.findKey,π,Ah Y w,ζ,q1,τ]
   ·rw[←hr,hq];simp only[o7,E];have q:=hzr S;cases agg with
    | true=>
     rw[E,θ rfl] at hz1;simp only[Cg,aN];exact⟨z.cells.toList,hz1,q⟩
    | false=>
     obtain⟨u,hu1,hu2⟩:=hz2 E;simp only[Aq,Bq];have hl:=(O.get U).len;rw[(O.get U).one E] at hl
     match hzz:A.zero,hl with
     | [c],_=>
      rw[hzz,hu1] at q;simp only[bS] at q;obtain⟨v,vs',M,hc,_⟩:=q;cases M;rw[hu2];simp only[aN,aY];exact hc
 obtain⟨g,hf,M,hb⟩:=key;have hck:=fun b=>kC (P:=P) Y b 9999 ⟨⟨k⟩⟩ w
 have fin:aN S μ st'.h (if ok then .tup [o7 A r,B (aFq r)] else o7 A r) (if ok then .tuple #[(aF6 g z),.bool g.isSome] else(aF6 g z)):=by
  cases ok with
  | false=>exact M
  | true=>
   simp only[Cg,aN,aT];exact⟨[_,.bool g.isSome],rfl,_,[.bool g.isSome],rfl,M,.bool g.isSome,[],rfl,by rw[hb];simp[aY,Rep],rfl⟩
 refine⟨_,?_,fin⟩;rcases h2 with⟨h2,rfl⟩ | ⟨b,clk,h2,h4⟩
 ·simp only[execOp,ho,h2,h3,π,Instr.lookup,hu,ζ,τ];rw[show(10000:Nat)=9999+1 from rfl,hck];simp only[ζ,hf];cases g with
  | none=>simp only[π,hz w,ζ,τ];rfl
  | some p=>rfl
 ·simp only[execOp,ho,h2,h3,π,Instr.lookup,hu,ζ,τ,iA w b es clk h4];rw[show(10000:Nat)=9999+1 from rfl,hck];simp only[ζ,hf];cases g with
  | none=>simp only[π,hz w,ζ,τ];rfl
  | some p=>rfl
theorem rY {t u A:TypeId}{i E g:TI}{x y:Operand}{ok:Bool}{v:V}{ids:List Nat}{agg:Bool}{ents:List (List C)}{k:List UInt8}{r:Option (List C)}(Y:Tok P T) (ho:o.op=.lookup t x y ok) (hd:o.dst=some d) (I:d<n) (hi:T[t]?=some (some i)) (hk:i.k=.mp u A)
  (J:T[u]?=some (some E)) (M:E.k=.str) (O:T[A]?=some (some g)) (U:g.k.agg=agg) (hx:opv st x=some v) (hm:MapE st ids v agg ents) (q:jB ents) (hy:opv st y=some (Go.AM.T k)) (hr:iS k ents=r):
  Step P n o st ⟨opr x++opr y,ids⟩ ⟨some (d,some (if ok then .tup [o7 g r,B (aFq r)] else o7 g r)),[]⟩:=
 aEu Y ho hd I hi hk J M O U hy fun _ ha _ _ _ _ _ hs=>by
  obtain⟨es,h1,h2⟩:=hm.rel hs q ha.2 (aK hs hx fun t h=>ha.1 t (by simp[h]));exact⟨es,ents,q,hr,h1,h2⟩
theorem cJ {S:Sto}{agg:Bool}:∀{a:List (List C)}{x:List MapEntry}{b:List (List C)}{y:List MapEntry},bD S agg a x→bD S agg b y→bD S agg (a++b) (x++y)
 | [],_,_,_,h,k=>by simp only[bD] at h;subst h;simpa using k
 | _::_,_,_,_,h,k=>by
  simp only[bD,A4] at h ⊢;obtain⟨v,vs',rfl,h1,h2⟩:=h;exact⟨v,vs'++_,rfl,h1,cJ h2 k⟩
theorem jP {S:Sto}{agg:Bool}:∀{a:List (List C)}{x:List MapEntry}(n:Nat),bD S agg a x→bD S agg (a.take n) (x.take n)
 | _,_,0,_=>by simp[bD]
 | [],_,n+1,h=>by simp only[bD] at h;subst h;simp[bD]
 | _::_,_,n+1,h=>by
  simp only[bD,Az] at h ⊢;obtain⟨v,vs',rfl,h1,h2⟩:=h;exact⟨v,vs'.take n,by simp,h1,jP n h2⟩
theorem jQ {S:Sto}{agg:Bool}:∀{a:List (List C)}{x:List MapEntry}(n:Nat),bD S agg a x→bD S agg (a.drop n) (x.drop n)
 | _,_,0,h=>by simpa using h
 | [],_,n+1,h=>by simp only[bD] at h;subst h;simp[bD]
 | _::_,_,n+1,h=>by
  simp only[bD,Cj] at h ⊢;obtain⟨v,vs',rfl,h1,h2⟩:=h;simpa using jQ n h2
theorem xK {t kt et:TypeId}{i ki:TI}{x y z:Operand}{id:Nat}{agg:Bool}{ents:List (List C)}{k:List UInt8}{v:V}{rs:List R}{cs:List C}{ids:List Nat}(hT:Tok P T) (ho:o.op=.mapUpdate t x y z) (hd:o.dst=none) (hi:T[t]?=some (some i)) (hk:i.k=.mp kt et)
  (hki:T[kt]?=some (some ki)) (hkk:ki.k=.str) (hx:opv st x=some (.one (.mr id))) (hh:st.h id=some (.map agg ents)) (E:jB ents) (hy:opv st y=some (Go.AM.T k))
  (hz:opv st z=some v) (g:(match v with | .one _=>!agg | .pa _=>agg | .ma _=>agg | _=>false)=true) (hc:fO v=some rs) (hp:PureL st.h ids rs cs):
  Step P n o st ⟨opr x++opr y++opr z,id::ids⟩ ⟨none,[(id,some (.map agg (sA k cs ents)))]⟩:=by
 refine Step.turn hd hh (by simp) (by simp[AObj.succ]) fun st' ha hh' G S μ a w hs=>?_
 have h1:=aK hs hx fun t h=>ha.1 t (by simp[h])
 have h3:=jW (aK hs hy fun t h=>ha.1 t (by simp[h]));have q:=aK hs hz fun t h=>ha.1 t (by simp[h])
 simp only[aN,aY] at h1;obtain⟨agg',ents',b,c,q1,q2,q3⟩:=h1;obtain⟨b',es,clk,g1,I,A,J⟩:=hs.inv.obj id _ hh';rw[g1] at q2;cases q2;have A:=A.rep E;have hrep:=hp.rel (fun i h=>ha.2 i (by simp[h])) hs.inv.obj (dB q hc);have M:a.eval z=(if agg then .agg ⟨(a.eval z).cells.toList⟩ else(a.eval z).cells.toList.headD undef)∧(agg=false→(a.eval z).cells.toList.length=1):=by
  cases v with
  | one r=>
   simp at g;subst g;simp only[aN] at q;rw[q.one.1];simp
  | pa l=>
   simp at g;subst g;simp only[aN] at q;obtain⟨vs,q,_⟩:=q;rw[q];simp[Value.cells]
  | ma l=>
   simp at g;subst g;simp only[aN] at q;obtain⟨vs,q,_⟩:=q;rw[q];simp[Value.cells]
  | tup l=>simp at g
 have O:=(hT.get hki).str hkk;have hu:=Ah ((hT.get hi).map hk) w;have u:=iW (k:=k) ents es.toList 0 A E;have hck:=fun b=>kC (P:=P) O b 9999 ⟨⟨k⟩⟩ w
 have U:∀e:MapEntry,e.key=.string ⟨⟨k⟩⟩→e.val=a.eval z→bD S agg [.str k::cs] [e]:=by
  intro e he1 he2;simp only[bD];refine⟨e,[],rfl,⟨(a.eval z).cells.toList,?_,by rw[he2];exact M.1,M.2⟩,rfl⟩;simp only[bS];exact⟨e.key,_,rfl,by simp[Rep,he1],hrep⟩
 have Y:∀(ob:Obj),(setObj b ob).run P w=.ok () { w with heap:=w.heap.setIfInBounds b ob }:=by
  intro ob;exact MapKept.run_setObj_map _ I
 have hW:∀ob,WChg w { w with heap:=w.heap.setIfInBounds b ob } b ob:=fun ob=>by
  have hlt:=c9 I;refine⟨rfl,rfl,rfl,by simp,by simp[hlt],fun k _ hne=>?_⟩;show(w.heap.setIfInBounds b ob)[k]?=_;rw[A3,ξ (fun e=>hne e.symm)]
 have hSc:∀(ob:Obj) (o:Nat) (v:Value),S.cell b o=some v→∃vs t fr,ob=.cells vs t fr∧vs[o]?=some v:=fun ob o v e=>by
  obtain⟨vs,t,fr,B,_⟩:=hs.inv.holds.1 b o v e;rw[I] at B;cases B
 have J:=J.kn0 E;have hSm:∀m,S.mapo b=some m→w.heap.size≤b:=fun m e=>by rw[J] at e;cases e
 cases hq:iS k ents with
 | some vs=>
  obtain⟨j,e,B,p2,_,p4,p5,p6⟩:=u.1 vs hq;refine⟨_,.map (es.modify j fun e=>{ e with key:=.string ⟨⟨k⟩⟩,val:=a.eval z }) clk,b,(0,0),?_,g1,hW _,⟨b,_,clk,aH _ _ _,(hW _).new,.inr (.inl ?_),.inl J⟩,hSc _,hSm⟩
  ·have hkey:((es[j]?).map (·.key)).getD (.string ⟨⟨k⟩⟩)=.string ⟨⟨k⟩⟩:=by
    rw[←Array.getElem?_toList,p2];simpa using p4
   have hkt:(Instr.keyThatStays (.string ⟨⟨k⟩⟩) (.string ⟨⟨k⟩⟩)).run P w=.ok (.string ⟨⟨k⟩⟩) w:=by
    have hsb:Instr.sameBits 10000 (.string ⟨⟨k⟩⟩) (.string ⟨⟨k⟩⟩)=true:=by simp[Instr.sameBits,aBg]
    simp only[Instr.keyThatStays,hsb,Cg,τ]
   simp only[execOp,ho,q3,h3,π,Instr.mapUpdate,hu,ζ,iA w b es clk I];rw[show(10000:Nat)=9999+1 from rfl,hck];simp only[ζ,Instr.findKey,π,Ah O w,B,τ,Ba,hkey,hkt,Y]
  ·rw[p6 cs,Array.toList_modify];have hmod:es.toList.modify j (fun e=>{ e with key:=.string ⟨⟨k⟩⟩,val:=a.eval z })=es.toList.take j++{ e with key:=.string ⟨⟨k⟩⟩,val:=a.eval z }::es.toList.drop (j+1):=by
    apply Ch;intro i;rw[List.getElem?_modify];have p5':j<es.size:=by simpa using p5
    by_cases c1:i<j
    ·rw[A5 (by simp;omega),Ak,θ c1];simp[show ¬j=i by omega]
    ·rw[A9 (by simp;omega)];simp only[Aj];by_cases c2:j=i
     ·subst c2;rw[p2];have hm:min j es.toList.length=j:=by simp;omega
      rw[hm];simp
     ·rw[Cv (Cy p5),show i-j=(i-j-1)+1 by omega,List.getElem?_cons_succ,Al];simp[c2,show j+1+(i-j-1)=i by omega]
   rw[hmod];have:=cJ (jP j A) (cJ (U { e with key:=.string ⟨⟨k⟩⟩,val:=a.eval z } rfl rfl) (jQ (j+1) A));exact this
 | none=>
  obtain⟨B,p2⟩:=u.2 hq;refine⟨_,.map (es.push { key:=.string ⟨⟨k⟩⟩,val:=a.eval z,born:=clk }) (clk+1),b,(0,0),?_,g1,hW _,⟨b,_,clk+1,aH _ _ _,(hW _).new,.inr (.inl ?_),.inl J⟩,hSc _,hSm⟩
  ·simp only[execOp,ho,q3,h3,π,Instr.mapUpdate,hu,ζ,iA w b es clk I];rw[show(10000:Nat)=9999+1 from rfl,hck];simp only[ζ,Instr.findKey,π,Ah O w,B,τ,Y]
  ·rw[p2 cs,Array.toList_push];exact cJ A (U _ rfl rfl)
theorem aN4 {P:Program}{T:TT}{o:Oper}{t kt et:TypeId}{i ki:TI}{x y z:Operand}{agg:Bool}{ents:List (List C)}{k:List UInt8}{cs:List C}{S:Sto}{a:Act}{w:World}{b:Nat}{es:Array MapEntry}{clk:Nat}(hT:Tok P T) (ho:o.op=.insert t x y z) (hi:T[t]?=some (some i)) (hk:i.k=.mp kt et)
  (hki:T[kt]?=some (some ki)) (hkk:ki.k=.str) (q3:a.eval x=.map (some b)) (h3:a.eval y=.string ⟨⟨k⟩⟩) (O:w.heap[b]?=some (.map es clk)) (E:bD S agg ents es.toList) (hms:jB ents)
  (U:bS S cs (a.eval z).cells.toList) (q:a.eval z=(if agg then .agg ⟨(a.eval z).cells.toList⟩ else(a.eval z).cells.toList.headD undef)∧(agg=false→(a.eval z).cells.toList.length=1)):
  ∃J Y,(execOp a.eval o).run P w=.ok .skip { w with heap:=w.heap.setIfInBounds b (.map J Y) }∧bD S agg (sA k cs ents) J.toList:=by
 have u:=(hT.get hki).str hkk;have hu:=Ah ((hT.get hi).map hk) w;have g:=iW (k:=k) ents es.toList 0 E hms;have M:=fun b=>kC (P:=P) u b 9999 ⟨⟨k⟩⟩ w
 have A:∀e:MapEntry,e.key=.string ⟨⟨k⟩⟩→e.val=a.eval z→bD S agg [.str k::cs] [e]:=by
  intro e he1 he2;simp only[bD];refine⟨e,[],rfl,⟨(a.eval z).cells.toList,?_,by rw[he2];exact q.1,q.2⟩,rfl⟩;simp only[bS];exact⟨e.key,_,rfl,by simp[Rep,he1],U⟩
 have B:∀(ob:Obj),(setObj b ob).run P w=.ok () { w with heap:=w.heap.setIfInBounds b ob }:=by
  intro ob;exact MapKept.run_setObj_map _ O
 cases hq:iS k ents with
 | some vs=>
  obtain⟨j,e,p1,I,_,p4,p5,p6⟩:=g.1 vs hq;refine⟨es.modify j fun e=>{ e with key:=.string ⟨⟨k⟩⟩,val:=a.eval z },clk,?_,?_⟩
  ·have hkey:((es[j]?).map (·.key)).getD (.string ⟨⟨k⟩⟩)=.string ⟨⟨k⟩⟩:=by
    rw[←Array.getElem?_toList,I];simpa using p4
   have hkt:(Instr.keyThatStays (.string ⟨⟨k⟩⟩) (.string ⟨⟨k⟩⟩)).run P w=.ok (.string ⟨⟨k⟩⟩) w:=by
    have hsb:Instr.sameBits 10000 (.string ⟨⟨k⟩⟩) (.string ⟨⟨k⟩⟩)=true:=by simp[Instr.sameBits,aBg]
    simp only[Instr.keyThatStays,hsb,Cg,τ]
   simp only[execOp,ho,q3,h3,π,Instr.mapUpdate,hu,ζ,iA w b es clk O];rw[show(10000:Nat)=9999+1 from rfl,M];simp only[ζ,Instr.findKey,π,Ah u w,p1,τ,Ba,hkey,hkt,B]
  ·rw[p6 cs,Array.toList_modify];have hmod:es.toList.modify j (fun e=>{ e with key:=.string ⟨⟨k⟩⟩,val:=a.eval z })=es.toList.take j++{ e with key:=.string ⟨⟨k⟩⟩,val:=a.eval z }::es.toList.drop (j+1):=by
    apply Ch;intro i;rw[List.getElem?_modify];have p5':j<es.size:=by simpa using p5
    by_cases c1:i<j
    ·rw[A5 (by simp;omega),Ak,θ c1];simp[show ¬j=i by omega]
    ·rw[A9 (by simp;omega)];simp only[Aj];by_cases c2:j=i
     ·subst c2;rw[I];have hm:min j es.toList.length=j:=by simp;omega
      rw[hm];simp
     ·rw[Cv (Cy p5),show i-j=(i-j-1)+1 by omega,List.getElem?_cons_succ,Al];simp[c2,show j+1+(i-j-1)=i by omega]
   rw[hmod];have:=cJ (jP j E) (cJ (A { e with key:=.string ⟨⟨k⟩⟩,val:=a.eval z } rfl rfl) (jQ (j+1) E));exact this
 | none=>
  obtain⟨p1,I⟩:=g.2 hq;refine⟨es.push { key:=.string ⟨⟨k⟩⟩,val:=a.eval z,born:=clk },clk+1,?_,?_⟩
  ·simp only[execOp,ho,q3,h3,π,Instr.mapUpdate,hu,ζ,iA w b es clk O];rw[show(10000:Nat)=9999+1 from rfl,M];simp only[ζ,Instr.findKey,π,Ah u w,p1,τ,B]
  ·rw[I cs,Array.toList_push];exact cJ E (A _ rfl rfl)
theorem aJq {t Y et:TypeId}{i ki:TI}{x y z:Operand}{id:Nat}{agg:Bool}{ents:List (List C)}{k:List UInt8}{v:V}{rs:List R}{cs:List C}{ids:List Nat}(hT:Tok P T) (ho:o.op=.insert t x y z) (hd:o.dst=none) (hi:T[t]?=some (some i)) (hk:i.k=.mp Y et)
  (hki:T[Y]?=some (some ki)) (hkk:ki.k=.str) (hx:opv st x=some (.one (.mr id))) (hh:st.h id=some (.map agg ents)) (u:jB ents) (hy:opv st y=some (Go.AM.T k))
  (hz:opv st z=some v) (g:(match v with | .one _=>!agg | .pa _=>agg | .ma _=>agg | _=>false)=true) (hc:fO v=some rs) (hp:PureL st.h ids rs cs):
  Step P n o st ⟨opr x++opr y++opr z,id::ids⟩ ⟨none,[(id,some (.map agg (sA k cs ents)))]⟩:=by
 refine Step.turn hd hh (by simp) (by simp[AObj.succ]) fun st' ha hh' G S μ a w hs=>?_
 have h1:=aK hs hx fun t h=>ha.1 t (by simp[h])
 have h3:=jW (aK hs hy fun t h=>ha.1 t (by simp[h]));have q:=aK hs hz fun t h=>ha.1 t (by simp[h])
 simp only[aN,aY] at h1;obtain⟨agg',ents',b,c,q1,q2,q3⟩:=h1;obtain⟨b',es,clk,g1,E,I,B⟩:=hs.inv.obj id _ hh';rw[g1] at q2;cases q2;have I:=I.rep u;have J:=hp.rel (fun i h=>ha.2 i (by simp[h])) hs.inv.obj (dB q hc);have M:a.eval z=(if agg then .agg ⟨(a.eval z).cells.toList⟩ else(a.eval z).cells.toList.headD undef)∧(agg=false→(a.eval z).cells.toList.length=1):=by
  cases v with
  | one r=>
   simp at g;subst g;simp only[aN] at q;rw[q.one.1];simp
  | pa l=>
   simp at g;subst g;simp only[aN] at q;obtain⟨vs,q,_⟩:=q;rw[q];simp[Value.cells]
  | ma l=>
   simp at g;subst g;simp only[aN] at q;obtain⟨vs,q,_⟩:=q;rw[q];simp[Value.cells]
  | tup l=>simp at g
 obtain⟨es',A,O,U⟩:=aN4 (P:=P) hT ho hi hk hki hkk q3 h3 E I u J M;have hW:∀ob,WChg w { w with heap:=w.heap.setIfInBounds b ob } b ob:=fun ob=>by
  have hlt:=c9 E;refine⟨rfl,rfl,rfl,by simp,by simp[hlt],fun k _ hne=>?_⟩;show(w.heap.setIfInBounds b ob)[k]?=_;rw[A3,ξ (fun e=>hne e.symm)]
 have hSc:∀(ob:Obj) (o:Nat) (v:Value),S.cell b o=some v→∃vs t fr,ob=.cells vs t fr∧vs[o]?=some v:=fun ob o v e=>by
  obtain⟨vs,t,fr,p1,_⟩:=hs.inv.holds.1 b o v e;rw[E] at p1;cases p1
 have B:=B.kn0 u;have hSm:∀m,S.mapo b=some m→w.heap.size≤b:=fun m e=>by rw[B] at e;cases e
 exact⟨_,.map es' A,b,(0,0),O,g1,hW _,⟨b,_,A,aH _ _ _,(hW _).new,.inr (.inl U),.inl B⟩,hSc _,hSm⟩
end
end Go.AM
