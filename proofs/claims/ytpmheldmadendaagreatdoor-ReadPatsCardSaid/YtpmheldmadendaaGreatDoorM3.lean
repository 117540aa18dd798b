/-
  Texts Am12 to Am16 in one.
-/
import Derived.Test.YtpmheldmadendaaGreatDoorM2
import Derived.RangeFuncRecord
import Derived.IntWalk
import Derived.Laws.StructEq
open List (all_eq_true append_assoc append_nil cons_append drop_drop drop_succ_cons eq_nil_of_length_eq_zero filter_cons filter_eq_self length_append length_cons length_nil length_range length_singleton length_take map_cons map_nil mem_append mem_cons mem_filter mem_map mem_range nil_append nodup_cons range'_succ range_eq_range' take_of_length_le take_succ_cons)
open Nat (eq_of_beq_eq_true le_of_ble_eq_true le_of_lt le_refl le_trans lt_of_lt_of_le min_eq_left sub_zero zero_add zero_le)
namespace Go.AM
open Go
def fJ (μ:Mu) (h:bW):Nat→Prop:=fun b=>∃id o c,h id=some o∧μ id=some (b,c)
def b9 (P:Program) (f:FuncId) (args:List V) (hin:List (Nat×AObj)) (res:V) (hout:List (Nat×AObj)):Prop:=
 ∀S μ w vals,Inv ⟨w,S,fJ μ (look hin),μ,look hin⟩ S μ (look hin) w→aS S μ (look hin) args vals→
  Calls P f ⟨vals⟩ w fun e w'=>∃S' μ' v,e=.returned v∧Inv ⟨w,S,fJ μ (look hin),μ,look hin⟩ S' μ' (look hout) w'∧aK S' μ' (look hout) res v
mutual
theorem R.ren_id:∀r:R,r.ren (fun i=>i)=r
 | .c _=>rfl
 | .hs ..=>rfl
 | .tl ..=>rfl
 | .vp ..=>rfl
 | .ep ..=>rfl
 | .mr ..=>rfl
 | .clo f caps=>by simp only[R.ren,R.renL_id caps]
 | .mth f x=>by simp only[R.ren,R.ren_id x]
 | .yl _=>rfl
 | .ra _ _ _ _=>rfl
 | .rp _ _ _ _=>rfl
 | .ras n es l=>by simp only[R.ren,R.renL_id l]
 | .pas l=>by simp only[R.ren,R.renL_id l]
theorem R.renL_id:∀r:List R,R.renL (fun i=>i) r=r
 | []=>rfl
 | r::rs=>by simp only[R.renL,R.ren_id r,R.renL_id rs]
end
mutual
theorem V.ren_id:∀r:V,r.ren (fun i=>i)=r
 | .one r=>by simp only[V.ren,R.ren_id r]
 | .pa _=>rfl
 | .ma l=>by simp only[V.ren,R.renL_id l]
 | .tup l=>by simp only[V.ren,V.renL_id l]
theorem V.renL_id:∀r:List V,V.renL (fun i=>i) r=r
 | []=>rfl
 | r::rs=>by simp only[V.renL,V.ren_id r,V.renL_id rs]
end
theorem aCa:∀l:List (Nat×V),aMf (fun i=>i) l=l
 | []=>rfl
 | (t,v)::l=>by simp only[aMf,V.ren_id v,aCa l]
theorem aB8:∀l:List (List R),aB9 (fun i=>i) l=l
 | []=>rfl
 | r::l=>by simp only[aB9,R.renL_id r,aB8 l]
theorem Ole.refl_id {o:AObj}(h:o≠ .dead):Ole (fun i=>i) o o:=by
 cases o with
 | var t cells=>exact .var (R.renL_id cells).symm
 | arr=>exact .arr
 | map=>exact .map
 | dead=>exact absurd rfl h
 | lp st j i e=>exact .lp (aCa e).symm
 | dfr=>exact .dfr
 | rarr te es l=>exact .rarr (aB8 l).symm
 | tok r k=>exact .tok (R.ren_id r).symm
inductive Conv (h:bW):List Nat→V→V→Prop
 | refl {v}:Conv h [] v v
 | one {ids r c}:PureL h ids [r] [c]→Conv h ids (.one r) (.one (.c c))
 | agg {ids rs cs}:PureL h ids rs cs→Conv h ids (.ma rs) (.pa cs)
 | pa {ids l cs}:PureL h ids (l.map R.c) cs→Conv h ids (.pa l) (.pa cs)
inductive ArgsV (st:St):List Nat→List Operand→List V→Prop
 | nil:ArgsV st [] [] []
 | cons {ids ids' x xs v v' vs}:opv st x=some v→Conv st.h ids v v'→ArgsV st ids' xs vs→ArgsV st (ids++ids') (x::xs) (v'::vs)
theorem Conv.rel {S:Sto}{μ:Mu}{H H0:bW}{w:World}{ids:List Nat}{v v':V}{u:Value}(h:Conv H0 ids v v') (hi:∀i∈ids,H i=H0 i) (hO:∀id o,H id=some o→iG S μ H w id o) (q:aK S μ H v u):aK S μ H v' u:=by
 cases h with
 | refl=>exact q
 | @one _ r c h=>
  simp only[aK,aQ] at q ⊢;have:=h.rel hi hO (vs:=[u]) (by simp only[aN];exact⟨u,[],rfl,q,rfl⟩);simp only[bR] at this;obtain⟨v,vs',h1,h2,y⟩:=this;cases h1;exact h2
 | @agg _ rs cs h=>
  simp only[aK] at q ⊢;obtain⟨vs,h1,h2⟩:=q;exact⟨vs,h1,h.rel hi hO h2⟩
 | @pa _ l cs h=>
  simp only[aK] at q ⊢;obtain⟨vs,h1,h2⟩:=q;exact⟨vs,h1,h.rel hi hO h2.toR⟩
def bO:List Operand→List Nat
 | []=>[]
 | x::xs=>opr x++bO xs
theorem ArgsV.rel {G:Ctx}{n:Nat}{S:Sto}{μ:Mu}{st st':St}{a:Act}{w:World}(hs:Sim G n S μ st' a w):∀{ids:List Nat}{xs:List Operand}{vs:List V},ArgsV st ids xs vs→(∀t∈bO xs,st'.e t=st.e t)→(∀i∈ids,st'.h i=st.h i)→aS S μ st'.h vs (xs.map a.eval):=by
 intro ids xs vs h
 induction h with
 | nil=>intro _ _;simp[aS]
 | cons hx hc _ c=>
  intro ht hi;simp only[As,aS];refine⟨_,_,rfl,?_,c (fun t h=>ht t (by simp[bO,h])) fun i h=>hi i (by simp[h])⟩;exact hc.rel (fun i h=>hi i (by simp[h])) hs.inv.obj (aI hs hx fun t h=>ht t (by simp[bO,h]))
theorem Inv.hand {G:Ctx}{S:Sto}{μ:Mu}{H:bW}{w:World}{hin:List (Nat×AObj)}(h:Inv G S μ H w) (hh:∀id o,look hin id=some o→H id=some o∧o≠ .dead) (hc:subset (eK hin) (hin.map (·.1))=true):
  Inv ⟨w,S,fJ μ (look hin),μ,look hin⟩ S μ (look hin) w:=by
 have q:∀i∈hin.map (·.1),Good H (look hin) (fun i=>i) i:=by
  intro i hi;obtain⟨o,ho⟩:=bZ hi;obtain⟨h1,h2⟩:=hh i o ho;exact⟨o,o,h1,ho,.refl_id h2⟩
 refine⟨h.holds,fun id o ho=>?_,fun i j o o' b c c' hi B hm r=>h.inj i j o o' b c c' (hh _ _ hi).1 (hh _ _ B).1 hm r,fun i o b c hi hm=>.inr ⟨i,o,c,hi,hm⟩,FrameW.refl _ _ ⟨h.frame.tabAt,fun g y=>?_⟩,S.le_refl,fun b _ _=>⟨fun _=>rfl,rfl⟩,Evolve.refl _ _ _,h.fre⟩
 ·obtain⟨h1,h2⟩:=hh id o ho;exact(h.obj id o h1).ren (.refl_id h2) fun i hi=>q i (bK hc i (iP (aU ho) i hi))
 ·rintro⟨i,o,c,h1,h2⟩;have E:=(h.frame.tab.1 g y).1
  rcases h.own i o g c (hh i o h1).1 h2 with A | A
  ·omega
  ·exact h.frame.tab.2 g y A
def outs (l:List (Nat×AObj)):List (Nat×Option AObj):=l.map fun p=>(p.1,some p.2)
theorem sY:∀(l:List (Nat×AObj)) (i:Nat),look (outs l) i=(look l i).map some
 | [],_=>rfl
 | (k,o)::l,i=>by
  simp only[outs,As,look];cases Nat.beq i k
  ·have:=sY l i;unfold outs at this;simpa using this
  ·rfl
theorem cF (H:bW) (l:List (Nat×AObj)) (i:Nat):dX H (outs l) i=match look l i with | some o=>some o | none=>H i:=by
 simp only[dX,sY];cases look l i<;>rfl
theorem Inv.back {G:Ctx}{S S':Sto}{μ μ':Mu}{H:bW}{w w':World}{hin hout:List (Nat×AObj)}(h:Inv G S μ H w) (hh:∀id o,look hin id=some o→H id=some o)
  (hnew:∀id o,look hout id=some o→(∃o',look hin id=some o')∨H id=none)
  (y:Inv ⟨w,S,fJ μ (look hin),μ,look hin⟩ S' μ' (look hout) w'):
  ∃E:Mu,(∀id o,look hout id=some o→E id=μ' id)∧Inv G S' E (dX H (outs hout)) w'∧Evolve S μ H S' E (dX H (outs hout))∧Evolve S' μ' (look hout) S' E (dX H (outs hout)):=by
 have hE:Evolve S μ (look hin) S' μ' (look hout):=y.evo
 let E:Mu:=fun id=>match look hout id with | some _=>μ' id | none=>μ id
 have A:∀id o,look hout id=some o→E id=μ' id:=fun id o ho=>by simp only[E,ho]
 have O:∀id,look hout id=none→E id=μ id:=fun id ho=>by simp only[E,ho]
 have ac:∀id o,look hout id=some o→dX H (outs hout) id=some o:=fun id o ho=>by rw[cF,ho]
 have U:∀id,look hout id=none→dX H (outs hout) id=H id:=fun id ho=>by rw[cF,ho]
 have ab:∀id o,look hin id=some o→∃o',look hout id=some o':=fun id o ho=>by
  obtain⟨o',h1,_⟩:=hE.obj id o ho;exact⟨o',h1⟩
 have ad:Evolve S μ H S' E (dX H (outs hout)):=by
  refine⟨hE.le,fun id o ho=>?_⟩;cases hq:look hout id with
  | none=>exact⟨o,by rw[U id hq,ho],o.succ_refl (O id hq)⟩
  | some M=>
   rcases hnew id M hq with⟨o',hi⟩ | hi
   ·have:=hh id o' hi;rw[ho] at this;cases this;obtain⟨o3,h1,h2⟩:=hE.obj id o hi;rw[hq] at h1;cases h1;exact⟨M,ac id M hq,by rw[A id M hq];exact h2⟩
   ·rw[ho] at hi;cases hi
 have hE2:Evolve S' μ' (look hout) S' E (dX H (outs hout)):=⟨S'.le_refl,fun id o ho=>⟨o,ac id o ho,o.succ_refl (A id o ho)⟩⟩
 have aa:∀id o,H id=some o→look hout id=none→∀b c,μ id=some (b,c)→b<w.heap.size∧¬fJ μ (look hin) b:=by
  intro id o ho hq b c hm;refine⟨(h.obj id o ho).lt hm,?_⟩;rintro⟨I,o',c',h1,h2⟩;have:=h.inj id I o o' b c c' ho (hh _ _ h1) hm h2;subst this;obtain⟨M,q⟩:=ab id o' h1;rw[hq] at q;cases q
 have J:∀id o b c,look hout id=some o→μ' id=some (b,c)→w.heap.size≤b∨fJ μ (look hin) b:=fun id o b c ho hm=>y.own id o b c ho hm
 refine⟨E,A,⟨y.holds,fun id o ho=>?_,fun i j o o' b c c' hi hj hm B=>?_,fun i o b c hi hm=>?_,?_,Sto.le_trans h.sle hE.le,fun b hb hF=>?_,h.evo.trans ad,y.fre⟩,ad,hE2⟩
 ·cases hq:look hout id with
  | some M=>
   rw[ac id M hq] at ho;cases ho;exact(y.obj id _ hq).evolve hE2 (A id _ hq) fun b c hm=>⟨rfl,fun _=>rfl,rfl⟩
  | none=>
   rw[U id hq] at ho;refine(h.obj id o ho).evolve ad (O id hq) fun b c hm=>?_
   obtain⟨h1,h2⟩:=aa id o ho hq b c hm;exact⟨y.frame.block b h1 h2,(y.sto b h1 h2).1,(y.sto b h1 h2).2⟩
 ·cases Y:look hout i with
  | some oi=>
   rw[A i oi Y] at hm;cases r:look hout j with
   | some oj=>
    rw[A j oj r] at B;exact y.inj i j oi oj b c c' Y r hm B
   | none=>
    rw[O j r] at B;rw[U j r] at hj;obtain⟨h1,h2⟩:=aa j o' hj r b c' B;rcases J i oi b c Y hm with q | q
    ·omega
    ·exact absurd q h2
  | none=>
   rw[O i Y] at hm;rw[U i Y] at hi;obtain⟨h1,h2⟩:=aa i o hi Y b c hm;cases r:look hout j with
   | some oj=>
    rw[A j oj r] at B;rcases J j oj b c' r B with q | q
    ·omega
    ·exact absurd q h2
   | none=>
    rw[O j r] at B;rw[U j r] at hj;exact h.inj i j o o' b c c' hi hj hm B
 ·cases hq:look hout i with
  | some M=>
   rw[A i M hq] at hm;rcases J i M b c hq hm with q | ⟨I,o',c',q,h4⟩
   ·exact .inl (le_trans h.frame.size q)
   ·exact h.own I o' b c' (hh _ _ q) h4
  | none=>
   rw[O i hq] at hm;rw[U i hq] at hi;exact h.own i o b c hi hm
 ·refine⟨y.frame.os.trans h.frame.os,y.frame.tape.trans h.frame.tape,y.frame.output.trans h.frame.output,le_trans h.frame.size y.frame.size,fun k hk hF=>?_,h.frame.tab⟩;rw[y.frame.block k (Ay hk h.frame.size) ?_,h.frame.block k hk hF];rintro⟨I,o',c',q,h4⟩;rcases h.own I o' k c' (hh _ _ q) h4 with h5 | h5
  ·omega
  ·exact hF h5
 ·have hnf:¬fJ μ (look hin) b:=by
   rintro⟨I,o',c',q,h4⟩;rcases h.own I o' b c' (hh _ _ q) h4 with h5 | h5
   ·omega
   ·exact hF h5
  have h1:=y.sto b (Ay hb h.frame.size) hnf;have h2:=h.sto b hb hF;exact⟨fun o=>(h1.1 o).trans (h2.1 o),h1.2.trans h2.2⟩
section
variable {P:Program}{n:Nat}{o:Oper}{st:St}{d:Nat}
def keys {α:Type}(l:List (Nat×α)):List Nat:=l.map (·.1)
theorem tC {w:World}{S:Sto}{F:Nat→Prop}{μ:Mu}{hin:List (Nat×AObj)}:Ctx.keeps ⟨w,S,F,μ,look hin⟩ (keys hin):=
 ⟨fun id o ho=>mem_map.2 ⟨_,aU ho,rfl⟩,fun h1 h2=>by
  obtain⟨o,ho⟩:=bZ h1;rw[show look hin 997=none from h2] at ho
  cases ho⟩
def AObj.live:AObj→Bool
 | .dead=>false
 | _=>true
def dP (args:List V) (hin:List (Nat×AObj)):Bool:=subset (V.refsL args) (keys hin)&&subset (eK hin) (keys hin)&&(hin.all fun p=>p.2.live)
theorem Step.call {f:FuncId}{ids c:List Nat}{args:List V}{hin hout:List (Nat×AObj)}{res:V}(O:o.dst=some d) (I:d<n) (U:b9 P f args hin res hout)
  (y:eN (fun p=>st.h p.1=some p.2) hin) (q:eN (fun p=>p.1∈keys hin∨st.h p.1=none) hout) (hok:dP args hin=true)
  (A:∀st',dJ ⟨c,ids++keys hin++keys hout⟩ st st'→∀G S μ a w,Sim G n S μ st' a w→∃vals,(execOp a.eval o).run P w=.ok (.enter f ⟨vals⟩) w∧aS S μ st'.h args vals):
  Step P n o st ⟨c,ids++keys hin++keys hout⟩ ⟨some (d,some res),outs hout⟩:=by
 intro st' ha G S μ a w K Q hs Y;obtain⟨vals,hr,hv⟩:=A st' ha G S μ a w hs;simp only[dP,Aa] at hok;obtain⟨⟨k1,k2⟩,k3⟩:=hok;have hh:∀id o,look hin id=some o→st'.h id=some o∧o≠ .dead:=by
  intro id o ho;have hm:=aU ho;have h1:=y.mem _ hm;refine⟨by rw[ha.2 id (by simp only[Bi];exact .inl (.inr (mem_map.2 ⟨_,hm,rfl⟩)))];exact h1,?_⟩;have:=(A3.1 k3) _ hm;rintro rfl;simp[AObj.live] at this
 have B:∀id o,look hout id=some o→(∃o',look hin id=some o')∨st'.h id=none:=by
  intro id o ho;have hm:=aU ho;rcases q.mem _ hm with h1 | h1
  ·exact .inl (bZ h1)
  ·exact .inr (by rw[ha.2 id (by simp only[Bi];exact .inr (mem_map.2 ⟨_,hm,rfl⟩))];exact h1)
 have hI:=hs.inv.hand hh k2;have r:∀i∈keys hin,Good st'.h (look hin) (fun i=>i) i:=by
  intro i hi;obtain⟨o,ho⟩:=bZ hi;obtain⟨h1,h2⟩:=hh i o ho;exact⟨o,o,h1,ho,.refl_id h2⟩
 have J:aS S μ (look hin) args vals:=by
  have:=aS.ren (H:=st'.h) (H':=look hin) (σ:=fun i=>i) args vals (fun i hi=>r i (bK k1 i hi)) (by rw[V.renL_id];exact hv);exact this
 have hc:=U S μ w vals hI J;refine fun ro=>gN hr ?_
 refine hc.mono fun e w' ⟨S',μ',v,he,M,E⟩=>?_
 subst he;obtain⟨μ2,q1,q2,q3,q4⟩:=hs.inv.back (fun id o ho=>(hh id o ho).1) B M;show K (a.put o.dst v) w';rw[O];refine Y S' μ2 _ _ ?_;exact hs.put q2 q3 I (x:=some res) fun z hz=>by cases hz;exact aK.evolve q4 _ _ E
def eH (P : Program) (f : FuncId) : Prop := ∃ fn, P.funcs[f]? = some fn ∧ (fn.name == "runtime.NumGoroutine") = false ∧ fn.body.isNone = false
theorem cP {f:FuncId}(hb:eH P f) (args:Array Value) (w:World):(callFunc f args).run P w=.ok (.enter f args) w:=by
 obtain⟨fn,h1,h2,c⟩:=hb;have hp:(program:Sem Program).run P w=.ok P w:=rfl;simp only[callFunc,δ,hp,θ,h1,h2,c,Ao,Bm,ε]
theorem aCq {f:FuncId}{xs:Array Operand}{ts:Array TypeId}{ids:List Nat}{args:List V}{res:V}(hin hout:List (Nat×AObj)) (hb:eH P f) (ho:o.op=.call { callee:=.value (.func f),args:=xs,argTypes:=ts }) (A:o.dst=some d) (y:d<n)
  (B:b9 P f args hin res hout) (ha:ArgsV st ids xs.toList args) (r:eN (fun p=>st.h p.1=some p.2) hin) (c:eN (fun p=>p.1∈keys hin∨st.h p.1=none) hout) (hok:dP args hin=true):
  Step P n o st ⟨bO xs.toList,ids++keys hin++keys hout⟩ ⟨some (d,some res),outs hout⟩:=by
 refine Step.call A y B r c hok fun st' q G S μ a w hs=>⟨xs.toList.map a.eval,?_,ha.rel hs q.1 fun i h=>q.2 i (by simp[h])⟩
 simp only[execOp,ho,resolve,Deferred.ofValue,Act.eval,δ,ε,θ,invoke,cP hb];congr 2;apply Array.ext';simp
theorem aCo {f:FuncId}{x:Operand}{caps:List R}{xs:Array Operand}{ts:Array TypeId}{ids:List Nat}{args:List V}{res:V}(hin hout:List (Nat×AObj)) (hb:eH P f) (ho:o.op=.call { callee:=.value x,args:=xs,argTypes:=ts }) (O:o.dst=some d) (I:d<n)
  (hx:opv st x=some (.one (.clo f caps))) (U:b9 P f (args++caps.map V.one) hin res hout) (ha:ArgsV st ids xs.toList args) (y:eN (fun p=>st.h p.1=some p.2) hin) (q:eN (fun p=>p.1∈keys hin∨st.h p.1=none) hout) (hok:dP (args++caps.map V.one) hin=true):
  Step P n o st ⟨opr x++bO xs.toList,ids++keys hin++keys hout⟩ ⟨some (d,some res),outs hout⟩:=by
 refine Step.call O I U y q hok fun st' c G S μ a w hs=>?_
 have J:=aI hs hx fun t ht=>c.1 t (by simp[ht])
 simp only[aK,aQ] at J;obtain⟨vs,h1,h2⟩:=J;refine⟨xs.toList.map a.eval++vs,?_,?_⟩
 ·simp only[execOp,ho,resolve,h1,Deferred.ofValue,δ,ε,θ,invoke,cP hb];congr 2;apply Array.ext';simp
 ·have M:∀(l:List V) (us:List Value) (rs:List R) (vs:List Value),aS S μ st'.h l us→aN S μ st'.h rs vs→aS S μ st'.h (l++rs.map V.one) (us++vs):=by
   intro l
   induction l with
   | nil=>
    intro us rs vs h k;simp only[aS] at h;subst h;simp only[Bv]
    induction rs generalizing vs with
    | nil=>simp only[aN] at k;subst k;simp[aS]
    | cons r rs A=>
     simp only[aN] at k;obtain⟨v,vs',rfl,B,E⟩:=k;simp only[As,aS];exact⟨v,vs',rfl,by simpa [aK] using B,A vs' E⟩
   | cons x l A=>
    intro us rs vs h k;simp only[aS] at h;obtain⟨v,vs',rfl,B,E⟩:=h;simp only[Bw,aS];exact⟨v,_,rfl,B,A vs' rs vs E k⟩
  exact M _ _ _ _ (ha.rel hs (fun t ht=>c.1 t (by simp[ht])) fun i h=>c.2 i (by simp[h])) h2
end
theorem Sim.freeze {G:Ctx}{n:Nat}{S:Sto}{μ:Mu}{a:Act}{w:World}{st:St}{id te es:Nat}{elems:List (List C)}{fz:Nat}(h:st.h id=some (.arr te es elems fz)) (hs:Sim G n S μ st a w):∃S' μ',Sim G n S' μ' ⟨st.e,upd st.h id (some (.arr te es elems 2)),st.d⟩ a w:=by
 have hO:=hs.inv.obj id _ h
 have O:∀S',S.le S'→Evolve S μ st.h S' μ (upd st.h id (some (.arr te es elems 2))):=fun S' hle=>⟨hle,fun j x A=>by
  by_cases r:j=id
  ·subst r;rw[h] at A;cases A;exact⟨_,aH _ _ _,by simp[AObj.succ]⟩
  ·exact⟨x,by rw[bC _ _ _ r];exact A,x.succ_refl rfl⟩⟩
 have hold:∀j x,upd st.h id (some (.arr te es elems 2)) j=some x→∃Y,st.h j=some Y:=fun j x A=>by
  by_cases r:j=id
  ·subst r;exact⟨_,h⟩
  ·rw[bC _ _ _ r] at A;exact⟨_,A⟩
 obtain⟨h1,h2,h3,h4,h5,h6,h7,h8,U⟩:=hs.inv;obtain⟨g0,⟨g1,g2⟩ | ⟨b,base,cap,vs,g1,g2,g3,g4,g5,g6,g7,g8,g9⟩⟩:=hO
 ·--no block yet
  have E:=O S S.le_refl;refine⟨S,μ,⟨h1,fun j x A=>?_,fun i j x Y b c c' hi A hm J=>?_,fun i x b c hi hm=>?_,h5,h6,h7,h8.trans E,U⟩,hs.size,hs.defers.evolve E,fun t v e=>aK.evolve E v _ (hs.env t v e)⟩
  ·by_cases r:j=id
   ·subst r;have y:some (AObj.arr te es elems 2)=some x:=by rw[←A];exact(aH _ _ _).symm
    cases y;exact⟨g0,.inl ⟨g1,g2⟩⟩
   ·have y:st.h j=some x:=by rw[←A];exact(bC _ _ _ r).symm
    exact(h2 j x y).evolve E rfl fun _ _ _=>⟨rfl,fun _=>rfl,rfl⟩
  ·obtain⟨_,B⟩:=hold _ _ hi;obtain⟨_,y⟩:=hold _ _ A;exact h3 i j _ _ b c c' B y hm J
  ·obtain⟨_,B⟩:=hold _ _ hi;exact h4 i _ b c B hm
 ·let S':Sto:=⟨fun q o=>if q=b∧base≤o∧o<base+elems.length*es then vs[o]? else S.cell q o,S.mapo⟩
  have M:∀o v,S.cell b o=some v→vs[o]?=some v:=fun o v e=>by
   obtain⟨vs0,t0,fr0,p1,p2⟩:=h1.1 b o v e;rw[g2] at p1;cases p1;simpa using p2
  have hle:S.le S':=⟨fun q o v e=>by
   show(if q=b∧base≤o∧o<base+elems.length*es then vs[o]? else S.cell q o)=some v;by_cases hc:q=b∧base≤o∧o<base+elems.length*es
   ·rw[ξ hc];obtain⟨rfl,_⟩:=hc;exact M o v e
   ·rw[η hc];exact e,fun q m e=>⟨m,e,m.le_refl⟩⟩
  have E:=O S' hle;have I:∀q o,q≠b→S'.cell q o=S.cell q o:=fun q o r=>η fun hc=>r hc.1
  refine⟨S',μ,⟨⟨fun q o v e=>?_,h1.2⟩,fun j x A=>?_,fun i j x Y b c c' hi A hm J=>?_,fun i x b c hi hm=>?_,h5,Sto.le_trans h6 hle,fun q hb hF=>?_,h8.trans E,fun q te' lo hi e o ho=>(I q o fun eb=>by rw[eb] at e;have e:S.mapo b=_:=e;rw[g5.2] at e;cases e).trans (U q te' lo hi e o ho)⟩,hs.size,hs.defers.evolve E,fun t v e=>aK.evolve E v _ (hs.env t v e)⟩
  ·by_cases hc:q=b∧base≤o∧o<base+elems.length*es
   ·have e':vs[o]?=some v:=by rw[←e];exact(ξ hc).symm
    obtain⟨rfl,_⟩:=hc;exact⟨⟨vs⟩,te,(0,0),g2,by simpa using e'⟩
   ·have e':S.cell q o=some v:=by rw[←e];exact(η hc).symm
    exact h1.1 q o v e'
  ·by_cases r:j=id
   ·subst r;have y:some (AObj.arr te es elems 2)=some x:=by rw[←A];exact(aH _ _ _).symm
    cases y;refine⟨g0,.inr ⟨b,base,cap,vs,g1,g2,g3,g4,g5,bR.mono hle _ _ g6,(fun e=>by cases e),fun o ho=>?_,fun _ i v hi=>?_⟩⟩
    ·show(if b=b∧base≤o∧o<base+elems.length*es then vs[o]? else S.cell b o)=none;rw[η (by omega)];exact g8 o ho
    ·rw[Ai] at hi;split at hi
     ·rw[Aj] at hi;show(if b=b∧base≤base+i∧base+i<base+elems.length*es then vs[base+i]? else S.cell b (base+i))=some v;rw[ξ ⟨rfl,by omega,by omega⟩];exact hi
     ·cases hi
   ·have y:st.h j=some x:=by rw[←A];exact(bC _ _ _ r).symm
    refine(h2 j x y).evolve E rfl fun q c' hm=>⟨rfl,fun o=>I q o ?_,rfl⟩
    rintro rfl;exact r (h3 j id x _ q c' _ y h hm g1)
  ·obtain⟨_,B⟩:=hold _ _ hi;obtain⟨_,y⟩:=hold _ _ A;exact h3 i j _ _ b c c' B y hm J
  ·obtain⟨_,B⟩:=hold _ _ hi;exact h4 i _ b c B hm
  ·have r:q≠b:=by
    rintro rfl;rcases h4 id _ q _ h g1 with h9 | h9
    ·omega
    ·exact hF h9
   exact⟨fun o=>(I q o r).trans ((h7 q hb hF).1 o),(h7 q hb hF).2⟩
theorem Sub.freeze {kf:List Nat}{st:St}{id te es:Nat}{elems:List (List C)}{fz:Nat}(h:st.h id=some (.arr te es elems fz)):Sub kf ⟨st.e,upd st.h id (some (.arr te es elems 2)),st.d⟩ st:=
 fun _ _ _ _ _ _ _ hs=>hs.freeze h
theorem Inv.empty {G:Ctx}{S:Sto}{μ:Mu}{H:bW}{w:World}{id:Nat}(te es:Nat) (h:Inv G S μ H w) (hid:H id=none):Inv G S (upd μ id none) (upd H id (some (.arr te es [] 0))) w∧Evolve S μ H S (upd μ id none) (upd H id (some (.arr te es [] 0))):=by
 have A:Evolve S μ H S (upd μ id none) (upd H id (some (.arr te es [] 0))):=eP hid _ _;refine⟨⟨h.holds,fun j x q=>?_,fun i j x B b c c' hi q hm r=>?_,fun i x b c hi hm=>?_,h.frame,h.sle,h.sto,h.evo.trans A,h.fre⟩,A⟩
 ·by_cases y:j=id
  ·subst y;rw[aH] at q;cases q;exact⟨by simp,.inl ⟨aH _ _ _,rfl⟩⟩
  ·rw[bC _ _ _ y] at q;exact(h.obj j x q).evolve A (bC _ _ _ y) fun _ _ _=>⟨rfl,fun _=>rfl,rfl⟩
 ·have h1:i≠id:=fun e=>by subst e;rw[aH] at hm;cases hm
  have h2:j≠id:=fun e=>by subst e;rw[aH] at r;cases r
  rw[bC _ _ _ h1] at hi hm;rw[bC _ _ _ h2] at q r;exact h.inj i j x B b c c' hi q hm r
 ·have h1:i≠id:=fun e=>by subst e;rw[aH] at hm;cases hm
  rw[bC _ _ _ h1] at hi hm;exact h.own i x b c hi hm
theorem Sub.own {kf:List Nat}{st:St}{t id:Nat}(te es:Nat) (h:st.e t=some (.one (.c .nl))) (hid:st.h id=none):Sub kf ⟨upd st.e t (some (.one (.hs id 0 0 0))),upd st.h id (some (.arr te es [] 0)),st.d⟩ st:=by
 intro G n S μ a w _ hs;obtain⟨hi,y⟩:=hs.inv.empty te es hid;refine⟨S,upd μ id none,⟨hi,hs.size,hs.defers.evolve y,fun s v e=>?_⟩⟩;by_cases q:s=t
 ·subst q;have r:=hs.env s _ h;have e':v=.one (.hs id 0 0 0):=by
   have:some v=some (V.one (.hs id 0 0 0)):=by rw[←e];exact aH _ _ _
   cases this;rfl
  subst e';simp only[aK,aQ,Rep] at r ⊢;exact⟨⟨_,_,_,r⟩,.inr ⟨te,es,[],0,aH _ _ _,le_refl _,fun _=>⟨le_refl _,.inl ⟨aH _ _ _,rfl,r⟩⟩⟩⟩
 ·have e':st.e s=some v:=by rw[←e];exact(bC _ _ _ q).symm
  exact aK.evolve y v _ (hs.env s v e')
theorem Sub.ownCell {kf:List Nat}{st:St}{x k id tv:Nat}{cells:List R}(te es:Nat) (h:st.h x=some (.var tv cells)) (O:cells[k]?=some (.c .nl)) (hid:st.h id=none):
  Sub kf ⟨st.e,upd (upd st.h id (some (.arr te es [] 0))) x (some (.var tv (cells.set k (.hs id 0 0 0)))),st.d⟩ st:=by
 intro G n S μ a w _ hs;obtain⟨hi,U⟩:=hs.inv.empty te es hid;have M:x≠id:=fun e=>by subst e;rw[h] at hid;cases hid
 have hx:upd st.h id (some (.arr te es [] 0)) x=some (.var tv cells):=by rw[bC _ _ _ M];exact h
 obtain⟨b,vs,g1,g2,g3,g4⟩:=hi.obj x _ hx
 have A:Evolve S (upd μ id none) (upd st.h id (some (.arr te es [] 0))) S (upd μ id none) (upd (upd st.h id (some (.arr te es [] 0))) x (some (.var tv (cells.set k (.hs id 0 0 0))))):=⟨S.le_refl,fun j y r=>by
  by_cases q:j=x
  ·subst q;rw[hx] at r;cases r;exact⟨_,aH _ _ _,by simp[AObj.succ]⟩
  ·exact⟨y,by rw[bC _ _ _ q];exact r,y.succ_refl rfl⟩⟩
 have hold:∀j y,upd (upd st.h id (some (.arr te es [] 0))) x (some (.var tv (cells.set k (.hs id 0 0 0)))) j=some y→∃Y,upd st.h id (some (.arr te es [] 0)) j=some Y:=fun j y r=>by
  by_cases q:j=x
  ·subst q;exact⟨_,hx⟩
  ·rw[bC _ _ _ q] at r;exact⟨_,r⟩
 refine⟨S,upd μ id none,⟨⟨hi.holds,fun j y r=>?_,fun i j y Y b c c' B r hm aa=>?_,fun i y b c B hm=>?_,hi.frame,hi.sle,hi.sto,hi.evo.trans A,hi.fre⟩,hs.size,hs.defers.evolve (U.trans A),fun s v e=>aK.evolve (U.trans A) v _ (hs.env s v e)⟩⟩
 ·by_cases q:j=x
  ·subst q;have E:some (AObj.var tv (cells.set k (.hs id 0 0 0)))=some y:=by rw[←r];exact(aH _ _ _).symm
   cases E;refine⟨b,vs,g1,g2,?_,g4⟩;have h3:=aN.evolve A _ _ g3;obtain⟨u,hu,I⟩:=g3.get k _ O;simp only[aQ,Rep] at I;have hkl:k<cells.length:=(Ad.1 O).1
   have J:cells.set k (.hs id 0 0 0)=bJ cells k [.hs id 0 0 0]:=by
    unfold bJ;rw[Ca,ξ hkl];simp
   have hvl:=g3.length;have hvs:vs=bJ vs k [u]:=by
    unfold bJ;apply B2;intro i;simp only[By,ζ,Al,τ,length_nil,Ai,Aj];have hm:min k vs.length=k:=by omega
    rw[hm];by_cases c1:i<k
    ·simp[c1,show i<k+1 by omega]
    ·by_cases c2:i=k
     ·subst c2;simp[hu]
     ·simp[show ¬i<k+1 by omega,show k+1+(i-(k+1))=i by omega]
   rw[J] at h3 ⊢;rw[hvs];refine pA h3 ?_;simp only[aN,aQ];exact⟨u,[],rfl,⟨⟨_,_,_,I⟩,.inr ⟨te,es,[],0,by rw[bC _ _ _ M.symm];exact aH _ _ _,le_refl _,fun _=>⟨le_refl _,.inl ⟨aH _ _ _,rfl,I⟩⟩⟩⟩,rfl⟩
  ·have E:upd st.h id (some (.arr te es [] 0)) j=some y:=by rw[←r];exact(bC _ _ _ q).symm
   exact(hi.obj j y E).evolve A rfl fun _ _ _=>⟨rfl,fun _=>rfl,rfl⟩
 ·obtain⟨_,h1⟩:=hold _ _ B;obtain⟨_,h2⟩:=hold _ _ r;exact hi.inj i j _ _ b c c' h1 h2 hm aa
 ·obtain⟨_,h1⟩:=hold _ _ B;exact hi.own i _ b c h1 hm
def uM:Nat→List V→List (Nat×V)
 | _,[]=>[]
 | k,v::vs=>(k,v)::uM (k+1) vs
inductive ResV (T:TT) (st:St):List ResultVar→List V→Prop
 | nil:ResV T st [] []
 | tmp {t v rs vs}:st.e t=some v→ResV T st rs vs→ResV T st (.tmp t::rs) (v::vs)
 | cell {a t i id off tv cells v rs vs}:st.e a=some (.one (.vp id off))→T[t]?=some (some i)→st.h id=some (.var tv cells)→Nat.ble (off+i.size) cells.length=true→gX i ((cells.drop off).take i.size)=some v→ResV T st rs vs→
   ResV T st (.cell a t::rs) (v::vs)
inductive Convs (h:bW):List V→List V→Prop
 | nil:Convs h [] []
 | cons {ids v v' vs vs'}:Conv h ids v v'→Convs h vs vs'→Convs h (v::vs) (v'::vs')
def aBr:List Value→Value
 | [u]=>u
 | us=>.tuple ⟨us⟩
def aF6:List V→V
 | [v]=>v
 | vs=>.tup vs
theorem Convs.rel {S:Sto}{μ:Mu}{H:bW}{w:World}:∀{vs vs':List V}{us:List Value},Convs H vs vs'→(∀id o,H id=some o→iG S μ H w id o)→aS S μ H vs us→aS S μ H vs' us:=by
 intro vs vs' us h
 induction h generalizing us with
 | nil=>intro _ c;exact c
 | cons hc _ r=>
  intro hO c;simp only[aS] at c ⊢;obtain⟨v,q,rfl,h1,h2⟩:=c;exact⟨v,q,rfl,hc.rel (fun _ _=>rfl) hO h1,r hO h2⟩
section
variable {P:Program}{T:TT}
theorem mU {G:Ctx}{n:Nat}{S:Sto}{μ:Mu}{st:St}{a:Act}{w:World}(E:Tok P T) (hs:Sim G n S μ st a w):∀{rs:List ResultVar}{vs:List V},ResV T st rs vs→
  ∃us,(rs.mapM fun(x:ResultVar)=>(match x with | .tmp t=>pure (a.tmps.getD t undef) | .cell p t=>do loadVar t (←asAddr (a.tmps.getD p undef)):Sem Value)).run P w=.ok us w∧aS S μ st.h vs us:=by
 intro rs vs h
 induction h with
 | nil=>exact⟨[],by simp,by simp[aS]⟩
 | @tmp t v rs vs ht _ y=>
  obtain⟨us,h1,h2⟩:=y;refine⟨a.tmps.getD t undef::us,?_,?_⟩
  ·simp only[List.mapM_cons,δ,ε,θ,h1]
  ·simp only[aS];exact⟨_,_,rfl,hs.env _ _ ht,h2⟩
 | @cell p t i id off tv cells v rs vs ht hi hh hb hl _ y=>
  obtain⟨us,h1,h2⟩:=y;have A:=hs.env _ _ ht;simp only[aK,aQ] at A;obtain⟨U,cells',b,c,g1,g2,g3⟩:=A;obtain⟨Y,ws,I,J,B,q4⟩:=hs.inv.obj id _ hh;rw[I] at g2;cases g2;have hlen:=Ak hb;have O:=B.length;have q:=run_load (E.get hi) w b off _ (gT J off i.size) (aQ9 (by omega));have r:=iV ((B.drop off).take i.size) hl;generalize (if i.k.agg then Value.agg ⟨(ws.drop off).take i.size⟩ else((ws.drop off).take i.size).headD undef)=u at q r;refine⟨u::us,?_,by simp only[aS];exact⟨_,_,rfl,r,h2⟩⟩
  ·simp only[Instr.loadAt,Instr.sureAddr,δ,ε,θ] at q;have M:(asAddr (a.tmps.getD p undef)).run P w=.ok ⟨b,off,none⟩ w:=by rw[g3];rfl
   simp only[List.mapM_cons,δ,ε,θ,M,q,h1]
theorem nI {G:Ctx}{n:Nat}{S:Sto}{μ:Mu}{st:St}{a:Act}{w:World}{fn:Func}{vs:List V}(c:Tok P T) (hs:Sim G n S μ st a w) (h:ResV T st fn.results.toList vs):
  ∃us,(results fn a.tmps).run P w=.ok (aBr us) w∧aS S μ st.h vs us:=by
 obtain⟨us,h1,h2⟩:=mU c hs h;refine⟨us,?_,h2⟩;unfold results;rw[Array.mapM_eq_mapM_toList,δ,Sem.run_map]
 erw [h1]
 simp only[θ,ε];congr 1
 match us with
 | []=>simp[aBr]
 | [u]=>simp[aBr]
 | u::q::us=>simp[aBr]
def AObj.plain:AObj→Bool
 | .dfr=>false
 | _=>true
theorem aGb {o:AObj}{p:Prop}(h:o.succ p .dfr):o=.dfr:=by cases o<;>simp only[AObj.succ] at h;rfl
theorem Sim.take {P:Program}{G:Ctx}{n:Nat}{S:Sto}{μ:Mu}{st:St}{a:Act}{w:World}{id:Nat}{ids:List Nat}(hs:Sim G n S μ st a w) (hd:st.d=id::ids) (hG:∀id,G.h0 id≠some .dfr):
  ∃b J w',a.defers={ target:=.collected b,args:= #[] }::J∧(Instr.takeDeferred b).run P w=.ok [] w'∧Sim G n S μ ⟨st.e,upd st.h id none,ids⟩ { a with defers:=J } w':=by
 have hm:=hs.defers;rw[hd] at hm;obtain⟨b,c,J,h1,h2,M,h4,h5,h6⟩:=hm;obtain⟨B,g1,g2,g3,g4⟩:=hs.inv.obj _ _ M;rw[h2] at g1;cases g1;have hlt:b<w.heap.size:=(B7.1 g2).1
 have O:∀j,upd st.h id none j=none∨j≠id:=fun j=>by
  by_cases q:j=id
  ·exact .inl (by rw[q,aH])
  ·exact .inr q
 have aG9:∀{j o},upd st.h id none j=some o→j≠id∧st.h j=some o:=by
  intro j o q;rcases O j with h | h
  ·rw[h] at q;cases q
  ·exact⟨h,by rwa [bC _ _ _ h] at q⟩
 have U:Evo0 S μ st.h S μ (upd st.h id none):=⟨S.le_refl,fun j o q ho=>by
  have r:j≠id:=by rintro rfl;rw[M] at q;cases q;exact ho rfl
  exact⟨o,by rw[bC _ _ _ r];exact q,o.succ_refl rfl⟩⟩
 refine⟨b,J,w.putObj b (.deferred none),h1,run_takeDeferred g2,⟨⟨⟨fun B o v e=>?_,fun B mk e=>?_⟩,fun j o q=>?_,fun i j o o' E I c2 hi q m1 m2=>?_,fun i o E I hi m1=>?_,?_,hs.inv.sle,hs.inv.sto,⟨hs.inv.evo.le,fun j o q=>?_⟩,hs.inv.fre⟩,hs.size,?_,fun t v e=>aK.evolve0 U _ _ (hs.env t v e)⟩⟩
 ·obtain⟨vs,t,fr,y,A⟩:=hs.inv.holds.1 B o v e;have:B≠b:=by rintro rfl;rw[g3] at e;cases e
  exact⟨vs,t,fr,by rw[World.putObj_heap_other this];exact y,A⟩
 ·have:B≠b:=by rintro rfl;rw[g4] at e;cases e
  rw[World.putObj_heap_other this];exact hs.inv.holds.2 B mk e
 ·obtain⟨y,A⟩:=aG9 q;refine(hs.inv.obj j o A).evolve0 U rfl fun E I m1=>⟨World.putObj_heap_other ?_,fun _=>rfl,rfl⟩
  rintro rfl;exact y (hs.inv.inj j id o .dfr E I _ A M m1 h2)
 ·exact hs.inv.inj i j o o' E I c2 (aG9 hi).2 (aG9 q).2 m1 m2
 ·exact hs.inv.own i o E I (aG9 hi).2 m1
 ·obtain⟨f1,f2,f3,f4,f5,f6⟩:=hs.inv.frame;refine⟨f1,f2,f3,by simpa using f4,fun k hk hF=>?_,f6⟩;rw[World.putObj_heap_other (by omega)];exact f5 k hk hF
 ·obtain⟨o',y,A⟩:=hs.inv.evo.obj j o q;have r:j≠id:=by
   rintro rfl;rw[M] at y;cases y;rw[aGb A] at q;exact hG _ q
  exact⟨o',by show upd st.h id none j=some o';rw[bC _ _ _ r];exact y,A⟩
 ·exact h6.go fun j q Y=>⟨rfl,by
   have r:j≠id:=by rintro rfl;exact h5 q
   show upd st.h id none j=some .dfr
   rw[bC _ _ _ r];exact Y⟩
theorem Sim.leave {P:Program}{fn:Func}{R:Ending→World→Prop}{G:Ctx}{n:Nat}{S:Sto}{μ:Mu}(B:∀id,G.h0 id≠some .dfr):∀(ids:List Nat) {e:Nat→Option V}{h:bW}{a:Act}{w:World},Sim G n S μ ⟨e,h,ids⟩ a w→
  (∀q w',(∀id o,h id=some o→o≠ .dfr→q id=some o)→Sim G n S μ ⟨e,q,[]⟩ { a with defers:=[] } w'→∃v,(results fn a.tmps).run P w'=.ok v w'∧R (.returned v) w')→
  LeavesInM (Wd none) 0 P fn a.tmps R a.defers .returning w
 | [],e,h,a,w,hs,r=>by
  have O:a.defers=[]:=hs.defers;rw[O];refine r h w (fun _ _ h _=>h) ?_;obtain⟨h1,h2,E,U⟩:=hs;exact⟨h1,h2,rfl,U⟩
 | id::ids,e,h,a,w,hs,r=>by
  have E:h id=some .dfr:=by
   obtain⟨b,c,ds',q1,q2,Y,_⟩:=hs.defers;exact Y
  obtain⟨b,ds,w',h1,h2,I⟩:=hs.take (P:=P) rfl B;rw[h1];refine⟨by simp,.inl ⟨b,w',rfl,h2,?_⟩⟩;refine Sim.leave B ids (a:={ a with defers:=ds }) I fun q J hh y=>r q J (fun j o A ho=>hh j o ?_ ho) y
  have M:j≠id:=by rintro rfl;rw[E] at A;cases A;exact ho rfl
  rw[bC _ _ _ M];exact A
structure Fin (T:TT) (fn:Func) (st:St) (hin:List (Nat×AObj)) (res:V) (hout:List (Nat×AObj)):Prop where
 ex:∃vs vs',ResV T st fn.results.toList vs∧Convs st.h vs vs'∧aF6 vs'=res
 out:eN (fun p=>∃o,st.h p.1=some o∧Ole (fun i=>i) o p.2) hout
 ok:(subset res.refs (keys hout)&&subset (eK hout) (keys hout)&&distinct (keys hout)&&subset (keys hin) (keys hout)&&(hin.all fun p=>p.2.plain)&&(hout.all fun p=>p.2.plain))=true
theorem ResV.keep {st:St}{q:bW}{d:List Nat}(hh:∀id o,st.h id=some o→o≠ .dfr→q id=some o):∀{rs:List ResultVar}{vs:List V},ResV T st rs vs→ResV T ⟨st.e,q,d⟩ rs vs:=by
 intro rs vs h
 induction h with
 | nil=>exact .nil
 | tmp h1 _ c=>exact .tmp h1 c
 | cell h1 h2 r y A _ c=>exact .cell h1 h2 (hh _ _ r (by simp)) y A c
theorem PureL.keep {h y:bW}(hh:∀id o,h id=some o→o≠ .dfr→y id=some o):∀{ids:List Nat}{rs:List R}{cs:List C},PureL h ids rs cs→PureL y ids rs cs:=by
 intro ids rs cs k
 induction k with
 | nil=>exact .nil
 | c h1 _ q=>exact .c h1 q
 | hs h1 h2 r _ q=>exact .hs (hh _ _ h1 (by simp)) h2 r q
 | any _ q=>exact .any q
 | fn _ q=>exact .fn q
 | ras h0 _ h1 h2 r _ A q=>exact .ras h0 A h1 h2 r q
theorem Convs.keep {h c:bW}(hh:∀id o,h id=some o→o≠ .dfr→c id=some o):∀{vs vs':List V},Convs h vs vs'→Convs c vs vs':=by
 intro vs vs' k
 induction k with
 | nil=>exact .nil
 | @cons ids v v' vs vs' h1 _ q=>
  refine .cons (ids:=ids) ?_ q;cases h1 with
  | refl=>exact .refl
  | one h=>exact .one (h.keep hh)
  | agg h=>exact .agg (h.keep hh)
  | pa h=>exact .pa (h.keep hh)
theorem aQ6 {X:Sto→Prop}{kf:List Nat}{f:FuncId}{fn:Func}{c:Code}{n:Nat}{args:List V}{hin hout:List (Nat×AObj)}{res:V}(hX:∀S μ w,X S→Ctx.keeps ⟨w,S,fJ μ (look hin),μ,look hin⟩ kf) (hT:Tok P T) (hf:P.funcs[f]?=some fn) (hb:fn.body=some c) (hn:fn.ntmps=n) (hle:Nat.ble args.length n=true)
  (h:AWp none P n kf c (mk (uM 0 args) hin) (fun ex st=>(ex=.normal∨ex=.ret)∧Fin T fn st hin res hout)):∀S μ w vals,X S→Inv ⟨w,S,fJ μ (look hin),μ,look hin⟩ S μ (look hin) w→aS S μ (look hin) args vals→
  Calls P f ⟨vals⟩ w fun e w'=>∃S' μ' v,e=.returned v∧Inv ⟨w,S,fJ μ (look hin),μ,look hin⟩ S' μ' (look hout) w'∧aK S' μ' (look hout) res v:=by
 intro S μ w vals hXS hI hv;refine(Wd.calls (ro:=none) (n:=0)).1 (callsIn_of_wp_marks hf hb trivial ?_);have hvl:∀(l:List V) (us:List Value),aS S μ (look hin) l us→us.length=l.length:=by
  intro l
  induction l with
  | nil=>intro us h;simp only[aS] at h;subst h;rfl
  | cons x l J=>
   intro us h;simp only[aS] at h;obtain⟨v,vs',rfl,_,h2⟩:=h;simp[J _ h2]
 have hvals:=hvl _ _ hv;have hle':=Ak hle;have U:=hX S μ w hXS;refine h ⟨w,S,fJ μ (look hin),μ,look hin⟩ S μ _ w _ ⟨U,trivial⟩ ⟨hI,by simp;omega,rfl,fun t v ht=>?_⟩ ?_
 ·have key:∀(l:List V) (us:List Value) (k:Nat),aS S μ (look hin) l us→look (uM k l) t=some v→∃j,t=k+j∧∃u,us[j]?=some u∧aK S μ (look hin) v u:=by
   intro l
   induction l with
   | nil=>intro us k _ h;simp[uM,look] at h
   | cons x l J=>
    intro us k I hl;simp only[aS] at I;obtain⟨u,M,rfl,h1,h2⟩:=I;simp only[uM,look] at hl;split at hl
    ·rename_i hbq;cases hl;exact⟨0,by rw[ω hbq];rfl,u,rfl,h1⟩
    ·obtain⟨j,y,u',h4,h5⟩:=J M (k+1) h2 hl;exact⟨j+1,by omega,u',by simpa using h4,h5⟩
  obtain⟨j,h1,u,h2,y⟩:=key args vals 0 hv ht;rw[A5] at h1;subst h1;have hj:t<vals.length:=(Ad.1 h2).1
  have:((⟨vals⟩:Array Value)++Array.replicate (fn.ntmps-(⟨vals⟩:Array Value).size) undef).getD t undef=u:=by
   rw[Ac,Br (by simpa using hj)];simp[h2]
  show aK S μ (look hin) v (((⟨vals⟩:Array Value)++Array.replicate (fn.ntmps-(⟨vals⟩:Array Value).size) undef).getD t undef);rw[this];exact y
 ·intro ex st' S' μ' a' w' ⟨hex,hfin⟩ hs;obtain⟨⟨vs,vs',I,hc,hres⟩,r,hok⟩:=hfin;simp only[Aa] at hok;obtain⟨⟨⟨⟨⟨k1,k2⟩,k3⟩,k4⟩,k5⟩,k6⟩:=hok;have B:LeavesInM (Wd none) 0 P fn a'.tmps (fun e w'=>∃S' μ' v,e=.returned v∧Inv ⟨w,S,fJ μ (look hin),μ,look hin⟩ S' μ' (look hout) w'∧aK S' μ' (look hout) res v) a'.defers .returning w':=by
   refine Sim.leave (G:=⟨w,S,fJ μ (look hin),μ,look hin⟩) (n:=n) (S:=S') (μ:=μ') (fun id e=>?_) st'.d (e:=st'.e) (h:=st'.h) hs fun E w'' hh hs=>?_
   ·have:=(A3.1 k5) _ (aU (show look hin id=some .dfr from e));cases this
   have I:ResV T ⟨st'.e,E,[]⟩ fn.results.toList vs:=ResV.keep (fun id o ho O=>hh id o ho O) I;have hc:Convs E vs vs':=hc.keep fun id o ho O=>hh id o ho O
   have r:eN (fun p=>∃o,E p.1=some o∧Ole (fun i=>i) o p.2) hout:=by
    have hk:∀l:List (Nat×AObj),(∀p∈l,p∈hout)→eN (fun p=>∃o,E p.1=some o∧Ole (fun i=>i) o p.2) l:=by
     intro l
     induction l with
     | nil=>intro _;trivial
     | cons p l J=>
      intro hl;refine⟨?_,J fun q hq=>hl q (by simp[hq])⟩;obtain⟨o,g1,g2⟩:=r.mem p (hl p (by simp));refine⟨o,hh _ _ g1 ?_,g2⟩;rintro rfl;have hp:=(A3.1 k6) p (hl p (by simp));cases hq:p.2<;>rw[hq] at g2 hp<;>cases g2;cases hp
    exact hk hout fun p hp=>hp
   obtain⟨us,h1,h2⟩:=nI hT hs I;refine⟨_,h1,?_⟩;have y:=hc.rel hs.inv.obj h2;have A:∀i∈keys hout,Good E (look hout) (fun i=>i) i:=by
    intro i hi;obtain⟨o',Y⟩:=bZ hi;obtain⟨o,g1,g2⟩:=r.mem _ (aU Y);exact⟨o,o',g1,Y,g2⟩
   have hv4:aK S' μ' E res (aBr us):=by
    rw[←hres]
    match vs',us,y with
    | [],us,y=>simp only[aS] at y;subst y;simp[aF6,aBr,aK,aS]
    | [v],us,y=>
     simp only[aS] at y;obtain⟨u,M,rfl,h5,rfl⟩:=y;exact h5
    | v::v'::l,us,y=>
     have aa:=y;simp only[aS] at aa;obtain⟨u,M,rfl,_,u',us'',rfl,_,_⟩:=aa;simp only[aF6,aBr,aK];exact⟨_,rfl,y⟩
   have hI':Inv ⟨w,S,fJ μ (look hin),μ,look hin⟩ S' μ' (look hout) w'':=by
    refine⟨hs.inv.holds,fun id o ho=>?_,fun i j o o' b c c' hi hj hm hm'=>?_,fun i o b c hi hm=>?_,hs.inv.frame,hs.inv.sle,hs.inv.sto,⟨hs.inv.evo.le,fun id o ho=>?_⟩,hs.inv.fre⟩
    ·obtain⟨o1,g1,g2⟩:=r.mem _ (aU ho);exact(hs.inv.obj _ _ g1).ren g2 fun i hi=>A i (bK k2 i (iP (aU ho) i hi))
    ·obtain⟨o1,g1,g2⟩:=r.mem _ (aU hi);obtain⟨o2,g3,g4⟩:=r.mem _ (aU hj);exact hs.inv.inj _ _ _ _ b c c' g1 g3 hm hm'
    ·obtain⟨o1,g1,g2⟩:=r.mem _ (aU hi);exact hs.inv.own _ _ b c g1 hm
    ·obtain⟨o',(g1:E id=some o'),g2⟩:=hs.inv.evo.obj id o ho;have hk:id∈keys hin:=mem_map.2 ⟨_,aU (show look hin id=some o from ho),rfl⟩;obtain⟨o1,o2,g3,g4,g5⟩:=A id (bK k4 id hk);rw[g1] at g3;cases g3;exact⟨o2,g4,AObj.succ_trans g2 g5.succ fun e _=>e⟩
   have hR:aK S' μ' (look hout) res (aBr us):=by
    have:=aK.ren (H:=E) (H':=look hout) (σ:=fun i=>i) res _ (fun i hi=>A i (bK k1 i hi)) (by rw[V.ren_id];exact hv4);exact this
   exact⟨S',μ',_,rfl,hI',hR⟩
  rcases hex with rfl | rfl
  ·exact B
  ·exact B
end
section
variable {P:Program}{T:TT}
theorem bM {f:FuncId}{fn:Func}{c:Code}{n:Nat}{args:List V}{hin hout:List (Nat×AObj)}{res:V}(q:Tok P T) (r:P.funcs[f]?=some fn) (hb:fn.body=some c) (hn:fn.ntmps=n) (hle:Nat.ble args.length n=true)
  (h:AWp none P n (keys hin) c (mk (uM 0 args) hin) (fun ex st=>(ex=.normal∨ex=.ret)∧Fin T fn st hin res hout)):b9 P f args hin res hout:=
 fun S μ w vals y A=>aQ6 (X:=fun _=>True) (fun _ _ _ _=>tC) q r hb hn hle h S μ w vals trivial y A
end
abbrev pan (v:Value):Exit:=.panic [{ v:=v,recovered:=false }]
def wS (P:Program) (f:FuncId) (args:List V) (hin:List (Nat×AObj)) (v:Value):Prop:=
 ∀S μ w vals,Inv ⟨w,S,fJ μ (look hin),μ,look hin⟩ S μ (look hin) w→aS S μ (look hin) args vals→
  Calls P f ⟨vals⟩ w fun e w'=>∃S' μ' hout,e=.panicked [{ v:=v,recovered:=false }]∧(∀id o,look hout id=some o→∃o',look hin id=some o')∧Inv ⟨w,S,fJ μ (look hin),μ,look hin⟩ S' μ' (look hout) w'
def aIr (v:Value) (P:Program) (n:Nat) (o:Oper) (st:St) (rd:Rd):Prop:=
 ∀st',dJ rd st st'→∀G S μ a w (K:Act→World→Prop) (Q:Exit→Act→World→Prop),Sim G n S μ st' a w→
  (∀S' μ' e h a' w',Sim G n S' μ' ⟨e,h,st'.d⟩ a' w'→Q (pan v) a' w')→∀ro,o.wpIn (Wd ro) 0 P a w K Q
def lM (v:Value) (P:Program) (n:Nat) (ops:Array Oper) (i:Nat) (st:St) (rd:Rd):Prop:=
 ∀st',dJ rd st st'→∀G S μ a w (K:Act→World→Prop) (Q:Exit→Act→World→Prop),Sim G n S μ st' a w→
  (∀S' μ' e h a' w',Sim G n S' μ' ⟨e,h,st'.d⟩ a' w'→Q (pan v) a' w')→∀ro,wpOpIn (Wd ro) 0 P ops Q i K a w
section
variable {P:Program}{n:Nat}{o:Oper}{ops:Array Oper}{i:Nat}{st:St}{rd:Rd}{v:Value}
theorem lM.plain (ho:ops[i]?=some o) (c:o.guard=none) (h:aIr v P n o st rd):lM v P n ops i st rd:=by
 intro st' ha G S μ a w K Q hs q ro;unfold wpOpIn;simp only[ho];rw[ξ (by simp[Region.wanted,c])];exact h st' ha G S μ a w K Q hs q ro
theorem Step.callP {f:FuncId}{ids c:List Nat}{args:List V}{hin:List (Nat×AObj)}(J:wS P f args hin v)
  (r:eN (fun p=>st.h p.1=some p.2) hin) (hok:dP args hin=true)
  (y:∀st',dJ ⟨c,ids++keys hin⟩ st st'→∀G S μ a w,Sim G n S μ st' a w→∃vals,(execOp a.eval o).run P w=.ok (.enter f ⟨vals⟩) w∧aS S μ st'.h args vals):
  aIr v P n o st ⟨c,ids++keys hin⟩:=by
 intro st' ha G S μ a w K Q hs M;obtain⟨vals,O,U⟩:=y st' ha G S μ a w hs;simp only[dP,Aa] at hok;obtain⟨⟨Y,k2⟩,k3⟩:=hok;have hh:∀id o,look hin id=some o→st'.h id=some o∧o≠ .dead:=by
  intro id o ho;have hm:=aU ho;have h1:=r.mem _ hm;refine⟨by rw[ha.2 id (by simp only[Bi];exact .inr (mem_map.2 ⟨_,hm,rfl⟩))];exact h1,?_⟩;have:=(A3.1 k3) _ hm;rintro rfl;simp[AObj.live] at this
 have hI:=hs.inv.hand hh k2;have q:∀i∈keys hin,Good st'.h (look hin) (fun i=>i) i:=by
  intro i hi;obtain⟨o,ho⟩:=bZ hi;obtain⟨h1,h2⟩:=hh i o ho;exact⟨o,o,h1,ho,.refl_id h2⟩
 have B:aS S μ (look hin) args vals:=by
  have:=aS.ren (H:=st'.h) (H':=look hin) (σ:=fun i=>i) args vals (fun i hi=>q i (bK Y i hi)) (by rw[V.renL_id];exact U);exact this
 have hc:=J S μ w vals hI B;refine fun ro=>gN O ?_
 refine hc.mono fun e w' ⟨S',μ',hout,he,A,E⟩=>?_
 subst he;obtain⟨μ2,q1,q2,I,q4⟩:=hs.inv.back (fun id o ho=>(hh id o ho).1) (fun id o ho=>.inl (A id o ho)) E;exact M S' μ2 st'.e _ a w' ⟨q2,hs.size,hs.defers.evolve I,fun t v e=>aK.evolve I v _ (hs.env t v e)⟩
theorem aCp {f:FuncId}{xs:Array Operand}{ts:Array TypeId}{ids:List Nat}{args:List V}(hin:List (Nat×AObj)) (hb:eH P f) (ho:o.op=.call { callee:=.value (.func f),args:=xs,argTypes:=ts })
  (r:wS P f args hin v) (ha:ArgsV st ids xs.toList args) (q:eN (fun p=>st.h p.1=some p.2) hin) (hok:dP args hin=true):aIr v P n o st ⟨bO xs.toList,ids++keys hin⟩:=by
 refine Step.callP r q hok fun st' c G S μ a w hs=>⟨xs.toList.map a.eval,?_,ha.rel hs c.1 fun i h=>c.2 i (by simp[h])⟩
 simp only[execOp,ho,resolve,Deferred.ofValue,Act.eval,δ,ε,θ,invoke,cP hb];congr 2;apply Array.ext';simp
theorem aGw {f:FuncId}{x:Operand}{caps:List R}{xs:Array Operand}{ts:Array TypeId}{ids:List Nat}{args:List V}(hin:List (Nat×AObj)) (hb:eH P f) (ho:o.op=.call { callee:=.value x,args:=xs,argTypes:=ts })
  (hx:opv st x=some (.one (.clo f caps))) (J:wS P f (args++caps.map V.one) hin v) (ha:ArgsV st ids xs.toList args) (q:eN (fun p=>st.h p.1=some p.2) hin) (hok:dP (args++caps.map V.one) hin=true):
  aIr v P n o st ⟨opr x++bO xs.toList,ids++keys hin⟩:=by
 refine Step.callP J q hok fun st' c G S μ a w hs=>?_
 have E:=aI hs hx fun t ht=>c.1 t (by simp[ht])
 simp only[aK,aQ] at E;obtain⟨vs,h1,h2⟩:=E;refine⟨xs.toList.map a.eval++vs,?_,?_⟩
 ·simp only[execOp,ho,resolve,h1,Deferred.ofValue,δ,ε,θ,invoke,cP hb];congr 2;apply Array.ext';simp
 ·have I:∀(l:List V) (us:List Value) (rs:List R) (vs:List Value),aS S μ st'.h l us→aN S μ st'.h rs vs→aS S μ st'.h (l++rs.map V.one) (us++vs):=by
   intro l
   induction l with
   | nil=>
    intro us rs vs h k;simp only[aS] at h;subst h;simp only[Bv]
    induction rs generalizing vs with
    | nil=>simp only[aN] at k;subst k;simp[aS]
    | cons r rs y=>
     simp only[aN] at k;obtain⟨v,vs',rfl,A,B⟩:=k;simp only[As,aS];exact⟨v,vs',rfl,by simpa [aK] using A,y vs' B⟩
   | cons x l y=>
    intro us rs vs h k;simp only[aS] at h;obtain⟨v,vs',rfl,A,B⟩:=h;simp only[Bw,aS];exact⟨v,_,rfl,A,y vs' rs vs B k⟩
  exact I _ _ _ _ (ha.rel hs (fun t ht=>c.1 t (by simp[ht])) fun i h=>c.2 i (by simp[h])) h2
end
inductive RunP (v:Value) (p:Nat) (P:Program) (n:Nat) (ops:Array Oper):Nat→St→REs→St→Prop
 | nil {k st}:RunP v p P n ops k st [] st
 | cons {k st rd f xs st'}:k≠p→GStep P n ops k st rd f→RunP v p P n ops (k+1) (f.apply st) xs st'→RunP v p P n ops k st ((rd,f)::xs) st'
 | pan {st rd f xs st'}:lM v P n ops p st rd→RunP v p P n ops (p+1) (f.apply st) xs st'→RunP v p P n ops p st ((rd,f)::xs) st'
theorem Run.toP {v:Value}{p:Nat}{P:Program}{n:Nat}{ops:Array Oper}{k:Nat}{st st':St}{xs:REs}(h:Run P n ops k st xs st') (hp:p<k):RunP v p P n ops k st xs st':=by
 induction h with
 | nil=>exact .nil
 | cons c _ q=>exact .cons (by omega) c (q (by omega))
theorem fold_zero {k:Nat}:∀(c:REs) (m:Nat) (s:St),k<m→bX (fun j=>decide (j<k+0)) m c s=s:=by
 intro c
 induction c with
 | nil=>intro m s _;rfl
 | cons y c q=>
  intro m s hm;simp only[bX];have:decide (m<k+0)=false:=by simp;omega
  rw[this,Bg];exact q (m+1) _ (by omega)
theorem RunP.at {v:Value}{p:Nat}{P:Program}{n:Nat}{ops:Array Oper}{k:Nat}{st st':St}{xs:REs}(h:RunP v p P n ops k st xs st'):∀(i:Nat) (x:Rd×Eff),xs[i]?=some x→
  (k+i≠p→GStep P n ops (k+i) (bX (fun j=>decide (j<k+i)) k xs st) x.1 x.2)∧(k+i=p→lM v P n ops (k+i) (bX (fun j=>decide (j<k+i)) k xs st) x.1):=by
 induction h with
 | nil=>intro i x hx;simp at hx
 | @cons k st rd f xs st' y q A r=>
  intro i x hx;cases i with
  | zero=>
   simp at hx;subst hx;simp only[bX];have:decide (k<k+0)=false:=by simp
   rw[this,Bg,fold_zero xs (k+1) st (by omega)];exact⟨fun _=>q,fun e=>absurd e y⟩
  | succ i=>
   simp at hx;have:=r i x hx;simp only[bX];have c:decide (k<k+(i+1))=true:=by simp
   rw[c,Bp];rw[show k+(i+1)=k+1+i by omega];exact this
 | @pan st rd f xs st' q A r=>
  intro i x hx;cases i with
  | zero=>
   simp at hx;subst hx;simp only[bX];have:decide (p<p+0)=false:=by simp
   rw[this,Bg,fold_zero xs (p+1) st (by omega)];exact⟨fun e=>absurd rfl e,fun _=>q⟩
  | succ i=>
   simp at hx;have:=r i x hx;simp only[bX];have c:decide (p<p+(i+1))=true:=by simp
   rw[c,Bp];rw[show p+(i+1)=p+1+i by omega];exact this
theorem x7 {v:Value}{p:Nat}{P:Program}{n:Nat}{ops:Array Oper}{G:Ctx}{st st':St}{xs:REs}{Q:Exit→Act→World→Prop}(hr:RunP v p P n ops 0 st xs st') (hlen:xs.length=ops.size)
  (hap:c7 (preds ops) xs []=true) (hed:cS ops=true) (hp:p<ops.size)
  (hQ:∀S' μ' e h a' w',Sim G n S' μ' ⟨e,h,st.d⟩ a' w'→Q (pan v) a' w'):
  ∀(fuel:Nat) (listed:Array Bool),listed.size=ops.size→((List.range ops.size).filter fun i=>!listed.getD i false).length=fuel→q9 ops listed→listed.getD p false=false→
   ∀S μ a w,Sim G n S μ (bX (fun j=>listed.getD j false) 0 xs st) a w→∀ro,wpAnyIn (Wd ro) 0 P .any ops Q fuel listed a w:=by
 have hfin:∀(listed:Array Bool),listed.size=ops.size→Region.ready .any ops listed=[]→listed.getD p false=false→False:=by
  intro listed hl hre r;have hall:∀i,i<ops.size→listed.getD i false=true:=by
   intro i
   induction i using Nat.strongRecOn with
   | _ i ih=>
    intro hi;cases hc:listed.getD i false with
    | true=>rfl
    | false=>
     exfalso;have:i∈Region.ready .any ops listed:=by
      simp only[Region.ready,mem_filter,mem_range,Aa,Bh];refine⟨hi,by rw[fC (by omega)];exact hc,?_⟩;have ho:ops[i]?=some ops[i]:=by simp[hi]
      simp only[ho,Bu,Option.getD_some];refine Array.all_eq_true_iff_forall_mem.2 fun e he=>?_
      have hlt:=(A3.1 hed) (ops[i],i) (by
       rw[List.mem_iff_getElem?]
       exact⟨i,by simp[hi]⟩)
      have q:=(A3.1 hlt) e (by simpa using he);simp only[Bool.or_eq_true,Bh,decide_eq_true_eq] at q ⊢;rcases q with q | q
      ·exact .inl q
      ·exact .inr (ih e.on q (by omega))
     rw[hre] at this;simp at this
  rw[hall p hp] at r;cases r
 intro fuel
 induction fuel with
 | zero=>
  intro listed hl hf _ r S μ a w hs;have:p∈(List.range ops.size).filter fun i=>!listed.getD i false:=by simp only[mem_filter,mem_range,Bh];exact⟨hp,r⟩
  rw[An hf] at this;simp at this
 | succ fuel ih=>
  intro listed hl hf hcl r S μ a w hs ro;refine⟨fun hre=>(hfin listed hl hre r).elim,fun i hi=>?_⟩;obtain⟨h1,h2,h3⟩:=lS hl hi;have hx:xs[i]?=some xs[i]:=by simp[hlen,h1]
  have ho:ops[i]?=some ops[i]:=by simp[h1]
  have hcl':q9 ops (listed.setIfInBounds i true):=by
   intro j o B A e he hb;simp only[Ac,A0] at A ⊢;have hmon:listed.getD e.on false=true→(if i=e.on then if i<listed.size then some true else none else listed[e.on]?).getD false=true:=by
    intro hh;split
    ·simp[hl,h1]
    ·rwa [Ac] at hh
   by_cases Y:i=j
   ·subst Y;exact hmon (h3 o B e he hb)
   ·rw[η Y] at A;exact hmon (hcl j o B (by rwa [Ac]) e he hb)
  have hpd:∀(L:Array Bool),q9 ops L→∀k p,(preds ops)[k]?=some p→L.getD k false=true→∀j∈p,L.getD j false=true:=by
   intro L hL k p hp E;refine mK (fun j=>L.getD j false) ops.toList [] (by simp) ?_ k p hp E;intro k' o ho' hl' e he hb;exact hL k' o (by simpa using ho') (by simpa using hl') e he hb
  have J:(listed.setIfInBounds i true).getD i false=true:=by simp[hl,h1]
  have hold:∀j,j≠i→(listed.setIfInBounds i true).getD j false=listed.getD j false:=by
   intro j B;simp only[Ac,A0];rw[η (fun e=>B e.symm)]
  have hdis1:∀j y,xs[j]?=some y→j<i→listed.getD j false=false→indep y xs[i]=true:=by
   intro j y hy hji A;obtain⟨p,hp,M⟩:=fT _ _ _ hap i _ hx;rcases M j y (by simpa using hji) (by simpa using hy) with hm | hm
   ·have:=hpd _ hcl' i p hp J j hm;rw[hold j (by omega)] at this;rw[this] at A;cases A
   ·exact hm
  have aa:∀j y,xs[j]?=some y→i<j→listed.getD j false=true→indep xs[i] y=true:=by
   intro j y hy Y A;obtain⟨p,hp,M⟩:=fT _ _ _ hap j _ hy;rcases M i xs[i] (by simpa using Y) (by simp) with hm | hm
   ·have:=hpd _ hcl j p hp A i hm;rw[this] at h2;cases h2
   ·exact hm
  have hg:=hr.at i _ hx;simp only[A5] at hg;have hag:dJ xs[i].1 (bX (fun j=>decide (j<i)) 0 xs st) (bX (fun j=>listed.getD j false) 0 xs st):=by
   have key:∀k x,xs[k]?=some x→listed.getD (0+k) false≠decide (0+k<i)→(∀t∈xs[i].1.e,t∉x.2.we)∧(∀t∈xs[i].1.h,t∉x.2.wh):=by
    intro k x E c;rw[A5] at c;by_cases hki:k<i
    ·have I:listed.getD k false=false:=by
      cases hc:listed.getD k false with
      | false=>rfl
      | true=>simp[hc,hki] at c
     have O:=hdis1 k x E hki I;simp only[indep,Aa] at O;obtain⟨⟨⟨d1,d2⟩,d3⟩,d4⟩:=O;exact⟨fun t ht hw=>cH d1 t hw (by simp[ht]),fun t ht hw=>cH d2 t hw (by simp[ht])⟩
    ·by_cases hke:k=i
     ·subst hke;rw[h2] at c;simp at c
     ·have I:listed.getD k false=true:=by
       cases hc:listed.getD k false with
       | true=>rfl
       | false=>simp[hc,hki] at c
      have O:=aa k x E (by omega) I;simp only[indep,Aa] at O;obtain⟨⟨⟨d1,d2⟩,d3⟩,d4⟩:=O;exact⟨fun t ht hw=>cH d3 t hw ht,fun t ht hw=>cH d4 t hw ht⟩
   exact⟨fun t ht=>lY t xs 0 _ _ _ _ rfl fun k x E c=>(key k x E c).1 t ht,fun t ht=>lX t xs 0 _ _ _ _ rfl fun k x E c=>(key k x E c).2 t ht⟩
  by_cases hip:i=p
  ·refine hg.2 hip _ hag G S μ a w _ Q hs (fun S' μ' e h a' w' U=>?_) ro;rw[r3] at U;exact hQ S' μ' e h a' w' U
  refine hg.1 hip _ hag G S μ a w _ Q hs (fun S' μ' a' w' U=>?_) ro;refine ih (listed.setIfInBounds i true) (by simp[hl]) ?_ hcl' (by rw[hold p (fun e=>hip e.symm)];exact r) S' μ' a' w' ?_ ro
  ·--one fewer is left
   have:∀(l:List Nat),l.Nodup→i∈l→((l.filter fun j=>!listed.getD j false).length=((l.filter fun j=>!(listed.setIfInBounds i true).getD j false).length)+1):=by
    intro l
    induction l with
    | nil=>intro _ h;simp at h
    | cons b l ihl=>
     intro hnd hmem;have hnd':=(nodup_cons.1 hnd)
     by_cases hb:b=i
     ·subst hb;have hno:∀j∈l,(!(listed.setIfInBounds b true).getD j false)=(!listed.getD j false):=fun j B=>by rw[hold j (fun e=>hnd'.1 (e▸B))]
      rw[Cc,Cc,h2,J];simp only[Bool.not_false,Cd,Bool.not_true,Ao,Bm,τ];rw[List.filter_congr hno]
     ·have hm':i∈l:=(Ap.1 hmem).resolve_left fun e=>hb e.symm
      have:=ihl hnd'.2 hm';rw[Cc,Cc,hold b hb];split
      ·simp only[τ];omega
      ·exact this
   have:=this (List.range ops.size) List.nodup_range (by simpa using h1);omega
  ·have hadd:=tG (fun j=>listed.getD j false) i xs[i].2 xs 0 xs[i].1 st (Ae _) (by rw[sub_zero,hx]) h2 (by
    intro k x E I hik;rw[A5] at I hik;have O:=aa k x E hik I;simp only[indep,Aa] at O;obtain⟨⟨⟨d1,d2⟩,d3⟩,d4⟩:=O
    exact⟨fun t ht hw=>cH d1 t ht (by simp[hw]),fun t ht hw=>cH d2 t ht (by simp[hw])⟩)
   rw[←hadd] at U;have hfe:(fun j=>(listed.setIfInBounds i true).getD j false)=fun j=>listed.getD j false || Nat.beq j i:=funext fun j=>by
    by_cases B:j=i
    ·subst B;rw[J];simp
    ·rw[hold j B];have hb:Nat.beq j i=false:=by
      cases hb:Nat.beq j i with
      | false=>rfl
      | true=>exact absurd (ω hb) B
     rw[hb,Bool.or_false]
   rw[hfe];exact U
section
variable {ro:Option Nat}{P:Program}{n:Nat}{st:St}{kf:List Nat}{Q:Exit→St→Prop}{v:Value}{p:Nat}
theorem wO {id:Nat}{ops:Array Oper}{draw:Bool}{st':St}{xs:REs}(hm:P.follows .mixedOrders=true) (q:RunP v p P n ops 0 st xs st') (hp:p<xs.length) (hle:xs.length≤ops.size)
  (c:draw=true→xs.length=ops.size∧(c7 (preds ops) xs []&&cS ops)=true) (h:∀e h,Q (pan v) ⟨e,h,st.d⟩):AWp ro P n kf (.region id ops draw) st Q:=fun G S μ a w Q' r hs hQ=>by
 cases draw with
 | true=>
  obtain⟨A,c⟩:=c rfl;rw[Aa] at c;refine wpIn_region_any hm ?_;refine x7 (G:=G) q A c.1 c.2 (by omega) (fun S' μ' e h' a' w' s=>hQ _ _ S' μ' a' w' (h e h') s) ops.size _ (by simp) ?_ ?_ ?_ S μ a _ ?_ ro
  ·have:((List.range ops.size).filter fun i=>!(Array.replicate ops.size false).getD i false)=List.range ops.size:=by
    apply filter_eq_self.2;intro i hi;simp at hi;simp[hi]
   rw[this,length_range]
  ·intro i o ho hl;simp[Ax] at hl;split at hl<;>simp at hl
  ·simp[Ax];split<;>rfl
  ·have hz:∀(B:REs) (k:Nat) (s:St),bX (fun j=>(Array.replicate ops.size false).getD j false) k B s=s:=by
    intro B
    induction B with
    | nil=>intro k s;rfl
    | cons y B I=>
     intro k s;have hf:(Array.replicate ops.size false).getD k false=false:=by
      simp[Ax];split<;>rfl
     simp only[bX,hf,Bg];exact I _ _
   rw[hz];exact⟨hs.inv.same rfl rfl rfl rfl,hs.size,hs.defers,hs.env⟩
 | false=>
  refine wpIn_region ?_;have key:∀(k:Nat) (s E:St) (xs:REs) (m:Nat),RunP v p P n ops k s xs E→k≤p→p<k+xs.length→k+xs.length≤m→s.d=st.d→∀S μ a w,Sim G n S μ s a w→wpOpsIn (Wd ro) 0 P ops Q' (List.range' k (m-k)) a w:=by
   intro k s E xs m q
   induction q with
   | nil=>intro h1 h2;simp at h2;omega
   | @cons k s rd f xs E hne r _ I=>
    intro h1 h2 J M S μ a w hs;simp only[τ] at h2 J;rw[show m-k=(m-(k+1))+1 by omega];simp only[range'_succ,A7];exact r s (dJ.refl _ _) G S μ a w _ Q' hs (fun S1 O U Y s1=>I (by omega) (by omega) (by omega) M S1 O U Y s1) ro
   | @pan s rd f xs E r _ _=>
    intro h1 h2 J M S μ a w hs;simp only[τ] at h2 J;rw[show m-p=(m-(p+1))+1 by omega];simp only[range'_succ,A7];exact r s (dJ.refl _ _) G S μ a w _ Q' hs (fun S1 O e1 h1 U Y s1=>hQ _ _ S1 O U Y (h e1 h1) (by rw[←M];exact s1)) ro
  have:=key 0 st st' xs ops.size q (Ae _) (by omega) (by omega) rfl S μ a w hs;rwa [range_eq_range',←sub_zero ops.size]
end
def blur:AObj→AObj
 | .var t cells=>.var t (cells.map fun _=>.c .any)
 | o=>o
def jP:AObj→Bool
 | .var _ _=>true
 | .arr _ _ _ _=>true
 | .dead=>true
 | _=>false
theorem u9 {o:AObj}{p:Prop}(h:p):o.succ p (blur o):=by cases o<;>simp[blur,AObj.succ,h]
theorem aN.blur {S:Sto}{μ:Mu}{H H':bW}:∀{rs:List R}{vs:List Value},aN S μ H rs vs→aN S μ H' (rs.map fun _=>R.c .any) vs
 | [],_,h=>by simpa only[aN,map_nil] using h
 | _::_,_,h=>by
  simp only[aN,As] at h ⊢;obtain⟨v,vs',rfl,h1,h2⟩:=h;exact⟨v,vs',rfl,by simp only[aQ,Rep];exact h1.one,h2.blur⟩
theorem iG.blur {S:Sto}{μ:Mu}{H H':bW}{w:World}{id:Nat}{o:AObj}(h:iG S μ H w id o) (hb:jP o=true):iG S μ H' w id (blur o):=by
 cases o with
 | var t cells=>
  obtain⟨b,vs,h1,h2,c,q,r⟩:=h;exact⟨b,vs,h1,h2,c.blur,q,r⟩
 | arr te es elems fz=>exact h
 | dead=>exact h
 | _=>simp[jP] at hb
theorem aBy {o o':AObj}{p:Prop}(h:o.succ p o') (hb:jP o=true):jP o'=true:=by
 cases o<;>cases o'<;>simp[jP,AObj.succ] at h hb ⊢
def sF (hin:List (Nat×AObj)) (h:bW):List (Nat×AObj):=hin.filterMap fun p=>(h p.1).map fun o=>(p.1,blur o)
theorem cG {h:bW}:∀{hin:List (Nat×AObj)}{id:Nat}{o:AObj},look (sF hin h) id=some o→(∃o',look hin id=some o')∧∃x,h id=some x∧o=blur x
 | [],id,o,e=>by simp[sF,look] at e
 | (k,y)::l,id,o,e=>by
  have c:=cG (h:=h) (hin:=l) (id:=id) (o:=o);have hl:(∃o',look l id=some o')→∃o',look ((k,y)::l) id=some o':=fun⟨o',ho⟩=>by
   simp only[look];split
   ·exact⟨_,rfl⟩
   ·exact⟨_,ho⟩
  unfold sF at e c;rw[List.filterMap_cons] at e;dsimp only at e;cases q:h k with
  | none=>
   rw[q] at e;exact⟨hl (c e).1,(c e).2⟩
  | some x=>
   rw[q] at e;simp only[Bu,look] at e;split at e
   ·rename_i hb;have hb:=ω hb;subst hb;cases e;exact⟨⟨y,by simp[look]⟩,x,q,rfl⟩
   ·exact⟨hl (c e).1,(c e).2⟩
theorem nJ {h:bW}:∀{hin:List (Nat×AObj)}{id:Nat}{o x:AObj},look hin id=some o→h id=some x→look (sF hin h) id=some (blur x)
 | [],id,o,x,e,_=>by simp[look] at e
 | (k,y)::l,id,o,x,e,hx=>by
  have c:=nJ (h:=h) (hin:=l) (id:=id) (o:=o) (x:=x);unfold sF at c ⊢;rw[List.filterMap_cons];dsimp only;simp only[look] at e;by_cases hb:Nat.beq id k=true
  ·have q:=ω hb;subst q;rw[hx];simp[look]
  ·rw[η hb] at e;cases r:h k with
   | none=>exact c e hx
   | some z=>
    simp only[Bu,look];rw[η hb];exact c e hx
section
variable {P:Program}
theorem aKu {f:FuncId}{fn:Func}{c:Code}{n:Nat}{args:List V}{hin:List (Nat×AObj)}{v:Value}(hf:P.funcs[f]?=some fn) (hb:fn.body=some c) (hn:fn.ntmps=n) (hle:Nat.ble args.length n=true) (hok:(hin.all fun p=>jP p.2)=true)
  (h:AWp none P n (keys hin) c (mk (uM 0 args) hin) (fun ex st=>ex=pan v∧st.d=[])):wS P f args hin v:=by
 intro S μ w vals hI M;refine(Wd.calls (ro:=none) (n:=0)).1 (callsIn_of_wp_marks hf hb trivial ?_);have O:∀(l:List V) (us:List Value),aS S μ (look hin) l us→us.length=l.length:=by
  intro l
  induction l with
  | nil=>intro us h;simp only[aS] at h;subst h;rfl
  | cons x l A=>
   intro us h;simp only[aS] at h;obtain⟨v,vs',rfl,_,h2⟩:=h;simp[A _ h2]
 have hvals:=O _ _ M;have hle':=Ak hle;refine h ⟨w,S,fJ μ (look hin),μ,look hin⟩ S μ _ w _ ⟨tC,trivial⟩ ⟨hI,by simp;omega,rfl,fun t v ht=>?_⟩ ?_
 ·have key:∀(l:List V) (us:List Value) (k:Nat),aS S μ (look hin) l us→look (uM k l) t=some v→∃j,t=k+j∧∃u,us[j]?=some u∧aK S μ (look hin) v u:=by
   intro l
   induction l with
   | nil=>intro us k _ h;simp[uM,look] at h
   | cons x l A=>
    intro us k U hl;simp only[aS] at U;obtain⟨u,Y,rfl,h1,h2⟩:=U;simp only[uM,look] at hl;split at hl
    ·rename_i aa;cases hl;exact⟨0,by rw[ω aa];rfl,u,rfl,h1⟩
    ·obtain⟨j,r,u',h4,h5⟩:=A Y (k+1) h2 hl;exact⟨j+1,by omega,u',by simpa using h4,h5⟩
  obtain⟨j,h1,u,h2,r⟩:=key args vals 0 M ht;rw[A5] at h1;subst h1;have B:t<vals.length:=(Ad.1 h2).1
  have:((⟨vals⟩:Array Value)++Array.replicate (fn.ntmps-(⟨vals⟩:Array Value).size) undef).getD t undef=u:=by
   rw[Ac,Br (by simpa using B)];simp[h2]
  show aK S μ (look hin) v (((⟨vals⟩:Array Value)++Array.replicate (fn.ntmps-(⟨vals⟩:Array Value).size) undef).getD t undef);rw[this];exact r
 ·rintro ex ⟨e',E,d'⟩ S' μ' I w' ⟨rfl,hd⟩ hs;dsimp only at hd;subst hd;have hdf:I.defers=[]:=hs.defers;show LeavesInM (Wd none) 0 P fn I.tmps _ I.defers (.panicking _) w';rw[hdf];have q:=hs.inv.evo;refine⟨S',μ',sF hin E,rfl,fun id o ho=>(cG ho).1,?_⟩;have hbl:∀id x,(∃o',look hin id=some o')→E id=some x→jP x=true:=fun id x ⟨o',ho⟩ hx=>by
   obtain⟨J,g1,g2⟩:=q.obj id o' ho;have g1:E id=some J:=g1;rw[hx] at g1;cases g1;exact aBy g2 ((A3.1 hok) _ (aU ho))
  refine⟨hs.inv.holds,fun id o ho=>?_,fun i j o o' b c c' hi B hm hm'=>?_,fun i o b c hi hm=>?_,hs.inv.frame,hs.inv.sle,hs.inv.sto,⟨q.le,fun id o ho=>?_⟩,hs.inv.fre⟩
  ·obtain⟨h1,x,h2,rfl⟩:=cG ho;exact(hs.inv.obj id x h2).blur (hbl id x h1 h2)
  ·obtain⟨_,x,h2,_⟩:=cG hi;obtain⟨_,y,r,_⟩:=cG B;exact hs.inv.inj i j x y b c c' h2 r hm hm'
  ·obtain⟨_,x,h2,_⟩:=cG hi;exact hs.inv.own i x b c h2 hm
  ·obtain⟨J,g1,g2⟩:=q.obj id o ho;refine⟨blur J,nJ ho g1,?_⟩;exact AObj.succ_trans g2 (u9 (p:=True) trivial) fun e _=>e
end
def fX (QP:Value→Prop) (P:Program) (n:Nat) (ops:Array Oper) (draw:Bool) (k:Nat) (st:St) (pre:REs) (Q:St→Prop):Prop:=
 (∃xs st',Run P n ops k st xs st'∧Nat.beq (k+xs.length) ops.size=true∧(!draw || (c7 (preds ops) (pre.reverse++xs) []&&cS ops))=true∧Q st')∨
 ∃v p xs st',QP v∧RunP v p P n ops k st xs st'∧k≤p∧p<k+xs.length∧k+xs.length≤ops.size∧(draw=true→k+xs.length=ops.size∧(c7 (preds ops) (pre.reverse++xs) []&&cS ops)=true)
section
variable {QP:Value→Prop}{ro:Option Nat}{P:Program}{n:Nat}{ops:Array Oper}{draw:Bool}{k:Nat}{st:St}{pre:REs}{Q:St→Prop}
theorem k_ {rd:Rd}{f:Eff}(h:GStep P n ops k st rd f) (r:fX QP P n ops draw (k+1) (f.apply st) ((rd,f)::pre) Q):fX QP P n ops draw k st pre Q:=by
 rcases r with⟨xs,st',h1,h2,c,q⟩ | ⟨v,p,xs,st',h0,h1,h2,c,q,y⟩
 ·refine .inl ⟨(rd,f)::xs,st',.cons h h1,?_,?_,q⟩
  ·rw[τ,show k+(xs.length+1)=k+1+xs.length by omega];exact h2
  ·rw[List.reverse_cons,Ar] at c;exact c
 ·refine .inr ⟨v,p,(rd,f)::xs,st',h0,.cons (by omega) h h1,by omega,by rw[τ];omega,by rw[τ];omega,fun A=>?_⟩;obtain⟨g1,g2⟩:=y A;rw[List.reverse_cons,Ar] at g2;exact⟨by rw[τ];omega,g2⟩
theorem z_ (h1:Nat.beq k ops.size=true) (h2:(!draw || (c7 (preds ops) pre.reverse []&&cS ops))=true) (hq:Q st):fX QP P n ops draw k st pre Q:=
 .inl ⟨[],st,.nil,h1,by rw[Cm];exact h2,hq⟩
theorem aN1 {rd:Rd}{v:Value}(h:lM v P n ops k st rd) (hq:QP v) (c:draw=false) (hl:Nat.blt k ops.size=true):fX QP P n ops draw k st pre Q:=
 .inr ⟨v,k,[(rd,⟨none,[]⟩)],_,hq,.pan h .nil,le_refl _,by rw[Ba];omega,by rw[Ba];exact Ak hl,fun e=>by rw[c] at e;cases e⟩
theorem aN0 {rd:Rd}{v:Value}(f:Eff) (h:lM v P n ops k st rd) (hq:QP v) (q:fX (fun _=>False) P n ops draw (k+1) (f.apply st) ((rd,f)::pre) fun _=>True):fX QP P n ops draw k st pre Q:=by
 rcases q with⟨xs,st',h1,h2,c,_⟩ | ⟨v,p,xs,st',h0,_⟩
 ·have h2:=ω h2;refine .inr ⟨v,k,(rd,f)::xs,st',hq,.pan h (h1.toP (by omega)),le_refl _,by rw[τ];omega,by rw[τ];omega,fun r=>?_⟩;rw[r,List.reverse_cons,Ar] at c;exact⟨by rw[τ];omega,c⟩
 ·exact h0.elim
theorem aC {kf:List Nat}{id:Nat}{Q:Exit→St→Prop}(hm:P.follows .mixedOrders=true) (h:fX (fun v=>∀e h,Q (pan v) ⟨e,h,st.d⟩) P n ops draw 0 st [] (fun st'=>Q .normal st')):AWp ro P n kf (.region id ops draw) st Q:=by
 rcases h with⟨xs,st',h1,h2,c,q⟩ | ⟨v,p,xs,st',h0,h1,h2,q,c,r⟩
 ·rw[A5] at h2;exact pX hm h1 h2 c q
 ·rw[A5] at q c r;exact wO hm h1 q c (fun y=>r y) h0
theorem aL0 {kf:List Nat}{id:Nat}{Q:Exit→St→Prop}(st2:St) (hm:P.follows .mixedOrders=true) (h:fX (fun _=>False) P n ops draw 0 st [] (fun st'=>Sub kf st2 st')) (hq:Q .normal st2):AWp ro P n kf (.region id ops draw) st Q:=by
 rcases h with⟨xs,st',h1,h2,c,q⟩ | ⟨v,p,xs,st',h0,_⟩
 ·rw[A5] at h2;refine AWp.post (Q:=fun ex s=>ex=.normal∧Sub kf st2 s) (pX hm h1 h2 c ⟨rfl,q⟩) ?_;rintro ex s ⟨rfl,hs⟩;exact⟨st2,hs,hq⟩
 ·exact h0.elim
theorem g_ {i:Nat}{o:Oper}{rd:Rd}{f:Eff}(ho:ops[i]?=some o) (c:o.guard=none) (h:Step P n o st rd f):GStep P n ops i st rd f:=GStep.plain ho c h
theorem AWp.cut {kf:List Nat}{c:Code}{Q:Exit→St→Prop}(st2:St) (h:AWp ro P n kf c st (fun ex s=>match ex with | .normal=>Sub kf st2 s | ex=>Q ex s)) (hq:Q .normal st2):AWp ro P n kf c st Q:=by
 refine AWp.post h ?_;intro ex s hs;cases ex with
 | normal=>exact⟨st2,hs,hq⟩
 | _=>exact⟨s,Sub.refl _ _,hs⟩
end
section
variable {P:Program}{n:Nat}{o:Oper}{st:St}{d:Nat}{T:TT}
theorem aNo {q ty:TypeId}{x y:Operand}{a b:Int}(ho:o.op=.binOp .add q x y ty) (r:o.dst=some d) (c:d<n) (hx:opv st x=some (I .i64 a)) (hy:opv st y=some (I .i64 b)) (A: -9223372036854775808≤a+b∧a+b≤9223372036854775807):
  Step P n o st ⟨opr x++opr y,[]⟩ ⟨some (d,some (I .i64 (a+b))),[]⟩:=aKh ho r c hx hy (Bt _ A)
theorem aM8 {q ty:TypeId}{x y:Operand}{a b:Int}(ho:o.op=.binOp .sub q x y ty) (r:o.dst=some d) (c:d<n) (hx:opv st x=some (I .i64 a)) (hy:opv st y=some (I .i64 b)) (A: -9223372036854775808≤a-b∧a-b≤9223372036854775807):
  Step P n o st ⟨opr x++opr y,[]⟩ ⟨some (d,some (I .i64 (a-b))),[]⟩:=aJ6 ho r c hx hy (Bt _ A)
theorem aNj {q ty:TypeId}{x y:Operand}{a b:Int}(ho:o.op=.binOp .mul q x y ty) (r:o.dst=some d) (c:d<n) (hx:opv st x=some (I .i64 a)) (hy:opv st y=some (I .i64 b)) (A: -9223372036854775808≤a*b∧a*b≤9223372036854775807):
  Step P n o st ⟨opr x++opr y,[]⟩ ⟨some (d,some (I .i64 (a*b))),[]⟩:=aKa ho r c hx hy (Bt _ A)
theorem aI1 {r ty:TypeId}{x y:Operand}{a b:Int}(ho:o.op=.binOp .quo r x y ty) (A:o.dst=some d) (q:d<n) (hx:opv st x=some (I .i64 a)) (hy:opv st y=some (I .i64 b)) (c:0≤a∧a≤9223372036854775807∧1≤b):
  Step P n o st ⟨opr x++opr y,[]⟩ ⟨some (d,some (I .i64 (a/b))),[]⟩:=aQm ho A q hx hy (by omega) (by
   have h1:a.tdiv b=a/b:=Int.tdiv_eq_ediv_of_nonneg c.1;rw[h1];refine Bt _ ⟨?_,?_⟩
   ·have:=Int.ediv_nonneg c.1 (show(0:Int)≤b by omega);omega
   ·have:=Int.ediv_le_self b c.1;omega)
theorem aI0 {q ty:TypeId}{x y:Operand}{k:IntKind}{a b:Int}(ho:o.op=.binOp .rem q x y ty) (r:o.dst=some d) (c:d<n) (hx:opv st x=some (I k a)) (hy:opv st y=some (I k b)) (A:0≤a∧1≤b):
  Step P n o st ⟨opr x++opr y,[]⟩ ⟨some (d,some (I k (a%b))),[]⟩:=aQl ho r c hx hy (by omega) (Int.tmod_eq_emod_of_nonneg A.1)
theorem fE (op:BinOp) (t:TypeId) (x y:Operand) (u v:Value) (w:World) (h1:(match u with | .agg _=>true | .nilIface=>true | _=>false)=false):(eqGuard op t x y u v).run P w=.ok () w:=by
 unfold eqGuard;cases u<;>simp at h1<;>(split<;>rfl)
theorem lR {t:TypeId}(hu:P.underlying t=some .bool) (d:Nat) (a b:Bool) (w:World):(Op.equalIn (d+1) t (.bool a) (.bool b)).run P w=.ok (a==b) w:=by
 simp only[Op.equalIn,δ,Ah hu w,θ,ε]
theorem sC {t e:TypeId}(hu:P.underlying t=some (.pointer e)) (d:Nat) (p:Option Addr) (w:World):(Op.equalIn (d+1) t (.pointer p) (.pointer none)).run P w=.ok p.isNone w:=by
 cases p<;>simp only[Op.equalIn,δ,Ah hu w,θ,ε]<;>rfl
theorem aGh {t e:TypeId}(hu:P.underlying t=some (.slice e)) (d:Nat) (p:Option Addr) (l c:Nat) (w:World):(Op.equalIn (d+1) t (.slice p l c) (.slice none 0 0)).run P w=.ok p.isNone w:=by
 cases p<;>simp only[Op.equalIn,δ,Ah hu w,θ,ε]<;>rfl
theorem qJ {c ty:TypeId}{x y:Operand}{a:Act}{w:World}{u v:Value}{b:Bool}(ho:o.op=.binOp .eql c x y ty) (hx:a.eval x=u) (hy:a.eval y=v) (r:(eqGuard .eql c x y u v).run P w=.ok () w)
  (hb:binOp .eql c u v=(do pure (.bool (←Op.equal c u v)))) (A:(Op.equalIn (9999+1) c u v).run P w=.ok b w):(execOp a.eval o).run P w=.ok (.value (.bool b)) w:=by
 have q:(Op.equal c u v).run P w=.ok b w:=A;simp only[execOp,ho,hx,hy,δ,r,θ,hb,q,ε]
theorem vA {c ty:TypeId}{x y:Operand}{a:Act}{w:World}{u v:Value}{b:Bool}(ho:o.op=.binOp .neq c x y ty) (hx:a.eval x=u) (hy:a.eval y=v) (r:(eqGuard .neq c x y u v).run P w=.ok () w)
  (hb:binOp .neq c u v=(do pure (.bool (!(←Op.equal c u v))))) (A:(Op.equalIn (9999+1) c u v).run P w=.ok b w):(execOp a.eval o).run P w=.ok (.value (.bool (!b))) w:=by
 have q:(Op.equal c u v).run P w=.ok b w:=A;simp only[execOp,ho,hx,hy,δ,r,θ,hb,q,ε]
theorem aNm {c ty:TypeId}{i:TI}{x y:Operand}{a b:Bool}(r:Tok P T) (ho:o.op=.binOp .eql c x y ty) (A:o.dst=some d) (q:d<n) (hi:T[c]?=some (some i)) (E:i.k=.bool) (hx:opv st x=some (B a)) (hy:opv st y=some (B b)):
  Step P n o st ⟨opr x++opr y,[]⟩ ⟨some (d,some (B (a==b))),[]⟩:=by
 refine Step.value A q fun _ ha _ _ _ ac w hs=>?_
 have h1:=fO (aI hs hx (c8 ha).1);have h2:=fO (aI hs hy (c8 ha).2);exact⟨.bool (a==b),qJ ho h1 h2 (fE _ _ _ _ _ _ _ rfl) rfl (lR ((r.get hi).bool E) _ _ _ _),by simp[aK,aQ,Rep]⟩
theorem aNl {c ty:TypeId}{i:TI}{x y:Operand}{a b:Bool}(r:Tok P T) (ho:o.op=.binOp .neq c x y ty) (A:o.dst=some d) (q:d<n) (hi:T[c]?=some (some i)) (E:i.k=.bool) (hx:opv st x=some (B a)) (hy:opv st y=some (B b)):
  Step P n o st ⟨opr x++opr y,[]⟩ ⟨some (d,some (B (!(a==b)))),[]⟩:=by
 refine Step.value A q fun _ ha _ _ _ ac w hs=>?_
 have h1:=fO (aI hs hx (c8 ha).1);have h2:=fO (aI hs hy (c8 ha).2);exact⟨.bool (!(a==b)),vA ho h1 h2 (fE _ _ _ _ _ _ _ rfl) rfl (lR ((r.get hi).bool E) _ _ _ _),by simp[aK,aQ,Rep]⟩
def sL:V→Option Bool
 | .one (.c .np)=>some true
 | .one (.c (.pt _))=>some false
 | .one (.vp _ _)=>some false
 | _=>none
theorem pF {S:Sto}{μ:Mu}{H:bW}{v:V}{u:Value}{b:Bool}(h:aK S μ H v u) (hb:sL v=some b):∃p,u=.pointer p∧p.isNone=b:=by
 unfold sL at hb;split at hb
 ·cases hb;simp only[aK,aQ,Rep] at h;exact⟨none,h,rfl⟩
 ·cases hb;simp only[aK,aQ,Rep] at h;obtain⟨b,o,h,_⟩:=h;exact⟨_,h,rfl⟩
 ·cases hb;simp only[aK,aQ] at h;obtain⟨t,cells,b,c,_,_,h⟩:=h;exact⟨_,h,rfl⟩
 ·cases hb
theorem aNh {q ty e:TypeId}{i:TI}{x y:Operand}{v:V}{b:Bool}(A:Tok P T) (ho:o.op=.binOp .eql q x y ty) (E:o.dst=some d) (r:d<n) (hi:T[q]?=some (some i)) (I:i.k=.pt e) (hx:opv st x=some v) (J:sL v=some b) (hy:opv st y=some (.one (.c .np))):
  Step P n o st ⟨opr x++opr y,[]⟩ ⟨some (d,some (B b)),[]⟩:=by
 refine Step.value E r fun _ ha _ _ _ ac w hs=>?_
 obtain⟨p,h1,hp⟩:=pF (aI hs hx (c8 ha).1) J;have h2:=aI hs hy (c8 ha).2;simp only[aK,aQ,Rep] at h2;subst hp;exact⟨.bool p.isNone,qJ ho h1 h2 (fE _ _ _ _ _ _ _ rfl) (by cases p<;>rfl) (sC ((A.get hi).ptr I) _ _ _),by simp[aK,aQ,Rep]⟩
theorem aNg {q ty e:TypeId}{i:TI}{x y:Operand}{v:V}{b:Bool}(A:Tok P T) (ho:o.op=.binOp .neq q x y ty) (E:o.dst=some d) (r:d<n) (hi:T[q]?=some (some i)) (I:i.k=.pt e) (hx:opv st x=some v) (J:sL v=some b) (hy:opv st y=some (.one (.c .np))):
  Step P n o st ⟨opr x++opr y,[]⟩ ⟨some (d,some (B (!b))),[]⟩:=by
 refine Step.value E r fun _ ha _ _ _ ac w hs=>?_
 obtain⟨p,h1,hp⟩:=pF (aI hs hx (c8 ha).1) J;have h2:=aI hs hy (c8 ha).2;simp only[aK,aQ,Rep] at h2;subst hp;exact⟨.bool (!p.isNone),vA ho h1 h2 (fE _ _ _ _ _ _ _ rfl) (by cases p<;>rfl) (sC ((A.get hi).ptr I) _ _ _),by simp[aK,aQ,Rep]⟩
def aGd:V→Option Bool
 | .one (.c .nl)=>some true
 | .one (.c (.sn _ _))=>some false
 | _=>none
theorem aBz {S:Sto}{μ:Mu}{H:bW}{v:V}{u:Value}{b:Bool}(h:aK S μ H v u) (hb:aGd v=some b):∃p l c,u=.slice p l c∧p.isNone=b:=by
 unfold aGd at hb;split at hb
 ·cases hb;simp only[aK,aQ,Rep] at h;exact⟨none,_,_,h,rfl⟩
 ·cases hb;simp only[aK,aQ,Rep] at h;obtain⟨b,o,sp,l,c,h,_⟩:=h;exact⟨_,_,_,h,rfl⟩
 ·cases hb
theorem aJ9 {q ty e:TypeId}{i:TI}{x y:Operand}{v:V}{b:Bool}(A:Tok P T) (ho:o.op=.binOp .eql q x y ty) (E:o.dst=some d) (r:d<n) (hi:T[q]?=some (some i)) (I:i.k=.sl e) (hx:opv st x=some v) (J:aGd v=some b) (hy:opv st y=some (.one (.c .nl))):
  Step P n o st ⟨opr x++opr y,[]⟩ ⟨some (d,some (B b)),[]⟩:=by
 refine Step.value E r fun _ ha _ _ _ ac w hs=>?_
 obtain⟨p,l,c,h1,hp⟩:=aBz (aI hs hx (c8 ha).1) J;have h2:=aI hs hy (c8 ha).2;simp only[aK,aQ,Rep] at h2;subst hp;exact⟨.bool p.isNone,qJ ho h1 h2 (fE _ _ _ _ _ _ _ rfl) (by cases p<;>rfl) (aGh ((A.get hi).slice I) _ _ _ _ _),by simp[aK,aQ,Rep]⟩
def ceq:C→C→Bool
 | .int _ a,.int _ b=>decide (a=b)
 | .str a,.str b=>decide (a=b)
 | .bool a,.bool b=>a==b
 | _,_=>false
def aBl:List C→List C→Bool
 | a::as,b::bs=>ceq a b&&aBl as bs
 | _,_=>true
def scalar:TK→C→C→Bool
 | .int k,.int k1 _,.int k2 _=>k==k1&&k==k2
 | .str,.str _,.str _=>true
 | .bool,.bool _,.bool _=>true
 | _,_,_=>false
def scalars (T:TT):Nat→List (Nat×TypeId)→List C→List C→Bool
 | _,[],[],[]=>true
 | k,(off,t)::fs,a::as,b::bs=>Nat.beq off k&&(match T[t]? with | some (some i)=>scalar i.k a b | _=>false)&&scalars T (k+1) fs as bs
 | _,_,_,_=>false
def aFp.check (P : Program) (t : TypeId) : Bool := (match P.underlying t with | some (.struct fs) => fs.toList.all fun f => f.name != "_" | _ => false) && !P.stoodInHeld t && !P.eqGuardType P.depth t
def aFp (P:Program) (t:TypeId):Prop:=aFp.check P t=true
theorem sB {t:TypeId}{i:TI}{a b:C}{u v:Value}(hi:TIok P t i) (h:scalar i.k a b=true) {S:Sto}(ha:Rep S a u) (hb:Rep S b v) (d:Nat) (w:World):(Op.equalIn (d+1) t u v).run P w=.ok (ceq a b) w:=by
 cases c:i.k<;>rw[c] at h<;>cases a<;>cases b<;>simp only[scalar] at h<;>try (cases h;done)
 ·simp only[Rep] at ha hb;subst ha;subst hb;rw[lR (hi.bool c)];rfl
 ·rename_i k q m1 r m2;simp only[Aa,beq_iff_eq] at h;obtain⟨rfl,rfl⟩:=h;simp only[Rep] at ha hb;subst ha;subst hb;simp only[Op.equalIn,δ,Ah (hi.int c) w,θ,Cd,ε,ceq];congr 1
 ·simp only[Rep] at ha hb;subst ha;subst hb;simp only[Op.equalIn,δ,Ah (hi.str c) w,θ,ε,ceq];congr 1;rw[beq_toListBytes,eZ,eZ];exact Bool.beq_eq_decide_eq _ _
theorem zN {k:TK}{a b:C}(h:scalar k a b=true):k.agg=false:=by cases k<;>first | rfl | (cases a<;>cases b<;>cases h)
theorem mJ (I : Tok P T) {S : Sto} (xs q : Array Value) (d : Nat) (w : World) : ∀ (fields : List Field) (k : Nat) (as c : List C), scalars T k (fields.map fun f => (f.offset, f.type)) as c = true → (∀ f ∈ fields, f.name ≠ "_") →
  bR S as (xs.toList.drop k)→bR S c (q.toList.drop k)→(Op.eqFields (d+1) xs q fields).run P w=.ok (aBl as c) w:=by
 intro fields
 induction fields with
 | nil=>
  intro k as c h _ _ _;cases as<;>cases c<;>simp[scalars] at h;rfl
 | cons f fields Y=>
  intro k as c h hn hx hy;cases as with
  | nil=>cases c<;>simp[scalars] at h
  | cons a as=>
   cases c with
   | nil=>simp[scalars] at h
   | cons b c=>
    simp only[As,scalars,Aa] at h;obtain⟨⟨h1,h2⟩,h3⟩:=h;have r:=ω h1;split at h2
    ·rename_i i hi;simp only[bR] at hx hy;obtain⟨u,us,B,J,M⟩:=hx;obtain⟨v,vs,E,O,U⟩:=hy;have e1:xs[k]?=some u:=by
      have:=congrArg (fun l=>l[0]?) B;simpa using this
     have e2:q[k]?=some v:=by
      have:=congrArg (fun l=>l[0]?) E;simpa using this
     have e3:xs.toList.drop (k+1)=us:=by rw[←Cp,B];rfl
     have e4:q.toList.drop (k+1)=vs:=by rw[←Cp,E];rfl
     have y:=(I.get hi).agg_run w;rw[zN h2] at y;have p1:(part f.type xs f.offset).run P w=.ok u w:=by
      simp only[part,δ,y,θ,Ao,Bm,r,e1,ε]
     have p2:(part f.type q f.offset).run P w=.ok v w:=by
      simp only[part,δ,y,θ,Ao,Bm,r,e2,ε]
     have A:=Y (k+1) as c h3 (fun g hg=>hn g (by simp[hg])) (by rw[e3];exact M) (by rw[e4];exact U);simp only[Op.eqFields];rw[ξ (hn f (by simp))];simp only[δ,p1,p2,θ,sB (I.get hi) h2 J O];cases hc:ceq a b with
     | true=>simp[A,aBl,hc]
     | false=>simp[aBl,hc]
    ·cases h2
theorem aJ8 {c ty:TypeId}{i:TI}{fs:List (Nat×TypeId)}{x y:Operand}{as q:List C}(I:Tok P T) (hq:aFp P c) (ho:o.op=.binOp .eql c x y ty) (M:o.dst=some d) (J:d<n) (hi:T[c]?=some (some i)) (O:i.k=.st fs)
  (hx:opv st x=some (.pa as)) (hy:opv st y=some (.pa q)) (hs:scalars T 0 fs as q=true):Step P n o st ⟨opr x++opr y,[]⟩ ⟨some (d,some (B (aBl as q))),[]⟩:=by
 refine Step.value M J fun _ ha _ S μ ac w r=>?_
 have h1:=aI r hx (c8 ha).1;have h2:=aI r hy (c8 ha).2;simp only[aK] at h1 h2;obtain⟨us,h1,U⟩:=h1;obtain⟨vs,h2,Y⟩:=h2;obtain⟨fields,hu,E⟩:=(I.get hi).struct O;unfold aFp aFp.check at hq;simp only[hu,Aa,Bh] at hq;obtain⟨⟨q1,q2⟩,q3⟩:=hq;have A:P.fieldsOf c=fields:=by simp[Program.fieldsOf,hu]
 have hn : ∀ f ∈ fields.toList, f.name ≠ "_" := fun f E => by
  have:=(A3.1 q1) f E;simpa using this
 refine⟨.bool (aBl as q),qJ ho h1 h2 ?_ rfl ?_,by simp[aK,aQ,Rep]⟩
 ·have hp:(program:Sem Program).run P w=.ok P w:=rfl;simp only[eqGuard];simp[hp,q3]
 ·rw[run_equalIn_struct w 9999 c _ _ (by rw[A,hu]) q2,A];exact mJ I ⟨us⟩ ⟨vs⟩ 9998 w fields.toList 0 as q (by rw[←E];exact hs) hn (by simpa using U) (by simpa using Y)
end
theorem take_map {α β:Type}{f:α→β}{l:List α}:(l.map f).take l.length=l.map f:=Aq (by simp)
theorem Ole.arrE {σ:Nat→Nat}{te es fz:Nat}{e e':List (List C)}(h:e=e'):Ole σ (.arr te es e fz) (.arr te es e' 1):=by subst h;exact .arr1
theorem int_eq {k:IntKind}{a b:Int}(h:a=b):some (I k a)=some (I k b):=by rw[h]
section
variable {P:Program}{n:Nat}{o:Oper}{st:St}{d:Nat}{T:TT}
def tT (st:St):List Operand→Option (List R)
 | []=>some []
 | x::xs=>match opv st x with
  | some (.one r)=>match tT st xs with | some l=>some (r::l) | none=>none
  | _=>none
theorem tS {G:Ctx}{S:Sto}{μ:Mu}{st':St}{a:Act}{w:World}(hs:Sim G n S μ st' a w):∀(xs:List Operand) (l:List R),tT st xs=some l→(∀t∈bO xs,st'.e t=st.e t)→aN S μ st'.h l (xs.map a.eval)
 | [],l,h,_=>by simp[tT] at h;subst h;simp[aN]
 | x::xs,l,h,ht=>by
  simp only[tT] at h;split at h
  ·rename_i r q;split at h
   ·rename_i y c;cases h;have h1:=aI hs q fun t h=>ht t (by simp[bO,h])
    simp only[aK] at h1;simp only[As,aN];exact⟨_,_,rfl,h1,tS hs xs y c fun t h=>ht t (by simp[bO,h])⟩
   ·cases h
  ·cases h
theorem lT {f:FuncId}{caps:Array Operand}{l:List R}(ho:o.op=.makeFunc (.func f) #[] caps) (q:o.dst=some d) (c:d<n) (hc:tT st caps.toList=some l):Step P n o st ⟨bO caps.toList,[]⟩ ⟨some (d,some (.one (.clo f l))),[]⟩:=by
 refine Step.value q c fun st' ha _ S μ ac w hs=>?_
 have h:=tS hs _ _ hc ha.1;refine⟨.func (.func f) #[] (caps.map ac.eval),by simp[execOp,ho,Instr.makeFunc],?_⟩;simp only[aK,aQ];refine⟨caps.toList.map ac.eval,?_,h⟩;congr 1;apply Array.ext';simp
theorem sK {f:FuncId}{x:Operand}{c:R}(ho:o.op=.makeFunc (.func f) #[x] #[]) (r:o.dst=some d) (q:d<n) (hx:opv st x=some (.one c)):Step P n o st ⟨opr x,[]⟩ ⟨some (d,some (.one (.mth f c))),[]⟩:=by
 refine Step.value r q fun st' ha _ S μ ac w hs=>?_
 have h:=aI hs hx ha.1;refine⟨.func (.func f) #[ac.eval x] #[],by simp[execOp,ho,Instr.makeFunc],?_⟩;simp only[aK,aQ] at h ⊢;exact⟨_,rfl,h⟩
def gW (k:List UInt8):List (List C)→Option (List C)
 | []=>none
 | (.str s::vs)::r=>if s=k then some vs else gW k r
 | _::r=>gW k r
def aAh (k:List UInt8) (vs:List C):List (List C)→List (List C)
 | []=>[.str k::vs]
 | (.str s::us)::r=>if s=k then(.str k::vs)::r else(.str s::us)::aAh k vs r
 | x::r=>x::aAh k vs r
theorem yW (a b:List UInt8):((ByteArray.mk ⟨a⟩)==(ByteArray.mk ⟨b⟩))=decide (b=a):=by
 rw[beq_toListBytes,eZ,eZ,Bool.beq_eq_decide_eq];by_cases h:a=b
 ·subst h;simp
 ·have c:¬b=a:=fun e=>h e.symm
  simp[h,c]
theorem hD {S:Sto}{agg:Bool}{k:List UInt8}:∀(l:List (List C)) (es:List MapEntry) (i:Nat),aZ S agg l es→iU l→
  (∀vs,gW k l=some vs→∃j e,Instr.findNow .string (.string ⟨⟨k⟩⟩) es i=some (some (i+j,e.val))∧es[j]?=some e∧(∃us,bR S vs us∧e.val=(if agg then .agg ⟨us⟩ else us.headD undef)∧(agg=false→us.length=1))∧e.key=.string ⟨⟨k⟩⟩∧j<es.length∧
   ∀ws,aAh k ws l=(l.take j)++(.str k::ws)::l.drop (j+1))∧
  (gW k l=none→Instr.findNow .string (.string ⟨⟨k⟩⟩) es i=some none∧∀ws,aAh k ws l=l++[.str k::ws])
 | [],es,i,h,_=>by
  simp only[aZ] at h;subst h;exact⟨fun vs A=>by simp[gW] at A,fun _=>⟨rfl,fun ws=>rfl⟩⟩
 | r::l,es,i,h,hm=>by
  simp only[aZ] at h;obtain⟨e,q,rfl,⟨vs,h1,h2,U⟩,Y⟩:=h
  match r,h1,hm with
  | .str s::us,h1,hm=>
   simp only[iU] at hm;simp only[bR] at h1;obtain⟨v,vs',A,I,h6⟩:=h1;simp only[Rep] at I;injection A with J M;subst M;have c:e.key=.string ⟨⟨s⟩⟩:=by rw[J,I]
   have O:=hD (k:=k) l q (i+1) Y hm;by_cases hs:s=k
   ·subst hs;refine⟨fun ws hw=>?_,fun hn=>by simp[gW] at hn⟩;simp only[gW,Cd,Option.some.injEq] at hw;subst hw;refine⟨0,e,?_,rfl,⟨vs,h6,h2,U⟩,c,by simp,fun ws=>by simp[aAh]⟩;simp only[Instr.findNow,c,Instr.sameNow];rw[yW];simp
   ·have y:Instr.findNow .string (.string ⟨⟨k⟩⟩) (e::q) i=Instr.findNow .string (.string ⟨⟨k⟩⟩) q (i+1):=by
     simp only[Instr.findNow,c,Instr.sameNow];rw[yW];simp[hs]
    refine⟨fun ws hw=>?_,fun hn=>?_⟩
    ·simp only[gW,hs,Bm] at hw;obtain⟨j,e',B,E,q3,q4,q5,q6⟩:=O.1 ws hw;refine⟨j+1,e',?_,by simpa using E,q3,q4,by simpa using q5,fun ws=>?_⟩
     ·rw[y,B,show i+1+j=i+(j+1) by omega]
     ·simp only[aAh,hs,Bm,q6 ws];simp
    ·simp only[gW,hs,Bm] at hn;obtain⟨B,E⟩:=O.2 hn;exact⟨by rw[y,B],fun ws=>by simp only[aAh,hs,Bm,E ws];simp⟩
  | [],h1,_=>simp only[bR] at h1;cases h1
  | .int _ _::_,_,hm=>simp[iU] at hm
  | .bool _::_,_,hm=>simp[iU] at hm
  | .nl::_,_,hm=>simp[iU] at hm
  | .sl _ _::_,_,hm=>simp[iU] at hm
  | .sn _ _::_,_,hm=>simp[iU] at hm
  | .np::_,_,hm=>simp[iU] at hm
  | .pt _::_,_,hm=>simp[iU] at hm
  | .mp _ _::_,_,hm=>simp[iU] at hm
  | .zv _::_,_,hm=>simp[iU] at hm
theorem iY {t:TypeId}(hu:P.underlying t=some .string) (b:Bool) (d:Nat) (s:ByteArray) (w:World):(Instr.checkKey b (d+1) t (.string s)).run P w=.ok () w:=by
 simp only[Instr.checkKey,δ,Ah hu w,θ,ε]
inductive MapE (st:St):List Nat→V→Bool→List (List C)→Prop
 | mr {id agg ents}:st.h id=some (.map agg ents)→MapE st [id] (.one (.mr id)) agg ents
 | mp {agg ents}:MapE st [] (.one (.c (.mp agg ents))) agg ents
 | nil {agg}:MapE st [] (.one (.c (.zv 0))) agg []
theorem MapE.rel {G:Ctx}{S:Sto}{μ:Mu}{st':St}{a:Act}{w:World}{ids:List Nat}{v:V}{agg:Bool}{ents:List (List C)}{u:Value}(hs:Sim G n S μ st' a w) (h:MapE st ids v agg ents) (A:iU ents) (hi:∀i∈ids,st'.h i=st.h i) (y:aK S μ st'.h v u):
  ∃es:Array MapEntry,aZ S agg ents es.toList∧((u=.map none∧es= #[])∨∃b clk,u=.map (some b)∧w.heap[b]?=some (.map es clk)):=by
 cases h with
 | mr hh=>
  have B:=(hi _ (by simp)).trans hh;simp only[aK,aQ] at y;obtain⟨I,E,b,c,h1,h2,q⟩:=y;rw[B] at h1;cases h1;obtain⟨J,es,clk,g1,g2,g3,g4⟩:=hs.inv.obj _ _ B;rw[h2] at g1;cases g1;exact⟨es,g3.rep A,.inr ⟨_,clk,q,g2⟩⟩
 | mp=>
  simp only[aK,aQ,Rep] at y;obtain⟨b,es,clk,h1,h2,q⟩:=y;refine⟨es,q.elim id fun q=>?_,.inr ⟨b,clk,h1,hs.inv.holds.2 _ _ h2⟩⟩;cases ents with
  | nil=>simp only[aFz] at q
  | cons r l=>simp only[aFz] at q;rw[q.1] at A;simp[iU] at A
 | nil=>
  simp only[aK,aQ,Rep,aL8] at y;exact⟨#[],by simp[aZ],.inl ⟨y,rfl⟩⟩
def mY (i:TI) (r:Option (List C)):V:=match r with
 | some vs=>if i.k.agg then .pa vs else match vs with | [c]=>.one (.c c) | _=>.tup []
 | none=>if i.k.agg then .pa i.zero else match i.zero with | [c]=>.one (.c c) | _=>.tup []
def aDa (r:Option (List C)):Bool:=r.isSome
def aDu (r:Option (Nat×Value)) (z:Value):Value:=match r with | some p=>p.2 | none=>z
theorem gC (w:World) (b:Nat) (es:Array MapEntry) (clk:Nat) (h:w.heap[b]?=some (.map es clk)):(getObj b).run P w=.ok (.map es clk) w:=by
 exact MapKept.run_getObj_map h
theorem aCf {t kt et:TypeId}{i ki E:TI}{x y:Operand}{ok:Bool}{ids:List Nat}{agg:Bool}{k:List UInt8}{r:Option (List C)}(U:Tok P T) (ho:o.op=.lookup t x y ok) (hd:o.dst=some d) (hdn:d<n) (hi:T[t]?=some (some i)) (hk:i.k=.mp kt et)
  (hki:T[kt]?=some (some ki)) (hkk:ki.k=.str) (Y:T[et]?=some (some E)) (I:E.k.agg=agg) (hy:opv st y=some (Go.AM.T k))
  (hrel:∀(st':St),dJ ⟨opr x++opr y,ids⟩ st st'→∀(G:Ctx) (S:Sto) (μ:Mu) (a:Act) (w:World),Sim G n S μ st' a w→∃(es:Array MapEntry) (ents:List (List C)),iU ents∧gW k ents=r∧aZ S agg ents es.toList∧((a.eval x=.map none∧es= #[])∨∃b clk,a.eval x=.map (some b)∧w.heap[b]?=some (.map es clk))):
  Step P n o st ⟨opr x++opr y,ids⟩ ⟨some (d,some (if ok then .tup [mY E r,B (aDa r)] else mY E r)),[]⟩:=by
 refine Step.value hd hdn fun st' ha G S μ a w hs=>?_
 obtain⟨es,ents,hms,hr,h1,h2⟩:=hrel st' ha G S μ a w hs;have h3:=iT (aI hs hy fun t h=>ha.1 t (by simp[h]));have hu:=Ah ((U.get hi).map hk) w;have aa:=(U.get hki).str hkk;obtain⟨z,hz,hzr,hz1,hz2⟩:=(U.get Y).zero_run;have J:=hD (k:=k) ents es.toList 0 h1 hms;have key:∃q:Option (Nat×Value),(Instr.findKey kt (.string ⟨⟨k⟩⟩) es.toList).run P w=.ok q w∧aK S μ st'.h (mY E r) (aDu q z)∧aDa r=q.isSome:=by
  cases hq:gW k ents with
  | some vs=>
   obtain⟨j,e,q1,q2,⟨us,M,q4,q5⟩,q6,q7,q8⟩:=J.1 vs hq;refine⟨some (0+j,e.val),?_,?_,by rw[←hr,hq];rfl⟩
   ·simp only[Instr.findKey,δ,Ah aa w,θ,q1,ε]
   ·rw[←hr,hq];simp only[mY,I];cases agg with
    | true=>
     simp only[Cd,aK] at q4 ⊢;exact⟨us,q4,M⟩
    | false=>
     simp only[Ao,Bm] at q4 ⊢;have hl:=q5 rfl;have hl2:=M.length
     match vs,us,M,hl,hl2 with
     | [c],[u],M,_,_=>
      simp only[bR] at M;obtain⟨v,vs',O,hc,_⟩:=M;cases O;rw[q4];simp only[aK,aQ];exact hc
  | none=>
   obtain⟨q1,_⟩:=J.2 hq;refine⟨none,?_,?_,by rw[←hr,hq];rfl⟩
   ·simp only[Instr.findKey,δ,Ah aa w,θ,q1,ε]
   ·rw[←hr,hq];simp only[mY,I];have A:=hzr S;cases agg with
    | true=>
     rw[I,ξ rfl] at hz1;simp only[Cd,aK];exact⟨z.cells.toList,hz1,A⟩
    | false=>
     obtain⟨u,hu1,hu2⟩:=hz2 I;simp only[Ao,Bm];have hl:=(U.get Y).len;rw[(U.get Y).one I] at hl
     match hzz:E.zero,hl with
     | [c],_=>
      rw[hzz,hu1] at A;simp only[bR] at A;obtain⟨v,vs',O,hc,_⟩:=A;cases O;rw[hu2];simp only[aK,aQ];exact hc
 obtain⟨q,hf,O,hb⟩:=key;have hck:=fun b=>iY (P:=P) aa b 9999 ⟨⟨k⟩⟩ w
 have fin:aK S μ st'.h (if ok then .tup [mY E r,B (aDa r)] else mY E r) (if ok then .tuple #[(aDu q z),.bool q.isSome] else(aDu q z)):=by
  cases ok with
  | false=>exact O
  | true=>
   simp only[Cd,aK,aS];exact⟨[_,.bool q.isSome],rfl,_,[.bool q.isSome],rfl,O,.bool q.isSome,[],rfl,by rw[hb];simp[aQ,Rep],rfl⟩
 refine⟨_,?_,fin⟩;rcases h2 with⟨h2,rfl⟩ | ⟨b,clk,h2,h4⟩
 ·simp only[execOp,ho,h2,h3,δ,Instr.lookup,hu,θ,ε];rw[show(10000:Nat)=9999+1 from rfl,hck];simp only[θ,hf];cases q with
  | none=>simp only[δ,hz w,θ,ε];rfl
  | some p=>rfl
 ·simp only[execOp,ho,h2,h3,δ,Instr.lookup,hu,θ,ε,gC w b es clk h4];rw[show(10000:Nat)=9999+1 from rfl,hck];simp only[θ,hf];cases q with
  | none=>simp only[δ,hz w,θ,ε];rfl
  | some p=>rfl
theorem qP {t A E:TypeId}{i I c:TI}{x y:Operand}{ok:Bool}{v:V}{ids:List Nat}{agg:Bool}{ents:List (List C)}{k:List UInt8}{r:Option (List C)}(hT:Tok P T) (ho:o.op=.lookup t x y ok) (hd:o.dst=some d) (J:d<n) (hi:T[t]?=some (some i)) (hk:i.k=.mp A E)
  (M:T[A]?=some (some I)) (O:I.k=.str) (U:T[E]?=some (some c)) (Y:c.k.agg=agg) (hx:opv st x=some v) (hm:MapE st ids v agg ents) (q:iU ents) (hy:opv st y=some (Go.AM.T k)) (hr:gW k ents=r):
  Step P n o st ⟨opr x++opr y,ids⟩ ⟨some (d,some (if ok then .tup [mY c r,B (aDa r)] else mY c r)),[]⟩:=
 aCf hT ho hd J hi hk M O U Y hy fun _ ha _ _ _ _ _ hs=>by
  obtain⟨es,h1,h2⟩:=hm.rel hs q ha.2 (aI hs hx fun t h=>ha.1 t (by simp[h]));exact⟨es,ents,q,hr,h1,h2⟩
theorem c6 {S:Sto}{agg:Bool}:∀{a:List (List C)}{x:List MapEntry}{b:List (List C)}{y:List MapEntry},aZ S agg a x→aZ S agg b y→aZ S agg (a++b) (x++y)
 | [],_,_,_,h,k=>by simp only[aZ] at h;subst h;simpa using k
 | _::_,_,_,_,h,k=>by
  simp only[aZ,Bw] at h ⊢;obtain⟨v,vs',rfl,h1,h2⟩:=h;exact⟨v,vs'++_,rfl,h1,c6 h2 k⟩
theorem iM {S:Sto}{agg:Bool}:∀{a:List (List C)}{x:List MapEntry}(n:Nat),aZ S agg a x→aZ S agg (a.take n) (x.take n)
 | _,_,0,_=>by simp[aZ]
 | [],_,n+1,h=>by simp only[aZ] at h;subst h;simp[aZ]
 | _::_,_,n+1,h=>by
  simp only[aZ,Bc] at h ⊢;obtain⟨v,vs',rfl,h1,h2⟩:=h;exact⟨v,vs'.take n,by simp,h1,iM n h2⟩
theorem iN {S:Sto}{agg:Bool}:∀{a:List (List C)}{x:List MapEntry}(n:Nat),aZ S agg a x→aZ S agg (a.drop n) (x.drop n)
 | _,_,0,h=>by simpa using h
 | [],_,n+1,h=>by simp only[aZ] at h;subst h;simp[aZ]
 | _::_,_,n+1,h=>by
  simp only[aZ,Cg] at h ⊢;obtain⟨v,vs',rfl,h1,h2⟩:=h;simpa using iN n h2
theorem vC {t kt et:TypeId}{i ki:TI}{x y z:Operand}{id:Nat}{agg:Bool}{ents:List (List C)}{k:List UInt8}{v:V}{rs:List R}{cs:List C}{ids:List Nat}(hT:Tok P T) (ho:o.op=.mapUpdate t x y z) (hd:o.dst=none) (hi:T[t]?=some (some i)) (hk:i.k=.mp kt et)
  (hki:T[kt]?=some (some ki)) (hkk:ki.k=.str) (hx:opv st x=some (.one (.mr id))) (hh:st.h id=some (.map agg ents)) (I:iU ents) (hy:opv st y=some (Go.AM.T k))
  (hz:opv st z=some v) (q:(match v with | .one _=>!agg | .pa _=>agg | .ma _=>agg | _=>false)=true) (hc:eG v=some rs) (hp:PureL st.h ids rs cs):
  Step P n o st ⟨opr x++opr y++opr z,id::ids⟩ ⟨none,[(id,some (.map agg (aAh k cs ents)))]⟩:=by
 refine Step.turn hd hh (by simp) (by simp[AObj.succ]) fun st' ha hh' G S μ a w hs=>?_
 have h1:=aI hs hx fun t h=>ha.1 t (by simp[h])
 have h3:=iT (aI hs hy fun t h=>ha.1 t (by simp[h]));have A:=aI hs hz fun t h=>ha.1 t (by simp[h])
 simp only[aK,aQ] at h1;obtain⟨agg',ents',b,c,q1,q2,q3⟩:=h1;obtain⟨b',es,clk,g1,g2,g3,g4⟩:=hs.inv.obj id _ hh';rw[g1] at q2;cases q2;have g3:=g3.rep I;have hrep:=hp.rel (fun i h=>ha.2 i (by simp[h])) hs.inv.obj (cK A hc);have J:a.eval z=(if agg then .agg ⟨(a.eval z).cells.toList⟩ else(a.eval z).cells.toList.headD undef)∧(agg=false→(a.eval z).cells.toList.length=1):=by
  cases v with
  | one r=>
   simp at q;subst q;simp only[aK] at A;rw[A.one.1];simp
  | pa l=>
   simp at q;subst q;simp only[aK] at A;obtain⟨vs,A,_⟩:=A;rw[A];simp[Value.cells]
  | ma l=>
   simp at q;subst q;simp only[aK] at A;obtain⟨vs,A,_⟩:=A;rw[A];simp[Value.cells]
  | tup l=>simp at q
 have M:=(hT.get hki).str hkk;have hu:=Ah ((hT.get hi).map hk) w;have B:=hD (k:=k) ents es.toList 0 g3 I;have hck:=fun b=>iY (P:=P) M b 9999 ⟨⟨k⟩⟩ w
 have O:∀e:MapEntry,e.key=.string ⟨⟨k⟩⟩→e.val=a.eval z→aZ S agg [.str k::cs] [e]:=by
  intro e he1 he2;simp only[aZ];refine⟨e,[],rfl,⟨(a.eval z).cells.toList,?_,by rw[he2];exact J.1,J.2⟩,rfl⟩;simp only[bR];exact⟨e.key,_,rfl,by simp[Rep,he1],hrep⟩
 have U:∀(ob:Obj),(setObj b ob).run P w=.ok () { w with heap:=w.heap.setIfInBounds b ob }:=by
  intro ob;exact MapKept.run_setObj_map _ g2
 have Y:∀ob,WChg w { w with heap:=w.heap.setIfInBounds b ob } b ob:=fun ob=>by
  have hlt:=bQ g2;refine⟨rfl,rfl,rfl,by simp,by simp[hlt],fun k _ hne=>?_⟩;show(w.heap.setIfInBounds b ob)[k]?=_;rw[A0,η (fun e=>hne e.symm)]
 have hSc:∀(ob:Obj) (o:Nat) (v:Value),S.cell b o=some v→∃vs t fr,ob=.cells vs t fr∧vs[o]?=some v:=fun ob o v e=>by
  obtain⟨vs,t,fr,E,_⟩:=hs.inv.holds.1 b o v e;rw[g2] at E;cases E
 have g4:=g4.kn0 I;have hSm:∀m,S.mapo b=some m→w.heap.size≤b:=fun m e=>by rw[g4] at e;cases e
 cases hq:gW k ents with
 | some vs=>
  obtain⟨j,e,E,p2,_,p4,p5,p6⟩:=B.1 vs hq;refine⟨_,.map (es.modify j fun e=>{ e with key:=.string ⟨⟨k⟩⟩,val:=a.eval z }) clk,b,(0,0),?_,g1,Y _,⟨b,_,clk,aH _ _ _,(Y _).new,.inr (.inl ?_),.inl g4⟩,hSc _,hSm⟩
  ·have hkey:((es[j]?).map (·.key)).getD (.string ⟨⟨k⟩⟩)=.string ⟨⟨k⟩⟩:=by
    rw[←Array.getElem?_toList,p2];simpa using p4
   have hkt:(Instr.keyThatStays (.string ⟨⟨k⟩⟩) (.string ⟨⟨k⟩⟩)).run P w=.ok (.string ⟨⟨k⟩⟩) w:=by
    have hsb:Instr.sameBits 10000 (.string ⟨⟨k⟩⟩) (.string ⟨⟨k⟩⟩)=true:=by simp[Instr.sameBits,yW]
    simp only[Instr.keyThatStays,hsb,Cd,ε]
   simp only[execOp,ho,q3,h3,δ,Instr.mapUpdate,hu,θ,gC w b es clk g2];rw[show(10000:Nat)=9999+1 from rfl,hck];simp only[θ,Instr.findKey,δ,Ah M w,E,ε,A5,hkey,hkt,U]
  ·rw[p6 cs,Array.toList_modify];have hmod:es.toList.modify j (fun e=>{ e with key:=.string ⟨⟨k⟩⟩,val:=a.eval z })=es.toList.take j++{ e with key:=.string ⟨⟨k⟩⟩,val:=a.eval z }::es.toList.drop (j+1):=by
    apply B2;intro i;rw[List.getElem?_modify];have p5':j<es.size:=by simpa using p5
    by_cases c1:i<j
    ·rw[A1 (by simp;omega),Ai,ξ c1];simp[show ¬j=i by omega]
    ·rw[A4 (by simp;omega)];simp only[Al];by_cases c2:j=i
     ·subst c2;rw[p2];have hm:min j es.toList.length=j:=by simp;omega
      rw[hm];simp
     ·rw[Cr (le_of_lt p5),show i-j=(i-j-1)+1 by omega,List.getElem?_cons_succ,Aj];simp[c2,show j+1+(i-j-1)=i by omega]
   rw[hmod];have:=c6 (iM j g3) (c6 (O { e with key:=.string ⟨⟨k⟩⟩,val:=a.eval z } rfl rfl) (iN (j+1) g3));exact this
 | none=>
  obtain⟨E,p2⟩:=B.2 hq;refine⟨_,.map (es.push { key:=.string ⟨⟨k⟩⟩,val:=a.eval z,born:=clk }) (clk+1),b,(0,0),?_,g1,Y _,⟨b,_,clk+1,aH _ _ _,(Y _).new,.inr (.inl ?_),.inl g4⟩,hSc _,hSm⟩
  ·simp only[execOp,ho,q3,h3,δ,Instr.mapUpdate,hu,θ,gC w b es clk g2];rw[show(10000:Nat)=9999+1 from rfl,hck];simp only[θ,Instr.findKey,δ,Ah M w,E,ε,U]
  ·rw[p2 cs,Array.toList_push];exact c6 g3 (O _ rfl rfl)
theorem aJ3 {P:Program}{T:TT}{o:Oper}{t kt et:TypeId}{i ki:TI}{x y z:Operand}{agg:Bool}{ents:List (List C)}{k:List UInt8}{cs:List C}{S:Sto}{a:Act}{w:World}{b:Nat}{es:Array MapEntry}{clk:Nat}(hT:Tok P T) (ho:o.op=.insert t x y z) (hi:T[t]?=some (some i)) (hk:i.k=.mp kt et)
  (hki:T[kt]?=some (some ki)) (hkk:ki.k=.str) (q3:a.eval x=.map (some b)) (h3:a.eval y=.string ⟨⟨k⟩⟩) (g2:w.heap[b]?=some (.map es clk)) (g3:aZ S agg ents es.toList) (hms:iU ents)
  (M:bR S cs (a.eval z).cells.toList) (q:a.eval z=(if agg then .agg ⟨(a.eval z).cells.toList⟩ else(a.eval z).cells.toList.headD undef)∧(agg=false→(a.eval z).cells.toList.length=1)):
  ∃I O,(execOp a.eval o).run P w=.ok .skip { w with heap:=w.heap.setIfInBounds b (.map I O) }∧aZ S agg (aAh k cs ents) I.toList:=by
 have r:=(hT.get hki).str hkk;have hu:=Ah ((hT.get hi).map hk) w;have c:=hD (k:=k) ents es.toList 0 g3 hms;have J:=fun b=>iY (P:=P) r b 9999 ⟨⟨k⟩⟩ w
 have A:∀e:MapEntry,e.key=.string ⟨⟨k⟩⟩→e.val=a.eval z→aZ S agg [.str k::cs] [e]:=by
  intro e he1 he2;simp only[aZ];refine⟨e,[],rfl,⟨(a.eval z).cells.toList,?_,by rw[he2];exact q.1,q.2⟩,rfl⟩;simp only[bR];exact⟨e.key,_,rfl,by simp[Rep,he1],M⟩
 have B:∀(ob:Obj),(setObj b ob).run P w=.ok () { w with heap:=w.heap.setIfInBounds b ob }:=by
  intro ob;exact MapKept.run_setObj_map _ g2
 cases hq:gW k ents with
 | some vs=>
  obtain⟨j,e,U,E,_,p4,p5,p6⟩:=c.1 vs hq;refine⟨es.modify j fun e=>{ e with key:=.string ⟨⟨k⟩⟩,val:=a.eval z },clk,?_,?_⟩
  ·have Y:((es[j]?).map (·.key)).getD (.string ⟨⟨k⟩⟩)=.string ⟨⟨k⟩⟩:=by
    rw[←Array.getElem?_toList,E];simpa using p4
   have hkt:(Instr.keyThatStays (.string ⟨⟨k⟩⟩) (.string ⟨⟨k⟩⟩)).run P w=.ok (.string ⟨⟨k⟩⟩) w:=by
    have hsb:Instr.sameBits 10000 (.string ⟨⟨k⟩⟩) (.string ⟨⟨k⟩⟩)=true:=by simp[Instr.sameBits,yW]
    simp only[Instr.keyThatStays,hsb,Cd,ε]
   simp only[execOp,ho,q3,h3,δ,Instr.mapUpdate,hu,θ,gC w b es clk g2];rw[show(10000:Nat)=9999+1 from rfl,J];simp only[θ,Instr.findKey,δ,Ah r w,U,ε,A5,Y,hkt,B]
  ·rw[p6 cs,Array.toList_modify];have aa:es.toList.modify j (fun e=>{ e with key:=.string ⟨⟨k⟩⟩,val:=a.eval z })=es.toList.take j++{ e with key:=.string ⟨⟨k⟩⟩,val:=a.eval z }::es.toList.drop (j+1):=by
    apply B2;intro i;rw[List.getElem?_modify];have p5':j<es.size:=by simpa using p5
    by_cases c1:i<j
    ·rw[A1 (by simp;omega),Ai,ξ c1];simp[show ¬j=i by omega]
    ·rw[A4 (by simp;omega)];simp only[Al];by_cases c2:j=i
     ·subst c2;rw[E];have hm:min j es.toList.length=j:=by simp;omega
      rw[hm];simp
     ·rw[Cr (le_of_lt p5),show i-j=(i-j-1)+1 by omega,List.getElem?_cons_succ,Aj];simp[c2,show j+1+(i-j-1)=i by omega]
   rw[aa];have:=c6 (iM j g3) (c6 (A { e with key:=.string ⟨⟨k⟩⟩,val:=a.eval z } rfl rfl) (iN (j+1) g3));exact this
 | none=>
  obtain⟨U,E⟩:=c.2 hq;refine⟨es.push { key:=.string ⟨⟨k⟩⟩,val:=a.eval z,born:=clk },clk+1,?_,?_⟩
  ·simp only[execOp,ho,q3,h3,δ,Instr.mapUpdate,hu,θ,gC w b es clk g2];rw[show(10000:Nat)=9999+1 from rfl,J];simp only[θ,Instr.findKey,δ,Ah r w,U,ε,B]
  ·rw[E cs,Array.toList_push];exact c6 g3 (A _ rfl rfl)
theorem aGv {t U et:TypeId}{i Y:TI}{x y z:Operand}{id:Nat}{agg:Bool}{ents:List (List C)}{k:List UInt8}{v:V}{rs:List R}{cs:List C}{ids:List Nat}(hT:Tok P T) (ho:o.op=.insert t x y z) (hd:o.dst=none) (hi:T[t]?=some (some i)) (hk:i.k=.mp U et)
  (aa:T[U]?=some (some Y)) (ab:Y.k=.str) (hx:opv st x=some (.one (.mr id))) (hh:st.h id=some (.map agg ents)) (B:iU ents) (hy:opv st y=some (Go.AM.T k))
  (hz:opv st z=some v) (q:(match v with | .one _=>!agg | .pa _=>agg | .ma _=>agg | _=>false)=true) (hc:eG v=some rs) (hp:PureL st.h ids rs cs):
  Step P n o st ⟨opr x++opr y++opr z,id::ids⟩ ⟨none,[(id,some (.map agg (aAh k cs ents)))]⟩:=by
 refine Step.turn hd hh (by simp) (by simp[AObj.succ]) fun st' ha ac G S μ a w hs=>?_
 have h1:=aI hs hx fun t h=>ha.1 t (by simp[h])
 have h3:=iT (aI hs hy fun t h=>ha.1 t (by simp[h]));have A:=aI hs hz fun t h=>ha.1 t (by simp[h])
 simp only[aK,aQ] at h1;obtain⟨agg',ents',b,c,q1,q2,q3⟩:=h1;obtain⟨b',es,clk,g1,g2,g3,g4⟩:=hs.inv.obj id _ ac;rw[g1] at q2;cases q2;have g3:=g3.rep B;have I:=hp.rel (fun i h=>ha.2 i (by simp[h])) hs.inv.obj (cK A hc);have J:a.eval z=(if agg then .agg ⟨(a.eval z).cells.toList⟩ else(a.eval z).cells.toList.headD undef)∧(agg=false→(a.eval z).cells.toList.length=1):=by
  cases v with
  | one r=>
   simp at q;subst q;simp only[aK] at A;rw[A.one.1];simp
  | pa l=>
   simp at q;subst q;simp only[aK] at A;obtain⟨vs,A,_⟩:=A;rw[A];simp[Value.cells]
  | ma l=>
   simp at q;subst q;simp only[aK] at A;obtain⟨vs,A,_⟩:=A;rw[A];simp[Value.cells]
  | tup l=>simp at q
 obtain⟨es',E,M,O⟩:=aJ3 (P:=P) hT ho hi hk aa ab q3 h3 g2 g3 B I J;have hW:∀ob,WChg w { w with heap:=w.heap.setIfInBounds b ob } b ob:=fun ob=>by
  have hlt:=bQ g2;refine⟨rfl,rfl,rfl,by simp,by simp[hlt],fun k _ hne=>?_⟩;show(w.heap.setIfInBounds b ob)[k]?=_;rw[A0,η (fun e=>hne e.symm)]
 have hSc:∀(ob:Obj) (o:Nat) (v:Value),S.cell b o=some v→∃vs t fr,ob=.cells vs t fr∧vs[o]?=some v:=fun ob o v e=>by
  obtain⟨vs,t,fr,p1,_⟩:=hs.inv.holds.1 b o v e;rw[g2] at p1;cases p1
 have g4:=g4.kn0 B;have hSm:∀m,S.mapo b=some m→w.heap.size≤b:=fun m e=>by rw[g4] at e;cases e
 exact⟨_,.map es' E,b,(0,0),M,g1,hW _,⟨b,_,E,aH _ _ _,(hW _).new,.inr (.inl O),.inl g4⟩,hSc _,hSm⟩
end
end Go.AM
