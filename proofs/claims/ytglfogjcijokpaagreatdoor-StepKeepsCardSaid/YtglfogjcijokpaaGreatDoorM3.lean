/-
  Texts Am12 to Am19 in one.
-/
import Derived.Test.YtglfogjcijokpaaGreatDoorM2
import Derived.RangeFuncRecord
import Derived.IntWalk
import Derived.Laws.StructEq
open List (all_eq_true append_assoc append_nil cons_append drop_succ_cons flatten_cons length_append length_cons length_nil length_take map_cons map_nil map_toArray mem_append mem_cons mem_map nil_append set_eq_take_append_cons_drop take_of_length_le take_succ_cons)
open Nat (add_mul beq_refl eq_of_beq_eq_true le_of_ble_eq_true le_of_lt le_refl le_trans lt_of_lt_of_le min_eq_left zero_add zero_le)
namespace Go.AM
open Go
def mL (μ:Mu) (h:c7):Nat→Prop:=fun b=>∃id o c,h id=some o∧μ id=some (b,c)
def aQ (P:Program) (f:FuncId) (args:List V) (hin:List (Nat×AObj)) (res:V) (hout:List (Nat×AObj)):Prop:=
 ∀S μ w vals,Inv ⟨w,S,mL μ (look hin),μ,look hin⟩ S μ (look hin) w→bG S μ (look hin) args vals→
  Calls P f ⟨vals⟩ w fun e w'=>∃S' μ' v,e=.returned v∧Inv ⟨w,S,mL μ (look hin),μ,look hin⟩ S' μ' (look hout) w'∧aT S' μ' (look hout) res v
mutual
theorem R.ren_id:∀r:R,r.ren (fun i=>i)=r
 | .c _=>rfl
 | .hs ..=>rfl
 | .tl ..=>rfl
 | .vp ..=>rfl
 | .ep ..=>rfl
 | .mr ..=>rfl
 | .clo f caps=>by simp only[R.ren,R.renL_id caps]
 | .mth f x=>by simp only[R.ren,R.ren_id x]
 | .yl _=>rfl
 | .ra _ _ _ _=>rfl
 | .rp _ _ _ _=>rfl
 | .ras n es l=>by simp only[R.ren,R.renL_id l]
 | .pas l=>by simp only[R.ren,R.renL_id l]
theorem R.renL_id:∀r:List R,R.renL (fun i=>i) r=r
 | []=>rfl
 | r::rs=>by simp only[R.renL,R.ren_id r,R.renL_id rs]
end
mutual
theorem V.ren_id:∀r:V,r.ren (fun i=>i)=r
 | .one r=>by simp only[V.ren,R.ren_id r]
 | .pa _=>rfl
 | .ma l=>by simp only[V.ren,R.renL_id l]
 | .tup l=>by simp only[V.ren,V.renL_id l]
theorem V.renL_id:∀r:List V,V.renL (fun i=>i) r=r
 | []=>rfl
 | r::rs=>by simp only[V.renL,V.ren_id r,V.renL_id rs]
end
theorem aKc:∀l:List (Nat×V),aIr (fun i=>i) l=l
 | []=>rfl
 | (t,v)::l=>by simp only[aIr,V.ren_id v,aKc l]
theorem aCp:∀l:List (List R),mM (fun i=>i) l=l
 | []=>rfl
 | r::l=>by simp only[mM,R.renL_id r,aCp l]
theorem Ole.refl_id {o:AObj}(h:o≠ .dead):Ole (fun i=>i) o o:=by
 cases o with
 | var t cells=>exact .var (R.renL_id cells).symm
 | arr=>exact .arr
 | map=>exact .map
 | dead=>exact absurd rfl h
 | lp st j i e=>exact .lp (aKc e).symm
 | dfr=>exact .dfr
 | rarr te es l=>exact .rarr (aCp l).symm
 | tok r k=>exact .tok (R.ren_id r).symm
inductive Conv (h:c7):List Nat→V→V→Prop
 | refl {v}:Conv h [] v v
 | one {ids r c}:PureL h ids [r] [c]→Conv h ids (.one r) (.one (.c c))
 | agg {ids rs cs}:PureL h ids rs cs→Conv h ids (.ma rs) (.pa cs)
 | pa {ids l cs}:PureL h ids (l.map R.c) cs→Conv h ids (.pa l) (.pa cs)
inductive ArgsV (st:St):List Nat→List Operand→List V→Prop
 | nil:ArgsV st [] [] []
 | cons {ids ids' x xs v v' vs}:opv st x=some v→Conv st.h ids v v'→ArgsV st ids' xs vs→ArgsV st (ids++ids') (x::xs) (v'::vs)
theorem Conv.rel {S:Sto}{μ:Mu}{H H0:c7}{w:World}{ids:List Nat}{v v':V}{u:Value}(h:Conv H0 ids v v') (hi:∀i∈ids,H i=H0 i) (q:∀id o,H id=some o→lW S μ H w id o) (hv:aT S μ H v u):aT S μ H v' u:=by
 cases h with
 | refl=>exact hv
 | @one _ r c h=>
  simp only[aT,b6] at hv ⊢;have:=h.rel hi q (vs:=[u]) (by simp only[aW];exact⟨u,[],rfl,hv,rfl⟩);simp only[cZ] at this;obtain⟨v,vs',h1,h2,h3⟩:=this;cases h1;exact h2
 | @agg _ rs cs h=>
  simp only[aT] at hv ⊢;obtain⟨vs,h1,h2⟩:=hv;exact⟨vs,h1,h.rel hi q h2⟩
 | @pa _ l cs h=>
  simp only[aT] at hv ⊢;obtain⟨vs,h1,h2⟩:=hv;exact⟨vs,h1,h.rel hi q h2.toR⟩
def dH:List Operand→List Nat
 | []=>[]
 | x::xs=>opr x++dH xs
theorem ArgsV.rel {G:Ctx}{n:Nat}{S:Sto}{μ:Mu}{st st':St}{a:Act}{w:World}(hs:Sim G n S μ st' a w):∀{ids:List Nat}{xs:List Operand}{vs:List V},ArgsV st ids xs vs→(∀t∈dH xs,st'.e t=st.e t)→(∀i∈ids,st'.h i=st.h i)→bG S μ st'.h vs (xs.map a.eval):=by
 intro ids xs vs h
 induction h with
 | nil=>intro _ _;simp[bG]
 | cons hx hc _ q=>
  intro ht hi;simp only[Al,bG];refine⟨_,_,rfl,?_,q (fun t h=>ht t (by simp[dH,h])) fun i h=>hi i (by simp[h])⟩;exact hc.rel (fun i h=>hi i (by simp[h])) hs.inv.obj (aM hs hx fun t h=>ht t (by simp[dH,h]))
theorem Inv.hand {G:Ctx}{S:Sto}{μ:Mu}{H:c7}{w:World}{hin:List (Nat×AObj)}(h:Inv G S μ H w) (hh:∀id o,look hin id=some o→H id=some o∧o≠ .dead) (hc:subset (cO hin) (hin.map (·.1))=true):
  Inv ⟨w,S,mL μ (look hin),μ,look hin⟩ S μ (look hin) w:=by
 have q:∀i∈hin.map (·.1),Good H (look hin) (fun i=>i) i:=by
  intro i hi;obtain⟨o,ho⟩:=cQ hi;obtain⟨h1,h2⟩:=hh i o ho;exact⟨o,o,h1,ho,.refl_id h2⟩
 refine⟨h.holds,fun id o ho=>?_,fun i j o o' b c c' hi N hm I=>h.inj i j o o' b c c' (hh _ _ hi).1 (hh _ _ N).1 hm I,fun i o b c hi hm=>.inr ⟨i,o,c,hi,hm⟩,FrameW.refl _ _ ⟨h.frame.tabAt,fun g J=>?_⟩,S.le_refl,fun b _ _=>⟨fun _=>rfl,rfl⟩,Evolve.refl _ _ _,h.fre⟩
 ·obtain⟨h1,h2⟩:=hh id o ho;exact(h.obj id o h1).ren (.refl_id h2) fun i hi=>q i (bB hc i (iP (bH ho) i hi))
 ·rintro⟨i,o,c,h1,h2⟩;have h3:=(h.frame.tab.1 g J).1
  rcases h.own i o g c (hh i o h1).1 h2 with h4 | h4
  ·omega
  ·exact h.frame.tab.2 g J h4
def outs (l:List (Nat×AObj)):List (Nat×Option AObj):=l.map fun p=>(p.1,some p.2)
theorem aAb:∀(l:List (Nat×AObj)) (i:Nat),look (outs l) i=(look l i).map some
 | [],_=>rfl
 | (k,o)::l,i=>by
  simp only[outs,Al,look];cases Nat.beq i k
  ·have:=aAb l i;unfold outs at this;simpa using this
  ·rfl
theorem eT (H:c7) (l:List (Nat×AObj)) (i:Nat):updL H (outs l) i=match look l i with | some o=>some o | none=>H i:=by
 simp only[updL,aAb];cases look l i<;>rfl
theorem Inv.back {G:Ctx}{S S':Sto}{μ μ':Mu}{H:c7}{w w':World}{hin hout:List (Nat×AObj)}(h:Inv G S μ H w) (hh:∀id o,look hin id=some o→H id=some o)
  (hnew:∀id o,look hout id=some o→(∃o',look hin id=some o')∨H id=none)
  (J:Inv ⟨w,S,mL μ (look hin),μ,look hin⟩ S' μ' (look hout) w'):
  ∃W:Mu,(∀id o,look hout id=some o→W id=μ' id)∧Inv G S' W (updL H (outs hout)) w'∧Evolve S μ H S' W (updL H (outs hout))∧Evolve S' μ' (look hout) S' W (updL H (outs hout)):=by
 have hE:Evolve S μ (look hin) S' μ' (look hout):=J.evo
 let W:Mu:=fun id=>match look hout id with | some _=>μ' id | none=>μ id
 have N:∀id o,look hout id=some o→W id=μ' id:=fun id o ho=>by simp only[W,ho]
 have hμ2:∀id,look hout id=none→W id=μ id:=fun id ho=>by simp only[W,ho]
 have hH1:∀id o,look hout id=some o→updL H (outs hout) id=some o:=fun id o ho=>by rw[eT,ho]
 have hH2:∀id,look hout id=none→updL H (outs hout) id=H id:=fun id ho=>by rw[eT,ho]
 have hin_out:∀id o,look hin id=some o→∃o',look hout id=some o':=fun id o ho=>by
  obtain⟨o',h1,_⟩:=hE.obj id o ho;exact⟨o',h1⟩
 have hE1:Evolve S μ H S' W (updL H (outs hout)):=by
  refine⟨hE.le,fun id o ho=>?_⟩;cases q:look hout id with
  | none=>exact⟨o,by rw[hH2 id q,ho],o.succ_refl (hμ2 id q)⟩
  | some o2=>
   rcases hnew id o2 q with⟨o',hi⟩ | hi
   ·have:=hh id o' hi;rw[ho] at this;cases this;obtain⟨o3,h1,h2⟩:=hE.obj id o hi;rw[q] at h1;cases h1;exact⟨o2,hH1 id o2 q,by rw[N id o2 q];exact h2⟩
   ·rw[ho] at hi;cases hi
 have hE2:Evolve S' μ' (look hout) S' W (updL H (outs hout)):=⟨S'.le_refl,fun id o ho=>⟨o,hH1 id o ho,o.succ_refl (N id o ho)⟩⟩
 have hrest:∀id o,H id=some o→look hout id=none→∀b c,μ id=some (b,c)→b<w.heap.size∧¬mL μ (look hin) b:=by
  intro id o ho q b c hm;refine⟨(h.obj id o ho).lt hm,?_⟩;rintro⟨Y,o',c',h1,h2⟩;have:=h.inj id Y o o' b c c' ho (hh _ _ h1) hm h2;subst this;obtain⟨o2,h3⟩:=hin_out id o' h1;rw[q] at h3;cases h3
 have Z:∀id o b c,look hout id=some o→μ' id=some (b,c)→w.heap.size≤b∨mL μ (look hin) b:=fun id o b c ho hm=>J.own id o b c ho hm
 refine⟨W,N,⟨J.holds,fun id o ho=>?_,fun i j o o' b c c' hi hj hm O=>?_,fun i o b c hi hm=>?_,?_,Sto.le_trans h.sle hE.le,fun b hb hF=>?_,h.evo.trans hE1,J.fre⟩,hE1,hE2⟩
 ·cases q:look hout id with
  | some o2=>
   rw[hH1 id o2 q] at ho;cases ho;exact(J.obj id _ q).evolve hE2 (N id _ q) fun b c hm=>⟨rfl,fun _=>rfl,rfl⟩
  | none=>
   rw[hH2 id q] at ho;refine(h.obj id o ho).evolve hE1 (hμ2 id q) fun b c hm=>?_
   obtain⟨h1,h2⟩:=hrest id o ho q b c hm;exact⟨J.frame.block b h1 h2,(J.sto b h1 h2).1,(J.sto b h1 h2).2⟩
 ·cases hqi:look hout i with
  | some oi=>
   rw[N i oi hqi] at hm;cases I:look hout j with
   | some oj=>
    rw[N j oj I] at O;exact J.inj i j oi oj b c c' hqi I hm O
   | none=>
    rw[hμ2 j I] at O;rw[hH2 j I] at hj;obtain⟨h1,h2⟩:=hrest j o' hj I b c' O;rcases Z i oi b c hqi hm with h3 | h3
    ·omega
    ·exact absurd h3 h2
  | none=>
   rw[hμ2 i hqi] at hm;rw[hH2 i hqi] at hi;obtain⟨h1,h2⟩:=hrest i o hi hqi b c hm;cases I:look hout j with
   | some oj=>
    rw[N j oj I] at O;rcases Z j oj b c' I O with h3 | h3
    ·omega
    ·exact absurd h3 h2
   | none=>
    rw[hμ2 j I] at O;rw[hH2 j I] at hj;exact h.inj i j o o' b c c' hi hj hm O
 ·cases q:look hout i with
  | some o2=>
   rw[N i o2 q] at hm;rcases Z i o2 b c q hm with h3 | ⟨Y,o',c',h3,h4⟩
   ·exact .inl (le_trans h.frame.size h3)
   ·exact h.own Y o' b c' (hh _ _ h3) h4
  | none=>
   rw[hμ2 i q] at hm;rw[hH2 i q] at hi;exact h.own i o b c hi hm
 ·refine⟨J.frame.os.trans h.frame.os,J.frame.tape.trans h.frame.tape,J.frame.output.trans h.frame.output,le_trans h.frame.size J.frame.size,fun k hk hF=>?_,h.frame.tab⟩;rw[J.frame.block k (Cv hk h.frame.size) ?_,h.frame.block k hk hF];rintro⟨Y,o',c',h3,h4⟩;rcases h.own Y o' k c' (hh _ _ h3) h4 with h5 | h5
  ·omega
  ·exact hF h5
 ·have hnf:¬mL μ (look hin) b:=by
   rintro⟨Y,o',c',h3,h4⟩;rcases h.own Y o' b c' (hh _ _ h3) h4 with h5 | h5
   ·omega
   ·exact hF h5
  have h1:=J.sto b (Cv hb h.frame.size) hnf;have h2:=h.sto b hb hF;exact⟨fun o=>(h1.1 o).trans (h2.1 o),h1.2.trans h2.2⟩
section
variable {P:Program}{n:Nat}{o:Oper}{st:St}{d:Nat}
def keys {α:Type}(l:List (Nat×α)):List Nat:=l.map (·.1)
theorem o9 {w:World}{S:Sto}{F:Nat→Prop}{μ:Mu}{hin:List (Nat×AObj)}:Ctx.keeps ⟨w,S,F,μ,look hin⟩ (keys hin):=
 ⟨fun id o ho=>Af.2 ⟨_,bH ho,rfl⟩,fun h1 h2=>by
  obtain⟨o,ho⟩:=cQ h1;rw[show look hin 997=none from h2] at ho
  cases ho⟩
def AObj.live:AObj→Bool
 | .dead=>false
 | _=>true
def callOk (args:List V) (hin:List (Nat×AObj)):Bool:=subset (V.refsL args) (keys hin)&&subset (cO hin) (keys hin)&&(hin.all fun p=>p.2.live)
theorem Step.call {f:FuncId}{ids q:List Nat}{args:List V}{hin hout:List (Nat×AObj)}{res:V}(hd:o.dst=some d) (W:d<n) (hf:aQ P f args hin res hout)
  (hin':dM (fun p=>st.h p.1=some p.2) hin) (hout':dM (fun p=>p.1∈keys hin∨st.h p.1=none) hout) (hok:callOk args hin=true)
  (J:∀st',mN ⟨q,ids++keys hin++keys hout⟩ st st'→∀G S μ a w,Sim G n S μ st' a w→∃vals,(execOp a.eval o).run P w=.ok (.enter f ⟨vals⟩) w∧bG S μ st'.h args vals):
  Step P n o st ⟨q,ids++keys hin++keys hout⟩ ⟨some (d,some res),outs hout⟩:=by
 intro st' ha G S μ a w K Q hs hk;obtain⟨vals,hr,hv⟩:=J st' ha G S μ a w hs;simp only[callOk,Ac] at hok;obtain⟨⟨k1,k2⟩,k3⟩:=hok;have hh:∀id o,look hin id=some o→st'.h id=some o∧o≠ .dead:=by
  intro id o ho;have hm:=bH ho;have h1:=hin'.mem _ hm;refine⟨by rw[ha.2 id (by simp only[δ];exact .inl (.inr (Af.2 ⟨_,hm,rfl⟩)))];exact h1,?_⟩;have:=(Au.1 k3) _ hm;rintro rfl;simp[AObj.live] at this
 have N:∀id o,look hout id=some o→(∃o',look hin id=some o')∨st'.h id=none:=by
  intro id o ho;have hm:=bH ho;rcases hout'.mem _ hm with h1 | h1
  ·exact .inl (cQ h1)
  ·exact .inr (by rw[ha.2 id (by simp only[δ];exact .inr (Af.2 ⟨_,hm,rfl⟩))];exact h1)
 have hI:=hs.inv.hand hh k2;have I:∀i∈keys hin,Good st'.h (look hin) (fun i=>i) i:=by
  intro i hi;obtain⟨o,ho⟩:=cQ hi;obtain⟨h1,h2⟩:=hh i o ho;exact⟨o,o,h1,ho,.refl_id h2⟩
 have Y:bG S μ (look hin) args vals:=by
  have:=bG.ren (H:=st'.h) (H':=look hin) (σ:=fun i=>i) args vals (fun i hi=>I i (bB k1 i hi)) (by rw[V.renL_id];exact hv);exact this
 have hc:=hf S μ w vals hI Y;refine fun ro=>wA hr ?_
 refine hc.mono fun e w' ⟨S',μ',v,he,Z,O⟩=>?_
 subst he;obtain⟨μ2,q1,q2,q3,q4⟩:=hs.inv.back (fun id o ho=>(hh id o ho).1) N Z;show K (a.put o.dst v) w';rw[hd];refine hk S' μ2 _ _ ?_;exact hs.put q2 q3 W (x:=some res) fun z hz=>by cases hz;exact aT.evolve q4 _ _ O
def eG (P : Program) (f : FuncId) : Prop := ∃ fn, P.funcs[f]? = some fn ∧ (fn.name == "runtime.NumGoroutine") = false ∧ fn.body.isNone = false
theorem j7 {f:FuncId}(hb:eG P f) (args:Array Value) (w:World):(callFunc f args).run P w=.ok (.enter f args) w:=by
 obtain⟨fn,h1,h2,h3⟩:=hb;have hp:(program:Sem Program).run P w=.ok P w:=rfl;simp only[callFunc,Ad,hp,κ,h1,h2,h3,A1,Br,Ae]
theorem aKq {f:FuncId}{xs:Array Operand}{ts:Array TypeId}{ids:List Nat}{args:List V}{res:V}(hin hout:List (Nat×AObj)) (hb:eG P f) (ho:o.op=.call { callee:=.value (.func f),args:=xs,argTypes:=ts }) (hd:o.dst=some d) (I:d<n)
  (hf:aQ P f args hin res hout) (ha:ArgsV st ids xs.toList args) (hin':dM (fun p=>st.h p.1=some p.2) hin) (hout':dM (fun p=>p.1∈keys hin∨st.h p.1=none) hout) (hok:callOk args hin=true):
  Step P n o st ⟨dH xs.toList,ids++keys hin++keys hout⟩ ⟨some (d,some res),outs hout⟩:=by
 refine Step.call hd I hf hin' hout' hok fun st' q G S μ a w hs=>⟨xs.toList.map a.eval,?_,ha.rel hs q.1 fun i h=>q.2 i (by simp[h])⟩
 simp only[execOp,ho,resolve,Deferred.ofValue,Act.eval,Ad,Ae,κ,invoke,j7 hb];congr 2;apply Array.ext';simp
theorem aKp {f:FuncId}{x:Operand}{caps:List R}{xs:Array Operand}{ts:Array TypeId}{ids:List Nat}{args:List V}{res:V}(hin hout:List (Nat×AObj)) (hb:eG P f) (ho:o.op=.call { callee:=.value x,args:=xs,argTypes:=ts }) (hd:o.dst=some d) (O:d<n)
  (hx:opv st x=some (.one (.clo f caps))) (hf:aQ P f (args++caps.map V.one) hin res hout) (ha:ArgsV st ids xs.toList args) (hin':dM (fun p=>st.h p.1=some p.2) hin) (hout':dM (fun p=>p.1∈keys hin∨st.h p.1=none) hout) (hok:callOk (args++caps.map V.one) hin=true):
  Step P n o st ⟨opr x++dH xs.toList,ids++keys hin++keys hout⟩ ⟨some (d,some res),outs hout⟩:=by
 refine Step.call hd O hf hin' hout' hok fun st' q G S μ a w hs=>?_
 have hv:=aM hs hx fun t ht=>q.1 t (by simp[ht])
 simp only[aT,b6] at hv;obtain⟨vs,h1,h2⟩:=hv;refine⟨xs.toList.map a.eval++vs,?_,?_⟩
 ·simp only[execOp,ho,resolve,h1,Deferred.ofValue,Ad,Ae,κ,invoke,j7 hb];congr 2;apply Array.ext';simp
 ·have W:∀(l:List V) (us:List Value) (rs:List R) (vs:List Value),bG S μ st'.h l us→aW S μ st'.h rs vs→bG S μ st'.h (l++rs.map V.one) (us++vs):=by
   intro l
   induction l with
   | nil=>
    intro us rs vs h k;simp only[bG] at h;subst h;simp only[Bd]
    induction rs generalizing vs with
    | nil=>simp only[aW] at k;subst k;simp[bG]
    | cons r rs I=>
     simp only[aW] at k;obtain⟨v,vs',rfl,J,N⟩:=k;simp only[Al,bG];exact⟨v,vs',rfl,by simpa [aT] using J,I vs' N⟩
   | cons x l I=>
    intro us rs vs h k;simp only[bG] at h;obtain⟨v,vs',rfl,J,N⟩:=h;simp only[Bc,bG];exact⟨v,_,rfl,J,I vs' rs vs N k⟩
  exact W _ _ _ _ (ha.rel hs (fun t ht=>q.1 t (by simp[ht])) fun i h=>q.2 i (by simp[h])) h2
end
theorem Sim.freeze {G:Ctx}{n:Nat}{S:Sto}{μ:Mu}{a:Act}{w:World}{st:St}{id te es:Nat}{elems:List (List C)}{fz:Nat}(h:st.h id=some (.arr te es elems fz)) (hs:Sim G n S μ st a w):∃S' μ',Sim G n S' μ' ⟨st.e,upd st.h id (some (.arr te es elems 2)),st.d⟩ a w:=by
 have hO:=hs.inv.obj id _ h
 have ab:∀S',S.le S'→Evolve S μ st.h S' μ (upd st.h id (some (.arr te es elems 2))):=fun S' hle=>⟨hle,fun j x N=>by
  by_cases I:j=id
  ·subst I;rw[h] at N;cases N;exact⟨_,aI _ _ _,by simp[AObj.succ]⟩
  ·exact⟨x,by rw[aS _ _ _ I];exact N,x.succ_refl rfl⟩⟩
 have hold:∀j x,upd st.h id (some (.arr te es elems 2)) j=some x→∃x',st.h j=some x':=fun j x N=>by
  by_cases I:j=id
  ·subst I;exact⟨_,h⟩
  ·rw[aS _ _ _ I] at N;exact⟨_,N⟩
 obtain⟨h1,h2,h3,h4,h5,h6,h7,h8,ac⟩:=hs.inv;obtain⟨g0,⟨g1,g2⟩ | ⟨b,base,cap,vs,g1,g2,g3,g4,g5,g6,g7,g8,g9⟩⟩:=hO
 ·--no block yet
  have W:=ab S S.le_refl;refine⟨S,μ,⟨h1,fun j x N=>?_,fun i j x x' b c c' hi N hm Z=>?_,fun i x b c hi hm=>?_,h5,h6,h7,h8.trans W,ac⟩,hs.size,hs.defers.evolve W,fun t v e=>aT.evolve W v _ (hs.env t v e)⟩
  ·by_cases I:j=id
   ·subst I;have J:some (AObj.arr te es elems 2)=some x:=by rw[←N];exact(aI _ _ _).symm
    cases J;exact⟨g0,.inl ⟨g1,g2⟩⟩
   ·have J:st.h j=some x:=by rw[←N];exact(aS _ _ _ I).symm
    exact(h2 j x J).evolve W rfl fun _ _ _=>⟨rfl,fun _=>rfl,rfl⟩
  ·obtain⟨_,O⟩:=hold _ _ hi;obtain⟨_,J⟩:=hold _ _ N;exact h3 i j _ _ b c c' O J hm Z
  ·obtain⟨_,O⟩:=hold _ _ hi;exact h4 i _ b c O hm
 ·let S':Sto:=⟨fun q o=>if q=b∧base≤o∧o<base+elems.length*es then vs[o]? else S.cell q o,S.mapo⟩
  have aa:∀o v,S.cell b o=some v→vs[o]?=some v:=fun o v e=>by
   obtain⟨vs0,t0,fr0,p1,p2⟩:=h1.1 b o v e;rw[g2] at p1;cases p1;simpa using p2
  have hle:S.le S':=⟨fun q o v e=>by
   show(if q=b∧base≤o∧o<base+elems.length*es then vs[o]? else S.cell q o)=some v;by_cases hc:q=b∧base≤o∧o<base+elems.length*es
   ·rw[ξ hc];obtain⟨rfl,_⟩:=hc;exact aa o v e
   ·rw[φ hc];exact e,fun q m e=>⟨m,e,m.le_refl⟩⟩
  have W:=ab S' hle;have Y:∀q o,q≠b→S'.cell q o=S.cell q o:=fun q o I=>φ fun hc=>I hc.1
  refine⟨S',μ,⟨⟨fun q o v e=>?_,h1.2⟩,fun j x N=>?_,fun i j x x' b c c' hi N hm Z=>?_,fun i x b c hi hm=>?_,h5,Sto.le_trans h6 hle,fun q hb hF=>?_,h8.trans W,fun q te' lo hi e o ho=>(Y q o fun eb=>by rw[eb] at e;have e:S.mapo b=_:=e;rw[g5.2] at e;cases e).trans (ac q te' lo hi e o ho)⟩,hs.size,hs.defers.evolve W,fun t v e=>aT.evolve W v _ (hs.env t v e)⟩
  ·by_cases hc:q=b∧base≤o∧o<base+elems.length*es
   ·have e':vs[o]?=some v:=by rw[←e];exact(ξ hc).symm
    obtain⟨rfl,_⟩:=hc;exact⟨⟨vs⟩,te,(0,0),g2,by simpa using e'⟩
   ·have e':S.cell q o=some v:=by rw[←e];exact(φ hc).symm
    exact h1.1 q o v e'
  ·by_cases I:j=id
   ·subst I;have J:some (AObj.arr te es elems 2)=some x:=by rw[←N];exact(aI _ _ _).symm
    cases J;refine⟨g0,.inr ⟨b,base,cap,vs,g1,g2,g3,g4,g5,cZ.mono hle _ _ g6,(fun e=>by cases e),fun o ho=>?_,fun _ i v hi=>?_⟩⟩
    ·show(if b=b∧base≤o∧o<base+elems.length*es then vs[o]? else S.cell b o)=none;rw[φ (by omega)];exact g8 o ho
    ·rw[At] at hi;split at hi
     ·rw[An] at hi;show(if b=b∧base≤base+i∧base+i<base+elems.length*es then vs[base+i]? else S.cell b (base+i))=some v;rw[ξ ⟨rfl,by omega,by omega⟩];exact hi
     ·cases hi
   ·have J:st.h j=some x:=by rw[←N];exact(aS _ _ _ I).symm
    refine(h2 j x J).evolve W rfl fun q c' hm=>⟨rfl,fun o=>Y q o ?_,rfl⟩
    rintro rfl;exact I (h3 j id x _ q c' _ J h hm g1)
  ·obtain⟨_,O⟩:=hold _ _ hi;obtain⟨_,J⟩:=hold _ _ N;exact h3 i j _ _ b c c' O J hm Z
  ·obtain⟨_,O⟩:=hold _ _ hi;exact h4 i _ b c O hm
  ·have I:q≠b:=by
    rintro rfl;rcases h4 id _ q _ h g1 with h9 | h9
    ·omega
    ·exact hF h9
   exact⟨fun o=>(Y q o I).trans ((h7 q hb hF).1 o),(h7 q hb hF).2⟩
theorem Sub.freeze {kf:List Nat}{st:St}{id te es:Nat}{elems:List (List C)}{fz:Nat}(h:st.h id=some (.arr te es elems fz)):Sub kf ⟨st.e,upd st.h id (some (.arr te es elems 2)),st.d⟩ st:=
 fun _ _ _ _ _ _ _ hs=>hs.freeze h
theorem Inv.empty {G:Ctx}{S:Sto}{μ:Mu}{H:c7}{w:World}{id:Nat}(te es:Nat) (h:Inv G S μ H w) (hid:H id=none):Inv G S (upd μ id none) (upd H id (some (.arr te es [] 0))) w∧Evolve S μ H S (upd μ id none) (upd H id (some (.arr te es [] 0))):=by
 have N:Evolve S μ H S (upd μ id none) (upd H id (some (.arr te es [] 0))):=eI hid _ _;refine⟨⟨h.holds,fun j x q=>?_,fun i j x x' b c c' hi q hm I=>?_,fun i x b c hi hm=>?_,h.frame,h.sle,h.sto,h.evo.trans N,h.fre⟩,N⟩
 ·by_cases J:j=id
  ·subst J;rw[aI] at q;cases q;exact⟨by simp,.inl ⟨aI _ _ _,rfl⟩⟩
  ·rw[aS _ _ _ J] at q;exact(h.obj j x q).evolve N (aS _ _ _ J) fun _ _ _=>⟨rfl,fun _=>rfl,rfl⟩
 ·have h1:i≠id:=fun e=>by subst e;rw[aI] at hm;cases hm
  have h2:j≠id:=fun e=>by subst e;rw[aI] at I;cases I
  rw[aS _ _ _ h1] at hi hm;rw[aS _ _ _ h2] at q I;exact h.inj i j x x' b c c' hi q hm I
 ·have h1:i≠id:=fun e=>by subst e;rw[aI] at hm;cases hm
  rw[aS _ _ _ h1] at hi hm;exact h.own i x b c hi hm
theorem Sub.own {kf:List Nat}{st:St}{t id:Nat}(te es:Nat) (h:st.e t=some (.one (.c .nl))) (hid:st.h id=none):Sub kf ⟨upd st.e t (some (.one (.hs id 0 0 0))),upd st.h id (some (.arr te es [] 0)),st.d⟩ st:=by
 intro G n S μ a w _ hs;obtain⟨hi,I⟩:=hs.inv.empty te es hid;refine⟨S,upd μ id none,⟨hi,hs.size,hs.defers.evolve I,fun s v e=>?_⟩⟩;by_cases q:s=t
 ·subst q;have hv:=hs.env s _ h;have e':v=.one (.hs id 0 0 0):=by
   have:some v=some (V.one (.hs id 0 0 0)):=by rw[←e];exact aI _ _ _
   cases this;rfl
  subst e';simp only[aT,b6,Rep] at hv ⊢;exact⟨⟨_,_,_,hv⟩,.inr ⟨te,es,[],0,aI _ _ _,le_refl _,fun _=>⟨le_refl _,.inl ⟨aI _ _ _,rfl,hv⟩⟩⟩⟩
 ·have e':st.e s=some v:=by rw[←e];exact(aS _ _ _ q).symm
  exact aT.evolve I v _ (hs.env s v e')
theorem Sub.ownCell {kf:List Nat}{st:St}{x k id tv:Nat}{cells:List R}(te es:Nat) (h:st.h x=some (.var tv cells)) (hk:cells[k]?=some (.c .nl)) (hid:st.h id=none):
  Sub kf ⟨st.e,upd (upd st.h id (some (.arr te es [] 0))) x (some (.var tv (cells.set k (.hs id 0 0 0)))),st.d⟩ st:=by
 intro G n S μ a w _ hs;obtain⟨hi,hE⟩:=hs.inv.empty te es hid;have Z:x≠id:=fun e=>by subst e;rw[h] at hid;cases hid
 have hx:upd st.h id (some (.arr te es [] 0)) x=some (.var tv cells):=by rw[aS _ _ _ Z];exact h
 obtain⟨b,vs,g1,g2,g3,g4⟩:=hi.obj x _ hx
 have J:Evolve S (upd μ id none) (upd st.h id (some (.arr te es [] 0))) S (upd μ id none) (upd (upd st.h id (some (.arr te es [] 0))) x (some (.var tv (cells.set k (.hs id 0 0 0))))):=⟨S.le_refl,fun j y I=>by
  by_cases q:j=x
  ·subst q;rw[hx] at I;cases I;exact⟨_,aI _ _ _,by simp[AObj.succ]⟩
  ·exact⟨y,by rw[aS _ _ _ q];exact I,y.succ_refl rfl⟩⟩
 have hold:∀j y,upd (upd st.h id (some (.arr te es [] 0))) x (some (.var tv (cells.set k (.hs id 0 0 0)))) j=some y→∃y',upd st.h id (some (.arr te es [] 0)) j=some y':=fun j y I=>by
  by_cases q:j=x
  ·subst q;exact⟨_,hx⟩
  ·rw[aS _ _ _ q] at I;exact⟨_,I⟩
 refine⟨S,upd μ id none,⟨⟨hi.holds,fun j y I=>?_,fun i j y y' b c c' N I hm hm'=>?_,fun i y b c N hm=>?_,hi.frame,hi.sle,hi.sto,hi.evo.trans J,hi.fre⟩,hs.size,hs.defers.evolve (hE.trans J),fun s v e=>aT.evolve (hE.trans J) v _ (hs.env s v e)⟩⟩
 ·by_cases q:j=x
  ·subst q;have O:some (AObj.var tv (cells.set k (.hs id 0 0 0)))=some y:=by rw[←I];exact(aI _ _ _).symm
   cases O;refine⟨b,vs,g1,g2,?_,g4⟩;have h3:=aW.evolve J _ _ g3;obtain⟨u,hu,W⟩:=g3.get k _ hk;simp only[b6,Rep] at W;have hkl:k<cells.length:=(Aa.1 hk).1
   have Y:cells.set k (.hs id 0 0 0)=bU cells k [.hs id 0 0 0]:=by
    unfold bU;rw[Cd,ξ hkl];simp
   have hvl:=g3.length;have hvs:vs=bU vs k [u]:=by
    unfold bU;apply Bw;intro i;simp only[B0,τ,Aq,Ak,length_nil,At,An];have hm:min k vs.length=k:=by omega
    rw[hm];by_cases c1:i<k
    ·simp[c1,show i<k+1 by omega]
    ·by_cases c2:i=k
     ·subst c2;simp[hu]
     ·simp[show ¬i<k+1 by omega,show k+1+(i-(k+1))=i by omega]
   rw[Y] at h3 ⊢;rw[hvs];refine p9 h3 ?_;simp only[aW,b6];exact⟨u,[],rfl,⟨⟨_,_,_,W⟩,.inr ⟨te,es,[],0,by rw[aS _ _ _ Z.symm];exact aI _ _ _,le_refl _,fun _=>⟨le_refl _,.inl ⟨aI _ _ _,rfl,W⟩⟩⟩⟩,rfl⟩
  ·have O:upd st.h id (some (.arr te es [] 0)) j=some y:=by rw[←I];exact(aS _ _ _ q).symm
   exact(hi.obj j y O).evolve J rfl fun _ _ _=>⟨rfl,fun _=>rfl,rfl⟩
 ·obtain⟨_,h1⟩:=hold _ _ N;obtain⟨_,h2⟩:=hold _ _ I;exact hi.inj i j _ _ b c c' h1 h2 hm hm'
 ·obtain⟨_,h1⟩:=hold _ _ N;exact hi.own i _ b c h1 hm
def aOf:Nat→List V→List (Nat×V)
 | _,[]=>[]
 | k,v::vs=>(k,v)::aOf (k+1) vs
inductive ResV (T:TT) (st:St):List ResultVar→List V→Prop
 | nil:ResV T st [] []
 | tmp {t v rs vs}:st.e t=some v→ResV T st rs vs→ResV T st (.tmp t::rs) (v::vs)
 | cell {a t i id off tv cells v rs vs}:st.e a=some (.one (.vp id off))→T[t]?=some (some i)→st.h id=some (.var tv cells)→Nat.ble (off+i.size) cells.length=true→qS i ((cells.drop off).take i.size)=some v→ResV T st rs vs→
   ResV T st (.cell a t::rs) (v::vs)
inductive Convs (h:c7):List V→List V→Prop
 | nil:Convs h [] []
 | cons {ids v v' vs vs'}:Conv h ids v v'→Convs h vs vs'→Convs h (v::vs) (v'::vs')
def aJc:List Value→Value
 | [u]=>u
 | us=>.tuple ⟨us⟩
def aIq:List V→V
 | [v]=>v
 | vs=>.tup vs
theorem Convs.rel {S:Sto}{μ:Mu}{H:c7}{w:World}:∀{vs vs':List V}{us:List Value},Convs H vs vs'→(∀id o,H id=some o→lW S μ H w id o)→bG S μ H vs us→bG S μ H vs' us:=by
 intro vs vs' us h
 induction h generalizing us with
 | nil=>intro _ hv;exact hv
 | cons hc _ J=>
  intro q hv;simp only[bG] at hv ⊢;obtain⟨v,I,rfl,h1,h2⟩:=hv;exact⟨v,I,rfl,hc.rel (fun _ _=>rfl) q h1,J q h2⟩
section
variable {P:Program}{T:TT}
theorem qP {G:Ctx}{n:Nat}{S:Sto}{μ:Mu}{st:St}{a:Act}{w:World}(O:Tok P T) (hs:Sim G n S μ st a w):∀{rs:List ResultVar}{vs:List V},ResV T st rs vs→
  ∃us,(rs.mapM fun(x:ResultVar)=>(match x with | .tmp t=>pure (a.tmps.getD t undef) | .cell p t=>do loadVar t (←asAddr (a.tmps.getD p undef)):Sem Value)).run P w=.ok us w∧bG S μ st.h vs us:=by
 intro rs vs h
 induction h with
 | nil=>exact⟨[],by simp,by simp[bG]⟩
 | @tmp t v rs vs ht _ J=>
  obtain⟨us,h1,h2⟩:=J;refine⟨a.tmps.getD t undef::us,?_,?_⟩
  ·simp only[List.mapM_cons,Ad,Ae,κ,h1]
  ·simp only[bG];exact⟨_,_,rfl,hs.env _ _ ht,h2⟩
 | @cell p t i id off tv cells v rs vs ht hi hh hb hl _ J=>
  obtain⟨us,h1,h2⟩:=J;have hv:=hs.env _ _ ht;simp only[aT,b6] at hv;obtain⟨t',cells',b,c,g1,g2,g3⟩:=hv;obtain⟨b',ws,W,Y,N,q4⟩:=hs.inv.obj id _ hh;rw[W] at g2;cases g2;have hlen:=Ap hb;have aa:=N.length;have q:=run_load (O.get hi) w b off _ (jZ Y off i.size) (a2n (by omega));have I:=lD ((N.drop off).take i.size) hl;generalize (if i.k.agg then Value.agg ⟨(ws.drop off).take i.size⟩ else((ws.drop off).take i.size).headD undef)=u at q I;refine⟨u::us,?_,by simp only[bG];exact⟨_,_,rfl,I,h2⟩⟩
  ·simp only[Instr.loadAt,Instr.sureAddr,Ad,Ae,κ] at q;have Z:(asAddr (a.tmps.getD p undef)).run P w=.ok ⟨b,off,none⟩ w:=by rw[g3];rfl
   simp only[List.mapM_cons,Ad,Ae,κ,Z,q,h1]
theorem rY {G:Ctx}{n:Nat}{S:Sto}{μ:Mu}{st:St}{a:Act}{w:World}{fn:Func}{vs:List V}(q:Tok P T) (hs:Sim G n S μ st a w) (h:ResV T st fn.results.toList vs):
  ∃us,(results fn a.tmps).run P w=.ok (aJc us) w∧bG S μ st.h vs us:=by
 obtain⟨us,h1,h2⟩:=qP q hs h;refine⟨us,?_,h2⟩;unfold results;rw[Array.mapM_eq_mapM_toList,Ad,Sem.run_map]
 erw [h1]
 simp only[κ,Ae];congr 1
 match us with
 | []=>simp[aJc]
 | [u]=>simp[aJc]
 | u::I::us=>simp[aJc]
def AObj.plain:AObj→Bool
 | .dfr=>false
 | _=>true
theorem aPk {o:AObj}{p:Prop}(h:o.succ p .dfr):o=.dfr:=by cases o<;>simp only[AObj.succ] at h;rfl
theorem Sim.take {P:Program}{G:Ctx}{n:Nat}{S:Sto}{μ:Mu}{st:St}{a:Act}{w:World}{id:Nat}{ids:List Nat}(hs:Sim G n S μ st a w) (hd:st.d=id::ids) (hG:∀id,G.h0 id≠some .dfr):
  ∃b Y w',a.defers={ target:=.collected b,args:= #[] }::Y∧(Instr.takeDeferred b).run P w=.ok [] w'∧Sim G n S μ ⟨st.e,upd st.h id none,ids⟩ { a with defers:=Y } w':=by
 have hm:=hs.defers;rw[hd] at hm;obtain⟨b,c,Y,h1,h2,h3,h4,h5,h6⟩:=hm;obtain⟨O,g1,g2,g3,g4⟩:=hs.inv.obj _ _ h3;rw[h2] at g1;cases g1;have hlt:b<w.heap.size:=(Cm.1 g2).1
 have Z:∀j,upd st.h id none j=none∨j≠id:=fun j=>by
  by_cases q:j=id
  ·exact .inl (by rw[q,aI])
  ·exact .inr q
 have aF9:∀{j o},upd st.h id none j=some o→j≠id∧st.h j=some o:=by
  intro j o q;rcases Z j with h | h
  ·rw[h] at q;cases q
  ·exact⟨h,by rwa [aS _ _ _ h] at q⟩
 have hE:Evo0 S μ st.h S μ (upd st.h id none):=⟨S.le_refl,fun j o q ho=>by
  have I:j≠id:=by rintro rfl;rw[h3] at q;cases q;exact ho rfl
  exact⟨o,by rw[aS _ _ _ I];exact q,o.succ_refl rfl⟩⟩
 refine⟨b,Y,w.putObj b (.deferred none),h1,run_takeDeferred g2,⟨⟨⟨fun O o v e=>?_,fun O mk e=>?_⟩,fun j o q=>?_,fun i j o o' W c1 c2 hi q m1 m2=>?_,fun i o W c1 hi m1=>?_,?_,hs.inv.sle,hs.inv.sto,⟨hs.inv.evo.le,fun j o q=>?_⟩,hs.inv.fre⟩,hs.size,?_,fun t v e=>aT.evolve0 hE _ _ (hs.env t v e)⟩⟩
 ·obtain⟨vs,t,fr,J,N⟩:=hs.inv.holds.1 O o v e;have:O≠b:=by rintro rfl;rw[g3] at e;cases e
  exact⟨vs,t,fr,by rw[World.putObj_heap_other this];exact J,N⟩
 ·have:O≠b:=by rintro rfl;rw[g4] at e;cases e
  rw[World.putObj_heap_other this];exact hs.inv.holds.2 O mk e
 ·obtain⟨J,N⟩:=aF9 q;refine(hs.inv.obj j o N).evolve0 hE rfl fun W c1 m1=>⟨World.putObj_heap_other ?_,fun _=>rfl,rfl⟩
  rintro rfl;exact J (hs.inv.inj j id o .dfr W c1 _ N h3 m1 h2)
 ·exact hs.inv.inj i j o o' W c1 c2 (aF9 hi).2 (aF9 q).2 m1 m2
 ·exact hs.inv.own i o W c1 (aF9 hi).2 m1
 ·obtain⟨f1,f2,f3,f4,f5,f6⟩:=hs.inv.frame;refine⟨f1,f2,f3,by simpa using f4,fun k hk hF=>?_,f6⟩;rw[World.putObj_heap_other (by omega)];exact f5 k hk hF
 ·obtain⟨o',J,N⟩:=hs.inv.evo.obj j o q;have I:j≠id:=by
   rintro rfl;rw[h3] at J;cases J;rw[aPk N] at q;exact hG _ q
  exact⟨o',by show upd st.h id none j=some o';rw[aS _ _ _ I];exact J,N⟩
 ·exact h6.go fun j q hjd=>⟨rfl,by
   have I:j≠id:=by rintro rfl;exact h5 q
   show upd st.h id none j=some .dfr
   rw[aS _ _ _ I];exact hjd⟩
theorem Sim.leave {P:Program}{fn:Func}{R:Ending→World→Prop}{G:Ctx}{n:Nat}{S:Sto}{μ:Mu}(N:∀id,G.h0 id≠some .dfr):∀(ids:List Nat) {e:Nat→Option V}{h:c7}{a:Act}{w:World},Sim G n S μ ⟨e,h,ids⟩ a w→
  (∀q w',(∀id o,h id=some o→o≠ .dfr→q id=some o)→Sim G n S μ ⟨e,q,[]⟩ { a with defers:=[] } w'→∃v,(results fn a.tmps).run P w'=.ok v w'∧R (.returned v) w')→
  LeavesInM (Wd none) 0 P fn a.tmps R a.defers .returning w
 | [],e,h,a,w,hs,hk=>by
  have hd:a.defers=[]:=hs.defers;rw[hd];refine hk h w (fun _ _ h _=>h) ?_;obtain⟨h1,h2,h3,h4⟩:=hs;exact⟨h1,h2,rfl,h4⟩
 | id::ids,e,h,a,w,hs,hk=>by
  have h3:h id=some .dfr:=by
   obtain⟨b,c,ds',q1,q2,Z,_⟩:=hs.defers;exact Z
  obtain⟨b,ds,w',h1,h2,O⟩:=hs.take (P:=P) rfl N;rw[h1];refine⟨by simp,.inl ⟨b,w',rfl,h2,?_⟩⟩;refine Sim.leave N ids (a:={ a with defers:=ds }) O fun q W hh I=>hk q W (fun j o J ho=>hh j o ?_ ho) I
  have Y:j≠id:=by rintro rfl;rw[h3] at J;cases J;exact ho rfl
  rw[aS _ _ _ Y];exact J
structure Fin (T:TT) (fn:Func) (st:St) (hin:List (Nat×AObj)) (res:V) (hout:List (Nat×AObj)):Prop where
 ex:∃vs vs',ResV T st fn.results.toList vs∧Convs st.h vs vs'∧aIq vs'=res
 out:dM (fun p=>∃o,st.h p.1=some o∧Ole (fun i=>i) o p.2) hout
 ok:(subset res.refs (keys hout)&&subset (cO hout) (keys hout)&&distinct (keys hout)&&subset (keys hin) (keys hout)&&(hin.all fun p=>p.2.plain)&&(hout.all fun p=>p.2.plain))=true
theorem ResV.keep {st:St}{I:c7}{d:List Nat}(hh:∀id o,st.h id=some o→o≠ .dfr→I id=some o):∀{rs:List ResultVar}{vs:List V},ResV T st rs vs→ResV T ⟨st.e,I,d⟩ rs vs:=by
 intro rs vs h
 induction h with
 | nil=>exact .nil
 | tmp h1 _ q=>exact .tmp h1 q
 | cell h1 h2 h3 h4 h5 _ q=>exact .cell h1 h2 (hh _ _ h3 (by simp)) h4 h5 q
theorem PureL.keep {h I:c7}(hh:∀id o,h id=some o→o≠ .dfr→I id=some o):∀{ids:List Nat}{rs:List R}{cs:List C},PureL h ids rs cs→PureL I ids rs cs:=by
 intro ids rs cs k
 induction k with
 | nil=>exact .nil
 | c h1 _ q=>exact .c h1 q
 | hs h1 h2 h3 _ q=>exact .hs (hh _ _ h1 (by simp)) h2 h3 q
 | any _ q=>exact .any q
 | fn _ q=>exact .fn q
 | ras h0 _ h1 h2 h3 _ J q=>exact .ras h0 J h1 h2 h3 q
theorem Convs.keep {h q:c7}(hh:∀id o,h id=some o→o≠ .dfr→q id=some o):∀{vs vs':List V},Convs h vs vs'→Convs q vs vs':=by
 intro vs vs' k
 induction k with
 | nil=>exact .nil
 | @cons ids v v' vs vs' h1 _ I=>
  refine .cons (ids:=ids) ?_ I;cases h1 with
  | refl=>exact .refl
  | one h=>exact .one (h.keep hh)
  | agg h=>exact .agg (h.keep hh)
  | pa h=>exact .pa (h.keep hh)
theorem a2g {X:Sto→Prop}{kf:List Nat}{f:FuncId}{fn:Func}{c:Code}{n:Nat}{args:List V}{hin hout:List (Nat×AObj)}{res:V}(hX:∀S μ w,X S→Ctx.keeps ⟨w,S,mL μ (look hin),μ,look hin⟩ kf) (hT:Tok P T) (hf:P.funcs[f]?=some fn) (hb:fn.body=some c) (hn:fn.ntmps=n) (hle:Nat.ble args.length n=true)
  (h:AWp none P n kf c (mk (aOf 0 args) hin) (fun ex st=>(ex=.normal∨ex=.ret)∧Fin T fn st hin res hout)):∀S μ w vals,X S→Inv ⟨w,S,mL μ (look hin),μ,look hin⟩ S μ (look hin) w→bG S μ (look hin) args vals→
  Calls P f ⟨vals⟩ w fun e w'=>∃S' μ' v,e=.returned v∧Inv ⟨w,S,mL μ (look hin),μ,look hin⟩ S' μ' (look hout) w'∧aT S' μ' (look hout) res v:=by
 intro S μ w vals hXS hI hv;refine(Wd.calls (ro:=none) (n:=0)).1 (callsIn_of_wp_marks hf hb trivial ?_);have hvl:∀(l:List V) (us:List Value),bG S μ (look hin) l us→us.length=l.length:=by
  intro l
  induction l with
  | nil=>intro us h;simp only[bG] at h;subst h;rfl
  | cons x l W=>
   intro us h;simp only[bG] at h;obtain⟨v,vs',rfl,_,h2⟩:=h;simp[W _ h2]
 have hvals:=hvl _ _ hv;have hle':=Ap hle;have aa:=hX S μ w hXS;refine h ⟨w,S,mL μ (look hin),μ,look hin⟩ S μ _ w _ ⟨aa,trivial⟩ ⟨hI,by simp;omega,rfl,fun t v ht=>?_⟩ ?_
 ·have key:∀(l:List V) (us:List Value) (k:Nat),bG S μ (look hin) l us→look (aOf k l) t=some v→∃j,t=k+j∧∃u,us[j]?=some u∧aT S μ (look hin) v u:=by
   intro l
   induction l with
   | nil=>intro us k _ h;simp[aOf,look] at h
   | cons x l W=>
    intro us k O hl;simp only[bG] at O;obtain⟨u,Y,rfl,h1,h2⟩:=O;simp only[aOf,look] at hl;split at hl
    ·rename_i hbq;cases hl;exact⟨0,by rw[ε hbq];rfl,u,rfl,h1⟩
    ·obtain⟨j,h3,u',h4,h5⟩:=W Y (k+1) h2 hl;exact⟨j+1,by omega,u',by simpa using h4,h5⟩
  obtain⟨j,h1,u,h2,h3⟩:=key args vals 0 hv ht;rw[A6] at h1;subst h1;have hj:t<vals.length:=(Aa.1 h2).1
  have:((⟨vals⟩:Array Value)++Array.replicate (fn.ntmps-(⟨vals⟩:Array Value).size) undef).getD t undef=u:=by
   rw[Ax,Array.getElem?_append_left (by simpa using hj)];simp[h2]
  show aT S μ (look hin) v (((⟨vals⟩:Array Value)++Array.replicate (fn.ntmps-(⟨vals⟩:Array Value).size) undef).getD t undef);rw[this];exact h3
 ·intro ex st' S' μ' a' w' ⟨hex,hfin⟩ hs;obtain⟨⟨vs,vs',O,hc,hres⟩,hout',hok⟩:=hfin;simp only[Ac] at hok;obtain⟨⟨⟨⟨⟨k1,k2⟩,k3⟩,k4⟩,k5⟩,k6⟩:=hok;have J:LeavesInM (Wd none) 0 P fn a'.tmps (fun e w'=>∃S' μ' v,e=.returned v∧Inv ⟨w,S,mL μ (look hin),μ,look hin⟩ S' μ' (look hout) w'∧aT S' μ' (look hout) res v) a'.defers .returning w':=by
   refine Sim.leave (G:=⟨w,S,mL μ (look hin),μ,look hin⟩) (n:=n) (S:=S') (μ:=μ') (fun id e=>?_) st'.d (e:=st'.e) (h:=st'.h) hs fun N w'' hh hs=>?_
   ·have:=(Au.1 k5) _ (bH (show look hin id=some .dfr from e));cases this
   have O:ResV T ⟨st'.e,N,[]⟩ fn.results.toList vs:=ResV.keep (fun id o ho Z=>hh id o ho Z) O;have hc:Convs N vs vs':=hc.keep fun id o ho Z=>hh id o ho Z
   have hout':dM (fun p=>∃o,N p.1=some o∧Ole (fun i=>i) o p.2) hout:=by
    have hk:∀l:List (Nat×AObj),(∀p∈l,p∈hout)→dM (fun p=>∃o,N p.1=some o∧Ole (fun i=>i) o p.2) l:=by
     intro l
     induction l with
     | nil=>intro _;trivial
     | cons p l W=>
      intro hl;refine⟨?_,W fun q hq=>hl q (by simp[hq])⟩;obtain⟨o,g1,g2⟩:=hout'.mem p (hl p (by simp));refine⟨o,hh _ _ g1 ?_,g2⟩;rintro rfl;have hp:=(Au.1 k6) p (hl p (by simp));cases hq:p.2<;>rw[hq] at g2 hp<;>cases g2;cases hp
    exact hk hout fun p hp=>hp
   obtain⟨us,h1,h2⟩:=rY hT hs O;refine⟨_,h1,?_⟩;have h3:=hc.rel hs.inv.obj h2;have I:∀i∈keys hout,Good N (look hout) (fun i=>i) i:=by
    intro i hi;obtain⟨o',ab⟩:=cQ hi;obtain⟨o,g1,g2⟩:=hout'.mem _ (bH ab);exact⟨o,o',g1,ab,g2⟩
   have hv4:aT S' μ' N res (aJc us):=by
    rw[←hres]
    match vs',us,h3 with
    | [],us,h3=>simp only[bG] at h3;subst h3;simp[aIq,aJc,aT,bG]
    | [v],us,h3=>
     simp only[bG] at h3;obtain⟨u,Y,rfl,h5,rfl⟩:=h3;exact h5
    | v::v'::l,us,h3=>
     have h3':=h3;simp only[bG] at h3';obtain⟨u,Y,rfl,_,u',us'',rfl,_,_⟩:=h3';simp only[aIq,aJc,aT];exact⟨_,rfl,h3⟩
   have hI':Inv ⟨w,S,mL μ (look hin),μ,look hin⟩ S' μ' (look hout) w'':=by
    refine⟨hs.inv.holds,fun id o ho=>?_,fun i j o o' b c c' hi hj hm hm'=>?_,fun i o b c hi hm=>?_,hs.inv.frame,hs.inv.sle,hs.inv.sto,⟨hs.inv.evo.le,fun id o ho=>?_⟩,hs.inv.fre⟩
    ·obtain⟨o1,g1,g2⟩:=hout'.mem _ (bH ho);exact(hs.inv.obj _ _ g1).ren g2 fun i hi=>I i (bB k2 i (iP (bH ho) i hi))
    ·obtain⟨o1,g1,g2⟩:=hout'.mem _ (bH hi);obtain⟨o2,g3,g4⟩:=hout'.mem _ (bH hj);exact hs.inv.inj _ _ _ _ b c c' g1 g3 hm hm'
    ·obtain⟨o1,g1,g2⟩:=hout'.mem _ (bH hi);exact hs.inv.own _ _ b c g1 hm
    ·obtain⟨o',(g1:N id=some o'),g2⟩:=hs.inv.evo.obj id o ho;have hk:id∈keys hin:=Af.2 ⟨_,bH (show look hin id=some o from ho),rfl⟩;obtain⟨o1,o2,g3,g4,g5⟩:=I id (bB k4 id hk);rw[g1] at g3;cases g3;exact⟨o2,g4,AObj.succ_trans g2 g5.succ fun e _=>e⟩
   have hR:aT S' μ' (look hout) res (aJc us):=by
    have:=aT.ren (H:=N) (H':=look hout) (σ:=fun i=>i) res _ (fun i hi=>I i (bB k1 i hi)) (by rw[V.ren_id];exact hv4);exact this
   exact⟨S',μ',_,rfl,hI',hR⟩
  rcases hex with rfl | rfl
  ·exact J
  ·exact J
end
section
variable {P:Program}{T:TT}
theorem bM {f:FuncId}{fn:Func}{c:Code}{n:Nat}{args:List V}{hin hout:List (Nat×AObj)}{res:V}(q:Tok P T) (hf:P.funcs[f]?=some fn) (hb:fn.body=some c) (hn:fn.ntmps=n) (hle:Nat.ble args.length n=true)
  (h:AWp none P n (keys hin) c (mk (aOf 0 args) hin) (fun ex st=>(ex=.normal∨ex=.ret)∧Fin T fn st hin res hout)):aQ P f args hin res hout:=
 fun S μ w vals I hv=>a2g (X:=fun _=>True) (fun _ _ _ _=>o9) q hf hb hn hle h S μ w vals trivial I hv
end
def kE (P:Program) (n:Nat) (ops:Array Oper) (draw:Bool) (k:Nat) (st:St) (pre:REs) (Q:St→Prop):Prop:=
 ∃xs st',Run P n ops k st xs st'∧Nat.beq (k+xs.length) ops.size=true∧(!draw || (fG (pC ops) (pre.reverse++xs) []&&i7 ops))=true∧Q st'
section
variable {ro:Option Nat}{P:Program}{n:Nat}{ops:Array Oper}{draw:Bool}{k:Nat}{st:St}{pre:REs}{Q:St→Prop}
theorem k_ {rd:Rd}{f:Eff}(h:GStep P n ops k st rd f) (hk:kE P n ops draw (k+1) (f.apply st) ((rd,f)::pre) Q):kE P n ops draw k st pre Q:=by
 obtain⟨xs,st',h1,h2,h3,h4⟩:=hk;refine⟨(rd,f)::xs,st',.cons h h1,?_,?_,h4⟩
 ·rw[Ak,show k+(xs.length+1)=k+1+xs.length by omega];exact h2
 ·rw[List.reverse_cons,A0] at h3;exact h3
theorem z_ (h1:Nat.beq k ops.size=true) (h2:(!draw || (fG (pC ops) pre.reverse []&&i7 ops))=true) (q:Q st):kE P n ops draw k st pre Q:=
 ⟨[],st,.nil,h1,by rw[A8];exact h2,q⟩
theorem aE {kf:List Nat}{id:Nat}{Q:Exit→St→Prop}(hm:P.follows .mixedOrders=true) (h:kE P n ops draw 0 st [] (fun st'=>Q .normal st')):AWp ro P n kf (.region id ops draw) st Q:=by
 obtain⟨xs,st',h1,h2,h4,h3⟩:=h;rw[A6] at h2;exact vS hm h1 h2 h4 h3
theorem aWt {kf:List Nat}{id:Nat}{Q:Exit→St→Prop}(st2:St) (hm:P.follows .mixedOrders=true) (h:kE P n ops draw 0 st [] (fun st'=>Sub kf st2 st')) (q:Q .normal st2):AWp ro P n kf (.region id ops draw) st Q:=by
 obtain⟨xs,st',h1,h2,h4,h3⟩:=h;rw[A6] at h2;refine AWp.post (Q:=fun ex s=>ex=.normal∧Sub kf st2 s) (vS hm h1 h2 h4 ⟨rfl,h3⟩) ?_;rintro ex s ⟨rfl,hs⟩;exact⟨st2,hs,q⟩
theorem g_ {i:Nat}{o:Oper}{rd:Rd}{f:Eff}(ho:ops[i]?=some o) (q:o.guard=none) (h:Step P n o st rd f):GStep P n ops i st rd f:=GStep.plain ho q h
theorem AWp.cut {kf:List Nat}{c:Code}{Q:Exit→St→Prop}(st2:St) (h:AWp ro P n kf c st (fun ex s=>match ex with | .normal=>Sub kf st2 s | ex=>Q ex s)) (q:Q .normal st2):AWp ro P n kf c st Q:=by
 refine AWp.post h ?_;intro ex s hs;cases ex with
 | normal=>exact⟨st2,hs,q⟩
 | _=>exact⟨s,Sub.refl _ _,hs⟩
end
section
variable {P:Program}{n:Nat}{o:Oper}{st:St}{d:Nat}{T:TT}
theorem aYq {J ty:TypeId}{x y:Operand}{a b:Int}(ho:o.op=.binOp .add J x y ty) (hd:o.dst=some d) (q:d<n) (hx:opv st x=some (I .i64 a)) (N:opv st y=some (I .i64 b)) (O: -9223372036854775808≤a+b∧a+b≤9223372036854775807):
  Step P n o st ⟨opr x++opr y,[]⟩ ⟨some (d,some (I .i64 (a+b))),[]⟩:=aP4 ho hd q hx N (Ca _ O)
theorem aX7 {J ty:TypeId}{x y:Operand}{a b:Int}(ho:o.op=.binOp .sub J x y ty) (hd:o.dst=some d) (q:d<n) (hx:opv st x=some (I .i64 a)) (N:opv st y=some (I .i64 b)) (O: -9223372036854775808≤a-b∧a-b≤9223372036854775807):
  Step P n o st ⟨opr x++opr y,[]⟩ ⟨some (d,some (I .i64 (a-b))),[]⟩:=aPt ho hd q hx N (Ca _ O)
theorem aYk {J ty:TypeId}{x y:Operand}{a b:Int}(ho:o.op=.binOp .mul J x y ty) (hd:o.dst=some d) (q:d<n) (hx:opv st x=some (I .i64 a)) (N:opv st y=some (I .i64 b)) (O: -9223372036854775808≤a*b∧a*b≤9223372036854775807):
  Step P n o st ⟨opr x++opr y,[]⟩ ⟨some (d,some (I .i64 (a*b))),[]⟩:=aPy ho hd q hx N (Ca _ O)
theorem aSm {N ty:TypeId}{x y:Operand}{a b:Int}(ho:o.op=.binOp .quo N x y ty) (hd:o.dst=some d) (J:d<n) (hx:opv st x=some (I .i64 a)) (O:opv st y=some (I .i64 b)) (q:0≤a∧a≤9223372036854775807∧1≤b):
  Step P n o st ⟨opr x++opr y,[]⟩ ⟨some (d,some (I .i64 (a/b))),[]⟩:=aYg ho hd J hx O (by omega) (by
   have h1:a.tdiv b=a/b:=Int.tdiv_eq_ediv_of_nonneg q.1;rw[h1];refine Ca _ ⟨?_,?_⟩
   ·have:=Int.ediv_nonneg q.1 (show(0:Int)≤b by omega);omega
   ·have:=Int.ediv_le_self b q.1;omega)
theorem aSl {J ty:TypeId}{x y:Operand}{k:IntKind}{a b:Int}(ho:o.op=.binOp .rem J x y ty) (hd:o.dst=some d) (q:d<n) (hx:opv st x=some (I k a)) (N:opv st y=some (I k b)) (O:0≤a∧1≤b):
  Step P n o st ⟨opr x++opr y,[]⟩ ⟨some (d,some (I k (a%b))),[]⟩:=aYe ho hd q hx N (by omega) (Int.tmod_eq_emod_of_nonneg O.1)
theorem iZ (op:BinOp) (t:TypeId) (x y:Operand) (u v:Value) (w:World) (h1:(match u with | .agg _=>true | .nilIface=>true | _=>false)=false):(eqGuard op t x y u v).run P w=.ok () w:=by
 unfold eqGuard;cases u<;>simp at h1<;>(split<;>rfl)
theorem uK {t:TypeId}(hu:P.underlying t=some .bool) (d:Nat) (a b:Bool) (w:World):(Op.equalIn (d+1) t (.bool a) (.bool b)).run P w=.ok (a==b) w:=by
 simp only[Op.equalIn,Ad,Ao hu w,κ,Ae]
theorem zA {t e:TypeId}(hu:P.underlying t=some (.pointer e)) (d:Nat) (p:Option Addr) (w:World):(Op.equalIn (d+1) t (.pointer p) (.pointer none)).run P w=.ok p.isNone w:=by
 cases p<;>simp only[Op.equalIn,Ad,Ao hu w,κ,Ae]<;>rfl
theorem aPq {t e:TypeId}(hu:P.underlying t=some (.slice e)) (d:Nat) (p:Option Addr) (l c:Nat) (w:World):(Op.equalIn (d+1) t (.slice p l c) (.slice none 0 0)).run P w=.ok p.isNone w:=by
 cases p<;>simp only[Op.equalIn,Ad,Ao hu w,κ,Ae]<;>rfl
theorem aCm {q ty:TypeId}{x y:Operand}{a:Act}{w:World}{u v:Value}{b:Bool}(ho:o.op=.binOp .eql q x y ty) (hx:a.eval x=u) (J:a.eval y=v) (N:(eqGuard .eql q x y u v).run P w=.ok () w)
  (hb:binOp .eql q u v=(do pure (.bool (←Op.equal q u v)))) (O:(Op.equalIn (9999+1) q u v).run P w=.ok b w):(execOp a.eval o).run P w=.ok (.value (.bool b)) w:=by
 have I:(Op.equal q u v).run P w=.ok b w:=O;simp only[execOp,ho,hx,J,Ad,N,κ,hb,I,Ae]
theorem aJ4 {q ty:TypeId}{x y:Operand}{a:Act}{w:World}{u v:Value}{b:Bool}(ho:o.op=.binOp .neq q x y ty) (hx:a.eval x=u) (J:a.eval y=v) (N:(eqGuard .neq q x y u v).run P w=.ok () w)
  (hb:binOp .neq q u v=(do pure (.bool (!(←Op.equal q u v))))) (O:(Op.equalIn (9999+1) q u v).run P w=.ok b w):(execOp a.eval o).run P w=.ok (.value (.bool (!b))) w:=by
 have I:(Op.equal q u v).run P w=.ok b w:=O;simp only[execOp,ho,hx,J,Ad,N,κ,hb,I,Ae]
theorem aYo {q ty:TypeId}{i:TI}{x y:Operand}{a b:Bool}(J:Tok P T) (ho:o.op=.binOp .eql q x y ty) (hd:o.dst=some d) (I:d<n) (hi:T[q]?=some (some i)) (hk:i.k=.bool) (hx:opv st x=some (B a)) (N:opv st y=some (B b)):
  Step P n o st ⟨opr x++opr y,[]⟩ ⟨some (d,some (B (a==b))),[]⟩:=by
 refine Step.value hd I fun _ ha _ _ _ ac w hs=>?_
 have h1:=j8 (aM hs hx (eO ha).1);have h2:=j8 (aM hs N (eO ha).2);exact⟨.bool (a==b),aCm ho h1 h2 (iZ _ _ _ _ _ _ _ rfl) rfl (uK ((J.get hi).bool hk) _ _ _ _),by simp[aT,b6,Rep]⟩
theorem aYn {q ty:TypeId}{i:TI}{x y:Operand}{a b:Bool}(J:Tok P T) (ho:o.op=.binOp .neq q x y ty) (hd:o.dst=some d) (I:d<n) (hi:T[q]?=some (some i)) (hk:i.k=.bool) (hx:opv st x=some (B a)) (N:opv st y=some (B b)):
  Step P n o st ⟨opr x++opr y,[]⟩ ⟨some (d,some (B (!(a==b)))),[]⟩:=by
 refine Step.value hd I fun _ ha _ _ _ ac w hs=>?_
 have h1:=j8 (aM hs hx (eO ha).1);have h2:=j8 (aM hs N (eO ha).2);exact⟨.bool (!(a==b)),aJ4 ho h1 h2 (iZ _ _ _ _ _ _ _ rfl) rfl (uK ((J.get hi).bool hk) _ _ _ _),by simp[aT,b6,Rep]⟩
def zP:V→Option Bool
 | .one (.c .np)=>some true
 | .one (.c (.pt _))=>some false
 | .one (.vp _ _)=>some false
 | _=>none
theorem uS {S:Sto}{μ:Mu}{H:c7}{v:V}{u:Value}{b:Bool}(h:aT S μ H v u) (hb:zP v=some b):∃p,u=.pointer p∧p.isNone=b:=by
 unfold zP at hb;split at hb
 ·cases hb;simp only[aT,b6,Rep] at h;exact⟨none,h,rfl⟩
 ·cases hb;simp only[aT,b6,Rep] at h;obtain⟨b,o,h,_⟩:=h;exact⟨_,h,rfl⟩
 ·cases hb;simp only[aT,b6] at h;obtain⟨t,cells,b,c,_,_,h⟩:=h;exact⟨_,h,rfl⟩
 ·cases hb
theorem aYi {q ty e:TypeId}{i:TI}{x y:Operand}{v:V}{b:Bool}(J:Tok P T) (ho:o.op=.binOp .eql q x y ty) (hd:o.dst=some d) (I:d<n) (hi:T[q]?=some (some i)) (hk:i.k=.pt e) (hx:opv st x=some v) (hv:zP v=some b) (N:opv st y=some (.one (.c .np))):
  Step P n o st ⟨opr x++opr y,[]⟩ ⟨some (d,some (B b)),[]⟩:=by
 refine Step.value hd I fun _ ha _ _ _ ac w hs=>?_
 obtain⟨p,h1,hp⟩:=uS (aM hs hx (eO ha).1) hv;have h2:=aM hs N (eO ha).2;simp only[aT,b6,Rep] at h2;subst hp;exact⟨.bool p.isNone,aCm ho h1 h2 (iZ _ _ _ _ _ _ _ rfl) (by cases p<;>rfl) (zA ((J.get hi).ptr hk) _ _ _),by simp[aT,b6,Rep]⟩
theorem aYh {q ty e:TypeId}{i:TI}{x y:Operand}{v:V}{b:Bool}(J:Tok P T) (ho:o.op=.binOp .neq q x y ty) (hd:o.dst=some d) (I:d<n) (hi:T[q]?=some (some i)) (hk:i.k=.pt e) (hx:opv st x=some v) (hv:zP v=some b) (N:opv st y=some (.one (.c .np))):
  Step P n o st ⟨opr x++opr y,[]⟩ ⟨some (d,some (B (!b))),[]⟩:=by
 refine Step.value hd I fun _ ha _ _ _ ac w hs=>?_
 obtain⟨p,h1,hp⟩:=uS (aM hs hx (eO ha).1) hv;have h2:=aM hs N (eO ha).2;simp only[aT,b6,Rep] at h2;subst hp;exact⟨.bool (!p.isNone),aJ4 ho h1 h2 (iZ _ _ _ _ _ _ _ rfl) (by cases p<;>rfl) (zA ((J.get hi).ptr hk) _ _ _),by simp[aT,b6,Rep]⟩
def aPn:V→Option Bool
 | .one (.c .nl)=>some true
 | .one (.c (.sn _ _))=>some false
 | _=>none
theorem aJw {S:Sto}{μ:Mu}{H:c7}{v:V}{u:Value}{b:Bool}(h:aT S μ H v u) (hb:aPn v=some b):∃p l c,u=.slice p l c∧p.isNone=b:=by
 unfold aPn at hb;split at hb
 ·cases hb;simp only[aT,b6,Rep] at h;exact⟨none,_,_,h,rfl⟩
 ·cases hb;simp only[aT,b6,Rep] at h;obtain⟨b,o,sp,l,c,h,_⟩:=h;exact⟨_,_,_,h,rfl⟩
 ·cases hb
theorem aUg {q ty e:TypeId}{i:TI}{x y:Operand}{v:V}{b:Bool}(J:Tok P T) (ho:o.op=.binOp .eql q x y ty) (hd:o.dst=some d) (I:d<n) (hi:T[q]?=some (some i)) (hk:i.k=.sl e) (hx:opv st x=some v) (hv:aPn v=some b) (N:opv st y=some (.one (.c .nl))):
  Step P n o st ⟨opr x++opr y,[]⟩ ⟨some (d,some (B b)),[]⟩:=by
 refine Step.value hd I fun _ ha _ _ _ ac w hs=>?_
 obtain⟨p,l,c,h1,hp⟩:=aJw (aM hs hx (eO ha).1) hv;have h2:=aM hs N (eO ha).2;simp only[aT,b6,Rep] at h2;subst hp;exact⟨.bool p.isNone,aCm ho h1 h2 (iZ _ _ _ _ _ _ _ rfl) (by cases p<;>rfl) (aPq ((J.get hi).slice hk) _ _ _ _ _),by simp[aT,b6,Rep]⟩
end
theorem take_map {α β:Type}{f:α→β}{l:List α}:(l.map f).take l.length=l.map f:=A3 (by simp)
theorem Ole.arrE {σ:Nat→Nat}{te es fz:Nat}{e e':List (List C)}(h:e=e'):Ole σ (.arr te es e fz) (.arr te es e' 1):=by subst h;exact .arr1
section
variable {P:Program}{n:Nat}{o:Oper}{st:St}{d:Nat}{T:TT}
def aAq (st:St):List Operand→Option (List R)
 | []=>some []
 | x::xs=>match opv st x with
  | some (.one r)=>match aAq st xs with | some l=>some (r::l) | none=>none
  | _=>none
theorem aAp {G:Ctx}{S:Sto}{μ:Mu}{st':St}{a:Act}{w:World}(hs:Sim G n S μ st' a w):∀(xs:List Operand) (l:List R),aAq st xs=some l→(∀t∈dH xs,st'.e t=st.e t)→aW S μ st'.h l (xs.map a.eval)
 | [],l,h,_=>by simp[aAq] at h;subst h;simp[aW]
 | x::xs,l,h,ht=>by
  simp only[aAq] at h;split at h
  ·rename_i r I;split at h
   ·rename_i l' q;cases h;have h1:=aM hs I fun t h=>ht t (by simp[dH,h])
    simp only[aT] at h1;simp only[Al,aW];exact⟨_,_,rfl,h1,aAp hs xs l' q fun t h=>ht t (by simp[dH,h])⟩
   ·cases h
  ·cases h
theorem uQ {f:FuncId}{caps:Array Operand}{l:List R}(ho:o.op=.makeFunc (.func f) #[] caps) (hd:o.dst=some d) (q:d<n) (hc:aAq st caps.toList=some l):Step P n o st ⟨dH caps.toList,[]⟩ ⟨some (d,some (.one (.clo f l))),[]⟩:=by
 refine Step.value hd q fun st' ha _ S μ ac w hs=>?_
 have h:=aAp hs _ _ hc ha.1;refine⟨.func (.func f) #[] (caps.map ac.eval),by simp[execOp,ho,Instr.makeFunc],?_⟩;simp only[aT,b6];refine⟨caps.toList.map ac.eval,?_,h⟩;congr 1;apply Array.ext';simp
theorem zN {f:FuncId}{x:Operand}{c:R}(ho:o.op=.makeFunc (.func f) #[x] #[]) (hd:o.dst=some d) (q:d<n) (hx:opv st x=some (.one c)):Step P n o st ⟨opr x,[]⟩ ⟨some (d,some (.one (.mth f c))),[]⟩:=by
 refine Step.value hd q fun st' ha _ S μ ac w hs=>?_
 have h:=aM hs hx ha.1;refine⟨.func (.func f) #[ac.eval x] #[],by simp[execOp,ho,Instr.makeFunc],?_⟩;simp only[aT,b6] at h ⊢;exact⟨_,rfl,h⟩
def j4 (k:List UInt8):List (List C)→Option (List C)
 | []=>none
 | (.str s::vs)::r=>if s=k then some vs else j4 k r
 | _::r=>j4 k r
def aH1 (k:List UInt8) (vs:List C):List (List C)→List (List C)
 | []=>[.str k::vs]
 | (.str s::us)::r=>if s=k then(.str k::vs)::r else(.str s::us)::aH1 k vs r
 | x::r=>x::aH1 k vs r
theorem aG0 (a b:List UInt8):((ByteArray.mk ⟨a⟩)==(ByteArray.mk ⟨b⟩))=decide (b=a):=by
 rw[beq_toListBytes,kZ,kZ,Bool.beq_eq_decide_eq];by_cases h:a=b
 ·subst h;simp
 ·have q:¬b=a:=fun e=>h e.symm
  simp[h,q]
theorem kB {S:Sto}{agg:Bool}{k:List UInt8}:∀(l:List (List C)) (es:List MapEntry) (i:Nat),b7 S agg l es→kJ l→
  (∀vs,j4 k l=some vs→∃j e,Instr.findNow .string (.string ⟨⟨k⟩⟩) es i=some (some (i+j,e.val))∧es[j]?=some e∧(∃us,cZ S vs us∧e.val=(if agg then .agg ⟨us⟩ else us.headD undef)∧(agg=false→us.length=1))∧e.key=.string ⟨⟨k⟩⟩∧j<es.length∧
   ∀ws,aH1 k ws l=(l.take j)++(.str k::ws)::l.drop (j+1))∧
  (j4 k l=none→Instr.findNow .string (.string ⟨⟨k⟩⟩) es i=some none∧∀ws,aH1 k ws l=l++[.str k::ws])
 | [],es,i,h,_=>by
  simp only[b7] at h;subst h;exact⟨fun vs hv=>by simp[j4] at hv,fun _=>⟨rfl,fun ws=>rfl⟩⟩
 | r::l,es,i,h,hm=>by
  simp only[b7] at h;obtain⟨e,I,rfl,⟨vs,h1,h2,h3⟩,h4⟩:=h
  match r,h1,hm with
  | .str s::us,h1,hm=>
   simp only[kJ] at hm;simp only[cZ] at h1;obtain⟨v,vs',hv,h5,h6⟩:=h1;simp only[Rep] at h5;injection hv with W Y;subst Y;have q:e.key=.string ⟨⟨s⟩⟩:=by rw[W,h5]
   have Z:=kB (k:=k) l I (i+1) h4 hm;by_cases hs:s=k
   ·subst hs;refine⟨fun ws hw=>?_,fun hn=>by simp[j4] at hn⟩;simp only[j4,B3,Option.some.injEq] at hw;subst hw;refine⟨0,e,?_,rfl,⟨vs,h6,h2,h3⟩,q,by simp,fun ws=>by simp[aH1]⟩;simp only[Instr.findNow,q,Instr.sameNow];rw[aG0];simp
   ·have J:Instr.findNow .string (.string ⟨⟨k⟩⟩) (e::I) i=Instr.findNow .string (.string ⟨⟨k⟩⟩) I (i+1):=by
     simp only[Instr.findNow,q,Instr.sameNow];rw[aG0];simp[hs]
    refine⟨fun ws hw=>?_,fun hn=>?_⟩
    ·simp only[j4,hs,Br] at hw;obtain⟨j,e',N,O,q3,q4,q5,q6⟩:=Z.1 ws hw;refine⟨j+1,e',?_,by simpa using O,q3,q4,by simpa using q5,fun ws=>?_⟩
     ·rw[J,N,show i+1+j=i+(j+1) by omega]
     ·simp only[aH1,hs,Br,q6 ws];simp
    ·simp only[j4,hs,Br] at hn;obtain⟨N,O⟩:=Z.2 hn;exact⟨by rw[J,N],fun ws=>by simp only[aH1,hs,Br,O ws];simp⟩
  | [],h1,_=>simp only[cZ] at h1;cases h1
  | .int _ _::_,_,hm=>simp[kJ] at hm
  | .bool _::_,_,hm=>simp[kJ] at hm
  | .nl::_,_,hm=>simp[kJ] at hm
  | .sl _ _::_,_,hm=>simp[kJ] at hm
  | .sn _ _::_,_,hm=>simp[kJ] at hm
  | .np::_,_,hm=>simp[kJ] at hm
  | .pt _::_,_,hm=>simp[kJ] at hm
  | .mp _ _::_,_,hm=>simp[kJ] at hm
  | .zv _::_,_,hm=>simp[kJ] at hm
theorem lO {t:TypeId}(hu:P.underlying t=some .string) (b:Bool) (d:Nat) (s:ByteArray) (w:World):(Instr.checkKey b (d+1) t (.string s)).run P w=.ok () w:=by
 simp only[Instr.checkKey,Ad,Ao hu w,κ,Ae]
inductive MapE (st:St):List Nat→V→Bool→List (List C)→Prop
 | mr {id agg ents}:st.h id=some (.map agg ents)→MapE st [id] (.one (.mr id)) agg ents
 | mp {agg ents}:MapE st [] (.one (.c (.mp agg ents))) agg ents
 | nil {agg}:MapE st [] (.one (.c (.zv 0))) agg []
theorem MapE.rel {G:Ctx}{S:Sto}{μ:Mu}{st':St}{a:Act}{w:World}{ids:List Nat}{v:V}{agg:Bool}{ents:List (List C)}{u:Value}(hs:Sim G n S μ st' a w) (h:MapE st ids v agg ents) (q:kJ ents) (hi:∀i∈ids,st'.h i=st.h i) (hv:aT S μ st'.h v u):
  ∃es:Array MapEntry,b7 S agg ents es.toList∧((u=.map none∧es= #[])∨∃b clk,u=.map (some b)∧w.heap[b]?=some (.map es clk)):=by
 cases h with
 | mr hh=>
  have I:=(hi _ (by simp)).trans hh;simp only[aT,b6] at hv;obtain⟨N,J,b,c,h1,h2,h3⟩:=hv;rw[I] at h1;cases h1;obtain⟨O,es,clk,g1,g2,g3,g4⟩:=hs.inv.obj _ _ I;rw[h2] at g1;cases g1;exact⟨es,g3.rep q,.inr ⟨_,clk,h3,g2⟩⟩
 | mp=>
  simp only[aT,b6,Rep] at hv;obtain⟨b,es,clk,h1,h2,h3⟩:=hv;refine⟨es,h3.elim id fun h3=>?_,.inr ⟨b,clk,h1,hs.inv.holds.2 _ _ h2⟩⟩;cases ents with
  | nil=>simp only[aIw] at h3
  | cons r l=>simp only[aIw] at h3;rw[h3.1] at q;simp[kJ] at q
 | nil=>
  simp only[aT,b6,Rep,aW1] at hv;exact⟨#[],by simp[b7],.inl ⟨hv,rfl⟩⟩
def jI (i:TI) (r:Option (List C)):V:=match r with
 | some vs=>if i.k.agg then .pa vs else match vs with | [c]=>.one (.c c) | _=>.tup []
 | none=>if i.k.agg then .pa i.zero else match i.zero with | [c]=>.one (.c c) | _=>.tup []
def tX (r:Option (List C)):Bool:=r.isSome
def vE (r:Option (Nat×Value)) (z:Value):Value:=match r with | some p=>p.2 | none=>z
theorem gP (w:World) (b:Nat) (es:Array MapEntry) (clk:Nat) (h:w.heap[b]?=some (.map es clk)):(getObj b).run P w=.ok (.map es clk) w:=by
 exact MapKept.run_getObj_map h
theorem aKh {t kt et:TypeId}{i ki ei:TI}{x y:Operand}{ok:Bool}{ids:List Nat}{agg:Bool}{k:List UInt8}{r:Option (List C)}(W:Tok P T) (ho:o.op=.lookup t x y ok) (hd:o.dst=some d) (hdn:d<n) (hi:T[t]?=some (some i)) (hk:i.k=.mp kt et)
  (hki:T[kt]?=some (some ki)) (hkk:ki.k=.str) (Y:T[et]?=some (some ei)) (I:ei.k.agg=agg) (hy:opv st y=some (Go.AM.T k))
  (hrel:∀(st':St),mN ⟨opr x++opr y,ids⟩ st st'→∀(G:Ctx) (S:Sto) (μ:Mu) (a:Act) (w:World),Sim G n S μ st' a w→∃(es:Array MapEntry) (ents:List (List C)),kJ ents∧j4 k ents=r∧b7 S agg ents es.toList∧((a.eval x=.map none∧es= #[])∨∃b clk,a.eval x=.map (some b)∧w.heap[b]?=some (.map es clk))):
  Step P n o st ⟨opr x++opr y,ids⟩ ⟨some (d,some (if ok then .tup [jI ei r,B (tX r)] else jI ei r)),[]⟩:=by
 refine Step.value hd hdn fun st' ha G S μ a w hs=>?_
 obtain⟨es,ents,hms,hr,h1,h2⟩:=hrel st' ha G S μ a w hs;have h3:=kY (aM hs hy fun t h=>ha.1 t (by simp[h]));have hu:=Ao ((W.get hi).map hk) w;have Z:=(W.get hki).str hkk;obtain⟨z,hz,hzr,hz1,hz2⟩:=(W.get Y).zero_run;have J:=kB (k:=k) ents es.toList 0 h1 hms;have key:∃r0:Option (Nat×Value),(Instr.findKey kt (.string ⟨⟨k⟩⟩) es.toList).run P w=.ok r0 w∧aT S μ st'.h (jI ei r) (vE r0 z)∧tX r=r0.isSome:=by
  cases N:j4 k ents with
  | some vs=>
   obtain⟨j,e,q1,q2,⟨us,O,q4,q5⟩,q6,q7,q8⟩:=J.1 vs N;refine⟨some (0+j,e.val),?_,?_,by rw[←hr,N];rfl⟩
   ·simp only[Instr.findKey,Ad,Ao Z w,κ,q1,Ae]
   ·rw[←hr,N];simp only[jI,I];cases agg with
    | true=>
     simp only[B3,aT] at q4 ⊢;exact⟨us,q4,O⟩
    | false=>
     simp only[A1,Br] at q4 ⊢;have hl:=q5 rfl;have hl2:=O.length
     match vs,us,O,hl,hl2 with
     | [c],[u],O,_,_=>
      simp only[cZ] at O;obtain⟨v,vs',hv,hc,_⟩:=O;cases hv;rw[q4];simp only[aT,b6];exact hc
  | none=>
   obtain⟨q1,_⟩:=J.2 N;refine⟨none,?_,?_,by rw[←hr,N];rfl⟩
   ·simp only[Instr.findKey,Ad,Ao Z w,κ,q1,Ae]
   ·rw[←hr,N];simp only[jI,I];have q:=hzr S;cases agg with
    | true=>
     rw[I,ξ rfl] at hz1;simp only[B3,aT];exact⟨z.cells.toList,hz1,q⟩
    | false=>
     obtain⟨u,hu1,hu2⟩:=hz2 I;simp only[A1,Br];have hl:=(W.get Y).len;rw[(W.get Y).one I] at hl
     match hzz:ei.zero,hl with
     | [c],_=>
      rw[hzz,hu1] at q;simp only[cZ] at q;obtain⟨v,vs',hv,hc,_⟩:=q;cases hv;rw[hu2];simp only[aT,b6];exact hc
 obtain⟨r0,hf,hv,hb⟩:=key;have hck:=fun b=>lO (P:=P) Z b 9999 ⟨⟨k⟩⟩ w
 have fin:aT S μ st'.h (if ok then .tup [jI ei r,B (tX r)] else jI ei r) (if ok then .tuple #[(vE r0 z),.bool r0.isSome] else(vE r0 z)):=by
  cases ok with
  | false=>exact hv
  | true=>
   simp only[B3,aT,bG];exact⟨[_,.bool r0.isSome],rfl,_,[.bool r0.isSome],rfl,hv,.bool r0.isSome,[],rfl,by rw[hb];simp[b6,Rep],rfl⟩
 refine⟨_,?_,fin⟩;rcases h2 with⟨h2,rfl⟩ | ⟨b,clk,h2,h4⟩
 ·simp only[execOp,ho,h2,h3,Ad,Instr.lookup,hu,κ,Ae];rw[show(10000:Nat)=9999+1 from rfl,hck];simp only[κ,hf];cases r0 with
  | none=>simp only[Ad,hz w,κ,Ae];rfl
  | some p=>rfl
 ·simp only[execOp,ho,h2,h3,Ad,Instr.lookup,hu,κ,Ae,gP w b es clk h4];rw[show(10000:Nat)=9999+1 from rfl,hck];simp only[κ,hf];cases r0 with
  | none=>simp only[Ad,hz w,κ,Ae];rfl
  | some p=>rfl
theorem wU {t I J:TypeId}{i N ei:TI}{x y:Operand}{ok:Bool}{v:V}{ids:List Nat}{agg:Bool}{ents:List (List C)}{k:List UInt8}{r:Option (List C)}(hT:Tok P T) (ho:o.op=.lookup t x y ok) (hd:o.dst=some d) (O:d<n) (hi:T[t]?=some (some i)) (hk:i.k=.mp I J)
  (W:T[I]?=some (some N)) (Y:N.k=.str) (Z:T[J]?=some (some ei)) (aa:ei.k.agg=agg) (hx:opv st x=some v) (hm:MapE st ids v agg ents) (q:kJ ents) (hy:opv st y=some (Go.AM.T k)) (hr:j4 k ents=r):
  Step P n o st ⟨opr x++opr y,ids⟩ ⟨some (d,some (if ok then .tup [jI ei r,B (tX r)] else jI ei r)),[]⟩:=
 aKh hT ho hd O hi hk W Y Z aa hy fun _ ha _ _ _ _ _ hs=>by
  obtain⟨es,h1,h2⟩:=hm.rel hs q ha.2 (aM hs hx fun t h=>ha.1 t (by simp[h]));exact⟨es,ents,q,hr,h1,h2⟩
theorem dO {S:Sto}{agg:Bool}:∀{a:List (List C)}{x:List MapEntry}{b:List (List C)}{y:List MapEntry},b7 S agg a x→b7 S agg b y→b7 S agg (a++b) (x++y)
 | [],_,_,_,h,k=>by simp only[b7] at h;subst h;simpa using k
 | _::_,_,_,_,h,k=>by
  simp only[b7,Bc] at h ⊢;obtain⟨v,vs',rfl,h1,h2⟩:=h;exact⟨v,vs'++_,rfl,h1,dO h2 k⟩
theorem kU {S:Sto}{agg:Bool}:∀{a:List (List C)}{x:List MapEntry}(n:Nat),b7 S agg a x→b7 S agg (a.take n) (x.take n)
 | _,_,0,_=>by simp[b7]
 | [],_,n+1,h=>by simp only[b7] at h;subst h;simp[b7]
 | _::_,_,n+1,h=>by
  simp only[b7,Ar] at h ⊢;obtain⟨v,vs',rfl,h1,h2⟩:=h;exact⟨v,vs'.take n,by simp,h1,kU n h2⟩
theorem kV {S:Sto}{agg:Bool}:∀{a:List (List C)}{x:List MapEntry}(n:Nat),b7 S agg a x→b7 S agg (a.drop n) (x.drop n)
 | _,_,0,h=>by simpa using h
 | [],_,n+1,h=>by simp only[b7] at h;subst h;simp[b7]
 | _::_,_,n+1,h=>by
  simp only[b7,Cu] at h ⊢;obtain⟨v,vs',rfl,h1,h2⟩:=h;simpa using kV n h2
theorem aCq {t kt et:TypeId}{i ki:TI}{x y z:Operand}{id:Nat}{agg:Bool}{ents:List (List C)}{k:List UInt8}{v:V}{rs:List R}{cs:List C}{ids:List Nat}(hT:Tok P T) (ho:o.op=.mapUpdate t x y z) (hd:o.dst=none) (hi:T[t]?=some (some i)) (hk:i.k=.mp kt et)
  (hki:T[kt]?=some (some ki)) (hkk:ki.k=.str) (hx:opv st x=some (.one (.mr id))) (hh:st.h id=some (.map agg ents)) (J:kJ ents) (hy:opv st y=some (Go.AM.T k))
  (hz:opv st z=some v) (q:(match v with | .one _=>!agg | .pa _=>agg | .ma _=>agg | _=>false)=true) (hc:i6 v=some rs) (hp:PureL st.h ids rs cs):
  Step P n o st ⟨opr x++opr y++opr z,id::ids⟩ ⟨none,[(id,some (.map agg (aH1 k cs ents)))]⟩:=by
 refine Step.turn hd hh (by simp) (by simp[AObj.succ]) fun st' ha hh' G S μ a w hs=>?_
 have h1:=aM hs hx fun t h=>ha.1 t (by simp[h])
 have h3:=kY (aM hs hy fun t h=>ha.1 t (by simp[h]));have hv:=aM hs hz fun t h=>ha.1 t (by simp[h])
 simp only[aT,b6] at h1;obtain⟨agg',ents',b,c,q1,q2,q3⟩:=h1;obtain⟨b',es,clk,g1,g2,g3,g4⟩:=hs.inv.obj id _ hh';rw[g1] at q2;cases q2;have g3:=g3.rep J;have ad:=hp.rel (fun i h=>ha.2 i (by simp[h])) hs.inv.obj (dW hv hc);have N:a.eval z=(if agg then .agg ⟨(a.eval z).cells.toList⟩ else(a.eval z).cells.toList.headD undef)∧(agg=false→(a.eval z).cells.toList.length=1):=by
  cases v with
  | one r=>
   simp at q;subst q;simp only[aT] at hv;rw[hv.one.1];simp
  | pa l=>
   simp at q;subst q;simp only[aT] at hv;obtain⟨vs,hv,_⟩:=hv;rw[hv];simp[Value.cells]
  | ma l=>
   simp at q;subst q;simp only[aT] at hv;obtain⟨vs,hv,_⟩:=hv;rw[hv];simp[Value.cells]
  | tup l=>simp at q
 have O:=(hT.get hki).str hkk;have hu:=Ao ((hT.get hi).map hk) w;have I:=kB (k:=k) ents es.toList 0 g3 J;have aa:=fun b=>lO (P:=P) O b 9999 ⟨⟨k⟩⟩ w
 have W:∀e:MapEntry,e.key=.string ⟨⟨k⟩⟩→e.val=a.eval z→b7 S agg [.str k::cs] [e]:=by
  intro e he1 he2;simp only[b7];refine⟨e,[],rfl,⟨(a.eval z).cells.toList,?_,by rw[he2];exact N.1,N.2⟩,rfl⟩;simp only[cZ];exact⟨e.key,_,rfl,by simp[Rep,he1],ad⟩
 have Y:∀(ob:Obj),(setObj b ob).run P w=.ok () { w with heap:=w.heap.setIfInBounds b ob }:=by
  intro ob;exact MapKept.run_setObj_map _ g2
 have Z:∀ob,WChg w { w with heap:=w.heap.setIfInBounds b ob } b ob:=fun ob=>by
  have hlt:=bZ g2;refine⟨rfl,rfl,rfl,by simp,by simp[hlt],fun k _ hne=>?_⟩;show(w.heap.setIfInBounds b ob)[k]?=_;rw[Bq,φ (fun e=>hne e.symm)]
 have ab:∀(ob:Obj) (o:Nat) (v:Value),S.cell b o=some v→∃vs t fr,ob=.cells vs t fr∧vs[o]?=some v:=fun ob o v e=>by
  obtain⟨vs,t,fr,p1,_⟩:=hs.inv.holds.1 b o v e;rw[g2] at p1;cases p1
 have g4:=g4.kn0 J;have ac:∀m,S.mapo b=some m→w.heap.size≤b:=fun m e=>by rw[g4] at e;cases e
 cases hq:j4 k ents with
 | some vs=>
  obtain⟨j,e,p1,p2,_,p4,p5,p6⟩:=I.1 vs hq;refine⟨_,.map (es.modify j fun e=>{ e with key:=.string ⟨⟨k⟩⟩,val:=a.eval z }) clk,b,(0,0),?_,g1,Z _,⟨b,_,clk,aI _ _ _,(Z _).new,.inr (.inl ?_),.inl g4⟩,ab _,ac⟩
  ·have ae:((es[j]?).map (·.key)).getD (.string ⟨⟨k⟩⟩)=.string ⟨⟨k⟩⟩:=by
    rw[←Array.getElem?_toList,p2];simpa using p4
   have hkt:(Instr.keyThatStays (.string ⟨⟨k⟩⟩) (.string ⟨⟨k⟩⟩)).run P w=.ok (.string ⟨⟨k⟩⟩) w:=by
    have hsb:Instr.sameBits 10000 (.string ⟨⟨k⟩⟩) (.string ⟨⟨k⟩⟩)=true:=by simp[Instr.sameBits,aG0]
    simp only[Instr.keyThatStays,hsb,B3,Ae]
   simp only[execOp,ho,q3,h3,Ad,Instr.mapUpdate,hu,κ,gP w b es clk g2];rw[show(10000:Nat)=9999+1 from rfl,aa];simp only[κ,Instr.findKey,Ad,Ao O w,p1,Ae,A6,ae,hkt,Y]
  ·rw[p6 cs,Array.toList_modify];have ag:es.toList.modify j (fun e=>{ e with key:=.string ⟨⟨k⟩⟩,val:=a.eval z })=es.toList.take j++{ e with key:=.string ⟨⟨k⟩⟩,val:=a.eval z }::es.toList.drop (j+1):=by
    apply Bw;intro i;rw[List.getElem?_modify];have p5':j<es.size:=by simpa using p5
    by_cases c1:i<j
    ·rw[Ba (by simp;omega),At,ξ c1];simp[show ¬j=i by omega]
    ·rw[Az (by simp;omega)];simp only[Aq];by_cases c2:j=i
     ·subst c2;rw[p2];have hm:min j es.toList.length=j:=by simp;omega
      rw[hm];simp
     ·rw[B9 (le_of_lt p5),show i-j=(i-j-1)+1 by omega,Bh,An];simp[c2,show j+1+(i-j-1)=i by omega]
   rw[ag];have:=dO (kU j g3) (dO (W { e with key:=.string ⟨⟨k⟩⟩,val:=a.eval z } rfl rfl) (kV (j+1) g3));exact this
 | none=>
  obtain⟨p1,p2⟩:=I.2 hq;refine⟨_,.map (es.push { key:=.string ⟨⟨k⟩⟩,val:=a.eval z,born:=clk }) (clk+1),b,(0,0),?_,g1,Z _,⟨b,_,clk+1,aI _ _ _,(Z _).new,.inr (.inl ?_),.inl g4⟩,ab _,ac⟩
  ·simp only[execOp,ho,q3,h3,Ad,Instr.mapUpdate,hu,κ,gP w b es clk g2];rw[show(10000:Nat)=9999+1 from rfl,aa];simp only[κ,Instr.findKey,Ad,Ao O w,p1,Ae,Y]
  ·rw[p2 cs,Array.toList_push];exact dO g3 (W _ rfl rfl)
theorem aUc {P:Program}{T:TT}{o:Oper}{t kt et:TypeId}{i ki:TI}{x y z:Operand}{agg:Bool}{ents:List (List C)}{k:List UInt8}{cs:List C}{S:Sto}{a:Act}{w:World}{b:Nat}{es:Array MapEntry}{clk:Nat}(hT:Tok P T) (ho:o.op=.insert t x y z) (hi:T[t]?=some (some i)) (hk:i.k=.mp kt et)
  (hki:T[kt]?=some (some ki)) (hkk:ki.k=.str) (q3:a.eval x=.map (some b)) (h3:a.eval y=.string ⟨⟨k⟩⟩) (g2:w.heap[b]?=some (.map es clk)) (g3:b7 S agg ents es.toList) (hms:kJ ents)
  (Z:cZ S cs (a.eval z).cells.toList) (I:a.eval z=(if agg then .agg ⟨(a.eval z).cells.toList⟩ else(a.eval z).cells.toList.headD undef)∧(agg=false→(a.eval z).cells.toList.length=1)):
  ∃W aa,(execOp a.eval o).run P w=.ok .skip { w with heap:=w.heap.setIfInBounds b (.map W aa) }∧b7 S agg (aH1 k cs ents) W.toList:=by
 have J:=(hT.get hki).str hkk;have hu:=Ao ((hT.get hi).map hk) w;have q:=kB (k:=k) ents es.toList 0 g3 hms;have Y:=fun b=>lO (P:=P) J b 9999 ⟨⟨k⟩⟩ w
 have N:∀e:MapEntry,e.key=.string ⟨⟨k⟩⟩→e.val=a.eval z→b7 S agg [.str k::cs] [e]:=by
  intro e he1 he2;simp only[b7];refine⟨e,[],rfl,⟨(a.eval z).cells.toList,?_,by rw[he2];exact I.1,I.2⟩,rfl⟩;simp only[cZ];exact⟨e.key,_,rfl,by simp[Rep,he1],Z⟩
 have O:∀(ob:Obj),(setObj b ob).run P w=.ok () { w with heap:=w.heap.setIfInBounds b ob }:=by
  intro ob;exact MapKept.run_setObj_map _ g2
 cases hq:j4 k ents with
 | some vs=>
  obtain⟨j,e,p1,p2,_,p4,p5,p6⟩:=q.1 vs hq;refine⟨es.modify j fun e=>{ e with key:=.string ⟨⟨k⟩⟩,val:=a.eval z },clk,?_,?_⟩
  ·have ab:((es[j]?).map (·.key)).getD (.string ⟨⟨k⟩⟩)=.string ⟨⟨k⟩⟩:=by
    rw[←Array.getElem?_toList,p2];simpa using p4
   have hkt:(Instr.keyThatStays (.string ⟨⟨k⟩⟩) (.string ⟨⟨k⟩⟩)).run P w=.ok (.string ⟨⟨k⟩⟩) w:=by
    have hsb:Instr.sameBits 10000 (.string ⟨⟨k⟩⟩) (.string ⟨⟨k⟩⟩)=true:=by simp[Instr.sameBits,aG0]
    simp only[Instr.keyThatStays,hsb,B3,Ae]
   simp only[execOp,ho,q3,h3,Ad,Instr.mapUpdate,hu,κ,gP w b es clk g2];rw[show(10000:Nat)=9999+1 from rfl,Y];simp only[κ,Instr.findKey,Ad,Ao J w,p1,Ae,A6,ab,hkt,O]
  ·rw[p6 cs,Array.toList_modify];have ac:es.toList.modify j (fun e=>{ e with key:=.string ⟨⟨k⟩⟩,val:=a.eval z })=es.toList.take j++{ e with key:=.string ⟨⟨k⟩⟩,val:=a.eval z }::es.toList.drop (j+1):=by
    apply Bw;intro i;rw[List.getElem?_modify];have p5':j<es.size:=by simpa using p5
    by_cases c1:i<j
    ·rw[Ba (by simp;omega),At,ξ c1];simp[show ¬j=i by omega]
    ·rw[Az (by simp;omega)];simp only[Aq];by_cases c2:j=i
     ·subst c2;rw[p2];have hm:min j es.toList.length=j:=by simp;omega
      rw[hm];simp
     ·rw[B9 (le_of_lt p5),show i-j=(i-j-1)+1 by omega,Bh,An];simp[c2,show j+1+(i-j-1)=i by omega]
   rw[ac];have:=dO (kU j g3) (dO (N { e with key:=.string ⟨⟨k⟩⟩,val:=a.eval z } rfl rfl) (kV (j+1) g3));exact this
 | none=>
  obtain⟨p1,p2⟩:=q.2 hq;refine⟨es.push { key:=.string ⟨⟨k⟩⟩,val:=a.eval z,born:=clk },clk+1,?_,?_⟩
  ·simp only[execOp,ho,q3,h3,Ad,Instr.mapUpdate,hu,κ,gP w b es clk g2];rw[show(10000:Nat)=9999+1 from rfl,Y];simp only[κ,Instr.findKey,Ad,Ao J w,p1,Ae,O]
  ·rw[p2 cs,Array.toList_push];exact dO g3 (N _ rfl rfl)
theorem aP2 {t Z et:TypeId}{i ki:TI}{x y z:Operand}{id:Nat}{agg:Bool}{ents:List (List C)}{k:List UInt8}{v:V}{rs:List R}{cs:List C}{ids:List Nat}(hT:Tok P T) (ho:o.op=.insert t x y z) (hd:o.dst=none) (hi:T[t]?=some (some i)) (hk:i.k=.mp Z et)
  (hki:T[Z]?=some (some ki)) (hkk:ki.k=.str) (hx:opv st x=some (.one (.mr id))) (hh:st.h id=some (.map agg ents)) (I:kJ ents) (hy:opv st y=some (Go.AM.T k))
  (hz:opv st z=some v) (q:(match v with | .one _=>!agg | .pa _=>agg | .ma _=>agg | _=>false)=true) (hc:i6 v=some rs) (hp:PureL st.h ids rs cs):
  Step P n o st ⟨opr x++opr y++opr z,id::ids⟩ ⟨none,[(id,some (.map agg (aH1 k cs ents)))]⟩:=by
 refine Step.turn hd hh (by simp) (by simp[AObj.succ]) fun st' ha hh' G S μ a w hs=>?_
 have h1:=aM hs hx fun t h=>ha.1 t (by simp[h])
 have h3:=kY (aM hs hy fun t h=>ha.1 t (by simp[h]));have hv:=aM hs hz fun t h=>ha.1 t (by simp[h])
 simp only[aT,b6] at h1;obtain⟨agg',ents',b,c,q1,q2,q3⟩:=h1;obtain⟨b',es,clk,g1,g2,g3,g4⟩:=hs.inv.obj id _ hh';rw[g1] at q2;cases q2;have g3:=g3.rep I;have N:=hp.rel (fun i h=>ha.2 i (by simp[h])) hs.inv.obj (dW hv hc);have O:a.eval z=(if agg then .agg ⟨(a.eval z).cells.toList⟩ else(a.eval z).cells.toList.headD undef)∧(agg=false→(a.eval z).cells.toList.length=1):=by
  cases v with
  | one r=>
   simp at q;subst q;simp only[aT] at hv;rw[hv.one.1];simp
  | pa l=>
   simp at q;subst q;simp only[aT] at hv;obtain⟨vs,hv,_⟩:=hv;rw[hv];simp[Value.cells]
  | ma l=>
   simp at q;subst q;simp only[aT] at hv;obtain⟨vs,hv,_⟩:=hv;rw[hv];simp[Value.cells]
  | tup l=>simp at q
 obtain⟨es',J,W,Y⟩:=aUc (P:=P) hT ho hi hk hki hkk q3 h3 g2 g3 I N O;have hW:∀ob,WChg w { w with heap:=w.heap.setIfInBounds b ob } b ob:=fun ob=>by
  have hlt:=bZ g2;refine⟨rfl,rfl,rfl,by simp,by simp[hlt],fun k _ hne=>?_⟩;show(w.heap.setIfInBounds b ob)[k]?=_;rw[Bq,φ (fun e=>hne e.symm)]
 have hSc:∀(ob:Obj) (o:Nat) (v:Value),S.cell b o=some v→∃vs t fr,ob=.cells vs t fr∧vs[o]?=some v:=fun ob o v e=>by
  obtain⟨vs,t,fr,p1,_⟩:=hs.inv.holds.1 b o v e;rw[g2] at p1;cases p1
 have g4:=g4.kn0 I;have hSm:∀m,S.mapo b=some m→w.heap.size≤b:=fun m e=>by rw[g4] at e;cases e
 exact⟨_,.map es' J,b,(0,0),W,g1,hW _,⟨b,_,J,aI _ _ _,(hW _).new,.inr (.inl Y),.inl g4⟩,hSc _,hSm⟩
end
section
variable {P:Program}{n:Nat}{o:Oper}{st:St}{d:Nat}{T:TT}
theorem oW {α:Type}(f:Nat→Option α) (k:Nat) (x y:Option α):upd (upd f k x) k y=upd f k y:=by
 funext i;simp only[upd];split<;>rfl
theorem aKs {t e:TypeId}{i ei:TI}{x y:Operand}{rows:List (List C)}{vy:V}{ids:List Nat}(id:Nat) (hT:Tok P T) (ho:o.op=.call { callee:=.builtin .append,args:= #[x,y],argTypes:= #[t,t] }) (hd:o.dst=some d) (hdn:d<n)
  (hi:T[t]?=some (some i)) (hk:i.k=.sl e) (hei:T[e]?=some (some ei)) (hes:Nat.ble 1 ei.size=true) (heb:Nat.ble 1 ei.bytes=true)
  (hx:opv st x=some (.one (.c .nl))) (hid:st.h id=none) (hy:opv st y=some vy) (I:Src st ei.size ids vy rows)
  (N:rows.length*ei.bytes≤140737488355328):
  Step P n o st ⟨opr x++opr y,id::ids⟩ ⟨some (d,some (.one (.hs id 0 rows.length rows.length))),[(id,some (.arr e ei.size rows 0))]⟩:=by
 intro st' ha G S μ a w K Q hs hk';have W:st'.h id=none:=by rw[ha.2 id (by simp),hid]
 obtain⟨hi',Y⟩:=hs.inv.empty e ei.size W;have O:Sim G n S (upd μ id none) ⟨st'.e,upd st'.h id (some (.arr e ei.size [] 0)),st'.d⟩ a w:=⟨hi',hs.size,hs.defers.evolve Y,fun t v e=>aT.evolve Y v _ (hs.env t v e)⟩
 have J:=aM hs hx fun t ht=>ha.1 t (by simp[ht])
 have hvy:=aM hs hy fun t ht=>ha.1 t (by simp[ht])
 simp only[aT,b6,Rep] at J;have Z:aT S (upd μ id none) (upd st'.h id (some (.arr e ei.size [] 0))) (.one (.hs id 0 0 0)) (a.eval x):=by
  simp only[aT,b6];exact⟨⟨_,_,_,J⟩,.inr ⟨e,ei.size,[],0,aI _ _ _,le_refl _,fun _=>⟨le_refl _,.inl ⟨aI _ _ _,rfl,J⟩⟩⟩⟩
 have hne:∀j∈ids,j≠id:=by
  intro j q e;subst e;cases I with
  | hs h1 _ _=>simp at q;subst q;rw[hid] at h1;cases h1
  | all h1 _=>simp at q;subst q;rw[hid] at h1;cases h1
  | sl=>simp at q
  | nl=>simp at q
  | sn=>simp at q
 have:=aBb (fz:=0) (elems:=[]) (id:=id) hT ho hi hk hei hes heb rfl (by simpa using N) (aI _ _ _) O Z (aT.evolve Y _ _ hvy) I fun j q=>by
  show upd st'.h id (some (.arr e ei.size [] 0)) j=_;rw[aS _ _ _ (hne j q)];exact ha.2 j (by simp[q])
 refine aMd hd hdn (by simp) _ (aI _ _ _) O (fun S' μ' a' w' h=>hk' S' μ' a' w' ?_) this;have e1:Eff.apply ⟨some (d,some (.one (.hs id 0 (([]:List (List C)).length+rows.length) (([]:List (List C)).length+rows.length)))),[(id,some (.arr e ei.size ([]++rows) (if 0=0 then 0 else 1)))]⟩ ⟨st'.e,upd st'.h id (some (.arr e ei.size [] 0)),st'.d⟩
   =Eff.apply ⟨some (d,some (.one (.hs id 0 rows.length rows.length))),[(id,some (.arr e ei.size rows 0))]⟩ st':=by
  unfold Eff.apply;rw[dE,dE,oW];simp
 rw[e1] at h;exact h
theorem Sub.conv {kf ids:List Nat}{t:Nat}{v v':V}(h:st.e t=some v) (hc:Conv st.h ids v v'):Sub kf ⟨upd st.e t (some v'),st.h,st.d⟩ st:=by
 intro G n S μ a w _ hs;refine⟨S,μ,⟨hs.inv,hs.size,hs.defers,fun s u e=>?_⟩⟩;by_cases q:s=t
 ·subst q;have:some v'=some u:=by rw[←e];exact(aI _ _ _).symm
  cases this;exact hc.rel (fun _ _=>rfl) hs.inv.obj (hs.env s _ h)
 ·exact hs.env s u (by rw[←e];exact(aS _ _ _ q).symm)
theorem aPv {t e:TypeId}{i ei:TI}{len:Nat}{parts:Array (Nat×Operand)}{ids:List Nat}{rows:List (List C)}(id:Nat) (hT:Tok P T) (ho:o.op=.buildSlice t len parts) (hd:o.dst=some d) (aa:d<n) (hi:T[t]?=some (some i)) (hk:i.k=.sl e) (ab:T[e]?=some (some ei)) (q:RowsV st ei.size 0 ids parts.toList rows) (hlen:Nat.beq len parts.size=true) (N:Nat.ble (len*ei.size) 16777216=true) (Y:Nat.ble len 16777216=true) (hid:st.h id=none):
  Step P n o st ⟨gO parts.toList,id::ids⟩ ⟨some (d,some (.one (.c (.sl ei.size rows)))),[(id,some (.arr e ei.size rows 2))]⟩:=by
 intro st' ha G S μ a w K Q hs ac;refine aKe id hT ho hd aa hi hk ab q hlen N Y hid st' ha G S μ a w K Q hs fun S1 μ1 Z w1 h1=>?_
 have I:len=rows.length:=by rw[q.lengths];simpa using ε hlen
 have hh:(Eff.apply ⟨some (d,some (.one (.hs id 0 len len))),[(id,some (.arr e ei.size rows 0))]⟩ st').h id=some (.arr e ei.size rows 0):=by
  show updL st'.h [(id,some (.arr e ei.size rows 0))] id=_;rw[dE,aI]
 obtain⟨S2,W,h2⟩:=h1.freeze hh;refine ac S2 W Z w1 ⟨?_,h2.size,?_,fun s u e1=>?_⟩
 ·have:=h2.inv;show Inv G S2 W (updL st'.h [(id,some (.arr e ei.size rows 2))]) w1;rw[dE];have J:upd (Eff.apply ⟨some (d,some (.one (.hs id 0 len len))),[(id,some (.arr e ei.size rows 0))]⟩ st').h id (some (.arr e ei.size rows 2))=upd st'.h id (some (.arr e ei.size rows 2)):=by
   show upd (updL st'.h [(id,some (.arr e ei.size rows 0))]) id _=_;rw[dE,oW]
  rw[←J];exact this
 ·have:=h2.defers;show Marks _ W (updL st'.h [(id,some (.arr e ei.size rows 2))]) st'.d Z.defers;rw[dE];have J:upd (Eff.apply ⟨some (d,some (.one (.hs id 0 len len))),[(id,some (.arr e ei.size rows 0))]⟩ st').h id (some (.arr e ei.size rows 2))=upd st'.h id (some (.arr e ei.size rows 2)):=by
   show upd (updL st'.h [(id,some (.arr e ei.size rows 0))]) id _=_;rw[dE,oW]
  rw[←J];exact this
 ·have J:upd (Eff.apply ⟨some (d,some (.one (.hs id 0 len len))),[(id,some (.arr e ei.size rows 0))]⟩ st').h id (some (.arr e ei.size rows 2))=updL st'.h [(id,some (.arr e ei.size rows 2))]:=by
   show upd (updL st'.h [(id,some (.arr e ei.size rows 0))]) id _=_;rw[dE,dE,oW]
  show aT S2 W (updL st'.h [(id,some (.arr e ei.size rows 2))]) u (Z.tmps.getD s undef);by_cases O:s=d
  ·subst O;have hu:u=.one (.c (.sl ei.size rows)):=by
    have:upd st'.e s (some (.one (.c (.sl ei.size rows)))) s=some u:=e1;rw[aI] at this;cases this;rfl
   subst hu;have hv:=h2.env s (.one (.hs id 0 len len)) (aI _ _ _);have hO:=h2.inv.obj id _ (aI _ _ _);have:=(Conv.one (h:=upd (Eff.apply ⟨some (s,some (.one (.hs id 0 len len))),[(id,some (.arr e ei.size rows 0))]⟩ st').h id (some (.arr e ei.size rows 2))) (PureL.hs (e:=rows) (aI _ _ _) I (by rw[I];simp) .nil)).rel (fun _ _=>rfl) h2.inv.obj hv;rw[←J];exact this
  ·have:upd st'.e d (some (.one (.c (.sl ei.size rows)))) s=some u:=e1;rw[aS _ _ _ O] at this;have hv:=h2.env s u (by show upd st'.e d _ s=some u;rw[aS _ _ _ O];exact this);rw[←J];exact hv
theorem aYp {J ty:TypeId}{x y:Operand}{a b:Nat}(ho:o.op=.binOp .add J x y ty) (hd:o.dst=some d) (q:d<n) (hx:opv st x=some (I .i64 (a:Nat))) (N:opv st y=some (I .i64 (b:Nat))) (O:a+b≤9223372036854775807):
  Step P n o st ⟨opr x++opr y,[]⟩ ⟨some (d,some (I .i64 ((a+b:Nat):Int))),[]⟩:=aP4 ho hd q hx N (by rw[←Int.natCast_add];exact Ca _ (by omega))
theorem aYj {J ty:TypeId}{x y:Operand}{a b:Nat}(ho:o.op=.binOp .mul J x y ty) (hd:o.dst=some d) (q:d<n) (hx:opv st x=some (I .i64 (a:Nat))) (N:opv st y=some (I .i64 (b:Nat))) (O:a*b≤9223372036854775807):
  Step P n o st ⟨opr x++opr y,[]⟩ ⟨some (d,some (I .i64 ((a*b:Nat):Int))),[]⟩:=aPy ho hd q hx N (by rw[←Int.natCast_mul];exact Ca _ (by omega))
theorem aX6 {J ty:TypeId}{x y:Operand}{a b:Nat}(ho:o.op=.binOp .sub J x y ty) (hd:o.dst=some d) (q:d<n) (hx:opv st x=some (I .i64 (a:Nat))) (N:opv st y=some (I .i64 (b:Nat))) (O:b≤a∧a≤9223372036854775807):
  Step P n o st ⟨opr x++opr y,[]⟩ ⟨some (d,some (I .i64 ((a-b:Nat):Int))),[]⟩:=aPt ho hd q hx N (by rw[show(a:Int)-b=((a-b:Nat):Int) by omega];exact Ca _ (by omega))
theorem aYf {J ty:TypeId}{x y:Operand}{a b:Nat}(ho:o.op=.binOp .quo J x y ty) (hd:o.dst=some d) (q:d<n) (hx:opv st x=some (I .i64 (a:Nat))) (N:opv st y=some (I .i64 (b:Nat))) (O:a≤9223372036854775807∧1≤b):
  Step P n o st ⟨opr x++opr y,[]⟩ ⟨some (d,some (I .i64 ((a/b:Nat):Int))),[]⟩:=by
 have:=aSm (P:=P) (n:=n) ho hd q hx N (by omega);rwa [←Int.natCast_ediv] at this
theorem aYd {J ty:TypeId}{x y:Operand}{a b:Nat}(ho:o.op=.binOp .rem J x y ty) (hd:o.dst=some d) (q:d<n) (hx:opv st x=some (I .i64 (a:Nat))) (N:opv st y=some (I .i64 (b:Nat))) (O:1≤b):
  Step P n o st ⟨opr x++opr y,[]⟩ ⟨some (d,some (I .i64 ((a%b:Nat):Int))),[]⟩:=by
 have:=aSl (P:=P) (n:=n) ho hd q hx N (by omega);rwa [←Int.natCast_emod] at this
theorem a1y {t1 t2:TypeId}{x y:Operand}{k:IntKind}{a b r:Int}(ho:o.op=.call { callee:=.builtin .max,args:= #[x,y],argTypes:= #[t1,t2] }) (hd:o.dst=some d) (q:d<n) (hx:opv st x=some (I k a)) (J:opv st y=some (I k b)) (N:(if b>a then b else a)=r):
  Step P n o st ⟨opr x++opr y,[]⟩ ⟨some (d,some (I k r)),[]⟩:=by
 refine Step.value hd q fun st' ha G S μ ac w hs=>?_
 have h1:=eJ (aM hs hx fun t h=>ha.1 t (by simp[h]));have h2:=eJ (aM hs J fun t h=>ha.1 t (by simp[h]));refine⟨.int k r,?_,by simp[aT,b6,Rep]⟩;simp only[execOp,ho,resolve,map_toArray,Al,Bn,h1,h2,Ad,Ae,κ,invoke,builtin,Builtin.max_,List.foldlM_cons,List.foldlM_nil,Builtin.max2,N]
end
inductive Fz where
 | map (agg:Bool) (ents:List (List C))
 | var (l:List C)
 | ra (n es:Nat) (l:List R)
mutual
def R.fz (id:Nat) (z:Fz):R→R
 | .mr j=>match z with
  | .map agg ents=>if Nat.beq j id then .c (.mp agg ents) else .mr j
  | _=>.mr j
 | .vp j off=>match z with
  | .var l=>if Nat.beq j id then .c (.pt (l.drop off)) else .vp j off
  | _=>.vp j off
 | .ra j off len sz=>match z with
  | .ra n es l=>if Nat.beq j id then(if Nat.beq off 0&&Nat.beq len n&&Nat.beq sz n then .ras n es l else .c .any) else .ra j off len sz
  | _=>.ra j off len sz
 | .rp j i fo sz=>match z with
  | .ra _ _ _=>if Nat.beq j id then .c .any else .rp j i fo sz
  | _=>.rp j i fo sz
 | .ras n es l=>.ras n es (R.fzL id z l)
 | .pas l=>.pas (R.fzL id z l)
 | .clo f caps=>.clo f (R.fzL id z caps)
 | .mth f x=>.mth f (R.fz id z x)
 | r=>r
def R.fzL (id:Nat) (z:Fz):List R→List R
 | []=>[]
 | r::rs=>R.fz id z r::R.fzL id z rs
end
mutual
def V.fz (id:Nat) (z:Fz):V→V
 | .one r=>.one (r.fz id z)
 | .pa l=>.pa l
 | .ma l=>.ma (R.fzL id z l)
 | .tup l=>.tup (V.fzL id z l)
def V.fzL (id:Nat) (z:Fz):List V→List V
 | []=>[]
 | r::rs=>V.fz id z r::V.fzL id z rs
end
def fzE (id:Nat) (z:Fz):List (Nat×V)→List (Nat×V)
 | []=>[]
 | (t,v)::l=>(t,v.fz id z)::fzE id z l
def fzR (id:Nat) (z:Fz):List (List R)→List (List R)
 | []=>[]
 | r::l=>R.fzL id z r::fzR id z l
theorem aMm {id:Nat}{z:Fz}:∀{l:List (Nat×V)}{t:Nat}{v:V},(t,v)∈fzE id z l→∃v0,(t,v0)∈l∧v=v0.fz id z
 | (k,u)::l,t,v,h=>by
  simp only[fzE,Ai] at h;rcases h with h | h
  ·cases h;exact⟨u,by simp,rfl⟩
  ·obtain⟨v0,h1,h2⟩:=aMm h;exact⟨v0,by simp[h1],h2⟩
theorem R.fzL_length {id:Nat}{z:Fz}:∀{l:List R},(R.fzL id z l).length=l.length
 | []=>rfl
 | _::l=>by simp[R.fzL,R.fzL_length (l:=l)]
theorem R.fzL_append {id:Nat}{z:Fz}:∀{l m:List R},R.fzL id z (l++m)=R.fzL id z l++R.fzL id z m
 | [],_=>rfl
 | _::l,m=>by simp[R.fzL,R.fzL_append (l:=l)]
theorem fU {id:Nat}{z:Fz}:∀{l:List (List R)},(fzR id z l).length=l.length
 | []=>rfl
 | _::l=>by simp[fzR,fU (l:=l)]
theorem aGe {id:Nat}{z:Fz}:∀{l:List (List R)},(fzR id z l).flatten=R.fzL id z l.flatten
 | []=>rfl
 | _::l=>by simp[fzR,aGe (l:=l),R.fzL_append]
theorem nB {id:Nat}{z:Fz}{es:Nat}:∀{l:List (List R)},(∀r∈l,r.length=es)→∀r∈fzR id z l,r.length=es
 | [],_,r,h=>by simp[fzR] at h
 | x::l,k,r,h=>by
  simp only[fzR,Ai] at h;rcases h with rfl | h
  ·rw[R.fzL_length];exact k _ (by simp)
  ·exact nB (l:=l) (fun r q=>k r (by simp[q])) r h
def AObj.fz (id:Nat) (z:Fz):AObj→AObj
 | .var t cells=>.var t (R.fzL id z cells)
 | .lp st j i e=>.lp st j i (fzE id z e)
 | .rarr te es l=>.rarr te es (fzR id z l)
 | .tok r k=>.tok (r.fz id z) k
 | o=>o
def Fz.of:Fz→AObj→Prop
 | .map agg ents,o=>o=.map agg ents
 | .var l,o=>∃t,o=.var t (l.map R.c)
 | .ra n es l,o=>∃te elems,o=.rarr te es elems∧l=elems.flatten∧n=elems.length
def hfz (id:Nat) (z:Fz) (H:c7):c7:=fun j=>if Nat.beq j id then none else(H j).map (AObj.fz id z)
section
variable {S S':Sto}{μ:Mu}{H:c7}{id:Nat}{z:Fz}
theorem jO {j:Nat}(h:j≠id):hfz id z H j=(H j).map (AObj.fz id z):=by
 have:Nat.beq j id=false:=by
  cases hb:Nat.beq j id with
  | false=>rfl
  | true=>exact absurd (ε hb) h
 simp[hfz,this]
theorem aS8:hfz id z H id=none:=by simp[hfz]
theorem aC3 {j te es fz:Nat}{l:List (List C)}{o:AObj}(hid:H id=some o) (q:z.of o) (h:H j=some (.arr te es l fz)):hfz id z H j=some (.arr te es l fz):=by
 have I:j≠id:=by
  rintro rfl;rw[h] at hid;cases hid;cases z with
  | map agg ents=>cases q
  | var l=>obtain⟨t,h⟩:=q;cases h
  | ra n es l=>obtain⟨_,_,h,_⟩:=q;cases h
 rw[jO I,h];rfl
theorem xG {j:Nat}{o:AObj}(hid:H id=some o) (q:z.of o) (h:H j=some .dead):hfz id z H j=some .dead:=by
 have I:j≠id:=by
  rintro rfl;rw[h] at hid;cases hid;cases z with
  | map agg ents=>cases q
  | var l=>obtain⟨t,h⟩:=q;cases h
  | ra n es l=>obtain⟨_,_,h,_⟩:=q;cases h
 rw[jO I,h];rfl
def aXb (S':Sto) (μ:Mu) (H:c7) (id:Nat):Fz→Prop
 | .map agg ents=>∀b c,μ id=some (b,c)→∃es clk,S'.mapo b=some (.all es clk)∧(b7 S' agg ents es.toList∨aIw S' agg ents es)
 | .var l=>∀b c,μ id=some (b,c)→∃vs,cZ S' l vs∧fR S' b 0 vs
 | .ra n es l=>n*es=l.length∧∀b base cap,μ id=some (b,base,cap)→n≤cap∧cap≤maxLen∧∃vs,aW S' μ (hfz id (.ra n es l) H) l vs∧fR S' b base vs
mutual
theorem b6.fz (hle:S.le S') {o:AObj}(hid:H id=some o) (q:z.of o):∀(r:R) (v:Value),(id∈r.refs→aXb S' μ H id z)→b6 S μ H r v→b6 S' μ (hfz id z H) (r.fz id z) v
 | .c x,v,_,k=>by simp only[b6,R.fz] at k ⊢;exact Rep.mono hle x v k
 | .hs j off len sz,v,_,k=>by
  simp only[b6,R.fz] at k ⊢;obtain⟨J,k | ⟨te,es,elems,fz,h1,h2⟩⟩:=k
  ·exact⟨J,.inl (xG hid q k)⟩
  ·exact⟨J,.inr ⟨te,es,elems,fz,aC3 hid q h1,h2⟩⟩
 | .tl j off len sz,v,_,k=>by
  simp only[b6,R.fz] at k ⊢;obtain⟨J,k | ⟨te,es,elems,fz,h1,h2⟩⟩:=k
  ·exact⟨J,.inl (xG hid q k)⟩
  ·exact⟨J,.inr ⟨te,es,elems,fz,aC3 hid q h1,h2⟩⟩
 | .ep j i fo sz,v,_,k=>by
  simp only[b6,R.fz] at k ⊢;obtain⟨J,k | ⟨te,es,elems,fz,h1,h2⟩⟩:=k
  ·exact⟨J,.inl (xG hid q k)⟩
  ·exact⟨J,.inr ⟨te,es,elems,fz,aC3 hid q h1,h2⟩⟩
 | .vp j off,v,hk,k=>by
  simp only[b6] at k;obtain⟨t,cells,b,c,h1,h2,h3⟩:=k;by_cases I:j=id
  ·subst I;rw[h1] at hid;cases hid;cases z with
   | map agg ents=>cases q
   | ra n es l=>obtain⟨_,_,h,_⟩:=q;cases h
   | var l=>
    simp only[R.fz,B6,B3,b6,Rep];obtain⟨vs,g1,g2⟩:=hk (by simp[R.refs]) b c h2;refine⟨b,off,h3,vs.drop off,g1.drop off,fun i u hu=>?_⟩;rw[An] at hu;have:=g2 _ u hu;rwa [A6] at this
  ·have hb:Nat.beq j id=false:=by
    cases hb:Nat.beq j id with
    | false=>rfl
    | true=>exact absurd (ε hb) I
   have e:(R.vp j off).fz id z=.vp j off:=by cases z<;>simp[R.fz,hb]
   rw[e];simp only[b6];exact⟨t,_,b,c,by rw[jO I,h1];rfl,h2,h3⟩
 | .mr j,v,hk,k=>by
  simp only[b6] at k;obtain⟨agg,ents,b,c,h1,h2,h3⟩:=k;by_cases I:j=id
  ·subst I;rw[h1] at hid;cases hid;cases z with
   | var l=>obtain⟨t,h⟩:=q;cases h
   | ra n es l=>obtain⟨_,_,h,_⟩:=q;cases h
   | map agg' ents'=>
    cases q;simp only[R.fz,B6,B3,b6,Rep];obtain⟨es,clk,g1,g2⟩:=hk (by simp[R.refs]) b c h2;exact⟨b,es,clk,h3,g1,g2⟩
  ·have hb:Nat.beq j id=false:=by
    cases hb:Nat.beq j id with
    | false=>rfl
    | true=>exact absurd (ε hb) I
   have e:(R.mr j).fz id z=.mr j:=by cases z<;>simp[R.fz,hb]
   rw[e];simp only[b6];exact⟨agg,ents,b,c,by rw[jO I,h1];rfl,h2,h3⟩
 | .clo f caps,v,hk,k=>by
  simp only[b6,R.fz] at k ⊢;obtain⟨vs,h1,h2⟩:=k;exact⟨vs,h1,aW.fz hle hid q caps vs (by simpa only[R.refs] using hk) h2⟩
 | .ras n es l,v,hk,k=>by
  simp only[b6,R.fz] at k ⊢;obtain⟨a,cap,h1,h2,h3,h4,h5,h6,b,o,h7,vs,W,Y⟩:=k;exact⟨a,cap,h1,by rw[R.fzL_length];exact h2,h3,h4,h5,h6,b,o,h7,vs,aW.fz hle hid q l vs (by simpa only[R.refs] using hk) W,Y.mono hle⟩
 | .pas l,v,hk,k=>by
  simp only[b6,R.fz] at k ⊢;obtain⟨b,o,h1,vs,W,Y⟩:=k;exact⟨b,o,h1,vs,aW.fz hle hid q l vs (by simpa only[R.refs] using hk) W,Y.mono hle⟩
 | .mth f recv,v,hk,k=>by
  simp only[b6,R.fz] at k ⊢;obtain⟨u,h1,h2⟩:=k;exact⟨u,h1,b6.fz hle hid q recv u (by simpa only[R.refs] using hk) h2⟩
 | .rp j i fo sz,v,hk,k=>by
  simp only[b6] at k;obtain⟨J,k⟩:=k;by_cases I:j=id
  ·subst I;have key:b6 S' μ (hfz j z H) (.c .any) v:=by
    obtain⟨a,rfl⟩:=J;simp only[b6,Rep];exact⟨rfl,rfl⟩
   rcases k with k | ⟨te,es,elems,h1,h2,h3⟩
   ·rw[k] at hid;cases hid;cases z with
    | map agg ents=>cases q
    | var l=>obtain⟨t,h⟩:=q;cases h
    | ra n es l=>obtain⟨_,_,h,_⟩:=q;cases h
   ·rw[h1] at hid;cases hid;cases z with
    | map agg ents=>cases q
    | var l=>obtain⟨t,h⟩:=q;cases h
    | ra n es l=>simpa only[R.fz,B6,B3] using key
  ·have hb:Nat.beq j id=false:=by
    cases hb:Nat.beq j id with
    | false=>rfl
    | true=>exact absurd (ε hb) I
   have e:(R.rp j i fo sz).fz id z=.rp j i fo sz:=by cases z<;>simp[R.fz,hb]
   rw[e];simp only[b6];rcases k with k | ⟨te,es,elems,h1,h2,h3⟩
   ·exact⟨J,.inl (by rw[jO I,k];rfl)⟩
   ·exact⟨J,.inr ⟨te,es,fzR id z elems,by rw[jO I,h1];rfl,by rw[fU];exact h2,fun e=>h3 (by rw[fU] at e;exact e)⟩⟩
 | .yl j,v,_,k=>by
  simp only[b6,R.fz] at k ⊢;obtain⟨st,jp,i,e,b,c,h1,h2,h3⟩:=k;have hne:j≠id:=by
   rintro rfl;rw[h1] at hid;cases hid;cases z with
   | map agg ents=>cases q
   | var l=>obtain⟨t,h⟩:=q;cases h
   | ra n es l=>obtain⟨_,_,h,_⟩:=q;cases h
  exact⟨st,jp,i,_,b,c,by rw[jO hne,h1];rfl,h2,h3⟩
 | .ra j off len sz,v,hk,k=>by
  simp only[b6] at k;obtain⟨J,k⟩:=k;by_cases I:j=id
  ·subst I;have key:b6 S' μ (hfz j z H) (.c .any) v:=by
    obtain⟨a,l,c,rfl⟩:=J;simp only[b6,Rep];exact⟨rfl,rfl⟩
   rcases k with k | ⟨te,es,elems,h1,h2,h3⟩
   ·rw[k] at hid;cases hid;cases z with
    | map agg ents=>cases q
    | var l=>obtain⟨t,h⟩:=q;cases h
    | ra n es l=>obtain⟨_,_,h,_⟩:=q;cases h
   ·rw[h1] at hid;cases hid;cases z with
    | map agg ents=>cases q
    | var l=>obtain⟨t,h⟩:=q;cases h
    | ra n es' l=>
     obtain⟨te',elems',Z,N,O⟩:=q;cases Z;simp only[R.fz,B6,B3];split
     ·rename_i hc;simp only[Ac] at hc;obtain⟨⟨c1,c2⟩,c3⟩:=hc;have c1:=ε c1;have c2:=ε c2;have c3:=ε c3;subst c1;subst c2;subst c3;obtain⟨f1,f2⟩:=hk (by simp[R.refs]);obtain⟨_,⟨m1,m2,m3⟩ | ⟨b,base,cap,m1,m2⟩⟩:=h3 O
      ·subst m2;simp only[length_nil] at O;subst O;subst N;simp only[b6];exact⟨none,0,m3,by simp,le_refl _,Aj _,(fun _=>⟨by first | rfl | simp,rfl⟩),(by simp),0,0,(by simp),[],(by simp[aW]),(by intro i v e;simp at e)⟩
      ·obtain⟨f3,f4,vs,f5,f6⟩:=f2 b base cap m1;simp only[b6];exact⟨some ⟨b,base,none⟩,cap,by rw[m2];simp,f1,f3,f4,by simp,(fun ad h=>by cases h;rfl),b,base,(fun ad h=>by cases h;exact⟨rfl,rfl⟩),vs,f5,f6⟩
     ·exact key
  ·have hb:Nat.beq j id=false:=by
    cases hb:Nat.beq j id with
    | false=>rfl
    | true=>exact absurd (ε hb) I
   have e:(R.ra j off len sz).fz id z=.ra j off len sz:=by cases z<;>simp[R.fz,hb]
   rw[e];simp only[b6];rcases k with k | ⟨te,es,elems,h1,h2,h3⟩
   ·exact⟨J,.inl (by rw[jO I,k];rfl)⟩
   ·refine⟨J,.inr ⟨te,es,fzR id z elems,by rw[jO I,h1];rfl,by rw[fU];exact h2,fun e=>?_⟩⟩;rw[fU] at e;obtain⟨Z,N⟩:=h3 e;refine⟨Z,?_⟩;rcases N with⟨N,O,q4⟩ | N
    ·exact .inl ⟨N,by rw[O];rfl,q4⟩
    ·exact .inr N
theorem aW.fz (hle:S.le S') {o:AObj}(hid:H id=some o) (q:z.of o):∀(r:List R) (v:List Value),(id∈R.refsL r→aXb S' μ H id z)→aW S μ H r v→aW S' μ (hfz id z H) (R.fzL id z r) v
 | [],_,_,k=>by simpa only[aW,R.fzL] using k
 | r::rs,vs,hk,k=>by
  simp only[aW,R.fzL] at k ⊢;obtain⟨v,vs',h1,h2,h3⟩:=k;exact⟨v,vs',h1,b6.fz hle hid q r v (fun h=>hk (by simp[R.refsL,h])) h2,aW.fz hle hid q rs vs' (fun h=>hk (by simp[R.refsL,h])) h3⟩
end
mutual
theorem aT.fz (hle:S.le S') {o:AObj}(hid:H id=some o) (q:z.of o) (hk:aXb S' μ H id z):∀(r:V) (v:Value),aT S μ H r v→aT S' μ (hfz id z H) (r.fz id z) v
 | .one r,v,k=>by simp only[aT,V.fz] at k ⊢;exact b6.fz hle hid q r v (fun _=>hk) k
 | .pa l,v,k=>by
  simp only[aT,V.fz] at k ⊢;obtain⟨vs,h1,h2⟩:=k;exact⟨vs,h1,cZ.mono hle l vs h2⟩
 | .ma l,v,k=>by
  simp only[aT,V.fz] at k ⊢;obtain⟨vs,h1,h2⟩:=k;exact⟨vs,h1,aW.fz hle hid q l vs (fun _=>hk) h2⟩
 | .tup l,v,k=>by
  simp only[aT,V.fz] at k ⊢;obtain⟨vs,h1,h2⟩:=k;exact⟨vs,h1,bG.fz hle hid q hk l vs h2⟩
theorem bG.fz (hle:S.le S') {o:AObj}(hid:H id=some o) (q:z.of o) (hk:aXb S' μ H id z):∀(r:List V) (v:List Value),bG S μ H r v→bG S' μ (hfz id z H) (V.fzL id z r) v
 | [],_,k=>by simpa only[bG,V.fzL] using k
 | r::rs,vs,k=>by
  simp only[bG,V.fzL] at k ⊢;obtain⟨v,vs',h1,h2,h3⟩:=k;exact⟨v,vs',h1,aT.fz hle hid q hk r v h2,bG.fz hle hid q hk rs vs' h3⟩
end
theorem AObj.succ_fz {p:Prop}{o o':AObj}(h:o.succ p o'):o.succ p (o'.fz id z):=by
 cases o<;>cases o'<;>simp only[AObj.succ,AObj.fz,fU] at h ⊢<;>exact h
theorem lW.fz {w:World}{j:Nat}{x:AObj}(hle:S.le S') {o:AObj}(hid:H id=some o) (I:z.of o) (hk:aXb S' μ H id z) (h:lW S μ H w j x) (hb:∀b c,μ j=some (b,c)→(∀o,S'.cell b o=S.cell b o)∧S'.mapo b=S.mapo b):lW S' μ (hfz id z H) w j (x.fz id z):=by
 cases x with
 | var t cells=>
  obtain⟨b,vs,h1,h2,h3,h4⟩:=h;exact⟨b,vs,h1,h2,aW.fz hle hid I _ _ (fun _=>hk) h3,fun o=>by rw[(hb b _ h1).1,h4.1],by rw[(hb b _ h1).2,h4.2]⟩
 | arr te es elems fz=>
  obtain⟨h0,h1 | ⟨b,base,cap,vs,h1,h2,h3,h4,h5,q,h7,J,N⟩⟩:=h
  ·exact⟨h0,.inl h1⟩
  ·exact⟨h0,.inr ⟨b,base,cap,vs,h1,h2,h3,h4,⟨h5.1,by rw[(hb b _ h1).2,h5.2]⟩,cZ.mono hle _ _ q,fun e o ho=>by rw[(hb b _ h1).1,h7 e o ho],fun o e=>by rw[(hb b _ h1).1,J o e],fun e=>(N e).mono hle⟩⟩
 | map agg ents=>
  obtain⟨b,es,clk,h1,h2,h3,h4⟩:=h;exact⟨b,es,clk,h1,h2,u7.mono hle h3,h4.of_eq (hb b _ h1).2⟩
 | dead=>exact h
 | lp st jp i e=>
  obtain⟨b,r,fn,tmps,h1,h2,h3,h4,h5,q⟩:=h;refine⟨b,r,fn,tmps,h1,h2,h3,fun t v ht=>?_,fun o=>by rw[(hb b _ h1).1,h5],by rw[(hb b _ h1).2,q]⟩;obtain⟨v0,O,rfl⟩:=aMm ht;exact aT.fz hle hid I hk _ _ (h4 t v0 O)
 | dfr=>
  obtain⟨b,h1,h2,h3,h4⟩:=h;exact⟨b,h1,h2,fun o=>by rw[(hb b _ h1).1,h3],by rw[(hb b _ h1).2,h4]⟩
 | rarr te es elems=>
  obtain⟨h0,h1 | ⟨b,base,cap,vs,h1,h2,h3,h4,h5,q,h7⟩⟩:=h
  ·exact⟨nB h0,.inl ⟨h1.1,by rw[h1.2];rfl⟩⟩
  ·refine⟨nB h0,.inr ⟨b,base,cap,vs,h1,h2,h3,by rw[fU];exact h4,⟨h5.1,by rw[(hb b _ h1).2,h5.2]⟩,?_,fun o ho=>by rw[(hb b _ h1).1,h7 o ho]⟩⟩;rw[aGe,fU];exact aW.fz hle hid I _ _ (fun _=>hk) q
 | tok r k=>
  obtain⟨h1,b,h2,m,h3,h4⟩:=h;obtain⟨W,h5,q⟩:=hle.2 b m h3;exact⟨h1,b,b6.fz hle hid I _ _ (fun _=>hk) h2,W,h5,MK.le_has q h4⟩
theorem Sto.free_of {S S':Sto}(h:S.free) {b:Nat}(hb:∀q,q≠b→(∀o,S'.cell q o=S.cell q o)∧S'.mapo q=S.mapo q) (ht:∀te lo hi,¬S'.mapo b=some (.top te lo hi)):S'.free:=fun q te lo hi e o ho=>by
 by_cases I:q=b
 ·subst I;exact absurd e (ht te lo hi)
 ·obtain⟨h1,h2⟩:=hb q I;rw[h1,h q te lo hi (by rw[←h2];exact e) o ho]
theorem oD {G:Ctx}{n:Nat}{kf:List Nat}{st:St}{a:Act}{w:World}{o:AObj}(hid:st.h id=some o) (N:z.of o) (Z:id∉kf) (hg:G.keeps kf) (hs:Sim G n S μ st a w) (hle:S.le S') (hh:Holds S' w) (hk:aXb S' μ st.h id z)
  (hb:∀b,(∀c,μ id≠some (b,c))→(∀o,S'.cell b o=S.cell b o)∧S'.mapo b=S.mapo b) (W:S'.free):Sim G n S' μ ⟨fun t=>(st.e t).map (V.fz id z),hfz id z st.h,st.d⟩ a w:=by
 have hold:∀j x,hfz id z st.h j=some x→j≠id∧∃J,st.h j=some J∧x=J.fz id z:=by
  intro j x q;have I:j≠id:=by rintro rfl;rw[aS8] at q;cases q
  rw[jO I] at q;cases h:st.h j with
  | none=>rw[h] at q;cases q
  | some J=>
   rw[h] at q;cases q;exact⟨I,J,rfl,rfl⟩
 have Y:∀j J,st.h j=some J→j≠id→∀b c,μ j=some (b,c)→∀c',μ id≠some (b,c'):=by
  intro j J q I b c hm c' O;exact I (hs.inv.inj j id J o b c c' q hid hm O)
 refine⟨⟨hh,fun j x q=>?_,fun i j x x' b c c' hi q hm O=>?_,fun i x b c hi hm=>?_,hs.inv.frame,Sto.le_trans hs.inv.sle hle,fun b aa hF=>?_,⟨Sto.le_trans hs.inv.evo.le hle,fun j x q=>?_⟩,W⟩,hs.size,hs.defers.go fun j _ q=>⟨rfl,?_⟩,fun t v e=>?_⟩
 ·obtain⟨I,J,h1,rfl⟩:=hold j x q;exact(hs.inv.obj j J h1).fz hle hid N hk fun b c hm=>hb b (Y j J h1 I b c hm)
 ·obtain⟨_,y,h1,_⟩:=hold i x hi;obtain⟨_,y',h2,_⟩:=hold j x' q;exact hs.inv.inj i j y y' b c c' h1 h2 hm O
 ·obtain⟨_,y,h1,_⟩:=hold i x hi;exact hs.inv.own i y b c h1 hm
 ·have hno:∀c,μ id≠some (b,c):=by
   intro c hm;rcases hs.inv.own id o b c hid hm with h | h
   ·omega
   ·exact hF h
  obtain⟨h1,h2⟩:=hb b hno;obtain⟨h3,h4⟩:=hs.inv.sto b aa hF;exact⟨fun o=>(h1 o).trans (h3 o),h2.trans h4⟩
 ·obtain⟨o',h1,h2⟩:=hs.inv.evo.obj j x q;have I:j≠id:=fun e=>Z (e▸hg.1 j x q)
  exact⟨o'.fz id z,by show hfz id z st.h j=_;rw[jO I,h1];rfl,AObj.succ_fz h2⟩
 ·have I:j≠id:=by
   rintro rfl;rw[q] at hid;cases hid;cases z with
   | map agg ents=>cases N
   | var l=>obtain⟨t,h⟩:=N;cases h
   | ra n es l=>obtain⟨_,_,h,_⟩:=N;cases h
  show hfz id z st.h j=_;rw[jO I,q];rfl
 ·cases h:st.e t with
  | none=>simp[h] at e
  | some v0=>
   simp only[h,Option.map_some,Option.some.injEq] at e;subst e;exact aT.fz hle hid N hk v0 _ (hs.env t v0 h)
theorem aFy {S:Sto}{w:World}{b:Nat}{es:Array MapEntry}{clk:Nat}(hh:Holds S w) (h:w.heap[b]?=some (.map es clk)):∃S':Sto,S'.cell=S.cell∧S'.mapo b=some (.all es clk)∧(∀q,q≠b→S'.mapo q=S.mapo q)∧S.le S'∧Holds S' w:=by
 have I:∀q,q≠b→(if q=b then some (MK.all es clk) else S.mapo q)=S.mapo q:=fun q e=>φ e
 refine⟨⟨S.cell,fun q=>if q=b then some (.all es clk) else S.mapo q⟩,rfl,ξ rfl,I,⟨fun _ _ _ e=>e,fun q m e=>?_⟩,hh.1,fun q m e=>?_⟩
 ·by_cases hb:q=b
  ·subst hb;refine⟨.all es clk,ξ rfl,?_⟩;have:=hh.2 _ _ e;cases m with
   | all N J=>simp only[MK.holds] at this;rw[h] at this;cases this;rfl
   | part ks=>
    obtain⟨N,J,h1,h2⟩:=this;rw[h] at h1;cases h1;exact h2
   | top te lo hi=>
    obtain⟨vs,h1,_⟩:=this;rw[h] at h1;cases h1
  ·exact⟨m,by rw[←e];exact I q hb,m.le_refl⟩
 ·by_cases hb:q=b
  ·subst hb;have e':(if q=q then some (MK.all es clk) else S.mapo q)=some m:=e;rw[ξ rfl] at e';cases e';exact h
  ·have e':(if q=b then some (MK.all es clk) else S.mapo q)=some m:=e;rw[φ hb] at e';exact hh.2 q m e'
theorem Sub.fmap {kf:List Nat}{st:St}{id:Nat}{agg:Bool}{ents:List (List C)}(hid:st.h id=some (.map agg ents)) (O:id∉kf) (W:kJ ents):Sub kf ⟨fun t=>(st.e t).map (V.fz id (.map agg ents)),hfz id (.map agg ents) st.h,st.d⟩ st:=by
 intro G n S μ a w Y hs;obtain⟨b,es,clk,h1,h2,h3,h4⟩:=hs.inv.obj id _ hid;obtain⟨S',I,J,N,hle,hh⟩:=aFy hs.inv.holds h2;refine⟨S',μ,oD hid rfl O Y hs hle hh ?_ (fun q hb=>⟨fun _=>by rw[I],?_⟩) (Sto.free_of hs.inv.fre (b:=b) (fun q hb=>⟨fun _=>by rw[I],N q hb⟩) fun te lo hi e=>by rw[J] at e;cases e)⟩
 ·intro q c hm;rw[h1] at hm;cases hm;exact⟨es,clk,J,.inl (b7.mono hle _ _ _ (h3.rep W))⟩
 ·exact N q fun e=>hb (0,0) (by rw[e];exact h1)
theorem Sub.fvar {kf:List Nat}{st:St}{id t:Nat}{l:List C}(hid:st.h id=some (.var t (l.map R.c))) (I:id∉kf):Sub kf ⟨fun t=>(st.e t).map (V.fz id (.var l)),hfz id (.var l) st.h,st.d⟩ st:=by
 intro G n S μ a w N hs;obtain⟨b,vs,h1,h2,h3,h4⟩:=hs.inv.obj id _ hid;have h3':=h3.pure
 let S':Sto:=⟨fun q o=>if q=b then vs[o]? else S.cell q o,S.mapo⟩
 have hle:S.le S':=⟨fun q o v e=>by
  show(if q=b then vs[o]? else S.cell q o)=some v;by_cases hb:q=b
  ·subst hb;rw[h4.1] at e;cases e
  ·rw[φ hb];exact e,fun _ m e=>⟨m,e,m.le_refl⟩⟩
 refine⟨S',μ,oD hid ⟨t,rfl⟩ I N hs hle ⟨fun q o v e=>?_,hs.inv.holds.2⟩ ?_ (fun q hb=>⟨fun o=>?_,rfl⟩) (Sto.free_of hs.inv.fre (b:=b) (fun q hb=>⟨fun _=>φ hb,rfl⟩) fun te lo hi e=>by have e:S.mapo b=_:=e;rw[h4.2] at e;cases e)⟩
 ·have e':(if q=b then vs[o]? else S.cell q o)=some v:=e;by_cases hb:q=b
  ·subst hb;rw[ξ rfl] at e';exact⟨⟨vs⟩,t,(0,0),h2,by simpa using e'⟩
  ·rw[φ hb] at e';exact hs.inv.holds.1 q o v e'
 ·intro q c hm;rw[h1] at hm;cases hm;refine⟨vs,cZ.mono hle _ _ h3',fun i u hu=>?_⟩;show(if b=b then vs[0+i]? else S.cell b (0+i))=some u;rw[ξ rfl,A6];exact hu
 ·have J:q≠b:=fun e=>hb (0,0) (by rw[e];exact h1)
  exact φ J
theorem Sub.fra {kf:List Nat}{st:St}{id te es:Nat}{elems:List (List R)}(hid:st.h id=some (.rarr te es elems)) (N:id∉kf) (J:R.fzL id (.ra elems.length es elems.flatten) elems.flatten=elems.flatten) (W:id∉R.refsL elems.flatten):
  Sub kf ⟨fun t=>(st.e t).map (V.fz id (.ra elems.length es elems.flatten)),hfz id (.ra elems.length es elems.flatten) st.h,st.d⟩ st:=by
 intro G n S μ a w Y hs;have O:(Fz.ra elems.length es elems.flatten).of (.rarr te es elems):=⟨te,elems,rfl,rfl,rfl⟩
 obtain⟨h0,⟨h1,h2⟩ | ⟨b,base,cap,vs,h1,h2,h3,h4,h5,h6,h7⟩⟩:=hs.inv.obj id _ hid
 ·refine⟨S,μ,oD hid O N Y hs S.le_refl hs.inv.holds ?_ (fun I _=>⟨fun _=>rfl,rfl⟩) hs.inv.fre⟩;refine⟨?_,fun b base cap hm=>?_⟩
  ·rw[h2];simp
  ·rw[h1] at hm;cases hm
 ·let S':Sto:=⟨fun I o=>if I=b then vs[o]? else S.cell I o,S.mapo⟩
  have hle:S.le S':=⟨fun I o v e=>by
   show(if I=b then vs[o]? else S.cell I o)=some v;by_cases hb:I=b
   ·subst hb;rw[ξ rfl];obtain⟨vs',t',fr',Z,q2⟩:=hs.inv.holds.1 I o v e;rw[h2] at Z;cases Z;simpa using q2
   ·rw[φ hb];exact e,fun _ m e=>⟨m,e,m.le_refl⟩⟩
  have hlen:elems.length*es=elems.flatten.length:=by
   have key:∀l:List (List R),(∀r∈l,r.length=es)→l.length*es=l.flatten.length:=by
    intro l
    induction l with
    | nil=>intro _;simp
    | cons r l ih=>
     intro h;have:=h r (by simp);have:=ih fun q hq=>h q (by simp[hq])
     simp only[Ak,Bf,τ,Ay];omega
   exact key elems h0
  refine⟨S',μ,oD hid O N Y hs hle ⟨fun I o v e=>?_,hs.inv.holds.2⟩ ⟨hlen,fun I ab cap' hm=>?_⟩ (fun I hb=>⟨fun o=>?_,rfl⟩) (Sto.free_of hs.inv.fre (b:=b) (fun I hb=>⟨fun _=>φ hb,rfl⟩) fun te lo hi e=>by have e:S.mapo b=_:=e;rw[h5.2] at e;cases e)⟩
  ·have e':(if I=b then vs[o]? else S.cell I o)=some v:=e;by_cases hb:I=b
   ·subst hb;rw[ξ rfl] at e';exact⟨⟨vs⟩,te,(0,0),h2,by simpa using e'⟩
   ·rw[φ hb] at e';exact hs.inv.holds.1 I o v e'
  ·rw[h1] at hm;cases hm;refine⟨h4,h5.1,(vs.drop base).take (elems.length*es),?_,?_⟩
   ·have:=aW.fz hle hid O _ _ (fun h=>absurd h W) h6;rwa [J] at this
   ·intro i u hu;show(if b=b then vs[base+i]? else S.cell b (base+i))=some u;rw[ξ rfl];rw[At] at hu;split at hu
    ·rwa [An] at hu
    ·cases hu
  ·have aa:I≠b:=fun e=>hb (base,cap) (by rw[e];exact h1)
   exact φ aa
end
end Go.AM
