/-
  Texts Am12 to Am19 in one.
-/
import Derived.Test.YtnjaiimffoninaaGreatDoorM2
import Derived.RangeFuncRecord
import Derived.IntWalk
import Derived.Laws.StructEq
open List (all_eq_true append_assoc append_nil cons_append drop_succ_cons flatten_cons length_append length_cons length_nil length_take map_cons map_nil map_toArray mem_append mem_cons mem_map nil_append set_eq_take_append_cons_drop take_of_length_le take_succ_cons)
open Nat (add_mul beq_refl eq_of_beq_eq_true le_of_ble_eq_true le_of_lt le_refl le_trans lt_of_lt_of_le min_eq_left zero_add zero_le)
namespace Go.AM
open Go
def rQ (μ:Mu) (h:dD):Nat→Prop:=fun b=>∃id o c,h id=some o∧μ id=some (b,c)
def aW (P:Program) (f:FuncId) (args:List V) (hin:List (Nat×AObj)) (res:V) (hout:List (Nat×AObj)):Prop:=
 ∀S μ w vals,Inv ⟨w,S,rQ μ (look hin),μ,look hin⟩ S μ (look hin) w→c6 S μ (look hin) args vals→
  Calls P f ⟨vals⟩ w fun e w'=>∃S' μ' v,e=.returned v∧Inv ⟨w,S,rQ μ (look hin),μ,look hin⟩ S' μ' (look hout) w'∧aY S' μ' (look hout) res v
mutual
theorem R.ren_id:∀r:R,r.ren (fun i=>i)=r
 | .c _=>rfl
 | .hs ..=>rfl
 | .tl ..=>rfl
 | .vp ..=>rfl
 | .ep ..=>rfl
 | .mr ..=>rfl
 | .clo f caps=>by simp only[R.ren,R.renL_id caps]
 | .mth f x=>by simp only[R.ren,R.ren_id x]
 | .yl _=>rfl
 | .ra _ _ _ _=>rfl
 | .rp _ _ _ _=>rfl
 | .ras n es l=>by simp only[R.ren,R.renL_id l]
 | .pas l=>by simp only[R.ren,R.renL_id l]
theorem R.renL_id:∀r:List R,R.renL (fun i=>i) r=r
 | []=>rfl
 | r::rs=>by simp only[R.renL,R.ren_id r,R.renL_id rs]
end
mutual
theorem V.ren_id:∀r:V,r.ren (fun i=>i)=r
 | .one r=>by simp only[V.ren,R.ren_id r]
 | .pa _=>rfl
 | .ma l=>by simp only[V.ren,R.renL_id l]
 | .tup l=>by simp only[V.ren,V.renL_id l]
theorem V.renL_id:∀r:List V,V.renL (fun i=>i) r=r
 | []=>rfl
 | r::rs=>by simp only[V.renL,V.ren_id r,V.renL_id rs]
end
theorem aOf:∀l:List (Nat×V),aM9 (fun i=>i) l=l
 | []=>rfl
 | (t,v)::l=>by simp only[aM9,V.ren_id v,aOf l]
theorem aGp:∀l:List (List R),o9 (fun i=>i) l=l
 | []=>rfl
 | r::l=>by simp only[o9,R.renL_id r,aGp l]
theorem Ole.refl_id {o:AObj}(h:o≠ .dead):Ole (fun i=>i) o o:=by
 cases o with
 | var t cells=>exact .var (R.renL_id cells).symm
 | arr=>exact .arr
 | map=>exact .map
 | dead=>exact absurd rfl h
 | lp st j i e=>exact .lp (aOf e).symm
 | dfr=>exact .dfr
 | rarr te es l=>exact .rarr (aGp l).symm
 | tok r k=>exact .tok (R.ren_id r).symm
inductive Conv (h:dD):List Nat→V→V→Prop
 | refl {v}:Conv h [] v v
 | one {ids r c}:PureL h ids [r] [c]→Conv h ids (.one r) (.one (.c c))
 | agg {ids rs cs}:PureL h ids rs cs→Conv h ids (.ma rs) (.pa cs)
 | pa {ids l cs}:PureL h ids (l.map R.c) cs→Conv h ids (.pa l) (.pa cs)
inductive ArgsV (st:St):List Nat→List Operand→List V→Prop
 | nil:ArgsV st [] [] []
 | cons {ids ids' x xs v v' vs}:opv st x=some v→Conv st.h ids v v'→ArgsV st ids' xs vs→ArgsV st (ids++ids') (x::xs) (v'::vs)
theorem Conv.rel {S:Sto}{μ:Mu}{H H0:dD}{w:World}{ids:List Nat}{v v':V}{u:Value}(h:Conv H0 ids v v') (hi:∀i∈ids,H i=H0 i) (y:∀id o,H id=some o→nI S μ H w id o) (q:aY S μ H v u):aY S μ H v' u:=by
 cases h with
 | refl=>exact q
 | @one _ r c h=>
  simp only[aY,b9] at q ⊢;have:=h.rel hi y (vs:=[u]) (by simp only[b6];exact⟨u,[],rfl,q,rfl⟩);simp only[dH] at this;obtain⟨v,vs',h1,h2,h3⟩:=this;cases h1;exact h2
 | @agg _ rs cs h=>
  simp only[aY] at q ⊢;obtain⟨vs,h1,h2⟩:=q;exact⟨vs,h1,h.rel hi y h2⟩
 | @pa _ l cs h=>
  simp only[aY] at q ⊢;obtain⟨vs,h1,h2⟩:=q;exact⟨vs,h1,h.rel hi y h2.toR⟩
def dF:List Operand→List Nat
 | []=>[]
 | x::xs=>opr x++dF xs
theorem ArgsV.rel {G:Ctx}{n:Nat}{S:Sto}{μ:Mu}{st st':St}{a:Act}{w:World}(hs:Sim G n S μ st' a w):∀{ids:List Nat}{xs:List Operand}{vs:List V},ArgsV st ids xs vs→(∀t∈dF xs,st'.e t=st.e t)→(∀i∈ids,st'.h i=st.h i)→c6 S μ st'.h vs (xs.map a.eval):=by
 intro ids xs vs h
 induction h with
 | nil=>intro _ _;simp[c6]
 | cons hx hc _ q=>
  intro ht hi;simp only[At,c6];refine⟨_,_,rfl,?_,q (fun t h=>ht t (by simp[dF,h])) fun i h=>hi i (by simp[h])⟩;exact hc.rel (fun i h=>hi i (by simp[h])) hs.inv.obj (aO hs hx fun t h=>ht t (by simp[dF,h]))
theorem Inv.hand {G:Ctx}{S:Sto}{μ:Mu}{H:dD}{w:World}{hin:List (Nat×AObj)}(h:Inv G S μ H w) (hh:∀id o,look hin id=some o→H id=some o∧o≠ .dead) (hc:subset (dI hin) (hin.map (·.1))=true):
  Inv ⟨w,S,rQ μ (look hin),μ,look hin⟩ S μ (look hin) w:=by
 have y:∀i∈hin.map (·.1),Good H (look hin) (fun i=>i) i:=by
  intro i hi;obtain⟨o,q⟩:=eJ hi;obtain⟨h1,h2⟩:=hh i o q;exact⟨o,o,h1,q,.refl_id h2⟩
 refine⟨h.holds,fun id o q=>?_,fun i j o o' b c c' hi hj hm I=>h.inj i j o o' b c c' (hh _ _ hi).1 (hh _ _ hj).1 hm I,fun i o b c hi hm=>.inr ⟨i,o,c,hi,hm⟩,FrameW.refl _ _ ⟨h.frame.tabAt,fun g J=>?_⟩,S.le_refl,fun b _ _=>⟨fun _=>rfl,rfl⟩,Evolve.refl _ _ _,h.fre⟩
 ·obtain⟨h1,h2⟩:=hh id o q;exact(h.obj id o h1).ren (.refl_id h2) fun i hi=>y i (bJ hc i (jH (bI q) i hi))
 ·rintro⟨i,o,c,h1,h2⟩;have h3:=(h.frame.tab.1 g J).1
  rcases h.own i o g c (hh i o h1).1 h2 with h4 | h4
  ·omega
  ·exact h.frame.tab.2 g J h4
def outs (l:List (Nat×AObj)):List (Nat×Option AObj):=l.map fun p=>(p.1,some p.2)
theorem aD8:∀(l:List (Nat×AObj)) (i:Nat),look (outs l) i=(look l i).map some
 | [],_=>rfl
 | (k,o)::l,i=>by
  simp only[outs,At,look];cases Nat.beq i k
  ·have:=aD8 l i;unfold outs at this;simpa using this
  ·rfl
theorem fJ (H:dD) (l:List (Nat×AObj)) (i:Nat):updL H (outs l) i=match look l i with | some o=>some o | none=>H i:=by
 simp only[updL,aD8];cases look l i<;>rfl
theorem Inv.back {G:Ctx}{S S':Sto}{μ μ':Mu}{H:dD}{w w':World}{hin hout:List (Nat×AObj)}(h:Inv G S μ H w) (hh:∀id o,look hin id=some o→H id=some o)
  (hnew:∀id o,look hout id=some o→(∃o',look hin id=some o')∨H id=none)
  (J:Inv ⟨w,S,rQ μ (look hin),μ,look hin⟩ S' μ' (look hout) w'):
  ∃Z:Mu,(∀id o,look hout id=some o→Z id=μ' id)∧Inv G S' Z (updL H (outs hout)) w'∧Evolve S μ H S' Z (updL H (outs hout))∧Evolve S' μ' (look hout) S' Z (updL H (outs hout)):=by
 have hE:Evolve S μ (look hin) S' μ' (look hout):=J.evo
 let Z:Mu:=fun id=>match look hout id with | some _=>μ' id | none=>μ id
 have O:∀id o,look hout id=some o→Z id=μ' id:=fun id o q=>by simp only[Z,q]
 have hμ2:∀id,look hout id=none→Z id=μ id:=fun id q=>by simp only[Z,q]
 have hH1:∀id o,look hout id=some o→updL H (outs hout) id=some o:=fun id o q=>by rw[fJ,q]
 have hH2:∀id,look hout id=none→updL H (outs hout) id=H id:=fun id q=>by rw[fJ,q]
 have hin_out:∀id o,look hin id=some o→∃o',look hout id=some o':=fun id o q=>by
  obtain⟨o',h1,_⟩:=hE.obj id o q;exact⟨o',h1⟩
 have hE1:Evolve S μ H S' Z (updL H (outs hout)):=by
  refine⟨hE.le,fun id o q=>?_⟩;cases y:look hout id with
  | none=>exact⟨o,by rw[hH2 id y,q],o.succ_refl (hμ2 id y)⟩
  | some o2=>
   rcases hnew id o2 y with⟨o',hi⟩ | hi
   ·have:=hh id o' hi;rw[q] at this;cases this;obtain⟨o3,h1,h2⟩:=hE.obj id o hi;rw[y] at h1;cases h1;exact⟨o2,hH1 id o2 y,by rw[O id o2 y];exact h2⟩
   ·rw[q] at hi;cases hi
 have hE2:Evolve S' μ' (look hout) S' Z (updL H (outs hout)):=⟨S'.le_refl,fun id o q=>⟨o,hH1 id o q,o.succ_refl (O id o q)⟩⟩
 have hrest:∀id o,H id=some o→look hout id=none→∀b c,μ id=some (b,c)→b<w.heap.size∧¬rQ μ (look hin) b:=by
  intro id o q y b c hm;refine⟨(h.obj id o q).lt hm,?_⟩;rintro⟨aa,o',c',h1,h2⟩;have:=h.inj id aa o o' b c c' q (hh _ _ h1) hm h2;subst this;obtain⟨o2,h3⟩:=hin_out id o' h1;rw[y] at h3;cases h3
 have ab:∀id o b c,look hout id=some o→μ' id=some (b,c)→w.heap.size≤b∨rQ μ (look hin) b:=fun id o b c q hm=>J.own id o b c q hm
 refine⟨Z,O,⟨J.holds,fun id o q=>?_,fun i j o o' b c c' hi hj hm Y=>?_,fun i o b c hi hm=>?_,?_,Sto.le_trans h.sle hE.le,fun b hb hF=>?_,h.evo.trans hE1,J.fre⟩,hE1,hE2⟩
 ·cases y:look hout id with
  | some o2=>
   rw[hH1 id o2 y] at q;cases q;exact(J.obj id _ y).evolve hE2 (O id _ y) fun b c hm=>⟨rfl,fun _=>rfl,rfl⟩
  | none=>
   rw[hH2 id y] at q;refine(h.obj id o q).evolve hE1 (hμ2 id y) fun b c hm=>?_
   obtain⟨h1,h2⟩:=hrest id o q y b c hm;exact⟨J.frame.block b h1 h2,(J.sto b h1 h2).1,(J.sto b h1 h2).2⟩
 ·cases hqi:look hout i with
  | some oi=>
   rw[O i oi hqi] at hm;cases I:look hout j with
   | some oj=>
    rw[O j oj I] at Y;exact J.inj i j oi oj b c c' hqi I hm Y
   | none=>
    rw[hμ2 j I] at Y;rw[hH2 j I] at hj;obtain⟨h1,h2⟩:=hrest j o' hj I b c' Y;rcases ab i oi b c hqi hm with h3 | h3
    ·omega
    ·exact absurd h3 h2
  | none=>
   rw[hμ2 i hqi] at hm;rw[hH2 i hqi] at hi;obtain⟨h1,h2⟩:=hrest i o hi hqi b c hm;cases I:look hout j with
   | some oj=>
    rw[O j oj I] at Y;rcases ab j oj b c' I Y with h3 | h3
    ·omega
    ·exact absurd h3 h2
   | none=>
    rw[hμ2 j I] at Y;rw[hH2 j I] at hj;exact h.inj i j o o' b c c' hi hj hm Y
 ·cases y:look hout i with
  | some o2=>
   rw[O i o2 y] at hm;rcases ab i o2 b c y hm with h3 | ⟨aa,o',c',h3,h4⟩
   ·exact .inl (le_trans h.frame.size h3)
   ·exact h.own aa o' b c' (hh _ _ h3) h4
  | none=>
   rw[hμ2 i y] at hm;rw[hH2 i y] at hi;exact h.own i o b c hi hm
 ·refine⟨J.frame.os.trans h.frame.os,J.frame.tape.trans h.frame.tape,J.frame.output.trans h.frame.output,le_trans h.frame.size J.frame.size,fun k hk hF=>?_,h.frame.tab⟩;rw[J.frame.block k (B8 hk h.frame.size) ?_,h.frame.block k hk hF];rintro⟨aa,o',c',h3,h4⟩;rcases h.own aa o' k c' (hh _ _ h3) h4 with h5 | h5
  ·omega
  ·exact hF h5
 ·have hnf:¬rQ μ (look hin) b:=by
   rintro⟨aa,o',c',h3,h4⟩;rcases h.own aa o' b c' (hh _ _ h3) h4 with h5 | h5
   ·omega
   ·exact hF h5
  have h1:=J.sto b (B8 hb h.frame.size) hnf;have h2:=h.sto b hb hF;exact⟨fun o=>(h1.1 o).trans (h2.1 o),h1.2.trans h2.2⟩
section
variable {P:Program}{n:Nat}{o:Oper}{st:St}{d:Nat}
def keys {α:Type}(l:List (Nat×α)):List Nat:=l.map (·.1)
theorem uZ {w:World}{S:Sto}{F:Nat→Prop}{μ:Mu}{hin:List (Nat×AObj)}:Ctx.keeps ⟨w,S,F,μ,look hin⟩ (keys hin):=
 ⟨fun id o q=>Ah.2 ⟨_,bI q,rfl⟩,fun h1 h2=>by
  obtain⟨o,q⟩:=eJ h1;rw[show look hin 997=none from h2] at q
  cases q⟩
def AObj.live:AObj→Bool
 | .dead=>false
 | _=>true
def callOk (args:List V) (hin:List (Nat×AObj)):Bool:=subset (V.refsL args) (keys hin)&&subset (dI hin) (keys hin)&&(hin.all fun p=>p.2.live)
theorem Step.call {f:FuncId}{ids y:List Nat}{args:List V}{hin hout:List (Nat×AObj)}{res:V}(hd:o.dst=some d) (Z:d<n) (hf:aW P f args hin res hout)
  (hin':dU (fun p=>st.h p.1=some p.2) hin) (hout':dU (fun p=>p.1∈keys hin∨st.h p.1=none) hout) (hok:callOk args hin=true)
  (J:∀st',rR ⟨y,ids++keys hin++keys hout⟩ st st'→∀G S μ a w,Sim G n S μ st' a w→∃vals,(execOp a.eval o).run P w=.ok (.enter f ⟨vals⟩) w∧c6 S μ st'.h args vals):
  Step P n o st ⟨y,ids++keys hin++keys hout⟩ ⟨some (d,some res),outs hout⟩:=by
 intro st' ha G S μ a w K Q hs hk;obtain⟨vals,hr,hv⟩:=J st' ha G S μ a w hs;simp only[callOk,ζ] at hok;obtain⟨⟨k1,k2⟩,k3⟩:=hok;have hh:∀id o,look hin id=some o→st'.h id=some o∧o≠ .dead:=by
  intro id o q;have hm:=bI q;have h1:=hin'.mem _ hm;refine⟨by rw[ha.2 id (by simp only[ω];exact .inl (.inr (Ah.2 ⟨_,hm,rfl⟩)))];exact h1,?_⟩;have:=(Au.1 k3) _ hm;rintro rfl;simp[AObj.live] at this
 have O:∀id o,look hout id=some o→(∃o',look hin id=some o')∨st'.h id=none:=by
  intro id o q;have hm:=bI q;rcases hout'.mem _ hm with h1 | h1
  ·exact .inl (eJ h1)
  ·exact .inr (by rw[ha.2 id (by simp only[ω];exact .inr (Ah.2 ⟨_,hm,rfl⟩))];exact h1)
 have hI:=hs.inv.hand hh k2;have I:∀i∈keys hin,Good st'.h (look hin) (fun i=>i) i:=by
  intro i hi;obtain⟨o,q⟩:=eJ hi;obtain⟨h1,h2⟩:=hh i o q;exact⟨o,o,h1,q,.refl_id h2⟩
 have aa:c6 S μ (look hin) args vals:=by
  have:=c6.ren (H:=st'.h) (H':=look hin) (σ:=fun i=>i) args vals (fun i hi=>I i (bJ k1 i hi)) (by rw[V.renL_id];exact hv);exact this
 have hc:=hf S μ w vals hI aa;refine fun ro=>zD hr ?_
 refine hc.mono fun e w' ⟨S',μ',v,he,ab,Y⟩=>?_
 subst he;obtain⟨μ2,q1,q2,q3,q4⟩:=hs.inv.back (fun id o q=>(hh id o q).1) O ab;show K (a.put o.dst v) w';rw[hd];refine hk S' μ2 _ _ ?_;exact hs.put q2 q3 Z (x:=some res) fun z hz=>by cases hz;exact aY.evolve q4 _ _ Y
def iI (P : Program) (f : FuncId) : Prop := ∃ fn, P.funcs[f]? = some fn ∧ (fn.name == "runtime.NumGoroutine") = false ∧ fn.body.isNone = false
theorem jY {f:FuncId}(hb:iI P f) (args:Array Value) (w:World):(callFunc f args).run P w=.ok (.enter f args) w:=by
 obtain⟨fn,h1,h2,h3⟩:=hb;have hp:(program:Sem Program).run P w=.ok P w:=rfl;simp only[callFunc,Ad,hp,τ,h1,h2,h3,Ba,B5,Af]
theorem aOo {f:FuncId}{xs:Array Operand}{ts:Array TypeId}{ids:List Nat}{args:List V}{res:V}(hin hout:List (Nat×AObj)) (hb:iI P f) (I:o.op=.call { callee:=.value (.func f),args:=xs,argTypes:=ts }) (hd:o.dst=some d) (y:d<n)
  (J:aW P f args hin res hout) (ha:ArgsV st ids xs.toList args) (hin':dU (fun p=>st.h p.1=some p.2) hin) (hout':dU (fun p=>p.1∈keys hin∨st.h p.1=none) hout) (hok:callOk args hin=true):
  Step P n o st ⟨dF xs.toList,ids++keys hin++keys hout⟩ ⟨some (d,some res),outs hout⟩:=by
 refine Step.call hd y J hin' hout' hok fun st' q G S μ a w hs=>⟨xs.toList.map a.eval,?_,ha.rel hs q.1 fun i h=>q.2 i (by simp[h])⟩
 simp only[execOp,I,resolve,Deferred.ofValue,Act.eval,Ad,Af,τ,invoke,jY hb];congr 2;apply Array.ext';simp
theorem aAb {f:FuncId}{x:Operand}{caps:List R}{xs:Array Operand}{ts:Array TypeId}{ids:List Nat}{args:List V}{res:V}(hin hout:List (Nat×AObj)) (hb:iI P f) (Y:o.op=.call { callee:=.value x,args:=xs,argTypes:=ts }) (hd:o.dst=some d) (I:d<n)
  (hx:opv st x=some (.one (.clo f caps))) (Z:aW P f (args++caps.map V.one) hin res hout) (ha:ArgsV st ids xs.toList args) (hin':dU (fun p=>st.h p.1=some p.2) hin) (hout':dU (fun p=>p.1∈keys hin∨st.h p.1=none) hout) (hok:callOk (args++caps.map V.one) hin=true):
  Step P n o st ⟨opr x++dF xs.toList,ids++keys hin++keys hout⟩ ⟨some (d,some res),outs hout⟩:=by
 refine Step.call hd I Z hin' hout' hok fun st' q G S μ a w hs=>?_
 have J:=aO hs hx fun t ht=>q.1 t (by simp[ht])
 simp only[aY,b9] at J;obtain⟨vs,h1,h2⟩:=J;refine⟨xs.toList.map a.eval++vs,?_,?_⟩
 ·simp only[execOp,Y,resolve,h1,Deferred.ofValue,Ad,Af,τ,invoke,jY hb];congr 2;apply Array.ext';simp
 ·have O:∀(l:List V) (us:List Value) (rs:List R) (vs:List Value),c6 S μ st'.h l us→b6 S μ st'.h rs vs→c6 S μ st'.h (l++rs.map V.one) (us++vs):=by
   intro l
   induction l with
   | nil=>
    intro us rs vs h k;simp only[c6] at h;subst h;simp only[A3]
    induction rs generalizing vs with
    | nil=>simp only[b6] at k;subst k;simp[c6]
    | cons r rs y=>
     simp only[b6] at k;obtain⟨v,vs',rfl,k1,k2⟩:=k;simp only[At,c6];exact⟨v,vs',rfl,by simpa [aY] using k1,y vs' k2⟩
   | cons x l y=>
    intro us rs vs h k;simp only[c6] at h;obtain⟨v,vs',rfl,k1,k2⟩:=h;simp only[A1,c6];exact⟨v,_,rfl,k1,y vs' rs vs k2 k⟩
  exact O _ _ _ _ (ha.rel hs (fun t ht=>q.1 t (by simp[ht])) fun i h=>q.2 i (by simp[h])) h2
theorem aZi {f:FuncId}{x:Operand}{recv:R}{xs:Array Operand}{ts:Array TypeId}{ids:List Nat}{args:List V}{res:V}(hin hout:List (Nat×AObj)) (hb:iI P f) (J:o.op=.call { callee:=.value x,args:=xs,argTypes:=ts }) (hd:o.dst=some d) (y:d<n)
  (hx:opv st x=some (.one (.mth f recv))) (O:aW P f (.one recv::args) hin res hout) (ha:ArgsV st ids xs.toList args) (hin':dU (fun p=>st.h p.1=some p.2) hin) (hout':dU (fun p=>p.1∈keys hin∨st.h p.1=none) hout) (hok:callOk (.one recv::args) hin=true):
  Step P n o st ⟨opr x++dF xs.toList,ids++keys hin++keys hout⟩ ⟨some (d,some res),outs hout⟩:=by
 refine Step.call hd y O hin' hout' hok fun st' q G S μ a w hs=>?_
 have I:=aO hs hx fun t ht=>q.1 t (by simp[ht])
 simp only[aY,b9] at I;obtain⟨u,h1,h2⟩:=I;refine⟨u::xs.toList.map a.eval,?_,?_⟩
 ·simp only[execOp,J,resolve,h1,Deferred.ofValue,Ad,Af,τ,invoke,jY hb];congr 2;apply Array.ext';simp
 ·simp only[c6,aY];exact⟨u,_,rfl,h2,ha.rel hs (fun t ht=>q.1 t (by simp[ht])) fun i h=>q.2 i (by simp[h])⟩
end
theorem Sim.freeze {G:Ctx}{n:Nat}{S:Sto}{μ:Mu}{a:Act}{w:World}{st:St}{id te es:Nat}{elems:List (List C)}{fz:Nat}(h:st.h id=some (.arr te es elems fz)) (hs:Sim G n S μ st a w):∃S' μ',Sim G n S' μ' ⟨st.e,upd st.h id (some (.arr te es elems 2)),st.d⟩ a w:=by
 have hO:=hs.inv.obj id _ h
 have aa:∀S',S.le S'→Evolve S μ st.h S' μ (upd st.h id (some (.arr te es elems 2))):=fun S' hle=>⟨hle,fun j x hj=>by
  by_cases q:j=id
  ·subst q;rw[h] at hj;cases hj;exact⟨_,aI _ _ _,by simp[AObj.succ]⟩
  ·exact⟨x,by rw[aV _ _ _ q];exact hj,x.succ_refl rfl⟩⟩
 have hold:∀j x,upd st.h id (some (.arr te es elems 2)) j=some x→∃x',st.h j=some x':=fun j x hj=>by
  by_cases q:j=id
  ·subst q;exact⟨_,h⟩
  ·rw[aV _ _ _ q] at hj;exact⟨_,hj⟩
 obtain⟨h1,h2,h3,h4,h5,h6,h7,h8,ab⟩:=hs.inv;obtain⟨g0,⟨g1,g2⟩ | ⟨b,base,cap,vs,g1,g2,g3,g4,g5,g6,g7,g8,g9⟩⟩:=hO
 ·--no block yet
  have J:=aa S S.le_refl;refine⟨S,μ,⟨h1,fun j x hj=>?_,fun i j x x' b c c' hi hj hm Y=>?_,fun i x b c hi hm=>?_,h5,h6,h7,h8.trans J,ab⟩,hs.size,hs.defers.evolve J,fun t v e=>aY.evolve J v _ (hs.env t v e)⟩
  ·by_cases q:j=id
   ·subst q;have y:some (AObj.arr te es elems 2)=some x:=by rw[←hj];exact(aI _ _ _).symm
    cases y;exact⟨g0,.inl ⟨g1,g2⟩⟩
   ·have y:st.h j=some x:=by rw[←hj];exact(aV _ _ _ q).symm
    exact(h2 j x y).evolve J rfl fun _ _ _=>⟨rfl,fun _=>rfl,rfl⟩
  ·obtain⟨_,I⟩:=hold _ _ hi;obtain⟨_,y⟩:=hold _ _ hj;exact h3 i j _ _ b c c' I y hm Y
  ·obtain⟨_,I⟩:=hold _ _ hi;exact h4 i _ b c I hm
 ·let S':Sto:=⟨fun b' o=>if b'=b∧base≤o∧o<base+elems.length*es then vs[o]? else S.cell b' o,S.mapo⟩
  have Z:∀o v,S.cell b o=some v→vs[o]?=some v:=fun o v e=>by
   obtain⟨vs0,t0,fr0,p1,p2⟩:=h1.1 b o v e;rw[g2] at p1;cases p1;simpa using p2
  have hle:S.le S':=⟨fun b' o v e=>by
   show(if b'=b∧base≤o∧o<base+elems.length*es then vs[o]? else S.cell b' o)=some v;by_cases hc:b'=b∧base≤o∧o<base+elems.length*es
   ·rw[κ hc];obtain⟨rfl,_⟩:=hc;exact Z o v e
   ·rw[θ hc];exact e,fun b' m e=>⟨m,e,m.le_refl⟩⟩
  have J:=aa S' hle;have O:∀b' o,b'≠b→S'.cell b' o=S.cell b' o:=fun b' o q=>θ fun hc=>q hc.1
  refine⟨S',μ,⟨⟨fun b' o v e=>?_,h1.2⟩,fun j x hj=>?_,fun i j x x' b c c' hi hj hm Y=>?_,fun i x b c hi hm=>?_,h5,Sto.le_trans h6 hle,fun b' hb hF=>?_,h8.trans J,fun b' te' lo hi e o ho=>(O b' o fun eb=>by rw[eb] at e;have e:S.mapo b=_:=e;rw[g5.2] at e;cases e).trans (ab b' te' lo hi e o ho)⟩,hs.size,hs.defers.evolve J,fun t v e=>aY.evolve J v _ (hs.env t v e)⟩
  ·by_cases hc:b'=b∧base≤o∧o<base+elems.length*es
   ·have e':vs[o]?=some v:=by rw[←e];exact(κ hc).symm
    obtain⟨rfl,_⟩:=hc;exact⟨⟨vs⟩,te,(0,0),g2,by simpa using e'⟩
   ·have e':S.cell b' o=some v:=by rw[←e];exact(θ hc).symm
    exact h1.1 b' o v e'
  ·by_cases q:j=id
   ·subst q;have y:some (AObj.arr te es elems 2)=some x:=by rw[←hj];exact(aI _ _ _).symm
    cases y;refine⟨g0,.inr ⟨b,base,cap,vs,g1,g2,g3,g4,g5,dH.mono hle _ _ g6,(fun e=>by cases e),fun o ho=>?_,fun _ i v hi=>?_⟩⟩
    ·show(if b=b∧base≤o∧o<base+elems.length*es then vs[o]? else S.cell b o)=none;rw[θ (by omega)];exact g8 o ho
    ·rw[Ay] at hi;split at hi
     ·rw[Am] at hi;show(if b=b∧base≤base+i∧base+i<base+elems.length*es then vs[base+i]? else S.cell b (base+i))=some v;rw[κ ⟨rfl,by omega,by omega⟩];exact hi
     ·cases hi
   ·have y:st.h j=some x:=by rw[←hj];exact(aV _ _ _ q).symm
    refine(h2 j x y).evolve J rfl fun b' c' hm=>⟨rfl,fun o=>O b' o ?_,rfl⟩
    rintro rfl;exact q (h3 j id x _ b' c' _ y h hm g1)
  ·obtain⟨_,I⟩:=hold _ _ hi;obtain⟨_,y⟩:=hold _ _ hj;exact h3 i j _ _ b c c' I y hm Y
  ·obtain⟨_,I⟩:=hold _ _ hi;exact h4 i _ b c I hm
  ·have q:b'≠b:=by
    rintro rfl;rcases h4 id _ b' _ h g1 with h9 | h9
    ·omega
    ·exact hF h9
   exact⟨fun o=>(O b' o q).trans ((h7 b' hb hF).1 o),(h7 b' hb hF).2⟩
theorem Sub.freeze {kf:List Nat}{st:St}{id te es:Nat}{elems:List (List C)}{fz:Nat}(h:st.h id=some (.arr te es elems fz)):Sub kf ⟨st.e,upd st.h id (some (.arr te es elems 2)),st.d⟩ st:=
 fun _ _ _ _ _ _ _ hs=>hs.freeze h
theorem Inv.empty {G:Ctx}{S:Sto}{μ:Mu}{H:dD}{w:World}{id:Nat}(te es:Nat) (h:Inv G S μ H w) (hid:H id=none):Inv G S (upd μ id none) (upd H id (some (.arr te es [] 0))) w∧Evolve S μ H S (upd μ id none) (upd H id (some (.arr te es [] 0))):=by
 have I:Evolve S μ H S (upd μ id none) (upd H id (some (.arr te es [] 0))):=gD hid _ _;refine⟨⟨h.holds,fun j x hj=>?_,fun i j x x' b c c' hi hj hm q=>?_,fun i x b c hi hm=>?_,h.frame,h.sle,h.sto,h.evo.trans I,h.fre⟩,I⟩
 ·by_cases y:j=id
  ·subst y;rw[aI] at hj;cases hj;exact⟨by simp,.inl ⟨aI _ _ _,rfl⟩⟩
  ·rw[aV _ _ _ y] at hj;exact(h.obj j x hj).evolve I (aV _ _ _ y) fun _ _ _=>⟨rfl,fun _=>rfl,rfl⟩
 ·have h1:i≠id:=fun e=>by subst e;rw[aI] at hm;cases hm
  have h2:j≠id:=fun e=>by subst e;rw[aI] at q;cases q
  rw[aV _ _ _ h1] at hi hm;rw[aV _ _ _ h2] at hj q;exact h.inj i j x x' b c c' hi hj hm q
 ·have h1:i≠id:=fun e=>by subst e;rw[aI] at hm;cases hm
  rw[aV _ _ _ h1] at hi hm;exact h.own i x b c hi hm
theorem Sub.own {kf:List Nat}{st:St}{t id:Nat}(te es:Nat) (h:st.e t=some (.one (.c .nl))) (hid:st.h id=none):Sub kf ⟨upd st.e t (some (.one (.hs id 0 0 0))),upd st.h id (some (.arr te es [] 0)),st.d⟩ st:=by
 intro G n S μ a w _ hs;obtain⟨hi,I⟩:=hs.inv.empty te es hid;refine⟨S,upd μ id none,⟨hi,hs.size,hs.defers.evolve I,fun s v e=>?_⟩⟩;by_cases q:s=t
 ·subst q;have y:=hs.env s _ h;have e':v=.one (.hs id 0 0 0):=by
   have:some v=some (V.one (.hs id 0 0 0)):=by rw[←e];exact aI _ _ _
   cases this;rfl
  subst e';simp only[aY,b9,Rep] at y ⊢;exact⟨⟨_,_,_,y⟩,.inr ⟨te,es,[],0,aI _ _ _,le_refl _,fun _=>⟨le_refl _,.inl ⟨aI _ _ _,rfl,y⟩⟩⟩⟩
 ·have e':st.e s=some v:=by rw[←e];exact(aV _ _ _ q).symm
  exact aY.evolve I v _ (hs.env s v e')
theorem Sub.ownCell {kf:List Nat}{st:St}{x k id tv:Nat}{cells:List R}(te es:Nat) (h:st.h x=some (.var tv cells)) (hk:cells[k]?=some (.c .nl)) (hid:st.h id=none):
  Sub kf ⟨st.e,upd (upd st.h id (some (.arr te es [] 0))) x (some (.var tv (cells.set k (.hs id 0 0 0)))),st.d⟩ st:=by
 intro G n S μ a w _ hs;obtain⟨hi,hE⟩:=hs.inv.empty te es hid;have aa:x≠id:=fun e=>by subst e;rw[h] at hid;cases hid
 have hx:upd st.h id (some (.arr te es [] 0)) x=some (.var tv cells):=by rw[aV _ _ _ aa];exact h
 obtain⟨b,vs,g1,g2,g3,g4⟩:=hi.obj x _ hx
 have I:Evolve S (upd μ id none) (upd st.h id (some (.arr te es [] 0))) S (upd μ id none) (upd (upd st.h id (some (.arr te es [] 0))) x (some (.var tv (cells.set k (.hs id 0 0 0))))):=⟨S.le_refl,fun j y hj=>by
  by_cases q:j=x
  ·subst q;rw[hx] at hj;cases hj;exact⟨_,aI _ _ _,by simp[AObj.succ]⟩
  ·exact⟨y,by rw[aV _ _ _ q];exact hj,y.succ_refl rfl⟩⟩
 have hold:∀j y,upd (upd st.h id (some (.arr te es [] 0))) x (some (.var tv (cells.set k (.hs id 0 0 0)))) j=some y→∃y',upd st.h id (some (.arr te es [] 0)) j=some y':=fun j y hj=>by
  by_cases q:j=x
  ·subst q;exact⟨_,hx⟩
  ·rw[aV _ _ _ q] at hj;exact⟨_,hj⟩
 refine⟨S,upd μ id none,⟨⟨hi.holds,fun j y hj=>?_,fun i j y y' b c c' J hj hm hm'=>?_,fun i y b c J hm=>?_,hi.frame,hi.sle,hi.sto,hi.evo.trans I,hi.fre⟩,hs.size,hs.defers.evolve (hE.trans I),fun s v e=>aY.evolve (hE.trans I) v _ (hs.env s v e)⟩⟩
 ·by_cases q:j=x
  ·subst q;have O:some (AObj.var tv (cells.set k (.hs id 0 0 0)))=some y:=by rw[←hj];exact(aI _ _ _).symm
   cases O;refine⟨b,vs,g1,g2,?_,g4⟩;have h3:=b6.evolve I _ _ g3;obtain⟨u,hu,Y⟩:=g3.get k _ hk;simp only[b9,Rep] at Y;have hkl:k<cells.length:=(ξ.1 hk).1
   have Z:cells.set k (.hs id 0 0 0)=cV cells k [.hs id 0 0 0]:=by
    unfold cV;rw[Cl,κ hkl];simp
   have hvl:=g3.length;have hvs:vs=cV vs k [u]:=by
    unfold cV;apply Bg;intro i;simp only[B7,ε,Ap,Ai,length_nil,Ay,Am];have hm:min k vs.length=k:=by omega
    rw[hm];by_cases c1:i<k
    ·simp[c1,show i<k+1 by omega]
    ·by_cases c2:i=k
     ·subst c2;simp[hu]
     ·simp[show ¬i<k+1 by omega,show k+1+(i-(k+1))=i by omega]
   rw[Z] at h3 ⊢;rw[hvs];refine qR h3 ?_;simp only[b6,b9];exact⟨u,[],rfl,⟨⟨_,_,_,Y⟩,.inr ⟨te,es,[],0,by rw[aV _ _ _ aa.symm];exact aI _ _ _,le_refl _,fun _=>⟨le_refl _,.inl ⟨aI _ _ _,rfl,Y⟩⟩⟩⟩,rfl⟩
  ·have O:upd st.h id (some (.arr te es [] 0)) j=some y:=by rw[←hj];exact(aV _ _ _ q).symm
   exact(hi.obj j y O).evolve I rfl fun _ _ _=>⟨rfl,fun _=>rfl,rfl⟩
 ·obtain⟨_,h1⟩:=hold _ _ J;obtain⟨_,h2⟩:=hold _ _ hj;exact hi.inj i j _ _ b c c' h1 h2 hm hm'
 ·obtain⟨_,h1⟩:=hold _ _ J;exact hi.own i _ b c h1 hm
def a1f:Nat→List V→List (Nat×V)
 | _,[]=>[]
 | k,v::vs=>(k,v)::a1f (k+1) vs
inductive ResV (T:TT) (st:St):List ResultVar→List V→Prop
 | nil:ResV T st [] []
 | tmp {t v rs vs}:st.e t=some v→ResV T st rs vs→ResV T st (.tmp t::rs) (v::vs)
 | cell {a t i id off tv cells v rs vs}:st.e a=some (.one (.vp id off))→T[t]?=some (some i)→st.h id=some (.var tv cells)→Nat.ble (off+i.size) cells.length=true→sG i ((cells.drop off).take i.size)=some v→ResV T st rs vs→
   ResV T st (.cell a t::rs) (v::vs)
inductive Convs (h:dD):List V→List V→Prop
 | nil:Convs h [] []
 | cons {ids v v' vs vs'}:Conv h ids v v'→Convs h vs vs'→Convs h (v::vs) (v'::vs')
def aWt:List Value→Value
 | [u]=>u
 | us=>.tuple ⟨us⟩
def aLp:List V→V
 | [v]=>v
 | vs=>.tup vs
theorem Convs.rel {S:Sto}{μ:Mu}{H:dD}{w:World}:∀{vs vs':List V}{us:List Value},Convs H vs vs'→(∀id o,H id=some o→nI S μ H w id o)→c6 S μ H vs us→c6 S μ H vs' us:=by
 intro vs vs' us h
 induction h generalizing us with
 | nil=>intro _ q;exact q
 | cons hc _ J=>
  intro y q;simp only[c6] at q ⊢;obtain⟨v,I,rfl,h1,h2⟩:=q;exact⟨v,I,rfl,hc.rel (fun _ _=>rfl) y h1,J y h2⟩
section
variable {P:Program}{T:TT}
theorem sF {G:Ctx}{n:Nat}{S:Sto}{μ:Mu}{st:St}{a:Act}{w:World}(Y:Tok P T) (hs:Sim G n S μ st a w):∀{rs:List ResultVar}{vs:List V},ResV T st rs vs→
  ∃us,(rs.mapM fun(x:ResultVar)=>(match x with | .tmp t=>pure (a.tmps.getD t undef) | .cell p t=>do loadVar t (←asAddr (a.tmps.getD p undef)):Sem Value)).run P w=.ok us w∧c6 S μ st.h vs us:=by
 intro rs vs h
 induction h with
 | nil=>exact⟨[],by simp,by simp[c6]⟩
 | @tmp t v rs vs ht _ I=>
  obtain⟨us,h1,h2⟩:=I;refine⟨a.tmps.getD t undef::us,?_,?_⟩
  ·simp only[List.mapM_cons,Ad,Af,τ,h1]
  ·simp only[c6];exact⟨_,_,rfl,hs.env _ _ ht,h2⟩
 | @cell p t i id off tv cells v rs vs ht hi hh hb hl _ I=>
  obtain⟨us,h1,h2⟩:=I;have J:=hs.env _ _ ht;simp only[aY,b9] at J;obtain⟨t',cells',b,c,g1,g2,g3⟩:=J;obtain⟨b',ws,Z,q2,O,q4⟩:=hs.inv.obj id _ hh;rw[Z] at g2;cases g2;have hlen:=Ak hb;have hvl:=O.length;have q:=run_load (Y.get hi) w b off _ (lE q2 off i.size) (a8a (by omega));have y:=mZ ((O.drop off).take i.size) hl;generalize (if i.k.agg then Value.agg ⟨(ws.drop off).take i.size⟩ else((ws.drop off).take i.size).headD undef)=u at q y;refine⟨u::us,?_,by simp only[c6];exact⟨_,_,rfl,y,h2⟩⟩
  ·simp only[Instr.loadAt,Instr.sureAddr,Ad,Af,τ] at q;have hA:(asAddr (a.tmps.getD p undef)).run P w=.ok ⟨b,off,none⟩ w:=by rw[g3];rfl
   simp only[List.mapM_cons,Ad,Af,τ,hA,q,h1]
theorem aGm {G:Ctx}{n:Nat}{S:Sto}{μ:Mu}{st:St}{a:Act}{w:World}{fn:Func}{vs:List V}(q:Tok P T) (hs:Sim G n S μ st a w) (h:ResV T st fn.results.toList vs):
  ∃us,(results fn a.tmps).run P w=.ok (aWt us) w∧c6 S μ st.h vs us:=by
 obtain⟨us,h1,h2⟩:=sF q hs h;refine⟨us,?_,h2⟩;unfold results;rw[Array.mapM_eq_mapM_toList,Ad,Sem.run_map]
 erw [h1]
 simp only[τ,Af];congr 1
 match us with
 | []=>simp[aWt]
 | [u]=>simp[aWt]
 | u::y::us=>simp[aWt]
def AObj.plain:AObj→Bool
 | .dfr=>false
 | _=>true
theorem aTv {o:AObj}{p:Prop}(h:o.succ p .dfr):o=.dfr:=by cases o<;>simp only[AObj.succ] at h;rfl
theorem Sim.take {P:Program}{G:Ctx}{n:Nat}{S:Sto}{μ:Mu}{st:St}{a:Act}{w:World}{id:Nat}{ids:List Nat}(hs:Sim G n S μ st a w) (hd:st.d=id::ids) (Z:∀id,G.h0 id≠some .dfr):
  ∃b I w',a.defers={ target:=.collected b,args:= #[] }::I∧(Instr.takeDeferred b).run P w=.ok [] w'∧Sim G n S μ ⟨st.e,upd st.h id none,ids⟩ { a with defers:=I } w':=by
 have hm:=hs.defers;rw[hd] at hm;obtain⟨b,c,I,h1,h2,h3,h4,h5,h6⟩:=hm;obtain⟨b',g1,g2,g3,g4⟩:=hs.inv.obj _ _ h3;rw[h2] at g1;cases g1;have hlt:b<w.heap.size:=(Cu.1 g2).1
 have J:∀j,upd st.h id none j=none∨j≠id:=fun j=>by
  by_cases hj:j=id
  ·exact .inl (by rw[hj,aI])
  ·exact .inr hj
 have aEm:∀{j o},upd st.h id none j=some o→j≠id∧st.h j=some o:=by
  intro j o hj;rcases J j with h | h
  ·rw[h] at hj;cases hj
  ·exact⟨h,by rwa [aV _ _ _ h] at hj⟩
 have O:Evo0 S μ st.h S μ (upd st.h id none):=⟨S.le_refl,fun j o hj ho=>by
  have q:j≠id:=by rintro rfl;rw[h3] at hj;cases hj;exact ho rfl
  exact⟨o,by rw[aV _ _ _ q];exact hj,o.succ_refl rfl⟩⟩
 refine⟨b,I,w.putObj b (.deferred none),h1,run_takeDeferred g2,⟨⟨⟨fun b' o v e=>?_,fun b' mk e=>?_⟩,fun j o hj=>?_,fun i j o o' b1 y c2 hi hj m1 m2=>?_,fun i o b1 y hi m1=>?_,?_,hs.inv.sle,hs.inv.sto,⟨hs.inv.evo.le,fun j o hj=>?_⟩,hs.inv.fre⟩,hs.size,?_,fun t v e=>aY.evolve0 O _ _ (hs.env t v e)⟩⟩
 ·obtain⟨vs,t,fr,k1,k2⟩:=hs.inv.holds.1 b' o v e;have:b'≠b:=by rintro rfl;rw[g3] at e;cases e
  exact⟨vs,t,fr,by rw[World.putObj_heap_other this];exact k1,k2⟩
 ·have:b'≠b:=by rintro rfl;rw[g4] at e;cases e
  rw[World.putObj_heap_other this];exact hs.inv.holds.2 b' mk e
 ·obtain⟨k1,k2⟩:=aEm hj;refine(hs.inv.obj j o k2).evolve0 O rfl fun b1 y m1=>⟨World.putObj_heap_other ?_,fun _=>rfl,rfl⟩
  rintro rfl;exact k1 (hs.inv.inj j id o .dfr b1 y _ k2 h3 m1 h2)
 ·exact hs.inv.inj i j o o' b1 y c2 (aEm hi).2 (aEm hj).2 m1 m2
 ·exact hs.inv.own i o b1 y (aEm hi).2 m1
 ·obtain⟨f1,f2,f3,f4,f5,f6⟩:=hs.inv.frame;refine⟨f1,f2,f3,by simpa using f4,fun k hk hF=>?_,f6⟩;rw[World.putObj_heap_other (by omega)];exact f5 k hk hF
 ·obtain⟨o',k1,k2⟩:=hs.inv.evo.obj j o hj;have q:j≠id:=by
   rintro rfl;rw[h3] at k1;cases k1;rw[aTv k2] at hj;exact Z _ hj
  exact⟨o',by show upd st.h id none j=some o';rw[aV _ _ _ q];exact k1,k2⟩
 ·exact h6.go fun j hj Y=>⟨rfl,by
   have q:j≠id:=by rintro rfl;exact h5 hj
   show upd st.h id none j=some .dfr
   rw[aV _ _ _ q];exact Y⟩
theorem Sim.leave {P:Program}{fn:Func}{R:Ending→World→Prop}{G:Ctx}{n:Nat}{S:Sto}{μ:Mu}(I:∀id,G.h0 id≠some .dfr):∀(ids:List Nat) {e:Nat→Option V}{h:dD}{a:Act}{w:World},Sim G n S μ ⟨e,h,ids⟩ a w→
  (∀q w',(∀id o,h id=some o→o≠ .dfr→q id=some o)→Sim G n S μ ⟨e,q,[]⟩ { a with defers:=[] } w'→∃v,(results fn a.tmps).run P w'=.ok v w'∧R (.returned v) w')→
  LeavesInM (Wd none) 0 P fn a.tmps R a.defers .returning w
 | [],e,h,a,w,hs,hk=>by
  have hd:a.defers=[]:=hs.defers;rw[hd];refine hk h w (fun _ _ h _=>h) ?_;obtain⟨h1,h2,h3,h4⟩:=hs;exact⟨h1,h2,rfl,h4⟩
 | id::ids,e,h,a,w,hs,hk=>by
  have h3:h id=some .dfr:=by
   obtain⟨b,c,ds',q1,q2,q3,_⟩:=hs.defers;exact q3
  obtain⟨b,ds,w',h1,h2,J⟩:=hs.take (P:=P) rfl I;rw[h1];refine⟨by simp,.inl ⟨b,w',rfl,h2,?_⟩⟩;refine Sim.leave I ids (a:={ a with defers:=ds }) J fun q O hh y=>hk q O (fun j o hj Y=>hh j o ?_ Y) y
  have Z:j≠id:=by rintro rfl;rw[h3] at hj;cases hj;exact Y rfl
  rw[aV _ _ _ Z];exact hj
structure Fin (T:TT) (fn:Func) (st:St) (hin:List (Nat×AObj)) (res:V) (hout:List (Nat×AObj)):Prop where
 ex:∃vs vs',ResV T st fn.results.toList vs∧Convs st.h vs vs'∧aLp vs'=res
 out:dU (fun p=>∃o,st.h p.1=some o∧Ole (fun i=>i) o p.2) hout
 ok:(subset res.refs (keys hout)&&subset (dI hout) (keys hout)&&distinct (keys hout)&&subset (keys hin) (keys hout)&&(hin.all fun p=>p.2.plain)&&(hout.all fun p=>p.2.plain))=true
theorem ResV.keep {st:St}{y:dD}{d:List Nat}(hh:∀id o,st.h id=some o→o≠ .dfr→y id=some o):∀{rs:List ResultVar}{vs:List V},ResV T st rs vs→ResV T ⟨st.e,y,d⟩ rs vs:=by
 intro rs vs h
 induction h with
 | nil=>exact .nil
 | tmp h1 _ q=>exact .tmp h1 q
 | cell h1 h2 h3 h4 h5 _ q=>exact .cell h1 h2 (hh _ _ h3 (by simp)) h4 h5 q
theorem PureL.keep {h y:dD}(hh:∀id o,h id=some o→o≠ .dfr→y id=some o):∀{ids:List Nat}{rs:List R}{cs:List C},PureL h ids rs cs→PureL y ids rs cs:=by
 intro ids rs cs k
 induction k with
 | nil=>exact .nil
 | c h1 _ q=>exact .c h1 q
 | hs h1 h2 h3 _ q=>exact .hs (hh _ _ h1 (by simp)) h2 h3 q
 | any _ q=>exact .any q
 | fn _ q=>exact .fn q
 | ras h0 _ h1 h2 h3 _ I q=>exact .ras h0 I h1 h2 h3 q
theorem Convs.keep {h q:dD}(hh:∀id o,h id=some o→o≠ .dfr→q id=some o):∀{vs vs':List V},Convs h vs vs'→Convs q vs vs':=by
 intro vs vs' k
 induction k with
 | nil=>exact .nil
 | @cons ids v v' vs vs' h1 _ y=>
  refine .cons (ids:=ids) ?_ y;cases h1 with
  | refl=>exact .refl
  | one h=>exact .one (h.keep hh)
  | agg h=>exact .agg (h.keep hh)
  | pa h=>exact .pa (h.keep hh)
theorem a73 {X:Sto→Prop}{kf:List Nat}{f:FuncId}{fn:Func}{c:Code}{n:Nat}{args:List V}{hin hout:List (Nat×AObj)}{res:V}(hX:∀S μ w,X S→Ctx.keeps ⟨w,S,rQ μ (look hin),μ,look hin⟩ kf) (hT:Tok P T) (hf:P.funcs[f]?=some fn) (hb:fn.body=some c) (hn:fn.ntmps=n) (hle:Nat.ble args.length n=true)
  (h:AWp none P n kf c (mk (a1f 0 args) hin) (fun ex st=>(ex=.normal∨ex=.ret)∧Fin T fn st hin res hout)):∀S μ w vals,X S→Inv ⟨w,S,rQ μ (look hin),μ,look hin⟩ S μ (look hin) w→c6 S μ (look hin) args vals→
  Calls P f ⟨vals⟩ w fun e w'=>∃S' μ' v,e=.returned v∧Inv ⟨w,S,rQ μ (look hin),μ,look hin⟩ S' μ' (look hout) w'∧aY S' μ' (look hout) res v:=by
 intro S μ w vals hXS hI hv;refine(Wd.calls (ro:=none) (n:=0)).1 (callsIn_of_wp_marks hf hb trivial ?_);have hvl:∀(l:List V) (us:List Value),c6 S μ (look hin) l us→us.length=l.length:=by
  intro l
  induction l with
  | nil=>intro us h;simp only[c6] at h;subst h;rfl
  | cons x l Z=>
   intro us h;simp only[c6] at h;obtain⟨v,vs',rfl,_,h2⟩:=h;simp[Z _ h2]
 have hvals:=hvl _ _ hv;have hle':=Ak hle;have ac:=hX S μ w hXS;refine h ⟨w,S,rQ μ (look hin),μ,look hin⟩ S μ _ w _ ⟨ac,trivial⟩ ⟨hI,by simp;omega,rfl,fun t v ht=>?_⟩ ?_
 ·have key:∀(l:List V) (us:List Value) (k:Nat),c6 S μ (look hin) l us→look (a1f k l) t=some v→∃j,t=k+j∧∃u,us[j]?=some u∧aY S μ (look hin) v u:=by
   intro l
   induction l with
   | nil=>intro us k _ h;simp[a1f,look] at h
   | cons x l Z=>
    intro us k Y hl;simp only[c6] at Y;obtain⟨u,aa,rfl,h1,h2⟩:=Y;simp only[a1f,look] at hl;split at hl
    ·rename_i hbq;cases hl;exact⟨0,by rw[Aa hbq];rfl,u,rfl,h1⟩
    ·obtain⟨j,h3,u',h4,h5⟩:=Z aa (k+1) h2 hl;exact⟨j+1,by omega,u',by simpa using h4,h5⟩
  obtain⟨j,h1,u,h2,h3⟩:=key args vals 0 hv ht;rw[Be] at h1;subst h1;have hj:t<vals.length:=(ξ.1 h2).1
  have:((⟨vals⟩:Array Value)++Array.replicate (fn.ntmps-(⟨vals⟩:Array Value).size) undef).getD t undef=u:=by
   rw[A8,Array.getElem?_append_left (by simpa using hj)];simp[h2]
  show aY S μ (look hin) v (((⟨vals⟩:Array Value)++Array.replicate (fn.ntmps-(⟨vals⟩:Array Value).size) undef).getD t undef);rw[this];exact h3
 ·intro ex st' S' μ' a' w' ⟨hex,ae⟩ hs;obtain⟨⟨vs,vs',Y,hc,ag⟩,hout',hok⟩:=ae;simp only[ζ] at hok;obtain⟨⟨⟨⟨⟨k1,k2⟩,k3⟩,k4⟩,k5⟩,k6⟩:=hok;have J:LeavesInM (Wd none) 0 P fn a'.tmps (fun e w'=>∃S' μ' v,e=.returned v∧Inv ⟨w,S,rQ μ (look hin),μ,look hin⟩ S' μ' (look hout) w'∧aY S' μ' (look hout) res v) a'.defers .returning w':=by
   refine Sim.leave (G:=⟨w,S,rQ μ (look hin),μ,look hin⟩) (n:=n) (S:=S') (μ:=μ') (fun id e=>?_) st'.d (e:=st'.e) (h:=st'.h) hs fun O w'' hh hs=>?_
   ·have:=(Au.1 k5) _ (bI (show look hin id=some .dfr from e));cases this
   have Y:ResV T ⟨st'.e,O,[]⟩ fn.results.toList vs:=ResV.keep (fun id o y ab=>hh id o y ab) Y;have hc:Convs O vs vs':=hc.keep fun id o y ab=>hh id o y ab
   have hout':dU (fun p=>∃o,O p.1=some o∧Ole (fun i=>i) o p.2) hout:=by
    have hk:∀l:List (Nat×AObj),(∀p∈l,p∈hout)→dU (fun p=>∃o,O p.1=some o∧Ole (fun i=>i) o p.2) l:=by
     intro l
     induction l with
     | nil=>intro _;trivial
     | cons p l Z=>
      intro hl;refine⟨?_,Z fun q hq=>hl q (by simp[hq])⟩;obtain⟨o,g1,g2⟩:=hout'.mem p (hl p (by simp));refine⟨o,hh _ _ g1 ?_,g2⟩;rintro rfl;have hp:=(Au.1 k6) p (hl p (by simp));cases hq:p.2<;>rw[hq] at g2 hp<;>cases g2;cases hp
    exact hk hout fun p hp=>hp
   obtain⟨us,h1,h2⟩:=aGm hT hs Y;refine⟨_,h1,?_⟩;have h3:=hc.rel hs.inv.obj h2;have I:∀i∈keys hout,Good O (look hout) (fun i=>i) i:=by
    intro i hi;obtain⟨o',ad⟩:=eJ hi;obtain⟨o,g1,g2⟩:=hout'.mem _ (bI ad);exact⟨o,o',g1,ad,g2⟩
   have hv4:aY S' μ' O res (aWt us):=by
    rw[←ag]
    match vs',us,h3 with
    | [],us,h3=>simp only[c6] at h3;subst h3;simp[aLp,aWt,aY,c6]
    | [v],us,h3=>
     simp only[c6] at h3;obtain⟨u,aa,rfl,h5,rfl⟩:=h3;exact h5
    | v::v'::l,us,h3=>
     have h3':=h3;simp only[c6] at h3';obtain⟨u,aa,rfl,_,u',us'',rfl,_,_⟩:=h3';simp only[aLp,aWt,aY];exact⟨_,rfl,h3⟩
   have hI':Inv ⟨w,S,rQ μ (look hin),μ,look hin⟩ S' μ' (look hout) w'':=by
    refine⟨hs.inv.holds,fun id o y=>?_,fun i j o o' b c c' hi hj hm hm'=>?_,fun i o b c hi hm=>?_,hs.inv.frame,hs.inv.sle,hs.inv.sto,⟨hs.inv.evo.le,fun id o y=>?_⟩,hs.inv.fre⟩
    ·obtain⟨o1,g1,g2⟩:=hout'.mem _ (bI y);exact(hs.inv.obj _ _ g1).ren g2 fun i hi=>I i (bJ k2 i (jH (bI y) i hi))
    ·obtain⟨o1,g1,g2⟩:=hout'.mem _ (bI hi);obtain⟨o2,g3,g4⟩:=hout'.mem _ (bI hj);exact hs.inv.inj _ _ _ _ b c c' g1 g3 hm hm'
    ·obtain⟨o1,g1,g2⟩:=hout'.mem _ (bI hi);exact hs.inv.own _ _ b c g1 hm
    ·obtain⟨o',(g1:O id=some o'),g2⟩:=hs.inv.evo.obj id o y;have hk:id∈keys hin:=Ah.2 ⟨_,bI (show look hin id=some o from y),rfl⟩;obtain⟨o1,o2,g3,g4,g5⟩:=I id (bJ k4 id hk);rw[g1] at g3;cases g3;exact⟨o2,g4,AObj.succ_trans g2 g5.succ fun e _=>e⟩
   have hR:aY S' μ' (look hout) res (aWt us):=by
    have:=aY.ren (H:=O) (H':=look hout) (σ:=fun i=>i) res _ (fun i hi=>I i (bJ k1 i hi)) (by rw[V.ren_id];exact hv4);exact this
   exact⟨S',μ',_,rfl,hI',hR⟩
  rcases hex with rfl | rfl
  ·exact J
  ·exact J
end
section
variable {P:Program}{T:TT}
theorem bZ {f:FuncId}{fn:Func}{c:Code}{n:Nat}{args:List V}{hin hout:List (Nat×AObj)}{res:V}(q:Tok P T) (y:P.funcs[f]?=some fn) (hb:fn.body=some c) (hn:fn.ntmps=n) (hle:Nat.ble args.length n=true)
  (h:AWp none P n (keys hin) c (mk (a1f 0 args) hin) (fun ex st=>(ex=.normal∨ex=.ret)∧Fin T fn st hin res hout)):aW P f args hin res hout:=
 fun S μ w vals I J=>a73 (X:=fun _=>True) (fun _ _ _ _=>uZ) q y hb hn hle h S μ w vals trivial I J
end
def kD (P:Program) (n:Nat) (ops:Array Oper) (draw:Bool) (k:Nat) (st:St) (pre:REs) (Q:St→Prop):Prop:=
 ∃xs st',Run P n ops k st xs st'∧Nat.beq (k+xs.length) ops.size=true∧(!draw || (gJ (qU ops) (pre.reverse++xs) []&&j3 ops))=true∧Q st'
section
variable {ro:Option Nat}{P:Program}{n:Nat}{ops:Array Oper}{draw:Bool}{k:Nat}{st:St}{pre:REs}{Q:St→Prop}
theorem k_ {rd:Rd}{f:Eff}(h:GStep P n ops k st rd f) (hk:kD P n ops draw (k+1) (f.apply st) ((rd,f)::pre) Q):kD P n ops draw k st pre Q:=by
 obtain⟨xs,st',h1,h2,h3,h4⟩:=hk;refine⟨(rd,f)::xs,st',.cons h h1,?_,?_,h4⟩
 ·rw[Ai,show k+(xs.length+1)=k+1+xs.length by omega];exact h2
 ·rw[List.reverse_cons,Aw] at h3;exact h3
theorem z_ (h1:Nat.beq k ops.size=true) (h2:(!draw || (gJ (qU ops) pre.reverse []&&j3 ops))=true) (q:Q st):kD P n ops draw k st pre Q:=
 ⟨[],st,.nil,h1,by rw[A9];exact h2,q⟩
theorem aE {kf:List Nat}{id:Nat}{Q:Exit→St→Prop}(hm:P.follows .mixedOrders=true) (h:kD P n ops draw 0 st [] (fun st'=>Q .normal st')):AWp ro P n kf (.region id ops draw) st Q:=by
 obtain⟨xs,st',h1,h2,h4,h3⟩:=h;rw[Be] at h2;exact yT hm h1 h2 h4 h3
theorem a08 {kf:List Nat}{id:Nat}{Q:Exit→St→Prop}(st2:St) (hm:P.follows .mixedOrders=true) (h:kD P n ops draw 0 st [] (fun st'=>Sub kf st2 st')) (q:Q .normal st2):AWp ro P n kf (.region id ops draw) st Q:=by
 obtain⟨xs,st',h1,h2,h4,h3⟩:=h;rw[Be] at h2;refine AWp.post (Q:=fun ex s=>ex=.normal∧Sub kf st2 s) (yT hm h1 h2 h4 ⟨rfl,h3⟩) ?_;rintro ex s ⟨rfl,hs⟩;exact⟨st2,hs,q⟩
theorem g_ {i:Nat}{o:Oper}{rd:Rd}{f:Eff}(q:ops[i]?=some o) (y:o.guard=none) (h:Step P n o st rd f):GStep P n ops i st rd f:=GStep.plain q y h
theorem AWp.cut {kf:List Nat}{c:Code}{Q:Exit→St→Prop}(st2:St) (h:AWp ro P n kf c st (fun ex s=>match ex with | .normal=>Sub kf st2 s | ex=>Q ex s)) (q:Q .normal st2):AWp ro P n kf c st Q:=by
 refine AWp.post h ?_;intro ex s hs;cases ex with
 | normal=>exact⟨st2,hs,q⟩
 | _=>exact⟨s,Sub.refl _ _,hs⟩
end
section
variable {P:Program}{n:Nat}{o:Oper}{st:St}{d:Nat}{T:TT}
theorem a3o {J ty:TypeId}{x y:Operand}{a b:Int}(O:o.op=.binOp .add J x y ty) (hd:o.dst=some d) (q:d<n) (hx:opv st x=some (I .i64 a)) (Y:opv st y=some (I .i64 b)) (Z: -9223372036854775808≤a+b∧a+b≤9223372036854775807):
  Step P n o st ⟨opr x++opr y,[]⟩ ⟨some (d,some (I .i64 (a+b))),[]⟩:=aUg O hd q hx Y (Ck _ Z)
theorem a23 {J ty:TypeId}{x y:Operand}{a b:Int}(O:o.op=.binOp .sub J x y ty) (hd:o.dst=some d) (q:d<n) (hx:opv st x=some (I .i64 a)) (Y:opv st y=some (I .i64 b)) (Z: -9223372036854775808≤a-b∧a-b≤9223372036854775807):
  Step P n o st ⟨opr x++opr y,[]⟩ ⟨some (d,some (I .i64 (a-b))),[]⟩:=aT5 O hd q hx Y (Ck _ Z)
theorem a3i {J ty:TypeId}{x y:Operand}{a b:Int}(O:o.op=.binOp .mul J x y ty) (hd:o.dst=some d) (q:d<n) (hx:opv st x=some (I .i64 a)) (Y:opv st y=some (I .i64 b)) (Z: -9223372036854775808≤a*b∧a*b≤9223372036854775807):
  Step P n o st ⟨opr x++opr y,[]⟩ ⟨some (d,some (I .i64 (a*b))),[]⟩:=aUa O hd q hx Y (Ck _ Z)
theorem aW5 {O ty:TypeId}{x y:Operand}{a b:Int}(Y:o.op=.binOp .quo O x y ty) (hd:o.dst=some d) (J:d<n) (hx:opv st x=some (I .i64 a)) (Z:opv st y=some (I .i64 b)) (q:0≤a∧a≤9223372036854775807∧1≤b):
  Step P n o st ⟨opr x++opr y,[]⟩ ⟨some (d,some (I .i64 (a/b))),[]⟩:=a3e Y hd J hx Z (by omega) (by
   have h1:a.tdiv b=a/b:=Int.tdiv_eq_ediv_of_nonneg q.1;rw[h1];refine Ck _ ⟨?_,?_⟩
   ·have:=Int.ediv_nonneg q.1 (show(0:Int)≤b by omega);omega
   ·have:=Int.ediv_le_self b q.1;omega)
theorem aW4 {J ty:TypeId}{x y:Operand}{k:IntKind}{a b:Int}(O:o.op=.binOp .rem J x y ty) (hd:o.dst=some d) (q:d<n) (hx:opv st x=some (I k a)) (Y:opv st y=some (I k b)) (Z:0≤a∧1≤b):
  Step P n o st ⟨opr x++opr y,[]⟩ ⟨some (d,some (I k (a%b))),[]⟩:=a3c O hd q hx Y (by omega) (Int.tmod_eq_emod_of_nonneg Z.1)
theorem gR (op:BinOp) (t:TypeId) (x y:Operand) (u v:Value) (w:World) (h1:(match u with | .agg _=>true | .nilIface=>true | _=>false)=false):(eqGuard op t x y u v).run P w=.ok () w:=by
 unfold eqGuard;cases u<;>simp at h1<;>(split<;>rfl)
theorem xC {t:TypeId}(hu:P.underlying t=some .bool) (d:Nat) (a b:Bool) (w:World):(Op.equalIn (d+1) t (.bool a) (.bool b)).run P w=.ok (a==b) w:=by
 simp only[Op.equalIn,Ad,Av hu w,τ,Af]
theorem aCp {t e:TypeId}(hu:P.underlying t=some (.pointer e)) (d:Nat) (p:Option Addr) (w:World):(Op.equalIn (d+1) t (.pointer p) (.pointer none)).run P w=.ok p.isNone w:=by
 cases p<;>simp only[Op.equalIn,Ad,Av hu w,τ,Af]<;>rfl
theorem aT0 {t e:TypeId}(hu:P.underlying t=some (.slice e)) (d:Nat) (p:Option Addr) (l c:Nat) (w:World):(Op.equalIn (d+1) t (.slice p l c) (.slice none 0 0)).run P w=.ok p.isNone w:=by
 cases p<;>simp only[Op.equalIn,Ad,Av hu w,τ,Af]<;>rfl
theorem aGn {q ty:TypeId}{x y:Operand}{a:Act}{w:World}{u v:Value}{b:Bool}(J:o.op=.binOp .eql q x y ty) (hx:a.eval x=u) (O:a.eval y=v) (Y:(eqGuard .eql q x y u v).run P w=.ok () w)
  (hb:binOp .eql q u v=(do pure (.bool (←Op.equal q u v)))) (Z:(Op.equalIn (9999+1) q u v).run P w=.ok b w):(execOp a.eval o).run P w=.ok (.value (.bool b)) w:=by
 have I:(Op.equal q u v).run P w=.ok b w:=Z;simp only[execOp,J,hx,O,Ad,Y,τ,hb,I,Af]
theorem zV {q ty:TypeId}{x y:Operand}{a:Act}{w:World}{u v:Value}{b:Bool}(J:o.op=.binOp .neq q x y ty) (hx:a.eval x=u) (O:a.eval y=v) (Y:(eqGuard .neq q x y u v).run P w=.ok () w)
  (hb:binOp .neq q u v=(do pure (.bool (!(←Op.equal q u v))))) (Z:(Op.equalIn (9999+1) q u v).run P w=.ok b w):(execOp a.eval o).run P w=.ok (.value (.bool (!b))) w:=by
 have I:(Op.equal q u v).run P w=.ok b w:=Z;simp only[execOp,J,hx,O,Ad,Y,τ,hb,I,Af]
theorem a3m {q ty:TypeId}{i:TI}{x y:Operand}{a b:Bool}(J:Tok P T) (O:o.op=.binOp .eql q x y ty) (hd:o.dst=some d) (I:d<n) (hi:T[q]?=some (some i)) (hk:i.k=.bool) (hx:opv st x=some (B a)) (Y:opv st y=some (B b)):
  Step P n o st ⟨opr x++opr y,[]⟩ ⟨some (d,some (B (a==b))),[]⟩:=by
 refine Step.value hd I fun _ ha _ _ _ ac w hs=>?_
 have h1:=jZ (aO hs hx (fF ha).1);have h2:=jZ (aO hs Y (fF ha).2);exact⟨.bool (a==b),aGn O h1 h2 (gR _ _ _ _ _ _ _ rfl) rfl (xC ((J.get hi).bool hk) _ _ _ _),by simp[aY,b9,Rep]⟩
theorem a3l {q ty:TypeId}{i:TI}{x y:Operand}{a b:Bool}(J:Tok P T) (O:o.op=.binOp .neq q x y ty) (hd:o.dst=some d) (I:d<n) (hi:T[q]?=some (some i)) (hk:i.k=.bool) (hx:opv st x=some (B a)) (Y:opv st y=some (B b)):
  Step P n o st ⟨opr x++opr y,[]⟩ ⟨some (d,some (B (!(a==b)))),[]⟩:=by
 refine Step.value hd I fun _ ha _ _ _ ac w hs=>?_
 have h1:=jZ (aO hs hx (fF ha).1);have h2:=jZ (aO hs Y (fF ha).2);exact⟨.bool (!(a==b)),zV O h1 h2 (gR _ _ _ _ _ _ _ rfl) rfl (xC ((J.get hi).bool hk) _ _ _ _),by simp[aY,b9,Rep]⟩
def aC7:V→Option Bool
 | .one (.c .np)=>some true
 | .one (.c (.pt _))=>some false
 | .one (.vp _ _)=>some false
 | _=>none
theorem xL {S:Sto}{μ:Mu}{H:dD}{v:V}{u:Value}{b:Bool}(h:aY S μ H v u) (hb:aC7 v=some b):∃p,u=.pointer p∧p.isNone=b:=by
 unfold aC7 at hb;split at hb
 ·cases hb;simp only[aY,b9,Rep] at h;exact⟨none,h,rfl⟩
 ·cases hb;simp only[aY,b9,Rep] at h;obtain⟨b,o,h,_⟩:=h;exact⟨_,h,rfl⟩
 ·cases hb;simp only[aY,b9] at h;obtain⟨t,cells,b,c,_,_,h⟩:=h;exact⟨_,h,rfl⟩
 ·cases hb
theorem a3g {q ty e:TypeId}{i:TI}{x y:Operand}{v:V}{b:Bool}(J:Tok P T) (O:o.op=.binOp .eql q x y ty) (hd:o.dst=some d) (I:d<n) (hi:T[q]?=some (some i)) (hk:i.k=.pt e) (hx:opv st x=some v) (Y:aC7 v=some b) (Z:opv st y=some (.one (.c .np))):
  Step P n o st ⟨opr x++opr y,[]⟩ ⟨some (d,some (B b)),[]⟩:=by
 refine Step.value hd I fun _ ha _ _ _ ac w hs=>?_
 obtain⟨p,h1,hp⟩:=xL (aO hs hx (fF ha).1) Y;have h2:=aO hs Z (fF ha).2;simp only[aY,b9,Rep] at h2;subst hp;exact⟨.bool p.isNone,aGn O h1 h2 (gR _ _ _ _ _ _ _ rfl) (by cases p<;>rfl) (aCp ((J.get hi).ptr hk) _ _ _),by simp[aY,b9,Rep]⟩
theorem a3f {q ty e:TypeId}{i:TI}{x y:Operand}{v:V}{b:Bool}(J:Tok P T) (O:o.op=.binOp .neq q x y ty) (hd:o.dst=some d) (I:d<n) (hi:T[q]?=some (some i)) (hk:i.k=.pt e) (hx:opv st x=some v) (Y:aC7 v=some b) (Z:opv st y=some (.one (.c .np))):
  Step P n o st ⟨opr x++opr y,[]⟩ ⟨some (d,some (B (!b))),[]⟩:=by
 refine Step.value hd I fun _ ha _ _ _ ac w hs=>?_
 obtain⟨p,h1,hp⟩:=xL (aO hs hx (fF ha).1) Y;have h2:=aO hs Z (fF ha).2;simp only[aY,b9,Rep] at h2;subst hp;exact⟨.bool (!p.isNone),zV O h1 h2 (gR _ _ _ _ _ _ _ rfl) (by cases p<;>rfl) (aCp ((J.get hi).ptr hk) _ _ _),by simp[aY,b9,Rep]⟩
def aTx:V→Option Bool
 | .one (.c .nl)=>some true
 | .one (.c (.sn _ _))=>some false
 | _=>none
theorem aNz {S:Sto}{μ:Mu}{H:dD}{v:V}{u:Value}{b:Bool}(h:aY S μ H v u) (hb:aTx v=some b):∃p l c,u=.slice p l c∧p.isNone=b:=by
 unfold aTx at hb;split at hb
 ·cases hb;simp only[aY,b9,Rep] at h;exact⟨none,_,_,h,rfl⟩
 ·cases hb;simp only[aY,b9,Rep] at h;obtain⟨b,o,sp,l,c,h,_⟩:=h;exact⟨_,_,_,h,rfl⟩
 ·cases hb
theorem aZc {q ty e:TypeId}{i:TI}{x y:Operand}{v:V}{b:Bool}(J:Tok P T) (O:o.op=.binOp .eql q x y ty) (hd:o.dst=some d) (I:d<n) (hi:T[q]?=some (some i)) (hk:i.k=.sl e) (hx:opv st x=some v) (Y:aTx v=some b) (Z:opv st y=some (.one (.c .nl))):
  Step P n o st ⟨opr x++opr y,[]⟩ ⟨some (d,some (B b)),[]⟩:=by
 refine Step.value hd I fun _ ha _ _ _ ac w hs=>?_
 obtain⟨p,l,c,h1,hp⟩:=aNz (aO hs hx (fF ha).1) Y;have h2:=aO hs Z (fF ha).2;simp only[aY,b9,Rep] at h2;subst hp;exact⟨.bool p.isNone,aGn O h1 h2 (gR _ _ _ _ _ _ _ rfl) (by cases p<;>rfl) (aT0 ((J.get hi).slice hk) _ _ _ _ _),by simp[aY,b9,Rep]⟩
end
theorem take_map {α β:Type}{f:α→β}{l:List α}:(l.map f).take l.length=l.map f:=Az (by simp)
theorem Ole.arrE {σ:Nat→Nat}{te es fz:Nat}{e e':List (List C)}(h:e=e'):Ole σ (.arr te es e fz) (.arr te es e' 1):=by subst h;exact .arr1
section
variable {P:Program}{n:Nat}{o:Oper}{st:St}{d:Nat}{T:TT}
def aE7 (st:St):List Operand→Option (List R)
 | []=>some []
 | x::xs=>match opv st x with
  | some (.one r)=>match aE7 st xs with | some l=>some (r::l) | none=>none
  | _=>none
theorem aE6 {G:Ctx}{S:Sto}{μ:Mu}{st':St}{a:Act}{w:World}(hs:Sim G n S μ st' a w):∀(xs:List Operand) (l:List R),aE7 st xs=some l→(∀t∈dF xs,st'.e t=st.e t)→b6 S μ st'.h l (xs.map a.eval)
 | [],l,h,_=>by simp[aE7] at h;subst h;simp[b6]
 | x::xs,l,h,ht=>by
  simp only[aE7] at h;split at h
  ·rename_i r y;split at h
   ·rename_i l' q;cases h;have h1:=aO hs y fun t h=>ht t (by simp[dF,h])
    simp only[aY] at h1;simp only[At,b6];exact⟨_,_,rfl,h1,aE6 hs xs l' q fun t h=>ht t (by simp[dF,h])⟩
   ·cases h
  ·cases h
theorem aL0 {f:FuncId}{caps:Array Operand}{l:List R}(y:o.op=.makeFunc (.func f) #[] caps) (hd:o.dst=some d) (q:d<n) (hc:aE7 st caps.toList=some l):Step P n o st ⟨dF caps.toList,[]⟩ ⟨some (d,some (.one (.clo f l))),[]⟩:=by
 refine Step.value hd q fun st' ha _ S μ ac w hs=>?_
 have h:=aE6 hs _ _ hc ha.1;refine⟨.func (.func f) #[] (caps.map ac.eval),by simp[execOp,y,Instr.makeFunc],?_⟩;simp only[aY,b9];refine⟨caps.toList.map ac.eval,?_,h⟩;congr 1;apply Array.ext';simp
theorem aC2 {f:FuncId}{x:Operand}{c:R}(y:o.op=.makeFunc (.func f) #[x] #[]) (hd:o.dst=some d) (q:d<n) (hx:opv st x=some (.one c)):Step P n o st ⟨opr x,[]⟩ ⟨some (d,some (.one (.mth f c))),[]⟩:=by
 refine Step.value hd q fun st' ha _ S μ ac w hs=>?_
 have h:=aO hs hx ha.1;refine⟨.func (.func f) #[ac.eval x] #[],by simp[execOp,y,Instr.makeFunc],?_⟩;simp only[aY,b9] at h ⊢;exact⟨_,rfl,h⟩
def fT (k:List UInt8):List (List C)→Option (List C)
 | []=>none
 | (.str s::vs)::r=>if s=k then some vs else fT k r
 | _::r=>fT k r
def qO (k:List UInt8) (vs:List C):List (List C)→List (List C)
 | []=>[.str k::vs]
 | (.str s::us)::r=>if s=k then(.str k::vs)::r else(.str s::us)::qO k vs r
 | x::r=>x::qO k vs r
theorem aK7 (a b:List UInt8):((ByteArray.mk ⟨a⟩)==(ByteArray.mk ⟨b⟩))=decide (b=a):=by
 rw[beq_toListBytes,mU,mU,Bool.beq_eq_decide_eq];by_cases h:a=b
 ·subst h;simp
 ·have q:¬b=a:=fun e=>h e.symm
  simp[h,q]
theorem lQ {S:Sto}{agg:Bool}{k:List UInt8}:∀(l:List (List C)) (es:List MapEntry) (i:Nat),bD S agg l es→iF l→
  (∀vs,fT k l=some vs→∃j e,Instr.findNow .string (.string ⟨⟨k⟩⟩) es i=some (some (i+j,e.val))∧es[j]?=some e∧(∃us,dH S vs us∧e.val=(if agg then .agg ⟨us⟩ else us.headD undef)∧(agg=false→us.length=1))∧e.key=.string ⟨⟨k⟩⟩∧j<es.length∧
   ∀ws,qO k ws l=(l.take j)++(.str k::ws)::l.drop (j+1))∧
  (fT k l=none→Instr.findNow .string (.string ⟨⟨k⟩⟩) es i=some none∧∀ws,qO k ws l=l++[.str k::ws])
 | [],es,i,h,_=>by
  simp only[bD] at h;subst h;exact⟨fun vs J=>by simp[fT] at J,fun _=>⟨rfl,fun ws=>rfl⟩⟩
 | r::l,es,i,h,hm=>by
  simp only[bD] at h;obtain⟨e,y,rfl,⟨vs,h1,h2,h3⟩,h4⟩:=h
  match r,h1,hm with
  | .str s::us,h1,hm=>
   simp only[iF] at hm;simp only[dH] at h1;obtain⟨v,vs',J,h5,h6⟩:=h1;simp only[Rep] at h5;injection J with Z aa;subst aa;have q:e.key=.string ⟨⟨s⟩⟩:=by rw[Z,h5]
   have ih:=lQ (k:=k) l y (i+1) h4 hm;by_cases hs:s=k
   ·subst hs;refine⟨fun ws hw=>?_,fun hn=>by simp[fT] at hn⟩;simp only[fT,Cw,Option.some.injEq] at hw;subst hw;refine⟨0,e,?_,rfl,⟨vs,h6,h2,h3⟩,q,by simp,fun ws=>by simp[qO]⟩;simp only[Instr.findNow,q,Instr.sameNow];rw[aK7];simp
   ·have I:Instr.findNow .string (.string ⟨⟨k⟩⟩) (e::y) i=Instr.findNow .string (.string ⟨⟨k⟩⟩) y (i+1):=by
     simp only[Instr.findNow,q,Instr.sameNow];rw[aK7];simp[hs]
    refine⟨fun ws hw=>?_,fun hn=>?_⟩
    ·simp only[fT,hs,B5] at hw;obtain⟨j,e',O,Y,q3,q4,q5,q6⟩:=ih.1 ws hw;refine⟨j+1,e',?_,by simpa using Y,q3,q4,by simpa using q5,fun ws=>?_⟩
     ·rw[I,O,show i+1+j=i+(j+1) by omega]
     ·simp only[qO,hs,B5,q6 ws];simp
    ·simp only[fT,hs,B5] at hn;obtain⟨O,Y⟩:=ih.2 hn;exact⟨by rw[I,O],fun ws=>by simp only[qO,hs,B5,Y ws];simp⟩
  | [],h1,_=>simp only[dH] at h1;cases h1
  | .int _ _::_,_,hm=>simp[iF] at hm
  | .bool _::_,_,hm=>simp[iF] at hm
  | .nl::_,_,hm=>simp[iF] at hm
  | .sl _ _::_,_,hm=>simp[iF] at hm
  | .sn _ _::_,_,hm=>simp[iF] at hm
  | .np::_,_,hm=>simp[iF] at hm
  | .pt _::_,_,hm=>simp[iF] at hm
  | .mp _ _::_,_,hm=>simp[iF] at hm
  | .zv _::_,_,hm=>simp[iF] at hm
theorem nB {t:TypeId}(hu:P.underlying t=some .string) (b:Bool) (d:Nat) (s:ByteArray) (w:World):(Instr.checkKey b (d+1) t (.string s)).run P w=.ok () w:=by
 simp only[Instr.checkKey,Ad,Av hu w,τ,Af]
inductive MapE (st:St):List Nat→V→Bool→List (List C)→Prop
 | mr {id agg ents}:st.h id=some (.map agg ents)→MapE st [id] (.one (.mr id)) agg ents
 | mp {agg ents}:MapE st [] (.one (.c (.mp agg ents))) agg ents
 | nil {agg}:MapE st [] (.one (.c (.zv 0))) agg []
theorem MapE.rel {G:Ctx}{S:Sto}{μ:Mu}{st':St}{a:Act}{w:World}{ids:List Nat}{v:V}{agg:Bool}{ents:List (List C)}{u:Value}(hs:Sim G n S μ st' a w) (h:MapE st ids v agg ents) (y:iF ents) (hi:∀i∈ids,st'.h i=st.h i) (q:aY S μ st'.h v u):
  ∃es:Array MapEntry,bD S agg ents es.toList∧((u=.map none∧es= #[])∨∃b clk,u=.map (some b)∧w.heap[b]?=some (.map es clk)):=by
 cases h with
 | mr hh=>
  have I:=(hi _ (by simp)).trans hh;simp only[aY,b9] at q;obtain⟨J,ents',b,c,h1,h2,h3⟩:=q;rw[I] at h1;cases h1;obtain⟨b',es,clk,g1,g2,g3,g4⟩:=hs.inv.obj _ _ I;rw[h2] at g1;cases g1;exact⟨es,g3.rep y,.inr ⟨_,clk,h3,g2⟩⟩
 | mp=>
  simp only[aY,b9,Rep] at q;obtain⟨b,es,clk,h1,h2,h3⟩:=q;refine⟨es,h3.elim id fun h3=>?_,.inr ⟨b,clk,h1,hs.inv.holds.2 _ _ h2⟩⟩;cases ents with
  | nil=>simp only[aNd] at h3
  | cons r l=>simp only[aNd] at h3;rw[h3.1] at y;simp[iF] at y
 | nil=>
  simp only[aY,b9,Rep,aYn] at q;exact⟨#[],by simp[bD],.inl ⟨q,rfl⟩⟩
def oL (i:TI) (r:Option (List C)):V:=match r with
 | some vs=>if i.k.agg then .pa vs else match vs with | [c]=>.one (.c c) | _=>.tup []
 | none=>if i.k.agg then .pa i.zero else match i.zero with | [c]=>.one (.c c) | _=>.tup []
def aA2 (r:Option (List C)):Bool:=r.isSome
def aQs (r:Option (Nat×Value)) (z:Value):Value:=match r with | some p=>p.2 | none=>z
theorem kL (w:World) (b:Nat) (es:Array MapEntry) (clk:Nat) (h:w.heap[b]?=some (.map es clk)):(getObj b).run P w=.ok (.map es clk) w:=by
 exact MapKept.run_getObj_map h
theorem aC4 {t kt et:TypeId}{i ki ei:TI}{x y:Operand}{ok:Bool}{ids:List Nat}{agg:Bool}{k:List UInt8}{r:Option (List C)}(hT:Tok P T) (ho:o.op=.lookup t x y ok) (hd:o.dst=some d) (hdn:d<n) (hi:T[t]?=some (some i)) (hk:i.k=.mp kt et)
  (hki:T[kt]?=some (some ki)) (hkk:ki.k=.str) (hei:T[et]?=some (some ei)) (I:ei.k.agg=agg) (hy:opv st y=some (Go.AM.T k))
  (hrel:∀(st':St),rR ⟨opr x++opr y,ids⟩ st st'→∀(G:Ctx) (S:Sto) (μ:Mu) (a:Act) (w:World),Sim G n S μ st' a w→∃(es:Array MapEntry) (ents:List (List C)),iF ents∧fT k ents=r∧bD S agg ents es.toList∧((a.eval x=.map none∧es= #[])∨∃b clk,a.eval x=.map (some b)∧w.heap[b]?=some (.map es clk))):
  Step P n o st ⟨opr x++opr y,ids⟩ ⟨some (d,some (if ok then .tup [oL ei r,B (aA2 r)] else oL ei r)),[]⟩:=by
 refine Step.value hd hdn fun st' ha G S μ a w hs=>?_
 obtain⟨es,ents,hms,hr,h1,h2⟩:=hrel st' ha G S μ a w hs;have h3:=lI (aO hs hy fun t h=>ha.1 t (by simp[h]));have hu:=Av ((hT.get hi).map hk) w;have hks:=(hT.get hki).str hkk;obtain⟨z,hz,hzr,hz1,hz2⟩:=(hT.get hei).zero_run;have J:=lQ (k:=k) ents es.toList 0 h1 hms;have key:∃r0:Option (Nat×Value),(Instr.findKey kt (.string ⟨⟨k⟩⟩) es.toList).run P w=.ok r0 w∧aY S μ st'.h (oL ei r) (aQs r0 z)∧aA2 r=r0.isSome:=by
  cases O:fT k ents with
  | some vs=>
   obtain⟨j,e,q1,q2,⟨us,Y,q4,q5⟩,q6,q7,q8⟩:=J.1 vs O;refine⟨some (0+j,e.val),?_,?_,by rw[←hr,O];rfl⟩
   ·simp only[Instr.findKey,Ad,Av hks w,τ,q1,Af]
   ·rw[←hr,O];simp only[oL,I];cases agg with
    | true=>
     simp only[Cw,aY] at q4 ⊢;exact⟨us,q4,Y⟩
    | false=>
     simp only[Ba,B5] at q4 ⊢;have hl:=q5 rfl;have hl2:=Y.length
     match vs,us,Y,hl,hl2 with
     | [c],[u],Y,_,_=>
      simp only[dH] at Y;obtain⟨v,vs',Z,hc,_⟩:=Y;cases Z;rw[q4];simp only[aY,b9];exact hc
  | none=>
   obtain⟨q1,_⟩:=J.2 O;refine⟨none,?_,?_,by rw[←hr,O];rfl⟩
   ·simp only[Instr.findKey,Ad,Av hks w,τ,q1,Af]
   ·rw[←hr,O];simp only[oL,I];have q:=hzr S;cases agg with
    | true=>
     rw[I,κ rfl] at hz1;simp only[Cw,aY];exact⟨z.cells.toList,hz1,q⟩
    | false=>
     obtain⟨u,hu1,hu2⟩:=hz2 I;simp only[Ba,B5];have hl:=(hT.get hei).len;rw[(hT.get hei).one I] at hl
     match hzz:ei.zero,hl with
     | [c],_=>
      rw[hzz,hu1] at q;simp only[dH] at q;obtain⟨v,vs',Z,hc,_⟩:=q;cases Z;rw[hu2];simp only[aY,b9];exact hc
 obtain⟨r0,hf,Z,hb⟩:=key;have hck:=fun b=>nB (P:=P) hks b 9999 ⟨⟨k⟩⟩ w
 have fin:aY S μ st'.h (if ok then .tup [oL ei r,B (aA2 r)] else oL ei r) (if ok then .tuple #[(aQs r0 z),.bool r0.isSome] else(aQs r0 z)):=by
  cases ok with
  | false=>exact Z
  | true=>
   simp only[Cw,aY,c6];exact⟨[_,.bool r0.isSome],rfl,_,[.bool r0.isSome],rfl,Z,.bool r0.isSome,[],rfl,by rw[hb];simp[b9,Rep],rfl⟩
 refine⟨_,?_,fin⟩;rcases h2 with⟨h2,rfl⟩ | ⟨b,clk,h2,h4⟩
 ·simp only[execOp,ho,h2,h3,Ad,Instr.lookup,hu,τ,Af];rw[show(10000:Nat)=9999+1 from rfl,hck];simp only[τ,hf];cases r0 with
  | none=>simp only[Ad,hz w,τ,Af];rfl
  | some p=>rfl
 ·simp only[execOp,ho,h2,h3,Ad,Instr.lookup,hu,τ,Af,kL w b es clk h4];rw[show(10000:Nat)=9999+1 from rfl,hck];simp only[τ,hf];cases r0 with
  | none=>simp only[Ad,hz w,τ,Af];rfl
  | some p=>rfl
theorem aAa {t I J:TypeId}{i O ei:TI}{x y:Operand}{ok:Bool}{v:V}{ids:List Nat}{agg:Bool}{ents:List (List C)}{k:List UInt8}{r:Option (List C)}(hT:Tok P T) (ho:o.op=.lookup t x y ok) (hd:o.dst=some d) (Y:d<n) (hi:T[t]?=some (some i)) (hk:i.k=.mp I J)
  (Z:T[I]?=some (some O)) (aa:O.k=.str) (ab:T[J]?=some (some ei)) (ac:ei.k.agg=agg) (hx:opv st x=some v) (hm:MapE st ids v agg ents) (q:iF ents) (hy:opv st y=some (Go.AM.T k)) (hr:fT k ents=r):
  Step P n o st ⟨opr x++opr y,ids⟩ ⟨some (d,some (if ok then .tup [oL ei r,B (aA2 r)] else oL ei r)),[]⟩:=
 aC4 hT ho hd Y hi hk Z aa ab ac hy fun _ ha _ _ _ _ _ hs=>by
  obtain⟨es,h1,h2⟩:=hm.rel hs q ha.2 (aO hs hx fun t h=>ha.1 t (by simp[h]));exact⟨es,ents,q,hr,h1,h2⟩
theorem eY {S:Sto}{agg:Bool}:∀{a:List (List C)}{x:List MapEntry}{b:List (List C)}{y:List MapEntry},bD S agg a x→bD S agg b y→bD S agg (a++b) (x++y)
 | [],_,_,_,h,k=>by simp only[bD] at h;subst h;simpa using k
 | _::_,_,_,_,h,k=>by
  simp only[bD,A1] at h ⊢;obtain⟨v,vs',rfl,h1,h2⟩:=h;exact⟨v,vs'++_,rfl,h1,eY h2 k⟩
theorem mI {S:Sto}{agg:Bool}:∀{a:List (List C)}{x:List MapEntry}(n:Nat),bD S agg a x→bD S agg (a.take n) (x.take n)
 | _,_,0,_=>by simp[bD]
 | [],_,n+1,h=>by simp only[bD] at h;subst h;simp[bD]
 | _::_,_,n+1,h=>by
  simp only[bD,Bj] at h ⊢;obtain⟨v,vs',rfl,h1,h2⟩:=h;exact⟨v,vs'.take n,by simp,h1,mI n h2⟩
theorem mJ {S:Sto}{agg:Bool}:∀{a:List (List C)}{x:List MapEntry}(n:Nat),bD S agg a x→bD S agg (a.drop n) (x.drop n)
 | _,_,0,h=>by simpa using h
 | [],_,n+1,h=>by simp only[bD] at h;subst h;simp[bD]
 | _::_,_,n+1,h=>by
  simp only[bD,C6] at h ⊢;obtain⟨v,vs',rfl,h1,h2⟩:=h;simpa using mJ n h2
theorem aGq {t kt et:TypeId}{i ki:TI}{x y z:Operand}{id:Nat}{agg:Bool}{ents:List (List C)}{k:List UInt8}{v:V}{rs:List R}{cs:List C}{ids:List Nat}(hT:Tok P T) (ho:o.op=.mapUpdate t x y z) (hd:o.dst=none) (hi:T[t]?=some (some i)) (hk:i.k=.mp kt et)
  (hki:T[kt]?=some (some ki)) (hkk:ki.k=.str) (hx:opv st x=some (.one (.mr id))) (hh:st.h id=some (.map agg ents)) (Y:iF ents) (hy:opv st y=some (Go.AM.T k))
  (hz:opv st z=some v) (q:(match v with | .one _=>!agg | .pa _=>agg | .ma _=>agg | _=>false)=true) (hc:j0 v=some rs) (hp:PureL st.h ids rs cs):
  Step P n o st ⟨opr x++opr y++opr z,id::ids⟩ ⟨none,[(id,some (.map agg (qO k cs ents)))]⟩:=by
 refine Step.turn hd hh (by simp) (by simp[AObj.succ]) fun st' ha hh' G S μ a w hs=>?_
 have h1:=aO hs hx fun t h=>ha.1 t (by simp[h])
 have h3:=lI (aO hs hy fun t h=>ha.1 t (by simp[h]));have I:=aO hs hz fun t h=>ha.1 t (by simp[h])
 simp only[aY,b9] at h1;obtain⟨agg',ents',b,c,q1,q2,q3⟩:=h1;obtain⟨b',es,clk,g1,g2,g3,g4⟩:=hs.inv.obj id _ hh';rw[g1] at q2;cases q2;have g3:=g3.rep Y;have hrep:=hp.rel (fun i h=>ha.2 i (by simp[h])) hs.inv.obj (fC I hc);have Z:a.eval z=(if agg then .agg ⟨(a.eval z).cells.toList⟩ else(a.eval z).cells.toList.headD undef)∧(agg=false→(a.eval z).cells.toList.length=1):=by
  cases v with
  | one r=>
   simp at q;subst q;simp only[aY] at I;rw[I.one.1];simp
  | pa l=>
   simp at q;subst q;simp only[aY] at I;obtain⟨vs,I,_⟩:=I;rw[I];simp[Value.cells]
  | ma l=>
   simp at q;subst q;simp only[aY] at I;obtain⟨vs,I,_⟩:=I;rw[I];simp[Value.cells]
  | tup l=>simp at q
 have aa:=(hT.get hki).str hkk;have hu:=Av ((hT.get hi).map hk) w;have J:=lQ (k:=k) ents es.toList 0 g3 Y;have hck:=fun b=>nB (P:=P) aa b 9999 ⟨⟨k⟩⟩ w
 have ab:∀e:MapEntry,e.key=.string ⟨⟨k⟩⟩→e.val=a.eval z→bD S agg [.str k::cs] [e]:=by
  intro e he1 he2;simp only[bD];refine⟨e,[],rfl,⟨(a.eval z).cells.toList,?_,by rw[he2];exact Z.1,Z.2⟩,rfl⟩;simp only[dH];exact⟨e.key,_,rfl,by simp[Rep,he1],hrep⟩
 have ac:∀(ob:Obj),(setObj b ob).run P w=.ok () { w with heap:=w.heap.setIfInBounds b ob }:=by
  intro ob;exact MapKept.run_setObj_map _ g2
 have hW:∀ob,WChg w { w with heap:=w.heap.setIfInBounds b ob } b ob:=fun ob=>by
  have hlt:=dE g2;refine⟨rfl,rfl,rfl,by simp,by simp[hlt],fun k _ hne=>?_⟩;show(w.heap.setIfInBounds b ob)[k]?=_;rw[By,θ (fun e=>hne e.symm)]
 have hSc:∀(ob:Obj) (o:Nat) (v:Value),S.cell b o=some v→∃vs t fr,ob=.cells vs t fr∧vs[o]?=some v:=fun ob o v e=>by
  obtain⟨vs,t,fr,O,_⟩:=hs.inv.holds.1 b o v e;rw[g2] at O;cases O
 have g4:=g4.kn0 Y;have hSm:∀m,S.mapo b=some m→w.heap.size≤b:=fun m e=>by rw[g4] at e;cases e
 cases hq:fT k ents with
 | some vs=>
  obtain⟨j,e,O,p2,_,p4,p5,p6⟩:=J.1 vs hq;refine⟨_,.map (es.modify j fun e=>{ e with key:=.string ⟨⟨k⟩⟩,val:=a.eval z }) clk,b,(0,0),?_,g1,hW _,⟨b,_,clk,aI _ _ _,(hW _).new,.inr (.inl ?_),.inl g4⟩,hSc _,hSm⟩
  ·have hkey:((es[j]?).map (·.key)).getD (.string ⟨⟨k⟩⟩)=.string ⟨⟨k⟩⟩:=by
    rw[←Array.getElem?_toList,p2];simpa using p4
   have hkt:(Instr.keyThatStays (.string ⟨⟨k⟩⟩) (.string ⟨⟨k⟩⟩)).run P w=.ok (.string ⟨⟨k⟩⟩) w:=by
    have hsb:Instr.sameBits 10000 (.string ⟨⟨k⟩⟩) (.string ⟨⟨k⟩⟩)=true:=by simp[Instr.sameBits,aK7]
    simp only[Instr.keyThatStays,hsb,Cw,Af]
   simp only[execOp,ho,q3,h3,Ad,Instr.mapUpdate,hu,τ,kL w b es clk g2];rw[show(10000:Nat)=9999+1 from rfl,hck];simp only[τ,Instr.findKey,Ad,Av aa w,O,Af,Be,hkey,hkt,ac]
  ·rw[p6 cs,Array.toList_modify];have hmod:es.toList.modify j (fun e=>{ e with key:=.string ⟨⟨k⟩⟩,val:=a.eval z })=es.toList.take j++{ e with key:=.string ⟨⟨k⟩⟩,val:=a.eval z }::es.toList.drop (j+1):=by
    apply Bg;intro i;rw[List.getElem?_modify];have p5':j<es.size:=by simpa using p5
    by_cases c1:i<j
    ·rw[Ax (by simp;omega),Ay,κ c1];simp[show ¬j=i by omega]
    ·rw[Ao (by simp;omega)];simp only[Ap];by_cases c2:j=i
     ·subst c2;rw[p2];have hm:min j es.toList.length=j:=by simp;omega
      rw[hm];simp
     ·rw[Ci (le_of_lt p5),show i-j=(i-j-1)+1 by omega,Bh,Am];simp[c2,show j+1+(i-j-1)=i by omega]
   rw[hmod];have:=eY (mI j g3) (eY (ab { e with key:=.string ⟨⟨k⟩⟩,val:=a.eval z } rfl rfl) (mJ (j+1) g3));exact this
 | none=>
  obtain⟨O,p2⟩:=J.2 hq;refine⟨_,.map (es.push { key:=.string ⟨⟨k⟩⟩,val:=a.eval z,born:=clk }) (clk+1),b,(0,0),?_,g1,hW _,⟨b,_,clk+1,aI _ _ _,(hW _).new,.inr (.inl ?_),.inl g4⟩,hSc _,hSm⟩
  ·simp only[execOp,ho,q3,h3,Ad,Instr.mapUpdate,hu,τ,kL w b es clk g2];rw[show(10000:Nat)=9999+1 from rfl,hck];simp only[τ,Instr.findKey,Ad,Av aa w,O,Af,ac]
  ·rw[p2 cs,Array.toList_push];exact eY g3 (ab _ rfl rfl)
theorem aN6 {P:Program}{T:TT}{o:Oper}{t kt et:TypeId}{i ki:TI}{x y z:Operand}{agg:Bool}{ents:List (List C)}{k:List UInt8}{cs:List C}{S:Sto}{a:Act}{w:World}{b:Nat}{es:Array MapEntry}{clk:Nat}(hT:Tok P T) (ho:o.op=.insert t x y z) (hi:T[t]?=some (some i)) (hk:i.k=.mp kt et)
  (hki:T[kt]?=some (some ki)) (hkk:ki.k=.str) (q3:a.eval x=.map (some b)) (h3:a.eval y=.string ⟨⟨k⟩⟩) (g2:w.heap[b]?=some (.map es clk)) (g3:bD S agg ents es.toList) (hms:iF ents)
  (ac:dH S cs (a.eval z).cells.toList) (I:a.eval z=(if agg then .agg ⟨(a.eval z).cells.toList⟩ else(a.eval z).cells.toList.headD undef)∧(agg=false→(a.eval z).cells.toList.length=1)):
  ∃aa ad,(execOp a.eval o).run P w=.ok .skip { w with heap:=w.heap.setIfInBounds b (.map aa ad) }∧bD S agg (qO k cs ents) aa.toList:=by
 have J:=(hT.get hki).str hkk;have hu:=Av ((hT.get hi).map hk) w;have q:=lQ (k:=k) ents es.toList 0 g3 hms;have ab:=fun b=>nB (P:=P) J b 9999 ⟨⟨k⟩⟩ w
 have O:∀e:MapEntry,e.key=.string ⟨⟨k⟩⟩→e.val=a.eval z→bD S agg [.str k::cs] [e]:=by
  intro e he1 he2;simp only[bD];refine⟨e,[],rfl,⟨(a.eval z).cells.toList,?_,by rw[he2];exact I.1,I.2⟩,rfl⟩;simp only[dH];exact⟨e.key,_,rfl,by simp[Rep,he1],ac⟩
 have Y:∀(ob:Obj),(setObj b ob).run P w=.ok () { w with heap:=w.heap.setIfInBounds b ob }:=by
  intro ob;exact MapKept.run_setObj_map _ g2
 cases hq:fT k ents with
 | some vs=>
  obtain⟨j,e,p1,Z,_,p4,p5,p6⟩:=q.1 vs hq;refine⟨es.modify j fun e=>{ e with key:=.string ⟨⟨k⟩⟩,val:=a.eval z },clk,?_,?_⟩
  ·have hkey:((es[j]?).map (·.key)).getD (.string ⟨⟨k⟩⟩)=.string ⟨⟨k⟩⟩:=by
    rw[←Array.getElem?_toList,Z];simpa using p4
   have hkt:(Instr.keyThatStays (.string ⟨⟨k⟩⟩) (.string ⟨⟨k⟩⟩)).run P w=.ok (.string ⟨⟨k⟩⟩) w:=by
    have hsb:Instr.sameBits 10000 (.string ⟨⟨k⟩⟩) (.string ⟨⟨k⟩⟩)=true:=by simp[Instr.sameBits,aK7]
    simp only[Instr.keyThatStays,hsb,Cw,Af]
   simp only[execOp,ho,q3,h3,Ad,Instr.mapUpdate,hu,τ,kL w b es clk g2];rw[show(10000:Nat)=9999+1 from rfl,ab];simp only[τ,Instr.findKey,Ad,Av J w,p1,Af,Be,hkey,hkt,Y]
  ·rw[p6 cs,Array.toList_modify];have hmod:es.toList.modify j (fun e=>{ e with key:=.string ⟨⟨k⟩⟩,val:=a.eval z })=es.toList.take j++{ e with key:=.string ⟨⟨k⟩⟩,val:=a.eval z }::es.toList.drop (j+1):=by
    apply Bg;intro i;rw[List.getElem?_modify];have p5':j<es.size:=by simpa using p5
    by_cases c1:i<j
    ·rw[Ax (by simp;omega),Ay,κ c1];simp[show ¬j=i by omega]
    ·rw[Ao (by simp;omega)];simp only[Ap];by_cases c2:j=i
     ·subst c2;rw[Z];have hm:min j es.toList.length=j:=by simp;omega
      rw[hm];simp
     ·rw[Ci (le_of_lt p5),show i-j=(i-j-1)+1 by omega,Bh,Am];simp[c2,show j+1+(i-j-1)=i by omega]
   rw[hmod];have:=eY (mI j g3) (eY (O { e with key:=.string ⟨⟨k⟩⟩,val:=a.eval z } rfl rfl) (mJ (j+1) g3));exact this
 | none=>
  obtain⟨p1,Z⟩:=q.2 hq;refine⟨es.push { key:=.string ⟨⟨k⟩⟩,val:=a.eval z,born:=clk },clk+1,?_,?_⟩
  ·simp only[execOp,ho,q3,h3,Ad,Instr.mapUpdate,hu,τ,kL w b es clk g2];rw[show(10000:Nat)=9999+1 from rfl,ab];simp only[τ,Instr.findKey,Ad,Av J w,p1,Af,Y]
  ·rw[Z cs,Array.toList_push];exact eY g3 (O _ rfl rfl)
theorem aUe {t kt et:TypeId}{i ki:TI}{x y z:Operand}{id:Nat}{agg:Bool}{ents:List (List C)}{k:List UInt8}{v:V}{rs:List R}{cs:List C}{ids:List Nat}(hT:Tok P T) (ho:o.op=.insert t x y z) (hd:o.dst=none) (hi:T[t]?=some (some i)) (hk:i.k=.mp kt et)
  (hki:T[kt]?=some (some ki)) (hkk:ki.k=.str) (hx:opv st x=some (.one (.mr id))) (hh:st.h id=some (.map agg ents)) (J:iF ents) (hy:opv st y=some (Go.AM.T k))
  (hz:opv st z=some v) (q:(match v with | .one _=>!agg | .pa _=>agg | .ma _=>agg | _=>false)=true) (hc:j0 v=some rs) (hp:PureL st.h ids rs cs):
  Step P n o st ⟨opr x++opr y++opr z,id::ids⟩ ⟨none,[(id,some (.map agg (qO k cs ents)))]⟩:=by
 refine Step.turn hd hh (by simp) (by simp[AObj.succ]) fun st' ha hh' G S μ a w hs=>?_
 have h1:=aO hs hx fun t h=>ha.1 t (by simp[h])
 have h3:=lI (aO hs hy fun t h=>ha.1 t (by simp[h]));have I:=aO hs hz fun t h=>ha.1 t (by simp[h])
 simp only[aY,b9] at h1;obtain⟨agg',ents',b,c,q1,q2,q3⟩:=h1;obtain⟨b',es,clk,g1,g2,g3,g4⟩:=hs.inv.obj id _ hh';rw[g1] at q2;cases q2;have g3:=g3.rep J;have Y:=hp.rel (fun i h=>ha.2 i (by simp[h])) hs.inv.obj (fC I hc);have Z:a.eval z=(if agg then .agg ⟨(a.eval z).cells.toList⟩ else(a.eval z).cells.toList.headD undef)∧(agg=false→(a.eval z).cells.toList.length=1):=by
  cases v with
  | one r=>
   simp at q;subst q;simp only[aY] at I;rw[I.one.1];simp
  | pa l=>
   simp at q;subst q;simp only[aY] at I;obtain⟨vs,I,_⟩:=I;rw[I];simp[Value.cells]
  | ma l=>
   simp at q;subst q;simp only[aY] at I;obtain⟨vs,I,_⟩:=I;rw[I];simp[Value.cells]
  | tup l=>simp at q
 obtain⟨es',O,aa,ab⟩:=aN6 (P:=P) hT ho hi hk hki hkk q3 h3 g2 g3 J Y Z;have hW:∀ob,WChg w { w with heap:=w.heap.setIfInBounds b ob } b ob:=fun ob=>by
  have hlt:=dE g2;refine⟨rfl,rfl,rfl,by simp,by simp[hlt],fun k _ hne=>?_⟩;show(w.heap.setIfInBounds b ob)[k]?=_;rw[By,θ (fun e=>hne e.symm)]
 have hSc:∀(ob:Obj) (o:Nat) (v:Value),S.cell b o=some v→∃vs t fr,ob=.cells vs t fr∧vs[o]?=some v:=fun ob o v e=>by
  obtain⟨vs,t,fr,p1,_⟩:=hs.inv.holds.1 b o v e;rw[g2] at p1;cases p1
 have g4:=g4.kn0 J;have hSm:∀m,S.mapo b=some m→w.heap.size≤b:=fun m e=>by rw[g4] at e;cases e
 exact⟨_,.map es' O,b,(0,0),aa,g1,hW _,⟨b,_,O,aI _ _ _,(hW _).new,.inr (.inl ab),.inl g4⟩,hSc _,hSm⟩
end
section
variable {P:Program}{n:Nat}{o:Oper}{st:St}{d:Nat}{T:TT}
theorem mE {α:Type}(f:Nat→Option α) (k:Nat) (x y:Option α):upd (upd f k x) k y=upd f k y:=by
 funext i;simp only[upd];split<;>rfl
theorem aOq {t e:TypeId}{i ei:TI}{x y:Operand}{rows:List (List C)}{vy:V}{ids:List Nat}(id:Nat) (hT:Tok P T) (ho:o.op=.call { callee:=.builtin .append,args:= #[x,y],argTypes:= #[t,t] }) (hd:o.dst=some d) (hdn:d<n)
  (hi:T[t]?=some (some i)) (hk:i.k=.sl e) (hei:T[e]?=some (some ei)) (hes:Nat.ble 1 ei.size=true) (heb:Nat.ble 1 ei.bytes=true)
  (hx:opv st x=some (.one (.c .nl))) (hid:st.h id=none) (hy:opv st y=some vy) (q:Src st ei.size ids vy rows)
  (J:rows.length*ei.bytes≤140737488355328):
  Step P n o st ⟨opr x++opr y,id::ids⟩ ⟨some (d,some (.one (.hs id 0 rows.length rows.length))),[(id,some (.arr e ei.size rows 0))]⟩:=by
 intro st' ha G S μ a w K Q hs hk';have Y:st'.h id=none:=by rw[ha.2 id (by simp),hid]
 obtain⟨hi',Z⟩:=hs.inv.empty e ei.size Y;have O:Sim G n S (upd μ id none) ⟨st'.e,upd st'.h id (some (.arr e ei.size [] 0)),st'.d⟩ a w:=⟨hi',hs.size,hs.defers.evolve Z,fun t v e=>aY.evolve Z v _ (hs.env t v e)⟩
 have I:=aO hs hx fun t ht=>ha.1 t (by simp[ht])
 have hvy:=aO hs hy fun t ht=>ha.1 t (by simp[ht])
 simp only[aY,b9,Rep] at I;have aa:aY S (upd μ id none) (upd st'.h id (some (.arr e ei.size [] 0))) (.one (.hs id 0 0 0)) (a.eval x):=by
  simp only[aY,b9];exact⟨⟨_,_,_,I⟩,.inr ⟨e,ei.size,[],0,aI _ _ _,le_refl _,fun _=>⟨le_refl _,.inl ⟨aI _ _ _,rfl,I⟩⟩⟩⟩
 have hne:∀j∈ids,j≠id:=by
  intro j hj e;subst e;cases q with
  | hs h1 _ _=>simp at hj;subst hj;rw[hid] at h1;cases h1
  | all h1 _=>simp at hj;subst hj;rw[hid] at h1;cases h1
  | sl=>simp at hj
  | nl=>simp at hj
  | sn=>simp at hj
 have:=aFv (fz:=0) (elems:=[]) (id:=id) hT ho hi hk hei hes heb rfl (by simpa using J) (aI _ _ _) O aa (aY.evolve Z _ _ hvy) q fun j hj=>by
  show upd st'.h id (some (.arr e ei.size [] 0)) j=_;rw[aV _ _ _ (hne j hj)];exact ha.2 j (by simp[hj])
 refine aQf hd hdn (by simp) _ (aI _ _ _) O (fun S' μ' a' w' h=>hk' S' μ' a' w' ?_) this;have e1:Eff.apply ⟨some (d,some (.one (.hs id 0 (([]:List (List C)).length+rows.length) (([]:List (List C)).length+rows.length)))),[(id,some (.arr e ei.size ([]++rows) (if 0=0 then 0 else 1)))]⟩ ⟨st'.e,upd st'.h id (some (.arr e ei.size [] 0)),st'.d⟩
   =Eff.apply ⟨some (d,some (.one (.hs id 0 rows.length rows.length))),[(id,some (.arr e ei.size rows 0))]⟩ st':=by
  unfold Eff.apply;rw[dG,dG,mE];simp
 rw[e1] at h;exact h
theorem Sub.conv {kf ids:List Nat}{t:Nat}{v v':V}(h:st.e t=some v) (hc:Conv st.h ids v v'):Sub kf ⟨upd st.e t (some v'),st.h,st.d⟩ st:=by
 intro G n S μ a w _ hs;refine⟨S,μ,⟨hs.inv,hs.size,hs.defers,fun s u e=>?_⟩⟩;by_cases q:s=t
 ·subst q;have:some v'=some u:=by rw[←e];exact(aI _ _ _).symm
  cases this;exact hc.rel (fun _ _=>rfl) hs.inv.obj (hs.env s _ h)
 ·exact hs.env s u (by rw[←e];exact(aV _ _ _ q).symm)
theorem aT7 {t e:TypeId}{i ei:TI}{len:Nat}{parts:Array (Nat×Operand)}{ids:List Nat}{rows:List (List C)}(id:Nat) (hT:Tok P T) (ho:o.op=.buildSlice t len parts) (hd:o.dst=some d) (hdn:d<n) (hi:T[t]?=some (some i)) (hk:i.k=.sl e) (hei:T[e]?=some (some ei)) (q:RowsV st ei.size 0 ids parts.toList rows) (hlen:Nat.beq len parts.size=true) (J:Nat.ble (len*ei.size) 16777216=true) (Z:Nat.ble len 16777216=true) (hid:st.h id=none):
  Step P n o st ⟨iG parts.toList,id::ids⟩ ⟨some (d,some (.one (.c (.sl ei.size rows)))),[(id,some (.arr e ei.size rows 2))]⟩:=by
 intro st' ha G S μ a w K Q hs hk';refine aOg id hT ho hd hdn hi hk hei q hlen J Z hid st' ha G S μ a w K Q hs fun S1 μ1 a1 w1 h1=>?_
 have y:len=rows.length:=by rw[q.lengths];simpa using Aa hlen
 have hh:(Eff.apply ⟨some (d,some (.one (.hs id 0 len len))),[(id,some (.arr e ei.size rows 0))]⟩ st').h id=some (.arr e ei.size rows 0):=by
  show updL st'.h [(id,some (.arr e ei.size rows 0))] id=_;rw[dG,aI]
 obtain⟨S2,Y,h2⟩:=h1.freeze hh;refine hk' S2 Y a1 w1 ⟨?_,h2.size,?_,fun s u e1=>?_⟩
 ·have:=h2.inv;show Inv G S2 Y (updL st'.h [(id,some (.arr e ei.size rows 2))]) w1;rw[dG];have I:upd (Eff.apply ⟨some (d,some (.one (.hs id 0 len len))),[(id,some (.arr e ei.size rows 0))]⟩ st').h id (some (.arr e ei.size rows 2))=upd st'.h id (some (.arr e ei.size rows 2)):=by
   show upd (updL st'.h [(id,some (.arr e ei.size rows 0))]) id _=_;rw[dG,mE]
  rw[←I];exact this
 ·have:=h2.defers;show Marks _ Y (updL st'.h [(id,some (.arr e ei.size rows 2))]) st'.d a1.defers;rw[dG];have I:upd (Eff.apply ⟨some (d,some (.one (.hs id 0 len len))),[(id,some (.arr e ei.size rows 0))]⟩ st').h id (some (.arr e ei.size rows 2))=upd st'.h id (some (.arr e ei.size rows 2)):=by
   show upd (updL st'.h [(id,some (.arr e ei.size rows 0))]) id _=_;rw[dG,mE]
  rw[←I];exact this
 ·have I:upd (Eff.apply ⟨some (d,some (.one (.hs id 0 len len))),[(id,some (.arr e ei.size rows 0))]⟩ st').h id (some (.arr e ei.size rows 2))=updL st'.h [(id,some (.arr e ei.size rows 2))]:=by
   show upd (updL st'.h [(id,some (.arr e ei.size rows 0))]) id _=_;rw[dG,dG,mE]
  show aY S2 Y (updL st'.h [(id,some (.arr e ei.size rows 2))]) u (a1.tmps.getD s undef);by_cases O:s=d
  ·subst O;have hu:u=.one (.c (.sl ei.size rows)):=by
    have:upd st'.e s (some (.one (.c (.sl ei.size rows)))) s=some u:=e1;rw[aI] at this;cases this;rfl
   subst hu;have hv:=h2.env s (.one (.hs id 0 len len)) (aI _ _ _);have hO:=h2.inv.obj id _ (aI _ _ _);have:=(Conv.one (h:=upd (Eff.apply ⟨some (s,some (.one (.hs id 0 len len))),[(id,some (.arr e ei.size rows 0))]⟩ st').h id (some (.arr e ei.size rows 2))) (PureL.hs (e:=rows) (aI _ _ _) y (by rw[y];simp) .nil)).rel (fun _ _=>rfl) h2.inv.obj hv;rw[←I];exact this
  ·have:upd st'.e d (some (.one (.c (.sl ei.size rows)))) s=some u:=e1;rw[aV _ _ _ O] at this;have hv:=h2.env s u (by show upd st'.e d _ s=some u;rw[aV _ _ _ O];exact this);rw[←I];exact hv
theorem a3n {J ty:TypeId}{x y:Operand}{a b:Nat}(O:o.op=.binOp .add J x y ty) (hd:o.dst=some d) (q:d<n) (hx:opv st x=some (I .i64 (a:Nat))) (Y:opv st y=some (I .i64 (b:Nat))) (Z:a+b≤9223372036854775807):
  Step P n o st ⟨opr x++opr y,[]⟩ ⟨some (d,some (I .i64 ((a+b:Nat):Int))),[]⟩:=aUg O hd q hx Y (by rw[←Int.natCast_add];exact Ck _ (by omega))
theorem a3h {J ty:TypeId}{x y:Operand}{a b:Nat}(O:o.op=.binOp .mul J x y ty) (hd:o.dst=some d) (q:d<n) (hx:opv st x=some (I .i64 (a:Nat))) (Y:opv st y=some (I .i64 (b:Nat))) (Z:a*b≤9223372036854775807):
  Step P n o st ⟨opr x++opr y,[]⟩ ⟨some (d,some (I .i64 ((a*b:Nat):Int))),[]⟩:=aUa O hd q hx Y (by rw[←Int.natCast_mul];exact Ck _ (by omega))
theorem a2z {J ty:TypeId}{x y:Operand}{a b:Nat}(O:o.op=.binOp .sub J x y ty) (hd:o.dst=some d) (q:d<n) (hx:opv st x=some (I .i64 (a:Nat))) (Y:opv st y=some (I .i64 (b:Nat))) (Z:b≤a∧a≤9223372036854775807):
  Step P n o st ⟨opr x++opr y,[]⟩ ⟨some (d,some (I .i64 ((a-b:Nat):Int))),[]⟩:=aT5 O hd q hx Y (by rw[show(a:Int)-b=((a-b:Nat):Int) by omega];exact Ck _ (by omega))
theorem a3d {J ty:TypeId}{x y:Operand}{a b:Nat}(O:o.op=.binOp .quo J x y ty) (hd:o.dst=some d) (q:d<n) (hx:opv st x=some (I .i64 (a:Nat))) (Y:opv st y=some (I .i64 (b:Nat))) (Z:a≤9223372036854775807∧1≤b):
  Step P n o st ⟨opr x++opr y,[]⟩ ⟨some (d,some (I .i64 ((a/b:Nat):Int))),[]⟩:=by
 have:=aW5 (P:=P) (n:=n) O hd q hx Y (by omega);rwa [←Int.natCast_ediv] at this
theorem a3b {J ty:TypeId}{x y:Operand}{a b:Nat}(O:o.op=.binOp .rem J x y ty) (hd:o.dst=some d) (q:d<n) (hx:opv st x=some (I .i64 (a:Nat))) (Y:opv st y=some (I .i64 (b:Nat))) (Z:1≤b):
  Step P n o st ⟨opr x++opr y,[]⟩ ⟨some (d,some (I .i64 ((a%b:Nat):Int))),[]⟩:=by
 have:=aW4 (P:=P) (n:=n) O hd q hx Y (by omega);rwa [←Int.natCast_emod] at this
theorem a7d {t1 t2:TypeId}{x y:Operand}{k:IntKind}{a b r:Int}(J:o.op=.call { callee:=.builtin .max,args:= #[x,y],argTypes:= #[t1,t2] }) (hd:o.dst=some d) (q:d<n) (hx:opv st x=some (I k a)) (O:opv st y=some (I k b)) (Y:(if b>a then b else a)=r):
  Step P n o st ⟨opr x++opr y,[]⟩ ⟨some (d,some (I k r)),[]⟩:=by
 refine Step.value hd q fun st' ha G S μ ac w hs=>?_
 have h1:=gH (aO hs hx fun t h=>ha.1 t (by simp[h]));have h2:=gH (aO hs O fun t h=>ha.1 t (by simp[h]));refine⟨.int k r,?_,by simp[aY,b9,Rep]⟩;simp only[execOp,J,resolve,map_toArray,At,Co,h1,h2,Ad,Af,τ,invoke,builtin,Builtin.max_,List.foldlM_cons,List.foldlM_nil,Builtin.max2,Y]
end
inductive Fz where
 | map (agg:Bool) (ents:List (List C))
 | var (l:List C)
 | ra (n es:Nat) (l:List R)
mutual
def R.fz (id:Nat) (z:Fz):R→R
 | .mr j=>match z with
  | .map agg ents=>if Nat.beq j id then .c (.mp agg ents) else .mr j
  | _=>.mr j
 | .vp j off=>match z with
  | .var l=>if Nat.beq j id then .c (.pt (l.drop off)) else .vp j off
  | _=>.vp j off
 | .ra j off len sz=>match z with
  | .ra n es l=>if Nat.beq j id then(if Nat.beq off 0&&Nat.beq len n&&Nat.beq sz n then .ras n es l else .c .any) else .ra j off len sz
  | _=>.ra j off len sz
 | .rp j i fo sz=>match z with
  | .ra _ _ _=>if Nat.beq j id then .c .any else .rp j i fo sz
  | _=>.rp j i fo sz
 | .ras n es l=>.ras n es (R.fzL id z l)
 | .pas l=>.pas (R.fzL id z l)
 | .clo f caps=>.clo f (R.fzL id z caps)
 | .mth f x=>.mth f (R.fz id z x)
 | r=>r
def R.fzL (id:Nat) (z:Fz):List R→List R
 | []=>[]
 | r::rs=>R.fz id z r::R.fzL id z rs
end
mutual
def V.fz (id:Nat) (z:Fz):V→V
 | .one r=>.one (r.fz id z)
 | .pa l=>.pa l
 | .ma l=>.ma (R.fzL id z l)
 | .tup l=>.tup (V.fzL id z l)
def V.fzL (id:Nat) (z:Fz):List V→List V
 | []=>[]
 | r::rs=>V.fz id z r::V.fzL id z rs
end
def fzE (id:Nat) (z:Fz):List (Nat×V)→List (Nat×V)
 | []=>[]
 | (t,v)::l=>(t,v.fz id z)::fzE id z l
def fzR (id:Nat) (z:Fz):List (List R)→List (List R)
 | []=>[]
 | r::l=>R.fzL id z r::fzR id z l
theorem aQp {id:Nat}{z:Fz}:∀{l:List (Nat×V)}{t:Nat}{v:V},(t,v)∈fzE id z l→∃v0,(t,v0)∈l∧v=v0.fz id z
 | (k,u)::l,t,v,h=>by
  simp only[fzE,Ac] at h;rcases h with h | h
  ·cases h;exact⟨u,by simp,rfl⟩
  ·obtain⟨v0,h1,h2⟩:=aQp h;exact⟨v0,by simp[h1],h2⟩
theorem R.fzL_length {id:Nat}{z:Fz}:∀{l:List R},(R.fzL id z l).length=l.length
 | []=>rfl
 | _::l=>by simp[R.fzL,R.fzL_length (l:=l)]
theorem R.fzL_append {id:Nat}{z:Fz}:∀{l m:List R},R.fzL id z (l++m)=R.fzL id z l++R.fzL id z m
 | [],_=>rfl
 | _::l,m=>by simp[R.fzL,R.fzL_append (l:=l)]
theorem gU {id:Nat}{z:Fz}:∀{l:List (List R)},(fzR id z l).length=l.length
 | []=>rfl
 | _::l=>by simp[fzR,gU (l:=l)]
theorem aKo {id:Nat}{z:Fz}:∀{l:List (List R)},(fzR id z l).flatten=R.fzL id z l.flatten
 | []=>rfl
 | _::l=>by simp[fzR,aKo (l:=l),R.fzL_append]
theorem oN {id:Nat}{z:Fz}{es:Nat}:∀{l:List (List R)},(∀r∈l,r.length=es)→∀r∈fzR id z l,r.length=es
 | [],_,r,h=>by simp[fzR] at h
 | x::l,k,r,h=>by
  simp only[fzR,Ac] at h;rcases h with rfl | h
  ·rw[R.fzL_length];exact k _ (by simp)
  ·exact oN (l:=l) (fun r q=>k r (by simp[q])) r h
def AObj.fz (id:Nat) (z:Fz):AObj→AObj
 | .var t cells=>.var t (R.fzL id z cells)
 | .lp st j i e=>.lp st j i (fzE id z e)
 | .rarr te es l=>.rarr te es (fzR id z l)
 | .tok r k=>.tok (r.fz id z) k
 | o=>o
def Fz.of:Fz→AObj→Prop
 | .map agg ents,o=>o=.map agg ents
 | .var l,o=>∃t,o=.var t (l.map R.c)
 | .ra n es l,o=>∃te elems,o=.rarr te es elems∧l=elems.flatten∧n=elems.length
def hfz (id:Nat) (z:Fz) (H:dD):dD:=fun j=>if Nat.beq j id then none else(H j).map (AObj.fz id z)
section
variable {S S':Sto}{μ:Mu}{H:dD}{id:Nat}{z:Fz}
theorem kT {j:Nat}(h:j≠id):hfz id z H j=(H j).map (AObj.fz id z):=by
 have:Nat.beq j id=false:=by
  cases hb:Nat.beq j id with
  | false=>rfl
  | true=>exact absurd (Aa hb) h
 simp[hfz,this]
theorem aXu:hfz id z H id=none:=by simp[hfz]
theorem aG5 {j te es fz:Nat}{l:List (List C)}{o:AObj}(hid:H id=some o) (hz:z.of o) (h:H j=some (.arr te es l fz)):hfz id z H j=some (.arr te es l fz):=by
 have q:j≠id:=by
  rintro rfl;rw[h] at hid;cases hid;cases z with
  | map agg ents=>cases hz
  | var l=>obtain⟨t,h⟩:=hz;cases h
  | ra n es l=>obtain⟨_,_,h,_⟩:=hz;cases h
 rw[kT q,h];rfl
theorem aA5 {j:Nat}{o:AObj}(hid:H id=some o) (hz:z.of o) (h:H j=some .dead):hfz id z H j=some .dead:=by
 have q:j≠id:=by
  rintro rfl;rw[h] at hid;cases hid;cases z with
  | map agg ents=>cases hz
  | var l=>obtain⟨t,h⟩:=hz;cases h
  | ra n es l=>obtain⟨_,_,h,_⟩:=hz;cases h
 rw[kT q,h];rfl
def a11 (S':Sto) (μ:Mu) (H:dD) (id:Nat):Fz→Prop
 | .map agg ents=>∀b c,μ id=some (b,c)→∃es clk,S'.mapo b=some (.all es clk)∧(bD S' agg ents es.toList∨aNd S' agg ents es)
 | .var l=>∀b c,μ id=some (b,c)→∃vs,dH S' l vs∧gS S' b 0 vs
 | .ra n es l=>n*es=l.length∧∀b base cap,μ id=some (b,base,cap)→n≤cap∧cap≤maxLen∧∃vs,b6 S' μ (hfz id (.ra n es l) H) l vs∧gS S' b base vs
mutual
theorem b9.fz (hle:S.le S') {o:AObj}(hid:H id=some o) (hz:z.of o):∀(r:R) (v:Value),(id∈r.refs→a11 S' μ H id z)→b9 S μ H r v→b9 S' μ (hfz id z H) (r.fz id z) v
 | .c x,v,_,k=>by simp only[b9,R.fz] at k ⊢;exact Rep.mono hle x v k
 | .hs j off len sz,v,_,k=>by
  simp only[b9,R.fz] at k ⊢;obtain⟨q,k | ⟨te,es,elems,fz,h1,h2⟩⟩:=k
  ·exact⟨q,.inl (aA5 hid hz k)⟩
  ·exact⟨q,.inr ⟨te,es,elems,fz,aG5 hid hz h1,h2⟩⟩
 | .tl j off len sz,v,_,k=>by
  simp only[b9,R.fz] at k ⊢;obtain⟨q,k | ⟨te,es,elems,fz,h1,h2⟩⟩:=k
  ·exact⟨q,.inl (aA5 hid hz k)⟩
  ·exact⟨q,.inr ⟨te,es,elems,fz,aG5 hid hz h1,h2⟩⟩
 | .ep j i fo sz,v,_,k=>by
  simp only[b9,R.fz] at k ⊢;obtain⟨q,k | ⟨te,es,elems,fz,h1,h2⟩⟩:=k
  ·exact⟨q,.inl (aA5 hid hz k)⟩
  ·exact⟨q,.inr ⟨te,es,elems,fz,aG5 hid hz h1,h2⟩⟩
 | .vp j off,v,hk,k=>by
  simp only[b9] at k;obtain⟨t,cells,b,c,h1,h2,h3⟩:=k;by_cases hj:j=id
  ·subst hj;rw[h1] at hid;cases hid;cases z with
   | map agg ents=>cases hz
   | ra n es l=>obtain⟨_,_,h,_⟩:=hz;cases h
   | var l=>
    simp only[R.fz,Cg,Cw,b9,Rep];obtain⟨vs,g1,g2⟩:=hk (by simp[R.refs]) b c h2;refine⟨b,off,h3,vs.drop off,g1.drop off,fun i u hu=>?_⟩;rw[Am] at hu;have:=g2 _ u hu;rwa [Be] at this
  ·have hb:Nat.beq j id=false:=by
    cases hb:Nat.beq j id with
    | false=>rfl
    | true=>exact absurd (Aa hb) hj
   have e:(R.vp j off).fz id z=.vp j off:=by cases z<;>simp[R.fz,hb]
   rw[e];simp only[b9];exact⟨t,_,b,c,by rw[kT hj,h1];rfl,h2,h3⟩
 | .mr j,v,hk,k=>by
  simp only[b9] at k;obtain⟨agg,ents,b,c,h1,h2,h3⟩:=k;by_cases hj:j=id
  ·subst hj;rw[h1] at hid;cases hid;cases z with
   | var l=>obtain⟨t,h⟩:=hz;cases h
   | ra n es l=>obtain⟨_,_,h,_⟩:=hz;cases h
   | map agg' ents'=>
    cases hz;simp only[R.fz,Cg,Cw,b9,Rep];obtain⟨es,clk,g1,g2⟩:=hk (by simp[R.refs]) b c h2;exact⟨b,es,clk,h3,g1,g2⟩
  ·have hb:Nat.beq j id=false:=by
    cases hb:Nat.beq j id with
    | false=>rfl
    | true=>exact absurd (Aa hb) hj
   have e:(R.mr j).fz id z=.mr j:=by cases z<;>simp[R.fz,hb]
   rw[e];simp only[b9];exact⟨agg,ents,b,c,by rw[kT hj,h1];rfl,h2,h3⟩
 | .clo f caps,v,hk,k=>by
  simp only[b9,R.fz] at k ⊢;obtain⟨vs,h1,h2⟩:=k;exact⟨vs,h1,b6.fz hle hid hz caps vs (by simpa only[R.refs] using hk) h2⟩
 | .ras n es l,v,hk,k=>by
  simp only[b9,R.fz] at k ⊢;obtain⟨a,cap,h1,h2,h3,h4,h5,h6,b,o,h7,vs,J,O⟩:=k;exact⟨a,cap,h1,by rw[R.fzL_length];exact h2,h3,h4,h5,h6,b,o,h7,vs,b6.fz hle hid hz l vs (by simpa only[R.refs] using hk) J,O.mono hle⟩
 | .pas l,v,hk,k=>by
  simp only[b9,R.fz] at k ⊢;obtain⟨b,o,h1,vs,J,O⟩:=k;exact⟨b,o,h1,vs,b6.fz hle hid hz l vs (by simpa only[R.refs] using hk) J,O.mono hle⟩
 | .mth f recv,v,hk,k=>by
  simp only[b9,R.fz] at k ⊢;obtain⟨u,h1,h2⟩:=k;exact⟨u,h1,b9.fz hle hid hz recv u (by simpa only[R.refs] using hk) h2⟩
 | .rp j i fo sz,v,hk,k=>by
  simp only[b9] at k;obtain⟨q,k⟩:=k;by_cases hj:j=id
  ·subst hj;have key:b9 S' μ (hfz j z H) (.c .any) v:=by
    obtain⟨a,rfl⟩:=q;simp only[b9,Rep];exact⟨rfl,rfl⟩
   rcases k with k | ⟨te,es,elems,h1,h2,h3⟩
   ·rw[k] at hid;cases hid;cases z with
    | map agg ents=>cases hz
    | var l=>obtain⟨t,h⟩:=hz;cases h
    | ra n es l=>obtain⟨_,_,h,_⟩:=hz;cases h
   ·rw[h1] at hid;cases hid;cases z with
    | map agg ents=>cases hz
    | var l=>obtain⟨t,h⟩:=hz;cases h
    | ra n es l=>simpa only[R.fz,Cg,Cw] using key
  ·have hb:Nat.beq j id=false:=by
    cases hb:Nat.beq j id with
    | false=>rfl
    | true=>exact absurd (Aa hb) hj
   have e:(R.rp j i fo sz).fz id z=.rp j i fo sz:=by cases z<;>simp[R.fz,hb]
   rw[e];simp only[b9];rcases k with k | ⟨te,es,elems,h1,h2,h3⟩
   ·exact⟨q,.inl (by rw[kT hj,k];rfl)⟩
   ·exact⟨q,.inr ⟨te,es,fzR id z elems,by rw[kT hj,h1];rfl,by rw[gU];exact h2,fun e=>h3 (by rw[gU] at e;exact e)⟩⟩
 | .yl j,v,_,k=>by
  simp only[b9,R.fz] at k ⊢;obtain⟨st,jp,i,e,b,c,h1,h2,h3⟩:=k;have hne:j≠id:=by
   rintro rfl;rw[h1] at hid;cases hid;cases z with
   | map agg ents=>cases hz
   | var l=>obtain⟨t,h⟩:=hz;cases h
   | ra n es l=>obtain⟨_,_,h,_⟩:=hz;cases h
  exact⟨st,jp,i,_,b,c,by rw[kT hne,h1];rfl,h2,h3⟩
 | .ra j off len sz,v,hk,k=>by
  simp only[b9] at k;obtain⟨q,k⟩:=k;by_cases hj:j=id
  ·subst hj;have key:b9 S' μ (hfz j z H) (.c .any) v:=by
    obtain⟨a,l,c,rfl⟩:=q;simp only[b9,Rep];exact⟨rfl,rfl⟩
   rcases k with k | ⟨te,es,elems,h1,h2,h3⟩
   ·rw[k] at hid;cases hid;cases z with
    | map agg ents=>cases hz
    | var l=>obtain⟨t,h⟩:=hz;cases h
    | ra n es l=>obtain⟨_,_,h,_⟩:=hz;cases h
   ·rw[h1] at hid;cases hid;cases z with
    | map agg ents=>cases hz
    | var l=>obtain⟨t,h⟩:=hz;cases h
    | ra n es' l=>
     obtain⟨te',elems',Y,y,I⟩:=hz;cases Y;simp only[R.fz,Cg,Cw];split
     ·rename_i hc;simp only[ζ] at hc;obtain⟨⟨Z,c2⟩,c3⟩:=hc;have Z:=Aa Z;have c2:=Aa c2;have c3:=Aa c3;subst Z;subst c2;subst c3;obtain⟨f1,f2⟩:=hk (by simp[R.refs]);obtain⟨_,⟨m1,m2,m3⟩ | ⟨b,base,cap,m1,m2⟩⟩:=h3 I
      ·subst m2;simp only[length_nil] at I;subst I;subst y;simp only[b9];exact⟨none,0,m3,by simp,le_refl _,Al _,(fun _=>⟨by first | rfl | simp,rfl⟩),(by simp),0,0,(by simp),[],(by simp[b6]),(by intro i v e;simp at e)⟩
      ·obtain⟨f3,f4,vs,f5,f6⟩:=f2 b base cap m1;simp only[b9];exact⟨some ⟨b,base,none⟩,cap,by rw[m2];simp,f1,f3,f4,by simp,(fun ad h=>by cases h;rfl),b,base,(fun ad h=>by cases h;exact⟨rfl,rfl⟩),vs,f5,f6⟩
     ·exact key
  ·have hb:Nat.beq j id=false:=by
    cases hb:Nat.beq j id with
    | false=>rfl
    | true=>exact absurd (Aa hb) hj
   have e:(R.ra j off len sz).fz id z=.ra j off len sz:=by cases z<;>simp[R.fz,hb]
   rw[e];simp only[b9];rcases k with k | ⟨te,es,elems,h1,h2,h3⟩
   ·exact⟨q,.inl (by rw[kT hj,k];rfl)⟩
   ·refine⟨q,.inr ⟨te,es,fzR id z elems,by rw[kT hj,h1];rfl,by rw[gU];exact h2,fun e=>?_⟩⟩;rw[gU] at e;obtain⟨Y,y⟩:=h3 e;refine⟨Y,?_⟩;rcases y with⟨y,I,q4⟩ | y
    ·exact .inl ⟨y,by rw[I];rfl,q4⟩
    ·exact .inr y
theorem b6.fz (hle:S.le S') {o:AObj}(hid:H id=some o) (hz:z.of o):∀(r:List R) (v:List Value),(id∈R.refsL r→a11 S' μ H id z)→b6 S μ H r v→b6 S' μ (hfz id z H) (R.fzL id z r) v
 | [],_,_,k=>by simpa only[b6,R.fzL] using k
 | r::rs,vs,hk,k=>by
  simp only[b6,R.fzL] at k ⊢;obtain⟨v,vs',h1,h2,h3⟩:=k;exact⟨v,vs',h1,b9.fz hle hid hz r v (fun h=>hk (by simp[R.refsL,h])) h2,b6.fz hle hid hz rs vs' (fun h=>hk (by simp[R.refsL,h])) h3⟩
end
mutual
theorem aY.fz (hle:S.le S') {o:AObj}(hid:H id=some o) (hz:z.of o) (hk:a11 S' μ H id z):∀(r:V) (v:Value),aY S μ H r v→aY S' μ (hfz id z H) (r.fz id z) v
 | .one r,v,k=>by simp only[aY,V.fz] at k ⊢;exact b9.fz hle hid hz r v (fun _=>hk) k
 | .pa l,v,k=>by
  simp only[aY,V.fz] at k ⊢;obtain⟨vs,h1,h2⟩:=k;exact⟨vs,h1,dH.mono hle l vs h2⟩
 | .ma l,v,k=>by
  simp only[aY,V.fz] at k ⊢;obtain⟨vs,h1,h2⟩:=k;exact⟨vs,h1,b6.fz hle hid hz l vs (fun _=>hk) h2⟩
 | .tup l,v,k=>by
  simp only[aY,V.fz] at k ⊢;obtain⟨vs,h1,h2⟩:=k;exact⟨vs,h1,c6.fz hle hid hz hk l vs h2⟩
theorem c6.fz (hle:S.le S') {o:AObj}(hid:H id=some o) (hz:z.of o) (hk:a11 S' μ H id z):∀(r:List V) (v:List Value),c6 S μ H r v→c6 S' μ (hfz id z H) (V.fzL id z r) v
 | [],_,k=>by simpa only[c6,V.fzL] using k
 | r::rs,vs,k=>by
  simp only[c6,V.fzL] at k ⊢;obtain⟨v,vs',h1,h2,h3⟩:=k;exact⟨v,vs',h1,aY.fz hle hid hz hk r v h2,c6.fz hle hid hz hk rs vs' h3⟩
end
theorem AObj.succ_fz {p:Prop}{o o':AObj}(h:o.succ p o'):o.succ p (o'.fz id z):=by
 cases o<;>cases o'<;>simp only[AObj.succ,AObj.fz,gU] at h ⊢<;>exact h
theorem nI.fz {w:World}{j:Nat}{x:AObj}(hle:S.le S') {o:AObj}(hid:H id=some o) (hz:z.of o) (hk:a11 S' μ H id z) (h:nI S μ H w j x) (hb:∀b c,μ j=some (b,c)→(∀o,S'.cell b o=S.cell b o)∧S'.mapo b=S.mapo b):nI S' μ (hfz id z H) w j (x.fz id z):=by
 cases x with
 | var t cells=>
  obtain⟨b,vs,h1,h2,h3,h4⟩:=h;exact⟨b,vs,h1,h2,b6.fz hle hid hz _ _ (fun _=>hk) h3,fun o=>by rw[(hb b _ h1).1,h4.1],by rw[(hb b _ h1).2,h4.2]⟩
 | arr te es elems fz=>
  obtain⟨h0,h1 | ⟨b,base,cap,vs,h1,h2,h3,h4,h5,h6,q,I,J⟩⟩:=h
  ·exact⟨h0,.inl h1⟩
  ·exact⟨h0,.inr ⟨b,base,cap,vs,h1,h2,h3,h4,⟨h5.1,by rw[(hb b _ h1).2,h5.2]⟩,dH.mono hle _ _ h6,fun e o y=>by rw[(hb b _ h1).1,q e o y],fun o e=>by rw[(hb b _ h1).1,I o e],fun e=>(J e).mono hle⟩⟩
 | map agg ents=>
  obtain⟨b,es,clk,h1,h2,h3,h4⟩:=h;exact⟨b,es,clk,h1,h2,aB9.mono hle h3,h4.of_eq (hb b _ h1).2⟩
 | dead=>exact h
 | lp st jp i e=>
  obtain⟨b,r,fn,tmps,h1,h2,h3,h4,h5,h6⟩:=h;refine⟨b,r,fn,tmps,h1,h2,h3,fun t v ht=>?_,fun o=>by rw[(hb b _ h1).1,h5],by rw[(hb b _ h1).2,h6]⟩;obtain⟨v0,O,rfl⟩:=aQp ht;exact aY.fz hle hid hz hk _ _ (h4 t v0 O)
 | dfr=>
  obtain⟨b,h1,h2,h3,h4⟩:=h;exact⟨b,h1,h2,fun o=>by rw[(hb b _ h1).1,h3],by rw[(hb b _ h1).2,h4]⟩
 | rarr te es elems=>
  obtain⟨h0,h1 | ⟨b,base,cap,vs,h1,h2,h3,h4,h5,h6,q⟩⟩:=h
  ·exact⟨oN h0,.inl ⟨h1.1,by rw[h1.2];rfl⟩⟩
  ·refine⟨oN h0,.inr ⟨b,base,cap,vs,h1,h2,h3,by rw[gU];exact h4,⟨h5.1,by rw[(hb b _ h1).2,h5.2]⟩,?_,fun o y=>by rw[(hb b _ h1).1,q o y]⟩⟩;rw[aKo,gU];exact b6.fz hle hid hz _ _ (fun _=>hk) h6
 | tok r k=>
  obtain⟨h1,b,h2,m,h3,h4⟩:=h;obtain⟨Y,h5,h6⟩:=hle.2 b m h3;exact⟨h1,b,b9.fz hle hid hz _ _ (fun _=>hk) h2,Y,h5,MK.le_has h6 h4⟩
theorem Sto.free_of {S S':Sto}(h:S.free) {b:Nat}(hb:∀b',b'≠b→(∀o,S'.cell b' o=S.cell b' o)∧S'.mapo b'=S.mapo b') (ht:∀te lo hi,¬S'.mapo b=some (.top te lo hi)):S'.free:=fun b' te lo hi e o y=>by
 by_cases q:b'=b
 ·subst q;exact absurd e (ht te lo hi)
 ·obtain⟨h1,h2⟩:=hb b' q;rw[h1,h b' te lo hi (by rw[←h2];exact e) o y]
theorem tD {G:Ctx}{n:Nat}{kf:List Nat}{st:St}{a:Act}{w:World}{o:AObj}(hid:st.h id=some o) (hz:z.of o) (Z:id∉kf) (hg:G.keeps kf) (hs:Sim G n S μ st a w) (hle:S.le S') (hh:Holds S' w) (hk:a11 S' μ st.h id z)
  (hb:∀b,(∀c,μ id≠some (b,c))→(∀o,S'.cell b o=S.cell b o)∧S'.mapo b=S.mapo b) (O:S'.free):Sim G n S' μ ⟨fun t=>(st.e t).map (V.fz id z),hfz id z st.h,st.d⟩ a w:=by
 have hold:∀j x,hfz id z st.h j=some x→j≠id∧∃I,st.h j=some I∧x=I.fz id z:=by
  intro j x hj;have q:j≠id:=by rintro rfl;rw[aXu] at hj;cases hj
  rw[kT q] at hj;cases h:st.h j with
  | none=>rw[h] at hj;cases hj
  | some I=>
   rw[h] at hj;cases hj;exact⟨q,I,rfl,rfl⟩
 have Y:∀j I,st.h j=some I→j≠id→∀b c,μ j=some (b,c)→∀c',μ id≠some (b,c'):=by
  intro j I hj q b c hm c' J;exact q (hs.inv.inj j id I o b c c' hj hid hm J)
 refine⟨⟨hh,fun j x hj=>?_,fun i j x x' b c c' hi hj hm J=>?_,fun i x b c hi hm=>?_,hs.inv.frame,Sto.le_trans hs.inv.sle hle,fun b aa hF=>?_,⟨Sto.le_trans hs.inv.evo.le hle,fun j x hj=>?_⟩,O⟩,hs.size,hs.defers.go fun j _ hj=>⟨rfl,?_⟩,fun t v e=>?_⟩
 ·obtain⟨q,I,h1,rfl⟩:=hold j x hj;exact(hs.inv.obj j I h1).fz hle hid hz hk fun b c hm=>hb b (Y j I h1 q b c hm)
 ·obtain⟨_,y,h1,_⟩:=hold i x hi;obtain⟨_,y',h2,_⟩:=hold j x' hj;exact hs.inv.inj i j y y' b c c' h1 h2 hm J
 ·obtain⟨_,y,h1,_⟩:=hold i x hi;exact hs.inv.own i y b c h1 hm
 ·have hno:∀c,μ id≠some (b,c):=by
   intro c hm;rcases hs.inv.own id o b c hid hm with h | h
   ·omega
   ·exact hF h
  obtain⟨h1,h2⟩:=hb b hno;obtain⟨h3,h4⟩:=hs.inv.sto b aa hF;exact⟨fun o=>(h1 o).trans (h3 o),h2.trans h4⟩
 ·obtain⟨o',h1,h2⟩:=hs.inv.evo.obj j x hj;have q:j≠id:=fun e=>Z (e▸hg.1 j x hj)
  exact⟨o'.fz id z,by show hfz id z st.h j=_;rw[kT q,h1];rfl,AObj.succ_fz h2⟩
 ·have q:j≠id:=by
   rintro rfl;rw[hj] at hid;cases hid;cases z with
   | map agg ents=>cases hz
   | var l=>obtain⟨t,h⟩:=hz;cases h
   | ra n es l=>obtain⟨_,_,h,_⟩:=hz;cases h
  show hfz id z st.h j=_;rw[kT q,hj];rfl
 ·cases h:st.e t with
  | none=>simp[h] at e
  | some v0=>
   simp only[h,Option.map_some,Option.some.injEq] at e;subst e;exact aY.fz hle hid hz hk v0 _ (hs.env t v0 h)
theorem aU2 {S:Sto}{w:World}{b:Nat}{es:Array MapEntry}{clk:Nat}(hh:Holds S w) (h:w.heap[b]?=some (.map es clk)):∃S':Sto,S'.cell=S.cell∧S'.mapo b=some (.all es clk)∧(∀b',b'≠b→S'.mapo b'=S.mapo b')∧S.le S'∧Holds S' w:=by
 have q:∀b',b'≠b→(if b'=b then some (MK.all es clk) else S.mapo b')=S.mapo b':=fun b' e=>θ e
 refine⟨⟨S.cell,fun b'=>if b'=b then some (.all es clk) else S.mapo b'⟩,rfl,κ rfl,q,⟨fun _ _ _ e=>e,fun b' m e=>?_⟩,hh.1,fun b' m e=>?_⟩
 ·by_cases hb:b'=b
  ·subst hb;refine⟨.all es clk,κ rfl,?_⟩;have:=hh.2 _ _ e;cases m with
   | all I y=>simp only[MK.holds] at this;rw[h] at this;cases this;rfl
   | part ks=>
    obtain⟨I,y,h1,h2⟩:=this;rw[h] at h1;cases h1;exact h2
   | top te lo hi=>
    obtain⟨vs,h1,_⟩:=this;rw[h] at h1;cases h1
  ·exact⟨m,by rw[←e];exact q b' hb,m.le_refl⟩
 ·by_cases hb:b'=b
  ·subst hb;have e':(if b'=b' then some (MK.all es clk) else S.mapo b')=some m:=e;rw[κ rfl] at e';cases e';exact h
  ·have e':(if b'=b then some (MK.all es clk) else S.mapo b')=some m:=e;rw[θ hb] at e';exact hh.2 b' m e'
theorem Sub.fvar {kf:List Nat}{st:St}{id t:Nat}{l:List C}(hid:st.h id=some (.var t (l.map R.c))) (q:id∉kf):Sub kf ⟨fun t=>(st.e t).map (V.fz id (.var l)),hfz id (.var l) st.h,st.d⟩ st:=by
 intro G n S μ a w I hs;obtain⟨b,vs,h1,h2,h3,h4⟩:=hs.inv.obj id _ hid;have h3':=h3.pure
 let S':Sto:=⟨fun b' o=>if b'=b then vs[o]? else S.cell b' o,S.mapo⟩
 have hle:S.le S':=⟨fun b' o v e=>by
  show(if b'=b then vs[o]? else S.cell b' o)=some v;by_cases hb:b'=b
  ·subst hb;rw[h4.1] at e;cases e
  ·rw[θ hb];exact e,fun _ m e=>⟨m,e,m.le_refl⟩⟩
 refine⟨S',μ,tD hid ⟨t,rfl⟩ q I hs hle ⟨fun b' o v e=>?_,hs.inv.holds.2⟩ ?_ (fun b' hb=>⟨fun o=>?_,rfl⟩) (Sto.free_of hs.inv.fre (b:=b) (fun b' hb=>⟨fun _=>θ hb,rfl⟩) fun te lo hi e=>by have e:S.mapo b=_:=e;rw[h4.2] at e;cases e)⟩
 ·have e':(if b'=b then vs[o]? else S.cell b' o)=some v:=e;by_cases hb:b'=b
  ·subst hb;rw[κ rfl] at e';exact⟨⟨vs⟩,t,(0,0),h2,by simpa using e'⟩
  ·rw[θ hb] at e';exact hs.inv.holds.1 b' o v e'
 ·intro b' c hm;rw[h1] at hm;cases hm;refine⟨vs,dH.mono hle _ _ h3',fun i u hu=>?_⟩;show(if b=b then vs[0+i]? else S.cell b (0+i))=some u;rw[κ rfl,Be];exact hu
 ·have y:b'≠b:=fun e=>hb (0,0) (by rw[e];exact h1)
  exact θ y
theorem Sub.fra {kf:List Nat}{st:St}{id te es:Nat}{elems:List (List R)}(hid:st.h id=some (.rarr te es elems)) (I:id∉kf) (y:R.fzL id (.ra elems.length es elems.flatten) elems.flatten=elems.flatten) (J:id∉R.refsL elems.flatten):
  Sub kf ⟨fun t=>(st.e t).map (V.fz id (.ra elems.length es elems.flatten)),hfz id (.ra elems.length es elems.flatten) st.h,st.d⟩ st:=by
 intro G n S μ a w O hs;have hz:(Fz.ra elems.length es elems.flatten).of (.rarr te es elems):=⟨te,elems,rfl,rfl,rfl⟩
 obtain⟨h0,⟨h1,h2⟩ | ⟨b,base,cap,vs,h1,h2,h3,h4,h5,h6,h7⟩⟩:=hs.inv.obj id _ hid
 ·refine⟨S,μ,tD hid hz I O hs S.le_refl hs.inv.holds ?_ (fun b' _=>⟨fun _=>rfl,rfl⟩) hs.inv.fre⟩;refine⟨?_,fun b base cap hm=>?_⟩
  ·rw[h2];simp
  ·rw[h1] at hm;cases hm
 ·let S':Sto:=⟨fun b' o=>if b'=b then vs[o]? else S.cell b' o,S.mapo⟩
  have hle:S.le S':=⟨fun b' o v e=>by
   show(if b'=b then vs[o]? else S.cell b' o)=some v;by_cases hb:b'=b
   ·subst hb;rw[κ rfl];obtain⟨vs',t',fr',Y,q2⟩:=hs.inv.holds.1 b' o v e;rw[h2] at Y;cases Y;simpa using q2
   ·rw[θ hb];exact e,fun _ m e=>⟨m,e,m.le_refl⟩⟩
  have hlen:elems.length*es=elems.flatten.length:=by
   have key:∀l:List (List R),(∀r∈l,r.length=es)→l.length*es=l.flatten.length:=by
    intro l
    induction l with
    | nil=>intro _;simp
    | cons r l ih=>
     intro h;have:=h r (by simp);have:=ih fun q hq=>h q (by simp[hq])
     simp only[Ai,Bm,ε,A7];omega
   exact key elems h0
  refine⟨S',μ,tD hid hz I O hs hle ⟨fun b' o v e=>?_,hs.inv.holds.2⟩ ⟨hlen,fun b' aa cap' hm=>?_⟩ (fun b' hb=>⟨fun o=>?_,rfl⟩) (Sto.free_of hs.inv.fre (b:=b) (fun b' hb=>⟨fun _=>θ hb,rfl⟩) fun te lo hi e=>by have e:S.mapo b=_:=e;rw[h5.2] at e;cases e)⟩
  ·have e':(if b'=b then vs[o]? else S.cell b' o)=some v:=e;by_cases hb:b'=b
   ·subst hb;rw[κ rfl] at e';exact⟨⟨vs⟩,te,(0,0),h2,by simpa using e'⟩
   ·rw[θ hb] at e';exact hs.inv.holds.1 b' o v e'
  ·rw[h1] at hm;cases hm;refine⟨h4,h5.1,(vs.drop base).take (elems.length*es),?_,?_⟩
   ·have:=b6.fz hle hid hz _ _ (fun h=>absurd h J) h6;rwa [y] at this
   ·intro i u hu;show(if b=b then vs[base+i]? else S.cell b (base+i))=some u;rw[κ rfl];rw[Ay] at hu;split at hu
    ·rwa [Am] at hu
    ·cases hu
  ·have Z:b'≠b:=fun e=>hb (base,cap) (by rw[e];exact h1)
   exact θ Z
end
end Go.AM
