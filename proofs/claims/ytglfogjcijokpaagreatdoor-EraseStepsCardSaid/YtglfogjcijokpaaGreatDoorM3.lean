/-
  Texts Am12 to Am20 in one.
-/
import Derived.Test.YtglfogjcijokpaaGreatDoorM2
import Derived.RangeFuncRecord
import Derived.IntWalk
import Derived.Laws.StructEq
open List (all_eq_true append_assoc append_nil cons_append drop_succ_cons flatten_cons length_append length_cons length_nil length_take map_cons map_nil map_toArray mem_append mem_cons mem_map nil_append set_eq_take_append_cons_drop take_of_length_le take_succ_cons)
open Nat (add_mul beq_refl eq_of_beq_eq_true le_of_ble_eq_true le_of_lt le_refl le_trans lt_of_lt_of_le min_eq_left zero_add zero_le)
namespace Go.AM
open Go
def vF (μ:Mu) (h:cK):Nat→Prop:=fun b=>∃id o c,h id=some o∧μ id=some (b,c)
def aU (P:Program) (f:FuncId) (args:List V) (hin:List (Nat×AObj)) (res:V) (hout:List (Nat×AObj)):Prop:=
 ∀S μ w vals,Inv ⟨w,S,vF μ (look hin),μ,look hin⟩ S μ (look hin) w→bS S μ (look hin) args vals→
  Calls P f ⟨vals⟩ w fun e w'=>∃S' μ' v,e=.returned v∧Inv ⟨w,S,vF μ (look hin),μ,look hin⟩ S' μ' (look hout) w'∧aZ S' μ' (look hout) res v
mutual
theorem R.ren_id:∀r:R,r.ren (fun i=>i)=r
 | .c _=>rfl
 | .hs ..=>rfl
 | .tl ..=>rfl
 | .vp ..=>rfl
 | .ep ..=>rfl
 | .mr ..=>rfl
 | .clo f caps=>by simp only[R.ren,R.renL_id caps]
 | .mth f x=>by simp only[R.ren,R.ren_id x]
 | .yl _=>rfl
 | .ra _ _ _ _=>rfl
 | .rp _ _ _ _=>rfl
 | .ras n es l=>by simp only[R.ren,R.renL_id l]
 | .pas l=>by simp only[R.ren,R.renL_id l]
theorem R.renL_id:∀r:List R,R.renL (fun i=>i) r=r
 | []=>rfl
 | r::rs=>by simp only[R.renL,R.ren_id r,R.renL_id rs]
end
mutual
theorem V.ren_id:∀r:V,r.ren (fun i=>i)=r
 | .one r=>by simp only[V.ren,R.ren_id r]
 | .pa _=>rfl
 | .ma l=>by simp only[V.ren,R.renL_id l]
 | .tup l=>by simp only[V.ren,V.renL_id l]
theorem V.renL_id:∀r:List V,V.renL (fun i=>i) r=r
 | []=>rfl
 | r::rs=>by simp only[V.renL,V.ren_id r,V.renL_id rs]
end
theorem aL7:∀l:List (Nat×V),aKh (fun i=>i) l=l
 | []=>rfl
 | (t,v)::l=>by simp only[aKh,V.ren_id v,aL7 l]
theorem aD8:∀l:List (List R),nJ (fun i=>i) l=l
 | []=>rfl
 | r::l=>by simp only[nJ,R.renL_id r,aD8 l]
theorem Ole.refl_id {o:AObj}(h:o≠ .dead):Ole (fun i=>i) o o:=by
 cases o with
 | var t cells=>exact .var (R.renL_id cells).symm
 | arr=>exact .arr
 | map=>exact .map
 | dead=>exact absurd rfl h
 | lp st j i e=>exact .lp (aL7 e).symm
 | dfr=>exact .dfr
 | rarr te es l=>exact .rarr (aD8 l).symm
 | tok r k=>exact .tok (R.ren_id r).symm
inductive Conv (h:cK):List Nat→V→V→Prop
 | refl {v}:Conv h [] v v
 | one {ids r c}:PureL h ids [r] [c]→Conv h ids (.one r) (.one (.c c))
 | agg {ids rs cs}:PureL h ids rs cs→Conv h ids (.ma rs) (.pa cs)
 | pa {ids l cs}:PureL h ids (l.map R.c) cs→Conv h ids (.pa l) (.pa cs)
inductive ArgsV (st:St):List Nat→List Operand→List V→Prop
 | nil:ArgsV st [] [] []
 | cons {ids ids' x xs v v' vs}:opv st x=some v→Conv st.h ids v v'→ArgsV st ids' xs vs→ArgsV st (ids++ids') (x::xs) (v'::vs)
theorem Conv.rel {S:Sto}{μ:Mu}{H H0:cK}{w:World}{ids:List Nat}{v v':V}{u:Value}(h:Conv H0 ids v v') (hi:∀i∈ids,H i=H0 i) (I:∀id o,H id=some o→mW S μ H w id o) (q:aZ S μ H v u):aZ S μ H v' u:=by
 cases h with
 | refl=>exact q
 | @one _ r c h=>
  simp only[aZ,b9] at q ⊢;have:=h.rel hi I (vs:=[u]) (by simp only[aW];exact⟨u,[],rfl,q,rfl⟩);simp only[cB] at this;obtain⟨v,vs',h1,h2,h3⟩:=this;cases h1;exact h2
 | @agg _ rs cs h=>
  simp only[aZ] at q ⊢;obtain⟨vs,h1,h2⟩:=q;exact⟨vs,h1,h.rel hi I h2⟩
 | @pa _ l cs h=>
  simp only[aZ] at q ⊢;obtain⟨vs,h1,h2⟩:=q;exact⟨vs,h1,h.rel hi I h2.toR⟩
def dD:List Operand→List Nat
 | []=>[]
 | x::xs=>opr x++dD xs
theorem ArgsV.rel {G:Ctx}{n:Nat}{S:Sto}{μ:Mu}{st st':St}{a:Act}{w:World}(hs:Sim G n S μ st' a w):∀{ids:List Nat}{xs:List Operand}{vs:List V},ArgsV st ids xs vs→(∀t∈dD xs,st'.e t=st.e t)→(∀i∈ids,st'.h i=st.h i)→bS S μ st'.h vs (xs.map a.eval):=by
 intro ids xs vs h
 induction h with
 | nil=>intro _ _;simp[bS]
 | cons hx hc _ q=>
  intro ht hi;simp only[Al,bS];refine⟨_,_,rfl,?_,q (fun t h=>ht t (by simp[dD,h])) fun i h=>hi i (by simp[h])⟩;exact hc.rel (fun i h=>hi i (by simp[h])) hs.inv.obj (aQ hs hx fun t h=>ht t (by simp[dD,h]))
theorem Inv.hand {G:Ctx}{S:Sto}{μ:Mu}{H:cK}{w:World}{hin:List (Nat×AObj)}(h:Inv G S μ H w) (hh:∀id o,look hin id=some o→H id=some o∧o≠ .dead) (hc:subset (dO hin) (hin.map (·.1))=true):
  Inv ⟨w,S,vF μ (look hin),μ,look hin⟩ S μ (look hin) w:=by
 have I:∀i∈hin.map (·.1),Good H (look hin) (fun i=>i) i:=by
  intro i hi;obtain⟨o,q⟩:=gZ hi;obtain⟨h1,h2⟩:=hh i o q;exact⟨o,o,h1,q,.refl_id h2⟩
 refine⟨h.holds,fun id o q=>?_,fun i j o o' b c c' hi W hm J=>h.inj i j o o' b c c' (hh _ _ hi).1 (hh _ _ W).1 hm J,fun i o b c hi hm=>.inr ⟨i,o,c,hi,hm⟩,FrameW.refl _ _ ⟨h.frame.tabAt,fun g O=>?_⟩,S.le_refl,fun b _ _=>⟨fun _=>rfl,rfl⟩,Evolve.refl _ _ _,h.fre⟩
 ·obtain⟨h1,h2⟩:=hh id o q;exact(h.obj id o h1).ren (.refl_id h2) fun i hi=>I i (bO hc i (kC (c8 q) i hi))
 ·rintro⟨i,o,c,h1,h2⟩;have h3:=(h.frame.tab.1 g O).1
  rcases h.own i o g c (hh i o h1).1 h2 with h4 | h4
  ·omega
  ·exact h.frame.tab.2 g O h4
def outs (l:List (Nat×AObj)):List (Nat×Option AObj):=l.map fun p=>(p.1,some p.2)
theorem aBp:∀(l:List (Nat×AObj)) (i:Nat),look (outs l) i=(look l i).map some
 | [],_=>rfl
 | (k,o)::l,i=>by
  simp only[outs,Al,look];cases Nat.beq i k
  ·have:=aBp l i;unfold outs at this;simpa using this
  ·rfl
theorem lW (H:cK) (l:List (Nat×AObj)) (i:Nat):updL H (outs l) i=match look l i with | some o=>some o | none=>H i:=by
 simp only[updL,aBp];cases look l i<;>rfl
theorem Inv.back {G:Ctx}{S S':Sto}{μ μ':Mu}{H:cK}{w w':World}{hin hout:List (Nat×AObj)}(h:Inv G S μ H w) (hh:∀id o,look hin id=some o→H id=some o)
  (hnew:∀id o,look hout id=some o→(∃o',look hin id=some o')∨H id=none)
  (O:Inv ⟨w,S,vF μ (look hin),μ,look hin⟩ S' μ' (look hout) w'):
  ∃Z:Mu,(∀id o,look hout id=some o→Z id=μ' id)∧Inv G S' Z (updL H (outs hout)) w'∧Evolve S μ H S' Z (updL H (outs hout))∧Evolve S' μ' (look hout) S' Z (updL H (outs hout)):=by
 have hE:Evolve S μ (look hin) S' μ' (look hout):=O.evo
 let Z:Mu:=fun id=>match look hout id with | some _=>μ' id | none=>μ id
 have W:∀id o,look hout id=some o→Z id=μ' id:=fun id o q=>by simp only[Z,q]
 have hμ2:∀id,look hout id=none→Z id=μ id:=fun id q=>by simp only[Z,q]
 have hH1:∀id o,look hout id=some o→updL H (outs hout) id=some o:=fun id o q=>by rw[lW,q]
 have hH2:∀id,look hout id=none→updL H (outs hout) id=H id:=fun id q=>by rw[lW,q]
 have hin_out:∀id o,look hin id=some o→∃o',look hout id=some o':=fun id o q=>by
  obtain⟨o',h1,_⟩:=hE.obj id o q;exact⟨o',h1⟩
 have hE1:Evolve S μ H S' Z (updL H (outs hout)):=by
  refine⟨hE.le,fun id o q=>?_⟩;cases I:look hout id with
  | none=>exact⟨o,by rw[hH2 id I,q],o.succ_refl (hμ2 id I)⟩
  | some o2=>
   rcases hnew id o2 I with⟨o',hi⟩ | hi
   ·have:=hh id o' hi;rw[q] at this;cases this;obtain⟨o3,h1,h2⟩:=hE.obj id o hi;rw[I] at h1;cases h1;exact⟨o2,hH1 id o2 I,by rw[W id o2 I];exact h2⟩
   ·rw[q] at hi;cases hi
 have hE2:Evolve S' μ' (look hout) S' Z (updL H (outs hout)):=⟨S'.le_refl,fun id o q=>⟨o,hH1 id o q,o.succ_refl (W id o q)⟩⟩
 have hrest:∀id o,H id=some o→look hout id=none→∀b c,μ id=some (b,c)→b<w.heap.size∧¬vF μ (look hin) b:=by
  intro id o q I b c hm;refine⟨(h.obj id o q).lt hm,?_⟩;rintro⟨aa,o',c',h1,h2⟩;have:=h.inj id aa o o' b c c' q (hh _ _ h1) hm h2;subst this;obtain⟨o2,h3⟩:=hin_out id o' h1;rw[I] at h3;cases h3
 have ab:∀id o b c,look hout id=some o→μ' id=some (b,c)→w.heap.size≤b∨vF μ (look hin) b:=fun id o b c q hm=>O.own id o b c q hm
 refine⟨Z,W,⟨O.holds,fun id o q=>?_,fun i j o o' b c c' hi hj hm Y=>?_,fun i o b c hi hm=>?_,?_,Sto.le_trans h.sle hE.le,fun b hb hF=>?_,h.evo.trans hE1,O.fre⟩,hE1,hE2⟩
 ·cases I:look hout id with
  | some o2=>
   rw[hH1 id o2 I] at q;cases q;exact(O.obj id _ I).evolve hE2 (W id _ I) fun b c hm=>⟨rfl,fun _=>rfl,rfl⟩
  | none=>
   rw[hH2 id I] at q;refine(h.obj id o q).evolve hE1 (hμ2 id I) fun b c hm=>?_
   obtain⟨h1,h2⟩:=hrest id o q I b c hm;exact⟨O.frame.block b h1 h2,(O.sto b h1 h2).1,(O.sto b h1 h2).2⟩
 ·cases hqi:look hout i with
  | some oi=>
   rw[W i oi hqi] at hm;cases J:look hout j with
   | some oj=>
    rw[W j oj J] at Y;exact O.inj i j oi oj b c c' hqi J hm Y
   | none=>
    rw[hμ2 j J] at Y;rw[hH2 j J] at hj;obtain⟨h1,h2⟩:=hrest j o' hj J b c' Y;rcases ab i oi b c hqi hm with h3 | h3
    ·omega
    ·exact absurd h3 h2
  | none=>
   rw[hμ2 i hqi] at hm;rw[hH2 i hqi] at hi;obtain⟨h1,h2⟩:=hrest i o hi hqi b c hm;cases J:look hout j with
   | some oj=>
    rw[W j oj J] at Y;rcases ab j oj b c' J Y with h3 | h3
    ·omega
    ·exact absurd h3 h2
   | none=>
    rw[hμ2 j J] at Y;rw[hH2 j J] at hj;exact h.inj i j o o' b c c' hi hj hm Y
 ·cases I:look hout i with
  | some o2=>
   rw[W i o2 I] at hm;rcases ab i o2 b c I hm with h3 | ⟨aa,o',c',h3,h4⟩
   ·exact .inl (le_trans h.frame.size h3)
   ·exact h.own aa o' b c' (hh _ _ h3) h4
  | none=>
   rw[hμ2 i I] at hm;rw[hH2 i I] at hi;exact h.own i o b c hi hm
 ·refine⟨O.frame.os.trans h.frame.os,O.frame.tape.trans h.frame.tape,O.frame.output.trans h.frame.output,le_trans h.frame.size O.frame.size,fun k hk hF=>?_,h.frame.tab⟩;rw[O.frame.block k (lt_of_lt_of_le hk h.frame.size) ?_,h.frame.block k hk hF];rintro⟨aa,o',c',h3,h4⟩;rcases h.own aa o' k c' (hh _ _ h3) h4 with h5 | h5
  ·omega
  ·exact hF h5
 ·have hnf:¬vF μ (look hin) b:=by
   rintro⟨aa,o',c',h3,h4⟩;rcases h.own aa o' b c' (hh _ _ h3) h4 with h5 | h5
   ·omega
   ·exact hF h5
  have h1:=O.sto b (lt_of_lt_of_le hb h.frame.size) hnf;have h2:=h.sto b hb hF;exact⟨fun o=>(h1.1 o).trans (h2.1 o),h1.2.trans h2.2⟩
section
variable {P:Program}{n:Nat}{o:Oper}{st:St}{d:Nat}
def keys {α:Type}(l:List (Nat×α)):List Nat:=l.map (·.1)
theorem aBu {w:World}{S:Sto}{F:Nat→Prop}{μ:Mu}{hin:List (Nat×AObj)}:Ctx.keeps ⟨w,S,F,μ,look hin⟩ (keys hin):=
 ⟨fun id o q=>Ad.2 ⟨_,c8 q,rfl⟩,fun h1 h2=>by
  obtain⟨o,q⟩:=gZ h1;rw[show look hin 997=none from h2] at q
  cases q⟩
def AObj.live:AObj→Bool
 | .dead=>false
 | _=>true
def jJ (args:List V) (hin:List (Nat×AObj)):Bool:=subset (V.refsL args) (keys hin)&&subset (dO hin) (keys hin)&&(hin.all fun p=>p.2.live)
theorem Step.call {f:FuncId}{ids I:List Nat}{args:List V}{hin hout:List (Nat×AObj)}{res:V}(hd:o.dst=some d) (Z:d<n) (hf:aU P f args hin res hout)
  (hin':eJ (fun p=>st.h p.1=some p.2) hin) (hout':eJ (fun p=>p.1∈keys hin∨st.h p.1=none) hout) (hok:jJ args hin=true)
  (O:∀st',qN ⟨I,ids++keys hin++keys hout⟩ st st'→∀G S μ a w,Sim G n S μ st' a w→∃vals,(execOp a.eval o).run P w=.ok (.enter f ⟨vals⟩) w∧bS S μ st'.h args vals):
  Step P n o st ⟨I,ids++keys hin++keys hout⟩ ⟨some (d,some res),outs hout⟩:=by
 intro st' ha G S μ a w K Q hs hk;obtain⟨vals,hr,hv⟩:=O st' ha G S μ a w hs;simp only[jJ,ε] at hok;obtain⟨⟨k1,k2⟩,k3⟩:=hok;have hh:∀id o,look hin id=some o→st'.h id=some o∧o≠ .dead:=by
  intro id o q;have hm:=c8 q;have h1:=hin'.mem _ hm;refine⟨by rw[ha.2 id (by simp only[χ];exact .inl (.inr (Ad.2 ⟨_,hm,rfl⟩)))];exact h1,?_⟩;have:=(A5.1 k3) _ hm;rintro rfl;simp[AObj.live] at this
 have W:∀id o,look hout id=some o→(∃o',look hin id=some o')∨st'.h id=none:=by
  intro id o q;have hm:=c8 q;rcases hout'.mem _ hm with h1 | h1
  ·exact .inl (gZ h1)
  ·exact .inr (by rw[ha.2 id (by simp only[χ];exact .inr (Ad.2 ⟨_,hm,rfl⟩))];exact h1)
 have hI:=hs.inv.hand hh k2;have J:∀i∈keys hin,Good st'.h (look hin) (fun i=>i) i:=by
  intro i hi;obtain⟨o,q⟩:=gZ hi;obtain⟨h1,h2⟩:=hh i o q;exact⟨o,o,h1,q,.refl_id h2⟩
 have aa:bS S μ (look hin) args vals:=by
  have:=bS.ren (H:=st'.h) (H':=look hin) (σ:=fun i=>i) args vals (fun i hi=>J i (bO k1 i hi)) (by rw[V.renL_id];exact hv);exact this
 have hc:=hf S μ w vals hI aa;refine fun ro=>xE hr ?_
 refine hc.mono fun e w' ⟨S',μ',v,he,ab,Y⟩=>?_
 subst he;obtain⟨μ2,q1,q2,q3,q4⟩:=hs.inv.back (fun id o q=>(hh id o q).1) W ab;show K (a.put o.dst v) w';rw[hd];refine hk S' μ2 _ _ ?_;exact hs.put q2 q3 Z (x:=some res) fun z hz=>by cases hz;exact aZ.evolve q4 _ _ Y
def jZ (P : Program) (f : FuncId) : Prop := ∃ fn, P.funcs[f]? = some fn ∧ (fn.name == "runtime.NumGoroutine") = false ∧ fn.body.isNone = false
theorem qT {f:FuncId}(hb:jZ P f) (args:Array Value) (w:World):(callFunc f args).run P w=.ok (.enter f args) w:=by
 obtain⟨fn,h1,h2,h3⟩:=hb;have hp:(program:Sem Program).run P w=.ok P w:=rfl;simp only[callFunc,Ag,hp,ω,h1,h2,h3,Bc,B3,Ai]
theorem aMg {f:FuncId}{xs:Array Operand}{ts:Array TypeId}{ids:List Nat}{args:List V}{res:V}(hin hout:List (Nat×AObj)) (hb:jZ P f) (J:o.op=.call { callee:=.value (.func f),args:=xs,argTypes:=ts }) (hd:o.dst=some d) (I:d<n)
  (hf:aU P f args hin res hout) (ha:ArgsV st ids xs.toList args) (hin':eJ (fun p=>st.h p.1=some p.2) hin) (hout':eJ (fun p=>p.1∈keys hin∨st.h p.1=none) hout) (hok:jJ args hin=true):
  Step P n o st ⟨dD xs.toList,ids++keys hin++keys hout⟩ ⟨some (d,some res),outs hout⟩:=by
 refine Step.call hd I hf hin' hout' hok fun st' q G S μ a w hs=>⟨xs.toList.map a.eval,?_,ha.rel hs q.1 fun i h=>q.2 i (by simp[h])⟩
 simp only[execOp,J,resolve,Deferred.ofValue,Act.eval,Ag,Ai,ω,invoke,qT hb];congr 2;apply Array.ext';simp
theorem xY {f:FuncId}{x:Operand}{caps:List R}{xs:Array Operand}{ts:Array TypeId}{ids:List Nat}{args:List V}{res:V}(hin hout:List (Nat×AObj)) (hb:jZ P f) (ho:o.op=.call { callee:=.value x,args:=xs,argTypes:=ts }) (hd:o.dst=some d) (W:d<n)
  (hx:opv st x=some (.one (.clo f caps))) (hf:aU P f (args++caps.map V.one) hin res hout) (ha:ArgsV st ids xs.toList args) (hin':eJ (fun p=>st.h p.1=some p.2) hin) (hout':eJ (fun p=>p.1∈keys hin∨st.h p.1=none) hout) (hok:jJ (args++caps.map V.one) hin=true):
  Step P n o st ⟨opr x++dD xs.toList,ids++keys hin++keys hout⟩ ⟨some (d,some res),outs hout⟩:=by
 refine Step.call hd W hf hin' hout' hok fun st' q G S μ a w hs=>?_
 have Y:=aQ hs hx fun t ht=>q.1 t (by simp[ht])
 simp only[aZ,b9] at Y;obtain⟨vs,h1,h2⟩:=Y;refine⟨xs.toList.map a.eval++vs,?_,?_⟩
 ·simp only[execOp,ho,resolve,h1,Deferred.ofValue,Ag,Ai,ω,invoke,qT hb];congr 2;apply Array.ext';simp
 ·have Z:∀(l:List V) (us:List Value) (rs:List R) (vs:List Value),bS S μ st'.h l us→aW S μ st'.h rs vs→bS S μ st'.h (l++rs.map V.one) (us++vs):=by
   intro l
   induction l with
   | nil=>
    intro us rs vs h k;simp only[bS] at h;subst h;simp only[A4]
    induction rs generalizing vs with
    | nil=>simp only[aW] at k;subst k;simp[bS]
    | cons r rs I=>
     simp only[aW] at k;obtain⟨v,vs',rfl,J,O⟩:=k;simp only[Al,bS];exact⟨v,vs',rfl,by simpa [aZ] using J,I vs' O⟩
   | cons x l I=>
    intro us rs vs h k;simp only[bS] at h;obtain⟨v,vs',rfl,J,O⟩:=h;simp only[A9,bS];exact⟨v,_,rfl,J,I vs' rs vs O k⟩
  exact Z _ _ _ _ (ha.rel hs (fun t ht=>q.1 t (by simp[ht])) fun i h=>q.2 i (by simp[h])) h2
end
theorem Sim.freeze {G:Ctx}{n:Nat}{S:Sto}{μ:Mu}{a:Act}{w:World}{st:St}{id te es:Nat}{elems:List (List C)}{fz:Nat}(h:st.h id=some (.arr te es elems fz)) (hs:Sim G n S μ st a w):∃S' μ',Sim G n S' μ' ⟨st.e,upd st.h id (some (.arr te es elems 2)),st.d⟩ a w:=by
 have hO:=hs.inv.obj id _ h
 have ac:∀S',S.le S'→Evolve S μ st.h S' μ (upd st.h id (some (.arr te es elems 2))):=fun S' hle=>⟨hle,fun j x O=>by
  by_cases I:j=id
  ·subst I;rw[h] at O;cases O;exact⟨_,aI _ _ _,by simp[AObj.succ]⟩
  ·exact⟨x,by rw[aS _ _ _ I];exact O,x.succ_refl rfl⟩⟩
 have hold:∀j x,upd st.h id (some (.arr te es elems 2)) j=some x→∃x',st.h j=some x':=fun j x O=>by
  by_cases I:j=id
  ·subst I;exact⟨_,h⟩
  ·rw[aS _ _ _ I] at O;exact⟨_,O⟩
 obtain⟨h1,h2,h3,h4,h5,h6,h7,h8,ad⟩:=hs.inv;obtain⟨g0,⟨g1,g2⟩ | ⟨b,base,cap,vs,g1,g2,g3,g4,g5,g6,g7,g8,g9⟩⟩:=hO
 ·--no block yet
  have Y:=ac S S.le_refl;refine⟨S,μ,⟨h1,fun j x O=>?_,fun i j x x' b c c' hi O hm aa=>?_,fun i x b c hi hm=>?_,h5,h6,h7,h8.trans Y,ad⟩,hs.size,hs.defers.evolve Y,fun t v e=>aZ.evolve Y v _ (hs.env t v e)⟩
  ·by_cases I:j=id
   ·subst I;have J:some (AObj.arr te es elems 2)=some x:=by rw[←O];exact(aI _ _ _).symm
    cases J;exact⟨g0,.inl ⟨g1,g2⟩⟩
   ·have J:st.h j=some x:=by rw[←O];exact(aS _ _ _ I).symm
    exact(h2 j x J).evolve Y rfl fun _ _ _=>⟨rfl,fun _=>rfl,rfl⟩
  ·obtain⟨_,W⟩:=hold _ _ hi;obtain⟨_,J⟩:=hold _ _ O;exact h3 i j _ _ b c c' W J hm aa
  ·obtain⟨_,W⟩:=hold _ _ hi;exact h4 i _ b c W hm
 ·let S':Sto:=⟨fun q o=>if q=b∧base≤o∧o<base+elems.length*es then vs[o]? else S.cell q o,S.mapo⟩
  have ab:∀o v,S.cell b o=some v→vs[o]?=some v:=fun o v e=>by
   obtain⟨vs0,t0,fr0,p1,p2⟩:=h1.1 b o v e;rw[g2] at p1;cases p1;simpa using p2
  have hle:S.le S':=⟨fun q o v e=>by
   show(if q=b∧base≤o∧o<base+elems.length*es then vs[o]? else S.cell q o)=some v;by_cases hc:q=b∧base≤o∧o<base+elems.length*es
   ·rw[ξ hc];obtain⟨rfl,_⟩:=hc;exact ab o v e
   ·rw[ψ hc];exact e,fun q m e=>⟨m,e,m.le_refl⟩⟩
  have Y:=ac S' hle;have Z:∀q o,q≠b→S'.cell q o=S.cell q o:=fun q o I=>ψ fun hc=>I hc.1
  refine⟨S',μ,⟨⟨fun q o v e=>?_,h1.2⟩,fun j x O=>?_,fun i j x x' b c c' hi O hm aa=>?_,fun i x b c hi hm=>?_,h5,Sto.le_trans h6 hle,fun q hb hF=>?_,h8.trans Y,fun q te' lo hi e o ho=>(Z q o fun eb=>by rw[eb] at e;have e:S.mapo b=_:=e;rw[g5.2] at e;cases e).trans (ad q te' lo hi e o ho)⟩,hs.size,hs.defers.evolve Y,fun t v e=>aZ.evolve Y v _ (hs.env t v e)⟩
  ·by_cases hc:q=b∧base≤o∧o<base+elems.length*es
   ·have e':vs[o]?=some v:=by rw[←e];exact(ξ hc).symm
    obtain⟨rfl,_⟩:=hc;exact⟨⟨vs⟩,te,(0,0),g2,by simpa using e'⟩
   ·have e':S.cell q o=some v:=by rw[←e];exact(ψ hc).symm
    exact h1.1 q o v e'
  ·by_cases I:j=id
   ·subst I;have J:some (AObj.arr te es elems 2)=some x:=by rw[←O];exact(aI _ _ _).symm
    cases J;refine⟨g0,.inr ⟨b,base,cap,vs,g1,g2,g3,g4,g5,cB.mono hle _ _ g6,(fun e=>by cases e),fun o ho=>?_,fun _ i v hi=>?_⟩⟩
    ·show(if b=b∧base≤o∧o<base+elems.length*es then vs[o]? else S.cell b o)=none;rw[ψ (by omega)];exact g8 o ho
    ·rw[Au] at hi;split at hi
     ·rw[An] at hi;show(if b=b∧base≤base+i∧base+i<base+elems.length*es then vs[base+i]? else S.cell b (base+i))=some v;rw[ξ ⟨rfl,by omega,by omega⟩];exact hi
     ·cases hi
   ·have J:st.h j=some x:=by rw[←O];exact(aS _ _ _ I).symm
    refine(h2 j x J).evolve Y rfl fun q c' hm=>⟨rfl,fun o=>Z q o ?_,rfl⟩
    rintro rfl;exact I (h3 j id x _ q c' _ J h hm g1)
  ·obtain⟨_,W⟩:=hold _ _ hi;obtain⟨_,J⟩:=hold _ _ O;exact h3 i j _ _ b c c' W J hm aa
  ·obtain⟨_,W⟩:=hold _ _ hi;exact h4 i _ b c W hm
  ·have I:q≠b:=by
    rintro rfl;rcases h4 id _ q _ h g1 with h9 | h9
    ·omega
    ·exact hF h9
   exact⟨fun o=>(Z q o I).trans ((h7 q hb hF).1 o),(h7 q hb hF).2⟩
theorem Sub.freeze {kf:List Nat}{st:St}{id te es:Nat}{elems:List (List C)}{fz:Nat}(h:st.h id=some (.arr te es elems fz)):Sub kf ⟨st.e,upd st.h id (some (.arr te es elems 2)),st.d⟩ st:=
 fun _ _ _ _ _ _ _ hs=>hs.freeze h
theorem Inv.empty {G:Ctx}{S:Sto}{μ:Mu}{H:cK}{w:World}{id:Nat}(te es:Nat) (h:Inv G S μ H w) (hid:H id=none):Inv G S (upd μ id none) (upd H id (some (.arr te es [] 0))) w∧Evolve S μ H S (upd μ id none) (upd H id (some (.arr te es [] 0))):=by
 have O:Evolve S μ H S (upd μ id none) (upd H id (some (.arr te es [] 0))):=gO hid _ _;refine⟨⟨h.holds,fun j x q=>?_,fun i j x x' b c c' hi q hm I=>?_,fun i x b c hi hm=>?_,h.frame,h.sle,h.sto,h.evo.trans O,h.fre⟩,O⟩
 ·by_cases J:j=id
  ·subst J;rw[aI] at q;cases q;exact⟨by simp,.inl ⟨aI _ _ _,rfl⟩⟩
  ·rw[aS _ _ _ J] at q;exact(h.obj j x q).evolve O (aS _ _ _ J) fun _ _ _=>⟨rfl,fun _=>rfl,rfl⟩
 ·have h1:i≠id:=fun e=>by subst e;rw[aI] at hm;cases hm
  have h2:j≠id:=fun e=>by subst e;rw[aI] at I;cases I
  rw[aS _ _ _ h1] at hi hm;rw[aS _ _ _ h2] at q I;exact h.inj i j x x' b c c' hi q hm I
 ·have h1:i≠id:=fun e=>by subst e;rw[aI] at hm;cases hm
  rw[aS _ _ _ h1] at hi hm;exact h.own i x b c hi hm
theorem Sub.own {kf:List Nat}{st:St}{t id:Nat}(te es:Nat) (h:st.e t=some (.one (.c .nl))) (hid:st.h id=none):Sub kf ⟨upd st.e t (some (.one (.hs id 0 0 0))),upd st.h id (some (.arr te es [] 0)),st.d⟩ st:=by
 intro G n S μ a w _ hs;obtain⟨hi,J⟩:=hs.inv.empty te es hid;refine⟨S,upd μ id none,⟨hi,hs.size,hs.defers.evolve J,fun s v e=>?_⟩⟩;by_cases q:s=t
 ·subst q;have I:=hs.env s _ h;have e':v=.one (.hs id 0 0 0):=by
   have:some v=some (V.one (.hs id 0 0 0)):=by rw[←e];exact aI _ _ _
   cases this;rfl
  subst e';simp only[aZ,b9,Rep] at I ⊢;exact⟨⟨_,_,_,I⟩,.inr ⟨te,es,[],0,aI _ _ _,le_refl _,fun _=>⟨le_refl _,.inl ⟨aI _ _ _,rfl,I⟩⟩⟩⟩
 ·have e':st.e s=some v:=by rw[←e];exact(aS _ _ _ q).symm
  exact aZ.evolve J v _ (hs.env s v e')
theorem Sub.ownCell {kf:List Nat}{st:St}{x k id tv:Nat}{cells:List R}(te es:Nat) (h:st.h x=some (.var tv cells)) (hk:cells[k]?=some (.c .nl)) (hid:st.h id=none):
  Sub kf ⟨st.e,upd (upd st.h id (some (.arr te es [] 0))) x (some (.var tv (cells.set k (.hs id 0 0 0)))),st.d⟩ st:=by
 intro G n S μ a w _ hs;obtain⟨hi,hE⟩:=hs.inv.empty te es hid;have aa:x≠id:=fun e=>by subst e;rw[h] at hid;cases hid
 have hx:upd st.h id (some (.arr te es [] 0)) x=some (.var tv cells):=by rw[aS _ _ _ aa];exact h
 obtain⟨b,vs,g1,g2,g3,g4⟩:=hi.obj x _ hx
 have J:Evolve S (upd μ id none) (upd st.h id (some (.arr te es [] 0))) S (upd μ id none) (upd (upd st.h id (some (.arr te es [] 0))) x (some (.var tv (cells.set k (.hs id 0 0 0))))):=⟨S.le_refl,fun j y I=>by
  by_cases q:j=x
  ·subst q;rw[hx] at I;cases I;exact⟨_,aI _ _ _,by simp[AObj.succ]⟩
  ·exact⟨y,by rw[aS _ _ _ q];exact I,y.succ_refl rfl⟩⟩
 have hold:∀j y,upd (upd st.h id (some (.arr te es [] 0))) x (some (.var tv (cells.set k (.hs id 0 0 0)))) j=some y→∃y',upd st.h id (some (.arr te es [] 0)) j=some y':=fun j y I=>by
  by_cases q:j=x
  ·subst q;exact⟨_,hx⟩
  ·rw[aS _ _ _ q] at I;exact⟨_,I⟩
 refine⟨S,upd μ id none,⟨⟨hi.holds,fun j y I=>?_,fun i j y y' b c c' O I hm hm'=>?_,fun i y b c O hm=>?_,hi.frame,hi.sle,hi.sto,hi.evo.trans J,hi.fre⟩,hs.size,hs.defers.evolve (hE.trans J),fun s v e=>aZ.evolve (hE.trans J) v _ (hs.env s v e)⟩⟩
 ·by_cases q:j=x
  ·subst q;have W:some (AObj.var tv (cells.set k (.hs id 0 0 0)))=some y:=by rw[←I];exact(aI _ _ _).symm
   cases W;refine⟨b,vs,g1,g2,?_,g4⟩;have h3:=aW.evolve J _ _ g3;obtain⟨u,hu,Y⟩:=g3.get k _ hk;simp only[b9,Rep] at Y;have hkl:k<cells.length:=(τ.1 hk).1
   have Z:cells.set k (.hs id 0 0 0)=bX cells k [.hs id 0 0 0]:=by
    unfold bX;rw[Cj,ξ hkl];simp
   have hvl:=g3.length;have hvs:vs=bX vs k [u]:=by
    unfold bX;apply Bx;intro i;simp only[B6,Ab,At,Am,length_nil,Au,An];have hm:min k vs.length=k:=by omega
    rw[hm];by_cases c1:i<k
    ·simp[c1,show i<k+1 by omega]
    ·by_cases c2:i=k
     ·subst c2;simp[hu]
     ·simp[show ¬i<k+1 by omega,show k+1+(i-(k+1))=i by omega]
   rw[Z] at h3 ⊢;rw[hvs];refine pW h3 ?_;simp only[aW,b9];exact⟨u,[],rfl,⟨⟨_,_,_,Y⟩,.inr ⟨te,es,[],0,by rw[aS _ _ _ aa.symm];exact aI _ _ _,le_refl _,fun _=>⟨le_refl _,.inl ⟨aI _ _ _,rfl,Y⟩⟩⟩⟩,rfl⟩
  ·have W:upd st.h id (some (.arr te es [] 0)) j=some y:=by rw[←I];exact(aS _ _ _ q).symm
   exact(hi.obj j y W).evolve J rfl fun _ _ _=>⟨rfl,fun _=>rfl,rfl⟩
 ·obtain⟨_,h1⟩:=hold _ _ O;obtain⟨_,h2⟩:=hold _ _ I;exact hi.inj i j _ _ b c c' h1 h2 hm hm'
 ·obtain⟨_,h1⟩:=hold _ _ O;exact hi.own i _ b c h1 hm
def aZn:Nat→List V→List (Nat×V)
 | _,[]=>[]
 | k,v::vs=>(k,v)::aZn (k+1) vs
inductive ResV (T:TT) (st:St):List ResultVar→List V→Prop
 | nil:ResV T st [] []
 | tmp {t v rs vs}:st.e t=some v→ResV T st rs vs→ResV T st (.tmp t::rs) (v::vs)
 | cell {a t i id off tv cells v rs vs}:st.e a=some (.one (.vp id off))→T[t]?=some (some i)→st.h id=some (.var tv cells)→Nat.ble (off+i.size) cells.length=true→rB i ((cells.drop off).take i.size)=some v→ResV T st rs vs→
   ResV T st (.cell a t::rs) (v::vs)
inductive Convs (h:cK):List V→List V→Prop
 | nil:Convs h [] []
 | cons {ids v v' vs vs'}:Conv h ids v v'→Convs h vs vs'→Convs h (v::vs) (v'::vs')
def aUi:List Value→Value
 | [u]=>u
 | us=>.tuple ⟨us⟩
def aUh:List V→V
 | [v]=>v
 | vs=>.tup vs
theorem Convs.rel {S:Sto}{μ:Mu}{H:cK}{w:World}:∀{vs vs':List V}{us:List Value},Convs H vs vs'→(∀id o,H id=some o→mW S μ H w id o)→bS S μ H vs us→bS S μ H vs' us:=by
 intro vs vs' us h
 induction h generalizing us with
 | nil=>intro _ q;exact q
 | cons hc _ O=>
  intro I q;simp only[bS] at q ⊢;obtain⟨v,J,rfl,h1,h2⟩:=q;exact⟨v,J,rfl,hc.rel (fun _ _=>rfl) I h1,O I h2⟩
section
variable {P:Program}{T:TT}
theorem r9 {G:Ctx}{n:Nat}{S:Sto}{μ:Mu}{st:St}{a:Act}{w:World}(Y:Tok P T) (hs:Sim G n S μ st a w):∀{rs:List ResultVar}{vs:List V},ResV T st rs vs→
  ∃us,(rs.mapM fun(x:ResultVar)=>(match x with | .tmp t=>pure (a.tmps.getD t undef) | .cell p t=>do loadVar t (←asAddr (a.tmps.getD p undef)):Sem Value)).run P w=.ok us w∧bS S μ st.h vs us:=by
 intro rs vs h
 induction h with
 | nil=>exact⟨[],by simp,by simp[bS]⟩
 | @tmp t v rs vs ht _ J=>
  obtain⟨us,h1,h2⟩:=J;refine⟨a.tmps.getD t undef::us,?_,?_⟩
  ·simp only[List.mapM_cons,Ag,Ai,ω,h1]
  ·simp only[bS];exact⟨_,_,rfl,hs.env _ _ ht,h2⟩
 | @cell p t i id off tv cells v rs vs ht hi hh hb hl _ J=>
  obtain⟨us,h1,h2⟩:=J;have O:=hs.env _ _ ht;simp only[aZ,b9] at O;obtain⟨t',cells',b,c,g1,g2,g3⟩:=O;obtain⟨b',ws,Z,q2,W,q4⟩:=hs.inv.obj id _ hh;rw[Z] at g2;cases g2;have hlen:=Aq hb;have hvl:=W.length;have q:=run_load (Y.get hi) w b off _ (kW q2 off i.size) (a6b (by omega));have I:=mJ ((W.drop off).take i.size) hl;generalize (if i.k.agg then Value.agg ⟨(ws.drop off).take i.size⟩ else((ws.drop off).take i.size).headD undef)=u at q I;refine⟨u::us,?_,by simp only[bS];exact⟨_,_,rfl,I,h2⟩⟩
  ·simp only[Instr.loadAt,Instr.sureAddr,Ag,Ai,ω] at q;have hA:(asAddr (a.tmps.getD p undef)).run P w=.ok ⟨b,off,none⟩ w:=by rw[g3];rfl
   simp only[List.mapM_cons,Ag,Ai,ω,hA,q,h1]
theorem aD4 {G:Ctx}{n:Nat}{S:Sto}{μ:Mu}{st:St}{a:Act}{w:World}{fn:Func}{vs:List V}(q:Tok P T) (hs:Sim G n S μ st a w) (h:ResV T st fn.results.toList vs):
  ∃us,(results fn a.tmps).run P w=.ok (aUi us) w∧bS S μ st.h vs us:=by
 obtain⟨us,h1,h2⟩:=r9 q hs h;refine⟨us,?_,h2⟩;unfold results;rw[Array.mapM_eq_mapM_toList,Ag,Sem.run_map]
 erw [h1]
 simp only[ω,Ai];congr 1
 match us with
 | []=>simp[aUi]
 | [u]=>simp[aUi]
 | u::I::us=>simp[aUi]
def AObj.plain:AObj→Bool
 | .dfr=>false
 | _=>true
theorem aRm {o:AObj}{p:Prop}(h:o.succ p .dfr):o=.dfr:=by cases o<;>simp only[AObj.succ] at h;rfl
theorem Sim.take {P:Program}{G:Ctx}{n:Nat}{S:Sto}{μ:Mu}{st:St}{a:Act}{w:World}{id:Nat}{ids:List Nat}(hs:Sim G n S μ st a w) (hd:st.d=id::ids) (hG:∀id,G.h0 id≠some .dfr):
  ∃b Z w',a.defers={ target:=.collected b,args:= #[] }::Z∧(Instr.takeDeferred b).run P w=.ok [] w'∧Sim G n S μ ⟨st.e,upd st.h id none,ids⟩ { a with defers:=Z } w':=by
 have hm:=hs.defers;rw[hd] at hm;obtain⟨b,c,Z,h1,h2,h3,h4,h5,h6⟩:=hm;obtain⟨W,g1,g2,g3,g4⟩:=hs.inv.obj _ _ h3;rw[h2] at g1;cases g1;have hlt:b<w.heap.size:=(Array.getElem?_eq_some_iff.1 g2).1
 have aa:∀j,upd st.h id none j=none∨j≠id:=fun j=>by
  by_cases q:j=id
  ·exact .inl (by rw[q,aI])
  ·exact .inr q
 have aQx:∀{j o},upd st.h id none j=some o→j≠id∧st.h j=some o:=by
  intro j o q;rcases aa j with h | h
  ·rw[h] at q;cases q
  ·exact⟨h,by rwa [aS _ _ _ h] at q⟩
 have hE:Evo0 S μ st.h S μ (upd st.h id none):=⟨S.le_refl,fun j o q ho=>by
  have I:j≠id:=by rintro rfl;rw[h3] at q;cases q;exact ho rfl
  exact⟨o,by rw[aS _ _ _ I];exact q,o.succ_refl rfl⟩⟩
 refine⟨b,Z,w.putObj b (.deferred none),h1,run_takeDeferred g2,⟨⟨⟨fun W o v e=>?_,fun W mk e=>?_⟩,fun j o q=>?_,fun i j o o' Y c1 c2 hi q m1 m2=>?_,fun i o Y c1 hi m1=>?_,?_,hs.inv.sle,hs.inv.sto,⟨hs.inv.evo.le,fun j o q=>?_⟩,hs.inv.fre⟩,hs.size,?_,fun t v e=>aZ.evolve0 hE _ _ (hs.env t v e)⟩⟩
 ·obtain⟨vs,t,fr,J,O⟩:=hs.inv.holds.1 W o v e;have:W≠b:=by rintro rfl;rw[g3] at e;cases e
  exact⟨vs,t,fr,by rw[World.putObj_heap_other this];exact J,O⟩
 ·have:W≠b:=by rintro rfl;rw[g4] at e;cases e
  rw[World.putObj_heap_other this];exact hs.inv.holds.2 W mk e
 ·obtain⟨J,O⟩:=aQx q;refine(hs.inv.obj j o O).evolve0 hE rfl fun Y c1 m1=>⟨World.putObj_heap_other ?_,fun _=>rfl,rfl⟩
  rintro rfl;exact J (hs.inv.inj j id o .dfr Y c1 _ O h3 m1 h2)
 ·exact hs.inv.inj i j o o' Y c1 c2 (aQx hi).2 (aQx q).2 m1 m2
 ·exact hs.inv.own i o Y c1 (aQx hi).2 m1
 ·obtain⟨f1,f2,f3,f4,f5,f6⟩:=hs.inv.frame;refine⟨f1,f2,f3,by simpa using f4,fun k hk hF=>?_,f6⟩;rw[World.putObj_heap_other (by omega)];exact f5 k hk hF
 ·obtain⟨o',J,O⟩:=hs.inv.evo.obj j o q;have I:j≠id:=by
   rintro rfl;rw[h3] at J;cases J;rw[aRm O] at q;exact hG _ q
  exact⟨o',by show upd st.h id none j=some o';rw[aS _ _ _ I];exact J,O⟩
 ·exact h6.go fun j q hjd=>⟨rfl,by
   have I:j≠id:=by rintro rfl;exact h5 q
   show upd st.h id none j=some .dfr
   rw[aS _ _ _ I];exact hjd⟩
theorem Sim.leave {P:Program}{fn:Func}{R:Ending→World→Prop}{G:Ctx}{n:Nat}{S:Sto}{μ:Mu}(O:∀id,G.h0 id≠some .dfr):∀(ids:List Nat) {e:Nat→Option V}{h:cK}{a:Act}{w:World},Sim G n S μ ⟨e,h,ids⟩ a w→
  (∀q w',(∀id o,h id=some o→o≠ .dfr→q id=some o)→Sim G n S μ ⟨e,q,[]⟩ { a with defers:=[] } w'→∃v,(results fn a.tmps).run P w'=.ok v w'∧R (.returned v) w')→
  LeavesInM (Wd none) 0 P fn a.tmps R a.defers .returning w
 | [],e,h,a,w,hs,hk=>by
  have hd:a.defers=[]:=hs.defers;rw[hd];refine hk h w (fun _ _ h _=>h) ?_;obtain⟨h1,h2,h3,h4⟩:=hs;exact⟨h1,h2,rfl,h4⟩
 | id::ids,e,h,a,w,hs,hk=>by
  have h3:h id=some .dfr:=by
   obtain⟨b,c,ds',q1,q2,q3,_⟩:=hs.defers;exact q3
  obtain⟨b,ds,w',h1,h2,W⟩:=hs.take (P:=P) rfl O;rw[h1];refine⟨by simp,.inl ⟨b,w',rfl,h2,?_⟩⟩;refine Sim.leave O ids (a:={ a with defers:=ds }) W fun q Y hh I=>hk q Y (fun j o J Z=>hh j o ?_ Z) I
  have aa:j≠id:=by rintro rfl;rw[h3] at J;cases J;exact Z rfl
  rw[aS _ _ _ aa];exact J
structure Fin (T:TT) (fn:Func) (st:St) (hin:List (Nat×AObj)) (res:V) (hout:List (Nat×AObj)):Prop where
 ex:∃vs vs',ResV T st fn.results.toList vs∧Convs st.h vs vs'∧aUh vs'=res
 out:eJ (fun p=>∃o,st.h p.1=some o∧Ole (fun i=>i) o p.2) hout
 ok:(subset res.refs (keys hout)&&subset (dO hout) (keys hout)&&distinct (keys hout)&&subset (keys hin) (keys hout)&&(hin.all fun p=>p.2.plain)&&(hout.all fun p=>p.2.plain))=true
theorem ResV.keep {st:St}{I:cK}{d:List Nat}(hh:∀id o,st.h id=some o→o≠ .dfr→I id=some o):∀{rs:List ResultVar}{vs:List V},ResV T st rs vs→ResV T ⟨st.e,I,d⟩ rs vs:=by
 intro rs vs h
 induction h with
 | nil=>exact .nil
 | tmp h1 _ q=>exact .tmp h1 q
 | cell h1 h2 h3 h4 h5 _ q=>exact .cell h1 h2 (hh _ _ h3 (by simp)) h4 h5 q
theorem PureL.keep {h I:cK}(hh:∀id o,h id=some o→o≠ .dfr→I id=some o):∀{ids:List Nat}{rs:List R}{cs:List C},PureL h ids rs cs→PureL I ids rs cs:=by
 intro ids rs cs k
 induction k with
 | nil=>exact .nil
 | c h1 _ q=>exact .c h1 q
 | hs h1 h2 h3 _ q=>exact .hs (hh _ _ h1 (by simp)) h2 h3 q
 | any _ q=>exact .any q
 | fn _ q=>exact .fn q
 | ras h0 _ h1 h2 h3 _ J q=>exact .ras h0 J h1 h2 h3 q
theorem Convs.keep {h q:cK}(hh:∀id o,h id=some o→o≠ .dfr→q id=some o):∀{vs vs':List V},Convs h vs vs'→Convs q vs vs':=by
 intro vs vs' k
 induction k with
 | nil=>exact .nil
 | @cons ids v v' vs vs' h1 _ I=>
  refine .cons (ids:=ids) ?_ I;cases h1 with
  | refl=>exact .refl
  | one h=>exact .one (h.keep hh)
  | agg h=>exact .agg (h.keep hh)
  | pa h=>exact .pa (h.keep hh)
theorem a5y {X:Sto→Prop}{kf:List Nat}{f:FuncId}{fn:Func}{c:Code}{n:Nat}{args:List V}{hin hout:List (Nat×AObj)}{res:V}(hX:∀S μ w,X S→Ctx.keeps ⟨w,S,vF μ (look hin),μ,look hin⟩ kf) (hT:Tok P T) (hf:P.funcs[f]?=some fn) (hb:fn.body=some c) (hn:fn.ntmps=n) (hle:Nat.ble args.length n=true)
  (h:AWp none P n kf c (mk (aZn 0 args) hin) (fun ex st=>(ex=.normal∨ex=.ret)∧Fin T fn st hin res hout)):∀S μ w vals,X S→Inv ⟨w,S,vF μ (look hin),μ,look hin⟩ S μ (look hin) w→bS S μ (look hin) args vals→
  Calls P f ⟨vals⟩ w fun e w'=>∃S' μ' v,e=.returned v∧Inv ⟨w,S,vF μ (look hin),μ,look hin⟩ S' μ' (look hout) w'∧aZ S' μ' (look hout) res v:=by
 intro S μ w vals hXS hI hv;refine(Wd.calls (ro:=none) (n:=0)).1 (callsIn_of_wp_marks hf hb trivial ?_);have hvl:∀(l:List V) (us:List Value),bS S μ (look hin) l us→us.length=l.length:=by
  intro l
  induction l with
  | nil=>intro us h;simp only[bS] at h;subst h;rfl
  | cons x l Z=>
   intro us h;simp only[bS] at h;obtain⟨v,vs',rfl,_,h2⟩:=h;simp[Z _ h2]
 have hvals:=hvl _ _ hv;have hle':=Aq hle;have ac:=hX S μ w hXS;refine h ⟨w,S,vF μ (look hin),μ,look hin⟩ S μ _ w _ ⟨ac,trivial⟩ ⟨hI,by simp;omega,rfl,fun t v ht=>?_⟩ ?_
 ·have key:∀(l:List V) (us:List Value) (k:Nat),bS S μ (look hin) l us→look (aZn k l) t=some v→∃j,t=k+j∧∃u,us[j]?=some u∧aZ S μ (look hin) v u:=by
   intro l
   induction l with
   | nil=>intro us k _ h;simp[aZn,look] at h
   | cons x l Z=>
    intro us k Y hl;simp only[bS] at Y;obtain⟨u,aa,rfl,h1,h2⟩:=Y;simp only[aZn,look] at hl;split at hl
    ·rename_i hbq;cases hl;exact⟨0,by rw[Ac hbq];rfl,u,rfl,h1⟩
    ·obtain⟨j,h3,u',h4,h5⟩:=Z aa (k+1) h2 hl;exact⟨j+1,by omega,u',by simpa using h4,h5⟩
  obtain⟨j,h1,u,h2,h3⟩:=key args vals 0 hv ht;rw[Ba] at h1;subst h1;have hj:t<vals.length:=(τ.1 h2).1
  have:((⟨vals⟩:Array Value)++Array.replicate (fn.ntmps-(⟨vals⟩:Array Value).size) undef).getD t undef=u:=by
   rw[A7,Array.getElem?_append_left (by simpa using hj)];simp[h2]
  show aZ S μ (look hin) v (((⟨vals⟩:Array Value)++Array.replicate (fn.ntmps-(⟨vals⟩:Array Value).size) undef).getD t undef);rw[this];exact h3
 ·intro ex st' S' μ' a' w' ⟨hex,hfin⟩ hs;obtain⟨⟨vs,vs',Y,hc,hres⟩,hout',hok⟩:=hfin;simp only[ε] at hok;obtain⟨⟨⟨⟨⟨k1,k2⟩,k3⟩,k4⟩,k5⟩,k6⟩:=hok;have O:LeavesInM (Wd none) 0 P fn a'.tmps (fun e w'=>∃S' μ' v,e=.returned v∧Inv ⟨w,S,vF μ (look hin),μ,look hin⟩ S' μ' (look hout) w'∧aZ S' μ' (look hout) res v) a'.defers .returning w':=by
   refine Sim.leave (G:=⟨w,S,vF μ (look hin),μ,look hin⟩) (n:=n) (S:=S') (μ:=μ') (fun id e=>?_) st'.d (e:=st'.e) (h:=st'.h) hs fun W w'' hh hs=>?_
   ·have:=(A5.1 k5) _ (c8 (show look hin id=some .dfr from e));cases this
   have Y:ResV T ⟨st'.e,W,[]⟩ fn.results.toList vs:=ResV.keep (fun id o I ab=>hh id o I ab) Y;have hc:Convs W vs vs':=hc.keep fun id o I ab=>hh id o I ab
   have hout':eJ (fun p=>∃o,W p.1=some o∧Ole (fun i=>i) o p.2) hout:=by
    have hk:∀l:List (Nat×AObj),(∀p∈l,p∈hout)→eJ (fun p=>∃o,W p.1=some o∧Ole (fun i=>i) o p.2) l:=by
     intro l
     induction l with
     | nil=>intro _;trivial
     | cons p l Z=>
      intro hl;refine⟨?_,Z fun q hq=>hl q (by simp[hq])⟩;obtain⟨o,g1,g2⟩:=hout'.mem p (hl p (by simp));refine⟨o,hh _ _ g1 ?_,g2⟩;rintro rfl;have hp:=(A5.1 k6) p (hl p (by simp));cases hq:p.2<;>rw[hq] at g2 hp<;>cases g2;cases hp
    exact hk hout fun p hp=>hp
   obtain⟨us,h1,h2⟩:=aD4 hT hs Y;refine⟨_,h1,?_⟩;have h3:=hc.rel hs.inv.obj h2;have J:∀i∈keys hout,Good W (look hout) (fun i=>i) i:=by
    intro i hi;obtain⟨o',ad⟩:=gZ hi;obtain⟨o,g1,g2⟩:=hout'.mem _ (c8 ad);exact⟨o,o',g1,ad,g2⟩
   have hv4:aZ S' μ' W res (aUi us):=by
    rw[←hres]
    match vs',us,h3 with
    | [],us,h3=>simp only[bS] at h3;subst h3;simp[aUh,aUi,aZ,bS]
    | [v],us,h3=>
     simp only[bS] at h3;obtain⟨u,aa,rfl,h5,rfl⟩:=h3;exact h5
    | v::v'::l,us,h3=>
     have h3':=h3;simp only[bS] at h3';obtain⟨u,aa,rfl,_,u',us'',rfl,_,_⟩:=h3';simp only[aUh,aUi,aZ];exact⟨_,rfl,h3⟩
   have hI':Inv ⟨w,S,vF μ (look hin),μ,look hin⟩ S' μ' (look hout) w'':=by
    refine⟨hs.inv.holds,fun id o I=>?_,fun i j o o' b c c' hi hj hm hm'=>?_,fun i o b c hi hm=>?_,hs.inv.frame,hs.inv.sle,hs.inv.sto,⟨hs.inv.evo.le,fun id o I=>?_⟩,hs.inv.fre⟩
    ·obtain⟨o1,g1,g2⟩:=hout'.mem _ (c8 I);exact(hs.inv.obj _ _ g1).ren g2 fun i hi=>J i (bO k2 i (kC (c8 I) i hi))
    ·obtain⟨o1,g1,g2⟩:=hout'.mem _ (c8 hi);obtain⟨o2,g3,g4⟩:=hout'.mem _ (c8 hj);exact hs.inv.inj _ _ _ _ b c c' g1 g3 hm hm'
    ·obtain⟨o1,g1,g2⟩:=hout'.mem _ (c8 hi);exact hs.inv.own _ _ b c g1 hm
    ·obtain⟨o',(g1:W id=some o'),g2⟩:=hs.inv.evo.obj id o I;have hk:id∈keys hin:=Ad.2 ⟨_,c8 (show look hin id=some o from I),rfl⟩;obtain⟨o1,o2,g3,g4,g5⟩:=J id (bO k4 id hk);rw[g1] at g3;cases g3;exact⟨o2,g4,AObj.succ_trans g2 g5.succ fun e _=>e⟩
   have hR:aZ S' μ' (look hout) res (aUi us):=by
    have:=aZ.ren (H:=W) (H':=look hout) (σ:=fun i=>i) res _ (fun i hi=>J i (bO k1 i hi)) (by rw[V.ren_id];exact hv4);exact this
   exact⟨S',μ',_,rfl,hI',hR⟩
  rcases hex with rfl | rfl
  ·exact O
  ·exact O
end
section
variable {P:Program}{T:TT}
theorem bL {f:FuncId}{fn:Func}{c:Code}{n:Nat}{args:List V}{hin hout:List (Nat×AObj)}{res:V}(q:Tok P T) (hf:P.funcs[f]?=some fn) (hb:fn.body=some c) (hn:fn.ntmps=n) (hle:Nat.ble args.length n=true)
  (h:AWp none P n (keys hin) c (mk (aZn 0 args) hin) (fun ex st=>(ex=.normal∨ex=.ret)∧Fin T fn st hin res hout)):aU P f args hin res hout:=
 fun S μ w vals I J=>a5y (X:=fun _=>True) (fun _ _ _ _=>aBu) q hf hb hn hle h S μ w vals trivial I J
end
def k9 (P:Program) (n:Nat) (ops:Array Oper) (draw:Bool) (k:Nat) (st:St) (pre:REs) (Q:St→Prop):Prop:=
 ∃xs st',Run P n ops k st xs st'∧Nat.beq (k+xs.length) ops.size=true∧(!draw || (fP (pZ ops) (pre.reverse++xs) []&&iX ops))=true∧Q st'
section
variable {ro:Option Nat}{P:Program}{n:Nat}{ops:Array Oper}{draw:Bool}{k:Nat}{st:St}{pre:REs}{Q:St→Prop}
theorem k_ {rd:Rd}{f:Eff}(h:GStep P n ops k st rd f) (hk:k9 P n ops draw (k+1) (f.apply st) ((rd,f)::pre) Q):k9 P n ops draw k st pre Q:=by
 obtain⟨xs,st',h1,h2,h3,h4⟩:=hk;refine⟨(rd,f)::xs,st',.cons h h1,?_,?_,h4⟩
 ·rw[Am,show k+(xs.length+1)=k+1+xs.length by omega];exact h2
 ·rw[List.reverse_cons,A0] at h3;exact h3
theorem z_ (h1:Nat.beq k ops.size=true) (h2:(!draw || (fP (pZ ops) pre.reverse []&&iX ops))=true) (q:Q st):k9 P n ops draw k st pre Q:=
 ⟨[],st,.nil,h1,by rw[A8];exact h2,q⟩
theorem aE {kf:List Nat}{id:Nat}{Q:Exit→St→Prop}(hm:P.follows .mixedOrders=true) (h:k9 P n ops draw 0 st [] (fun st'=>Q .normal st')):AWp ro P n kf (.region id ops draw) st Q:=by
 obtain⟨xs,st',h1,h2,h4,h3⟩:=h;rw[Ba] at h2;exact x4 hm h1 h2 h4 h3
theorem aZj {kf:List Nat}{id:Nat}{Q:Exit→St→Prop}(st2:St) (hm:P.follows .mixedOrders=true) (h:k9 P n ops draw 0 st [] (fun st'=>Sub kf st2 st')) (q:Q .normal st2):AWp ro P n kf (.region id ops draw) st Q:=by
 obtain⟨xs,st',h1,h2,h4,h3⟩:=h;rw[Ba] at h2;refine AWp.post (Q:=fun ex s=>ex=.normal∧Sub kf st2 s) (x4 hm h1 h2 h4 ⟨rfl,h3⟩) ?_;rintro ex s ⟨rfl,hs⟩;exact⟨st2,hs,q⟩
theorem g_ {i:Nat}{o:Oper}{rd:Rd}{f:Eff}(q:ops[i]?=some o) (I:o.guard=none) (h:Step P n o st rd f):GStep P n ops i st rd f:=GStep.plain q I h
theorem AWp.cut {kf:List Nat}{c:Code}{Q:Exit→St→Prop}(st2:St) (h:AWp ro P n kf c st (fun ex s=>match ex with | .normal=>Sub kf st2 s | ex=>Q ex s)) (q:Q .normal st2):AWp ro P n kf c st Q:=by
 refine AWp.post h ?_;intro ex s hs;cases ex with
 | normal=>exact⟨st2,hs,q⟩
 | _=>exact⟨s,Sub.refl _ _,hs⟩
end
section
variable {P:Program}{n:Nat}{o:Oper}{st:St}{d:Nat}{T:TT}
theorem a1u {J ty:TypeId}{x y:Operand}{a b:Int}(O:o.op=.binOp .add J x y ty) (hd:o.dst=some d) (q:d<n) (hx:opv st x=some (I .i64 a)) (W:opv st y=some (I .i64 b)) (Y: -9223372036854775808≤a+b∧a+b≤9223372036854775807):
  Step P n o st ⟨opr x++opr y,[]⟩ ⟨some (d,some (I .i64 (a+b))),[]⟩:=aR6 O hd q hx W (Cs _ Y)
theorem a1b {J ty:TypeId}{x y:Operand}{a b:Int}(O:o.op=.binOp .sub J x y ty) (hd:o.dst=some d) (q:d<n) (hx:opv st x=some (I .i64 a)) (W:opv st y=some (I .i64 b)) (Y: -9223372036854775808≤a-b∧a-b≤9223372036854775807):
  Step P n o st ⟨opr x++opr y,[]⟩ ⟨some (d,some (I .i64 (a-b))),[]⟩:=aRv O hd q hx W (Cs _ Y)
theorem a1o {J ty:TypeId}{x y:Operand}{a b:Int}(O:o.op=.binOp .mul J x y ty) (hd:o.dst=some d) (q:d<n) (hx:opv st x=some (I .i64 a)) (W:opv st y=some (I .i64 b)) (Y: -9223372036854775808≤a*b∧a*b≤9223372036854775807):
  Step P n o st ⟨opr x++opr y,[]⟩ ⟨some (d,some (I .i64 (a*b))),[]⟩:=aR0 O hd q hx W (Cs _ Y)
theorem aUt {O ty:TypeId}{x y:Operand}{a b:Int}(W:o.op=.binOp .quo O x y ty) (hd:o.dst=some d) (J:d<n) (hx:opv st x=some (I .i64 a)) (Y:opv st y=some (I .i64 b)) (q:0≤a∧a≤9223372036854775807∧1≤b):
  Step P n o st ⟨opr x++opr y,[]⟩ ⟨some (d,some (I .i64 (a/b))),[]⟩:=a1k W hd J hx Y (by omega) (by
   have h1:a.tdiv b=a/b:=Int.tdiv_eq_ediv_of_nonneg q.1;rw[h1];refine Cs _ ⟨?_,?_⟩
   ·have:=Int.ediv_nonneg q.1 (show(0:Int)≤b by omega);omega
   ·have:=Int.ediv_le_self b q.1;omega)
theorem aUs {J ty:TypeId}{x y:Operand}{k:IntKind}{a b:Int}(O:o.op=.binOp .rem J x y ty) (hd:o.dst=some d) (q:d<n) (hx:opv st x=some (I k a)) (W:opv st y=some (I k b)) (Y:0≤a∧1≤b):
  Step P n o st ⟨opr x++opr y,[]⟩ ⟨some (d,some (I k (a%b))),[]⟩:=a1i O hd q hx W (by omega) (Int.tmod_eq_emod_of_nonneg Y.1)
theorem gD (op:BinOp) (t:TypeId) (x y:Operand) (u v:Value) (w:World) (h1:(match u with | .agg _=>true | .nilIface=>true | _=>false)=false):(eqGuard op t x y u v).run P w=.ok () w:=by
 unfold eqGuard;cases u<;>simp at h1<;>(split<;>rfl)
theorem vQ {t:TypeId}(hu:P.underlying t=some .bool) (d:Nat) (a b:Bool) (w:World):(Op.equalIn (d+1) t (.bool a) (.bool b)).run P w=.ok (a==b) w:=by
 simp only[Op.equalIn,Ag,Ap hu w,ω,Ai]
theorem aAt {t e:TypeId}(hu:P.underlying t=some (.pointer e)) (d:Nat) (p:Option Addr) (w:World):(Op.equalIn (d+1) t (.pointer p) (.pointer none)).run P w=.ok p.isNone w:=by
 cases p<;>simp only[Op.equalIn,Ag,Ap hu w,ω,Ai]<;>rfl
theorem aRr {t e:TypeId}(hu:P.underlying t=some (.slice e)) (d:Nat) (p:Option Addr) (l c:Nat) (w:World):(Op.equalIn (d+1) t (.slice p l c) (.slice none 0 0)).run P w=.ok p.isNone w:=by
 cases p<;>simp only[Op.equalIn,Ag,Ap hu w,ω,Ai]<;>rfl
theorem aD5 {q ty:TypeId}{x y:Operand}{a:Act}{w:World}{u v:Value}{b:Bool}(J:o.op=.binOp .eql q x y ty) (hx:a.eval x=u) (O:a.eval y=v) (W:(eqGuard .eql q x y u v).run P w=.ok () w)
  (hb:binOp .eql q u v=(do pure (.bool (←Op.equal q u v)))) (Y:(Op.equalIn (9999+1) q u v).run P w=.ok b w):(execOp a.eval o).run P w=.ok (.value (.bool b)) w:=by
 have I:(Op.equal q u v).run P w=.ok b w:=Y;simp only[execOp,J,hx,O,Ag,W,ω,hb,I,Ai]
theorem xS {q ty:TypeId}{x y:Operand}{a:Act}{w:World}{u v:Value}{b:Bool}(J:o.op=.binOp .neq q x y ty) (hx:a.eval x=u) (O:a.eval y=v) (W:(eqGuard .neq q x y u v).run P w=.ok () w)
  (hb:binOp .neq q u v=(do pure (.bool (!(←Op.equal q u v))))) (Y:(Op.equalIn (9999+1) q u v).run P w=.ok b w):(execOp a.eval o).run P w=.ok (.value (.bool (!b))) w:=by
 have I:(Op.equal q u v).run P w=.ok b w:=Y;simp only[execOp,J,hx,O,Ag,W,ω,hb,I,Ai]
theorem a1s {q ty:TypeId}{i:TI}{x y:Operand}{a b:Bool}(J:Tok P T) (O:o.op=.binOp .eql q x y ty) (hd:o.dst=some d) (I:d<n) (hi:T[q]?=some (some i)) (hk:i.k=.bool) (hx:opv st x=some (B a)) (W:opv st y=some (B b)):
  Step P n o st ⟨opr x++opr y,[]⟩ ⟨some (d,some (B (a==b))),[]⟩:=by
 refine Step.value hd I fun _ ha _ _ _ ac w hs=>?_
 have h1:=jQ (aQ hs hx (eI ha).1);have h2:=jQ (aQ hs W (eI ha).2);exact⟨.bool (a==b),aD5 O h1 h2 (gD _ _ _ _ _ _ _ rfl) rfl (vQ ((J.get hi).bool hk) _ _ _ _),by simp[aZ,b9,Rep]⟩
theorem a1r {q ty:TypeId}{i:TI}{x y:Operand}{a b:Bool}(J:Tok P T) (O:o.op=.binOp .neq q x y ty) (hd:o.dst=some d) (I:d<n) (hi:T[q]?=some (some i)) (hk:i.k=.bool) (hx:opv st x=some (B a)) (W:opv st y=some (B b)):
  Step P n o st ⟨opr x++opr y,[]⟩ ⟨some (d,some (B (!(a==b)))),[]⟩:=by
 refine Step.value hd I fun _ ha _ _ _ ac w hs=>?_
 have h1:=jQ (aQ hs hx (eI ha).1);have h2:=jQ (aQ hs W (eI ha).2);exact⟨.bool (!(a==b)),xS O h1 h2 (gD _ _ _ _ _ _ _ rfl) rfl (vQ ((J.get hi).bool hk) _ _ _ _),by simp[aZ,b9,Rep]⟩
def aA9:V→Option Bool
 | .one (.c .np)=>some true
 | .one (.c (.pt _))=>some false
 | .one (.vp _ _)=>some false
 | _=>none
theorem w8 {S:Sto}{μ:Mu}{H:cK}{v:V}{u:Value}{b:Bool}(h:aZ S μ H v u) (hb:aA9 v=some b):∃p,u=.pointer p∧p.isNone=b:=by
 unfold aA9 at hb;split at hb
 ·cases hb;simp only[aZ,b9,Rep] at h;exact⟨none,h,rfl⟩
 ·cases hb;simp only[aZ,b9,Rep] at h;obtain⟨b,o,h,_⟩:=h;exact⟨_,h,rfl⟩
 ·cases hb;simp only[aZ,b9] at h;obtain⟨t,cells,b,c,_,_,h⟩:=h;exact⟨_,h,rfl⟩
 ·cases hb
theorem a1m {q ty e:TypeId}{i:TI}{x y:Operand}{v:V}{b:Bool}(J:Tok P T) (O:o.op=.binOp .eql q x y ty) (hd:o.dst=some d) (I:d<n) (hi:T[q]?=some (some i)) (hk:i.k=.pt e) (hx:opv st x=some v) (W:aA9 v=some b) (Y:opv st y=some (.one (.c .np))):
  Step P n o st ⟨opr x++opr y,[]⟩ ⟨some (d,some (B b)),[]⟩:=by
 refine Step.value hd I fun _ ha _ _ _ ac w hs=>?_
 obtain⟨p,h1,hp⟩:=w8 (aQ hs hx (eI ha).1) W;have h2:=aQ hs Y (eI ha).2;simp only[aZ,b9,Rep] at h2;subst hp;exact⟨.bool p.isNone,aD5 O h1 h2 (gD _ _ _ _ _ _ _ rfl) (by cases p<;>rfl) (aAt ((J.get hi).ptr hk) _ _ _),by simp[aZ,b9,Rep]⟩
theorem a1l {q ty e:TypeId}{i:TI}{x y:Operand}{v:V}{b:Bool}(J:Tok P T) (O:o.op=.binOp .neq q x y ty) (hd:o.dst=some d) (I:d<n) (hi:T[q]?=some (some i)) (hk:i.k=.pt e) (hx:opv st x=some v) (W:aA9 v=some b) (Y:opv st y=some (.one (.c .np))):
  Step P n o st ⟨opr x++opr y,[]⟩ ⟨some (d,some (B (!b))),[]⟩:=by
 refine Step.value hd I fun _ ha _ _ _ ac w hs=>?_
 obtain⟨p,h1,hp⟩:=w8 (aQ hs hx (eI ha).1) W;have h2:=aQ hs Y (eI ha).2;simp only[aZ,b9,Rep] at h2;subst hp;exact⟨.bool (!p.isNone),xS O h1 h2 (gD _ _ _ _ _ _ _ rfl) (by cases p<;>rfl) (aAt ((J.get hi).ptr hk) _ _ _),by simp[aZ,b9,Rep]⟩
def aRp:V→Option Bool
 | .one (.c .nl)=>some true
 | .one (.c (.sn _ _))=>some false
 | _=>none
theorem aLp {S:Sto}{μ:Mu}{H:cK}{v:V}{u:Value}{b:Bool}(h:aZ S μ H v u) (hb:aRp v=some b):∃p l c,u=.slice p l c∧p.isNone=b:=by
 unfold aRp at hb;split at hb
 ·cases hb;simp only[aZ,b9,Rep] at h;exact⟨none,_,_,h,rfl⟩
 ·cases hb;simp only[aZ,b9,Rep] at h;obtain⟨b,o,sp,l,c,h,_⟩:=h;exact⟨_,_,_,h,rfl⟩
 ·cases hb
theorem aW6 {q ty e:TypeId}{i:TI}{x y:Operand}{v:V}{b:Bool}(J:Tok P T) (O:o.op=.binOp .eql q x y ty) (hd:o.dst=some d) (I:d<n) (hi:T[q]?=some (some i)) (hk:i.k=.sl e) (hx:opv st x=some v) (W:aRp v=some b) (Y:opv st y=some (.one (.c .nl))):
  Step P n o st ⟨opr x++opr y,[]⟩ ⟨some (d,some (B b)),[]⟩:=by
 refine Step.value hd I fun _ ha _ _ _ ac w hs=>?_
 obtain⟨p,l,c,h1,hp⟩:=aLp (aQ hs hx (eI ha).1) W;have h2:=aQ hs Y (eI ha).2;simp only[aZ,b9,Rep] at h2;subst hp;exact⟨.bool p.isNone,aD5 O h1 h2 (gD _ _ _ _ _ _ _ rfl) (by cases p<;>rfl) (aRr ((J.get hi).slice hk) _ _ _ _ _),by simp[aZ,b9,Rep]⟩
end
theorem take_map {α β:Type}{f:α→β}{l:List α}:(l.map f).take l.length=l.map f:=Ax (by simp)
theorem Ole.arrE {σ:Nat→Nat}{te es fz:Nat}{e e':List (List C)}(h:e=e'):Ole σ (.arr te es e fz) (.arr te es e' 1):=by subst h;exact .arr1
section
variable {P:Program}{n:Nat}{o:Oper}{st:St}{d:Nat}{T:TT}
def aCe (st:St):List Operand→Option (List R)
 | []=>some []
 | x::xs=>match opv st x with
  | some (.one r)=>match aCe st xs with | some l=>some (r::l) | none=>none
  | _=>none
theorem aCd {G:Ctx}{S:Sto}{μ:Mu}{st':St}{a:Act}{w:World}(hs:Sim G n S μ st' a w):∀(xs:List Operand) (l:List R),aCe st xs=some l→(∀t∈dD xs,st'.e t=st.e t)→aW S μ st'.h l (xs.map a.eval)
 | [],l,h,_=>by simp[aCe] at h;subst h;simp[aW]
 | x::xs,l,h,ht=>by
  simp only[aCe] at h;split at h
  ·rename_i r I;split at h
   ·rename_i l' q;cases h;have h1:=aQ hs I fun t h=>ht t (by simp[dD,h])
    simp only[aZ] at h1;simp only[Al,aW];exact⟨_,_,rfl,h1,aCd hs xs l' q fun t h=>ht t (by simp[dD,h])⟩
   ·cases h
  ·cases h
theorem aJc {f:FuncId}{caps:Array Operand}{l:List R}(I:o.op=.makeFunc (.func f) #[] caps) (hd:o.dst=some d) (q:d<n) (hc:aCe st caps.toList=some l):Step P n o st ⟨dD caps.toList,[]⟩ ⟨some (d,some (.one (.clo f l))),[]⟩:=by
 refine Step.value hd q fun st' ha _ S μ ac w hs=>?_
 have h:=aCd hs _ _ hc ha.1;refine⟨.func (.func f) #[] (caps.map ac.eval),by simp[execOp,I,Instr.makeFunc],?_⟩;simp only[aZ,b9];refine⟨caps.toList.map ac.eval,?_,h⟩;congr 1;apply Array.ext';simp
theorem aA5 {f:FuncId}{x:Operand}{c:R}(I:o.op=.makeFunc (.func f) #[x] #[]) (hd:o.dst=some d) (q:d<n) (hx:opv st x=some (.one c)):Step P n o st ⟨opr x,[]⟩ ⟨some (d,some (.one (.mth f c))),[]⟩:=by
 refine Step.value hd q fun st' ha _ S μ ac w hs=>?_
 have h:=aQ hs hx ha.1;refine⟨.func (.func f) #[ac.eval x] #[],by simp[execOp,I,Instr.makeFunc],?_⟩;simp only[aZ,b9] at h ⊢;exact⟨_,rfl,h⟩
def fJ (k:List UInt8):List (List C)→Option (List C)
 | []=>none
 | (.str s::vs)::r=>if s=k then some vs else fJ k r
 | _::r=>fJ k r
def uT (k:List UInt8) (vs:List C):List (List C)→List (List C)
 | []=>[.str k::vs]
 | (.str s::us)::r=>if s=k then(.str k::vs)::r else(.str s::us)::uT k vs r
 | x::r=>x::uT k vs r
theorem aIq (a b:List UInt8):((ByteArray.mk ⟨a⟩)==(ByteArray.mk ⟨b⟩))=decide (b=a):=by
 rw[beq_toListBytes,mE,mE,Bool.beq_eq_decide_eq];by_cases h:a=b
 ·subst h;simp
 ·have q:¬b=a:=fun e=>h e.symm
  simp[h,q]
theorem l7 {S:Sto}{agg:Bool}{k:List UInt8}:∀(l:List (List C)) (es:List MapEntry) (i:Nat),bB S agg l es→iA l→
  (∀vs,fJ k l=some vs→∃j e,Instr.findNow .string (.string ⟨⟨k⟩⟩) es i=some (some (i+j,e.val))∧es[j]?=some e∧(∃us,cB S vs us∧e.val=(if agg then .agg ⟨us⟩ else us.headD undef)∧(agg=false→us.length=1))∧e.key=.string ⟨⟨k⟩⟩∧j<es.length∧
   ∀ws,uT k ws l=(l.take j)++(.str k::ws)::l.drop (j+1))∧
  (fJ k l=none→Instr.findNow .string (.string ⟨⟨k⟩⟩) es i=some none∧∀ws,uT k ws l=l++[.str k::ws])
 | [],es,i,h,_=>by
  simp only[bB] at h;subst h;exact⟨fun vs O=>by simp[fJ] at O,fun _=>⟨rfl,fun ws=>rfl⟩⟩
 | r::l,es,i,h,hm=>by
  simp only[bB] at h;obtain⟨e,I,rfl,⟨vs,h1,h2,h3⟩,h4⟩:=h
  match r,h1,hm with
  | .str s::us,h1,hm=>
   simp only[iA] at hm;simp only[cB] at h1;obtain⟨v,vs',O,h5,h6⟩:=h1;simp only[Rep] at h5;injection O with Z aa;subst aa;have q:e.key=.string ⟨⟨s⟩⟩:=by rw[Z,h5]
   have ih:=l7 (k:=k) l I (i+1) h4 hm;by_cases hs:s=k
   ·subst hs;refine⟨fun ws hw=>?_,fun hn=>by simp[fJ] at hn⟩;simp only[fJ,Ct,Option.some.injEq] at hw;subst hw;refine⟨0,e,?_,rfl,⟨vs,h6,h2,h3⟩,q,by simp,fun ws=>by simp[uT]⟩;simp only[Instr.findNow,q,Instr.sameNow];rw[aIq];simp
   ·have J:Instr.findNow .string (.string ⟨⟨k⟩⟩) (e::I) i=Instr.findNow .string (.string ⟨⟨k⟩⟩) I (i+1):=by
     simp only[Instr.findNow,q,Instr.sameNow];rw[aIq];simp[hs]
    refine⟨fun ws hw=>?_,fun hn=>?_⟩
    ·simp only[fJ,hs,B3] at hw;obtain⟨j,e',W,Y,q3,q4,q5,q6⟩:=ih.1 ws hw;refine⟨j+1,e',?_,by simpa using Y,q3,q4,by simpa using q5,fun ws=>?_⟩
     ·rw[J,W,show i+1+j=i+(j+1) by omega]
     ·simp only[uT,hs,B3,q6 ws];simp
    ·simp only[fJ,hs,B3] at hn;obtain⟨W,Y⟩:=ih.2 hn;exact⟨by rw[J,W],fun ws=>by simp only[uT,hs,B3,Y ws];simp⟩
  | [],h1,_=>simp only[cB] at h1;cases h1
  | .int _ _::_,_,hm=>simp[iA] at hm
  | .bool _::_,_,hm=>simp[iA] at hm
  | .nl::_,_,hm=>simp[iA] at hm
  | .sl _ _::_,_,hm=>simp[iA] at hm
  | .sn _ _::_,_,hm=>simp[iA] at hm
  | .np::_,_,hm=>simp[iA] at hm
  | .pt _::_,_,hm=>simp[iA] at hm
  | .mp _ _::_,_,hm=>simp[iA] at hm
  | .zv _::_,_,hm=>simp[iA] at hm
theorem mT {t:TypeId}(hu:P.underlying t=some .string) (b:Bool) (d:Nat) (s:ByteArray) (w:World):(Instr.checkKey b (d+1) t (.string s)).run P w=.ok () w:=by
 simp only[Instr.checkKey,Ag,Ap hu w,ω,Ai]
inductive MapE (st:St):List Nat→V→Bool→List (List C)→Prop
 | mr {id agg ents}:st.h id=some (.map agg ents)→MapE st [id] (.one (.mr id)) agg ents
 | mp {agg ents}:MapE st [] (.one (.c (.mp agg ents))) agg ents
 | nil {agg}:MapE st [] (.one (.c (.zv 0))) agg []
theorem MapE.rel {G:Ctx}{S:Sto}{μ:Mu}{st':St}{a:Act}{w:World}{ids:List Nat}{v:V}{agg:Bool}{ents:List (List C)}{u:Value}(hs:Sim G n S μ st' a w) (h:MapE st ids v agg ents) (I:iA ents) (hi:∀i∈ids,st'.h i=st.h i) (q:aZ S μ st'.h v u):
  ∃es:Array MapEntry,bB S agg ents es.toList∧((u=.map none∧es= #[])∨∃b clk,u=.map (some b)∧w.heap[b]?=some (.map es clk)):=by
 cases h with
 | mr hh=>
  have J:=(hi _ (by simp)).trans hh;simp only[aZ,b9] at q;obtain⟨O,ents',b,c,h1,h2,h3⟩:=q;rw[J] at h1;cases h1;obtain⟨W,es,clk,g1,g2,g3,g4⟩:=hs.inv.obj _ _ J;rw[h2] at g1;cases g1;exact⟨es,g3.rep I,.inr ⟨_,clk,h3,g2⟩⟩
 | mp=>
  simp only[aZ,b9,Rep] at q;obtain⟨b,es,clk,h1,h2,h3⟩:=q;refine⟨es,h3.elim id fun h3=>?_,.inr ⟨b,clk,h1,hs.inv.holds.2 _ _ h2⟩⟩;cases ents with
  | nil=>simp only[aKn] at h3
  | cons r l=>simp only[aKn] at h3;rw[h3.1] at I;simp[iA] at I
 | nil=>
  simp only[aZ,b9,Rep,aWn] at q;exact⟨#[],by simp[bB],.inl ⟨q,rfl⟩⟩
def oV (i:TI) (r:Option (List C)):V:=match r with
 | some vs=>if i.k.agg then .pa vs else match vs with | [c]=>.one (.c c) | _=>.tup []
 | none=>if i.k.agg then .pa i.zero else match i.zero with | [c]=>.one (.c c) | _=>.tup []
def uX (r:Option (List C)):Bool:=r.isSome
def aOt (r:Option (Nat×Value)) (z:Value):Value:=match r with | some p=>p.2 | none=>z
theorem kA (w:World) (b:Nat) (es:Array MapEntry) (clk:Nat) (h:w.heap[b]?=some (.map es clk)):(getObj b).run P w=.ok (.map es clk) w:=by
 exact MapKept.run_getObj_map h
theorem aA7 {t kt et:TypeId}{i ki ei:TI}{x y:Operand}{ok:Bool}{ids:List Nat}{agg:Bool}{k:List UInt8}{r:Option (List C)}(Z:Tok P T) (ho:o.op=.lookup t x y ok) (hd:o.dst=some d) (hdn:d<n) (hi:T[t]?=some (some i)) (hk:i.k=.mp kt et)
  (hki:T[kt]?=some (some ki)) (hkk:ki.k=.str) (aa:T[et]?=some (some ei)) (I:ei.k.agg=agg) (hy:opv st y=some (Go.AM.T k))
  (hrel:∀(st':St),qN ⟨opr x++opr y,ids⟩ st st'→∀(G:Ctx) (S:Sto) (μ:Mu) (a:Act) (w:World),Sim G n S μ st' a w→∃(es:Array MapEntry) (ents:List (List C)),iA ents∧fJ k ents=r∧bB S agg ents es.toList∧((a.eval x=.map none∧es= #[])∨∃b clk,a.eval x=.map (some b)∧w.heap[b]?=some (.map es clk))):
  Step P n o st ⟨opr x++opr y,ids⟩ ⟨some (d,some (if ok then .tup [oV ei r,B (uX r)] else oV ei r)),[]⟩:=by
 refine Step.value hd hdn fun st' ha G S μ a w hs=>?_
 obtain⟨es,ents,hms,hr,h1,h2⟩:=hrel st' ha G S μ a w hs;have h3:=kX (aQ hs hy fun t h=>ha.1 t (by simp[h]));have hu:=Ap ((Z.get hi).map hk) w;have ab:=(Z.get hki).str hkk;obtain⟨z,hz,hzr,hz1,hz2⟩:=(Z.get aa).zero_run;have J:=l7 (k:=k) ents es.toList 0 h1 hms;have key:∃r0:Option (Nat×Value),(Instr.findKey kt (.string ⟨⟨k⟩⟩) es.toList).run P w=.ok r0 w∧aZ S μ st'.h (oV ei r) (aOt r0 z)∧uX r=r0.isSome:=by
  cases O:fJ k ents with
  | some vs=>
   obtain⟨j,e,q1,q2,⟨us,W,q4,q5⟩,q6,q7,q8⟩:=J.1 vs O;refine⟨some (0+j,e.val),?_,?_,by rw[←hr,O];rfl⟩
   ·simp only[Instr.findKey,Ag,Ap ab w,ω,q1,Ai]
   ·rw[←hr,O];simp only[oV,I];cases agg with
    | true=>
     simp only[Ct,aZ] at q4 ⊢;exact⟨us,q4,W⟩
    | false=>
     simp only[Bc,B3] at q4 ⊢;have hl:=q5 rfl;have hl2:=W.length
     match vs,us,W,hl,hl2 with
     | [c],[u],W,_,_=>
      simp only[cB] at W;obtain⟨v,vs',Y,hc,_⟩:=W;cases Y;rw[q4];simp only[aZ,b9];exact hc
  | none=>
   obtain⟨q1,_⟩:=J.2 O;refine⟨none,?_,?_,by rw[←hr,O];rfl⟩
   ·simp only[Instr.findKey,Ag,Ap ab w,ω,q1,Ai]
   ·rw[←hr,O];simp only[oV,I];have q:=hzr S;cases agg with
    | true=>
     rw[I,ξ rfl] at hz1;simp only[Ct,aZ];exact⟨z.cells.toList,hz1,q⟩
    | false=>
     obtain⟨u,hu1,hu2⟩:=hz2 I;simp only[Bc,B3];have hl:=(Z.get aa).len;rw[(Z.get aa).one I] at hl
     match hzz:ei.zero,hl with
     | [c],_=>
      rw[hzz,hu1] at q;simp only[cB] at q;obtain⟨v,vs',Y,hc,_⟩:=q;cases Y;rw[hu2];simp only[aZ,b9];exact hc
 obtain⟨r0,hf,Y,hb⟩:=key;have hck:=fun b=>mT (P:=P) ab b 9999 ⟨⟨k⟩⟩ w
 have fin:aZ S μ st'.h (if ok then .tup [oV ei r,B (uX r)] else oV ei r) (if ok then .tuple #[(aOt r0 z),.bool r0.isSome] else(aOt r0 z)):=by
  cases ok with
  | false=>exact Y
  | true=>
   simp only[Ct,aZ,bS];exact⟨[_,.bool r0.isSome],rfl,_,[.bool r0.isSome],rfl,Y,.bool r0.isSome,[],rfl,by rw[hb];simp[b9,Rep],rfl⟩
 refine⟨_,?_,fin⟩;rcases h2 with⟨h2,rfl⟩ | ⟨b,clk,h2,h4⟩
 ·simp only[execOp,ho,h2,h3,Ag,Instr.lookup,hu,ω,Ai];rw[show(10000:Nat)=9999+1 from rfl,hck];simp only[ω,hf];cases r0 with
  | none=>simp only[Ag,hz w,ω,Ai];rfl
  | some p=>rfl
 ·simp only[execOp,ho,h2,h3,Ag,Instr.lookup,hu,ω,Ai,kA w b es clk h4];rw[show(10000:Nat)=9999+1 from rfl,hck];simp only[ω,hf];cases r0 with
  | none=>simp only[Ag,hz w,ω,Ai];rfl
  | some p=>rfl
theorem xX {t I J:TypeId}{i O ei:TI}{x y:Operand}{ok:Bool}{v:V}{ids:List Nat}{agg:Bool}{ents:List (List C)}{k:List UInt8}{r:Option (List C)}(hT:Tok P T) (ho:o.op=.lookup t x y ok) (hd:o.dst=some d) (W:d<n) (hi:T[t]?=some (some i)) (hk:i.k=.mp I J)
  (Y:T[I]?=some (some O)) (Z:O.k=.str) (aa:T[J]?=some (some ei)) (ab:ei.k.agg=agg) (hx:opv st x=some v) (hm:MapE st ids v agg ents) (q:iA ents) (hy:opv st y=some (Go.AM.T k)) (hr:fJ k ents=r):
  Step P n o st ⟨opr x++opr y,ids⟩ ⟨some (d,some (if ok then .tup [oV ei r,B (uX r)] else oV ei r)),[]⟩:=
 aA7 hT ho hd W hi hk Y Z aa ab hy fun _ ha _ _ _ _ _ hs=>by
  obtain⟨es,h1,h2⟩:=hm.rel hs q ha.2 (aQ hs hx fun t h=>ha.1 t (by simp[h]));exact⟨es,ents,q,hr,h1,h2⟩
theorem dX {S:Sto}{agg:Bool}:∀{a:List (List C)}{x:List MapEntry}{b:List (List C)}{y:List MapEntry},bB S agg a x→bB S agg b y→bB S agg (a++b) (x++y)
 | [],_,_,_,h,k=>by simp only[bB] at h;subst h;simpa using k
 | _::_,_,_,_,h,k=>by
  simp only[bB,A9] at h ⊢;obtain⟨v,vs',rfl,h1,h2⟩:=h;exact⟨v,vs'++_,rfl,h1,dX h2 k⟩
theorem lZ {S:Sto}{agg:Bool}:∀{a:List (List C)}{x:List MapEntry}(n:Nat),bB S agg a x→bB S agg (a.take n) (x.take n)
 | _,_,0,_=>by simp[bB]
 | [],_,n+1,h=>by simp only[bB] at h;subst h;simp[bB]
 | _::_,_,n+1,h=>by
  simp only[bB,A1] at h ⊢;obtain⟨v,vs',rfl,h1,h2⟩:=h;exact⟨v,vs'.take n,by simp,h1,lZ n h2⟩
theorem mA {S:Sto}{agg:Bool}:∀{a:List (List C)}{x:List MapEntry}(n:Nat),bB S agg a x→bB S agg (a.drop n) (x.drop n)
 | _,_,0,h=>by simpa using h
 | [],_,n+1,h=>by simp only[bB] at h;subst h;simp[bB]
 | _::_,_,n+1,h=>by
  simp only[bB,C0] at h ⊢;obtain⟨v,vs',rfl,h1,h2⟩:=h;simpa using mA n h2
theorem aD9 {t kt et:TypeId}{i ki:TI}{x y z:Operand}{id:Nat}{agg:Bool}{ents:List (List C)}{k:List UInt8}{v:V}{rs:List R}{cs:List C}{ids:List Nat}(hT:Tok P T) (ho:o.op=.mapUpdate t x y z) (hd:o.dst=none) (hi:T[t]?=some (some i)) (hk:i.k=.mp kt et)
  (hki:T[kt]?=some (some ki)) (hkk:ki.k=.str) (hx:opv st x=some (.one (.mr id))) (hh:st.h id=some (.map agg ents)) (O:iA ents) (hy:opv st y=some (Go.AM.T k))
  (hz:opv st z=some v) (q:(match v with | .one _=>!agg | .pa _=>agg | .ma _=>agg | _=>false)=true) (hc:iV v=some rs) (hp:PureL st.h ids rs cs):
  Step P n o st ⟨opr x++opr y++opr z,id::ids⟩ ⟨none,[(id,some (.map agg (uT k cs ents)))]⟩:=by
 refine Step.turn hd hh (by simp) (by simp[AObj.succ]) fun st' ha hh' G S μ a w hs=>?_
 have h1:=aQ hs hx fun t h=>ha.1 t (by simp[h])
 have h3:=kX (aQ hs hy fun t h=>ha.1 t (by simp[h]));have I:=aQ hs hz fun t h=>ha.1 t (by simp[h])
 simp only[aZ,b9] at h1;obtain⟨agg',ents',b,c,q1,q2,q3⟩:=h1;obtain⟨b',es,clk,g1,g2,g3,g4⟩:=hs.inv.obj id _ hh';rw[g1] at q2;cases q2;have g3:=g3.rep O;have hrep:=hp.rel (fun i h=>ha.2 i (by simp[h])) hs.inv.obj (eG I hc);have W:a.eval z=(if agg then .agg ⟨(a.eval z).cells.toList⟩ else(a.eval z).cells.toList.headD undef)∧(agg=false→(a.eval z).cells.toList.length=1):=by
  cases v with
  | one r=>
   simp at q;subst q;simp only[aZ] at I;rw[I.one.1];simp
  | pa l=>
   simp at q;subst q;simp only[aZ] at I;obtain⟨vs,I,_⟩:=I;rw[I];simp[Value.cells]
  | ma l=>
   simp at q;subst q;simp only[aZ] at I;obtain⟨vs,I,_⟩:=I;rw[I];simp[Value.cells]
  | tup l=>simp at q
 have Y:=(hT.get hki).str hkk;have hu:=Ap ((hT.get hi).map hk) w;have J:=l7 (k:=k) ents es.toList 0 g3 O;have hck:=fun b=>mT (P:=P) Y b 9999 ⟨⟨k⟩⟩ w
 have Z:∀e:MapEntry,e.key=.string ⟨⟨k⟩⟩→e.val=a.eval z→bB S agg [.str k::cs] [e]:=by
  intro e he1 he2;simp only[bB];refine⟨e,[],rfl,⟨(a.eval z).cells.toList,?_,by rw[he2];exact W.1,W.2⟩,rfl⟩;simp only[cB];exact⟨e.key,_,rfl,by simp[Rep,he1],hrep⟩
 have aa:∀(ob:Obj),(setObj b ob).run P w=.ok () { w with heap:=w.heap.setIfInBounds b ob }:=by
  intro ob;exact MapKept.run_setObj_map _ g2
 have hW:∀ob,WChg w { w with heap:=w.heap.setIfInBounds b ob } b ob:=fun ob=>by
  have hlt:=dV g2;refine⟨rfl,rfl,rfl,by simp,by simp[hlt],fun k _ hne=>?_⟩;show(w.heap.setIfInBounds b ob)[k]?=_;rw[Bq,ψ (fun e=>hne e.symm)]
 have hSc:∀(ob:Obj) (o:Nat) (v:Value),S.cell b o=some v→∃vs t fr,ob=.cells vs t fr∧vs[o]?=some v:=fun ob o v e=>by
  obtain⟨vs,t,fr,p1,_⟩:=hs.inv.holds.1 b o v e;rw[g2] at p1;cases p1
 have g4:=g4.kn0 O;have hSm:∀m,S.mapo b=some m→w.heap.size≤b:=fun m e=>by rw[g4] at e;cases e
 cases hq:fJ k ents with
 | some vs=>
  obtain⟨j,e,p1,p2,_,p4,p5,p6⟩:=J.1 vs hq;refine⟨_,.map (es.modify j fun e=>{ e with key:=.string ⟨⟨k⟩⟩,val:=a.eval z }) clk,b,(0,0),?_,g1,hW _,⟨b,_,clk,aI _ _ _,(hW _).new,.inr (.inl ?_),.inl g4⟩,hSc _,hSm⟩
  ·have hkey:((es[j]?).map (·.key)).getD (.string ⟨⟨k⟩⟩)=.string ⟨⟨k⟩⟩:=by
    rw[←Array.getElem?_toList,p2];simpa using p4
   have hkt:(Instr.keyThatStays (.string ⟨⟨k⟩⟩) (.string ⟨⟨k⟩⟩)).run P w=.ok (.string ⟨⟨k⟩⟩) w:=by
    have hsb:Instr.sameBits 10000 (.string ⟨⟨k⟩⟩) (.string ⟨⟨k⟩⟩)=true:=by simp[Instr.sameBits,aIq]
    simp only[Instr.keyThatStays,hsb,Ct,Ai]
   simp only[execOp,ho,q3,h3,Ag,Instr.mapUpdate,hu,ω,kA w b es clk g2];rw[show(10000:Nat)=9999+1 from rfl,hck];simp only[ω,Instr.findKey,Ag,Ap Y w,p1,Ai,Ba,hkey,hkt,aa]
  ·rw[p6 cs,Array.toList_modify];have hmod:es.toList.modify j (fun e=>{ e with key:=.string ⟨⟨k⟩⟩,val:=a.eval z })=es.toList.take j++{ e with key:=.string ⟨⟨k⟩⟩,val:=a.eval z }::es.toList.drop (j+1):=by
    apply Bx;intro i;rw[List.getElem?_modify];have p5':j<es.size:=by simpa using p5
    by_cases c1:i<j
    ·rw[Be (by simp;omega),Au,ξ c1];simp[show ¬j=i by omega]
    ·rw[A3 (by simp;omega)];simp only[At];by_cases c2:j=i
     ·subst c2;rw[p2];have hm:min j es.toList.length=j:=by simp;omega
      rw[hm];simp
     ·rw[Ch (le_of_lt p5),show i-j=(i-j-1)+1 by omega,Bg,An];simp[c2,show j+1+(i-j-1)=i by omega]
   rw[hmod];have:=dX (lZ j g3) (dX (Z { e with key:=.string ⟨⟨k⟩⟩,val:=a.eval z } rfl rfl) (mA (j+1) g3));exact this
 | none=>
  obtain⟨p1,p2⟩:=J.2 hq;refine⟨_,.map (es.push { key:=.string ⟨⟨k⟩⟩,val:=a.eval z,born:=clk }) (clk+1),b,(0,0),?_,g1,hW _,⟨b,_,clk+1,aI _ _ _,(hW _).new,.inr (.inl ?_),.inl g4⟩,hSc _,hSm⟩
  ·simp only[execOp,ho,q3,h3,Ag,Instr.mapUpdate,hu,ω,kA w b es clk g2];rw[show(10000:Nat)=9999+1 from rfl,hck];simp only[ω,Instr.findKey,Ag,Ap Y w,p1,Ai,aa]
  ·rw[p2 cs,Array.toList_push];exact dX g3 (Z _ rfl rfl)
theorem aLv {P:Program}{T:TT}{o:Oper}{t kt et:TypeId}{i ki:TI}{x y z:Operand}{agg:Bool}{ents:List (List C)}{k:List UInt8}{cs:List C}{S:Sto}{a:Act}{w:World}{b:Nat}{es:Array MapEntry}{clk:Nat}(hT:Tok P T) (ho:o.op=.insert t x y z) (hi:T[t]?=some (some i)) (hk:i.k=.mp kt et)
  (hki:T[kt]?=some (some ki)) (hkk:ki.k=.str) (q3:a.eval x=.map (some b)) (h3:a.eval y=.string ⟨⟨k⟩⟩) (g2:w.heap[b]?=some (.map es clk)) (g3:bB S agg ents es.toList) (hms:iA ents)
  (aa:cB S cs (a.eval z).cells.toList) (I:a.eval z=(if agg then .agg ⟨(a.eval z).cells.toList⟩ else(a.eval z).cells.toList.headD undef)∧(agg=false→(a.eval z).cells.toList.length=1)):
  ∃Y ab,(execOp a.eval o).run P w=.ok .skip { w with heap:=w.heap.setIfInBounds b (.map Y ab) }∧bB S agg (uT k cs ents) Y.toList:=by
 have J:=(hT.get hki).str hkk;have hu:=Ap ((hT.get hi).map hk) w;have q:=l7 (k:=k) ents es.toList 0 g3 hms;have Z:=fun b=>mT (P:=P) J b 9999 ⟨⟨k⟩⟩ w
 have O:∀e:MapEntry,e.key=.string ⟨⟨k⟩⟩→e.val=a.eval z→bB S agg [.str k::cs] [e]:=by
  intro e he1 he2;simp only[bB];refine⟨e,[],rfl,⟨(a.eval z).cells.toList,?_,by rw[he2];exact I.1,I.2⟩,rfl⟩;simp only[cB];exact⟨e.key,_,rfl,by simp[Rep,he1],aa⟩
 have W:∀(ob:Obj),(setObj b ob).run P w=.ok () { w with heap:=w.heap.setIfInBounds b ob }:=by
  intro ob;exact MapKept.run_setObj_map _ g2
 cases hq:fJ k ents with
 | some vs=>
  obtain⟨j,e,p1,p2,_,p4,p5,p6⟩:=q.1 vs hq;refine⟨es.modify j fun e=>{ e with key:=.string ⟨⟨k⟩⟩,val:=a.eval z },clk,?_,?_⟩
  ·have ac:((es[j]?).map (·.key)).getD (.string ⟨⟨k⟩⟩)=.string ⟨⟨k⟩⟩:=by
    rw[←Array.getElem?_toList,p2];simpa using p4
   have hkt:(Instr.keyThatStays (.string ⟨⟨k⟩⟩) (.string ⟨⟨k⟩⟩)).run P w=.ok (.string ⟨⟨k⟩⟩) w:=by
    have hsb:Instr.sameBits 10000 (.string ⟨⟨k⟩⟩) (.string ⟨⟨k⟩⟩)=true:=by simp[Instr.sameBits,aIq]
    simp only[Instr.keyThatStays,hsb,Ct,Ai]
   simp only[execOp,ho,q3,h3,Ag,Instr.mapUpdate,hu,ω,kA w b es clk g2];rw[show(10000:Nat)=9999+1 from rfl,Z];simp only[ω,Instr.findKey,Ag,Ap J w,p1,Ai,Ba,ac,hkt,W]
  ·rw[p6 cs,Array.toList_modify];have ad:es.toList.modify j (fun e=>{ e with key:=.string ⟨⟨k⟩⟩,val:=a.eval z })=es.toList.take j++{ e with key:=.string ⟨⟨k⟩⟩,val:=a.eval z }::es.toList.drop (j+1):=by
    apply Bx;intro i;rw[List.getElem?_modify];have p5':j<es.size:=by simpa using p5
    by_cases c1:i<j
    ·rw[Be (by simp;omega),Au,ξ c1];simp[show ¬j=i by omega]
    ·rw[A3 (by simp;omega)];simp only[At];by_cases c2:j=i
     ·subst c2;rw[p2];have hm:min j es.toList.length=j:=by simp;omega
      rw[hm];simp
     ·rw[Ch (le_of_lt p5),show i-j=(i-j-1)+1 by omega,Bg,An];simp[c2,show j+1+(i-j-1)=i by omega]
   rw[ad];have:=dX (lZ j g3) (dX (O { e with key:=.string ⟨⟨k⟩⟩,val:=a.eval z } rfl rfl) (mA (j+1) g3));exact this
 | none=>
  obtain⟨p1,p2⟩:=q.2 hq;refine⟨es.push { key:=.string ⟨⟨k⟩⟩,val:=a.eval z,born:=clk },clk+1,?_,?_⟩
  ·simp only[execOp,ho,q3,h3,Ag,Instr.mapUpdate,hu,ω,kA w b es clk g2];rw[show(10000:Nat)=9999+1 from rfl,Z];simp only[ω,Instr.findKey,Ag,Ap J w,p1,Ai,W]
  ·rw[p2 cs,Array.toList_push];exact dX g3 (O _ rfl rfl)
theorem aR4 {t kt et:TypeId}{i ki:TI}{x y z:Operand}{id:Nat}{agg:Bool}{ents:List (List C)}{k:List UInt8}{v:V}{rs:List R}{cs:List C}{ids:List Nat}(hT:Tok P T) (ho:o.op=.insert t x y z) (hd:o.dst=none) (hi:T[t]?=some (some i)) (hk:i.k=.mp kt et)
  (hki:T[kt]?=some (some ki)) (hkk:ki.k=.str) (hx:opv st x=some (.one (.mr id))) (hh:st.h id=some (.map agg ents)) (J:iA ents) (hy:opv st y=some (Go.AM.T k))
  (hz:opv st z=some v) (q:(match v with | .one _=>!agg | .pa _=>agg | .ma _=>agg | _=>false)=true) (hc:iV v=some rs) (hp:PureL st.h ids rs cs):
  Step P n o st ⟨opr x++opr y++opr z,id::ids⟩ ⟨none,[(id,some (.map agg (uT k cs ents)))]⟩:=by
 refine Step.turn hd hh (by simp) (by simp[AObj.succ]) fun st' ha hh' G S μ a w hs=>?_
 have h1:=aQ hs hx fun t h=>ha.1 t (by simp[h])
 have h3:=kX (aQ hs hy fun t h=>ha.1 t (by simp[h]));have I:=aQ hs hz fun t h=>ha.1 t (by simp[h])
 simp only[aZ,b9] at h1;obtain⟨agg',ents',b,c,q1,q2,q3⟩:=h1;obtain⟨b',es,clk,g1,g2,g3,g4⟩:=hs.inv.obj id _ hh';rw[g1] at q2;cases q2;have g3:=g3.rep J;have W:=hp.rel (fun i h=>ha.2 i (by simp[h])) hs.inv.obj (eG I hc);have Y:a.eval z=(if agg then .agg ⟨(a.eval z).cells.toList⟩ else(a.eval z).cells.toList.headD undef)∧(agg=false→(a.eval z).cells.toList.length=1):=by
  cases v with
  | one r=>
   simp at q;subst q;simp only[aZ] at I;rw[I.one.1];simp
  | pa l=>
   simp at q;subst q;simp only[aZ] at I;obtain⟨vs,I,_⟩:=I;rw[I];simp[Value.cells]
  | ma l=>
   simp at q;subst q;simp only[aZ] at I;obtain⟨vs,I,_⟩:=I;rw[I];simp[Value.cells]
  | tup l=>simp at q
 obtain⟨es',O,Z,aa⟩:=aLv (P:=P) hT ho hi hk hki hkk q3 h3 g2 g3 J W Y;have hW:∀ob,WChg w { w with heap:=w.heap.setIfInBounds b ob } b ob:=fun ob=>by
  have hlt:=dV g2;refine⟨rfl,rfl,rfl,by simp,by simp[hlt],fun k _ hne=>?_⟩;show(w.heap.setIfInBounds b ob)[k]?=_;rw[Bq,ψ (fun e=>hne e.symm)]
 have hSc:∀(ob:Obj) (o:Nat) (v:Value),S.cell b o=some v→∃vs t fr,ob=.cells vs t fr∧vs[o]?=some v:=fun ob o v e=>by
  obtain⟨vs,t,fr,p1,_⟩:=hs.inv.holds.1 b o v e;rw[g2] at p1;cases p1
 have g4:=g4.kn0 J;have hSm:∀m,S.mapo b=some m→w.heap.size≤b:=fun m e=>by rw[g4] at e;cases e
 exact⟨_,.map es' O,b,(0,0),Z,g1,hW _,⟨b,_,O,aI _ _ _,(hW _).new,.inr (.inl aa),.inl g4⟩,hSc _,hSm⟩
end
section
variable {P:Program}{n:Nat}{o:Oper}{st:St}{d:Nat}{T:TT}
theorem nW {α:Type}(f:Nat→Option α) (k:Nat) (x y:Option α):upd (upd f k x) k y=upd f k y:=by
 funext i;simp only[upd];split<;>rfl
theorem aMi {t e:TypeId}{i ei:TI}{x y:Operand}{rows:List (List C)}{vy:V}{ids:List Nat}(id:Nat) (hT:Tok P T) (ho:o.op=.call { callee:=.builtin .append,args:= #[x,y],argTypes:= #[t,t] }) (hd:o.dst=some d) (hdn:d<n)
  (hi:T[t]?=some (some i)) (hk:i.k=.sl e) (hei:T[e]?=some (some ei)) (hes:Nat.ble 1 ei.size=true) (heb:Nat.ble 1 ei.bytes=true)
  (hx:opv st x=some (.one (.c .nl))) (hid:st.h id=none) (hy:opv st y=some vy) (I:Src st ei.size ids vy rows)
  (O:rows.length*ei.bytes≤140737488355328):
  Step P n o st ⟨opr x++opr y,id::ids⟩ ⟨some (d,some (.one (.hs id 0 rows.length rows.length))),[(id,some (.arr e ei.size rows 0))]⟩:=by
 intro st' ha G S μ a w K Q hs hk';have Y:st'.h id=none:=by rw[ha.2 id (by simp),hid]
 obtain⟨hi',Z⟩:=hs.inv.empty e ei.size Y;have W:Sim G n S (upd μ id none) ⟨st'.e,upd st'.h id (some (.arr e ei.size [] 0)),st'.d⟩ a w:=⟨hi',hs.size,hs.defers.evolve Z,fun t v e=>aZ.evolve Z v _ (hs.env t v e)⟩
 have J:=aQ hs hx fun t ht=>ha.1 t (by simp[ht])
 have hvy:=aQ hs hy fun t ht=>ha.1 t (by simp[ht])
 simp only[aZ,b9,Rep] at J;have aa:aZ S (upd μ id none) (upd st'.h id (some (.arr e ei.size [] 0))) (.one (.hs id 0 0 0)) (a.eval x):=by
  simp only[aZ,b9];exact⟨⟨_,_,_,J⟩,.inr ⟨e,ei.size,[],0,aI _ _ _,le_refl _,fun _=>⟨le_refl _,.inl ⟨aI _ _ _,rfl,J⟩⟩⟩⟩
 have hne:∀j∈ids,j≠id:=by
  intro j q e;subst e;cases I with
  | hs h1 _ _=>simp at q;subst q;rw[hid] at h1;cases h1
  | all h1 _=>simp at q;subst q;rw[hid] at h1;cases h1
  | sl=>simp at q
  | nl=>simp at q
  | sn=>simp at q
 have:=aC6 (fz:=0) (elems:=[]) (id:=id) hT ho hi hk hei hes heb rfl (by simpa using O) (aI _ _ _) W aa (aZ.evolve Z _ _ hvy) I fun j q=>by
  show upd st'.h id (some (.arr e ei.size [] 0)) j=_;rw[aS _ _ _ (hne j q)];exact ha.2 j (by simp[q])
 refine aOe hd hdn (by simp) _ (aI _ _ _) W (fun S' μ' a' w' h=>hk' S' μ' a' w' ?_) this;have e1:Eff.apply ⟨some (d,some (.one (.hs id 0 (([]:List (List C)).length+rows.length) (([]:List (List C)).length+rows.length)))),[(id,some (.arr e ei.size ([]++rows) (if 0=0 then 0 else 1)))]⟩ ⟨st'.e,upd st'.h id (some (.arr e ei.size [] 0)),st'.d⟩
   =Eff.apply ⟨some (d,some (.one (.hs id 0 rows.length rows.length))),[(id,some (.arr e ei.size rows 0))]⟩ st':=by
  unfold Eff.apply;rw[c7,c7,nW];simp
 rw[e1] at h;exact h
theorem Sub.conv {kf ids:List Nat}{t:Nat}{v v':V}(h:st.e t=some v) (hc:Conv st.h ids v v'):Sub kf ⟨upd st.e t (some v'),st.h,st.d⟩ st:=by
 intro G n S μ a w _ hs;refine⟨S,μ,⟨hs.inv,hs.size,hs.defers,fun s u e=>?_⟩⟩;by_cases q:s=t
 ·subst q;have:some v'=some u:=by rw[←e];exact(aI _ _ _).symm
  cases this;exact hc.rel (fun _ _=>rfl) hs.inv.obj (hs.env s _ h)
 ·exact hs.env s u (by rw[←e];exact(aS _ _ _ q).symm)
theorem aRx {t e:TypeId}{i ei:TI}{len:Nat}{parts:Array (Nat×Operand)}{ids:List Nat}{rows:List (List C)}(id:Nat) (hT:Tok P T) (ho:o.op=.buildSlice t len parts) (hd:o.dst=some d) (hdn:d<n) (hi:T[t]?=some (some i)) (hk:i.k=.sl e) (hei:T[e]?=some (some ei)) (q:RowsV st ei.size 0 ids parts.toList rows) (hlen:Nat.beq len parts.size=true) (O:Nat.ble (len*ei.size) 16777216=true) (Z:Nat.ble len 16777216=true) (hid:st.h id=none):
  Step P n o st ⟨iB parts.toList,id::ids⟩ ⟨some (d,some (.one (.c (.sl ei.size rows)))),[(id,some (.arr e ei.size rows 2))]⟩:=by
 intro st' ha G S μ a w K Q hs hk';refine aL8 id hT ho hd hdn hi hk hei q hlen O Z hid st' ha G S μ a w K Q hs fun S1 μ1 a1 w1 h1=>?_
 have I:len=rows.length:=by rw[q.lengths];simpa using Ac hlen
 have hh:(Eff.apply ⟨some (d,some (.one (.hs id 0 len len))),[(id,some (.arr e ei.size rows 0))]⟩ st').h id=some (.arr e ei.size rows 0):=by
  show updL st'.h [(id,some (.arr e ei.size rows 0))] id=_;rw[c7,aI]
 obtain⟨S2,Y,h2⟩:=h1.freeze hh;refine hk' S2 Y a1 w1 ⟨?_,h2.size,?_,fun s u e1=>?_⟩
 ·have:=h2.inv;show Inv G S2 Y (updL st'.h [(id,some (.arr e ei.size rows 2))]) w1;rw[c7];have J:upd (Eff.apply ⟨some (d,some (.one (.hs id 0 len len))),[(id,some (.arr e ei.size rows 0))]⟩ st').h id (some (.arr e ei.size rows 2))=upd st'.h id (some (.arr e ei.size rows 2)):=by
   show upd (updL st'.h [(id,some (.arr e ei.size rows 0))]) id _=_;rw[c7,nW]
  rw[←J];exact this
 ·have:=h2.defers;show Marks _ Y (updL st'.h [(id,some (.arr e ei.size rows 2))]) st'.d a1.defers;rw[c7];have J:upd (Eff.apply ⟨some (d,some (.one (.hs id 0 len len))),[(id,some (.arr e ei.size rows 0))]⟩ st').h id (some (.arr e ei.size rows 2))=upd st'.h id (some (.arr e ei.size rows 2)):=by
   show upd (updL st'.h [(id,some (.arr e ei.size rows 0))]) id _=_;rw[c7,nW]
  rw[←J];exact this
 ·have J:upd (Eff.apply ⟨some (d,some (.one (.hs id 0 len len))),[(id,some (.arr e ei.size rows 0))]⟩ st').h id (some (.arr e ei.size rows 2))=updL st'.h [(id,some (.arr e ei.size rows 2))]:=by
   show upd (updL st'.h [(id,some (.arr e ei.size rows 0))]) id _=_;rw[c7,c7,nW]
  show aZ S2 Y (updL st'.h [(id,some (.arr e ei.size rows 2))]) u (a1.tmps.getD s undef);by_cases W:s=d
  ·subst W;have hu:u=.one (.c (.sl ei.size rows)):=by
    have:upd st'.e s (some (.one (.c (.sl ei.size rows)))) s=some u:=e1;rw[aI] at this;cases this;rfl
   subst hu;have hv:=h2.env s (.one (.hs id 0 len len)) (aI _ _ _);have hO:=h2.inv.obj id _ (aI _ _ _);have:=(Conv.one (h:=upd (Eff.apply ⟨some (s,some (.one (.hs id 0 len len))),[(id,some (.arr e ei.size rows 0))]⟩ st').h id (some (.arr e ei.size rows 2))) (PureL.hs (e:=rows) (aI _ _ _) I (by rw[I];simp) .nil)).rel (fun _ _=>rfl) h2.inv.obj hv;rw[←J];exact this
  ·have:upd st'.e d (some (.one (.c (.sl ei.size rows)))) s=some u:=e1;rw[aS _ _ _ W] at this;have hv:=h2.env s u (by show upd st'.e d _ s=some u;rw[aS _ _ _ W];exact this);rw[←J];exact hv
theorem a1t {J ty:TypeId}{x y:Operand}{a b:Nat}(O:o.op=.binOp .add J x y ty) (hd:o.dst=some d) (q:d<n) (hx:opv st x=some (I .i64 (a:Nat))) (W:opv st y=some (I .i64 (b:Nat))) (Y:a+b≤9223372036854775807):
  Step P n o st ⟨opr x++opr y,[]⟩ ⟨some (d,some (I .i64 ((a+b:Nat):Int))),[]⟩:=aR6 O hd q hx W (by rw[←Int.natCast_add];exact Cs _ (by omega))
theorem a1n {J ty:TypeId}{x y:Operand}{a b:Nat}(O:o.op=.binOp .mul J x y ty) (hd:o.dst=some d) (q:d<n) (hx:opv st x=some (I .i64 (a:Nat))) (W:opv st y=some (I .i64 (b:Nat))) (Y:a*b≤9223372036854775807):
  Step P n o st ⟨opr x++opr y,[]⟩ ⟨some (d,some (I .i64 ((a*b:Nat):Int))),[]⟩:=aR0 O hd q hx W (by rw[←Int.natCast_mul];exact Cs _ (by omega))
theorem a1a {J ty:TypeId}{x y:Operand}{a b:Nat}(O:o.op=.binOp .sub J x y ty) (hd:o.dst=some d) (q:d<n) (hx:opv st x=some (I .i64 (a:Nat))) (W:opv st y=some (I .i64 (b:Nat))) (Y:b≤a∧a≤9223372036854775807):
  Step P n o st ⟨opr x++opr y,[]⟩ ⟨some (d,some (I .i64 ((a-b:Nat):Int))),[]⟩:=aRv O hd q hx W (by rw[show(a:Int)-b=((a-b:Nat):Int) by omega];exact Cs _ (by omega))
theorem a1j {J ty:TypeId}{x y:Operand}{a b:Nat}(O:o.op=.binOp .quo J x y ty) (hd:o.dst=some d) (q:d<n) (hx:opv st x=some (I .i64 (a:Nat))) (W:opv st y=some (I .i64 (b:Nat))) (Y:a≤9223372036854775807∧1≤b):
  Step P n o st ⟨opr x++opr y,[]⟩ ⟨some (d,some (I .i64 ((a/b:Nat):Int))),[]⟩:=by
 have:=aUt (P:=P) (n:=n) O hd q hx W (by omega);rwa [←Int.natCast_ediv] at this
theorem a1h {J ty:TypeId}{x y:Operand}{a b:Nat}(O:o.op=.binOp .rem J x y ty) (hd:o.dst=some d) (q:d<n) (hx:opv st x=some (I .i64 (a:Nat))) (W:opv st y=some (I .i64 (b:Nat))) (Y:1≤b):
  Step P n o st ⟨opr x++opr y,[]⟩ ⟨some (d,some (I .i64 ((a%b:Nat):Int))),[]⟩:=by
 have:=aUs (P:=P) (n:=n) O hd q hx W (by omega);rwa [←Int.natCast_emod] at this
theorem a5i {t1 t2:TypeId}{x y:Operand}{k:IntKind}{a b r:Int}(J:o.op=.call { callee:=.builtin .max,args:= #[x,y],argTypes:= #[t1,t2] }) (hd:o.dst=some d) (q:d<n) (hx:opv st x=some (I k a)) (O:opv st y=some (I k b)) (W:(if b>a then b else a)=r):
  Step P n o st ⟨opr x++opr y,[]⟩ ⟨some (d,some (I k r)),[]⟩:=by
 refine Step.value hd q fun st' ha G S μ ac w hs=>?_
 have h1:=fN (aQ hs hx fun t h=>ha.1 t (by simp[h]));have h2:=fN (aQ hs O fun t h=>ha.1 t (by simp[h]));refine⟨.int k r,?_,by simp[aZ,b9,Rep]⟩;simp only[execOp,J,resolve,map_toArray,Al,Bj,h1,h2,Ag,Ai,ω,invoke,builtin,Builtin.max_,List.foldlM_cons,List.foldlM_nil,Builtin.max2,W]
end
inductive Fz where
 | map (agg:Bool) (ents:List (List C))
 | var (l:List C)
 | ra (n es:Nat) (l:List R)
mutual
def R.fz (id:Nat) (z:Fz):R→R
 | .mr j=>match z with
  | .map agg ents=>if Nat.beq j id then .c (.mp agg ents) else .mr j
  | _=>.mr j
 | .vp j off=>match z with
  | .var l=>if Nat.beq j id then .c (.pt (l.drop off)) else .vp j off
  | _=>.vp j off
 | .ra j off len sz=>match z with
  | .ra n es l=>if Nat.beq j id then(if Nat.beq off 0&&Nat.beq len n&&Nat.beq sz n then .ras n es l else .c .any) else .ra j off len sz
  | _=>.ra j off len sz
 | .rp j i fo sz=>match z with
  | .ra _ _ _=>if Nat.beq j id then .c .any else .rp j i fo sz
  | _=>.rp j i fo sz
 | .ras n es l=>.ras n es (R.fzL id z l)
 | .pas l=>.pas (R.fzL id z l)
 | .clo f caps=>.clo f (R.fzL id z caps)
 | .mth f x=>.mth f (R.fz id z x)
 | r=>r
def R.fzL (id:Nat) (z:Fz):List R→List R
 | []=>[]
 | r::rs=>R.fz id z r::R.fzL id z rs
end
mutual
def V.fz (id:Nat) (z:Fz):V→V
 | .one r=>.one (r.fz id z)
 | .pa l=>.pa l
 | .ma l=>.ma (R.fzL id z l)
 | .tup l=>.tup (V.fzL id z l)
def V.fzL (id:Nat) (z:Fz):List V→List V
 | []=>[]
 | r::rs=>V.fz id z r::V.fzL id z rs
end
def fzE (id:Nat) (z:Fz):List (Nat×V)→List (Nat×V)
 | []=>[]
 | (t,v)::l=>(t,v.fz id z)::fzE id z l
def fzR (id:Nat) (z:Fz):List (List R)→List (List R)
 | []=>[]
 | r::l=>R.fzL id z r::fzR id z l
theorem aOo {id:Nat}{z:Fz}:∀{l:List (Nat×V)}{t:Nat}{v:V},(t,v)∈fzE id z l→∃v0,(t,v0)∈l∧v=v0.fz id z
 | (k,u)::l,t,v,h=>by
  simp only[fzE,Ah] at h;rcases h with h | h
  ·cases h;exact⟨u,by simp,rfl⟩
  ·obtain⟨v0,h1,h2⟩:=aOo h;exact⟨v0,by simp[h1],h2⟩
theorem R.fzL_length {id:Nat}{z:Fz}:∀{l:List R},(R.fzL id z l).length=l.length
 | []=>rfl
 | _::l=>by simp[R.fzL,R.fzL_length (l:=l)]
theorem R.fzL_append {id:Nat}{z:Fz}:∀{l m:List R},R.fzL id z (l++m)=R.fzL id z l++R.fzL id z m
 | [],_=>rfl
 | _::l,m=>by simp[R.fzL,R.fzL_append (l:=l)]
theorem gN {id:Nat}{z:Fz}:∀{l:List (List R)},(fzR id z l).length=l.length
 | []=>rfl
 | _::l=>by simp[fzR,gN (l:=l)]
theorem aH2 {id:Nat}{z:Fz}:∀{l:List (List R)},(fzR id z l).flatten=R.fzL id z l.flatten
 | []=>rfl
 | _::l=>by simp[fzR,aH2 (l:=l),R.fzL_append]
theorem o8 {id:Nat}{z:Fz}{es:Nat}:∀{l:List (List R)},(∀r∈l,r.length=es)→∀r∈fzR id z l,r.length=es
 | [],_,r,h=>by simp[fzR] at h
 | x::l,k,r,h=>by
  simp only[fzR,Ah] at h;rcases h with rfl | h
  ·rw[R.fzL_length];exact k _ (by simp)
  ·exact o8 (l:=l) (fun r q=>k r (by simp[q])) r h
def AObj.fz (id:Nat) (z:Fz):AObj→AObj
 | .var t cells=>.var t (R.fzL id z cells)
 | .lp st j i e=>.lp st j i (fzE id z e)
 | .rarr te es l=>.rarr te es (fzR id z l)
 | .tok r k=>.tok (r.fz id z) k
 | o=>o
def Fz.of:Fz→AObj→Prop
 | .map agg ents,o=>o=.map agg ents
 | .var l,o=>∃t,o=.var t (l.map R.c)
 | .ra n es l,o=>∃te elems,o=.rarr te es elems∧l=elems.flatten∧n=elems.length
def hfz (id:Nat) (z:Fz) (H:cK):cK:=fun j=>if Nat.beq j id then none else(H j).map (AObj.fz id z)
section
variable {S S':Sto}{μ:Mu}{H:cK}{id:Nat}{z:Fz}
theorem kH {j:Nat}(h:j≠id):hfz id z H j=(H j).map (AObj.fz id z):=by
 have:Nat.beq j id=false:=by
  cases hb:Nat.beq j id with
  | false=>rfl
  | true=>exact absurd (Ac hb) h
 simp[hfz,this]
theorem aVm:hfz id z H id=none:=by simp[hfz]
theorem aEm {j te es fz:Nat}{l:List (List C)}{o:AObj}(hid:H id=some o) (q:z.of o) (h:H j=some (.arr te es l fz)):hfz id z H j=some (.arr te es l fz):=by
 have I:j≠id:=by
  rintro rfl;rw[h] at hid;cases hid;cases z with
  | map agg ents=>cases q
  | var l=>obtain⟨t,h⟩:=q;cases h
  | ra n es l=>obtain⟨_,_,h,_⟩:=q;cases h
 rw[kH I,h];rfl
theorem yS {j:Nat}{o:AObj}(hid:H id=some o) (q:z.of o) (h:H j=some .dead):hfz id z H j=some .dead:=by
 have I:j≠id:=by
  rintro rfl;rw[h] at hid;cases hid;cases z with
  | map agg ents=>cases q
  | var l=>obtain⟨t,h⟩:=q;cases h
  | ra n es l=>obtain⟨_,_,h,_⟩:=q;cases h
 rw[kH I,h];rfl
def aZ6 (S':Sto) (μ:Mu) (H:cK) (id:Nat):Fz→Prop
 | .map agg ents=>∀b c,μ id=some (b,c)→∃es clk,S'.mapo b=some (.all es clk)∧(bB S' agg ents es.toList∨aKn S' agg ents es)
 | .var l=>∀b c,μ id=some (b,c)→∃vs,cB S' l vs∧gJ S' b 0 vs
 | .ra n es l=>n*es=l.length∧∀b base cap,μ id=some (b,base,cap)→n≤cap∧cap≤maxLen∧∃vs,aW S' μ (hfz id (.ra n es l) H) l vs∧gJ S' b base vs
mutual
theorem b9.fz (hle:S.le S') {o:AObj}(hid:H id=some o) (q:z.of o):∀(r:R) (v:Value),(id∈r.refs→aZ6 S' μ H id z)→b9 S μ H r v→b9 S' μ (hfz id z H) (r.fz id z) v
 | .c x,v,_,k=>by simp only[b9,R.fz] at k ⊢;exact Rep.mono hle x v k
 | .hs j off len sz,v,_,k=>by
  simp only[b9,R.fz] at k ⊢;obtain⟨J,k | ⟨te,es,elems,fz,h1,h2⟩⟩:=k
  ·exact⟨J,.inl (yS hid q k)⟩
  ·exact⟨J,.inr ⟨te,es,elems,fz,aEm hid q h1,h2⟩⟩
 | .tl j off len sz,v,_,k=>by
  simp only[b9,R.fz] at k ⊢;obtain⟨J,k | ⟨te,es,elems,fz,h1,h2⟩⟩:=k
  ·exact⟨J,.inl (yS hid q k)⟩
  ·exact⟨J,.inr ⟨te,es,elems,fz,aEm hid q h1,h2⟩⟩
 | .ep j i fo sz,v,_,k=>by
  simp only[b9,R.fz] at k ⊢;obtain⟨J,k | ⟨te,es,elems,fz,h1,h2⟩⟩:=k
  ·exact⟨J,.inl (yS hid q k)⟩
  ·exact⟨J,.inr ⟨te,es,elems,fz,aEm hid q h1,h2⟩⟩
 | .vp j off,v,hk,k=>by
  simp only[b9] at k;obtain⟨t,cells,b,c,h1,h2,h3⟩:=k;by_cases I:j=id
  ·subst I;rw[h1] at hid;cases hid;cases z with
   | map agg ents=>cases q
   | ra n es l=>obtain⟨_,_,h,_⟩:=q;cases h
   | var l=>
    simp only[R.fz,Cb,Ct,b9,Rep];obtain⟨vs,g1,g2⟩:=hk (by simp[R.refs]) b c h2;refine⟨b,off,h3,vs.drop off,g1.drop off,fun i u hu=>?_⟩;rw[An] at hu;have:=g2 _ u hu;rwa [Ba] at this
  ·have hb:Nat.beq j id=false:=by
    cases hb:Nat.beq j id with
    | false=>rfl
    | true=>exact absurd (Ac hb) I
   have e:(R.vp j off).fz id z=.vp j off:=by cases z<;>simp[R.fz,hb]
   rw[e];simp only[b9];exact⟨t,_,b,c,by rw[kH I,h1];rfl,h2,h3⟩
 | .mr j,v,hk,k=>by
  simp only[b9] at k;obtain⟨agg,ents,b,c,h1,h2,h3⟩:=k;by_cases I:j=id
  ·subst I;rw[h1] at hid;cases hid;cases z with
   | var l=>obtain⟨t,h⟩:=q;cases h
   | ra n es l=>obtain⟨_,_,h,_⟩:=q;cases h
   | map agg' ents'=>
    cases q;simp only[R.fz,Cb,Ct,b9,Rep];obtain⟨es,clk,g1,g2⟩:=hk (by simp[R.refs]) b c h2;exact⟨b,es,clk,h3,g1,g2⟩
  ·have hb:Nat.beq j id=false:=by
    cases hb:Nat.beq j id with
    | false=>rfl
    | true=>exact absurd (Ac hb) I
   have e:(R.mr j).fz id z=.mr j:=by cases z<;>simp[R.fz,hb]
   rw[e];simp only[b9];exact⟨agg,ents,b,c,by rw[kH I,h1];rfl,h2,h3⟩
 | .clo f caps,v,hk,k=>by
  simp only[b9,R.fz] at k ⊢;obtain⟨vs,h1,h2⟩:=k;exact⟨vs,h1,aW.fz hle hid q caps vs (by simpa only[R.refs] using hk) h2⟩
 | .ras n es l,v,hk,k=>by
  simp only[b9,R.fz] at k ⊢;obtain⟨a,cap,h1,h2,h3,h4,h5,h6,b,o,h7,vs,Y,Z⟩:=k;exact⟨a,cap,h1,by rw[R.fzL_length];exact h2,h3,h4,h5,h6,b,o,h7,vs,aW.fz hle hid q l vs (by simpa only[R.refs] using hk) Y,Z.mono hle⟩
 | .pas l,v,hk,k=>by
  simp only[b9,R.fz] at k ⊢;obtain⟨b,o,h1,vs,Y,Z⟩:=k;exact⟨b,o,h1,vs,aW.fz hle hid q l vs (by simpa only[R.refs] using hk) Y,Z.mono hle⟩
 | .mth f recv,v,hk,k=>by
  simp only[b9,R.fz] at k ⊢;obtain⟨u,h1,h2⟩:=k;exact⟨u,h1,b9.fz hle hid q recv u (by simpa only[R.refs] using hk) h2⟩
 | .rp j i fo sz,v,hk,k=>by
  simp only[b9] at k;obtain⟨J,k⟩:=k;by_cases I:j=id
  ·subst I;have key:b9 S' μ (hfz j z H) (.c .any) v:=by
    obtain⟨a,rfl⟩:=J;simp only[b9,Rep];exact⟨rfl,rfl⟩
   rcases k with k | ⟨te,es,elems,h1,h2,h3⟩
   ·rw[k] at hid;cases hid;cases z with
    | map agg ents=>cases q
    | var l=>obtain⟨t,h⟩:=q;cases h
    | ra n es l=>obtain⟨_,_,h,_⟩:=q;cases h
   ·rw[h1] at hid;cases hid;cases z with
    | map agg ents=>cases q
    | var l=>obtain⟨t,h⟩:=q;cases h
    | ra n es l=>simpa only[R.fz,Cb,Ct] using key
  ·have hb:Nat.beq j id=false:=by
    cases hb:Nat.beq j id with
    | false=>rfl
    | true=>exact absurd (Ac hb) I
   have e:(R.rp j i fo sz).fz id z=.rp j i fo sz:=by cases z<;>simp[R.fz,hb]
   rw[e];simp only[b9];rcases k with k | ⟨te,es,elems,h1,h2,h3⟩
   ·exact⟨J,.inl (by rw[kH I,k];rfl)⟩
   ·exact⟨J,.inr ⟨te,es,fzR id z elems,by rw[kH I,h1];rfl,by rw[gN];exact h2,fun e=>h3 (by rw[gN] at e;exact e)⟩⟩
 | .yl j,v,_,k=>by
  simp only[b9,R.fz] at k ⊢;obtain⟨st,jp,i,e,b,c,h1,h2,h3⟩:=k;have hne:j≠id:=by
   rintro rfl;rw[h1] at hid;cases hid;cases z with
   | map agg ents=>cases q
   | var l=>obtain⟨t,h⟩:=q;cases h
   | ra n es l=>obtain⟨_,_,h,_⟩:=q;cases h
  exact⟨st,jp,i,_,b,c,by rw[kH hne,h1];rfl,h2,h3⟩
 | .ra j off len sz,v,hk,k=>by
  simp only[b9] at k;obtain⟨J,k⟩:=k;by_cases I:j=id
  ·subst I;have key:b9 S' μ (hfz j z H) (.c .any) v:=by
    obtain⟨a,l,c,rfl⟩:=J;simp only[b9,Rep];exact⟨rfl,rfl⟩
   rcases k with k | ⟨te,es,elems,h1,h2,h3⟩
   ·rw[k] at hid;cases hid;cases z with
    | map agg ents=>cases q
    | var l=>obtain⟨t,h⟩:=q;cases h
    | ra n es l=>obtain⟨_,_,h,_⟩:=q;cases h
   ·rw[h1] at hid;cases hid;cases z with
    | map agg ents=>cases q
    | var l=>obtain⟨t,h⟩:=q;cases h
    | ra n es' l=>
     obtain⟨te',elems',q1,O,W⟩:=q;cases q1;simp only[R.fz,Cb,Ct];split
     ·rename_i hc;simp only[ε] at hc;obtain⟨⟨c1,c2⟩,c3⟩:=hc;have c1:=Ac c1;have c2:=Ac c2;have c3:=Ac c3;subst c1;subst c2;subst c3;obtain⟨f1,f2⟩:=hk (by simp[R.refs]);obtain⟨_,⟨m1,m2,m3⟩ | ⟨b,base,cap,m1,m2⟩⟩:=h3 W
      ·subst m2;simp only[length_nil] at W;subst W;subst O;simp only[b9];exact⟨none,0,m3,by simp,le_refl _,Ak _,(fun _=>⟨by first | rfl | simp,rfl⟩),(by simp),0,0,(by simp),[],(by simp[aW]),(by intro i v e;simp at e)⟩
      ·obtain⟨f3,f4,vs,f5,f6⟩:=f2 b base cap m1;simp only[b9];exact⟨some ⟨b,base,none⟩,cap,by rw[m2];simp,f1,f3,f4,by simp,(fun ad h=>by cases h;rfl),b,base,(fun ad h=>by cases h;exact⟨rfl,rfl⟩),vs,f5,f6⟩
     ·exact key
  ·have hb:Nat.beq j id=false:=by
    cases hb:Nat.beq j id with
    | false=>rfl
    | true=>exact absurd (Ac hb) I
   have e:(R.ra j off len sz).fz id z=.ra j off len sz:=by cases z<;>simp[R.fz,hb]
   rw[e];simp only[b9];rcases k with k | ⟨te,es,elems,h1,h2,h3⟩
   ·exact⟨J,.inl (by rw[kH I,k];rfl)⟩
   ·refine⟨J,.inr ⟨te,es,fzR id z elems,by rw[kH I,h1];rfl,by rw[gN];exact h2,fun e=>?_⟩⟩;rw[gN] at e;obtain⟨q1,O⟩:=h3 e;refine⟨q1,?_⟩;rcases O with⟨O,W,q4⟩ | O
    ·exact .inl ⟨O,by rw[W];rfl,q4⟩
    ·exact .inr O
theorem aW.fz (hle:S.le S') {o:AObj}(hid:H id=some o) (q:z.of o):∀(r:List R) (v:List Value),(id∈R.refsL r→aZ6 S' μ H id z)→aW S μ H r v→aW S' μ (hfz id z H) (R.fzL id z r) v
 | [],_,_,k=>by simpa only[aW,R.fzL] using k
 | r::rs,vs,hk,k=>by
  simp only[aW,R.fzL] at k ⊢;obtain⟨v,vs',h1,h2,h3⟩:=k;exact⟨v,vs',h1,b9.fz hle hid q r v (fun h=>hk (by simp[R.refsL,h])) h2,aW.fz hle hid q rs vs' (fun h=>hk (by simp[R.refsL,h])) h3⟩
end
mutual
theorem aZ.fz (hle:S.le S') {o:AObj}(hid:H id=some o) (q:z.of o) (hk:aZ6 S' μ H id z):∀(r:V) (v:Value),aZ S μ H r v→aZ S' μ (hfz id z H) (r.fz id z) v
 | .one r,v,k=>by simp only[aZ,V.fz] at k ⊢;exact b9.fz hle hid q r v (fun _=>hk) k
 | .pa l,v,k=>by
  simp only[aZ,V.fz] at k ⊢;obtain⟨vs,h1,h2⟩:=k;exact⟨vs,h1,cB.mono hle l vs h2⟩
 | .ma l,v,k=>by
  simp only[aZ,V.fz] at k ⊢;obtain⟨vs,h1,h2⟩:=k;exact⟨vs,h1,aW.fz hle hid q l vs (fun _=>hk) h2⟩
 | .tup l,v,k=>by
  simp only[aZ,V.fz] at k ⊢;obtain⟨vs,h1,h2⟩:=k;exact⟨vs,h1,bS.fz hle hid q hk l vs h2⟩
theorem bS.fz (hle:S.le S') {o:AObj}(hid:H id=some o) (q:z.of o) (hk:aZ6 S' μ H id z):∀(r:List V) (v:List Value),bS S μ H r v→bS S' μ (hfz id z H) (V.fzL id z r) v
 | [],_,k=>by simpa only[bS,V.fzL] using k
 | r::rs,vs,k=>by
  simp only[bS,V.fzL] at k ⊢;obtain⟨v,vs',h1,h2,h3⟩:=k;exact⟨v,vs',h1,aZ.fz hle hid q hk r v h2,bS.fz hle hid q hk rs vs' h3⟩
end
theorem AObj.succ_fz {p:Prop}{o o':AObj}(h:o.succ p o'):o.succ p (o'.fz id z):=by
 cases o<;>cases o'<;>simp only[AObj.succ,AObj.fz,gN] at h ⊢<;>exact h
theorem mW.fz {w:World}{j:Nat}{x:AObj}(hle:S.le S') {o:AObj}(hid:H id=some o) (I:z.of o) (hk:aZ6 S' μ H id z) (h:mW S μ H w j x) (hb:∀b c,μ j=some (b,c)→(∀o,S'.cell b o=S.cell b o)∧S'.mapo b=S.mapo b):mW S' μ (hfz id z H) w j (x.fz id z):=by
 cases x with
 | var t cells=>
  obtain⟨b,vs,h1,h2,h3,h4⟩:=h;exact⟨b,vs,h1,h2,aW.fz hle hid I _ _ (fun _=>hk) h3,fun o=>by rw[(hb b _ h1).1,h4.1],by rw[(hb b _ h1).2,h4.2]⟩
 | arr te es elems fz=>
  obtain⟨h0,h1 | ⟨b,base,cap,vs,h1,h2,h3,h4,h5,q,J,W,Y⟩⟩:=h
  ·exact⟨h0,.inl h1⟩
  ·exact⟨h0,.inr ⟨b,base,cap,vs,h1,h2,h3,h4,⟨h5.1,by rw[(hb b _ h1).2,h5.2]⟩,cB.mono hle _ _ q,fun e o O=>by rw[(hb b _ h1).1,J e o O],fun o e=>by rw[(hb b _ h1).1,W o e],fun e=>(Y e).mono hle⟩⟩
 | map agg ents=>
  obtain⟨b,es,clk,h1,h2,h3,h4⟩:=h;exact⟨b,es,clk,h1,h2,zZ.mono hle h3,h4.of_eq (hb b _ h1).2⟩
 | dead=>exact h
 | lp st jp i e=>
  obtain⟨b,r,fn,tmps,h1,h2,h3,h4,h5,q⟩:=h;refine⟨b,r,fn,tmps,h1,h2,h3,fun t v ht=>?_,fun o=>by rw[(hb b _ h1).1,h5],by rw[(hb b _ h1).2,q]⟩;obtain⟨v0,Z,rfl⟩:=aOo ht;exact aZ.fz hle hid I hk _ _ (h4 t v0 Z)
 | dfr=>
  obtain⟨b,h1,h2,h3,h4⟩:=h;exact⟨b,h1,h2,fun o=>by rw[(hb b _ h1).1,h3],by rw[(hb b _ h1).2,h4]⟩
 | rarr te es elems=>
  obtain⟨h0,h1 | ⟨b,base,cap,vs,h1,h2,h3,h4,h5,q,J⟩⟩:=h
  ·exact⟨o8 h0,.inl ⟨h1.1,by rw[h1.2];rfl⟩⟩
  ·refine⟨o8 h0,.inr ⟨b,base,cap,vs,h1,h2,h3,by rw[gN];exact h4,⟨h5.1,by rw[(hb b _ h1).2,h5.2]⟩,?_,fun o O=>by rw[(hb b _ h1).1,J o O]⟩⟩;rw[aH2,gN];exact aW.fz hle hid I _ _ (fun _=>hk) q
 | tok r k=>
  obtain⟨h1,b,h2,m,h3,h4⟩:=h;obtain⟨m',h5,q⟩:=hle.2 b m h3;exact⟨h1,b,b9.fz hle hid I _ _ (fun _=>hk) h2,m',h5,MK.le_has q h4⟩
theorem Sto.free_of {S S':Sto}(h:S.free) {b:Nat}(hb:∀q,q≠b→(∀o,S'.cell q o=S.cell q o)∧S'.mapo q=S.mapo q) (ht:∀te lo hi,¬S'.mapo b=some (.top te lo hi)):S'.free:=fun q te lo hi e o J=>by
 by_cases I:q=b
 ·subst I;exact absurd e (ht te lo hi)
 ·obtain⟨h1,h2⟩:=hb q I;rw[h1,h q te lo hi (by rw[←h2];exact e) o J]
theorem oZ {G:Ctx}{n:Nat}{kf:List Nat}{st:St}{a:Act}{w:World}{o:AObj}(hid:st.h id=some o) (O:z.of o) (aa:id∉kf) (hg:G.keeps kf) (hs:Sim G n S μ st a w) (hle:S.le S') (hh:Holds S' w) (hk:aZ6 S' μ st.h id z)
  (hb:∀b,(∀c,μ id≠some (b,c))→(∀o,S'.cell b o=S.cell b o)∧S'.mapo b=S.mapo b) (Y:S'.free):Sim G n S' μ ⟨fun t=>(st.e t).map (V.fz id z),hfz id z st.h,st.d⟩ a w:=by
 have hold:∀j x,hfz id z st.h j=some x→j≠id∧∃J,st.h j=some J∧x=J.fz id z:=by
  intro j x q;have I:j≠id:=by rintro rfl;rw[aVm] at q;cases q
  rw[kH I] at q;cases h:st.h j with
  | none=>rw[h] at q;cases q
  | some J=>
   rw[h] at q;cases q;exact⟨I,J,rfl,rfl⟩
 have Z:∀j J,st.h j=some J→j≠id→∀b c,μ j=some (b,c)→∀c',μ id≠some (b,c'):=by
  intro j J q I b c hm c' W;exact I (hs.inv.inj j id J o b c c' q hid hm W)
 refine⟨⟨hh,fun j x q=>?_,fun i j x x' b c c' hi q hm W=>?_,fun i x b c hi hm=>?_,hs.inv.frame,Sto.le_trans hs.inv.sle hle,fun b ab hF=>?_,⟨Sto.le_trans hs.inv.evo.le hle,fun j x q=>?_⟩,Y⟩,hs.size,hs.defers.go fun j _ q=>⟨rfl,?_⟩,fun t v e=>?_⟩
 ·obtain⟨I,J,h1,rfl⟩:=hold j x q;exact(hs.inv.obj j J h1).fz hle hid O hk fun b c hm=>hb b (Z j J h1 I b c hm)
 ·obtain⟨_,y,h1,_⟩:=hold i x hi;obtain⟨_,y',h2,_⟩:=hold j x' q;exact hs.inv.inj i j y y' b c c' h1 h2 hm W
 ·obtain⟨_,y,h1,_⟩:=hold i x hi;exact hs.inv.own i y b c h1 hm
 ·have hno:∀c,μ id≠some (b,c):=by
   intro c hm;rcases hs.inv.own id o b c hid hm with h | h
   ·omega
   ·exact hF h
  obtain⟨h1,h2⟩:=hb b hno;obtain⟨h3,h4⟩:=hs.inv.sto b ab hF;exact⟨fun o=>(h1 o).trans (h3 o),h2.trans h4⟩
 ·obtain⟨o',h1,h2⟩:=hs.inv.evo.obj j x q;have I:j≠id:=fun e=>aa (e▸hg.1 j x q)
  exact⟨o'.fz id z,by show hfz id z st.h j=_;rw[kH I,h1];rfl,AObj.succ_fz h2⟩
 ·have I:j≠id:=by
   rintro rfl;rw[q] at hid;cases hid;cases z with
   | map agg ents=>cases O
   | var l=>obtain⟨t,h⟩:=O;cases h
   | ra n es l=>obtain⟨_,_,h,_⟩:=O;cases h
  show hfz id z st.h j=_;rw[kH I,q];rfl
 ·cases h:st.e t with
  | none=>simp[h] at e
  | some v0=>
   simp only[h,Option.map_some,Option.some.injEq] at e;subst e;exact aZ.fz hle hid O hk v0 _ (hs.env t v0 h)
theorem aHl {S:Sto}{w:World}{b:Nat}{es:Array MapEntry}{clk:Nat}(hh:Holds S w) (h:w.heap[b]?=some (.map es clk)):∃S':Sto,S'.cell=S.cell∧S'.mapo b=some (.all es clk)∧(∀q,q≠b→S'.mapo q=S.mapo q)∧S.le S'∧Holds S' w:=by
 have I:∀q,q≠b→(if q=b then some (MK.all es clk) else S.mapo q)=S.mapo q:=fun q e=>ψ e
 refine⟨⟨S.cell,fun q=>if q=b then some (.all es clk) else S.mapo q⟩,rfl,ξ rfl,I,⟨fun _ _ _ e=>e,fun q m e=>?_⟩,hh.1,fun q m e=>?_⟩
 ·by_cases hb:q=b
  ·subst hb;refine⟨.all es clk,ξ rfl,?_⟩;have:=hh.2 _ _ e;cases m with
   | all O J=>simp only[MK.holds] at this;rw[h] at this;cases this;rfl
   | part ks=>
    obtain⟨O,J,h1,h2⟩:=this;rw[h] at h1;cases h1;exact h2
   | top te lo hi=>
    obtain⟨vs,h1,_⟩:=this;rw[h] at h1;cases h1
  ·exact⟨m,by rw[←e];exact I q hb,m.le_refl⟩
 ·by_cases hb:q=b
  ·subst hb;have e':(if q=q then some (MK.all es clk) else S.mapo q)=some m:=e;rw[ξ rfl] at e';cases e';exact h
  ·have e':(if q=b then some (MK.all es clk) else S.mapo q)=some m:=e;rw[ψ hb] at e';exact hh.2 q m e'
theorem Sub.fmap {kf:List Nat}{st:St}{id:Nat}{agg:Bool}{ents:List (List C)}(hid:st.h id=some (.map agg ents)) (W:id∉kf) (Y:iA ents):Sub kf ⟨fun t=>(st.e t).map (V.fz id (.map agg ents)),hfz id (.map agg ents) st.h,st.d⟩ st:=by
 intro G n S μ a w Z hs;obtain⟨b,es,clk,h1,h2,h3,h4⟩:=hs.inv.obj id _ hid;obtain⟨S',I,J,O,hle,hh⟩:=aHl hs.inv.holds h2;refine⟨S',μ,oZ hid rfl W Z hs hle hh ?_ (fun q hb=>⟨fun _=>by rw[I],?_⟩) (Sto.free_of hs.inv.fre (b:=b) (fun q hb=>⟨fun _=>by rw[I],O q hb⟩) fun te lo hi e=>by rw[J] at e;cases e)⟩
 ·intro q c hm;rw[h1] at hm;cases hm;exact⟨es,clk,J,.inl (bB.mono hle _ _ _ (h3.rep Y))⟩
 ·exact O q fun e=>hb (0,0) (by rw[e];exact h1)
theorem Sub.fvar {kf:List Nat}{st:St}{id t:Nat}{l:List C}(hid:st.h id=some (.var t (l.map R.c))) (I:id∉kf):Sub kf ⟨fun t=>(st.e t).map (V.fz id (.var l)),hfz id (.var l) st.h,st.d⟩ st:=by
 intro G n S μ a w O hs;obtain⟨b,vs,h1,h2,h3,h4⟩:=hs.inv.obj id _ hid;have h3':=h3.pure
 let S':Sto:=⟨fun q o=>if q=b then vs[o]? else S.cell q o,S.mapo⟩
 have hle:S.le S':=⟨fun q o v e=>by
  show(if q=b then vs[o]? else S.cell q o)=some v;by_cases hb:q=b
  ·subst hb;rw[h4.1] at e;cases e
  ·rw[ψ hb];exact e,fun _ m e=>⟨m,e,m.le_refl⟩⟩
 refine⟨S',μ,oZ hid ⟨t,rfl⟩ I O hs hle ⟨fun q o v e=>?_,hs.inv.holds.2⟩ ?_ (fun q hb=>⟨fun o=>?_,rfl⟩) (Sto.free_of hs.inv.fre (b:=b) (fun q hb=>⟨fun _=>ψ hb,rfl⟩) fun te lo hi e=>by have e:S.mapo b=_:=e;rw[h4.2] at e;cases e)⟩
 ·have e':(if q=b then vs[o]? else S.cell q o)=some v:=e;by_cases hb:q=b
  ·subst hb;rw[ξ rfl] at e';exact⟨⟨vs⟩,t,(0,0),h2,by simpa using e'⟩
  ·rw[ψ hb] at e';exact hs.inv.holds.1 q o v e'
 ·intro q c hm;rw[h1] at hm;cases hm;refine⟨vs,cB.mono hle _ _ h3',fun i u hu=>?_⟩;show(if b=b then vs[0+i]? else S.cell b (0+i))=some u;rw[ξ rfl,Ba];exact hu
 ·have J:q≠b:=fun e=>hb (0,0) (by rw[e];exact h1)
  exact ψ J
theorem Sub.fra {kf:List Nat}{st:St}{id te es:Nat}{elems:List (List R)}(hid:st.h id=some (.rarr te es elems)) (O:id∉kf) (J:R.fzL id (.ra elems.length es elems.flatten) elems.flatten=elems.flatten) (Y:id∉R.refsL elems.flatten):
  Sub kf ⟨fun t=>(st.e t).map (V.fz id (.ra elems.length es elems.flatten)),hfz id (.ra elems.length es elems.flatten) st.h,st.d⟩ st:=by
 intro G n S μ a w Z hs;have W:(Fz.ra elems.length es elems.flatten).of (.rarr te es elems):=⟨te,elems,rfl,rfl,rfl⟩
 obtain⟨h0,⟨h1,h2⟩ | ⟨b,base,cap,vs,h1,h2,h3,h4,h5,h6,h7⟩⟩:=hs.inv.obj id _ hid
 ·refine⟨S,μ,oZ hid W O Z hs S.le_refl hs.inv.holds ?_ (fun I _=>⟨fun _=>rfl,rfl⟩) hs.inv.fre⟩;refine⟨?_,fun b base cap hm=>?_⟩
  ·rw[h2];simp
  ·rw[h1] at hm;cases hm
 ·let S':Sto:=⟨fun I o=>if I=b then vs[o]? else S.cell I o,S.mapo⟩
  have hle:S.le S':=⟨fun I o v e=>by
   show(if I=b then vs[o]? else S.cell I o)=some v;by_cases hb:I=b
   ·subst hb;rw[ξ rfl];obtain⟨vs',t',fr',q1,q2⟩:=hs.inv.holds.1 I o v e;rw[h2] at q1;cases q1;simpa using q2
   ·rw[ψ hb];exact e,fun _ m e=>⟨m,e,m.le_refl⟩⟩
  have hlen:elems.length*es=elems.flatten.length:=by
   have key:∀l:List (List R),(∀r∈l,r.length=es)→l.length*es=l.flatten.length:=by
    intro l
    induction l with
    | nil=>intro _;simp
    | cons r l ih=>
     intro h;have:=h r (by simp);have:=ih fun q hq=>h q (by simp[hq])
     simp only[Am,Bk,Ab,Av];omega
   exact key elems h0
  refine⟨S',μ,oZ hid W O Z hs hle ⟨fun I o v e=>?_,hs.inv.holds.2⟩ ⟨hlen,fun I base' cap' hm=>?_⟩ (fun I hb=>⟨fun o=>?_,rfl⟩) (Sto.free_of hs.inv.fre (b:=b) (fun I hb=>⟨fun _=>ψ hb,rfl⟩) fun te lo hi e=>by have e:S.mapo b=_:=e;rw[h5.2] at e;cases e)⟩
  ·have e':(if I=b then vs[o]? else S.cell I o)=some v:=e;by_cases hb:I=b
   ·subst hb;rw[ξ rfl] at e';exact⟨⟨vs⟩,te,(0,0),h2,by simpa using e'⟩
   ·rw[ψ hb] at e';exact hs.inv.holds.1 I o v e'
  ·rw[h1] at hm;cases hm;refine⟨h4,h5.1,(vs.drop base).take (elems.length*es),?_,?_⟩
   ·have:=aW.fz hle hid W _ _ (fun h=>absurd h Y) h6;rwa [J] at this
   ·intro i u hu;show(if b=b then vs[base+i]? else S.cell b (base+i))=some u;rw[ξ rfl];rw[Au] at hu;split at hu
    ·rwa [An] at hu
    ·cases hu
  ·have hne:I≠b:=fun e=>hb (base,cap) (by rw[e];exact h1)
   exact ψ hne
end
theorem dW {α:Type}{k i:Nat}{x:α}{l:List (Nat×α)}(h:i≠k):look ((k,x)::l) i=look l i:=by
 have:Nat.beq i k=false:=by
  cases hb:Nat.beq i k with
  | false=>rfl
  | true=>exact absurd (Ac hb) h
 simp[look,this]
theorem dI {α:Type}{k:Nat}{x:α}{l:List (Nat×α)}:look ((k,x)::l) k=some x:=by simp[look]
section
variable {P:Program}{n:Nat}{o:Oper}{st:St}{d:Nat}
end
end Go.AM
