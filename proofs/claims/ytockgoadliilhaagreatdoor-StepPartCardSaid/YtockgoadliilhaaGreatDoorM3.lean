/-
  Texts Am12 to Am20 in one.
-/
import Derived.Test.YtockgoadliilhaaGreatDoorM2
import Derived.RangeFuncRecord
import Derived.IntWalk
import Derived.Laws.StructEq
open List (all_eq_true append_assoc append_nil cons_append drop_succ_cons flatten_cons length_append length_cons length_nil length_take map_cons map_nil map_toArray mem_append mem_cons mem_map nil_append set_eq_take_append_cons_drop take_of_length_le take_succ_cons)
open Nat (add_mul beq_refl eq_of_beq_eq_true le_of_ble_eq_true le_of_lt le_refl le_trans lt_of_lt_of_le min_eq_left zero_add zero_le)
namespace Go.AM
open Go
def sV (μ:Mu) (h:cO):Nat→Prop:=fun b=>∃id o c,h id=some o∧μ id=some (b,c)
def aW (P:Program) (f:FuncId) (args:List V) (hin:List (Nat×AObj)) (res:V) (hout:List (Nat×AObj)):Prop:=
 ∀S μ w vals,Inv ⟨w,S,sV μ (look hin),μ,look hin⟩ S μ (look hin) w→bS S μ (look hin) args vals→
  Calls P f ⟨vals⟩ w fun e w'=>∃S' μ' v,e=.returned v∧Inv ⟨w,S,sV μ (look hin),μ,look hin⟩ S' μ' (look hout) w'∧aY S' μ' (look hout) res v
mutual
theorem R.ren_id:∀r:R,r.ren (fun i=>i)=r
 | .c _=>rfl
 | .hs ..=>rfl
 | .tl ..=>rfl
 | .vp ..=>rfl
 | .ep ..=>rfl
 | .mr ..=>rfl
 | .clo f caps=>by simp only[R.ren,R.renL_id caps]
 | .mth f x=>by simp only[R.ren,R.ren_id x]
 | .yl _=>rfl
 | .ra _ _ _ _=>rfl
 | .rp _ _ _ _=>rfl
 | .ras n es l=>by simp only[R.ren,R.renL_id l]
 | .pas l=>by simp only[R.ren,R.renL_id l]
theorem R.renL_id:∀r:List R,R.renL (fun i=>i) r=r
 | []=>rfl
 | r::rs=>by simp only[R.renL,R.ren_id r,R.renL_id rs]
end
mutual
theorem V.ren_id:∀r:V,r.ren (fun i=>i)=r
 | .one r=>by simp only[V.ren,R.ren_id r]
 | .pa _=>rfl
 | .ma l=>by simp only[V.ren,R.renL_id l]
 | .tup l=>by simp only[V.ren,V.renL_id l]
theorem V.renL_id:∀r:List V,V.renL (fun i=>i) r=r
 | []=>rfl
 | r::rs=>by simp only[V.renL,V.ren_id r,V.renL_id rs]
end
theorem aIm:∀l:List (Nat×V),aG7 (fun i=>i) l=l
 | []=>rfl
 | (t,v)::l=>by simp only[aG7,V.ren_id v,aIm l]
theorem aBf:∀l:List (List R),mI (fun i=>i) l=l
 | []=>rfl
 | r::l=>by simp only[mI,R.renL_id r,aBf l]
theorem Ole.refl_id {o:AObj}(h:o≠ .dead):Ole (fun i=>i) o o:=by
 cases o with
 | var t cells=>exact .var (R.renL_id cells).symm
 | arr=>exact .arr
 | map=>exact .map
 | dead=>exact absurd rfl h
 | lp st j i e=>exact .lp (aIm e).symm
 | dfr=>exact .dfr
 | rarr te es l=>exact .rarr (aBf l).symm
 | tok r k=>exact .tok (R.ren_id r).symm
inductive Conv (h:cO):List Nat→V→V→Prop
 | refl {v}:Conv h [] v v
 | one {ids r c}:PureL h ids [r] [c]→Conv h ids (.one r) (.one (.c c))
 | agg {ids rs cs}:PureL h ids rs cs→Conv h ids (.ma rs) (.pa cs)
 | pa {ids l cs}:PureL h ids (l.map R.c) cs→Conv h ids (.pa l) (.pa cs)
inductive ArgsV (st:St):List Nat→List Operand→List V→Prop
 | nil:ArgsV st [] [] []
 | cons {ids ids' x xs v v' vs}:opv st x=some v→Conv st.h ids v v'→ArgsV st ids' xs vs→ArgsV st (ids++ids') (x::xs) (v'::vs)
theorem Conv.rel {S:Sto}{μ:Mu}{H H0:cO}{w:World}{ids:List Nat}{v v':V}{u:Value}(h:Conv H0 ids v v') (hi:∀i∈ids,H i=H0 i) (I:∀id o,H id=some o→mG S μ H w id o) (hv:aY S μ H v u):aY S μ H v' u:=by
 cases h with
 | refl=>exact hv
 | @one _ r c h=>
  simp only[aY,bB] at hv ⊢;have:=h.rel hi I (vs:=[u]) (by simp only[aV];exact⟨u,[],rfl,hv,rfl⟩);simp only[dI] at this;obtain⟨v,vs',h1,h2,h3⟩:=this;cases h1;exact h2
 | @agg _ rs cs h=>
  simp only[aY] at hv ⊢;obtain⟨vs,h1,h2⟩:=hv;exact⟨vs,h1,h.rel hi I h2⟩
 | @pa _ l cs h=>
  simp only[aY] at hv ⊢;obtain⟨vs,h1,h2⟩:=hv;exact⟨vs,h1,h.rel hi I h2.toR⟩
def dP:List Operand→List Nat
 | []=>[]
 | x::xs=>opr x++dP xs
theorem ArgsV.rel {G:Ctx}{n:Nat}{S:Sto}{μ:Mu}{st st':St}{a:Act}{w:World}(hs:Sim G n S μ st' a w):∀{ids:List Nat}{xs:List Operand}{vs:List V},ArgsV st ids xs vs→(∀t∈dP xs,st'.e t=st.e t)→(∀i∈ids,st'.h i=st.h i)→bS S μ st'.h vs (xs.map a.eval):=by
 intro ids xs vs h
 induction h with
 | nil=>intro _ _;simp[bS]
 | cons hx hc _ I=>
  intro ht hi;simp only[Al,bS];refine⟨_,_,rfl,?_,I (fun t h=>ht t (by simp[dP,h])) fun i h=>hi i (by simp[h])⟩;exact hc.rel (fun i h=>hi i (by simp[h])) hs.inv.obj (aO hs hx fun t h=>ht t (by simp[dP,h]))
theorem Inv.hand {G:Ctx}{S:Sto}{μ:Mu}{H:cO}{w:World}{hin:List (Nat×AObj)}(h:Inv G S μ H w) (hh:∀id o,look hin id=some o→H id=some o∧o≠ .dead) (hc:subset (dM hin) (hin.map (·.1))=true):
  Inv ⟨w,S,sV μ (look hin),μ,look hin⟩ S μ (look hin) w:=by
 have J:∀i∈hin.map (·.1),Good H (look hin) (fun i=>i) i:=by
  intro i hi;obtain⟨o,I⟩:=fQ hi;obtain⟨h1,h2⟩:=hh i o I;exact⟨o,o,h1,I,.refl_id h2⟩
 refine⟨h.holds,fun id o I=>?_,fun i j o o' b c c' hi hj hm N=>h.inj i j o o' b c c' (hh _ _ hi).1 (hh _ _ hj).1 hm N,fun i o b c hi hm=>.inr ⟨i,o,c,hi,hm⟩,FrameW.refl _ _ ⟨h.frame.tabAt,fun g hg=>?_⟩,S.le_refl,fun b _ _=>⟨fun _=>rfl,rfl⟩,Evolve.refl _ _ _,h.fre⟩
 ·obtain⟨h1,h2⟩:=hh id o I;exact(h.obj id o h1).ren (.refl_id h2) fun i hi=>J i (bL hc i (j8 (c9 I) i hi))
 ·rintro⟨i,o,c,h1,h2⟩;have h3:=(h.frame.tab.1 g hg).1
  rcases h.own i o g c (hh i o h1).1 h2 with h4 | h4
  ·omega
  ·exact h.frame.tab.2 g hg h4
def outs (l:List (Nat×AObj)):List (Nat×Option AObj):=l.map fun p=>(p.1,some p.2)
theorem yU:∀(l:List (Nat×AObj)) (i:Nat),look (outs l) i=(look l i).map some
 | [],_=>rfl
 | (k,o)::l,i=>by
  simp only[outs,Al,look];cases Nat.beq i k
  ·have:=yU l i;unfold outs at this;simpa using this
  ·rfl
theorem kF (H:cO) (l:List (Nat×AObj)) (i:Nat):updL H (outs l) i=match look l i with | some o=>some o | none=>H i:=by
 simp only[updL,yU];cases look l i<;>rfl
theorem Inv.back {G:Ctx}{S S':Sto}{μ μ':Mu}{H:cO}{w w':World}{hin hout:List (Nat×AObj)}(h:Inv G S μ H w) (hh:∀id o,look hin id=some o→H id=some o)
  (hnew:∀id o,look hout id=some o→(∃o',look hin id=some o')∨H id=none)
  (O:Inv ⟨w,S,sV μ (look hin),μ,look hin⟩ S' μ' (look hout) w'):
  ∃Z:Mu,(∀id o,look hout id=some o→Z id=μ' id)∧Inv G S' Z (updL H (outs hout)) w'∧Evolve S μ H S' Z (updL H (outs hout))∧Evolve S' μ' (look hout) S' Z (updL H (outs hout)):=by
 have hE:Evolve S μ (look hin) S' μ' (look hout):=O.evo
 let Z:Mu:=fun id=>match look hout id with | some _=>μ' id | none=>μ id
 have W:∀id o,look hout id=some o→Z id=μ' id:=fun id o I=>by simp only[Z,I]
 have hμ2:∀id,look hout id=none→Z id=μ id:=fun id I=>by simp only[Z,I]
 have hH1:∀id o,look hout id=some o→updL H (outs hout) id=some o:=fun id o I=>by rw[kF,I]
 have hH2:∀id,look hout id=none→updL H (outs hout) id=H id:=fun id I=>by rw[kF,I]
 have hin_out:∀id o,look hin id=some o→∃o',look hout id=some o':=fun id o I=>by
  obtain⟨o',h1,_⟩:=hE.obj id o I;exact⟨o',h1⟩
 have hE1:Evolve S μ H S' Z (updL H (outs hout)):=by
  refine⟨hE.le,fun id o I=>?_⟩;cases J:look hout id with
  | none=>exact⟨o,by rw[hH2 id J,I],o.succ_refl (hμ2 id J)⟩
  | some o2=>
   rcases hnew id o2 J with⟨o',hi⟩ | hi
   ·have:=hh id o' hi;rw[I] at this;cases this;obtain⟨o3,h1,h2⟩:=hE.obj id o hi;rw[J] at h1;cases h1;exact⟨o2,hH1 id o2 J,by rw[W id o2 J];exact h2⟩
   ·rw[I] at hi;cases hi
 have hE2:Evolve S' μ' (look hout) S' Z (updL H (outs hout)):=⟨S'.le_refl,fun id o I=>⟨o,hH1 id o I,o.succ_refl (W id o I)⟩⟩
 have hrest:∀id o,H id=some o→look hout id=none→∀b c,μ id=some (b,c)→b<w.heap.size∧¬sV μ (look hin) b:=by
  intro id o I J b c hm;refine⟨(h.obj id o I).lt hm,?_⟩;rintro⟨aa,o',c',h1,h2⟩;have:=h.inj id aa o o' b c c' I (hh _ _ h1) hm h2;subst this;obtain⟨o2,h3⟩:=hin_out id o' h1;rw[J] at h3;cases h3
 have ab:∀id o b c,look hout id=some o→μ' id=some (b,c)→w.heap.size≤b∨sV μ (look hin) b:=fun id o b c I hm=>O.own id o b c I hm
 refine⟨Z,W,⟨O.holds,fun id o I=>?_,fun i j o o' b c c' hi hj hm Y=>?_,fun i o b c hi hm=>?_,?_,Sto.le_trans h.sle hE.le,fun b hb hF=>?_,h.evo.trans hE1,O.fre⟩,hE1,hE2⟩
 ·cases J:look hout id with
  | some o2=>
   rw[hH1 id o2 J] at I;cases I;exact(O.obj id _ J).evolve hE2 (W id _ J) fun b c hm=>⟨rfl,fun _=>rfl,rfl⟩
  | none=>
   rw[hH2 id J] at I;refine(h.obj id o I).evolve hE1 (hμ2 id J) fun b c hm=>?_
   obtain⟨h1,h2⟩:=hrest id o I J b c hm;exact⟨O.frame.block b h1 h2,(O.sto b h1 h2).1,(O.sto b h1 h2).2⟩
 ·cases hqi:look hout i with
  | some oi=>
   rw[W i oi hqi] at hm;cases N:look hout j with
   | some oj=>
    rw[W j oj N] at Y;exact O.inj i j oi oj b c c' hqi N hm Y
   | none=>
    rw[hμ2 j N] at Y;rw[hH2 j N] at hj;obtain⟨h1,h2⟩:=hrest j o' hj N b c' Y;rcases ab i oi b c hqi hm with h3 | h3
    ·omega
    ·exact absurd h3 h2
  | none=>
   rw[hμ2 i hqi] at hm;rw[hH2 i hqi] at hi;obtain⟨h1,h2⟩:=hrest i o hi hqi b c hm;cases N:look hout j with
   | some oj=>
    rw[W j oj N] at Y;rcases ab j oj b c' N Y with h3 | h3
    ·omega
    ·exact absurd h3 h2
   | none=>
    rw[hμ2 j N] at Y;rw[hH2 j N] at hj;exact h.inj i j o o' b c c' hi hj hm Y
 ·cases J:look hout i with
  | some o2=>
   rw[W i o2 J] at hm;rcases ab i o2 b c J hm with h3 | ⟨aa,o',c',h3,h4⟩
   ·exact .inl (le_trans h.frame.size h3)
   ·exact h.own aa o' b c' (hh _ _ h3) h4
  | none=>
   rw[hμ2 i J] at hm;rw[hH2 i J] at hi;exact h.own i o b c hi hm
 ·refine⟨O.frame.os.trans h.frame.os,O.frame.tape.trans h.frame.tape,O.frame.output.trans h.frame.output,le_trans h.frame.size O.frame.size,fun k hk hF=>?_,h.frame.tab⟩;rw[O.frame.block k (lt_of_lt_of_le hk h.frame.size) ?_,h.frame.block k hk hF];rintro⟨aa,o',c',h3,h4⟩;rcases h.own aa o' k c' (hh _ _ h3) h4 with h5 | h5
  ·omega
  ·exact hF h5
 ·have hnf:¬sV μ (look hin) b:=by
   rintro⟨aa,o',c',h3,h4⟩;rcases h.own aa o' b c' (hh _ _ h3) h4 with h5 | h5
   ·omega
   ·exact hF h5
  have h1:=O.sto b (lt_of_lt_of_le hb h.frame.size) hnf;have h2:=h.sto b hb hF;exact⟨fun o=>(h1.1 o).trans (h2.1 o),h1.2.trans h2.2⟩
section
variable {P:Program}{n:Nat}{o:Oper}{st:St}{d:Nat}
def keys {α:Type}(l:List (Nat×α)):List Nat:=l.map (·.1)
theorem yZ {w:World}{S:Sto}{F:Nat→Prop}{μ:Mu}{hin:List (Nat×AObj)}:Ctx.keeps ⟨w,S,F,μ,look hin⟩ (keys hin):=
 ⟨fun id o I=>Ad.2 ⟨_,c9 I,rfl⟩,fun h1 h2=>by
  obtain⟨o,I⟩:=fQ h1;rw[show look hin 997=none from h2] at I
  cases I⟩
def AObj.live:AObj→Bool
 | .dead=>false
 | _=>true
def k9 (args:List V) (hin:List (Nat×AObj)):Bool:=subset (V.refsL args) (keys hin)&&subset (dM hin) (keys hin)&&(hin.all fun p=>p.2.live)
theorem Step.call {f:FuncId}{ids J:List Nat}{args:List V}{hin hout:List (Nat×AObj)}{res:V}(hd:o.dst=some d) (Z:d<n) (hf:aW P f args hin res hout)
  (hin':eQ (fun p=>st.h p.1=some p.2) hin) (hout':eQ (fun p=>p.1∈keys hin∨st.h p.1=none) hout) (hok:k9 args hin=true)
  (O:∀st',oU ⟨J,ids++keys hin++keys hout⟩ st st'→∀G S μ a w,Sim G n S μ st' a w→∃vals,(execOp a.eval o).run P w=.ok (.enter f ⟨vals⟩) w∧bS S μ st'.h args vals):
  Step P n o st ⟨J,ids++keys hin++keys hout⟩ ⟨some (d,some res),outs hout⟩:=by
 intro st' ha G S μ a w K Q hs hk;obtain⟨vals,hr,hv⟩:=O st' ha G S μ a w hs;simp only[k9,Ah] at hok;obtain⟨⟨k1,k2⟩,k3⟩:=hok;have hh:∀id o,look hin id=some o→st'.h id=some o∧o≠ .dead:=by
  intro id o I;have hm:=c9 I;have h1:=hin'.mem _ hm;refine⟨by rw[ha.2 id (by simp only[ω];exact .inl (.inr (Ad.2 ⟨_,hm,rfl⟩)))];exact h1,?_⟩;have:=(A3.1 k3) _ hm;rintro rfl;simp[AObj.live] at this
 have W:∀id o,look hout id=some o→(∃o',look hin id=some o')∨st'.h id=none:=by
  intro id o I;have hm:=c9 I;rcases hout'.mem _ hm with h1 | h1
  ·exact .inl (fQ h1)
  ·exact .inr (by rw[ha.2 id (by simp only[ω];exact .inr (Ad.2 ⟨_,hm,rfl⟩))];exact h1)
 have hI:=hs.inv.hand hh k2;have N:∀i∈keys hin,Good st'.h (look hin) (fun i=>i) i:=by
  intro i hi;obtain⟨o,I⟩:=fQ hi;obtain⟨h1,h2⟩:=hh i o I;exact⟨o,o,h1,I,.refl_id h2⟩
 have aa:bS S μ (look hin) args vals:=by
  have:=bS.ren (H:=st'.h) (H':=look hin) (σ:=fun i=>i) args vals (fun i hi=>N i (bL k1 i hi)) (by rw[V.renL_id];exact hv);exact this
 have hc:=hf S μ w vals hI aa;refine fun ro=>uV hr ?_
 refine hc.mono fun e w' ⟨S',μ',v,he,ab,Y⟩=>?_
 subst he;obtain⟨μ2,q1,q2,q3,q4⟩:=hs.inv.back (fun id o I=>(hh id o I).1) W ab;show K (a.put o.dst v) w';rw[hd];refine hk S' μ2 _ _ ?_;exact hs.put q2 q3 Z (x:=some res) fun z hz=>by cases hz;exact aY.evolve q4 _ _ Y
def pC (P : Program) (f : FuncId) : Prop := ∃ fn, P.funcs[f]? = some fn ∧ (fn.name == "runtime.NumGoroutine") = false ∧ fn.body.isNone = false
theorem oW {f:FuncId}(hb:pC P f) (args:Array Value) (w:World):(callFunc f args).run P w=.ok (.enter f args) w:=by
 obtain⟨fn,h1,h2,h3⟩:=hb;have hp:(program:Sem Program).run P w=.ok P w:=rfl;simp only[callFunc,Ae,hp,χ,h1,h2,h3,Bc,Bt,Af]
theorem aIx {f:FuncId}{xs:Array Operand}{ts:Array TypeId}{ids:List Nat}{args:List V}{res:V}(hin hout:List (Nat×AObj)) (hb:pC P f) (N:o.op=.call { callee:=.value (.func f),args:=xs,argTypes:=ts }) (hd:o.dst=some d) (J:d<n)
  (hf:aW P f args hin res hout) (ha:ArgsV st ids xs.toList args) (hin':eQ (fun p=>st.h p.1=some p.2) hin) (hout':eQ (fun p=>p.1∈keys hin∨st.h p.1=none) hout) (hok:k9 args hin=true):
  Step P n o st ⟨dP xs.toList,ids++keys hin++keys hout⟩ ⟨some (d,some res),outs hout⟩:=by
 refine Step.call hd J hf hin' hout' hok fun st' I G S μ a w hs=>⟨xs.toList.map a.eval,?_,ha.rel hs I.1 fun i h=>I.2 i (by simp[h])⟩
 simp only[execOp,N,resolve,Deferred.ofValue,Act.eval,Ae,Af,χ,invoke,oW hb];congr 2;apply Array.ext';simp
theorem aSt {f:FuncId}{x:Operand}{caps:List R}{xs:Array Operand}{ts:Array TypeId}{ids:List Nat}{args:List V}{res:V}(hin hout:List (Nat×AObj)) (hb:pC P f) (Z:o.op=.call { callee:=.value x,args:=xs,argTypes:=ts }) (hd:o.dst=some d) (W:d<n)
  (hx:opv st x=some (.one (.clo f caps))) (hf:aW P f (args++caps.map V.one) hin res hout) (ha:ArgsV st ids xs.toList args) (hin':eQ (fun p=>st.h p.1=some p.2) hin) (hout':eQ (fun p=>p.1∈keys hin∨st.h p.1=none) hout) (hok:k9 (args++caps.map V.one) hin=true):
  Step P n o st ⟨opr x++dP xs.toList,ids++keys hin++keys hout⟩ ⟨some (d,some res),outs hout⟩:=by
 refine Step.call hd W hf hin' hout' hok fun st' I G S μ a w hs=>?_
 have hv:=aO hs hx fun t ht=>I.1 t (by simp[ht])
 simp only[aY,bB] at hv;obtain⟨vs,h1,h2⟩:=hv;refine⟨xs.toList.map a.eval++vs,?_,?_⟩
 ·simp only[execOp,Z,resolve,h1,Deferred.ofValue,Ae,Af,χ,invoke,oW hb];congr 2;apply Array.ext';simp
 ·have Y:∀(l:List V) (us:List Value) (rs:List R) (vs:List Value),bS S μ st'.h l us→aV S μ st'.h rs vs→bS S μ st'.h (l++rs.map V.one) (us++vs):=by
   intro l
   induction l with
   | nil=>
    intro us rs vs h k;simp only[bS] at h;subst h;simp only[Be]
    induction rs generalizing vs with
    | nil=>simp only[aV] at k;subst k;simp[bS]
    | cons r rs J=>
     simp only[aV] at k;obtain⟨v,vs',rfl,N,O⟩:=k;simp only[Al,bS];exact⟨v,vs',rfl,by simpa [aY] using N,J vs' O⟩
   | cons x l J=>
    intro us rs vs h k;simp only[bS] at h;obtain⟨v,vs',rfl,N,O⟩:=h;simp only[A9,bS];exact⟨v,_,rfl,N,J vs' rs vs O k⟩
  exact Y _ _ _ _ (ha.rel hs (fun t ht=>I.1 t (by simp[ht])) fun i h=>I.2 i (by simp[h])) h2
end
theorem Sim.freeze {G:Ctx}{n:Nat}{S:Sto}{μ:Mu}{a:Act}{w:World}{st:St}{id te es:Nat}{elems:List (List C)}{fz:Nat}(h:st.h id=some (.arr te es elems fz)) (hs:Sim G n S μ st a w):∃S' μ',Sim G n S' μ' ⟨st.e,upd st.h id (some (.arr te es elems 2)),st.d⟩ a w:=by
 have hO:=hs.inv.obj id _ h
 have aa:∀S',S.le S'→Evolve S μ st.h S' μ (upd st.h id (some (.arr te es elems 2))):=fun S' hle=>⟨hle,fun j x hj=>by
  by_cases I:j=id
  ·subst I;rw[h] at hj;cases hj;exact⟨_,aJ _ _ _,by simp[AObj.succ]⟩
  ·exact⟨x,by rw[b8 _ _ _ I];exact hj,x.succ_refl rfl⟩⟩
 have hold:∀j x,upd st.h id (some (.arr te es elems 2)) j=some x→∃x',st.h j=some x':=fun j x hj=>by
  by_cases I:j=id
  ·subst I;exact⟨_,h⟩
  ·rw[b8 _ _ _ I] at hj;exact⟨_,hj⟩
 obtain⟨h1,h2,h3,h4,h5,h6,h7,h8,ab⟩:=hs.inv;obtain⟨g0,⟨g1,g2⟩ | ⟨b,base,cap,vs,g1,g2,g3,g4,g5,g6,g7,g8,g9⟩⟩:=hO
 ·--no block yet
  have O:=aa S S.le_refl;refine⟨S,μ,⟨h1,fun j x hj=>?_,fun i j x x' b c c' hi hj hm Y=>?_,fun i x b c hi hm=>?_,h5,h6,h7,h8.trans O,ab⟩,hs.size,hs.defers.evolve O,fun t v e=>aY.evolve O v _ (hs.env t v e)⟩
  ·by_cases I:j=id
   ·subst I;have J:some (AObj.arr te es elems 2)=some x:=by rw[←hj];exact(aJ _ _ _).symm
    cases J;exact⟨g0,.inl ⟨g1,g2⟩⟩
   ·have J:st.h j=some x:=by rw[←hj];exact(b8 _ _ _ I).symm
    exact(h2 j x J).evolve O rfl fun _ _ _=>⟨rfl,fun _=>rfl,rfl⟩
  ·obtain⟨_,N⟩:=hold _ _ hi;obtain⟨_,J⟩:=hold _ _ hj;exact h3 i j _ _ b c c' N J hm Y
  ·obtain⟨_,N⟩:=hold _ _ hi;exact h4 i _ b c N hm
 ·let S':Sto:=⟨fun b' o=>if b'=b∧base≤o∧o<base+elems.length*es then vs[o]? else S.cell b' o,S.mapo⟩
  have Z:∀o v,S.cell b o=some v→vs[o]?=some v:=fun o v e=>by
   obtain⟨vs0,t0,fr0,p1,p2⟩:=h1.1 b o v e;rw[g2] at p1;cases p1;simpa using p2
  have hle:S.le S':=⟨fun b' o v e=>by
   show(if b'=b∧base≤o∧o<base+elems.length*es then vs[o]? else S.cell b' o)=some v;by_cases hc:b'=b∧base≤o∧o<base+elems.length*es
   ·rw[θ hc];obtain⟨rfl,_⟩:=hc;exact Z o v e
   ·rw[ψ hc];exact e,fun b' m e=>⟨m,e,m.le_refl⟩⟩
  have O:=aa S' hle;have W:∀b' o,b'≠b→S'.cell b' o=S.cell b' o:=fun b' o I=>ψ fun hc=>I hc.1
  refine⟨S',μ,⟨⟨fun b' o v e=>?_,h1.2⟩,fun j x hj=>?_,fun i j x x' b c c' hi hj hm Y=>?_,fun i x b c hi hm=>?_,h5,Sto.le_trans h6 hle,fun b' hb hF=>?_,h8.trans O,fun b' te' lo hi e o ho=>(W b' o fun eb=>by rw[eb] at e;have e:S.mapo b=_:=e;rw[g5.2] at e;cases e).trans (ab b' te' lo hi e o ho)⟩,hs.size,hs.defers.evolve O,fun t v e=>aY.evolve O v _ (hs.env t v e)⟩
  ·by_cases hc:b'=b∧base≤o∧o<base+elems.length*es
   ·have e':vs[o]?=some v:=by rw[←e];exact(θ hc).symm
    obtain⟨rfl,_⟩:=hc;exact⟨⟨vs⟩,te,(0,0),g2,by simpa using e'⟩
   ·have e':S.cell b' o=some v:=by rw[←e];exact(ψ hc).symm
    exact h1.1 b' o v e'
  ·by_cases I:j=id
   ·subst I;have J:some (AObj.arr te es elems 2)=some x:=by rw[←hj];exact(aJ _ _ _).symm
    cases J;refine⟨g0,.inr ⟨b,base,cap,vs,g1,g2,g3,g4,g5,dI.mono hle _ _ g6,(fun e=>by cases e),fun o ho=>?_,fun _ i v hi=>?_⟩⟩
    ·show(if b=b∧base≤o∧o<base+elems.length*es then vs[o]? else S.cell b o)=none;rw[ψ (by omega)];exact g8 o ho
    ·rw[Av] at hi;split at hi
     ·rw[An] at hi;show(if b=b∧base≤base+i∧base+i<base+elems.length*es then vs[base+i]? else S.cell b (base+i))=some v;rw[θ ⟨rfl,by omega,by omega⟩];exact hi
     ·cases hi
   ·have J:st.h j=some x:=by rw[←hj];exact(b8 _ _ _ I).symm
    refine(h2 j x J).evolve O rfl fun b' c' hm=>⟨rfl,fun o=>W b' o ?_,rfl⟩
    rintro rfl;exact I (h3 j id x _ b' c' _ J h hm g1)
  ·obtain⟨_,N⟩:=hold _ _ hi;obtain⟨_,J⟩:=hold _ _ hj;exact h3 i j _ _ b c c' N J hm Y
  ·obtain⟨_,N⟩:=hold _ _ hi;exact h4 i _ b c N hm
  ·have I:b'≠b:=by
    rintro rfl;rcases h4 id _ b' _ h g1 with h9 | h9
    ·omega
    ·exact hF h9
   exact⟨fun o=>(W b' o I).trans ((h7 b' hb hF).1 o),(h7 b' hb hF).2⟩
theorem Sub.freeze {kf:List Nat}{st:St}{id te es:Nat}{elems:List (List C)}{fz:Nat}(h:st.h id=some (.arr te es elems fz)):Sub kf ⟨st.e,upd st.h id (some (.arr te es elems 2)),st.d⟩ st:=
 fun _ _ _ _ _ _ _ hs=>hs.freeze h
theorem Inv.empty {G:Ctx}{S:Sto}{μ:Mu}{H:cO}{w:World}{id:Nat}(te es:Nat) (h:Inv G S μ H w) (hid:H id=none):Inv G S (upd μ id none) (upd H id (some (.arr te es [] 0))) w∧Evolve S μ H S (upd μ id none) (upd H id (some (.arr te es [] 0))):=by
 have N:Evolve S μ H S (upd μ id none) (upd H id (some (.arr te es [] 0))):=fZ hid _ _;refine⟨⟨h.holds,fun j x hj=>?_,fun i j x x' b c c' hi hj hm I=>?_,fun i x b c hi hm=>?_,h.frame,h.sle,h.sto,h.evo.trans N,h.fre⟩,N⟩
 ·by_cases J:j=id
  ·subst J;rw[aJ] at hj;cases hj;exact⟨by simp,.inl ⟨aJ _ _ _,rfl⟩⟩
  ·rw[b8 _ _ _ J] at hj;exact(h.obj j x hj).evolve N (b8 _ _ _ J) fun _ _ _=>⟨rfl,fun _=>rfl,rfl⟩
 ·have h1:i≠id:=fun e=>by subst e;rw[aJ] at hm;cases hm
  have h2:j≠id:=fun e=>by subst e;rw[aJ] at I;cases I
  rw[b8 _ _ _ h1] at hi hm;rw[b8 _ _ _ h2] at hj I;exact h.inj i j x x' b c c' hi hj hm I
 ·have h1:i≠id:=fun e=>by subst e;rw[aJ] at hm;cases hm
  rw[b8 _ _ _ h1] at hi hm;exact h.own i x b c hi hm
theorem Sub.own {kf:List Nat}{st:St}{t id:Nat}(te es:Nat) (h:st.e t=some (.one (.c .nl))) (hid:st.h id=none):Sub kf ⟨upd st.e t (some (.one (.hs id 0 0 0))),upd st.h id (some (.arr te es [] 0)),st.d⟩ st:=by
 intro G n S μ a w _ hs;obtain⟨hi,J⟩:=hs.inv.empty te es hid;refine⟨S,upd μ id none,⟨hi,hs.size,hs.defers.evolve J,fun s v e=>?_⟩⟩;by_cases I:s=t
 ·subst I;have hv:=hs.env s _ h;have e':v=.one (.hs id 0 0 0):=by
   have:some v=some (V.one (.hs id 0 0 0)):=by rw[←e];exact aJ _ _ _
   cases this;rfl
  subst e';simp only[aY,bB,Rep] at hv ⊢;exact⟨⟨_,_,_,hv⟩,.inr ⟨te,es,[],0,aJ _ _ _,le_refl _,fun _=>⟨le_refl _,.inl ⟨aJ _ _ _,rfl,hv⟩⟩⟩⟩
 ·have e':st.e s=some v:=by rw[←e];exact(b8 _ _ _ I).symm
  exact aY.evolve J v _ (hs.env s v e')
theorem Sub.ownCell {kf:List Nat}{st:St}{x k id tv:Nat}{cells:List R}(te es:Nat) (h:st.h x=some (.var tv cells)) (hk:cells[k]?=some (.c .nl)) (hid:st.h id=none):
  Sub kf ⟨st.e,upd (upd st.h id (some (.arr te es [] 0))) x (some (.var tv (cells.set k (.hs id 0 0 0)))),st.d⟩ st:=by
 intro G n S μ a w _ hs;obtain⟨hi,hE⟩:=hs.inv.empty te es hid;have Z:x≠id:=fun e=>by subst e;rw[h] at hid;cases hid
 have hx:upd st.h id (some (.arr te es [] 0)) x=some (.var tv cells):=by rw[b8 _ _ _ Z];exact h
 obtain⟨b,vs,g1,g2,g3,g4⟩:=hi.obj x _ hx
 have J:Evolve S (upd μ id none) (upd st.h id (some (.arr te es [] 0))) S (upd μ id none) (upd (upd st.h id (some (.arr te es [] 0))) x (some (.var tv (cells.set k (.hs id 0 0 0))))):=⟨S.le_refl,fun j y hj=>by
  by_cases I:j=x
  ·subst I;rw[hx] at hj;cases hj;exact⟨_,aJ _ _ _,by simp[AObj.succ]⟩
  ·exact⟨y,by rw[b8 _ _ _ I];exact hj,y.succ_refl rfl⟩⟩
 have hold:∀j y,upd (upd st.h id (some (.arr te es [] 0))) x (some (.var tv (cells.set k (.hs id 0 0 0)))) j=some y→∃y',upd st.h id (some (.arr te es [] 0)) j=some y':=fun j y hj=>by
  by_cases I:j=x
  ·subst I;exact⟨_,hx⟩
  ·rw[b8 _ _ _ I] at hj;exact⟨_,hj⟩
 refine⟨S,upd μ id none,⟨⟨hi.holds,fun j y hj=>?_,fun i j y y' b c c' N hj hm hm'=>?_,fun i y b c N hm=>?_,hi.frame,hi.sle,hi.sto,hi.evo.trans J,hi.fre⟩,hs.size,hs.defers.evolve (hE.trans J),fun s v e=>aY.evolve (hE.trans J) v _ (hs.env s v e)⟩⟩
 ·by_cases I:j=x
  ·subst I;have O:some (AObj.var tv (cells.set k (.hs id 0 0 0)))=some y:=by rw[←hj];exact(aJ _ _ _).symm
   cases O;refine⟨b,vs,g1,g2,?_,g4⟩;have h3:=aV.evolve J _ _ g3;obtain⟨u,hu,W⟩:=g3.get k _ hk;simp only[bB,Rep] at W;have hkl:k<cells.length:=(ε.1 hk).1
   have Y:cells.set k (.hs id 0 0 0)=bX cells k [.hs id 0 0 0]:=by
    unfold bX;rw[Ce,θ hkl];simp
   have hvl:=g3.length;have hvs:vs=bX vs k [u]:=by
    unfold bX;apply Bo;intro i;simp only[Bx,Aa,At,Aj,length_nil,Av,An];have hm:min k vs.length=k:=by omega
    rw[hm];by_cases c1:i<k
    ·simp[c1,show i<k+1 by omega]
    ·by_cases c2:i=k
     ·subst c2;simp[hu]
     ·simp[show ¬i<k+1 by omega,show k+1+(i-(k+1))=i by omega]
   rw[Y] at h3 ⊢;rw[hvs];refine oC h3 ?_;simp only[aV,bB];exact⟨u,[],rfl,⟨⟨_,_,_,W⟩,.inr ⟨te,es,[],0,by rw[b8 _ _ _ Z.symm];exact aJ _ _ _,le_refl _,fun _=>⟨le_refl _,.inl ⟨aJ _ _ _,rfl,W⟩⟩⟩⟩,rfl⟩
  ·have O:upd st.h id (some (.arr te es [] 0)) j=some y:=by rw[←hj];exact(b8 _ _ _ I).symm
   exact(hi.obj j y O).evolve J rfl fun _ _ _=>⟨rfl,fun _=>rfl,rfl⟩
 ·obtain⟨_,h1⟩:=hold _ _ N;obtain⟨_,h2⟩:=hold _ _ hj;exact hi.inj i j _ _ b c c' h1 h2 hm hm'
 ·obtain⟨_,h1⟩:=hold _ _ N;exact hi.own i _ b c h1 hm
def aUi:Nat→List V→List (Nat×V)
 | _,[]=>[]
 | k,v::vs=>(k,v)::aUi (k+1) vs
inductive ResV (T:TT) (st:St):List ResultVar→List V→Prop
 | nil:ResV T st [] []
 | tmp {t v rs vs}:st.e t=some v→ResV T st rs vs→ResV T st (.tmp t::rs) (v::vs)
 | cell {a t i id off tv cells v rs vs}:st.e a=some (.one (.vp id off))→T[t]?=some (some i)→st.h id=some (.var tv cells)→Nat.ble (off+i.size) cells.length=true→pL i ((cells.drop off).take i.size)=some v→ResV T st rs vs→
   ResV T st (.cell a t::rs) (v::vs)
inductive Convs (h:cO):List V→List V→Prop
 | nil:Convs h [] []
 | cons {ids v v' vs vs'}:Conv h ids v v'→Convs h vs vs'→Convs h (v::vs) (v'::vs')
def aQc:List Value→Value
 | [u]=>u
 | us=>.tuple ⟨us⟩
def aQb:List V→V
 | [v]=>v
 | vs=>.tup vs
theorem Convs.rel {S:Sto}{μ:Mu}{H:cO}{w:World}:∀{vs vs':List V}{us:List Value},Convs H vs vs'→(∀id o,H id=some o→mG S μ H w id o)→bS S μ H vs us→bS S μ H vs' us:=by
 intro vs vs' us h
 induction h generalizing us with
 | nil=>intro _ hv;exact hv
 | cons hc _ N=>
  intro I hv;simp only[bS] at hv ⊢;obtain⟨v,J,rfl,h1,h2⟩:=hv;exact⟨v,J,rfl,hc.rel (fun _ _=>rfl) I h1,N I h2⟩
section
variable {P:Program}{T:TT}
theorem pI {G:Ctx}{n:Nat}{S:Sto}{μ:Mu}{st:St}{a:Act}{w:World}(W:Tok P T) (hs:Sim G n S μ st a w):∀{rs:List ResultVar}{vs:List V},ResV T st rs vs→
  ∃us,(rs.mapM fun(x:ResultVar)=>(match x with | .tmp t=>pure (a.tmps.getD t undef) | .cell p t=>do loadVar t (←asAddr (a.tmps.getD p undef)):Sem Value)).run P w=.ok us w∧bS S μ st.h vs us:=by
 intro rs vs h
 induction h with
 | nil=>exact⟨[],by simp,by simp[bS]⟩
 | @tmp t v rs vs ht _ N=>
  obtain⟨us,h1,h2⟩:=N;refine⟨a.tmps.getD t undef::us,?_,?_⟩
  ·simp only[List.mapM_cons,Ae,Af,χ,h1]
  ·simp only[bS];exact⟨_,_,rfl,hs.env _ _ ht,h2⟩
 | @cell p t i id off tv cells v rs vs ht hi hh hb hl _ N=>
  obtain⟨us,h1,h2⟩:=N;have hv:=hs.env _ _ ht;simp only[aY,bB] at hv;obtain⟨t',cells',b,c,g1,g2,g3⟩:=hv;obtain⟨b',ws,Y,Z,O,q4⟩:=hs.inv.obj id _ hh;rw[Y] at g2;cases g2;have hlen:=Ap hb;have hvl:=O.length;have I:=run_load (W.get hi) w b off _ (jN Z off i.size) (aZm (by omega));have J:=kW ((O.drop off).take i.size) hl;generalize (if i.k.agg then Value.agg ⟨(ws.drop off).take i.size⟩ else((ws.drop off).take i.size).headD undef)=u at I J;refine⟨u::us,?_,by simp only[bS];exact⟨_,_,rfl,J,h2⟩⟩
  ·simp only[Instr.loadAt,Instr.sureAddr,Ae,Af,χ] at I;have hA:(asAddr (a.tmps.getD p undef)).run P w=.ok ⟨b,off,none⟩ w:=by rw[g3];rfl
   simp only[List.mapM_cons,Ae,Af,χ,hA,I,h1]
theorem aBc {G:Ctx}{n:Nat}{S:Sto}{μ:Mu}{st:St}{a:Act}{w:World}{fn:Func}{vs:List V}(I:Tok P T) (hs:Sim G n S μ st a w) (h:ResV T st fn.results.toList vs):
  ∃us,(results fn a.tmps).run P w=.ok (aQc us) w∧bS S μ st.h vs us:=by
 obtain⟨us,h1,h2⟩:=pI I hs h;refine⟨us,?_,h2⟩;unfold results;rw[Array.mapM_eq_mapM_toList,Ae,Sem.run_map]
 erw [h1]
 simp only[χ,Af];congr 1
 match us with
 | []=>simp[aQc]
 | [u]=>simp[aQc]
 | u::J::us=>simp[aQc]
def AObj.plain:AObj→Bool
 | .dfr=>false
 | _=>true
theorem aNn {o:AObj}{p:Prop}(h:o.succ p .dfr):o=.dfr:=by cases o<;>simp only[AObj.succ] at h;rfl
theorem Sim.take {P:Program}{G:Ctx}{n:Nat}{S:Sto}{μ:Mu}{st:St}{a:Act}{w:World}{id:Nat}{ids:List Nat}(hs:Sim G n S μ st a w) (hd:st.d=id::ids) (hG:∀id,G.h0 id≠some .dfr):
  ∃b Y w',a.defers={ target:=.collected b,args:= #[] }::Y∧(Instr.takeDeferred b).run P w=.ok [] w'∧Sim G n S μ ⟨st.e,upd st.h id none,ids⟩ { a with defers:=Y } w':=by
 have hm:=hs.defers;rw[hd] at hm;obtain⟨b,c,Y,h1,h2,h3,h4,h5,h6⟩:=hm;obtain⟨b',g1,g2,g3,g4⟩:=hs.inv.obj _ _ h3;rw[h2] at g1;cases g1;have hlt:b<w.heap.size:=(Array.getElem?_eq_some_iff.1 g2).1
 have Z:∀j,upd st.h id none j=none∨j≠id:=fun j=>by
  by_cases hj:j=id
  ·exact .inl (by rw[hj,aJ])
  ·exact .inr hj
 have aOx:∀{j o},upd st.h id none j=some o→j≠id∧st.h j=some o:=by
  intro j o hj;rcases Z j with h | h
  ·rw[h] at hj;cases hj
  ·exact⟨h,by rwa [b8 _ _ _ h] at hj⟩
 have hE:Evo0 S μ st.h S μ (upd st.h id none):=⟨S.le_refl,fun j o hj ho=>by
  have I:j≠id:=by rintro rfl;rw[h3] at hj;cases hj;exact ho rfl
  exact⟨o,by rw[b8 _ _ _ I];exact hj,o.succ_refl rfl⟩⟩
 refine⟨b,Y,w.putObj b (.deferred none),h1,run_takeDeferred g2,⟨⟨⟨fun b' o v e=>?_,fun b' mk e=>?_⟩,fun j o hj=>?_,fun i j o o' O W c2 hi hj m1 m2=>?_,fun i o O W hi m1=>?_,?_,hs.inv.sle,hs.inv.sto,⟨hs.inv.evo.le,fun j o hj=>?_⟩,hs.inv.fre⟩,hs.size,?_,fun t v e=>aY.evolve0 hE _ _ (hs.env t v e)⟩⟩
 ·obtain⟨vs,t,fr,J,N⟩:=hs.inv.holds.1 b' o v e;have:b'≠b:=by rintro rfl;rw[g3] at e;cases e
  exact⟨vs,t,fr,by rw[World.putObj_heap_other this];exact J,N⟩
 ·have:b'≠b:=by rintro rfl;rw[g4] at e;cases e
  rw[World.putObj_heap_other this];exact hs.inv.holds.2 b' mk e
 ·obtain⟨J,N⟩:=aOx hj;refine(hs.inv.obj j o N).evolve0 hE rfl fun O W m1=>⟨World.putObj_heap_other ?_,fun _=>rfl,rfl⟩
  rintro rfl;exact J (hs.inv.inj j id o .dfr O W _ N h3 m1 h2)
 ·exact hs.inv.inj i j o o' O W c2 (aOx hi).2 (aOx hj).2 m1 m2
 ·exact hs.inv.own i o O W (aOx hi).2 m1
 ·obtain⟨f1,f2,f3,f4,f5,f6⟩:=hs.inv.frame;refine⟨f1,f2,f3,by simpa using f4,fun k hk hF=>?_,f6⟩;rw[World.putObj_heap_other (by omega)];exact f5 k hk hF
 ·obtain⟨o',J,N⟩:=hs.inv.evo.obj j o hj;have I:j≠id:=by
   rintro rfl;rw[h3] at J;cases J;rw[aNn N] at hj;exact hG _ hj
  exact⟨o',by show upd st.h id none j=some o';rw[b8 _ _ _ I];exact J,N⟩
 ·exact h6.go fun j hj hjd=>⟨rfl,by
   have I:j≠id:=by rintro rfl;exact h5 hj
   show upd st.h id none j=some .dfr
   rw[b8 _ _ _ I];exact hjd⟩
theorem Sim.leave {P:Program}{fn:Func}{R:Ending→World→Prop}{G:Ctx}{n:Nat}{S:Sto}{μ:Mu}(N:∀id,G.h0 id≠some .dfr):∀(ids:List Nat) {e:Nat→Option V}{h:cO}{a:Act}{w:World},Sim G n S μ ⟨e,h,ids⟩ a w→
  (∀I w',(∀id o,h id=some o→o≠ .dfr→I id=some o)→Sim G n S μ ⟨e,I,[]⟩ { a with defers:=[] } w'→∃v,(results fn a.tmps).run P w'=.ok v w'∧R (.returned v) w')→
  LeavesInM (Wd none) 0 P fn a.tmps R a.defers .returning w
 | [],e,h,a,w,hs,hk=>by
  have hd:a.defers=[]:=hs.defers;rw[hd];refine hk h w (fun _ _ h _=>h) ?_;obtain⟨h1,h2,h3,h4⟩:=hs;exact⟨h1,h2,rfl,h4⟩
 | id::ids,e,h,a,w,hs,hk=>by
  have h3:h id=some .dfr:=by
   obtain⟨b,c,ds',q1,q2,q3,_⟩:=hs.defers;exact q3
  obtain⟨b,ds,w',h1,h2,O⟩:=hs.take (P:=P) rfl N;rw[h1];refine⟨by simp,.inl ⟨b,w',rfl,h2,?_⟩⟩;refine Sim.leave N ids (a:={ a with defers:=ds }) O fun I W hh J=>hk I W (fun j o hj Y=>hh j o ?_ Y) J
  have Z:j≠id:=by rintro rfl;rw[h3] at hj;cases hj;exact Y rfl
  rw[b8 _ _ _ Z];exact hj
structure Fin (T:TT) (fn:Func) (st:St) (hin:List (Nat×AObj)) (res:V) (hout:List (Nat×AObj)):Prop where
 ex:∃vs vs',ResV T st fn.results.toList vs∧Convs st.h vs vs'∧aQb vs'=res
 out:eQ (fun p=>∃o,st.h p.1=some o∧Ole (fun i=>i) o p.2) hout
 ok:(subset res.refs (keys hout)&&subset (dM hout) (keys hout)&&distinct (keys hout)&&subset (keys hin) (keys hout)&&(hin.all fun p=>p.2.plain)&&(hout.all fun p=>p.2.plain))=true
theorem ResV.keep {st:St}{J:cO}{d:List Nat}(hh:∀id o,st.h id=some o→o≠ .dfr→J id=some o):∀{rs:List ResultVar}{vs:List V},ResV T st rs vs→ResV T ⟨st.e,J,d⟩ rs vs:=by
 intro rs vs h
 induction h with
 | nil=>exact .nil
 | tmp h1 _ I=>exact .tmp h1 I
 | cell h1 h2 h3 h4 h5 _ I=>exact .cell h1 h2 (hh _ _ h3 (by simp)) h4 h5 I
theorem PureL.keep {h J:cO}(hh:∀id o,h id=some o→o≠ .dfr→J id=some o):∀{ids:List Nat}{rs:List R}{cs:List C},PureL h ids rs cs→PureL J ids rs cs:=by
 intro ids rs cs k
 induction k with
 | nil=>exact .nil
 | c h1 _ I=>exact .c h1 I
 | hs h1 h2 h3 _ I=>exact .hs (hh _ _ h1 (by simp)) h2 h3 I
 | any _ I=>exact .any I
 | fn _ I=>exact .fn I
 | ras h0 _ h1 h2 h3 _ N I=>exact .ras h0 N h1 h2 h3 I
theorem Convs.keep {h I:cO}(hh:∀id o,h id=some o→o≠ .dfr→I id=some o):∀{vs vs':List V},Convs h vs vs'→Convs I vs vs':=by
 intro vs vs' k
 induction k with
 | nil=>exact .nil
 | @cons ids v v' vs vs' h1 _ J=>
  refine .cons (ids:=ids) ?_ J;cases h1 with
  | refl=>exact .refl
  | one h=>exact .one (h.keep hh)
  | agg h=>exact .agg (h.keep hh)
  | pa h=>exact .pa (h.keep hh)
theorem aZf {X:Sto→Prop}{kf:List Nat}{f:FuncId}{fn:Func}{c:Code}{n:Nat}{args:List V}{hin hout:List (Nat×AObj)}{res:V}(hX:∀S μ w,X S→Ctx.keeps ⟨w,S,sV μ (look hin),μ,look hin⟩ kf) (hT:Tok P T) (hf:P.funcs[f]?=some fn) (hb:fn.body=some c) (hn:fn.ntmps=n) (hle:Nat.ble args.length n=true)
  (h:AWp none P n kf c (mk (aUi 0 args) hin) (fun ex st=>(ex=.normal∨ex=.ret)∧Fin T fn st hin res hout)):∀S μ w vals,X S→Inv ⟨w,S,sV μ (look hin),μ,look hin⟩ S μ (look hin) w→bS S μ (look hin) args vals→
  Calls P f ⟨vals⟩ w fun e w'=>∃S' μ' v,e=.returned v∧Inv ⟨w,S,sV μ (look hin),μ,look hin⟩ S' μ' (look hout) w'∧aY S' μ' (look hout) res v:=by
 intro S μ w vals hXS hI hv;refine(Wd.calls (ro:=none) (n:=0)).1 (callsIn_of_wp_marks hf hb trivial ?_);have hvl:∀(l:List V) (us:List Value),bS S μ (look hin) l us→us.length=l.length:=by
  intro l
  induction l with
  | nil=>intro us h;simp only[bS] at h;subst h;rfl
  | cons x l Y=>
   intro us h;simp only[bS] at h;obtain⟨v,vs',rfl,_,h2⟩:=h;simp[Y _ h2]
 have hvals:=hvl _ _ hv;have hle':=Ap hle;have ab:=hX S μ w hXS;refine h ⟨w,S,sV μ (look hin),μ,look hin⟩ S μ _ w _ ⟨ab,trivial⟩ ⟨hI,by simp;omega,rfl,fun t v ht=>?_⟩ ?_
 ·have key:∀(l:List V) (us:List Value) (k:Nat),bS S μ (look hin) l us→look (aUi k l) t=some v→∃j,t=k+j∧∃u,us[j]?=some u∧aY S μ (look hin) v u:=by
   intro l
   induction l with
   | nil=>intro us k _ h;simp[aUi,look] at h
   | cons x l Y=>
    intro us k W hl;simp only[bS] at W;obtain⟨u,Z,rfl,h1,h2⟩:=W;simp only[aUi,look] at hl;split at hl
    ·rename_i hbq;cases hl;exact⟨0,by rw[Ab hbq];rfl,u,rfl,h1⟩
    ·obtain⟨j,h3,u',h4,h5⟩:=Y Z (k+1) h2 hl;exact⟨j+1,by omega,u',by simpa using h4,h5⟩
  obtain⟨j,h1,u,h2,h3⟩:=key args vals 0 hv ht;rw[Bd] at h1;subst h1;have hj:t<vals.length:=(ε.1 h2).1
  have:((⟨vals⟩:Array Value)++Array.replicate (fn.ntmps-(⟨vals⟩:Array Value).size) undef).getD t undef=u:=by
   rw[A4,Array.getElem?_append_left (by simpa using hj)];simp[h2]
  show aY S μ (look hin) v (((⟨vals⟩:Array Value)++Array.replicate (fn.ntmps-(⟨vals⟩:Array Value).size) undef).getD t undef);rw[this];exact h3
 ·intro ex st' S' μ' a' w' ⟨hex,ad⟩ hs;obtain⟨⟨vs,vs',W,hc,ae⟩,hout',hok⟩:=ad;simp only[Ah] at hok;obtain⟨⟨⟨⟨⟨k1,k2⟩,k3⟩,k4⟩,k5⟩,k6⟩:=hok;have N:LeavesInM (Wd none) 0 P fn a'.tmps (fun e w'=>∃S' μ' v,e=.returned v∧Inv ⟨w,S,sV μ (look hin),μ,look hin⟩ S' μ' (look hout) w'∧aY S' μ' (look hout) res v) a'.defers .returning w':=by
   refine Sim.leave (G:=⟨w,S,sV μ (look hin),μ,look hin⟩) (n:=n) (S:=S') (μ:=μ') (fun id e=>?_) st'.d (e:=st'.e) (h:=st'.h) hs fun O w'' hh hs=>?_
   ·have:=(A3.1 k5) _ (c9 (show look hin id=some .dfr from e));cases this
   have W:ResV T ⟨st'.e,O,[]⟩ fn.results.toList vs:=ResV.keep (fun id o I aa=>hh id o I aa) W;have hc:Convs O vs vs':=hc.keep fun id o I aa=>hh id o I aa
   have hout':eQ (fun p=>∃o,O p.1=some o∧Ole (fun i=>i) o p.2) hout:=by
    have hk:∀l:List (Nat×AObj),(∀p∈l,p∈hout)→eQ (fun p=>∃o,O p.1=some o∧Ole (fun i=>i) o p.2) l:=by
     intro l
     induction l with
     | nil=>intro _;trivial
     | cons p l Y=>
      intro hl;refine⟨?_,Y fun q hq=>hl q (by simp[hq])⟩;obtain⟨o,g1,g2⟩:=hout'.mem p (hl p (by simp));refine⟨o,hh _ _ g1 ?_,g2⟩;rintro rfl;have hp:=(A3.1 k6) p (hl p (by simp));cases hq:p.2<;>rw[hq] at g2 hp<;>cases g2;cases hp
    exact hk hout fun p hp=>hp
   obtain⟨us,h1,h2⟩:=aBc hT hs W;refine⟨_,h1,?_⟩;have h3:=hc.rel hs.inv.obj h2;have J:∀i∈keys hout,Good O (look hout) (fun i=>i) i:=by
    intro i hi;obtain⟨o',ac⟩:=fQ hi;obtain⟨o,g1,g2⟩:=hout'.mem _ (c9 ac);exact⟨o,o',g1,ac,g2⟩
   have hv4:aY S' μ' O res (aQc us):=by
    rw[←ae]
    match vs',us,h3 with
    | [],us,h3=>simp only[bS] at h3;subst h3;simp[aQb,aQc,aY,bS]
    | [v],us,h3=>
     simp only[bS] at h3;obtain⟨u,Z,rfl,h5,rfl⟩:=h3;exact h5
    | v::v'::l,us,h3=>
     have h3':=h3;simp only[bS] at h3';obtain⟨u,Z,rfl,_,u',us'',rfl,_,_⟩:=h3';simp only[aQb,aQc,aY];exact⟨_,rfl,h3⟩
   have hI':Inv ⟨w,S,sV μ (look hin),μ,look hin⟩ S' μ' (look hout) w'':=by
    refine⟨hs.inv.holds,fun id o I=>?_,fun i j o o' b c c' hi hj hm hm'=>?_,fun i o b c hi hm=>?_,hs.inv.frame,hs.inv.sle,hs.inv.sto,⟨hs.inv.evo.le,fun id o I=>?_⟩,hs.inv.fre⟩
    ·obtain⟨o1,g1,g2⟩:=hout'.mem _ (c9 I);exact(hs.inv.obj _ _ g1).ren g2 fun i hi=>J i (bL k2 i (j8 (c9 I) i hi))
    ·obtain⟨o1,g1,g2⟩:=hout'.mem _ (c9 hi);obtain⟨o2,g3,g4⟩:=hout'.mem _ (c9 hj);exact hs.inv.inj _ _ _ _ b c c' g1 g3 hm hm'
    ·obtain⟨o1,g1,g2⟩:=hout'.mem _ (c9 hi);exact hs.inv.own _ _ b c g1 hm
    ·obtain⟨o',(g1:O id=some o'),g2⟩:=hs.inv.evo.obj id o I;have hk:id∈keys hin:=Ad.2 ⟨_,c9 (show look hin id=some o from I),rfl⟩;obtain⟨o1,o2,g3,g4,g5⟩:=J id (bL k4 id hk);rw[g1] at g3;cases g3;exact⟨o2,g4,AObj.succ_trans g2 g5.succ fun e _=>e⟩
   have hR:aY S' μ' (look hout) res (aQc us):=by
    have:=aY.ren (H:=O) (H':=look hout) (σ:=fun i=>i) res _ (fun i hi=>J i (bL k1 i hi)) (by rw[V.ren_id];exact hv4);exact this
   exact⟨S',μ',_,rfl,hI',hR⟩
  rcases hex with rfl | rfl
  ·exact N
  ·exact N
end
section
variable {P:Program}{T:TT}
theorem bT {f:FuncId}{fn:Func}{c:Code}{n:Nat}{args:List V}{hin hout:List (Nat×AObj)}{res:V}(I:Tok P T) (hf:P.funcs[f]?=some fn) (hb:fn.body=some c) (hn:fn.ntmps=n) (hle:Nat.ble args.length n=true)
  (h:AWp none P n (keys hin) c (mk (aUi 0 args) hin) (fun ex st=>(ex=.normal∨ex=.ret)∧Fin T fn st hin res hout)):aW P f args hin res hout:=
 fun S μ w vals J hv=>aZf (X:=fun _=>True) (fun _ _ _ _=>yZ) I hf hb hn hle h S μ w vals trivial J hv
end
def kE (P:Program) (n:Nat) (ops:Array Oper) (draw:Bool) (k:Nat) (st:St) (pre:REs) (Q:St→Prop):Prop:=
 ∃xs st',Run P n ops k st xs st'∧Nat.beq (k+xs.length) ops.size=true∧(!draw || (fC (oE ops) (pre.reverse++xs) []&&gY ops))=true∧Q st'
section
variable {ro:Option Nat}{P:Program}{n:Nat}{ops:Array Oper}{draw:Bool}{k:Nat}{st:St}{pre:REs}{Q:St→Prop}
theorem k_ {rd:Rd}{f:Eff}(h:GStep P n ops k st rd f) (hk:kE P n ops draw (k+1) (f.apply st) ((rd,f)::pre) Q):kE P n ops draw k st pre Q:=by
 obtain⟨xs,st',h1,h2,h3,h4⟩:=hk;refine⟨(rd,f)::xs,st',.cons h h1,?_,?_,h4⟩
 ·rw[Aj,show k+(xs.length+1)=k+1+xs.length by omega];exact h2
 ·rw[List.reverse_cons,Aw] at h3;exact h3
theorem z_ (h1:Nat.beq k ops.size=true) (h2:(!draw || (fC (oE ops) pre.reverse []&&gY ops))=true) (I:Q st):kE P n ops draw k st pre Q:=
 ⟨[],st,.nil,h1,by rw[A8];exact h2,I⟩
theorem aE {kf:List Nat}{id:Nat}{Q:Exit→St→Prop}(hm:P.follows .mixedOrders=true) (h:kE P n ops draw 0 st [] (fun st'=>Q .normal st')):AWp ro P n kf (.region id ops draw) st Q:=by
 obtain⟨xs,st',h1,h2,h4,h3⟩:=h;rw[Bd] at h2;exact uM hm h1 h2 h4 h3
theorem aUe {kf:List Nat}{id:Nat}{Q:Exit→St→Prop}(st2:St) (hm:P.follows .mixedOrders=true) (h:kE P n ops draw 0 st [] (fun st'=>Sub kf st2 st')) (I:Q .normal st2):AWp ro P n kf (.region id ops draw) st Q:=by
 obtain⟨xs,st',h1,h2,h4,h3⟩:=h;rw[Bd] at h2;refine AWp.post (Q:=fun ex s=>ex=.normal∧Sub kf st2 s) (uM hm h1 h2 h4 ⟨rfl,h3⟩) ?_;rintro ex s ⟨rfl,hs⟩;exact⟨st2,hs,I⟩
theorem g_ {i:Nat}{o:Oper}{rd:Rd}{f:Eff}(I:ops[i]?=some o) (hg:o.guard=none) (h:Step P n o st rd f):GStep P n ops i st rd f:=GStep.plain I hg h
theorem AWp.cut {kf:List Nat}{c:Code}{Q:Exit→St→Prop}(st2:St) (h:AWp ro P n kf c st (fun ex s=>match ex with | .normal=>Sub kf st2 s | ex=>Q ex s)) (I:Q .normal st2):AWp ro P n kf c st Q:=by
 refine AWp.post h ?_;intro ex s hs;cases ex with
 | normal=>exact⟨st2,hs,I⟩
 | _=>exact⟨s,Sub.refl _ _,hs⟩
end
section
variable {P:Program}{n:Nat}{o:Oper}{st:St}{d:Nat}{T:TT}
theorem aWe {N ty:TypeId}{x y:Operand}{a b:Int}(O:o.op=.binOp .add N x y ty) (hd:o.dst=some d) (J:d<n) (hx:opv st x=some (I .i64 a)) (hy:opv st y=some (I .i64 b)) (W: -9223372036854775808≤a+b∧a+b≤9223372036854775807):
  Step P n o st ⟨opr x++opr y,[]⟩ ⟨some (d,some (I .i64 (a+b))),[]⟩:=aN9 O hd J hx hy (B9 _ W)
theorem aVv {N ty:TypeId}{x y:Operand}{a b:Int}(O:o.op=.binOp .sub N x y ty) (hd:o.dst=some d) (J:d<n) (hx:opv st x=some (I .i64 a)) (hy:opv st y=some (I .i64 b)) (W: -9223372036854775808≤a-b∧a-b≤9223372036854775807):
  Step P n o st ⟨opr x++opr y,[]⟩ ⟨some (d,some (I .i64 (a-b))),[]⟩:=aNy O hd J hx hy (B9 _ W)
theorem aV8 {N ty:TypeId}{x y:Operand}{a b:Int}(O:o.op=.binOp .mul N x y ty) (hd:o.dst=some d) (J:d<n) (hx:opv st x=some (I .i64 a)) (hy:opv st y=some (I .i64 b)) (W: -9223372036854775808≤a*b∧a*b≤9223372036854775807):
  Step P n o st ⟨opr x++opr y,[]⟩ ⟨some (d,some (I .i64 (a*b))),[]⟩:=aN3 O hd J hx hy (B9 _ W)
theorem aQm {O ty:TypeId}{x y:Operand}{a b:Int}(W:o.op=.binOp .quo O x y ty) (hd:o.dst=some d) (N:d<n) (hx:opv st x=some (I .i64 a)) (hy:opv st y=some (I .i64 b)) (J:0≤a∧a≤9223372036854775807∧1≤b):
  Step P n o st ⟨opr x++opr y,[]⟩ ⟨some (d,some (I .i64 (a/b))),[]⟩:=aV4 W hd N hx hy (by omega) (by
   have h1:a.tdiv b=a/b:=Int.tdiv_eq_ediv_of_nonneg J.1;rw[h1];refine B9 _ ⟨?_,?_⟩
   ·have:=Int.ediv_nonneg J.1 (show(0:Int)≤b by omega);omega
   ·have:=Int.ediv_le_self b J.1;omega)
theorem aQl {N ty:TypeId}{x y:Operand}{k:IntKind}{a b:Int}(O:o.op=.binOp .rem N x y ty) (hd:o.dst=some d) (J:d<n) (hx:opv st x=some (I k a)) (hy:opv st y=some (I k b)) (W:0≤a∧1≤b):
  Step P n o st ⟨opr x++opr y,[]⟩ ⟨some (d,some (I k (a%b))),[]⟩:=aV2 O hd J hx hy (by omega) (Int.tmod_eq_emod_of_nonneg W.1)
theorem iM (op:BinOp) (t:TypeId) (x y:Operand) (u v:Value) (w:World) (h1:(match u with | .agg _=>true | .nilIface=>true | _=>false)=false):(eqGuard op t x y u v).run P w=.ok () w:=by
 unfold eqGuard;cases u<;>simp at h1<;>(split<;>rfl)
theorem tC {t:TypeId}(hu:P.underlying t=some .bool) (d:Nat) (a b:Bool) (w:World):(Op.equalIn (d+1) t (.bool a) (.bool b)).run P w=.ok (a==b) w:=by
 simp only[Op.equalIn,Ae,Aq hu w,χ,Af]
theorem y7 {t e:TypeId}(hu:P.underlying t=some (.pointer e)) (d:Nat) (p:Option Addr) (w:World):(Op.equalIn (d+1) t (.pointer p) (.pointer none)).run P w=.ok p.isNone w:=by
 cases p<;>simp only[Op.equalIn,Ae,Aq hu w,χ,Af]<;>rfl
theorem aNu {t e:TypeId}(hu:P.underlying t=some (.slice e)) (d:Nat) (p:Option Addr) (l c:Nat) (w:World):(Op.equalIn (d+1) t (.slice p l c) (.slice none 0 0)).run P w=.ok p.isNone w:=by
 cases p<;>simp only[Op.equalIn,Ae,Aq hu w,χ,Af]<;>rfl
theorem aBd {I ty:TypeId}{x y:Operand}{a:Act}{w:World}{u v:Value}{b:Bool}(N:o.op=.binOp .eql I x y ty) (hx:a.eval x=u) (hy:a.eval y=v) (hg:(eqGuard .eql I x y u v).run P w=.ok () w)
  (hb:binOp .eql I u v=(do pure (.bool (←Op.equal I u v)))) (O:(Op.equalIn (9999+1) I u v).run P w=.ok b w):(execOp a.eval o).run P w=.ok (.value (.bool b)) w:=by
 have J:(Op.equal I u v).run P w=.ok b w:=O;simp only[execOp,N,hx,hy,Ae,hg,χ,hb,J,Af]
theorem aIe {I ty:TypeId}{x y:Operand}{a:Act}{w:World}{u v:Value}{b:Bool}(N:o.op=.binOp .neq I x y ty) (hx:a.eval x=u) (hy:a.eval y=v) (hg:(eqGuard .neq I x y u v).run P w=.ok () w)
  (hb:binOp .neq I u v=(do pure (.bool (!(←Op.equal I u v))))) (O:(Op.equalIn (9999+1) I u v).run P w=.ok b w):(execOp a.eval o).run P w=.ok (.value (.bool (!b))) w:=by
 have J:(Op.equal I u v).run P w=.ok b w:=O;simp only[execOp,N,hx,hy,Ae,hg,χ,hb,J,Af]
theorem aWc {I ty:TypeId}{i:TI}{x y:Operand}{a b:Bool}(N:Tok P T) (O:o.op=.binOp .eql I x y ty) (hd:o.dst=some d) (J:d<n) (hi:T[I]?=some (some i)) (hk:i.k=.bool) (hx:opv st x=some (B a)) (hy:opv st y=some (B b)):
  Step P n o st ⟨opr x++opr y,[]⟩ ⟨some (d,some (B (a==b))),[]⟩:=by
 refine Step.value hd J fun _ ha _ _ _ ac w hs=>?_
 have h1:=iV (aO hs hx (eO ha).1);have h2:=iV (aO hs hy (eO ha).2);exact⟨.bool (a==b),aBd O h1 h2 (iM _ _ _ _ _ _ _ rfl) rfl (tC ((N.get hi).bool hk) _ _ _ _),by simp[aY,bB,Rep]⟩
theorem aWb {I ty:TypeId}{i:TI}{x y:Operand}{a b:Bool}(N:Tok P T) (O:o.op=.binOp .neq I x y ty) (hd:o.dst=some d) (J:d<n) (hi:T[I]?=some (some i)) (hk:i.k=.bool) (hx:opv st x=some (B a)) (hy:opv st y=some (B b)):
  Step P n o st ⟨opr x++opr y,[]⟩ ⟨some (d,some (B (!(a==b)))),[]⟩:=by
 refine Step.value hd J fun _ ha _ _ _ ac w hs=>?_
 have h1:=iV (aO hs hx (eO ha).1);have h2:=iV (aO hs hy (eO ha).2);exact⟨.bool (!(a==b)),aIe O h1 h2 (iM _ _ _ _ _ _ _ rfl) rfl (tC ((N.get hi).bool hk) _ _ _ _),by simp[aY,bB,Rep]⟩
def yJ:V→Option Bool
 | .one (.c .np)=>some true
 | .one (.c (.pt _))=>some false
 | .one (.vp _ _)=>some false
 | _=>none
theorem tQ {S:Sto}{μ:Mu}{H:cO}{v:V}{u:Value}{b:Bool}(h:aY S μ H v u) (hb:yJ v=some b):∃p,u=.pointer p∧p.isNone=b:=by
 unfold yJ at hb;split at hb
 ·cases hb;simp only[aY,bB,Rep] at h;exact⟨none,h,rfl⟩
 ·cases hb;simp only[aY,bB,Rep] at h;obtain⟨b,o,h,_⟩:=h;exact⟨_,h,rfl⟩
 ·cases hb;simp only[aY,bB] at h;obtain⟨t,cells,b,c,_,_,h⟩:=h;exact⟨_,h,rfl⟩
 ·cases hb
theorem aV6 {I ty e:TypeId}{i:TI}{x y:Operand}{v:V}{b:Bool}(N:Tok P T) (O:o.op=.binOp .eql I x y ty) (hd:o.dst=some d) (J:d<n) (hi:T[I]?=some (some i)) (hk:i.k=.pt e) (hx:opv st x=some v) (hv:yJ v=some b) (hy:opv st y=some (.one (.c .np))):
  Step P n o st ⟨opr x++opr y,[]⟩ ⟨some (d,some (B b)),[]⟩:=by
 refine Step.value hd J fun _ ha _ _ _ ac w hs=>?_
 obtain⟨p,h1,hp⟩:=tQ (aO hs hx (eO ha).1) hv;have h2:=aO hs hy (eO ha).2;simp only[aY,bB,Rep] at h2;subst hp;exact⟨.bool p.isNone,aBd O h1 h2 (iM _ _ _ _ _ _ _ rfl) (by cases p<;>rfl) (y7 ((N.get hi).ptr hk) _ _ _),by simp[aY,bB,Rep]⟩
theorem aV5 {I ty e:TypeId}{i:TI}{x y:Operand}{v:V}{b:Bool}(N:Tok P T) (O:o.op=.binOp .neq I x y ty) (hd:o.dst=some d) (J:d<n) (hi:T[I]?=some (some i)) (hk:i.k=.pt e) (hx:opv st x=some v) (hv:yJ v=some b) (hy:opv st y=some (.one (.c .np))):
  Step P n o st ⟨opr x++opr y,[]⟩ ⟨some (d,some (B (!b))),[]⟩:=by
 refine Step.value hd J fun _ ha _ _ _ ac w hs=>?_
 obtain⟨p,h1,hp⟩:=tQ (aO hs hx (eO ha).1) hv;have h2:=aO hs hy (eO ha).2;simp only[aY,bB,Rep] at h2;subst hp;exact⟨.bool (!p.isNone),aIe O h1 h2 (iM _ _ _ _ _ _ _ rfl) (by cases p<;>rfl) (y7 ((N.get hi).ptr hk) _ _ _),by simp[aY,bB,Rep]⟩
def aNr:V→Option Bool
 | .one (.c .nl)=>some true
 | .one (.c (.sn _ _))=>some false
 | _=>none
theorem aH9 {S:Sto}{μ:Mu}{H:cO}{v:V}{u:Value}{b:Bool}(h:aY S μ H v u) (hb:aNr v=some b):∃p l c,u=.slice p l c∧p.isNone=b:=by
 unfold aNr at hb;split at hb
 ·cases hb;simp only[aY,bB,Rep] at h;exact⟨none,_,_,h,rfl⟩
 ·cases hb;simp only[aY,bB,Rep] at h;obtain⟨b,o,sp,l,c,h,_⟩:=h;exact⟨_,_,_,h,rfl⟩
 ·cases hb
theorem aSn {I ty e:TypeId}{i:TI}{x y:Operand}{v:V}{b:Bool}(N:Tok P T) (O:o.op=.binOp .eql I x y ty) (hd:o.dst=some d) (J:d<n) (hi:T[I]?=some (some i)) (hk:i.k=.sl e) (hx:opv st x=some v) (hv:aNr v=some b) (hy:opv st y=some (.one (.c .nl))):
  Step P n o st ⟨opr x++opr y,[]⟩ ⟨some (d,some (B b)),[]⟩:=by
 refine Step.value hd J fun _ ha _ _ _ ac w hs=>?_
 obtain⟨p,l,c,h1,hp⟩:=aH9 (aO hs hx (eO ha).1) hv;have h2:=aO hs hy (eO ha).2;simp only[aY,bB,Rep] at h2;subst hp;exact⟨.bool p.isNone,aBd O h1 h2 (iM _ _ _ _ _ _ _ rfl) (by cases p<;>rfl) (aNu ((N.get hi).slice hk) _ _ _ _ _),by simp[aY,bB,Rep]⟩
end
theorem take_map {α β:Type}{f:α→β}{l:List α}:(l.map f).take l.length=l.map f:=Ba (by simp)
theorem Ole.arrE {σ:Nat→Nat}{te es fz:Nat}{e e':List (List C)}(h:e=e'):Ole σ (.arr te es e fz) (.arr te es e' 1):=by subst h;exact .arr1
section
variable {P:Program}{n:Nat}{o:Oper}{st:St}{d:Nat}{T:TT}
def zH (st:St):List Operand→Option (List R)
 | []=>some []
 | x::xs=>match opv st x with
  | some (.one r)=>match zH st xs with | some l=>some (r::l) | none=>none
  | _=>none
theorem zG {G:Ctx}{S:Sto}{μ:Mu}{st':St}{a:Act}{w:World}(hs:Sim G n S μ st' a w):∀(xs:List Operand) (l:List R),zH st xs=some l→(∀t∈dP xs,st'.e t=st.e t)→aV S μ st'.h l (xs.map a.eval)
 | [],l,h,_=>by simp[zH] at h;subst h;simp[aV]
 | x::xs,l,h,ht=>by
  simp only[zH] at h;split at h
  ·rename_i r J;split at h
   ·rename_i l' I;cases h;have h1:=aO hs J fun t h=>ht t (by simp[dP,h])
    simp only[aY] at h1;simp only[Al,aV];exact⟨_,_,rfl,h1,zG hs xs l' I fun t h=>ht t (by simp[dP,h])⟩
   ·cases h
  ·cases h
theorem aF1 {f:FuncId}{caps:Array Operand}{l:List R}(J:o.op=.makeFunc (.func f) #[] caps) (hd:o.dst=some d) (I:d<n) (hc:zH st caps.toList=some l):Step P n o st ⟨dP caps.toList,[]⟩ ⟨some (d,some (.one (.clo f l))),[]⟩:=by
 refine Step.value hd I fun st' ha _ S μ ac w hs=>?_
 have h:=zG hs _ _ hc ha.1;refine⟨.func (.func f) #[] (caps.map ac.eval),by simp[execOp,J,Instr.makeFunc],?_⟩;simp only[aY,bB];refine⟨caps.toList.map ac.eval,?_,h⟩;congr 1;apply Array.ext';simp
theorem yH {f:FuncId}{x:Operand}{c:R}(J:o.op=.makeFunc (.func f) #[x] #[]) (hd:o.dst=some d) (I:d<n) (hx:opv st x=some (.one c)):Step P n o st ⟨opr x,[]⟩ ⟨some (d,some (.one (.mth f c))),[]⟩:=by
 refine Step.value hd I fun st' ha _ S μ ac w hs=>?_
 have h:=aO hs hx ha.1;refine⟨.func (.func f) #[ac.eval x] #[],by simp[execOp,J,Instr.makeFunc],?_⟩;simp only[aY,bB] at h ⊢;exact⟨_,rfl,h⟩
def iT (k:List UInt8):List (List C)→Option (List C)
 | []=>none
 | (.str s::vs)::r=>if s=k then some vs else iT k r
 | _::r=>iT k r
def aGc (k:List UInt8) (vs:List C):List (List C)→List (List C)
 | []=>[.str k::vs]
 | (.str s::us)::r=>if s=k then(.str k::vs)::r else(.str s::us)::aGc k vs r
 | x::r=>x::aGc k vs r
theorem aFg (a b:List UInt8):((ByteArray.mk ⟨a⟩)==(ByteArray.mk ⟨b⟩))=decide (b=a):=by
 rw[beq_toListBytes,kR,kR,Bool.beq_eq_decide_eq];by_cases h:a=b
 ·subst h;simp
 ·have I:¬b=a:=fun e=>h e.symm
  simp[h,I]
theorem jQ {S:Sto}{agg:Bool}{k:List UInt8}:∀(l:List (List C)) (es:List MapEntry) (i:Nat),bE S agg l es→jY l→
  (∀vs,iT k l=some vs→∃j e,Instr.findNow .string (.string ⟨⟨k⟩⟩) es i=some (some (i+j,e.val))∧es[j]?=some e∧(∃us,dI S vs us∧e.val=(if agg then .agg ⟨us⟩ else us.headD undef)∧(agg=false→us.length=1))∧e.key=.string ⟨⟨k⟩⟩∧j<es.length∧
   ∀ws,aGc k ws l=(l.take j)++(.str k::ws)::l.drop (j+1))∧
  (iT k l=none→Instr.findNow .string (.string ⟨⟨k⟩⟩) es i=some none∧∀ws,aGc k ws l=l++[.str k::ws])
 | [],es,i,h,_=>by
  simp only[bE] at h;subst h;exact⟨fun vs hv=>by simp[iT] at hv,fun _=>⟨rfl,fun ws=>rfl⟩⟩
 | r::l,es,i,h,hm=>by
  simp only[bE] at h;obtain⟨e,J,rfl,⟨vs,h1,h2,h3⟩,h4⟩:=h
  match r,h1,hm with
  | .str s::us,h1,hm=>
   simp only[jY] at hm;simp only[dI] at h1;obtain⟨v,vs',hv,h5,h6⟩:=h1;simp only[Rep] at h5;injection hv with Y Z;subst Z;have I:e.key=.string ⟨⟨s⟩⟩:=by rw[Y,h5]
   have ih:=jQ (k:=k) l J (i+1) h4 hm;by_cases hs:s=k
   ·subst hs;refine⟨fun ws hw=>?_,fun hn=>by simp[iT] at hn⟩;simp only[iT,Cn,Option.some.injEq] at hw;subst hw;refine⟨0,e,?_,rfl,⟨vs,h6,h2,h3⟩,I,by simp,fun ws=>by simp[aGc]⟩;simp only[Instr.findNow,I,Instr.sameNow];rw[aFg];simp
   ·have N:Instr.findNow .string (.string ⟨⟨k⟩⟩) (e::J) i=Instr.findNow .string (.string ⟨⟨k⟩⟩) J (i+1):=by
     simp only[Instr.findNow,I,Instr.sameNow];rw[aFg];simp[hs]
    refine⟨fun ws hw=>?_,fun hn=>?_⟩
    ·simp only[iT,hs,Bt] at hw;obtain⟨j,e',O,W,q3,q4,q5,q6⟩:=ih.1 ws hw;refine⟨j+1,e',?_,by simpa using W,q3,q4,by simpa using q5,fun ws=>?_⟩
     ·rw[N,O,show i+1+j=i+(j+1) by omega]
     ·simp only[aGc,hs,Bt,q6 ws];simp
    ·simp only[iT,hs,Bt] at hn;obtain⟨O,W⟩:=ih.2 hn;exact⟨by rw[N,O],fun ws=>by simp only[aGc,hs,Bt,W ws];simp⟩
  | [],h1,_=>simp only[dI] at h1;cases h1
  | .int _ _::_,_,hm=>simp[jY] at hm
  | .bool _::_,_,hm=>simp[jY] at hm
  | .nl::_,_,hm=>simp[jY] at hm
  | .sl _ _::_,_,hm=>simp[jY] at hm
  | .sn _ _::_,_,hm=>simp[jY] at hm
  | .np::_,_,hm=>simp[jY] at hm
  | .pt _::_,_,hm=>simp[jY] at hm
  | .mp _ _::_,_,hm=>simp[jY] at hm
  | .zv _::_,_,hm=>simp[jY] at hm
theorem lE {t:TypeId}(hu:P.underlying t=some .string) (b:Bool) (d:Nat) (s:ByteArray) (w:World):(Instr.checkKey b (d+1) t (.string s)).run P w=.ok () w:=by
 simp only[Instr.checkKey,Ae,Aq hu w,χ,Af]
inductive MapE (st:St):List Nat→V→Bool→List (List C)→Prop
 | mr {id agg ents}:st.h id=some (.map agg ents)→MapE st [id] (.one (.mr id)) agg ents
 | mp {agg ents}:MapE st [] (.one (.c (.mp agg ents))) agg ents
 | nil {agg}:MapE st [] (.one (.c (.zv 0))) agg []
theorem MapE.rel {G:Ctx}{S:Sto}{μ:Mu}{st':St}{a:Act}{w:World}{ids:List Nat}{v:V}{agg:Bool}{ents:List (List C)}{u:Value}(hs:Sim G n S μ st' a w) (h:MapE st ids v agg ents) (I:jY ents) (hi:∀i∈ids,st'.h i=st.h i) (hv:aY S μ st'.h v u):
  ∃es:Array MapEntry,bE S agg ents es.toList∧((u=.map none∧es= #[])∨∃b clk,u=.map (some b)∧w.heap[b]?=some (.map es clk)):=by
 cases h with
 | mr hh=>
  have J:=(hi _ (by simp)).trans hh;simp only[aY,bB] at hv;obtain⟨O,N,b,c,h1,h2,h3⟩:=hv;rw[J] at h1;cases h1;obtain⟨b',es,clk,g1,g2,g3,g4⟩:=hs.inv.obj _ _ J;rw[h2] at g1;cases g1;exact⟨es,g3.rep I,.inr ⟨_,clk,h3,g2⟩⟩
 | mp=>
  simp only[aY,bB,Rep] at hv;obtain⟨b,es,clk,h1,h2,h3⟩:=hv;refine⟨es,h3.elim id fun h3=>?_,.inr ⟨b,clk,h1,hs.inv.holds.2 _ _ h2⟩⟩;cases ents with
  | nil=>simp only[aNa] at h3
  | cons r l=>simp only[aNa] at h3;rw[h3.1] at I;simp[jY] at I
 | nil=>
  simp only[aY,bB,Rep,aU1] at hv;exact⟨#[],by simp[bE],.inl ⟨hv,rfl⟩⟩
def pK (i:TI) (r:Option (List C)):V:=match r with
 | some vs=>if i.k.agg then .pa vs else match vs with | [c]=>.one (.c c) | _=>.tup []
 | none=>if i.k.agg then .pa i.zero else match i.zero with | [c]=>.one (.c c) | _=>.tup []
def aGf (r:Option (List C)):Bool:=r.isSome
def aKz (r:Option (Nat×Value)) (z:Value):Value:=match r with | some p=>p.2 | none=>z
theorem j6 (w:World) (b:Nat) (es:Array MapEntry) (clk:Nat) (h:w.heap[b]?=some (.map es clk)):(getObj b).run P w=.ok (.map es clk) w:=by
 exact MapKept.run_getObj_map h
theorem aIp {t kt et:TypeId}{i ki J:TI}{x y:Operand}{ok:Bool}{ids:List Nat}{agg:Bool}{k:List UInt8}{r:Option (List C)}(Z:Tok P T) (ho:o.op=.lookup t x y ok) (hd:o.dst=some d) (hdn:d<n) (hi:T[t]?=some (some i)) (hk:i.k=.mp kt et)
  (hki:T[kt]?=some (some ki)) (hkk:ki.k=.str) (aa:T[et]?=some (some J)) (N:J.k.agg=agg) (hy:opv st y=some (Go.AM.T k))
  (hrel:∀(st':St),oU ⟨opr x++opr y,ids⟩ st st'→∀(G:Ctx) (S:Sto) (μ:Mu) (a:Act) (w:World),Sim G n S μ st' a w→∃(es:Array MapEntry) (ents:List (List C)),jY ents∧iT k ents=r∧bE S agg ents es.toList∧((a.eval x=.map none∧es= #[])∨∃b clk,a.eval x=.map (some b)∧w.heap[b]?=some (.map es clk))):
  Step P n o st ⟨opr x++opr y,ids⟩ ⟨some (d,some (if ok then .tup [pK J r,B (aGf r)] else pK J r)),[]⟩:=by
 refine Step.value hd hdn fun st' ha G S μ a w hs=>?_
 obtain⟨es,ents,hms,hr,h1,h2⟩:=hrel st' ha G S μ a w hs;have h3:=kQ (aO hs hy fun t h=>ha.1 t (by simp[h]));have hu:=Aq ((Z.get hi).map hk) w;have ab:=(Z.get hki).str hkk;obtain⟨z,hz,hzr,hz1,hz2⟩:=(Z.get aa).zero_run;have O:=jQ (k:=k) ents es.toList 0 h1 hms;have key:∃r0:Option (Nat×Value),(Instr.findKey kt (.string ⟨⟨k⟩⟩) es.toList).run P w=.ok r0 w∧aY S μ st'.h (pK J r) (aKz r0 z)∧aGf r=r0.isSome:=by
  cases W:iT k ents with
  | some vs=>
   obtain⟨j,e,q1,q2,⟨us,Y,q4,q5⟩,q6,q7,q8⟩:=O.1 vs W;refine⟨some (0+j,e.val),?_,?_,by rw[←hr,W];rfl⟩
   ·simp only[Instr.findKey,Ae,Aq ab w,χ,q1,Af]
   ·rw[←hr,W];simp only[pK,N];cases agg with
    | true=>
     simp only[Cn,aY] at q4 ⊢;exact⟨us,q4,Y⟩
    | false=>
     simp only[Bc,Bt] at q4 ⊢;have hl:=q5 rfl;have hl2:=Y.length
     match vs,us,Y,hl,hl2 with
     | [c],[u],Y,_,_=>
      simp only[dI] at Y;obtain⟨v,vs',hv,hc,_⟩:=Y;cases hv;rw[q4];simp only[aY,bB];exact hc
  | none=>
   obtain⟨q1,_⟩:=O.2 W;refine⟨none,?_,?_,by rw[←hr,W];rfl⟩
   ·simp only[Instr.findKey,Ae,Aq ab w,χ,q1,Af]
   ·rw[←hr,W];simp only[pK,N];have I:=hzr S;cases agg with
    | true=>
     rw[N,θ rfl] at hz1;simp only[Cn,aY];exact⟨z.cells.toList,hz1,I⟩
    | false=>
     obtain⟨u,hu1,hu2⟩:=hz2 N;simp only[Bc,Bt];have hl:=(Z.get aa).len;rw[(Z.get aa).one N] at hl
     match hzz:J.zero,hl with
     | [c],_=>
      rw[hzz,hu1] at I;simp only[dI] at I;obtain⟨v,vs',hv,hc,_⟩:=I;cases hv;rw[hu2];simp only[aY,bB];exact hc
 obtain⟨r0,hf,hv,hb⟩:=key;have hck:=fun b=>lE (P:=P) ab b 9999 ⟨⟨k⟩⟩ w
 have fin:aY S μ st'.h (if ok then .tup [pK J r,B (aGf r)] else pK J r) (if ok then .tuple #[(aKz r0 z),.bool r0.isSome] else(aKz r0 z)):=by
  cases ok with
  | false=>exact hv
  | true=>
   simp only[Cn,aY,bS];exact⟨[_,.bool r0.isSome],rfl,_,[.bool r0.isSome],rfl,hv,.bool r0.isSome,[],rfl,by rw[hb];simp[bB,Rep],rfl⟩
 refine⟨_,?_,fin⟩;rcases h2 with⟨h2,rfl⟩ | ⟨b,clk,h2,h4⟩
 ·simp only[execOp,ho,h2,h3,Ae,Instr.lookup,hu,χ,Af];rw[show(10000:Nat)=9999+1 from rfl,hck];simp only[χ,hf];cases r0 with
  | none=>simp only[Ae,hz w,χ,Af];rfl
  | some p=>rfl
 ·simp only[execOp,ho,h2,h3,Ae,Instr.lookup,hu,χ,Af,j6 w b es clk h4];rw[show(10000:Nat)=9999+1 from rfl,hck];simp only[χ,hf];cases r0 with
  | none=>simp only[Ae,hz w,χ,Af];rfl
  | some p=>rfl
theorem vV {t N O:TypeId}{i W I:TI}{x y:Operand}{ok:Bool}{v:V}{ids:List Nat}{agg:Bool}{ents:List (List C)}{k:List UInt8}{r:Option (List C)}(hT:Tok P T) (ho:o.op=.lookup t x y ok) (hd:o.dst=some d) (Y:d<n) (hi:T[t]?=some (some i)) (hk:i.k=.mp N O)
  (Z:T[N]?=some (some W)) (aa:W.k=.str) (ab:T[O]?=some (some I)) (ac:I.k.agg=agg) (hx:opv st x=some v) (hm:MapE st ids v agg ents) (J:jY ents) (hy:opv st y=some (Go.AM.T k)) (hr:iT k ents=r):
  Step P n o st ⟨opr x++opr y,ids⟩ ⟨some (d,some (if ok then .tup [pK I r,B (aGf r)] else pK I r)),[]⟩:=
 aIp hT ho hd Y hi hk Z aa ab ac hy fun _ ha _ _ _ _ _ hs=>by
  obtain⟨es,h1,h2⟩:=hm.rel hs J ha.2 (aO hs hx fun t h=>ha.1 t (by simp[h]));exact⟨es,ents,J,hr,h1,h2⟩
theorem dR {S:Sto}{agg:Bool}:∀{a:List (List C)}{x:List MapEntry}{b:List (List C)}{y:List MapEntry},bE S agg a x→bE S agg b y→bE S agg (a++b) (x++y)
 | [],_,_,_,h,k=>by simp only[bE] at h;subst h;simpa using k
 | _::_,_,_,_,h,k=>by
  simp only[bE,A9] at h ⊢;obtain⟨v,vs',rfl,h1,h2⟩:=h;exact⟨v,vs'++_,rfl,h1,dR h2 k⟩
theorem kK {S:Sto}{agg:Bool}:∀{a:List (List C)}{x:List MapEntry}(n:Nat),bE S agg a x→bE S agg (a.take n) (x.take n)
 | _,_,0,_=>by simp[bE]
 | [],_,n+1,h=>by simp only[bE] at h;subst h;simp[bE]
 | _::_,_,n+1,h=>by
  simp only[bE,Az] at h ⊢;obtain⟨v,vs',rfl,h1,h2⟩:=h;exact⟨v,vs'.take n,by simp,h1,kK n h2⟩
theorem kL {S:Sto}{agg:Bool}:∀{a:List (List C)}{x:List MapEntry}(n:Nat),bE S agg a x→bE S agg (a.drop n) (x.drop n)
 | _,_,0,h=>by simpa using h
 | [],_,n+1,h=>by simp only[bE] at h;subst h;simp[bE]
 | _::_,_,n+1,h=>by
  simp only[bE,Cr] at h ⊢;obtain⟨v,vs',rfl,h1,h2⟩:=h;simpa using kL n h2
theorem aBg {t kt et:TypeId}{i ki:TI}{x y z:Operand}{id:Nat}{agg:Bool}{ents:List (List C)}{k:List UInt8}{v:V}{rs:List R}{cs:List C}{ids:List Nat}(hT:Tok P T) (ho:o.op=.mapUpdate t x y z) (hd:o.dst=none) (hi:T[t]?=some (some i)) (hk:i.k=.mp kt et)
  (hki:T[kt]?=some (some ki)) (hkk:ki.k=.str) (hx:opv st x=some (.one (.mr id))) (hh:st.h id=some (.map agg ents)) (O:jY ents) (hy:opv st y=some (Go.AM.T k))
  (hz:opv st z=some v) (I:(match v with | .one _=>!agg | .pa _=>agg | .ma _=>agg | _=>false)=true) (hc:hJ v=some rs) (hp:PureL st.h ids rs cs):
  Step P n o st ⟨opr x++opr y++opr z,id::ids⟩ ⟨none,[(id,some (.map agg (aGc k cs ents)))]⟩:=by
 refine Step.turn hd hh (by simp) (by simp[AObj.succ]) fun st' ha hh' G S μ a w hs=>?_
 have h1:=aO hs hx fun t h=>ha.1 t (by simp[h])
 have h3:=kQ (aO hs hy fun t h=>ha.1 t (by simp[h]));have hv:=aO hs hz fun t h=>ha.1 t (by simp[h])
 simp only[aY,bB] at h1;obtain⟨agg',ents',b,c,q1,q2,q3⟩:=h1;obtain⟨b',es,clk,g1,g2,g3,g4⟩:=hs.inv.obj id _ hh';rw[g1] at q2;cases q2;have g3:=g3.rep O;have hrep:=hp.rel (fun i h=>ha.2 i (by simp[h])) hs.inv.obj (eL hv hc);have W:a.eval z=(if agg then .agg ⟨(a.eval z).cells.toList⟩ else(a.eval z).cells.toList.headD undef)∧(agg=false→(a.eval z).cells.toList.length=1):=by
  cases v with
  | one r=>
   simp at I;subst I;simp only[aY] at hv;rw[hv.one.1];simp
  | pa l=>
   simp at I;subst I;simp only[aY] at hv;obtain⟨vs,hv,_⟩:=hv;rw[hv];simp[Value.cells]
  | ma l=>
   simp at I;subst I;simp only[aY] at hv;obtain⟨vs,hv,_⟩:=hv;rw[hv];simp[Value.cells]
  | tup l=>simp at I
 have Y:=(hT.get hki).str hkk;have hu:=Aq ((hT.get hi).map hk) w;have J:=jQ (k:=k) ents es.toList 0 g3 O;have hck:=fun b=>lE (P:=P) Y b 9999 ⟨⟨k⟩⟩ w
 have Z:∀e:MapEntry,e.key=.string ⟨⟨k⟩⟩→e.val=a.eval z→bE S agg [.str k::cs] [e]:=by
  intro e he1 he2;simp only[bE];refine⟨e,[],rfl,⟨(a.eval z).cells.toList,?_,by rw[he2];exact W.1,W.2⟩,rfl⟩;simp only[dI];exact⟨e.key,_,rfl,by simp[Rep,he1],hrep⟩
 have aa:∀(ob:Obj),(setObj b ob).run P w=.ok () { w with heap:=w.heap.setIfInBounds b ob }:=by
  intro ob;exact MapKept.run_setObj_map _ g2
 have hW:∀ob,WChg w { w with heap:=w.heap.setIfInBounds b ob } b ob:=fun ob=>by
  have hlt:=dY g2;refine⟨rfl,rfl,rfl,by simp,by simp[hlt],fun k _ hne=>?_⟩;show(w.heap.setIfInBounds b ob)[k]?=_;rw[Br,ψ (fun e=>hne e.symm)]
 have hSc:∀(ob:Obj) (o:Nat) (v:Value),S.cell b o=some v→∃vs t fr,ob=.cells vs t fr∧vs[o]?=some v:=fun ob o v e=>by
  obtain⟨vs,t,fr,N,_⟩:=hs.inv.holds.1 b o v e;rw[g2] at N;cases N
 have g4:=g4.kn0 O;have hSm:∀m,S.mapo b=some m→w.heap.size≤b:=fun m e=>by rw[g4] at e;cases e
 cases hq:iT k ents with
 | some vs=>
  obtain⟨j,e,N,p2,_,p4,p5,p6⟩:=J.1 vs hq;refine⟨_,.map (es.modify j fun e=>{ e with key:=.string ⟨⟨k⟩⟩,val:=a.eval z }) clk,b,(0,0),?_,g1,hW _,⟨b,_,clk,aJ _ _ _,(hW _).new,.inr (.inl ?_),.inl g4⟩,hSc _,hSm⟩
  ·have hkey:((es[j]?).map (·.key)).getD (.string ⟨⟨k⟩⟩)=.string ⟨⟨k⟩⟩:=by
    rw[←Array.getElem?_toList,p2];simpa using p4
   have hkt:(Instr.keyThatStays (.string ⟨⟨k⟩⟩) (.string ⟨⟨k⟩⟩)).run P w=.ok (.string ⟨⟨k⟩⟩) w:=by
    have hsb:Instr.sameBits 10000 (.string ⟨⟨k⟩⟩) (.string ⟨⟨k⟩⟩)=true:=by simp[Instr.sameBits,aFg]
    simp only[Instr.keyThatStays,hsb,Cn,Af]
   simp only[execOp,ho,q3,h3,Ae,Instr.mapUpdate,hu,χ,j6 w b es clk g2];rw[show(10000:Nat)=9999+1 from rfl,hck];simp only[χ,Instr.findKey,Ae,Aq Y w,N,Af,Bd,hkey,hkt,aa]
  ·rw[p6 cs,Array.toList_modify];have hmod:es.toList.modify j (fun e=>{ e with key:=.string ⟨⟨k⟩⟩,val:=a.eval z })=es.toList.take j++{ e with key:=.string ⟨⟨k⟩⟩,val:=a.eval z }::es.toList.drop (j+1):=by
    apply Bo;intro i;rw[List.getElem?_modify];have p5':j<es.size:=by simpa using p5
    by_cases c1:i<j
    ·rw[A7 (by simp;omega),Av,θ c1];simp[show ¬j=i by omega]
    ·rw[Ay (by simp;omega)];simp only[At];by_cases c2:j=i
     ·subst c2;rw[p2];have hm:min j es.toList.length=j:=by simp;omega
      rw[hm];simp
     ·rw[B8 (le_of_lt p5),show i-j=(i-j-1)+1 by omega,Bj,An];simp[c2,show j+1+(i-j-1)=i by omega]
   rw[hmod];have:=dR (kK j g3) (dR (Z { e with key:=.string ⟨⟨k⟩⟩,val:=a.eval z } rfl rfl) (kL (j+1) g3));exact this
 | none=>
  obtain⟨N,p2⟩:=J.2 hq;refine⟨_,.map (es.push { key:=.string ⟨⟨k⟩⟩,val:=a.eval z,born:=clk }) (clk+1),b,(0,0),?_,g1,hW _,⟨b,_,clk+1,aJ _ _ _,(hW _).new,.inr (.inl ?_),.inl g4⟩,hSc _,hSm⟩
  ·simp only[execOp,ho,q3,h3,Ae,Instr.mapUpdate,hu,χ,j6 w b es clk g2];rw[show(10000:Nat)=9999+1 from rfl,hck];simp only[χ,Instr.findKey,Ae,Aq Y w,N,Af,aa]
  ·rw[p2 cs,Array.toList_push];exact dR g3 (Z _ rfl rfl)
theorem aSj {P:Program}{T:TT}{o:Oper}{t kt et:TypeId}{i ki:TI}{x y z:Operand}{agg:Bool}{ents:List (List C)}{k:List UInt8}{cs:List C}{S:Sto}{a:Act}{w:World}{b:Nat}{es:Array MapEntry}{clk:Nat}(hT:Tok P T) (ho:o.op=.insert t x y z) (hi:T[t]?=some (some i)) (hk:i.k=.mp kt et)
  (hki:T[kt]?=some (some ki)) (hkk:ki.k=.str) (q3:a.eval x=.map (some b)) (h3:a.eval y=.string ⟨⟨k⟩⟩) (g2:w.heap[b]?=some (.map es clk)) (g3:bE S agg ents es.toList) (hms:jY ents)
  (ab:dI S cs (a.eval z).cells.toList) (J:a.eval z=(if agg then .agg ⟨(a.eval z).cells.toList⟩ else(a.eval z).cells.toList.headD undef)∧(agg=false→(a.eval z).cells.toList.length=1)):
  ∃Z ac,(execOp a.eval o).run P w=.ok .skip { w with heap:=w.heap.setIfInBounds b (.map Z ac) }∧bE S agg (aGc k cs ents) Z.toList:=by
 have N:=(hT.get hki).str hkk;have hu:=Aq ((hT.get hi).map hk) w;have I:=jQ (k:=k) ents es.toList 0 g3 hms;have aa:=fun b=>lE (P:=P) N b 9999 ⟨⟨k⟩⟩ w
 have O:∀e:MapEntry,e.key=.string ⟨⟨k⟩⟩→e.val=a.eval z→bE S agg [.str k::cs] [e]:=by
  intro e he1 he2;simp only[bE];refine⟨e,[],rfl,⟨(a.eval z).cells.toList,?_,by rw[he2];exact J.1,J.2⟩,rfl⟩;simp only[dI];exact⟨e.key,_,rfl,by simp[Rep,he1],ab⟩
 have W:∀(ob:Obj),(setObj b ob).run P w=.ok () { w with heap:=w.heap.setIfInBounds b ob }:=by
  intro ob;exact MapKept.run_setObj_map _ g2
 cases hq:iT k ents with
 | some vs=>
  obtain⟨j,e,p1,Y,_,p4,p5,p6⟩:=I.1 vs hq;refine⟨es.modify j fun e=>{ e with key:=.string ⟨⟨k⟩⟩,val:=a.eval z },clk,?_,?_⟩
  ·have hkey:((es[j]?).map (·.key)).getD (.string ⟨⟨k⟩⟩)=.string ⟨⟨k⟩⟩:=by
    rw[←Array.getElem?_toList,Y];simpa using p4
   have hkt:(Instr.keyThatStays (.string ⟨⟨k⟩⟩) (.string ⟨⟨k⟩⟩)).run P w=.ok (.string ⟨⟨k⟩⟩) w:=by
    have hsb:Instr.sameBits 10000 (.string ⟨⟨k⟩⟩) (.string ⟨⟨k⟩⟩)=true:=by simp[Instr.sameBits,aFg]
    simp only[Instr.keyThatStays,hsb,Cn,Af]
   simp only[execOp,ho,q3,h3,Ae,Instr.mapUpdate,hu,χ,j6 w b es clk g2];rw[show(10000:Nat)=9999+1 from rfl,aa];simp only[χ,Instr.findKey,Ae,Aq N w,p1,Af,Bd,hkey,hkt,W]
  ·rw[p6 cs,Array.toList_modify];have hmod:es.toList.modify j (fun e=>{ e with key:=.string ⟨⟨k⟩⟩,val:=a.eval z })=es.toList.take j++{ e with key:=.string ⟨⟨k⟩⟩,val:=a.eval z }::es.toList.drop (j+1):=by
    apply Bo;intro i;rw[List.getElem?_modify];have p5':j<es.size:=by simpa using p5
    by_cases c1:i<j
    ·rw[A7 (by simp;omega),Av,θ c1];simp[show ¬j=i by omega]
    ·rw[Ay (by simp;omega)];simp only[At];by_cases c2:j=i
     ·subst c2;rw[Y];have hm:min j es.toList.length=j:=by simp;omega
      rw[hm];simp
     ·rw[B8 (le_of_lt p5),show i-j=(i-j-1)+1 by omega,Bj,An];simp[c2,show j+1+(i-j-1)=i by omega]
   rw[hmod];have:=dR (kK j g3) (dR (O { e with key:=.string ⟨⟨k⟩⟩,val:=a.eval z } rfl rfl) (kL (j+1) g3));exact this
 | none=>
  obtain⟨p1,Y⟩:=I.2 hq;refine⟨es.push { key:=.string ⟨⟨k⟩⟩,val:=a.eval z,born:=clk },clk+1,?_,?_⟩
  ·simp only[execOp,ho,q3,h3,Ae,Instr.mapUpdate,hu,χ,j6 w b es clk g2];rw[show(10000:Nat)=9999+1 from rfl,aa];simp only[χ,Instr.findKey,Ae,Aq N w,p1,Af,W]
  ·rw[Y cs,Array.toList_push];exact dR g3 (O _ rfl rfl)
theorem aN7 {t kt et:TypeId}{i ki:TI}{x y z:Operand}{id:Nat}{agg:Bool}{ents:List (List C)}{k:List UInt8}{v:V}{rs:List R}{cs:List C}{ids:List Nat}(hT:Tok P T) (ho:o.op=.insert t x y z) (hd:o.dst=none) (hi:T[t]?=some (some i)) (hk:i.k=.mp kt et)
  (hki:T[kt]?=some (some ki)) (hkk:ki.k=.str) (hx:opv st x=some (.one (.mr id))) (hh:st.h id=some (.map agg ents)) (J:jY ents) (hy:opv st y=some (Go.AM.T k))
  (hz:opv st z=some v) (I:(match v with | .one _=>!agg | .pa _=>agg | .ma _=>agg | _=>false)=true) (hc:hJ v=some rs) (hp:PureL st.h ids rs cs):
  Step P n o st ⟨opr x++opr y++opr z,id::ids⟩ ⟨none,[(id,some (.map agg (aGc k cs ents)))]⟩:=by
 refine Step.turn hd hh (by simp) (by simp[AObj.succ]) fun st' ha hh' G S μ a w hs=>?_
 have h1:=aO hs hx fun t h=>ha.1 t (by simp[h])
 have h3:=kQ (aO hs hy fun t h=>ha.1 t (by simp[h]));have hv:=aO hs hz fun t h=>ha.1 t (by simp[h])
 simp only[aY,bB] at h1;obtain⟨agg',ents',b,c,q1,q2,q3⟩:=h1;obtain⟨b',es,clk,g1,g2,g3,g4⟩:=hs.inv.obj id _ hh';rw[g1] at q2;cases q2;have g3:=g3.rep J;have O:=hp.rel (fun i h=>ha.2 i (by simp[h])) hs.inv.obj (eL hv hc);have W:a.eval z=(if agg then .agg ⟨(a.eval z).cells.toList⟩ else(a.eval z).cells.toList.headD undef)∧(agg=false→(a.eval z).cells.toList.length=1):=by
  cases v with
  | one r=>
   simp at I;subst I;simp only[aY] at hv;rw[hv.one.1];simp
  | pa l=>
   simp at I;subst I;simp only[aY] at hv;obtain⟨vs,hv,_⟩:=hv;rw[hv];simp[Value.cells]
  | ma l=>
   simp at I;subst I;simp only[aY] at hv;obtain⟨vs,hv,_⟩:=hv;rw[hv];simp[Value.cells]
  | tup l=>simp at I
 obtain⟨es',N,Y,Z⟩:=aSj (P:=P) hT ho hi hk hki hkk q3 h3 g2 g3 J O W;have hW:∀ob,WChg w { w with heap:=w.heap.setIfInBounds b ob } b ob:=fun ob=>by
  have hlt:=dY g2;refine⟨rfl,rfl,rfl,by simp,by simp[hlt],fun k _ hne=>?_⟩;show(w.heap.setIfInBounds b ob)[k]?=_;rw[Br,ψ (fun e=>hne e.symm)]
 have hSc:∀(ob:Obj) (o:Nat) (v:Value),S.cell b o=some v→∃vs t fr,ob=.cells vs t fr∧vs[o]?=some v:=fun ob o v e=>by
  obtain⟨vs,t,fr,p1,_⟩:=hs.inv.holds.1 b o v e;rw[g2] at p1;cases p1
 have g4:=g4.kn0 J;have hSm:∀m,S.mapo b=some m→w.heap.size≤b:=fun m e=>by rw[g4] at e;cases e
 exact⟨_,.map es' N,b,(0,0),Y,g1,hW _,⟨b,_,N,aJ _ _ _,(hW _).new,.inr (.inl Z),.inl g4⟩,hSc _,hSm⟩
end
section
variable {P:Program}{n:Nat}{o:Oper}{st:St}{d:Nat}{T:TT}
theorem o8 {α:Type}(f:Nat→Option α) (k:Nat) (x y:Option α):upd (upd f k x) k y=upd f k y:=by
 funext i;simp only[upd];split<;>rfl
theorem aIz {t e:TypeId}{i I:TI}{x y:Operand}{rows:List (List C)}{vy:V}{ids:List Nat}(id:Nat) (hT:Tok P T) (ho:o.op=.call { callee:=.builtin .append,args:= #[x,y],argTypes:= #[t,t] }) (hd:o.dst=some d) (hdn:d<n)
  (hi:T[t]?=some (some i)) (hk:i.k=.sl e) (hei:T[e]?=some (some I)) (hes:Nat.ble 1 I.size=true) (heb:Nat.ble 1 I.bytes=true)
  (hx:opv st x=some (.one (.c .nl))) (hid:st.h id=none) (hy:opv st y=some vy) (J:Src st I.size ids vy rows)
  (O:rows.length*I.bytes≤140737488355328):
  Step P n o st ⟨opr x++opr y,id::ids⟩ ⟨some (d,some (.one (.hs id 0 rows.length rows.length))),[(id,some (.arr e I.size rows 0))]⟩:=by
 intro st' ha G S μ a w K Q hs hk';have Y:st'.h id=none:=by rw[ha.2 id (by simp),hid]
 obtain⟨hi',Z⟩:=hs.inv.empty e I.size Y;have W:Sim G n S (upd μ id none) ⟨st'.e,upd st'.h id (some (.arr e I.size [] 0)),st'.d⟩ a w:=⟨hi',hs.size,hs.defers.evolve Z,fun t v e=>aY.evolve Z v _ (hs.env t v e)⟩
 have N:=aO hs hx fun t ht=>ha.1 t (by simp[ht])
 have hvy:=aO hs hy fun t ht=>ha.1 t (by simp[ht])
 simp only[aY,bB,Rep] at N;have aa:aY S (upd μ id none) (upd st'.h id (some (.arr e I.size [] 0))) (.one (.hs id 0 0 0)) (a.eval x):=by
  simp only[aY,bB];exact⟨⟨_,_,_,N⟩,.inr ⟨e,I.size,[],0,aJ _ _ _,le_refl _,fun _=>⟨le_refl _,.inl ⟨aJ _ _ _,rfl,N⟩⟩⟩⟩
 have hne:∀j∈ids,j≠id:=by
  intro j hj e;subst e;cases J with
  | hs h1 _ _=>simp at hj;subst hj;rw[hid] at h1;cases h1
  | all h1 _=>simp at hj;subst hj;rw[hid] at h1;cases h1
  | sl=>simp at hj
  | nl=>simp at hj
  | sn=>simp at hj
 have:=aAe (fz:=0) (elems:=[]) (id:=id) hT ho hi hk hei hes heb rfl (by simpa using O) (aJ _ _ _) W aa (aY.evolve Z _ _ hvy) J fun j hj=>by
  show upd st'.h id (some (.arr e I.size [] 0)) j=_;rw[b8 _ _ _ (hne j hj)];exact ha.2 j (by simp[hj])
 refine aKj hd hdn (by simp) _ (aJ _ _ _) W (fun S' μ' a' w' h=>hk' S' μ' a' w' ?_) this;have e1:Eff.apply ⟨some (d,some (.one (.hs id 0 (([]:List (List C)).length+rows.length) (([]:List (List C)).length+rows.length)))),[(id,some (.arr e I.size ([]++rows) (if 0=0 then 0 else 1)))]⟩ ⟨st'.e,upd st'.h id (some (.arr e I.size [] 0)),st'.d⟩
   =Eff.apply ⟨some (d,some (.one (.hs id 0 rows.length rows.length))),[(id,some (.arr e I.size rows 0))]⟩ st':=by
  unfold Eff.apply;rw[dE,dE,o8];simp
 rw[e1] at h;exact h
theorem Sub.conv {kf ids:List Nat}{t:Nat}{v v':V}(h:st.e t=some v) (hc:Conv st.h ids v v'):Sub kf ⟨upd st.e t (some v'),st.h,st.d⟩ st:=by
 intro G n S μ a w _ hs;refine⟨S,μ,⟨hs.inv,hs.size,hs.defers,fun s u e=>?_⟩⟩;by_cases I:s=t
 ·subst I;have:some v'=some u:=by rw[←e];exact(aJ _ _ _).symm
  cases this;exact hc.rel (fun _ _=>rfl) hs.inv.obj (hs.env s _ h)
 ·exact hs.env s u (by rw[←e];exact(b8 _ _ _ I).symm)
theorem aN0 {t e:TypeId}{i I:TI}{len:Nat}{parts:Array (Nat×Operand)}{ids:List Nat}{rows:List (List C)}(id:Nat) (hT:Tok P T) (ho:o.op=.buildSlice t len parts) (hd:o.dst=some d) (hdn:d<n) (hi:T[t]?=some (some i)) (hk:i.k=.sl e) (hei:T[e]?=some (some I)) (J:RowsV st I.size 0 ids parts.toList rows) (hlen:Nat.beq len parts.size=true) (W:Nat.ble (len*I.size) 16777216=true) (aa:Nat.ble len 16777216=true) (hid:st.h id=none):
  Step P n o st ⟨fU parts.toList,id::ids⟩ ⟨some (d,some (.one (.c (.sl I.size rows)))),[(id,some (.arr e I.size rows 2))]⟩:=by
 intro st' ha G S μ a w K Q hs hk';refine aIn id hT ho hd hdn hi hk hei J hlen W aa hid st' ha G S μ a w K Q hs fun S1 μ1 a1 w1 h1=>?_
 have N:len=rows.length:=by rw[J.lengths];simpa using Ab hlen
 have hh:(Eff.apply ⟨some (d,some (.one (.hs id 0 len len))),[(id,some (.arr e I.size rows 0))]⟩ st').h id=some (.arr e I.size rows 0):=by
  show updL st'.h [(id,some (.arr e I.size rows 0))] id=_;rw[dE,aJ]
 obtain⟨S2,Z,h2⟩:=h1.freeze hh;refine hk' S2 Z a1 w1 ⟨?_,h2.size,?_,fun s u e1=>?_⟩
 ·have:=h2.inv;show Inv G S2 Z (updL st'.h [(id,some (.arr e I.size rows 2))]) w1;rw[dE];have O:upd (Eff.apply ⟨some (d,some (.one (.hs id 0 len len))),[(id,some (.arr e I.size rows 0))]⟩ st').h id (some (.arr e I.size rows 2))=upd st'.h id (some (.arr e I.size rows 2)):=by
   show upd (updL st'.h [(id,some (.arr e I.size rows 0))]) id _=_;rw[dE,o8]
  rw[←O];exact this
 ·have:=h2.defers;show Marks _ Z (updL st'.h [(id,some (.arr e I.size rows 2))]) st'.d a1.defers;rw[dE];have O:upd (Eff.apply ⟨some (d,some (.one (.hs id 0 len len))),[(id,some (.arr e I.size rows 0))]⟩ st').h id (some (.arr e I.size rows 2))=upd st'.h id (some (.arr e I.size rows 2)):=by
   show upd (updL st'.h [(id,some (.arr e I.size rows 0))]) id _=_;rw[dE,o8]
  rw[←O];exact this
 ·have O:upd (Eff.apply ⟨some (d,some (.one (.hs id 0 len len))),[(id,some (.arr e I.size rows 0))]⟩ st').h id (some (.arr e I.size rows 2))=updL st'.h [(id,some (.arr e I.size rows 2))]:=by
   show upd (updL st'.h [(id,some (.arr e I.size rows 0))]) id _=_;rw[dE,dE,o8]
  show aY S2 Z (updL st'.h [(id,some (.arr e I.size rows 2))]) u (a1.tmps.getD s undef);by_cases Y:s=d
  ·subst Y;have hu:u=.one (.c (.sl I.size rows)):=by
    have:upd st'.e s (some (.one (.c (.sl I.size rows)))) s=some u:=e1;rw[aJ] at this;cases this;rfl
   subst hu;have hv:=h2.env s (.one (.hs id 0 len len)) (aJ _ _ _);have hO:=h2.inv.obj id _ (aJ _ _ _);have:=(Conv.one (h:=upd (Eff.apply ⟨some (s,some (.one (.hs id 0 len len))),[(id,some (.arr e I.size rows 0))]⟩ st').h id (some (.arr e I.size rows 2))) (PureL.hs (e:=rows) (aJ _ _ _) N (by rw[N];simp) .nil)).rel (fun _ _=>rfl) h2.inv.obj hv;rw[←O];exact this
  ·have:upd st'.e d (some (.one (.c (.sl I.size rows)))) s=some u:=e1;rw[b8 _ _ _ Y] at this;have hv:=h2.env s u (by show upd st'.e d _ s=some u;rw[b8 _ _ _ Y];exact this);rw[←O];exact hv
theorem aWd {N ty:TypeId}{x y:Operand}{a b:Nat}(O:o.op=.binOp .add N x y ty) (hd:o.dst=some d) (J:d<n) (hx:opv st x=some (I .i64 (a:Nat))) (hy:opv st y=some (I .i64 (b:Nat))) (W:a+b≤9223372036854775807):
  Step P n o st ⟨opr x++opr y,[]⟩ ⟨some (d,some (I .i64 ((a+b:Nat):Int))),[]⟩:=aN9 O hd J hx hy (by rw[←Int.natCast_add];exact B9 _ (by omega))
theorem aV7 {N ty:TypeId}{x y:Operand}{a b:Nat}(O:o.op=.binOp .mul N x y ty) (hd:o.dst=some d) (J:d<n) (hx:opv st x=some (I .i64 (a:Nat))) (hy:opv st y=some (I .i64 (b:Nat))) (W:a*b≤9223372036854775807):
  Step P n o st ⟨opr x++opr y,[]⟩ ⟨some (d,some (I .i64 ((a*b:Nat):Int))),[]⟩:=aN3 O hd J hx hy (by rw[←Int.natCast_mul];exact B9 _ (by omega))
theorem aVu {N ty:TypeId}{x y:Operand}{a b:Nat}(O:o.op=.binOp .sub N x y ty) (hd:o.dst=some d) (J:d<n) (hx:opv st x=some (I .i64 (a:Nat))) (hy:opv st y=some (I .i64 (b:Nat))) (W:b≤a∧a≤9223372036854775807):
  Step P n o st ⟨opr x++opr y,[]⟩ ⟨some (d,some (I .i64 ((a-b:Nat):Int))),[]⟩:=aNy O hd J hx hy (by rw[show(a:Int)-b=((a-b:Nat):Int) by omega];exact B9 _ (by omega))
theorem aV3 {N ty:TypeId}{x y:Operand}{a b:Nat}(O:o.op=.binOp .quo N x y ty) (hd:o.dst=some d) (J:d<n) (hx:opv st x=some (I .i64 (a:Nat))) (hy:opv st y=some (I .i64 (b:Nat))) (W:a≤9223372036854775807∧1≤b):
  Step P n o st ⟨opr x++opr y,[]⟩ ⟨some (d,some (I .i64 ((a/b:Nat):Int))),[]⟩:=by
 have:=aQm (P:=P) (n:=n) O hd J hx hy (by omega);rwa [←Int.natCast_ediv] at this
theorem aV1 {N ty:TypeId}{x y:Operand}{a b:Nat}(O:o.op=.binOp .rem N x y ty) (hd:o.dst=some d) (J:d<n) (hx:opv st x=some (I .i64 (a:Nat))) (hy:opv st y=some (I .i64 (b:Nat))) (W:1≤b):
  Step P n o st ⟨opr x++opr y,[]⟩ ⟨some (d,some (I .i64 ((a%b:Nat):Int))),[]⟩:=by
 have:=aQl (P:=P) (n:=n) O hd J hx hy (by omega);rwa [←Int.natCast_emod] at this
theorem aY4 {t1 t2:TypeId}{x y:Operand}{k:IntKind}{a b r:Int}(N:o.op=.call { callee:=.builtin .max,args:= #[x,y],argTypes:= #[t1,t2] }) (hd:o.dst=some d) (J:d<n) (hx:opv st x=some (I k a)) (hy:opv st y=some (I k b)) (O:(if b>a then b else a)=r):
  Step P n o st ⟨opr x++opr y,[]⟩ ⟨some (d,some (I k r)),[]⟩:=by
 refine Step.value hd J fun st' ha G S μ ac w hs=>?_
 have h1:=eY (aO hs hx fun t h=>ha.1 t (by simp[h]));have h2:=eY (aO hs hy fun t h=>ha.1 t (by simp[h]));refine⟨.int k r,?_,by simp[aY,bB,Rep]⟩;simp only[execOp,N,resolve,map_toArray,Al,By,h1,h2,Ae,Af,χ,invoke,builtin,Builtin.max_,List.foldlM_cons,List.foldlM_nil,Builtin.max2,O]
end
inductive Fz where
 | map (agg:Bool) (ents:List (List C))
 | var (l:List C)
 | ra (n es:Nat) (l:List R)
mutual
def R.fz (id:Nat) (z:Fz):R→R
 | .mr j=>match z with
  | .map agg ents=>if Nat.beq j id then .c (.mp agg ents) else .mr j
  | _=>.mr j
 | .vp j off=>match z with
  | .var l=>if Nat.beq j id then .c (.pt (l.drop off)) else .vp j off
  | _=>.vp j off
 | .ra j off len sz=>match z with
  | .ra n es l=>if Nat.beq j id then(if Nat.beq off 0&&Nat.beq len n&&Nat.beq sz n then .ras n es l else .c .any) else .ra j off len sz
  | _=>.ra j off len sz
 | .rp j i fo sz=>match z with
  | .ra _ _ _=>if Nat.beq j id then .c .any else .rp j i fo sz
  | _=>.rp j i fo sz
 | .ras n es l=>.ras n es (R.fzL id z l)
 | .pas l=>.pas (R.fzL id z l)
 | .clo f caps=>.clo f (R.fzL id z caps)
 | .mth f x=>.mth f (R.fz id z x)
 | r=>r
def R.fzL (id:Nat) (z:Fz):List R→List R
 | []=>[]
 | r::rs=>R.fz id z r::R.fzL id z rs
end
mutual
def V.fz (id:Nat) (z:Fz):V→V
 | .one r=>.one (r.fz id z)
 | .pa l=>.pa l
 | .ma l=>.ma (R.fzL id z l)
 | .tup l=>.tup (V.fzL id z l)
def V.fzL (id:Nat) (z:Fz):List V→List V
 | []=>[]
 | r::rs=>V.fz id z r::V.fzL id z rs
end
def fzE (id:Nat) (z:Fz):List (Nat×V)→List (Nat×V)
 | []=>[]
 | (t,v)::l=>(t,v.fz id z)::fzE id z l
def fzR (id:Nat) (z:Fz):List (List R)→List (List R)
 | []=>[]
 | r::l=>R.fzL id z r::fzR id z l
theorem aKv {id:Nat}{z:Fz}:∀{l:List (Nat×V)}{t:Nat}{v:V},(t,v)∈fzE id z l→∃v0,(t,v0)∈l∧v=v0.fz id z
 | (k,u)::l,t,v,h=>by
  simp only[fzE,Ao] at h;rcases h with h | h
  ·cases h;exact⟨u,by simp,rfl⟩
  ·obtain⟨v0,h1,h2⟩:=aKv h;exact⟨v0,by simp[h1],h2⟩
theorem R.fzL_length {id:Nat}{z:Fz}:∀{l:List R},(R.fzL id z l).length=l.length
 | []=>rfl
 | _::l=>by simp[R.fzL,R.fzL_length (l:=l)]
theorem R.fzL_append {id:Nat}{z:Fz}:∀{l m:List R},R.fzL id z (l++m)=R.fzL id z l++R.fzL id z m
 | [],_=>rfl
 | _::l,m=>by simp[R.fzL,R.fzL_append (l:=l)]
theorem fK {id:Nat}{z:Fz}:∀{l:List (List R)},(fzR id z l).length=l.length
 | []=>rfl
 | _::l=>by simp[fzR,fK (l:=l)]
theorem aEu {id:Nat}{z:Fz}:∀{l:List (List R)},(fzR id z l).flatten=R.fzL id z l.flatten
 | []=>rfl
 | _::l=>by simp[fzR,aEu (l:=l),R.fzL_append]
theorem mZ {id:Nat}{z:Fz}{es:Nat}:∀{l:List (List R)},(∀r∈l,r.length=es)→∀r∈fzR id z l,r.length=es
 | [],_,r,h=>by simp[fzR] at h
 | x::l,k,r,h=>by
  simp only[fzR,Ao] at h;rcases h with rfl | h
  ·rw[R.fzL_length];exact k _ (by simp)
  ·exact mZ (l:=l) (fun r I=>k r (by simp[I])) r h
def AObj.fz (id:Nat) (z:Fz):AObj→AObj
 | .var t cells=>.var t (R.fzL id z cells)
 | .lp st j i e=>.lp st j i (fzE id z e)
 | .rarr te es l=>.rarr te es (fzR id z l)
 | .tok r k=>.tok (r.fz id z) k
 | o=>o
def Fz.of:Fz→AObj→Prop
 | .map agg ents,o=>o=.map agg ents
 | .var l,o=>∃t,o=.var t (l.map R.c)
 | .ra n es l,o=>∃te elems,o=.rarr te es elems∧l=elems.flatten∧n=elems.length
def hfz (id:Nat) (z:Fz) (H:cO):cO:=fun j=>if Nat.beq j id then none else(H j).map (AObj.fz id z)
section
variable {S S':Sto}{μ:Mu}{H:cO}{id:Nat}{z:Fz}
theorem jA {j:Nat}(h:j≠id):hfz id z H j=(H j).map (AObj.fz id z):=by
 have:Nat.beq j id=false:=by
  cases hb:Nat.beq j id with
  | false=>rfl
  | true=>exact absurd (Ab hb) h
 simp[hfz,this]
theorem aQ5:hfz id z H id=none:=by simp[hfz]
theorem aBr {j te es fz:Nat}{l:List (List C)}{o:AObj}(hid:H id=some o) (hz:z.of o) (h:H j=some (.arr te es l fz)):hfz id z H j=some (.arr te es l fz):=by
 have I:j≠id:=by
  rintro rfl;rw[h] at hid;cases hid;cases z with
  | map agg ents=>cases hz
  | var l=>obtain⟨t,h⟩:=hz;cases h
  | ra n es l=>obtain⟨_,_,h,_⟩:=hz;cases h
 rw[jA I,h];rfl
theorem wP {j:Nat}{o:AObj}(hid:H id=some o) (hz:z.of o) (h:H j=some .dead):hfz id z H j=some .dead:=by
 have I:j≠id:=by
  rintro rfl;rw[h] at hid;cases hid;cases z with
  | map agg ents=>cases hz
  | var l=>obtain⟨t,h⟩:=hz;cases h
  | ra n es l=>obtain⟨_,_,h,_⟩:=hz;cases h
 rw[jA I,h];rfl
def aU0 (S':Sto) (μ:Mu) (H:cO) (id:Nat):Fz→Prop
 | .map agg ents=>∀b c,μ id=some (b,c)→∃es clk,S'.mapo b=some (.all es clk)∧(bE S' agg ents es.toList∨aNa S' agg ents es)
 | .var l=>∀b c,μ id=some (b,c)→∃vs,dI S' l vs∧fH S' b 0 vs
 | .ra n es l=>n*es=l.length∧∀b base cap,μ id=some (b,base,cap)→n≤cap∧cap≤maxLen∧∃vs,aV S' μ (hfz id (.ra n es l) H) l vs∧fH S' b base vs
mutual
theorem bB.fz (hle:S.le S') {o:AObj}(hid:H id=some o) (hz:z.of o):∀(r:R) (v:Value),(id∈r.refs→aU0 S' μ H id z)→bB S μ H r v→bB S' μ (hfz id z H) (r.fz id z) v
 | .c x,v,_,k=>by simp only[bB,R.fz] at k ⊢;exact Rep.mono hle x v k
 | .hs j off len sz,v,_,k=>by
  simp only[bB,R.fz] at k ⊢;obtain⟨I,k | ⟨te,es,elems,fz,h1,h2⟩⟩:=k
  ·exact⟨I,.inl (wP hid hz k)⟩
  ·exact⟨I,.inr ⟨te,es,elems,fz,aBr hid hz h1,h2⟩⟩
 | .tl j off len sz,v,_,k=>by
  simp only[bB,R.fz] at k ⊢;obtain⟨I,k | ⟨te,es,elems,fz,h1,h2⟩⟩:=k
  ·exact⟨I,.inl (wP hid hz k)⟩
  ·exact⟨I,.inr ⟨te,es,elems,fz,aBr hid hz h1,h2⟩⟩
 | .ep j i fo sz,v,_,k=>by
  simp only[bB,R.fz] at k ⊢;obtain⟨I,k | ⟨te,es,elems,fz,h1,h2⟩⟩:=k
  ·exact⟨I,.inl (wP hid hz k)⟩
  ·exact⟨I,.inr ⟨te,es,elems,fz,aBr hid hz h1,h2⟩⟩
 | .vp j off,v,hk,k=>by
  simp only[bB] at k;obtain⟨t,cells,b,c,h1,h2,h3⟩:=k;by_cases hj:j=id
  ·subst hj;rw[h1] at hid;cases hid;cases z with
   | map agg ents=>cases hz
   | ra n es l=>obtain⟨_,_,h,_⟩:=hz;cases h
   | var l=>
    simp only[R.fz,B4,Cn,bB,Rep];obtain⟨vs,g1,g2⟩:=hk (by simp[R.refs]) b c h2;refine⟨b,off,h3,vs.drop off,g1.drop off,fun i u hu=>?_⟩;rw[An] at hu;have:=g2 _ u hu;rwa [Bd] at this
  ·have hb:Nat.beq j id=false:=by
    cases hb:Nat.beq j id with
    | false=>rfl
    | true=>exact absurd (Ab hb) hj
   have e:(R.vp j off).fz id z=.vp j off:=by cases z<;>simp[R.fz,hb]
   rw[e];simp only[bB];exact⟨t,_,b,c,by rw[jA hj,h1];rfl,h2,h3⟩
 | .mr j,v,hk,k=>by
  simp only[bB] at k;obtain⟨agg,ents,b,c,h1,h2,h3⟩:=k;by_cases hj:j=id
  ·subst hj;rw[h1] at hid;cases hid;cases z with
   | var l=>obtain⟨t,h⟩:=hz;cases h
   | ra n es l=>obtain⟨_,_,h,_⟩:=hz;cases h
   | map agg' ents'=>
    cases hz;simp only[R.fz,B4,Cn,bB,Rep];obtain⟨es,clk,g1,g2⟩:=hk (by simp[R.refs]) b c h2;exact⟨b,es,clk,h3,g1,g2⟩
  ·have hb:Nat.beq j id=false:=by
    cases hb:Nat.beq j id with
    | false=>rfl
    | true=>exact absurd (Ab hb) hj
   have e:(R.mr j).fz id z=.mr j:=by cases z<;>simp[R.fz,hb]
   rw[e];simp only[bB];exact⟨agg,ents,b,c,by rw[jA hj,h1];rfl,h2,h3⟩
 | .clo f caps,v,hk,k=>by
  simp only[bB,R.fz] at k ⊢;obtain⟨vs,h1,h2⟩:=k;exact⟨vs,h1,aV.fz hle hid hz caps vs (by simpa only[R.refs] using hk) h2⟩
 | .ras n es l,v,hk,k=>by
  simp only[bB,R.fz] at k ⊢;obtain⟨a,cap,h1,h2,h3,h4,h5,h6,b,o,h7,vs,O,W⟩:=k;exact⟨a,cap,h1,by rw[R.fzL_length];exact h2,h3,h4,h5,h6,b,o,h7,vs,aV.fz hle hid hz l vs (by simpa only[R.refs] using hk) O,W.mono hle⟩
 | .pas l,v,hk,k=>by
  simp only[bB,R.fz] at k ⊢;obtain⟨b,o,h1,vs,O,W⟩:=k;exact⟨b,o,h1,vs,aV.fz hle hid hz l vs (by simpa only[R.refs] using hk) O,W.mono hle⟩
 | .mth f recv,v,hk,k=>by
  simp only[bB,R.fz] at k ⊢;obtain⟨u,h1,h2⟩:=k;exact⟨u,h1,bB.fz hle hid hz recv u (by simpa only[R.refs] using hk) h2⟩
 | .rp j i fo sz,v,hk,k=>by
  simp only[bB] at k;obtain⟨I,k⟩:=k;by_cases hj:j=id
  ·subst hj;have key:bB S' μ (hfz j z H) (.c .any) v:=by
    obtain⟨a,rfl⟩:=I;simp only[bB,Rep];exact⟨rfl,rfl⟩
   rcases k with k | ⟨te,es,elems,h1,h2,h3⟩
   ·rw[k] at hid;cases hid;cases z with
    | map agg ents=>cases hz
    | var l=>obtain⟨t,h⟩:=hz;cases h
    | ra n es l=>obtain⟨_,_,h,_⟩:=hz;cases h
   ·rw[h1] at hid;cases hid;cases z with
    | map agg ents=>cases hz
    | var l=>obtain⟨t,h⟩:=hz;cases h
    | ra n es l=>simpa only[R.fz,B4,Cn] using key
  ·have hb:Nat.beq j id=false:=by
    cases hb:Nat.beq j id with
    | false=>rfl
    | true=>exact absurd (Ab hb) hj
   have e:(R.rp j i fo sz).fz id z=.rp j i fo sz:=by cases z<;>simp[R.fz,hb]
   rw[e];simp only[bB];rcases k with k | ⟨te,es,elems,h1,h2,h3⟩
   ·exact⟨I,.inl (by rw[jA hj,k];rfl)⟩
   ·exact⟨I,.inr ⟨te,es,fzR id z elems,by rw[jA hj,h1];rfl,by rw[fK];exact h2,fun e=>h3 (by rw[fK] at e;exact e)⟩⟩
 | .yl j,v,_,k=>by
  simp only[bB,R.fz] at k ⊢;obtain⟨st,jp,i,e,b,c,h1,h2,h3⟩:=k;have hne:j≠id:=by
   rintro rfl;rw[h1] at hid;cases hid;cases z with
   | map agg ents=>cases hz
   | var l=>obtain⟨t,h⟩:=hz;cases h
   | ra n es l=>obtain⟨_,_,h,_⟩:=hz;cases h
  exact⟨st,jp,i,_,b,c,by rw[jA hne,h1];rfl,h2,h3⟩
 | .ra j off len sz,v,hk,k=>by
  simp only[bB] at k;obtain⟨I,k⟩:=k;by_cases hj:j=id
  ·subst hj;have key:bB S' μ (hfz j z H) (.c .any) v:=by
    obtain⟨a,l,c,rfl⟩:=I;simp only[bB,Rep];exact⟨rfl,rfl⟩
   rcases k with k | ⟨te,es,elems,h1,h2,h3⟩
   ·rw[k] at hid;cases hid;cases z with
    | map agg ents=>cases hz
    | var l=>obtain⟨t,h⟩:=hz;cases h
    | ra n es l=>obtain⟨_,_,h,_⟩:=hz;cases h
   ·rw[h1] at hid;cases hid;cases z with
    | map agg ents=>cases hz
    | var l=>obtain⟨t,h⟩:=hz;cases h
    | ra n es' l=>
     obtain⟨te',elems',Y,J,N⟩:=hz;cases Y;simp only[R.fz,B4,Cn];split
     ·rename_i hc;simp only[Ah] at hc;obtain⟨⟨Z,c2⟩,c3⟩:=hc;have Z:=Ab Z;have c2:=Ab c2;have c3:=Ab c3;subst Z;subst c2;subst c3;obtain⟨f1,f2⟩:=hk (by simp[R.refs]);obtain⟨_,⟨m1,m2,m3⟩ | ⟨b,base,cap,m1,m2⟩⟩:=h3 N
      ·subst m2;simp only[length_nil] at N;subst N;subst J;simp only[bB];exact⟨none,0,m3,by simp,le_refl _,Ak _,(fun _=>⟨by first | rfl | simp,rfl⟩),(by simp),0,0,(by simp),[],(by simp[aV]),(by intro i v e;simp at e)⟩
      ·obtain⟨f3,f4,vs,f5,f6⟩:=f2 b base cap m1;simp only[bB];exact⟨some ⟨b,base,none⟩,cap,by rw[m2];simp,f1,f3,f4,by simp,(fun ad h=>by cases h;rfl),b,base,(fun ad h=>by cases h;exact⟨rfl,rfl⟩),vs,f5,f6⟩
     ·exact key
  ·have hb:Nat.beq j id=false:=by
    cases hb:Nat.beq j id with
    | false=>rfl
    | true=>exact absurd (Ab hb) hj
   have e:(R.ra j off len sz).fz id z=.ra j off len sz:=by cases z<;>simp[R.fz,hb]
   rw[e];simp only[bB];rcases k with k | ⟨te,es,elems,h1,h2,h3⟩
   ·exact⟨I,.inl (by rw[jA hj,k];rfl)⟩
   ·refine⟨I,.inr ⟨te,es,fzR id z elems,by rw[jA hj,h1];rfl,by rw[fK];exact h2,fun e=>?_⟩⟩;rw[fK] at e;obtain⟨Y,J⟩:=h3 e;refine⟨Y,?_⟩;rcases J with⟨J,N,q4⟩ | J
    ·exact .inl ⟨J,by rw[N];rfl,q4⟩
    ·exact .inr J
theorem aV.fz (hle:S.le S') {o:AObj}(hid:H id=some o) (hz:z.of o):∀(r:List R) (v:List Value),(id∈R.refsL r→aU0 S' μ H id z)→aV S μ H r v→aV S' μ (hfz id z H) (R.fzL id z r) v
 | [],_,_,k=>by simpa only[aV,R.fzL] using k
 | r::rs,vs,hk,k=>by
  simp only[aV,R.fzL] at k ⊢;obtain⟨v,vs',h1,h2,h3⟩:=k;exact⟨v,vs',h1,bB.fz hle hid hz r v (fun h=>hk (by simp[R.refsL,h])) h2,aV.fz hle hid hz rs vs' (fun h=>hk (by simp[R.refsL,h])) h3⟩
end
mutual
theorem aY.fz (hle:S.le S') {o:AObj}(hid:H id=some o) (hz:z.of o) (hk:aU0 S' μ H id z):∀(r:V) (v:Value),aY S μ H r v→aY S' μ (hfz id z H) (r.fz id z) v
 | .one r,v,k=>by simp only[aY,V.fz] at k ⊢;exact bB.fz hle hid hz r v (fun _=>hk) k
 | .pa l,v,k=>by
  simp only[aY,V.fz] at k ⊢;obtain⟨vs,h1,h2⟩:=k;exact⟨vs,h1,dI.mono hle l vs h2⟩
 | .ma l,v,k=>by
  simp only[aY,V.fz] at k ⊢;obtain⟨vs,h1,h2⟩:=k;exact⟨vs,h1,aV.fz hle hid hz l vs (fun _=>hk) h2⟩
 | .tup l,v,k=>by
  simp only[aY,V.fz] at k ⊢;obtain⟨vs,h1,h2⟩:=k;exact⟨vs,h1,bS.fz hle hid hz hk l vs h2⟩
theorem bS.fz (hle:S.le S') {o:AObj}(hid:H id=some o) (hz:z.of o) (hk:aU0 S' μ H id z):∀(r:List V) (v:List Value),bS S μ H r v→bS S' μ (hfz id z H) (V.fzL id z r) v
 | [],_,k=>by simpa only[bS,V.fzL] using k
 | r::rs,vs,k=>by
  simp only[bS,V.fzL] at k ⊢;obtain⟨v,vs',h1,h2,h3⟩:=k;exact⟨v,vs',h1,aY.fz hle hid hz hk r v h2,bS.fz hle hid hz hk rs vs' h3⟩
end
theorem AObj.succ_fz {p:Prop}{o o':AObj}(h:o.succ p o'):o.succ p (o'.fz id z):=by
 cases o<;>cases o'<;>simp only[AObj.succ,AObj.fz,fK] at h ⊢<;>exact h
theorem mG.fz {w:World}{j:Nat}{x:AObj}(hle:S.le S') {o:AObj}(hid:H id=some o) (hz:z.of o) (hk:aU0 S' μ H id z) (h:mG S μ H w j x) (hb:∀b c,μ j=some (b,c)→(∀o,S'.cell b o=S.cell b o)∧S'.mapo b=S.mapo b):mG S' μ (hfz id z H) w j (x.fz id z):=by
 cases x with
 | var t cells=>
  obtain⟨b,vs,h1,h2,h3,h4⟩:=h;exact⟨b,vs,h1,h2,aV.fz hle hid hz _ _ (fun _=>hk) h3,fun o=>by rw[(hb b _ h1).1,h4.1],by rw[(hb b _ h1).2,h4.2]⟩
 | arr te es elems fz=>
  obtain⟨h0,h1 | ⟨b,base,cap,vs,h1,h2,h3,h4,h5,h6,h7,J,N⟩⟩:=h
  ·exact⟨h0,.inl h1⟩
  ·exact⟨h0,.inr ⟨b,base,cap,vs,h1,h2,h3,h4,⟨h5.1,by rw[(hb b _ h1).2,h5.2]⟩,dI.mono hle _ _ h6,fun e o I=>by rw[(hb b _ h1).1,h7 e o I],fun o e=>by rw[(hb b _ h1).1,J o e],fun e=>(N e).mono hle⟩⟩
 | map agg ents=>
  obtain⟨b,es,clk,h1,h2,h3,h4⟩:=h;exact⟨b,es,clk,h1,h2,aAo.mono hle h3,h4.of_eq (hb b _ h1).2⟩
 | dead=>exact h
 | lp st jp i e=>
  obtain⟨b,r,fn,tmps,h1,h2,h3,h4,h5,h6⟩:=h;refine⟨b,r,fn,tmps,h1,h2,h3,fun t v ht=>?_,fun o=>by rw[(hb b _ h1).1,h5],by rw[(hb b _ h1).2,h6]⟩;obtain⟨v0,O,rfl⟩:=aKv ht;exact aY.fz hle hid hz hk _ _ (h4 t v0 O)
 | dfr=>
  obtain⟨b,h1,h2,h3,h4⟩:=h;exact⟨b,h1,h2,fun o=>by rw[(hb b _ h1).1,h3],by rw[(hb b _ h1).2,h4]⟩
 | rarr te es elems=>
  obtain⟨h0,h1 | ⟨b,base,cap,vs,h1,h2,h3,h4,h5,h6,h7⟩⟩:=h
  ·exact⟨mZ h0,.inl ⟨h1.1,by rw[h1.2];rfl⟩⟩
  ·refine⟨mZ h0,.inr ⟨b,base,cap,vs,h1,h2,h3,by rw[fK];exact h4,⟨h5.1,by rw[(hb b _ h1).2,h5.2]⟩,?_,fun o I=>by rw[(hb b _ h1).1,h7 o I]⟩⟩;rw[aEu,fK];exact aV.fz hle hid hz _ _ (fun _=>hk) h6
 | tok r k=>
  obtain⟨h1,b,h2,m,h3,h4⟩:=h;obtain⟨m',h5,h6⟩:=hle.2 b m h3;exact⟨h1,b,bB.fz hle hid hz _ _ (fun _=>hk) h2,m',h5,MK.le_has h6 h4⟩
theorem Sto.free_of {S S':Sto}(h:S.free) {b:Nat}(hb:∀b',b'≠b→(∀o,S'.cell b' o=S.cell b' o)∧S'.mapo b'=S.mapo b') (ht:∀te lo hi,¬S'.mapo b=some (.top te lo hi)):S'.free:=fun b' te lo hi e o J=>by
 by_cases I:b'=b
 ·subst I;exact absurd e (ht te lo hi)
 ·obtain⟨h1,h2⟩:=hb b' I;rw[h1,h b' te lo hi (by rw[←h2];exact e) o J]
theorem qD {G:Ctx}{n:Nat}{kf:List Nat}{st:St}{a:Act}{w:World}{o:AObj}(hid:st.h id=some o) (hz:z.of o) (Y:id∉kf) (hg:G.keeps kf) (hs:Sim G n S μ st a w) (hle:S.le S') (hh:Holds S' w) (hk:aU0 S' μ st.h id z)
  (hb:∀b,(∀c,μ id≠some (b,c))→(∀o,S'.cell b o=S.cell b o)∧S'.mapo b=S.mapo b) (O:S'.free):Sim G n S' μ ⟨fun t=>(st.e t).map (V.fz id z),hfz id z st.h,st.d⟩ a w:=by
 have hold:∀j x,hfz id z st.h j=some x→j≠id∧∃J,st.h j=some J∧x=J.fz id z:=by
  intro j x hj;have I:j≠id:=by rintro rfl;rw[aQ5] at hj;cases hj
  rw[jA I] at hj;cases h:st.h j with
  | none=>rw[h] at hj;cases hj
  | some J=>
   rw[h] at hj;cases hj;exact⟨I,J,rfl,rfl⟩
 have W:∀j J,st.h j=some J→j≠id→∀b c,μ j=some (b,c)→∀c',μ id≠some (b,c'):=by
  intro j J hj I b c hm c' N;exact I (hs.inv.inj j id J o b c c' hj hid hm N)
 refine⟨⟨hh,fun j x hj=>?_,fun i j x x' b c c' hi hj hm N=>?_,fun i x b c hi hm=>?_,hs.inv.frame,Sto.le_trans hs.inv.sle hle,fun b Z hF=>?_,⟨Sto.le_trans hs.inv.evo.le hle,fun j x hj=>?_⟩,O⟩,hs.size,hs.defers.go fun j _ hj=>⟨rfl,?_⟩,fun t v e=>?_⟩
 ·obtain⟨I,J,h1,rfl⟩:=hold j x hj;exact(hs.inv.obj j J h1).fz hle hid hz hk fun b c hm=>hb b (W j J h1 I b c hm)
 ·obtain⟨_,y,h1,_⟩:=hold i x hi;obtain⟨_,y',h2,_⟩:=hold j x' hj;exact hs.inv.inj i j y y' b c c' h1 h2 hm N
 ·obtain⟨_,y,h1,_⟩:=hold i x hi;exact hs.inv.own i y b c h1 hm
 ·have hno:∀c,μ id≠some (b,c):=by
   intro c hm;rcases hs.inv.own id o b c hid hm with h | h
   ·omega
   ·exact hF h
  obtain⟨h1,h2⟩:=hb b hno;obtain⟨h3,h4⟩:=hs.inv.sto b Z hF;exact⟨fun o=>(h1 o).trans (h3 o),h2.trans h4⟩
 ·obtain⟨o',h1,h2⟩:=hs.inv.evo.obj j x hj;have I:j≠id:=fun e=>Y (e▸hg.1 j x hj)
  exact⟨o'.fz id z,by show hfz id z st.h j=_;rw[jA I,h1];rfl,AObj.succ_fz h2⟩
 ·have I:j≠id:=by
   rintro rfl;rw[hj] at hid;cases hid;cases z with
   | map agg ents=>cases hz
   | var l=>obtain⟨t,h⟩:=hz;cases h
   | ra n es l=>obtain⟨_,_,h,_⟩:=hz;cases h
  show hfz id z st.h j=_;rw[jA I,hj];rfl
 ·cases h:st.e t with
  | none=>simp[h] at e
  | some v0=>
   simp only[h,Option.map_some,Option.some.injEq] at e;subst e;exact aY.fz hle hid hz hk v0 _ (hs.env t v0 h)
theorem aOs {S:Sto}{w:World}{b:Nat}{es:Array MapEntry}{clk:Nat}(hh:Holds S w) (h:w.heap[b]?=some (.map es clk)):∃S':Sto,S'.cell=S.cell∧S'.mapo b=some (.all es clk)∧(∀b',b'≠b→S'.mapo b'=S.mapo b')∧S.le S'∧Holds S' w:=by
 have I:∀b',b'≠b→(if b'=b then some (MK.all es clk) else S.mapo b')=S.mapo b':=fun b' e=>ψ e
 refine⟨⟨S.cell,fun b'=>if b'=b then some (.all es clk) else S.mapo b'⟩,rfl,θ rfl,I,⟨fun _ _ _ e=>e,fun b' m e=>?_⟩,hh.1,fun b' m e=>?_⟩
 ·by_cases hb:b'=b
  ·subst hb;refine⟨.all es clk,θ rfl,?_⟩;have:=hh.2 _ _ e;cases m with
   | all N J=>simp only[MK.holds] at this;rw[h] at this;cases this;rfl
   | part ks=>
    obtain⟨N,J,h1,h2⟩:=this;rw[h] at h1;cases h1;exact h2
   | top te lo hi=>
    obtain⟨vs,h1,_⟩:=this;rw[h] at h1;cases h1
  ·exact⟨m,by rw[←e];exact I b' hb,m.le_refl⟩
 ·by_cases hb:b'=b
  ·subst hb;have e':(if b'=b' then some (MK.all es clk) else S.mapo b')=some m:=e;rw[θ rfl] at e';cases e';exact h
  ·have e':(if b'=b then some (MK.all es clk) else S.mapo b')=some m:=e;rw[ψ hb] at e';exact hh.2 b' m e'
theorem Sub.fmap {kf:List Nat}{st:St}{id:Nat}{agg:Bool}{ents:List (List C)}(hid:st.h id=some (.map agg ents)) (O:id∉kf) (W:jY ents):Sub kf ⟨fun t=>(st.e t).map (V.fz id (.map agg ents)),hfz id (.map agg ents) st.h,st.d⟩ st:=by
 intro G n S μ a w hg hs;obtain⟨b,es,clk,h1,h2,h3,h4⟩:=hs.inv.obj id _ hid;obtain⟨S',I,J,N,hle,hh⟩:=aOs hs.inv.holds h2;refine⟨S',μ,qD hid rfl O hg hs hle hh ?_ (fun b' hb=>⟨fun _=>by rw[I],?_⟩) (Sto.free_of hs.inv.fre (b:=b) (fun b' hb=>⟨fun _=>by rw[I],N b' hb⟩) fun te lo hi e=>by rw[J] at e;cases e)⟩
 ·intro b' c hm;rw[h1] at hm;cases hm;exact⟨es,clk,J,.inl (bE.mono hle _ _ _ (h3.rep W))⟩
 ·exact N b' fun e=>hb (0,0) (by rw[e];exact h1)
theorem Sub.fvar {kf:List Nat}{st:St}{id t:Nat}{l:List C}(hid:st.h id=some (.var t (l.map R.c))) (I:id∉kf):Sub kf ⟨fun t=>(st.e t).map (V.fz id (.var l)),hfz id (.var l) st.h,st.d⟩ st:=by
 intro G n S μ a w hg hs;obtain⟨b,vs,h1,h2,h3,h4⟩:=hs.inv.obj id _ hid;have h3':=h3.pure
 let S':Sto:=⟨fun b' o=>if b'=b then vs[o]? else S.cell b' o,S.mapo⟩
 have hle:S.le S':=⟨fun b' o v e=>by
  show(if b'=b then vs[o]? else S.cell b' o)=some v;by_cases hb:b'=b
  ·subst hb;rw[h4.1] at e;cases e
  ·rw[ψ hb];exact e,fun _ m e=>⟨m,e,m.le_refl⟩⟩
 refine⟨S',μ,qD hid ⟨t,rfl⟩ I hg hs hle ⟨fun b' o v e=>?_,hs.inv.holds.2⟩ ?_ (fun b' hb=>⟨fun o=>?_,rfl⟩) (Sto.free_of hs.inv.fre (b:=b) (fun b' hb=>⟨fun _=>ψ hb,rfl⟩) fun te lo hi e=>by have e:S.mapo b=_:=e;rw[h4.2] at e;cases e)⟩
 ·have e':(if b'=b then vs[o]? else S.cell b' o)=some v:=e;by_cases hb:b'=b
  ·subst hb;rw[θ rfl] at e';exact⟨⟨vs⟩,t,(0,0),h2,by simpa using e'⟩
  ·rw[ψ hb] at e';exact hs.inv.holds.1 b' o v e'
 ·intro b' c hm;rw[h1] at hm;cases hm;refine⟨vs,dI.mono hle _ _ h3',fun i u hu=>?_⟩;show(if b=b then vs[0+i]? else S.cell b (0+i))=some u;rw[θ rfl,Bd];exact hu
 ·have J:b'≠b:=fun e=>hb (0,0) (by rw[e];exact h1)
  exact ψ J
theorem Sub.fra {kf:List Nat}{st:St}{id te es:Nat}{elems:List (List R)}(hid:st.h id=some (.rarr te es elems)) (J:id∉kf) (I:R.fzL id (.ra elems.length es elems.flatten) elems.flatten=elems.flatten) (N:id∉R.refsL elems.flatten):
  Sub kf ⟨fun t=>(st.e t).map (V.fz id (.ra elems.length es elems.flatten)),hfz id (.ra elems.length es elems.flatten) st.h,st.d⟩ st:=by
 intro G n S μ a w hg hs;have hz:(Fz.ra elems.length es elems.flatten).of (.rarr te es elems):=⟨te,elems,rfl,rfl,rfl⟩
 obtain⟨h0,⟨h1,h2⟩ | ⟨b,base,cap,vs,h1,h2,h3,h4,h5,h6,h7⟩⟩:=hs.inv.obj id _ hid
 ·refine⟨S,μ,qD hid hz J hg hs S.le_refl hs.inv.holds ?_ (fun b' _=>⟨fun _=>rfl,rfl⟩) hs.inv.fre⟩;refine⟨?_,fun b base cap hm=>?_⟩
  ·rw[h2];simp
  ·rw[h1] at hm;cases hm
 ·let S':Sto:=⟨fun b' o=>if b'=b then vs[o]? else S.cell b' o,S.mapo⟩
  have hle:S.le S':=⟨fun b' o v e=>by
   show(if b'=b then vs[o]? else S.cell b' o)=some v;by_cases hb:b'=b
   ·subst hb;rw[θ rfl];obtain⟨vs',t',fr',O,Z⟩:=hs.inv.holds.1 b' o v e;rw[h2] at O;cases O;simpa using Z
   ·rw[ψ hb];exact e,fun _ m e=>⟨m,e,m.le_refl⟩⟩
  have hlen:elems.length*es=elems.flatten.length:=by
   have key:∀l:List (List R),(∀r∈l,r.length=es)→l.length*es=l.flatten.length:=by
    intro l
    induction l with
    | nil=>intro _;simp
    | cons r l ih=>
     intro h;have:=h r (by simp);have:=ih fun q hq=>h q (by simp[hq])
     simp only[Aj,Bi,Aa,A0];omega
   exact key elems h0
  refine⟨S',μ,qD hid hz J hg hs hle ⟨fun b' o v e=>?_,hs.inv.holds.2⟩ ⟨hlen,fun b' Y cap' hm=>?_⟩ (fun b' hb=>⟨fun o=>?_,rfl⟩) (Sto.free_of hs.inv.fre (b:=b) (fun b' hb=>⟨fun _=>ψ hb,rfl⟩) fun te lo hi e=>by have e:S.mapo b=_:=e;rw[h5.2] at e;cases e)⟩
  ·have e':(if b'=b then vs[o]? else S.cell b' o)=some v:=e;by_cases hb:b'=b
   ·subst hb;rw[θ rfl] at e';exact⟨⟨vs⟩,te,(0,0),h2,by simpa using e'⟩
   ·rw[ψ hb] at e';exact hs.inv.holds.1 b' o v e'
  ·rw[h1] at hm;cases hm;refine⟨h4,h5.1,(vs.drop base).take (elems.length*es),?_,?_⟩
   ·have:=aV.fz hle hid hz _ _ (fun h=>absurd h N) h6;rwa [I] at this
   ·intro i u hu;show(if b=b then vs[base+i]? else S.cell b (base+i))=some u;rw[θ rfl];rw[Av] at hu;split at hu
    ·rwa [An] at hu
    ·cases hu
  ·have W:b'≠b:=fun e=>hb (base,cap) (by rw[e];exact h1)
   exact ψ W
end
theorem dQ {α:Type}{k i:Nat}{x:α}{l:List (Nat×α)}(h:i≠k):look ((k,x)::l) i=look l i:=by
 have:Nat.beq i k=false:=by
  cases hb:Nat.beq i k with
  | false=>rfl
  | true=>exact absurd (Ab hb) h
 simp[look,this]
theorem dG {α:Type}{k:Nat}{x:α}{l:List (Nat×α)}:look ((k,x)::l) k=some x:=by simp[look]
section
variable {P:Program}{n:Nat}{o:Oper}{st:St}{d:Nat}
end
end Go.AM
