/-
  Texts Am12 to Am20 in one.
-/
import Derived.Test.YtockgoadliilhaaGreatDoorM2
import Derived.RangeFuncRecord
import Derived.IntWalk
import Derived.Laws.StructEq
open List (all_eq_true append_assoc append_nil cons_append drop_succ_cons flatten_cons length_append length_cons length_nil length_take map_cons map_nil map_toArray mem_append mem_cons mem_map nil_append set_eq_take_append_cons_drop take_of_length_le take_succ_cons)
open Nat (add_mul beq_refl eq_of_beq_eq_true le_of_ble_eq_true le_of_lt le_refl le_trans lt_of_lt_of_le min_eq_left zero_add zero_le)
namespace Go.AM
open Go
def u0 (μ:Mu) (h:cR):Nat→Prop:=fun b=>∃id o c,h id=some o∧μ id=some (b,c)
def aU (P:Program) (f:FuncId) (args:List V) (hin:List (Nat×AObj)) (res:V) (hout:List (Nat×AObj)):Prop:=
 ∀S μ w vals,Inv ⟨w,S,u0 μ (look hin),μ,look hin⟩ S μ (look hin) w→bU S μ (look hin) args vals→
  Calls P f ⟨vals⟩ w fun e w'=>∃S' μ' v,e=.returned v∧Inv ⟨w,S,u0 μ (look hin),μ,look hin⟩ S' μ' (look hout) w'∧b6 S' μ' (look hout) res v
mutual
theorem R.ren_id:∀r:R,r.ren (fun i=>i)=r
 | .c _=>rfl
 | .hs ..=>rfl
 | .tl ..=>rfl
 | .vp ..=>rfl
 | .ep ..=>rfl
 | .mr ..=>rfl
 | .clo f caps=>by simp only[R.ren,R.renL_id caps]
 | .mth f x=>by simp only[R.ren,R.ren_id x]
 | .yl _=>rfl
 | .ra _ _ _ _=>rfl
 | .rp _ _ _ _=>rfl
 | .ras n es l=>by simp only[R.ren,R.renL_id l]
 | .pas l=>by simp only[R.ren,R.renL_id l]
theorem R.renL_id:∀r:List R,R.renL (fun i=>i) r=r
 | []=>rfl
 | r::rs=>by simp only[R.renL,R.ren_id r,R.renL_id rs]
end
mutual
theorem V.ren_id:∀r:V,r.ren (fun i=>i)=r
 | .one r=>by simp only[V.ren,R.ren_id r]
 | .pa _=>rfl
 | .ma l=>by simp only[V.ren,R.renL_id l]
 | .tup l=>by simp only[V.ren,V.renL_id l]
theorem V.renL_id:∀r:List V,V.renL (fun i=>i) r=r
 | []=>rfl
 | r::rs=>by simp only[V.renL,V.ren_id r,V.renL_id rs]
end
theorem aJn:∀l:List (Nat×V),aH6 (fun i=>i) l=l
 | []=>rfl
 | (t,v)::l=>by simp only[aH6,V.ren_id v,aJn l]
theorem aCb:∀l:List (List R),mX (fun i=>i) l=l
 | []=>rfl
 | r::l=>by simp only[mX,R.renL_id r,aCb l]
theorem Ole.refl_id {o:AObj}(h:o≠ .dead):Ole (fun i=>i) o o:=by
 cases o with
 | var t cells=>exact .var (R.renL_id cells).symm
 | arr=>exact .arr
 | map=>exact .map
 | dead=>exact absurd rfl h
 | lp st j i e=>exact .lp (aJn e).symm
 | dfr=>exact .dfr
 | rarr te es l=>exact .rarr (aCb l).symm
 | tok r k=>exact .tok (R.ren_id r).symm
inductive Conv (h:cR):List Nat→V→V→Prop
 | refl {v}:Conv h [] v v
 | one {ids r c}:PureL h ids [r] [c]→Conv h ids (.one r) (.one (.c c))
 | agg {ids rs cs}:PureL h ids rs cs→Conv h ids (.ma rs) (.pa cs)
 | pa {ids l cs}:PureL h ids (l.map R.c) cs→Conv h ids (.pa l) (.pa cs)
inductive ArgsV (st:St):List Nat→List Operand→List V→Prop
 | nil:ArgsV st [] [] []
 | cons {ids ids' x xs v v' vs}:opv st x=some v→Conv st.h ids v v'→ArgsV st ids' xs vs→ArgsV st (ids++ids') (x::xs) (v'::vs)
theorem Conv.rel {S:Sto}{μ:Mu}{H H0:cR}{w:World}{ids:List Nat}{v v':V}{u:Value}(h:Conv H0 ids v v') (hi:∀i∈ids,H i=H0 i) (q:∀id o,H id=some o→mW S μ H w id o) (hv:b6 S μ H v u):b6 S μ H v' u:=by
 cases h with
 | refl=>exact hv
 | @one _ r c h=>
  simp only[b6,bF] at hv ⊢;have:=h.rel hi q (vs:=[u]) (by simp only[aW];exact⟨u,[],rfl,hv,rfl⟩);simp only[dL] at this;obtain⟨v,vs',h1,h2,h3⟩:=this;cases h1;exact h2
 | @agg _ rs cs h=>
  simp only[b6] at hv ⊢;obtain⟨vs,h1,h2⟩:=hv;exact⟨vs,h1,h.rel hi q h2⟩
 | @pa _ l cs h=>
  simp only[b6] at hv ⊢;obtain⟨vs,h1,h2⟩:=hv;exact⟨vs,h1,h.rel hi q h2.toR⟩
def dP:List Operand→List Nat
 | []=>[]
 | x::xs=>opr x++dP xs
theorem ArgsV.rel {G:Ctx}{n:Nat}{S:Sto}{μ:Mu}{st st':St}{a:Act}{w:World}(hs:Sim G n S μ st' a w):∀{ids:List Nat}{xs:List Operand}{vs:List V},ArgsV st ids xs vs→(∀t∈dP xs,st'.e t=st.e t)→(∀i∈ids,st'.h i=st.h i)→bU S μ st'.h vs (xs.map a.eval):=by
 intro ids xs vs h
 induction h with
 | nil=>intro _ _;simp[bU]
 | cons hx hc _ q=>
  intro ht hi;simp only[Am,bU];refine⟨_,_,rfl,?_,q (fun t h=>ht t (by simp[dP,h])) fun i h=>hi i (by simp[h])⟩;exact hc.rel (fun i h=>hi i (by simp[h])) hs.inv.obj (aQ hs hx fun t h=>ht t (by simp[dP,h]))
theorem Inv.hand {G:Ctx}{S:Sto}{μ:Mu}{H:cR}{w:World}{hin:List (Nat×AObj)}(h:Inv G S μ H w) (hh:∀id o,look hin id=some o→H id=some o∧o≠ .dead) (hc:subset (dN hin) (hin.map (·.1))=true):
  Inv ⟨w,S,u0 μ (look hin),μ,look hin⟩ S μ (look hin) w:=by
 have I:∀i∈hin.map (·.1),Good H (look hin) (fun i=>i) i:=by
  intro i hi;obtain⟨o,q⟩:=gC hi;obtain⟨h1,h2⟩:=hh i o q;exact⟨o,o,h1,q,.refl_id h2⟩
 refine⟨h.holds,fun id o q=>?_,fun i j o o' b c c' hi hj hm J=>h.inj i j o o' b c c' (hh _ _ hi).1 (hh _ _ hj).1 hm J,fun i o b c hi hm=>.inr ⟨i,o,c,hi,hm⟩,FrameW.refl _ _ ⟨h.frame.tabAt,fun g hg=>?_⟩,S.le_refl,fun b _ _=>⟨fun _=>rfl,rfl⟩,Evolve.refl _ _ _,h.fre⟩
 ·obtain⟨h1,h2⟩:=hh id o q;exact(h.obj id o h1).ren (.refl_id h2) fun i hi=>I i (bP hc i (jV (cD q) i hi))
 ·rintro⟨i,o,c,h1,h2⟩;have h3:=(h.frame.tab.1 g hg).1
  rcases h.own i o g c (hh i o h1).1 h2 with h4 | h4
  ·omega
  ·exact h.frame.tab.2 g hg h4
def outs (l:List (Nat×AObj)):List (Nat×Option AObj):=l.map fun p=>(p.1,some p.2)
theorem zT:∀(l:List (Nat×AObj)) (i:Nat),look (outs l) i=(look l i).map some
 | [],_=>rfl
 | (k,o)::l,i=>by
  simp only[outs,Am,look];cases Nat.beq i k
  ·have:=zT l i;unfold outs at this;simpa using this
  ·rfl
theorem kU (H:cR) (l:List (Nat×AObj)) (i:Nat):updL H (outs l) i=match look l i with | some o=>some o | none=>H i:=by
 simp only[updL,zT];cases look l i<;>rfl
theorem Inv.back {G:Ctx}{S S':Sto}{μ μ':Mu}{H:cR}{w w':World}{hin hout:List (Nat×AObj)}(h:Inv G S μ H w) (hh:∀id o,look hin id=some o→H id=some o)
  (hnew:∀id o,look hout id=some o→(∃o',look hin id=some o')∨H id=none)
  (N:Inv ⟨w,S,u0 μ (look hin),μ,look hin⟩ S' μ' (look hout) w'):
  ∃Y:Mu,(∀id o,look hout id=some o→Y id=μ' id)∧Inv G S' Y (updL H (outs hout)) w'∧Evolve S μ H S' Y (updL H (outs hout))∧Evolve S' μ' (look hout) S' Y (updL H (outs hout)):=by
 have hE:Evolve S μ (look hin) S' μ' (look hout):=N.evo
 let Y:Mu:=fun id=>match look hout id with | some _=>μ' id | none=>μ id
 have O:∀id o,look hout id=some o→Y id=μ' id:=fun id o q=>by simp only[Y,q]
 have hμ2:∀id,look hout id=none→Y id=μ id:=fun id q=>by simp only[Y,q]
 have hH1:∀id o,look hout id=some o→updL H (outs hout) id=some o:=fun id o q=>by rw[kU,q]
 have hH2:∀id,look hout id=none→updL H (outs hout) id=H id:=fun id q=>by rw[kU,q]
 have hin_out:∀id o,look hin id=some o→∃o',look hout id=some o':=fun id o q=>by
  obtain⟨o',h1,_⟩:=hE.obj id o q;exact⟨o',h1⟩
 have hE1:Evolve S μ H S' Y (updL H (outs hout)):=by
  refine⟨hE.le,fun id o q=>?_⟩;cases I:look hout id with
  | none=>exact⟨o,by rw[hH2 id I,q],o.succ_refl (hμ2 id I)⟩
  | some o2=>
   rcases hnew id o2 I with⟨o',hi⟩ | hi
   ·have:=hh id o' hi;rw[q] at this;cases this;obtain⟨o3,h1,h2⟩:=hE.obj id o hi;rw[I] at h1;cases h1;exact⟨o2,hH1 id o2 I,by rw[O id o2 I];exact h2⟩
   ·rw[q] at hi;cases hi
 have hE2:Evolve S' μ' (look hout) S' Y (updL H (outs hout)):=⟨S'.le_refl,fun id o q=>⟨o,hH1 id o q,o.succ_refl (O id o q)⟩⟩
 have hrest:∀id o,H id=some o→look hout id=none→∀b c,μ id=some (b,c)→b<w.heap.size∧¬u0 μ (look hin) b:=by
  intro id o q I b c hm;refine⟨(h.obj id o q).lt hm,?_⟩;rintro⟨Z,o',c',h1,h2⟩;have:=h.inj id Z o o' b c c' q (hh _ _ h1) hm h2;subst this;obtain⟨o2,h3⟩:=hin_out id o' h1;rw[I] at h3;cases h3
 have aa:∀id o b c,look hout id=some o→μ' id=some (b,c)→w.heap.size≤b∨u0 μ (look hin) b:=fun id o b c q hm=>N.own id o b c q hm
 refine⟨Y,O,⟨N.holds,fun id o q=>?_,fun i j o o' b c c' hi hj hm W=>?_,fun i o b c hi hm=>?_,?_,Sto.le_trans h.sle hE.le,fun b hb hF=>?_,h.evo.trans hE1,N.fre⟩,hE1,hE2⟩
 ·cases I:look hout id with
  | some o2=>
   rw[hH1 id o2 I] at q;cases q;exact(N.obj id _ I).evolve hE2 (O id _ I) fun b c hm=>⟨rfl,fun _=>rfl,rfl⟩
  | none=>
   rw[hH2 id I] at q;refine(h.obj id o q).evolve hE1 (hμ2 id I) fun b c hm=>?_
   obtain⟨h1,h2⟩:=hrest id o q I b c hm;exact⟨N.frame.block b h1 h2,(N.sto b h1 h2).1,(N.sto b h1 h2).2⟩
 ·cases hqi:look hout i with
  | some oi=>
   rw[O i oi hqi] at hm;cases J:look hout j with
   | some oj=>
    rw[O j oj J] at W;exact N.inj i j oi oj b c c' hqi J hm W
   | none=>
    rw[hμ2 j J] at W;rw[hH2 j J] at hj;obtain⟨h1,h2⟩:=hrest j o' hj J b c' W;rcases aa i oi b c hqi hm with h3 | h3
    ·omega
    ·exact absurd h3 h2
  | none=>
   rw[hμ2 i hqi] at hm;rw[hH2 i hqi] at hi;obtain⟨h1,h2⟩:=hrest i o hi hqi b c hm;cases J:look hout j with
   | some oj=>
    rw[O j oj J] at W;rcases aa j oj b c' J W with h3 | h3
    ·omega
    ·exact absurd h3 h2
   | none=>
    rw[hμ2 j J] at W;rw[hH2 j J] at hj;exact h.inj i j o o' b c c' hi hj hm W
 ·cases I:look hout i with
  | some o2=>
   rw[O i o2 I] at hm;rcases aa i o2 b c I hm with h3 | ⟨Z,o',c',h3,h4⟩
   ·exact .inl (le_trans h.frame.size h3)
   ·exact h.own Z o' b c' (hh _ _ h3) h4
  | none=>
   rw[hμ2 i I] at hm;rw[hH2 i I] at hi;exact h.own i o b c hi hm
 ·refine⟨N.frame.os.trans h.frame.os,N.frame.tape.trans h.frame.tape,N.frame.output.trans h.frame.output,le_trans h.frame.size N.frame.size,fun k hk hF=>?_,h.frame.tab⟩;rw[N.frame.block k (lt_of_lt_of_le hk h.frame.size) ?_,h.frame.block k hk hF];rintro⟨Z,o',c',h3,h4⟩;rcases h.own Z o' k c' (hh _ _ h3) h4 with h5 | h5
  ·omega
  ·exact hF h5
 ·have hnf:¬u0 μ (look hin) b:=by
   rintro⟨Z,o',c',h3,h4⟩;rcases h.own Z o' b c' (hh _ _ h3) h4 with h5 | h5
   ·omega
   ·exact hF h5
  have h1:=N.sto b (lt_of_lt_of_le hb h.frame.size) hnf;have h2:=h.sto b hb hF;exact⟨fun o=>(h1.1 o).trans (h2.1 o),h1.2.trans h2.2⟩
section
variable {P:Program}{n:Nat}{o:Oper}{st:St}{d:Nat}
def keys {α:Type}(l:List (Nat×α)):List Nat:=l.map (·.1)
theorem zZ {w:World}{S:Sto}{F:Nat→Prop}{μ:Mu}{hin:List (Nat×AObj)}:Ctx.keeps ⟨w,S,F,μ,look hin⟩ (keys hin):=
 ⟨fun id o q=>Ad.2 ⟨_,cD q,rfl⟩,fun h1 h2=>by
  obtain⟨o,q⟩:=gC h1;rw[show look hin 997=none from h2] at q
  cases q⟩
def AObj.live:AObj→Bool
 | .dead=>false
 | _=>true
def kQ (args:List V) (hin:List (Nat×AObj)):Bool:=subset (V.refsL args) (keys hin)&&subset (dN hin) (keys hin)&&(hin.all fun p=>p.2.live)
theorem Step.call {f:FuncId}{ids I:List Nat}{args:List V}{hin hout:List (Nat×AObj)}{res:V}(hd:o.dst=some d) (Y:d<n) (hf:aU P f args hin res hout)
  (hin':eW (fun p=>st.h p.1=some p.2) hin) (hout':eW (fun p=>p.1∈keys hin∨st.h p.1=none) hout) (hok:kQ args hin=true)
  (N:∀st',pM ⟨I,ids++keys hin++keys hout⟩ st st'→∀G S μ a w,Sim G n S μ st' a w→∃vals,(execOp a.eval o).run P w=.ok (.enter f ⟨vals⟩) w∧bU S μ st'.h args vals):
  Step P n o st ⟨I,ids++keys hin++keys hout⟩ ⟨some (d,some res),outs hout⟩:=by
 intro st' ha G S μ a w K Q hs hk;obtain⟨vals,hr,hv⟩:=N st' ha G S μ a w hs;simp only[kQ,Ai] at hok;obtain⟨⟨k1,k2⟩,k3⟩:=hok;have hh:∀id o,look hin id=some o→st'.h id=some o∧o≠ .dead:=by
  intro id o q;have hm:=cD q;have h1:=hin'.mem _ hm;refine⟨by rw[ha.2 id (by simp only[χ];exact .inl (.inr (Ad.2 ⟨_,hm,rfl⟩)))];exact h1,?_⟩;have:=(A7.1 k3) _ hm;rintro rfl;simp[AObj.live] at this
 have O:∀id o,look hout id=some o→(∃o',look hin id=some o')∨st'.h id=none:=by
  intro id o q;have hm:=cD q;rcases hout'.mem _ hm with h1 | h1
  ·exact .inl (gC h1)
  ·exact .inr (by rw[ha.2 id (by simp only[χ];exact .inr (Ad.2 ⟨_,hm,rfl⟩))];exact h1)
 have hI:=hs.inv.hand hh k2;have J:∀i∈keys hin,Good st'.h (look hin) (fun i=>i) i:=by
  intro i hi;obtain⟨o,q⟩:=gC hi;obtain⟨h1,h2⟩:=hh i o q;exact⟨o,o,h1,q,.refl_id h2⟩
 have Z:bU S μ (look hin) args vals:=by
  have:=bU.ren (H:=st'.h) (H':=look hin) (σ:=fun i=>i) args vals (fun i hi=>J i (bP k1 i hi)) (by rw[V.renL_id];exact hv);exact this
 have hc:=hf S μ w vals hI Z;refine fun ro=>vQ hr ?_
 refine hc.mono fun e w' ⟨S',μ',v,he,aa,W⟩=>?_
 subst he;obtain⟨μ2,q1,q2,q3,q4⟩:=hs.inv.back (fun id o q=>(hh id o q).1) O aa;show K (a.put o.dst v) w';rw[hd];refine hk S' μ2 _ _ ?_;exact hs.put q2 q3 Y (x:=some res) fun z hz=>by cases hz;exact b6.evolve q4 _ _ W
def pV (P : Program) (f : FuncId) : Prop := ∃ fn, P.funcs[f]? = some fn ∧ (fn.name == "runtime.NumGoroutine") = false ∧ fn.body.isNone = false
theorem pO {f:FuncId}(hb:pV P f) (args:Array Value) (w:World):(callFunc f args).run P w=.ok (.enter f args) w:=by
 obtain⟨fn,h1,h2,h3⟩:=hb;have hp:(program:Sem Program).run P w=.ok P w:=rfl;simp only[callFunc,Ae,hp,ε,h1,h2,h3,Bc,Bv,Af]
theorem aJy {f:FuncId}{xs:Array Operand}{ts:Array TypeId}{ids:List Nat}{args:List V}{res:V}(hin hout:List (Nat×AObj)) (hb:pV P f) (J:o.op=.call { callee:=.value (.func f),args:=xs,argTypes:=ts }) (hd:o.dst=some d) (I:d<n)
  (hf:aU P f args hin res hout) (ha:ArgsV st ids xs.toList args) (hin':eW (fun p=>st.h p.1=some p.2) hin) (hout':eW (fun p=>p.1∈keys hin∨st.h p.1=none) hout) (hok:kQ args hin=true):
  Step P n o st ⟨dP xs.toList,ids++keys hin++keys hout⟩ ⟨some (d,some res),outs hout⟩:=by
 refine Step.call hd I hf hin' hout' hok fun st' q G S μ a w hs=>⟨xs.toList.map a.eval,?_,ha.rel hs q.1 fun i h=>q.2 i (by simp[h])⟩
 simp only[execOp,J,resolve,Deferred.ofValue,Act.eval,Ae,Af,ε,invoke,pO hb];congr 2;apply Array.ext';simp
theorem aTs {f:FuncId}{x:Operand}{caps:List R}{xs:Array Operand}{ts:Array TypeId}{ids:List Nat}{args:List V}{res:V}(hin hout:List (Nat×AObj)) (hb:pV P f) (Y:o.op=.call { callee:=.value x,args:=xs,argTypes:=ts }) (hd:o.dst=some d) (O:d<n)
  (hx:opv st x=some (.one (.clo f caps))) (hf:aU P f (args++caps.map V.one) hin res hout) (ha:ArgsV st ids xs.toList args) (hin':eW (fun p=>st.h p.1=some p.2) hin) (hout':eW (fun p=>p.1∈keys hin∨st.h p.1=none) hout) (hok:kQ (args++caps.map V.one) hin=true):
  Step P n o st ⟨opr x++dP xs.toList,ids++keys hin++keys hout⟩ ⟨some (d,some res),outs hout⟩:=by
 refine Step.call hd O hf hin' hout' hok fun st' q G S μ a w hs=>?_
 have hv:=aQ hs hx fun t ht=>q.1 t (by simp[ht])
 simp only[b6,bF] at hv;obtain⟨vs,h1,h2⟩:=hv;refine⟨xs.toList.map a.eval++vs,?_,?_⟩
 ·simp only[execOp,Y,resolve,h1,Deferred.ofValue,Ae,Af,ε,invoke,pO hb];congr 2;apply Array.ext';simp
 ·have W:∀(l:List V) (us:List Value) (rs:List R) (vs:List Value),bU S μ st'.h l us→aW S μ st'.h rs vs→bU S μ st'.h (l++rs.map V.one) (us++vs):=by
   intro l
   induction l with
   | nil=>
    intro us rs vs h k;simp only[bU] at h;subst h;simp only[Bd]
    induction rs generalizing vs with
    | nil=>simp only[aW] at k;subst k;simp[bU]
    | cons r rs I=>
     simp only[aW] at k;obtain⟨v,vs',rfl,J,N⟩:=k;simp only[Am,bU];exact⟨v,vs',rfl,by simpa [b6] using J,I vs' N⟩
   | cons x l I=>
    intro us rs vs h k;simp only[bU] at h;obtain⟨v,vs',rfl,J,N⟩:=h;simp only[Ba,bU];exact⟨v,_,rfl,J,I vs' rs vs N k⟩
  exact W _ _ _ _ (ha.rel hs (fun t ht=>q.1 t (by simp[ht])) fun i h=>q.2 i (by simp[h])) h2
end
theorem Sim.freeze {G:Ctx}{n:Nat}{S:Sto}{μ:Mu}{a:Act}{w:World}{st:St}{id te es:Nat}{elems:List (List C)}{fz:Nat}(h:st.h id=some (.arr te es elems fz)) (hs:Sim G n S μ st a w):∃S' μ',Sim G n S' μ' ⟨st.e,upd st.h id (some (.arr te es elems 2)),st.d⟩ a w:=by
 have hO:=hs.inv.obj id _ h
 have Z:∀S',S.le S'→Evolve S μ st.h S' μ (upd st.h id (some (.arr te es elems 2))):=fun S' hle=>⟨hle,fun j x hj=>by
  by_cases q:j=id
  ·subst q;rw[h] at hj;cases hj;exact⟨_,aK _ _ _,by simp[AObj.succ]⟩
  ·exact⟨x,by rw[bE _ _ _ q];exact hj,x.succ_refl rfl⟩⟩
 have hold:∀j x,upd st.h id (some (.arr te es elems 2)) j=some x→∃x',st.h j=some x':=fun j x hj=>by
  by_cases q:j=id
  ·subst q;exact⟨_,h⟩
  ·rw[bE _ _ _ q] at hj;exact⟨_,hj⟩
 obtain⟨h1,h2,h3,h4,h5,h6,h7,h8,aa⟩:=hs.inv;obtain⟨g0,⟨g1,g2⟩ | ⟨b,base,cap,vs,g1,g2,g3,g4,g5,g6,g7,g8,g9⟩⟩:=hO
 ·--no block yet
  have N:=Z S S.le_refl;refine⟨S,μ,⟨h1,fun j x hj=>?_,fun i j x x' b c c' hi hj hm W=>?_,fun i x b c hi hm=>?_,h5,h6,h7,h8.trans N,aa⟩,hs.size,hs.defers.evolve N,fun t v e=>b6.evolve N v _ (hs.env t v e)⟩
  ·by_cases q:j=id
   ·subst q;have I:some (AObj.arr te es elems 2)=some x:=by rw[←hj];exact(aK _ _ _).symm
    cases I;exact⟨g0,.inl ⟨g1,g2⟩⟩
   ·have I:st.h j=some x:=by rw[←hj];exact(bE _ _ _ q).symm
    exact(h2 j x I).evolve N rfl fun _ _ _=>⟨rfl,fun _=>rfl,rfl⟩
  ·obtain⟨_,J⟩:=hold _ _ hi;obtain⟨_,I⟩:=hold _ _ hj;exact h3 i j _ _ b c c' J I hm W
  ·obtain⟨_,J⟩:=hold _ _ hi;exact h4 i _ b c J hm
 ·let S':Sto:=⟨fun b' o=>if b'=b∧base≤o∧o<base+elems.length*es then vs[o]? else S.cell b' o,S.mapo⟩
  have Y:∀o v,S.cell b o=some v→vs[o]?=some v:=fun o v e=>by
   obtain⟨vs0,t0,fr0,p1,p2⟩:=h1.1 b o v e;rw[g2] at p1;cases p1;simpa using p2
  have hle:S.le S':=⟨fun b' o v e=>by
   show(if b'=b∧base≤o∧o<base+elems.length*es then vs[o]? else S.cell b' o)=some v;by_cases hc:b'=b∧base≤o∧o<base+elems.length*es
   ·rw[ξ hc];obtain⟨rfl,_⟩:=hc;exact Y o v e
   ·rw[φ hc];exact e,fun b' m e=>⟨m,e,m.le_refl⟩⟩
  have N:=Z S' hle;have O:∀b' o,b'≠b→S'.cell b' o=S.cell b' o:=fun b' o q=>φ fun hc=>q hc.1
  refine⟨S',μ,⟨⟨fun b' o v e=>?_,h1.2⟩,fun j x hj=>?_,fun i j x x' b c c' hi hj hm W=>?_,fun i x b c hi hm=>?_,h5,Sto.le_trans h6 hle,fun b' hb hF=>?_,h8.trans N,fun b' te' lo hi e o ho=>(O b' o fun eb=>by rw[eb] at e;have e:S.mapo b=_:=e;rw[g5.2] at e;cases e).trans (aa b' te' lo hi e o ho)⟩,hs.size,hs.defers.evolve N,fun t v e=>b6.evolve N v _ (hs.env t v e)⟩
  ·by_cases hc:b'=b∧base≤o∧o<base+elems.length*es
   ·have e':vs[o]?=some v:=by rw[←e];exact(ξ hc).symm
    obtain⟨rfl,_⟩:=hc;exact⟨⟨vs⟩,te,(0,0),g2,by simpa using e'⟩
   ·have e':S.cell b' o=some v:=by rw[←e];exact(φ hc).symm
    exact h1.1 b' o v e'
  ·by_cases q:j=id
   ·subst q;have I:some (AObj.arr te es elems 2)=some x:=by rw[←hj];exact(aK _ _ _).symm
    cases I;refine⟨g0,.inr ⟨b,base,cap,vs,g1,g2,g3,g4,g5,dL.mono hle _ _ g6,(fun e=>by cases e),fun o ho=>?_,fun _ i v hi=>?_⟩⟩
    ·show(if b=b∧base≤o∧o<base+elems.length*es then vs[o]? else S.cell b o)=none;rw[φ (by omega)];exact g8 o ho
    ·rw[Av] at hi;split at hi
     ·rw[Ap] at hi;show(if b=b∧base≤base+i∧base+i<base+elems.length*es then vs[base+i]? else S.cell b (base+i))=some v;rw[ξ ⟨rfl,by omega,by omega⟩];exact hi
     ·cases hi
   ·have I:st.h j=some x:=by rw[←hj];exact(bE _ _ _ q).symm
    refine(h2 j x I).evolve N rfl fun b' c' hm=>⟨rfl,fun o=>O b' o ?_,rfl⟩
    rintro rfl;exact q (h3 j id x _ b' c' _ I h hm g1)
  ·obtain⟨_,J⟩:=hold _ _ hi;obtain⟨_,I⟩:=hold _ _ hj;exact h3 i j _ _ b c c' J I hm W
  ·obtain⟨_,J⟩:=hold _ _ hi;exact h4 i _ b c J hm
  ·have q:b'≠b:=by
    rintro rfl;rcases h4 id _ b' _ h g1 with h9 | h9
    ·omega
    ·exact hF h9
   exact⟨fun o=>(O b' o q).trans ((h7 b' hb hF).1 o),(h7 b' hb hF).2⟩
theorem Sub.freeze {kf:List Nat}{st:St}{id te es:Nat}{elems:List (List C)}{fz:Nat}(h:st.h id=some (.arr te es elems fz)):Sub kf ⟨st.e,upd st.h id (some (.arr te es elems 2)),st.d⟩ st:=
 fun _ _ _ _ _ _ _ hs=>hs.freeze h
theorem Inv.empty {G:Ctx}{S:Sto}{μ:Mu}{H:cR}{w:World}{id:Nat}(te es:Nat) (h:Inv G S μ H w) (hid:H id=none):Inv G S (upd μ id none) (upd H id (some (.arr te es [] 0))) w∧Evolve S μ H S (upd μ id none) (upd H id (some (.arr te es [] 0))):=by
 have J:Evolve S μ H S (upd μ id none) (upd H id (some (.arr te es [] 0))):=gV hid _ _;refine⟨⟨h.holds,fun j x hj=>?_,fun i j x x' b c c' hi hj hm q=>?_,fun i x b c hi hm=>?_,h.frame,h.sle,h.sto,h.evo.trans J,h.fre⟩,J⟩
 ·by_cases I:j=id
  ·subst I;rw[aK] at hj;cases hj;exact⟨by simp,.inl ⟨aK _ _ _,rfl⟩⟩
  ·rw[bE _ _ _ I] at hj;exact(h.obj j x hj).evolve J (bE _ _ _ I) fun _ _ _=>⟨rfl,fun _=>rfl,rfl⟩
 ·have h1:i≠id:=fun e=>by subst e;rw[aK] at hm;cases hm
  have h2:j≠id:=fun e=>by subst e;rw[aK] at q;cases q
  rw[bE _ _ _ h1] at hi hm;rw[bE _ _ _ h2] at hj q;exact h.inj i j x x' b c c' hi hj hm q
 ·have h1:i≠id:=fun e=>by subst e;rw[aK] at hm;cases hm
  rw[bE _ _ _ h1] at hi hm;exact h.own i x b c hi hm
theorem Sub.own {kf:List Nat}{st:St}{t id:Nat}(te es:Nat) (h:st.e t=some (.one (.c .nl))) (hid:st.h id=none):Sub kf ⟨upd st.e t (some (.one (.hs id 0 0 0))),upd st.h id (some (.arr te es [] 0)),st.d⟩ st:=by
 intro G n S μ a w _ hs;obtain⟨hi,I⟩:=hs.inv.empty te es hid;refine⟨S,upd μ id none,⟨hi,hs.size,hs.defers.evolve I,fun s v e=>?_⟩⟩;by_cases q:s=t
 ·subst q;have hv:=hs.env s _ h;have e':v=.one (.hs id 0 0 0):=by
   have:some v=some (V.one (.hs id 0 0 0)):=by rw[←e];exact aK _ _ _
   cases this;rfl
  subst e';simp only[b6,bF,Rep] at hv ⊢;exact⟨⟨_,_,_,hv⟩,.inr ⟨te,es,[],0,aK _ _ _,le_refl _,fun _=>⟨le_refl _,.inl ⟨aK _ _ _,rfl,hv⟩⟩⟩⟩
 ·have e':st.e s=some v:=by rw[←e];exact(bE _ _ _ q).symm
  exact b6.evolve I v _ (hs.env s v e')
theorem Sub.ownCell {kf:List Nat}{st:St}{x k id tv:Nat}{cells:List R}(te es:Nat) (h:st.h x=some (.var tv cells)) (hk:cells[k]?=some (.c .nl)) (hid:st.h id=none):
  Sub kf ⟨st.e,upd (upd st.h id (some (.arr te es [] 0))) x (some (.var tv (cells.set k (.hs id 0 0 0)))),st.d⟩ st:=by
 intro G n S μ a w _ hs;obtain⟨hi,Z⟩:=hs.inv.empty te es hid;have Y:x≠id:=fun e=>by subst e;rw[h] at hid;cases hid
 have hx:upd st.h id (some (.arr te es [] 0)) x=some (.var tv cells):=by rw[bE _ _ _ Y];exact h
 obtain⟨b,vs,g1,g2,g3,g4⟩:=hi.obj x _ hx
 have I:Evolve S (upd μ id none) (upd st.h id (some (.arr te es [] 0))) S (upd μ id none) (upd (upd st.h id (some (.arr te es [] 0))) x (some (.var tv (cells.set k (.hs id 0 0 0))))):=⟨S.le_refl,fun j y hj=>by
  by_cases q:j=x
  ·subst q;rw[hx] at hj;cases hj;exact⟨_,aK _ _ _,by simp[AObj.succ]⟩
  ·exact⟨y,by rw[bE _ _ _ q];exact hj,y.succ_refl rfl⟩⟩
 have hold:∀j y,upd (upd st.h id (some (.arr te es [] 0))) x (some (.var tv (cells.set k (.hs id 0 0 0)))) j=some y→∃y',upd st.h id (some (.arr te es [] 0)) j=some y':=fun j y hj=>by
  by_cases q:j=x
  ·subst q;exact⟨_,hx⟩
  ·rw[bE _ _ _ q] at hj;exact⟨_,hj⟩
 refine⟨S,upd μ id none,⟨⟨hi.holds,fun j y hj=>?_,fun i j y y' b c c' J hj hm aa=>?_,fun i y b c J hm=>?_,hi.frame,hi.sle,hi.sto,hi.evo.trans I,hi.fre⟩,hs.size,hs.defers.evolve (Z.trans I),fun s v e=>b6.evolve (Z.trans I) v _ (hs.env s v e)⟩⟩
 ·by_cases q:j=x
  ·subst q;have N:some (AObj.var tv (cells.set k (.hs id 0 0 0)))=some y:=by rw[←hj];exact(aK _ _ _).symm
   cases N;refine⟨b,vs,g1,g2,?_,g4⟩;have h3:=aW.evolve I _ _ g3;obtain⟨u,hu,O⟩:=g3.get k _ hk;simp only[bF,Rep] at O;have ab:k<cells.length:=(Ab.1 hk).1
   have W:cells.set k (.hs id 0 0 0)=bY cells k [.hs id 0 0 0]:=by
    unfold bY;rw[Cf,ξ ab];simp
   have hvl:=g3.length;have ac:vs=bY vs k [u]:=by
    unfold bY;apply Bt;intro i;simp only[By,ω,Au,Ag,length_nil,Av,Ap];have hm:min k vs.length=k:=by omega
    rw[hm];by_cases c1:i<k
    ·simp[c1,show i<k+1 by omega]
    ·by_cases c2:i=k
     ·subst c2;simp[hu]
     ·simp[show ¬i<k+1 by omega,show k+1+(i-(k+1))=i by omega]
   rw[W] at h3 ⊢;rw[ac];refine oR h3 ?_;simp only[aW,bF];exact⟨u,[],rfl,⟨⟨_,_,_,O⟩,.inr ⟨te,es,[],0,by rw[bE _ _ _ Y.symm];exact aK _ _ _,le_refl _,fun _=>⟨le_refl _,.inl ⟨aK _ _ _,rfl,O⟩⟩⟩⟩,rfl⟩
  ·have N:upd st.h id (some (.arr te es [] 0)) j=some y:=by rw[←hj];exact(bE _ _ _ q).symm
   exact(hi.obj j y N).evolve I rfl fun _ _ _=>⟨rfl,fun _=>rfl,rfl⟩
 ·obtain⟨_,h1⟩:=hold _ _ J;obtain⟨_,h2⟩:=hold _ _ hj;exact hi.inj i j _ _ b c c' h1 h2 hm aa
 ·obtain⟨_,h1⟩:=hold _ _ J;exact hi.own i _ b c h1 hm
def aVs:Nat→List V→List (Nat×V)
 | _,[]=>[]
 | k,v::vs=>(k,v)::aVs (k+1) vs
inductive ResV (T:TT) (st:St):List ResultVar→List V→Prop
 | nil:ResV T st [] []
 | tmp {t v rs vs}:st.e t=some v→ResV T st rs vs→ResV T st (.tmp t::rs) (v::vs)
 | cell {a t i id off tv cells v rs vs}:st.e a=some (.one (.vp id off))→T[t]?=some (some i)→st.h id=some (.var tv cells)→Nat.ble (off+i.size) cells.length=true→qE i ((cells.drop off).take i.size)=some v→ResV T st rs vs→
   ResV T st (.cell a t::rs) (v::vs)
inductive Convs (h:cR):List V→List V→Prop
 | nil:Convs h [] []
 | cons {ids v v' vs vs'}:Conv h ids v v'→Convs h vs vs'→Convs h (v::vs) (v'::vs')
def aQ0:List Value→Value
 | [u]=>u
 | us=>.tuple ⟨us⟩
def aN1:List V→V
 | [v]=>v
 | vs=>.tup vs
theorem Convs.rel {S:Sto}{μ:Mu}{H:cR}{w:World}:∀{vs vs':List V}{us:List Value},Convs H vs vs'→(∀id o,H id=some o→mW S μ H w id o)→bU S μ H vs us→bU S μ H vs' us:=by
 intro vs vs' us h
 induction h generalizing us with
 | nil=>intro _ hv;exact hv
 | cons hc _ J=>
  intro q hv;simp only[bU] at hv ⊢;obtain⟨v,I,rfl,h1,h2⟩:=hv;exact⟨v,I,rfl,hc.rel (fun _ _=>rfl) q h1,J q h2⟩
section
variable {P:Program}{T:TT}
theorem qC {G:Ctx}{n:Nat}{S:Sto}{μ:Mu}{st:St}{a:Act}{w:World}(O:Tok P T) (hs:Sim G n S μ st a w):∀{rs:List ResultVar}{vs:List V},ResV T st rs vs→
  ∃us,(rs.mapM fun(x:ResultVar)=>(match x with | .tmp t=>pure (a.tmps.getD t undef) | .cell p t=>do loadVar t (←asAddr (a.tmps.getD p undef)):Sem Value)).run P w=.ok us w∧bU S μ st.h vs us:=by
 intro rs vs h
 induction h with
 | nil=>exact⟨[],by simp,by simp[bU]⟩
 | @tmp t v rs vs ht _ J=>
  obtain⟨us,h1,h2⟩:=J;refine⟨a.tmps.getD t undef::us,?_,?_⟩
  ·simp only[List.mapM_cons,Ae,Af,ε,h1]
  ·simp only[bU];exact⟨_,_,rfl,hs.env _ _ ht,h2⟩
 | @cell p t i id off tv cells v rs vs ht hi hh hb hl _ J=>
  obtain⟨us,h1,h2⟩:=J;have hv:=hs.env _ _ ht;simp only[b6,bF] at hv;obtain⟨t',cells',b,c,g1,g2,g3⟩:=hv;obtain⟨b',ws,W,Y,N,q4⟩:=hs.inv.obj id _ hh;rw[W] at g2;cases g2;have hlen:=Aq hb;have aa:=N.length;have q:=run_load (O.get hi) w b off _ (kC Y off i.size) (a0s (by omega));have I:=lM ((N.drop off).take i.size) hl;generalize (if i.k.agg then Value.agg ⟨(ws.drop off).take i.size⟩ else((ws.drop off).take i.size).headD undef)=u at q I;refine⟨u::us,?_,by simp only[bU];exact⟨_,_,rfl,I,h2⟩⟩
  ·simp only[Instr.loadAt,Instr.sureAddr,Ae,Af,ε] at q;have Z:(asAddr (a.tmps.getD p undef)).run P w=.ok ⟨b,off,none⟩ w:=by rw[g3];rfl
   simp only[List.mapM_cons,Ae,Af,ε,Z,q,h1]
theorem aB8 {G:Ctx}{n:Nat}{S:Sto}{μ:Mu}{st:St}{a:Act}{w:World}{fn:Func}{vs:List V}(q:Tok P T) (hs:Sim G n S μ st a w) (h:ResV T st fn.results.toList vs):
  ∃us,(results fn a.tmps).run P w=.ok (aQ0 us) w∧bU S μ st.h vs us:=by
 obtain⟨us,h1,h2⟩:=qC q hs h;refine⟨us,?_,h2⟩;unfold results;rw[Array.mapM_eq_mapM_toList,Ae,Sem.run_map]
 erw [h1]
 simp only[ε,Af];congr 1
 match us with
 | []=>simp[aQ0]
 | [u]=>simp[aQ0]
 | u::I::us=>simp[aQ0]
def AObj.plain:AObj→Bool
 | .dfr=>false
 | _=>true
theorem aOg {o:AObj}{p:Prop}(h:o.succ p .dfr):o=.dfr:=by cases o<;>simp only[AObj.succ] at h;rfl
theorem Sim.take {P:Program}{G:Ctx}{n:Nat}{S:Sto}{μ:Mu}{st:St}{a:Act}{w:World}{id:Nat}{ids:List Nat}(hs:Sim G n S μ st a w) (hd:st.d=id::ids) (hG:∀id,G.h0 id≠some .dfr):
  ∃b W w',a.defers={ target:=.collected b,args:= #[] }::W∧(Instr.takeDeferred b).run P w=.ok [] w'∧Sim G n S μ ⟨st.e,upd st.h id none,ids⟩ { a with defers:=W } w':=by
 have hm:=hs.defers;rw[hd] at hm;obtain⟨b,c,W,h1,h2,h3,h4,h5,h6⟩:=hm;obtain⟨b',g1,g2,g3,g4⟩:=hs.inv.obj _ _ h3;rw[h2] at g1;cases g1;have hlt:b<w.heap.size:=(Array.getElem?_eq_some_iff.1 g2).1
 have Y:∀j,upd st.h id none j=none∨j≠id:=fun j=>by
  by_cases hj:j=id
  ·exact .inl (by rw[hj,aK])
  ·exact .inr hj
 have aPq:∀{j o},upd st.h id none j=some o→j≠id∧st.h j=some o:=by
  intro j o hj;rcases Y j with h | h
  ·rw[h] at hj;cases hj
  ·exact⟨h,by rwa [bE _ _ _ h] at hj⟩
 have Z:Evo0 S μ st.h S μ (upd st.h id none):=⟨S.le_refl,fun j o hj ho=>by
  have q:j≠id:=by rintro rfl;rw[h3] at hj;cases hj;exact ho rfl
  exact⟨o,by rw[bE _ _ _ q];exact hj,o.succ_refl rfl⟩⟩
 refine⟨b,W,w.putObj b (.deferred none),h1,run_takeDeferred g2,⟨⟨⟨fun b' o v e=>?_,fun b' mk e=>?_⟩,fun j o hj=>?_,fun i j o o' N O c2 hi hj m1 m2=>?_,fun i o N O hi m1=>?_,?_,hs.inv.sle,hs.inv.sto,⟨hs.inv.evo.le,fun j o hj=>?_⟩,hs.inv.fre⟩,hs.size,?_,fun t v e=>b6.evolve0 Z _ _ (hs.env t v e)⟩⟩
 ·obtain⟨vs,t,fr,I,J⟩:=hs.inv.holds.1 b' o v e;have:b'≠b:=by rintro rfl;rw[g3] at e;cases e
  exact⟨vs,t,fr,by rw[World.putObj_heap_other this];exact I,J⟩
 ·have:b'≠b:=by rintro rfl;rw[g4] at e;cases e
  rw[World.putObj_heap_other this];exact hs.inv.holds.2 b' mk e
 ·obtain⟨I,J⟩:=aPq hj;refine(hs.inv.obj j o J).evolve0 Z rfl fun N O m1=>⟨World.putObj_heap_other ?_,fun _=>rfl,rfl⟩
  rintro rfl;exact I (hs.inv.inj j id o .dfr N O _ J h3 m1 h2)
 ·exact hs.inv.inj i j o o' N O c2 (aPq hi).2 (aPq hj).2 m1 m2
 ·exact hs.inv.own i o N O (aPq hi).2 m1
 ·obtain⟨f1,f2,f3,f4,f5,f6⟩:=hs.inv.frame;refine⟨f1,f2,f3,by simpa using f4,fun k hk hF=>?_,f6⟩;rw[World.putObj_heap_other (by omega)];exact f5 k hk hF
 ·obtain⟨o',I,J⟩:=hs.inv.evo.obj j o hj;have q:j≠id:=by
   rintro rfl;rw[h3] at I;cases I;rw[aOg J] at hj;exact hG _ hj
  exact⟨o',by show upd st.h id none j=some o';rw[bE _ _ _ q];exact I,J⟩
 ·exact h6.go fun j hj aa=>⟨rfl,by
   have q:j≠id:=by rintro rfl;exact h5 hj
   show upd st.h id none j=some .dfr
   rw[bE _ _ _ q];exact aa⟩
theorem Sim.leave {P:Program}{fn:Func}{R:Ending→World→Prop}{G:Ctx}{n:Nat}{S:Sto}{μ:Mu}(J:∀id,G.h0 id≠some .dfr):∀(ids:List Nat) {e:Nat→Option V}{h:cR}{a:Act}{w:World},Sim G n S μ ⟨e,h,ids⟩ a w→
  (∀q w',(∀id o,h id=some o→o≠ .dfr→q id=some o)→Sim G n S μ ⟨e,q,[]⟩ { a with defers:=[] } w'→∃v,(results fn a.tmps).run P w'=.ok v w'∧R (.returned v) w')→
  LeavesInM (Wd none) 0 P fn a.tmps R a.defers .returning w
 | [],e,h,a,w,hs,hk=>by
  have hd:a.defers=[]:=hs.defers;rw[hd];refine hk h w (fun _ _ h _=>h) ?_;obtain⟨h1,h2,h3,h4⟩:=hs;exact⟨h1,h2,rfl,h4⟩
 | id::ids,e,h,a,w,hs,hk=>by
  have h3:h id=some .dfr:=by
   obtain⟨b,c,ds',q1,q2,Z,_⟩:=hs.defers;exact Z
  obtain⟨b,ds,w',h1,h2,N⟩:=hs.take (P:=P) rfl J;rw[h1];refine⟨by simp,.inl ⟨b,w',rfl,h2,?_⟩⟩;refine Sim.leave J ids (a:={ a with defers:=ds }) N fun q O hh I=>hk q O (fun j o hj W=>hh j o ?_ W) I
  have Y:j≠id:=by rintro rfl;rw[h3] at hj;cases hj;exact W rfl
  rw[bE _ _ _ Y];exact hj
structure Fin (T:TT) (fn:Func) (st:St) (hin:List (Nat×AObj)) (res:V) (hout:List (Nat×AObj)):Prop where
 ex:∃vs vs',ResV T st fn.results.toList vs∧Convs st.h vs vs'∧aN1 vs'=res
 out:eW (fun p=>∃o,st.h p.1=some o∧Ole (fun i=>i) o p.2) hout
 ok:(subset res.refs (keys hout)&&subset (dN hout) (keys hout)&&distinct (keys hout)&&subset (keys hin) (keys hout)&&(hin.all fun p=>p.2.plain)&&(hout.all fun p=>p.2.plain))=true
theorem ResV.keep {st:St}{I:cR}{d:List Nat}(hh:∀id o,st.h id=some o→o≠ .dfr→I id=some o):∀{rs:List ResultVar}{vs:List V},ResV T st rs vs→ResV T ⟨st.e,I,d⟩ rs vs:=by
 intro rs vs h
 induction h with
 | nil=>exact .nil
 | tmp h1 _ q=>exact .tmp h1 q
 | cell h1 h2 h3 h4 h5 _ q=>exact .cell h1 h2 (hh _ _ h3 (by simp)) h4 h5 q
theorem PureL.keep {h I:cR}(hh:∀id o,h id=some o→o≠ .dfr→I id=some o):∀{ids:List Nat}{rs:List R}{cs:List C},PureL h ids rs cs→PureL I ids rs cs:=by
 intro ids rs cs k
 induction k with
 | nil=>exact .nil
 | c h1 _ q=>exact .c h1 q
 | hs h1 h2 h3 _ q=>exact .hs (hh _ _ h1 (by simp)) h2 h3 q
 | any _ q=>exact .any q
 | fn _ q=>exact .fn q
 | ras h0 _ h1 h2 h3 _ J q=>exact .ras h0 J h1 h2 h3 q
theorem Convs.keep {h q:cR}(hh:∀id o,h id=some o→o≠ .dfr→q id=some o):∀{vs vs':List V},Convs h vs vs'→Convs q vs vs':=by
 intro vs vs' k
 induction k with
 | nil=>exact .nil
 | @cons ids v v' vs vs' h1 _ I=>
  refine .cons (ids:=ids) ?_ I;cases h1 with
  | refl=>exact .refl
  | one h=>exact .one (h.keep hh)
  | agg h=>exact .agg (h.keep hh)
  | pa h=>exact .pa (h.keep hh)
theorem a0m {X:Sto→Prop}{kf:List Nat}{f:FuncId}{fn:Func}{c:Code}{n:Nat}{args:List V}{hin hout:List (Nat×AObj)}{res:V}(hX:∀S μ w,X S→Ctx.keeps ⟨w,S,u0 μ (look hin),μ,look hin⟩ kf) (hT:Tok P T) (hf:P.funcs[f]?=some fn) (hb:fn.body=some c) (hn:fn.ntmps=n) (hle:Nat.ble args.length n=true)
  (h:AWp none P n kf c (mk (aVs 0 args) hin) (fun ex st=>(ex=.normal∨ex=.ret)∧Fin T fn st hin res hout)):∀S μ w vals,X S→Inv ⟨w,S,u0 μ (look hin),μ,look hin⟩ S μ (look hin) w→bU S μ (look hin) args vals→
  Calls P f ⟨vals⟩ w fun e w'=>∃S' μ' v,e=.returned v∧Inv ⟨w,S,u0 μ (look hin),μ,look hin⟩ S' μ' (look hout) w'∧b6 S' μ' (look hout) res v:=by
 intro S μ w vals hXS hI hv;refine(Wd.calls (ro:=none) (n:=0)).1 (callsIn_of_wp_marks hf hb trivial ?_);have hvl:∀(l:List V) (us:List Value),bU S μ (look hin) l us→us.length=l.length:=by
  intro l
  induction l with
  | nil=>intro us h;simp only[bU] at h;subst h;rfl
  | cons x l Y=>
   intro us h;simp only[bU] at h;obtain⟨v,vs',rfl,_,h2⟩:=h;simp[Y _ h2]
 have hvals:=hvl _ _ hv;have hle':=Aq hle;have ab:=hX S μ w hXS;refine h ⟨w,S,u0 μ (look hin),μ,look hin⟩ S μ _ w _ ⟨ab,trivial⟩ ⟨hI,by simp;omega,rfl,fun t v ht=>?_⟩ ?_
 ·have key:∀(l:List V) (us:List Value) (k:Nat),bU S μ (look hin) l us→look (aVs k l) t=some v→∃j,t=k+j∧∃u,us[j]?=some u∧b6 S μ (look hin) v u:=by
   intro l
   induction l with
   | nil=>intro us k _ h;simp[aVs,look] at h
   | cons x l Y=>
    intro us k W hl;simp only[bU] at W;obtain⟨u,Z,rfl,h1,h2⟩:=W;simp only[aVs,look] at hl;split at hl
    ·rename_i hbq;cases hl;exact⟨0,by rw[Ac hbq];rfl,u,rfl,h1⟩
    ·obtain⟨j,h3,u',h4,h5⟩:=Y Z (k+1) h2 hl;exact⟨j+1,by omega,u',by simpa using h4,h5⟩
  obtain⟨j,h1,u,h2,h3⟩:=key args vals 0 hv ht;rw[Be] at h1;subst h1;have hj:t<vals.length:=(Ab.1 h2).1
  have:((⟨vals⟩:Array Value)++Array.replicate (fn.ntmps-(⟨vals⟩:Array Value).size) undef).getD t undef=u:=by
   rw[A8,Array.getElem?_append_left (by simpa using hj)];simp[h2]
  show b6 S μ (look hin) v (((⟨vals⟩:Array Value)++Array.replicate (fn.ntmps-(⟨vals⟩:Array Value).size) undef).getD t undef);rw[this];exact h3
 ·intro ex st' S' μ' a' w' ⟨hex,ad⟩ hs;obtain⟨⟨vs,vs',W,hc,ae⟩,hout',hok⟩:=ad;simp only[Ai] at hok;obtain⟨⟨⟨⟨⟨k1,k2⟩,k3⟩,k4⟩,k5⟩,k6⟩:=hok;have N:LeavesInM (Wd none) 0 P fn a'.tmps (fun e w'=>∃S' μ' v,e=.returned v∧Inv ⟨w,S,u0 μ (look hin),μ,look hin⟩ S' μ' (look hout) w'∧b6 S' μ' (look hout) res v) a'.defers .returning w':=by
   refine Sim.leave (G:=⟨w,S,u0 μ (look hin),μ,look hin⟩) (n:=n) (S:=S') (μ:=μ') (fun id e=>?_) st'.d (e:=st'.e) (h:=st'.h) hs fun O w'' hh hs=>?_
   ·have:=(A7.1 k5) _ (cD (show look hin id=some .dfr from e));cases this
   have W:ResV T ⟨st'.e,O,[]⟩ fn.results.toList vs:=ResV.keep (fun id o I aa=>hh id o I aa) W;have hc:Convs O vs vs':=hc.keep fun id o I aa=>hh id o I aa
   have hout':eW (fun p=>∃o,O p.1=some o∧Ole (fun i=>i) o p.2) hout:=by
    have hk:∀l:List (Nat×AObj),(∀p∈l,p∈hout)→eW (fun p=>∃o,O p.1=some o∧Ole (fun i=>i) o p.2) l:=by
     intro l
     induction l with
     | nil=>intro _;trivial
     | cons p l Y=>
      intro hl;refine⟨?_,Y fun q hq=>hl q (by simp[hq])⟩;obtain⟨o,g1,g2⟩:=hout'.mem p (hl p (by simp));refine⟨o,hh _ _ g1 ?_,g2⟩;rintro rfl;have hp:=(A7.1 k6) p (hl p (by simp));cases hq:p.2<;>rw[hq] at g2 hp<;>cases g2;cases hp
    exact hk hout fun p hp=>hp
   obtain⟨us,h1,h2⟩:=aB8 hT hs W;refine⟨_,h1,?_⟩;have h3:=hc.rel hs.inv.obj h2;have J:∀i∈keys hout,Good O (look hout) (fun i=>i) i:=by
    intro i hi;obtain⟨o',ac⟩:=gC hi;obtain⟨o,g1,g2⟩:=hout'.mem _ (cD ac);exact⟨o,o',g1,ac,g2⟩
   have hv4:b6 S' μ' O res (aQ0 us):=by
    rw[←ae]
    match vs',us,h3 with
    | [],us,h3=>simp only[bU] at h3;subst h3;simp[aN1,aQ0,b6,bU]
    | [v],us,h3=>
     simp only[bU] at h3;obtain⟨u,Z,rfl,h5,rfl⟩:=h3;exact h5
    | v::v'::l,us,h3=>
     have h3':=h3;simp only[bU] at h3';obtain⟨u,Z,rfl,_,u',us'',rfl,_,_⟩:=h3';simp only[aN1,aQ0,b6];exact⟨_,rfl,h3⟩
   have hI':Inv ⟨w,S,u0 μ (look hin),μ,look hin⟩ S' μ' (look hout) w'':=by
    refine⟨hs.inv.holds,fun id o I=>?_,fun i j o o' b c c' hi hj hm hm'=>?_,fun i o b c hi hm=>?_,hs.inv.frame,hs.inv.sle,hs.inv.sto,⟨hs.inv.evo.le,fun id o I=>?_⟩,hs.inv.fre⟩
    ·obtain⟨o1,g1,g2⟩:=hout'.mem _ (cD I);exact(hs.inv.obj _ _ g1).ren g2 fun i hi=>J i (bP k2 i (jV (cD I) i hi))
    ·obtain⟨o1,g1,g2⟩:=hout'.mem _ (cD hi);obtain⟨o2,g3,g4⟩:=hout'.mem _ (cD hj);exact hs.inv.inj _ _ _ _ b c c' g1 g3 hm hm'
    ·obtain⟨o1,g1,g2⟩:=hout'.mem _ (cD hi);exact hs.inv.own _ _ b c g1 hm
    ·obtain⟨o',(g1:O id=some o'),g2⟩:=hs.inv.evo.obj id o I;have hk:id∈keys hin:=Ad.2 ⟨_,cD (show look hin id=some o from I),rfl⟩;obtain⟨o1,o2,g3,g4,g5⟩:=J id (bP k4 id hk);rw[g1] at g3;cases g3;exact⟨o2,g4,AObj.succ_trans g2 g5.succ fun e _=>e⟩
   have hR:b6 S' μ' (look hout) res (aQ0 us):=by
    have:=b6.ren (H:=O) (H':=look hout) (σ:=fun i=>i) res _ (fun i hi=>J i (bP k1 i hi)) (by rw[V.ren_id];exact hv4);exact this
   exact⟨S',μ',_,rfl,hI',hR⟩
  rcases hex with rfl | rfl
  ·exact N
  ·exact N
end
section
variable {P:Program}{T:TT}
theorem bO {f:FuncId}{fn:Func}{c:Code}{n:Nat}{args:List V}{hin hout:List (Nat×AObj)}{res:V}(q:Tok P T) (hf:P.funcs[f]?=some fn) (hb:fn.body=some c) (hn:fn.ntmps=n) (hle:Nat.ble args.length n=true)
  (h:AWp none P n (keys hin) c (mk (aVs 0 args) hin) (fun ex st=>(ex=.normal∨ex=.ret)∧Fin T fn st hin res hout)):aU P f args hin res hout:=
 fun S μ w vals I hv=>a0m (X:=fun _=>True) (fun _ _ _ _=>zZ) q hf hb hn hle h S μ w vals trivial I hv
end
def kS (P:Program) (n:Nat) (ops:Array Oper) (draw:Bool) (k:Nat) (st:St) (pre:REs) (Q:St→Prop):Prop:=
 ∃xs st',Run P n ops k st xs st'∧Nat.beq (k+xs.length) ops.size=true∧(!draw || (fH (oT ops) (pre.reverse++xs) []&&iI ops))=true∧Q st'
section
variable {ro:Option Nat}{P:Program}{n:Nat}{ops:Array Oper}{draw:Bool}{k:Nat}{st:St}{pre:REs}{Q:St→Prop}
theorem k_ {rd:Rd}{f:Eff}(h:GStep P n ops k st rd f) (hk:kS P n ops draw (k+1) (f.apply st) ((rd,f)::pre) Q):kS P n ops draw k st pre Q:=by
 obtain⟨xs,st',h1,h2,h3,h4⟩:=hk;refine⟨(rd,f)::xs,st',.cons h h1,?_,?_,h4⟩
 ·rw[Ag,show k+(xs.length+1)=k+1+xs.length by omega];exact h2
 ·rw[List.reverse_cons,At] at h3;exact h3
theorem z_ (h1:Nat.beq k ops.size=true) (h2:(!draw || (fH (oT ops) pre.reverse []&&iI ops))=true) (q:Q st):kS P n ops draw k st pre Q:=
 ⟨[],st,.nil,h1,by rw[A0];exact h2,q⟩
theorem aE {kf:List Nat}{id:Nat}{Q:Exit→St→Prop}(hm:P.follows .mixedOrders=true) (h:kS P n ops draw 0 st [] (fun st'=>Q .normal st')):AWp ro P n kf (.region id ops draw) st Q:=by
 obtain⟨xs,st',h1,h2,h4,h3⟩:=h;rw[Be] at h2;exact vH hm h1 h2 h4 h3
theorem aVo {kf:List Nat}{id:Nat}{Q:Exit→St→Prop}(st2:St) (hm:P.follows .mixedOrders=true) (h:kS P n ops draw 0 st [] (fun st'=>Sub kf st2 st')) (q:Q .normal st2):AWp ro P n kf (.region id ops draw) st Q:=by
 obtain⟨xs,st',h1,h2,h4,h3⟩:=h;rw[Be] at h2;refine AWp.post (Q:=fun ex s=>ex=.normal∧Sub kf st2 s) (vH hm h1 h2 h4 ⟨rfl,h3⟩) ?_;rintro ex s ⟨rfl,hs⟩;exact⟨st2,hs,q⟩
theorem g_ {i:Nat}{o:Oper}{rd:Rd}{f:Eff}(q:ops[i]?=some o) (hg:o.guard=none) (h:Step P n o st rd f):GStep P n ops i st rd f:=GStep.plain q hg h
theorem AWp.cut {kf:List Nat}{c:Code}{Q:Exit→St→Prop}(st2:St) (h:AWp ro P n kf c st (fun ex s=>match ex with | .normal=>Sub kf st2 s | ex=>Q ex s)) (q:Q .normal st2):AWp ro P n kf c st Q:=by
 refine AWp.post h ?_;intro ex s hs;cases ex with
 | normal=>exact⟨st2,hs,q⟩
 | _=>exact⟨s,Sub.refl _ _,hs⟩
end
section
variable {P:Program}{n:Nat}{o:Oper}{st:St}{d:Nat}{T:TT}
theorem aXk {J ty:TypeId}{x y:Operand}{a b:Int}(N:o.op=.binOp .add J x y ty) (hd:o.dst=some d) (q:d<n) (hx:opv st x=some (I .i64 a)) (hy:opv st y=some (I .i64 b)) (O: -9223372036854775808≤a+b∧a+b≤9223372036854775807):
  Step P n o st ⟨opr x++opr y,[]⟩ ⟨some (d,some (I .i64 (a+b))),[]⟩:=aO2 N hd q hx hy (Cc _ O)
theorem aW1 {J ty:TypeId}{x y:Operand}{a b:Int}(N:o.op=.binOp .sub J x y ty) (hd:o.dst=some d) (q:d<n) (hx:opv st x=some (I .i64 a)) (hy:opv st y=some (I .i64 b)) (O: -9223372036854775808≤a-b∧a-b≤9223372036854775807):
  Step P n o st ⟨opr x++opr y,[]⟩ ⟨some (d,some (I .i64 (a-b))),[]⟩:=aOr N hd q hx hy (Cc _ O)
theorem aXe {J ty:TypeId}{x y:Operand}{a b:Int}(N:o.op=.binOp .mul J x y ty) (hd:o.dst=some d) (q:d<n) (hx:opv st x=some (I .i64 a)) (hy:opv st y=some (I .i64 b)) (O: -9223372036854775808≤a*b∧a*b≤9223372036854775807):
  Step P n o st ⟨opr x++opr y,[]⟩ ⟨some (d,some (I .i64 (a*b))),[]⟩:=aOw N hd q hx hy (Cc _ O)
theorem aRe {N ty:TypeId}{x y:Operand}{a b:Int}(O:o.op=.binOp .quo N x y ty) (hd:o.dst=some d) (J:d<n) (hx:opv st x=some (I .i64 a)) (hy:opv st y=some (I .i64 b)) (q:0≤a∧a≤9223372036854775807∧1≤b):
  Step P n o st ⟨opr x++opr y,[]⟩ ⟨some (d,some (I .i64 (a/b))),[]⟩:=aXa O hd J hx hy (by omega) (by
   have h1:a.tdiv b=a/b:=Int.tdiv_eq_ediv_of_nonneg q.1;rw[h1];refine Cc _ ⟨?_,?_⟩
   ·have:=Int.ediv_nonneg q.1 (show(0:Int)≤b by omega);omega
   ·have:=Int.ediv_le_self b q.1;omega)
theorem aRd {J ty:TypeId}{x y:Operand}{k:IntKind}{a b:Int}(N:o.op=.binOp .rem J x y ty) (hd:o.dst=some d) (q:d<n) (hx:opv st x=some (I k a)) (hy:opv st y=some (I k b)) (O:0≤a∧1≤b):
  Step P n o st ⟨opr x++opr y,[]⟩ ⟨some (d,some (I k (a%b))),[]⟩:=aW8 N hd q hx hy (by omega) (Int.tmod_eq_emod_of_nonneg O.1)
theorem j6 (op:BinOp) (t:TypeId) (x y:Operand) (u v:Value) (w:World) (h1:(match u with | .agg _=>true | .nilIface=>true | _=>false)=false):(eqGuard op t x y u v).run P w=.ok () w:=by
 unfold eqGuard;cases u<;>simp at h1<;>(split<;>rfl)
theorem uB {t:TypeId}(hu:P.underlying t=some .bool) (d:Nat) (a b:Bool) (w:World):(Op.equalIn (d+1) t (.bool a) (.bool b)).run P w=.ok (a==b) w:=by
 simp only[Op.equalIn,Ae,As hu w,ε,Af]
theorem yS {t e:TypeId}(hu:P.underlying t=some (.pointer e)) (d:Nat) (p:Option Addr) (w:World):(Op.equalIn (d+1) t (.pointer p) (.pointer none)).run P w=.ok p.isNone w:=by
 cases p<;>simp only[Op.equalIn,Ae,As hu w,ε,Af]<;>rfl
theorem aOn {t e:TypeId}(hu:P.underlying t=some (.slice e)) (d:Nat) (p:Option Addr) (l c:Nat) (w:World):(Op.equalIn (d+1) t (.slice p l c) (.slice none 0 0)).run P w=.ok p.isNone w:=by
 cases p<;>simp only[Op.equalIn,Ae,As hu w,ε,Af]<;>rfl
theorem aB9 {q ty:TypeId}{x y:Operand}{a:Act}{w:World}{u v:Value}{b:Bool}(J:o.op=.binOp .eql q x y ty) (hx:a.eval x=u) (hy:a.eval y=v) (hg:(eqGuard .eql q x y u v).run P w=.ok () w)
  (hb:binOp .eql q u v=(do pure (.bool (←Op.equal q u v)))) (N:(Op.equalIn (9999+1) q u v).run P w=.ok b w):(execOp a.eval o).run P w=.ok (.value (.bool b)) w:=by
 have I:(Op.equal q u v).run P w=.ok b w:=N;simp only[execOp,J,hx,hy,Ae,hg,ε,hb,I,Af]
theorem aJf {q ty:TypeId}{x y:Operand}{a:Act}{w:World}{u v:Value}{b:Bool}(J:o.op=.binOp .neq q x y ty) (hx:a.eval x=u) (hy:a.eval y=v) (hg:(eqGuard .neq q x y u v).run P w=.ok () w)
  (hb:binOp .neq q u v=(do pure (.bool (!(←Op.equal q u v))))) (N:(Op.equalIn (9999+1) q u v).run P w=.ok b w):(execOp a.eval o).run P w=.ok (.value (.bool (!b))) w:=by
 have I:(Op.equal q u v).run P w=.ok b w:=N;simp only[execOp,J,hx,hy,Ae,hg,ε,hb,I,Af]
theorem aXi {q ty:TypeId}{i:TI}{x y:Operand}{a b:Bool}(J:Tok P T) (N:o.op=.binOp .eql q x y ty) (hd:o.dst=some d) (I:d<n) (hi:T[q]?=some (some i)) (hk:i.k=.bool) (hx:opv st x=some (B a)) (hy:opv st y=some (B b)):
  Step P n o st ⟨opr x++opr y,[]⟩ ⟨some (d,some (B (a==b))),[]⟩:=by
 refine Step.value hd I fun _ ha _ _ _ ac w hs=>?_
 have h1:=jE (aQ hs hx (eV ha).1);have h2:=jE (aQ hs hy (eV ha).2);exact⟨.bool (a==b),aB9 N h1 h2 (j6 _ _ _ _ _ _ _ rfl) rfl (uB ((J.get hi).bool hk) _ _ _ _),by simp[b6,bF,Rep]⟩
theorem aXh {q ty:TypeId}{i:TI}{x y:Operand}{a b:Bool}(J:Tok P T) (N:o.op=.binOp .neq q x y ty) (hd:o.dst=some d) (I:d<n) (hi:T[q]?=some (some i)) (hk:i.k=.bool) (hx:opv st x=some (B a)) (hy:opv st y=some (B b)):
  Step P n o st ⟨opr x++opr y,[]⟩ ⟨some (d,some (B (!(a==b)))),[]⟩:=by
 refine Step.value hd I fun _ ha _ _ _ ac w hs=>?_
 have h1:=jE (aQ hs hx (eV ha).1);have h2:=jE (aQ hs hy (eV ha).2);exact⟨.bool (!(a==b)),aJf N h1 h2 (j6 _ _ _ _ _ _ _ rfl) rfl (uB ((J.get hi).bool hk) _ _ _ _),by simp[b6,bF,Rep]⟩
def zE:V→Option Bool
 | .one (.c .np)=>some true
 | .one (.c (.pt _))=>some false
 | .one (.vp _ _)=>some false
 | _=>none
theorem uJ {S:Sto}{μ:Mu}{H:cR}{v:V}{u:Value}{b:Bool}(h:b6 S μ H v u) (hb:zE v=some b):∃p,u=.pointer p∧p.isNone=b:=by
 unfold zE at hb;split at hb
 ·cases hb;simp only[b6,bF,Rep] at h;exact⟨none,h,rfl⟩
 ·cases hb;simp only[b6,bF,Rep] at h;obtain⟨b,o,h,_⟩:=h;exact⟨_,h,rfl⟩
 ·cases hb;simp only[b6,bF] at h;obtain⟨t,cells,b,c,_,_,h⟩:=h;exact⟨_,h,rfl⟩
 ·cases hb
theorem aXc {q ty e:TypeId}{i:TI}{x y:Operand}{v:V}{b:Bool}(J:Tok P T) (N:o.op=.binOp .eql q x y ty) (hd:o.dst=some d) (I:d<n) (hi:T[q]?=some (some i)) (hk:i.k=.pt e) (hx:opv st x=some v) (hv:zE v=some b) (hy:opv st y=some (.one (.c .np))):
  Step P n o st ⟨opr x++opr y,[]⟩ ⟨some (d,some (B b)),[]⟩:=by
 refine Step.value hd I fun _ ha _ _ _ ac w hs=>?_
 obtain⟨p,h1,hp⟩:=uJ (aQ hs hx (eV ha).1) hv;have h2:=aQ hs hy (eV ha).2;simp only[b6,bF,Rep] at h2;subst hp;exact⟨.bool p.isNone,aB9 N h1 h2 (j6 _ _ _ _ _ _ _ rfl) (by cases p<;>rfl) (yS ((J.get hi).ptr hk) _ _ _),by simp[b6,bF,Rep]⟩
theorem aXb {q ty e:TypeId}{i:TI}{x y:Operand}{v:V}{b:Bool}(J:Tok P T) (N:o.op=.binOp .neq q x y ty) (hd:o.dst=some d) (I:d<n) (hi:T[q]?=some (some i)) (hk:i.k=.pt e) (hx:opv st x=some v) (hv:zE v=some b) (hy:opv st y=some (.one (.c .np))):
  Step P n o st ⟨opr x++opr y,[]⟩ ⟨some (d,some (B (!b))),[]⟩:=by
 refine Step.value hd I fun _ ha _ _ _ ac w hs=>?_
 obtain⟨p,h1,hp⟩:=uJ (aQ hs hx (eV ha).1) hv;have h2:=aQ hs hy (eV ha).2;simp only[b6,bF,Rep] at h2;subst hp;exact⟨.bool (!p.isNone),aJf N h1 h2 (j6 _ _ _ _ _ _ _ rfl) (by cases p<;>rfl) (yS ((J.get hi).ptr hk) _ _ _),by simp[b6,bF,Rep]⟩
def aOk:V→Option Bool
 | .one (.c .nl)=>some true
 | .one (.c (.sn _ _))=>some false
 | _=>none
theorem aJc {S:Sto}{μ:Mu}{H:cR}{v:V}{u:Value}{b:Bool}(h:b6 S μ H v u) (hb:aOk v=some b):∃p l c,u=.slice p l c∧p.isNone=b:=by
 unfold aOk at hb;split at hb
 ·cases hb;simp only[b6,bF,Rep] at h;exact⟨none,_,_,h,rfl⟩
 ·cases hb;simp only[b6,bF,Rep] at h;obtain⟨b,o,sp,l,c,h,_⟩:=h;exact⟨_,_,_,h,rfl⟩
 ·cases hb
theorem aTm {q ty e:TypeId}{i:TI}{x y:Operand}{v:V}{b:Bool}(J:Tok P T) (N:o.op=.binOp .eql q x y ty) (hd:o.dst=some d) (I:d<n) (hi:T[q]?=some (some i)) (hk:i.k=.sl e) (hx:opv st x=some v) (hv:aOk v=some b) (hy:opv st y=some (.one (.c .nl))):
  Step P n o st ⟨opr x++opr y,[]⟩ ⟨some (d,some (B b)),[]⟩:=by
 refine Step.value hd I fun _ ha _ _ _ ac w hs=>?_
 obtain⟨p,l,c,h1,hp⟩:=aJc (aQ hs hx (eV ha).1) hv;have h2:=aQ hs hy (eV ha).2;simp only[b6,bF,Rep] at h2;subst hp;exact⟨.bool p.isNone,aB9 N h1 h2 (j6 _ _ _ _ _ _ _ rfl) (by cases p<;>rfl) (aOn ((J.get hi).slice hk) _ _ _ _ _),by simp[b6,bF,Rep]⟩
end
theorem take_map {α β:Type}{f:α→β}{l:List α}:(l.map f).take l.length=l.map f:=Bb (by simp)
theorem Ole.arrE {σ:Nat→Nat}{te es fz:Nat}{e e':List (List C)}(h:e=e'):Ole σ (.arr te es e fz) (.arr te es e' 1):=by subst h;exact .arr1
section
variable {P:Program}{n:Nat}{o:Oper}{st:St}{d:Nat}{T:TT}
def aAl (st:St):List Operand→Option (List R)
 | []=>some []
 | x::xs=>match opv st x with
  | some (.one r)=>match aAl st xs with | some l=>some (r::l) | none=>none
  | _=>none
theorem aAk {G:Ctx}{S:Sto}{μ:Mu}{st':St}{a:Act}{w:World}(hs:Sim G n S μ st' a w):∀(xs:List Operand) (l:List R),aAl st xs=some l→(∀t∈dP xs,st'.e t=st.e t)→aW S μ st'.h l (xs.map a.eval)
 | [],l,h,_=>by simp[aAl] at h;subst h;simp[aW]
 | x::xs,l,h,ht=>by
  simp only[aAl] at h;split at h
  ·rename_i r I;split at h
   ·rename_i l' q;cases h;have h1:=aQ hs I fun t h=>ht t (by simp[dP,h])
    simp only[b6] at h1;simp only[Am,aW];exact⟨_,_,rfl,h1,aAk hs xs l' q fun t h=>ht t (by simp[dP,h])⟩
   ·cases h
  ·cases h
theorem aG2 {f:FuncId}{caps:Array Operand}{l:List R}(I:o.op=.makeFunc (.func f) #[] caps) (hd:o.dst=some d) (q:d<n) (hc:aAl st caps.toList=some l):Step P n o st ⟨dP caps.toList,[]⟩ ⟨some (d,some (.one (.clo f l))),[]⟩:=by
 refine Step.value hd q fun st' ha _ S μ ac w hs=>?_
 have h:=aAk hs _ _ hc ha.1;refine⟨.func (.func f) #[] (caps.map ac.eval),by simp[execOp,I,Instr.makeFunc],?_⟩;simp only[b6,bF];refine⟨caps.toList.map ac.eval,?_,h⟩;congr 1;apply Array.ext';simp
theorem z8 {f:FuncId}{x:Operand}{c:R}(I:o.op=.makeFunc (.func f) #[x] #[]) (hd:o.dst=some d) (q:d<n) (hx:opv st x=some (.one c)):Step P n o st ⟨opr x,[]⟩ ⟨some (d,some (.one (.mth f c))),[]⟩:=by
 refine Step.value hd q fun st' ha _ S μ ac w hs=>?_
 have h:=aQ hs hx ha.1;refine⟨.func (.func f) #[ac.eval x] #[],by simp[execOp,I,Instr.makeFunc],?_⟩;simp only[b6,bF] at h ⊢;exact⟨_,rfl,h⟩
def jC (k:List UInt8):List (List C)→Option (List C)
 | []=>none
 | (.str s::vs)::r=>if s=k then some vs else jC k r
 | _::r=>jC k r
def aHd (k:List UInt8) (vs:List C):List (List C)→List (List C)
 | []=>[.str k::vs]
 | (.str s::us)::r=>if s=k then(.str k::vs)::r else(.str s::us)::aHd k vs r
 | x::r=>x::aHd k vs r
theorem aGg (a b:List UInt8):((ByteArray.mk ⟨a⟩)==(ByteArray.mk ⟨b⟩))=decide (b=a):=by
 rw[beq_toListBytes,lF,lF,Bool.beq_eq_decide_eq];by_cases h:a=b
 ·subst h;simp
 ·have q:¬b=a:=fun e=>h e.symm
  simp[h,q]
theorem kF {S:Sto}{agg:Bool}{k:List UInt8}:∀(l:List (List C)) (es:List MapEntry) (i:Nat),bH S agg l es→kL l→
  (∀vs,jC k l=some vs→∃j e,Instr.findNow .string (.string ⟨⟨k⟩⟩) es i=some (some (i+j,e.val))∧es[j]?=some e∧(∃us,dL S vs us∧e.val=(if agg then .agg ⟨us⟩ else us.headD undef)∧(agg=false→us.length=1))∧e.key=.string ⟨⟨k⟩⟩∧j<es.length∧
   ∀ws,aHd k ws l=(l.take j)++(.str k::ws)::l.drop (j+1))∧
  (jC k l=none→Instr.findNow .string (.string ⟨⟨k⟩⟩) es i=some none∧∀ws,aHd k ws l=l++[.str k::ws])
 | [],es,i,h,_=>by
  simp only[bH] at h;subst h;exact⟨fun vs hv=>by simp[jC] at hv,fun _=>⟨rfl,fun ws=>rfl⟩⟩
 | r::l,es,i,h,hm=>by
  simp only[bH] at h;obtain⟨e,I,rfl,⟨vs,h1,h2,h3⟩,h4⟩:=h
  match r,h1,hm with
  | .str s::us,h1,hm=>
   simp only[kL] at hm;simp only[dL] at h1;obtain⟨v,vs',hv,h5,h6⟩:=h1;simp only[Rep] at h5;injection hv with W Y;subst Y;have q:e.key=.string ⟨⟨s⟩⟩:=by rw[W,h5]
   have Z:=kF (k:=k) l I (i+1) h4 hm;by_cases hs:s=k
   ·subst hs;refine⟨fun ws hw=>?_,fun hn=>by simp[jC] at hn⟩;simp only[jC,Cm,Option.some.injEq] at hw;subst hw;refine⟨0,e,?_,rfl,⟨vs,h6,h2,h3⟩,q,by simp,fun ws=>by simp[aHd]⟩;simp only[Instr.findNow,q,Instr.sameNow];rw[aGg];simp
   ·have J:Instr.findNow .string (.string ⟨⟨k⟩⟩) (e::I) i=Instr.findNow .string (.string ⟨⟨k⟩⟩) I (i+1):=by
     simp only[Instr.findNow,q,Instr.sameNow];rw[aGg];simp[hs]
    refine⟨fun ws hw=>?_,fun hn=>?_⟩
    ·simp only[jC,hs,Bv] at hw;obtain⟨j,e',N,O,q3,q4,q5,q6⟩:=Z.1 ws hw;refine⟨j+1,e',?_,by simpa using O,q3,q4,by simpa using q5,fun ws=>?_⟩
     ·rw[J,N,show i+1+j=i+(j+1) by omega]
     ·simp only[aHd,hs,Bv,q6 ws];simp
    ·simp only[jC,hs,Bv] at hn;obtain⟨N,O⟩:=Z.2 hn;exact⟨by rw[J,N],fun ws=>by simp only[aHd,hs,Bv,O ws];simp⟩
  | [],h1,_=>simp only[dL] at h1;cases h1
  | .int _ _::_,_,hm=>simp[kL] at hm
  | .bool _::_,_,hm=>simp[kL] at hm
  | .nl::_,_,hm=>simp[kL] at hm
  | .sl _ _::_,_,hm=>simp[kL] at hm
  | .sn _ _::_,_,hm=>simp[kL] at hm
  | .np::_,_,hm=>simp[kL] at hm
  | .pt _::_,_,hm=>simp[kL] at hm
  | .mp _ _::_,_,hm=>simp[kL] at hm
  | .zv _::_,_,hm=>simp[kL] at hm
theorem lY {t:TypeId}(hu:P.underlying t=some .string) (b:Bool) (d:Nat) (s:ByteArray) (w:World):(Instr.checkKey b (d+1) t (.string s)).run P w=.ok () w:=by
 simp only[Instr.checkKey,Ae,As hu w,ε,Af]
inductive MapE (st:St):List Nat→V→Bool→List (List C)→Prop
 | mr {id agg ents}:st.h id=some (.map agg ents)→MapE st [id] (.one (.mr id)) agg ents
 | mp {agg ents}:MapE st [] (.one (.c (.mp agg ents))) agg ents
 | nil {agg}:MapE st [] (.one (.c (.zv 0))) agg []
theorem MapE.rel {G:Ctx}{S:Sto}{μ:Mu}{st':St}{a:Act}{w:World}{ids:List Nat}{v:V}{agg:Bool}{ents:List (List C)}{u:Value}(hs:Sim G n S μ st' a w) (h:MapE st ids v agg ents) (q:kL ents) (hi:∀i∈ids,st'.h i=st.h i) (hv:b6 S μ st'.h v u):
  ∃es:Array MapEntry,bH S agg ents es.toList∧((u=.map none∧es= #[])∨∃b clk,u=.map (some b)∧w.heap[b]?=some (.map es clk)):=by
 cases h with
 | mr hh=>
  have I:=(hi _ (by simp)).trans hh;simp only[b6,bF] at hv;obtain⟨N,J,b,c,h1,h2,h3⟩:=hv;rw[I] at h1;cases h1;obtain⟨b',es,clk,g1,g2,g3,g4⟩:=hs.inv.obj _ _ I;rw[h2] at g1;cases g1;exact⟨es,g3.rep q,.inr ⟨_,clk,h3,g2⟩⟩
 | mp=>
  simp only[b6,bF,Rep] at hv;obtain⟨b,es,clk,h1,h2,h3⟩:=hv;refine⟨es,h3.elim id fun h3=>?_,.inr ⟨b,clk,h1,hs.inv.holds.2 _ _ h2⟩⟩;cases ents with
  | nil=>simp only[aN6] at h3
  | cons r l=>simp only[aN6] at h3;rw[h3.1] at q;simp[kL] at q
 | nil=>
  simp only[b6,bF,Rep,aV7] at hv;exact⟨#[],by simp[bH],.inl ⟨hv,rfl⟩⟩
def qD (i:TI) (r:Option (List C)):V:=match r with
 | some vs=>if i.k.agg then .pa vs else match vs with | [c]=>.one (.c c) | _=>.tup []
 | none=>if i.k.agg then .pa i.zero else match i.zero with | [c]=>.one (.c c) | _=>.tup []
def aHh (r:Option (List C)):Bool:=r.isSome
def aL2 (r:Option (Nat×Value)) (z:Value):Value:=match r with | some p=>p.2 | none=>z
theorem jT (w:World) (b:Nat) (es:Array MapEntry) (clk:Nat) (h:w.heap[b]?=some (.map es clk)):(getObj b).run P w=.ok (.map es clk) w:=by
 exact MapKept.run_getObj_map h
theorem aJq {t kt et:TypeId}{i ki I:TI}{x y:Operand}{ok:Bool}{ids:List Nat}{agg:Bool}{k:List UInt8}{r:Option (List C)}(Y:Tok P T) (ho:o.op=.lookup t x y ok) (hd:o.dst=some d) (hdn:d<n) (hi:T[t]?=some (some i)) (hk:i.k=.mp kt et)
  (hki:T[kt]?=some (some ki)) (hkk:ki.k=.str) (Z:T[et]?=some (some I)) (J:I.k.agg=agg) (hy:opv st y=some (Go.AM.T k))
  (hrel:∀(st':St),pM ⟨opr x++opr y,ids⟩ st st'→∀(G:Ctx) (S:Sto) (μ:Mu) (a:Act) (w:World),Sim G n S μ st' a w→∃(es:Array MapEntry) (ents:List (List C)),kL ents∧jC k ents=r∧bH S agg ents es.toList∧((a.eval x=.map none∧es= #[])∨∃b clk,a.eval x=.map (some b)∧w.heap[b]?=some (.map es clk))):
  Step P n o st ⟨opr x++opr y,ids⟩ ⟨some (d,some (if ok then .tup [qD I r,B (aHh r)] else qD I r)),[]⟩:=by
 refine Step.value hd hdn fun st' ha G S μ a w hs=>?_
 obtain⟨es,ents,hms,hr,h1,h2⟩:=hrel st' ha G S μ a w hs;have h3:=lD (aQ hs hy fun t h=>ha.1 t (by simp[h]));have hu:=As ((Y.get hi).map hk) w;have aa:=(Y.get hki).str hkk;obtain⟨z,hz,hzr,hz1,hz2⟩:=(Y.get Z).zero_run;have N:=kF (k:=k) ents es.toList 0 h1 hms;have key:∃r0:Option (Nat×Value),(Instr.findKey kt (.string ⟨⟨k⟩⟩) es.toList).run P w=.ok r0 w∧b6 S μ st'.h (qD I r) (aL2 r0 z)∧aHh r=r0.isSome:=by
  cases O:jC k ents with
  | some vs=>
   obtain⟨j,e,q1,q2,⟨us,W,q4,q5⟩,q6,q7,q8⟩:=N.1 vs O;refine⟨some (0+j,e.val),?_,?_,by rw[←hr,O];rfl⟩
   ·simp only[Instr.findKey,Ae,As aa w,ε,q1,Af]
   ·rw[←hr,O];simp only[qD,J];cases agg with
    | true=>
     simp only[Cm,b6] at q4 ⊢;exact⟨us,q4,W⟩
    | false=>
     simp only[Bc,Bv] at q4 ⊢;have hl:=q5 rfl;have hl2:=W.length
     match vs,us,W,hl,hl2 with
     | [c],[u],W,_,_=>
      simp only[dL] at W;obtain⟨v,vs',hv,hc,_⟩:=W;cases hv;rw[q4];simp only[b6,bF];exact hc
  | none=>
   obtain⟨q1,_⟩:=N.2 O;refine⟨none,?_,?_,by rw[←hr,O];rfl⟩
   ·simp only[Instr.findKey,Ae,As aa w,ε,q1,Af]
   ·rw[←hr,O];simp only[qD,J];have q:=hzr S;cases agg with
    | true=>
     rw[J,ξ rfl] at hz1;simp only[Cm,b6];exact⟨z.cells.toList,hz1,q⟩
    | false=>
     obtain⟨u,hu1,hu2⟩:=hz2 J;simp only[Bc,Bv];have hl:=(Y.get Z).len;rw[(Y.get Z).one J] at hl
     match hzz:I.zero,hl with
     | [c],_=>
      rw[hzz,hu1] at q;simp only[dL] at q;obtain⟨v,vs',hv,hc,_⟩:=q;cases hv;rw[hu2];simp only[b6,bF];exact hc
 obtain⟨r0,hf,hv,hb⟩:=key;have hck:=fun b=>lY (P:=P) aa b 9999 ⟨⟨k⟩⟩ w
 have fin:b6 S μ st'.h (if ok then .tup [qD I r,B (aHh r)] else qD I r) (if ok then .tuple #[(aL2 r0 z),.bool r0.isSome] else(aL2 r0 z)):=by
  cases ok with
  | false=>exact hv
  | true=>
   simp only[Cm,b6,bU];exact⟨[_,.bool r0.isSome],rfl,_,[.bool r0.isSome],rfl,hv,.bool r0.isSome,[],rfl,by rw[hb];simp[bF,Rep],rfl⟩
 refine⟨_,?_,fin⟩;rcases h2 with⟨h2,rfl⟩ | ⟨b,clk,h2,h4⟩
 ·simp only[execOp,ho,h2,h3,Ae,Instr.lookup,hu,ε,Af];rw[show(10000:Nat)=9999+1 from rfl,hck];simp only[ε,hf];cases r0 with
  | none=>simp only[Ae,hz w,ε,Af];rfl
  | some p=>rfl
 ·simp only[execOp,ho,h2,h3,Ae,Instr.lookup,hu,ε,Af,jT w b es clk h4];rw[show(10000:Nat)=9999+1 from rfl,hck];simp only[ε,hf];cases r0 with
  | none=>simp only[Ae,hz w,ε,Af];rfl
  | some p=>rfl
theorem wP {t J N:TypeId}{i O q:TI}{x y:Operand}{ok:Bool}{v:V}{ids:List Nat}{agg:Bool}{ents:List (List C)}{k:List UInt8}{r:Option (List C)}(hT:Tok P T) (ho:o.op=.lookup t x y ok) (hd:o.dst=some d) (W:d<n) (hi:T[t]?=some (some i)) (hk:i.k=.mp J N)
  (Y:T[J]?=some (some O)) (Z:O.k=.str) (aa:T[N]?=some (some q)) (ab:q.k.agg=agg) (hx:opv st x=some v) (hm:MapE st ids v agg ents) (I:kL ents) (hy:opv st y=some (Go.AM.T k)) (hr:jC k ents=r):
  Step P n o st ⟨opr x++opr y,ids⟩ ⟨some (d,some (if ok then .tup [qD q r,B (aHh r)] else qD q r)),[]⟩:=
 aJq hT ho hd W hi hk Y Z aa ab hy fun _ ha _ _ _ _ _ hs=>by
  obtain⟨es,h1,h2⟩:=hm.rel hs I ha.2 (aQ hs hx fun t h=>ha.1 t (by simp[h]));exact⟨es,ents,I,hr,h1,h2⟩
theorem dU {S:Sto}{agg:Bool}:∀{a:List (List C)}{x:List MapEntry}{b:List (List C)}{y:List MapEntry},bH S agg a x→bH S agg b y→bH S agg (a++b) (x++y)
 | [],_,_,_,h,k=>by simp only[bH] at h;subst h;simpa using k
 | _::_,_,_,_,h,k=>by
  simp only[bH,Ba] at h ⊢;obtain⟨v,vs',rfl,h1,h2⟩:=h;exact⟨v,vs'++_,rfl,h1,dU h2 k⟩
theorem kZ {S:Sto}{agg:Bool}:∀{a:List (List C)}{x:List MapEntry}(n:Nat),bH S agg a x→bH S agg (a.take n) (x.take n)
 | _,_,0,_=>by simp[bH]
 | [],_,n+1,h=>by simp only[bH] at h;subst h;simp[bH]
 | _::_,_,n+1,h=>by
  simp only[bH,Ax] at h ⊢;obtain⟨v,vs',rfl,h1,h2⟩:=h;exact⟨v,vs'.take n,by simp,h1,kZ n h2⟩
theorem l7 {S:Sto}{agg:Bool}:∀{a:List (List C)}{x:List MapEntry}(n:Nat),bH S agg a x→bH S agg (a.drop n) (x.drop n)
 | _,_,0,h=>by simpa using h
 | [],_,n+1,h=>by simp only[bH] at h;subst h;simp[bH]
 | _::_,_,n+1,h=>by
  simp only[bH,Cs] at h ⊢;obtain⟨v,vs',rfl,h1,h2⟩:=h;simpa using l7 n h2
theorem aCc {t kt et:TypeId}{i ki:TI}{x y z:Operand}{id:Nat}{agg:Bool}{ents:List (List C)}{k:List UInt8}{v:V}{rs:List R}{cs:List C}{ids:List Nat}(hT:Tok P T) (ho:o.op=.mapUpdate t x y z) (hd:o.dst=none) (hi:T[t]?=some (some i)) (hk:i.k=.mp kt et)
  (hki:T[kt]?=some (some ki)) (hkk:ki.k=.str) (hx:opv st x=some (.one (.mr id))) (hh:st.h id=some (.map agg ents)) (N:kL ents) (hy:opv st y=some (Go.AM.T k))
  (hz:opv st z=some v) (q:(match v with | .one _=>!agg | .pa _=>agg | .ma _=>agg | _=>false)=true) (hc:iM v=some rs) (hp:PureL st.h ids rs cs):
  Step P n o st ⟨opr x++opr y++opr z,id::ids⟩ ⟨none,[(id,some (.map agg (aHd k cs ents)))]⟩:=by
 refine Step.turn hd hh (by simp) (by simp[AObj.succ]) fun st' ha hh' G S μ a w hs=>?_
 have h1:=aQ hs hx fun t h=>ha.1 t (by simp[h])
 have h3:=lD (aQ hs hy fun t h=>ha.1 t (by simp[h]));have hv:=aQ hs hz fun t h=>ha.1 t (by simp[h])
 simp only[b6,bF] at h1;obtain⟨agg',ents',b,c,q1,q2,q3⟩:=h1;obtain⟨b',es,clk,g1,g2,g3,g4⟩:=hs.inv.obj id _ hh';rw[g1] at q2;cases q2;have g3:=g3.rep N;have hrep:=hp.rel (fun i h=>ha.2 i (by simp[h])) hs.inv.obj (eM hv hc);have O:a.eval z=(if agg then .agg ⟨(a.eval z).cells.toList⟩ else(a.eval z).cells.toList.headD undef)∧(agg=false→(a.eval z).cells.toList.length=1):=by
  cases v with
  | one r=>
   simp at q;subst q;simp only[b6] at hv;rw[hv.one.1];simp
  | pa l=>
   simp at q;subst q;simp only[b6] at hv;obtain⟨vs,hv,_⟩:=hv;rw[hv];simp[Value.cells]
  | ma l=>
   simp at q;subst q;simp only[b6] at hv;obtain⟨vs,hv,_⟩:=hv;rw[hv];simp[Value.cells]
  | tup l=>simp at q
 have W:=(hT.get hki).str hkk;have hu:=As ((hT.get hi).map hk) w;have I:=kF (k:=k) ents es.toList 0 g3 N;have hck:=fun b=>lY (P:=P) W b 9999 ⟨⟨k⟩⟩ w
 have Y:∀e:MapEntry,e.key=.string ⟨⟨k⟩⟩→e.val=a.eval z→bH S agg [.str k::cs] [e]:=by
  intro e he1 he2;simp only[bH];refine⟨e,[],rfl,⟨(a.eval z).cells.toList,?_,by rw[he2];exact O.1,O.2⟩,rfl⟩;simp only[dL];exact⟨e.key,_,rfl,by simp[Rep,he1],hrep⟩
 have Z:∀(ob:Obj),(setObj b ob).run P w=.ok () { w with heap:=w.heap.setIfInBounds b ob }:=by
  intro ob;exact MapKept.run_setObj_map _ g2
 have hW:∀ob,WChg w { w with heap:=w.heap.setIfInBounds b ob } b ob:=fun ob=>by
  have hlt:=eD g2;refine⟨rfl,rfl,rfl,by simp,by simp[hlt],fun k _ hne=>?_⟩;show(w.heap.setIfInBounds b ob)[k]?=_;rw[Bu,φ (fun e=>hne e.symm)]
 have hSc:∀(ob:Obj) (o:Nat) (v:Value),S.cell b o=some v→∃vs t fr,ob=.cells vs t fr∧vs[o]?=some v:=fun ob o v e=>by
  obtain⟨vs,t,fr,J,_⟩:=hs.inv.holds.1 b o v e;rw[g2] at J;cases J
 have g4:=g4.kn0 N;have hSm:∀m,S.mapo b=some m→w.heap.size≤b:=fun m e=>by rw[g4] at e;cases e
 cases hq:jC k ents with
 | some vs=>
  obtain⟨j,e,J,p2,_,p4,p5,p6⟩:=I.1 vs hq;refine⟨_,.map (es.modify j fun e=>{ e with key:=.string ⟨⟨k⟩⟩,val:=a.eval z }) clk,b,(0,0),?_,g1,hW _,⟨b,_,clk,aK _ _ _,(hW _).new,.inr (.inl ?_),.inl g4⟩,hSc _,hSm⟩
  ·have hkey:((es[j]?).map (·.key)).getD (.string ⟨⟨k⟩⟩)=.string ⟨⟨k⟩⟩:=by
    rw[←Array.getElem?_toList,p2];simpa using p4
   have hkt:(Instr.keyThatStays (.string ⟨⟨k⟩⟩) (.string ⟨⟨k⟩⟩)).run P w=.ok (.string ⟨⟨k⟩⟩) w:=by
    have hsb:Instr.sameBits 10000 (.string ⟨⟨k⟩⟩) (.string ⟨⟨k⟩⟩)=true:=by simp[Instr.sameBits,aGg]
    simp only[Instr.keyThatStays,hsb,Cm,Af]
   simp only[execOp,ho,q3,h3,Ae,Instr.mapUpdate,hu,ε,jT w b es clk g2];rw[show(10000:Nat)=9999+1 from rfl,hck];simp only[ε,Instr.findKey,Ae,As W w,J,Af,Be,hkey,hkt,Z]
  ·rw[p6 cs,Array.toList_modify];have hmod:es.toList.modify j (fun e=>{ e with key:=.string ⟨⟨k⟩⟩,val:=a.eval z })=es.toList.take j++{ e with key:=.string ⟨⟨k⟩⟩,val:=a.eval z }::es.toList.drop (j+1):=by
    apply Bt;intro i;rw[List.getElem?_modify];have p5':j<es.size:=by simpa using p5
    by_cases c1:i<j
    ·rw[A9 (by simp;omega),Av,ξ c1];simp[show ¬j=i by omega]
    ·rw[A3 (by simp;omega)];simp only[Au];by_cases c2:j=i
     ·subst c2;rw[p2];have hm:min j es.toList.length=j:=by simp;omega
      rw[hm];simp
     ·rw[B5 (le_of_lt p5),show i-j=(i-j-1)+1 by omega,Bj,Ap];simp[c2,show j+1+(i-j-1)=i by omega]
   rw[hmod];have:=dU (kZ j g3) (dU (Y { e with key:=.string ⟨⟨k⟩⟩,val:=a.eval z } rfl rfl) (l7 (j+1) g3));exact this
 | none=>
  obtain⟨J,p2⟩:=I.2 hq;refine⟨_,.map (es.push { key:=.string ⟨⟨k⟩⟩,val:=a.eval z,born:=clk }) (clk+1),b,(0,0),?_,g1,hW _,⟨b,_,clk+1,aK _ _ _,(hW _).new,.inr (.inl ?_),.inl g4⟩,hSc _,hSm⟩
  ·simp only[execOp,ho,q3,h3,Ae,Instr.mapUpdate,hu,ε,jT w b es clk g2];rw[show(10000:Nat)=9999+1 from rfl,hck];simp only[ε,Instr.findKey,Ae,As W w,J,Af,Z]
  ·rw[p2 cs,Array.toList_push];exact dU g3 (Y _ rfl rfl)
theorem aTi {P:Program}{T:TT}{o:Oper}{t kt et:TypeId}{i ki:TI}{x y z:Operand}{agg:Bool}{ents:List (List C)}{k:List UInt8}{cs:List C}{S:Sto}{a:Act}{w:World}{b:Nat}{es:Array MapEntry}{clk:Nat}(hT:Tok P T) (ho:o.op=.insert t x y z) (hi:T[t]?=some (some i)) (hk:i.k=.mp kt et)
  (hki:T[kt]?=some (some ki)) (hkk:ki.k=.str) (q3:a.eval x=.map (some b)) (h3:a.eval y=.string ⟨⟨k⟩⟩) (g2:w.heap[b]?=some (.map es clk)) (g3:bH S agg ents es.toList) (hms:kL ents)
  (aa:dL S cs (a.eval z).cells.toList) (I:a.eval z=(if agg then .agg ⟨(a.eval z).cells.toList⟩ else(a.eval z).cells.toList.headD undef)∧(agg=false→(a.eval z).cells.toList.length=1)):
  ∃Y ab,(execOp a.eval o).run P w=.ok .skip { w with heap:=w.heap.setIfInBounds b (.map Y ab) }∧bH S agg (aHd k cs ents) Y.toList:=by
 have J:=(hT.get hki).str hkk;have hu:=As ((hT.get hi).map hk) w;have q:=kF (k:=k) ents es.toList 0 g3 hms;have Z:=fun b=>lY (P:=P) J b 9999 ⟨⟨k⟩⟩ w
 have N:∀e:MapEntry,e.key=.string ⟨⟨k⟩⟩→e.val=a.eval z→bH S agg [.str k::cs] [e]:=by
  intro e he1 he2;simp only[bH];refine⟨e,[],rfl,⟨(a.eval z).cells.toList,?_,by rw[he2];exact I.1,I.2⟩,rfl⟩;simp only[dL];exact⟨e.key,_,rfl,by simp[Rep,he1],aa⟩
 have O:∀(ob:Obj),(setObj b ob).run P w=.ok () { w with heap:=w.heap.setIfInBounds b ob }:=by
  intro ob;exact MapKept.run_setObj_map _ g2
 cases hq:jC k ents with
 | some vs=>
  obtain⟨j,e,p1,W,_,p4,p5,p6⟩:=q.1 vs hq;refine⟨es.modify j fun e=>{ e with key:=.string ⟨⟨k⟩⟩,val:=a.eval z },clk,?_,?_⟩
  ·have hkey:((es[j]?).map (·.key)).getD (.string ⟨⟨k⟩⟩)=.string ⟨⟨k⟩⟩:=by
    rw[←Array.getElem?_toList,W];simpa using p4
   have hkt:(Instr.keyThatStays (.string ⟨⟨k⟩⟩) (.string ⟨⟨k⟩⟩)).run P w=.ok (.string ⟨⟨k⟩⟩) w:=by
    have hsb:Instr.sameBits 10000 (.string ⟨⟨k⟩⟩) (.string ⟨⟨k⟩⟩)=true:=by simp[Instr.sameBits,aGg]
    simp only[Instr.keyThatStays,hsb,Cm,Af]
   simp only[execOp,ho,q3,h3,Ae,Instr.mapUpdate,hu,ε,jT w b es clk g2];rw[show(10000:Nat)=9999+1 from rfl,Z];simp only[ε,Instr.findKey,Ae,As J w,p1,Af,Be,hkey,hkt,O]
  ·rw[p6 cs,Array.toList_modify];have hmod:es.toList.modify j (fun e=>{ e with key:=.string ⟨⟨k⟩⟩,val:=a.eval z })=es.toList.take j++{ e with key:=.string ⟨⟨k⟩⟩,val:=a.eval z }::es.toList.drop (j+1):=by
    apply Bt;intro i;rw[List.getElem?_modify];have p5':j<es.size:=by simpa using p5
    by_cases c1:i<j
    ·rw[A9 (by simp;omega),Av,ξ c1];simp[show ¬j=i by omega]
    ·rw[A3 (by simp;omega)];simp only[Au];by_cases c2:j=i
     ·subst c2;rw[W];have hm:min j es.toList.length=j:=by simp;omega
      rw[hm];simp
     ·rw[B5 (le_of_lt p5),show i-j=(i-j-1)+1 by omega,Bj,Ap];simp[c2,show j+1+(i-j-1)=i by omega]
   rw[hmod];have:=dU (kZ j g3) (dU (N { e with key:=.string ⟨⟨k⟩⟩,val:=a.eval z } rfl rfl) (l7 (j+1) g3));exact this
 | none=>
  obtain⟨p1,W⟩:=q.2 hq;refine⟨es.push { key:=.string ⟨⟨k⟩⟩,val:=a.eval z,born:=clk },clk+1,?_,?_⟩
  ·simp only[execOp,ho,q3,h3,Ae,Instr.mapUpdate,hu,ε,jT w b es clk g2];rw[show(10000:Nat)=9999+1 from rfl,Z];simp only[ε,Instr.findKey,Ae,As J w,p1,Af,O]
  ·rw[W cs,Array.toList_push];exact dU g3 (N _ rfl rfl)
theorem aO0 {t Z et:TypeId}{i ki:TI}{x y z:Operand}{id:Nat}{agg:Bool}{ents:List (List C)}{k:List UInt8}{v:V}{rs:List R}{cs:List C}{ids:List Nat}(hT:Tok P T) (ho:o.op=.insert t x y z) (hd:o.dst=none) (hi:T[t]?=some (some i)) (hk:i.k=.mp Z et)
  (hki:T[Z]?=some (some ki)) (hkk:ki.k=.str) (hx:opv st x=some (.one (.mr id))) (hh:st.h id=some (.map agg ents)) (I:kL ents) (hy:opv st y=some (Go.AM.T k))
  (hz:opv st z=some v) (q:(match v with | .one _=>!agg | .pa _=>agg | .ma _=>agg | _=>false)=true) (hc:iM v=some rs) (hp:PureL st.h ids rs cs):
  Step P n o st ⟨opr x++opr y++opr z,id::ids⟩ ⟨none,[(id,some (.map agg (aHd k cs ents)))]⟩:=by
 refine Step.turn hd hh (by simp) (by simp[AObj.succ]) fun st' ha hh' G S μ a w hs=>?_
 have h1:=aQ hs hx fun t h=>ha.1 t (by simp[h])
 have h3:=lD (aQ hs hy fun t h=>ha.1 t (by simp[h]));have hv:=aQ hs hz fun t h=>ha.1 t (by simp[h])
 simp only[b6,bF] at h1;obtain⟨agg',ents',b,c,q1,q2,q3⟩:=h1;obtain⟨b',es,clk,g1,g2,g3,g4⟩:=hs.inv.obj id _ hh';rw[g1] at q2;cases q2;have g3:=g3.rep I;have N:=hp.rel (fun i h=>ha.2 i (by simp[h])) hs.inv.obj (eM hv hc);have O:a.eval z=(if agg then .agg ⟨(a.eval z).cells.toList⟩ else(a.eval z).cells.toList.headD undef)∧(agg=false→(a.eval z).cells.toList.length=1):=by
  cases v with
  | one r=>
   simp at q;subst q;simp only[b6] at hv;rw[hv.one.1];simp
  | pa l=>
   simp at q;subst q;simp only[b6] at hv;obtain⟨vs,hv,_⟩:=hv;rw[hv];simp[Value.cells]
  | ma l=>
   simp at q;subst q;simp only[b6] at hv;obtain⟨vs,hv,_⟩:=hv;rw[hv];simp[Value.cells]
  | tup l=>simp at q
 obtain⟨es',J,W,Y⟩:=aTi (P:=P) hT ho hi hk hki hkk q3 h3 g2 g3 I N O;have hW:∀ob,WChg w { w with heap:=w.heap.setIfInBounds b ob } b ob:=fun ob=>by
  have hlt:=eD g2;refine⟨rfl,rfl,rfl,by simp,by simp[hlt],fun k _ hne=>?_⟩;show(w.heap.setIfInBounds b ob)[k]?=_;rw[Bu,φ (fun e=>hne e.symm)]
 have hSc:∀(ob:Obj) (o:Nat) (v:Value),S.cell b o=some v→∃vs t fr,ob=.cells vs t fr∧vs[o]?=some v:=fun ob o v e=>by
  obtain⟨vs,t,fr,p1,_⟩:=hs.inv.holds.1 b o v e;rw[g2] at p1;cases p1
 have g4:=g4.kn0 I;have hSm:∀m,S.mapo b=some m→w.heap.size≤b:=fun m e=>by rw[g4] at e;cases e
 exact⟨_,.map es' J,b,(0,0),W,g1,hW _,⟨b,_,J,aK _ _ _,(hW _).new,.inr (.inl Y),.inl g4⟩,hSc _,hSm⟩
end
section
variable {P:Program}{n:Nat}{o:Oper}{st:St}{d:Nat}{T:TT}
theorem oO {α:Type}(f:Nat→Option α) (k:Nat) (x y:Option α):upd (upd f k x) k y=upd f k y:=by
 funext i;simp only[upd];split<;>rfl
theorem aJ0 {t e:TypeId}{i q:TI}{x y:Operand}{rows:List (List C)}{vy:V}{ids:List Nat}(id:Nat) (hT:Tok P T) (ho:o.op=.call { callee:=.builtin .append,args:= #[x,y],argTypes:= #[t,t] }) (hd:o.dst=some d) (hdn:d<n)
  (hi:T[t]?=some (some i)) (hk:i.k=.sl e) (hei:T[e]?=some (some q)) (hes:Nat.ble 1 q.size=true) (heb:Nat.ble 1 q.bytes=true)
  (hx:opv st x=some (.one (.c .nl))) (hid:st.h id=none) (hy:opv st y=some vy) (I:Src st q.size ids vy rows)
  (N:rows.length*q.bytes≤140737488355328):
  Step P n o st ⟨opr x++opr y,id::ids⟩ ⟨some (d,some (.one (.hs id 0 rows.length rows.length))),[(id,some (.arr e q.size rows 0))]⟩:=by
 intro st' ha G S μ a w K Q hs hk';have W:st'.h id=none:=by rw[ha.2 id (by simp),hid]
 obtain⟨hi',Y⟩:=hs.inv.empty e q.size W;have O:Sim G n S (upd μ id none) ⟨st'.e,upd st'.h id (some (.arr e q.size [] 0)),st'.d⟩ a w:=⟨hi',hs.size,hs.defers.evolve Y,fun t v e=>b6.evolve Y v _ (hs.env t v e)⟩
 have J:=aQ hs hx fun t ht=>ha.1 t (by simp[ht])
 have hvy:=aQ hs hy fun t ht=>ha.1 t (by simp[ht])
 simp only[b6,bF,Rep] at J;have Z:b6 S (upd μ id none) (upd st'.h id (some (.arr e q.size [] 0))) (.one (.hs id 0 0 0)) (a.eval x):=by
  simp only[b6,bF];exact⟨⟨_,_,_,J⟩,.inr ⟨e,q.size,[],0,aK _ _ _,le_refl _,fun _=>⟨le_refl _,.inl ⟨aK _ _ _,rfl,J⟩⟩⟩⟩
 have hne:∀j∈ids,j≠id:=by
  intro j hj e;subst e;cases I with
  | hs h1 _ _=>simp at hj;subst hj;rw[hid] at h1;cases h1
  | all h1 _=>simp at hj;subst hj;rw[hid] at h1;cases h1
  | sl=>simp at hj
  | nl=>simp at hj
  | sn=>simp at hj
 have:=aA9 (fz:=0) (elems:=[]) (id:=id) hT ho hi hk hei hes heb rfl (by simpa using N) (aK _ _ _) O Z (b6.evolve Y _ _ hvy) I fun j hj=>by
  show upd st'.h id (some (.arr e q.size [] 0)) j=_;rw[bE _ _ _ (hne j hj)];exact ha.2 j (by simp[hj])
 refine aLo hd hdn (by simp) _ (aK _ _ _) O (fun S' μ' a' w' h=>hk' S' μ' a' w' ?_) this;have e1:Eff.apply ⟨some (d,some (.one (.hs id 0 (([]:List (List C)).length+rows.length) (([]:List (List C)).length+rows.length)))),[(id,some (.arr e q.size ([]++rows) (if 0=0 then 0 else 1)))]⟩ ⟨st'.e,upd st'.h id (some (.arr e q.size [] 0)),st'.d⟩
   =Eff.apply ⟨some (d,some (.one (.hs id 0 rows.length rows.length))),[(id,some (.arr e q.size rows 0))]⟩ st':=by
  unfold Eff.apply;rw[dH,dH,oO];simp
 rw[e1] at h;exact h
theorem Sub.conv {kf ids:List Nat}{t:Nat}{v v':V}(h:st.e t=some v) (hc:Conv st.h ids v v'):Sub kf ⟨upd st.e t (some v'),st.h,st.d⟩ st:=by
 intro G n S μ a w _ hs;refine⟨S,μ,⟨hs.inv,hs.size,hs.defers,fun s u e=>?_⟩⟩;by_cases q:s=t
 ·subst q;have:some v'=some u:=by rw[←e];exact(aK _ _ _).symm
  cases this;exact hc.rel (fun _ _=>rfl) hs.inv.obj (hs.env s _ h)
 ·exact hs.env s u (by rw[←e];exact(bE _ _ _ q).symm)
theorem aOt {t e:TypeId}{i q:TI}{len:Nat}{parts:Array (Nat×Operand)}{ids:List Nat}{rows:List (List C)}(id:Nat) (hT:Tok P T) (ho:o.op=.buildSlice t len parts) (hd:o.dst=some d) (hdn:d<n) (hi:T[t]?=some (some i)) (hk:i.k=.sl e) (hei:T[e]?=some (some q)) (I:RowsV st q.size 0 ids parts.toList rows) (hlen:Nat.beq len parts.size=true) (O:Nat.ble (len*q.size) 16777216=true) (Z:Nat.ble len 16777216=true) (hid:st.h id=none):
  Step P n o st ⟨gN parts.toList,id::ids⟩ ⟨some (d,some (.one (.c (.sl q.size rows)))),[(id,some (.arr e q.size rows 2))]⟩:=by
 intro st' ha G S μ a w K Q hs hk';refine aJo id hT ho hd hdn hi hk hei I hlen O Z hid st' ha G S μ a w K Q hs fun S1 μ1 a1 w1 h1=>?_
 have J:len=rows.length:=by rw[I.lengths];simpa using Ac hlen
 have hh:(Eff.apply ⟨some (d,some (.one (.hs id 0 len len))),[(id,some (.arr e q.size rows 0))]⟩ st').h id=some (.arr e q.size rows 0):=by
  show updL st'.h [(id,some (.arr e q.size rows 0))] id=_;rw[dH,aK]
 obtain⟨S2,Y,h2⟩:=h1.freeze hh;refine hk' S2 Y a1 w1 ⟨?_,h2.size,?_,fun s u e1=>?_⟩
 ·have:=h2.inv;show Inv G S2 Y (updL st'.h [(id,some (.arr e q.size rows 2))]) w1;rw[dH];have N:upd (Eff.apply ⟨some (d,some (.one (.hs id 0 len len))),[(id,some (.arr e q.size rows 0))]⟩ st').h id (some (.arr e q.size rows 2))=upd st'.h id (some (.arr e q.size rows 2)):=by
   show upd (updL st'.h [(id,some (.arr e q.size rows 0))]) id _=_;rw[dH,oO]
  rw[←N];exact this
 ·have:=h2.defers;show Marks _ Y (updL st'.h [(id,some (.arr e q.size rows 2))]) st'.d a1.defers;rw[dH];have N:upd (Eff.apply ⟨some (d,some (.one (.hs id 0 len len))),[(id,some (.arr e q.size rows 0))]⟩ st').h id (some (.arr e q.size rows 2))=upd st'.h id (some (.arr e q.size rows 2)):=by
   show upd (updL st'.h [(id,some (.arr e q.size rows 0))]) id _=_;rw[dH,oO]
  rw[←N];exact this
 ·have N:upd (Eff.apply ⟨some (d,some (.one (.hs id 0 len len))),[(id,some (.arr e q.size rows 0))]⟩ st').h id (some (.arr e q.size rows 2))=updL st'.h [(id,some (.arr e q.size rows 2))]:=by
   show upd (updL st'.h [(id,some (.arr e q.size rows 0))]) id _=_;rw[dH,dH,oO]
  show b6 S2 Y (updL st'.h [(id,some (.arr e q.size rows 2))]) u (a1.tmps.getD s undef);by_cases W:s=d
  ·subst W;have hu:u=.one (.c (.sl q.size rows)):=by
    have:upd st'.e s (some (.one (.c (.sl q.size rows)))) s=some u:=e1;rw[aK] at this;cases this;rfl
   subst hu;have hv:=h2.env s (.one (.hs id 0 len len)) (aK _ _ _);have hO:=h2.inv.obj id _ (aK _ _ _);have:=(Conv.one (h:=upd (Eff.apply ⟨some (s,some (.one (.hs id 0 len len))),[(id,some (.arr e q.size rows 0))]⟩ st').h id (some (.arr e q.size rows 2))) (PureL.hs (e:=rows) (aK _ _ _) J (by rw[J];simp) .nil)).rel (fun _ _=>rfl) h2.inv.obj hv;rw[←N];exact this
  ·have:upd st'.e d (some (.one (.c (.sl q.size rows)))) s=some u:=e1;rw[bE _ _ _ W] at this;have hv:=h2.env s u (by show upd st'.e d _ s=some u;rw[bE _ _ _ W];exact this);rw[←N];exact hv
theorem aXj {J ty:TypeId}{x y:Operand}{a b:Nat}(N:o.op=.binOp .add J x y ty) (hd:o.dst=some d) (q:d<n) (hx:opv st x=some (I .i64 (a:Nat))) (hy:opv st y=some (I .i64 (b:Nat))) (O:a+b≤9223372036854775807):
  Step P n o st ⟨opr x++opr y,[]⟩ ⟨some (d,some (I .i64 ((a+b:Nat):Int))),[]⟩:=aO2 N hd q hx hy (by rw[←Int.natCast_add];exact Cc _ (by omega))
theorem aXd {J ty:TypeId}{x y:Operand}{a b:Nat}(N:o.op=.binOp .mul J x y ty) (hd:o.dst=some d) (q:d<n) (hx:opv st x=some (I .i64 (a:Nat))) (hy:opv st y=some (I .i64 (b:Nat))) (O:a*b≤9223372036854775807):
  Step P n o st ⟨opr x++opr y,[]⟩ ⟨some (d,some (I .i64 ((a*b:Nat):Int))),[]⟩:=aOw N hd q hx hy (by rw[←Int.natCast_mul];exact Cc _ (by omega))
theorem aW0 {J ty:TypeId}{x y:Operand}{a b:Nat}(N:o.op=.binOp .sub J x y ty) (hd:o.dst=some d) (q:d<n) (hx:opv st x=some (I .i64 (a:Nat))) (hy:opv st y=some (I .i64 (b:Nat))) (O:b≤a∧a≤9223372036854775807):
  Step P n o st ⟨opr x++opr y,[]⟩ ⟨some (d,some (I .i64 ((a-b:Nat):Int))),[]⟩:=aOr N hd q hx hy (by rw[show(a:Int)-b=((a-b:Nat):Int) by omega];exact Cc _ (by omega))
theorem aW9 {J ty:TypeId}{x y:Operand}{a b:Nat}(N:o.op=.binOp .quo J x y ty) (hd:o.dst=some d) (q:d<n) (hx:opv st x=some (I .i64 (a:Nat))) (hy:opv st y=some (I .i64 (b:Nat))) (O:a≤9223372036854775807∧1≤b):
  Step P n o st ⟨opr x++opr y,[]⟩ ⟨some (d,some (I .i64 ((a/b:Nat):Int))),[]⟩:=by
 have:=aRe (P:=P) (n:=n) N hd q hx hy (by omega);rwa [←Int.natCast_ediv] at this
theorem aW7 {J ty:TypeId}{x y:Operand}{a b:Nat}(N:o.op=.binOp .rem J x y ty) (hd:o.dst=some d) (q:d<n) (hx:opv st x=some (I .i64 (a:Nat))) (hy:opv st y=some (I .i64 (b:Nat))) (O:1≤b):
  Step P n o st ⟨opr x++opr y,[]⟩ ⟨some (d,some (I .i64 ((a%b:Nat):Int))),[]⟩:=by
 have:=aRd (P:=P) (n:=n) N hd q hx hy (by omega);rwa [←Int.natCast_emod] at this
theorem a0a {t1 t2:TypeId}{x y:Operand}{k:IntKind}{a b r:Int}(J:o.op=.call { callee:=.builtin .max,args:= #[x,y],argTypes:= #[t1,t2] }) (hd:o.dst=some d) (q:d<n) (hx:opv st x=some (I k a)) (hy:opv st y=some (I k b)) (N:(if b>a then b else a)=r):
  Step P n o st ⟨opr x++opr y,[]⟩ ⟨some (d,some (I k r)),[]⟩:=by
 refine Step.value hd q fun st' ha G S μ ac w hs=>?_
 have h1:=fF (aQ hs hx fun t h=>ha.1 t (by simp[h]));have h2:=fF (aQ hs hy fun t h=>ha.1 t (by simp[h]));refine⟨.int k r,?_,by simp[b6,bF,Rep]⟩;simp only[execOp,J,resolve,map_toArray,Am,Bs,h1,h2,Ae,Af,ε,invoke,builtin,Builtin.max_,List.foldlM_cons,List.foldlM_nil,Builtin.max2,N]
end
inductive Fz where
 | map (agg:Bool) (ents:List (List C))
 | var (l:List C)
 | ra (n es:Nat) (l:List R)
mutual
def R.fz (id:Nat) (z:Fz):R→R
 | .mr j=>match z with
  | .map agg ents=>if Nat.beq j id then .c (.mp agg ents) else .mr j
  | _=>.mr j
 | .vp j off=>match z with
  | .var l=>if Nat.beq j id then .c (.pt (l.drop off)) else .vp j off
  | _=>.vp j off
 | .ra j off len sz=>match z with
  | .ra n es l=>if Nat.beq j id then(if Nat.beq off 0&&Nat.beq len n&&Nat.beq sz n then .ras n es l else .c .any) else .ra j off len sz
  | _=>.ra j off len sz
 | .rp j i fo sz=>match z with
  | .ra _ _ _=>if Nat.beq j id then .c .any else .rp j i fo sz
  | _=>.rp j i fo sz
 | .ras n es l=>.ras n es (R.fzL id z l)
 | .pas l=>.pas (R.fzL id z l)
 | .clo f caps=>.clo f (R.fzL id z caps)
 | .mth f x=>.mth f (R.fz id z x)
 | r=>r
def R.fzL (id:Nat) (z:Fz):List R→List R
 | []=>[]
 | r::rs=>R.fz id z r::R.fzL id z rs
end
mutual
def V.fz (id:Nat) (z:Fz):V→V
 | .one r=>.one (r.fz id z)
 | .pa l=>.pa l
 | .ma l=>.ma (R.fzL id z l)
 | .tup l=>.tup (V.fzL id z l)
def V.fzL (id:Nat) (z:Fz):List V→List V
 | []=>[]
 | r::rs=>V.fz id z r::V.fzL id z rs
end
def fzE (id:Nat) (z:Fz):List (Nat×V)→List (Nat×V)
 | []=>[]
 | (t,v)::l=>(t,v.fz id z)::fzE id z l
def fzR (id:Nat) (z:Fz):List (List R)→List (List R)
 | []=>[]
 | r::l=>R.fzL id z r::fzR id z l
theorem aLy {id:Nat}{z:Fz}:∀{l:List (Nat×V)}{t:Nat}{v:V},(t,v)∈fzE id z l→∃v0,(t,v0)∈l∧v=v0.fz id z
 | (k,u)::l,t,v,h=>by
  simp only[fzE,Ao] at h;rcases h with h | h
  ·cases h;exact⟨u,by simp,rfl⟩
  ·obtain⟨v0,h1,h2⟩:=aLy h;exact⟨v0,by simp[h1],h2⟩
theorem R.fzL_length {id:Nat}{z:Fz}:∀{l:List R},(R.fzL id z l).length=l.length
 | []=>rfl
 | _::l=>by simp[R.fzL,R.fzL_length (l:=l)]
theorem R.fzL_append {id:Nat}{z:Fz}:∀{l m:List R},R.fzL id z (l++m)=R.fzL id z l++R.fzL id z m
 | [],_=>rfl
 | _::l,m=>by simp[R.fzL,R.fzL_append (l:=l)]
theorem fT {id:Nat}{z:Fz}:∀{l:List (List R)},(fzR id z l).length=l.length
 | []=>rfl
 | _::l=>by simp[fzR,fT (l:=l)]
theorem aFt {id:Nat}{z:Fz}:∀{l:List (List R)},(fzR id z l).flatten=R.fzL id z l.flatten
 | []=>rfl
 | _::l=>by simp[fzR,aFt (l:=l),R.fzL_append]
theorem nD {id:Nat}{z:Fz}{es:Nat}:∀{l:List (List R)},(∀r∈l,r.length=es)→∀r∈fzR id z l,r.length=es
 | [],_,r,h=>by simp[fzR] at h
 | x::l,k,r,h=>by
  simp only[fzR,Ao] at h;rcases h with rfl | h
  ·rw[R.fzL_length];exact k _ (by simp)
  ·exact nD (l:=l) (fun r q=>k r (by simp[q])) r h
def AObj.fz (id:Nat) (z:Fz):AObj→AObj
 | .var t cells=>.var t (R.fzL id z cells)
 | .lp st j i e=>.lp st j i (fzE id z e)
 | .rarr te es l=>.rarr te es (fzR id z l)
 | .tok r k=>.tok (r.fz id z) k
 | o=>o
def Fz.of:Fz→AObj→Prop
 | .map agg ents,o=>o=.map agg ents
 | .var l,o=>∃t,o=.var t (l.map R.c)
 | .ra n es l,o=>∃te elems,o=.rarr te es elems∧l=elems.flatten∧n=elems.length
def hfz (id:Nat) (z:Fz) (H:cR):cR:=fun j=>if Nat.beq j id then none else(H j).map (AObj.fz id z)
section
variable {S S':Sto}{μ:Mu}{H:cR}{id:Nat}{z:Fz}
theorem jX {j:Nat}(h:j≠id):hfz id z H j=(H j).map (AObj.fz id z):=by
 have:Nat.beq j id=false:=by
  cases hb:Nat.beq j id with
  | false=>rfl
  | true=>exact absurd (Ac hb) h
 simp[hfz,this]
theorem aRy:hfz id z H id=none:=by simp[hfz]
theorem aCn {j te es fz:Nat}{l:List (List C)}{o:AObj}(hid:H id=some o) (q:z.of o) (h:H j=some (.arr te es l fz)):hfz id z H j=some (.arr te es l fz):=by
 have I:j≠id:=by
  rintro rfl;rw[h] at hid;cases hid;cases z with
  | map agg ents=>cases q
  | var l=>obtain⟨t,h⟩:=q;cases h
  | ra n es l=>obtain⟨_,_,h,_⟩:=q;cases h
 rw[jX I,h];rfl
theorem xF {j:Nat}{o:AObj}(hid:H id=some o) (q:z.of o) (h:H j=some .dead):hfz id z H j=some .dead:=by
 have I:j≠id:=by
  rintro rfl;rw[h] at hid;cases hid;cases z with
  | map agg ents=>cases q
  | var l=>obtain⟨t,h⟩:=q;cases h
  | ra n es l=>obtain⟨_,_,h,_⟩:=q;cases h
 rw[jX I,h];rfl
def aV6 (S':Sto) (μ:Mu) (H:cR) (id:Nat):Fz→Prop
 | .map agg ents=>∀b c,μ id=some (b,c)→∃es clk,S'.mapo b=some (.all es clk)∧(bH S' agg ents es.toList∨aN6 S' agg ents es)
 | .var l=>∀b c,μ id=some (b,c)→∃vs,dL S' l vs∧fM S' b 0 vs
 | .ra n es l=>n*es=l.length∧∀b base cap,μ id=some (b,base,cap)→n≤cap∧cap≤maxLen∧∃vs,aW S' μ (hfz id (.ra n es l) H) l vs∧fM S' b base vs
mutual
theorem bF.fz (hle:S.le S') {o:AObj}(hid:H id=some o) (q:z.of o):∀(r:R) (v:Value),(id∈r.refs→aV6 S' μ H id z)→bF S μ H r v→bF S' μ (hfz id z H) (r.fz id z) v
 | .c x,v,_,k=>by simp only[bF,R.fz] at k ⊢;exact Rep.mono hle x v k
 | .hs j off len sz,v,_,k=>by
  simp only[bF,R.fz] at k ⊢;obtain⟨I,k | ⟨te,es,elems,fz,h1,h2⟩⟩:=k
  ·exact⟨I,.inl (xF hid q k)⟩
  ·exact⟨I,.inr ⟨te,es,elems,fz,aCn hid q h1,h2⟩⟩
 | .tl j off len sz,v,_,k=>by
  simp only[bF,R.fz] at k ⊢;obtain⟨I,k | ⟨te,es,elems,fz,h1,h2⟩⟩:=k
  ·exact⟨I,.inl (xF hid q k)⟩
  ·exact⟨I,.inr ⟨te,es,elems,fz,aCn hid q h1,h2⟩⟩
 | .ep j i fo sz,v,_,k=>by
  simp only[bF,R.fz] at k ⊢;obtain⟨I,k | ⟨te,es,elems,fz,h1,h2⟩⟩:=k
  ·exact⟨I,.inl (xF hid q k)⟩
  ·exact⟨I,.inr ⟨te,es,elems,fz,aCn hid q h1,h2⟩⟩
 | .vp j off,v,hk,k=>by
  simp only[bF] at k;obtain⟨t,cells,b,c,h1,h2,h3⟩:=k;by_cases hj:j=id
  ·subst hj;rw[h1] at hid;cases hid;cases z with
   | map agg ents=>cases q
   | ra n es l=>obtain⟨_,_,h,_⟩:=q;cases h
   | var l=>
    simp only[R.fz,B6,Cm,bF,Rep];obtain⟨vs,g1,g2⟩:=hk (by simp[R.refs]) b c h2;refine⟨b,off,h3,vs.drop off,g1.drop off,fun i u hu=>?_⟩;rw[Ap] at hu;have:=g2 _ u hu;rwa [Be] at this
  ·have hb:Nat.beq j id=false:=by
    cases hb:Nat.beq j id with
    | false=>rfl
    | true=>exact absurd (Ac hb) hj
   have e:(R.vp j off).fz id z=.vp j off:=by cases z<;>simp[R.fz,hb]
   rw[e];simp only[bF];exact⟨t,_,b,c,by rw[jX hj,h1];rfl,h2,h3⟩
 | .mr j,v,hk,k=>by
  simp only[bF] at k;obtain⟨agg,ents,b,c,h1,h2,h3⟩:=k;by_cases hj:j=id
  ·subst hj;rw[h1] at hid;cases hid;cases z with
   | var l=>obtain⟨t,h⟩:=q;cases h
   | ra n es l=>obtain⟨_,_,h,_⟩:=q;cases h
   | map agg' ents'=>
    cases q;simp only[R.fz,B6,Cm,bF,Rep];obtain⟨es,clk,g1,g2⟩:=hk (by simp[R.refs]) b c h2;exact⟨b,es,clk,h3,g1,g2⟩
  ·have hb:Nat.beq j id=false:=by
    cases hb:Nat.beq j id with
    | false=>rfl
    | true=>exact absurd (Ac hb) hj
   have e:(R.mr j).fz id z=.mr j:=by cases z<;>simp[R.fz,hb]
   rw[e];simp only[bF];exact⟨agg,ents,b,c,by rw[jX hj,h1];rfl,h2,h3⟩
 | .clo f caps,v,hk,k=>by
  simp only[bF,R.fz] at k ⊢;obtain⟨vs,h1,h2⟩:=k;exact⟨vs,h1,aW.fz hle hid q caps vs (by simpa only[R.refs] using hk) h2⟩
 | .ras n es l,v,hk,k=>by
  simp only[bF,R.fz] at k ⊢;obtain⟨a,cap,h1,h2,h3,h4,h5,h6,b,o,h7,vs,O,W⟩:=k;exact⟨a,cap,h1,by rw[R.fzL_length];exact h2,h3,h4,h5,h6,b,o,h7,vs,aW.fz hle hid q l vs (by simpa only[R.refs] using hk) O,W.mono hle⟩
 | .pas l,v,hk,k=>by
  simp only[bF,R.fz] at k ⊢;obtain⟨b,o,h1,vs,O,W⟩:=k;exact⟨b,o,h1,vs,aW.fz hle hid q l vs (by simpa only[R.refs] using hk) O,W.mono hle⟩
 | .mth f recv,v,hk,k=>by
  simp only[bF,R.fz] at k ⊢;obtain⟨u,h1,h2⟩:=k;exact⟨u,h1,bF.fz hle hid q recv u (by simpa only[R.refs] using hk) h2⟩
 | .rp j i fo sz,v,hk,k=>by
  simp only[bF] at k;obtain⟨I,k⟩:=k;by_cases hj:j=id
  ·subst hj;have key:bF S' μ (hfz j z H) (.c .any) v:=by
    obtain⟨a,rfl⟩:=I;simp only[bF,Rep];exact⟨rfl,rfl⟩
   rcases k with k | ⟨te,es,elems,h1,h2,h3⟩
   ·rw[k] at hid;cases hid;cases z with
    | map agg ents=>cases q
    | var l=>obtain⟨t,h⟩:=q;cases h
    | ra n es l=>obtain⟨_,_,h,_⟩:=q;cases h
   ·rw[h1] at hid;cases hid;cases z with
    | map agg ents=>cases q
    | var l=>obtain⟨t,h⟩:=q;cases h
    | ra n es l=>simpa only[R.fz,B6,Cm] using key
  ·have hb:Nat.beq j id=false:=by
    cases hb:Nat.beq j id with
    | false=>rfl
    | true=>exact absurd (Ac hb) hj
   have e:(R.rp j i fo sz).fz id z=.rp j i fo sz:=by cases z<;>simp[R.fz,hb]
   rw[e];simp only[bF];rcases k with k | ⟨te,es,elems,h1,h2,h3⟩
   ·exact⟨I,.inl (by rw[jX hj,k];rfl)⟩
   ·exact⟨I,.inr ⟨te,es,fzR id z elems,by rw[jX hj,h1];rfl,by rw[fT];exact h2,fun e=>h3 (by rw[fT] at e;exact e)⟩⟩
 | .yl j,v,_,k=>by
  simp only[bF,R.fz] at k ⊢;obtain⟨st,jp,i,e,b,c,h1,h2,h3⟩:=k;have hne:j≠id:=by
   rintro rfl;rw[h1] at hid;cases hid;cases z with
   | map agg ents=>cases q
   | var l=>obtain⟨t,h⟩:=q;cases h
   | ra n es l=>obtain⟨_,_,h,_⟩:=q;cases h
  exact⟨st,jp,i,_,b,c,by rw[jX hne,h1];rfl,h2,h3⟩
 | .ra j off len sz,v,hk,k=>by
  simp only[bF] at k;obtain⟨I,k⟩:=k;by_cases hj:j=id
  ·subst hj;have key:bF S' μ (hfz j z H) (.c .any) v:=by
    obtain⟨a,l,c,rfl⟩:=I;simp only[bF,Rep];exact⟨rfl,rfl⟩
   rcases k with k | ⟨te,es,elems,h1,h2,h3⟩
   ·rw[k] at hid;cases hid;cases z with
    | map agg ents=>cases q
    | var l=>obtain⟨t,h⟩:=q;cases h
    | ra n es l=>obtain⟨_,_,h,_⟩:=q;cases h
   ·rw[h1] at hid;cases hid;cases z with
    | map agg ents=>cases q
    | var l=>obtain⟨t,h⟩:=q;cases h
    | ra n es' l=>
     obtain⟨te',elems',Y,J,N⟩:=q;cases Y;simp only[R.fz,B6,Cm];split
     ·rename_i hc;simp only[Ai] at hc;obtain⟨⟨Z,c2⟩,c3⟩:=hc;have Z:=Ac Z;have c2:=Ac c2;have c3:=Ac c3;subst Z;subst c2;subst c3;obtain⟨f1,f2⟩:=hk (by simp[R.refs]);obtain⟨_,⟨m1,m2,m3⟩ | ⟨b,base,cap,m1,m2⟩⟩:=h3 N
      ·subst m2;simp only[length_nil] at N;subst N;subst J;simp only[bF];exact⟨none,0,m3,by simp,le_refl _,Aj _,(fun _=>⟨by first | rfl | simp,rfl⟩),(by simp),0,0,(by simp),[],(by simp[aW]),(by intro i v e;simp at e)⟩
      ·obtain⟨f3,f4,vs,f5,f6⟩:=f2 b base cap m1;simp only[bF];exact⟨some ⟨b,base,none⟩,cap,by rw[m2];simp,f1,f3,f4,by simp,(fun ad h=>by cases h;rfl),b,base,(fun ad h=>by cases h;exact⟨rfl,rfl⟩),vs,f5,f6⟩
     ·exact key
  ·have hb:Nat.beq j id=false:=by
    cases hb:Nat.beq j id with
    | false=>rfl
    | true=>exact absurd (Ac hb) hj
   have e:(R.ra j off len sz).fz id z=.ra j off len sz:=by cases z<;>simp[R.fz,hb]
   rw[e];simp only[bF];rcases k with k | ⟨te,es,elems,h1,h2,h3⟩
   ·exact⟨I,.inl (by rw[jX hj,k];rfl)⟩
   ·refine⟨I,.inr ⟨te,es,fzR id z elems,by rw[jX hj,h1];rfl,by rw[fT];exact h2,fun e=>?_⟩⟩;rw[fT] at e;obtain⟨Y,J⟩:=h3 e;refine⟨Y,?_⟩;rcases J with⟨J,N,q4⟩ | J
    ·exact .inl ⟨J,by rw[N];rfl,q4⟩
    ·exact .inr J
theorem aW.fz (hle:S.le S') {o:AObj}(hid:H id=some o) (q:z.of o):∀(r:List R) (v:List Value),(id∈R.refsL r→aV6 S' μ H id z)→aW S μ H r v→aW S' μ (hfz id z H) (R.fzL id z r) v
 | [],_,_,k=>by simpa only[aW,R.fzL] using k
 | r::rs,vs,hk,k=>by
  simp only[aW,R.fzL] at k ⊢;obtain⟨v,vs',h1,h2,h3⟩:=k;exact⟨v,vs',h1,bF.fz hle hid q r v (fun h=>hk (by simp[R.refsL,h])) h2,aW.fz hle hid q rs vs' (fun h=>hk (by simp[R.refsL,h])) h3⟩
end
mutual
theorem b6.fz (hle:S.le S') {o:AObj}(hid:H id=some o) (q:z.of o) (hk:aV6 S' μ H id z):∀(r:V) (v:Value),b6 S μ H r v→b6 S' μ (hfz id z H) (r.fz id z) v
 | .one r,v,k=>by simp only[b6,V.fz] at k ⊢;exact bF.fz hle hid q r v (fun _=>hk) k
 | .pa l,v,k=>by
  simp only[b6,V.fz] at k ⊢;obtain⟨vs,h1,h2⟩:=k;exact⟨vs,h1,dL.mono hle l vs h2⟩
 | .ma l,v,k=>by
  simp only[b6,V.fz] at k ⊢;obtain⟨vs,h1,h2⟩:=k;exact⟨vs,h1,aW.fz hle hid q l vs (fun _=>hk) h2⟩
 | .tup l,v,k=>by
  simp only[b6,V.fz] at k ⊢;obtain⟨vs,h1,h2⟩:=k;exact⟨vs,h1,bU.fz hle hid q hk l vs h2⟩
theorem bU.fz (hle:S.le S') {o:AObj}(hid:H id=some o) (q:z.of o) (hk:aV6 S' μ H id z):∀(r:List V) (v:List Value),bU S μ H r v→bU S' μ (hfz id z H) (V.fzL id z r) v
 | [],_,k=>by simpa only[bU,V.fzL] using k
 | r::rs,vs,k=>by
  simp only[bU,V.fzL] at k ⊢;obtain⟨v,vs',h1,h2,h3⟩:=k;exact⟨v,vs',h1,b6.fz hle hid q hk r v h2,bU.fz hle hid q hk rs vs' h3⟩
end
theorem AObj.succ_fz {p:Prop}{o o':AObj}(h:o.succ p o'):o.succ p (o'.fz id z):=by
 cases o<;>cases o'<;>simp only[AObj.succ,AObj.fz,fT] at h ⊢<;>exact h
theorem mW.fz {w:World}{j:Nat}{x:AObj}(hle:S.le S') {o:AObj}(hid:H id=some o) (q:z.of o) (hk:aV6 S' μ H id z) (h:mW S μ H w j x) (hb:∀b c,μ j=some (b,c)→(∀o,S'.cell b o=S.cell b o)∧S'.mapo b=S.mapo b):mW S' μ (hfz id z H) w j (x.fz id z):=by
 cases x with
 | var t cells=>
  obtain⟨b,vs,h1,h2,h3,h4⟩:=h;exact⟨b,vs,h1,h2,aW.fz hle hid q _ _ (fun _=>hk) h3,fun o=>by rw[(hb b _ h1).1,h4.1],by rw[(hb b _ h1).2,h4.2]⟩
 | arr te es elems fz=>
  obtain⟨h0,h1 | ⟨b,base,cap,vs,h1,h2,h3,h4,h5,h6,h7,J,N⟩⟩:=h
  ·exact⟨h0,.inl h1⟩
  ·exact⟨h0,.inr ⟨b,base,cap,vs,h1,h2,h3,h4,⟨h5.1,by rw[(hb b _ h1).2,h5.2]⟩,dL.mono hle _ _ h6,fun e o I=>by rw[(hb b _ h1).1,h7 e o I],fun o e=>by rw[(hb b _ h1).1,J o e],fun e=>(N e).mono hle⟩⟩
 | map agg ents=>
  obtain⟨b,es,clk,h1,h2,h3,h4⟩:=h;exact⟨b,es,clk,h1,h2,aBl.mono hle h3,h4.of_eq (hb b _ h1).2⟩
 | dead=>exact h
 | lp st jp i e=>
  obtain⟨b,r,fn,tmps,h1,h2,h3,h4,h5,h6⟩:=h;refine⟨b,r,fn,tmps,h1,h2,h3,fun t v ht=>?_,fun o=>by rw[(hb b _ h1).1,h5],by rw[(hb b _ h1).2,h6]⟩;obtain⟨v0,O,rfl⟩:=aLy ht;exact b6.fz hle hid q hk _ _ (h4 t v0 O)
 | dfr=>
  obtain⟨b,h1,h2,h3,h4⟩:=h;exact⟨b,h1,h2,fun o=>by rw[(hb b _ h1).1,h3],by rw[(hb b _ h1).2,h4]⟩
 | rarr te es elems=>
  obtain⟨h0,h1 | ⟨b,base,cap,vs,h1,h2,h3,h4,h5,h6,h7⟩⟩:=h
  ·exact⟨nD h0,.inl ⟨h1.1,by rw[h1.2];rfl⟩⟩
  ·refine⟨nD h0,.inr ⟨b,base,cap,vs,h1,h2,h3,by rw[fT];exact h4,⟨h5.1,by rw[(hb b _ h1).2,h5.2]⟩,?_,fun o I=>by rw[(hb b _ h1).1,h7 o I]⟩⟩;rw[aFt,fT];exact aW.fz hle hid q _ _ (fun _=>hk) h6
 | tok r k=>
  obtain⟨h1,b,h2,m,h3,h4⟩:=h;obtain⟨m',h5,h6⟩:=hle.2 b m h3;exact⟨h1,b,bF.fz hle hid q _ _ (fun _=>hk) h2,m',h5,MK.le_has h6 h4⟩
theorem Sto.free_of {S S':Sto}(h:S.free) {b:Nat}(hb:∀b',b'≠b→(∀o,S'.cell b' o=S.cell b' o)∧S'.mapo b'=S.mapo b') (ht:∀te lo hi,¬S'.mapo b=some (.top te lo hi)):S'.free:=fun b' te lo hi e o I=>by
 by_cases q:b'=b
 ·subst q;exact absurd e (ht te lo hi)
 ·obtain⟨h1,h2⟩:=hb b' q;rw[h1,h b' te lo hi (by rw[←h2];exact e) o I]
theorem qW {G:Ctx}{n:Nat}{kf:List Nat}{st:St}{a:Act}{w:World}{o:AObj}(hid:st.h id=some o) (J:z.of o) (Y:id∉kf) (hg:G.keeps kf) (hs:Sim G n S μ st a w) (hle:S.le S') (hh:Holds S' w) (hk:aV6 S' μ st.h id z)
  (hb:∀b,(∀c,μ id≠some (b,c))→(∀o,S'.cell b o=S.cell b o)∧S'.mapo b=S.mapo b) (O:S'.free):Sim G n S' μ ⟨fun t=>(st.e t).map (V.fz id z),hfz id z st.h,st.d⟩ a w:=by
 have hold:∀j x,hfz id z st.h j=some x→j≠id∧∃I,st.h j=some I∧x=I.fz id z:=by
  intro j x hj;have q:j≠id:=by rintro rfl;rw[aRy] at hj;cases hj
  rw[jX q] at hj;cases h:st.h j with
  | none=>rw[h] at hj;cases hj
  | some I=>
   rw[h] at hj;cases hj;exact⟨q,I,rfl,rfl⟩
 have W:∀j I,st.h j=some I→j≠id→∀b c,μ j=some (b,c)→∀c',μ id≠some (b,c'):=by
  intro j I hj q b c hm c' N;exact q (hs.inv.inj j id I o b c c' hj hid hm N)
 refine⟨⟨hh,fun j x hj=>?_,fun i j x x' b c c' hi hj hm N=>?_,fun i x b c hi hm=>?_,hs.inv.frame,Sto.le_trans hs.inv.sle hle,fun b Z hF=>?_,⟨Sto.le_trans hs.inv.evo.le hle,fun j x hj=>?_⟩,O⟩,hs.size,hs.defers.go fun j _ hj=>⟨rfl,?_⟩,fun t v e=>?_⟩
 ·obtain⟨q,I,h1,rfl⟩:=hold j x hj;exact(hs.inv.obj j I h1).fz hle hid J hk fun b c hm=>hb b (W j I h1 q b c hm)
 ·obtain⟨_,y,h1,_⟩:=hold i x hi;obtain⟨_,y',h2,_⟩:=hold j x' hj;exact hs.inv.inj i j y y' b c c' h1 h2 hm N
 ·obtain⟨_,y,h1,_⟩:=hold i x hi;exact hs.inv.own i y b c h1 hm
 ·have hno:∀c,μ id≠some (b,c):=by
   intro c hm;rcases hs.inv.own id o b c hid hm with h | h
   ·omega
   ·exact hF h
  obtain⟨h1,h2⟩:=hb b hno;obtain⟨h3,h4⟩:=hs.inv.sto b Z hF;exact⟨fun o=>(h1 o).trans (h3 o),h2.trans h4⟩
 ·obtain⟨o',h1,h2⟩:=hs.inv.evo.obj j x hj;have q:j≠id:=fun e=>Y (e▸hg.1 j x hj)
  exact⟨o'.fz id z,by show hfz id z st.h j=_;rw[jX q,h1];rfl,AObj.succ_fz h2⟩
 ·have q:j≠id:=by
   rintro rfl;rw[hj] at hid;cases hid;cases z with
   | map agg ents=>cases J
   | var l=>obtain⟨t,h⟩:=J;cases h
   | ra n es l=>obtain⟨_,_,h,_⟩:=J;cases h
  show hfz id z st.h j=_;rw[jX q,hj];rfl
 ·cases h:st.e t with
  | none=>simp[h] at e
  | some v0=>
   simp only[h,Option.map_some,Option.some.injEq] at e;subst e;exact b6.fz hle hid J hk v0 _ (hs.env t v0 h)
theorem aPl {S:Sto}{w:World}{b:Nat}{es:Array MapEntry}{clk:Nat}(hh:Holds S w) (h:w.heap[b]?=some (.map es clk)):∃S':Sto,S'.cell=S.cell∧S'.mapo b=some (.all es clk)∧(∀b',b'≠b→S'.mapo b'=S.mapo b')∧S.le S'∧Holds S' w:=by
 have q:∀b',b'≠b→(if b'=b then some (MK.all es clk) else S.mapo b')=S.mapo b':=fun b' e=>φ e
 refine⟨⟨S.cell,fun b'=>if b'=b then some (.all es clk) else S.mapo b'⟩,rfl,ξ rfl,q,⟨fun _ _ _ e=>e,fun b' m e=>?_⟩,hh.1,fun b' m e=>?_⟩
 ·by_cases hb:b'=b
  ·subst hb;refine⟨.all es clk,ξ rfl,?_⟩;have:=hh.2 _ _ e;cases m with
   | all J I=>simp only[MK.holds] at this;rw[h] at this;cases this;rfl
   | part ks=>
    obtain⟨J,I,h1,h2⟩:=this;rw[h] at h1;cases h1;exact h2
   | top te lo hi=>
    obtain⟨vs,h1,_⟩:=this;rw[h] at h1;cases h1
  ·exact⟨m,by rw[←e];exact q b' hb,m.le_refl⟩
 ·by_cases hb:b'=b
  ·subst hb;have e':(if b'=b' then some (MK.all es clk) else S.mapo b')=some m:=e;rw[ξ rfl] at e';cases e';exact h
  ·have e':(if b'=b then some (MK.all es clk) else S.mapo b')=some m:=e;rw[φ hb] at e';exact hh.2 b' m e'
theorem Sub.fmap {kf:List Nat}{st:St}{id:Nat}{agg:Bool}{ents:List (List C)}(hid:st.h id=some (.map agg ents)) (N:id∉kf) (O:kL ents):Sub kf ⟨fun t=>(st.e t).map (V.fz id (.map agg ents)),hfz id (.map agg ents) st.h,st.d⟩ st:=by
 intro G n S μ a w hg hs;obtain⟨b,es,clk,h1,h2,h3,h4⟩:=hs.inv.obj id _ hid;obtain⟨S',q,I,J,hle,hh⟩:=aPl hs.inv.holds h2;refine⟨S',μ,qW hid rfl N hg hs hle hh ?_ (fun b' hb=>⟨fun _=>by rw[q],?_⟩) (Sto.free_of hs.inv.fre (b:=b) (fun b' hb=>⟨fun _=>by rw[q],J b' hb⟩) fun te lo hi e=>by rw[I] at e;cases e)⟩
 ·intro b' c hm;rw[h1] at hm;cases hm;exact⟨es,clk,I,.inl (bH.mono hle _ _ _ (h3.rep O))⟩
 ·exact J b' fun e=>hb (0,0) (by rw[e];exact h1)
theorem Sub.fvar {kf:List Nat}{st:St}{id t:Nat}{l:List C}(hid:st.h id=some (.var t (l.map R.c))) (q:id∉kf):Sub kf ⟨fun t=>(st.e t).map (V.fz id (.var l)),hfz id (.var l) st.h,st.d⟩ st:=by
 intro G n S μ a w hg hs;obtain⟨b,vs,h1,h2,h3,h4⟩:=hs.inv.obj id _ hid;have h3':=h3.pure
 let S':Sto:=⟨fun b' o=>if b'=b then vs[o]? else S.cell b' o,S.mapo⟩
 have hle:S.le S':=⟨fun b' o v e=>by
  show(if b'=b then vs[o]? else S.cell b' o)=some v;by_cases hb:b'=b
  ·subst hb;rw[h4.1] at e;cases e
  ·rw[φ hb];exact e,fun _ m e=>⟨m,e,m.le_refl⟩⟩
 refine⟨S',μ,qW hid ⟨t,rfl⟩ q hg hs hle ⟨fun b' o v e=>?_,hs.inv.holds.2⟩ ?_ (fun b' hb=>⟨fun o=>?_,rfl⟩) (Sto.free_of hs.inv.fre (b:=b) (fun b' hb=>⟨fun _=>φ hb,rfl⟩) fun te lo hi e=>by have e:S.mapo b=_:=e;rw[h4.2] at e;cases e)⟩
 ·have e':(if b'=b then vs[o]? else S.cell b' o)=some v:=e;by_cases hb:b'=b
  ·subst hb;rw[ξ rfl] at e';exact⟨⟨vs⟩,t,(0,0),h2,by simpa using e'⟩
  ·rw[φ hb] at e';exact hs.inv.holds.1 b' o v e'
 ·intro b' c hm;rw[h1] at hm;cases hm;refine⟨vs,dL.mono hle _ _ h3',fun i u hu=>?_⟩;show(if b=b then vs[0+i]? else S.cell b (0+i))=some u;rw[ξ rfl,Be];exact hu
 ·have I:b'≠b:=fun e=>hb (0,0) (by rw[e];exact h1)
  exact φ I
theorem Sub.fra {kf:List Nat}{st:St}{id te es:Nat}{elems:List (List R)}(hid:st.h id=some (.rarr te es elems)) (J:id∉kf) (I:R.fzL id (.ra elems.length es elems.flatten) elems.flatten=elems.flatten) (O:id∉R.refsL elems.flatten):
  Sub kf ⟨fun t=>(st.e t).map (V.fz id (.ra elems.length es elems.flatten)),hfz id (.ra elems.length es elems.flatten) st.h,st.d⟩ st:=by
 intro G n S μ a w hg hs;have N:(Fz.ra elems.length es elems.flatten).of (.rarr te es elems):=⟨te,elems,rfl,rfl,rfl⟩
 obtain⟨h0,⟨h1,h2⟩ | ⟨b,base,cap,vs,h1,h2,h3,h4,h5,h6,h7⟩⟩:=hs.inv.obj id _ hid
 ·refine⟨S,μ,qW hid N J hg hs S.le_refl hs.inv.holds ?_ (fun b' _=>⟨fun _=>rfl,rfl⟩) hs.inv.fre⟩;refine⟨?_,fun b base cap hm=>?_⟩
  ·rw[h2];simp
  ·rw[h1] at hm;cases hm
 ·let S':Sto:=⟨fun b' o=>if b'=b then vs[o]? else S.cell b' o,S.mapo⟩
  have hle:S.le S':=⟨fun b' o v e=>by
   show(if b'=b then vs[o]? else S.cell b' o)=some v;by_cases hb:b'=b
   ·subst hb;rw[ξ rfl];obtain⟨vs',t',fr',W,q2⟩:=hs.inv.holds.1 b' o v e;rw[h2] at W;cases W;simpa using q2
   ·rw[φ hb];exact e,fun _ m e=>⟨m,e,m.le_refl⟩⟩
  have hlen:elems.length*es=elems.flatten.length:=by
   have key:∀l:List (List R),(∀r∈l,r.length=es)→l.length*es=l.flatten.length:=by
    intro l
    induction l with
    | nil=>intro _;simp
    | cons r l ih=>
     intro h;have:=h r (by simp);have:=ih fun q hq=>h q (by simp[hq])
     simp only[Ag,Bi,ω,A5];omega
   exact key elems h0
  refine⟨S',μ,qW hid N J hg hs hle ⟨fun b' o v e=>?_,hs.inv.holds.2⟩ ⟨hlen,fun b' Z cap' hm=>?_⟩ (fun b' hb=>⟨fun o=>?_,rfl⟩) (Sto.free_of hs.inv.fre (b:=b) (fun b' hb=>⟨fun _=>φ hb,rfl⟩) fun te lo hi e=>by have e:S.mapo b=_:=e;rw[h5.2] at e;cases e)⟩
  ·have e':(if b'=b then vs[o]? else S.cell b' o)=some v:=e;by_cases hb:b'=b
   ·subst hb;rw[ξ rfl] at e';exact⟨⟨vs⟩,te,(0,0),h2,by simpa using e'⟩
   ·rw[φ hb] at e';exact hs.inv.holds.1 b' o v e'
  ·rw[h1] at hm;cases hm;refine⟨h4,h5.1,(vs.drop base).take (elems.length*es),?_,?_⟩
   ·have:=aW.fz hle hid N _ _ (fun h=>absurd h O) h6;rwa [I] at this
   ·intro i u hu;show(if b=b then vs[base+i]? else S.cell b (base+i))=some u;rw[ξ rfl];rw[Av] at hu;split at hu
    ·rwa [Ap] at hu
    ·cases hu
  ·have Y:b'≠b:=fun e=>hb (base,cap) (by rw[e];exact h1)
   exact φ Y
end
theorem dR {α:Type}{k i:Nat}{x:α}{l:List (Nat×α)}(h:i≠k):look ((k,x)::l) i=look l i:=by
 have:Nat.beq i k=false:=by
  cases hb:Nat.beq i k with
  | false=>rfl
  | true=>exact absurd (Ac hb) h
 simp[look,this]
theorem dJ {α:Type}{k:Nat}{x:α}{l:List (Nat×α)}:look ((k,x)::l) k=some x:=by simp[look]
section
variable {P:Program}{n:Nat}{o:Oper}{st:St}{d:Nat}
end
end Go.AM
