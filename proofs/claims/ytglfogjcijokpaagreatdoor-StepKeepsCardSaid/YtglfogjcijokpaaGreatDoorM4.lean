/-
  Texts Am20 to Ax5 in one.
-/
import Derived.Test.YtglfogjcijokpaaGreatDoorM3
import Derived.ProofKit
import Derived.SizedLaws
import Derived.OpenShut
import Derived.Carry
import Derived.Laws.BytesArg
open List (all_eq_true append_assoc append_nil drop_drop drop_take drop_zero eq_nil_of_length_eq_zero flatten_append flatten_cons foldl_cons length_append length_cons length_drop length_nil length_take map_cons map_nil map_toArray mem_append mem_cons mem_map mem_of_mem_take set_eq_take_append_cons_drop size_toArray take_append_of_le_length take_left' take_of_length_le take_take)
open Nat (add_assoc add_mul add_zero beq_refl eq_of_beq_eq_true le_of_ble_eq_true le_refl le_trans lt_irrefl lt_of_lt_of_le min_eq_left mul_le_mul_left mul_le_mul_right sub_zero zero_add zero_le)
namespace Go.AM
open Go
theorem WChg.putObj {w:World}{b:Nat}{o o':Obj}(h:w.heap[b]?=some o'):WChg w (w.putObj b o) b o:=
 ⟨rfl,rfl,rfl,by simp,World.putObj_heap_same (Cm.1 h).1,fun k _ hk=>World.putObj_heap_other hk⟩
def a1e:List Nat→List V→List (Nat×V)
 | t::ts,v::vs=>a1e ts vs++[(t,v)]
 | _,_=>[]
def aDx (P:Program) (id:Nat) (args:List V) (hin:List (Nat×AObj)) (go:Bool) (hout:List (Nat×AObj)):Prop:=
 ∀ro S μ w l c vals,Inv ⟨w,S,mL μ (look hin),μ,look hin⟩ S μ (look hin) w→bG S μ (look hin) args vals→μ id=some (l,c)→
  ∃fn tmps asg body,(Instr.yield l ⟨vals⟩).run P w=.ok (.round l fn tmps asg body) w∧
   RoundIn (Wd ro) 0 P l fn tmps asg body w fun e w'=>∃S' μ',e=.returned (.bool go)∧Inv ⟨w,S,mL μ (look hin),μ,look hin⟩ S' μ' (look hout) w'
theorem bG.length {S:Sto}{μ:Mu}{H:c7}:∀{l:List V}{us:List Value},bG S μ H l us→us.length=l.length
 | [],_,h=>by simp only[bG] at h;subst h;rfl
 | _::l,_,h=>by
  simp only[bG] at h;obtain⟨v,vs',rfl,_,h2⟩:=h;simp[bG.length h2]
theorem aD0 {S:Sto}{μ:Mu}{H:c7}:∀{ps:List Nat}{vs:List V}{us:List Value}{e:List (Nat×V)}{tmps:Array Value},bG S μ H vs us→vs.length=ps.length→(∀t∈ps,t<tmps.size)→
  (∀t v,look e t=some v→aT S μ H v (tmps.getD t undef))→
  ((ps.zip us).foldl (fun(tmps:Array Value) (x:Nat×Value)=>tmps.setIfInBounds x.1 x.2) tmps).size=tmps.size∧
  ∀t v,look (a1e ps vs++e) t=some v→aT S μ H v (((ps.zip us).foldl (fun(tmps:Array Value) (x:Nat×Value)=>tmps.setIfInBounds x.1 x.2) tmps).getD t undef)
 | [],vs,us,e,tmps,hv,hl,q,he=>by
  cases vs with
  | nil=>exact⟨rfl,he⟩
  | cons _ _=>simp at hl
 | p::ps,[],us,e,tmps,hv,hl,q,he=>by simp at hl
 | p::ps,x::vs,us,e,tmps,hv,hl,q,he=>by
  simp only[bG] at hv;obtain⟨u,I,rfl,h1,h2⟩:=hv;have hp:=q p (by simp)
  have key:=aD0 (ps:=ps) (vs:=vs) (us:=I) (e:=(p,x)::e) (tmps:=tmps.setIfInBounds p u) h2 (by simpa using hl) (fun t ht=>by rw[Array.size_setIfInBounds];exact q t (by simp[ht])) (fun t v ht=>by
   rw[xH _ _ _ _ hp];simp only[look] at ht;by_cases hb:t=p
   ·subst hb;simp only[B6,B3] at ht;cases ht;rw[ξ rfl];exact h1
   ·have:Nat.beq t p=false:=by
     cases J:Nat.beq t p with
     | false=>rfl
     | true=>exact absurd (ε J) hb
    simp only[this,A1,Br] at ht
    rw[φ hb];exact he t v ht)
  simp only[List.zip_cons_cons,Cr];refine⟨by rw[key.1];simp,fun t v ht=>key.2 t v ?_⟩;simpa [a1e,A0] using ht
def aZj:Exit→Option (Option Code)
 | .normal=>some none
 | .ret=>some (some .ret)
 | .exit id=>some (some (.exit id))
 | _=>none
def aXx (j:Option Code):LoopState:=if j.isNone then .ready else .done
structure RndEnd (hin hout:List (Nat×AObj)) (j:Option Code) (ex:Exit) (st:St):Prop where
 jump:aZj ex=some j
 out:dM (fun p=>∃o,st.h p.1=some o∧Ole (fun i=>i) o p.2) hout
 ok:(subset (cO hout) (keys hout)&&distinct (keys hout)&&subset (keys hin) (keys hout))=true
theorem bN {α:Type}{k i:Nat}{x:α}{l:List (Nat×α)}(h:i≠k):look ((k,x)::l) i=look l i:=by
 have:Nat.beq i k=false:=by
  cases hb:Nat.beq i k with
  | false=>rfl
  | true=>exact absurd (ε hb) h
 simp[look,this]
theorem bD {α:Type}{k:Nat}{x:α}{l:List (Nat×α)}:look ((k,x)::l) k=some x:=by simp[look]
theorem aZc {S:Sto}{μ:Mu}{H:c7}{e:List (Nat×V)}{tmps:Array Value}(h:∀t v,(t,v)∈e→aT S μ H v (tmps.getD t undef)):∀t v,look e t=some v→aT S μ H v (tmps.getD t undef):=
 fun t v ht=>h t v (bH ht)
theorem aDd {S:Sto}{μ:Mu}{hl:List (Nat×AObj)}{id:Nat}{o:AObj}{p:Nat×Nat×Nat}(h:look hl id=none):Evolve S μ (look hl) S (upd μ id (some p)) (look ((id,o)::hl)):=
 ⟨S.le_refl,fun j x I=>by
  have q:j≠id:=by rintro rfl;rw[h] at I;cases I
  exact⟨x,by rw[bN q];exact I,x.succ_refl (aS _ _ _ q)⟩⟩
theorem a04.aside {w:World}{F:Nat→Prop}{l:Nat}{o:Obj}{r:Loop}(h:a04 w F) (hl:w.heap[l]?=some (.loop r)):a04 (w.putObj l o) F:=
 ⟨fun g I=>by
  obtain⟨h1,t,fr,h2⟩:=h.1 g I;have q:g≠l:=by rintro rfl;rw[h2] at hl;cases hl
  exact⟨by simpa using h1,t,fr,by rw[World.putObj_heap_other q];exact h2⟩,h.2⟩
theorem Inv.aside {G:Ctx}{S:Sto}{μ:Mu}{H:c7}{w:World}{l:Nat}{o:Obj}{r:Loop}(hlr:G.w0.heap[l]?=some (.loop r)) (h:Inv G S μ H w) (hl:l<G.w0.heap.size) (W:¬G.F l) (I:(∀k,S.cell l k=none)∧S.mapo l=none):
  Inv ⟨G.w0.putObj l o,G.S0,G.F,G.μ0,G.h0⟩ S μ H (w.putObj l o):=by
 obtain⟨h1,h2,h3,h4,h5,Y,h7,Z,h9⟩:=h;refine⟨⟨fun b k v e=>?_,fun b mk e=>?_⟩,fun j x J=>?_,h3,fun i x b c hi hm=>?_,?_,Y,fun b hb N=>?_,Z,h9⟩
 ·obtain⟨vs,t,fr,k1,k2⟩:=h1.1 b k v e;have:b≠l:=by rintro rfl;rw[I.1] at e;cases e
  exact⟨vs,t,fr,by rw[World.putObj_heap_other this];exact k1,k2⟩
 ·have:b≠l:=by rintro rfl;rw[I.2] at e;cases e
  rw[World.putObj_heap_other this];exact h1.2 b mk e
 ·refine(h2 j x J).evolve (Evolve.refl _ _ _) rfl fun b c hm=>⟨World.putObj_heap_other ?_,fun _=>rfl,rfl⟩
  rintro rfl;rcases h4 j x b c J hm with h | h
  ·omega
  ·exact W h
 ·rcases h4 i x b c hi hm with h | h
  ·exact .inl (by simpa using h)
  ·exact .inr h
 ·obtain⟨f1,f2,f3,f4,f5,f6⟩:=h5;refine⟨f1,f2,f3,by simpa using f4,fun k hk O=>?_,f6.aside hlr⟩;simp only[World.putObj_size] at hk;by_cases q:k=l
  ·subst q;rw[World.putObj_heap_same hk,World.putObj_heap_same (Cv hk f4)]
  ·rw[World.putObj_heap_other q,World.putObj_heap_other q];exact f5 k hk O
 ·simp only[World.putObj_size] at hb;exact h7 b hb N
theorem Inv.keep {G:Ctx}{S:Sto}{μ:Mu}{H:c7}{w:World}{hout:List (Nat×AObj)}(hs:Inv G S μ H w) (hout':dM (fun p=>∃o,H p.1=some o∧Ole (fun i=>i) o p.2) hout)
  (W:subset (cO hout) (keys hout)=true) (Y:∀id o,G.h0 id=some o→id∈keys hout):Inv G S μ (look hout) w:=by
 have q:∀i∈keys hout,Good H (look hout) (fun i=>i) i:=by
  intro i hi;obtain⟨o',I⟩:=cQ hi;obtain⟨o,g1,g2⟩:=hout'.mem _ (bH I);exact⟨o,o',g1,I,g2⟩
 refine⟨hs.holds,fun id o ho=>?_,fun i j o o' b c c' hi Z hm N=>?_,fun i o b c hi hm=>?_,hs.frame,hs.sle,hs.sto,⟨hs.evo.le,fun id o ho=>?_⟩,hs.fre⟩
 ·obtain⟨J,g1,g2⟩:=hout'.mem _ (bH ho);exact(hs.obj _ _ g1).ren g2 fun i hi=>q i (bB W i (iP (bH ho) i hi))
 ·obtain⟨J,g1,g2⟩:=hout'.mem _ (bH hi);obtain⟨O,g3,g4⟩:=hout'.mem _ (bH Z);exact hs.inj _ _ _ _ b c c' g1 g3 hm N
 ·obtain⟨J,g1,g2⟩:=hout'.mem _ (bH hi);exact hs.own _ _ b c g1 hm
 ·obtain⟨o',g1,g2⟩:=hs.evo.obj id o ho;obtain⟨J,O,g3,g4,g5⟩:=q id (Y id o ho);rw[g1] at g3;cases g3;exact⟨O,g4,AObj.succ_trans g2 g5.succ fun e _=>e⟩
def aX5 (id:Nat) (i:LI) (e:List (Nat×V)) (args:List V) (hin hout:List (Nat×AObj)):Bool:=
 subset (kL e) (keys hin)&&subset (cO hin) (keys hin)&&subset (V.refsL args) (keys hin)&&(hin.all fun p=>p.2.live)&& !((keys hin).contains id)&& !((keys hout).contains id)&&Nat.beq args.length i.params.size&&(i.params.toList.all fun t=>Nat.blt t i.n)
theorem aC0 {α:Type}:∀{l:List (Nat×α)}{id:Nat},(!((keys l).contains id))=true→look l id=none:=by
 intro l id h;refine sK fun hm=>?_
 simp only[Cq] at h;have:(keys l).contains id=true:=by simpa [keys] using hm
 rw[this] at h;cases h
theorem aDx.of {P:Program}{id:Nat}{i:LI}{e:List (Nat×V)}{args:List V}{hin hout:List (Nat×AObj)}{j:Option Code}
  (h:∀l,AWp (some l) P i.n (keys hin) i.asg (mk (a1e i.params.toList args++e) hin) (fun ex st=>ex=.normal∧AWp (some l) P i.n (keys hin) i.body st (RndEnd hin hout j)))
  (hok:aX5 id i e args hin hout=true):aDx P id args ((id,.lp .ready none i e)::hin) j.isNone ((id,.lp (aXx j) j i e)::hout):=by
 simp only[aX5,Ac] at hok;obtain⟨⟨⟨⟨⟨⟨⟨o1,o2⟩,o3⟩,o4⟩,o5⟩,o6⟩,o7⟩,o8⟩:=hok;have hid:=aC0 o5;have hid2:=aC0 o6;intro ro S μ w l c vals hI hv hm;obtain⟨b,r,fn,tmps,g1,g2,g3,g4,g5,g6⟩:=hI.obj id _ bD;rw[hm] at g1;cases g1;have Z:=bZ g2;have hlen:vals.length=args.length:=bG.length hv;have aa:∀j o,look hin j=some o→look ((id,.lp .ready none i e)::hin) j=some o∧o≠ .dead:=by
  intro j o O;have ac:j≠id:=by rintro rfl;rw[hid] at O;cases O
  refine⟨by rw[bN ac];exact O,?_⟩;have:=(Au.1 o4) _ (bH O);rintro rfl;simp[AObj.live] at this
 have ae:∀j∈keys hin,Good (look ((id,.lp .ready none i e)::hin)) (look hin) (fun i=>i) j:=by
  intro j O;obtain⟨o,ho⟩:=cQ O;obtain⟨J,N⟩:=aa j o ho;exact⟨o,o,J,ho,.refl_id N⟩
 have hI1:=hI.hand aa o2;have W:¬mL μ (look hin) l:=by
  rintro⟨j,o,c',J,N⟩;have:=hI.inj j id o _ l c' _ (aa j o J).1 bD N hm;subst this;rw[hid] at J;cases J
 have hargs:bG S μ (look hin) args vals:=by
  have:=bG.ren (H:=look ((id,.lp .ready none i e)::hin)) (H':=look hin) (σ:=fun i=>i) args vals (fun j O=>ae j (bB o3 j O)) (by rw[V.renL_id];exact hv);exact this
 have he:∀t v,(t,v)∈e→aT S μ (look hin) v (tmps.getD t undef):=fun t v ht=>by
  have:=aT.ren (H:=look ((id,.lp .ready none i e)::hin)) (H':=look hin) (σ:=fun i=>i) v _ (fun j O=>ae j (bB o1 j (nN ht j O))) (by rw[V.ren_id];exact g4 t v ht);exact this
 have hps:∀t∈i.params.toList,t<tmps.size:=fun t ht=>by
  rw[g3];exact Ap ((Au.1 o8) t ht)
 have hpl:args.length=i.params.toList.length:=by rw[ε o7];simp
 obtain⟨z1,z2⟩:=aD0 (ps:=i.params.toList) hargs hpl hps (aZc he);have ai:(Instr.yield l ⟨vals⟩).run P w=.ok (.round l fn ((i.params.toList.zip vals).foldl (fun(tmps:Array Value) (x:Nat×Value)=>tmps.setIfInBounds x.1 x.2) tmps) i.asg i.body) w:=by
  rw[run_yield g2 (by simp only[size_toArray];rw[hlen];exact ε o7)];congr 2;rw[←Array.foldl_toList,Array.toList_zip]
 refine⟨fn,_,i.asg,i.body,ai,roundIn_of_wpIn trivial ?_⟩;have ag:Ctx.keeps ⟨w,S,mL μ (look hin),μ,look hin⟩ (keys hin):=o9;refine h l ⟨w,S,mL μ (look hin),μ,look hin⟩ S μ _ w _ ⟨ag,⟨_,g2⟩,W⟩ ⟨hI1,by rw[z1,g3],rfl,z2⟩ ?_;rintro ex st1 S1 μ1 a1 w1 ⟨rfl,hbody⟩ s1;have hw1:w1.heap[l]?=some (.loop { state:=.ready,pending:=none,fn:=fn,tmps:=tmps,params:=i.params,assign:=i.asg,body:=i.body,defers:=r }):=(s1.inv.frame.block l Z W).trans g2;refine⟨_,run_beginRound hw1 rfl,?_⟩;have hS1:=s1.inv.sto l Z W;have hI2:=Inv.aside (h:=s1.inv) (hlr:=g2) (o:=.loop { state:=.busy,pending:=none,fn:=fn,tmps:=tmps,params:=i.params,assign:=i.asg,body:=i.body,defers:=r }) Z W ⟨fun k=>by rw[hS1.1];exact g5 k,by rw[hS1.2];exact g6⟩;refine hbody ⟨w.putObj l (.loop { state:=.busy,pending:=none,fn:=fn,tmps:=tmps,params:=i.params,assign:=i.asg,body:=i.body,defers:=r }),S,mL μ (look hin),μ,look hin⟩ S1 μ1 a1 _ _ ⟨ag,⟨_,World.putObj_heap_same Z⟩,W⟩ ⟨hI2,s1.size,by have:=s1.defers;simpa using this,s1.env⟩ ?_;rintro ex st3 S3 μ3 a3 w3 ⟨O,hout',aj⟩ s3;simp only[Ac] at aj;obtain⟨⟨p1,p2⟩,p3⟩:=aj;have hw3:w3.heap[l]?=some (.loop { state:=.busy,pending:=none,fn:=fn,tmps:=tmps,params:=i.params,assign:=i.asg,body:=i.body,defers:=r }):=(s3.inv.frame.block l (by simpa using Z) W).trans (World.putObj_heap_same Z);have I:=s3.inv.keep hout' p1 fun id o ho=>bB p3 id (Af.2 ⟨_,bH (show look hin id=some o from ho),rfl⟩)
 have hS3:=I.sto l (by simpa using Z) W;have ab:(∀k,S3.cell l k=none)∧S3.mapo l=none:=⟨fun k=>by rw[hS3.1];exact g5 k,by rw[hS3.2];exact g6⟩
 have hlt3:=bZ hw3;have ad:∃v w',(Instr.endRound l j).run P w3=.ok v w'∧∃S' μ',Ending.returned v=.returned (.bool j.isNone)∧Inv ⟨w,S,mL μ (look ((id,.lp .ready none i e)::hin)),μ,look ((id,.lp .ready none i e)::hin)⟩ S' μ' (look ((id,.lp (aXx j) j i e)::hout)) w':=by
  refine⟨_,_,run_endRound j hw3,S3,upd μ3 id (some (l,0,0)),rfl,?_⟩;have hE3:Evolve S3 μ3 (look hout) S3 (upd μ3 id (some (l,0,0))) (look ((id,.lp (aXx j) j i e)::hout)):=aDd hid2;have ac:∀{k o},look hout k=some o→∀b c,μ3 k=some (b,c)→b≠l:=by
   rintro k o hk b c hmk rfl;rcases I.own k o b c hk hmk with q | q
   ·simp only[World.putObj_size] at q;omega
   ·exact W q
  have aF9:∀{k o},look ((id,.lp (aXx j) j i e)::hout) k=some o→(k=id∧o=.lp (aXx j) j i e)∨(k≠id∧look hout k=some o):=by
   intro k o hk;by_cases Y:k=id
   ·subst Y;rw[bD] at hk;cases hk;exact .inl ⟨rfl,rfl⟩
   ·rw[bN Y] at hk;exact .inr ⟨Y,hk⟩
  have ah:∀{b},¬mL μ (look ((id,.lp .ready none i e)::hin)) b→b≠l∧¬mL μ (look hin) b:=by
   intro b hb;refine⟨?_,?_⟩
   ·rintro rfl;exact hb ⟨id,_,_,bD,hm⟩
   ·rintro⟨k,o,c,J,N⟩;exact hb ⟨k,o,c,(aa k o J).1,N⟩
  refine⟨⟨fun b k v hc=>?_,fun b mk hc=>?_⟩,fun k o hk=>?_,fun a b o o' x c c' ha hb m1 m2=>?_,fun k o b c hk m1=>?_,?_,I.sle,fun b hb hF=>?_,⟨I.evo.le,fun k o hk=>?_⟩,I.fre⟩
  ·obtain⟨vs,t,fr,k1,k2⟩:=I.holds.1 b k v hc;have:b≠l:=by rintro rfl;rw[ab.1] at hc;cases hc
   exact⟨vs,t,fr,by rw[World.putObj_heap_other this];exact k1,k2⟩
  ·have:b≠l:=by rintro rfl;rw[ab.2] at hc;cases hc
   rw[World.putObj_heap_other this];exact I.holds.2 b mk hc
  ·rcases aF9 hk with⟨rfl,rfl⟩ | ⟨J,N⟩
   ·refine⟨l,r,fn,tmps,aI _ _ _,by rw[World.putObj_heap_same hlt3];rfl,g3,fun t v ht=>?_,ab.1,ab.2⟩;exact aT.evolve (I.evo.trans hE3) _ _ (he t v ht)
   ·refine(I.obj k o N).evolve hE3 (aS _ _ _ J) fun b c m1=>⟨World.putObj_heap_other (ac N b c m1),fun _=>rfl,rfl⟩
  ·rcases aF9 ha with⟨rfl,rfl⟩ | ⟨J,N⟩<;>rcases aF9 hb with⟨rfl,rfl⟩ | ⟨q3,q4⟩
   ·rfl
   ·rw[aI] at m1;cases m1;rw[aS _ _ _ q3] at m2;exact absurd rfl (ac q4 _ _ m2)
   ·rw[aI] at m2;cases m2;rw[aS _ _ _ J] at m1;exact absurd rfl (ac N _ _ m1)
   ·rw[aS _ _ _ J] at m1;rw[aS _ _ _ q3] at m2;exact I.inj a b o o' x c c' N q4 m1 m2
  ·rcases aF9 hk with⟨rfl,rfl⟩ | ⟨J,N⟩
   ·rw[aI] at m1;cases m1;exact .inr ⟨k,_,_,bD,hm⟩
   ·rw[aS _ _ _ J] at m1;rcases I.own k o b c N m1 with q | ⟨k',o',c',q,q'⟩
    ·exact .inl (by simpa using q)
    ·exact .inr ⟨k',o',c',(aa k' o' q).1,q'⟩
  ·obtain⟨f1,f2,f3,f4,f5,f6⟩:=I.frame;refine⟨f1,f2,f3,by simpa using f4,fun k hk hF=>?_,hI.frame.tab⟩;obtain⟨J,N⟩:=ah hF;rw[World.putObj_heap_other J,f5 k (by simpa using hk) N,World.putObj_heap_other J]
  ·obtain⟨J,N⟩:=ah hF;exact I.sto b (by simpa using hb) N
  ·have hk:look ((id,.lp .ready none i e)::hin) k=some o:=hk;by_cases Y:k=id
   ·subst Y;rw[bD] at hk;cases hk;exact⟨_,bD,by simp only[AObj.succ];rw[aI,hm]⟩
   ·rw[bN Y] at hk;obtain⟨o',J,N⟩:=I.evo.obj k o hk;exact⟨o',by rw[bN Y];exact J,by rw[aS _ _ _ Y];exact N⟩
 cases ex with
 | normal=>cases O;exact ad
 | ret=>cases O;exact ad
 | exit id=>cases O;exact ad
 | _=>cases O
section
variable {P:Program}{n:Nat}{o:Oper}{st:St}{d:Nat}
theorem aKd {id:Nat}{x:Operand}{xs:Array Operand}{ts:Array TypeId}{ids:List Nat}{args:List V}{go:Bool}(hin hout:List (Nat×AObj)) (ho:o.op=.call { callee:=.value x,args:=xs,argTypes:=ts }) (hd:o.dst=some d) (O:d<n)
  (hx:opv st x=some (.one (.yl id))) (hf:aDx P id args hin go hout) (ha:ArgsV st ids xs.toList args) (hin':dM (fun p=>st.h p.1=some p.2) hin) (hout':dM (fun p=>p.1∈keys hin∨st.h p.1=none) hout) (hok:callOk (.one (.yl id)::args) hin=true):
  Step P n o st ⟨opr x++dH xs.toList,ids++keys hin++keys hout⟩ ⟨some (d,some (B go)),outs hout⟩:=by
 intro st' q G S μ a w K Q hs hk;have hv:=ha.rel hs (fun t ht=>q.1 t (by simp[ht])) fun i h=>q.2 i (by simp[h])
 have W:=aM hs hx fun t ht=>q.1 t (by simp[ht])
 simp only[callOk,Ac] at hok;obtain⟨⟨k1,k2⟩,k3⟩:=hok;have hh:∀id o,look hin id=some o→st'.h id=some o∧o≠ .dead:=by
  intro id o ho;have hm:=bH ho;have h1:=hin'.mem _ hm;refine⟨by rw[q.2 id (by simp only[δ];exact .inl (.inr (Af.2 ⟨_,hm,rfl⟩)))];exact h1,?_⟩;have:=(Au.1 k3) _ hm;rintro rfl;simp[AObj.live] at this
 have N:∀id o,look hout id=some o→(∃o',look hin id=some o')∨st'.h id=none:=by
  intro id o ho;have hm:=bH ho;rcases hout'.mem _ hm with h1 | h1
  ·exact .inl (cQ h1)
  ·exact .inr (by rw[q.2 id (by simp only[δ];exact .inr (Af.2 ⟨_,hm,rfl⟩))];exact h1)
 have hI:=hs.inv.hand hh k2;have J:∀i∈keys hin,Good st'.h (look hin) (fun i=>i) i:=by
  intro i hi;obtain⟨o,ho⟩:=cQ hi;obtain⟨h1,h2⟩:=hh i o ho;exact⟨o,o,h1,ho,.refl_id h2⟩
 have I:bG S μ (look hin) (.one (.yl id)::args) (a.eval x::xs.toList.map a.eval):=by
  have:=bG.ren (H:=st'.h) (H':=look hin) (σ:=fun i=>i) (.one (.yl id)::args) (a.eval x::xs.toList.map a.eval) (fun i hi=>J i (bB k1 i hi)) (by rw[V.renL_id];simp only[bG];exact⟨_,_,rfl,W,hv⟩);exact this
 simp only[bG] at I;obtain⟨_,_,he,Y,I⟩:=I;cases he;simp only[aT,b6] at Y;obtain⟨_,_,_,_,l,c,q1,q2,q3⟩:=Y;intro ro;obtain⟨fn,tmps,asg,body,Z,aa⟩:=hf ro S μ w l c _ hI I q2;have hr:(execOp a.eval o).run P w=.ok (.round l fn tmps asg body) w:=by
  simp only[execOp,ho,resolve,q3,Deferred.ofValue,Ad,Ae,κ,invoke];rw[←Z];congr 2;apply Array.ext';simp
 refine⟨fun _ _=>trivial,?_⟩;rw[jU hr (by simp),Oper.uponIn_round];refine⟨fun h=>by simp[Wd] at h,aa.mono ?_⟩;rintro e w' ⟨S',μ',rfl,ab⟩;obtain⟨μ2,p1,p2,p3,p4⟩:=hs.inv.back (fun id o ho=>(hh id o ho).1) N ab;show K (a.put o.dst _) w';rw[hd];refine hk S' μ2 _ _ ?_;exact hs.put p2 p3 O (x:=some (B go)) fun z hz=>by cases hz;simp[aT,b6,Rep]
def aF8 (Q:Exit→St→Prop) (st:St):Option Code→Prop
 | none=>Q .normal st
 | some .ret=>Q .ret st
 | some (.exit id)=>Q (.exit id) st
 | _=>False
theorem aM3 {S:Sto}{μ:Mu}{H:c7}:∀{caps:List R}{vs:List Value},aW S μ H caps vs→bG S μ H (caps.map V.one) vs
 | [],_,h=>by simp only[aW] at h;subst h;simp[bG]
 | c::caps,_,h=>by
  simp only[aW] at h;obtain⟨v,vs',rfl,q,I⟩:=h;simp only[Al,bG];exact⟨v,vs',rfl,by simpa [aT] using q,aM3 I⟩
theorem aHk {G:Ctx}{S:Sto}{μ:Mu}{a:Act}{w:World}{g:Operand}{ps:Array Tmp}{asg body:Code}{f:FuncId}{caps:List R}{e:List (Nat×V)}{q:Nat}{hin hout:List (Nat×AObj)}{st':LoopState}{j:Option Code}{i':LI}{e':List (Nat×V)}{fn:FuncId}{r:Nat}
  (hb:eG P f) (hg:opv st g=some (.one (.clo f caps))) (he:dM (fun p=>st.e p.1=some p.2) e) (hin':dM (fun p=>st.h p.1=some p.2) hin) (hout':dM (fun p=>p.1∈keys hin∨st.h p.1=none) hout) (Y:st.h q=none)
  (hf:aQ P f (.one (.yl q)::caps.map V.one) ((q,.lp .ready none ⟨n,ps,asg,body⟩ e)::hin) (.tup []) ((q,.lp st' j i' e')::hout))
  (hok:callOk (.one (.yl q)::caps.map V.one) ((q,.lp .ready none ⟨n,ps,asg,body⟩ e)::hin)=true) (hst:st'≠ .busy)
  (hs:Sim G n S μ st a w) {Q:World→Prop} (hQ:∀S' μ' w',Sim G n S' μ' ⟨st.e,updL st.h (outs ((q,.lp .exhausted j i' e')::hout)),st.d⟩ a w'→Q w'):
  ∃d w2 args,(resolve a.eval (rangeCall g w.heap.size) 0).run P (w.alloc (.loop { state:=.ready,pending:=none,fn,tmps:=a.tmps,params:=ps,assign:=asg,body,defers:=r }))=.ok d w2∧(invoke d.target d.args).run P w2=.ok (.enter f args) w2∧
   Calls P f args w2 fun ending w3=>∃v,ending=.returned v∧∃w4,(Instr.endLoop w.heap.size).run P w3=.ok j w4∧Q w4:=by
 have hW:=WChg.alloc w (.loop { state:=.ready,pending:=none,fn,tmps:=a.tmps,params:=ps,assign:=asg,body,defers:=r });have Z:=eI (S:=S) (μ:=μ) Y (some (w.heap.size,(0,0))) (some (.lp .ready none ⟨n,ps,asg,body⟩ e));have aa:(∀k,S.cell w.heap.size k=none)∧S.mapo w.heap.size=none:=by
  refine⟨fun k=>?_,?_⟩
  ·cases hc:S.cell w.heap.size k with
   | none=>rfl
   | some v=>obtain⟨vs,t,fr,h1,_⟩:=hs.inv.holds.1 _ _ _ hc;exact absurd (bZ h1) (lt_irrefl _)
  ·cases hc:S.mapo w.heap.size with
   | none=>rfl
   | some v=>obtain⟨_,h1⟩:=MK.holds_some (hs.inv.holds.2 _ _ hc);exact absurd (bZ h1) (lt_irrefl _)
 have hI1:=hs.inv.chg (id:=q) (cap:=(0,0)) (ao:=.lp .ready none ⟨n,ps,asg,body⟩ e) hW (.inl (le_refl _)) Z
  ⟨w.heap.size,r,fn,a.tmps,aI _ _ _,hW.new,hs.size,fun t v ht=>aT.evolve Z _ _ (hs.env t v (he.mem _ ht)),aa⟩
  (fun k v hc=>by rw[aa.1] at hc;cases hc) (fun m hc=>le_refl _)
 have I:Sim G n S (upd μ q (some (w.heap.size,(0,0)))) ⟨st.e,upd st.h q (some (.lp .ready none ⟨n,ps,asg,body⟩ e)),st.d⟩ a (w.alloc (.loop { state:=.ready,pending:=none,fn,tmps:=a.tmps,params:=ps,assign:=asg,body,defers:=r })):=
  ⟨hI1,hs.size,hs.defers.evolve Z,fun t v ht=>aT.evolve Z _ _ (hs.env t v ht)⟩
 generalize w.alloc (.loop { state:=.ready,pending:=none,fn,tmps:=a.tmps,params:=ps,assign:=asg,body,defers:=r })=w1 at I hW;have hvx:=aT.evolve Z _ _ (aM hs hg fun _ _=>rfl);simp only[aT,b6] at hvx;obtain⟨vs,hgv,hcaps⟩:=hvx;simp only[callOk,Ac] at hok;obtain⟨⟨k1,k2⟩,k3⟩:=hok;have hne:∀{j o},st.h j=some o→j≠q:=by rintro j o hj rfl;rw[Y] at hj;cases hj
 have hh:∀id o,look ((q,.lp .ready none ⟨n,ps,asg,body⟩ e)::hin) id=some o→upd st.h q (some (.lp .ready none ⟨n,ps,asg,body⟩ e)) id=some o∧o≠ .dead:=by
  intro id o ho;have hm:=bH ho;refine⟨?_,?_⟩
  ·by_cases hid:id=q
   ·subst hid;rw[bD] at ho;rw[aI];exact ho
   ·rw[bN hid] at ho;rw[aS _ _ _ hid];exact hin'.mem _ (bH ho)
  ·have:=(Au.1 k3) _ hm;rintro rfl;simp[AObj.live] at this
 have hnew:∀id o,look ((q,.lp st' j i' e')::hout) id=some o→(∃o',look ((q,.lp .ready none ⟨n,ps,asg,body⟩ e)::hin) id=some o')∨upd st.h q (some (.lp .ready none ⟨n,ps,asg,body⟩ e)) id=none:=by
  intro id o ho;by_cases hid:id=q
  ·subst hid;exact .inl ⟨_,bD⟩
  ·rw[bN hid] at ho;rcases hout'.mem _ (bH ho) with h1 | h1
   ·obtain⟨o',h2⟩:=cQ h1;exact .inl ⟨o',by rw[bN hid];exact h2⟩
   ·exact .inr (by rw[aS _ _ _ hid];exact h1)
 have hI:=I.inv.hand hh k2;have hgood:∀i∈keys ((q,.lp .ready none ⟨n,ps,asg,body⟩ e)::hin),Good (upd st.h q (some (.lp .ready none ⟨n,ps,asg,body⟩ e))) (look ((q,.lp .ready none ⟨n,ps,asg,body⟩ e)::hin)) (fun i=>i) i:=by
  intro i hi;obtain⟨o,ho⟩:=cQ hi;obtain⟨h1,h2⟩:=hh i o ho;exact⟨o,o,h1,ho,.refl_id h2⟩
 have hcv:bG S (upd μ q (some (w.heap.size,(0,0)))) (upd st.h q (some (.lp .ready none ⟨n,ps,asg,body⟩ e))) (.one (.yl q)::caps.map V.one) (.func (.yield w.heap.size) #[] #[]::vs):=by
  simp only[bG];refine⟨_,_,rfl,?_,?_⟩
  ·simp only[aT,b6];exact⟨_,_,_,_,w.heap.size,_,aI _ _ _,aI _ _ _,rfl⟩
  ·exact aM3 hcaps
 have hcv':bG S (upd μ q (some (w.heap.size,(0,0)))) (look ((q,.lp .ready none ⟨n,ps,asg,body⟩ e)::hin)) (.one (.yl q)::caps.map V.one) (.func (.yield w.heap.size) #[] #[]::vs):=by
  have:=bG.ren (H:=upd st.h q (some (.lp .ready none ⟨n,ps,asg,body⟩ e))) (H':=look ((q,.lp .ready none ⟨n,ps,asg,body⟩ e)::hin)) (σ:=fun i=>i) _ _ (fun i hi=>hgood i (bB k1 i hi)) (by rw[V.renL_id];exact hcv);exact this
 refine⟨{ target:=.fn (.func f) ⟨vs⟩,args:= #[.func (.yield w.heap.size) #[] #[]] },w1, #[.func (.yield w.heap.size) #[] #[]]++⟨vs⟩,?_,?_,?_⟩
 ·have hce:a.eval (.const (.func (.yield w.heap.size) #[] #[]))=.func (.yield w.heap.size) #[] #[]:=rfl;simp only[resolve,hgv,Deferred.ofValue,Ae,map_toArray,Al,Bn,hce];rfl
 ·simp only[invoke,j7 hb]
 ·have hc:=hf S _ w1 _ hI hcv';have hlist:(⟨.func (.yield w.heap.size) #[] #[]::vs⟩:Array Value)= #[.func (.yield w.heap.size) #[] #[]]++⟨vs⟩:=by
   apply Array.ext';simp
  rw[hlist] at hc;refine hc.mono ?_;rintro ending w3 ⟨S',μ',v,rfl,hI',hres⟩;obtain⟨μ2,p1,p2,p3,p4⟩:=I.inv.back (fun id o ho=>(hh id o ho).1) hnew hI';have N:updL (upd st.h q (some (.lp .ready none ⟨n,ps,asg,body⟩ e))) (outs ((q,.lp st' j i' e')::hout)) q=some (.lp st' j i' e'):=by
   rw[eT,bD]
  have ab:μ2 q=some (w.heap.size,(0,0)):=by
   obtain⟨o',q1,q2⟩:=p3.obj q _ (aI _ _ _);rw[N] at q1;cases q1;simp only[AObj.succ] at q2;rw[q2,aI]
  obtain⟨b,r',fn',O,g1,g2,g3,g4,g5,g6⟩:=p2.obj q _ N;rw[ab] at g1;cases g1;refine⟨v,rfl,_,run_endLoop g2 hst,?_⟩;have ac:Evolve S' μ2 (updL (upd st.h q (some (.lp .ready none ⟨n,ps,asg,body⟩ e))) (outs ((q,.lp st' j i' e')::hout))) S' (upd μ2 q (some (w.heap.size,(0,0)))) (upd (updL (upd st.h q (some (.lp .ready none ⟨n,ps,asg,body⟩ e))) (outs ((q,.lp st' j i' e')::hout))) q (some (.lp .exhausted j i' e'))):=
   iY N ab trivial
  have hW4:=WChg.putObj (o:=.loop { state:=.exhausted,pending:=j,fn:=fn',tmps:=O,params:=i'.params,assign:=i'.asg,body:=i'.body,defers:=r' }) g2;have hI4:=p2.chg (id:=q) (cap:=(0,0)) (ao:=.lp .exhausted j i' e') hW4 (.inr ⟨_,_,N,ab⟩) ac
   ⟨w.heap.size,r',fn',O,aI _ _ _,hW4.new,g3,fun t v ht=>aT.evolve ac _ _ (g4 t v ht),g5,g6⟩ (fun k v hc=>by rw[g5] at hc;cases hc) (fun m hc=>by rw[g6] at hc;cases hc)
  have J:upd (updL (upd st.h q (some (.lp .ready none ⟨n,ps,asg,body⟩ e))) (outs ((q,.lp st' j i' e')::hout))) q (some (.lp .exhausted j i' e'))=updL st.h (outs ((q,.lp .exhausted j i' e')::hout)):=by
   funext k;by_cases hk:k=q
   ·subst hk;rw[aI,eT,bD]
   ·rw[aS _ _ _ hk,eT,eT,bN hk,bN hk,aS _ _ _ hk]
  refine hQ S' (upd μ2 q (some (w.heap.size,(0,0)))) _ ?_;have W:=(p3.trans ac)
  exact⟨by rw[←J];exact hI4,I.size,by
   show Marks _ _ (updL st.h (outs ((q,.lp .exhausted j i' e')::hout))) st.d a.defers;rw[←J];exact I.defers.evolve W,fun t v ht=>by
   show aT S' _ (updL st.h (outs ((q,.lp .exhausted j i' e')::hout))) v _
   rw[←J];exact aT.evolve W _ _ (I.env t v ht)⟩
theorem Marks.mem {lo:Nat}{μ:Mu}{H:c7}:∀{ids:List Nat}{q:List Deferred},Marks lo μ H ids q→∀id∈ids,H id=some .dfr
 | [],_,_,id,h=>by simp at h
 | i::ids,_,⟨b,c,J,h1,h2,h3,h4,h5,I⟩,id,h=>by
  rcases Ai.1 h with rfl | h
  ·exact h3
  ·exact Marks.mem I id h
def aZi (F:Fence) (m:Nat) (P:Program) (Q':Exit→Act→World→Prop) (a:Act) (w:World):Option Code→Prop
 | none=>Q' .normal a w
 | some c=>c.wpIn F m P Q' a w
theorem a2c {st st':St}(h:st'.e=st.e) (x:Operand):opv st' x=opv st x:=by cases x<;>simp[opv,h]
theorem aVh {F:Fence}{m:Nat}{kf:List Nat}{Q:Exit→St→Prop}{Q':Exit→Act→World→Prop}{I st2:St}{G:Ctx}{S:Sto}{μ:Mu}{a:Act}{w:World}{j:Option Code}(O:G.keeps kf) (hs:Sim G n S μ I a w) (J:Sub kf st2 I) (q:aF8 Q st2 j)
  (hk:∀ex st' S' μ' N w',Q ex st'→Sim G n S' μ' st' N w'→Q' ex N w'):aZi F m P Q' a w j:=by
 obtain⟨S',μ',h⟩:=J G n S μ a w O hs
 match j,q with
 | none,q=>exact hk _ _ _ _ _ _ q h
 | some .ret,q=>exact wpIn_ret (hk _ _ _ _ _ _ q h)
 | some (.exit id),q=>exact wpIn_exit (hk _ _ _ _ _ _ q h)
theorem aOc {kf:List Nat}{Q:Exit→St→Prop}{g:Operand}{ps:Array Tmp}{asg body:Code}{f:FuncId}{caps:List R}{hin hout:List (Nat×AObj)}{st':LoopState}{j:Option Code}{i':LI}{e':List (Nat×V)}(J I:Nat) (e:List (Nat×V)) (st2:St)
  (hb:eG P f) (hg:opv st g=some (.one (.clo f caps))) (he:dM (fun p=>st.e p.1=some p.2) e) (hin':dM (fun p=>st.h p.1=some p.2) hin) (hout':dM (fun p=>p.1∈keys hin∨st.h p.1=none) hout) (aa:st.h J=none) (N:st.h I=none)
  (hf:aQ P f (.one (.yl J)::caps.map V.one) ((J,.lp .ready none ⟨n,ps,asg,body⟩ e)::hin) (.tup []) ((J,.lp st' j i' e')::hout))
  (hok:(callOk (.one (.yl J)::caps.map V.one) ((J,.lp .ready none ⟨n,ps,asg,body⟩ e)::hin)&&(!Nat.beq I J&& !((keys hout).contains I)))=true) (hst:st'≠ .busy)
  (ab:Sub kf st2 ⟨st.e,updL (upd st.h I (some .dfr)) (outs ((J,.lp .exhausted j i' e')::hout)),I::st.d⟩) (hQ:aF8 Q st2 j):AWp none P n kf (.rangeFunc g ps asg body) st Q:=by
 intro G S μ a w Q' hgk hs hk;rw[Ac,Ac] at hok;obtain⟨hok,hne,O⟩:=hok;have O:=aC0 O;have ac:I≠J:=by
  intro h;subst h;simp at hne
 refine wpIn_rangeFunc fun fn _=>?_
 have hW:=WChg.alloc w (.deferred (some []));have hE:=eI (S:=S) (μ:=μ) N (some (w.heap.size,(0,0))) (some .dfr);have W:(∀k,S.cell w.heap.size k=none)∧S.mapo w.heap.size=none:=by
  refine⟨fun k=>?_,?_⟩
  ·cases hc:S.cell w.heap.size k with
   | none=>rfl
   | some v=>obtain⟨vs,t,fr,h1,_⟩:=hs.inv.holds.1 _ _ _ hc;exact absurd (bZ h1) (lt_irrefl _)
  ·cases hc:S.mapo w.heap.size with
   | none=>rfl
   | some v=>obtain⟨_,h1⟩:=MK.holds_some (hs.inv.holds.2 _ _ hc);exact absurd (bZ h1) (lt_irrefl _)
 have hI1:=hs.inv.chg (id:=I) (cap:=(0,0)) (ao:=.dfr) hW (.inl (le_refl _)) hE ⟨w.heap.size,aI _ _ _,hW.new,W⟩
  (fun k v hc=>by rw[W.1] at hc;cases hc) (fun m hc=>le_refl _)
 have hmk:Marks G.w0.heap.size (upd μ I (some (w.heap.size,(0,0)))) (upd st.h I (some .dfr)) (I::st.d) ({ target:=.collected w.heap.size,args:= #[] }::a.defers):=
  ⟨w.heap.size,_,_,rfl,aI _ _ _,aI _ _ _,hs.inv.frame.size,(fun h=>by have:=hs.defers.mem I h;rw[N] at this;cases this),hs.defers.evolve hE⟩
 have hsA:Sim G n S (upd μ I (some (w.heap.size,(0,0)))) ⟨st.e,upd st.h I (some .dfr),I::st.d⟩ { a with defers:=[{ target:=.collected w.heap.size,args:= #[] }]++a.defers } (w.alloc (.deferred (some []))):=
  ⟨hI1,hs.size,hmk,fun t v ht=>aT.evolve hE _ _ (hs.env t v ht)⟩
 have hnd:∀{j o},st.h j=some o→j≠I:=by rintro j o hj rfl;rw[N] at hj;cases hj
 have hinA:dM (fun p=>upd st.h I (some .dfr) p.1=some p.2) hin:=by
  have:∀l:List (Nat×AObj),dM (fun p=>st.h p.1=some p.2) l→dM (fun p=>upd st.h I (some .dfr) p.1=some p.2) l:=by
   intro l
   induction l with
   | nil=>intro _;trivial
   | cons p l ih=>intro h;exact⟨(aS _ _ _ (hnd h.1)).trans h.1,ih h.2⟩
  exact this _ hin'
 have Y:dM (fun p=>p.1∈keys hin∨upd st.h I (some .dfr) p.1=none) hout:=by
  have:∀l:List (Nat×AObj),(∀p∈l,p.1≠I)→dM (fun p=>p.1∈keys hin∨st.h p.1=none) l→dM (fun p=>p.1∈keys hin∨upd st.h I (some .dfr) p.1=none) l:=by
   intro l
   induction l with
   | nil=>intro _ _;trivial
   | cons p l ih=>intro hl h;exact⟨h.1.imp id fun h=>(aS _ _ _ (hl p (by simp))).trans h,ih (fun q hq=>hl q (by simp[hq])) h.2⟩
  refine this _ (fun p hp he=>?_) hout';obtain⟨x,hx⟩:=cQ (Af.2 ⟨p,hp,rfl⟩:p.1∈hout.map (·.1));rw[he,O] at hx;cases hx
 obtain⟨d,w2,args,q1,q2,q3⟩:=aHk (P:=P) (G:=G) (st:=⟨st.e,upd st.h I (some .dfr),I::st.d⟩) (fn:=fn) (r:=w.heap.size) (asg:=asg) (body:=body) (ps:=ps) (Q:=fun Z=>aZi (Wd none) 0 P Q' { a with defers:=[{ target:=.collected w.heap.size,args:= #[] }]++a.defers } Z j)
  hb (by rw[a2c rfl];exact hg) he hinA Y (by show upd st.h I (some .dfr) J=none;rw[aS _ _ _ (Ne.symm ac)];exact aa) hf hok hst hsA (fun S' μ' Z hs4=>aVh hgk.1 hs4 ab hQ hk)
 refine⟨w.heap.size+1,[{ target:=.collected w.heap.size,args:= #[] }],_,d,w2,f,args,w2,run_enterLoop_outer _ _ _ _ _,?_,fun _ _=>trivial,q2,fun h=>by simp[Wd] at h,Wd.calls.2 ?_⟩
 ·rw[World.size_alloc] at q1;exact q1
 ·refine q3.mono ?_;rintro ending w3 ⟨v,rfl,Z,h1,h2⟩;rw[World.size_alloc] at h1;exact⟨j,Z,h1,by cases j<;>exact h2⟩
end
structure Wf (ks:List Nat) (hl:List (Nat×AObj)):Prop where
 keys:keys hl=ks
 ok:(subset (cO hl) ks&&distinct ks&&(hl.all fun p=>p.2.live&&p.2.plain))=true
theorem Wf.all {ks:List Nat}{hl:List (Nat×AObj)}(h:Wf ks hl):dM (fun p=>look hl p.1=some p.2) hl:=by
 have hk:=h.ok;simp only[Ac] at hk;have hd:=dG hk.1.2;rw[←h.keys] at hd;have key:∀l:List (Nat×AObj),(∀p∈l,p∈hl)→dM (fun p=>look hl p.1=some p.2) l:=by
  intro l
  induction l with
  | nil=>intro _;trivial
  | cons p l I=>
   intro hp;refine⟨?_,I fun q J=>hp q (by simp[J])⟩;have hm:=hp p (by simp);obtain⟨x,hx⟩:=cQ (Af.2 ⟨p,hm,rfl⟩:p.1∈hl.map (·.1));have:=sF (f:=fun q:Nat×AObj=>q.1) hd _ (bH hx) _ hm rfl;show look hl p.1=some p.2;rw[hx,←this]
 exact key hl fun p hp=>hp
theorem Wf.live {ks:List Nat}{hl:List (Nat×AObj)}(h:Wf ks hl):(hl.all fun p=>p.2.live)=true:=by
 have hk:=h.ok;simp only[Ac,Au] at hk ⊢;exact fun p hp=>(hk.2 p hp).1
theorem Wf.plain {ks:List Nat}{hl:List (Nat×AObj)}(h:Wf ks hl):(hl.all fun p=>p.2.plain)=true:=by
 have hk:=h.ok;simp only[Ac,Au] at hk ⊢;exact fun p hp=>(hk.2 p hp).2
theorem Wf.refs {ks:List Nat}{hl:List (Nat×AObj)}(h:Wf ks hl):subset (cO hl) (Go.AM.keys hl)=true:=by
 have hk:=h.ok;simp only[Ac] at hk;rw[h.keys];exact hk.1.1
theorem Wf.distinct {ks:List Nat}{hl:List (Nat×AObj)}(h:Wf ks hl):Go.AM.distinct (Go.AM.keys hl)=true:=by
 have hk:=h.ok;simp only[Ac] at hk;rw[h.keys];exact hk.1.2
theorem n0 (l:List Nat):subset l l=true:=by simp[subset]
theorem Sub.heap {kf ks:List Nat}{I:St}{el:List (Nat×V)}{hl:List (Nat×AObj)}(hw:Wf ks hl) (he:dM (fun p=>I.e p.1=some p.2) el) (hh:∀id o,look hl id=some o→I.h id=some o)
  (h1:subset (kL el) ks=true) (h2:subset kf ks=true) (h3:eqL [] I.d=true):Sub kf (mk el hl) I:=by
 refine Sub.list (fun i=>i) ?_ ?_ ?_
 ·have key:∀l:List (Nat×V),dM (fun p=>I.e p.1=some p.2) l→dM (fun p=>I.e p.1=some (p.2.ren fun i=>i)) l:=by
   intro l
   induction l with
   | nil=>intro _;trivial
   | cons p l J=>intro h;exact⟨by show I.e p.1=some (p.2.ren fun i=>i);rw[V.ren_id];exact h.1,J h.2⟩
  exact key _ he
 ·have key:∀l:List (Nat×AObj),(∀p∈l,p.2.live=true)→dM (fun p=>look hl p.1=some p.2) l→dM (fun p=>∃o,I.h p.1=some o∧Ole (fun i=>i) o p.2) l:=by
   intro l
   induction l with
   | nil=>intro _ _;trivial
   | cons p l J=>
    intro hv h;refine⟨⟨p.2,hh _ _ h.1,.refl_id ?_⟩,J (fun q N=>hv q (by simp[N])) h.2⟩;intro e;have:=hv p (by simp);rw[e] at this;cases this
  exact key _ (fun p hp=>(Au.1 hw.live) p hp) hw.all
 ·simp only[aU4,Ac];have hk:List.map (fun p:Nat×AObj=>p.1) hl=ks:=hw.keys;refine⟨⟨⟨⟨⟨?_,?_⟩,?_⟩,?_⟩,?_⟩,h3⟩
  ·rw[hk];exact h1
  ·exact hw.refs
  ·exact hw.distinct
  ·rw[hk];exact h2
  ·simp
theorem Wf.callOk {ks:List Nat}{hl:List (Nat×AObj)}(h:Wf ks hl) {args:List V}(ha:subset (V.refsL args) ks=true):callOk args hl=true:=by
 simp only[Go.AM.callOk,Ac];exact⟨⟨by rw[h.keys];exact ha,h.refs⟩,h.live⟩
theorem dM.of {α:Type}{p:α→Prop}:∀{l:List α},(∀x∈l,p x)→dM p l
 | [],_=>trivial
 | x::l,h=>⟨h x (by simp),dM.of fun y q=>h y (by simp[q])⟩
theorem Wf.hout {ks:List Nat}{hl I:List (Nat×AObj)}(h:Wf ks hl) (J:Wf ks I) {g:c7}:dM (fun q:Nat×AObj=>q.1∈Go.AM.keys hl∨g q.1=none) I:=
 dM.of fun q N=>.inl (by rw[h.keys,←J.keys];exact Af.2 ⟨q,N,rfl⟩)
theorem Fin.heap {T:TT}{fn:Func}{st:St}{ks:List Nat}{hin hout:List (Nat×AObj)}{vs vs':List V}(hw:Wf ks hin) (q:Wf ks hout) (hh:∀id o,look hout id=some o→st.h id=some o) (I:ResV T st fn.results.toList vs) (hc:Convs st.h vs vs') (hs:subset (aIq vs').refs ks=true):Fin T fn st hin (aIq vs') hout:=by
 refine⟨⟨vs,vs',I,hc,rfl⟩,dM.of fun p hp=>⟨p.2,hh _ _ (q.all.mem p hp),.refl_id ?_⟩,?_⟩
 ·intro e;have:=(Au.1 q.live) p hp;rw[e] at this;cases this
 ·simp only[Ac];exact⟨⟨⟨⟨⟨by rw[q.keys];exact hs,q.refs⟩,q.distinct⟩,by rw[hw.keys,q.keys];exact n0 _⟩,hw.plain⟩,q.plain⟩
def aBq (W:World):Sto:=
 ⟨fun b o=>match W.heap[b]? with | some (.cells vs _ _)=>vs[o]? | _=>none,fun b=>match W.heap[b]? with | some (.map es clk)=>some (.all es clk) | _=>none⟩
theorem aH3 (W:World):Holds (aBq W) W:=by
 refine⟨fun b o v h=>?_,fun b mk h=>?_⟩
 ·simp only[aBq] at h;split at h
  ·rename_i vs t fr q;exact⟨vs,t,fr,q,h⟩
  ·cases h
 ·simp only[aBq] at h;split at h
  ·rename_i q;cases h;exact q
  ·cases h
theorem aQp (W:World):(aBq W).noTop:=fun b m e=>by
 simp only[aBq] at e;split at e
 ·cases e;exact⟨_,_,rfl⟩
 ·cases e
theorem aLs (W:World):(aBq W).free:=fun b te lo hi e=>by
 obtain⟨_,_,h⟩:=aQp W b _ e;cases h
theorem aLt {W:World}{a:Addr}{v:Value}(h:W.cell? a=some v):(aBq W).cell a.block a.off=some v:=by
 unfold World.cell? at h;simp only[aBq];split at h
 ·rename_i q;rw[q];split at h
  ·cases h
  ·exact h
 ·cases h
theorem aL8 {P:Program}{f:FuncId}{args:List V}{vals:List Value}{res:V}(h:aQ P f args [] res []) (W:World) (hv:bG (aBq W) (fun _=>none) (look []) args vals) (ht:aR3 W:=by first | assumption | (intro g h;cases h)):
  Calls P f ⟨vals⟩ W fun e W'=>∃v S μ,e=.returned v∧RowKit.Below W.heap.size W W'∧aT S μ (look []) res v:=by
 have I:Inv ⟨W,aBq W,mL (fun _=>none) (look []),fun _=>none,look []⟩ (aBq W) (fun _=>none) (look []) W:=
  ⟨aH3 W,(fun _ _ h=>by cases h),(fun _ _ _ _ _ _ _ h=>by cases h),(fun _ _ _ _ h=>by cases h),FrameW.refl _ _ ⟨ht,fun g _ ⟨_,_,_,h,_⟩=>by cases h⟩,Sto.le_refl _,fun _ _ _=>⟨fun _=>rfl,rfl⟩,Evolve.refl _ _ _,aLs W⟩
 refine(h (aBq W) (fun _=>none) W vals I hv).mono ?_;rintro e W' ⟨S',μ',v,he,q,J⟩;refine⟨v,S',μ',he,⟨q.frame.os,q.frame.tape,q.frame.output,q.frame.size,fun k hk=>q.frame.block k hk ?_⟩,J⟩;rintro⟨id,o,c,h1,_⟩;cases h1
theorem aWl {S:Sto}{μ:Mu}{H:c7}{b:Bool}{v:Value}(h:aT S μ H (B b) v):v=.bool b:=by simpa [aT,b6,Rep] using h
def lL (l:List Int):List (List C):=l.map fun m=>[.int .i64 m]
theorem aPs {W:World}{a:Addr}{len cap:Nat}{l:List Int}(hs:cap≠0→a.spot=none) (hl:l.length=len) (hc:len≤cap) (hm:cap≤maxLen) (q:∀i,i<len→W.cell? (a.add i)=some (.int .i64 (l.getD i 0))):
  Rep (aBq W) (.sl 1 (lL l)) (.slice (some a) len cap):=by
 simp only[Rep];refine⟨some a,len,cap,rfl,by simp[lL,hl],hc,hm,(by intro h;cases h),(by intro J h;cases h;exact hs),a.block,a.off,(by intro J h;cases h;exact⟨rfl,rfl⟩),?_⟩;have key:∀(r:List Int) (k:Nat),(∀i,i<r.length→W.cell? (a.add (k+i))=some (.int .i64 (r.getD i 0)))→bK (aBq W) 1 a.block (lL r) (a.off+k):=by
  intro r
  induction r with
  | nil=>intro k _;simp[lL,bK]
  | cons x r N=>
   intro k I;simp only[lL,Al,bK];refine⟨rfl,⟨[.int .i64 x],by simp[cZ,Rep],fun i v hi=>?_⟩,?_⟩
   ·have h0:=aLt (I 0 (by simp));have hb:(a.add (k+0)).block=a.block:=by unfold Addr.add;split<;>rfl
    have ho:(a.add (k+0)).off=a.off+k:=by
     unfold Addr.add;split
     ·rename_i h;omega
     ·rfl
    rw[hb,ho] at h0;cases i with
    | zero=>simp at hi;subst hi;simpa using h0
    | succ i=>simp at hi
   ·have:=N (k+1) fun i hi=>by
     have:=I (i+1) (by simp;omega);rw[show k+(i+1)=k+1+i by omega] at this;simpa using this
    rw[Co];exact this
 have:=key l 0 fun i hi=>by rw[A6];exact q i (by omega)
 simpa using this
theorem zF {W:World}:Rep (aBq W) (.sl 1 (lL [])) (.slice none 0 0):=by
 simp only[Rep];exact⟨none,0,0,rfl,rfl,le_refl _,Aj _,(fun _=>⟨rfl,rfl⟩),(by intro q h;cases h),0,0,(by intro q h;cases h),by simp[lL,bK]⟩
theorem aH0 {H:Type}{enc:TypeId×Value→H}{P:Program}{W:World}{t e:TypeId}{v:Value}{d:DataW H}{ps:List MemPlace}{base:Nat}(ht:P.underlying t=some (.slice e)) (he:P.underlying e=some (.int .i64)) (hc:P.cellsOf e=1)
  (hok:Value.okWide P W .any base t v) (h:DataW.Trod enc P W 0 (fun _=>true) true t v d ps):
  ∃l:List Int,Rep (aBq W) (.sl 1 (lL l)) v∧(∀m∈l,-9223372036854775808≤m∧m≤9223372036854775807)∧(∃x y,(d=.nil∧l=[])∨(d=.slice x y∧x.length=l.length)):=by
 obtain⟨fuel,hf⟩:=h;obtain⟨a0,q,I,rfl⟩:=WideShapes.okWide_slice ht hok;rcases ChangeShapes.open_ints ht he hc hf with⟨h1,h2⟩ | ⟨a,len,cap,J,h1,_,h3,h4,h5,N,h7,O⟩
 ·have hv:Value.slice a0 q I=.slice none 0 0:=by
   simp only[Value.cells] at h1;simpa using h1
  cases hv;refine⟨[],zF,by simp,[],[],.inl ⟨?_,rfl⟩⟩;have:=congrArg Prod.fst h2;simpa using this
 ·have hv:Value.slice a0 q I=.slice (some a) len cap:=by
   simp only[Value.cells] at h1;simpa using h1
  cases hv;have hs:a.spot=none:=by
   simp only[Value.okWide,ht,Cell.okWide,Cell.ok] at hok;exact hok.2.2.2.1
  have hlen:q≤J.length:=by rw[h5];split<;>omega
  refine⟨J.take q,aPs (fun _=>hs) (by simp;omega) h3 h4 (fun i hi=>?_),fun m hm=>?_,ChangeShapes.lits .i64 (J.take q),ChangeShapes.lits .i64 (J.drop q),.inr ⟨?_,?_⟩⟩
  ·rw[h7 i (by omega)];congr 2;simp[List.getD_eq_getElem?_getD,hi]
  ·have:=O m (Bx hm);simp only[Lit.wf,Ac,decide_eq_true_eq] at this;exact this
  ·have:=congrArg Prod.fst N;simpa using this
  ·simp[ChangeShapes.lits]
inductive BndV (st:St):Option Operand→Nat→Nat→Prop
 | no {m}:BndV st none m m
 | yes {x kk m k}:opv st x=some (I kk ((k:Nat):Int))→BndV st (some x) m k
def aRr:Option Operand→List Nat
 | none=>[]
 | some x=>opr x
section
variable {P:Program}{n:Nat}{o:Oper}{st:St}{d:Nat}{T:TT}
theorem BndV.val {G:Ctx}{S:Sto}{μ:Mu}{st':St}{a:Act}{w:World}{x:Option Operand}{m k:Nat}(h:BndV st x m k) (hs:Sim G n S μ st' a w) (ha:∀t∈aRr x,st'.e t=st.e t):
  (x=none∧k=m)∨∃kk,x.map a.eval=some (.int kk ((k:Nat):Int)):=by
 cases h with
 | no=>exact .inl ⟨rfl,rfl⟩
 | @yes x kk _ _ h=>exact .inr ⟨kk,by rw[Option.map_some,eJ (aM hs h ha)]⟩
theorem uL {w:World}{b:Bool}{len cap lo hi:Nat}{low high:Option Value}(hl:(low=none∧lo=0)∨∃kk,low=some (.int kk ((lo:Nat):Int))) (hh:(high=none∧hi=len)∨∃kk,high=some (.int kk ((hi:Nat):Int))) (h1:lo≤hi) (h2:hi≤len) (h3:len≤cap):
  (Instr.sliceBounds b len cap low high none).run P w=.ok (lo,hi,cap) w:=by
 have h4:hi≤cap:=le_trans h2 h3;rcases hl with⟨rfl,rfl⟩ | ⟨q,rfl⟩<;>rcases hh with⟨rfl,rfl⟩ | ⟨I,rfl⟩<;>simp[Instr.sliceBounds,Instr.sliceBound,asIntOf,h1,h4]
theorem a15 {t e:TypeId}{i ei:TI}{x:Operand}{low high:Option Operand}{es lo hi:Nat}{l:List (List C)}(I:Tok P T) (ho:o.op=.slice t x low high none) (hd:o.dst=some d) (J:d<n) (N:T[t]?=some (some i)) (hk:i.k=.sl e) (O:T[e]?=some (some ei)) (W:ei.size=es)
  (hx:opv st x=some (.one (.c (.sl es l)))) (Y:BndV st low 0 lo) (Z:BndV st high l.length hi) (h1:lo≤hi) (h2:hi≤l.length):
  Step P n o st ⟨opr x++aRr low++aRr high,[]⟩ ⟨some (d,some (.one (.c (.sl es ((l.take hi).drop lo))))),[]⟩:=by
 refine Step.value hd J fun st' ha G S μ a w hs=>?_
 have hv:=aM hs hx fun t ht=>ha.1 t (by simp[ht])
 have hl:=Y.val hs fun t ht=>ha.1 t (by simp[ht])
 have hh:=Z.val hs fun t ht=>ha.1 t (by simp[ht])
 simp only[aT,b6,Rep] at hv;obtain⟨q,len,cap,p1,p2,p3,p4,p5,p6,b,of,p7,p8⟩:=hv;subst p2;have hb:=uL (P:=P) (w:=w) (b:=true) (low:=low.map a.eval) (high:=high.map a.eval) (len:=l.length) (cap:=cap) (by rcases hl with⟨rfl,h⟩ | h;exact .inl ⟨rfl,h⟩;exact .inr h) (by rcases hh with⟨rfl,h⟩ | h;exact .inl ⟨rfl,h⟩;exact .inr h) h1 h2 p3;refine⟨.slice (if cap=lo then q else q.map (·.add (lo*ei.size))) (hi-lo) (cap-lo),?_,?_⟩
 ·have hu:=Ao ((I.get N).slice hk) w;simp only[execOp,ho,p1,C0,Ad,Instr.sliceAt,hu,κ,Instr.slice,hb,(I.get O).size_run w,Ae]
 ·simp only[aT,b6,Rep];have hlen:((l.take hi).drop lo).length=hi-lo:=by simp;omega
  refine⟨_,_,_,rfl,hlen.symm,by omega,by omega,?_,?_,?_⟩
  ·intro e;have:q=none:=by
    split at e
    ·exact e
    ·cases q<;>simp at e;rfl
   obtain⟨h3,h4⟩:=p5 this;omega
  ·intro y e hcc;split at e
   ·omega
   ·cases q with
    | none=>cases e
    | some z=>
     simp at e;subst e;have:=p6 z rfl (by omega);obtain⟨zb,zo,zs⟩:=z;simp at this;subst this;rw[Addr.add_mid]
  ·by_cases hc:cap=lo
   ·have:(l.take hi).drop lo=[]:=A7 (by omega);rw[this];refine⟨b,of,fun y e=>p7 y (by rwa [ξ hc] at e),by simp[bK]⟩
   ·refine⟨b,of+lo*es,fun y e=>?_,(p8.take hi).drop lo⟩;rw[φ hc] at e;cases q with
    | none=>cases e
    | some z=>
     simp at e;subst e;obtain⟨h3,h4⟩:=p7 z rfl;have:=p6 z rfl (by omega);obtain⟨zb,zo,zs⟩:=z;simp at this h3 h4;subst this h3 h4;rw[Addr.add_mid,W];exact⟨rfl,rfl⟩
theorem extract_mk (s:List UInt8) (lo hi:Nat):(ByteArray.mk ⟨s⟩).extract lo hi=⟨⟨(s.take hi).drop lo⟩⟩:=by
 apply ByteArray.ext;simp;rw[drop_take]
theorem aYb {t:TypeId}{i:TI}{x:Operand}{low high:Option Operand}{lo hi:Nat}{s:List UInt8}(W:Tok P T) (ho:o.op=.slice t x low high none) (hd:o.dst=some d) (q:d<n) (I:T[t]?=some (some i)) (hk:i.k=.str)
  (hx:opv st x=some (Go.AM.T s)) (J:BndV st low 0 lo) (N:BndV st high s.length hi) (h1:lo≤hi) (h2:hi≤s.length):
  Step P n o st ⟨opr x++aRr low++aRr high,[]⟩ ⟨some (d,some (Go.AM.T ((s.take hi).drop lo))),[]⟩:=by
 refine Step.value hd q fun st' ha G S μ a w hs=>?_
 have hv:=kY (aM hs hx fun t ht=>ha.1 t (by simp[ht]));have hl:=J.val hs fun t ht=>ha.1 t (by simp[ht])
 have hh:=N.val hs fun t ht=>ha.1 t (by simp[ht])
 have hb:=uL (P:=P) (w:=w) (b:=false) (low:=low.map a.eval) (high:=high.map a.eval) (len:=s.length) (cap:=s.length) (by rcases hl with⟨rfl,h⟩ | h;exact .inl ⟨rfl,h⟩;exact .inr h) (by rcases hh with⟨rfl,h⟩ | h;exact .inl ⟨rfl,h⟩;exact .inr h) h1 h2 (le_refl _);refine⟨.string ⟨⟨(s.take hi).drop lo⟩⟩,?_,by simp[aT,b6,Rep]⟩;have hu:=Ao ((W.get I).str hk) w;have O:(ByteArray.mk ⟨s⟩).size=s.length:=rfl;simp only[execOp,ho,hv,C0,Ad,Instr.sliceAt,hu,κ,Instr.slice,O,hb,Option.isSome_none,A1,Br,Ae,extract_mk]
theorem aSk {t:TypeId}{i:TI}{x y:Operand}{s:List UInt8}{kk:IntKind}{m:Int}{k:Nat}{b:UInt8}(W:Tok P T) (ho:o.op=.index t x y) (hd:o.dst=some d) (q:d<n) (J:T[t]?=some (some i)) (hk:i.k=.str)
  (hx:opv st x=some (Go.AM.T s)) (Y:opv st y=some (I kk m)) (hm:m=(k:Int)) (hb:s[k]?=some b):Step P n o st ⟨opr x++opr y,[]⟩ ⟨some (d,some (I .u8 ((b.toNat:Nat):Int))),[]⟩:=by
 refine Step.value hd q fun st' ha G S μ a w hs=>?_
 have hv:=kY (aM hs hx fun t ht=>ha.1 t (by simp[ht]));have h2:=eJ (aM hs Y fun t ht=>ha.1 t (by simp[ht]));subst hm;refine⟨.int .u8 ((b.toNat:Nat):Int),?_,by simp[aT,b6,Rep]⟩;have hu:=Ao ((W.get J).str hk) w;have Z:(ByteArray.mk ⟨s⟩)[k]?=some b:=by
  have N:=(Aa.1 hb).1
  have O:(ByteArray.mk ⟨s⟩).size=s.length:=rfl;rw[getElem?_pos (ByteArray.mk ⟨s⟩) k (by rw[O];exact N)];have:=(Aa.1 hb).2
  rw[←this];rfl
 simp only[execOp,ho,hv,h2,Ad,Instr.index,asIntOf,Ae,κ,hu];simp[Z]
theorem a1x {t1 t2:TypeId}{x y:Operand}{k:IntKind}{a b r:Int}(ho:o.op=.call { callee:=.builtin .min,args:= #[x,y],argTypes:= #[t1,t2] }) (hd:o.dst=some d) (q:d<n) (hx:opv st x=some (I k a)) (J:opv st y=some (I k b)) (N:(if b<a then b else a)=r):
  Step P n o st ⟨opr x++opr y,[]⟩ ⟨some (d,some (I k r)),[]⟩:=by
 refine Step.value hd q fun st' ha G S μ ac w hs=>?_
 have h1:=eJ (aM hs hx fun t h=>ha.1 t (by simp[h]));have h2:=eJ (aM hs J fun t h=>ha.1 t (by simp[h]));refine⟨.int k r,?_,by simp[aT,b6,Rep]⟩;simp only[execOp,ho,resolve,map_toArray,Al,Bn,h1,h2,Ad,Ae,κ,invoke,builtin,Builtin.min_,List.foldlM_cons,List.foldlM_nil,Builtin.min2,N]
end
section
variable {P:Program}{n:Nat}{o:Oper}{st:St}{d:Nat}{T:TT}
theorem lW.rarr {S:Sto}{μ:Mu}{H:c7}{w:World}{id:Nat}{te es:Nat}{elems:List (List R)}(h:lW S μ H w id (.rarr te es elems)) {b base cap:Nat}(hm:μ id=some (b,base,cap)):
  (∀r∈elems,r.length=es)∧∃vs,w.heap[b]?=some (.cells ⟨vs⟩ te (0,0))∧base+cap*es≤vs.length∧elems.length≤cap∧(cap≤maxLen∧S.mapo b=none)∧aW S μ H elems.flatten ((vs.drop base).take (elems.length*es))∧(∀o,base≤o→S.cell b o=none):=by
 obtain⟨h0,h1 | ⟨N,q,I,vs,h1,h2,h3,h4,h5,J,h7⟩⟩:=h
 ·rw[h1.1] at hm;cases hm
 ·rw[h1] at hm;cases hm;exact⟨h0,vs,h2,h3,h4,h5,J,h7⟩
def wP (st:St) (es:Nat):Nat→List (Nat×Operand)→Option (List (List R))
 | _,[]=>some []
 | k,(i,x)::ps=>bif Nat.beq i k then(opv st x).bind fun v=>(i6 v).bind fun rs=>bif Nat.beq rs.length es then(wP st es (k+1) ps).bind fun l=>some (rs::l) else none else none
theorem zB {es:Nat}:∀{ps:List (Nat×Operand)}{k:Nat}{l:List (List R)},wP st es k ps=some l→l.length=ps.length∧∀r∈l,r.length=es
 | [],k,l,h=>by simp[wP] at h;subst h;simp
 | (i,x)::ps,k,l,h=>by
  simp only[wP] at h;cases hi:Nat.beq i k with
  | false=>rw[hi] at h;cases h
  | true=>
   rw[hi] at h;simp only[Bo,Ag] at h;obtain⟨v,hv,rs,J,h⟩:=h;cases hl:Nat.beq rs.length es with
   | false=>rw[hl] at h;cases h
   | true=>
    rw[hl] at h;simp only[Bo,Ag] at h;obtain⟨l',I,h⟩:=h;cases h;obtain⟨h1,h2⟩:=zB I;refine⟨by simp[h1],fun r q=>?_⟩;rcases Ai.1 q with rfl | q
    ·exact ε hl
    ·exact h2 r q
theorem aHj {G:Ctx}{S:Sto}{μ:Mu}{st':St}{a:Act}{w:World}(hs:Sim G n S μ st' a w) {es:Nat}:∀{k:Nat}{ps:List (Nat×Operand)}{rows:List (List R)},wP st es k ps=some rows→(∀t∈gO ps,st'.e t=st.e t)→
  ∀(cells:Array Value),cells.size=(k+ps.length)*es→∃out:Array Value,Instr.fill (fun i=>some (i*es,es)) cells (ps.map fun(i,x)=>(i,a.eval x))=some out∧out.size=cells.size∧
   ∃us,aW S μ st'.h rows.flatten us∧out.toList=cells.toList.take (k*es)++us:=by
 intro k ps
 induction ps generalizing k with
 | nil=>
  intro rows h _ cells hc;simp only[wP] at h;cases h;refine⟨cells,rfl,rfl,[],by simp[aW],?_⟩;rw[A8,A3];simp at hc;simp[hc]
 | cons p ps ih=>
  obtain⟨i,x⟩:=p;intro rows h ha cells J;simp only[wP] at h;cases hi:Nat.beq i k with
  | false=>rw[hi] at h;cases h
  | true=>
   rw[hi] at h;have Y:=ε hi;subst Y;simp only[Bo,Ag] at h;obtain⟨v,hv,rs,Z,h⟩:=h;cases hl:Nat.beq rs.length es with
   | false=>rw[hl] at h;cases h
   | true=>
    rw[hl] at h;simp only[Bo,Ag] at h;obtain⟨l',O,h⟩:=h;cases h;have hl':=ε hl;have q:=dW (aM hs hv fun t ht=>ha t (by simp[gO,ht])) Z;have aa:=q.length;simp only[A9] at aa;simp only[Ak] at J;have hke:(i+(ps.length+1))*es=i*es+es+ps.length*es:=by
     rw[Ay,Ay];omega
    have W:=oE (i*es) (a.eval x).cells.toList 0 cells (by simp only[A9];omega);have N:(bU cells.toList (i*es) (a.eval x).cells.toList).length=cells.size:=by
     unfold bU;simp;omega
    obtain⟨out,h1,h2,us,h3,h4⟩:=ih O (fun t ht=>ha t (by simp[gO,ht])) ⟨bU cells.toList (i*es) (a.eval x).cells.toList⟩ (by
     simp only[size_toArray,N,J];congr 1
     omega)
    refine⟨out,?_,by rw[h2];simpa using N,(a.eval x).cells.toList++us,?_,?_⟩
    ·simp only[Al,Instr.fill];have I:((a.eval x).cells.size≠es || decide (i*es+(a.eval x).cells.size>cells.size))=false:=by
      simp only[Bool.or_eq_false_iff,Cw];exact⟨by simp;omega,by omega⟩
     simp only[I,A1,Br];have ab:((a.eval x).cells.zipIdx.foldl (fun cs (x:Value×Nat)=>cs.setIfInBounds (i*es+x.2) x.1) cells)=⟨bU cells.toList (i*es) (a.eval x).cells.toList⟩:=by
      rw[←Array.foldl_toList,Array.toList_zipIdx];simpa using W
     rw[←h1];congr 1
    ·rw[Bf];exact q.append h3
    ·rw[h4];have:(bU cells.toList (i*es) (a.eval x).cells.toList).take ((i+1)*es)=cells.toList.take (i*es)++(a.eval x).cells.toList:=by
      unfold bU;apply take_left';simp;rw[Ay];omega
     show(bU cells.toList (i*es) (a.eval x).cells.toList).take ((i+1)*es)++us=_;rw[this,A0]
theorem aPu {t e:TypeId}{i ei:TI}{len:Nat}{parts:Array (Nat×Operand)}{rows:List (List R)}(id:Nat) (J:Tok P T) (ho:o.op=.buildSlice t len parts) (hd:o.dst=some d) (ad:d<n) (hi:T[t]?=some (some i)) (hk:i.k=.sl e) (q:T[e]?=some (some ei))
  (I:wP st ei.size 0 parts.toList=some rows) (hlen:Nat.beq len parts.size=true) (N:Nat.ble (len*ei.size) 16777216=true) (Z:Nat.ble len 16777216=true) (hid:st.h id=none):
  Step P n o st ⟨gO parts.toList,[id]⟩ ⟨some (d,some (.one (.ra id 0 len len))),[(id,some (.rarr e ei.size rows))]⟩:=by
 refine Step.new hd ad hid (by simp) fun st' ha aa G S μ a w hs=>?_
 have W:=ε hlen;have hsm:=Ap N;obtain⟨z,hz,ae,_⟩:=(J.get q).zero_run;have Y:=(ae S).length;rw[(J.get q).len] at Y;simp only[A9] at Y;obtain⟨ag,ah⟩:=zB I;simp only[A9] at ag;have key:∀(cells:Array Value),cells.size=len*ei.size→∃out:Array Value,Instr.fill (fun i=>some (i*ei.size,ei.size)) cells (parts.map fun(i,x)=>(i,a.eval x)).toList=some out∧out.size=len*ei.size∧aW S μ st'.h rows.flatten out.toList:=by
  intro cells hc;obtain⟨out,h1,h2,us,h3,h4⟩:=aHj hs I ha.1 cells (by rw[hc,W];simp);refine⟨out,by rw[←h1];simp,by rw[h2,hc],?_⟩;simp at h4;rw[h4];exact h3
 have ab:∃out:Array Value,(Instr.buildSlice t len (parts.map fun(i,x)=>(i,a.eval x))).run P w=.ok (.slice (some ⟨w.heap.size,0,none⟩) len len) (w.alloc (.cells out e))∧out.size=len*ei.size∧aW S μ st'.h rows.flatten out.toList:=by
  by_cases h0:len*ei.size=0
  ·obtain⟨out,h1,h2,h3⟩:=key ((Array.range (len*ei.size)).map ((#[]:Array Value)[· %(#[]:Array Value).size]!)) (by simp);refine⟨out,?_,h2,h3⟩;have O:¬len*ei.size>2^24:=by omega
   simp only[Instr.buildSlice,Ad,Ao ((J.get hi).slice hk) w,κ,(J.get q).size_run w];rw[φ O,ξ h0];simp only[Ad,κ,Ae,h1,iK]
  ·obtain⟨out,h1,h2,h3⟩:=key ((Array.range (len*ei.size)).map (z.cells[· %z.cells.size]!)) (by simp);refine⟨out,?_,h2,h3⟩;have O:¬len*ei.size>2^24:=by omega
   simp only[Instr.buildSlice,Ad,Ao ((J.get hi).slice hk) w,κ,(J.get q).size_run w];rw[φ O,φ h0];simp only[Ad,hz w,κ,Ae,h1,iK]
 obtain⟨out,h1,h2,h3⟩:=ab;have ai:len≤maxLen:=by
  have:=Ap Z;unfold maxLen;omega
 have ac:rows.length=len:=by omega
 refine⟨_,_,.slice (some ⟨w.heap.size,0,none⟩) len len,(0,len),?_,WChg.alloc w (.cells out e),?_,?_⟩
 ·simp only[execOp,ho,Ad,h1,κ,Ae]
 ·refine⟨ah,.inr ⟨w.heap.size,0,len,out.toList,aI _ _ _,B4 w _,by simp[h2],by omega,⟨ai,qD hs.inv⟩,?_,fun o _=>fO hs.inv o⟩⟩;simp only[Cc];rw[A3 (by simp[h2,ac])];exact aW.evolve (eI aa _ _) _ _ h3
 ·simp only[aT,b6];exact⟨⟨_,_,_,rfl⟩,.inr ⟨e,ei.size,rows,aI _ _ _,by omega,fun _=>⟨by omega,.inr ⟨w.heap.size,0,len,aI _ _ _,by simp⟩⟩⟩⟩
theorem aHq {t e:TypeId}{i ei:TI}{x y:Operand}{te es k id off len sz:Nat}{kk:IntKind}{m:Int}{elems:List (List R)}(hT:Tok P T) (ho:o.op=.indexAddr t x y) (hd:o.dst=some d) (O:d<n) (hi:T[t]?=some (some i)) (hk:i.k=.sl e) (W:T[e]?=some (some ei)) (Y:ei.size=es)
  (hx:opv st x=some (.one (.ra id off len sz))) (hh:st.h id=some (.rarr te es elems)) (J:sz=elems.length) (hy:opv st y=some (I kk m)) (hm:m=(k:Int)) (Z:k<len):Step P n o st ⟨opr x++opr y,[id]⟩ ⟨some (d,some (.one (.rp id (off+k) 0 sz))),[]⟩:=by
 refine Step.value hd O fun st' ha G S μ a w hs=>?_
 have hv:=aM hs hx fun t ht=>ha.1 t (by simp[ht])
 have aa:=eJ (aM hs hy fun t ht=>ha.1 t (by simp[ht]));have q:st'.h id=some (.rarr te es elems):=by rw[ha.2 id (by simp),hh]
 simp only[aT,b6] at hv;obtain⟨_,hv | ⟨te',es',elems',h1,h2,h3⟩⟩:=hv
 ·rw[q] at hv;cases hv
 rw[q] at h1;cases h1;obtain⟨h4,⟨h5,N,h7⟩ | ⟨b,base,cap,h5,N⟩⟩:=h3 J
 ·subst N;simp at J;omega
 subst hm;refine⟨.pointer (some ⟨b,base+(off+k)*es+0,none⟩),?_,?_⟩
 ·simp only[execOp,ho,N,aa,Ad,jW hT hi hk W w b (base+off*es) len _ k kk Z,κ,Ae,Y,By];rw[show base+off*es+k*es=base+(off+k)*es by rw[Ay];omega]
 ·simp only[aT,b6];exact⟨⟨_,rfl⟩,.inr ⟨te,es,elems,q,h2,fun _=>⟨by omega,b,base,cap,h5,rfl⟩⟩⟩
theorem aHs {t J:TypeId}{i N:TI}{fs:List (Nat×TypeId)}{f q:Nat}{x:Operand}{id k fo sz:Nat}(Z:Tok P T) (ho:o.op=.fieldAddr t x f) (hd:o.dst=some d) (O:d<n) (hi:T[t]?=some (some i)) (hk:i.k=.st fs) (hf:fs[f]?=some (q,J)) (W:T[J]?=some (some N)) (hz:N.size≠0)
  {te es:Nat} {elems:List (List R)} (hx:opv st x=some (.one (.rp id k fo sz))) (hh:st.h id=some (.rarr te es elems)) (Y:sz=elems.length):Step P n o st ⟨opr x,[id]⟩ ⟨some (d,some (.one (.rp id k (fo+q) sz))),[]⟩:=by
 refine Step.value hd O fun st' ha G S μ a w hs=>?_
 have hv:=aM hs hx ha.1;have I:st'.h id=some (.rarr te es elems):=by rw[ha.2 id (by simp),hh]
 simp only[aT,b6] at hv;obtain⟨_,hv | ⟨te',es',elems',h1,h2,h3⟩⟩:=hv
 ·rw[I] at hv;cases hv
 rw[I] at h1;cases h1;obtain⟨h4,b,base,cap,h5,h6⟩:=h3 Y;refine⟨.pointer (some ⟨b,base+k*es+fo+q,none⟩),?_,?_⟩
 ·simp only[execOp,ho,h6,Ad,iO Z hi hk hf W hz,κ,Ae]
 ·simp only[aT,b6];exact⟨⟨_,rfl⟩,.inr ⟨te,es,elems,I,h2,fun _=>⟨h4,b,base,cap,h5,by rw[Co]⟩⟩⟩
theorem aP0 {t e:TypeId}{i:TI}{x:Operand}{te es id off len sz:Nat}{elems:List (List R)}(O:Tok P T) (ho:o.op=.call { callee:=.builtin .len,args:= #[x],argTypes:= #[t] }) (hd:o.dst=some d) (W:d<n) (hi:T[t]?=some (some i)) (hk:i.k=.sl e)
  (hx:opv st x=some (.one (.ra id off len sz))) (hh:st.h id=some (.rarr te es elems)) (q:sz=elems.length):Step P n o st ⟨opr x,[id]⟩ ⟨some (d,some (I .i64 (len:Int))),[]⟩:=by
 refine Step.value hd W fun st' ha G S μ a w hs=>?_
 have hv:=aM hs hx ha.1;have J:st'.h id=some (.rarr te es elems):=by rw[ha.2 id (by simp),hh]
 simp only[aT,b6] at hv;obtain⟨_,hv | ⟨Y,Z,elems',h1,h2,h3⟩⟩:=hv
 ·rw[J] at hv;cases hv
 rw[J] at h1;cases h1;obtain⟨h4,⟨h5,N,h7⟩ | ⟨b,base,cap,h5,N⟩⟩:=h3 q
 ·have hl:len=0:=by subst N;simp at q;omega
  subst hl;refine⟨goInt 0,jV ho h7 ?_,by simp[aT,b6,Rep,goInt]⟩;simp[Builtin.len_,Ao ((O.get hi).slice hk) w]
 ·refine⟨goInt len,jV ho N ?_,by simp[aT,b6,Rep,goInt]⟩;simp[Builtin.len_,Ao ((O.get hi).slice hk) w]
theorem aJ6 {S:Sto}{μ:Mu}{H:c7}{es base:Nat}{elems:List (List R)}{vs:List Value}(h0:∀r∈elems,r.length=es) (h:aW S μ H elems.flatten ((vs.drop base).take (elems.length*es))) {k:Nat}{r:List R}(hk:elems[k]?=some r):
  aW S μ H r ((vs.drop (base+k*es)).take es):=by
 have q:k<elems.length:=(Aa.1 hk).1
 have hmul:(k+1)*es≤elems.length*es:=Av _ q;rw[Ay] at hmul;have h1:=(h.drop (k*es)).take es;rw[eC h0 k r hk] at h1;rw[drop_take,take_take,drop_drop,B9 (by omega)] at h1;exact h1
theorem aKi {t te es:Nat}{i:TI}{x:Operand}{id k fo sz:Nat}{elems:List (List R)}{r:List R}{y:V}(hT:Tok P T) (ho:o.op=.load t x) (hd:o.dst=some d) (O:d<n) (hi:T[t]?=some (some i)) (hx:opv st x=some (.one (.rp id k fo sz)))
  (hh:st.h id=some (.rarr te es elems)) (W:sz=elems.length) (Y:elems[k]?=some r) (hl:fo+i.size≤es) (hy:qS i ((r.drop fo).take i.size)=some y):Step P n o st ⟨opr x,[id]⟩ ⟨some (d,some y),[]⟩:=by
 refine Step.value hd O fun st' ha G S μ a w hs=>?_
 have hv:=aM hs hx ha.1;have I:st'.h id=some (.rarr te es elems):=by rw[ha.2 id (by simp),hh]
 simp only[aT,b6] at hv;obtain⟨_,hv | ⟨te',es',elems',h1,h2,h3⟩⟩:=hv
 ·rw[I] at hv;cases hv
 rw[I] at h1;cases h1;obtain⟨h4,b,base,cap,h5,h6⟩:=h3 W;obtain⟨g0,vs,g1,g2,g3,g4,g5,g6⟩:=(hs.inv.obj id _ I).rarr h5;have N:=aJ6 g0 g5 Y;have q:=(N.drop fo).take i.size;rw[drop_take,take_take,drop_drop,B9 (by omega)] at q;have hlt:k<elems.length:=(Aa.1 Y).1
 have hmul:(k+1)*es≤cap*es:=Av _ (by omega);rw[Ay] at hmul;have Z:((vs.drop (base+k*es+fo)).take i.size).length=i.size:=a2n (by omega);have aa:=jZ g1 (base+k*es+fo) i.size;refine⟨_,?_,lD q hy⟩;have J:=run_load (hT.get hi) w b (base+k*es+fo) _ aa Z;simp only[execOp,ho,h6,Ad,Ae] at J ⊢;rw[J];rfl
theorem wT {x:Operand}{te es id k fo sz:Nat}{elems:List (List C)}{fz:Nat}(ho:o.op=.nilCheck x) (hd:o.dst=some d) (I:d<n) (hx:opv st x=some (.one (.ep id k fo sz))) (hh:st.h id=some (.arr te es elems fz)) (J:sz=elems.length):
  Step P n o st ⟨opr x,[id]⟩ ⟨some (d,some (.one (.ep id k fo sz))),[]⟩:=by
 refine Step.value hd I fun st' ha G S μ a w hs=>⟨a.eval x,?_,aM hs hx ha.1⟩
 have hv:=aM hs hx ha.1;have q:st'.h id=some (.arr te es elems fz):=by rw[ha.2 id (by simp),hh]
 simp only[aT,b6] at hv;obtain⟨_,hv | ⟨O,W,elems',Y,h1,h2,h3⟩⟩:=hv
 ·rw[q] at hv;cases hv
 rw[q] at h1;cases h1;obtain⟨h4,b,base,cap,h5,N⟩:=h3 J;simp[execOp,ho,N]
theorem wS {x:Operand}{te es id k fo sz:Nat}{elems:List (List R)}(ho:o.op=.nilCheck x) (hd:o.dst=some d) (I:d<n) (hx:opv st x=some (.one (.rp id k fo sz))) (hh:st.h id=some (.rarr te es elems)) (J:sz=elems.length):
  Step P n o st ⟨opr x,[id]⟩ ⟨some (d,some (.one (.rp id k fo sz))),[]⟩:=by
 refine Step.value hd I fun st' ha G S μ a w hs=>⟨a.eval x,?_,aM hs hx ha.1⟩
 have hv:=aM hs hx ha.1;have q:st'.h id=some (.rarr te es elems):=by rw[ha.2 id (by simp),hh]
 simp only[aT,b6] at hv;obtain⟨_,hv | ⟨O,W,elems',h1,h2,h3⟩⟩:=hv
 ·rw[q] at hv;cases hv
 rw[q] at h1;cases h1;obtain⟨h4,b,base,cap,h5,N⟩:=h3 J;simp[execOp,ho,N]
end
section
variable {P:Program}{n:Nat}{o:Oper}{st:St}{d:Nat}{T:TT}
theorem vX {t e:TypeId}{i ei:TI}{x y:Operand}{id id2 sz te2:Nat}{elems rows:List (List R)}{st':St}{G:Ctx}{S:Sto}{μ:Mu}{a:Act}{w:World}(hT:Tok P T) (ho:o.op=.call { callee:=.builtin .append,args:= #[x,y],argTypes:= #[t,t] })
  (hi:T[t]?=some (some i)) (hk:i.k=.sl e) (hei:T[e]?=some (some ei)) (hes:Nat.ble 1 ei.size=true) (heb:Nat.ble 1 ei.bytes=true)
  (hsz:sz=elems.length) (hpos:0<rows.length) (hroom:(elems.length+rows.length)*ei.bytes≤140737488355328) (hh':st'.h id=some (.rarr e ei.size elems)) (hs:Sim G n S μ st' a w)
  (hvx:aT S μ st'.h (.one (.ra id 0 sz sz)) (a.eval x)) (hvy:aT S μ st'.h (.one (.ra id2 0 rows.length rows.length)) (a.eval y)) (hh2:st'.h id2=some (.rarr te2 ei.size rows)):
  ∃w' v b bo c,(execOp a.eval o).run P w=.ok (.value v) w'∧(w.heap.size≤b∨∃c',μ id=some (b,c'))∧WChg w w' b bo∧
   lW S (upd μ id (some (b,c))) (upd st'.h id (some (.rarr e ei.size (elems++rows)))) w' id (.rarr e ei.size (elems++rows))∧(∀o v,S.cell b o=some v→∃vs t fr,bo=.cells vs t fr∧vs[o]?=some v)∧(∀m,S.mapo b=some m→w.heap.size≤b)∧
   Evolve S μ st'.h S (upd μ id (some (b,c))) (upd st'.h id (some (.rarr e ei.size (elems++rows))))∧
   aT S (upd μ id (some (b,c))) (upd st'.h id (some (.rarr e ei.size (elems++rows)))) (.one (.ra id 0 (elems.length+rows.length) (elems.length+rows.length))) v:=by
 subst hsz;have hes':=Ap hes;have heb':=Ap heb
 have hE:∀b c,Evolve S μ st'.h S (upd μ id (some (b,c))) (upd st'.h id (some (.rarr e ei.size (elems++rows)))):=fun b c=>⟨S.le_refl,fun j x I=>by
  by_cases hne:j=id
  ·subst hne;rw[hh'] at I;cases I;exact⟨_,aI _ _ _,by simp only[AObj.succ,true_and];exact⟨by simp,fun e=>by rw[τ] at e;omega⟩⟩
  ·exact⟨x,by rw[aS _ _ _ hne];exact I,x.succ_refl (aS _ _ _ hne)⟩⟩
 obtain⟨ad,cc,news,hvy1,J,hrl,W⟩:∃ad cc news,a.eval y=.slice (some ad) rows.length cc∧aW S μ st'.h rows.flatten news∧(∀r∈rows,r.length=ei.size)∧∀j u,news[j]?=some u→w.cell? (ad.add j)=some u:=by
  simp only[aT,b6] at hvy;obtain⟨_,hv | ⟨te',es',elems',h1,h2,h3⟩⟩:=hvy
  ·rw[hh2] at hv;cases hv
  rw[hh2] at h1;cases h1;obtain⟨h4,⟨h5,Y,h7⟩ | ⟨b,base,cap,h5,Y⟩⟩:=h3 rfl
  ·rw[Y] at hpos;simp at hpos
  obtain⟨g0,vs,g1,g2,g3,g4,g5,g6⟩:=(hs.inv.obj id2 _ hh2).rarr h5;refine⟨_,_,_,Y,g5,g0,fun j u I=>?_⟩;rw[Addr.add_mid,cell_of_row w b _ ⟨vs⟩ te2 (0,0) g1];rw[At] at I;split at I
  ·rw[An] at I;simpa using I
  ·cases I
 have N:news.length=rows.length*ei.size:=by rw[J.length,iV hrl]
 obtain⟨inf,dd,z,g1,g2,g3,g4,g5,g6,g7,g8⟩:=(hT.get hei).ex;have hu:=(hT.get hi).slice hk;have hzs:z.cells.size=ei.size:=by
  have h1:=(iM (S:=S) g7).length;rw[(hT.get hei).len] at h1;simpa using h1
 simp only[aT,b6] at hvx;obtain⟨_,hv | ⟨te',es',elems',h1,h2,h3⟩⟩:=hvx
 ·rw[hh'] at hv;cases hv
 rw[hh'] at h1;cases h1;obtain⟨h4,hcase⟩:=h3 rfl;have hbig:elems.length+rows.length≤140737488355328:=by
  have:(elems.length+rows.length)*1≤(elems.length+rows.length)*ei.bytes:=C2 _ heb';omega
 have hone:∀u∈news,u.oneCell'=true:=J.one;have hcap:∀old,elems.length+rows.length≤grownCap w (elems.length+rows.length) old e∧grownCap w (elems.length+rows.length) old e≤maxLen:=fun old=>
  ⟨grownCap_ge _ _ _ _,grownCap_le_maxLen _ _ _ _ (by unfold maxLen;omega)⟩
 have hlen':(elems++rows).length=elems.length+rows.length:=by simp
 have O:∀(Z:List Value) (old:Nat),aW S μ st'.h elems.flatten Z→∀g0:(∀r∈elems,r.length=ei.size),
   lW S (upd μ id (some (w.heap.size,0,grownCap w (elems.length+rows.length) old e))) (upd st'.h id (some (.rarr e ei.size (elems++rows))))
    (w.drew.alloc (.cells (Z.toArray++news.toArray++Builtin.zeroCells z.cells (grownCap w (elems.length+rows.length) old e-(elems.length+rows.length))) e)) id (.rarr e ei.size (elems++rows)):=by
  intro Z old hol g0;obtain⟨hc1,hc2⟩:=hcap old;have aa:=hol.length;rw[iV g0] at aa;refine⟨?_,.inr ⟨w.heap.size,0,grownCap w (elems.length+rows.length) old e,(Z.toArray++news.toArray++Builtin.zeroCells z.cells (grownCap w (elems.length+rows.length) old e-(elems.length+rows.length))).toList,aI _ _ _,B4 w.drew _,?_,by simpa using hc1,⟨hc2,qD hs.inv⟩,?_,fun o _=>fO hs.inv o⟩⟩
  ·intro r q;rcases δ.1 q with q | q
   ·exact g0 r q
   ·exact hrl r q
  ·simp only[Ct,τ,A9,size_zeroCells,hzs];simp only[aa,N,A6,←Ay];exact Av _ (by omega)
  ·simp only[Ct,Cc,τ,flatten_append];rw[Cs (by simp[aa,N,Ay]),A3 (by simp[aa,N,Ay])];exact(aW.evolve (hE _ _) _ _ hol).append (aW.evolve (hE _ _) _ _ J)
 rcases hcase with⟨h5,Y,h7⟩ | ⟨b,base,cap,h5,Y⟩
 ·--the first elements
  subst Y;simp only[length_nil,A6] at hroom hbig O hcap;have q:=run_append_nil (P:=P) w t o.type e inf z hu g1 g6 ad rows.length cc news (by rw[N,g3]) W (by omega) (by omega) (by rw[g4];omega);refine⟨_,_,w.heap.size,_,(0,grownCap w rows.length 0 e),fT ho h7 hvy1 q,.inl (le_refl _),WChg.alloc_drew w _,?_,fun o v e=>(by rw[fO hs.inv o] at e;cases e),fun m e=>le_refl _,hE _ _,?_⟩
  ·have:=O [] 0 (by simp[aW]) (by simp);simpa using this
  ·simp only[aT,b6];exact⟨⟨_,_,_,rfl⟩,.inr ⟨e,ei.size,_,aI _ _ _,by simp,fun _=>⟨by simp,.inr ⟨w.heap.size,0,_,aI _ _ _,by simp⟩⟩⟩⟩
 ·obtain⟨q0,vs,q1,q2,q3,q4,q5,q6⟩:=(hs.inv.obj id _ hh').rarr h5;have hce:elems.length*ei.size≤cap*ei.size:=Av _ q3;simp only[sub_zero,Nat.zero_mul,By] at Y;by_cases ab:elems.length+rows.length≤cap
  ·--there is room
   have hce2:(elems.length+rows.length)*ei.size≤cap*ei.size:=Av _ ab;rw[Ay] at hce2;have q:=kH (P:=P) w t o.type e inf hu g1 b base elems.length cap ⟨vs⟩ q1 ad rows.length cc news (by rw[N,g3]) W hone ab (by rw[g3,N];simp only[size_toArray];omega);rw[g3] at q;have hW:=WChg.setRow w b ⟨vs⟩ ⟨vs.take (base+elems.length*ei.size)++news++vs.drop (base+elems.length*ei.size+news.length)⟩ e (0,0) q1
   refine⟨_,_,b,_,(base,cap),fT ho Y hvy1 q,.inr ⟨_,h5⟩,hW,⟨?_,.inr ⟨b,base,cap,_,aI _ _ _,hW.new,?_,by rw[hlen'];omega,q4,?_,q6⟩⟩,fun o v e=>(by
     by_cases hb:base≤o
     ·rw[q6 o hb] at e;cases e
     ·obtain⟨vs0,t0,fr0,p1,p2⟩:=hs.inv.holds.1 b o v e;rw[q1] at p1;cases p1;refine⟨_,_,_,rfl,?_⟩;simp only[List.getElem?_toArray] at p2 ⊢;have hlt:o<vs.length:=(Aa.1 p2).1
      rw[A0,Ba (by simp;omega),At,ξ (by omega)]
      exact p2),fun m e=>iU q4.2 m e,hE _ _,?_⟩
   ·intro r q;rcases δ.1 q with q | q
    ·exact q0 r q
    ·exact hrl r q
   ·simp only[τ,Aq,Bz];omega
   ·rw[hlen',flatten_append];have e1:((vs.take (base+elems.length*ei.size)++news++vs.drop (base+elems.length*ei.size+news.length)).drop base).take ((elems.length+rows.length)*ei.size)=(vs.drop base).take (elems.length*ei.size)++news:=by
     rw[A0,List.drop_append_of_le_length (by simp;omega),←A0,Cs (by simp[Ay];omega)];rw[A3 (by simp[Ay];omega),drop_take];rw[show base+elems.length*ei.size-base=elems.length*ei.size by omega]
    rw[e1];exact(aW.evolve (hE _ _) _ _ q5).append (aW.evolve (hE _ _) _ _ J)
   ·simp only[aT,b6];exact⟨⟨_,_,_,rfl⟩,.inr ⟨e,ei.size,_,aI _ _ _,by simp,fun _=>⟨by simp,.inr ⟨b,base,cap,aI _ _ _,by simp⟩⟩⟩⟩
  ·--into a new block
   have q:=run_append_grow (P:=P) w t o.type e inf z hu g1 g6 ⟨b,base,none⟩ elems.length cap ((vs.drop base).take (elems.length*ei.size)) (by rw[g3];simp;omega) (by
     intro j v I;rw[Addr.add_mid,cell_of_row w b _ ⟨vs⟩ e (0,0) q1];rw[At] at I;split at I
     ·rw[An] at I;simpa using I
     ·cases I) ad rows.length cc news (by rw[N,g3]) W (by omega) (by omega) (by rw[g4];exact growslice_fits (by omega) hroom)
   refine⟨_,_,w.heap.size,_,(0,grownCap w (elems.length+rows.length) cap e),fT ho Y hvy1 q,.inl (le_refl _),WChg.alloc_drew w _,?_,fun o v e=>(by rw[fO hs.inv o] at e;cases e),fun m e=>le_refl _,hE _ _,?_⟩
   ·have:=O _ cap q5 q0;simpa using this
   ·simp only[aT,b6];exact⟨⟨_,_,_,rfl⟩,.inr ⟨e,ei.size,_,aI _ _ _,by simp,fun _=>⟨by simp,.inr ⟨w.heap.size,0,_,aI _ _ _,by simp⟩⟩⟩⟩
theorem aGa {y:V}{id te es:Nat}{elems:List (List R)}(hd:o.dst=some d) (J:d<n) {st':St}{G:Ctx}{S:Sto}{μ:Mu}{a:Act}{w:World}{K:Act→World→Prop}{Q:Exit→Act→World→Prop}
  (hs:Sim G n S μ st' a w) (q:∀b c',μ id=some (b,c')→∃ao,st'.h id=some ao) (hk:∀S' μ' N w',Sim G n S' μ' (Eff.apply ⟨some (d,some y),[(id,some (.rarr te es elems))]⟩ st') N w'→K N w')
  (h:∃w' v b I c,(execOp a.eval o).run P w=.ok (.value v) w'∧(w.heap.size≤b∨∃c',μ id=some (b,c'))∧WChg w w' b I∧lW S (upd μ id (some (b,c))) (upd st'.h id (some (.rarr te es elems))) w' id (.rarr te es elems)∧
   (∀o v,S.cell b o=some v→∃vs t fr,I=.cells vs t fr∧vs[o]?=some v)∧(∀m,S.mapo b=some m→w.heap.size≤b)∧Evolve S μ st'.h S (upd μ id (some (b,c))) (upd st'.h id (some (.rarr te es elems)))∧aT S (upd μ id (some (b,c))) (upd st'.h id (some (.rarr te es elems))) y v):
  ∀ro,o.wpIn (Wd ro) 0 P a w K Q:=by
 obtain⟨w',v,b,I,c,Z,hb,hw,hO,hS,O,W,hv⟩:=h;refine fun ro=>iG Z ?_
 rw[hd];have hi:=hs.inv.chg (id:=id) (cap:=c) (ao:=.rarr te es elems) hw (hb.imp (fun h=>h) fun⟨c',h⟩=>by obtain⟨ao,Y⟩:=q _ _ h;exact⟨_,c',Y,h⟩) W hO hS O;have:=hs.put hi W J (x:=some y) (v:=v) (fun z hz=>by cases hz;exact hv);refine hk S (upd μ id (some (b,c))) _ _ ?_;unfold Eff.apply;rw[dE];exact this
theorem aKr {t e:TypeId}{i ei:TI}{x y:Operand}{id q sz J:Nat}{elems rows:List (List R)}(hT:Tok P T) (ho:o.op=.call { callee:=.builtin .append,args:= #[x,y],argTypes:= #[t,t] }) (hd:o.dst=some d) (Y:d<n)
  (hi:T[t]?=some (some i)) (hk:i.k=.sl e) (Z:T[e]?=some (some ei)) (aa:Nat.ble 1 ei.size=true) (ab:Nat.ble 1 ei.bytes=true)
  (hx:opv st x=some (.one (.ra id 0 sz sz))) (hh:st.h id=some (.rarr e ei.size elems)) (ac:sz=elems.length) (hy:opv st y=some (.one (.ra q 0 rows.length rows.length))) (ad:st.h q=some (.rarr J ei.size rows)) (O:0<rows.length)
  (I:(elems.length+rows.length)*ei.bytes≤140737488355328):
  Step P n o st ⟨opr x++opr y,[id,q]⟩ ⟨some (d,some (.one (.ra id 0 (elems.length+rows.length) (elems.length+rows.length)))),[(id,some (.rarr e ei.size (elems++rows)))]⟩:=by
 intro st' ha G S μ a w K Q hs ae;have ag:=aM hs hx fun t ht=>ha.1 t (by simp[ht])
 have ah:=aM hs hy fun t ht=>ha.1 t (by simp[ht])
 have N:st'.h id=some (.rarr e ei.size elems):=by rw[ha.2 id (by simp),hh]
 have W:st'.h q=some (.rarr J ei.size rows):=by rw[ha.2 q (by simp),ad]
 exact aGa hd Y hs (fun _ _ _=>⟨_,N⟩) ae (vX hT ho hi hk Z aa ab ac O I N hs ag ah W)
theorem Inv.emptyR {G:Ctx}{S:Sto}{μ:Mu}{H:c7}{w:World}{id:Nat}(te es:Nat) (h:Inv G S μ H w) (hid:H id=none):Inv G S (upd μ id none) (upd H id (some (.rarr te es []))) w∧Evolve S μ H S (upd μ id none) (upd H id (some (.rarr te es []))):=by
 have N:Evolve S μ H S (upd μ id none) (upd H id (some (.rarr te es []))):=eI hid _ _;refine⟨⟨h.holds,fun j x q=>?_,fun i j x x' b c c' hi q hm I=>?_,fun i x b c hi hm=>?_,h.frame,h.sle,h.sto,h.evo.trans N,h.fre⟩,N⟩
 ·by_cases J:j=id
  ·subst J;rw[aI] at q;cases q;exact⟨by simp,.inl ⟨aI _ _ _,rfl⟩⟩
  ·rw[aS _ _ _ J] at q;exact(h.obj j x q).evolve N (aS _ _ _ J) fun _ _ _=>⟨rfl,fun _=>rfl,rfl⟩
 ·have h1:i≠id:=fun e=>by subst e;rw[aI] at hm;cases hm
  have h2:j≠id:=fun e=>by subst e;rw[aI] at I;cases I
  rw[aS _ _ _ h1] at hi hm;rw[aS _ _ _ h2] at q I;exact h.inj i j x x' b c c' hi q hm I
 ·have h1:i≠id:=fun e=>by subst e;rw[aI] at hm;cases hm
  rw[aS _ _ _ h1] at hi hm;exact h.own i x b c hi hm
theorem aHv {t e:TypeId}{i ei:TI}{x y:Operand}{q W:Nat}{rows:List (List R)}(id:Nat) (hT:Tok P T) (ho:o.op=.call { callee:=.builtin .append,args:= #[x,y],argTypes:= #[t,t] }) (hd:o.dst=some d) (hdn:d<n)
  (hi:T[t]?=some (some i)) (hk:i.k=.sl e) (hei:T[e]?=some (some ei)) (hes:Nat.ble 1 ei.size=true) (heb:Nat.ble 1 ei.bytes=true)
  (hx:opv st x=some (.one (.c .nl))) (hid:st.h id=none) (hy:opv st y=some (.one (.ra q 0 rows.length rows.length))) (hh2:st.h q=some (.rarr W ei.size rows)) (Z:0<rows.length)
  (O:rows.length*ei.bytes≤140737488355328):
  Step P n o st ⟨opr x++opr y,[id,q]⟩ ⟨some (d,some (.one (.ra id 0 rows.length rows.length))),[(id,some (.rarr e ei.size rows))]⟩:=by
 intro st' ha G S μ a w K Q hs hk';have J:st'.h id=none:=by rw[ha.2 id (by simp),hid]
 obtain⟨hi',hE⟩:=hs.inv.emptyR e ei.size J;have Y:Sim G n S (upd μ id none) ⟨st'.e,upd st'.h id (some (.rarr e ei.size [])),st'.d⟩ a w:=⟨hi',hs.size,hs.defers.evolve hE,fun t v e=>aT.evolve hE v _ (hs.env t v e)⟩
 have N:=aM hs hx fun t ht=>ha.1 t (by simp[ht])
 have hvy:=aM hs hy fun t ht=>ha.1 t (by simp[ht])
 have I:st'.h q=some (.rarr W ei.size rows):=by rw[ha.2 q (by simp),hh2]
 simp only[aT,b6,Rep] at N;have hvx':aT S (upd μ id none) (upd st'.h id (some (.rarr e ei.size []))) (.one (.ra id 0 0 0)) (a.eval x):=by
  simp only[aT,b6];exact⟨⟨_,_,_,N⟩,.inr ⟨e,ei.size,[],aI _ _ _,le_refl _,fun _=>⟨le_refl _,.inl ⟨aI _ _ _,rfl,N⟩⟩⟩⟩
 have hne:q≠id:=fun e=>by subst e;rw[J] at I;cases I
 have:=vX (elems:=[]) (id:=id) hT ho hi hk hei hes heb rfl Z (by simpa using O) (aI _ _ _) Y hvx' (aT.evolve hE _ _ hvy) (by
  show upd st'.h id (some (.rarr e ei.size [])) q=_;rw[aS _ _ _ hne]
  exact I)
 refine aGa hd hdn Y (fun _ _ _=>⟨_,aI _ _ _⟩) (fun S' μ' a' w' h=>hk' S' μ' a' w' ?_) this;have e1:Eff.apply ⟨some (d,some (.one (.ra id 0 (([]:List (List R)).length+rows.length) (([]:List (List R)).length+rows.length)))),[(id,some (.rarr e ei.size ([]++rows)))]⟩ ⟨st'.e,upd st'.h id (some (.rarr e ei.size [])),st'.d⟩
   =Eff.apply ⟨some (d,some (.one (.ra id 0 rows.length rows.length))),[(id,some (.rarr e ei.size rows))]⟩ st':=by
  unfold Eff.apply;rw[dE,dE,oW];simp
 rw[e1] at h;exact h
end
section
variable {P:Program}{n:Nat}{o:Oper}{st:St}{d:Nat}{T:TT}
theorem aUk {src dst:TypeId}{i j:TI}{x:Operand}{k k':IntKind}{m:Int}(q:Tok P T) (ho:o.op=.convert src dst x) (hd:o.dst=some d) (J:d<n) (hi:T[src]?=some (some i)) (N:i.k=.int k) (W:T[dst]?=some (some j)) (O:j.k=.int k')
  (hx:opv st x=some (I k m)):Step P n o st ⟨opr x,[]⟩ ⟨some (d,some (I k' (k'.wrap m))),[]⟩:=by
 refine Step.value hd J fun st' ha G S μ a w hs=>?_
 have hv:=eJ (aM hs hx ha.1);refine⟨.int k' (k'.wrap m),?_,by simp[aT,b6,Rep]⟩;have h1:=(q.get hi).int N;have h2:=(q.get W).int O;simp only[execOp,ho,hv,Ad,convert,Ao h1 w,Ao h2 w,κ,Conv.intToInt,Ae]
theorem aUl {src dst e:TypeId}{i j ei:TI}{x:Operand}{v:V}{ids:List Nat}{rows:List (List C)}{ns:List Int}(W:Tok P T) (ho:o.op=.convert src dst x) (hd:o.dst=some d) (hdn:d<n) (hi:T[src]?=some (some i)) (hik:i.k=.sl e) (hei:T[e]?=some (some ei)) (hek:ei.k=.int .u8)
  (Y:T[dst]?=some (some j)) (hjk:j.k=.str) (hx:opv st x=some v) (Z:Src st 1 ids v rows) (hr:rows=ns.map fun m=>[C.int .u8 m]):Step P n o st ⟨opr x,ids⟩ ⟨some (d,some (Go.AM.T (ns.map fun m=>UInt8.ofNat m.toNat))),[]⟩:=by
 refine Step.value hd hdn fun st' ha G S μ a w hs=>?_
 have hv:=aM hs hx ha.1;obtain⟨q,c,news,h1,h2,h3,h4,h5⟩:=Z.rel hs ha.2 hv;have J:=(W.get hi).slice hik;have N:=(W.get hei).int hek;have O:=(W.get Y).str hjk;have I:∀(ns:List Int) (news:List Value),cZ S (ns.map fun m=>[C.int .u8 m]).flatten news→news=ns.map (Value.int .u8):=by
  intro ns
  induction ns with
  | nil=>intro news h;simpa [cZ] using h
  | cons m ns ih=>
   intro news h;simp only[Al,Bf,List.singleton_append,cZ,Rep] at h;obtain⟨u,us,rfl,rfl,h⟩:=h;rw[ih us h];rfl
 rw[hr] at h2;have hn:=I ns news h2;have hrun:(convert src dst (a.eval x)).run P w=.ok (.string ⟨⟨ns.map fun m=>UInt8.ofNat m.toNat⟩⟩) w:=by
  rw[h1];cases q with
  | none=>
   have h6:=h4 rfl;rw[hr] at h6;have:ns=[]:=by simpa using h6
   subst this;exact run_convert_bytes_nil w src e J N _ _ dst O
  | some q=>
   have hlen:rows.length=ns.length:=by rw[hr];simp
   have hl:(loadCells q ns.length).run P w=.ok (ns.map (Value.int .u8)).toArray w:=by
    have:=run_loadCells_list (P:=P) w q (ns.map (Value.int .u8)) (fun j v Y=>h5 q rfl j v (by rw[hn];exact Y));simpa using this
   rw[hlen,run_convert_bytes_string w src dst e _ _ _ J N O,run_bytesToString w _ _ _ ns hl,foldl_push_bytes];simp[ByteArray.empty,ByteArray.emptyWithCapacity];rfl
 refine⟨.string ⟨⟨ns.map fun m=>UInt8.ofNat m.toNat⟩⟩,?_,by simp[aT,b6,Rep]⟩;simp only[execOp,ho,Ad,hrun,κ,Ae]
theorem b7.length {S:Sto}{agg:Bool}:∀{l:List (List C)}{es:List MapEntry},b7 S agg l es→es.length=l.length
 | [],es,h=>by simp only[b7] at h;subst h;rfl
 | r::rs,es,h=>by
  simp only[b7] at h;obtain⟨e,q,rfl,_,h⟩:=h;simp[b7.length h]
theorem aKn {t Y Z:TypeId}{i:TI}{x:Operand}{id:Nat}{agg:Bool}{ents:List (List C)}(hT:Tok P T) (ho:o.op=.call { callee:=.builtin .len,args:= #[x],argTypes:= #[t] }) (hd:o.dst=some d) (J:d<n) (hi:T[t]?=some (some i)) (hk:i.k=.mp Y Z)
  (hx:opv st x=some (.one (.mr id))) (hh:st.h id=some (.map agg ents)) (N:kJ ents):Step P n o st ⟨opr x,[id]⟩ ⟨some (d,some (I .i64 (ents.length:Int))),[]⟩:=by
 refine Step.value hd J fun st' ha G S μ a w hs=>?_
 have hv:=aM hs hx ha.1;have q:st'.h id=some (.map agg ents):=by rw[ha.2 id (by simp),hh]
 simp only[aT,b6] at hv;obtain⟨agg',W,b,c,h1,h2,h3⟩:=hv;rw[q] at h1;cases h1;obtain⟨b',es,clk,O,q2,q3,q4⟩:=hs.inv.obj id _ q;rw[h2] at O;cases O;have hl:=(q3.rep N).length;refine⟨goInt ents.length,jV ho h3 ?_,by simp[aT,b6,Rep,goInt]⟩;have hg:(getObj b).run P w=.ok (.map es clk) w:=MapKept.run_getObj_map q2;simp at hl;simp[Builtin.len_,Ao ((hT.get hi).map hk) w,hg,hl]
end
section
variable {P:Program}{n:Nat}{T:TT}{o:Oper}{st:St}{d:Nat}
theorem s6 {t e:TypeId}{i ei:TI}{x y:Operand}{N es k:Nat}{kk:IntKind}{m:Int}{l r:List R}(hT:Tok P T) (ho:o.op=.indexAddr t x y) (hd:o.dst=some d) (O:d<n) (hi:T[t]?=some (some i)) (hk:i.k=.sl e) (W:T[e]?=some (some ei)) (Y:ei.size=es)
  (hx:opv st x=some (.one (.ras N es l))) (hy:opv st y=some (I kk m)) (hm:m=(k:Int)) (Z:k<N) (hr:(l.drop (k*es)).take es=r):Step P n o st ⟨opr x++opr y,[]⟩ ⟨some (d,some (.one (.pas r))),[]⟩:=by
 refine Step.value hd O fun st' ha G S μ a w hs=>?_
 have hv:=aM hs hx (eO ha).1;have aa:=eJ (aM hs hy (eO ha).2);simp only[aT,b6] at hv;obtain⟨q,cap,h1,h2,h3,h4,h5,h6,b,off,h7,vs,h8,h9⟩:=hv;cases q with
 | none=>have:=(h5 rfl).1;omega
 | some q=>
  obtain⟨h10,h10'⟩:=h7 q rfl;have h11:=h6 q rfl;have ab:q=⟨b,off,none⟩:=by cases q;simp_all
  subst ab;subst hm;refine⟨.pointer (some ⟨b,off+k*es,none⟩),?_,?_⟩
  ·simp only[execOp,ho,h1,aa,Ad,jW hT hi hk W w b off N cap k kk Z,κ,Ae,Y]
  ·simp only[aT,b6];subst hr;refine⟨b,off+k*es,rfl,(vs.drop (k*es)).take es,(h8.drop (k*es)).take es,fun j v J=>?_⟩;rw[At] at J;split at J
   ·rw[An] at J;have:=h9 _ v J;rwa [←Co] at this
   ·cases J
theorem aHp {t:TypeId}{i:TI}{x:Operand}{l:List R}{y:V}(N:Tok P T) (ho:o.op=.load t x) (hd:o.dst=some d) (I:d<n) (hi:T[t]?=some (some i)) (hx:opv st x=some (.one (.pas l)))
  (hl:i.size≤l.length) (O:qS i (l.take i.size)=some y):Step P n o st ⟨opr x,[]⟩ ⟨some (d,some y),[]⟩:=by
 refine Step.value hd I fun st' ha G S μ a w hs=>?_
 have hv:=aM hs hx ha.1;simp only[aT,b6] at hv;obtain⟨b,off,h1,vs,h2,h3⟩:=hv;have Y:=h2.length;refine⟨_,?_,lD (h2.take i.size) O⟩;have W:=mU hs.inv.holds h3;have J:w.rangeAt b off (vs.take i.size):=fun j v q=>by
  rw[At] at q;split at q
  ·exact W j v q
  ·cases q
 simp only[execOp,ho,h1,Ad,run_load (N.get hi) w b off _ J (by simp;omega),κ,Ae]
theorem aCs {t I:TypeId}{i J:TI}{fs:List (Nat×TypeId)}{f q:Nat}{x:Operand}{l:List R}(Y:Tok P T) (ho:o.op=.fieldAddr t x f) (hd:o.dst=some d) (N:d<n) (hi:T[t]?=some (some i)) (hk:i.k=.st fs) (hf:fs[f]?=some (q,I)) (O:T[I]?=some (some J)) (Z:J.size≠0)
  (hx:opv st x=some (.one (.pas l))):Step P n o st ⟨opr x,[]⟩ ⟨some (d,some (.one (.pas (l.drop q)))),[]⟩:=by
 refine Step.value hd N fun st' ha G S μ a w hs=>?_
 have hv:=aM hs hx ha.1;simp only[aT,b6] at hv;obtain⟨b,off,h1,vs,h2,h3⟩:=hv;refine⟨.pointer (some ⟨b,off+q,none⟩),?_,?_⟩
 ·simp only[execOp,ho,h1,Ad,iO Y hi hk hf O Z,κ,Ae]
 ·simp only[aT,b6];refine⟨b,off+q,rfl,vs.drop q,h2.drop q,fun j v W=>?_⟩;rw[An] at W;have:=h3 (q+j) v W;rwa [←Co] at this
theorem aKm {t e:TypeId}{i:TI}{x:Operand}{q es:Nat}{l:List R}(N:Tok P T) (ho:o.op=.call { callee:=.builtin .len,args:= #[x],argTypes:= #[t] }) (hd:o.dst=some d) (J:d<n) (hi:T[t]?=some (some i)) (hk:i.k=.sl e)
  (hx:opv st x=some (.one (.ras q es l))):Step P n o st ⟨opr x,[]⟩ ⟨some (d,some (I .i64 (q:Int))),[]⟩:=by
 refine Step.value hd J fun st' ha G S μ a w hs=>?_
 have hv:=aM hs hx ha.1;simp only[aT,b6] at hv;obtain⟨O,cap,h1,_⟩:=hv;refine⟨goInt q,jV ho h1 ?_,by simp[aT,b6,Rep,goInt]⟩;simp[Builtin.len_,Ao ((N.get hi).slice hk) w]
theorem aHl {t te es:Nat}{i:TI}{x y:Operand}{id k fo sz:Nat}{elems:List (List R)}{v:V}{cs r:List R}(hT:Tok P T) (ho:o.op=.store t x y) (hd:o.dst=none) (hi:T[t]?=some (some i)) (hx:opv st x=some (.one (.rp id k fo sz)))
  (hy:opv st y=some v) (hc:i6 v=some cs) (hh:st.h id=some (.rarr te es elems)) (hsz:sz=elems.length) (hr:elems[k]?=some r) (hcs:cs.length=i.size) (hl:fo+i.size≤es):
  Step P n o st ⟨opr x++opr y,[id]⟩ ⟨none,[(id,some (.rarr te es (elems.set k (bU r fo cs))))]⟩:=by
 refine Step.turn hd hh (by simp) (by simp[AObj.succ]) fun st' ha J G S μ a w hs=>?_
 have hvx:=aM hs hx fun t ht=>ha.1 t (by simp[ht])
 have hvy:=aM hs hy fun t ht=>ha.1 t (by simp[ht])
 simp only[aT,b6] at hvx;obtain⟨_,hv | ⟨te',es',elems',h1,h2,h3⟩⟩:=hvx
 ·rw[J] at hv;cases hv
 rw[J] at h1;cases h1;obtain⟨h4,b,base,cap,h5,h6⟩:=h3 hsz;obtain⟨g0,vs,g1,g2,g3,g4,g5,g6⟩:=(hs.inv.obj id _ J).rarr h5;have O:=dW hvy hc;have W:=O;have hone:=O.one;have hnl:=W.length;have hk:k<elems.length:=(Aa.1 hr).1
 have hres:r.length=es:=g0 r (Ab hr);have hke:(k+1)*es≤elems.length*es:=Av _ hk;have hce:elems.length*es≤cap*es:=Av _ g3;rw[Ay] at hke;generalize hnews:(a.eval y).cells.toList=news at *;have hrun:=run_store (hT.get hi) w b (base+k*es+fo) vs news te (a.eval y) g1 hnews (by omega) (by omega) hone;have hE:=iY (S:=S) (μ:=μ) (o':=.rarr te es (elems.set k (bU r fo cs))) J h5 (by simp[AObj.succ]);have Y:=aJ6 g0 g5 hr;have N:=aC8 g0 k r hr;have hlen:(elems.set k (bU r fo cs)).length=elems.length:=by simp
 have hW:=WChg.setRow w b ⟨vs⟩ ⟨vs.take (base+k*es+fo)++news++vs.drop (base+k*es+fo+news.length)⟩ te (0,0) g1;refine⟨_,_,b,(base,cap),?_,h5,hW,⟨?_,.inr ⟨b,base,cap,_,aI _ _ _,hW.new,?_,by rw[hlen];exact g3,g4,?_,g6⟩⟩,fun o v e=>?_,fun m e=>iU g4.2 m e⟩
 ·simp only[execOp,ho,h6,Ad,hrun,κ,Ae]
 ·intro q hq;rcases List.mem_or_eq_of_mem_set hq with hq | rfl
  ·exact g0 q hq
  ·unfold bU;simp;omega
 ·simp only[τ,Aq,Bz];omega
 ·rw[hlen];have e1:(elems.set k (bU r fo cs)).flatten=elems.flatten.take (k*es)++(r.take fo++cs++r.drop (fo+cs.length))++elems.flatten.drop (k*es+es):=by
   rw[Cd,ξ hk,flatten_append,Bf,N.1,N.2,←A0];rfl
  have e2:((vs.take (base+k*es+fo)++news++vs.drop (base+k*es+fo+news.length)).drop base).take (elems.length*es)=
    ((vs.drop base).take (elems.length*es)).take (k*es)++((((vs.drop (base+k*es)).take es).take fo)++news++(((vs.drop (base+k*es)).take es).drop (fo+cs.length)))++((vs.drop base).take (elems.length*es)).drop (k*es+es):=by
   apply Bw;intro j;simp only[At,An,B0,τ,Aq,Bz];have hm1:min (k*es) (min (elems.length*es) (vs.length-base))=k*es:=by omega
   have hm2:min (base+k*es+fo) vs.length=base+k*es+fo:=by omega
   have hm3:min fo es=fo:=by omega
   have hm4:min es (vs.length-(base+k*es))=es:=by omega
   simp only[hm1,hm2,hm3,hm4,hnl];by_cases c1:j<k*es
   ·have I:j<elems.length*es:=by omega
    have a2:base+j<base+k*es+fo:=by omega
    have a3:base+j<base+k*es+fo+cs.length:=by omega
    have a4:j<k*es+(fo+cs.length+(es-(fo+cs.length))):=by omega
    simp[c1,I,a2,a3,a4]
   ·by_cases c2:j<k*es+fo
    ·have I:j<elems.length*es:=by omega
     have a2:base+j<base+k*es+fo:=by omega
     have a3:base+j<base+k*es+fo+cs.length:=by omega
     have a4:j<k*es+(fo+cs.length+(es-(fo+cs.length))):=by omega
     have a5:j-k*es<fo+cs.length:=by omega
     have Z:j-k*es<fo:=by omega
     have a7:j-k*es<es:=by omega
     simp[c1,I,a2,a3,a4,a5,Z,a7,show base+k*es+(j-k*es)=base+j by omega]
    ·by_cases c3:j<k*es+fo+cs.length
     ·have I:j<elems.length*es:=by omega
      have a2:¬base+j<base+k*es+fo:=by omega
      have a3:base+j<base+k*es+fo+cs.length:=by omega
      have a4:j<k*es+(fo+cs.length+(es-(fo+cs.length))):=by omega
      have a5:j-k*es<fo+cs.length:=by omega
      have Z:¬j-k*es<fo:=by omega
      simp[c1,I,a2,a3,a4,a5,Z,show base+j-(base+k*es+fo)=j-k*es-fo by omega]
     ·by_cases c4:j<k*es+es
      ·have I:j<elems.length*es:=by omega
       have a3:¬base+j<base+k*es+fo+cs.length:=by omega
       have a4:j<k*es+(fo+cs.length+(es-(fo+cs.length))):=by omega
       have a5:¬j-k*es<fo+cs.length:=by omega
       have Z:fo+cs.length+(j-k*es-(fo+cs.length))<es:=by omega
       simp[c1,I,a3,a4,a5,Z,show base+k*es+fo+cs.length+(base+j-(base+k*es+fo+cs.length))=base+j by omega,show base+k*es+(fo+cs.length+(j-k*es-(fo+cs.length)))=base+j by omega]
      ·have a3:¬base+j<base+k*es+fo+cs.length:=by omega
       have a4:¬j<k*es+(fo+cs.length+(es-(fo+cs.length))):=by omega
       by_cases c5:j<elems.length*es
       ·have a5:k*es+es+(j-(k*es+(fo+cs.length+(es-(fo+cs.length)))))<elems.length*es:=by omega
        simp[a3,a4,c5,a5,show base+k*es+fo+cs.length+(base+j-(base+k*es+fo+cs.length))=base+j by omega,show base+(k*es+es+(j-(k*es+(fo+cs.length+(es-(fo+cs.length))))))=base+j by omega]
       ·have a5:¬k*es+es+(j-(k*es+(fo+cs.length+(es-(fo+cs.length)))))<elems.length*es:=by omega
        simp[a4,c5,a5]
  rw[e1];show aW S _ _ _ (((vs.take (base+k*es+fo)++news++vs.drop (base+k*es+fo+news.length)).drop base).take (elems.length*es));rw[e2];refine aW.evolve hE _ _ ?_;exact((g5.take (k*es)).append (((Y.take fo).append W).append (Y.drop (fo+cs.length)))).append (g5.drop (k*es+es))
 ·--what stays is not touched
  by_cases hb:base≤o
  ·rw[g6 o hb] at e;cases e
  ·obtain⟨vs0,t0,fr0,q1,q2⟩:=hs.inv.holds.1 b o v e;rw[g1] at q1;cases q1;refine⟨_,_,_,rfl,?_⟩;simp only[List.getElem?_toArray] at q2 ⊢;have hlt:o<vs.length:=(Aa.1 q2).1
   rw[A0,Ba (by simp;omega),At,ξ (by omega)];exact q2
end
end Go.AM
