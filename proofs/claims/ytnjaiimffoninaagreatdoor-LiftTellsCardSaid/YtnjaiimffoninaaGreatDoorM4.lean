/-
  Texts Am20 to Ax5 in one.
-/
import Derived.Test.YtnjaiimffoninaaGreatDoorM3
import Derived.ProofKit
import Derived.SizedLaws
import Derived.OpenShut
import Derived.Carry
import Derived.Laws.BytesArg
open List (all_eq_true append_assoc append_nil drop_drop drop_take drop_zero eq_nil_of_length_eq_zero flatten_append flatten_cons foldl_cons length_append length_cons length_drop length_nil length_take map_cons map_nil map_toArray mem_append mem_cons mem_map mem_of_mem_take mem_or_eq_of_mem_set set_eq_take_append_cons_drop size_toArray take_append_of_le_length take_left' take_of_length_le take_take)
open Nat (add_assoc add_mul add_zero beq_refl eq_of_beq_eq_true le_of_ble_eq_true le_refl le_trans lt_irrefl lt_of_lt_of_le min_eq_left mul_le_mul_left mul_le_mul_right sub_zero zero_add zero_le)
namespace Go.AM
open Go
theorem WChg.putObj {w:World}{b:Nat}{o o':Obj}(h:w.heap[b]?=some o'):WChg w (w.putObj b o) b o:=
 ⟨rfl,rfl,rfl,by simp,World.putObj_heap_same (Cu.1 h).1,fun k _ hk=>World.putObj_heap_other hk⟩
def a6x:List Nat→List V→List (Nat×V)
 | t::ts,v::vs=>a6x ts vs++[(t,v)]
 | _,_=>[]
def aTi (P:Program) (id:Nat) (args:List V) (hin:List (Nat×AObj)) (go:Bool) (hout:List (Nat×AObj)):Prop:=
 ∀ro S μ w l c vals,Inv ⟨w,S,rQ μ (look hin),μ,look hin⟩ S μ (look hin) w→c6 S μ (look hin) args vals→μ id=some (l,c)→
  ∃fn tmps asg body,(Instr.yield l ⟨vals⟩).run P w=.ok (.round l fn tmps asg body) w∧
   RoundIn (Wd ro) 0 P l fn tmps asg body w fun e w'=>∃S' μ',e=.returned (.bool go)∧Inv ⟨w,S,rQ μ (look hin),μ,look hin⟩ S' μ' (look hout) w'
theorem c6.length {S:Sto}{μ:Mu}{H:dD}:∀{l:List V}{us:List Value},c6 S μ H l us→us.length=l.length
 | [],_,h=>by simp only[c6] at h;subst h;rfl
 | _::l,_,h=>by
  simp only[c6] at h;obtain⟨v,vs',rfl,_,h2⟩:=h;simp[c6.length h2]
theorem aH9 {S:Sto}{μ:Mu}{H:dD}:∀{ps:List Nat}{vs:List V}{us:List Value}{e:List (Nat×V)}{tmps:Array Value},c6 S μ H vs us→vs.length=ps.length→(∀t∈ps,t<tmps.size)→
  (∀t v,look e t=some v→aY S μ H v (tmps.getD t undef))→
  ((ps.zip us).foldl (fun(tmps:Array Value) (x:Nat×Value)=>tmps.setIfInBounds x.1 x.2) tmps).size=tmps.size∧
  ∀t v,look (a6x ps vs++e) t=some v→aY S μ H v (((ps.zip us).foldl (fun(tmps:Array Value) (x:Nat×Value)=>tmps.setIfInBounds x.1 x.2) tmps).getD t undef)
 | [],vs,us,e,tmps,y,hl,q,he=>by
  cases vs with
  | nil=>exact⟨rfl,he⟩
  | cons _ _=>simp at hl
 | p::ps,[],us,e,tmps,y,hl,q,he=>by simp at hl
 | p::ps,x::vs,us,e,tmps,y,hl,q,he=>by
  simp only[c6] at y;obtain⟨u,I,rfl,h1,h2⟩:=y;have hp:=q p (by simp)
  have key:=aH9 (ps:=ps) (vs:=vs) (us:=I) (e:=(p,x)::e) (tmps:=tmps.setIfInBounds p u) h2 (by simpa using hl) (fun t ht=>by rw[Array.size_setIfInBounds];exact q t (by simp[ht])) (fun t v ht=>by
   rw[aKk _ _ _ _ hp];simp only[look] at ht;by_cases hb:t=p
   ·subst hb;simp only[Cg,Cw] at ht;cases ht;rw[κ rfl];exact h1
   ·have:Nat.beq t p=false:=by
     cases J:Nat.beq t p with
     | false=>rfl
     | true=>exact absurd (Aa J) hb
    simp only[this,Ba,B5] at ht
    rw[θ hb];exact he t v ht)
  simp only[List.zip_cons_cons,Cm];refine⟨by rw[key.1];simp,fun t v ht=>key.2 t v ?_⟩;simpa [a6x,Aw] using ht
def a39:Exit→Option (Option Code)
 | .normal=>some none
 | .ret=>some (some .ret)
 | .exit id=>some (some (.exit id))
 | _=>none
def a2u (j:Option Code):LoopState:=if j.isNone then .ready else .done
structure RndEnd (hin hout:List (Nat×AObj)) (j:Option Code) (ex:Exit) (st:St):Prop where
 jump:a39 ex=some j
 out:dU (fun p=>∃o,st.h p.1=some o∧Ole (fun i=>i) o p.2) hout
 ok:(subset (dI hout) (keys hout)&&distinct (keys hout)&&subset (keys hin) (keys hout))=true
theorem cQ {α:Type}{k i:Nat}{x:α}{l:List (Nat×α)}(h:i≠k):look ((k,x)::l) i=look l i:=by
 have:Nat.beq i k=false:=by
  cases hb:Nat.beq i k with
  | false=>rfl
  | true=>exact absurd (Aa hb) h
 simp[look,this]
theorem bQ {α:Type}{k:Nat}{x:α}{l:List (Nat×α)}:look ((k,x)::l) k=some x:=by simp[look]
theorem a34 {S:Sto}{μ:Mu}{H:dD}{e:List (Nat×V)}{tmps:Array Value}(h:∀t v,(t,v)∈e→aY S μ H v (tmps.getD t undef)):∀t v,look e t=some v→aY S μ H v (tmps.getD t undef):=
 fun t v ht=>h t v (bI ht)
theorem aHh {S:Sto}{μ:Mu}{hl:List (Nat×AObj)}{id:Nat}{o:AObj}{p:Nat×Nat×Nat}(h:look hl id=none):Evolve S μ (look hl) S (upd μ id (some p)) (look ((id,o)::hl)):=
 ⟨S.le_refl,fun j x hj=>by
  have q:j≠id:=by rintro rfl;rw[h] at hj;cases hj
  exact⟨x,by rw[cQ q];exact hj,x.succ_refl (aV _ _ _ q)⟩⟩
theorem a56.aside {w:World}{F:Nat→Prop}{l:Nat}{o:Obj}{r:Loop}(h:a56 w F) (hl:w.heap[l]?=some (.loop r)):a56 (w.putObj l o) F:=
 ⟨fun g y=>by
  obtain⟨h1,t,fr,h2⟩:=h.1 g y;have q:g≠l:=by rintro rfl;rw[h2] at hl;cases hl
  exact⟨by simpa using h1,t,fr,by rw[World.putObj_heap_other q];exact h2⟩,h.2⟩
theorem Inv.aside {G:Ctx}{S:Sto}{μ:Mu}{H:dD}{w:World}{l:Nat}{o:Obj}{r:Loop}(hlr:G.w0.heap[l]?=some (.loop r)) (h:Inv G S μ H w) (hl:l<G.w0.heap.size) (O:¬G.F l) (y:(∀k,S.cell l k=none)∧S.mapo l=none):
  Inv ⟨G.w0.putObj l o,G.S0,G.F,G.μ0,G.h0⟩ S μ H (w.putObj l o):=by
 obtain⟨h1,h2,h3,h4,h5,h6,Y,Z,h9⟩:=h;refine⟨⟨fun b k v e=>?_,fun b mk e=>?_⟩,fun j x hj=>?_,h3,fun i x b c hi hm=>?_,?_,h6,fun b hb I=>?_,Z,h9⟩
 ·obtain⟨vs,t,fr,k1,k2⟩:=h1.1 b k v e;have:b≠l:=by rintro rfl;rw[y.1] at e;cases e
  exact⟨vs,t,fr,by rw[World.putObj_heap_other this];exact k1,k2⟩
 ·have:b≠l:=by rintro rfl;rw[y.2] at e;cases e
  rw[World.putObj_heap_other this];exact h1.2 b mk e
 ·refine(h2 j x hj).evolve (Evolve.refl _ _ _) rfl fun b c hm=>⟨World.putObj_heap_other ?_,fun _=>rfl,rfl⟩
  rintro rfl;rcases h4 j x b c hj hm with h | h
  ·omega
  ·exact O h
 ·rcases h4 i x b c hi hm with h | h
  ·exact .inl (by simpa using h)
  ·exact .inr h
 ·obtain⟨f1,f2,f3,f4,f5,f6⟩:=h5;refine⟨f1,f2,f3,by simpa using f4,fun k hk J=>?_,f6.aside hlr⟩;simp only[World.putObj_size] at hk;by_cases q:k=l
  ·subst q;rw[World.putObj_heap_same hk,World.putObj_heap_same (B8 hk f4)]
  ·rw[World.putObj_heap_other q,World.putObj_heap_other q];exact f5 k hk J
 ·simp only[World.putObj_size] at hb;exact Y b hb I
theorem Inv.keep {G:Ctx}{S:Sto}{μ:Mu}{H:dD}{w:World}{hout:List (Nat×AObj)}(hs:Inv G S μ H w) (hout':dU (fun p=>∃o,H p.1=some o∧Ole (fun i=>i) o p.2) hout)
  (k2:subset (dI hout) (keys hout)=true) (Z:∀id o,G.h0 id=some o→id∈keys hout):Inv G S μ (look hout) w:=by
 have q:∀i∈keys hout,Good H (look hout) (fun i=>i) i:=by
  intro i hi;obtain⟨o',I⟩:=eJ hi;obtain⟨o,g1,g2⟩:=hout'.mem _ (bI I);exact⟨o,o',g1,I,g2⟩
 refine⟨hs.holds,fun id o y=>?_,fun i j o o' b c c' hi hj hm O=>?_,fun i o b c hi hm=>?_,hs.frame,hs.sle,hs.sto,⟨hs.evo.le,fun id o y=>?_⟩,hs.fre⟩
 ·obtain⟨J,g1,g2⟩:=hout'.mem _ (bI y);exact(hs.obj _ _ g1).ren g2 fun i hi=>q i (bJ k2 i (jH (bI y) i hi))
 ·obtain⟨J,g1,g2⟩:=hout'.mem _ (bI hi);obtain⟨Y,g3,g4⟩:=hout'.mem _ (bI hj);exact hs.inj _ _ _ _ b c c' g1 g3 hm O
 ·obtain⟨J,g1,g2⟩:=hout'.mem _ (bI hi);exact hs.own _ _ b c g1 hm
 ·obtain⟨o',g1,g2⟩:=hs.evo.obj id o y;obtain⟨J,Y,g3,g4,g5⟩:=q id (Z id o y);rw[g1] at g3;cases g3;exact⟨Y,g4,AObj.succ_trans g2 g5.succ fun e _=>e⟩
def a2y (id:Nat) (i:LI) (e:List (Nat×V)) (args:List V) (hin hout:List (Nat×AObj)):Bool:=
 subset (jU e) (keys hin)&&subset (dI hin) (keys hin)&&subset (V.refsL args) (keys hin)&&(hin.all fun p=>p.2.live)&& !((keys hin).contains id)&& !((keys hout).contains id)&&Nat.beq args.length i.params.size&&(i.params.toList.all fun t=>Nat.blt t i.n)
theorem aGz {α:Type}:∀{l:List (Nat×α)}{id:Nat},(!((keys l).contains id))=true→look l id=none:=by
 intro l id h;refine uT fun hm=>?_
 simp only[B1] at h;have:(keys l).contains id=true:=by simpa [keys] using hm
 rw[this] at h;cases h
theorem aTi.of {P:Program}{id:Nat}{i:LI}{e:List (Nat×V)}{args:List V}{hin hout:List (Nat×AObj)}{j:Option Code}
  (h:∀l,AWp (some l) P i.n (keys hin) i.asg (mk (a6x i.params.toList args++e) hin) (fun ex st=>ex=.normal∧AWp (some l) P i.n (keys hin) i.body st (RndEnd hin hout j)))
  (hok:a2y id i e args hin hout=true):aTi P id args ((id,.lp .ready none i e)::hin) j.isNone ((id,.lp (a2u j) j i e)::hout):=by
 simp only[a2y,ζ] at hok;obtain⟨⟨⟨⟨⟨⟨⟨o1,o2⟩,o3⟩,o4⟩,o5⟩,o6⟩,o7⟩,o8⟩:=hok;have hid:=aGz o5;have hid2:=aGz o6;intro ro S μ w l c vals hI hv hm;obtain⟨b,r,fn,tmps,g1,g2,g3,g4,g5,g6⟩:=hI.obj id _ bQ;rw[hm] at g1;cases g1;have Z:=dE g2;have hlen:vals.length=args.length:=c6.length hv;have aa:∀j o,look hin j=some o→look ((id,.lp .ready none i e)::hin) j=some o∧o≠ .dead:=by
  intro j o hj;have ac:j≠id:=by rintro rfl;rw[hid] at hj;cases hj
  refine⟨by rw[cQ ac];exact hj,?_⟩;have:=(Au.1 o4) _ (bI hj);rintro rfl;simp[AObj.live] at this
 have ae:∀j∈keys hin,Good (look ((id,.lp .ready none i e)::hin)) (look hin) (fun i=>i) j:=by
  intro j hj;obtain⟨o,ho⟩:=eJ hj;obtain⟨I,J⟩:=aa j o ho;exact⟨o,o,I,ho,.refl_id J⟩
 have hI1:=hI.hand aa o2;have O:¬rQ μ (look hin) l:=by
  rintro⟨j,o,c',I,J⟩;have:=hI.inj j id o _ l c' _ (aa j o I).1 bQ J hm;subst this;rw[hid] at I;cases I
 have hargs:c6 S μ (look hin) args vals:=by
  have:=c6.ren (H:=look ((id,.lp .ready none i e)::hin)) (H':=look hin) (σ:=fun i=>i) args vals (fun j hj=>ae j (bJ o3 j hj)) (by rw[V.renL_id];exact hv);exact this
 have he:∀t v,(t,v)∈e→aY S μ (look hin) v (tmps.getD t undef):=fun t v ht=>by
  have:=aY.ren (H:=look ((id,.lp .ready none i e)::hin)) (H':=look hin) (σ:=fun i=>i) v _ (fun j hj=>ae j (bJ o1 j (pA ht j hj))) (by rw[V.ren_id];exact g4 t v ht);exact this
 have hps:∀t∈i.params.toList,t<tmps.size:=fun t ht=>by
  rw[g3];exact Ak ((Au.1 o8) t ht)
 have hpl:args.length=i.params.toList.length:=by rw[Aa o7];simp
 obtain⟨z1,z2⟩:=aH9 (ps:=i.params.toList) hargs hpl hps (a34 he);have ai:(Instr.yield l ⟨vals⟩).run P w=.ok (.round l fn ((i.params.toList.zip vals).foldl (fun(tmps:Array Value) (x:Nat×Value)=>tmps.setIfInBounds x.1 x.2) tmps) i.asg i.body) w:=by
  rw[run_yield g2 (by simp only[size_toArray];rw[hlen];exact Aa o7)];congr 2;rw[←Array.foldl_toList,Array.toList_zip]
 refine⟨fn,_,i.asg,i.body,ai,roundIn_of_wpIn trivial ?_⟩;have ag:Ctx.keeps ⟨w,S,rQ μ (look hin),μ,look hin⟩ (keys hin):=uZ;refine h l ⟨w,S,rQ μ (look hin),μ,look hin⟩ S μ _ w _ ⟨ag,⟨_,g2⟩,O⟩ ⟨hI1,by rw[z1,g3],rfl,z2⟩ ?_;rintro ex st1 S1 μ1 a1 w1 ⟨rfl,hbody⟩ s1;have hw1:w1.heap[l]?=some (.loop { state:=.ready,pending:=none,fn:=fn,tmps:=tmps,params:=i.params,assign:=i.asg,body:=i.body,defers:=r }):=(s1.inv.frame.block l Z O).trans g2;refine⟨_,run_beginRound hw1 rfl,?_⟩;have hS1:=s1.inv.sto l Z O;have hI2:=Inv.aside (h:=s1.inv) (hlr:=g2) (o:=.loop { state:=.busy,pending:=none,fn:=fn,tmps:=tmps,params:=i.params,assign:=i.asg,body:=i.body,defers:=r }) Z O ⟨fun k=>by rw[hS1.1];exact g5 k,by rw[hS1.2];exact g6⟩;refine hbody ⟨w.putObj l (.loop { state:=.busy,pending:=none,fn:=fn,tmps:=tmps,params:=i.params,assign:=i.asg,body:=i.body,defers:=r }),S,rQ μ (look hin),μ,look hin⟩ S1 μ1 a1 _ _ ⟨ag,⟨_,World.putObj_heap_same Z⟩,O⟩ ⟨hI2,s1.size,by have:=s1.defers;simpa using this,s1.env⟩ ?_;rintro ex st3 S3 μ3 a3 w3 ⟨hj,hout',aj⟩ s3;simp only[ζ] at aj;obtain⟨⟨p1,p2⟩,p3⟩:=aj;have hw3:w3.heap[l]?=some (.loop { state:=.busy,pending:=none,fn:=fn,tmps:=tmps,params:=i.params,assign:=i.asg,body:=i.body,defers:=r }):=(s3.inv.frame.block l (by simpa using Z) O).trans (World.putObj_heap_same Z);have y:=s3.inv.keep hout' p1 fun id o ho=>bJ p3 id (Ah.2 ⟨_,bI (show look hin id=some o from ho),rfl⟩)
 have hS3:=y.sto l (by simpa using Z) O;have ab:(∀k,S3.cell l k=none)∧S3.mapo l=none:=⟨fun k=>by rw[hS3.1];exact g5 k,by rw[hS3.2];exact g6⟩
 have hlt3:=dE hw3;have ad:∃v w',(Instr.endRound l j).run P w3=.ok v w'∧∃S' μ',Ending.returned v=.returned (.bool j.isNone)∧Inv ⟨w,S,rQ μ (look ((id,.lp .ready none i e)::hin)),μ,look ((id,.lp .ready none i e)::hin)⟩ S' μ' (look ((id,.lp (a2u j) j i e)::hout)) w':=by
  refine⟨_,_,run_endRound j hw3,S3,upd μ3 id (some (l,0,0)),rfl,?_⟩;have hE3:Evolve S3 μ3 (look hout) S3 (upd μ3 id (some (l,0,0))) (look ((id,.lp (a2u j) j i e)::hout)):=aHh hid2;have ac:∀{k o},look hout k=some o→∀b c,μ3 k=some (b,c)→b≠l:=by
   rintro k o hk b c hmk rfl;rcases y.own k o b c hk hmk with q | q
   ·simp only[World.putObj_size] at q;omega
   ·exact O q
  have aEm:∀{k o},look ((id,.lp (a2u j) j i e)::hout) k=some o→(k=id∧o=.lp (a2u j) j i e)∨(k≠id∧look hout k=some o):=by
   intro k o hk;by_cases Y:k=id
   ·subst Y;rw[bQ] at hk;cases hk;exact .inl ⟨rfl,rfl⟩
   ·rw[cQ Y] at hk;exact .inr ⟨Y,hk⟩
  have ah:∀{b},¬rQ μ (look ((id,.lp .ready none i e)::hin)) b→b≠l∧¬rQ μ (look hin) b:=by
   intro b hb;refine⟨?_,?_⟩
   ·rintro rfl;exact hb ⟨id,_,_,bQ,hm⟩
   ·rintro⟨k,o,c,I,J⟩;exact hb ⟨k,o,c,(aa k o I).1,J⟩
  refine⟨⟨fun b k v hc=>?_,fun b mk hc=>?_⟩,fun k o hk=>?_,fun a b o o' x c c' ha hb m1 m2=>?_,fun k o b c hk m1=>?_,?_,y.sle,fun b hb hF=>?_,⟨y.evo.le,fun k o hk=>?_⟩,y.fre⟩
  ·obtain⟨vs,t,fr,k1,k2⟩:=y.holds.1 b k v hc;have:b≠l:=by rintro rfl;rw[ab.1] at hc;cases hc
   exact⟨vs,t,fr,by rw[World.putObj_heap_other this];exact k1,k2⟩
  ·have:b≠l:=by rintro rfl;rw[ab.2] at hc;cases hc
   rw[World.putObj_heap_other this];exact y.holds.2 b mk hc
  ·rcases aEm hk with⟨rfl,rfl⟩ | ⟨I,J⟩
   ·refine⟨l,r,fn,tmps,aI _ _ _,by rw[World.putObj_heap_same hlt3];rfl,g3,fun t v ht=>?_,ab.1,ab.2⟩;exact aY.evolve (y.evo.trans hE3) _ _ (he t v ht)
   ·refine(y.obj k o J).evolve hE3 (aV _ _ _ I) fun b c m1=>⟨World.putObj_heap_other (ac J b c m1),fun _=>rfl,rfl⟩
  ·rcases aEm ha with⟨rfl,rfl⟩ | ⟨I,J⟩<;>rcases aEm hb with⟨rfl,rfl⟩ | ⟨q3,q4⟩
   ·rfl
   ·rw[aI] at m1;cases m1;rw[aV _ _ _ q3] at m2;exact absurd rfl (ac q4 _ _ m2)
   ·rw[aI] at m2;cases m2;rw[aV _ _ _ I] at m1;exact absurd rfl (ac J _ _ m1)
   ·rw[aV _ _ _ I] at m1;rw[aV _ _ _ q3] at m2;exact y.inj a b o o' x c c' J q4 m1 m2
  ·rcases aEm hk with⟨rfl,rfl⟩ | ⟨I,J⟩
   ·rw[aI] at m1;cases m1;exact .inr ⟨k,_,_,bQ,hm⟩
   ·rw[aV _ _ _ I] at m1;rcases y.own k o b c J m1 with q | ⟨k',o',c',q,q'⟩
    ·exact .inl (by simpa using q)
    ·exact .inr ⟨k',o',c',(aa k' o' q).1,q'⟩
  ·obtain⟨f1,f2,f3,f4,f5,f6⟩:=y.frame;refine⟨f1,f2,f3,by simpa using f4,fun k hk hF=>?_,hI.frame.tab⟩;obtain⟨I,J⟩:=ah hF;rw[World.putObj_heap_other I,f5 k (by simpa using hk) J,World.putObj_heap_other I]
  ·obtain⟨I,J⟩:=ah hF;exact y.sto b (by simpa using hb) J
  ·have hk:look ((id,.lp .ready none i e)::hin) k=some o:=hk;by_cases Y:k=id
   ·subst Y;rw[bQ] at hk;cases hk;exact⟨_,bQ,by simp only[AObj.succ];rw[aI,hm]⟩
   ·rw[cQ Y] at hk;obtain⟨o',I,J⟩:=y.evo.obj k o hk;exact⟨o',by rw[cQ Y];exact I,by rw[aV _ _ _ Y];exact J⟩
 cases ex with
 | normal=>cases hj;exact ad
 | ret=>cases hj;exact ad
 | exit id=>cases hj;exact ad
 | _=>cases hj
section
variable {P:Program}{n:Nat}{o:Oper}{st:St}{d:Nat}
theorem aZa {id:Nat}{x:Operand}{xs:Array Operand}{ts:Array TypeId}{ids:List Nat}{args:List V}{go:Bool}(hin hout:List (Nat×AObj)) (q:o.op=.call { callee:=.value x,args:=xs,argTypes:=ts }) (hd:o.dst=some d) (Y:d<n)
  (hx:opv st x=some (.one (.yl id))) (hf:aTi P id args hin go hout) (ha:ArgsV st ids xs.toList args) (hin':dU (fun p=>st.h p.1=some p.2) hin) (hout':dU (fun p=>p.1∈keys hin∨st.h p.1=none) hout) (hok:callOk (.one (.yl id)::args) hin=true):
  Step P n o st ⟨opr x++dF xs.toList,ids++keys hin++keys hout⟩ ⟨some (d,some (B go)),outs hout⟩:=by
 intro st' y G S μ a w K Q hs hk;have hv:=ha.rel hs (fun t ht=>y.1 t (by simp[ht])) fun i h=>y.2 i (by simp[h])
 have Z:=aO hs hx fun t ht=>y.1 t (by simp[ht])
 simp only[callOk,ζ] at hok;obtain⟨⟨k1,k2⟩,k3⟩:=hok;have hh:∀id o,look hin id=some o→st'.h id=some o∧o≠ .dead:=by
  intro id o q;have hm:=bI q;have h1:=hin'.mem _ hm;refine⟨by rw[y.2 id (by simp only[ω];exact .inl (.inr (Ah.2 ⟨_,hm,rfl⟩)))];exact h1,?_⟩;have:=(Au.1 k3) _ hm;rintro rfl;simp[AObj.live] at this
 have O:∀id o,look hout id=some o→(∃o',look hin id=some o')∨st'.h id=none:=by
  intro id o q;have hm:=bI q;rcases hout'.mem _ hm with h1 | h1
  ·exact .inl (eJ h1)
  ·exact .inr (by rw[y.2 id (by simp only[ω];exact .inr (Ah.2 ⟨_,hm,rfl⟩))];exact h1)
 have hI:=hs.inv.hand hh k2;have J:∀i∈keys hin,Good st'.h (look hin) (fun i=>i) i:=by
  intro i hi;obtain⟨o,q⟩:=eJ hi;obtain⟨h1,h2⟩:=hh i o q;exact⟨o,o,h1,q,.refl_id h2⟩
 have I:c6 S μ (look hin) (.one (.yl id)::args) (a.eval x::xs.toList.map a.eval):=by
  have:=c6.ren (H:=st'.h) (H':=look hin) (σ:=fun i=>i) (.one (.yl id)::args) (a.eval x::xs.toList.map a.eval) (fun i hi=>J i (bJ k1 i hi)) (by rw[V.renL_id];simp only[c6];exact⟨_,_,rfl,Z,hv⟩);exact this
 simp only[c6] at I;obtain⟨_,_,he,hy,I⟩:=I;cases he;simp only[aY,b9] at hy;obtain⟨_,_,_,_,l,c,q1,q2,q3⟩:=hy;intro ro;obtain⟨fn,tmps,asg,body,hr1,hr2⟩:=hf ro S μ w l c _ hI I q2;have hr:(execOp a.eval o).run P w=.ok (.round l fn tmps asg body) w:=by
  simp only[execOp,q,resolve,q3,Deferred.ofValue,Ad,Af,τ,invoke];rw[←hr1];congr 2;apply Array.ext';simp
 refine⟨fun _ _=>trivial,?_⟩;rw[lA hr (by simp),Oper.uponIn_round];refine⟨fun h=>by simp[Wd] at h,hr2.mono ?_⟩;rintro e w' ⟨S',μ',rfl,hI'⟩;obtain⟨μ2,p1,p2,p3,p4⟩:=hs.inv.back (fun id o q=>(hh id o q).1) O hI';show K (a.put o.dst _) w';rw[hd];refine hk S' μ2 _ _ ?_;exact hs.put p2 p3 Y (x:=some (B go)) fun z hz=>by cases hz;simp[aY,b9,Rep]
def aKg (Q:Exit→St→Prop) (st:St):Option Code→Prop
 | none=>Q .normal st
 | some .ret=>Q .ret st
 | some (.exit id)=>Q (.exit id) st
 | _=>False
theorem aRf {S:Sto}{μ:Mu}{H:dD}:∀{caps:List R}{vs:List Value},b6 S μ H caps vs→c6 S μ H (caps.map V.one) vs
 | [],_,h=>by simp only[b6] at h;subst h;simp[c6]
 | c::caps,_,h=>by
  simp only[b6] at h;obtain⟨v,vs',rfl,q,y⟩:=h;simp only[At,c6];exact⟨v,vs',rfl,by simpa [aY] using q,aRf y⟩
theorem aLv {G:Ctx}{S:Sto}{μ:Mu}{a:Act}{w:World}{g:Operand}{ps:Array Tmp}{asg body:Code}{f:FuncId}{caps:List R}{e:List (Nat×V)}{q:Nat}{hin hout:List (Nat×AObj)}{st':LoopState}{j:Option Code}{i':LI}{e':List (Nat×V)}{fn:FuncId}{r:Nat}
  (hb:iI P f) (hg:opv st g=some (.one (.clo f caps))) (he:dU (fun p=>st.e p.1=some p.2) e) (hin':dU (fun p=>st.h p.1=some p.2) hin) (hout':dU (fun p=>p.1∈keys hin∨st.h p.1=none) hout) (aa:st.h q=none)
  (hf:aW P f (.one (.yl q)::caps.map V.one) ((q,.lp .ready none ⟨n,ps,asg,body⟩ e)::hin) (.tup []) ((q,.lp st' j i' e')::hout))
  (hok:callOk (.one (.yl q)::caps.map V.one) ((q,.lp .ready none ⟨n,ps,asg,body⟩ e)::hin)=true) (hst:st'≠ .busy)
  (hs:Sim G n S μ st a w) {Q:World→Prop} (hQ:∀S' μ' w',Sim G n S' μ' ⟨st.e,updL st.h (outs ((q,.lp .exhausted j i' e')::hout)),st.d⟩ a w'→Q w'):
  ∃d w2 args,(resolve a.eval (rangeCall g w.heap.size) 0).run P (w.alloc (.loop { state:=.ready,pending:=none,fn,tmps:=a.tmps,params:=ps,assign:=asg,body,defers:=r }))=.ok d w2∧(invoke d.target d.args).run P w2=.ok (.enter f args) w2∧
   Calls P f args w2 fun ending w3=>∃v,ending=.returned v∧∃w4,(Instr.endLoop w.heap.size).run P w3=.ok j w4∧Q w4:=by
 have hW:=WChg.alloc w (.loop { state:=.ready,pending:=none,fn,tmps:=a.tmps,params:=ps,assign:=asg,body,defers:=r });have hE:=gD (S:=S) (μ:=μ) aa (some (w.heap.size,(0,0))) (some (.lp .ready none ⟨n,ps,asg,body⟩ e));have hnoS:(∀k,S.cell w.heap.size k=none)∧S.mapo w.heap.size=none:=by
  refine⟨fun k=>?_,?_⟩
  ·cases hc:S.cell w.heap.size k with
   | none=>rfl
   | some v=>obtain⟨vs,t,fr,h1,_⟩:=hs.inv.holds.1 _ _ _ hc;exact absurd (dE h1) (lt_irrefl _)
  ·cases hc:S.mapo w.heap.size with
   | none=>rfl
   | some v=>obtain⟨_,h1⟩:=MK.holds_some (hs.inv.holds.2 _ _ hc);exact absurd (dE h1) (lt_irrefl _)
 have hI1:=hs.inv.chg (id:=q) (cap:=(0,0)) (ao:=.lp .ready none ⟨n,ps,asg,body⟩ e) hW (.inl (le_refl _)) hE
  ⟨w.heap.size,r,fn,a.tmps,aI _ _ _,hW.new,hs.size,fun t v ht=>aY.evolve hE _ _ (hs.env t v (he.mem _ ht)),hnoS⟩
  (fun k v hc=>by rw[hnoS.1] at hc;cases hc) (fun m hc=>le_refl _)
 have I:Sim G n S (upd μ q (some (w.heap.size,(0,0)))) ⟨st.e,upd st.h q (some (.lp .ready none ⟨n,ps,asg,body⟩ e)),st.d⟩ a (w.alloc (.loop { state:=.ready,pending:=none,fn,tmps:=a.tmps,params:=ps,assign:=asg,body,defers:=r })):=
  ⟨hI1,hs.size,hs.defers.evolve hE,fun t v ht=>aY.evolve hE _ _ (hs.env t v ht)⟩
 generalize w.alloc (.loop { state:=.ready,pending:=none,fn,tmps:=a.tmps,params:=ps,assign:=asg,body,defers:=r })=w1 at I hW;have hvx:=aY.evolve hE _ _ (aO hs hg fun _ _=>rfl);simp only[aY,b9] at hvx;obtain⟨vs,hgv,hcaps⟩:=hvx;simp only[callOk,ζ] at hok;obtain⟨⟨k1,k2⟩,k3⟩:=hok;have hne:∀{j o},st.h j=some o→j≠q:=by rintro j o hj rfl;rw[aa] at hj;cases hj
 have hh:∀id o,look ((q,.lp .ready none ⟨n,ps,asg,body⟩ e)::hin) id=some o→upd st.h q (some (.lp .ready none ⟨n,ps,asg,body⟩ e)) id=some o∧o≠ .dead:=by
  intro id o y;have hm:=bI y;refine⟨?_,?_⟩
  ·by_cases hid:id=q
   ·subst hid;rw[bQ] at y;rw[aI];exact y
   ·rw[cQ hid] at y;rw[aV _ _ _ hid];exact hin'.mem _ (bI y)
  ·have:=(Au.1 k3) _ hm;rintro rfl;simp[AObj.live] at this
 have hnew:∀id o,look ((q,.lp st' j i' e')::hout) id=some o→(∃o',look ((q,.lp .ready none ⟨n,ps,asg,body⟩ e)::hin) id=some o')∨upd st.h q (some (.lp .ready none ⟨n,ps,asg,body⟩ e)) id=none:=by
  intro id o y;by_cases hid:id=q
  ·subst hid;exact .inl ⟨_,bQ⟩
  ·rw[cQ hid] at y;rcases hout'.mem _ (bI y) with h1 | h1
   ·obtain⟨o',h2⟩:=eJ h1;exact .inl ⟨o',by rw[cQ hid];exact h2⟩
   ·exact .inr (by rw[aV _ _ _ hid];exact h1)
 have hI:=I.inv.hand hh k2;have hgood:∀i∈keys ((q,.lp .ready none ⟨n,ps,asg,body⟩ e)::hin),Good (upd st.h q (some (.lp .ready none ⟨n,ps,asg,body⟩ e))) (look ((q,.lp .ready none ⟨n,ps,asg,body⟩ e)::hin)) (fun i=>i) i:=by
  intro i hi;obtain⟨o,y⟩:=eJ hi;obtain⟨h1,h2⟩:=hh i o y;exact⟨o,o,h1,y,.refl_id h2⟩
 have hcv:c6 S (upd μ q (some (w.heap.size,(0,0)))) (upd st.h q (some (.lp .ready none ⟨n,ps,asg,body⟩ e))) (.one (.yl q)::caps.map V.one) (.func (.yield w.heap.size) #[] #[]::vs):=by
  simp only[c6];refine⟨_,_,rfl,?_,?_⟩
  ·simp only[aY,b9];exact⟨_,_,_,_,w.heap.size,_,aI _ _ _,aI _ _ _,rfl⟩
  ·exact aRf hcaps
 have hcv':c6 S (upd μ q (some (w.heap.size,(0,0)))) (look ((q,.lp .ready none ⟨n,ps,asg,body⟩ e)::hin)) (.one (.yl q)::caps.map V.one) (.func (.yield w.heap.size) #[] #[]::vs):=by
  have:=c6.ren (H:=upd st.h q (some (.lp .ready none ⟨n,ps,asg,body⟩ e))) (H':=look ((q,.lp .ready none ⟨n,ps,asg,body⟩ e)::hin)) (σ:=fun i=>i) _ _ (fun i hi=>hgood i (bJ k1 i hi)) (by rw[V.renL_id];exact hcv);exact this
 refine⟨{ target:=.fn (.func f) ⟨vs⟩,args:= #[.func (.yield w.heap.size) #[] #[]] },w1, #[.func (.yield w.heap.size) #[] #[]]++⟨vs⟩,?_,?_,?_⟩
 ·have hce:a.eval (.const (.func (.yield w.heap.size) #[] #[]))=.func (.yield w.heap.size) #[] #[]:=rfl;simp only[resolve,hgv,Deferred.ofValue,Af,map_toArray,At,Co,hce];rfl
 ·simp only[invoke,jY hb]
 ·have hc:=hf S _ w1 _ hI hcv';have hlist:(⟨.func (.yield w.heap.size) #[] #[]::vs⟩:Array Value)= #[.func (.yield w.heap.size) #[] #[]]++⟨vs⟩:=by
   apply Array.ext';simp
  rw[hlist] at hc;refine hc.mono ?_;rintro ending w3 ⟨S',μ',v,rfl,hI',hres⟩;obtain⟨μ2,p1,p2,p3,p4⟩:=I.inv.back (fun id o y=>(hh id o y).1) hnew hI';have O:updL (upd st.h q (some (.lp .ready none ⟨n,ps,asg,body⟩ e))) (outs ((q,.lp st' j i' e')::hout)) q=some (.lp st' j i' e'):=by
   rw[fJ,bQ]
  have hμ2:μ2 q=some (w.heap.size,(0,0)):=by
   obtain⟨o',q1,q2⟩:=p3.obj q _ (aI _ _ _);rw[O] at q1;cases q1;simp only[AObj.succ] at q2;rw[q2,aI]
  obtain⟨b,r',fn',Y,g1,g2,g3,g4,g5,g6⟩:=p2.obj q _ O;rw[hμ2] at g1;cases g1;refine⟨v,rfl,_,run_endLoop g2 hst,?_⟩;have hEx:Evolve S' μ2 (updL (upd st.h q (some (.lp .ready none ⟨n,ps,asg,body⟩ e))) (outs ((q,.lp st' j i' e')::hout))) S' (upd μ2 q (some (w.heap.size,(0,0)))) (upd (updL (upd st.h q (some (.lp .ready none ⟨n,ps,asg,body⟩ e))) (outs ((q,.lp st' j i' e')::hout))) q (some (.lp .exhausted j i' e'))):=
   jR O hμ2 trivial
  have hW4:=WChg.putObj (o:=.loop { state:=.exhausted,pending:=j,fn:=fn',tmps:=Y,params:=i'.params,assign:=i'.asg,body:=i'.body,defers:=r' }) g2;have hI4:=p2.chg (id:=q) (cap:=(0,0)) (ao:=.lp .exhausted j i' e') hW4 (.inr ⟨_,_,O,hμ2⟩) hEx
   ⟨w.heap.size,r',fn',Y,aI _ _ _,hW4.new,g3,fun t v ht=>aY.evolve hEx _ _ (g4 t v ht),g5,g6⟩ (fun k v hc=>by rw[g5] at hc;cases hc) (fun m hc=>by rw[g6] at hc;cases hc)
  have J:upd (updL (upd st.h q (some (.lp .ready none ⟨n,ps,asg,body⟩ e))) (outs ((q,.lp st' j i' e')::hout))) q (some (.lp .exhausted j i' e'))=updL st.h (outs ((q,.lp .exhausted j i' e')::hout)):=by
   funext k;by_cases hk:k=q
   ·subst hk;rw[aI,fJ,bQ]
   ·rw[aV _ _ _ hk,fJ,fJ,cQ hk,cQ hk,aV _ _ _ hk]
  refine hQ S' (upd μ2 q (some (w.heap.size,(0,0)))) _ ?_;have Z:=(p3.trans hEx)
  exact⟨by rw[←J];exact hI4,I.size,by
   show Marks _ _ (updL st.h (outs ((q,.lp .exhausted j i' e')::hout))) st.d a.defers;rw[←J];exact I.defers.evolve Z,fun t v ht=>by
   show aY S' _ (updL st.h (outs ((q,.lp .exhausted j i' e')::hout))) v _
   rw[←J];exact aY.evolve Z _ _ (I.env t v ht)⟩
theorem Marks.mem {lo:Nat}{μ:Mu}{H:dD}:∀{ids:List Nat}{q:List Deferred},Marks lo μ H ids q→∀id∈ids,H id=some .dfr
 | [],_,_,id,h=>by simp at h
 | i::ids,_,⟨b,c,y,h1,h2,h3,h4,h5,h6⟩,id,h=>by
  rcases Ac.1 h with rfl | h
  ·exact h3
  ·exact Marks.mem h6 id h
def a38 (F:Fence) (m:Nat) (P:Program) (Q':Exit→Act→World→Prop) (a:Act) (w:World):Option Code→Prop
 | none=>Q' .normal a w
 | some c=>c.wpIn F m P Q' a w
theorem a7u {st st':St}(h:st'.e=st.e) (x:Operand):opv st' x=opv st x:=by cases x<;>simp[opv,h]
theorem aZ3 {F:Fence}{m:Nat}{kf:List Nat}{Q:Exit→St→Prop}{Q':Exit→Act→World→Prop}{y st2:St}{G:Ctx}{S:Sto}{μ:Mu}{a:Act}{w:World}{j:Option Code}(O:G.keeps kf) (hs:Sim G n S μ y a w) (I:Sub kf st2 y) (q:aKg Q st2 j)
  (hk:∀ex st' S' μ' J w',Q ex st'→Sim G n S' μ' st' J w'→Q' ex J w'):a38 F m P Q' a w j:=by
 obtain⟨S',μ',h⟩:=I G n S μ a w O hs
 match j,q with
 | none,q=>exact hk _ _ _ _ _ _ q h
 | some .ret,q=>exact wpIn_ret (hk _ _ _ _ _ _ q h)
 | some (.exit id),q=>exact wpIn_exit (hk _ _ _ _ _ _ q h)
theorem aSn {kf:List Nat}{Q:Exit→St→Prop}{g:Operand}{ps:Array Tmp}{asg body:Code}{f:FuncId}{caps:List R}{hin hout:List (Nat×AObj)}{st':LoopState}{j:Option Code}{i':LI}{e':List (Nat×V)}(I y:Nat) (e:List (Nat×V)) (st2:St)
  (hb:iI P f) (hg:opv st g=some (.one (.clo f caps))) (he:dU (fun p=>st.e p.1=some p.2) e) (hin':dU (fun p=>st.h p.1=some p.2) hin) (hout':dU (fun p=>p.1∈keys hin∨st.h p.1=none) hout) (hidl:st.h I=none) (J:st.h y=none)
  (hf:aW P f (.one (.yl I)::caps.map V.one) ((I,.lp .ready none ⟨n,ps,asg,body⟩ e)::hin) (.tup []) ((I,.lp st' j i' e')::hout))
  (hok:(callOk (.one (.yl I)::caps.map V.one) ((I,.lp .ready none ⟨n,ps,asg,body⟩ e)::hin)&&(!Nat.beq y I&& !((keys hout).contains y)))=true) (hst:st'≠ .busy)
  (hsub:Sub kf st2 ⟨st.e,updL (upd st.h y (some .dfr)) (outs ((I,.lp .exhausted j i' e')::hout)),y::st.d⟩) (hQ:aKg Q st2 j):AWp none P n kf (.rangeFunc g ps asg body) st Q:=by
 intro G S μ a w Q' hgk hs hk;rw[ζ,ζ] at hok;obtain⟨hok,hne,O⟩:=hok;have O:=aGz O;have hne':y≠I:=by
  intro h;subst h;simp at hne
 refine wpIn_rangeFunc fun fn _=>?_
 have hW:=WChg.alloc w (.deferred (some []));have hE:=gD (S:=S) (μ:=μ) J (some (w.heap.size,(0,0))) (some .dfr);have Y:(∀k,S.cell w.heap.size k=none)∧S.mapo w.heap.size=none:=by
  refine⟨fun k=>?_,?_⟩
  ·cases hc:S.cell w.heap.size k with
   | none=>rfl
   | some v=>obtain⟨vs,t,fr,h1,_⟩:=hs.inv.holds.1 _ _ _ hc;exact absurd (dE h1) (lt_irrefl _)
  ·cases hc:S.mapo w.heap.size with
   | none=>rfl
   | some v=>obtain⟨_,h1⟩:=MK.holds_some (hs.inv.holds.2 _ _ hc);exact absurd (dE h1) (lt_irrefl _)
 have hI1:=hs.inv.chg (id:=y) (cap:=(0,0)) (ao:=.dfr) hW (.inl (le_refl _)) hE ⟨w.heap.size,aI _ _ _,hW.new,Y⟩
  (fun k v hc=>by rw[Y.1] at hc;cases hc) (fun m hc=>le_refl _)
 have hmk:Marks G.w0.heap.size (upd μ y (some (w.heap.size,(0,0)))) (upd st.h y (some .dfr)) (y::st.d) ({ target:=.collected w.heap.size,args:= #[] }::a.defers):=
  ⟨w.heap.size,_,_,rfl,aI _ _ _,aI _ _ _,hs.inv.frame.size,(fun h=>by have:=hs.defers.mem y h;rw[J] at this;cases this),hs.defers.evolve hE⟩
 have hsA:Sim G n S (upd μ y (some (w.heap.size,(0,0)))) ⟨st.e,upd st.h y (some .dfr),y::st.d⟩ { a with defers:=[{ target:=.collected w.heap.size,args:= #[] }]++a.defers } (w.alloc (.deferred (some []))):=
  ⟨hI1,hs.size,hmk,fun t v ht=>aY.evolve hE _ _ (hs.env t v ht)⟩
 have hnd:∀{j o},st.h j=some o→j≠y:=by rintro j o hj rfl;rw[J] at hj;cases hj
 have hinA:dU (fun p=>upd st.h y (some .dfr) p.1=some p.2) hin:=by
  have:∀l:List (Nat×AObj),dU (fun p=>st.h p.1=some p.2) l→dU (fun p=>upd st.h y (some .dfr) p.1=some p.2) l:=by
   intro l
   induction l with
   | nil=>intro _;trivial
   | cons p l ih=>intro h;exact⟨(aV _ _ _ (hnd h.1)).trans h.1,ih h.2⟩
  exact this _ hin'
 have Z:dU (fun p=>p.1∈keys hin∨upd st.h y (some .dfr) p.1=none) hout:=by
  have:∀l:List (Nat×AObj),(∀p∈l,p.1≠y)→dU (fun p=>p.1∈keys hin∨st.h p.1=none) l→dU (fun p=>p.1∈keys hin∨upd st.h y (some .dfr) p.1=none) l:=by
   intro l
   induction l with
   | nil=>intro _ _;trivial
   | cons p l ih=>intro hl h;exact⟨h.1.imp id fun h=>(aV _ _ _ (hl p (by simp))).trans h,ih (fun q hq=>hl q (by simp[hq])) h.2⟩
  refine this _ (fun p hp he=>?_) hout';obtain⟨x,hx⟩:=eJ (Ah.2 ⟨p,hp,rfl⟩:p.1∈hout.map (·.1));rw[he,O] at hx;cases hx
 obtain⟨d,w2,args,q1,q2,q3⟩:=aLv (P:=P) (G:=G) (st:=⟨st.e,upd st.h y (some .dfr),y::st.d⟩) (fn:=fn) (r:=w.heap.size) (asg:=asg) (body:=body) (ps:=ps) (Q:=fun w4=>a38 (Wd none) 0 P Q' { a with defers:=[{ target:=.collected w.heap.size,args:= #[] }]++a.defers } w4 j)
  hb (by rw[a7u rfl];exact hg) he hinA Z (by show upd st.h y (some .dfr) I=none;rw[aV _ _ _ (Ne.symm hne')];exact hidl) hf hok hst hsA (fun S' μ' w4 hs4=>aZ3 hgk.1 hs4 hsub hQ hk)
 refine⟨w.heap.size+1,[{ target:=.collected w.heap.size,args:= #[] }],_,d,w2,f,args,w2,run_enterLoop_outer _ _ _ _ _,?_,fun _ _=>trivial,q2,fun h=>by simp[Wd] at h,Wd.calls.2 ?_⟩
 ·rw[World.size_alloc] at q1;exact q1
 ·refine q3.mono ?_;rintro ending w3 ⟨v,rfl,w4,h1,h2⟩;rw[World.size_alloc] at h1;exact⟨j,w4,h1,by cases j<;>exact h2⟩
end
structure Wf (ks:List Nat) (hl:List (Nat×AObj)):Prop where
 keys:keys hl=ks
 ok:(subset (dI hl) ks&&distinct ks&&(hl.all fun p=>p.2.live&&p.2.plain))=true
theorem Wf.all {ks:List Nat}{hl:List (Nat×AObj)}(h:Wf ks hl):dU (fun p=>look hl p.1=some p.2) hl:=by
 have hk:=h.ok;simp only[ζ] at hk;have hd:=dP hk.1.2;rw[←h.keys] at hd;have key:∀l:List (Nat×AObj),(∀p∈l,p∈hl)→dU (fun p=>look hl p.1=some p.2) l:=by
  intro l
  induction l with
  | nil=>intro _;trivial
  | cons p l y=>
   intro hp;refine⟨?_,y fun q I=>hp q (by simp[I])⟩;have hm:=hp p (by simp);obtain⟨x,hx⟩:=eJ (Ah.2 ⟨p,hm,rfl⟩:p.1∈hl.map (·.1));have:=uP (f:=fun q:Nat×AObj=>q.1) hd _ (bI hx) _ hm rfl;show look hl p.1=some p.2;rw[hx,←this]
 exact key hl fun p hp=>hp
theorem Wf.live {ks:List Nat}{hl:List (Nat×AObj)}(h:Wf ks hl):(hl.all fun p=>p.2.live)=true:=by
 have hk:=h.ok;simp only[ζ,Au] at hk ⊢;exact fun p hp=>(hk.2 p hp).1
theorem Wf.plain {ks:List Nat}{hl:List (Nat×AObj)}(h:Wf ks hl):(hl.all fun p=>p.2.plain)=true:=by
 have hk:=h.ok;simp only[ζ,Au] at hk ⊢;exact fun p hp=>(hk.2 p hp).2
theorem Wf.refs {ks:List Nat}{hl:List (Nat×AObj)}(h:Wf ks hl):subset (dI hl) (Go.AM.keys hl)=true:=by
 have hk:=h.ok;simp only[ζ] at hk;rw[h.keys];exact hk.1.1
theorem Wf.distinct {ks:List Nat}{hl:List (Nat×AObj)}(h:Wf ks hl):Go.AM.distinct (Go.AM.keys hl)=true:=by
 have hk:=h.ok;simp only[ζ] at hk;rw[h.keys];exact hk.1.2
theorem fG (l:List Nat):subset l l=true:=by simp[subset]
theorem Sub.heap {kf ks:List Nat}{y:St}{el:List (Nat×V)}{hl:List (Nat×AObj)}(hw:Wf ks hl) (he:dU (fun p=>y.e p.1=some p.2) el) (hh:∀id o,look hl id=some o→y.h id=some o)
  (h1:subset (jU el) ks=true) (h2:subset kf ks=true) (h3:eqL [] y.d=true):Sub kf (mk el hl) y:=by
 refine Sub.list (fun i=>i) ?_ ?_ ?_
 ·have key:∀l:List (Nat×V),dU (fun p=>y.e p.1=some p.2) l→dU (fun p=>y.e p.1=some (p.2.ren fun i=>i)) l:=by
   intro l
   induction l with
   | nil=>intro _;trivial
   | cons p l I=>intro h;exact⟨by show y.e p.1=some (p.2.ren fun i=>i);rw[V.ren_id];exact h.1,I h.2⟩
  exact key _ he
 ·have key:∀l:List (Nat×AObj),(∀p∈l,p.2.live=true)→dU (fun p=>look hl p.1=some p.2) l→dU (fun p=>∃o,y.h p.1=some o∧Ole (fun i=>i) o p.2) l:=by
   intro l
   induction l with
   | nil=>intro _ _;trivial
   | cons p l I=>
    intro J h;refine⟨⟨p.2,hh _ _ h.1,.refl_id ?_⟩,I (fun q O=>J q (by simp[O])) h.2⟩;intro e;have:=J p (by simp);rw[e] at this;cases this
  exact key _ (fun p hp=>(Au.1 hw.live) p hp) hw.all
 ·simp only[aJ5,ζ];have hk:List.map (fun p:Nat×AObj=>p.1) hl=ks:=hw.keys;refine⟨⟨⟨⟨⟨?_,?_⟩,?_⟩,?_⟩,?_⟩,h3⟩
  ·rw[hk];exact h1
  ·exact hw.refs
  ·exact hw.distinct
  ·rw[hk];exact h2
  ·simp
theorem Wf.callOk {ks:List Nat}{hl:List (Nat×AObj)}(h:Wf ks hl) {args:List V}(ha:subset (V.refsL args) ks=true):callOk args hl=true:=by
 simp only[Go.AM.callOk,ζ];exact⟨⟨by rw[h.keys];exact ha,h.refs⟩,h.live⟩
theorem dU.of {α:Type}{p:α→Prop}:∀{l:List α},(∀x∈l,p x)→dU p l
 | [],_=>trivial
 | x::l,h=>⟨h x (by simp),dU.of fun y q=>h y (by simp[q])⟩
theorem Wf.hout {ks:List Nat}{hl y:List (Nat×AObj)}(h:Wf ks hl) (I:Wf ks y) {g:dD}:dU (fun q:Nat×AObj=>q.1∈Go.AM.keys hl∨g q.1=none) y:=
 dU.of fun q J=>.inl (by rw[h.keys,←I.keys];exact Ah.2 ⟨q,J,rfl⟩)
theorem Fin.heap {T:TT}{fn:Func}{st:St}{ks:List Nat}{hin hout:List (Nat×AObj)}{vs vs':List V}(hw:Wf ks hin) (q:Wf ks hout) (hh:∀id o,look hout id=some o→st.h id=some o) (y:ResV T st fn.results.toList vs) (hc:Convs st.h vs vs') (hs:subset (aLp vs').refs ks=true):Fin T fn st hin (aLp vs') hout:=by
 refine⟨⟨vs,vs',y,hc,rfl⟩,dU.of fun p hp=>⟨p.2,hh _ _ (q.all.mem p hp),.refl_id ?_⟩,?_⟩
 ·intro e;have:=(Au.1 q.live) p hp;rw[e] at this;cases this
 ·simp only[ζ];exact⟨⟨⟨⟨⟨by rw[q.keys];exact hs,q.refs⟩,q.distinct⟩,by rw[hw.keys,q.keys];exact fG _⟩,hw.plain⟩,q.plain⟩
def aGa (W:World):Sto:=
 ⟨fun b o=>match W.heap[b]? with | some (.cells vs _ _)=>vs[o]? | _=>none,fun b=>match W.heap[b]? with | some (.map es clk)=>some (.all es clk) | _=>none⟩
theorem aMg (W:World):Holds (aGa W) W:=by
 refine⟨fun b o v h=>?_,fun b mk h=>?_⟩
 ·simp only[aGa] at h;split at h
  ·rename_i vs t fr q;exact⟨vs,t,fr,q,h⟩
  ·cases h
 ·simp only[aGa] at h;split at h
  ·rename_i q;cases h;exact q
  ·cases h
theorem aU1 (W:World):(aGa W).noTop:=fun b m e=>by
 simp only[aGa] at e;split at e
 ·cases e;exact⟨_,_,rfl⟩
 ·cases e
theorem aPs (W:World):(aGa W).free:=fun b te lo hi e=>by
 obtain⟨_,_,h⟩:=aU1 W b _ e;cases h
theorem aPt {W:World}{a:Addr}{v:Value}(h:W.cell? a=some v):(aGa W).cell a.block a.off=some v:=by
 unfold World.cell? at h;simp only[aGa];split at h
 ·rename_i q;rw[q];split at h
  ·cases h
  ·exact h
 ·cases h
theorem aP6 {P:Program}{f:FuncId}{args:List V}{vals:List Value}{res:V}(h:aW P f args [] res []) (W:World) (y:c6 (aGa W) (fun _=>none) (look []) args vals) (ht:aWl W:=by first | assumption | (intro g h;cases h)):
  Calls P f ⟨vals⟩ W fun e W'=>∃v S μ,e=.returned v∧RowKit.Below W.heap.size W W'∧aY S μ (look []) res v:=by
 have I:Inv ⟨W,aGa W,rQ (fun _=>none) (look []),fun _=>none,look []⟩ (aGa W) (fun _=>none) (look []) W:=
  ⟨aMg W,(fun _ _ h=>by cases h),(fun _ _ _ _ _ _ _ h=>by cases h),(fun _ _ _ _ h=>by cases h),FrameW.refl _ _ ⟨ht,fun g _ ⟨_,_,_,h,_⟩=>by cases h⟩,Sto.le_refl _,fun _ _ _=>⟨fun _=>rfl,rfl⟩,Evolve.refl _ _ _,aPs W⟩
 refine(h (aGa W) (fun _=>none) W vals I y).mono ?_;rintro e W' ⟨S',μ',v,he,q,J⟩;refine⟨v,S',μ',he,⟨q.frame.os,q.frame.tape,q.frame.output,q.frame.size,fun k hk=>q.frame.block k hk ?_⟩,J⟩;rintro⟨id,o,c,h1,_⟩;cases h1
theorem a00 {S:Sto}{μ:Mu}{H:dD}{b:Bool}{v:Value}(h:aY S μ H (B b) v):v=.bool b:=by simpa [aY,b9,Rep] using h
def nA (l:List Int):List (List C):=l.map fun m=>[.int .i64 m]
theorem aT3 {W:World}{a:Addr}{len cap:Nat}{l:List Int}(hs:cap≠0→a.spot=none) (hl:l.length=len) (hc:len≤cap) (hm:cap≤maxLen) (q:∀i,i<len→W.cell? (a.add i)=some (.int .i64 (l.getD i 0))):
  Rep (aGa W) (.sl 1 (nA l)) (.slice (some a) len cap):=by
 simp only[Rep];refine⟨some a,len,cap,rfl,by simp[nA,hl],hc,hm,(by intro h;cases h),(by intro I h;cases h;exact hs),a.block,a.off,(by intro I h;cases h;exact⟨rfl,rfl⟩),?_⟩;have key:∀(r:List Int) (k:Nat),(∀i,i<r.length→W.cell? (a.add (k+i))=some (.int .i64 (r.getD i 0)))→bS (aGa W) 1 a.block (nA r) (a.off+k):=by
  intro r
  induction r with
  | nil=>intro k _;simp[nA,bS]
  | cons x r J=>
   intro k y;simp only[nA,At,bS];refine⟨rfl,⟨[.int .i64 x],by simp[dH,Rep],fun i v hi=>?_⟩,?_⟩
   ·have h0:=aPt (y 0 (by simp));have hb:(a.add (k+0)).block=a.block:=by unfold Addr.add;split<;>rfl
    have O:(a.add (k+0)).off=a.off+k:=by
     unfold Addr.add;split
     ·rename_i h;omega
     ·rfl
    rw[hb,O] at h0;cases i with
    | zero=>simp at hi;subst hi;simpa using h0
    | succ i=>simp at hi
   ·have:=J (k+1) fun i hi=>by
     have:=y (i+1) (by simp;omega);rw[show k+(i+1)=k+1+i by omega] at this;simpa using this
    rw[Cq];exact this
 have:=key l 0 fun i hi=>by rw[Be];exact q i (by omega)
 simpa using this
theorem aCr {W:World}:Rep (aGa W) (.sl 1 (nA [])) (.slice none 0 0):=by
 simp only[Rep];exact⟨none,0,0,rfl,rfl,le_refl _,Al _,(fun _=>⟨rfl,rfl⟩),(by intro q h;cases h),0,0,(by intro q h;cases h),by simp[nA,bS]⟩
theorem xW {H:Type}{enc:TypeId×Value→H}{P:Program}{W:World}{t e:TypeId}{v:Value}{d:DataW H}{ps:List MemPlace}{base:Nat}(ht:P.underlying t=some (.slice e)) (he:P.underlying e=some (.int .i64)) (hc:P.cellsOf e=1)
  (hok:Value.okWide P W .any base t v) (h:DataW.Trod enc P W 0 (fun _=>true) true t v d ps):
  ∃l:List Int,Rep (aGa W) (.sl 1 (nA l)) v∧(∀m∈l,-9223372036854775808≤m∧m≤9223372036854775807)∧(∃x y,(d=.nil∧l=[])∨(d=.slice x y∧x.length=l.length)):=by
 obtain⟨fuel,Y⟩:=h;obtain⟨a0,q,I,rfl⟩:=WideShapes.okWide_slice ht hok;rcases ChangeShapes.open_ints ht he hc Y with⟨h1,h2⟩ | ⟨a,len,cap,J,h1,_,h3,h4,h5,h6,Z,h8⟩
 ·have O:Value.slice a0 q I=.slice none 0 0:=by
   simp only[Value.cells] at h1;simpa using h1
  cases O;refine⟨[],aCr,by simp,[],[],.inl ⟨?_,rfl⟩⟩;have:=congrArg Prod.fst h2;simpa using this
 ·have O:Value.slice a0 q I=.slice (some a) len cap:=by
   simp only[Value.cells] at h1;simpa using h1
  cases O;have hs:a.spot=none:=by
   simp only[Value.okWide,ht,Cell.okWide,Cell.ok] at hok;exact hok.2.2.2.1
  have hlen:q≤J.length:=by rw[h5];split<;>omega
  refine⟨J.take q,aT3 (fun _=>hs) (by simp;omega) h3 h4 (fun i hi=>?_),fun m hm=>?_,ChangeShapes.lits .i64 (J.take q),ChangeShapes.lits .i64 (J.drop q),.inr ⟨?_,?_⟩⟩
  ·rw[Z i (by omega)];congr 2;simp[List.getD_eq_getElem?_getD,hi]
  ·have:=h8 m (Bz hm);simp only[Lit.wf,ζ,A4] at this;exact this
  ·have:=congrArg Prod.fst h6;simpa using this
  ·simp[ChangeShapes.lits]
inductive BndV (st:St):Option Operand→Nat→Nat→Prop
 | no {m}:BndV st none m m
 | yes {x kk m k}:opv st x=some (I kk ((k:Nat):Int))→BndV st (some x) m k
def aV9:Option Operand→List Nat
 | none=>[]
 | some x=>opr x
section
variable {P:Program}{n:Nat}{o:Oper}{st:St}{d:Nat}{T:TT}
theorem BndV.val {G:Ctx}{S:Sto}{μ:Mu}{st':St}{a:Act}{w:World}{x:Option Operand}{m k:Nat}(h:BndV st x m k) (hs:Sim G n S μ st' a w) (ha:∀t∈aV9 x,st'.e t=st.e t):
  (x=none∧k=m)∨∃kk,x.map a.eval=some (.int kk ((k:Nat):Int)):=by
 cases h with
 | no=>exact .inl ⟨rfl,rfl⟩
 | @yes x kk _ _ h=>exact .inr ⟨kk,by rw[Option.map_some,gH (aO hs h ha)]⟩
theorem xD {w:World}{b:Bool}{len cap lo hi:Nat}{low high:Option Value}(hl:(low=none∧lo=0)∨∃kk,low=some (.int kk ((lo:Nat):Int))) (hh:(high=none∧hi=len)∨∃kk,high=some (.int kk ((hi:Nat):Int))) (h1:lo≤hi) (h2:hi≤len) (h3:len≤cap):
  (Instr.sliceBounds b len cap low high none).run P w=.ok (lo,hi,cap) w:=by
 have h4:hi≤cap:=le_trans h2 h3;rcases hl with⟨rfl,rfl⟩ | ⟨q,rfl⟩<;>rcases hh with⟨rfl,rfl⟩ | ⟨y,rfl⟩<;>simp[Instr.sliceBounds,Instr.sliceBound,asIntOf,h1,h4]
theorem a7j {t e:TypeId}{i ei:TI}{x:Operand}{low high:Option Operand}{es lo hi:Nat}{l:List (List C)}(I:Tok P T) (ho:o.op=.slice t x low high none) (hd:o.dst=some d) (J:d<n) (O:T[t]?=some (some i)) (hk:i.k=.sl e) (Y:T[e]?=some (some ei)) (Z:ei.size=es)
  (hx:opv st x=some (.one (.c (.sl es l)))) (aa:BndV st low 0 lo) (ab:BndV st high l.length hi) (h1:lo≤hi) (h2:hi≤l.length):
  Step P n o st ⟨opr x++aV9 low++aV9 high,[]⟩ ⟨some (d,some (.one (.c (.sl es ((l.take hi).drop lo))))),[]⟩:=by
 refine Step.value hd J fun st' ha G S μ a w hs=>?_
 have hv:=aO hs hx fun t ht=>ha.1 t (by simp[ht])
 have hl:=aa.val hs fun t ht=>ha.1 t (by simp[ht])
 have hh:=ab.val hs fun t ht=>ha.1 t (by simp[ht])
 simp only[aY,b9,Rep] at hv;obtain⟨q,len,cap,p1,p2,p3,p4,p5,p6,b,of,p7,p8⟩:=hv;subst p2;have hb:=xD (P:=P) (w:=w) (b:=true) (low:=low.map a.eval) (high:=high.map a.eval) (len:=l.length) (cap:=cap) (by rcases hl with⟨rfl,h⟩ | h;exact .inl ⟨rfl,h⟩;exact .inr h) (by rcases hh with⟨rfl,h⟩ | h;exact .inl ⟨rfl,h⟩;exact .inr h) h1 h2 p3;refine⟨.slice (if cap=lo then q else q.map (·.add (lo*ei.size))) (hi-lo) (cap-lo),?_,?_⟩
 ·have hu:=Av ((I.get O).slice hk) w;simp only[execOp,ho,p1,C9,Ad,Instr.sliceAt,hu,τ,Instr.slice,hb,(I.get Y).size_run w,Af]
 ·simp only[aY,b9,Rep];have hlen:((l.take hi).drop lo).length=hi-lo:=by simp;omega
  refine⟨_,_,_,rfl,hlen.symm,by omega,by omega,?_,?_,?_⟩
  ·intro e;have:q=none:=by
    split at e
    ·exact e
    ·cases q<;>simp at e;rfl
   obtain⟨h3,h4⟩:=p5 this;omega
  ·intro y e hcc;split at e
   ·omega
   ·cases q with
    | none=>cases e
    | some z=>
     simp at e;subst e;have:=p6 z rfl (by omega);obtain⟨zb,zo,zs⟩:=z;simp at this;subst this;rw[Addr.add_mid]
  ·by_cases hc:cap=lo
   ·have:(l.take hi).drop lo=[]:=Bb (by omega);rw[this];refine⟨b,of,fun y e=>p7 y (by rwa [κ hc] at e),by simp[bS]⟩
   ·refine⟨b,of+lo*es,fun y e=>?_,(p8.take hi).drop lo⟩;rw[θ hc] at e;cases q with
    | none=>cases e
    | some z=>
     simp at e;subst e;obtain⟨h3,h4⟩:=p7 z rfl;have:=p6 z rfl (by omega);obtain⟨zb,zo,zs⟩:=z;simp at this h3 h4;subst this h3 h4;rw[Addr.add_mid,Z];exact⟨rfl,rfl⟩
theorem extract_mk (s:List UInt8) (lo hi:Nat):(ByteArray.mk ⟨s⟩).extract lo hi=⟨⟨(s.take hi).drop lo⟩⟩:=by
 apply ByteArray.ext;simp;rw[drop_take]
theorem a29 {t:TypeId}{i:TI}{x:Operand}{low high:Option Operand}{lo hi:Nat}{s:List UInt8}(Y:Tok P T) (Z:o.op=.slice t x low high none) (hd:o.dst=some d) (q:d<n) (y:T[t]?=some (some i)) (hk:i.k=.str)
  (hx:opv st x=some (Go.AM.T s)) (I:BndV st low 0 lo) (J:BndV st high s.length hi) (h1:lo≤hi) (h2:hi≤s.length):
  Step P n o st ⟨opr x++aV9 low++aV9 high,[]⟩ ⟨some (d,some (Go.AM.T ((s.take hi).drop lo))),[]⟩:=by
 refine Step.value hd q fun st' ha G S μ a w hs=>?_
 have hv:=lI (aO hs hx fun t ht=>ha.1 t (by simp[ht]));have hl:=I.val hs fun t ht=>ha.1 t (by simp[ht])
 have hh:=J.val hs fun t ht=>ha.1 t (by simp[ht])
 have hb:=xD (P:=P) (w:=w) (b:=false) (low:=low.map a.eval) (high:=high.map a.eval) (len:=s.length) (cap:=s.length) (by rcases hl with⟨rfl,h⟩ | h;exact .inl ⟨rfl,h⟩;exact .inr h) (by rcases hh with⟨rfl,h⟩ | h;exact .inl ⟨rfl,h⟩;exact .inr h) h1 h2 (le_refl _);refine⟨.string ⟨⟨(s.take hi).drop lo⟩⟩,?_,by simp[aY,b9,Rep]⟩;have hu:=Av ((Y.get y).str hk) w;have O:(ByteArray.mk ⟨s⟩).size=s.length:=rfl;simp only[execOp,Z,hv,C9,Ad,Instr.sliceAt,hu,τ,Instr.slice,O,hb,Option.isSome_none,Ba,B5,Af,extract_mk]
theorem aW3 {t:TypeId}{i:TI}{x y:Operand}{s:List UInt8}{kk:IntKind}{m:Int}{k:Nat}{b:UInt8}(Z:Tok P T) (ho:o.op=.index t x y) (hd:o.dst=some d) (q:d<n) (J:T[t]?=some (some i)) (hk:i.k=.str)
  (hx:opv st x=some (Go.AM.T s)) (hy:opv st y=some (I kk m)) (hm:m=(k:Int)) (hb:s[k]?=some b):Step P n o st ⟨opr x++opr y,[]⟩ ⟨some (d,some (I .u8 ((b.toNat:Nat):Int))),[]⟩:=by
 refine Step.value hd q fun st' ha G S μ a w hs=>?_
 have hv:=lI (aO hs hx fun t ht=>ha.1 t (by simp[ht]));have h2:=gH (aO hs hy fun t ht=>ha.1 t (by simp[ht]));subst hm;refine⟨.int .u8 ((b.toNat:Nat):Int),?_,by simp[aY,b9,Rep]⟩;have hu:=Av ((Z.get J).str hk) w;have hg:(ByteArray.mk ⟨s⟩)[k]?=some b:=by
  have O:=(ξ.1 hb).1
  have Y:(ByteArray.mk ⟨s⟩).size=s.length:=rfl;rw[getElem?_pos (ByteArray.mk ⟨s⟩) k (by rw[Y];exact O)];have:=(ξ.1 hb).2
  rw[←this];rfl
 simp only[execOp,ho,hv,h2,Ad,Instr.index,asIntOf,Af,τ,hu];simp[hg]
theorem a7c {t1 t2:TypeId}{x y:Operand}{k:IntKind}{a b r:Int}(J:o.op=.call { callee:=.builtin .min,args:= #[x,y],argTypes:= #[t1,t2] }) (hd:o.dst=some d) (q:d<n) (hx:opv st x=some (I k a)) (O:opv st y=some (I k b)) (Y:(if b<a then b else a)=r):
  Step P n o st ⟨opr x++opr y,[]⟩ ⟨some (d,some (I k r)),[]⟩:=by
 refine Step.value hd q fun st' ha G S μ ac w hs=>?_
 have h1:=gH (aO hs hx fun t h=>ha.1 t (by simp[h]));have h2:=gH (aO hs O fun t h=>ha.1 t (by simp[h]));refine⟨.int k r,?_,by simp[aY,b9,Rep]⟩;simp only[execOp,J,resolve,map_toArray,At,Co,h1,h2,Ad,Af,τ,invoke,builtin,Builtin.min_,List.foldlM_cons,List.foldlM_nil,Builtin.min2,Y]
end
section
variable {P:Program}{n:Nat}{o:Oper}{st:St}{d:Nat}{T:TT}
theorem nI.rarr {S:Sto}{μ:Mu}{H:dD}{w:World}{id:Nat}{te es:Nat}{elems:List (List R)}(h:nI S μ H w id (.rarr te es elems)) {b base cap:Nat}(hm:μ id=some (b,base,cap)):
  (∀r∈elems,r.length=es)∧∃vs,w.heap[b]?=some (.cells ⟨vs⟩ te (0,0))∧base+cap*es≤vs.length∧elems.length≤cap∧(cap≤maxLen∧S.mapo b=none)∧b6 S μ H elems.flatten ((vs.drop base).take (elems.length*es))∧(∀o,base≤o→S.cell b o=none):=by
 obtain⟨h0,h1 | ⟨b',q,y,vs,h1,h2,h3,h4,h5,h6,I⟩⟩:=h
 ·rw[h1.1] at hm;cases hm
 ·rw[h1] at hm;cases hm;exact⟨h0,vs,h2,h3,h4,h5,h6,I⟩
def zW (st:St) (es:Nat):Nat→List (Nat×Operand)→Option (List (List R))
 | _,[]=>some []
 | k,(i,x)::ps=>bif Nat.beq i k then(opv st x).bind fun v=>(j0 v).bind fun rs=>bif Nat.beq rs.length es then(zW st es (k+1) ps).bind fun l=>some (rs::l) else none else none
theorem aCq {es:Nat}:∀{ps:List (Nat×Operand)}{k:Nat}{l:List (List R)},zW st es k ps=some l→l.length=ps.length∧∀r∈l,r.length=es
 | [],k,l,h=>by simp[zW] at h;subst h;simp
 | (i,x)::ps,k,l,h=>by
  simp only[zW] at h;cases hi:Nat.beq i k with
  | false=>rw[hi] at h;cases h
  | true=>
   rw[hi] at h;simp only[Bv,Aj] at h;obtain⟨v,J,rs,I,h⟩:=h;cases hl:Nat.beq rs.length es with
   | false=>rw[hl] at h;cases h
   | true=>
    rw[hl] at h;simp only[Bv,Aj] at h;obtain⟨l',y,h⟩:=h;cases h;obtain⟨h1,h2⟩:=aCq y;refine⟨by simp[h1],fun r q=>?_⟩;rcases Ac.1 q with rfl | q
    ·exact Aa hl
    ·exact h2 r q
theorem aLs {G:Ctx}{S:Sto}{μ:Mu}{st':St}{a:Act}{w:World}(hs:Sim G n S μ st' a w) {es:Nat}:∀{k:Nat}{ps:List (Nat×Operand)}{rows:List (List R)},zW st es k ps=some rows→(∀t∈iG ps,st'.e t=st.e t)→
  ∀(cells:Array Value),cells.size=(k+ps.length)*es→∃out:Array Value,Instr.fill (fun i=>some (i*es,es)) cells (ps.map fun(i,x)=>(i,a.eval x))=some out∧out.size=cells.size∧
   ∃us,b6 S μ st'.h rows.flatten us∧out.toList=cells.toList.take (k*es)++us:=by
 intro k ps
 induction ps generalizing k with
 | nil=>
  intro rows h _ cells hc;simp only[zW] at h;cases h;refine⟨cells,rfl,rfl,[],by simp[b6],?_⟩;rw[A9,Az];simp at hc;simp[hc]
 | cons p ps ih=>
  obtain⟨i,x⟩:=p;intro rows h ha cells I;simp only[zW] at h;cases hi:Nat.beq i k with
  | false=>rw[hi] at h;cases h
  | true=>
   rw[hi] at h;have Z:=Aa hi;subst Z;simp only[Bv,Aj] at h;obtain⟨v,hv,rs,aa,h⟩:=h;cases hl:Nat.beq rs.length es with
   | false=>rw[hl] at h;cases h
   | true=>
    rw[hl] at h;simp only[Bv,Aj] at h;obtain⟨l',O,h⟩:=h;cases h;have hl':=Aa hl;have q:=fC (aO hs hv fun t ht=>ha t (by simp[iG,ht])) aa;have ab:=q.length;simp only[Bd] at ab;simp only[Ai] at I;have hke:(i+(ps.length+1))*es=i*es+es+ps.length*es:=by
     rw[A7,A7];omega
    have Y:=pY (i*es) (a.eval x).cells.toList 0 cells (by simp only[Bd];omega);have J:(cV cells.toList (i*es) (a.eval x).cells.toList).length=cells.size:=by
     unfold cV;simp;omega
    obtain⟨out,h1,h2,us,h3,h4⟩:=ih O (fun t ht=>ha t (by simp[iG,ht])) ⟨cV cells.toList (i*es) (a.eval x).cells.toList⟩ (by
     simp only[size_toArray,J,I];congr 1
     omega)
    refine⟨out,?_,by rw[h2];simpa using J,(a.eval x).cells.toList++us,?_,?_⟩
    ·simp only[At,Instr.fill];have y:((a.eval x).cells.size≠es || decide (i*es+(a.eval x).cells.size>cells.size))=false:=by
      simp only[Bool.or_eq_false_iff,Br];exact⟨by simp;omega,by omega⟩
     simp only[y,Ba,B5];have ac:((a.eval x).cells.zipIdx.foldl (fun cs (x:Value×Nat)=>cs.setIfInBounds (i*es+x.2) x.1) cells)=⟨cV cells.toList (i*es) (a.eval x).cells.toList⟩:=by
      rw[←Array.foldl_toList,Array.toList_zipIdx];simpa using Y
     rw[←h1];congr 1
    ·rw[Bm];exact q.append h3
    ·rw[h4];have:(cV cells.toList (i*es) (a.eval x).cells.toList).take ((i+1)*es)=cells.toList.take (i*es)++(a.eval x).cells.toList:=by
      unfold cV;apply take_left';simp;rw[A7];omega
     show(cV cells.toList (i*es) (a.eval x).cells.toList).take ((i+1)*es)++us=_;rw[this,Aw]
theorem aT6 {t e:TypeId}{i ei:TI}{len:Nat}{parts:Array (Nat×Operand)}{rows:List (List R)}(id:Nat) (I:Tok P T) (ho:o.op=.buildSlice t len parts) (hd:o.dst=some d) (ae:d<n) (hi:T[t]?=some (some i)) (hk:i.k=.sl e) (q:T[e]?=some (some ei))
  (y:zW st ei.size 0 parts.toList=some rows) (hlen:Nat.beq len parts.size=true) (J:Nat.ble (len*ei.size) 16777216=true) (aa:Nat.ble len 16777216=true) (hid:st.h id=none):
  Step P n o st ⟨iG parts.toList,[id]⟩ ⟨some (d,some (.one (.ra id 0 len len))),[(id,some (.rarr e ei.size rows))]⟩:=by
 refine Step.new hd ae hid (by simp) fun st' ha ab G S μ a w hs=>?_
 have Y:=Aa hlen;have hsm:=Ak J;obtain⟨z,hz,ag,_⟩:=(I.get q).zero_run;have Z:=(ag S).length;rw[(I.get q).len] at Z;simp only[Bd] at Z;obtain⟨ah,ai⟩:=aCq y;simp only[Bd] at ah;have key:∀(cells:Array Value),cells.size=len*ei.size→∃out:Array Value,Instr.fill (fun i=>some (i*ei.size,ei.size)) cells (parts.map fun(i,x)=>(i,a.eval x)).toList=some out∧out.size=len*ei.size∧b6 S μ st'.h rows.flatten out.toList:=by
  intro cells hc;obtain⟨out,h1,h2,us,h3,h4⟩:=aLs hs y ha.1 cells (by rw[hc,Y];simp);refine⟨out,by rw[←h1];simp,by rw[h2,hc],?_⟩;simp at h4;rw[h4];exact h3
 have ac:∃out:Array Value,(Instr.buildSlice t len (parts.map fun(i,x)=>(i,a.eval x))).run P w=.ok (.slice (some ⟨w.heap.size,0,none⟩) len len) (w.alloc (.cells out e))∧out.size=len*ei.size∧b6 S μ st'.h rows.flatten out.toList:=by
  by_cases h0:len*ei.size=0
  ·obtain⟨out,h1,h2,h3⟩:=key ((Array.range (len*ei.size)).map ((#[]:Array Value)[· %(#[]:Array Value).size]!)) (by simp);refine⟨out,?_,h2,h3⟩;have O:¬len*ei.size>2^24:=by omega
   simp only[Instr.buildSlice,Ad,Av ((I.get hi).slice hk) w,τ,(I.get q).size_run w];rw[θ O,κ h0];simp only[Ad,τ,Af,h1,jA]
  ·obtain⟨out,h1,h2,h3⟩:=key ((Array.range (len*ei.size)).map (z.cells[· %z.cells.size]!)) (by simp);refine⟨out,?_,h2,h3⟩;have O:¬len*ei.size>2^24:=by omega
   simp only[Instr.buildSlice,Ad,Av ((I.get hi).slice hk) w,τ,(I.get q).size_run w];rw[θ O,θ h0];simp only[Ad,hz w,τ,Af,h1,jA]
 obtain⟨out,h1,h2,h3⟩:=ac;have aj:len≤maxLen:=by
  have:=Ak aa;unfold maxLen;omega
 have ad:rows.length=len:=by omega
 refine⟨_,_,.slice (some ⟨w.heap.size,0,none⟩) len len,(0,len),?_,WChg.alloc w (.cells out e),?_,?_⟩
 ·simp only[execOp,ho,Ad,h1,τ,Af]
 ·refine⟨ai,.inr ⟨w.heap.size,0,len,out.toList,aI _ _ _,B4 w _,by simp[h2],by omega,⟨aj,pK hs.inv⟩,?_,fun o _=>fX hs.inv o⟩⟩;simp only[B3];rw[Az (by simp[h2,ad])];exact b6.evolve (gD ab _ _) _ _ h3
 ·simp only[aY,b9];exact⟨⟨_,_,_,rfl⟩,.inr ⟨e,ei.size,rows,aI _ _ _,by omega,fun _=>⟨by omega,.inr ⟨w.heap.size,0,len,aI _ _ _,by simp⟩⟩⟩⟩
theorem aL2 {t e:TypeId}{i ei:TI}{x y:Operand}{te es k id off len sz:Nat}{kk:IntKind}{m:Int}{elems:List (List R)}(hT:Tok P T) (ho:o.op=.indexAddr t x y) (hd:o.dst=some d) (Y:d<n) (hi:T[t]?=some (some i)) (hk:i.k=.sl e) (Z:T[e]?=some (some ei)) (aa:ei.size=es)
  (hx:opv st x=some (.one (.ra id off len sz))) (hh:st.h id=some (.rarr te es elems)) (O:sz=elems.length) (hy:opv st y=some (I kk m)) (hm:m=(k:Int)) (ab:k<len):Step P n o st ⟨opr x++opr y,[id]⟩ ⟨some (d,some (.one (.rp id (off+k) 0 sz))),[]⟩:=by
 refine Step.value hd Y fun st' ha G S μ a w hs=>?_
 have q:=aO hs hx fun t ht=>ha.1 t (by simp[ht])
 have ac:=gH (aO hs hy fun t ht=>ha.1 t (by simp[ht]));have J:st'.h id=some (.rarr te es elems):=by rw[ha.2 id (by simp),hh]
 simp only[aY,b9] at q;obtain⟨_,q | ⟨te',es',elems',h1,h2,h3⟩⟩:=q
 ·rw[J] at q;cases q
 rw[J] at h1;cases h1;obtain⟨h4,⟨h5,h6,h7⟩ | ⟨b,base,cap,h5,h6⟩⟩:=h3 O
 ·subst h6;simp at O;omega
 subst hm;refine⟨.pointer (some ⟨b,base+(off+k)*es+0,none⟩),?_,?_⟩
 ·simp only[execOp,ho,h6,ac,Ad,lC hT hi hk Z w b (base+off*es) len _ k kk ab,τ,Af,aa,B9];rw[show base+off*es+k*es=base+(off+k)*es by rw[A7];omega]
 ·simp only[aY,b9];exact⟨⟨_,rfl⟩,.inr ⟨te,es,elems,J,h2,fun _=>⟨by omega,b,base,cap,h5,rfl⟩⟩⟩
theorem aL4 {t J:TypeId}{i O:TI}{fs:List (Nat×TypeId)}{f q:Nat}{x:Operand}{id k fo sz:Nat}(hT:Tok P T) (ho:o.op=.fieldAddr t x f) (hd:o.dst=some d) (Y:d<n) (hi:T[t]?=some (some i)) (hk:i.k=.st fs) (hf:fs[f]?=some (q,J)) (Z:T[J]?=some (some O)) (hz:O.size≠0)
  {te es:Nat} {elems:List (List R)} (hx:opv st x=some (.one (.rp id k fo sz))) (hh:st.h id=some (.rarr te es elems)) (aa:sz=elems.length):Step P n o st ⟨opr x,[id]⟩ ⟨some (d,some (.one (.rp id k (fo+q) sz))),[]⟩:=by
 refine Step.value hd Y fun st' ha G S μ a w hs=>?_
 have y:=aO hs hx ha.1;have I:st'.h id=some (.rarr te es elems):=by rw[ha.2 id (by simp),hh]
 simp only[aY,b9] at y;obtain⟨_,y | ⟨te',es',elems',h1,h2,h3⟩⟩:=y
 ·rw[I] at y;cases y
 rw[I] at h1;cases h1;obtain⟨h4,b,base,cap,h5,h6⟩:=h3 aa;refine⟨.pointer (some ⟨b,base+k*es+fo+q,none⟩),?_,?_⟩
 ·simp only[execOp,ho,h6,Ad,jG hT hi hk hf Z hz,τ,Af]
 ·simp only[aY,b9];exact⟨⟨_,rfl⟩,.inr ⟨te,es,elems,I,h2,fun _=>⟨h4,b,base,cap,h5,by rw[Cq]⟩⟩⟩
theorem aUc {t e:TypeId}{i:TI}{x:Operand}{te es id off len sz:Nat}{elems:List (List R)}(O:Tok P T) (Y:o.op=.call { callee:=.builtin .len,args:= #[x],argTypes:= #[t] }) (hd:o.dst=some d) (Z:d<n) (hi:T[t]?=some (some i)) (hk:i.k=.sl e)
  (hx:opv st x=some (.one (.ra id off len sz))) (hh:st.h id=some (.rarr te es elems)) (y:sz=elems.length):Step P n o st ⟨opr x,[id]⟩ ⟨some (d,some (I .i64 (len:Int))),[]⟩:=by
 refine Step.value hd Z fun st' ha G S μ a w hs=>?_
 have q:=aO hs hx ha.1;have J:st'.h id=some (.rarr te es elems):=by rw[ha.2 id (by simp),hh]
 simp only[aY,b9] at q;obtain⟨_,q | ⟨te',es',elems',h1,h2,h3⟩⟩:=q
 ·rw[J] at q;cases q
 rw[J] at h1;cases h1;obtain⟨h4,⟨h5,h6,h7⟩ | ⟨b,base,cap,h5,h6⟩⟩:=h3 y
 ·have hl:len=0:=by subst h6;simp at y;omega
  subst hl;refine⟨goInt 0,lB Y h7 ?_,by simp[aY,b9,Rep,goInt]⟩;simp[Builtin.len_,Av ((O.get hi).slice hk) w]
 ·refine⟨goInt len,lB Y h6 ?_,by simp[aY,b9,Rep,goInt]⟩;simp[Builtin.len_,Av ((O.get hi).slice hk) w]
theorem aOa {S:Sto}{μ:Mu}{H:dD}{es base:Nat}{elems:List (List R)}{vs:List Value}(h0:∀r∈elems,r.length=es) (h:b6 S μ H elems.flatten ((vs.drop base).take (elems.length*es))) {k:Nat}{r:List R}(hk:elems[k]?=some r):
  b6 S μ H r ((vs.drop (base+k*es)).take es):=by
 have q:k<elems.length:=(ξ.1 hk).1
 have hmul:(k+1)*es≤elems.length*es:=A0 _ q;rw[A7] at hmul;have h1:=(h.drop (k*es)).take es;rw[gK h0 k r hk] at h1;rw[drop_take,take_take,drop_drop,Ci (by omega)] at h1;exact h1
theorem aOh {t te es:Nat}{i:TI}{x:Operand}{id k fo sz:Nat}{elems:List (List R)}{r:List R}{y:V}(hT:Tok P T) (ho:o.op=.load t x) (hd:o.dst=some d) (Z:d<n) (hi:T[t]?=some (some i)) (hx:opv st x=some (.one (.rp id k fo sz)))
  (hh:st.h id=some (.rarr te es elems)) (aa:sz=elems.length) (hr:elems[k]?=some r) (hl:fo+i.size≤es) (hy:sG i ((r.drop fo).take i.size)=some y):Step P n o st ⟨opr x,[id]⟩ ⟨some (d,some y),[]⟩:=by
 refine Step.value hd Z fun st' ha G S μ a w hs=>?_
 have I:=aO hs hx ha.1;have J:st'.h id=some (.rarr te es elems):=by rw[ha.2 id (by simp),hh]
 simp only[aY,b9] at I;obtain⟨_,I | ⟨te',es',elems',h1,h2,h3⟩⟩:=I
 ·rw[J] at I;cases I
 rw[J] at h1;cases h1;obtain⟨h4,b,base,cap,h5,h6⟩:=h3 aa;obtain⟨g0,vs,g1,g2,g3,g4,g5,g6⟩:=(hs.inv.obj id _ J).rarr h5;have Y:=aOa g0 g5 hr;have q:=(Y.drop fo).take i.size;rw[drop_take,take_take,drop_drop,Ci (by omega)] at q;have hlt:k<elems.length:=(ξ.1 hr).1
 have hmul:(k+1)*es≤cap*es:=A0 _ (by omega);rw[A7] at hmul;have hcl:((vs.drop (base+k*es+fo)).take i.size).length=i.size:=a8a (by omega);have hrg:=lE g1 (base+k*es+fo) i.size;refine⟨_,?_,mZ q hy⟩;have O:=run_load (hT.get hi) w b (base+k*es+fo) _ hrg hcl;simp only[execOp,ho,h6,Ad,Af] at O ⊢;rw[O];rfl
theorem zZ {x:Operand}{te es id k fo sz:Nat}{elems:List (List C)}{fz:Nat}(O:o.op=.nilCheck x) (hd:o.dst=some d) (I:d<n) (hx:opv st x=some (.one (.ep id k fo sz))) (hh:st.h id=some (.arr te es elems fz)) (J:sz=elems.length):
  Step P n o st ⟨opr x,[id]⟩ ⟨some (d,some (.one (.ep id k fo sz))),[]⟩:=by
 refine Step.value hd I fun st' ha G S μ a w hs=>⟨a.eval x,?_,aO hs hx ha.1⟩
 have q:=aO hs hx ha.1;have y:st'.h id=some (.arr te es elems fz):=by rw[ha.2 id (by simp),hh]
 simp only[aY,b9] at q;obtain⟨_,q | ⟨Y,Z,elems',aa,h1,h2,h3⟩⟩:=q
 ·rw[y] at q;cases q
 rw[y] at h1;cases h1;obtain⟨h4,b,base,cap,h5,h6⟩:=h3 J;simp[execOp,O,h6]
theorem zY {x:Operand}{te es id k fo sz:Nat}{elems:List (List R)}(O:o.op=.nilCheck x) (hd:o.dst=some d) (I:d<n) (hx:opv st x=some (.one (.rp id k fo sz))) (hh:st.h id=some (.rarr te es elems)) (J:sz=elems.length):
  Step P n o st ⟨opr x,[id]⟩ ⟨some (d,some (.one (.rp id k fo sz))),[]⟩:=by
 refine Step.value hd I fun st' ha G S μ a w hs=>⟨a.eval x,?_,aO hs hx ha.1⟩
 have q:=aO hs hx ha.1;have y:st'.h id=some (.rarr te es elems):=by rw[ha.2 id (by simp),hh]
 simp only[aY,b9] at q;obtain⟨_,q | ⟨Y,Z,elems',h1,h2,h3⟩⟩:=q
 ·rw[y] at q;cases q
 rw[y] at h1;cases h1;obtain⟨h4,b,base,cap,h5,h6⟩:=h3 J;simp[execOp,O,h6]
end
section
variable {P:Program}{n:Nat}{o:Oper}{st:St}{d:Nat}{T:TT}
theorem yX {t e:TypeId}{i ei:TI}{x y:Operand}{id id2 sz te2:Nat}{elems rows:List (List R)}{st':St}{G:Ctx}{S:Sto}{μ:Mu}{a:Act}{w:World}(hT:Tok P T) (ho:o.op=.call { callee:=.builtin .append,args:= #[x,y],argTypes:= #[t,t] })
  (hi:T[t]?=some (some i)) (hk:i.k=.sl e) (hei:T[e]?=some (some ei)) (hes:Nat.ble 1 ei.size=true) (heb:Nat.ble 1 ei.bytes=true)
  (hsz:sz=elems.length) (hpos:0<rows.length) (hroom:(elems.length+rows.length)*ei.bytes≤140737488355328) (hh':st'.h id=some (.rarr e ei.size elems)) (hs:Sim G n S μ st' a w)
  (hvx:aY S μ st'.h (.one (.ra id 0 sz sz)) (a.eval x)) (hvy:aY S μ st'.h (.one (.ra id2 0 rows.length rows.length)) (a.eval y)) (hh2:st'.h id2=some (.rarr te2 ei.size rows)):
  ∃w' v b bo c,(execOp a.eval o).run P w=.ok (.value v) w'∧(w.heap.size≤b∨∃c',μ id=some (b,c'))∧WChg w w' b bo∧
   nI S (upd μ id (some (b,c))) (upd st'.h id (some (.rarr e ei.size (elems++rows)))) w' id (.rarr e ei.size (elems++rows))∧(∀o v,S.cell b o=some v→∃vs t fr,bo=.cells vs t fr∧vs[o]?=some v)∧(∀m,S.mapo b=some m→w.heap.size≤b)∧
   Evolve S μ st'.h S (upd μ id (some (b,c))) (upd st'.h id (some (.rarr e ei.size (elems++rows))))∧
   aY S (upd μ id (some (b,c))) (upd st'.h id (some (.rarr e ei.size (elems++rows)))) (.one (.ra id 0 (elems.length+rows.length) (elems.length+rows.length))) v:=by
 subst hsz;have hes':=Ak hes;have heb':=Ak heb
 have hE:∀b c,Evolve S μ st'.h S (upd μ id (some (b,c))) (upd st'.h id (some (.rarr e ei.size (elems++rows)))):=fun b c=>⟨S.le_refl,fun j x hj=>by
  by_cases hne:j=id
  ·subst hne;rw[hh'] at hj;cases hj;exact⟨_,aI _ _ _,by simp only[AObj.succ,true_and];exact⟨by simp,fun e=>by rw[ε] at e;omega⟩⟩
  ·exact⟨x,by rw[aV _ _ _ hne];exact hj,x.succ_refl (aV _ _ _ hne)⟩⟩
 obtain⟨ad,cc,news,hvy1,I,hrl,Y⟩:∃ad cc news,a.eval y=.slice (some ad) rows.length cc∧b6 S μ st'.h rows.flatten news∧(∀r∈rows,r.length=ei.size)∧∀j u,news[j]?=some u→w.cell? (ad.add j)=some u:=by
  simp only[aY,b9] at hvy;obtain⟨_,hv | ⟨te',es',elems',h1,h2,h3⟩⟩:=hvy
  ·rw[hh2] at hv;cases hv
  rw[hh2] at h1;cases h1;obtain⟨h4,⟨h5,h6,h7⟩ | ⟨b,base,cap,h5,h6⟩⟩:=h3 rfl
  ·rw[h6] at hpos;simp at hpos
  obtain⟨g0,vs,g1,g2,g3,g4,g5,g6⟩:=(hs.inv.obj id2 _ hh2).rarr h5;refine⟨_,_,_,h6,g5,g0,fun j u hj=>?_⟩;rw[Addr.add_mid,cell_of_row w b _ ⟨vs⟩ te2 (0,0) g1];rw[Ay] at hj;split at hj
  ·rw[Am] at hj;simpa using hj
  ·cases hj
 have J:news.length=rows.length*ei.size:=by rw[I.length,jN hrl]
 obtain⟨inf,dd,z,g1,g2,g3,g4,g5,g6,g7,g8⟩:=(hT.get hei).ex;have hu:=(hT.get hi).slice hk;have hzs:z.cells.size=ei.size:=by
  have h1:=(iM (S:=S) g7).length;rw[(hT.get hei).len] at h1;simpa using h1
 simp only[aY,b9] at hvx;obtain⟨_,hv | ⟨te',es',elems',h1,h2,h3⟩⟩:=hvx
 ·rw[hh'] at hv;cases hv
 rw[hh'] at h1;cases h1;obtain⟨h4,hcase⟩:=h3 rfl;have hbig:elems.length+rows.length≤140737488355328:=by
  have:(elems.length+rows.length)*1≤(elems.length+rows.length)*ei.bytes:=Cy _ heb';omega
 have hone:∀u∈news,u.oneCell'=true:=I.one;have hcap:∀old,elems.length+rows.length≤grownCap w (elems.length+rows.length) old e∧grownCap w (elems.length+rows.length) old e≤maxLen:=fun old=>
  ⟨grownCap_ge _ _ _ _,grownCap_le_maxLen _ _ _ _ (by unfold maxLen;omega)⟩
 have hlen':(elems++rows).length=elems.length+rows.length:=by simp
 have O:∀(Z:List Value) (old:Nat),b6 S μ st'.h elems.flatten Z→∀g0:(∀r∈elems,r.length=ei.size),
   nI S (upd μ id (some (w.heap.size,0,grownCap w (elems.length+rows.length) old e))) (upd st'.h id (some (.rarr e ei.size (elems++rows))))
    (w.drew.alloc (.cells (Z.toArray++news.toArray++Builtin.zeroCells z.cells (grownCap w (elems.length+rows.length) old e-(elems.length+rows.length))) e)) id (.rarr e ei.size (elems++rows)):=by
  intro Z old hol g0;obtain⟨hc1,hc2⟩:=hcap old;have aa:=hol.length;rw[jN g0] at aa;refine⟨?_,.inr ⟨w.heap.size,0,grownCap w (elems.length+rows.length) old e,(Z.toArray++news.toArray++Builtin.zeroCells z.cells (grownCap w (elems.length+rows.length) old e-(elems.length+rows.length))).toList,aI _ _ _,B4 w.drew _,?_,by simpa using hc1,⟨hc2,pK hs.inv⟩,?_,fun o _=>fX hs.inv o⟩⟩
  ·intro r q;rcases ω.1 q with q | q
   ·exact g0 r q
   ·exact hrl r q
  ·simp only[C4,ε,Bd,size_zeroCells,hzs];simp only[aa,J,Be,←A7];exact A0 _ (by omega)
  ·simp only[C4,B3,ε,flatten_append];rw[C2 (by simp[aa,J,A7]),Az (by simp[aa,J,A7])];exact(b6.evolve (hE _ _) _ _ hol).append (b6.evolve (hE _ _) _ _ I)
 rcases hcase with⟨h5,h6,h7⟩ | ⟨b,base,cap,h5,h6⟩
 ·--the first elements
  subst h6;simp only[length_nil,Be] at hroom hbig O hcap;have q:=run_append_nil (P:=P) w t o.type e inf z hu g1 g6 ad rows.length cc news (by rw[J,g3]) Y (by omega) (by omega) (by rw[g4];omega);refine⟨_,_,w.heap.size,_,(0,grownCap w rows.length 0 e),gT ho h7 hvy1 q,.inl (le_refl _),WChg.alloc_drew w _,?_,fun o v e=>(by rw[fX hs.inv o] at e;cases e),fun m e=>le_refl _,hE _ _,?_⟩
  ·have:=O [] 0 (by simp[b6]) (by simp);simpa using this
  ·simp only[aY,b9];exact⟨⟨_,_,_,rfl⟩,.inr ⟨e,ei.size,_,aI _ _ _,by simp,fun _=>⟨by simp,.inr ⟨w.heap.size,0,_,aI _ _ _,by simp⟩⟩⟩⟩
 ·obtain⟨q0,vs,q1,q2,q3,q4,q5,q6⟩:=(hs.inv.obj id _ hh').rarr h5;have hce:elems.length*ei.size≤cap*ei.size:=A0 _ q3;simp only[sub_zero,Nat.zero_mul,B9] at h6;by_cases ab:elems.length+rows.length≤cap
  ·--there is room
   have hce2:(elems.length+rows.length)*ei.size≤cap*ei.size:=A0 _ ab;rw[A7] at hce2;have q:=lY (P:=P) w t o.type e inf hu g1 b base elems.length cap ⟨vs⟩ q1 ad rows.length cc news (by rw[J,g3]) Y hone ab (by rw[g3,J];simp only[size_toArray];omega);rw[g3] at q;have hW:=WChg.setRow w b ⟨vs⟩ ⟨vs.take (base+elems.length*ei.size)++news++vs.drop (base+elems.length*ei.size+news.length)⟩ e (0,0) q1
   refine⟨_,_,b,_,(base,cap),gT ho h6 hvy1 q,.inr ⟨_,h5⟩,hW,⟨?_,.inr ⟨b,base,cap,_,aI _ _ _,hW.new,?_,by rw[hlen'];omega,q4,?_,q6⟩⟩,fun o v e=>(by
     by_cases hb:base≤o
     ·rw[q6 o hb] at e;cases e
     ·obtain⟨vs0,t0,fr0,p1,p2⟩:=hs.inv.holds.1 b o v e;rw[q1] at p1;cases p1;refine⟨_,_,_,rfl,?_⟩;simp only[List.getElem?_toArray] at p2 ⊢;have hlt:o<vs.length:=(ξ.1 p2).1
      rw[Aw,Ax (by simp;omega),Ay,κ (by omega)]
      exact p2),fun m e=>jL q4.2 m e,hE _ _,?_⟩
   ·intro r q;rcases ω.1 q with q | q
    ·exact q0 r q
    ·exact hrl r q
   ·simp only[ε,Ap,Bk];omega
   ·rw[hlen',flatten_append];have e1:((vs.take (base+elems.length*ei.size)++news++vs.drop (base+elems.length*ei.size+news.length)).drop base).take ((elems.length+rows.length)*ei.size)=(vs.drop base).take (elems.length*ei.size)++news:=by
     rw[Aw,List.drop_append_of_le_length (by simp;omega),←Aw,C2 (by simp[A7];omega)];rw[Az (by simp[A7];omega),drop_take];rw[show base+elems.length*ei.size-base=elems.length*ei.size by omega]
    rw[e1];exact(b6.evolve (hE _ _) _ _ q5).append (b6.evolve (hE _ _) _ _ I)
   ·simp only[aY,b9];exact⟨⟨_,_,_,rfl⟩,.inr ⟨e,ei.size,_,aI _ _ _,by simp,fun _=>⟨by simp,.inr ⟨b,base,cap,aI _ _ _,by simp⟩⟩⟩⟩
  ·--into a new block
   have q:=run_append_grow (P:=P) w t o.type e inf z hu g1 g6 ⟨b,base,none⟩ elems.length cap ((vs.drop base).take (elems.length*ei.size)) (by rw[g3];simp;omega) (by
     intro j v hj;rw[Addr.add_mid,cell_of_row w b _ ⟨vs⟩ e (0,0) q1];rw[Ay] at hj;split at hj
     ·rw[Am] at hj;simpa using hj
     ·cases hj) ad rows.length cc news (by rw[J,g3]) Y (by omega) (by omega) (by rw[g4];exact growslice_fits (by omega) hroom)
   refine⟨_,_,w.heap.size,_,(0,grownCap w (elems.length+rows.length) cap e),gT ho h6 hvy1 q,.inl (le_refl _),WChg.alloc_drew w _,?_,fun o v e=>(by rw[fX hs.inv o] at e;cases e),fun m e=>le_refl _,hE _ _,?_⟩
   ·have:=O _ cap q5 q0;simpa using this
   ·simp only[aY,b9];exact⟨⟨_,_,_,rfl⟩,.inr ⟨e,ei.size,_,aI _ _ _,by simp,fun _=>⟨by simp,.inr ⟨w.heap.size,0,_,aI _ _ _,by simp⟩⟩⟩⟩
theorem aKj {y:V}{id te es:Nat}{elems:List (List R)}(hd:o.dst=some d) (J:d<n) {st':St}{G:Ctx}{S:Sto}{μ:Mu}{a:Act}{w:World}{K:Act→World→Prop}{Q:Exit→Act→World→Prop}
  (hs:Sim G n S μ st' a w) (q:∀b c',μ id=some (b,c')→∃ao,st'.h id=some ao) (hk:∀S' μ' O w',Sim G n S' μ' (Eff.apply ⟨some (d,some y),[(id,some (.rarr te es elems))]⟩ st') O w'→K O w')
  (h:∃w' v b I c,(execOp a.eval o).run P w=.ok (.value v) w'∧(w.heap.size≤b∨∃c',μ id=some (b,c'))∧WChg w w' b I∧nI S (upd μ id (some (b,c))) (upd st'.h id (some (.rarr te es elems))) w' id (.rarr te es elems)∧
   (∀o v,S.cell b o=some v→∃vs t fr,I=.cells vs t fr∧vs[o]?=some v)∧(∀m,S.mapo b=some m→w.heap.size≤b)∧Evolve S μ st'.h S (upd μ id (some (b,c))) (upd st'.h id (some (.rarr te es elems)))∧aY S (upd μ id (some (b,c))) (upd st'.h id (some (.rarr te es elems))) y v):
  ∀ro,o.wpIn (Wd ro) 0 P a w K Q:=by
 obtain⟨w',v,b,I,c,hr,hb,hw,hO,hS,Y,Z,hv⟩:=h;refine fun ro=>j7 hr ?_
 rw[hd];have hi:=hs.inv.chg (id:=id) (cap:=c) (ao:=.rarr te es elems) hw (hb.imp (fun h=>h) fun⟨c',h⟩=>by obtain⟨ao,aa⟩:=q _ _ h;exact⟨_,c',aa,h⟩) Z hO hS Y;have:=hs.put hi Z J (x:=some y) (v:=v) (fun z hz=>by cases hz;exact hv);refine hk S (upd μ id (some (b,c))) _ _ ?_;unfold Eff.apply;rw[dG];exact this
theorem aOp {t e:TypeId}{i ei:TI}{x y:Operand}{id q sz J:Nat}{elems rows:List (List R)}(hT:Tok P T) (ho:o.op=.call { callee:=.builtin .append,args:= #[x,y],argTypes:= #[t,t] }) (hd:o.dst=some d) (aa:d<n)
  (hi:T[t]?=some (some i)) (hk:i.k=.sl e) (ab:T[e]?=some (some ei)) (ac:Nat.ble 1 ei.size=true) (ad:Nat.ble 1 ei.bytes=true)
  (hx:opv st x=some (.one (.ra id 0 sz sz))) (hh:st.h id=some (.rarr e ei.size elems)) (ae:sz=elems.length) (hy:opv st y=some (.one (.ra q 0 rows.length rows.length))) (ag:st.h q=some (.rarr J ei.size rows)) (Y:0<rows.length)
  (I:(elems.length+rows.length)*ei.bytes≤140737488355328):
  Step P n o st ⟨opr x++opr y,[id,q]⟩ ⟨some (d,some (.one (.ra id 0 (elems.length+rows.length) (elems.length+rows.length)))),[(id,some (.rarr e ei.size (elems++rows)))]⟩:=by
 intro st' ha G S μ a w K Q hs ah;have ai:=aO hs hx fun t ht=>ha.1 t (by simp[ht])
 have aj:=aO hs hy fun t ht=>ha.1 t (by simp[ht])
 have O:st'.h id=some (.rarr e ei.size elems):=by rw[ha.2 id (by simp),hh]
 have Z:st'.h q=some (.rarr J ei.size rows):=by rw[ha.2 q (by simp),ag]
 exact aKj hd aa hs (fun _ _ _=>⟨_,O⟩) ah (yX hT ho hi hk ab ac ad ae Y I O hs ai aj Z)
theorem Inv.emptyR {G:Ctx}{S:Sto}{μ:Mu}{H:dD}{w:World}{id:Nat}(te es:Nat) (h:Inv G S μ H w) (hid:H id=none):Inv G S (upd μ id none) (upd H id (some (.rarr te es []))) w∧Evolve S μ H S (upd μ id none) (upd H id (some (.rarr te es []))):=by
 have I:Evolve S μ H S (upd μ id none) (upd H id (some (.rarr te es []))):=gD hid _ _;refine⟨⟨h.holds,fun j x hj=>?_,fun i j x x' b c c' hi hj hm q=>?_,fun i x b c hi hm=>?_,h.frame,h.sle,h.sto,h.evo.trans I,h.fre⟩,I⟩
 ·by_cases y:j=id
  ·subst y;rw[aI] at hj;cases hj;exact⟨by simp,.inl ⟨aI _ _ _,rfl⟩⟩
  ·rw[aV _ _ _ y] at hj;exact(h.obj j x hj).evolve I (aV _ _ _ y) fun _ _ _=>⟨rfl,fun _=>rfl,rfl⟩
 ·have h1:i≠id:=fun e=>by subst e;rw[aI] at hm;cases hm
  have h2:j≠id:=fun e=>by subst e;rw[aI] at q;cases q
  rw[aV _ _ _ h1] at hi hm;rw[aV _ _ _ h2] at hj q;exact h.inj i j x x' b c c' hi hj hm q
 ·have h1:i≠id:=fun e=>by subst e;rw[aI] at hm;cases hm
  rw[aV _ _ _ h1] at hi hm;exact h.own i x b c hi hm
theorem aL7 {t e:TypeId}{i ei:TI}{x y:Operand}{q Z:Nat}{rows:List (List R)}(id:Nat) (hT:Tok P T) (ho:o.op=.call { callee:=.builtin .append,args:= #[x,y],argTypes:= #[t,t] }) (hd:o.dst=some d) (hdn:d<n)
  (hi:T[t]?=some (some i)) (hk:i.k=.sl e) (hei:T[e]?=some (some ei)) (hes:Nat.ble 1 ei.size=true) (heb:Nat.ble 1 ei.bytes=true)
  (hx:opv st x=some (.one (.c .nl))) (hid:st.h id=none) (hy:opv st y=some (.one (.ra q 0 rows.length rows.length))) (hh2:st.h q=some (.rarr Z ei.size rows)) (ab:0<rows.length)
  (Y:rows.length*ei.bytes≤140737488355328):
  Step P n o st ⟨opr x++opr y,[id,q]⟩ ⟨some (d,some (.one (.ra id 0 rows.length rows.length))),[(id,some (.rarr e ei.size rows))]⟩:=by
 intro st' ha G S μ a w K Q hs hk';have J:st'.h id=none:=by rw[ha.2 id (by simp),hid]
 obtain⟨hi',hE⟩:=hs.inv.emptyR e ei.size J;have aa:Sim G n S (upd μ id none) ⟨st'.e,upd st'.h id (some (.rarr e ei.size [])),st'.d⟩ a w:=⟨hi',hs.size,hs.defers.evolve hE,fun t v e=>aY.evolve hE v _ (hs.env t v e)⟩
 have O:=aO hs hx fun t ht=>ha.1 t (by simp[ht])
 have hvy:=aO hs hy fun t ht=>ha.1 t (by simp[ht])
 have I:st'.h q=some (.rarr Z ei.size rows):=by rw[ha.2 q (by simp),hh2]
 simp only[aY,b9,Rep] at O;have hvx':aY S (upd μ id none) (upd st'.h id (some (.rarr e ei.size []))) (.one (.ra id 0 0 0)) (a.eval x):=by
  simp only[aY,b9];exact⟨⟨_,_,_,O⟩,.inr ⟨e,ei.size,[],aI _ _ _,le_refl _,fun _=>⟨le_refl _,.inl ⟨aI _ _ _,rfl,O⟩⟩⟩⟩
 have hne:q≠id:=fun e=>by subst e;rw[J] at I;cases I
 have:=yX (elems:=[]) (id:=id) hT ho hi hk hei hes heb rfl ab (by simpa using Y) (aI _ _ _) aa hvx' (aY.evolve hE _ _ hvy) (by
  show upd st'.h id (some (.rarr e ei.size [])) q=_;rw[aV _ _ _ hne]
  exact I)
 refine aKj hd hdn aa (fun _ _ _=>⟨_,aI _ _ _⟩) (fun S' μ' a' w' h=>hk' S' μ' a' w' ?_) this;have e1:Eff.apply ⟨some (d,some (.one (.ra id 0 (([]:List (List R)).length+rows.length) (([]:List (List R)).length+rows.length)))),[(id,some (.rarr e ei.size ([]++rows)))]⟩ ⟨st'.e,upd st'.h id (some (.rarr e ei.size [])),st'.d⟩
   =Eff.apply ⟨some (d,some (.one (.ra id 0 rows.length rows.length))),[(id,some (.rarr e ei.size rows))]⟩ st':=by
  unfold Eff.apply;rw[dG,dG,mE];simp
 rw[e1] at h;exact h
theorem Sub.ownR {kf:List Nat}{st:St}{t id:Nat}(te es:Nat) (h:st.e t=some (.one (.c .nl))) (hid:st.h id=none):Sub kf ⟨upd st.e t (some (.one (.ra id 0 0 0))),upd st.h id (some (.rarr te es [])),st.d⟩ st:=by
 intro G n S μ a w _ hs;obtain⟨hi,I⟩:=hs.inv.emptyR te es hid;refine⟨S,upd μ id none,⟨hi,hs.size,hs.defers.evolve I,fun s v e=>?_⟩⟩;by_cases q:s=t
 ·subst q;have y:=hs.env s _ h;have e':v=.one (.ra id 0 0 0):=by
   have:some v=some (V.one (.ra id 0 0 0)):=by rw[←e];exact aI _ _ _
   cases this;rfl
  subst e';simp only[aY,b9,Rep] at y ⊢;exact⟨⟨_,_,_,y⟩,.inr ⟨te,es,[],aI _ _ _,le_refl _,fun _=>⟨le_refl _,.inl ⟨aI _ _ _,rfl,y⟩⟩⟩⟩
 ·have e':st.e s=some v:=by rw[←e];exact(aV _ _ _ q).symm
  exact aY.evolve I v _ (hs.env s v e')
end
section
variable {P:Program}{n:Nat}{o:Oper}{st:St}{d:Nat}{T:TT}
theorem aZg {src dst:TypeId}{i j:TI}{x:Operand}{k k':IntKind}{m:Int}(q:Tok P T) (Y:o.op=.convert src dst x) (hd:o.dst=some d) (y:d<n) (hi:T[src]?=some (some i)) (J:i.k=.int k) (hj:T[dst]?=some (some j)) (O:j.k=.int k')
  (hx:opv st x=some (I k m)):Step P n o st ⟨opr x,[]⟩ ⟨some (d,some (I k' (k'.wrap m))),[]⟩:=by
 refine Step.value hd y fun st' ha G S μ a w hs=>?_
 have Z:=gH (aO hs hx ha.1);refine⟨.int k' (k'.wrap m),?_,by simp[aY,b9,Rep]⟩;have h1:=(q.get hi).int J;have h2:=(q.get hj).int O;simp only[execOp,Y,Z,Ad,convert,Av h1 w,Av h2 w,τ,Conv.intToInt,Af]
theorem aZh {src dst e:TypeId}{i j ei:TI}{x:Operand}{v:V}{ids:List Nat}{rows:List (List C)}{ns:List Int}(Y:Tok P T) (ho:o.op=.convert src dst x) (hd:o.dst=some d) (hdn:d<n) (hi:T[src]?=some (some i)) (hik:i.k=.sl e) (hei:T[e]?=some (some ei)) (hek:ei.k=.int .u8)
  (hj:T[dst]?=some (some j)) (hjk:j.k=.str) (hx:opv st x=some v) (Z:Src st 1 ids v rows) (hr:rows=ns.map fun m=>[C.int .u8 m]):Step P n o st ⟨opr x,ids⟩ ⟨some (d,some (Go.AM.T (ns.map fun m=>UInt8.ofNat m.toNat))),[]⟩:=by
 refine Step.value hd hdn fun st' ha G S μ a w hs=>?_
 have hv:=aO hs hx ha.1;obtain⟨q,c,news,h1,h2,h3,h4,h5⟩:=Z.rel hs ha.2 hv;have I:=(Y.get hi).slice hik;have J:=(Y.get hei).int hek;have O:=(Y.get hj).str hjk;have y:∀(ns:List Int) (news:List Value),dH S (ns.map fun m=>[C.int .u8 m]).flatten news→news=ns.map (Value.int .u8):=by
  intro ns
  induction ns with
  | nil=>intro news h;simpa [dH] using h
  | cons m ns ih=>
   intro news h;simp only[At,Bm,List.singleton_append,dH,Rep] at h;obtain⟨u,us,rfl,rfl,h⟩:=h;rw[ih us h];rfl
 rw[hr] at h2;have hn:=y ns news h2;have hrun:(convert src dst (a.eval x)).run P w=.ok (.string ⟨⟨ns.map fun m=>UInt8.ofNat m.toNat⟩⟩) w:=by
  rw[h1];cases q with
  | none=>
   have h6:=h4 rfl;rw[hr] at h6;have:ns=[]:=by simpa using h6
   subst this;exact run_convert_bytes_nil w src e I J _ _ dst O
  | some q=>
   have hlen:rows.length=ns.length:=by rw[hr];simp
   have hl:(loadCells q ns.length).run P w=.ok (ns.map (Value.int .u8)).toArray w:=by
    have:=run_loadCells_list (P:=P) w q (ns.map (Value.int .u8)) (fun j v hj=>h5 q rfl j v (by rw[hn];exact hj));simpa using this
   rw[hlen,run_convert_bytes_string w src dst e _ _ _ I J O,run_bytesToString w _ _ _ ns hl,foldl_push_bytes];simp[ByteArray.empty,ByteArray.emptyWithCapacity];rfl
 refine⟨.string ⟨⟨ns.map fun m=>UInt8.ofNat m.toNat⟩⟩,?_,by simp[aY,b9,Rep]⟩;simp only[execOp,ho,Ad,hrun,τ,Af]
theorem bD.length {S:Sto}{agg:Bool}:∀{l:List (List C)}{es:List MapEntry},bD S agg l es→es.length=l.length
 | [],es,h=>by simp only[bD] at h;subst h;rfl
 | r::rs,es,h=>by
  simp only[bD] at h;obtain⟨e,q,rfl,_,h⟩:=h;simp[bD.length h]
theorem aOm {t Z et:TypeId}{i:TI}{x:Operand}{id:Nat}{agg:Bool}{ents:List (List C)}(hT:Tok P T) (ho:o.op=.call { callee:=.builtin .len,args:= #[x],argTypes:= #[t] }) (hd:o.dst=some d) (y:d<n) (hi:T[t]?=some (some i)) (hk:i.k=.mp Z et)
  (hx:opv st x=some (.one (.mr id))) (hh:st.h id=some (.map agg ents)) (J:iF ents):Step P n o st ⟨opr x,[id]⟩ ⟨some (d,some (I .i64 (ents.length:Int))),[]⟩:=by
 refine Step.value hd y fun st' ha G S μ a w hs=>?_
 have O:=aO hs hx ha.1;have q:st'.h id=some (.map agg ents):=by rw[ha.2 id (by simp),hh]
 simp only[aY,b9] at O;obtain⟨agg',ents',b,c,h1,h2,h3⟩:=O;rw[q] at h1;cases h1;obtain⟨b',es,clk,Y,q2,q3,q4⟩:=hs.inv.obj id _ q;rw[h2] at Y;cases Y;have hl:=(q3.rep J).length;refine⟨goInt ents.length,lB ho h3 ?_,by simp[aY,b9,Rep,goInt]⟩;have hg:(getObj b).run P w=.ok (.map es clk) w:=MapKept.run_getObj_map q2;simp at hl;simp[Builtin.len_,Av ((hT.get hi).map hk) w,hg,hl]
end
section
variable {P:Program}{n:Nat}{T:TT}{o:Oper}{st:St}{d:Nat}
theorem uA {t e:TypeId}{i ei:TI}{x y:Operand}{n' es k:Nat}{kk:IntKind}{m:Int}{l r:List R}(hT:Tok P T) (ho:o.op=.indexAddr t x y) (hd:o.dst=some d) (J:d<n) (hi:T[t]?=some (some i)) (hk:i.k=.sl e) (O:T[e]?=some (some ei)) (Y:ei.size=es)
  (hx:opv st x=some (.one (.ras n' es l))) (hy:opv st y=some (I kk m)) (hm:m=(k:Int)) (Z:k<n') (hr:(l.drop (k*es)).take es=r):Step P n o st ⟨opr x++opr y,[]⟩ ⟨some (d,some (.one (.pas r))),[]⟩:=by
 refine Step.value hd J fun st' ha G S μ a w hs=>?_
 have hv:=aO hs hx (fF ha).1;have hv2:=gH (aO hs hy (fF ha).2);simp only[aY,b9] at hv;obtain⟨q,cap,h1,h2,h3,h4,h5,h6,b,off,h7,vs,h8,h9⟩:=hv;cases q with
 | none=>have:=(h5 rfl).1;omega
 | some q=>
  obtain⟨h10,h10'⟩:=h7 q rfl;have h11:=h6 q rfl;have had:q=⟨b,off,none⟩:=by cases q;simp_all
  subst had;subst hm;refine⟨.pointer (some ⟨b,off+k*es,none⟩),?_,?_⟩
  ·simp only[execOp,ho,h1,hv2,Ad,lC hT hi hk O w b off n' cap k kk Z,τ,Af,Y]
  ·simp only[aY,b9];subst hr;refine⟨b,off+k*es,rfl,(vs.drop (k*es)).take es,(h8.drop (k*es)).take es,fun j v hj=>?_⟩;rw[Ay] at hj;split at hj
   ·rw[Am] at hj;have:=h9 _ v hj;rwa [←Cq] at this
   ·cases hj
theorem aL1 {t:TypeId}{i:TI}{x:Operand}{l:List R}{y:V}(O:Tok P T) (Y:o.op=.load t x) (hd:o.dst=some d) (q:d<n) (hi:T[t]?=some (some i)) (hx:opv st x=some (.one (.pas l)))
  (hl:i.size≤l.length) (Z:sG i (l.take i.size)=some y):Step P n o st ⟨opr x,[]⟩ ⟨some (d,some y),[]⟩:=by
 refine Step.value hd q fun st' ha G S μ a w hs=>?_
 have I:=aO hs hx ha.1;simp only[aY,b9] at I;obtain⟨b,off,h1,vs,h2,h3⟩:=I;have hvl:=h2.length;refine⟨_,?_,mZ (h2.take i.size) Z⟩;have hr:=oD hs.inv.holds h3;have J:w.rangeAt b off (vs.take i.size):=fun j v hj=>by
  rw[Ay] at hj;split at hj
  ·exact hr j v hj
  ·cases hj
 simp only[execOp,Y,h1,Ad,run_load (O.get hi) w b off _ J (by simp;omega),τ,Af]
theorem aGs {t y:TypeId}{i I:TI}{fs:List (Nat×TypeId)}{f q:Nat}{x:Operand}{l:List R}(Z:Tok P T) (ho:o.op=.fieldAddr t x f) (hd:o.dst=some d) (J:d<n) (hi:T[t]?=some (some i)) (hk:i.k=.st fs) (hf:fs[f]?=some (q,y)) (O:T[y]?=some (some I)) (hz:I.size≠0)
  (hx:opv st x=some (.one (.pas l))):Step P n o st ⟨opr x,[]⟩ ⟨some (d,some (.one (.pas (l.drop q)))),[]⟩:=by
 refine Step.value hd J fun st' ha G S μ a w hs=>?_
 have Y:=aO hs hx ha.1;simp only[aY,b9] at Y;obtain⟨b,off,h1,vs,h2,h3⟩:=Y;refine⟨.pointer (some ⟨b,off+q,none⟩),?_,?_⟩
 ·simp only[execOp,ho,h1,Ad,jG Z hi hk hf O hz,τ,Af]
 ·simp only[aY,b9];refine⟨b,off+q,rfl,vs.drop q,h2.drop q,fun j v hj=>?_⟩;rw[Am] at hj;have:=h3 (q+j) v hj;rwa [←Cq] at this
theorem aOl {t e:TypeId}{i:TI}{x:Operand}{n' es:Nat}{l:List R}(J:Tok P T) (O:o.op=.call { callee:=.builtin .len,args:= #[x],argTypes:= #[t] }) (hd:o.dst=some d) (q:d<n) (hi:T[t]?=some (some i)) (hk:i.k=.sl e)
  (hx:opv st x=some (.one (.ras n' es l))):Step P n o st ⟨opr x,[]⟩ ⟨some (d,some (I .i64 (n':Int))),[]⟩:=by
 refine Step.value hd q fun st' ha G S μ a w hs=>?_
 have y:=aO hs hx ha.1;simp only[aY,b9] at y;obtain⟨Y,cap,h1,_⟩:=y;refine⟨goInt n',lB O h1 ?_,by simp[aY,b9,Rep,goInt]⟩;simp[Builtin.len_,Av ((J.get hi).slice hk) w]
theorem aLw {t te es:Nat}{i:TI}{x y:Operand}{id k fo sz:Nat}{elems:List (List R)}{v:V}{cs r:List R}(hT:Tok P T) (ho:o.op=.store t x y) (hd:o.dst=none) (hi:T[t]?=some (some i)) (hx:opv st x=some (.one (.rp id k fo sz)))
  (hy:opv st y=some v) (hc:j0 v=some cs) (hh:st.h id=some (.rarr te es elems)) (hsz:sz=elems.length) (hr:elems[k]?=some r) (hcs:cs.length=i.size) (hl:fo+i.size≤es):
  Step P n o st ⟨opr x++opr y,[id]⟩ ⟨none,[(id,some (.rarr te es (elems.set k (cV r fo cs))))]⟩:=by
 refine Step.turn hd hh (by simp) (by simp[AObj.succ]) fun st' ha I G S μ a w hs=>?_
 have hvx:=aO hs hx fun t ht=>ha.1 t (by simp[ht])
 have hvy:=aO hs hy fun t ht=>ha.1 t (by simp[ht])
 simp only[aY,b9] at hvx;obtain⟨_,hv | ⟨te',es',elems',h1,h2,h3⟩⟩:=hvx
 ·rw[I] at hv;cases hv
 rw[I] at h1;cases h1;obtain⟨h4,b,base,cap,h5,h6⟩:=h3 hsz;obtain⟨g0,vs,g1,g2,g3,g4,g5,g6⟩:=(hs.inv.obj id _ I).rarr h5;have O:=fC hvy hc;have Y:=O;have hone:=O.one;have hnl:=Y.length;have hk:k<elems.length:=(ξ.1 hr).1
 have hres:r.length=es:=g0 r (δ hr);have hke:(k+1)*es≤elems.length*es:=A0 _ hk;have hce:elems.length*es≤cap*es:=A0 _ g3;rw[A7] at hke;generalize hnews:(a.eval y).cells.toList=news at *;have hrun:=run_store (hT.get hi) w b (base+k*es+fo) vs news te (a.eval y) g1 hnews (by omega) (by omega) hone;have hE:=jR (S:=S) (μ:=μ) (o':=.rarr te es (elems.set k (cV r fo cs))) I h5 (by simp[AObj.succ]);have Z:=aOa g0 g5 hr;have J:=aHa g0 k r hr;have hlen:(elems.set k (cV r fo cs)).length=elems.length:=by simp
 have hW:=WChg.setRow w b ⟨vs⟩ ⟨vs.take (base+k*es+fo)++news++vs.drop (base+k*es+fo+news.length)⟩ te (0,0) g1;refine⟨_,_,b,(base,cap),?_,h5,hW,⟨?_,.inr ⟨b,base,cap,_,aI _ _ _,hW.new,?_,by rw[hlen];exact g3,g4,?_,g6⟩⟩,fun o v e=>?_,fun m e=>jL g4.2 m e⟩
 ·simp only[execOp,ho,h6,Ad,hrun,τ,Af]
 ·intro q hq;rcases Cj hq with hq | rfl
  ·exact g0 q hq
  ·unfold cV;simp;omega
 ·simp only[ε,Ap,Bk];omega
 ·rw[hlen];have e1:(elems.set k (cV r fo cs)).flatten=elems.flatten.take (k*es)++(r.take fo++cs++r.drop (fo+cs.length))++elems.flatten.drop (k*es+es):=by
   rw[Cl,κ hk,flatten_append,Bm,J.1,J.2,←Aw];rfl
  have e2:((vs.take (base+k*es+fo)++news++vs.drop (base+k*es+fo+news.length)).drop base).take (elems.length*es)=
    ((vs.drop base).take (elems.length*es)).take (k*es)++((((vs.drop (base+k*es)).take es).take fo)++news++(((vs.drop (base+k*es)).take es).drop (fo+cs.length)))++((vs.drop base).take (elems.length*es)).drop (k*es+es):=by
   apply Bg;intro j;simp only[Ay,Am,B7,ε,Ap,Bk];have hm1:min (k*es) (min (elems.length*es) (vs.length-base))=k*es:=by omega
   have hm2:min (base+k*es+fo) vs.length=base+k*es+fo:=by omega
   have hm3:min fo es=fo:=by omega
   have hm4:min es (vs.length-(base+k*es))=es:=by omega
   simp only[hm1,hm2,hm3,hm4,hnl];by_cases c1:j<k*es
   ·have a1:j<elems.length*es:=by omega
    have a2:base+j<base+k*es+fo:=by omega
    have a3:base+j<base+k*es+fo+cs.length:=by omega
    have a4:j<k*es+(fo+cs.length+(es-(fo+cs.length))):=by omega
    simp[c1,a1,a2,a3,a4]
   ·by_cases c2:j<k*es+fo
    ·have a1:j<elems.length*es:=by omega
     have a2:base+j<base+k*es+fo:=by omega
     have a3:base+j<base+k*es+fo+cs.length:=by omega
     have a4:j<k*es+(fo+cs.length+(es-(fo+cs.length))):=by omega
     have a5:j-k*es<fo+cs.length:=by omega
     have a6:j-k*es<fo:=by omega
     have a7:j-k*es<es:=by omega
     simp[c1,a1,a2,a3,a4,a5,a6,a7,show base+k*es+(j-k*es)=base+j by omega]
    ·by_cases c3:j<k*es+fo+cs.length
     ·have a1:j<elems.length*es:=by omega
      have a2:¬base+j<base+k*es+fo:=by omega
      have a3:base+j<base+k*es+fo+cs.length:=by omega
      have a4:j<k*es+(fo+cs.length+(es-(fo+cs.length))):=by omega
      have a5:j-k*es<fo+cs.length:=by omega
      have a6:¬j-k*es<fo:=by omega
      simp[c1,a1,a2,a3,a4,a5,a6,show base+j-(base+k*es+fo)=j-k*es-fo by omega]
     ·by_cases c4:j<k*es+es
      ·have a1:j<elems.length*es:=by omega
       have a3:¬base+j<base+k*es+fo+cs.length:=by omega
       have a4:j<k*es+(fo+cs.length+(es-(fo+cs.length))):=by omega
       have a5:¬j-k*es<fo+cs.length:=by omega
       have a6:fo+cs.length+(j-k*es-(fo+cs.length))<es:=by omega
       simp[c1,a1,a3,a4,a5,a6,show base+k*es+fo+cs.length+(base+j-(base+k*es+fo+cs.length))=base+j by omega,show base+k*es+(fo+cs.length+(j-k*es-(fo+cs.length)))=base+j by omega]
      ·have a3:¬base+j<base+k*es+fo+cs.length:=by omega
       have a4:¬j<k*es+(fo+cs.length+(es-(fo+cs.length))):=by omega
       by_cases c5:j<elems.length*es
       ·have a5:k*es+es+(j-(k*es+(fo+cs.length+(es-(fo+cs.length)))))<elems.length*es:=by omega
        simp[a3,a4,c5,a5,show base+k*es+fo+cs.length+(base+j-(base+k*es+fo+cs.length))=base+j by omega,show base+(k*es+es+(j-(k*es+(fo+cs.length+(es-(fo+cs.length))))))=base+j by omega]
       ·have a5:¬k*es+es+(j-(k*es+(fo+cs.length+(es-(fo+cs.length)))))<elems.length*es:=by omega
        simp[a4,c5,a5]
  rw[e1];show b6 S _ _ _ (((vs.take (base+k*es+fo)++news++vs.drop (base+k*es+fo+news.length)).drop base).take (elems.length*es));rw[e2];refine b6.evolve hE _ _ ?_;exact((g5.take (k*es)).append (((Z.take fo).append Y).append (Z.drop (fo+cs.length)))).append (g5.drop (k*es+es))
 ·--what stays is not touched
  by_cases hb:base≤o
  ·rw[g6 o hb] at e;cases e
  ·obtain⟨vs0,t0,fr0,q1,q2⟩:=hs.inv.holds.1 b o v e;rw[g1] at q1;cases q1;refine⟨_,_,_,rfl,?_⟩;simp only[List.getElem?_toArray] at q2 ⊢;have hlt:o<vs.length:=(ξ.1 q2).1
   rw[Aw,Ax (by simp;omega),Ay,κ (by omega)];exact q2
end
end Go.AM
