/-
  Texts Am53 to Rd72 in one.
-/
import Derived.Test.YtkhgpgihmphfdaaGreatM11
import Derived.RecoverIn
import Derived.WideLaws
open List (all_eq_true append_assoc append_nil cons_append drop_append_of_le_length drop_drop drop_eq_getElem_cons drop_length drop_take drop_zero filter_append filter_cons filter_eq_self flatten_append flatten_cons length_append length_cons length_drop length_filter_le length_map length_nil length_range length_replicate length_set length_take map_append map_cons map_nil map_set map_toArray mem_append mem_cons mem_cons_of_mem mem_cons_self mem_of_mem_take mem_singleton nil_append not_mem_nil range'_succ range_eq_range' replicate_succ take_add_one take_append_drop take_left' take_length take_of_length_le take_succ_cons take_take)
open Nat (add_zero eq_of_beq_eq_true le_refl le_trans lt_succ_self mul_le_mul_right mul_one sub_self sub_zero succ_pos zero_add zero_le zero_mul)
namespace Go.AM
open Go
def oL (draw:Bool) (P:Program) (ops:Array Oper) (Q:Exit→Act→World→Prop) (a:Act) (w:World):Prop:=
 match draw with
 | true=>wpAnyIn (Wd none) 0 P .any ops Q ops.size (Array.replicate ops.size false) a { w with drawn:=w.drawn+1 }
 | false=>wpOpsIn (Wd none) 0 P ops Q (List.range ops.size) a w
theorem oL.wp {draw:Bool}{P:Program}{ops:Array Oper}{Q:Exit→Act→World→Prop}{a:Act}{w:World}{id:Nat}(hm:P.follows .mixedOrders=true) (h:oL draw P ops Q a w):(Code.region id ops draw).wpIn (Wd none) 0 P Q a w:=by
 cases draw with
 | true=>exact wpIn_region_any hm h
 | false=>exact wpIn_region h
section
variable {P:Program}{ops:Array Oper}{Q Q':Exit→Act→World→Prop}{D:List Deferred}(hq:∀e a w,Q e a w→Q' e (pM a D) w)
include hq
theorem aIe {md:Region.Mode}:∀(fuel:Nat) (g:Array Bool) (a:Act) (w:World),wpAnyIn (Wd none) 0 P md ops Q fuel g a w→wpAnyIn (Wd none) 0 P md ops Q' fuel g (pM a D) w
 | 0,_,_,_,h=>⟨h.1,hq _ _ _ h.2⟩
 | fuel+1,_,_,_,h=>⟨fun k=>hq _ _ _ (h.1 k),fun i hi=>yT (fun a w=>aIe fuel _ a w) hq (h.2 i hi)⟩
theorem aFe:∀(l:List Nat) (a:Act) (w:World),wpOpsIn (Wd none) 0 P ops Q l a w→wpOpsIn (Wd none) 0 P ops Q' l (pM a D) w
 | [],a,w,h=>hq _ _ _ h
 | i::l,a,w,h=>by
  rw[Br] at h ⊢;exact yT (fun a w=>aFe l a w) hq h
theorem oL.ext {draw:Bool}{a:Act}{w:World}(h:oL draw P ops Q a w):oL draw P ops Q' (pM a D) w:=by
 cases draw with
 | true=>exact aIe hq _ _ _ _ h
 | false=>exact aFe hq _ _ _ h
end
section
variable {P:Program}{n:Nat}{ops:Array Oper}{Q':Exit→Act→World→Prop}{G:Ctx}{S:Sto}{μ:Mu}{st st':St}{a:Act}{w:World}{xs:REs}{draw:Bool}
theorem aAb (A:Run P n ops 0 st xs st') (hlen:Nat.beq xs.length ops.size=true) (q:(!draw || (cK (preds ops) xs []&&dM ops))=true)
  (I:∀S' μ' u w',Sim G n S' μ' st' u w'→Q' .normal u w') (hs:Sim G n S μ st a w):oL draw P ops Q' a w:=by
 have g:=δ hlen;cases draw with
 | true=>
  simp only[Bool.not_true,B4,ε] at q;refine aEl (G:=G) A g q.1 q.2 I ops.size _ (by simp) ?_ ?_ S μ a _ ?_ none
  ·have:((List.range ops.size).filter fun i=>!(Array.replicate ops.size false).getD i false)=List.range ops.size:=by
    apply filter_eq_self.2;intro i hi;simp at hi;simp[hi]
   rw[this,length_range]
  ·intro i o ho hl;simp[A1] at hl;split at hl<;>simp at hl
  ·have J:∀(B:REs) (k:Nat) (s:St),c7 (fun j=>(Array.replicate ops.size false).getD j false) k B s=s:=by
    intro B
    induction B with
    | nil=>intro k s;rfl
    | cons y B E=>
     intro k s;have M:(Array.replicate ops.size false).getD k false=false:=by
      simp[A1];split<;>rfl
     simp only[c7,M,Bi];exact E _ _
   rw[J];exact⟨hs.inv.same rfl rfl rfl rfl,hs.size,hs.defers,hs.env⟩
 | false=>
  have key:∀(k:Nat) (st st':St) (xs:REs),Run P n ops k st xs st'→k+xs.length=ops.size→(∀S' μ' u w',Sim G n S' μ' st' u w'→Q' .normal u w')→∀S μ a w,Sim G n S μ st a w→wpOpsIn (Wd none) 0 P ops Q' (List.range' k xs.length) a w:=by
   intro k st st' xs A
   induction A with
   | nil=>intro _ hq S μ a w hs;exact hq S μ a w hs
   | @cons k st rd f xs st' O _ E=>
    intro hl hq S μ a w hs;simp only[Aa,range'_succ,Br];exact O st (fA.refl _ _) G S μ a w _ Q' hs (fun S1 U Y w1 s1=>E (by simp at hl;omega) hq S1 U Y w1 s1) none
  have:=key 0 st st' xs A (by omega) I S μ a w hs;show wpOpsIn _ _ _ _ _ (List.range ops.size) _ _;rwa [range_eq_range',←g]
theorem aFf {v:Value}{p:Nat}(q:RunP v p P n ops 0 st xs st') (hp:p<xs.length) (hle:xs.length≤ops.size) (g:draw=true→xs.length=ops.size∧(cK (preds ops) xs []&&dM ops)=true)
  (hQ:∀S' μ' e h a' w',Sim G n S' μ' ⟨e,h,st.d⟩ a' w'→Q' (pan v) a' w') (hs:Sim G n S μ st a w):oL draw P ops Q' a w:=by
 cases draw with
 | true=>
  obtain⟨u,g⟩:=g rfl;rw[ε] at g;refine zM (G:=G) q u g.1 g.2 (by omega) hQ ops.size _ (by simp) ?_ ?_ ?_ S μ a _ ?_ none
  ·have:((List.range ops.size).filter fun i=>!(Array.replicate ops.size false).getD i false)=List.range ops.size:=by
    apply filter_eq_self.2;intro i hi;simp at hi;simp[hi]
   rw[this,length_range]
  ·intro i o ho hl;simp[A1] at hl;split at hl<;>simp at hl
  ·simp[A1];split<;>rfl
  ·have hz:∀(A:REs) (k:Nat) (s:St),c7 (fun j=>(Array.replicate ops.size false).getD j false) k A s=s:=by
    intro A
    induction A with
    | nil=>intro k s;rfl
    | cons y A E=>
     intro k s;have hf:(Array.replicate ops.size false).getD k false=false:=by
      simp[A1];split<;>rfl
     simp only[c7,hf,Bi];exact E _ _
   rw[hz];exact⟨hs.inv.same rfl rfl rfl rfl,hs.size,hs.defers,hs.env⟩
 | false=>
  have key:∀(k:Nat) (s B:St) (xs:REs) (m:Nat),RunP v p P n ops k s xs B→k≤p→p<k+xs.length→k+xs.length≤m→s.d=st.d→∀S μ a w,Sim G n S μ s a w→wpOpsIn (Wd none) 0 P ops Q' (List.range' k (m-k)) a w:=by
   intro k s B xs m q
   induction q with
   | nil=>intro h1 h2;simp at h2;omega
   | @cons k s rd f xs B hne I _ E=>
    intro h1 h2 J M S μ a w hs;simp only[Aa] at h2 J;rw[show m-k=(m-(k+1))+1 by omega];simp only[range'_succ,Br];exact I s (fA.refl _ _) G S μ a w _ Q' hs (fun S1 O U Y s1=>E (by omega) (by omega) (by omega) M S1 O U Y s1) none
   | @pan s rd f xs B I _ _=>
    intro h1 h2 J M S μ a w hs;simp only[Aa] at h2 J;rw[show m-p=(m-(p+1))+1 by omega];simp only[range'_succ,Br];exact I s (fA.refl _ _) G S μ a w _ Q' hs (fun S1 O e1 h1 U Y s1=>hQ S1 O e1 h1 U Y (by rw[←M];exact s1)) none
  have:=key 0 st st' xs ops.size q (by omega) (by omega) (by omega) rfl S μ a w hs;show wpOpsIn _ _ _ _ _ (List.range ops.size) _ _;rwa [range_eq_range',←sub_zero ops.size]
end
def yS (P:Program) (o:Oper):Prop:=∀ρ w x w',(execOp ρ o).run P w=.ok x w'→(∃v,x=.value v)∨x=.skip
section
variable {P:Program}{w:World}
theorem aVc {s:Sem Value}{x:Next}{w':World}(h:(do pure (Next.value (←s)):Sem Next).run P w=.ok x w'):∃v,x=.value v:=by
 simp only[π] at h;cases hs:s.run P w with
 | ok v g=>
  rw[hs] at h;simp only[ζ,τ] at h;cases h;exact⟨v,rfl⟩
 | halt y g=>rw[hs] at h;simp[Result.andThen] at h
theorem aVd {s:Sem Unit}{x:Next}{w':World}(h:(do s;pure Next.skip:Sem Next).run P w=.ok x w'):x=.skip:=by
 simp only[π] at h;cases hs:s.run P w with
 | ok v g=>
  rw[hs] at h;simp only[ζ,τ] at h;cases h;rfl
 | halt y g=>rw[hs] at h;simp[Result.andThen] at h
end
def isVal:Op→Bool
 | .move _ | .assign _ | .alloc _ | .load .. | .store .. | .fieldAddr .. | .extract ..=>true
 | _=>false
theorem aJ5 {P:Program}{o:Oper}(h:isVal o.op=true):yS P o:=by
 intro ρ w x w' g;cases ho:o.op<;>rw[ho] at h<;>first | cases h | skip
 all_goals simp only[execOp,ho] at g
 all_goals first | exact .inl (aVc g) | exact .inr (aVd g) | (simp only[τ] at g;cases g;exact .inl ⟨_,rfl⟩) | skip
section
variable {m:Nat}{P:Program}{ops:Array Oper}{Q:Exit→Act→List Frame→World→Prop}{i:Nat}{rest:List Nat}{a:Act}{cs cs':List Frame}{w w':World}{o:Oper}
theorem aEj (ho:ops[i]?=some o) (g:o.guard=none) (q:(execOp a.eval o).run P w=.ok .recover w) (hc:recoverD cs=none) (h:wpOpsSIn (Wd none) m P ops Q rest (a.put o.dst .nilIface) cs w):wpOpsSIn (Wd none) m P ops Q (i::rest) a cs w:=by
 unfold wpOpsSIn;simp only[ho];refine⟨fun _ _=>trivial,?_⟩;rw[θ (by simp[Region.wanted,g]),q];dsimp only;rw[hc];exact h
theorem aB3 {v:Value}(ho:ops[i]?=some o) (g:o.guard=none) (q:(execOp a.eval o).run P w=.ok .recover w) (hc:recoverD cs=some (v,cs')) (h:wpOpsSIn (Wd none) m P ops Q rest (a.put o.dst v) cs' w):wpOpsSIn (Wd none) m P ops Q (i::rest) a cs w:=by
 unfold wpOpsSIn;simp only[ho];refine⟨fun _ _=>trivial,?_⟩;rw[θ (by simp[Region.wanted,g]),q];dsimp only;rw[hc];exact h
theorem aEi {v:Value}(ho:ops[i]?=some o) (g:o.guard=none) (q:(execOp a.eval o).run P w=.ok (.value v) w') (h:wpOpsSIn (Wd none) m P ops Q rest (a.put o.dst v) cs w'):wpOpsSIn (Wd none) m P ops Q (i::rest) a cs w:=by
 unfold wpOpsSIn;simp only[ho];refine⟨fun _ _=>trivial,?_⟩;rw[θ (by simp[Region.wanted,g]),q];exact h
theorem aRs {d:Nat}{v:Value}(h:d<a.tmps.size):(a.put (some d) v).eval (.tmp d)=v:=by
 show((a.put (some d) v).tmps).getD d undef=v;show(a.tmps.setIfInBounds d v).getD d undef=v;rw[aAp _ _ _ _ h,θ rfl]
theorem aSf (q:∀o,ops[i]?=some o→yS P o) (h:wpOpIn (Wd none) 0 P ops (fun e a w=>Q e a cs w) i (fun a w=>wpOpsSIn (Wd none) m P ops Q rest a cs w) a w):wpOpsSIn (Wd none) m P ops Q (i::rest) a cs w:=by
 unfold wpOpIn at h;unfold wpOpsSIn;cases ho:ops[i]? with
 | none=>rw[ho] at h;exact h
 | some o=>
  rw[ho] at h;dsimp only at h ⊢;split
  ·rename_i hw;rw[θ hw] at h;refine⟨h.1,?_⟩;have h2:=h.2;rw[show(Wd none).round=none from rfl,Oper.semAt_none] at h2;cases g:(execOp a.eval o).run P w with
   | ok x w'=>
    rw[g] at h2;rcases q o ho _ _ _ _ g with⟨v,rfl⟩ | rfl
    ·exact h2
    ·exact h2
   | halt y w'=>
    rw[g] at h2;cases y<;>first | exact h2 | exact h2.elim
  ·rename_i hw;rw[ξ hw] at h;exact h
theorem aAc {n:Nat}{G:Ctx}(q:∀(i:Nat) (o:Oper),ops[i]?=some o→yS P o∨i=0∨i=1) {k:Nat}{st st':St}{xs:REs}(y:Run P n ops k st xs st') (g:2≤k∨∀(i:Nat) (o:Oper),ops[i]?=some o→yS P o):
  (∀S' μ' u w',Sim G n S' μ' st' u w'→Q .normal u cs w')→∀S μ a w,Sim G n S μ st a w→wpOpsSIn (Wd none) m P ops Q (List.range' k xs.length) a cs w:=by
 induction y with
 | nil=>intro hq S μ a w hs;exact hq S μ a w hs
 | @cons k st rd f xs st' A _ B=>
  intro hq S μ a w hs;rw[Aa,range'_succ];refine aSf (fun o ho=>?_) (A st (fA.refl _ _) G S μ a w _ _ hs (fun S1 E I J s1=>B (g.imp (fun h=>by omega) id) hq S1 E I J s1) none);rcases g with g | g
  ·rcases q k o ho with h | h | h
   ·exact h
   ·omega
   ·omega
  ·exact g k o ho
theorem aVf {n:Nat}{G:Ctx}{S:Sto}{μ:Mu}{st:St}{id:Nat}(hs:Sim G n S μ st a w) (g:∀(i:Nat) (o:Oper),ops[i]?=some o→yS P o) (h:i7 (fun _=>False) P n ops false 0 st [] (fun st'=>∀S' μ' q w',Sim G n S' μ' st' q w'→Q .normal q cs w')):(Code.region id ops false).wpSIn (Wd none) m P Q a cs w:=by
 rcases h with⟨xs,st',h1,h2,y,u⟩ | ⟨v,p,xs,st',h0,_⟩
 case inr=>exact h0.elim
 have hl:=δ h2;rw[Ba] at hl;refine wpSIn_region ?_;rw[range_eq_range',←hl];exact aAc (fun i o ho=>.inl (g i o ho)) h1 (.inr g) u S μ a w hs
theorem aRu {n:Nat}{G:Ctx}{S:Sto}{μ:Mu}{st:St}(hs:Sim G n S μ st a w) (q:∀(i:Nat) (o:Oper),ops[i]?=some o→yS P o∨i=0∨i=1) (h:i7 (fun _=>False) P n ops false 2 st [] (fun st'=>∀S' μ' g w',Sim G n S' μ' st' g w'→Q .normal g cs w')):wpOpsSIn (Wd none) m P ops Q (List.range' 2 (ops.size-2)) a cs w:=by
 rcases h with⟨xs,st',h1,h2,y,u⟩ | ⟨v,p,xs,st',h0,_⟩
 case inr=>exact h0.elim
 have hl:=δ h2;rw[←hl,Nat.add_sub_cancel_left];exact aAc q h1 (.inl (le_refl 2)) u S μ a w hs
def aNw (k:Nat) (ops:Array Oper):Bool:=(ops.toList.drop k).all fun o=>isVal o.op
theorem i9 {k:Nat}(h:aNw k ops=true) (i:Nat) (o:Oper) (ho:ops[i]?=some o) (hi:k≤i):yS P o:=by
 refine aJ5 ((Bc.1 h) o ?_);refine Ag (i:=i-k) ?_;rw[Al,show k+(i-k)=i by omega];simpa using ho
end
end Go.AM
namespace Go.Proofs.YtkhgpgihmphfdaaGreat
open Go Go.AM
set_option maxRecDepth 20000
set_option maxHeartbeats 4000000
def atO (e p:Int):AObj:=.var 38 [.c (.int .i64 e),.c (.int .i64 p)]
theorem aDk (e p:Int) (w:World):(Instr.typeAssert (rE e p) 20 161 true).run Tryz.prog w=.ok (.tuple #[.agg #[.int .i64 e,.int .i64 p],.bool true]) w:=by kernel_rfl
theorem aIa (w:World):(Instr.typeAssert .nilIface 20 161 true).run Tryz.prog w=.ok (.tuple #[.agg #[.int .i64 0,.int .i64 0],.bool false]) w:=by kernel_rfl
theorem aTg (b:Bool) (e p:Int) (m:Nat) {S:Sto}{μ:Mu}{w:World}{vals:List Value}(hI:Go.AM.Inv ⟨w,S,i3 μ (Go.AM.look [(4,atO 0 0)]),μ,Go.AM.look [(4,atO 0 0)]⟩ S μ (Go.AM.look [(4,atO 0 0)]) w) (hv:aT S μ (Go.AM.look [(4,atO 0 0)]) [.one (.vp 4 0)] vals) (u I:FrameMode)
  (hu:∀(q:Frame) (cs:List Frame),q.mode=u→(b=true∧recoverD (q::cs)=some (rE e p,{ q with mode:=I }::cs))∨(b=false∧recoverD (q::cs)=none∧I=u∧e=0∧p=0)):
  CallsDIn (Wd none) m Tryz.prog 87 ⟨vals⟩ u w (fun Y u' w'=>(∃v,Y=.returned v)∧u'=I∧∃S' μ',Go.AM.Inv ⟨w,S,i3 μ (Go.AM.look [(4,atO 0 0)]),μ,Go.AM.look [(4,atO 0 0)]⟩ S' μ' (Go.AM.look [(4,atO e p)]) w'):=by
 refine callsDIn_of_wpSIn Tryz.func87 rfl trivial (fun q cs hc=>?_);have g:=aEe (n:=11) (k:=(Tryz.f87).ntmps) rfl rfl hI hv;generalize hG:(⟨w,S,i3 μ (Go.AM.look [(4,atO 0 0)]),μ,Go.AM.look [(4,atO 0 0)]⟩:Ctx)=G at g ⊢;generalize ha:(⟨(⟨vals⟩:Array Value)++Array.replicate ((Tryz.f87).ntmps-(⟨vals⟩:Array Value).size) undef,[]⟩:Act)=a at g;have J:∀(x y:Int) (S':Sto) (μ':Mu) (U:Act) (w':World) (st:St) (cs':List Frame),Sim G 11 S' μ' st U w'→st.d=[]→st.h 4=some (atO x y)→cs'={ q with mode:=I }::cs→x=e→y=p→bodyPostS Tryz.prog Tryz.f87 q cs (fun Y u' w'=>(∃v,Y=.returned v)∧u'=I∧∃S' μ',Go.AM.Inv G S' μ' (Go.AM.look [(4,atO e p)]) w') .normal U cs' w':=by
  intro x y S' μ' U w' st cs' hs hd h4 hcs hx hy;subst hx hy;have hd':U.defers=[]:=by have:=hs.defers;rw[hd] at this;exact this
  subst hG;obtain⟨v,g1,g2,g3⟩:=aF9 (fn:=Tryz.f87) (res:=.tup []) (hout:=[(4,atO x y)]) tok hs ⟨⟨[],[],.nil,.nil,rfl⟩,⟨⟨_,h4,.var rfl⟩,trivial⟩,rfl⟩;exact⟨hd',I,hcs,v,g1,⟨_,rfl⟩,rfl,_,_,g2⟩
 refine wpSIn_seq (wpSIn_region ?_);show wpOpsSIn _ _ _ _ _ (0::1::List.range' 2 6) _ _ _;rcases hu q cs hc with⟨rfl,hr⟩ | ⟨rfl,hr,rfl,rfl,rfl⟩
 ·refine aB3 rfl rfl rfl hr ?_;have A:=g.put g.inv (Evolve.refl _ _ _) (d:=4) (by decide) (v:=rE e p) (x:=none) (fun y hy=>by cases hy);refine aEi (w':=w) rfl rfl (v:=.tuple #[.agg #[.int .i64 e,.int .i64 p],.bool true]) ?_ ?_
  ·show(do pure (Next.value (←Instr.typeAssert ((a.put (some 4) (rE e p)).eval (.tmp 4)) 20 161 true)):Sem Next).run Tryz.prog w=_;rw[aRs (by rw[g.size];decide),π,aDk];rfl
  have M:=A.put A.inv (Evolve.refl _ _ _) (d:=5) (by decide) (v:=.tuple #[.agg #[.int .i64 e,.int .i64 p],.bool true]) (x:=some (.tup [.pa [.int .i64 e,.int .i64 p],B true])) (fun y hy=>by
   cases hy;simp only[aN,aT,bS,Rep,aY]
   exact⟨_,rfl,_,_,rfl,⟨_,rfl,_,_,rfl,rfl,_,_,rfl,rfl,rfl⟩,_,_,rfl,rfl,rfl⟩)
  refine aRu M (fun i o ho=>?_) ?_
  ·by_cases hi:2≤i
   ·exact .inl (i9 (k:=2) (by rfl) i o ho hi)
   ·exact .inr (by omega)
  refine kz 6 rfl ?_;intro S3 μ3 a3 w3 O;refine wpSIn_seq (aVf O (fun i o ho=>i9 (k:=0) (by rfl) i o ho (Ad _)) ?_);refine kz 1 rfl ?_;intro S4 μ4 a4 w4 E;have hb:=E.env 8 _ rfl;simp only[aN,aY,Rep] at hb;refine wpSIn_cond (t:=true) hb ?_;refine aVf E (fun i o ho=>i9 (k:=0) (by rfl) i o ho (Ad _)) ?_;refine kz 3 rfl ?_;intro S5 μ5 a5 w5 hs5;exact J e p S5 μ5 a5 w5 _ _ hs5 rfl rfl rfl rfl rfl
 ·refine aEj rfl rfl rfl hr ?_;have A:=g.put g.inv (Evolve.refl _ _ _) (d:=4) (by decide) (v:=.nilIface) (x:=none) (fun y hy=>by cases hy);refine aEi (w':=w) rfl rfl (v:=.tuple #[.agg #[.int .i64 0,.int .i64 0],.bool false]) ?_ ?_
  ·show(do pure (Next.value (←Instr.typeAssert ((a.put (some 4) .nilIface).eval (.tmp 4)) 20 161 true)):Sem Next).run Tryz.prog w=_;rw[aRs (by rw[g.size];decide),π,aIa];rfl
  have M:=A.put A.inv (Evolve.refl _ _ _) (d:=5) (by decide) (v:=.tuple #[.agg #[.int .i64 0,.int .i64 0],.bool false]) (x:=some (.tup [.pa [.int .i64 0,.int .i64 0],B false])) (fun y hy=>by
   cases hy;simp only[aN,aT,bS,Rep,aY]
   exact⟨_,rfl,_,_,rfl,⟨_,rfl,_,_,rfl,rfl,_,_,rfl,rfl,rfl⟩,_,_,rfl,rfl,rfl⟩)
  refine aRu M (fun i o ho=>?_) ?_
  ·by_cases hi:2≤i
   ·exact .inl (i9 (k:=2) (by rfl) i o ho hi)
   ·exact .inr (by omega)
  refine kz 6 rfl ?_;intro S3 μ3 a3 w3 O;refine wpSIn_seq (aVf O (fun i o ho=>i9 (k:=0) (by rfl) i o ho (Ad _)) ?_);refine kz 1 rfl ?_;intro S4 μ4 a4 w4 E;have hb:=E.env 8 _ rfl;simp only[aN,aY,Rep] at hb;refine wpSIn_cond (t:=false) hb ?_;refine wpSIn_of_wpIn rfl (wpIn_skip ?_);exact J 0 0 S4 μ4 a4 w4 _ _ E rfl rfl (by rw[←hc]) rfl rfl
end Go.Proofs.YtkhgpgihmphfdaaGreat
namespace Go.AM
open Go
section
variable {P:Program}{ops:Array Oper}{Q:Exit→Act→World→Prop}{d:Nat}{x:Value}
def Kp (d:Nat) (x:Value) (a:Act):Prop:=a.tmps.getD d undef=x
theorem Kp.put {a:Act}(h:Kp d x a) {t:Option Nat}(g:t≠some d) (v:Value):Kp d x (a.put t v):=by
 cases t with
 | none=>exact h
 | some t=>
  show(a.tmps.setIfInBounds t v).getD d undef=x;rw[Ac,A3,ξ (fun e=>g (by rw[e])),←Ac];exact h
theorem aNx {o:Oper}{a:Act}(h0:Kp d x a) (g:o.dst≠some d) {K K':Act→World→Prop}(q:∀a w,Kp d x a→K a w→K' a w) {r:Result Next}(h:o.uponIn (Wd none) 0 P a K Q r) (u:¬LetsOut Q):
  o.uponIn (Wd none) 0 P a K' (fun e a w=>Q e a w∧Kp d x a) r:=by
 cases r with
 | ok y w'=>
  cases y<;>simp only[Oper.uponIn] at h ⊢<;>
   first
    | exact q _ _ (h0.put g _) h
    | exact⟨h.1,CallsIn.mono h.2 (fun e A he=>by cases e<;>first | exact q _ _ (h0.put g _) he | exact⟨he,h0⟩ | exact(u he).elim)⟩
    | exact⟨h.1,RowsIn.mono h.2 (fun _ _ he=>q _ _ (h0.put g _) he)⟩
    | exact⟨h.1,RoundIn.mono h.2 (fun e A he=>by cases e<;>first | exact q _ _ (h0.put g _) he | exact⟨he,h0⟩ | exact(u he).elim)⟩
    | (refine q _ _ (Kp.put ?_ g _) h;unfold Kp at h0 ⊢;exact h0)
    | exact h
 | halt y w'=>cases y<;>simp only[Oper.uponIn] at h ⊢<;>first | exact⟨h,h0⟩ | exact h
theorem aDx {i:Nat}{a:Act}{w:World}(h0:Kp d x a) (q:∀o∈ops.toList,o.dst≠some d) {K K':Act→World→Prop}(g:∀a w,Kp d x a→K a w→K' a w) (u:¬LetsOut Q) (h:wpOpIn (Wd none) 0 P ops Q i K a w):
  wpOpIn (Wd none) 0 P ops (fun e a w=>Q e a w∧Kp d x a) i K' a w:=by
 unfold wpOpIn at h ⊢;cases ho:ops[i]? with
 | none=>rw[ho] at h;exact g _ _ h0 h
 | some o=>
  have hm:=q o (by
   obtain⟨h1,h2⟩:=Bw.1 ho;rw[←h2]
   exact Array.getElem_mem_toList h1)
  rw[ho] at h;dsimp only at h ⊢;split
  ·rename_i hw;rw[θ hw] at h;unfold Oper.wpIn at h ⊢;exact⟨h.1,aNx h0 hm g h.2 u⟩
  ·rename_i hw;rw[ξ hw] at h;exact⟨h.1,g _ _ (h0.put hm _) h.2⟩
theorem aNo (q:∀o∈ops.toList,o.dst≠some d) (u:¬LetsOut Q) {md:Region.Mode}:∀(fuel:Nat) (g:Array Bool) (a:Act) (w:World),Kp d x a→wpAnyIn (Wd none) 0 P md ops Q fuel g a w→wpAnyIn (Wd none) 0 P md ops (fun e a w=>Q e a w∧Kp d x a) fuel g a w
 | 0,_,_,_,h0,h=>⟨h.1,h.2,h0⟩
 | fuel+1,_,_,_,h0,h=>⟨fun k=>⟨h.1 k,h0⟩,fun i hi=>aDx h0 q (fun a w h0 h=>aNo q u fuel _ a w h0 h) u (h.2 i hi)⟩
theorem aMq (g:∀o∈ops.toList,o.dst≠some d) (q:¬LetsOut Q):∀(l:List Nat) (a:Act) (w:World),Kp d x a→wpOpsIn (Wd none) 0 P ops Q l a w→wpOpsIn (Wd none) 0 P ops (fun e a w=>Q e a w∧Kp d x a) l a w
 | [],a,w,h0,h=>⟨h,h0⟩
 | i::l,a,w,h0,h=>by
  rw[Br] at h ⊢;exact aDx h0 g (fun a w h0 h=>aMq g q l a w h0 h) q h
theorem oL.kp {draw:Bool}{a:Act}{w:World}(u:(ops.toList.all fun o=>o.dst !=some d)=true) (q:¬LetsOut Q) (h0:Kp d x a) (h:oL draw P ops Q a w):oL draw P ops (fun e a w=>Q e a w∧Kp d x a) a w:=by
 have g:∀o∈ops.toList,o.dst≠some d:=fun o ho e=>by
  have:=(Bc.1 u) o ho;rw[e] at this;simp at this
 cases draw with
 | true=>exact aNo g q _ _ _ _ h0 h
 | false=>exact aMq g q _ _ _ h0 h
end
section
variable {P:Program}{n:Nat}{ops:Array Oper}{G:Ctx}{S:Sto}{μ:Mu}{st:St}{a:Act}{w:World}{draw:Bool}{v:Value}
theorem aWz (g:List (Nat×AObj)) (M:List (Nat×V)) (hs:Sim G n S μ st a w) (Y:st.d=[]) (aa:eF (fun p=>st.e p.1=some p.2) M) (ab:(M.all fun p=>subset p.2.refs (keys g))=true)
  (ac:eF (fun p=>st.h p.1=some p.2) g) (hc:subset (eG g) (g.map (·.1))=true) (O:(g.all fun p=>p.2.live)=true) (hok:(g.all fun p=>lE p.2)=true)
  (h:i7 (fun v'=>v'=v) P n ops draw 0 (mk M g) [] (fun _=>False)):
  oL draw P ops (fun e u w'=>e=pan v∧u.defers=[]∧u.tmps.size=n∧∃S' A hout,(∀id o,look hout id=some o→∃o',look g id=some o')∧Inv G S' A (fC st.h (outs hout)) w'∧Evolve S μ st.h S' A (fC st.h (outs hout))) a w:=by
 have hh:∀id o,look g id=some o→st.h id=some o∧o≠ .dead:=by
  intro id o ho;have hm:=b6 ho;refine⟨ac.mem _ hm,?_⟩;have:=(Bc.1 O) _ hm;rintro rfl;simp[AObj.live] at this
 have hI:=hs.inv.hand hh hc;have U:∀i∈keys g,Good st.h (look g) (fun i=>i) i:=by
  intro i hi;obtain⟨o,ho⟩:=bZ hi;obtain⟨h1,h2⟩:=hh i o ho;exact⟨o,o,h1,ho,.refl_id h2⟩
 have hs2:Sim ⟨w,S,i3 μ (look g),μ,look g⟩ n S μ (mk M g) a w:=by
  refine⟨hI,hs.size,by have:=hs.defers;rw[Y] at this;exact this,fun t v ht=>?_⟩;have hm:=b6 (show look M t=some v from ht);have h1:=hs.env t v (aa.mem _ hm);have hr:=(Bc.1 ab) _ hm;have:=aN.ren (H:=st.h) (H':=look g) (σ:=fun i=>i) v _ (fun i hi=>U i (bM hr i hi)) (by rw[V.ren_id];exact h1);exact this
 have hout:∀S' μ' e E u w',Sim ⟨w,S,i3 μ (look g),μ,look g⟩ n S' μ' ⟨e,E,[]⟩ u w'→u.defers=[]∧u.tmps.size=n∧∃S' A hout,(∀id o,look hout id=some o→∃o',look g id=some o')∧Inv G S' A (fC st.h (outs hout)) w'∧Evolve S μ st.h S' A (fC st.h (outs hout)):=by
  intro S' μ' e E u w' q;have B:=q.inv.evo;have hbl:∀id x,(∃o',look g id=some o')→E id=some x→lE x=true:=fun id x ⟨o',ho⟩ hx=>by
   obtain⟨o2,I,g2⟩:=B.obj id o' ho;have I:E id=some o2:=I;rw[hx] at I;cases I;exact aEc g2 ((Bc.1 hok) _ (b6 ho))
  have hI':Inv ⟨w,S,i3 μ (look g),μ,look g⟩ S' μ' (look (uD g E)) w':=by
   refine⟨q.inv.holds,fun id o ho=>?_,fun i j o o' b c c' hi hj hm hm'=>?_,fun i o b c hi hm=>?_,q.inv.frame,q.inv.sle,q.inv.sto,⟨B.le,fun id o ho=>?_⟩,q.inv.fre⟩
   ·obtain⟨h1,x,h2,rfl⟩:=cV ho;exact(q.inv.obj id x h2).blur (hbl id x h1 h2)
   ·obtain⟨_,x,h2,_⟩:=cV hi;obtain⟨_,y,J,_⟩:=cV hj;exact q.inv.inj i j x y b c c' h2 J hm hm'
   ·obtain⟨_,x,h2,_⟩:=cV hi;exact q.inv.own i x b c h2 hm
   ·obtain⟨o2,I,g2⟩:=B.obj id o ho;refine⟨blur o2,oU ho I,?_⟩;exact AObj.succ_trans g2 (wI (p:=True) trivial) fun e _=>e
  obtain⟨A,q1,q2,q3,q4⟩:=hs.inv.back (fun id o ho=>(hh id o ho).1) (fun id o ho=>.inl (cV ho).1) hI';exact⟨q.defers,q.size,S',A,uD g E,fun id o ho=>(cV ho).1,q2,q3⟩
 rcases h with⟨xs,st',h1,h2,h4,J⟩ | ⟨v',p,xs,st',h0,h1,h2,J,h4,h5⟩
 ·exact J.elim
 ·subst h0;rw[Ba] at J h4 h5;exact aFf h1 J h4 (fun Y=>h5 Y) (fun S' μ' e h u w' s=>⟨rfl,hout S' μ' e h u w' s⟩) hs2
theorem aTf {o:Oper}{good:List (Nat×AObj)→Prop}{K:Act→World→Prop}{Q:Exit→Act→World→Prop}{f:FuncId}{x:Operand}{caps:List R}{xs:Array Operand}{ts:Array TypeId}{ids:List Nat}{args:List V}(hin:List (Nat×AObj)) (hb:fG P f) (ho:o.op=.call { callee:=.value x,args:=xs,argTypes:=ts })
  (hx:opv st x=some (.one (.clo f caps)))
  (Y:∀S μ w vals,Inv ⟨w,S,i3 μ (look hin),μ,look hin⟩ S μ (look hin) w→aT S μ (look hin) (args++caps.map V.one) vals→Calls P f ⟨vals⟩ w fun e w'=>∃S' μ' hout,e=.panicked [{ v:=v,recovered:=false }]∧(∀id o,look hout id=some o→∃o',look hin id=some o')∧good hout∧Inv ⟨w,S,i3 μ (look hin),μ,look hin⟩ S' μ' (look hout) w')
  (ha:ArgsV st ids xs.toList args) (A:eF (fun p=>st.h p.1=some p.2) hin) (hok:dU (args++caps.map V.one) hin=true) (hs:Sim G n S μ st a w)
  (hQ:∀S' u hout w',good hout→Inv G S' u (fC st.h (outs hout)) w'→Evolve S μ st.h S' u (fC st.h (outs hout))→Q (pan v) a w'):o.wpIn (Wd none) 0 P a w K Q:=by
 have I:=aK hs hx fun t ht=>rfl
 simp only[aN,aY] at I;obtain⟨vs,h1,h2⟩:=I;have hr:(execOp a.eval o).run P w=.ok (.enter f ⟨xs.toList.map a.eval++vs⟩) w:=by
  simp only[execOp,ho,resolve,h1,Deferred.ofValue,π,τ,ζ,invoke,dI hb];congr 2;apply Array.ext';simp
 have J:∀(l:List V) (us:List Value) (rs:List R) (vs:List Value),aT S μ st.h l us→aP S μ st.h rs vs→aT S μ st.h (l++rs.map V.one) (us++vs):=by
  intro l
  induction l with
  | nil=>
   intro us rs vs h k;simp only[aT] at h;subst h;simp only[A2]
   induction rs generalizing vs with
   | nil=>simp only[aP] at k;subst k;simp[aT]
   | cons r rs B=>
    simp only[aP] at k;obtain⟨v,vs',rfl,g,q⟩:=k;simp only[Be,aT];exact⟨v,vs',rfl,by simpa [aN] using g,B vs' q⟩
  | cons x l B=>
   intro us rs vs h k;simp only[aT] at h;obtain⟨v,vs',rfl,g,q⟩:=h;simp only[A4,aT];exact⟨v,_,rfl,g,B vs' rs vs q k⟩
 have M:=J _ _ _ _ (ha.rel hs (fun t ht=>rfl) fun i h=>rfl) h2;simp only[dU,ε] at hok;obtain⟨⟨g,q⟩,k3⟩:=hok;have hh:∀id o,look hin id=some o→st.h id=some o∧o≠ .dead:=by
  intro id o ho;have hm:=b6 ho;refine⟨A.mem _ hm,?_⟩;have:=(Bc.1 k3) _ hm;rintro rfl;simp[AObj.live] at this
 have hI:=hs.inv.hand hh q;have y:∀i∈keys hin,Good st.h (look hin) (fun i=>i) i:=by
  intro i hi;obtain⟨o,ho⟩:=bZ hi;obtain⟨h1,h2⟩:=hh i o ho;exact⟨o,o,h1,ho,.refl_id h2⟩
 have O:aT S μ (look hin) (args++caps.map V.one) (xs.toList.map a.eval++vs):=by
  have:=aT.ren (H:=st.h) (H':=look hin) (σ:=fun i=>i) (args++caps.map V.one) _ (fun i hi=>y i (bM g i hi)) (by rw[V.renL_id];exact M);exact this
 have hc:=Y S μ w _ hI O;refine iL hr ?_;refine hc.mono fun e w' ⟨S',μ',hout,he,E,hg,U⟩=>?_
 subst he;obtain⟨u,q1,q2,q3,q4⟩:=hs.inv.back (fun id o ho=>(hh id o ho).1) (fun id o ho=>.inl (E id o ho)) U;exact hQ S' u hout w' hg q2 q3
theorem aUv {id:Nat}{D:List Deferred}{d:Nat}{x:Value}{Q':Exit→Act→World→Prop}(hm:P.follows .mixedOrders=true) (hs:Sim G n S μ st a w) (h0:Kp d x a) (q:(ops.toList.all fun o=>o.dst !=some d)=true)
  (h:i7 (fun _=>False) P n ops draw 0 st [] (fun st'=>∀S' μ' g w',Kp d x g→Sim G n S' μ' st' g w'→Q' .normal (pM g D) w')):(Code.region id ops draw).wpIn (Wd none) 0 P Q' (pM a D) w:=by
 rcases h with⟨xs,st',h1,h2,u,y⟩ | ⟨v,p,xs,st',h0,_⟩
 case inr=>exact h0.elim
 rw[Ba] at h2;refine oL.wp hm (oL.ext (Q:=fun e a w=>(e=.normal∧∃S' μ',Sim G n S' μ' st' a w)∧Kp d x a) ?_ (oL.kp q ?_ h0 (aAb h1 h2 u (fun S' μ' g w' s=>⟨rfl,S',μ',s⟩) hs)))
 ·rintro e a w ⟨⟨rfl,S',μ',s⟩,A⟩;exact y S' μ' a w A s
 ·rintro⟨a,w,h,_⟩;cases h
theorem aVg {id:Nat}{Q':Exit→Act→World→Prop}(hm:P.follows .mixedOrders=true) (hs:Sim G n S μ st a w)
  (h:i7 (fun _=>False) P n ops draw 0 st [] (fun st'=>∀S' μ' g w',Sim G n S' μ' st' g w'→Q' .normal g w')):(Code.region id ops draw).wpIn (Wd none) 0 P Q' a w:=by
 rcases h with⟨xs,st',h1,h2,q,u⟩ | ⟨v,p,xs,st',h0,_⟩
 case inr=>exact h0.elim
 rw[Ba] at h2;exact oL.wp hm (aAb h1 h2 q u hs)
end
end Go.AM
namespace Go.Proofs.YtkhgpgihmphfdaaGreat
open Go Go.AM
set_option maxRecDepth 20000
set_option maxHeartbeats 4000000
def iK:AObj:=.var 75 [.c .nl,.c .nl,.c .nl,.c .nl]
def pgO (p:Pg):AObj:=.var 75 ((mF p).map .c)
theorem aUb {L:List Tk}{z g:Z}{p:Pg}(h:aV Tryz.prog 54 [rP] [(600,rO L z)] (.pa (mF p)) [(600,rO L g)]):aV Tryz.prog 53 ([rP]++[R.vp 9 0].map V.one) [(600,rO L z),(9,iK)] (.tup []) [(600,rO L g),(9,pgO p)]:=by
 refine bF (n:=5) tok Tryz.func53 rfl rfl rfl ?_;refine aC mixed (ak 1 [] rfl (kc h ?_));exact kz 1 rfl rtN
theorem aQf {L:List Tk}{z:Z}{v:Value}(h:aBw Tryz.prog 54 [rP] [(600,rO L z)] v) (S:Sto) (μ:Mu) (w:World) (vals:List Value) (B:Go.AM.Inv ⟨w,S,i3 μ (Go.AM.look [(600,rO L z),(9,iK)]),μ,Go.AM.look [(600,rO L z),(9,iK)]⟩ S μ (Go.AM.look [(600,rO L z),(9,iK)]) w)
  (E:aT S μ (Go.AM.look [(600,rO L z),(9,iK)]) ([rP]++[R.vp 9 0].map V.one) vals):Calls Tryz.prog 53 ⟨vals⟩ w fun e w'=>∃S' μ' hout,e=.panicked [{ v:=v,recovered:=false }]∧(∀id o,Go.AM.look hout id=some o→∃o',Go.AM.look [(600,rO L z),(9,iK)] id=some o')∧(∃x,hout=[(600,x),(9,iK)])∧Go.AM.Inv ⟨w,S,i3 μ (Go.AM.look [(600,rO L z),(9,iK)]),μ,Go.AM.look [(600,rO L z),(9,iK)]⟩ S' μ' (Go.AM.look hout) w':=by
 refine(Go.AM.Wd.calls (ro:=none) (n:=0)).1 (callsIn_of_wp_defers Tryz.func53 rfl trivial ?_);have u:=aEe (n:=5) (k:=(Tryz.f53).ntmps) rfl rfl B E;refine wpIn_mono (oL.wp mixed (aWz (v:=v) [(600,rO L z)] [(0,rP)] u rfl ⟨rfl,trivial⟩ rfl ⟨rfl,trivial⟩ rfl rfl rfl ?_)) ?_
 ·exact ak 1 [] rfl (kp h (hq:=rfl))
 rintro e y w' ⟨rfl,I,_,S',J,hout,A,g,M⟩;show LeavesIn _ _ _ _ y.tmps _ y.defers (.panicking _) w';rw[I];have O:Go.AM.look hout 9=none:=by
  cases hl:Go.AM.look hout 9 with
  | none=>rfl
  | some o=>obtain⟨o',ho⟩:=A 9 o hl;cases ho
 have hx:∃x,fC (mk (x8 0 ([rP]++[R.vp 9 0].map V.one)) [(600,rO L z),(9,iK)]).h (outs hout)=Go.AM.look [(600,x),(9,iK)]:=by
  refine⟨(Go.AM.look hout 600).getD (rO L z),funext fun id=>?_⟩;rw[dE];by_cases q:id=600
  ·subst q;cases hl:Go.AM.look hout 600 with
   | none=>rfl
   | some o=>rfl
  ·have hn:Go.AM.look hout id=none:=by
    cases hl:Go.AM.look hout id with
    | none=>rfl
    | some o=>
     obtain⟨o',ho⟩:=A id o hl;simp[Go.AM.look] at ho;exact absurd ho.1 q
   rw[hn];show Go.AM.look [(600,rO L z),(9,iK)] id=_;simp[Go.AM.look,q]
 obtain⟨x,hx⟩:=hx;rw[hx] at g;refine⟨S',J,[(600,x),(9,iK)],rfl,fun id o ho=>?_,⟨x,rfl⟩,g⟩;have hm:=b6 ho;rcases Au.1 hm with hm | hm
 ·obtain⟨rfl,rfl⟩:=Prod.mk.inj hm;exact⟨_,rfl⟩
 ·obtain⟨rfl,rfl⟩:=Prod.mk.inj (Ar.1 hm);exact⟨_,rfl⟩
theorem xH {w0:World}{S0 S:Sto}{μ0 μ:Mu}{st:St}{a:Act}{w:World}{u:Value}(g:AObj) (b:Bool) (e p:Int) (y A:FrameMode) (hok:(subset (atV e p).refs (keys [(9,g)])&&subset (eG [(9,g)]) (keys [(9,g)])&&Go.AM.distinct (keys [(9,g)])&&subset (keys [(9,iK)]) (keys [(9,g)])&&([(9,iK)].all fun p=>p.2.plain)&&([(9,g)].all fun p=>p.2.plain))=true)
  (hs:Sim ⟨w0,S0,i3 μ0 (Go.AM.look [(9,iK)]),μ0,Go.AM.look [(9,iK)]⟩ 38 S μ st a w) (hd:st.d=[]) (I:st.e 4=some (.one (.vp 4 0))) (U:st.e 17=some (.one (.clo 87 [.vp 4 0]))) (Y:st.h 4=some (atO 0 0)) (aa:st.h 9=some g) (ab:Ole (fun i=>i) g g)
  (hk:Kp 17 (.func (.func 87) #[] ⟨[u]⟩) a)
  (hu:∀(B:Frame) (cs:List Frame),B.mode=y→(b=true∧recoverD (B::cs)=some (rE e p,{ B with mode:=A }::cs))∨(b=false∧recoverD (B::cs)=none∧A=y∧e=0∧p=0)) (J:y≠ .run) (M:settle A=.returning):
  LeavesIn (Wd none) 0 Tryz.prog Tryz.f52 a.tmps (fun en w'=>∃S' μ' v,en=.returned v∧Go.AM.Inv ⟨w0,S0,i3 μ0 (Go.AM.look [(9,iK)]),μ0,Go.AM.look [(9,iK)]⟩ S' μ' (Go.AM.look [(9,g)]) w'∧aN S' μ' (Go.AM.look [(9,g)]) (atV e p) v) (pM a [{ target:=.fn (.func 87) ⟨[u]⟩,args:= #[] }]).defers y w:=by
 have hda:a.defers=[]:=by have:=hs.defers;rw[hd] at this;exact this
 show LeavesIn _ _ _ _ _ _ (a.defers++_) _ _;rw[hda,A2];have hh:∀id o,Go.AM.look [(4,atO 0 0)] id=some o→st.h id=some o∧o≠ .dead:=by
  intro id o ho;obtain⟨rfl,rfl⟩:=Prod.mk.inj (Ar.1 (b6 ho));exact⟨Y,fun k=>by cases k⟩
 have hI:=hs.inv.hand hh rfl;have E:∀i∈keys [(4,atO 0 0)],Go.AM.Good st.h (Go.AM.look [(4,atO 0 0)]) (fun i=>i) i:=by
  intro i hi;obtain⟨o,ho⟩:=bZ hi;obtain⟨h1,h2⟩:=hh i o ho;exact⟨o,o,h1,ho,.refl_id h2⟩
 have q:=hs.env 17 _ U;have hk':a.tmps.getD 17 undef=.func (.func 87) #[] ⟨[u]⟩:=hk;rw[hk'] at q;have hvu:aT S μ st.h [.one (.vp 4 0)] [u]:=by
  simp only[aN,aY,aP] at q;obtain⟨vs,h1,v,vs',h2,h3,I⟩:=q;subst I h2;cases h1;simp only[aT,aN];exact⟨_,_,rfl,h3,rfl⟩
 have O:aT S μ (Go.AM.look [(4,atO 0 0)]) [.one (.vp 4 0)] [u]:=by
  have:=aT.ren (H:=st.h) (H':=Go.AM.look [(4,atO 0 0)]) (σ:=fun i=>i) [.one (.vp 4 0)] [u] (fun i hi=>E i (by simpa [V.refsL,V.refs,R.refs,keys] using hi)) (by rw[V.renL_id];exact hvu);exact this
 have hb1:fG Tryz.prog 87:=aC8 (by kernel_rfl);have hi:(invoke (.fn (.func 87) ⟨[u]⟩) #[]).run Tryz.prog w=.ok (.enter 87 ⟨[u]⟩) w:=by
  simp only[invoke];rw[dI hb1];simp
 refine leavesIn_cons J (fun h=>by simp[Go.AM.Wd] at h) hi (fun _ _=>trivial) (CallsDIn.mono (aTg b e p _ hI O y A hu) ?_);rintro en u' w' ⟨⟨v,rfl⟩,rfl,S',μ',hI6⟩;dsimp only;rw[M];obtain⟨μ2,q1,q2,q3,q4⟩:=hs.inv.back (hin:=[(4,atO 0 0)]) (hout:=[(4,atO e p)]) (fun id o ho=>(hh id o ho).1) (fun id o ho=>.inl (by obtain⟨rfl,_⟩:=Prod.mk.inj (Ar.1 (b6 ho));exact⟨_,rfl⟩)) hI6;have hs6:Sim ⟨w0,S0,i3 μ0 (Go.AM.look [(9,iK)]),μ0,Go.AM.look [(9,iK)]⟩ 38 S' μ2 ⟨st.e,fC st.h (outs [(4,atO e p)]),st.d⟩ a w':=⟨q2,hs.size,hs.defers.evolve q3,fun t v e=>aN.evolve q3 v _ (hs.env t v e)⟩
 have g4:fC st.h (outs [(4,atO e p)]) 4=some (atO e p):=by rw[dE];rfl
 have g9:fC st.h (outs [(4,atO e p)]) 9=some g:=by rw[dE];exact aa
 have hf:Fin tr.flat Tryz.f52 ⟨st.e,fC st.h (outs [(4,atO e p)]),st.d⟩ [(9,iK)] (atV e p) [(9,g)]:=(rtC (fn:=Tryz.f52) (st:=⟨st.e,fC st.h (outs [(4,atO e p)]),st.d⟩) (hin:=[(9,iK)]) (hout:=[(9,g)]) (res:=atV e p) trw (ha:=I) (hh:=g4) (ho:=⟨⟨_,g9,ab⟩,trivial⟩) (hok:=hok)).2
 obtain⟨v2,k1,k2,k3⟩:=aF9 (fn:=Tryz.f52) tok hs6 hf;exact⟨v2,k1,_,_,_,rfl,k2,k3⟩
section
variable {m:Nat}{P:Program}{ops:Array Oper}{Q:Exit→Act→World→Prop}{i:Nat}{a:Act}{w:World}{o:Oper}{K:Act→World→Prop}
theorem aN3 {x:Operand}{ts:Array TypeId}{f:FuncId}{caps:Array Value}(ho:ops[i]?=some o) (q:o.guard=none) (g:o.op=.defer { callee:=.value x,args:= #[],argTypes:=ts }) (u:o.dst=none) (hx:a.eval x=.func (.func f) #[] caps)
  (y:K ⟨a.tmps,{ target:=.fn (.func f) caps,args:= #[] }::a.defers⟩ w):wpOpIn (Go.AM.Wd none) m P ops Q i K a w:=by
 unfold wpOpIn;simp only[ho];rw[θ (by simp[Region.wanted,q])];refine⟨fun _ _=>trivial,?_⟩;have A:(o.semAt none a.eval).run P w=.ok (.defer { target:=.fn (.func f) caps,args:= #[] }) w:=by
  rw[Oper.semAt_none];simp[execOp,g,resolve,hx,Deferred.ofValue]
 show o.uponIn (Go.AM.Wd none) m P a K Q ((o.semAt none a.eval).run P w);rw[A,Oper.uponIn_defer,u];exact y
theorem aCk (ho:ops[i]?=some o) (g:o.guard=none) (h:o.wpIn (Go.AM.Wd none) m P a w K Q):wpOpIn (Go.AM.Wd none) m P ops Q i K a w:=by
 unfold wpOpIn;simp only[ho];rw[θ (by simp[Region.wanted,g])];exact h
end
theorem aC4 (s:Str) (l:List Tk) (E:aV Tryz.prog 86 [Go.AM.T s] [] (.tup [.one (.c (.sl 4 (l.map aI))),atV 0 0]) []) (pg:Pg) (g:Z) (hA:ZA l g) (A:bE Tryz.prog 54 [rP] [(600,rO l ⟨l,0,0⟩)] (fU l (.pa (mF pg)) g [])):
  aV Tryz.prog 52 [Go.AM.T s,.one (.clo 53 [.vp 9 0])] [(9,iK)] (atV (lK g).e (if(lK g).e=0 then 0 else(lK g).p)) [(9,if g.e=0 then pgO pg else iK)]:=by
 have er:rO l ⟨l,0,0⟩=.var 166 [.c (.sl 4 (l.map aI)),.c (.int .i64 0)]:=by unfold rO;dsimp only;rw[Cb];rfl
 unfold atV at E;intro S μ w vals hI hv;refine(Go.AM.Wd.calls (ro:=none) (n:=0)).1 (callsIn_of_wp_defers Tryz.func52 rfl trivial ?_);have hs0:=aEe (n:=38) (k:=(Tryz.f52).ntmps) rfl rfl hI hv;refine Cx (aVg mixed hs0 ?_);refine ak 1 [(0,.id 4)] rfl (az ?_);intro S1 μ1 a1 w1 hs1;refine Cx (aVg mixed hs1 ?_);refine ak 1 [] rfl (kc E ?_);refine kz 6 rfl ?_;intro S2 I a2 w2 hs2;refine Cx (Cx (aVg mixed hs2 ?_));refine kz 3 rfl ?_;intro S3 μ3 a3 w3 hs3;have hb:=hs3.env 15 _ rfl;simp only[aN,aY,Rep] at hb;refine wpIn_cond (t:=false) hb ?_;refine wpIn_skip ?_;refine Cx (wpIn_region ?_);show wpOpsIn _ _ _ _ _ [0,1] _ _;rw[Br];refine(g_ rfl rfl (qS (l:=[.vp 4 0]) rfl rfl (eC rfl) rfl)) _ (fA.refl _ _) _ S3 μ3 a3 w3 _ _ hs3 (fun S4 μ4 a4 w4 J=>?_) none;rw[Br];have hd4:a4.defers=[]:=J.defers;have hv4:=J.env 17 _ rfl;simp only[aN,aY,aP] at hv4;obtain⟨vs,hv5,u,vs',rfl,_,rfl⟩:=hv4;have hk4:Kp 17 (.func (.func 87) #[] ⟨[u]⟩) a4:=hv5;refine aN3 rfl rfl rfl rfl hv5 ?_;have he:(⟨a4.tmps,({ target:=.fn (.func 87) ⟨[u]⟩,args:= #[] }:Deferred)::a4.defers⟩:Act)=pM a4 [{ target:=.fn (.func 87) ⟨[u]⟩,args:= #[] }]:=by unfold pM;rw[hd4];rfl
 rw[he];refine Cx (aUv mixed J hk4 rfl ?_);refine ak 5 [(3,.id 600)] rfl (az ?_);intro S5 μ5 a5 w5 hk5 hs5;by_cases q:g.e=0
 case neg=>
  have hp:=bE.err A q;have M:lK g=g:=ξ fun k=>q k.1
  rw[M,ξ q,ξ q];refine Cx (oL.wp (draw:=false) mixed (oL.ext (Q:=fun e a w'=>(e=pan (rE g.e g.p)∧∃S' μ' st',Sim ⟨w,S,i3 μ (Go.AM.look [(9,iK)]),μ,Go.AM.look [(9,iK)]⟩ 38 S' μ' st' a w'∧st'.d=[]∧st'.e 4=some (.one (.vp 4 0))∧st'.e 17=some (.one (.clo 87 [.vp 4 0]))∧st'.h 4=some (atO 0 0)∧st'.h 9=some iK)∧Kp 17 (.func (.func 87) #[] ⟨[u]⟩) a) ?_ (oL.kp rfl ?_ hk5 ?_)))
  ·rintro e a w' ⟨⟨rfl,S',μ',st',hs',O,h4,h17,hh4,hh9⟩,B⟩;exact xH iK true g.e g.p (.panicking [{ v:=rE g.e g.p,recovered:=false }]) (.panicking [{ v:=rE g.e g.p,recovered:=true }]) rfl hs' O h4 h17 hh4 hh9 (.var rfl) B (fun c₀ cs hc=>.inl ⟨rfl,by simp only[recoverD,hc]⟩) (fun k=>by cases k) rfl
  ·rintro⟨a,w,h,_⟩;cases h
  unfold oL;dsimp only;show wpOpsIn _ _ _ _ _ [0,1,2] _ _;rw[Br];refine(g_ rfl rfl (aEs rfl rfl (eC rfl) rfl)) _ (fA.refl _ _) _ S5 μ5 a5 w5 _ _ hs5 (fun S6 μ6 U w6 y=>?_) none;rw[Br];refine(g_ rfl rfl (aEs rfl rfl (eC rfl) rfl)) _ (fA.refl _ _) _ S6 μ6 U w6 _ _ y (fun S7 μ7 a7 w7 hs7=>?_) none;rw[Br];rw[er] at hp;refine aCk rfl rfl (aTf (v:=rE g.e g.p) (good:=fun hout=>∃x,hout=[(600,x),(9,iK)]) (args:=[rP]) (caps:=[.vp 9 0]) (f:=53) [(600,rO l ⟨l,0,0⟩),(9,iK)] (aC8 (by kernel_rfl)) rfl rfl (fun S μ w vals hI hv=>aQf (by rw[er];exact hp) S μ w vals hI hv) (.cons rfl .refl .nil) ⟨by rw[er];rfl,rfl,trivial⟩ rfl hs7 ?_);rintro S' μ8 hout w' ⟨x,rfl⟩ hI8 Y;exact⟨rfl,S',μ8,⟨_,_,_⟩,⟨hI8,hs7.size,hs7.defers.evolve Y,fun t v e=>aN.evolve Y v _ (hs7.env t v e)⟩,rfl,rfl,rfl,rfl,rfl⟩
 have A:=bE.ok A q;rw[θ q];have hP1:=aUb A;rw[er] at hP1;refine Cx (aUv mixed hs5 hk5 rfl ?_);refine ak 2 [] rfl (kv (args:=[rP]) hP1 ?_);refine az ?_;intro S6 μ6 U w6 aa y;have hn:=dS hA;by_cases B:(b4 g).kind=6
 case neg=>
  have M:lK g=⟨g.R,12,(b4 g).pl⟩:=(θ ⟨q,B⟩).trans (θ q);have h12:¬(12:Int)=0:=by decide
  rw[M];dsimp only;rw[ξ h12];have d:decide ((b4 g).kind=6)=false:=ψ B;have hmn:=bL 12 (b4 g).pl;refine Cx (oL.wp mixed (oL.ext (Q:=fun e a w'=>((e=pan (rE 12 (b4 g).pl)∧a.defers=[]∧a.tmps.size=38∧∃S' I hout,(∀id o,Go.AM.look hout id=some o→∃o',Go.AM.look [(600,rO l g)] id=some o')∧Go.AM.Inv ⟨w,S,i3 μ (Go.AM.look [(9,iK)]),μ,Go.AM.look [(9,iK)]⟩ S' I (fC _ (outs hout)) w'∧Evolve S6 μ6 _ S' I (fC _ (outs hout)))∧Kp 4 (U.tmps.getD 4 undef) a)∧Kp 17 (.func (.func 87) #[] ⟨[u]⟩) a) ?_ (oL.kp rfl ?_ aa (oL.kp rfl ?_ rfl (aWz (v:=rE 12 (b4 g).pl) [(600,rO l g)] [(7,rP)] y rfl ⟨rfl,trivial⟩ rfl ⟨rfl,trivial⟩ rfl rfl rfl ?_)))))
  ·rintro e a' w' ⟨⟨⟨rfl,O,hsz,S',I,hout,hkeys,hI',Y⟩,hk4'⟩,ab⟩;have hno:∀id,id≠600→Go.AM.look hout id=none:=fun id h6=>by
    cases hl:Go.AM.look hout id with
    | none=>rfl
    | some o=>
     obtain⟨o',ho⟩:=hkeys id o hl;simp[Go.AM.look] at ho;exact absurd ho.1 h6
   have hs7:Sim ⟨w,S,i3 μ (Go.AM.look [(9,iK)]),μ,Go.AM.look [(9,iK)]⟩ 38 S' I ⟨Go.AM.look [(4,.one (.vp 4 0)),(17,.one (.clo 87 [.vp 4 0]))],_,[]⟩ a' w':=⟨hI',hsz,O,fun t v ht=>by
    have hm:=b6 ht;rcases Au.1 hm with hm | hm
    ·obtain⟨rfl,rfl⟩:=Prod.mk.inj hm;have h1:a'.tmps.getD 4 undef=U.tmps.getD 4 undef:=hk4';rw[h1];exact aN.evolve Y _ _ (y.env 4 _ rfl)
    ·obtain⟨rfl,rfl⟩:=Prod.mk.inj (Ar.1 hm);have h1:a'.tmps.getD 17 undef=U.tmps.getD 17 undef:=Eq.trans ab (Eq.symm aa);rw[h1]
     exact aN.evolve Y _ _ (y.env 17 _ rfl)⟩
   exact xH (pgO pg) true 12 (b4 g).pl (.panicking [{ v:=rE 12 (b4 g).pl,recovered:=false }]) (.panicking [{ v:=rE 12 (b4 g).pl,recovered:=true }]) rfl hs7 rfl rfl rfl ((dE _ hout 4).trans (by rw[hno 4 (by decide)];rfl)) ((dE _ hout 9).trans (by rw[hno 9 (by decide)];rfl)) (.var rfl) ab (fun c₀ cs hc=>.inl ⟨rfl,by simp only[recoverD,hc]⟩) (fun k=>by cases k) rfl
  ·rintro⟨a,w,h,_⟩;cases h.1
  ·rintro⟨a,w,h,_⟩;cases h
  refine ak 3 [] rfl (kc hn ?_);refine ak 5 [] rfl (kc hn ?_);refine ak 1 [] rfl ?_;rw[d];refine kpD (.tup []) [] hmn ?_ (hq:=rfl);exact az trivial
 have M:lK g=g:=ξ fun k=>k.2 B
 rw[M,θ q,q];have d:decide ((b4 g).kind=6)=true:=φ B;have hmo:=bK 12 (b4 g).pl;refine Cx (aUv mixed y aa rfl ?_);refine ak 3 [] rfl (kc hn ?_);refine ak 5 [] rfl (kc hn ?_);refine ak 1 [] rfl ?_;rw[d];refine kc hmo ?_;refine az ?_;intro S7 μ7 a7 w7 hk7 hs7;refine Cx (aUv mixed hs7 hk7 rfl ?_);refine kz 2 rfl ?_;intro S8 μ8 a8 w8 hk8 hs8;refine wpIn_ret ?_;exact xH (pgO pg) false 0 0 .returning .returning rfl hs8 rfl rfl rfl rfl rfl (.var rfl) hk8 (fun c₀ cs hc=>.inr ⟨rfl,by simp only[recoverD,hc],rfl,rfl,rfl⟩) (fun k=>by cases k) rfl
theorem yG (s:Str) (e p:Int) (q:¬e=0) (g:aV Tryz.prog 86 [Go.AM.T s] [] (.tup [.one (.c .nl),atV e p]) []):
  aV Tryz.prog 52 [Go.AM.T s,.one (.clo 53 [.vp 9 0])] [(9,iK)] (atV e p) [(9,iK)]:=by
 unfold atV at g ⊢;have d0:(!decide (e=0))=true:=by rw[ψ q];rfl
 refine bF (n:=38) tok Tryz.func52 rfl rfl rfl ?_;refine sgh [(0,.id 4)] rfl (sk 1 rfl (kc g ?_));exact kz 6 rfl (aA (sg rfl (aB rfl (fun _=>sg rfl (aF (rtC trw))) (fun hb=>absurd (hb.symm.trans d0) Bool.noConfusion))))
theorem aKr (hX:wY) (s:Str) (g:aV Tryz.prog 86 [Go.AM.T s] [] (aDs (nA s)) []) (hC:aQ3 (cA s).1 (cA s).2.R.length):
  aV Tryz.prog 52 [Go.AM.T s,.one (.clo 53 [.vp 9 0])] [(9,iK)] (atV (lK (i5 s).2).e (if(lK (i5 s).2).e=0 then 0 else(lK (i5 s).2).p)) [(9,if(i5 s).2.e=0 then pgO (i5 s).1 else iK)]:=by
 obtain⟨q,hwt,hZ,u⟩:=kF s;have y:= @sG s;have A:∀l,nA s=.ok l→aL6 l:=fun l h=>by
  unfold nA at h;split at h
  ·cases h
  ·exact sE _ _ _ _ h
 unfold i5;unfold cA at q hwt hZ u hC ⊢;generalize nA s=w at g q hwt hZ u hC y A ⊢;cases w with
 | error e=>
  obtain⟨e,p⟩:=e;have he:¬e=0:=y rfl;have E:lK ⟨[vL],e,p⟩=⟨[vL],e,p⟩:=ξ fun k=>he k.1
  dsimp only;rw[ξ he];dsimp only;rw[E];dsimp only;rw[ξ he,ξ he];exact yG s e p he g
 | ok l=>
  dsimp only at q hwt hZ u hC ⊢;rw[θ rfl];have B:=aC5 (sP l.length) (aPc hwt hZ (A l rfl) l.length) hX (k8 hwt l.length) hZ hwt hC q rfl (le_refl _);obtain⟨I,_⟩:=xN (k8 hwt l.length) hwt q;exact aC4 s l g _ _ I B
theorem aC7 (hX:wY) (s:Str) (q:aV Tryz.prog 86 [Go.AM.T s] [] (aDs (nA s)) []) (hC:aQ3 (cA s).1 (cA s).2.R.length):
  aV Tryz.prog 31 [Go.AM.T s] [] (.tup [.pa (mF (i6 s).1),atV (i6 s).2.1 (if(i6 s).2.1=0 then 0 else(i6 s).2.2)]) []:=by
 have hs:=aKr hX s q hC;have g:(lK (i5 s).2).e=0→(i5 s).2.e=0:=fun h=>by
  unfold lK at h;split at h
  ·rename_i hc;exact hc.1
  ·exact h
 unfold i6;generalize (i5 s).1=u at hs ⊢;generalize y:(lK (i5 s).2)=z at hs g ⊢;unfold atV at hs ⊢;by_cases he:z.e=0
 ·rw[θ he,θ (g he)] at hs;rw[θ he];dsimp only;rw[θ he];have d0:(!decide (z.e=0))=false:=by rw[φ he];rfl
  refine bF (n:=16) tok Tryz.func31 rfl rfl rfl ?_;refine sg rfl (sgh [(0,.id 9)] rfl (sk 2 rfl (kc hs ?_)));exact kz 2 rfl (aA (sg rfl (aB rfl (fun hb=>absurd (hb.symm.trans d0) Bool.noConfusion) (fun _=>aD (sg rfl (aF aEm))))))
 ·rw[ξ he] at hs;rw[ξ he];dsimp only;rw[ξ he];have d0:(!decide (z.e=0))=true:=by rw[ψ he];rfl
  by_cases h1:(i5 s).2.e=0
  ·rw[θ h1] at hs;refine bF (n:=16) tok Tryz.func31 rfl rfl rfl ?_;refine sg rfl (sgh [(0,.id 9)] rfl (sk 2 rfl (kc hs ?_)));exact kz 2 rfl (aA (sg rfl (aB rfl (fun _=>sg rfl (aF aEm)) (fun hb=>absurd (hb.symm.trans d0) Bool.noConfusion))))
  ·rw[ξ h1] at hs;refine bF (n:=16) tok Tryz.func31 rfl rfl rfl ?_;refine sg rfl (sgh [(0,.id 9)] rfl (sk 2 rfl (kc hs ?_)));exact kz 2 rfl (aA (sg rfl (aB rfl (fun _=>sg rfl (aF aEm)) (fun hb=>absurd (hb.symm.trans d0) Bool.noConfusion))))
def bxL:List Tk:=[⟨4,eqS,0,0⟩,⟨1,[120],0,0⟩,vL]
theorem aUg:wY:=by
 have q:ZA bxL ⟨bxL,0,0⟩:=⟨rfl,⟨[⟨4,eqS,0,0⟩,⟨1,[120],0,0⟩],vL,rfl,rfl⟩,by decide⟩
 have hwt:wt bxL≤30000:=by decide
 have hN:aL6 bxL:=fun t g=>by
  intro _;simp only[bxL,Au,not_mem_nil,or_false] at g;rcases g with rfl | rfl | rfl<;>rfl
 have hZ:nZ bxL:=fun t g u=>hN t g (by rw[u];decide)
 have hb:=tF (sP 3) (aPc hwt hZ hN 3) ⟨1,[120],0,0⟩ 0 q rfl (by decide) (by decide);have he:(dP (aCw 3) ⟨1,[120],0,0⟩ 0 ⟨bxL,0,0⟩).2.e=0:=by decide
 have hb:=bE.ok hb he;exact⟨bxL,⟨bxL,0,0⟩,_,⟨1,[120],0,0⟩,_,hb⟩
end Go.Proofs.YtkhgpgihmphfdaaGreat
namespace Go.AM
open Go
section
variable {P:Program}{n:Nat}{o:Oper}{st:St}{d:Nat}{T:TT}
theorem aU8 {rd:Rd}{id:Nat}{ao g:AObj}(J:o.dst=none) (A:st.h id=some ao) (B:id∈rd.h) (u:ao.succ True g)
  (h:∀st',fA rd st st'→st'.h id=some ao→∀G S μ a w,Sim G n S μ st' a w→∃v w' y b c,(execOp a.eval o).run P w=.ok (.value v) w'∧μ id=some (b,c)∧WChg w w' b y∧
   jF S (upd μ id (some (b,c))) (upd st'.h id (some g)) w' id g∧(∀o v,S.cell b o=some v→∃vs t M,y=.cells vs t M∧vs[o]?=some v)∧(∀m,S.mapo b=some m→w.heap.size≤b)):
  Step P n o st rd ⟨none,[(id,some g)]⟩:=by
 intro st' ha G S μ a w K Q hs O;have q:st'.h id=some ao:=by rw[ha.2 id B,A]
 obtain⟨v,w',y,b,c,U,hm,hw,hO,hS,E⟩:=h st' ha q G S μ a w hs;refine fun ro=>eI U ?_
 rw[J];have I:=eV (S:=S) (μ:=μ) q hm u;have hi:=hs.inv.chg (id:=id) (cap:=c) (ao:=g) hw (.inr ⟨ao,c,q,hm⟩) I hO hS E;refine O S (upd μ id (some (b,c))) _ _ ?_;have:=hs.put_none hi I v;unfold Eff.apply;rw[bY];exact this
theorem rT (w:World) (t e ty:TypeId) (z:Value) (B:P.underlying t=some (.slice e)) (E:∀w,(zeroValue e).run P w=.ok z w) (I:z.cells= #[z]) (h1:z.oneCell'=true) (b off l c:Nat) (hn:0<l) (vs:List Value) (u:TypeId) (J:w.heap[b]?=some (.cells ⟨vs⟩ u (0,0))) (q:off+l≤vs.length):
  (Builtin.clear_ #[t] ty #[.slice (some ⟨b,off,none⟩) l c]).run P w=.ok (.tuple #[]) (w.setRow b ⟨vs.take off++List.replicate l z++vs.drop (off+l)⟩):=by
 have y:(Builtin.zeroCells z.cells l).toList=List.replicate l z:=by
  rw[I];simp[Builtin.zeroCells];apply List.ext_getElem
  ·simp
  ·intro i h1 h2;simp[Nat.mod_one]
 have g:=run_storeCells_at (P:=P) b off u (List.replicate l z) 0 ⟨vs⟩ w J (by simpa using q) (by intro v A;rw[List.eq_of_mem_replicate A];exact h1);simp only[Ck,Cr] at g;obtain⟨m,rfl⟩:∃m,l=m+1:=⟨l-1,by omega⟩
 simp[Builtin.clear_,Ah B,E,y,g]
theorem aVe {elems:List (List C)}(h:∀r∈elems,r.length=1):elems.flatten.length=elems.length:=by
 induction elems with
 | nil=>rfl
 | cons r l g=>
  rw[Bb,η,g (fun r q=>h r (Bh _ q)),h r Bu,Aa];omega
theorem aCu {elems:List (List C)}(h:∀r∈elems,r.length=1) (k:Nat):(elems.take k).flatten=elems.flatten.take k:=by
 induction elems generalizing k with
 | nil=>simp
 | cons r l q=>
  cases k with
  | zero=>simp
  | succ k=>
   have g:=h r Bu;rw[Az,Bb,Bb,q (fun r g=>h r (Bh _ g)),List.take_append,g,Nat.add_sub_cancel,Aw (l:=r) (i:=k+1) (by omega)]
theorem vH (c:C):∀l:Nat,(List.replicate l [c]).flatten=List.replicate l c
 | 0=>rfl
 | l+1=>by rw[replicate_succ,Bb,vH c l,replicate_succ];rfl
theorem zR {S:Sto}{c:C}{z:Value}(h:Rep S c z):∀l:Nat,bS S (List.replicate l c) (List.replicate l z)
 | 0=>by rw[List.replicate_zero,bS];rfl
 | l+1=>by rw[replicate_succ,replicate_succ,bS];exact⟨_,_,rfl,h,zR h l⟩
theorem aE2 {t e:TypeId}{x:Operand}{te id off len sz:Nat}{elems:List (List C)}{z:Value}{zc:C}(ho:o.op=.call { callee:=.builtin .clear,args:= #[x],argTypes:= #[t] }) (hd:o.dst=none) (hu:P.underlying t=some (.slice e)) (hzero:∀w,(zeroValue e).run P w=.ok z w) (hz:z.cells= #[z]) (hz1:z.oneCell'=true) (I:∀S,Rep S zc z)
  (hx:(opv st x=some (.one (.tl id off len sz)))∨(opv st x=some (.one (.hs id off len sz))∧off=0)) (hh:st.h id=some (.arr te 1 elems 0)) (hsz:sz=elems.length) (hlen:0<len) (hol:off+len=sz):Step P n o st ⟨opr x,[id]⟩ ⟨none,[(id,some (.arr te 1 (elems.take off++List.replicate len [zc]) 0))]⟩:=by
 have B:(elems.take off++List.replicate len [zc]).length=elems.length:=by rw[η,Aj,Cr];omega
 refine aU8 hd hh (by simp) ⟨rfl,by rw[B];exact le_refl _,fun _=>trivial⟩ fun st' ha u G S μ a w hs=>?_
 obtain⟨b,base,cap,c,y,A⟩:∃b base cap c,μ id=some (b,base,cap)∧(elems.length≤cap→a.eval x=.slice (some ⟨b,base+off,none⟩) len c):=by
  rcases hx with hx | ⟨hx,h0⟩
  ·have g:=aK hs hx ha.1;simp only[aN,aY] at g;obtain⟨_,g | ⟨te',es',elems',fz',h1,h2,J⟩⟩:=g
   ·rw[u] at g;cases g
   rw[u] at h1;cases h1;obtain⟨h4,b,base,cap,y,h6,E⟩:=J hsz;refine⟨b,base,cap,cap-off,y,fun hc=>?_⟩;rw[E,ξ (by omega),mul_one]
  ·have g:=aK hs hx ha.1;simp only[aN,aY] at g;obtain⟨_,g | ⟨te',es',elems',fz',h1,h2,J⟩⟩:=g
   ·rw[u] at g;cases g
   rw[u] at h1;cases h1;obtain⟨h4,⟨y,h6,E⟩ | ⟨b,base,cap,y,E⟩⟩:=J hsz
   ·subst h6;rw[length_nil] at hsz;omega
   ·exact⟨b,base,cap,cap-off,y,fun hc=>by rw[E,mul_one]⟩
 obtain⟨M,vs,O,g2,g3,g4,U,g6,g7⟩:=(hs.inv.obj id _ u).arr y;have A:=A g3;rw[mul_one] at g2 U;have Y:=rT (P:=P) w t e o.type z hu hzero hz hz1 b (base+off) len c hlen vs te O (by omega);have hW:=WChg.setRow w b ⟨vs⟩ ⟨vs.take (base+off)++List.replicate len z++vs.drop (base+off+len)⟩ te (0,0) O;have hfl:=aVe M;have hrl:=U.length;refine⟨.tuple #[],_,_,b,(base,cap),?_,y,hW,⟨?_,.inr ⟨b,base,cap,_,aH _ _ _,hW.new,?_,by rw[B];exact g3,g4,?_,g6,by rw[B];exact g7.1,fun e=>by cases e⟩⟩,fun o v e=>?_,fun m e=>eU g4.2 m e⟩
 ·simp only[execOp,ho,resolve,map_toArray,Be,map_nil,A,π,τ,ζ,invoke,builtin,Y]
 ·intro q hq;rcases Ay.1 hq with hq | hq
  ·exact M q (B9 hq)
  ·rw[List.eq_of_mem_replicate hq];rfl
 ·simp only[η,Aj,Bf,Cr];omega
 ·rw[B,mul_one,Cp,aCu M,vH];have e2:((vs.take (base+off)++List.replicate len z++vs.drop (base+off+len)).drop base).take elems.length=((vs.drop base).take elems.length).take off++List.replicate len z:=by
   have hA:(vs.take (base+off)++List.replicate len z++vs.drop (base+off+len)).drop base=(vs.drop base).take off++List.replicate len z++vs.drop (base+off+len):=by
    rw[An,B3 (by rw[Aj];omega),drop_take,show base+off-base=off by omega,An]
   rw[hA,take_left' (by rw[η,Aj,Bf,Cr];omega),take_take,show min off elems.length=off by omega]
  show bS S _ (((vs.take (base+off)++List.replicate len z++vs.drop (base+off+len)).drop base).take elems.length);rw[e2];exact(U.take off).append (zR (I S) len)
 ·by_cases hb:base≤o
  ·rw[g6 rfl o hb] at e;cases e
  ·obtain⟨vs0,t0,fr0,q1,q2⟩:=hs.inv.holds.1 b o v e;rw[O] at q1;cases q1;refine⟨_,_,_,rfl,?_⟩;simp only[Cd] at q2 ⊢;have hlt:o<vs.length:=(Af.1 q2).1
   rw[An,A5 (by simp;omega),Ak,θ (by omega)];exact q2
theorem aN6 {t e:TypeId}{i B:TI}{x y:Operand}{te es id len sz:Nat}{kk:IntKind}{elems:List (List C)}{fz:Nat}(Y:Tok P T) (ho:o.op=.slice t x (some y) none none) (hd:o.dst=some d) (E:d<n) (hi:T[t]?=some (some i)) (hk:i.k=.sl e) (J:T[e]?=some (some B)) (_:B.size=es)
  (hx:opv st x=some (.one (.hs id 0 len sz))) (hh:st.h id=some (.arr te es elems fz)) (hsz:sz=elems.length) (hlen:1≤len) (hls:len≤sz) (hy:opv st y=some (I kk ((0:Nat):Int))):Step P n o st ⟨opr x++opr y,[id]⟩ ⟨some (d,some (.one (.hs id 0 len sz))),[]⟩:=by
 refine Step.value hd E fun st' ha G S μ a w hs=>?_
 have g:=aK hs hx fun t A=>ha.1 t (by simp[A])
 have M:=dL (aK hs hy fun t A=>ha.1 t (by simp[A]));have u:st'.h id=some (.arr te es elems fz):=by rw[ha.2 id (by simp),hh]
 have O:=g;simp only[aN,aY] at g;obtain⟨_,g | ⟨te',es',elems',fz',h1,h2,h3⟩⟩:=g
 ·rw[u] at g;cases g
 rw[u] at h1;cases h1;obtain⟨h4,⟨h5,q,h7⟩ | ⟨b,base,cap,h5,q⟩⟩:=h3 hsz
 ·subst q;simp at hsz;omega
 rw[zero_mul,Ck,sub_zero] at q;refine⟨a.eval x,?_,O⟩;have U:=zL (P:=P) Y hi hk J w (some ⟨b,base,none⟩) len cap 0 kk (Ad _);simp only[execOp,ho,B1,Option.map_none,q,M,π,τ] at U ⊢;rw[U];by_cases hc:cap=0
 ·simp[hc]
 ·simp[hc,Addr.add_mid]
end
end Go.AM
namespace Go.Proofs.YtkhgpgihmphfdaaGreat
open Go Go.AM
set_option maxRecDepth 20000
set_option maxHeartbeats 4000000
theorem aHd (s:Str) (t:Tk):aV Tryz.prog 147 ([Go.AM.T s]++[R.c (.pt (aI t))].map V.one) [] (B (decide (s=t.text))) []:=by
 refine bF (n:=8) tok Tryz.func147 rfl rfl rfl ?_;exact sg rfl (sg rfl (aF rtT))
def aKa (v:Str) (l:List Str) (m:Nat):Int:=match (l.drop m).findIdx? (fun s=>decide (s=v)) with
 | none=> -1
 | some d=>((m+d:Nat):Int)
theorem aJ9 (v:Str) (l:List Str):aKa v l l.length= -1:=by unfold aKa;rw[Ct];rfl
theorem aF2 (v:Str) {l:List Str}{m:Nat}{s:Str}(h:l[m]?=some s):aKa v l m=if s=v then(m:Int) else aKa v l (m+1):=by
 obtain⟨h1,h2⟩:=Af.1 h;have g:=A7 h1;rw[h2] at g;unfold aKa;rw[g,List.findIdx?_cons];by_cases hp:s=v
 ·rw[θ (φ hp),θ hp];rfl
 ·rw[ξ (by rw[ψ hp];exact ω),ξ hp];cases (l.drop (m+1)).findIdx? _ with
  | none=>rfl
  | some d=>simp;omega
def svA (l:List (List C)) (f:Nat):AObj:=.arr 9 1 l f
theorem aTw (l:List Str) (hl:l.length≤1000000000) (t:Tk):aV Tryz.prog 191 [hsV 710 l.length,.one (.clo 147 [.c (.pt (aI t))])] [(710,svA (l.map aX) 0)] (I .i64 (aKa t.text l 0)) [(710,svA (l.map aX) 0)]:=by
 have B:(l.map aX).length=l.length:=χ _;refine bF (n:=19) tok Tryz.func191 rfl rfl rfl ?_;refine sg rfl (aA (sg rfl (aE (aL (fun i:Nat=>mk [(0,hsV 710 l.length),(1,.one (.clo 147 [.c (.pt (aI t))])),(7,I .i64 (l.length:Int)),(8,I .i64 i)] [(710,svA (l.map aX) 0)]) (fun i=>i≤l.length∧aKa t.text l 0=aKa t.text l i) (fun i=>l.length-i) 0 ⟨Ad _,rfl⟩ sl ?_))));intro i ⟨hi,g⟩;refine sg rfl (aA (aB rfl (fun hb=>?_) (fun hb=>?_)))
 ·have q:i<l.length:=by have:=κ hb;omega
  obtain⟨x,u⟩:=aM q;have A:=bB aX u;have hc:=aHd x t;rw[aF2 _ u] at g;refine aD (aA (aE (sg rfl (skh 5 [(4,.row i (aX x))] rfl (kv (args:=[Go.AM.T x]) hc ?_)))));refine az (aB rfl (fun hb=>?_) (fun hb=>?_))
  ·rw[θ (κ hb)] at g;rw[g];exact sg rfl (aF rtT)
  ·rw[ξ (Ae hb)] at g;exact aD (ag [] rfl ⟨i+1,⟨q,g⟩,by dsimp only;omega,sl⟩)
 have y:i=l.length:=by have:=Ae hb;omega
 subst y;rw[aJ9] at g;rw[g];exact aG (sg rfl (aF rtT))
def dl (v:Str) (l:List Str):List Str:=l.filter (fun s=>!decide (s=v))
theorem aV8 (v:Str) (l:List Str):(dl v l).length≤l.length:=length_filter_le _ _
theorem aGf {v:Str}{l:List Str}(h:∀s∈l,¬s=v):dl v l=l:=filter_eq_self.2 fun s hs=>by rw[ψ (h s hs)];rfl
theorem aGe {v:Str}{l:List Str}{i:Nat}{x:Str}(h:l[i]?=some x):dl v (l.take (i+1))=if x=v then dl v (l.take i) else dl v (l.take i)++[x]:=by
 unfold dl;rw[Bg,h,Bv];by_cases hx:x=v
 ·rw[θ hx];show _++List.filter _ [x]=_;rw[Cf,ξ (by rw[φ hx];decide)];simp
 ·rw[ξ hx];show _++List.filter _ [x]=_;rw[Cf,θ (by rw[ψ hx];rfl)];rfl
def aDu (v:Str) (l:List Str):List (List C):=(dl v l).map aX++List.replicate (l.length-(dl v l).length) [.str []]
theorem aHc (l:List Str) (hl:l.length≤1000000000) (t:Tk):aV Tryz.prog 146 [hsV 710 l.length,.one (.clo 147 [.c (.pt (aI t))])] [(710,svA (l.map aX) 0)] (.one (.c (.sl 1 ((dl t.text l).map aX)))) [(710,svA (aDu t.text l) 2)]:=by
 have ab:(l.map aX).length=l.length:=χ _;have A:=aTw l hl t;unfold aKa at A;rw[B0] at A;refine bF (n:=42) tok Tryz.func146 rfl rfl rfl ?_;refine sg rfl (sk 2 rfl (kc A ?_));refine kz 1 rfl ?_;cases hf:l.findIdx? (fun s=>decide (s=t.text)) with
 | none=>
  have ac:∀s∈l,¬s=t.text:=fun s hs he=>by
   have:=(List.findIdx?_eq_none_iff.1 hf) s hs;rw[φ he] at this;cases this
  have e1:aDu t.text l=l.map aX:=by
   unfold aDu;rw[aGf ac,Cb,List.replicate_zero,A0]
  rw[e1,aGf ac];dsimp only;refine aA (sg rfl (aB rfl (fun _=>AWp.sub (Sub.freeze (id:=710) rfl) ?_) (fun hb=>Bool.noConfusion hb)));exact sg rfl (aF (rtH (hsz:=ab.symm) (hlen:=ab.symm)))
 | some d=>
 obtain⟨M,ad,ae⟩:=List.findIdx?_eq_some_iff_getElem.1 hf;have af:l[d]?=some t.text:=by rw[List.getElem?_eq_getElem M,κ ad]
 have ah:dl t.text (l.take d)=l.take d:=aGf fun s hs he=>by
  obtain⟨j,hj1,ai⟩:=List.mem_iff_getElem.1 hs;rw[Aj] at hj1;rw[List.getElem_take] at ai;exact ae j (by omega) (by rw[ai];exact φ he)
 have O:dl t.text (l.take (d+1))=l.take d:=by rw[aGe af,θ rfl,ah]
 dsimp only;rw[Ba];have dn:decide (((d:Nat):Int)= -1)=false:=ψ (by omega);refine aA (sg rfl (aB rfl (fun hb=>absurd (hb.symm.trans dn) Bool.noConfusion) (fun _=>aD (aA (aA (agN [] rfl (aE (aL (fun q:List Str×Nat×Nat=>mk [(0,hsV 710 l.length),(1,.one (.clo 147 [.c (.pt (aI t))])),(5,I .i64 (q.2.1:Nat)),(6,I .i64 (q.2.2:Nat))] [(710,svA (q.1.map aX) 0)]) (fun q=>q.1.length=l.length∧q.2.1<q.2.2∧q.2.2≤l.length∧q.1.take q.2.1=dl t.text (l.take q.2.2)∧q.1.drop q.2.2=l.drop q.2.2) (fun q=>l.length-q.2.2) (l,d,d+1) ⟨rfl,by dsimp only;omega,M,O.symm,rfl⟩ sl ?_))))))));clear A O ah af M ad ae hf dn;rintro⟨R,k,i⟩ ⟨u,hki,hi,J,U⟩;dsimp only at u hki hi J U ⊢;have B:(R.map aX).length=R.length:=χ _;refine aA (sg rfl (aB rfl (fun hb=>?_) (fun hb=>?_)))
 ·have Y:i<l.length:=by have:=κ hb;omega
  obtain⟨x,hx⟩:=aM Y;have hRx:R[i]?=some x:=by
   have h1:(R.drop i)[0]?=(l.drop i)[0]?:=by rw[U]
   rw[Al,Al,Ck] at h1;rw[h1,hx]
  obtain⟨y,hy⟩:=aM (l:=R) (k:=k) (by omega);have hRx':=bB aX hRx;have hy':=bB aX hy;have hc:=aHd x t;have E:=aGe (v:=t.text) hx;have aa:R.drop (i+1)=l.drop (i+1):=by
   rw[←Co,←Co,U]
  refine aD (aA (aE (sgh [(3,.row i (aX x))] rfl (sk 2 rfl (kv (args:=[Go.AM.T x]) hc ?_)))));refine kz 1 rfl (aB rfl (fun hb=>?_) (fun hb=>?_))
  ·have hne:¬x=t.text:=fun e=>by rw[φ e] at hb;cases hb
   rw[ξ hne] at E;have hs1:(R.map aX).set k (aX x)=(R.set k x).map aX:=by rw[map_set]
   refine sgh [(4,.row k (aX y))] rfl (agN [] rfl (agN [] rfl ⟨(R.set k x,k+1,i+1),⟨by dsimp only;rw[length_set,u],by dsimp only;omega,Y,?_,?_⟩,by dsimp only;omega,sl (hh:=⟨⟨_,rfl,.arrS hs1⟩,trivial⟩)⟩))
   ·dsimp only;rw[E,←J,Bg,List.getElem?_set_self (by omega),List.take_set_of_le (by omega)];rfl
   ·dsimp only;rw[List.drop_set_of_lt (by omega),aa]
  ·have he:x=t.text:=by
    by_cases he:x=t.text
    ·exact he
    ·rw[ψ he] at hb;cases hb
   rw[θ he] at E;exact aD (agN [] rfl ⟨(R,k,i+1),⟨u,by dsimp only;omega,Y,by dsimp only;rw[E,J],aa⟩,by dsimp only;omega,sl⟩)
 have hge:i=l.length:=by have:=Ae hb;omega
 subst hge;rw[Ao] at J;have hk:(dl t.text l).length=k:=by rw[←J,Aj];omega
 have g:(R.map aX).take k++List.replicate (l.length-k) [.str []]=aDu t.text l:=by
  unfold aDu;rw[hk,←J,List.map_take]
 have htk:(aDu t.text l).take k=(dl t.text l).map aX:=by
  unfold aDu;rw[take_left' (by rw[χ,hk])]
 have aj:(aDu t.text l).length=l.length:=by
  unfold aDu;rw[η,χ,Cr,hk];omega
 refine aG (aA (AWp.cut (mk [(0,hsV 710 l.length),(5,I .i64 (k:Nat))] [(710,svA (aDu t.text l) 0)]) ?_ ?_))
 ·refine aC mixed (ak 2 [] rfl ?_);by_cases h0:k=0
  ·subst h0;refine k_ (g_ rfl rfl (aN6 tok rfl rfl (eC rfl) (tg rfl) rfl (tg rfl) rfl rfl (by omega) (by omega) rfl (hh:=rfl) (hsz:=by rw[B,u]))) ?_;refine k_ (g_ rfl rfl (aE2 (e:=9) (z:=.string ⟨#[]⟩) (zc:=.str []) rfl rfl (by kernel_rfl) (fun w=>by kernel_rfl) rfl rfl (fun S=>by rw[Rep]) (.inr ⟨rfl,rfl⟩) rfl (by rw[B,u]) (by omega) (by omega))) ?_;refine az ?_;rw[sub_zero] at g;exact sl (hh:=⟨⟨_,rfl,.arrS g⟩,trivial⟩)
  ·refine k_ (g_ rfl rfl (uN k tok rfl rfl (eC rfl) (tg rfl) rfl (tg rfl) rfl rfl (hh:=rfl) (hsz:=by rw[B,u]) (hlen:=rfl) (hy:=rfl) (hl:=⟨by omega,by omega⟩))) ?_;refine k_ (g_ rfl rfl (aE2 (e:=9) (z:=.string ⟨#[]⟩) (zc:=.str []) rfl rfl (by kernel_rfl) (fun w=>by kernel_rfl) rfl rfl (fun S=>by rw[Rep]) (.inl rfl) rfl (by rw[B,u]) (by omega) (by omega))) ?_;exact az (sl (hh:=⟨⟨_,rfl,.arrS g⟩,trivial⟩))
 have hkd:k≤(aDu t.text l).length:=by omega
 refine AWp.sub (Sub.freeze (id:=710) rfl) ?_;refine AWp.sub (cv 0 (aDu t.text l) (h1:=aj.symm) (h2:=aj.symm)) ?_;refine sg rfl ?_;rw[htk];exact aF rtT
def hs7 (l:List Str):V:=.one (.hs 710 0 l.length l.length)
def sv7 (l:List Str):AObj:=.arr 9 1 (l.map aX) 0
theorem aK0 (l:List Str) (s:Str) (h:l.length≤600000000000):aV Tryz.prog 51 [.one (.hs 710 0 l.length l.length),Go.AM.T s] [(710,.arr 9 1 (l.map aX) 0)] (I .i64 (y8 s l 0)) [(710,.arr 9 1 (l.map aX) 0)]:=by
 refine bF (n:=19) tok Tryz.func51 rfl rfl rfl ?_;refine sg rfl (aA (sg rfl ?_));have y:(l.map aX).length=l.length:=χ _;refine aE (aL (fun i:Nat=>mk [(0,.one (.hs 710 0 l.length l.length)),(1,Go.AM.T s),(7,I .i64 (l.length:Int)),(8,I .i64 i)] [(710,.arr 9 1 (l.map aX) 0)]) (fun i=>i≤l.length∧y8 s l 0=y8 s (l.drop i) i) (fun i=>l.length-i) 0 ⟨Ad _,rfl⟩ sl ?_);intro i ⟨hi,he⟩;refine sg rfl (aA (aB rfl (fun hb=>?_) (fun hb=>?_)))
 ·have g:i<l.length:=by have:=κ hb;omega
  obtain⟨x,hx⟩:=aM g;have A:=bB aX hx;have u:l.drop i=x::l.drop (i+1):=by rw[A7 g,(Af.1 hx).2]
  rw[u,y8] at he;refine aD (aA (aE (sg rfl (sgh [(4,.row i (aX x))] rfl (aB rfl (fun hb=>?_) (fun hb=>?_))))))
  ·have hs:s=x:=κ hb;rw[θ hs] at he;rw[he];exact sg rfl (aF rtT)
  ·have hs:¬s=x:=Ae hb;rw[ξ hs] at he;exact aD (ag [] rfl ⟨i+1,⟨g,he⟩,by dsimp only;omega,sl⟩)
 ·have q:i=l.length:=by have:=Ae hb;omega
  subst q;rw[Ct,y8] at he;rw[he];exact aG (sg rfl (aF rtT))
theorem pU (l:List Str) (s:Str) (h:l.length≤600000000000):aV Tryz.prog 29 [.one (.hs 710 0 l.length l.length),Go.AM.T s] [(710,.arr 9 1 (l.map aX) 0)] (B (decide (s∈l))) [(710,.arr 9 1 (l.map aX) 0)]:=by
 have hi:=aK0 l s h;refine bF (n:=9) tok Tryz.func29 rfl rfl rfl ?_;refine sg rfl (sk 2 rfl (kc hi ?_));refine kz 2 rfl ?_;rw[←sO s l 0 (by omega)];exact aF rtT
def aQ9 (s:Sch):List AM.R:=[.hs 710 0 s.vars.length s.vars.length,.c .nl,.c (.sl 5 (s.preds.map aR)),.c (.int .i64 s.ty.form),.c (.int .i64 s.ty.n),.c (.str s.ty.name),.c (.sl 4 (dD s.ty))]
theorem aC6 (L:List Tk) (hZ:nZ L) (R:List Tk) (i:Nat) (O:At L i R) (hwt:wt L≤30000) {s:Sch}{R':List Tk}(hok:cH R=.ok (s,R')):aV Tryz.prog 190 [nM L,I .i64 (i:Nat)] [] (.tup [.ma (aQ9 s),I .i64 ((L.length-R'.length:Nat):Int),atV 0 0]) [(710,svA (s.vars.map aX) 0)]:=by
 have hp:=tG L hZ R i O;have ab:= @kL R;have al:= @iB R;unfold cH at hok;refine bF (n:=74) tok Tryz.func190 rfl rfl rfl ?_;refine sg rfl (sk 2 rfl (kc hp ?_));generalize cQ R=w at ab al hok ⊢;cases w with
 | error e=>
  obtain⟨e,p⟩:=e;rw[n6] at hok;cases hok
 | ok y=>
 obtain⟨ps,R1⟩:=y;obtain⟨k1,⟨q,k2,_⟩,k3,k4⟩:=ab rfl;obtain⟨ac,hn1⟩:=O.to k2 (k1 O.e);rw[n6] at hok;rw[n9,hn1];generalize i+q.length=j at ac;have hty:=aA7 L hZ R1 j ac;have ad:=fB (3*R1.length+2) 0 R1;have hte:=dT (3*R1.length+2) 0 R1;have U:wt R≤30000:=by
  have:L=L.take i++R:=by rw[←O.d,take_append_drop]
  rw[this] at hwt;exact le_trans lS hwt
 have hwtR1:wt R1≤30000:=by rw[k2] at U;exact le_trans lS U
 have hRl:=O.lt;have hLl:=O.l;unfold atV;refine kz 8 rfl (aA (sg rfl (aB rfl (fun hb=>absurd hb (by decide)) (fun _=>aD (sk 2 rfl (kc hty ?_))))));generalize c8 (3*R1.length+2) 0 R1=w at ad hte hok ⊢;cases w with
 | error e=>
  obtain⟨e,p⟩:=e;rw[n5] at hok;cases hok
 | ok y=>
 obtain⟨x,R2⟩:=y;obtain⟨hT,hTn⟩:=ad x R2 rfl;rw[n5] at hok;cases hok;rw[j5];unfold aQ9;unfold atV;dsimp only;generalize ((L.length-R'.length:Nat):Int)=m;refine kz 8 rfl (aA (sg rfl (aB rfl (fun hb=>absurd hb (by decide)) (fun _=>aD (sg rfl ?_)))));have hsv:aQ8 ps x=gP [] (ps++[(⟨[],x⟩:Prd)]):=by rw[y5];rfl
 rw[hsv];have B:∀p∈ps++[(⟨[],x⟩:Prd)],WF p.ty∧tn p.ty≤30000:=fun p hp=>by
  rcases Ay.1 hp with hp | hp
  ·exact⟨(k3 p hp).1,by have:=(k3 p hp).2;omega⟩
  ·rw[Ar.1 hp];exact⟨hT.w,by show tn x≤30000;omega⟩
 have hcl:=mN (ps.map aR) (by rw[χ];omega);have hkl:(ps.map aR).length=ps.length:=χ _;have J:ps.map aR++[[.str [],.int .i64 x.form,.int .i64 x.n,.str x.name,.sl 4 (dD x)]]=(ps++[(⟨[],x⟩:Prd)]).map aR:=by rw[Ai];rfl
 have ae:(ps++[(⟨[],x⟩:Prd)]).length=ps.length+1:=by rw[η];rfl
 generalize ps++[(⟨[],x⟩:Prd)]=g at B J ae ⊢;have hqe:(g.map aR).length=g.length:=χ _;refine aA (sk 1 rfl (kc hcl ?_));refine ak 6 [(4,.all),(5,.fz)] rfl (az (AWp.sub (Sub.own (t:=10) (id:=710) 9 1 rfl rfl) ?_));have A:∀r:List C,(ps.map aR).length+[r].length=g.length:=fun r=>by rw[hkl,ae];rfl
 refine aE (aL (fun k:Nat=>mk [(1,I .i64 m),(4,.one (.vp 4 0)),(6,.one (.vp 6 0)),(7,.one (.c (.sl 5 (ps.map aR)))),(9,.one (.vp 9 0)),(10,hs7 (gP [] (g.take k))),(44,.one (.hs 720 0 g.length g.length)),(45,I .i64 (g.length:Nat)),(46,I .i64 (k:Nat))] [(4,.var 33 aIt),(6,.var 38 [.c (.int .i64 0),.c (.int .i64 0)]),(9,.var 31 ((cF x).map .c)),(710,sv7 (gP [] (g.take k))),(720,.arr 195 5 (g.map aR) 2)]) (fun k=>k≤g.length) (fun k=>g.length-k) 0 (Ad _) (sl (he:=⟨rfl,rfl,rfl,rfl,rfl,rfl,Go.AM.hs_ren (A _) (A _),Go.AM.int_eq (congrArg Int.ofNat (A _)),rfl,trivial⟩) (hh:=⟨⟨_,rfl,.var rfl⟩,⟨_,rfl,.var rfl⟩,⟨_,rfl,.var rfl⟩,⟨_,rfl,.arrS rfl⟩,⟨_,rfl,.arrS J⟩,trivial⟩)) ?_);intro k hk;have hgl:(gP [] (g.take k)).length≤4002*30000:=by
  have h1:=vC (W:=30000) (g.take k) [] (fun p hp=>(B p (B9 hp)).2);rw[Aj,length_nil] at h1;have:min k g.length*30000≤4002*30000:=Av _ (by omega);omega
 refine sg rfl (aA (aB rfl (fun hb=>?_) (fun hb=>?_)))
 ·have af:k<g.length:=by have:=κ hb;omega
  obtain⟨p,hp⟩:=aM af;have hp':=bB aR hp;have hpm:=B p (Ag hp);have ah:=aBc p.ty (by have:=aSz p.ty;omega);have htf:=lU p.ty;have Y:=y4 hp;generalize gP [] (g.take k)=o at hgl Y ⊢;generalize tfR p.ty=l at ah htf Y ⊢;have ai:(l.map aX).length=l.length:=χ _;refine aD (aA (aE (sgh [(1,.row k (aR p))] rfl (sk 2 rfl (kc ah ?_)))));refine kz 2 rfl (aE (aL (fun j:Nat=>mk [(1,I .i64 m),(4,.one (.vp 4 0)),(6,.one (.vp 6 0)),(7,.one (.c (.sl 5 (ps.map aR)))),(9,.one (.vp 9 0)),(10,hs7 (eH o (l.take j))),(44,.one (.hs 720 0 g.length g.length)),(45,I .i64 (g.length:Nat)),(46,I .i64 (k:Nat)),(52,bJ l),(53,I .i64 ((l.map aX).length:Nat)),(54,I .i64 (j:Nat))] [(4,.var 33 aIt),(6,.var 38 [.c (.int .i64 0),.c (.int .i64 0)]),(9,.var 31 ((cF x).map .c)),(710,sv7 (eH o (l.take j))),(720,.arr 195 5 (g.map aR) 2)]) (fun j=>j≤l.length) (fun j=>l.length-j) 0 (Ad _) sl ?_));intro j hj;refine sg rfl (aA (aB rfl (fun hb=>?_) (fun hb=>?_)))
  ·have E:=ltD hb ai;obtain⟨s,hs⟩:=aM E;have hs':=bB aX hs;have u:eH o (l.take (j+1))=mV (eH o (l.take j)) s:=by rw[Bg,hs,oF];rfl
   have hml:(eH o (l.take j)).length≤1000000000:=by
    have:=iT (l.take j) o;rw[Aj] at this;omega
   have aj:=pU (eH o (l.take j)) s (by omega);generalize eH o (l.take j)=M at u hml aj ⊢;have hml':(M.map aX).length=M.length:=χ _;refine aD (aA (aE (sgh [(0,.row j (aX s))] rfl (sk 2 rfl (kc aj ?_)))));refine kz 1 rfl (aB rfl (fun hb=>?_) (fun hb=>?_))
   ·have hm:¬s∈M:=fun h=>by rw[φ h] at hb;cases hb
    unfold mV at u;rw[ξ hm] at u;refine ag [(2,.all)] rfl (ag [] rfl ⟨j+1,E,by dsimp only;omega,?_⟩);dsimp only;rw[u];exact sl
   ·have hm:s∈M:=by
     by_cases h:s∈M
     ·exact h
     ·rw[ψ h] at hb;cases hb
    unfold mV at u;rw[θ hm] at u;refine aD (ag [] rfl ⟨j+1,E,by dsimp only;omega,?_⟩);dsimp only;rw[u];exact sl
  ·have aa:=geD hb ai hj;subst aa;rw[Ao];refine aG (ag [] rfl ⟨k+1,af,by dsimp only;omega,?_⟩);dsimp only;rw[Y];exact sl
 ·have aa:k=g.length:=by have:=Ae hb;omega
  subst aa;rw[Ao];exact aG (sg rfl (aF iP))
theorem aKo (s:Str):aV Tryz.prog 148 [Go.AM.T s] [] (tyV (.mk 2 0 s [])) []:=by
 refine bF (n:=5) tok Tryz.func148 rfl rfl rfl ?_;exact sg rfl (sg rfl (aF (rtC trw)))
theorem yH {L:List Tk}{z:Z}(h:ZA L z) (hZ:nZ L) (hwt:wt L≤30000) {s:Sch}{R':List Tk}(hok:cH z.R=.ok (s,R')):aV Tryz.prog 145 [rP] [(600,rO L z)] (.ma (aQ9 s)) [(600,rO L ⟨R',z.e,z.p⟩),(710,sv7 s.vars)]:=by
 have g:=aC6 L hZ z.R _ h hwt hok;have hm:=bK 0 0;unfold atV aQ9 at g;unfold aQ9;refine bF (n:=35) tok Tryz.func145 rfl rfl rfl ?_;refine sg rfl (sk 10 rfl (kc g ?_));refine kz 9 rfl (sk 7 rfl (kc hm ?_));exact az (sg rfl (sg rfl (aF (rtC trw))))
def aCr (nm v:Tk) (sup:List Str) (ms:List Sg):List (Nat×AObj):=[(1,pR),(6,.var 118 [.c (.str nm.text),.c (.int .i64 nm.pl),.c (.str v.text),.c .nl,.c (.sl 1 (sup.map aX)),.hs 530 0 ms.length ms.length]),(530,.arr 121 9 (ms.map cT) 0)]
def clS (nm v:Tk) (s:List Sg) (z:Z):List Sg×Z:=(s++[(o6 nm.text v.text z).1],cI (s++[(o6 nm.text v.text z).1]).length 16 nm.pl (o6 nm.text v.text z).2)
theorem aT6 {L:List Tk}(hZ:nZ L) (hwt:wt L≤30000) (g v:Tk) (sup:List Str) (ms:List Sg) {z:Z}(h:ZA L z) (he:z.e=0) (h2:ms.length≤4001):
  bE Tryz.prog 144 ([]++[R.vp 1 0,R.c (.pt (aI v)),R.vp 6 0,R.c (.pt (aI g))].map V.one) ((600,rO L z)::aCr g v sup ms) (fU L (.tup []) (clS g v ms z).2 (aCr g v sup (clS g v ms z).1)):=by
 have hmk:(ms.map cT).length=ms.length:=χ _;unfold clS o6;dsimp only;have hw:=gN h he 1 (by decide);have g1:=h.word (k:=1) (by decide);generalize b5 1 z=w at hw g1 ⊢;obtain⟨B,z1⟩:=w;dsimp only at hw g1 ⊢;refine mB (n:=50) tok Tryz.func144 rfl rfl rfl rfl ?_;by_cases A:z1.e=0
 case neg=>
  have hp:=bE.err hw A;rw[bH A,rC A];dsimp only;rw[dV A,aJ A];exact sk 1 rfl (kp hp)
 have hw:=bE.ok hw A;refine sk 1 rfl (kc hw ?_);refine ak 2 [(2,.id 41)] rfl (az ?_);have E:=cU g1 A eP;have g2:=g1.need eP;generalize aQ eP z1=u at E g2 ⊢;by_cases q:u.e=0
 case neg=>
  have hp:=bE.err E q;rw[rC q];dsimp only;rw[dV q,aJ q];exact sk 1 rfl (kp hp)
 have E:=bE.ok E q;refine sk 1 rfl (kc E ?_);refine az ?_;have I:=kS g2 q hZ hwt;have O:= @yH L u g2 hZ hwt;have J:=fV g2 hwt;unfold bN at I J ⊢;rw[θ q] at I J;simp only[θ q];cases U:cH u.R with
 | error e=>
  obtain⟨e,p⟩:=e;rw[U] at I;have aa:=n3 U;dsimp only[aRr] at I ⊢;have hp:=bE.err (z:=⟨u.R,e,p⟩) I aa;rw[dV (show ¬(Z.mk u.R e p).e=0 from aa),aJ (show ¬(Z.mk u.R e p).e=0 from aa)];exact sk 1 rfl (kp hp)
 | ok y=>
 obtain⟨s,R'⟩:=y;rw[U] at J;have O:=O U;dsimp only[aRr] at J ⊢;obtain⟨k1,k2,_,_⟩:=J;unfold aQ9 sv7 at O;have hde:=aHc s.vars (by have:=k2.v;omega) v;unfold svA at hde;have htv:aV Tryz.prog 148 [Go.AM.T v.text] [] (.pa [.int .i64 2,.int .i64 0,.str v.text,.sl 4 []]) []:=aKo v.text;have hq1:((dl v.text s.vars).map aX).length=(dl v.text s.vars).length:=χ _;have hq2:=aV8 v.text s.vars;have hq3:=k2.v;have hq4:(s.preds.map aR).length=s.preds.length:=χ _;have hq5:=k2.l;refine sk 1 rfl (kc O ?_);refine ak 2 [(2,.id 42)] rfl (az (skh 6 [(2,.id 540)] rfl (kc hde ?_)));refine kz 3 rfl (sk 4 rfl (kc htv ?_));refine ak 7 [(6,.id 541)] rfl (az (AWp.sub (Sub.freeze (id:=540) rfl) ?_));refine AWp.sub (Sub.freeze (id:=541) rfl) ?_;have hv1:[[C.str v.text]]++(dl v.text s.vars).map aX=(qD g.text v.text s).vars.map aX:=rfl;have hv2:[[C.str g.text,.int .i64 2,.int .i64 0,.str v.text,.sl 4 []]]++s.preds.map aR=(qD g.text v.text s).preds.map aR:=rfl;refine AWp.sub (vp 42 (mD (qD g.text v.text s)) (hp:=.hs rfl (by rw[η]) (hv1.symm.trans (Go.AM.take_all (by rw[η]))) (.c .nl (.hs rfl (by rw[η]) (hv2.symm.trans (Go.AM.take_all (by rw[η]))) (.c .refl (.c .refl (.c .refl (.c .refl .nil)))))))) ?_;have Y:ms.map cT++[cT ⟨B.text,B.pl,qD g.text v.text s⟩]=(ms++[(⟨B.text,B.pl,qD g.text v.text s⟩:Sg)]).map cT:=by rw[Ai];rfl
 have hle:(ms++[(⟨B.text,B.pl,qD g.text v.text s⟩:Sg)]).length=ms.length+1:=by rw[η];rfl
 refine sgh [(8,.all)] rfl ?_;generalize ms++[(⟨B.text,B.pl,qD g.text v.text s⟩:Sg)]=M at Y hle ⊢;refine AWp.sub (st2:=mk [(0,.one (.vp 1 0)),(1,.one (.c (.pt (aI v)))),(2,.one (.vp 6 0)),(3,.one (.c (.pt (aI g))))] ((600,rO L ⟨R',u.e,u.p⟩)::aCr g v sup M)) (sl (hh:=⟨⟨_,rfl,.var rfl⟩,⟨_,rfl,.var rfl⟩,⟨_,rfl,.var (by rw[hle,←hmk];rfl)⟩,⟨_,rfl,.arrS Y⟩,trivial⟩)) ?_;by_cases hM:M.length≤16
 case neg=>
  have d:decide (((M.length:Nat):Int)≤16)=false:=ψ (by omega);have hm:=bL 2 g.pl;rw[fJ hM (show(Z.mk R' u.e u.p).e=0 from q),aJ cG];refine aC mixed (ak 6 [] rfl ?_);rw[d];exact kp hm
 have d:decide (((M.length:Nat):Int)≤16)=true:=φ (by omega);have hm:=bK 2 g.pl;rw[fI hM,b9 (show(Z.mk R' u.e u.p).e=0 from q)];refine aC mixed (ak 6 [] rfl ?_);rw[d];refine kc hm ?_;exact az rtN
theorem sB (g v:Tk):∀(f n:Nat) (out:List Sg) (z:Z),jC g.text v.text g.pl f n out z=lpZ bA (clS g v) f n out z
 | 0,_,_,_=>rfl
 | f+1,n,out,z=>by
  rw[jC,lpZ];split
  ·exact sB g v f _ _ _
  ·rfl
theorem rB {v:Str}{a:Int}{l:List Prd}{out:List Str}{z:Z}(h:¬z.e=0):(dG v a l out z).2=z:=by
 cases l with
 | nil=>rfl
 | cons p l=>rw[dG,ξ h]
theorem lR {y:List Prd×Tk×Tk×Z}(h:¬y.2.2.2.e=0):aQ bA (vU y (nU y)).2=y.2.2.2:=by
 have h1:(nU y).2=y.2.2.2:=by unfold nU;dsimp only;rw[rB h];exact bH h
 unfold vU;rw[sB,fQ (by rw[h1];exact h),h1];exact bH h
theorem aPv (E v:Tk) (sup:List Str) {step:(List Sg)→Z→(List Sg)×Z}{Inv:Nat→(List Sg)→Prop}{L:List Tk}{N:Nat}
  (hone:∀n s z,Inv n s→n<60→ZA L z→z.e=0→z.R.length≤N→bE Tryz.prog 144 ([]++[R.vp 1 0,R.c (.pt (aI v)),R.vp 6 0,R.c (.pt (aI E))].map V.one) ((600,rO L z)::aCr E v sup s) (fU L (.tup []) (step s z).2 (aCr E v sup (step s z).1)))
  (hst:∀n s z,Inv n s→n<60→ZA L z→z.e=0→ZA L (step s z).2∧Inv (n+1) (step s z).1∧((step s z).2.e=0→(step s z).2.R.length<z.R.length)∧Ze z (step s z).2)
  {z:Z} (h:ZA L z) (he:z.e=0) (hN:z.R.length≤N) {s:(List Sg)} (hI:Inv 0 s):
  bE Tryz.prog 90 [rP,.one (.clo 189 [R.vp 2 0]),.one (.clo 144 [R.vp 1 0,R.c (.pt (aI v)),R.vp 6 0,R.c (.pt (aI E))])] ((600,rO L z)::(2,pR)::aCr E v sup s) (fU L (.tup []) (lpZ bA step (z.R.length+1) 0 s z).2 ((2,pR)::aCr E v sup (lpZ bA step (z.R.length+1) 0 s z).1)):=by
 have u:∃W,W=lpZ bA step (z.R.length+1) 0 s z:=⟨_,rfl⟩
 obtain⟨W,u⟩:=u;rw[←u];refine mB (n:=35) tok Tryz.func90 rfl rfl rfl rfl ?_;refine sg rfl (aE (aL (fun q:Nat×(List Sg)×Z×Nat=>mk [(0,rP),(1,.one (.clo 189 [R.vp 2 0])),(2,.one (.clo 144 [R.vp 1 0,R.c (.pt (aI v)),R.vp 6 0,R.c (.pt (aI E))])),(6,I .i64 (q.1:Nat))] ((600,rO L q.2.2.1)::(2,pR)::aCr E v sup q.2.1)) (fun q=>Inv q.1 q.2.1∧q.1≤60∧ZA L q.2.2.1∧q.2.2.1.e=0∧q.2.2.1.R.length≤N∧q.2.2.1.R.length<q.2.2.2∧moreA bA q.1 q.2.2.1=q.2.2.1∧W=lpZ bA step q.2.2.2 q.1 q.2.1 q.2.2.1) (fun q=>q.2.2.1.R.length) (0,s,z,z.R.length+1) ⟨hI,Ad _,h,he,hN,B5 _,pC _ _,u⟩ sl ?_));clear u h he hN hI;rintro⟨n,s,z,f⟩ ⟨hI,hn,h,he,hN,hf,hA,u⟩;dsimp only at hI hn h he hN hf hA u;refine aE (aA (aE (aL (fun y:Z=>mk [(0,rP),(1,.one (.clo 189 [R.vp 2 0])),(2,.one (.clo 144 [R.vp 1 0,R.c (.pt (aI v)),R.vp 6 0,R.c (.pt (aI E))])),(6,I .i64 (n:Nat))] ((600,rO L y)::(2,pR)::aCr E v sup s)) (fun y=>ZA L y∧y.e=0∧cL z=cL y∧y.R.length≤z.R.length) (fun y=>y.R.length) z ⟨h,he,rfl,le_refl _⟩ sl ?_)));rintro y ⟨h2,B,e2,hle2⟩

 have hm:=eS h2 B cC;obtain⟨m1,m2,m3⟩:=kP h2;have U:=h2.may cC;have he3:=(gV cC y).trans B;generalize bP cC y=m at hm m1 m2 m3 U he3;obtain⟨b,z3⟩:=m;dsimp only at m1 m2 m3 U he3;refine aA (sk 1 rfl (kc hm ?_));refine az (aB rfl (fun hb=>?_) (fun hb=>?_))
 ·have hb:b=true:=hb;have:=m3 hb;exact aD (aE (aD ⟨z3,⟨U,he3,e2.trans m1.symm,by omega⟩,m3 hb,sl⟩))
 have hb:b=false:=hb;obtain⟨g1,g2⟩:=m2 hb;subst g1;have e3:cL z=z3:=e2.trans g2;clear m1 m2 m3 U e2 hm;have hf0:∃g,f=g+1:=⟨f-1,by omega⟩
 obtain⟨f,rfl⟩:=hf0;rw[lpZ] at u;unfold bI at u;rw[hA,e3] at u;have hs3:=nW h2;have hn3:=dS h2;refine aG (aA (sk 1 rfl (kv (args:=[]) hs3 ?_)));refine az (aB rfl (fun hb=>?_) (fun hb=>?_))
 ·have hb:dH bA z3=true:=hb;rw[θ (show ¬z3.e=0∨dH bA z3=true from .inr hb)] at u;rw[ξ ω] at u;rw[u,b9 B];exact aF rtN
 have hb:dH bA z3=false:=hb;have hnb:¬(¬z3.e=0∨dH bA z3=true):=fun k=>k.elim (fun k=>k B) fun k=>by rw[hb] at k;cases k
 rw[ξ hnb] at u;refine aD ?_;by_cases hn60:n<60
 case neg=>
  have d:decide (((n:Nat):Int)<60)=false:=ψ (by omega);rw[fJ (by omega) B] at u;dsimp only at u;rw[ψ cG,ξ ω] at u;rw[u,aJ cG];have hmn:=bL 2 (b4 z3).pl;refine sk 5 rfl (kc hn3 ?_);refine ak 1 [] rfl ?_;rw[d];exact kp hmn
 have d:decide (((n:Nat):Int)<60)=true:=φ (by omega);rw[fI (by omega),φ B,θ rfl] at u;have hmo:=bK 2 (b4 z3).pl;refine sk 5 rfl (kc hn3 ?_);refine ak 1 [] rfl ?_;rw[d];refine kc hmo ?_;refine az ?_;have ho:=hone n s z3 hI hn60 h2 B (by omega);obtain⟨J,k2,k3,_⟩:=hst n s z3 hI hn60 h2 B;generalize step s z3=y at ho J k2 k3 u;obtain⟨s4,z4⟩:=y;dsimp only at ho J k2 k3 u;by_cases A:z4.e=0
 case neg=>
  have hp:=bE.err ho A;rw[fQ A] at u;rw[u,aJ A];exact sk 1 rfl (kpv (args:=[]) hp)
 have ho:=bE.ok ho A;have k3:=k3 A;refine sk 1 rfl (kv (args:=[]) ho ?_);refine az (aA (agN [] rfl ?_));have hlp:=J.lp;have M:=lC J cC;have hn4:=dS J;have Y:=nW J;have hmo4:=bK 12 (b4 z4).pl;cases aa:isZ cC z4 with
 | true=>
  rw[aa] at M;have O:moreA bA (n+1) z4=z4:=ξ fun k=>by rw[aa] at k;cases k.2.2.1
  refine aC mixed (ak 1 [] rfl (kc M ?_));refine ak 7 [(2,.bv true),(5,.bv true)] rfl (kc hn4 ?_);refine ak 1 [(2,.bv true),(5,.bv true)] rfl (kc hmo4 ?_);exact az ⟨(n+1,s4,z4,f),⟨k2,by omega,J,A,by dsimp only;omega,by dsimp only;omega,O,u⟩,by dsimp only;omega,sl⟩
 | false=>
  rw[aa] at M;cases ab:dH bA z4 with
  | true=>
   rw[ab] at Y;have O:moreA bA (n+1) z4=z4:=ξ fun k=>by rw[ab] at k;cases k.2.2.2
   refine aC mixed (ak 1 [] rfl (kc M ?_));refine ak 2 [(2,.bv false)] rfl (kvG (args:=[]) Y ?_);refine ak 4 [(2,.bv false),(5,.bv false)] rfl (kc hn4 ?_);refine ak 1 [(2,.bv false),(5,.bv false)] rfl (kc hmo4 ?_);exact az ⟨(n+1,s4,z4,f),⟨k2,by omega,J,A,by dsimp only;omega,by dsimp only;omega,O,u⟩,by dsimp only;omega,sl⟩
  | false=>
   rw[ab] at Y;have hmn4:=bL 12 (b4 z4).pl;have O:moreA bA (n+1) z4=⟨z4.R,12,(b4 z4).pl⟩:=(θ ⟨succ_pos n,A,aa,ab⟩).trans (θ A);have h12:¬(12:Int)=0:=by decide
   have hWb:W.2=⟨z4.R,12,(b4 z4).pl⟩:=by
    obtain⟨f,rfl⟩:∃g,f=g+1:=⟨f-1,by omega⟩
    rw[lpZ] at u;unfold bI at u;rw[O,kU h12,θ (show ¬(Z.mk z4.R 12 (b4 z4).pl).e=0∨_ from .inl h12),ξ ω] at u;rw[u]
   rw[hWb,aJ h12];refine aC mixed (ak 1 [] rfl (kc M ?_));refine ak 2 [(2,.bv false)] rfl (kvG (args:=[]) Y ?_);refine ak 4 [(2,.bv false),(5,.bv false)] rfl (kc hn4 ?_);refine ak 1 [(2,.bv false),(5,.bv false)] rfl (kpD (.tup []) [] hmn4 ?_);exact az trivial
theorem aK6 (A v:Tk) (sup:List Str) {step:(List Sg)→Z→(List Sg)×Z}{Inv:Nat→(List Sg)→Prop}{L:List Tk}{N:Nat}
  (J:∀n s z,Inv n s→n<60→ZA L z→z.e=0→z.R.length≤N→bE Tryz.prog 144 ([]++[R.vp 1 0,R.c (.pt (aI v)),R.vp 6 0,R.c (.pt (aI A))].map V.one) ((600,rO L z)::aCr A v sup s) (fU L (.tup []) (step s z).2 (aCr A v sup (step s z).1)))
  (I:∀n s z,Inv n s→n<60→ZA L z→z.e=0→ZA L (step s z).2∧Inv (n+1) (step s z).1∧((step s z).2.e=0→(step s z).2.R.length<z.R.length)∧Ze z (step s z).2)
  {z:Z} (h:ZA L z) (he:z.e=0) (hN:z.R.length≤N) {s:(List Sg)} (M:Inv 0 s):
  bE Tryz.prog 143 [rP,.one (.clo 144 [R.vp 1 0,R.c (.pt (aI v)),R.vp 6 0,R.c (.pt (aI A))])] ((600,rO L z)::aCr A v sup s) (fU L (.tup []) (tU step s z).2 (aCr A v sup (tU step s z).1)):=by
 have g:=cU h he dQ;have h1:=h.need dQ;have O:=Ze.need dQ z;unfold tU;generalize aQ dQ z=E at g h1 O ⊢;have Y:E.R.length≤z.R.length:=O;refine mB (n:=12) tok Tryz.func143 rfl rfl rfl rfl ?_;refine sg rfl ?_;by_cases q:E.e=0
 case neg=>
  have hp:=bE.err g q;rw[fQ q];dsimp only;rw[bH q,aJ q];exact sk 1 rfl (kp hp)
 have g:=bE.ok g q;refine sk 1 rfl (kc g ?_);refine az ?_;have u:=aPv A v sup (step:=step) (Inv:=Inv) (L:=L) (N:=N) J I h1 q (by omega) M;have hok:=(sD (sh:=bA) I (E.R.length+1) 0 s E (Ad _) M h1).1
 generalize lpZ bA step (E.R.length+1) 0 s E=W at u hok ⊢;obtain⟨s2,U⟩:=W;dsimp only at u hok ⊢;by_cases y:U.e=0
 case neg=>
  have hp:=bE.err u y;rw[bH y,aJ y];exact sk 3 rfl (kp hp)
 have u:=bE.ok u y;refine sk 3 rfl (kc u ?_);refine az ?_;have g:=cU hok y bA;generalize aQ bA U=z3 at g ⊢;by_cases B:z3.e=0
 case neg=>
  have hp:=bE.err g B;rw[aJ B];exact aC mixed (ak 1 [] rfl (kp hp))
 have g:=bE.ok g B;rw[b9 B];refine aC mixed (ak 1 [] rfl (kc g ?_));exact az rtN
def aXb (L:List Tk) (z:Z) (nm v:Tk) (sup:List Str):List (Nat×AObj):=[(600,rO L z),(1,pR),(2,.var 118 [.c (.str []),.c (.int .i64 0),.c (.str []),.c .nl,.c .nl,.c .nl]),(4,.var 167 ((aI nm).map .c)),(5,.var 167 ((aI v).map .c)),(6,.var 118 [.c (.str nm.text),.c (.int .i64 nm.pl),.c (.str v.text),.c .nl,.hs 531 0 sup.length sup.length,.c .nl]),(531,svA (sup.map aX) 0)]
theorem aK4 {L:List Tk}(hZ:nZ L) (hwt:wt L≤30000) {z:Z}(h:ZA L z) (he:z.e=0):bE Tryz.prog 95 [rP] [(600,rO L z)] (fU L (.pa (qG (iD z).1)) (iD z).2 []):=by
 unfold iD;have hA:iF z=((bT z).1,(b5 2 (bT z).2).1,(b5 1 (b5 2 (bT z).2).2).1,(b5 1 (b5 2 (bT z).2).2).2):=rfl;rw[hA];have hp:=wB h he hZ;obtain⟨h1,ab,l1⟩:=m7 h hwt;generalize bT z=y at hp h1 ab l1 ⊢;obtain⟨ps,z1⟩:=y;dsimp only at hp h1 ab l1 ⊢;refine mB (n:=55) tok Tryz.func95 rfl rfl rfl rfl ?_;refine sg rfl ?_;by_cases B:z1.e=0
 case neg=>
  have hp:=bE.err hp B;have M:(b5 1 (b5 2 z1).2).2=z1:=by rw[kT B];exact kT B
  rw[lR (by dsimp only;rw[M];exact B)];dsimp only;rw[M,aJ B];exact sk 1 rfl (kp hp)
 have hp:=bE.ok hp B;refine sk 1 rfl (kc hp ?_);refine kz 1 rfl ?_;have hw:=gN h1 B 2 (by decide);have h2:=h1.word (k:=2) (by decide);generalize b5 2 z1=y at hw h2 ⊢;obtain⟨g,z2⟩:=y;dsimp only at hw h2 ⊢;by_cases J:z2.e=0
 case neg=>
  have hp:=bE.err hw J;have M:(b5 1 z2).2=z2:=kT J;rw[lR (by dsimp only;rw[M];exact J)];dsimp only;rw[M,aJ J];exact sk 1 rfl (kp hp)
 have hw:=bE.ok hw J;refine sk 1 rfl (kc hw ?_);refine kz 2 rfl ?_;have hw:=gN h2 J 1 (by decide);have h3:=h2.word (k:=1) (by decide);generalize b5 1 z2=y at hw h3 ⊢;obtain⟨v,z3⟩:=y;dsimp only at hw h3 ⊢;by_cases E:z3.e=0
 case neg=>
  have hp:=bE.err hw E;rw[lR (by exact E)];dsimp only;rw[aJ E];exact sk 1 rfl (kp hp)
 have hw:=bE.ok hw E;refine sk 1 rfl (kc hw ?_);refine kz 2 rfl (sg rfl ?_);have hpk:(ps.map aR).length=ps.length:=χ _;have u:∃F,F=dG v.text g.pl ps [] z3:=⟨_,rfl⟩
 obtain⟨F,u⟩:=u;have hB:nU (ps,g,v,z3)=(F.1,aQ dQ F.2):=by rw[u];rfl
 rw[hB];have hC:∀w:List Str×Z,vU (ps,g,v,z3) w=lpZ bA (clS g v) (w.2.R.length+1) 0 [] w.2:=fun w=>sB g v _ _ _ _
 rw[hC];dsimp only;refine aA (sg rfl (AWp.sub (Sub.ownCell (x:=6) (k:=4) (id:=531) 9 1 rfl rfl rfl) ?_));refine aE (aL (fun q:Nat×List Str=>mk [(1,.one (.vp 1 0)),(2,.one (.vp 2 0)),(4,.one (.vp 4 0)),(5,.one (.vp 5 0)),(6,.one (.vp 6 0)),(22,.one (.c (.sl 5 (ps.map aR)))),(23,I .i64 ((ps.map aR).length:Nat)),(24,I .i64 (q.1:Nat))] (aXb L z3 g v q.2)) (fun q=>q.1≤ps.length∧q.2.length=q.1∧F=dG v.text g.pl (ps.drop q.1) q.2 z3) (fun q=>ps.length-q.1) (0,[]) ⟨Ad _,rfl,u⟩ sl ?_);clear u hB hC hw hp hA;rintro⟨i,sup⟩ ⟨hi,hsl,u⟩;dsimp only at hi hsl u ⊢;have ac:(sup.map aX).length=sup.length:=χ _;refine sg rfl (aA (aB rfl (fun hb=>?_) (fun hb=>?_)))
 ·have hlt:=ltD hb hpk;obtain⟨p,hpi⟩:=aM hlt;have hpi':=bB aR hpi;have hds:ps.drop i=p::ps.drop (i+1):=by
   obtain⟨k1,k2⟩:=Af.1 hpi;rw[←k2];exact A7 k1
  rw[hds,dG,θ E] at u;refine aD (aA (aE (sgh [(0,.row i (aR p))] rfl ?_)));have ad:¬(p.ty.form=2∧p.ty.name=v.text)→aQ bA (lpZ bA (clS g v) ((aQ dQ F.2).R.length+1) 0 [] (aQ dQ F.2)).2=⟨z3.R,12,g.pl⟩:=fun hn=>by
   have h12:¬(12:Int)=0:=by decide
   have M:F.2=⟨z3.R,12,g.pl⟩:=by
    rw[ξ hn] at u;unfold bR at u;rw[θ E] at u;rw[u,rB h12]
   have O:¬(Z.mk z3.R 12 g.pl).e=0:=h12;rw[M,bH O,fQ O];exact bH O
  have hmn:=bL 12 g.pl;by_cases U:p.ty.form=2
  case neg=>
   have d:decide (p.ty.form=2)=false:=ψ U;rw[ad (fun k=>U k.1),aJ (show ¬(12:Int)=0 by decide)];exact skh 14 [(4,.bv false),(11,.bv false)] rfl (kp hmn)
  have d:decide (p.ty.form=2)=true:=φ U;by_cases Y:p.ty.name=v.text
  case neg=>
   have d2:decide (p.ty.name=v.text)=false:=ψ Y;rw[ad (fun k=>Y k.2),aJ (show ¬(12:Int)=0 by decide)];refine skh 14 [(4,.bv true),(11,.bv true)] rfl ?_;rw[d2];exact kp hmn
  have d2:decide (p.ty.name=v.text)=true:=φ Y;have hmo:=bK 12 g.pl;rw[θ ⟨U,Y⟩] at u;refine skh 14 [(4,.bv true),(11,.bv true)] rfl ?_;rw[d2];refine kc hmo ?_;refine az ?_;have hrows:sup.map aX++[[.str p.cls]]=(sup++[p.cls]).map aX:=by rw[Ai];rfl
  have hle:(sup++[p.cls]).length=sup.length+1:=by rw[η];rfl
  have hpl1:=ab.1;exact ag [(4,.all)] rfl (agN [] rfl ⟨(i+1,sup++[p.cls]),⟨hlt,by dsimp only;rw[hle,hsl],u⟩,by dsimp only;omega,sl (hh:=⟨⟨_,rfl,.var rfl⟩,⟨_,rfl,.var rfl⟩,⟨_,rfl,.var rfl⟩,⟨_,rfl,.var rfl⟩,⟨_,rfl,.var rfl⟩,⟨_,rfl,.var (by rw[hle,←ac];rfl)⟩,⟨_,rfl,.arrS hrows⟩,trivial⟩)⟩)
 have hge:=geD hb hpk hi;rw[hge,Ct,dG] at u;subst u;dsimp only;refine aG (AWp.sub (Sub.freeze (id:=531) rfl) ?_);refine AWp.sub (vp 6 [.str g.text,.int .i64 g.pl,.str v.text,.nl,.sl 1 (sup.map aX),.nl] (hp:=.c .refl (.c .refl (.c .refl (.c .refl (.hs rfl ac.symm (Go.AM.take_all ac.symm) (.c .refl .nil))))))) ?_;refine AWp.sub (Sub.ownCell (x:=6) (k:=5) (id:=530) 121 9 rfl rfl rfl) ?_;refine AWp.sub (Sub.fvar (id:=4) (l:=aI g) rfl (by simp[keys])) ?_;refine AWp.sub (Sub.fvar (id:=5) (l:=aI v) rfl (by simp[keys])) ?_;have hst:∀(n:Nat) (s:List Sg) (z:Z),s.length=n→n<60→ZA L z→z.e=0→ZA L (clS g v s z).2∧(clS g v s z).1.length=n+1∧((clS g v s z).2.e=0→(clS g v s z).2.R.length<z.R.length)∧Ze z (clS g v s z).2:=fun n s z hI hn h he=>by
  have k1:=(h.word (k:=1) (by decide)).need eP;obtain⟨g1,_,g3,g4⟩:=fV k1 hwt;have l1:(b5 1 z).2.R.length≤z.R.length:=Ze.word 1 z;have l2:(aQ eP (b5 1 z).2).R.length≤(b5 1 z).2.R.length:=Ze.need _ _;have g4':(bN (aQ eP (b5 1 z).2)).2.R.length≤(aQ eP (b5 1 z).2).R.length:=g4;unfold clS o6;dsimp only;refine⟨g1.long _ _ _,by rw[η,hI];rfl,fun h0=>?_,(((Ze.word 1 z).trans (Ze.need _ _)).trans g4).trans (Ze.long _ _ _ _)⟩;by_cases hs:(bN (aQ eP (b5 1 z).2)).2.e=0
  ·have:=g3 hs;have l3:=Ze.long (s++[(⟨(b5 1 z).1.text,(b5 1 z).1.pl,qD g.text v.text (bN (aQ eP (b5 1 z).2)).1⟩:Sg)]).length 16 g.pl (bN (aQ eP (b5 1 z).2)).2;unfold Ze at l3;omega
  ·rw[dV hs] at h0;exact absurd h0 hs
 have hI0:([]:List Sg).length=0:=rfl;have A:=aK6 g v sup (step:=clS g v) (Inv:=fun n s=>s.length=n) (L:=L) (N:=z3.R.length) (fun n s z hI hn h he hN=>aT6 hZ hwt g v sup s h he (by omega)) hst h3 E (le_refl _) (s:=[]) hI0;unfold tU at A;dsimp only at A;generalize aQ dQ z3=z7 at A ⊢;generalize lpZ bA (clS g v) (z7.R.length+1) 0 [] z7=W at A ⊢;obtain⟨ms,zB⟩:=W;dsimp only at A ⊢;have hmk:(ms.map cT).length=ms.length:=χ _;generalize aQ bA zB=z8 at A ⊢;by_cases aa:z8.e=0
 case neg=>
  have hp:=bE.err A aa;rw[aJ aa];exact sk 2 rfl (kp hp)
 have A:=bE.ok A aa;rw[b9 aa];refine sk 2 rfl (kc A ?_);refine az (AWp.sub (Sub.freeze (id:=530) rfl) ?_);exact sg rfl (aF (rtC trw (hc:=.agg (.c .refl (.c .refl (.c .refl (.c .nl (.c .refl (.hs rfl hmk.symm (Go.AM.take_all hmk.symm) .nil)))))))))
theorem qI (s:Str) (g:aV Tryz.prog 86 [Go.AM.T s] [] (aDs (nA s)) []):aV Tryz.prog 31 [Go.AM.T s] [] (.tup [.pa (mF (i6 s).1),atV (i6 s).2.1 (if(i6 s).2.1=0 then 0 else(i6 s).2.2)]) []:=by
 obtain⟨u,hwt,hZ,q⟩:=kF s;exact aC7 aUg s g fun z h he _=>aK4 hZ hwt h he
def Kq (z z':Z):Prop:=z'.e=0→z.e=0∧z'.p=z.p
theorem Kq.refl (z:Z):Kq z z:=fun h=>⟨h,rfl⟩
theorem Kq.trans {a b c:Z}(h:Kq a b) (k:Kq b c):Kq a c:=fun e=>by
 obtain⟨g,q⟩:=k e;obtain⟨u,y⟩:=h g;exact⟨u,q.trans y⟩
theorem Kq.fail {e p:Int}(he:¬e=0) (z:Z):Kq z (bR e p z):=fun h=>(cS he h).elim
theorem Kq.may (s:Str) (z:Z):Kq z (bP s z).2:=by
 unfold Kq bP;split
 ·exact fun h=>⟨h,rfl⟩
 ·exact fun h=>⟨h,rfl⟩
theorem Kq.need (s:Str) (z:Z):Kq z (aQ s z):=by
 unfold aQ;split
 ·exact Kq.may s z
 ·exact Kq.fail (by decide) z
theorem Kq.word (k:Int) (z:Z):Kq z (b5 k z).2:=by
 unfold b5;split
 ·exact fun h=>⟨h,rfl⟩
 ·exact Kq.fail (by decide) z
theorem Kq.words (z:Z):Kq z (aZ z).2:=by
 unfold aZ;split
 ·exact fun h=>⟨h,rfl⟩
 ·exact Kq.refl z
theorem Kq.long (n m:Nat) (a:Int) (z:Z):Kq z (cI n m a z):=by
 unfold cI;split
 ·exact Kq.fail (by decide) z
 ·exact Kq.refl z
theorem Kq.semi (z:Z):Kq z (cL z):=by
 unfold cL;split
 ·exact fun h=>⟨h,rfl⟩
 ·exact Kq.refl z
theorem Kq.mA (s:Str) (n:Nat) (z:Z):Kq z (moreA s n z):=by
 unfold moreA;split
 ·exact Kq.fail (by decide) z
 ·exact Kq.refl z
theorem Kq.more (s:Str) (n:Nat) (z:Z):Kq z (bI s n z).2:=by
 unfold bI;split
 ·exact(Kq.mA s n z).trans (Kq.semi _)
 ·exact((Kq.mA s n z).trans (Kq.semi _)).trans (Kq.long _ _ _ _)
theorem Kq.scheme (z:Z):Kq z (bN z).2:=by
 unfold bN;split
 ·cases h:cH z.R with
  | error e=>obtain⟨e,p⟩:=e;exact fun h0=>absurd h0 (n3 h)
  | ok y=>exact fun h=>⟨h,rfl⟩
 ·exact Kq.refl z
theorem Kq.preds (z:Z):Kq z (bT z).2:=by
 unfold bT;split
 ·cases h:cQ z.R with
  | error e=>obtain⟨e,p⟩:=e;exact fun h0=>absurd h0 (iB h)
  | ok y=>exact fun h=>⟨h,rfl⟩
 ·exact Kq.refl z
theorem Kq.atom (z:Z):Kq z (gR z).2:=by
 unfold gR;cases h:cM (3*z.R.length) 0 z.R with
 | error e=>obtain⟨e,p⟩:=e;exact fun h0=>absurd h0 (eM _ 0 z.R e p h)
 | ok y=>exact fun h=>⟨h,rfl⟩
theorem Kq.fields:∀(f:Nat) (out:List Ty) (z:Z),Kq z (cN f out z).2
 | 0,_,z=>Kq.refl z
 | f+1,out,z=>by
  rw[cN];split
  ·exact(Kq.atom z).trans (Kq.fields f _ _)
  ·exact Kq.refl z
theorem Kq.con (z:Z):Kq z (sY z).2:=((Kq.word 2 z).trans (Kq.fields _ _ _)).trans (Kq.long _ _ _ _)
theorem Kq.cons:∀(f:Nat) (a:Int) (out:List Cn) (z:Z),Kq z (mH f a out z).2
 | 0,_,_,z=>Kq.refl z
 | f+1,a,out,z=>by
  rw[mH];split
  ·exact(((Kq.con z).trans (Kq.long _ _ _ _)).trans (Kq.may _ _)).trans (Kq.cons f a _ _)
  ·exact((Kq.con z).trans (Kq.long _ _ _ _)).trans (Kq.may _ _)
theorem Kq.data (z:Z):Kq z (oA z).2:=by
 have h1:Kq z (lM z).2.2:=(((Kq.word 2 z).trans (Kq.words _)).trans (Kq.long _ _ _ _)).trans (Kq.need _ _);unfold oA lN;dsimp only;split
 ·exact h1.trans (Kq.cons _ _ _ _)
 ·exact h1
end Go.Proofs.YtkhgpgihmphfdaaGreat
