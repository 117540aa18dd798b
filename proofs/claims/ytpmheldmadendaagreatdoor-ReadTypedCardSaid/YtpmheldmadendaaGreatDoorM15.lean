/-
  Texts Am54 to Rd73 in one.
-/
import Derived.Test.YtpmheldmadendaaGreatDoorM14
import Derived.RecoverIn
import Derived.WideLaws
open List (all_eq_true append_assoc append_nil cons_append drop_append_of_le_length drop_drop drop_eq_getElem_cons drop_length drop_take drop_zero filter_append filter_cons filter_eq_self flatten_append flatten_cons length_append length_cons length_drop length_filter_le length_map length_nil length_replicate length_set length_take map_append map_cons map_nil map_set map_toArray mem_append mem_cons mem_cons_of_mem mem_cons_self mem_of_mem_take mem_singleton nil_append not_mem_nil range'_succ range_eq_range' replicate_succ take_add_one take_append_drop take_left' take_length take_of_length_le take_succ_cons take_take)
open Nat (add_zero eq_of_beq_eq_true le_refl le_trans lt_succ_self mul_le_mul_right mul_one sub_self sub_zero succ_pos zero_add zero_le zero_mul)
namespace Go.AM
open Go
def aA3 (P:Program) (o:Oper):Prop:=∀ρ w x w',(execOp ρ o).run P w=.ok x w'→(∃v,x=.value v)∨x=.skip
section
variable {P:Program}{w:World}
theorem aYp {s:Sem Value}{x:Next}{w':World}(h:(do pure (Next.value (←s)):Sem Next).run P w=.ok x w'):∃v,x=.value v:=by
 simp only[Ab] at h;cases hs:s.run P w with
 | ok v q=>
  rw[hs] at h;simp only[δ,Ac] at h;cases h;exact⟨v,rfl⟩
 | halt y q=>rw[hs] at h;simp[Result.andThen] at h
theorem aYq {s:Sem Unit}{x:Next}{w':World}(h:(do s;pure Next.skip:Sem Next).run P w=.ok x w'):x=.skip:=by
 simp only[Ab] at h;cases hs:s.run P w with
 | ok v q=>
  rw[hs] at h;simp only[δ,Ac] at h;cases h;rfl
 | halt y q=>rw[hs] at h;simp[Result.andThen] at h
end
def isVal:Op→Bool
 | .move _ | .assign _ | .alloc _ | .load .. | .store .. | .fieldAddr .. | .extract ..=>true
 | _=>false
theorem aMr {P:Program}{o:Oper}(h:isVal o.op=true):aA3 P o:=by
 intro ρ w x w' q;cases ho:o.op<;>rw[ho] at h<;>first | cases h | skip
 all_goals simp only[execOp,ho] at q
 all_goals first | exact .inl (aYp q) | exact .inr (aYq q) | (simp only[Ac] at q;cases q;exact .inl ⟨_,rfl⟩) | skip
section
variable {m:Nat}{P:Program}{ops:Array Oper}{Q:Exit→Act→List Frame→World→Prop}{i:Nat}{rest:List Nat}{a:Act}{cs cs':List Frame}{w w':World}{o:Oper}
theorem aGp (ho:ops[i]?=some o) (q:o.guard=none) (r:(execOp a.eval o).run P w=.ok .recover w) (hc:recoverD cs=none) (h:wpOpsSIn (Wd none) m P ops Q rest (a.put o.dst .nilIface) cs w):wpOpsSIn (Wd none) m P ops Q (i::rest) a cs w:=by
 unfold wpOpsSIn;simp only[ho];refine⟨fun _ _=>trivial,?_⟩;rw[ζ (by simp[Region.wanted,q]),r];dsimp only;rw[hc];exact h
theorem aD4 {v:Value}(ho:ops[i]?=some o) (q:o.guard=none) (r:(execOp a.eval o).run P w=.ok .recover w) (hc:recoverD cs=some (v,cs')) (h:wpOpsSIn (Wd none) m P ops Q rest (a.put o.dst v) cs' w):wpOpsSIn (Wd none) m P ops Q (i::rest) a cs w:=by
 unfold wpOpsSIn;simp only[ho];refine⟨fun _ _=>trivial,?_⟩;rw[ζ (by simp[Region.wanted,q]),r];dsimp only;rw[hc];exact h
theorem aGo {v:Value}(ho:ops[i]?=some o) (q:o.guard=none) (r:(execOp a.eval o).run P w=.ok (.value v) w') (h:wpOpsSIn (Wd none) m P ops Q rest (a.put o.dst v) cs w'):wpOpsSIn (Wd none) m P ops Q (i::rest) a cs w:=by
 unfold wpOpsSIn;simp only[ho];refine⟨fun _ _=>trivial,?_⟩;rw[ζ (by simp[Region.wanted,q]),r];exact h
theorem aUj {d:Nat}{v:Value}(h:d<a.tmps.size):(a.put (some d) v).eval (.tmp d)=v:=by
 show((a.put (some d) v).tmps).getD d undef=v;show(a.tmps.setIfInBounds d v).getD d undef=v;rw[aCl _ _ _ _ h,ζ rfl]
theorem aVj (hv:∀o,ops[i]?=some o→aA3 P o) (h:wpOpIn (Wd none) 0 P ops (fun e a w=>Q e a cs w) i (fun a w=>wpOpsSIn (Wd none) m P ops Q rest a cs w) a w):wpOpsSIn (Wd none) m P ops Q (i::rest) a cs w:=by
 unfold wpOpIn at h;unfold wpOpsSIn;cases ho:ops[i]? with
 | none=>rw[ho] at h;exact h
 | some o=>
  rw[ho] at h;dsimp only at h ⊢;split
  ·rename_i hw;rw[ζ hw] at h;refine⟨h.1,?_⟩;have h2:=h.2;rw[show(Wd none).round=none from rfl,Oper.semAt_none] at h2;cases q:(execOp a.eval o).run P w with
   | ok x w'=>
    rw[q] at h2;rcases hv o ho _ _ _ _ q with⟨v,rfl⟩ | rfl
    ·exact h2
    ·exact h2
   | halt y w'=>
    rw[q] at h2;cases y<;>first | exact h2 | exact h2.elim
  ·rename_i hw;rw[ξ hw] at h;exact h
theorem aB5 {n:Nat}{G:Ctx}(r:∀(i:Nat) (o:Oper),ops[i]?=some o→aA3 P o∨i=0∨i=1) {k:Nat}{st st':St}{xs:REs}(y:Run P n ops k st xs st') (q:2≤k∨∀(i:Nat) (o:Oper),ops[i]?=some o→aA3 P o):
  (∀S' μ' u w',Sim G n S' μ' st' u w'→Q .normal u cs w')→∀S μ a w,Sim G n S μ st a w→wpOpsSIn (Wd none) m P ops Q (List.range' k xs.length) a cs w:=by
 induction y with
 | nil=>intro hq S μ a w hs;exact hq S μ a w hs
 | @cons k st rd f xs st' B _ E=>
  intro hq S μ a w hs;rw[χ,range'_succ];refine aVj (fun o ho=>?_) (B st (fR.refl _ _) G S μ a w _ _ hs (fun S1 I J M s1=>E (q.imp (fun h=>by omega) id) hq S1 I J M s1) none);rcases q with q | q
  ·rcases r k o ho with h | h | h
   ·exact h
   ·omega
   ·omega
  ·exact q k o ho
theorem aYs {n:Nat}{G:Ctx}{S:Sto}{μ:Mu}{st:St}{id:Nat}(hs:Sim G n S μ st a w) (hv:∀(i:Nat) (o:Oper),ops[i]?=some o→aA3 P o) (h:jG (fun _=>False) P n ops false 0 st [] (fun st'=>∀S' μ' q w',Sim G n S' μ' st' q w'→Q .normal q cs w')):(Code.region id ops false).wpSIn (Wd none) m P Q a cs w:=by
 rcases h with⟨xs,st',h1,h2,u,r⟩ | ⟨v,p,xs,st',h0,_⟩
 case inr=>exact h0.elim
 have hl:=Aa h2;rw[Bj] at hl;refine wpSIn_region ?_;rw[range_eq_range',←hl];exact aB5 (fun i o ho=>.inl (hv i o ho)) h1 (.inr hv) r S μ a w hs
theorem aUl {n:Nat}{G:Ctx}{S:Sto}{μ:Mu}{st:St}(hs:Sim G n S μ st a w) (hv:∀(i:Nat) (o:Oper),ops[i]?=some o→aA3 P o∨i=0∨i=1) (h:jG (fun _=>False) P n ops false 2 st [] (fun st'=>∀S' μ' q w',Sim G n S' μ' st' q w'→Q .normal q cs w')):wpOpsSIn (Wd none) m P ops Q (List.range' 2 (ops.size-2)) a cs w:=by
 rcases h with⟨xs,st',h1,h2,u,r⟩ | ⟨v,p,xs,st',h0,_⟩
 case inr=>exact h0.elim
 have hl:=Aa h2;rw[←hl,Nat.add_sub_cancel_left];exact aB5 hv h1 (.inl (le_refl 2)) r S μ a w hs
def aQe (k:Nat) (ops:Array Oper):Bool:=(ops.toList.drop k).all fun o=>isVal o.op
theorem jH {k:Nat}(h:aQe k ops=true) (i:Nat) (o:Oper) (ho:ops[i]?=some o) (hi:k≤i):aA3 P o:=by
 refine aMr ((Av.1 h) o ?_);refine τ (i:=i-k) ?_;rw[Ap,show k+(i-k)=i by omega];simpa using ho
end
end Go.AM
namespace Go.Proofs.YtpmheldmadendaaGreatDoor
open Go Go.AM
set_option maxRecDepth 20000
set_option maxHeartbeats 4000000
def atO (e p:Int):AObj:=.var 32 [.c (.int .i64 e),.c (.int .i64 p)]
theorem aFn (e p:Int) (w:World):(Instr.typeAssert (tH e p) 20 131 true).run Tryz.prog w=.ok (.tuple #[.agg #[.int .i64 e,.int .i64 p],.bool true]) w:=by kernel_rfl
theorem aKm (w:World):(Instr.typeAssert .nilIface 20 131 true).run Tryz.prog w=.ok (.tuple #[.agg #[.int .i64 0,.int .i64 0],.bool false]) w:=by kernel_rfl
theorem aWj (b:Bool) (e p:Int) (m:Nat) {S:Sto}{μ:Mu}{w:World}{vals:List Value}(hI:Go.AM.Inv ⟨w,S,jE μ (Go.AM.look [(4,atO 0 0)]),μ,Go.AM.look [(4,atO 0 0)]⟩ S μ (Go.AM.look [(4,atO 0 0)]) w) (hv:b5 S μ (Go.AM.look [(4,atO 0 0)]) [.one (.vp 4 0)] vals) (u J:FrameMode)
  (hu:∀(r:Frame) (cs:List Frame),r.mode=u→(b=true∧recoverD (r::cs)=some (tH e p,{ r with mode:=J }::cs))∨(b=false∧recoverD (r::cs)=none∧J=u∧e=0∧p=0)):
  CallsDIn (Wd none) m Tryz.prog 80 ⟨vals⟩ u w (fun en u' w'=>(∃v,en=.returned v)∧u'=J∧∃S' μ',Go.AM.Inv ⟨w,S,jE μ (Go.AM.look [(4,atO 0 0)]),μ,Go.AM.look [(4,atO 0 0)]⟩ S' μ' (Go.AM.look [(4,atO e p)]) w'):=by
 refine callsDIn_of_wpSIn Tryz.func80 rfl trivial (fun r cs hc=>?_);have q:=aGh (n:=11) (k:=(Tryz.f80).ntmps) rfl rfl hI hv;generalize hG:(⟨w,S,jE μ (Go.AM.look [(4,atO 0 0)]),μ,Go.AM.look [(4,atO 0 0)]⟩:Ctx)=G at q ⊢;generalize ha:(⟨(⟨vals⟩:Array Value)++Array.replicate ((Tryz.f80).ntmps-(⟨vals⟩:Array Value).size) undef,[]⟩:Act)=a at q;have M:∀(x y:Int) (S':Sto) (μ':Mu) (Y:Act) (w':World) (st:St) (cs':List Frame),Sim G 11 S' μ' st Y w'→st.d=[]→st.h 4=some (atO x y)→cs'={ r with mode:=J }::cs→x=e→y=p→bodyPostS Tryz.prog Tryz.f80 r cs (fun en u' w'=>(∃v,en=.returned v)∧u'=J∧∃S' μ',Go.AM.Inv G S' μ' (Go.AM.look [(4,atO e p)]) w') .normal Y cs' w':=by
  intro x y S' μ' Y w' st cs' hs hd h4 hcs hx hy;subst hx hy;have hd':Y.defers=[]:=by have:=hs.defers;rw[hd] at this;exact this
  subst hG;obtain⟨v,g1,g2,g3⟩:=aIu (fn:=Tryz.f80) (res:=.tup []) (hout:=[(4,atO x y)]) tok hs ⟨⟨[],[],.nil,.nil,rfl⟩,⟨⟨_,h4,.var rfl⟩,trivial⟩,rfl⟩;exact⟨hd',J,hcs,v,g1,⟨_,rfl⟩,rfl,_,_,g2⟩
 refine wpSIn_seq (wpSIn_region ?_);show wpOpsSIn _ _ _ _ _ (0::1::List.range' 2 6) _ _ _;rcases hu r cs hc with⟨rfl,hr⟩ | ⟨rfl,hr,rfl,rfl,rfl⟩
 ·refine aD4 rfl rfl rfl hr ?_;have E:=q.put q.inv (Evolve.refl _ _ _) (d:=4) (by decide) (v:=tH e p) (x:=none) (fun y hy=>by cases hy);refine aGo (w':=w) rfl rfl (v:=.tuple #[.agg #[.int .i64 e,.int .i64 p],.bool true]) ?_ ?_
  ·show(do pure (Next.value (←Instr.typeAssert ((a.put (some 4) (tH e p)).eval (.tmp 4)) 20 131 true)):Sem Next).run Tryz.prog w=_;rw[aUj (by rw[q.size];decide),Ab,aFn];rfl
  have O:=E.put E.inv (Evolve.refl _ _ _) (d:=5) (by decide) (v:=.tuple #[.agg #[.int .i64 e,.int .i64 p],.bool true]) (x:=some (.tup [.pa [.int .i64 e,.int .i64 p],B true])) (fun y hy=>by
   cases hy;simp only[aO,b5,c0,Rep,aZ]
   exact⟨_,rfl,_,_,rfl,⟨_,rfl,_,_,rfl,rfl,_,_,rfl,rfl,rfl⟩,_,_,rfl,rfl,rfl⟩)
  refine aUl O (fun i o ho=>?_) ?_
  ·by_cases hi:2≤i
   ·exact .inl (jH (k:=2) (by rfl) i o ho hi)
   ·exact .inr (by omega)
  refine kz 6 rfl ?_;intro S3 μ3 a3 w3 U;refine wpSIn_seq (aYs U (fun i o ho=>jH (k:=0) (by rfl) i o ho (ε _)) ?_);refine kz 1 rfl ?_;intro S4 μ4 a4 w4 I;have hb:=I.env 8 _ rfl;simp only[aO,aZ,Rep] at hb;refine wpSIn_cond (t:=true) hb ?_;refine aYs I (fun i o ho=>jH (k:=0) (by rfl) i o ho (ε _)) ?_;refine kz 3 rfl ?_;intro S5 μ5 a5 w5 hs5;exact M e p S5 μ5 a5 w5 _ _ hs5 rfl rfl rfl rfl rfl
 ·refine aGp rfl rfl rfl hr ?_;have E:=q.put q.inv (Evolve.refl _ _ _) (d:=4) (by decide) (v:=.nilIface) (x:=none) (fun y hy=>by cases hy);refine aGo (w':=w) rfl rfl (v:=.tuple #[.agg #[.int .i64 0,.int .i64 0],.bool false]) ?_ ?_
  ·show(do pure (Next.value (←Instr.typeAssert ((a.put (some 4) .nilIface).eval (.tmp 4)) 20 131 true)):Sem Next).run Tryz.prog w=_;rw[aUj (by rw[q.size];decide),Ab,aKm];rfl
  have O:=E.put E.inv (Evolve.refl _ _ _) (d:=5) (by decide) (v:=.tuple #[.agg #[.int .i64 0,.int .i64 0],.bool false]) (x:=some (.tup [.pa [.int .i64 0,.int .i64 0],B false])) (fun y hy=>by
   cases hy;simp only[aO,b5,c0,Rep,aZ]
   exact⟨_,rfl,_,_,rfl,⟨_,rfl,_,_,rfl,rfl,_,_,rfl,rfl,rfl⟩,_,_,rfl,rfl,rfl⟩)
  refine aUl O (fun i o ho=>?_) ?_
  ·by_cases hi:2≤i
   ·exact .inl (jH (k:=2) (by rfl) i o ho hi)
   ·exact .inr (by omega)
  refine kz 6 rfl ?_;intro S3 μ3 a3 w3 U;refine wpSIn_seq (aYs U (fun i o ho=>jH (k:=0) (by rfl) i o ho (ε _)) ?_);refine kz 1 rfl ?_;intro S4 μ4 a4 w4 I;have hb:=I.env 8 _ rfl;simp only[aO,aZ,Rep] at hb;refine wpSIn_cond (t:=false) hb ?_;refine wpSIn_of_wpIn rfl (wpIn_skip ?_);exact M 0 0 S4 μ4 a4 w4 _ _ I rfl rfl (by rw[←hc]) rfl rfl
end Go.Proofs.YtpmheldmadendaaGreatDoor
namespace Go.AM
open Go
section
variable {P:Program}{ops:Array Oper}{Q:Exit→Act→World→Prop}{d:Nat}{x:Value}
def Kp (d:Nat) (x:Value) (a:Act):Prop:=a.tmps.getD d undef=x
theorem Kp.put {a:Act}(h:Kp d x a) {t:Option Nat}(ht:t≠some d) (v:Value):Kp d x (a.put t v):=by
 cases t with
 | none=>exact h
 | some t=>
  show(a.tmps.setIfInBounds t v).getD d undef=x;rw[Ah,Bb,ξ (fun e=>ht (by rw[e])),←Ah];exact h
theorem aQf {o:Oper}{a:Act}(h0:Kp d x a) (ht:o.dst≠some d) {K K':Act→World→Prop}(q:∀a w,Kp d x a→K a w→K' a w) {r:Result Next}(h:o.uponIn (Wd none) 0 P a K Q r) (u:¬LetsOut Q):
  o.uponIn (Wd none) 0 P a K' (fun e a w=>Q e a w∧Kp d x a) r:=by
 cases r with
 | ok y w'=>
  cases y<;>simp only[Oper.uponIn] at h ⊢<;>
   first
    | exact q _ _ (h0.put ht _) h
    | exact⟨h.1,CallsIn.mono h.2 (fun e B he=>by cases e<;>first | exact q _ _ (h0.put ht _) he | exact⟨he,h0⟩ | exact(u he).elim)⟩
    | exact⟨h.1,RowsIn.mono h.2 (fun _ _ he=>q _ _ (h0.put ht _) he)⟩
    | exact⟨h.1,RoundIn.mono h.2 (fun e B he=>by cases e<;>first | exact q _ _ (h0.put ht _) he | exact⟨he,h0⟩ | exact(u he).elim)⟩
    | (refine q _ _ (Kp.put ?_ ht _) h;unfold Kp at h0 ⊢;exact h0)
    | exact h
 | halt y w'=>cases y<;>simp only[Oper.uponIn] at h ⊢<;>first | exact⟨h,h0⟩ | exact h
theorem aFz {i:Nat}{a:Act}{w:World}(h0:Kp d x a) (ht:∀o∈ops.toList,o.dst≠some d) {K K':Act→World→Prop}(q:∀a w,Kp d x a→K a w→K' a w) (r:¬LetsOut Q) (h:wpOpIn (Wd none) 0 P ops Q i K a w):
  wpOpIn (Wd none) 0 P ops (fun e a w=>Q e a w∧Kp d x a) i K' a w:=by
 unfold wpOpIn at h ⊢;cases ho:ops[i]? with
 | none=>rw[ho] at h;exact q _ _ h0 h
 | some o=>
  have hm:=ht o (by
   obtain⟨h1,h2⟩:=Cp.1 ho;rw[←h2]
   exact Array.getElem_mem_toList h1)
  rw[ho] at h;dsimp only at h ⊢;split
  ·rename_i hw;rw[ζ hw] at h;unfold Oper.wpIn at h ⊢;exact⟨h.1,aQf h0 hm q h.2 r⟩
  ·rename_i hw;rw[ξ hw] at h;exact⟨h.1,q _ _ (h0.put hm _) h.2⟩
theorem aP6 (ht:∀o∈ops.toList,o.dst≠some d) (q:¬LetsOut Q) {md:Region.Mode}:∀(fuel:Nat) (listed:Array Bool) (a:Act) (w:World),Kp d x a→wpAnyIn (Wd none) 0 P md ops Q fuel listed a w→wpAnyIn (Wd none) 0 P md ops (fun e a w=>Q e a w∧Kp d x a) fuel listed a w
 | 0,_,_,_,h0,h=>⟨h.1,h.2,h0⟩
 | fuel+1,_,_,_,h0,h=>⟨fun k=>⟨h.1 k,h0⟩,fun i hi=>aFz h0 ht (fun a w h0 h=>aP6 ht q fuel _ a w h0 h) q (h.2 i hi)⟩
theorem aO4 (ht:∀o∈ops.toList,o.dst≠some d) (q:¬LetsOut Q):∀(l:List Nat) (a:Act) (w:World),Kp d x a→wpOpsIn (Wd none) 0 P ops Q l a w→wpOpsIn (Wd none) 0 P ops (fun e a w=>Q e a w∧Kp d x a) l a w
 | [],a,w,h0,h=>⟨h,h0⟩
 | i::l,a,w,h0,h=>by
  rw[Bu] at h ⊢;exact aFz h0 ht (fun a w h0 h=>aO4 ht q l a w h0 h) q h
theorem qN.kp {draw:Bool}{a:Act}{w:World}(ht:(ops.toList.all fun o=>o.dst !=some d)=true) (r:¬LetsOut Q) (h0:Kp d x a) (h:qN draw P ops Q a w):qN draw P ops (fun e a w=>Q e a w∧Kp d x a) a w:=by
 have q:∀o∈ops.toList,o.dst≠some d:=fun o ho e=>by
  have:=(Av.1 ht) o ho;rw[e] at this;simp at this
 cases draw with
 | true=>exact aP6 q r _ _ _ _ h0 h
 | false=>exact aO4 q r _ _ _ h0 h
end
section
variable {P:Program}{n:Nat}{ops:Array Oper}{G:Ctx}{S:Sto}{μ:Mu}{st:St}{a:Act}{w:World}{draw:Bool}{v:Value}
theorem a0a (q:List (Nat×AObj)) (J:List (Nat×V)) (hs:Sim G n S μ st a w) (hd:st.d=[]) (U:gN (fun p=>st.e p.1=some p.2) J) (Y:(J.all fun p=>subset p.2.refs (keys q))=true)
  (aa:gN (fun p=>st.h p.1=some p.2) q) (hc:subset (gO q) (q.map (·.1))=true) (M:(q.all fun p=>p.2.live)=true) (hok:(q.all fun p=>n5 p.2)=true)
  (h:jG (fun v'=>v'=v) P n ops draw 0 (mk J q) [] (fun _=>False)):
  qN draw P ops (fun e u w'=>e=pan v∧u.defers=[]∧u.tmps.size=n∧∃S' B hout,(∀id o,look hout id=some o→∃o',look q id=some o')∧Inv G S' B (iS st.h (outs hout)) w'∧Evolve S μ st.h S' B (iS st.h (outs hout))) a w:=by
 have hh:∀id o,look q id=some o→st.h id=some o∧o≠ .dead:=by
  intro id o ho;have hm:=bD ho;refine⟨aa.mem _ hm,?_⟩;have:=(Av.1 M) _ hm;rintro rfl;simp[AObj.live] at this
 have hI:=hs.inv.hand hh hc;have O:∀i∈keys q,Good st.h (look q) (fun i=>i) i:=by
  intro i hi;obtain⟨o,ho⟩:=cU hi;obtain⟨h1,h2⟩:=hh i o ho;exact⟨o,o,h1,ho,.refl_id h2⟩
 have hs2:Sim ⟨w,S,jE μ (look q),μ,look q⟩ n S μ (mk J q) a w:=by
  refine⟨hI,hs.size,by have:=hs.defers;rw[hd] at this;exact this,fun t v ht=>?_⟩;have hm:=bD (show look J t=some v from ht);have h1:=hs.env t v (U.mem _ hm);have hr:=(Av.1 Y) _ hm;have:=aO.ren (H:=st.h) (H':=look q) (σ:=fun i=>i) v _ (fun i hi=>O i (bW hr i hi)) (by rw[V.ren_id];exact h1);exact this
 have hout:∀S' μ' e h' u w',Sim ⟨w,S,jE μ (look q),μ,look q⟩ n S' μ' ⟨e,h',[]⟩ u w'→u.defers=[]∧u.tmps.size=n∧∃S' B hout,(∀id o,look hout id=some o→∃o',look q id=some o')∧Inv G S' B (iS st.h (outs hout)) w'∧Evolve S μ st.h S' B (iS st.h (outs hout)):=by
  intro S' μ' e h' u w' r;have E:=r.inv.evo;have hbl:∀id x,(∃o',look q id=some o')→h' id=some x→n5 x=true:=fun id x ⟨o',ho⟩ hx=>by
   obtain⟨o2,g1,g2⟩:=E.obj id o' ho;have g1:h' id=some o2:=g1;rw[hx] at g1;cases g1;exact aGd g2 ((Av.1 hok) _ (bD ho))
  have hI':Inv ⟨w,S,jE μ (look q),μ,look q⟩ S' μ' (look (wB q h')) w':=by
   refine⟨r.inv.holds,fun id o ho=>?_,fun i j o o' b c c' hi hj hm hm'=>?_,fun i o b c hi hm=>?_,r.inv.frame,r.inv.sle,r.inv.sto,⟨E.le,fun id o ho=>?_⟩,r.inv.fre⟩
   ·obtain⟨h1,x,h2,rfl⟩:=dI ho;exact(r.inv.obj id x h2).blur (hbl id x h1 h2)
   ·obtain⟨_,x,h2,_⟩:=dI hi;obtain⟨_,y,I,_⟩:=dI hj;exact r.inv.inj i j x y b c c' h2 I hm hm'
   ·obtain⟨_,x,h2,_⟩:=dI hi;exact r.inv.own i x b c h2 hm
   ·obtain⟨o2,g1,g2⟩:=E.obj id o ho;refine⟨blur o2,qY ho g1,?_⟩;exact AObj.succ_trans g2 (yB (p:=True) trivial) fun e _=>e
  obtain⟨B,q1,q2,q3,q4⟩:=hs.inv.back (fun id o ho=>(hh id o ho).1) (fun id o ho=>.inl (dI ho).1) hI';exact⟨r.defers,r.size,S',B,wB q h',fun id o ho=>(dI ho).1,q2,q3⟩
 rcases h with⟨xs,st',h1,h2,h4,I⟩ | ⟨v',p,xs,st',h0,h1,h2,I,h4,h5⟩
 ·exact I.elim
 ·subst h0;rw[Bj] at I h4 h5;exact aHt h1 I h4 (fun hd=>h5 hd) (fun S' μ' e h u w' s=>⟨rfl,hout S' μ' e h u w' s⟩) hs2
theorem aWh {o:Oper}{good:List (Nat×AObj)→Prop}{K:Act→World→Prop}{Q:Exit→Act→World→Prop}{f:FuncId}{x:Operand}{caps:List R}{xs:Array Operand}{ts:Array TypeId}{ids:List Nat}{args:List V}(hin:List (Nat×AObj)) (hb:iN P f) (ho:o.op=.call { callee:=.value x,args:=xs,argTypes:=ts })
  (hx:opv st x=some (.one (.clo f caps)))
  (hf:∀S μ w vals,Inv ⟨w,S,jE μ (look hin),μ,look hin⟩ S μ (look hin) w→b5 S μ (look hin) (args++caps.map V.one) vals→Calls P f ⟨vals⟩ w fun e w'=>∃S' μ' hout,e=.panicked [{ v:=v,recovered:=false }]∧(∀id o,look hout id=some o→∃o',look hin id=some o')∧good hout∧Inv ⟨w,S,jE μ (look hin),μ,look hin⟩ S' μ' (look hout) w')
  (ha:ArgsV st ids xs.toList args) (E:gN (fun p=>st.h p.1=some p.2) hin) (hok:fI (args++caps.map V.one) hin=true) (hs:Sim G n S μ st a w)
  (hQ:∀S' y hout w',good hout→Inv G S' y (iS st.h (outs hout)) w'→Evolve S μ st.h S' y (iS st.h (outs hout))→Q (pan v) a w'):o.wpIn (Wd none) 0 P a w K Q:=by
 have hv:=aM hs hx fun t ht=>rfl
 simp only[aO,aZ] at hv;obtain⟨vs,h1,h2⟩:=hv;have hr:(execOp a.eval o).run P w=.ok (.enter f ⟨xs.toList.map a.eval++vs⟩) w:=by
  simp only[execOp,ho,resolve,h1,Deferred.ofValue,Ab,Ac,δ,invoke,eN hb];congr 2;apply Array.ext';simp
 have M:∀(l:List V) (us:List Value) (rs:List R) (vs:List Value),b5 S μ st.h l us→aR S μ st.h rs vs→b5 S μ st.h (l++rs.map V.one) (us++vs):=by
  intro l
  induction l with
  | nil=>
   intro us rs vs h k;simp only[b5] at h;subst h;simp only[Ak]
   induction rs generalizing vs with
   | nil=>simp only[aR] at k;subst k;simp[b5]
   | cons r rs I=>
    simp only[aR] at k;obtain⟨v,vs',rfl,q,u⟩:=k;simp only[Ar,b5];exact⟨v,vs',rfl,by simpa [aO] using q,I vs' u⟩
  | cons x l I=>
   intro us rs vs h k;simp only[b5] at h;obtain⟨v,vs',rfl,q,u⟩:=h;simp only[Ad,b5];exact⟨v,_,rfl,q,I vs' rs vs u k⟩
 have O:=M _ _ _ _ (ha.rel hs (fun t ht=>rfl) fun i h=>rfl) h2;simp only[fI,π] at hok;obtain⟨⟨q,u⟩,k3⟩:=hok;have hh:∀id o,look hin id=some o→st.h id=some o∧o≠ .dead:=by
  intro id o ho;have hm:=bD ho;refine⟨E.mem _ hm,?_⟩;have:=(Av.1 k3) _ hm;rintro rfl;simp[AObj.live] at this
 have hI:=hs.inv.hand hh u;have B:∀i∈keys hin,Good st.h (look hin) (fun i=>i) i:=by
  intro i hi;obtain⟨o,ho⟩:=cU hi;obtain⟨h1,h2⟩:=hh i o ho;exact⟨o,o,h1,ho,.refl_id h2⟩
 have U:b5 S μ (look hin) (args++caps.map V.one) (xs.toList.map a.eval++vs):=by
  have:=b5.ren (H:=st.h) (H':=look hin) (σ:=fun i=>i) (args++caps.map V.one) _ (fun i hi=>B i (bW q i hi)) (by rw[V.renL_id];exact O);exact this
 have hc:=hf S μ w _ hI U;refine jQ hr ?_;refine hc.mono fun e w' ⟨S',μ',hout,he,J,hg,Y⟩=>?_
 subst he;obtain⟨y,q1,q2,q3,q4⟩:=hs.inv.back (fun id o ho=>(hh id o ho).1) (fun id o ho=>.inl (J id o ho)) Y;exact hQ S' y hout w' hg q2 q3
theorem aXt {id:Nat}{D:List Deferred}{d:Nat}{x:Value}{Q':Exit→Act→World→Prop}(hm:P.follows .mixedOrders=true) (hs:Sim G n S μ st a w) (h0:Kp d x a) (ht:(ops.toList.all fun o=>o.dst !=some d)=true)
  (h:jG (fun _=>False) P n ops draw 0 st [] (fun st'=>∀S' μ' q w',Kp d x q→Sim G n S' μ' st' q w'→Q' .normal (rM q D) w')):(Code.region id ops draw).wpIn (Wd none) 0 P Q' (rM a D) w:=by
 rcases h with⟨xs,st',h1,h2,r,u⟩ | ⟨v,p,xs,st',h0,_⟩
 case inr=>exact h0.elim
 rw[Bj] at h2;refine qN.wp hm (qN.ext (Q:=fun e a w=>(e=.normal∧∃S' μ',Sim G n S' μ' st' a w)∧Kp d x a) ?_ (qN.kp ht ?_ h0 (aB4 h1 h2 r (fun S' μ' q w' s=>⟨rfl,S',μ',s⟩) hs)))
 ·rintro e a w ⟨⟨rfl,S',μ',s⟩,y⟩;exact u S' μ' a w y s
 ·rintro⟨a,w,h,_⟩;cases h
theorem aYt {id:Nat}{Q':Exit→Act→World→Prop}(hm:P.follows .mixedOrders=true) (hs:Sim G n S μ st a w)
  (h:jG (fun _=>False) P n ops draw 0 st [] (fun st'=>∀S' μ' q w',Sim G n S' μ' st' q w'→Q' .normal q w')):(Code.region id ops draw).wpIn (Wd none) 0 P Q' a w:=by
 rcases h with⟨xs,st',h1,h2,r,u⟩ | ⟨v,p,xs,st',h0,_⟩
 case inr=>exact h0.elim
 rw[Bj] at h2;exact qN.wp hm (aB4 h1 h2 r u hs)
end
end Go.AM
namespace Go.Proofs.YtpmheldmadendaaGreatDoor
open Go Go.AM
set_option maxRecDepth 20000
set_option maxHeartbeats 4000000
def jO:AObj:=.var 29 [.c .nl,.c .nl,.c .nl,.c .nl]
def pgO (p:Pg):AObj:=.var 29 ((nV p).map .c)
theorem aW7 {L:List Tk}{z q:Z}{p:Pg}(h:b9 Tryz.prog 37 [rP] [(600,rO L z)] (.pa (nV p)) [(600,rO L q)]):b9 Tryz.prog 36 ([rP]++[R.vp 9 0].map V.one) [(600,rO L z),(9,jO)] (.tup []) [(600,rO L q),(9,pgO p)]:=by
 refine bP (n:=5) tok Tryz.func36 rfl rfl rfl ?_;refine aC mixed (ak 1 [] rfl (kc h ?_));exact kz 1 rfl rtN
theorem aSt {L:List Tk}{z:Z}{v:Value}(h:aDy Tryz.prog 37 [rP] [(600,rO L z)] v) (S:Sto) (μ:Mu) (w:World) (vals:List Value) (E:Go.AM.Inv ⟨w,S,jE μ (Go.AM.look [(600,rO L z),(9,jO)]),μ,Go.AM.look [(600,rO L z),(9,jO)]⟩ S μ (Go.AM.look [(600,rO L z),(9,jO)]) w)
  (hv:b5 S μ (Go.AM.look [(600,rO L z),(9,jO)]) ([rP]++[R.vp 9 0].map V.one) vals):Calls Tryz.prog 36 ⟨vals⟩ w fun e w'=>∃S' μ' hout,e=.panicked [{ v:=v,recovered:=false }]∧(∀id o,Go.AM.look hout id=some o→∃o',Go.AM.look [(600,rO L z),(9,jO)] id=some o')∧(∃x,hout=[(600,x),(9,jO)])∧Go.AM.Inv ⟨w,S,jE μ (Go.AM.look [(600,rO L z),(9,jO)]),μ,Go.AM.look [(600,rO L z),(9,jO)]⟩ S' μ' (Go.AM.look hout) w':=by
 refine(Go.AM.Wd.calls (ro:=none) (n:=0)).1 (callsIn_of_wp_defers Tryz.func36 rfl trivial ?_);have u:=aGh (n:=5) (k:=(Tryz.f36).ntmps) rfl rfl E hv;refine wpIn_mono (qN.wp mixed (a0a (v:=v) [(600,rO L z)] [(0,rP)] u rfl ⟨rfl,trivial⟩ rfl ⟨rfl,trivial⟩ rfl rfl rfl ?_)) ?_
 ·exact ak 1 [] rfl (kp h (hq:=rfl))
 rintro e y w' ⟨rfl,hd,_,S',I,hout,B,q,J⟩;show LeavesIn _ _ _ _ y.tmps _ y.defers (.panicking _) w';rw[hd];have M:Go.AM.look hout 9=none:=by
  cases hl:Go.AM.look hout 9 with
  | none=>rfl
  | some o=>obtain⟨o',ho⟩:=B 9 o hl;cases ho
 have hx:∃x,iS (mk (yW 0 ([rP]++[R.vp 9 0].map V.one)) [(600,rO L z),(9,jO)]).h (outs hout)=Go.AM.look [(600,x),(9,jO)]:=by
  refine⟨(Go.AM.look hout 600).getD (rO L z),funext fun id=>?_⟩;rw[i6];by_cases r:id=600
  ·subst r;cases hl:Go.AM.look hout 600 with
   | none=>rfl
   | some o=>rfl
  ·have hn:Go.AM.look hout id=none:=by
    cases hl:Go.AM.look hout id with
    | none=>rfl
    | some o=>
     obtain⟨o',ho⟩:=B id o hl;simp[Go.AM.look] at ho;exact absurd ho.1 r
   rw[hn];show Go.AM.look [(600,rO L z),(9,jO)] id=_;simp[Go.AM.look,r]
 obtain⟨x,hx⟩:=hx;rw[hx] at q;refine⟨S',I,[(600,x),(9,jO)],rfl,fun id o ho=>?_,⟨x,rfl⟩,q⟩;have hm:=bD ho;rcases Au.1 hm with hm | hm
 ·obtain⟨rfl,rfl⟩:=Prod.mk.inj hm;exact⟨_,rfl⟩
 ·obtain⟨rfl,rfl⟩:=Prod.mk.inj (A2.1 hm);exact⟨_,rfl⟩
theorem zD {w0:World}{S0 S:Sto}{μ0 μ:Mu}{st:St}{a:Act}{w:World}{u:Value}(q:AObj) (b:Bool) (e p:Int) (y B:FrameMode) (hok:(subset (atV e p).refs (keys [(9,q)])&&subset (gO [(9,q)]) (keys [(9,q)])&&Go.AM.distinct (keys [(9,q)])&&subset (keys [(9,jO)]) (keys [(9,q)])&&([(9,jO)].all fun p=>p.2.plain)&&([(9,q)].all fun p=>p.2.plain))=true)
  (hs:Sim ⟨w0,S0,jE μ0 (Go.AM.look [(9,jO)]),μ0,Go.AM.look [(9,jO)]⟩ 38 S μ st a w) (hd:st.d=[]) (J:st.e 4=some (.one (.vp 4 0))) (Y:st.e 17=some (.one (.clo 80 [.vp 4 0]))) (aa:st.h 4=some (atO 0 0)) (ab:st.h 9=some q) (ac:Ole (fun i=>i) q q)
  (hk:Kp 17 (.func (.func 80) #[] ⟨[u]⟩) a)
  (hu:∀(E:Frame) (cs:List Frame),E.mode=y→(b=true∧recoverD (E::cs)=some (tH e p,{ E with mode:=B }::cs))∨(b=false∧recoverD (E::cs)=none∧B=y∧e=0∧p=0)) (M:y≠ .run) (O:settle B=.returning):
  LeavesIn (Wd none) 0 Tryz.prog Tryz.f35 a.tmps (fun en w'=>∃S' μ' v,en=.returned v∧Go.AM.Inv ⟨w0,S0,jE μ0 (Go.AM.look [(9,jO)]),μ0,Go.AM.look [(9,jO)]⟩ S' μ' (Go.AM.look [(9,q)]) w'∧aO S' μ' (Go.AM.look [(9,q)]) (atV e p) v) (rM a [{ target:=.fn (.func 80) ⟨[u]⟩,args:= #[] }]).defers y w:=by
 have hda:a.defers=[]:=by have:=hs.defers;rw[hd] at this;exact this
 show LeavesIn _ _ _ _ _ _ (a.defers++_) _ _;rw[hda,Ak];have hh:∀id o,Go.AM.look [(4,atO 0 0)] id=some o→st.h id=some o∧o≠ .dead:=by
  intro id o ho;obtain⟨rfl,rfl⟩:=Prod.mk.inj (A2.1 (bD ho));exact⟨aa,fun k=>by cases k⟩
 have hI:=hs.inv.hand hh rfl;have I:∀i∈keys [(4,atO 0 0)],Go.AM.Good st.h (Go.AM.look [(4,atO 0 0)]) (fun i=>i) i:=by
  intro i hi;obtain⟨o,ho⟩:=cU hi;obtain⟨h1,h2⟩:=hh i o ho;exact⟨o,o,h1,ho,.refl_id h2⟩
 have r:=hs.env 17 _ Y;have hk':a.tmps.getD 17 undef=.func (.func 80) #[] ⟨[u]⟩:=hk;rw[hk'] at r;have hvu:b5 S μ st.h [.one (.vp 4 0)] [u]:=by
  simp only[aO,aZ,aR] at r;obtain⟨vs,h1,v,vs',h2,h3,J⟩:=r;subst J h2;cases h1;simp only[b5,aO];exact⟨_,_,rfl,h3,rfl⟩
 have U:b5 S μ (Go.AM.look [(4,atO 0 0)]) [.one (.vp 4 0)] [u]:=by
  have:=b5.ren (H:=st.h) (H':=Go.AM.look [(4,atO 0 0)]) (σ:=fun i=>i) [.one (.vp 4 0)] [u] (fun i hi=>I i (by simpa [V.refsL,V.refs,R.refs,keys] using hi)) (by rw[V.renL_id];exact hvu);exact this
 have hb1:iN Tryz.prog 80:=aJ1 (by kernel_rfl);have hi:(invoke (.fn (.func 80) ⟨[u]⟩) #[]).run Tryz.prog w=.ok (.enter 80 ⟨[u]⟩) w:=by
  simp only[invoke];rw[eN hb1];simp
 refine leavesIn_cons M (fun h=>by simp[Go.AM.Wd] at h) hi (fun _ _=>trivial) (CallsDIn.mono (aWj b e p _ hI U y B hu) ?_);rintro en u' w' ⟨⟨v,rfl⟩,rfl,S',μ',hI6⟩;dsimp only;rw[O];obtain⟨μ2,q1,q2,q3,q4⟩:=hs.inv.back (hin:=[(4,atO 0 0)]) (hout:=[(4,atO e p)]) (fun id o ho=>(hh id o ho).1) (fun id o ho=>.inl (by obtain⟨rfl,_⟩:=Prod.mk.inj (A2.1 (bD ho));exact⟨_,rfl⟩)) hI6;have hs6:Sim ⟨w0,S0,jE μ0 (Go.AM.look [(9,jO)]),μ0,Go.AM.look [(9,jO)]⟩ 38 S' μ2 ⟨st.e,iS st.h (outs [(4,atO e p)]),st.d⟩ a w':=⟨q2,hs.size,hs.defers.evolve q3,fun t v e=>aO.evolve q3 v _ (hs.env t v e)⟩
 have g4:iS st.h (outs [(4,atO e p)]) 4=some (atO e p):=by rw[i6];rfl
 have g9:iS st.h (outs [(4,atO e p)]) 9=some q:=by rw[i6];exact ab
 have hf:Fin tr.flat Tryz.f35 ⟨st.e,iS st.h (outs [(4,atO e p)]),st.d⟩ [(9,jO)] (atV e p) [(9,q)]:=(rtC (fn:=Tryz.f35) (st:=⟨st.e,iS st.h (outs [(4,atO e p)]),st.d⟩) (hin:=[(9,jO)]) (hout:=[(9,q)]) (res:=atV e p) trw (ha:=J) (hh:=g4) (ho:=⟨⟨_,g9,ac⟩,trivial⟩) (hok:=hok)).2
 obtain⟨v2,k1,k2,k3⟩:=aIu (fn:=Tryz.f35) tok hs6 hf;exact⟨v2,k1,_,_,_,rfl,k2,k3⟩
section
variable {m:Nat}{P:Program}{ops:Array Oper}{Q:Exit→Act→World→Prop}{i:Nat}{a:Act}{w:World}{o:Oper}{K:Act→World→Prop}
theorem aQm {x:Operand}{ts:Array TypeId}{f:FuncId}{caps:Array Value}(ho:ops[i]?=some o) (r:o.guard=none) (q:o.op=.defer { callee:=.value x,args:= #[],argTypes:=ts }) (hd:o.dst=none) (hx:a.eval x=.func (.func f) #[] caps)
  (u:K ⟨a.tmps,{ target:=.fn (.func f) caps,args:= #[] }::a.defers⟩ w):wpOpIn (Go.AM.Wd none) m P ops Q i K a w:=by
 unfold wpOpIn;simp only[ho];rw[ζ (by simp[Region.wanted,r])];refine⟨fun _ _=>trivial,?_⟩;have y:(o.semAt none a.eval).run P w=.ok (.defer { target:=.fn (.func f) caps,args:= #[] }) w:=by
  rw[Oper.semAt_none];simp[execOp,q,resolve,hx,Deferred.ofValue]
 show o.uponIn (Go.AM.Wd none) m P a K Q ((o.semAt none a.eval).run P w);rw[y,Oper.uponIn_defer,hd];exact u
theorem aEo (ho:ops[i]?=some o) (q:o.guard=none) (h:o.wpIn (Go.AM.Wd none) m P a w K Q):wpOpIn (Go.AM.Wd none) m P ops Q i K a w:=by
 unfold wpOpIn;simp only[ho];rw[ζ (by simp[Region.wanted,q])];exact h
end
theorem aE7 (s:Str) (l:List Tk) (I:b9 Tryz.prog 79 [Go.AM.T s] [] (.tup [.one (.c (.sl 4 (l.map aG))),atV 0 0]) []) (pg:Pg) (q:Z) (hA:ZA l q) (B:bF Tryz.prog 37 [rP] [(600,rO l ⟨l,0,0⟩)] (gT l (.pa (nV pg)) q [])):
  b9 Tryz.prog 35 [Go.AM.T s,.one (.clo 36 [.vp 9 0])] [(9,jO)] (atV (n1 q).e (if(n1 q).e=0 then 0 else(n1 q).p)) [(9,if q.e=0 then pgO pg else jO)]:=by
 have er:rO l ⟨l,0,0⟩=.var 136 [.c (.sl 4 (l.map aG)),.c (.int .i64 0)]:=by unfold rO;dsimp only;rw[Cg];rfl
 unfold atV at I;intro S μ w vals hI hv;refine(Go.AM.Wd.calls (ro:=none) (n:=0)).1 (callsIn_of_wp_defers Tryz.func35 rfl trivial ?_);have hs0:=aGh (n:=38) (k:=(Tryz.f35).ntmps) rfl rfl hI hv;refine Db (aYt mixed hs0 ?_);refine ak 1 [(0,.id 4)] rfl (az ?_);intro S1 μ1 a1 w1 hs1;refine Db (aYt mixed hs1 ?_);refine ak 1 [] rfl (kc I ?_);refine kz 6 rfl ?_;intro S2 J a2 w2 hs2;refine Db (Db (aYt mixed hs2 ?_));refine kz 3 rfl ?_;intro S3 μ3 a3 w3 hs3;have hb:=hs3.env 15 _ rfl;simp only[aO,aZ,Rep] at hb;refine wpIn_cond (t:=false) hb ?_;refine wpIn_skip ?_;refine Db (wpIn_region ?_);show wpOpsIn _ _ _ _ _ [0,1] _ _;rw[Bu];refine(g_ rfl rfl (sP (l:=[.vp 4 0]) rfl rfl (j8 rfl) rfl)) _ (fR.refl _ _) _ S3 μ3 a3 w3 _ _ hs3 (fun S4 μ4 a4 w4 M=>?_) none;rw[Bu];have hd4:a4.defers=[]:=M.defers;have hv4:=M.env 17 _ rfl;simp only[aO,aZ,aR] at hv4;obtain⟨vs,hv5,u,vs',rfl,_,rfl⟩:=hv4;have hk4:Kp 17 (.func (.func 80) #[] ⟨[u]⟩) a4:=hv5;refine aQm rfl rfl rfl rfl hv5 ?_;have he:(⟨a4.tmps,({ target:=.fn (.func 80) ⟨[u]⟩,args:= #[] }:Deferred)::a4.defers⟩:Act)=rM a4 [{ target:=.fn (.func 80) ⟨[u]⟩,args:= #[] }]:=by unfold rM;rw[hd4];rfl
 rw[he];refine Db (aXt mixed M hk4 rfl ?_);refine ak 5 [(3,.id 600)] rfl (az ?_);intro S5 μ5 a5 w5 hk5 hs5;by_cases r:q.e=0
 case neg=>
  have hp:=bF.err B r;have O:n1 q=q:=ξ fun k=>r k.1
  rw[O,ξ r,ξ r];refine Db (qN.wp (draw:=false) mixed (qN.ext (Q:=fun e a w'=>(e=pan (tH q.e q.p)∧∃S' μ' st',Sim ⟨w,S,jE μ (Go.AM.look [(9,jO)]),μ,Go.AM.look [(9,jO)]⟩ 38 S' μ' st' a w'∧st'.d=[]∧st'.e 4=some (.one (.vp 4 0))∧st'.e 17=some (.one (.clo 80 [.vp 4 0]))∧st'.h 4=some (atO 0 0)∧st'.h 9=some jO)∧Kp 17 (.func (.func 80) #[] ⟨[u]⟩) a) ?_ (qN.kp rfl ?_ hk5 ?_)))
  ·rintro e a w' ⟨⟨rfl,S',μ',st',hs',U,h4,h17,hh4,hh9⟩,E⟩;exact zD jO true q.e q.p (.panicking [{ v:=tH q.e q.p,recovered:=false }]) (.panicking [{ v:=tH q.e q.p,recovered:=true }]) rfl hs' U h4 h17 hh4 hh9 (.var rfl) E (fun c₀ cs hc=>.inl ⟨rfl,by simp only[recoverD,hc]⟩) (fun k=>by cases k) rfl
  ·rintro⟨a,w,h,_⟩;cases h
  unfold qN;dsimp only;show wpOpsIn _ _ _ _ _ [0,1,2] _ _;rw[Bu];refine(g_ rfl rfl (aGz rfl rfl (j8 rfl) rfl)) _ (fR.refl _ _) _ S5 μ5 a5 w5 _ _ hs5 (fun S6 μ6 Y w6 y=>?_) none;rw[Bu];refine(g_ rfl rfl (aGz rfl rfl (j8 rfl) rfl)) _ (fR.refl _ _) _ S6 μ6 Y w6 _ _ y (fun S7 μ7 a7 w7 hs7=>?_) none;rw[Bu];rw[er] at hp;refine aEo rfl rfl (aWh (v:=tH q.e q.p) (good:=fun hout=>∃x,hout=[(600,x),(9,jO)]) (args:=[rP]) (caps:=[.vp 9 0]) (f:=36) [(600,rO l ⟨l,0,0⟩),(9,jO)] (aJ1 (by kernel_rfl)) rfl rfl (fun S μ w vals hI hv=>aSt (by rw[er];exact hp) S μ w vals hI hv) (.cons rfl .refl .nil) ⟨by rw[er];rfl,rfl,trivial⟩ rfl hs7 ?_);rintro S' μ8 hout w' ⟨x,rfl⟩ hI8 hE;exact⟨rfl,S',μ8,⟨_,_,_⟩,⟨hI8,hs7.size,hs7.defers.evolve hE,fun t v e=>aO.evolve hE v _ (hs7.env t v e)⟩,rfl,rfl,rfl,rfl,rfl⟩
 have B:=bF.ok B r;rw[ζ r];have hP1:=aW7 B;rw[er] at hP1;refine Db (aXt mixed hs5 hk5 rfl ?_);refine ak 2 [] rfl (kv (args:=[rP]) hP1 ?_);refine az ?_;intro S6 μ6 Y w6 hk6 y;have hn:=dY hA;by_cases E:(b6 q).kind=6
 case neg=>
  have O:n1 q=⟨q.R,12,(b6 q).pl⟩:=(ζ ⟨r,E⟩).trans (ζ r);have h12:¬(12:Int)=0:=by decide
  rw[O];dsimp only;rw[ξ h12];have d:decide ((b6 q).kind=6)=false:=ψ E;have hmn:=bQ 12 (b6 q).pl;refine Db (qN.wp mixed (qN.ext (Q:=fun e a w'=>((e=pan (tH 12 (b6 q).pl)∧a.defers=[]∧a.tmps.size=38∧∃S' J hout,(∀id o,Go.AM.look hout id=some o→∃o',Go.AM.look [(600,rO l q)] id=some o')∧Go.AM.Inv ⟨w,S,jE μ (Go.AM.look [(9,jO)]),μ,Go.AM.look [(9,jO)]⟩ S' J (iS _ (outs hout)) w'∧Evolve S6 μ6 _ S' J (iS _ (outs hout)))∧Kp 4 (Y.tmps.getD 4 undef) a)∧Kp 17 (.func (.func 80) #[] ⟨[u]⟩) a) ?_ (qN.kp rfl ?_ hk6 (qN.kp rfl ?_ rfl (a0a (v:=tH 12 (b6 q).pl) [(600,rO l q)] [(7,rP)] y rfl ⟨rfl,trivial⟩ rfl ⟨rfl,trivial⟩ rfl rfl rfl ?_)))))
  ·rintro e a' w' ⟨⟨⟨rfl,U,hsz,S',J,hout,hkeys,hI',hE⟩,hk4'⟩,hk17⟩;have hno:∀id,id≠600→Go.AM.look hout id=none:=fun id h6=>by
    cases hl:Go.AM.look hout id with
    | none=>rfl
    | some o=>
     obtain⟨o',ho⟩:=hkeys id o hl;simp[Go.AM.look] at ho;exact absurd ho.1 h6
   have hs7:Sim ⟨w,S,jE μ (Go.AM.look [(9,jO)]),μ,Go.AM.look [(9,jO)]⟩ 38 S' J ⟨Go.AM.look [(4,.one (.vp 4 0)),(17,.one (.clo 80 [.vp 4 0]))],_,[]⟩ a' w':=⟨hI',hsz,U,fun t v ht=>by
    have hm:=bD ht;rcases Au.1 hm with hm | hm
    ·obtain⟨rfl,rfl⟩:=Prod.mk.inj hm;have h1:a'.tmps.getD 4 undef=Y.tmps.getD 4 undef:=hk4';rw[h1];exact aO.evolve hE _ _ (y.env 4 _ rfl)
    ·obtain⟨rfl,rfl⟩:=Prod.mk.inj (A2.1 hm);have h1:a'.tmps.getD 17 undef=Y.tmps.getD 17 undef:=Eq.trans hk17 (Eq.symm hk6);rw[h1]
     exact aO.evolve hE _ _ (y.env 17 _ rfl)⟩
   exact zD (pgO pg) true 12 (b6 q).pl (.panicking [{ v:=tH 12 (b6 q).pl,recovered:=false }]) (.panicking [{ v:=tH 12 (b6 q).pl,recovered:=true }]) rfl hs7 rfl rfl rfl ((i6 _ hout 4).trans (by rw[hno 4 (by decide)];rfl)) ((i6 _ hout 9).trans (by rw[hno 9 (by decide)];rfl)) (.var rfl) hk17 (fun c₀ cs hc=>.inl ⟨rfl,by simp only[recoverD,hc]⟩) (fun k=>by cases k) rfl
  ·rintro⟨a,w,h,_⟩;cases h.1
  ·rintro⟨a,w,h,_⟩;cases h
  refine ak 3 [] rfl (kc hn ?_);refine ak 5 [] rfl (kc hn ?_);refine ak 1 [] rfl ?_;rw[d];refine kpD (.tup []) [] hmn ?_ (hq:=rfl);exact az trivial
 have O:n1 q=q:=ξ fun k=>k.2 E
 rw[O,ζ r,r];have d:decide ((b6 q).kind=6)=true:=φ E;have hmo:=bO 12 (b6 q).pl;refine Db (aXt mixed y hk6 rfl ?_);refine ak 3 [] rfl (kc hn ?_);refine ak 5 [] rfl (kc hn ?_);refine ak 1 [] rfl ?_;rw[d];refine kc hmo ?_;refine az ?_;intro S7 μ7 a7 w7 hk7 hs7;refine Db (aXt mixed hs7 hk7 rfl ?_);refine kz 2 rfl ?_;intro S8 μ8 a8 w8 hk8 hs8;refine wpIn_ret ?_;exact zD (pgO pg) false 0 0 .returning .returning rfl hs8 rfl rfl rfl rfl rfl (.var rfl) hk8 (fun c₀ cs hc=>.inr ⟨rfl,by simp only[recoverD,hc],rfl,rfl,rfl⟩) (fun k=>by cases k) rfl
theorem aAm (s:Str) (e p:Int) (r:¬e=0) (q:b9 Tryz.prog 79 [Go.AM.T s] [] (.tup [.one (.c .nl),atV e p]) []):
  b9 Tryz.prog 35 [Go.AM.T s,.one (.clo 36 [.vp 9 0])] [(9,jO)] (atV e p) [(9,jO)]:=by
 unfold atV at q ⊢;have d0:(!decide (e=0))=true:=by rw[ψ r];rfl
 refine bP (n:=38) tok Tryz.func35 rfl rfl rfl ?_;refine sgh [(0,.id 4)] rfl (sk 1 rfl (kc q ?_));exact kz 6 rfl (aA (sg rfl (aB rfl (fun _=>sg rfl (aE (rtC trw))) (fun hb=>absurd (hb.symm.trans d0) Bool.noConfusion))))
theorem aNd (hX:yR) (s:Str) (q:b9 Tryz.prog 79 [Go.AM.T s] [] (aFu (lexA s)) []) (hC:aTe (cW s).1 (cW s).2.R.length):
  b9 Tryz.prog 35 [Go.AM.T s,.one (.clo 36 [.vp 9 0])] [(9,jO)] (atV (n1 (gQ s).2).e (if(n1 (gQ s).2).e=0 then 0 else(n1 (gQ s).2).p)) [(9,if(gQ s).2.e=0 then pgO (gQ s).1 else jO)]:=by
 obtain⟨r,hwt,hZ,u⟩:=oA s;have y:= @uG s;have B:∀l,lexA s=.ok l→aOp l:=fun l h=>by
  unfold lexA at h;split at h
  ·cases h
  ·exact uE _ _ _ _ h
 unfold gQ;unfold cW at r hwt hZ u hC ⊢;generalize lexA s=w at q r hwt hZ u hC y B ⊢;cases w with
 | error e=>
  obtain⟨e,p⟩:=e;have he:¬e=0:=y rfl;have I:n1 ⟨[gU],e,p⟩=⟨[gU],e,p⟩:=ξ fun k=>he k.1
  dsimp only;rw[ξ he];dsimp only;rw[I];dsimp only;rw[ξ he,ξ he];exact aAm s e p he q
 | ok l=>
  dsimp only at r hwt hZ u hC ⊢;rw[ζ rfl];have E:=aE9 (uP l.length) (aRp hwt hZ (B l rfl) l.length) hX (lM hwt l.length) hZ hwt hC r rfl (le_refl _);obtain⟨g1,_⟩:=n8 (lM hwt l.length) hwt r;exact aE7 s l q _ _ g1 E
theorem aFe (hX:yR) (s:Str) (r:b9 Tryz.prog 79 [Go.AM.T s] [] (aFu (lexA s)) []) (hC:aTe (cW s).1 (cW s).2.R.length):
  b9 Tryz.prog 8 [Go.AM.T s] [] (.tup [.pa (nV (eD s).1),atV (eD s).2.1 (if(eD s).2.1=0 then 0 else(eD s).2.2)]) []:=by
 have hs:=aNd hX s r hC;have q:(n1 (gQ s).2).e=0→(gQ s).2.e=0:=fun h=>by
  unfold n1 at h;split at h
  ·rename_i hc;exact hc.1
  ·exact h
 unfold eD;generalize (gQ s).1=u at hs ⊢;generalize y:(n1 (gQ s).2)=z at hs q ⊢;unfold atV at hs ⊢;by_cases he:z.e=0
 ·rw[ζ he,ζ (q he)] at hs;rw[ζ he];dsimp only;rw[ζ he];have d0:(!decide (z.e=0))=false:=by rw[φ he];rfl
  refine bP (n:=16) tok Tryz.func8 rfl rfl rfl ?_;refine sg rfl (sgh [(0,.id 9)] rfl (sk 2 rfl (kc hs ?_)));exact kz 2 rfl (aA (sg rfl (aB rfl (fun hb=>absurd (hb.symm.trans d0) Bool.noConfusion) (fun _=>aD (sg rfl (aE aGr))))))
 ·rw[ξ he] at hs;rw[ξ he];dsimp only;rw[ξ he];have d0:(!decide (z.e=0))=true:=by rw[ψ he];rfl
  by_cases h1:(gQ s).2.e=0
  ·rw[ζ h1] at hs;refine bP (n:=16) tok Tryz.func8 rfl rfl rfl ?_;refine sg rfl (sgh [(0,.id 9)] rfl (sk 2 rfl (kc hs ?_)));exact kz 2 rfl (aA (sg rfl (aB rfl (fun _=>sg rfl (aE aGr)) (fun hb=>absurd (hb.symm.trans d0) Bool.noConfusion))))
  ·rw[ξ h1] at hs;refine bP (n:=16) tok Tryz.func8 rfl rfl rfl ?_;refine sg rfl (sgh [(0,.id 9)] rfl (sk 2 rfl (kc hs ?_)));exact kz 2 rfl (aA (sg rfl (aB rfl (fun _=>sg rfl (aE aGr)) (fun hb=>absurd (hb.symm.trans d0) Bool.noConfusion))))
def bxL:List Tk:=[⟨4,eqS,0,0⟩,⟨1,[120],0,0⟩,gU]
theorem aXb:yR:=by
 have r:ZA bxL ⟨bxL,0,0⟩:=⟨rfl,⟨[⟨4,eqS,0,0⟩,⟨1,[120],0,0⟩],gU,rfl,rfl⟩,by decide⟩
 have hwt:wt bxL≤30000:=by decide
 have q:aOp bxL:=fun t ht=>by
  intro _;simp only[bxL,Au,not_mem_nil,or_false] at ht;rcases ht with rfl | rfl | rfl<;>rfl
 have hZ:pO bxL:=fun t ht u=>q t ht (by rw[u];decide)
 have hb:=uY (uP 3) (aRp hwt hZ q 3) ⟨1,[120],0,0⟩ 0 r rfl (by decide) (by decide);have he:(cP (fV 3) ⟨1,[120],0,0⟩ 0 ⟨bxL,0,0⟩).2.e=0:=by decide
 have hb:=bF.ok hb he;exact⟨bxL,⟨bxL,0,0⟩,_,⟨1,[120],0,0⟩,_,hb⟩
end Go.Proofs.YtpmheldmadendaaGreatDoor
namespace Go.AM
open Go
section
variable {P:Program}{n:Nat}{o:Oper}{st:St}{d:Nat}{T:TT}
theorem aYh {rd:Rd}{id:Nat}{ao q:AObj}(hd:o.dst=none) (hid:st.h id=some ao) (B:id∈rd.h) (u:ao.succ True q)
  (h:∀st',fR rd st st'→st'.h id=some ao→∀G S μ a w,Sim G n S μ st' a w→∃v w' y b c,(execOp a.eval o).run P w=.ok (.value v) w'∧μ id=some (b,c)∧WChg w w' b y∧
   kL S (upd μ id (some (b,c))) (upd st'.h id (some q)) w' id q∧(∀o v,S.cell b o=some v→∃vs t J,y=.cells vs t J∧vs[o]?=some v)∧(∀m,S.mapo b=some m→w.heap.size≤b)):
  Step P n o st rd ⟨none,[(id,some q)]⟩:=by
 intro st' ha G S μ a w K Q hs M;have r:st'.h id=some ao:=by rw[ha.2 id B,hid]
 obtain⟨v,w',y,b,c,O,hm,hw,hO,hS,E⟩:=h st' ha r G S μ a w hs;refine fun ro=>eY O ?_
 rw[hd];have I:=iI (S:=S) (μ:=μ) r hm u;have hi:=hs.inv.chg (id:=id) (cap:=c) (ao:=q) hw (.inr ⟨ao,c,r,hm⟩) I hO hS E;refine M S (upd μ id (some (b,c))) _ _ ?_;have:=hs.put_none hi I v;unfold Eff.apply;rw[cD];exact this
theorem tU (w:World) (t e ty:TypeId) (z:Value) (ht:P.underlying t=some (.slice e)) (hv:∀w,(zeroValue e).run P w=.ok z w) (E:z.cells= #[z]) (h1:z.oneCell'=true) (b off l c:Nat) (hn:0<l) (vs:List Value) (u:TypeId) (I:w.heap[b]?=some (.cells ⟨vs⟩ u (0,0))) (r:off+l≤vs.length):
  (Builtin.clear_ #[t] ty #[.slice (some ⟨b,off,none⟩) l c]).run P w=.ok (.tuple #[]) (w.setRow b ⟨vs.take off++List.replicate l z++vs.drop (off+l)⟩):=by
 have y:(Builtin.zeroCells z.cells l).toList=List.replicate l z:=by
  rw[E];simp[Builtin.zeroCells];apply List.ext_getElem
  ·simp
  ·intro i h1 h2;simp[Nat.mod_one]
 have q:=run_storeCells_at (P:=P) b off u (List.replicate l z) 0 ⟨vs⟩ w I (by simpa using r) (by intro v B;rw[List.eq_of_mem_replicate B];exact h1);simp only[Cu,C5] at q;obtain⟨m,rfl⟩:∃m,l=m+1:=⟨l-1,by omega⟩
 simp[Builtin.clear_,Am ht,hv,y,q]
theorem aYr {elems:List (List C)}(h:∀r∈elems,r.length=1):elems.flatten.length=elems.length:=by
 induction elems with
 | nil=>rfl
 | cons r l q=>
  rw[Bh,θ,q (fun r u=>h r (A1 _ u)),h r Ba,χ];omega
theorem aE0 {elems:List (List C)}(h:∀r∈elems,r.length=1) (k:Nat):(elems.take k).flatten=elems.flatten.take k:=by
 induction elems generalizing k with
 | nil=>simp
 | cons r l u=>
  cases k with
  | zero=>simp
  | succ k=>
   have q:=h r Ba;rw[A5,Bh,Bh,u (fun r q=>h r (A1 _ q)),List.take_append,q,Nat.add_sub_cancel,Az (l:=r) (i:=k+1) (by omega)]
theorem xH (c:C):∀l:Nat,(List.replicate l [c]).flatten=List.replicate l c
 | 0=>rfl
 | l+1=>by rw[replicate_succ,Bh,xH c l,replicate_succ];rfl
theorem aBp {S:Sto}{c:C}{z:Value}(h:Rep S c z):∀l:Nat,c0 S (List.replicate l c) (List.replicate l z)
 | 0=>by rw[List.replicate_zero,c0];rfl
 | l+1=>by rw[replicate_succ,replicate_succ,c0];exact⟨_,_,rfl,h,aBp h l⟩
theorem aG9 {t e:TypeId}{x:Operand}{te id off len sz:Nat}{elems:List (List C)}{z:Value}{zc:C}(ho:o.op=.call { callee:=.builtin .clear,args:= #[x],argTypes:= #[t] }) (hd:o.dst=none) (hu:P.underlying t=some (.slice e)) (hzero:∀w,(zeroValue e).run P w=.ok z w) (hz:z.cells= #[z]) (U:z.oneCell'=true) (I:∀S,Rep S zc z)
  (hx:(opv st x=some (.one (.tl id off len sz)))∨(opv st x=some (.one (.hs id off len sz))∧off=0)) (hh:st.h id=some (.arr te 1 elems 0)) (hsz:sz=elems.length) (hlen:0<len) (hol:off+len=sz):Step P n o st ⟨opr x,[id]⟩ ⟨none,[(id,some (.arr te 1 (elems.take off++List.replicate len [zc]) 0))]⟩:=by
 have B:(elems.take off++List.replicate len [zc]).length=elems.length:=by rw[θ,An,C5];omega
 refine aYh hd hh (by simp) ⟨rfl,by rw[B];exact le_refl _,fun _=>trivial⟩ fun st' ha r G S μ a w hs=>?_
 obtain⟨b,base,cap,c,u,y⟩:∃b base cap c,μ id=some (b,base,cap)∧(elems.length≤cap→a.eval x=.slice (some ⟨b,base+off,none⟩) len c):=by
  rcases hx with hx | ⟨hx,h0⟩
  ·have hv:=aM hs hx ha.1;simp only[aO,aZ] at hv;obtain⟨_,hv | ⟨Y,aa,elems',ab,h1,h2,J⟩⟩:=hv
   ·rw[r] at hv;cases hv
   rw[r] at h1;cases h1;obtain⟨h4,b,base,cap,u,h6,E⟩:=J hsz;refine⟨b,base,cap,cap-off,u,fun hc=>?_⟩;rw[E,ξ (by omega),mul_one]
  ·have hv:=aM hs hx ha.1;simp only[aO,aZ] at hv;obtain⟨_,hv | ⟨Y,aa,elems',ab,h1,h2,J⟩⟩:=hv
   ·rw[r] at hv;cases hv
   rw[r] at h1;cases h1;obtain⟨h4,⟨u,h6,E⟩ | ⟨b,base,cap,u,E⟩⟩:=J hsz
   ·subst h6;rw[length_nil] at hsz;omega
   ·exact⟨b,base,cap,cap-off,u,fun hc=>by rw[E,mul_one]⟩
 obtain⟨g0,vs,g1,g2,g3,g4,g5,g6,g7⟩:=(hs.inv.obj id _ r).arr u;have y:=y g3;rw[mul_one] at g2 g5;have M:=tU (P:=P) w t e o.type z hu hzero hz U b (base+off) len c hlen vs te g1 (by omega);have hW:=WChg.setRow w b ⟨vs⟩ ⟨vs.take (base+off)++List.replicate len z++vs.drop (base+off+len)⟩ te (0,0) g1;have hfl:=aYr g0;have hrl:=g5.length;refine⟨.tuple #[],_,_,b,(base,cap),?_,u,hW,⟨?_,.inr ⟨b,base,cap,_,aJ _ _ _,hW.new,?_,by rw[B];exact g3,g4,?_,g6,by rw[B];exact g7.1,fun e=>by cases e⟩⟩,fun o v e=>?_,fun m e=>fL g4.2 m e⟩
 ·simp only[execOp,ho,resolve,map_toArray,Ar,Ch,y,Ab,Ac,δ,invoke,builtin,M]
 ·intro q hq;rcases Bk.1 hq with hq | hq
  ·exact g0 q (Cf hq)
  ·rw[List.eq_of_mem_replicate hq];rfl
 ·simp only[θ,An,Bg,C5];omega
 ·rw[B,mul_one,C2,aE0 g0,xH];have e2:((vs.take (base+off)++List.replicate len z++vs.drop (base+off+len)).drop base).take elems.length=((vs.drop base).take elems.length).take off++List.replicate len z:=by
   have hA:(vs.take (base+off)++List.replicate len z++vs.drop (base+off+len)).drop base=(vs.drop base).take off++List.replicate len z++vs.drop (base+off+len):=by
    rw[Ae,Bo (by rw[An];omega),drop_take,show base+off-base=off by omega,Ae]
   rw[hA,take_left' (by rw[θ,An,Bg,C5];omega),take_take,show min off elems.length=off by omega]
  show c0 S _ (((vs.take (base+off)++List.replicate len z++vs.drop (base+off+len)).drop base).take elems.length);rw[e2];exact(g5.take off).append (aBp (I S) len)
 ·by_cases hb:base≤o
  ·rw[g6 rfl o hb] at e;cases e
  ·obtain⟨vs0,t0,fr0,q1,O⟩:=hs.inv.holds.1 b o v e;rw[g1] at q1;cases q1;refine⟨_,_,_,rfl,?_⟩;simp only[Cq] at O ⊢;have hlt:o<vs.length:=(Ai.1 O).1
   rw[Ae,Bc (by simp;omega),Ao,ζ (by omega)];exact O
theorem aQq {t e:TypeId}{i u:TI}{x y:Operand}{te es id len sz:Nat}{kk:IntKind}{elems:List (List C)}{fz:Nat}(U:Tok P T) (ho:o.op=.slice t x (some y) none none) (hd:o.dst=some d) (B:d<n) (hi:T[t]?=some (some i)) (Y:i.k=.sl e) (E:T[e]?=some (some u)) (_:u.size=es)
  (hx:opv st x=some (.one (.hs id 0 len sz))) (hh:st.h id=some (.arr te es elems fz)) (hsz:sz=elems.length) (hlen:1≤len) (hls:len≤sz) (hy:opv st y=some (I kk ((0:Nat):Int))):Step P n o st ⟨opr x++opr y,[id]⟩ ⟨some (d,some (.one (.hs id 0 len sz))),[]⟩:=by
 refine Step.value hd B fun st' ha G S μ a w hs=>?_
 have hv:=aM hs hx fun t ht=>ha.1 t (by simp[ht])
 have J:=dT (aM hs hy fun t ht=>ha.1 t (by simp[ht]));have r:st'.h id=some (.arr te es elems fz):=by rw[ha.2 id (by simp),hh]
 have M:=hv;simp only[aO,aZ] at hv;obtain⟨_,hv | ⟨te',es',elems',fz',h1,h2,h3⟩⟩:=hv
 ·rw[r] at hv;cases hv
 rw[r] at h1;cases h1;obtain⟨h4,⟨h5,q,h7⟩ | ⟨b,base,cap,h5,q⟩⟩:=h3 hsz
 ·subst q;simp at hsz;omega
 rw[zero_mul,Cu,sub_zero] at q;refine⟨a.eval x,?_,M⟩;have O:=aBk (P:=P) U hi Y E w (some ⟨b,base,none⟩) len cap 0 kk (ε _);simp only[execOp,ho,B6,Option.map_none,q,J,Ab,Ac] at O ⊢;rw[O];by_cases hc:cap=0
 ·simp[hc]
 ·simp[hc,Addr.add_mid]
end
end Go.AM
namespace Go.Proofs.YtpmheldmadendaaGreatDoor
open Go Go.AM
set_option maxRecDepth 20000
set_option maxHeartbeats 4000000
theorem aJv (s:Str) (t:Tk):b9 Tryz.prog 146 ([Go.AM.T s]++[R.c (.pt (aG t))].map V.one) [] (B (decide (s=t.text))) []:=by
 refine bP (n:=8) tok Tryz.func146 rfl rfl rfl ?_;exact sg rfl (sg rfl (aE rtT))
def aMv (v:Str) (l:List Str) (m:Nat):Int:=match (l.drop m).findIdx? (fun s=>decide (s=v)) with
 | none=> -1
 | some d=>((m+d:Nat):Int)
theorem aMu (v:Str) (l:List Str):aMv v l l.length= -1:=by unfold aMv;rw[Cc];rfl
theorem aIq (v:Str) {l:List Str}{m:Nat}{s:Str}(h:l[m]?=some s):aMv v l m=if s=v then(m:Int) else aMv v l (m+1):=by
 obtain⟨h1,h2⟩:=Ai.1 h;have hd:=Ay h1;rw[h2] at hd;unfold aMv;rw[hd,List.findIdx?_cons];by_cases hp:s=v
 ·rw[ζ (φ hp),ζ hp];rfl
 ·rw[ξ (by rw[ψ hp];exact ω),ξ hp];cases (l.drop (m+1)).findIdx? _ with
  | none=>rfl
  | some d=>simp;omega
def svA (l:List (List C)) (f:Nat):AObj:=.arr 9 1 l f
theorem aWy (l:List Str) (hl:l.length≤1000000000) (t:Tk):b9 Tryz.prog 186 [hsV 710 l.length,.one (.clo 146 [.c (.pt (aG t))])] [(710,svA (l.map b7) 0)] (I .i64 (aMv t.text l 0)) [(710,svA (l.map b7) 0)]:=by
 have B:(l.map b7).length=l.length:=η _;refine bP (n:=19) tok Tryz.func186 rfl rfl rfl ?_;refine sg rfl (aA (sg rfl (aF (aK (fun i:Nat=>mk [(0,hsV 710 l.length),(1,.one (.clo 146 [.c (.pt (aG t))])),(7,I .i64 (l.length:Int)),(8,I .i64 i)] [(710,svA (l.map b7) 0)]) (fun i=>i≤l.length∧aMv t.text l 0=aMv t.text l i) (fun i=>l.length-i) 0 ⟨ε _,rfl⟩ sl ?_))));intro i ⟨hi,hid⟩;refine sg rfl (aA (aB rfl (fun hb=>?_) (fun hb=>?_)))
 ·have q:i<l.length:=by have:=κ hb;omega
  obtain⟨x,r⟩:=aL q;have y:=aT b7 r;have hc:=aJv x t;rw[aIq _ r] at hid;refine aD (aA (aF (sg rfl (skh 5 [(4,.row i (b7 x))] rfl (kv (args:=[Go.AM.T x]) hc ?_)))));refine az (aB rfl (fun hb=>?_) (fun hb=>?_))
  ·rw[ζ (κ hb)] at hid;rw[hid];exact sg rfl (aE rtT)
  ·rw[ξ (Af hb)] at hid;exact aD (ag [] rfl ⟨i+1,⟨q,hid⟩,by dsimp only;omega,sl⟩)
 have u:i=l.length:=by have:=Af hb;omega
 subst u;rw[aMu] at hid;rw[hid];exact aH (sg rfl (aE rtT))
def dl (v:Str) (l:List Str):List Str:=l.filter (fun s=>!decide (s=v))
theorem aZl (v:Str) (l:List Str):(dl v l).length≤l.length:=C8 _ _
theorem aI1 {v:Str}{l:List Str}(h:∀s∈l,¬s=v):dl v l=l:=filter_eq_self.2 fun s hs=>by rw[ψ (h s hs)];rfl
theorem aI0 {v:Str}{l:List Str}{i:Nat}{x:Str}(h:l[i]?=some x):dl v (l.take (i+1))=if x=v then dl v (l.take i) else dl v (l.take i)++[x]:=by
 unfold dl;rw[Bf,h,filter_append];by_cases hx:x=v
 ·rw[ζ hx];show _++List.filter _ [x]=_;rw[B9,ξ (by rw[φ hx];decide)];simp
 ·rw[ξ hx];show _++List.filter _ [x]=_;rw[B9,ζ (by rw[ψ hx];rfl)];rfl
def aFw (v:Str) (l:List Str):List (List C):=(dl v l).map b7++List.replicate (l.length-(dl v l).length) [.str []]
theorem aJu (l:List Str) (hl:l.length≤1000000000) (t:Tk):b9 Tryz.prog 145 [hsV 710 l.length,.one (.clo 146 [.c (.pt (aG t))])] [(710,svA (l.map b7) 0)] (.one (.c (.sl 1 ((dl t.text l).map b7)))) [(710,svA (aFw t.text l) 2)]:=by
 have ab:(l.map b7).length=l.length:=η _;have B:=aWy l hl t;unfold aMv at B;rw[B5] at B;refine bP (n:=42) tok Tryz.func145 rfl rfl rfl ?_;refine sg rfl (sk 2 rfl (kc B ?_));refine kz 1 rfl ?_;cases hf:l.findIdx? (fun s=>decide (s=t.text)) with
 | none=>
  have ac:∀s∈l,¬s=t.text:=fun s hs he=>by
   have:=(List.findIdx?_eq_none_iff.1 hf) s hs;rw[φ he] at this;cases this
  have e1:aFw t.text l=l.map b7:=by
   unfold aFw;rw[aI1 ac,Cg,List.replicate_zero,A3]
  rw[e1,aI1 ac];dsimp only;refine aA (sg rfl (aB rfl (fun _=>AWp.sub (Sub.freeze (id:=710) rfl) ?_) (fun hb=>Bool.noConfusion hb)));exact sg rfl (aE (rtH (hsz:=ab.symm) (hlen:=ab.symm)))
 | some d=>
 obtain⟨M,ad,ae⟩:=Cs.1 hf;have af:l[d]?=some t.text:=by rw[Cy M,κ ad]
 have ah:dl t.text (l.take d)=l.take d:=aI1 fun s hs he=>by
  obtain⟨j,hj1,ai⟩:=List.mem_iff_getElem.1 hs;rw[An] at hj1;rw[List.getElem_take] at ai;exact ae j (by omega) (by rw[ai];exact φ he)
 have O:dl t.text (l.take (d+1))=l.take d:=by rw[aI0 af,ζ rfl,ah]
 dsimp only;rw[Bj];have dn:decide (((d:Nat):Int)= -1)=false:=ψ (by omega);refine aA (sg rfl (aB rfl (fun hb=>absurd (hb.symm.trans dn) Bool.noConfusion) (fun _=>aD (aA (aA (agN [] rfl (aF (aK (fun q:List Str×Nat×Nat=>mk [(0,hsV 710 l.length),(1,.one (.clo 146 [.c (.pt (aG t))])),(5,I .i64 (q.2.1:Nat)),(6,I .i64 (q.2.2:Nat))] [(710,svA (q.1.map b7) 0)]) (fun q=>q.1.length=l.length∧q.2.1<q.2.2∧q.2.2≤l.length∧q.1.take q.2.1=dl t.text (l.take q.2.2)∧q.1.drop q.2.2=l.drop q.2.2) (fun q=>l.length-q.2.2) (l,d,d+1) ⟨rfl,by dsimp only;omega,M,O.symm,rfl⟩ sl ?_))))))));clear B O ah af M ad ae hf dn;rintro⟨R,k,i⟩ ⟨u,hki,hi,ht,U⟩;dsimp only at u hki hi ht U ⊢;have E:(R.map b7).length=R.length:=η _;refine aA (sg rfl (aB rfl (fun hb=>?_) (fun hb=>?_)))
 ·have Y:i<l.length:=by have:=κ hb;omega
  obtain⟨x,hx⟩:=aL Y;have hRx:R[i]?=some x:=by
   have h1:(R.drop i)[0]?=(l.drop i)[0]?:=by rw[U]
   rw[Ap,Ap,Cu] at h1;rw[h1,hx]
  obtain⟨y,hy⟩:=aL (l:=R) (k:=k) (by omega);have hRx':=aT b7 hRx;have hy':=aT b7 hy;have hc:=aJv x t;have J:=aI0 (v:=t.text) hx;have aa:R.drop (i+1)=l.drop (i+1):=by
   rw[←C1,←C1,U]
  refine aD (aA (aF (sgh [(3,.row i (b7 x))] rfl (sk 2 rfl (kv (args:=[Go.AM.T x]) hc ?_)))));refine kz 1 rfl (aB rfl (fun hb=>?_) (fun hb=>?_))
  ·have hne:¬x=t.text:=fun e=>by rw[φ e] at hb;cases hb
   rw[ξ hne] at J;have hs1:(R.map b7).set k (b7 x)=(R.set k x).map b7:=by rw[map_set]
   refine sgh [(4,.row k (b7 y))] rfl (agN [] rfl (agN [] rfl ⟨(R.set k x,k+1,i+1),⟨by dsimp only;rw[Cx,u],by dsimp only;omega,Y,?_,?_⟩,by dsimp only;omega,sl (hh:=⟨⟨_,rfl,.arrS hs1⟩,trivial⟩)⟩))
   ·dsimp only;rw[J,←ht,Bf,List.getElem?_set_self (by omega),List.take_set_of_le (by omega)];rfl
   ·dsimp only;rw[List.drop_set_of_lt (by omega),aa]
  ·have he:x=t.text:=by
    by_cases he:x=t.text
    ·exact he
    ·rw[ψ he] at hb;cases hb
   rw[ζ he] at J;exact aD (agN [] rfl ⟨(R,k,i+1),⟨u,by dsimp only;omega,Y,by dsimp only;rw[J,ht],aa⟩,by dsimp only;omega,sl⟩)
 have hge:i=l.length:=by have:=Af hb;omega
 subst hge;rw[Ax] at ht;have hk:(dl t.text l).length=k:=by rw[←ht,An];omega
 have r:(R.map b7).take k++List.replicate (l.length-k) [.str []]=aFw t.text l:=by
  unfold aFw;rw[hk,←ht,List.map_take]
 have htk:(aFw t.text l).take k=(dl t.text l).map b7:=by
  unfold aFw;rw[take_left' (by rw[η,hk])]
 have aj:(aFw t.text l).length=l.length:=by
  unfold aFw;rw[θ,η,C5,hk];omega
 refine aH (aA (AWp.cut (mk [(0,hsV 710 l.length),(5,I .i64 (k:Nat))] [(710,svA (aFw t.text l) 0)]) ?_ ?_))
 ·refine aC mixed (ak 2 [] rfl ?_);by_cases h0:k=0
  ·subst h0;refine k_ (g_ rfl rfl (aQq tok rfl rfl (j8 rfl) (tg rfl) rfl (tg rfl) rfl rfl (by omega) (by omega) rfl (hh:=rfl) (hsz:=by rw[E,u]))) ?_;refine k_ (g_ rfl rfl (aG9 (e:=9) (z:=.string ⟨#[]⟩) (zc:=.str []) rfl rfl (by kernel_rfl) (fun w=>by kernel_rfl) rfl rfl (fun S=>by rw[Rep]) (.inr ⟨rfl,rfl⟩) rfl (by rw[E,u]) (by omega) (by omega))) ?_;refine az ?_;rw[sub_zero] at r;exact sl (hh:=⟨⟨_,rfl,.arrS r⟩,trivial⟩)
  ·refine k_ (g_ rfl rfl (aUm k tok rfl rfl (j8 rfl) (tg rfl) rfl (tg rfl) rfl rfl (hh:=rfl) (hsz:=by rw[E,u]) (hlen:=rfl) (hy:=rfl) (hl:=⟨by omega,by omega⟩))) ?_;refine k_ (g_ rfl rfl (aG9 (e:=9) (z:=.string ⟨#[]⟩) (zc:=.str []) rfl rfl (by kernel_rfl) (fun w=>by kernel_rfl) rfl rfl (fun S=>by rw[Rep]) (.inl rfl) rfl (by rw[E,u]) (by omega) (by omega))) ?_;exact az (sl (hh:=⟨⟨_,rfl,.arrS r⟩,trivial⟩))
 have hkd:k≤(aFw t.text l).length:=by omega
 refine AWp.sub (Sub.freeze (id:=710) rfl) ?_;refine AWp.sub (cv 0 (aFw t.text l) (h1:=aj.symm) (h2:=aj.symm)) ?_;refine sg rfl ?_;rw[htk];exact aE rtT
def hs7 (l:List Str):V:=.one (.hs 710 0 l.length l.length)
def sv7 (l:List Str):AObj:=.arr 9 1 (l.map b7) 0
theorem aNl (l:List Str) (s:Str) (h:l.length≤600000000000):b9 Tryz.prog 214 [.one (.hs 710 0 l.length l.length),Go.AM.T s] [(710,.arr 9 1 (l.map b7) 0)] (I .i64 (aAe s l 0)) [(710,.arr 9 1 (l.map b7) 0)]:=by
 refine bP (n:=19) tok Tryz.func214 rfl rfl rfl ?_;refine sg rfl (aA (sg rfl ?_));have u:(l.map b7).length=l.length:=η _;refine aF (aK (fun i:Nat=>mk [(0,.one (.hs 710 0 l.length l.length)),(1,Go.AM.T s),(7,I .i64 (l.length:Int)),(8,I .i64 i)] [(710,.arr 9 1 (l.map b7) 0)]) (fun i=>i≤l.length∧aAe s l 0=aAe s (l.drop i) i) (fun i=>l.length-i) 0 ⟨ε _,rfl⟩ sl ?_);intro i ⟨hi,he⟩;refine sg rfl (aA (aB rfl (fun hb=>?_) (fun hb=>?_)))
 ·have q:i<l.length:=by have:=κ hb;omega
  obtain⟨x,hx⟩:=aL q;have y:=aT b7 hx;have hd:l.drop i=x::l.drop (i+1):=by rw[Ay q,(Ai.1 hx).2]
  rw[hd,aAe] at he;refine aD (aA (aF (sg rfl (sgh [(4,.row i (b7 x))] rfl (aB rfl (fun hb=>?_) (fun hb=>?_))))))
  ·have hs:s=x:=κ hb;rw[ζ hs] at he;rw[he];exact sg rfl (aE rtT)
  ·have hs:¬s=x:=Af hb;rw[ξ hs] at he;exact aD (ag [] rfl ⟨i+1,⟨q,he⟩,by dsimp only;omega,sl⟩)
 ·have r:i=l.length:=by have:=Af hb;omega
  subst r;rw[Cc,aAe] at he;rw[he];exact aH (sg rfl (aE rtT))
theorem aAr (l:List Str) (s:Str) (h:l.length≤600000000000):b9 Tryz.prog 179 [.one (.hs 710 0 l.length l.length),Go.AM.T s] [(710,.arr 9 1 (l.map b7) 0)] (B (decide (s∈l))) [(710,.arr 9 1 (l.map b7) 0)]:=by
 have hi:=aNl l s h;refine bP (n:=9) tok Tryz.func179 rfl rfl rfl ?_;refine sg rfl (sk 2 rfl (kc hi ?_));refine kz 2 rfl ?_;rw[←uO s l 0 (by omega)];exact aE rtT
def aTm (s:Sch):List AM.R:=[.hs 710 0 s.vars.length s.vars.length,.c .nl,.c (.sl 5 (s.preds.map aN)),.c (.int .i64 s.ty.form),.c (.int .i64 s.ty.n),.c (.str s.ty.name),.c (.sl 4 (dC s.ty))]
theorem aFc (L:List Tk) (hZ:pO L) (R:List Tk) (i:Nat) (Y:At L i R) (hwt:wt L≤30000) {s:Sch}{R':List Tk}(hok:cH R=.ok (s,R')):b9 Tryz.prog 185 [oN L,I .i64 (i:Nat)] [] (.tup [.ma (aTm s),I .i64 ((L.length-R'.length:Nat):Int),atV 0 0]) [(710,svA (s.vars.map b7) 0)]:=by
 have hp:=uZ L hZ R i Y;have ad:= @mB R;have an:= @iB R;unfold cH at hok;refine bP (n:=74) tok Tryz.func185 rfl rfl rfl ?_;refine sg rfl (sk 2 rfl (kc hp ?_));generalize cR R=w at ad an hok ⊢;cases w with
 | error e=>
  obtain⟨e,p⟩:=e;rw[qW] at hok;cases hok
 | ok y=>
 obtain⟨ps,R1⟩:=y;obtain⟨k1,⟨q,k2,_⟩,k3,k4⟩:=ad rfl;obtain⟨ae,hn1⟩:=Y.to k2 (k1 Y.e);rw[qW] at hok;rw[oT,hn1];generalize i+q.length=j at ae;have hty:=aC3 L hZ R1 j ae;have af:=fS (3*R1.length+2) 0 R1;have hte:=eC (3*R1.length+2) 0 R1;have aa:wt R≤30000:=by
  have:L=L.take i++R:=by rw[←Y.d,take_append_drop]
  rw[this] at hwt;exact le_trans nI hwt
 have hwtR1:wt R1≤30000:=by rw[k2] at aa;exact le_trans nI aa
 have hRl:=Y.lt;have hLl:=Y.l;unfold atV;refine kz 8 rfl (aA (sg rfl (aB rfl (fun hb=>absurd hb (by decide)) (fun _=>aD (sk 2 rfl (kc hty ?_))))));generalize bX (3*R1.length+2) 0 R1=w at af hte hok ⊢;cases w with
 | error e=>
  obtain⟨e,p⟩:=e;rw[nL] at hok;cases hok
 | ok y=>
 obtain⟨x,R2⟩:=y;obtain⟨hT,hTn⟩:=af x R2 rfl;rw[nL] at hok;cases hok;rw[kF];unfold aTm;unfold atV;dsimp only;generalize ((L.length-R'.length:Nat):Int)=m;refine kz 8 rfl (aA (sg rfl (aB rfl (fun hb=>absurd hb (by decide)) (fun _=>aD (sg rfl ?_)))));have hsv:aTl ps x=gP [] (ps++[(⟨[],x⟩:Prd)]):=by rw[aAb];rfl
 rw[hsv];have J:∀p∈ps++[(⟨[],x⟩:Prd)],WF p.ty∧tn p.ty≤30000:=fun p hp=>by
  rcases Bk.1 hp with hp | hp
  ·exact⟨(k3 p hp).1,by have:=(k3 p hp).2;omega⟩
  ·rw[A2.1 hp];exact⟨hT.w,by show tn x≤30000;omega⟩
 have hcl:=o8 (ps.map aN) (by rw[η];omega);have hkl:(ps.map aN).length=ps.length:=η _;have U:ps.map aN++[[.str [],.int .i64 x.form,.int .i64 x.n,.str x.name,.sl 4 (dC x)]]=(ps++[(⟨[],x⟩:Prd)]).map aN:=by rw[Al];rfl
 have ah:(ps++[(⟨[],x⟩:Prd)]).length=ps.length+1:=by rw[θ];rfl
 generalize ps++[(⟨[],x⟩:Prd)]=u at J U ah ⊢;have hqe:(u.map aN).length=u.length:=η _;refine aA (sk 1 rfl (kc hcl ?_));refine ak 6 [(4,.all),(5,.fz)] rfl (az (AWp.sub (Sub.own (t:=10) (id:=710) 9 1 rfl rfl) ?_));have E:∀r:List C,(ps.map aN).length+[r].length=u.length:=fun r=>by rw[hkl,ah];rfl
 refine aF (aK (fun k:Nat=>mk [(1,I .i64 m),(4,.one (.vp 4 0)),(6,.one (.vp 6 0)),(7,.one (.c (.sl 5 (ps.map aN)))),(9,.one (.vp 9 0)),(10,hs7 (gP [] (u.take k))),(44,.one (.hs 720 0 u.length u.length)),(45,I .i64 (u.length:Nat)),(46,I .i64 (k:Nat))] [(4,.var 59 aK3),(6,.var 32 [.c (.int .i64 0),.c (.int .i64 0)]),(9,.var 47 ((bR x).map .c)),(710,sv7 (gP [] (u.take k))),(720,.arr 113 5 (u.map aN) 2)]) (fun k=>k≤u.length) (fun k=>u.length-k) 0 (ε _) (sl (he:=⟨rfl,rfl,rfl,rfl,rfl,rfl,Go.AM.hs_ren (E _) (E _),Go.AM.int_eq (congrArg Int.ofNat (E _)),rfl,trivial⟩) (hh:=⟨⟨_,rfl,.var rfl⟩,⟨_,rfl,.var rfl⟩,⟨_,rfl,.var rfl⟩,⟨_,rfl,.arrS rfl⟩,⟨_,rfl,.arrS U⟩,trivial⟩)) ?_);intro k hk;have hgl:(gP [] (u.take k)).length≤4002*30000:=by
  have h1:=xD (W:=30000) (u.take k) [] (fun p hp=>(J p (Cf hp)).2);rw[An,length_nil] at h1;have:min k u.length*30000≤4002*30000:=A0 _ (by omega);omega
 refine sg rfl (aA (aB rfl (fun hb=>?_) (fun hb=>?_)))
 ·have ai:k<u.length:=by have:=κ hb;omega
  obtain⟨p,hp⟩:=aL ai;have hp':=aT aN hp;have hpm:=J p (τ hp);have aj:=aC8 p.ty (by have:=aV1 p.ty;omega);have htf:=nJ p.ty;have ab:=aAa hp;generalize gP [] (u.take k)=o at hgl ab ⊢;generalize tfR p.ty=l at aj htf ab ⊢;have al:(l.map b7).length=l.length:=η _;refine aD (aA (aF (sgh [(1,.row k (aN p))] rfl (sk 2 rfl (kc aj ?_)))));refine kz 2 rfl (aF (aK (fun j:Nat=>mk [(1,I .i64 m),(4,.one (.vp 4 0)),(6,.one (.vp 6 0)),(7,.one (.c (.sl 5 (ps.map aN)))),(9,.one (.vp 9 0)),(10,hs7 (eX o (l.take j))),(44,.one (.hs 720 0 u.length u.length)),(45,I .i64 (u.length:Nat)),(46,I .i64 (k:Nat)),(52,cJ l),(53,I .i64 ((l.map b7).length:Nat)),(54,I .i64 (j:Nat))] [(4,.var 59 aK3),(6,.var 32 [.c (.int .i64 0),.c (.int .i64 0)]),(9,.var 47 ((bR x).map .c)),(710,sv7 (eX o (l.take j))),(720,.arr 113 5 (u.map aN) 2)]) (fun j=>j≤l.length) (fun j=>l.length-j) 0 (ε _) sl ?_));intro j hj;refine sg rfl (aA (aB rfl (fun hb=>?_) (fun hb=>?_)))
  ·have O:=ltD hb al;obtain⟨s,hs⟩:=aL O;have hs':=aT b7 hs;have B:eX o (l.take (j+1))=oI (eX o (l.take j)) s:=by rw[Bf,hs,qD];rfl
   have hml:(eX o (l.take j)).length≤1000000000:=by
    have:=jZ (l.take j) o;rw[An] at this;omega
   have am:=aAr (eX o (l.take j)) s (by omega);generalize eX o (l.take j)=M at B hml am ⊢;have hml':(M.map b7).length=M.length:=η _;refine aD (aA (aF (sgh [(0,.row j (b7 s))] rfl (sk 2 rfl (kc am ?_)))));refine kz 1 rfl (aB rfl (fun hb=>?_) (fun hb=>?_))
   ·have hm:¬s∈M:=fun h=>by rw[φ h] at hb;cases hb
    unfold oI at B;rw[ξ hm] at B;refine ag [(2,.all)] rfl (ag [] rfl ⟨j+1,O,by dsimp only;omega,?_⟩);dsimp only;rw[B];exact sl
   ·have hm:s∈M:=by
     by_cases h:s∈M
     ·exact h
     ·rw[ψ h] at hb;cases hb
    unfold oI at B;rw[ζ hm] at B;refine aD (ag [] rfl ⟨j+1,O,by dsimp only;omega,?_⟩);dsimp only;rw[B];exact sl
  ·have ac:=geD hb al hj;subst ac;rw[Ax];refine aH (ag [] rfl ⟨k+1,ai,by dsimp only;omega,?_⟩);dsimp only;rw[ab];exact sl
 ·have ac:k=u.length:=by have:=Af hb;omega
  subst ac;rw[Ax];exact aH (sg rfl (aE jT))
theorem aNb (s:Str):b9 Tryz.prog 111 [Go.AM.T s] [] (tyV (.mk 2 0 s [])) []:=by
 refine bP (n:=5) tok Tryz.func111 rfl rfl rfl ?_;exact sg rfl (sg rfl (aE (rtC trw)))
theorem aAo {L:List Tk}{z:Z}(h:ZA L z) (hZ:pO L) (hwt:wt L≤30000) {s:Sch}{R':List Tk}(hok:cH z.R=.ok (s,R')):b9 Tryz.prog 144 [rP] [(600,rO L z)] (.ma (aTm s)) [(600,rO L ⟨R',z.e,z.p⟩),(710,sv7 s.vars)]:=by
 have q:=aFc L hZ z.R _ h hwt hok;have hm:=bO 0 0;unfold atV aTm at q;unfold aTm;refine bP (n:=35) tok Tryz.func144 rfl rfl rfl ?_;refine sg rfl (sk 10 rfl (kc q ?_));refine kz 9 rfl (sk 7 rfl (kc hm ?_));exact az (sg rfl (sg rfl (aE (rtC trw))))
def aEx (nm v:Tk) (sup:List Str) (ms:List Sg):List (Nat×AObj):=[(1,pR),(6,.var 90 [.c (.str nm.text),.c (.int .i64 nm.pl),.c (.str v.text),.c .nl,.c (.sl 1 (sup.map b7)),.hs 530 0 ms.length ms.length]),(530,.arr 92 9 (ms.map cI) 0)]
def clS (nm v:Tk) (s:List Sg) (z:Z):List Sg×Z:=(s++[(iV nm.text v.text z).1],c8 (s++[(iV nm.text v.text z).1]).length 16 nm.pl (iV nm.text v.text z).2)
theorem aW4 {L:List Tk}(hZ:pO L) (hwt:wt L≤30000) (nm v:Tk) (sup:List Str) (ms:List Sg) {z:Z}(h:ZA L z) (he:z.e=0) (h2:ms.length≤4001):
  bF Tryz.prog 143 ([]++[R.vp 1 0,R.c (.pt (aG v)),R.vp 6 0,R.c (.pt (aG nm))].map V.one) ((600,rO L z)::aEx nm v sup ms) (gT L (.tup []) (clS nm v ms z).2 (aEx nm v sup (clS nm v ms z).1)):=by
 have hmk:(ms.map cI).length=ms.length:=η _;unfold clS iV;dsimp only;have hw:=iM h he 1 (by decide);have g1:=h.word (k:=1) (by decide);generalize aS 1 z=w at hw g1 ⊢;obtain⟨u,z1⟩:=w;dsimp only at hw g1 ⊢;refine nT (n:=50) tok Tryz.func143 rfl rfl rfl rfl ?_;by_cases r:z1.e=0
 case neg=>
  have hp:=bF.err hw r;rw[bJ r,tF r];dsimp only;rw[eG r,aI r];exact sk 1 rfl (kp hp)
 have hw:=bF.ok hw r;refine sk 1 rfl (kc hw ?_);refine ak 2 [(2,.id 41)] rfl (az ?_);have B:=dG g1 r dR;have g2:=g1.need dR;generalize aQ dR z1=z2 at B g2 ⊢;by_cases q:z2.e=0
 case neg=>
  have hp:=bF.err B q;rw[tF q];dsimp only;rw[eG q,aI q];exact sk 1 rfl (kp hp)
 have B:=bF.ok B q;refine sk 1 rfl (kc B ?_);refine az ?_;have E:=mI g2 q hZ hwt;have J:= @aAo L z2 g2 hZ hwt;have I:=gY g2 hwt;unfold bK at E I ⊢;rw[ζ q] at E I;simp only[ζ q];cases O:cH z2.R with
 | error e=>
  obtain⟨e,p⟩:=e;rw[O] at E;have Y:=qV O;dsimp only[aUi] at E ⊢;have hp:=bF.err (z:=⟨z2.R,e,p⟩) E Y;rw[eG (show ¬(Z.mk z2.R e p).e=0 from Y),aI (show ¬(Z.mk z2.R e p).e=0 from Y)];exact sk 1 rfl (kp hp)
 | ok y=>
 obtain⟨s,R'⟩:=y;rw[O] at I;have J:=J O;dsimp only[aUi] at I ⊢;obtain⟨k1,k2,_,_⟩:=I;unfold aTm sv7 at J;have aa:=aJu s.vars (by have:=k2.v;omega) v;unfold svA at aa;have htv:b9 Tryz.prog 111 [Go.AM.T v.text] [] (.pa [.int .i64 2,.int .i64 0,.str v.text,.sl 4 []]) []:=aNb v.text;have hq1:((dl v.text s.vars).map b7).length=(dl v.text s.vars).length:=η _;have hq2:=aZl v.text s.vars;have hq3:=k2.v;have hq4:(s.preds.map aN).length=s.preds.length:=η _;have hq5:=k2.l;refine sk 1 rfl (kc J ?_);refine ak 2 [(2,.id 42)] rfl (az (skh 6 [(2,.id 540)] rfl (kc aa ?_)));refine kz 3 rfl (sk 4 rfl (kc htv ?_));refine ak 7 [(6,.id 541)] rfl (az (AWp.sub (Sub.freeze (id:=540) rfl) ?_));refine AWp.sub (Sub.freeze (id:=541) rfl) ?_;have hv1:[[C.str v.text]]++(dl v.text s.vars).map b7=(rD nm.text v.text s).vars.map b7:=rfl;have hv2:[[C.str nm.text,.int .i64 2,.int .i64 0,.str v.text,.sl 4 []]]++s.preds.map aN=(rD nm.text v.text s).preds.map aN:=rfl;refine AWp.sub (vp 42 (fH (rD nm.text v.text s)) (hp:=.hs rfl (by rw[θ]) (hv1.symm.trans (Go.AM.take_all (by rw[θ]))) (.c .nl (.hs rfl (by rw[θ]) (hv2.symm.trans (Go.AM.take_all (by rw[θ]))) (.c .refl (.c .refl (.c .refl (.c .refl .nil)))))))) ?_;have U:ms.map cI++[cI ⟨u.text,u.pl,rD nm.text v.text s⟩]=(ms++[(⟨u.text,u.pl,rD nm.text v.text s⟩:Sg)]).map cI:=by rw[Al];rfl
 have hle:(ms++[(⟨u.text,u.pl,rD nm.text v.text s⟩:Sg)]).length=ms.length+1:=by rw[θ];rfl
 refine sgh [(8,.all)] rfl ?_;generalize ms++[(⟨u.text,u.pl,rD nm.text v.text s⟩:Sg)]=M at U hle ⊢;refine AWp.sub (st2:=mk [(0,.one (.vp 1 0)),(1,.one (.c (.pt (aG v)))),(2,.one (.vp 6 0)),(3,.one (.c (.pt (aG nm))))] ((600,rO L ⟨R',z2.e,z2.p⟩)::aEx nm v sup M)) (sl (hh:=⟨⟨_,rfl,.var rfl⟩,⟨_,rfl,.var rfl⟩,⟨_,rfl,.var (by rw[hle,←hmk];rfl)⟩,⟨_,rfl,.arrS U⟩,trivial⟩)) ?_;by_cases hM:M.length≤16
 case neg=>
  have d:decide (((M.length:Nat):Int)≤16)=false:=ψ (by omega);have hm:=bQ 2 nm.pl;rw[gF hM (show(Z.mk R' z2.e z2.p).e=0 from q),aI cQ];refine aC mixed (ak 6 [] rfl ?_);rw[d];exact kp hm
 have d:decide (((M.length:Nat):Int)≤16)=true:=φ (by omega);have hm:=bO 2 nm.pl;rw[gE hM,bB (show(Z.mk R' z2.e z2.p).e=0 from q)];refine aC mixed (ak 6 [] rfl ?_);rw[d];refine kc hm ?_;exact az rtN
theorem uB (nm v:Tk):∀(f n:Nat) (out:List Sg) (z:Z),dQ nm.text v.text nm.pl f n out z=lpZ aV (clS nm v) f n out z
 | 0,_,_,_=>rfl
 | f+1,n,out,z=>by
  rw[dQ,lpZ];split
  ·exact uB nm v f _ _ _
  ·rfl
theorem tE {v:Str}{a:Int}{l:List Prd}{out:List Str}{z:Z}(h:¬z.e=0):(bY v a l out z).2=z:=by
 cases l with
 | nil=>rfl
 | cons p l=>rw[bY,ξ h]
theorem nE {y:List Prd×Tk×Tk×Z}(h:¬y.2.2.2.e=0):aQ aV (jM y (fY y)).2=y.2.2.2:=by
 have h1:(fY y).2=y.2.2.2:=by unfold fY;dsimp only;rw[tE h];exact bJ h
 unfold jM;rw[uB,gL (by rw[h1];exact h),h1];exact bJ h
theorem aSa (nm v:Tk) (sup:List Str) {step:(List Sg)→Z→(List Sg)×Z}{Inv:Nat→(List Sg)→Prop}{L:List Tk}{N:Nat}
  (hone:∀n s z,Inv n s→n<60→ZA L z→z.e=0→z.R.length≤N→bF Tryz.prog 143 ([]++[R.vp 1 0,R.c (.pt (aG v)),R.vp 6 0,R.c (.pt (aG nm))].map V.one) ((600,rO L z)::aEx nm v sup s) (gT L (.tup []) (step s z).2 (aEx nm v sup (step s z).1)))
  (hst:∀n s z,Inv n s→n<60→ZA L z→z.e=0→ZA L (step s z).2∧Inv (n+1) (step s z).1∧((step s z).2.e=0→(step s z).2.R.length<z.R.length)∧Ze z (step s z).2)
  {z:Z} (h:ZA L z) (he:z.e=0) (hN:z.R.length≤N) {s:(List Sg)} (hI:Inv 0 s):
  bF Tryz.prog 83 [rP,.one (.clo 184 [R.vp 2 0]),.one (.clo 143 [R.vp 1 0,R.c (.pt (aG v)),R.vp 6 0,R.c (.pt (aG nm))])] ((600,rO L z)::(2,pR)::aEx nm v sup s) (gT L (.tup []) (lpZ aV step (z.R.length+1) 0 s z).2 ((2,pR)::aEx nm v sup (lpZ aV step (z.R.length+1) 0 s z).1)):=by
 have r:∃W,W=lpZ aV step (z.R.length+1) 0 s z:=⟨_,rfl⟩
 obtain⟨W,r⟩:=r;rw[←r];refine nT (n:=35) tok Tryz.func83 rfl rfl rfl rfl ?_;refine sg rfl (aF (aK (fun q:Nat×(List Sg)×Z×Nat=>mk [(0,rP),(1,.one (.clo 184 [R.vp 2 0])),(2,.one (.clo 143 [R.vp 1 0,R.c (.pt (aG v)),R.vp 6 0,R.c (.pt (aG nm))])),(6,I .i64 (q.1:Nat))] ((600,rO L q.2.2.1)::(2,pR)::aEx nm v sup q.2.1)) (fun q=>Inv q.1 q.2.1∧q.1≤60∧ZA L q.2.2.1∧q.2.2.1.e=0∧q.2.2.1.R.length≤N∧q.2.2.1.R.length<q.2.2.2∧moreA aV q.1 q.2.2.1=q.2.2.1∧W=lpZ aV step q.2.2.2 q.1 q.2.1 q.2.2.1) (fun q=>q.2.2.1.R.length) (0,s,z,z.R.length+1) ⟨hI,ε _,h,he,hN,Bt _,rC _ _,r⟩ sl ?_));clear r h he hN hI;rintro⟨n,s,z,f⟩ ⟨hI,hn,h,he,hN,hf,hA,r⟩;dsimp only at hI hn h he hN hf hA r;refine aF (aA (aF (aK (fun y:Z=>mk [(0,rP),(1,.one (.clo 184 [R.vp 2 0])),(2,.one (.clo 143 [R.vp 1 0,R.c (.pt (aG v)),R.vp 6 0,R.c (.pt (aG nm))])),(6,I .i64 (n:Nat))] ((600,rO L y)::(2,pR)::aEx nm v sup s)) (fun y=>ZA L y∧y.e=0∧cL z=cL y∧y.R.length≤z.R.length) (fun y=>y.R.length) z ⟨h,he,rfl,le_refl _⟩ sl ?_)));rintro y ⟨h2,B,e2,hle2⟩

 have hm:=fJ h2 B bN;obtain⟨m1,m2,m3⟩:=mE h2;have O:=h2.may bN;have he3:=(iW bN y).trans B;generalize bT bN y=m at hm m1 m2 m3 O he3;obtain⟨b,z3⟩:=m;dsimp only at m1 m2 m3 O he3;refine aA (sk 1 rfl (kc hm ?_));refine az (aB rfl (fun hb=>?_) (fun hb=>?_))
 ·have hb:b=true:=hb;have:=m3 hb;exact aD (aF (aD ⟨z3,⟨O,he3,e2.trans m1.symm,by omega⟩,m3 hb,sl⟩))
 have hb:b=false:=hb;obtain⟨g1,g2⟩:=m2 hb;subst g1;have e3:cL z=z3:=e2.trans g2;clear m1 m2 m3 O e2 hm;have hf0:∃g,f=g+1:=⟨f-1,by omega⟩
 obtain⟨f,rfl⟩:=hf0;rw[lpZ] at r;unfold aW at r;rw[hA,e3] at r;have hs3:=pN h2;have hn3:=dY h2;refine aH (aA (sk 1 rfl (kv (args:=[]) hs3 ?_)));refine az (aB rfl (fun hb=>?_) (fun hb=>?_))
 ·have hb:cK aV z3=true:=hb;rw[ζ (show ¬z3.e=0∨cK aV z3=true from .inr hb)] at r;rw[ξ ω] at r;rw[r,bB B];exact aE rtN
 have hb:cK aV z3=false:=hb;have hnb:¬(¬z3.e=0∨cK aV z3=true):=fun k=>k.elim (fun k=>k B) fun k=>by rw[hb] at k;cases k
 rw[ξ hnb] at r;refine aD ?_;by_cases hn60:n<60
 case neg=>
  have d:decide (((n:Nat):Int)<60)=false:=ψ (by omega);rw[gF (by omega) B] at r;dsimp only at r;rw[ψ cQ,ξ ω] at r;rw[r,aI cQ];have hmn:=bQ 2 (b6 z3).pl;refine sk 5 rfl (kc hn3 ?_);refine ak 1 [] rfl ?_;rw[d];exact kp hmn
 have d:decide (((n:Nat):Int)<60)=true:=φ (by omega);rw[gE (by omega),φ B,ζ rfl] at r;have hmo:=bO 2 (b6 z3).pl;refine sk 5 rfl (kc hn3 ?_);refine ak 1 [] rfl ?_;rw[d];refine kc hmo ?_;refine az ?_;have ho:=hone n s z3 hI hn60 h2 B (by omega);obtain⟨E,k2,k3,_⟩:=hst n s z3 hI hn60 h2 B;generalize step s z3=y at ho E k2 k3 r;obtain⟨s4,z4⟩:=y;dsimp only at ho E k2 k3 r;by_cases u:z4.e=0
 case neg=>
  have hp:=bF.err ho u;rw[gL u] at r;rw[r,aI u];exact sk 1 rfl (kpv (args:=[]) hp)
 have ho:=bF.ok ho u;have k3:=k3 u;refine sk 1 rfl (kv (args:=[]) ho ?_);refine az (aA (agN [] rfl ?_));have hlp:=E.lp;have J:=n3 E bN;have hn4:=dY E;have U:=pN E;have hmo4:=bO 12 (b6 z4).pl;cases Y:isZ bN z4 with
 | true=>
  rw[Y] at J;have M:moreA aV (n+1) z4=z4:=ξ fun k=>by rw[Y] at k;cases k.2.2.1
  refine aC mixed (ak 1 [] rfl (kc J ?_));refine ak 7 [(2,.bv true),(5,.bv true)] rfl (kc hn4 ?_);refine ak 1 [(2,.bv true),(5,.bv true)] rfl (kc hmo4 ?_);exact az ⟨(n+1,s4,z4,f),⟨k2,by omega,E,u,by dsimp only;omega,by dsimp only;omega,M,r⟩,by dsimp only;omega,sl⟩
 | false=>
  rw[Y] at J;cases aa:cK aV z4 with
  | true=>
   rw[aa] at U;have M:moreA aV (n+1) z4=z4:=ξ fun k=>by rw[aa] at k;cases k.2.2.2
   refine aC mixed (ak 1 [] rfl (kc J ?_));refine ak 2 [(2,.bv false)] rfl (kvG (args:=[]) U ?_);refine ak 4 [(2,.bv false),(5,.bv false)] rfl (kc hn4 ?_);refine ak 1 [(2,.bv false),(5,.bv false)] rfl (kc hmo4 ?_);exact az ⟨(n+1,s4,z4,f),⟨k2,by omega,E,u,by dsimp only;omega,by dsimp only;omega,M,r⟩,by dsimp only;omega,sl⟩
  | false=>
   rw[aa] at U;have hmn4:=bQ 12 (b6 z4).pl;have M:moreA aV (n+1) z4=⟨z4.R,12,(b6 z4).pl⟩:=(ζ ⟨succ_pos n,u,Y,aa⟩).trans (ζ u);have h12:¬(12:Int)=0:=by decide
   have hWb:W.2=⟨z4.R,12,(b6 z4).pl⟩:=by
    obtain⟨f,rfl⟩:∃g,f=g+1:=⟨f-1,by omega⟩
    rw[lpZ] at r;unfold aW at r;rw[M,mK h12,ζ (show ¬(Z.mk z4.R 12 (b6 z4).pl).e=0∨_ from .inl h12),ξ ω] at r;rw[r]
   rw[hWb,aI h12];refine aC mixed (ak 1 [] rfl (kc J ?_));refine ak 2 [(2,.bv false)] rfl (kvG (args:=[]) U ?_);refine ak 4 [(2,.bv false),(5,.bv false)] rfl (kc hn4 ?_);refine ak 1 [(2,.bv false),(5,.bv false)] rfl (kpD (.tup []) [] hmn4 ?_);exact az trivial
theorem aNs (nm v:Tk) (sup:List Str) {step:(List Sg)→Z→(List Sg)×Z}{Inv:Nat→(List Sg)→Prop}{L:List Tk}{N:Nat}
  (J:∀n s z,Inv n s→n<60→ZA L z→z.e=0→z.R.length≤N→bF Tryz.prog 143 ([]++[R.vp 1 0,R.c (.pt (aG v)),R.vp 6 0,R.c (.pt (aG nm))].map V.one) ((600,rO L z)::aEx nm v sup s) (gT L (.tup []) (step s z).2 (aEx nm v sup (step s z).1)))
  (I:∀n s z,Inv n s→n<60→ZA L z→z.e=0→ZA L (step s z).2∧Inv (n+1) (step s z).1∧((step s z).2.e=0→(step s z).2.R.length<z.R.length)∧Ze z (step s z).2)
  {z:Z} (h:ZA L z) (he:z.e=0) (Y:z.R.length≤N) {s:(List Sg)} (M:Inv 0 s):
  bF Tryz.prog 142 [rP,.one (.clo 143 [R.vp 1 0,R.c (.pt (aG v)),R.vp 6 0,R.c (.pt (aG nm))])] ((600,rO L z)::aEx nm v sup s) (gT L (.tup []) (vN step s z).2 (aEx nm v sup (vN step s z).1)):=by
 have q:=dG h he cY;have h1:=h.need cY;have O:=Ze.need cY z;unfold vN;generalize aQ cY z=E at q h1 O ⊢;have U:E.R.length≤z.R.length:=O;refine nT (n:=12) tok Tryz.func142 rfl rfl rfl rfl ?_;refine sg rfl ?_;by_cases r:E.e=0
 case neg=>
  have hp:=bF.err q r;rw[gL r];dsimp only;rw[bJ r,aI r];exact sk 1 rfl (kp hp)
 have q:=bF.ok q r;refine sk 1 rfl (kc q ?_);refine az ?_;have u:=aSa nm v sup (step:=step) (Inv:=Inv) (L:=L) (N:=N) J I h1 r (by omega) M;have hok:=(uD (sh:=aV) I (E.R.length+1) 0 s E (ε _) M h1).1
 generalize lpZ aV step (E.R.length+1) 0 s E=W at u hok ⊢;obtain⟨s2,z2⟩:=W;dsimp only at u hok ⊢;by_cases y:z2.e=0
 case neg=>
  have hp:=bF.err u y;rw[bJ y,aI y];exact sk 3 rfl (kp hp)
 have u:=bF.ok u y;refine sk 3 rfl (kc u ?_);refine az ?_;have q:=dG hok y aV;generalize aQ aV z2=z3 at q ⊢;by_cases B:z3.e=0
 case neg=>
  have hp:=bF.err q B;rw[aI B];exact aC mixed (ak 1 [] rfl (kp hp))
 have q:=bF.ok q B;rw[bB B];refine aC mixed (ak 1 [] rfl (kc q ?_));exact az rtN
def a3b (L:List Tk) (z:Z) (nm v:Tk) (sup:List Str):List (Nat×AObj):=[(600,rO L z),(1,pR),(2,.var 90 [.c (.str []),.c (.int .i64 0),.c (.str []),.c .nl,.c .nl,.c .nl]),(4,.var 139 ((aG nm).map .c)),(5,.var 139 ((aG v).map .c)),(6,.var 90 [.c (.str nm.text),.c (.int .i64 nm.pl),.c (.str v.text),.c .nl,.hs 531 0 sup.length sup.length,.c .nl]),(531,svA (sup.map b7) 0)]
theorem aNq {L:List Tk}(hZ:pO L) (hwt:wt L≤30000) {z:Z}(h:ZA L z) (he:z.e=0):bF Tryz.prog 88 [rP] [(600,rO L z)] (gT L (.pa (gW (eE z).1)) (eE z).2 []):=by
 unfold eE;have hA:cC z=((bM z).1,(aS 2 (bM z).2).1,(aS 1 (aS 2 (bM z).2).2).1,(aS 1 (aS 2 (bM z).2).2).2):=rfl;rw[hA];have hp:=y0 h he hZ;obtain⟨h1,ab,l1⟩:=jJ h hwt;generalize bM z=y at hp h1 ab l1 ⊢;obtain⟨ps,z1⟩:=y;dsimp only at hp h1 ab l1 ⊢;refine nT (n:=55) tok Tryz.func88 rfl rfl rfl rfl ?_;refine sg rfl ?_;by_cases B:z1.e=0
 case neg=>
  have hp:=bF.err hp B;have M:(aS 1 (aS 2 z1).2).2=z1:=by rw[mJ B];exact mJ B
  rw[nE (by dsimp only;rw[M];exact B)];dsimp only;rw[M,aI B];exact sk 1 rfl (kp hp)
 have hp:=bF.ok hp B;refine sk 1 rfl (kc hp ?_);refine kz 1 rfl ?_;have hw:=iM h1 B 2 (by decide);have h2:=h1.word (k:=2) (by decide);generalize aS 2 z1=y at hw h2 ⊢;obtain⟨nm,z2⟩:=y;dsimp only at hw h2 ⊢;by_cases J:z2.e=0
 case neg=>
  have hp:=bF.err hw J;have M:(aS 1 z2).2=z2:=mJ J;rw[nE (by dsimp only;rw[M];exact J)];dsimp only;rw[M,aI J];exact sk 1 rfl (kp hp)
 have hw:=bF.ok hw J;refine sk 1 rfl (kc hw ?_);refine kz 2 rfl ?_;have hw:=iM h2 J 1 (by decide);have h3:=h2.word (k:=1) (by decide);generalize aS 1 z2=y at hw h3 ⊢;obtain⟨v,z3⟩:=y;dsimp only at hw h3 ⊢;by_cases E:z3.e=0
 case neg=>
  have hp:=bF.err hw E;rw[nE (by exact E)];dsimp only;rw[aI E];exact sk 1 rfl (kp hp)
 have hw:=bF.ok hw E;refine sk 1 rfl (kc hw ?_);refine kz 2 rfl (sg rfl ?_);have hpk:(ps.map aN).length=ps.length:=η _;have r:∃F,F=bY v.text nm.pl ps [] z3:=⟨_,rfl⟩
 obtain⟨F,r⟩:=r;have hB:fY (ps,nm,v,z3)=(F.1,aQ cY F.2):=by rw[r];rfl
 rw[hB];have hC:∀w:List Str×Z,jM (ps,nm,v,z3) w=lpZ aV (clS nm v) (w.2.R.length+1) 0 [] w.2:=fun w=>uB nm v _ _ _ _
 rw[hC];dsimp only;refine aA (sg rfl (AWp.sub (Sub.ownCell (x:=6) (k:=4) (id:=531) 9 1 rfl rfl rfl) ?_));refine aF (aK (fun q:Nat×List Str=>mk [(1,.one (.vp 1 0)),(2,.one (.vp 2 0)),(4,.one (.vp 4 0)),(5,.one (.vp 5 0)),(6,.one (.vp 6 0)),(22,.one (.c (.sl 5 (ps.map aN)))),(23,I .i64 ((ps.map aN).length:Nat)),(24,I .i64 (q.1:Nat))] (a3b L z3 nm v q.2)) (fun q=>q.1≤ps.length∧q.2.length=q.1∧F=bY v.text nm.pl (ps.drop q.1) q.2 z3) (fun q=>ps.length-q.1) (0,[]) ⟨ε _,rfl,r⟩ sl ?_);clear r hB hC hw hp hA;rintro⟨i,sup⟩ ⟨hi,hsl,r⟩;dsimp only at hi hsl r ⊢;have ac:(sup.map b7).length=sup.length:=η _;refine sg rfl (aA (aB rfl (fun hb=>?_) (fun hb=>?_)))
 ·have hlt:=ltD hb hpk;obtain⟨p,hpi⟩:=aL hlt;have hpi':=aT aN hpi;have hds:ps.drop i=p::ps.drop (i+1):=by
   obtain⟨k1,k2⟩:=Ai.1 hpi;rw[←k2];exact Ay k1
  rw[hds,bY,ζ E] at r;refine aD (aA (aF (sgh [(0,.row i (aN p))] rfl ?_)));have ad:¬(p.ty.form=2∧p.ty.name=v.text)→aQ aV (lpZ aV (clS nm v) ((aQ cY F.2).R.length+1) 0 [] (aQ cY F.2)).2=⟨z3.R,12,nm.pl⟩:=fun hn=>by
   have h12:¬(12:Int)=0:=by decide
   have M:F.2=⟨z3.R,12,nm.pl⟩:=by
    rw[ξ hn] at r;unfold bS at r;rw[ζ E] at r;rw[r,tE h12]
   have O:¬(Z.mk z3.R 12 nm.pl).e=0:=h12;rw[M,bJ O,gL O];exact bJ O
  have hmn:=bQ 12 nm.pl;by_cases U:p.ty.form=2
  case neg=>
   have d:decide (p.ty.form=2)=false:=ψ U;rw[ad (fun k=>U k.1),aI (show ¬(12:Int)=0 by decide)];exact skh 14 [(4,.bv false),(11,.bv false)] rfl (kp hmn)
  have d:decide (p.ty.form=2)=true:=φ U;by_cases Y:p.ty.name=v.text
  case neg=>
   have d2:decide (p.ty.name=v.text)=false:=ψ Y;rw[ad (fun k=>Y k.2),aI (show ¬(12:Int)=0 by decide)];refine skh 14 [(4,.bv true),(11,.bv true)] rfl ?_;rw[d2];exact kp hmn
  have d2:decide (p.ty.name=v.text)=true:=φ Y;have hmo:=bO 12 nm.pl;rw[ζ ⟨U,Y⟩] at r;refine skh 14 [(4,.bv true),(11,.bv true)] rfl ?_;rw[d2];refine kc hmo ?_;refine az ?_;have hrows:sup.map b7++[[.str p.cls]]=(sup++[p.cls]).map b7:=by rw[Al];rfl
  have hle:(sup++[p.cls]).length=sup.length+1:=by rw[θ];rfl
  have hpl1:=ab.1;exact ag [(4,.all)] rfl (agN [] rfl ⟨(i+1,sup++[p.cls]),⟨hlt,by dsimp only;rw[hle,hsl],r⟩,by dsimp only;omega,sl (hh:=⟨⟨_,rfl,.var rfl⟩,⟨_,rfl,.var rfl⟩,⟨_,rfl,.var rfl⟩,⟨_,rfl,.var rfl⟩,⟨_,rfl,.var rfl⟩,⟨_,rfl,.var (by rw[hle,←ac];rfl)⟩,⟨_,rfl,.arrS hrows⟩,trivial⟩)⟩)
 have hge:=geD hb hpk hi;rw[hge,Cc,bY] at r;subst r;dsimp only;refine aH (AWp.sub (Sub.freeze (id:=531) rfl) ?_);refine AWp.sub (vp 6 [.str nm.text,.int .i64 nm.pl,.str v.text,.nl,.sl 1 (sup.map b7),.nl] (hp:=.c .refl (.c .refl (.c .refl (.c .refl (.hs rfl ac.symm (Go.AM.take_all ac.symm) (.c .refl .nil))))))) ?_;refine AWp.sub (Sub.ownCell (x:=6) (k:=5) (id:=530) 92 9 rfl rfl rfl) ?_;refine AWp.sub (Sub.fvar (id:=4) (l:=aG nm) rfl (by simp[keys])) ?_;refine AWp.sub (Sub.fvar (id:=5) (l:=aG v) rfl (by simp[keys])) ?_;have hst:∀(n:Nat) (s:List Sg) (z:Z),s.length=n→n<60→ZA L z→z.e=0→ZA L (clS nm v s z).2∧(clS nm v s z).1.length=n+1∧((clS nm v s z).2.e=0→(clS nm v s z).2.R.length<z.R.length)∧Ze z (clS nm v s z).2:=fun n s z hI hn h he=>by
  have k1:=(h.word (k:=1) (by decide)).need dR;obtain⟨g1,_,g3,g4⟩:=gY k1 hwt;have l1:(aS 1 z).2.R.length≤z.R.length:=Ze.word 1 z;have l2:(aQ dR (aS 1 z).2).R.length≤(aS 1 z).2.R.length:=Ze.need _ _;have g4':(bK (aQ dR (aS 1 z).2)).2.R.length≤(aQ dR (aS 1 z).2).R.length:=g4;unfold clS iV;dsimp only;refine⟨g1.long _ _ _,by rw[θ,hI];rfl,fun h0=>?_,(((Ze.word 1 z).trans (Ze.need _ _)).trans g4).trans (Ze.long _ _ _ _)⟩;by_cases hs:(bK (aQ dR (aS 1 z).2)).2.e=0
  ·have:=g3 hs;have l3:=Ze.long (s++[(⟨(aS 1 z).1.text,(aS 1 z).1.pl,rD nm.text v.text (bK (aQ dR (aS 1 z).2)).1⟩:Sg)]).length 16 nm.pl (bK (aQ dR (aS 1 z).2)).2;unfold Ze at l3;omega
  ·rw[eG hs] at h0;exact absurd h0 hs
 have hI0:([]:List Sg).length=0:=rfl;have u:=aNs nm v sup (step:=clS nm v) (Inv:=fun n s=>s.length=n) (L:=L) (N:=z3.R.length) (fun n s z hI hn h he hN=>aW4 hZ hwt nm v sup s h he (by omega)) hst h3 E (le_refl _) (s:=[]) hI0;unfold vN at u;dsimp only at u;generalize aQ cY z3=z7 at u ⊢;generalize lpZ aV (clS nm v) (z7.R.length+1) 0 [] z7=W at u ⊢;obtain⟨ms,zB⟩:=W;dsimp only at u ⊢;have hmk:(ms.map cI).length=ms.length:=η _;generalize aQ aV zB=z8 at u ⊢;by_cases aa:z8.e=0
 case neg=>
  have hp:=bF.err u aa;rw[aI aa];exact sk 2 rfl (kp hp)
 have u:=bF.ok u aa;rw[bB aa];refine sk 2 rfl (kc u ?_);refine az (AWp.sub (Sub.freeze (id:=530) rfl) ?_);exact sg rfl (aE (rtC trw (hc:=.agg (.c .refl (.c .refl (.c .refl (.c .nl (.c .refl (.hs rfl hmk.symm (Go.AM.take_all hmk.symm) .nil)))))))))
theorem sH (s:Str) (q:b9 Tryz.prog 79 [Go.AM.T s] [] (aFu (lexA s)) []):b9 Tryz.prog 8 [Go.AM.T s] [] (.tup [.pa (nV (eD s).1),atV (eD s).2.1 (if(eD s).2.1=0 then 0 else(eD s).2.2)]) []:=by
 obtain⟨u,hwt,hZ,r⟩:=oA s;exact aFe aXb s q fun z h he _=>aNq hZ hwt h he
def Kq (z z':Z):Prop:=z'.e=0→z.e=0∧z'.p=z.p
theorem Kq.refl (z:Z):Kq z z:=fun h=>⟨h,rfl⟩
theorem Kq.trans {a b c:Z}(h:Kq a b) (k:Kq b c):Kq a c:=fun e=>by
 obtain⟨q,r⟩:=k e;obtain⟨u,y⟩:=h q;exact⟨u,r.trans y⟩
theorem Kq.fail {e p:Int}(he:¬e=0) (z:Z):Kq z (bS e p z):=fun h=>(gH he h).elim
theorem Kq.may (s:Str) (z:Z):Kq z (bT s z).2:=by
 unfold Kq bT;split
 ·exact fun h=>⟨h,rfl⟩
 ·exact fun h=>⟨h,rfl⟩
theorem Kq.need (s:Str) (z:Z):Kq z (aQ s z):=by
 unfold aQ;split
 ·exact Kq.may s z
 ·exact Kq.fail (by decide) z
theorem Kq.word (k:Int) (z:Z):Kq z (aS k z).2:=by
 unfold aS;split
 ·exact fun h=>⟨h,rfl⟩
 ·exact Kq.fail (by decide) z
theorem Kq.words (z:Z):Kq z (aU z).2:=by
 unfold aU;split
 ·exact fun h=>⟨h,rfl⟩
 ·exact Kq.refl z
theorem Kq.long (n m:Nat) (a:Int) (z:Z):Kq z (c8 n m a z):=by
 unfold c8;split
 ·exact Kq.fail (by decide) z
 ·exact Kq.refl z
theorem Kq.semi (z:Z):Kq z (cL z):=by
 unfold cL;split
 ·exact fun h=>⟨h,rfl⟩
 ·exact Kq.refl z
theorem Kq.mA (s:Str) (n:Nat) (z:Z):Kq z (moreA s n z):=by
 unfold moreA;split
 ·exact Kq.fail (by decide) z
 ·exact Kq.refl z
theorem Kq.more (s:Str) (n:Nat) (z:Z):Kq z (aW s n z).2:=by
 unfold aW;split
 ·exact(Kq.mA s n z).trans (Kq.semi _)
 ·exact((Kq.mA s n z).trans (Kq.semi _)).trans (Kq.long _ _ _ _)
theorem Kq.scheme (z:Z):Kq z (bK z).2:=by
 unfold bK;split
 ·cases h:cH z.R with
  | error e=>obtain⟨e,p⟩:=e;exact fun h0=>absurd h0 (qV h)
  | ok y=>exact fun h=>⟨h,rfl⟩
 ·exact Kq.refl z
theorem Kq.preds (z:Z):Kq z (bM z).2:=by
 unfold bM;split
 ·cases h:cR z.R with
  | error e=>obtain⟨e,p⟩:=e;exact fun h0=>absurd h0 (iB h)
  | ok y=>exact fun h=>⟨h,rfl⟩
 ·exact Kq.refl z
theorem Kq.atom (z:Z):Kq z (eK z).2:=by
 unfold eK;cases h:cO (3*z.R.length) 0 z.R with
 | error e=>obtain⟨e,p⟩:=e;exact fun h0=>absurd h0 (eH _ 0 z.R e p h)
 | ok y=>exact fun h=>⟨h,rfl⟩
theorem Kq.fields:∀(f:Nat) (out:List Ty) (z:Z),Kq z (bZ f out z).2
 | 0,_,z=>Kq.refl z
 | f+1,out,z=>by
  rw[bZ];split
  ·exact(Kq.atom z).trans (Kq.fields f _ _)
  ·exact Kq.refl z
theorem Kq.con (z:Z):Kq z (pK z).2:=((Kq.word 2 z).trans (Kq.fields _ _ _)).trans (Kq.long _ _ _ _)
theorem Kq.cons:∀(f:Nat) (a:Int) (out:List Cn) (z:Z),Kq z (gX f a out z).2
 | 0,_,_,z=>Kq.refl z
 | f+1,a,out,z=>by
  rw[gX];split
  ·exact(((Kq.con z).trans (Kq.long _ _ _ _)).trans (Kq.may _ _)).trans (Kq.cons f a _ _)
  ·exact((Kq.con z).trans (Kq.long _ _ _ _)).trans (Kq.may _ _)
theorem Kq.data (z:Z):Kq z (jL z).2:=by
 have h1:Kq z (fO z).2.2:=(((Kq.word 2 z).trans (Kq.words _)).trans (Kq.long _ _ _ _)).trans (Kq.need _ _);unfold jL jC;dsimp only;split
 ·exact h1.trans (Kq.cons _ _ _ _)
 ·exact h1
theorem Kq.tl (z:Z):Kq z (tlZ z):=fun h=>⟨h,rfl⟩
theorem aIg:∀f:Nat,(∀o z,Kq z (bA f o z).2)∧(∀o z,Kq z (gD f o z).2)∧(∀o out z,Kq z (eU f o out z).2)
 | 0=>⟨fun o z=>by rw[bA];exact Kq.refl z,fun o z=>by rw[gD];exact Kq.fail (by decide) z,fun o out z=>by rw[eU];exact Kq.refl z⟩
 | f+1=>by
  obtain⟨h1,h2,q⟩:=aIg f;refine⟨fun o z=>?_,fun o z=>?_,fun o out z=>?_⟩
  ·rw[bA];split
   ·exact Kq.refl z
   split
   ·exact Kq.tl z
   split
   ·exact Kq.may _ z
   split
   ·exact Kq.refl z
   split
   ·exact Kq.fail (by decide) z
   ·exact((Kq.need _ z).trans (h2 _ _)).trans (Kq.need _ _)
  ·rw[gD];split
   ·exact(h1 _ _).trans (Kq.fail (by decide) _)
   split
   ·exact(Kq.tl z).trans (q _ _ _)
   ·exact h1 _ _
  ·rw[eU];split
   ·split
    ·exact h1 _ _
    ·exact(h1 _ _).trans (q _ _ _)
   ·exact Kq.refl z
theorem Kq.pair:∀(l:List Sg) (b:List Bd) (z:Z),Kq z (cF l b z).2:=fun l b z h=>by
 have h1:=lG h;rw[h1] at h ⊢;exact⟨h,rfl⟩
def aTd (ex:Nat→Z→Ex×Z):Prop:=∀deep z,Kq z (ex deep z).2
section
variable {ex:Nat→Z→Ex×Z}(hx:aTd ex)
include hx
theorem Kq.one (deep:Nat) (z:Z):Kq z (fT ex deep z).2:=by
 unfold fT;split
 ·exact Kq.refl z
 split
 ·exact Kq.tl z
 split
 ·exact Kq.refl z
 ·exact((Kq.may _ z).trans (hx _ _)).trans (Kq.need _ _)
theorem Kq.apps (deep:Nat) (a:Int):∀(f:Nat) (e:Ex) (z:Z),Kq z (dX ex deep a f e z).2
 | 0,_,z=>Kq.refl z
 | f+1,e,z=>by
  rw[dX];split
  ·split
   ·exact Kq.one hx deep z
   ·exact(Kq.one hx deep z).trans (Kq.apps deep a f _ _)
  ·exact Kq.refl z
theorem Kq.lam (a:Int) (deep:Nat) (z:Z):Kq z (sW ex a deep z).2:=by
 have h0:Kq z (if(aU z).1=[] then bS 12 (b6 (aU z).2).pl (aU z).2 else(aU z).2):=by
  split
  ·exact(Kq.words z).trans (Kq.fail (by decide) _)
  ·exact Kq.words z
 exact((h0.trans (Kq.long _ _ _ _)).trans (Kq.need _ _)).trans (hx _ _)
theorem Kq.bind (nm:Tk) (deep:Nat) (z:Z):Kq z (cP ex nm deep z).2:=(((Kq.words z).trans (Kq.long _ _ _ _)).trans (Kq.need _ _)).trans (hx _ _)
theorem Kq.either (sigs:List Sg) (binds:List Bd) (deep:Nat) (z:Z):Kq z (aY ex sigs binds deep z).2:=by
 unfold aY;split
 ·exact((Kq.word _ z).trans (Kq.may _ _)).trans (Kq.scheme _)
 ·exact((Kq.word _ z).trans (Kq.may _ _)).trans (Kq.bind hx _ _ _)
theorem Kq.lets (deep:Nat):∀(f n:Nat) (sigs:List Sg) (binds:List Bd) (z:Z),Kq z (eT ex deep f n sigs binds z).2
 | 0,_,_,_,z=>Kq.refl z
 | f+1,n,sigs,binds,z=>by
  rw[eT];split
  ·exact((Kq.more _ _ z).trans (Kq.either hx _ _ _ _)).trans (Kq.lets deep f _ _ _ _)
  ·exact Kq.more _ _ z
theorem Kq.let' (a:Int) (deep:Nat) (z:Z):Kq z (sV ex a deep z).2:=
 (((((Kq.need _ z).trans (Kq.lets hx _ _ _ _ _ _)).trans (Kq.need _ _)).trans (Kq.pair _ _ _)).trans (Kq.need _ _)).trans (hx _ _)
theorem Kq.alts (deep:Nat):∀(f n:Nat) (ps:List Pt) (ks:List Ex) (z:Z),Kq z (eW ex deep f n ps ks z).2
 | 0,_,_,_,z=>Kq.refl z
 | f+1,n,ps,ks,z=>by
  rw[eW];split
  ·exact((((Kq.more _ _ z).trans ((aIg _).2.1 _ _)).trans (Kq.need _ _)).trans (hx _ _)).trans (Kq.alts deep f _ _ _ _)
  ·exact Kq.more _ _ z
theorem Kq.case' (a:Int) (deep:Nat) (z:Z):Kq z (iL ex a deep z).2:=by
 have h1:Kq z (gJ ex deep (dP ex deep z)).2:=(((hx _ z).trans (Kq.need _ _)).trans (Kq.need _ _)).trans (Kq.alts hx _ _ _ _ _ _);unfold iL;dsimp only;split
 ·exact(h1.trans (Kq.need _ _)).trans (Kq.fail (by decide) _)
 ·exact h1.trans (Kq.need _ _)
omit hx in
theorem Kq.ann (a:Int) (y:Ex×Z):Kq y.2 (s8 a y).2:=by
 unfold s8;split
 ·exact(Kq.may _ _).trans (Kq.scheme _)
 ·exact Kq.may _ _
theorem Kq.plain (deep:Nat) (z:Z):Kq z (eP ex deep z).2:=by
 unfold eP;refine Kq.trans ?_ (Kq.apps hx _ _ _ _ _);split
 ·exact(Kq.one hx deep z).trans (Kq.fail (by decide) _)
 ·exact Kq.one hx deep z
theorem aRi:aTd (rN ex):=fun deep z=>by
 unfold rN;split
 ·exact Kq.refl z
 split
 ·exact Kq.fail (by decide) z
 split
 ·exact(Kq.may _ z).trans (Kq.lam hx _ _ _)
 split
 ·exact(Kq.may _ z).trans (Kq.let' hx _ _ _)
 split
 ·exact(Kq.may _ z).trans (Kq.case' hx _ _ _)
 ·exact(Kq.plain hx deep z).trans (Kq.ann _ _)
end
theorem aIh:∀f,aTd (fV f)
 | 0=>fun _ z=>Kq.fail (by decide) z
 | f+1=>aRi (aIh f)
theorem Kq.supers (v:Str) (a:Int):∀(l:List Prd) (out:List Str) (z:Z),Kq z (bY v a l out z).2
 | [],_,z=>Kq.refl z
 | p::l,out,z=>by
  rw[bY];split
  ·refine Kq.trans ?_ (Kq.supers v a l _ _);split
   ·exact Kq.refl z
   ·exact Kq.fail (by decide) z
  ·exact Kq.refl z
theorem Kq.meths (c v:Str) (a:Int):∀(f n:Nat) (out:List Sg) (z:Z),Kq z (dQ c v a f n out z).2
 | 0,_,_,z=>Kq.refl z
 | f+1,n,out,z=>by
  rw[dQ];split
  ·exact(((((Kq.more _ _ z).trans (Kq.word _ _)).trans (Kq.need _ _)).trans (Kq.scheme _)).trans (Kq.long _ _ _ _)).trans (Kq.meths c v a f _ _ _)
  ·exact Kq.more _ _ z
theorem Kq.cls (z:Z):Kq z (eE z).2:=
 ((((((Kq.preds z).trans (Kq.word _ _)).trans (Kq.word _ _)).trans (Kq.supers _ _ _ _ _)).trans (Kq.need _ _)).trans (Kq.meths _ _ _ _ _ _ _)).trans (Kq.need _ _)
theorem Kq.forms (a:Int):∀(l:List Prd) (z:Z),Kq z (dJ a l z)
 | [],z=>Kq.refl z
 | p::l,z=>by
  rw[dJ];refine Kq.trans ?_ (Kq.forms a l _);split
  ·exact Kq.fail (by decide) z
  ·exact Kq.refl z
theorem Kq.ibinds {ex:Nat→Z→Ex×Z}(hx:aTd ex):∀(f n:Nat) (out:List Bd) (z:Z),Kq z (cM ex f n out z).2
 | 0,_,_,z=>Kq.refl z
 | f+1,n,out,z=>by
  rw[cM];split
  ·exact(((Kq.more _ _ z).trans (Kq.word _ _)).trans (Kq.bind hx _ _ _)).trans (Kq.ibinds hx f _ _ _)
  ·exact Kq.more _ _ z
theorem Kq.instV (b:Bool) (z:Z):Kq z (instV b z).2:=by
 cases b with
 | true=>exact(Kq.words z).trans (Kq.need _ _)
 | false=>exact Kq.refl z
theorem Kq.inst {ex:Nat→Z→Ex×Z}(hx:aTd ex) (z:Z):Kq z (kA ex z).2:=by
 have h1:Kq z (eA z).2.2.2.2:=(((Kq.preds z).trans (Kq.word _ _)).trans (Kq.may _ _)).trans (Kq.word _ _);have h2:=h1.trans (Kq.instV (eA z).2.2.1 _);refine Kq.trans ?_ (Kq.need _ _);refine Kq.trans ?_ (Kq.ibinds hx _ _ _ _);refine Kq.trans ?_ (Kq.need _ _);refine Kq.trans ?_ (Kq.forms _ _ _);split
 ·exact h2.trans (Kq.long _ _ _ _)
 ·exact h2
theorem Kq.decl {ex:Nat→Z→Ex×Z}(hx:aTd ex) (p:Pg) (sigs:List Sg) (z:Z):Kq z (cS ex p sigs z).2:=by
 unfold cS;split
 ·exact(Kq.may _ z).trans (Kq.data _)
 split
 ·exact(Kq.may _ z).trans (Kq.cls _)
 split
 ·exact(Kq.may _ z).trans (Kq.inst hx _)
 ·exact Kq.either hx _ _ _ z
theorem Kq.prog {ex:Nat→Z→Ex×Z}(hx:aTd ex):∀(f n:Nat) (p:Pg) (sigs:List Sg) (z:Z),Kq z (dW ex f n p sigs z).2
 | 0,_,_,_,z=>Kq.refl z
 | f+1,n,p,sigs,z=>by
  rw[dW];split
  ·exact((Kq.more _ _ z).trans (Kq.decl hx _ _ _)).trans (Kq.prog hx f _ _ _ _)
  ·exact Kq.more _ _ z
theorem Kq.endz (z:Z):Kq z (n1 z):=by
 unfold n1;split
 ·exact Kq.fail (by decide) z
 ·exact Kq.refl z
theorem aHi (s:Str) (h:(eD s).2.1=0):(eD s).2.2=0:=by
 have hb:(cW s).2.p=0∨¬(cW s).2.e=0:=by
  unfold cW;have q:= @uG s;generalize lexA s=w at q ⊢;cases w with
  | ok l=>exact .inl rfl
  | error e=>obtain⟨e,p⟩:=e;exact .inr (q rfl)
 have r:Kq (cW s).2 (n1 (gQ s).2):=by
  refine Kq.trans ?_ (Kq.endz _);unfold gQ;split
  ·exact(Kq.prog (aIh _) _ _ _ _ _).trans (Kq.pair _ _ _)
  ·exact Kq.refl _
 have u:(eD s).2.1=(n1 (gQ s).2).e:=by unfold eD;split<;>rfl
 have y:(eD s).2.2=(n1 (gQ s).2).p:=by unfold eD;split<;>rfl
 rw[u] at h;obtain⟨B,E⟩:=r h;rw[y,E];rcases hb with hb | hb
 ·exact hb
 ·exact absurd B hb
theorem n2 (s:Str) (q:b9 Tryz.prog 79 [Go.AM.T s] [] (aFu (lexA s)) []):b9 Tryz.prog 8 [Go.AM.T s] [] (.tup [.pa (nV (eD s).1),atV (eD s).2.1 (eD s).2.2]) []:=by
 have h:=sH s q;by_cases he:(eD s).2.1=0
 ·rw[ζ he] at h;rw[aHi s he];exact h
 ·rw[ξ he] at h;exact h
end Go.Proofs.YtpmheldmadendaaGreatDoor
