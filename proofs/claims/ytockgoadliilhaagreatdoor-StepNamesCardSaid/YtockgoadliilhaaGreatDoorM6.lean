/-
  Texts Am29 to Lg1 in one.
-/
import Derived.Test.YtockgoadliilhaaGreatDoorM5
import Derived.Laws.Runes
open List (all_append all_eq_true append_assoc append_nil cons_append drop_eq_getElem_cons drop_length filter_cons flatMap_append flatten_cons foldl_append length_append length_cons length_eq_one_iff length_filter_le length_map length_nil length_range length_take map_append map_cons mem_append mem_cons mem_cons_of_mem mem_cons_self mem_map mem_of_mem_take mem_range nil_append nodup_append nodup_cons nodup_nil nodup_range not_mem_nil set_eq_take_append_cons_drop sum_cons take_add_one take_length take_succ_cons take_zero)
open Nat (beq_refl eq_of_beq_eq_true le_max_left le_max_right le_of_ble_eq_true le_of_eq le_of_not_lt le_refl le_trans mul_le_mul_right zero_add zero_le)
namespace Go.AM
open Go
def AObj.ren (σ:Nat→Nat):AObj→AObj
 | .var t cells=>.var t (R.renL σ cells)
 | .lp st j i e=>.lp st j i (aH6 σ e)
 | .rarr te es l=>.rarr te es (mX σ l)
 | .tok r k=>.tok (r.ren σ) k
 | o=>o
def renH (σ:Nat→Nat) (hl:List (Nat×AObj)):List (Nat×AObj):=hl.map fun p=>(σ p.1,p.2.ren σ)
section
mutual
theorem R.ren_ren {σ:Nat→Nat}(hσ:∀i,σ (σ i)=i):∀r:R,(r.ren σ).ren σ=r
 | .c _=>rfl
 | .hs ..=>by simp[R.ren,hσ]
 | .tl ..=>by simp[R.ren,hσ]
 | .vp ..=>by simp[R.ren,hσ]
 | .ep ..=>by simp[R.ren,hσ]
 | .mr _=>by simp[R.ren,hσ]
 | .clo f caps=>by simp[R.ren,R.renL_renL hσ caps]
 | .mth f r=>by simp[R.ren,R.ren_ren hσ r]
 | .yl _=>by simp[R.ren,hσ]
 | .ra ..=>by simp[R.ren,hσ]
 | .rp ..=>by simp[R.ren,hσ]
 | .ras n es l=>by simp[R.ren,R.renL_renL hσ l]
 | .pas l=>by simp[R.ren,R.renL_renL hσ l]
theorem R.renL_renL {σ:Nat→Nat}(hσ:∀i,σ (σ i)=i):∀l:List R,R.renL σ (R.renL σ l)=l
 | []=>rfl
 | r::l=>by simp[R.renL,R.ren_ren hσ r,R.renL_renL hσ l]
end
mutual
theorem V.ren_ren {σ:Nat→Nat}(hσ:∀i,σ (σ i)=i):∀r:V,(r.ren σ).ren σ=r
 | .one r=>by simp[V.ren,R.ren_ren hσ r]
 | .pa _=>rfl
 | .ma l=>by simp[V.ren,R.renL_renL hσ l]
 | .tup l=>by simp[V.ren,V.renL_renL hσ l]
theorem V.renL_renL {σ:Nat→Nat}(hσ:∀i,σ (σ i)=i):∀l:List V,V.renL σ (V.renL σ l)=l
 | []=>rfl
 | r::l=>by simp[V.renL,V.ren_ren hσ r,V.renL_renL hσ l]
end
variable {σ:Nat→Nat}(hσ:∀i,σ (σ i)=i)
include hσ
theorem yX:∀l:List (Nat×V),aH6 σ (aH6 σ l)=l
 | []=>rfl
 | (t,v)::l=>by simp[aH6,V.ren_ren hσ v,yX l]
theorem yV:∀l:List (List R),mX σ (mX σ l)=l
 | []=>rfl
 | r::l=>by simp[mX,R.renL_renL hσ r,yV l]
theorem Ole.to_ren (o:AObj):Ole σ o (o.ren σ):=by
 cases o with
 | var t cells=>exact .var (R.renL_renL hσ cells).symm
 | lp st j i e=>exact .lp (yX hσ e).symm
 | rarr te es l=>exact .rarr (yV hσ l).symm
 | tok r k=>exact .tok (R.ren_ren hσ r).symm
 | arr=>exact .arr
 | map=>exact .map
 | dead=>exact .dead
 | dfr=>exact .dfr
end
theorem Ole.of_ren {σ:Nat→Nat}(o:AObj):Ole σ (o.ren σ) o:=by
 cases o with
 | var t cells=>exact .var rfl
 | lp st j i e=>exact .lp rfl
 | rarr te es l=>exact .rarr rfl
 | tok r k=>exact .tok rfl
 | arr=>exact .arr
 | map=>exact .map
 | dead=>exact .dead
 | dfr=>exact .dfr
mutual
theorem R.refs_ren {σ:Nat→Nat}:∀r:R,(r.ren σ).refs=r.refs.map σ
 | .c _=>rfl
 | .hs ..=>rfl
 | .tl ..=>rfl
 | .vp ..=>rfl
 | .ep ..=>rfl
 | .mr _=>rfl
 | .clo f caps=>by simp[R.ren,R.refs,R.refsL_ren caps]
 | .mth f r=>by simp[R.ren,R.refs,R.refs_ren r]
 | .yl _=>rfl
 | .ra ..=>rfl
 | .rp ..=>rfl
 | .ras n es l=>by simp[R.ren,R.refs,R.refsL_ren l]
 | .pas l=>by simp[R.ren,R.refs,R.refsL_ren l]
theorem R.refsL_ren {σ:Nat→Nat}:∀l:List R,R.refsL (R.renL σ l)=(R.refsL l).map σ
 | []=>rfl
 | r::l=>by simp[R.renL,R.refsL,R.refs_ren r,R.refsL_ren l]
end
mutual
theorem V.refs_ren {σ:Nat→Nat}:∀r:V,(r.ren σ).refs=r.refs.map σ
 | .one r=>by simp[V.ren,V.refs,R.refs_ren r]
 | .pa _=>rfl
 | .ma l=>by simp[V.ren,V.refs,R.refsL_ren l]
 | .tup l=>by simp[V.ren,V.refs,V.refsL_ren l]
theorem V.refsL_ren {σ:Nat→Nat}:∀l:List V,V.refsL (V.renL σ l)=(V.refsL l).map σ
 | []=>rfl
 | r::l=>by simp[V.renL,V.refsL,V.refs_ren r,V.refsL_ren l]
end
theorem z7 {σ:Nat→Nat}:∀l:List (Nat×V),nT (aH6 σ l)=(nT l).map σ
 | []=>rfl
 | (t,v)::l=>by simp[aH6,nT,V.refs_ren v,z7 l]
theorem yZ {σ:Nat→Nat}:∀l:List (List R),c8 (mX σ l)=(c8 l).map σ
 | []=>rfl
 | r::l=>by simp[mX,c8,R.refsL_ren r,yZ l]
theorem AObj.refs_ren {σ:Nat→Nat}(o:AObj):(o.ren σ).refs=o.refs.map σ:=by
 cases o with
 | var t cells=>exact R.refsL_ren cells
 | lp st j i e=>exact z7 e
 | rarr te es l=>exact yZ l
 | tok r k=>exact R.refs_ren r
 | _=>rfl
structure RenH (σ:Nat→Nat) (H H':cR):Prop where
 to:∀i o,H (σ i)=some o→∃o',H' i=some o'∧Ole σ o o'
 of:∀i o',H' i=some o'→∃o,H (σ i)=some o∧Ole σ o o'
 cl:∀i o',H' i=some o'→∀j∈o'.refs,∃x,H' j=some x
theorem RenH.good {σ:Nat→Nat}{H H':cR}(h:RenH σ H H') {i:Nat}(hi:∃x,H' i=some x):Good H H' σ i:=by
 obtain⟨x,hx⟩:=hi;obtain⟨o,h1,h2⟩:=h.of i x hx;exact⟨o,x,h1,hx,h2⟩
theorem aOf {σ:Nat→Nat}{P:Prop}{a b c d:AObj}(h1:Ole σ a b) (h2:Ole σ c d) (h:a.succ P c):b.succ P d:=by
 cases h1<;>cases h2<;>simp only[AObj.succ] at h ⊢<;>try exact h
 ·rename_i q _ _ _ _ I;subst q I;simpa [eX] using h
theorem Inv.renH {σ:Nat→Nat}(hσ:∀i,σ (σ i)=i) {G:Ctx}{J H H':cR}{S:Sto}{μ:Mu}{w:World}(h:Inv G S μ H w) (h0:RenH σ G.h0 J) (q:RenH σ H H'):
  Inv { G with μ0:=fun i=>G.μ0 (σ i),h0:=J } S (fun i=>μ (σ i)) H' w:=by
 refine⟨h.holds,fun id o I=>?_,fun i j o o' b c c' hi hj hm N=>?_,fun i o b c hi hm=>?_,h.frame,h.sle,h.sto,⟨h.evo.le,fun id o I=>?_⟩,h.fre⟩
 ·obtain⟨x,h1,h2⟩:=q.of id o I;exact(h.obj _ _ h1).ren h2 fun j hj=>q.good (q.cl id o I j hj)
 ·obtain⟨x,h1,_⟩:=q.of i o hi;obtain⟨y,h2,_⟩:=q.of j o' hj;have:=h.inj _ _ _ _ b c c' h1 h2 hm N;rw[←hσ i,←hσ j,this]
 ·obtain⟨x,h1,_⟩:=q.of i o hi;exact h.own _ _ b c h1 hm
 ·obtain⟨x,h1,h2⟩:=h0.of id o I;obtain⟨y,h3,h4⟩:=h.evo.obj _ _ h1;obtain⟨z,h5,h6⟩:=q.to id y h3;exact⟨z,h5,aOf h2 h6 h4⟩
section
variable {σ:Nat→Nat}(hσ:∀i,σ (σ i)=i)
include hσ
theorem aVj (i k:Nat):Nat.beq (σ i) (σ k)=Nat.beq i k:=by
 cases h:Nat.beq i k with
 | true=>rw[Ac h];exact B6 _
 | false=>
  cases q:Nat.beq (σ i) (σ k) with
  | false=>rfl
  | true=>
   have:=Ac q;have e:i=k:=by rw[←hσ i,←hσ k,this]
   rw[e,B6] at h;cases h
theorem lL (i:Nat):∀hl:List (Nat×AObj),look (Go.AM.renH σ hl) (σ i)=(look hl i).map (AObj.ren σ)
 | []=>rfl
 | (k,o)::hl=>by
  have q:=lL i hl;simp only[Go.AM.renH,Am,look,aVj hσ] at q ⊢;split
  ·rfl
  ·exact q
theorem RenH.a {hl:List (Nat×AObj)}(hc:subset (dN hl) (keys hl)=true):RenH σ (look (Go.AM.renH σ hl)) (look hl):=by
 refine⟨fun i o h=>?_,fun i o h=>?_,fun i o h j hj=>?_⟩
 ·rw[lL hσ] at h;cases hx:look hl i with
  | none=>rw[hx] at h;cases h
  | some x=>rw[hx] at h;cases h;exact⟨x,rfl,.of_ren x⟩
 ·exact⟨o.ren σ,by rw[lL hσ,h];rfl,.of_ren o⟩
 ·exact jG (bP hc j (jV (cD h) j hj))
theorem RenH.b {hl:List (Nat×AObj)}(hc:subset (dN hl) (keys hl)=true):RenH σ (look hl) (look (Go.AM.renH σ hl)):=by
 have key:∀i,look (Go.AM.renH σ hl) i=(look hl (σ i)).map (AObj.ren σ):=fun i=>by
  have:=lL hσ (σ i) hl;rwa [hσ] at this
 refine⟨fun i o h=>⟨o.ren σ,by rw[key,h];rfl,.to_ren hσ o⟩,fun i o h=>?_,fun i o h j hj=>?_⟩
 ·rw[key] at h;cases hx:look hl (σ i) with
  | none=>rw[hx] at h;cases h
  | some x=>rw[hx] at h;cases h;exact⟨x,rfl,.to_ren hσ x⟩
 ·rw[key] at h;cases hx:look hl (σ i) with
  | none=>rw[hx] at h;cases h
  | some x=>
   rw[hx] at h;cases h;rw[AObj.refs_ren] at hj;obtain⟨k,hk,rfl⟩:=Ad.1 hj;obtain⟨y,hy⟩:=jG (bP hc k (jV (cD hx) k hk));exact⟨y.ren σ,by rw[key,hσ,hy];rfl⟩
theorem aU.ren {P:Program}{f:FuncId}{args:List V}{hin hout:List (Nat×AObj)}{res:V}(h:aU P f args hin res hout) (h1:subset (dN hin) (keys hin)=true) (h2:subset (V.refsL args) (keys hin)=true) (h3:subset (dN hout) (keys hout)=true) (h4:subset res.refs (keys hout)=true):
  aU P f (V.renL σ args) (Go.AM.renH σ hin) (res.ren σ) (Go.AM.renH σ hout):=by
 intro S μ w vals N hv;have ra:=RenH.a hσ h1;have q:=N.renH hσ ra ra;have I:u0 μ (look (Go.AM.renH σ hin))=u0 (fun i=>μ (σ i)) (look hin):=by
  funext b;refine propext ⟨?_,?_⟩
  ·rintro⟨j,o,c,g1,g2⟩;obtain⟨o',g3,_⟩:=ra.to (σ j) o (by rw[hσ];exact g1);exact⟨σ j,o',c,g3,by show μ (σ (σ j))=_;rw[hσ];exact g2⟩
  ·rintro⟨j,o,c,g1,g2⟩;obtain⟨o',g3,_⟩:=ra.of j o g1;exact⟨σ j,o',c,g3,g2⟩
 rw[I] at q;have J:bU S (fun i=>μ (σ i)) (look hin) args vals:=bU.ren args vals (fun i hi=>ra.good (jG (bP h2 i hi))) hv;refine Calls.mono (h S (fun i=>μ (σ i)) w vals q J) ?_;rintro e w' ⟨S',μ',v,g1,g2,g3⟩;refine⟨S',fun i=>μ' (σ i),v,g1,?_,?_⟩
 ·have:=g2.renH hσ (RenH.b hσ h1) (RenH.b hσ h3);dsimp only at this;rw[I];simpa only[hσ] using this
 ·refine b6.ren (res.ren σ) v (fun i hi=>(RenH.b hσ h3).good ?_) (by rw[V.ren_ren hσ];exact g3);rw[V.refs_ren] at hi;obtain⟨k,hk,rfl⟩:=Ad.1 hi;obtain⟨y,hy⟩:=jG (bP h4 k hk);exact⟨y.ren σ,by rw[lL hσ,hy];rfl⟩
end
def swp (a b i:Nat):Nat:=bif Nat.beq i a then b else bif Nat.beq i b then a else i
theorem aTc (a b i:Nat):swp a b (swp a b i)=i:=by
 have hb:∀x y:Nat,(Nat.beq x y=true)↔x=y:=fun x y=>⟨Ac,fun h=>by subst h;exact B6 _⟩
 unfold swp;cases h1:Nat.beq i a<;>cases h2:Nat.beq i b<;>simp only[Bo,Bq]
 ·rw[h1,h2];rfl
 ·cases h3:Nat.beq a a with
  | true=>simp only[Bo];exact((hb _ _).1 h2).symm
  | false=>rw[B6] at h3;cases h3
 ·cases h3:Nat.beq b a with
  | true=>simp only[Bo];rw[(hb _ _).1 h3,(hb _ _).1 h1]
  | false=>rw[B6];simp only[Bo,Bq];exact((hb _ _).1 h1).symm
 ·have q:=(hb _ _).1 h1;have I:=(hb _ _).1 h2;have J:b=a:=by rw[←I,q]
  rw[J,B6];simp only[Bo];exact q.symm
theorem aU.swap (a b:Nat) {P:Program}{f:FuncId}{args:List V}{hin hout:List (Nat×AObj)}{res:V}(h:aU P f args hin res hout) (h1:subset (dN hin) (keys hin)=true:=by rfl) (h2:subset (V.refsL args) (keys hin)=true:=by rfl) (h3:subset (dN hout) (keys hout)=true:=by rfl) (h4:subset res.refs (keys hout)=true:=by rfl):
  aU P f (V.renL (swp a b) args) (renH (swp a b) hin) (res.ren (swp a b)) (renH (swp a b) hout):=h.ren (aTc a b) h1 h2 h3 h4
end Go.AM
namespace Go.AM
open Go Go.Proofs
section
variable {P:Program}{n:Nat}{ops:Array Oper}{draw:Bool}{k d:Nat}{st:St}{pre:REs}{Q:St→Prop}{o:Oper}{f:FuncId}{xs:Array Operand}{ts:Array TypeId}{ids:List Nat}{args:List V}{res:V}{hin hout:List (Nat×AObj)}
theorem kcG {j t:Nat}{want b:Bool}(hf:aU P f args hin res hout)
  (hk:kS P n ops draw (k+1) ⟨upd st.e d (some res),updL st.h (outs hout),st.d⟩ ((⟨t::dP xs.toList,ids++keys hin++keys hout⟩,⟨some (d,some res),outs hout⟩)::pre) Q)
  (hb:pV P f:=by exact aN5 (by kernel_rfl)) (N:ops[k]?=some o:=by rfl) (hg:o.guard=some (j,want):=by rfl) (hj:(ops[j]?).bind (·.dst)=some t:=by rfl) (q:st.e t=some (.one (.c (.bool b))):=by rfl) (hw:b=want:=by first | rfl | assumption) (I:o.op=.call { callee:=.value (.func f),args:=xs,argTypes:=ts }:=by rfl) (hd:o.dst=some d:=by rfl) (J:Nat.blt d n=true:=by rfl)
  (ha:ArgsV st ids xs.toList args:=by repeat (first | exact .nil | (apply Go.AM.ArgsV.cons rfl;(first | exact .refl | exact .one (.c .nl .nil) | exact .one (.c .sn .nil) | exact .one (.hs rfl (by first | rfl | simp) (by first | rfl | (simp;done) | (simp[Go.AM.take_map];done) | exact Go.AM.take_map.symm) .nil) | exact Go.AM.hs_all rfl rfl (by first | rfl | assumption | (simp;done) | (simp;omega)) (by first | rfl | assumption | (simp;done)) | ((first | apply Go.AM.Conv.pa | apply Go.AM.Conv.agg);repeat (first | exact .nil | apply Go.AM.PureL.c .refl | apply Go.AM.PureL.c .nl | apply Go.AM.PureL.c .sn | (apply Go.AM.PureL.hs;rfl;(first | rfl | simp);(first | rfl | (simp;done) | (simp[Go.AM.take_map];done) | exact Go.AM.take_map.symm))))))))
  (hin':eW (fun p=>st.h p.1=some p.2) hin:=by repeat (first | exact trivial | refine⟨rfl,?_⟩)) (hout':eW (fun p=>p.1∈keys hin∨st.h p.1=none) hout:=by repeat (first | exact trivial | refine⟨.inr rfl,?_⟩ | refine⟨.inl (by decide),?_⟩ | refine⟨.inl (by repeat (first | exact List.Mem.head _ | apply List.Mem.tail)),?_⟩)) (hok:kQ args hin=true:=by rfl):kS P n ops draw k st pre Q:=
 k_ (GStep.yes N hg hj q hw (aJy hin hout hb I hd (mB J) hf ha hin' hout' hok)) hk
end
end Go.AM
namespace Go.Proofs.YtockgoadliilhaaGreatDoor
open Go Go.AM
set_option maxRecDepth 20000
def aY (l:List Str):V:=.one (.c (.sl 1 (l.map bD)))
theorem n6 (l:List (List C)) (h:l.length≤600000000000):aU Tryz.prog 98 [.one (.c (.sl 1 l))] [] (.one (.hs 710 0 l.length l.length)) [(710,.arr 9 1 l 0)]:=by
 refine bO (n:=8) tok Tryz.func98 rfl rfl rfl ?_;refine sg rfl (aGl 0 rfl (fun hl=>?_) ?_)
 ·subst hl;refine a8 (sg rfl (aA rfl (fun _=>sg rfl (AWp.sub (Sub.own (t:=2) (id:=710) 9 1 rfl rfl) ?_)) nofun));exact aI rtT
 ·refine a8 (sg rfl (aA rfl nofun (fun _=>aD (sgh [(0,.id 710)] rfl (AWp.sub (st2:=mk [(2,.one (.hs 710 0 l.length l.length))] [(710,.arr 9 1 l 0)]) sl ?_)))));exact aI rtT
theorem y1 (l:List (List C)) (h:l.length≤600000000000):aU Tryz.prog 96 [.one (.c (.sl 15 l))] [] (.one (.hs 701 0 l.length l.length)) [(701,.arr 58 15 l 0)]:=by
 refine bO (n:=8) tok Tryz.func96 rfl rfl rfl ?_;refine sg rfl (aGl 0 rfl (fun hl=>?_) ?_)
 ·subst hl;refine a8 (sg rfl (aA rfl (fun _=>sg rfl (AWp.sub (Sub.own (t:=2) (id:=701) 58 15 rfl rfl) ?_)) nofun));exact aI rtT
 ·refine a8 (sg rfl (aA rfl nofun (fun _=>aD (sgh [(0,.id 701)] rfl (AWp.sub (st2:=mk [(2,.one (.hs 701 0 l.length l.length))] [(701,.arr 58 15 l 0)]) sl ?_)))));exact aI rtT
theorem oH (l:List (List C)) (h:l.length≤600000000000):aU Tryz.prog 95 [.one (.c (.sl 10 l))] [] (.one (.hs 702 0 l.length l.length)) [(702,.arr 37 10 l 0)]:=by
 refine bO (n:=8) tok Tryz.func95 rfl rfl rfl ?_;refine sg rfl (aGl 0 rfl (fun hl=>?_) ?_)
 ·subst hl;refine a8 (sg rfl (aA rfl (fun _=>sg rfl (AWp.sub (Sub.own (t:=2) (id:=702) 37 10 rfl rfl) ?_)) nofun));exact aI rtT
 ·refine a8 (sg rfl (aA rfl nofun (fun _=>aD (sgh [(0,.id 702)] rfl (AWp.sub (st2:=mk [(2,.one (.hs 702 0 l.length l.length))] [(702,.arr 37 10 l 0)]) sl ?_)))));exact aI rtT
theorem aAw (l:List (List C)) (h:l.length≤600000000000):aU Tryz.prog 97 [.one (.c (.sl 14 l))] [] (.one (.hs 703 0 l.length l.length)) [(703,.arr 88 14 l 0)]:=by
 refine bO (n:=8) tok Tryz.func97 rfl rfl rfl ?_;refine sg rfl (aGl 0 rfl (fun hl=>?_) ?_)
 ·subst hl;refine a8 (sg rfl (aA rfl (fun _=>sg rfl (AWp.sub (Sub.own (t:=2) (id:=703) 88 14 rfl rfl) ?_)) nofun));exact aI rtT
 ·refine a8 (sg rfl (aA rfl nofun (fun _=>aD (sgh [(0,.id 703)] rfl (AWp.sub (st2:=mk [(2,.one (.hs 703 0 l.length l.length))] [(703,.arr 88 14 l 0)]) sl ?_)))));exact aI rtT
def yC (s:Str):List Str→Int→Int
 | [],_=> -1
 | x::l,k=>if s=x then k else yC s l (k+1)
theorem aFz (s:Str):∀(l:List Str) (k:Int),0≤k→(decide (0≤yC s l k)=decide (s∈l))
 | [],k,_=>by simp[yC]
 | x::l,k,hk=>by
  rw[yC];split
  ·rename_i h;subst h;simp[hk]
  ·rename_i h;rw[aFz s l (k+1) (by omega)];simp[h]
theorem aMq (l:List Str) (s:Str) (h:l.length≤600000000000):aU Tryz.prog 111 [aY l,Go.AM.T s] [] (I .i64 (yC s l 0)) []:=by
 refine bO (n:=19) tok Tryz.func111 rfl rfl rfl ?_;refine sg rfl (a8 (sg rfl ?_));have J:(l.map bD).length=l.length:=θ _;refine aC (aL (fun i:Nat=>mk [(0,aY l),(1,Go.AM.T s),(7,I .i64 ((l.map bD).length:Int)),(8,I .i64 i)] []) (fun i=>i≤l.length∧yC s l 0=yC s (l.drop i) i) (fun i=>l.length-i) 0 ⟨Aj _,rfl⟩ sl ?_);intro i ⟨hi,he⟩;refine sg rfl (a8 (aA rfl (fun hb=>?_) (fun hb=>?_)))
 ·have q:=ltD hb J;obtain⟨x,hx⟩:=aJ q;have O:=bM bD hx;have hd:l.drop i=x::l.drop (i+1):=by rw[Bz q,(Ab.1 hx).2]
  rw[hd,yC] at he;refine aD (a8 (aC (sg rfl (sgh [(3,.row i (bD x))] rfl (aA rfl (fun hb=>?_) (fun hb=>?_))))))
  ·have hs:s=x:=ψ hb;rw[ξ hs] at he;rw[he];exact sg rfl (aI rtT)
  ·have hs:¬s=x:=δ hb;rw[φ hs] at he;exact aD (ag [] rfl ⟨i+1,⟨q,he⟩,by dsimp only;omega,sl⟩)
 ·have N:=geD hb J hi;subst N;rw[drop_length,yC] at he;rw[he];exact aO (sg rfl (aI rtT))
theorem bW (l:List Str) (s:Str) (h:l.length≤600000000000):aU Tryz.prog 73 [aY l,Go.AM.T s] [] (B (decide (s∈l))) []:=by
 have hi:=aMq l s h;refine bO (n:=9) tok Tryz.func73 rfl rfl rfl ?_;refine sg rfl (sgh [(2,.pc (I .i64 (yC s l 0)))] rfl ?_);rw[←aFz s l 0 (by omega)];exact aI rtT
def aRx {α:Type}(p:α→Bool):List α→Nat→Int
 | [],_=> -1
 | x::l,i=>if p x then(i:Int) else aRx p l (i+1)
theorem aLm {α:Type}(p:α→Bool):∀(l:List α) (i:Nat),decide (aRx p l i≥0)=l.any p
 | [],_=>rfl
 | x::l,i=>by
  rw[aRx,List.any_cons];cases h:p x
  ·rw[φ (by simp),aLm p l];rfl
  ·rw[ξ rfl,Bool.true_or];simp
theorem oN (a:Alt):a.vars.length≤nK a:=by
 obtain⟨f,n,s,v,c⟩:=a;rw[nK];have:∀l:List Str,l.length≤(l.map fun v=>1+v.length).sum:=by
  intro l
  induction l with
  | nil=>simp
  | cons x l q=>rw[Am,Cd,Ag];omega
 have:=this v;show v.length≤_;omega
def aX1 (l:List Int):V:=.one (.c (.sl 1 (l.map aN4)))
end Go.Proofs.YtockgoadliilhaaGreatDoor
namespace Go.AM
open Go
inductive CsLe:List C→List C→Prop
 | nil:CsLe [] []
 | cons {c c':C} {l l':List C} (h0:Cle c c') (h:CsLe l l'):CsLe (c::l) (c'::l')
inductive RowsLe:List (List C)→List (List C)→Prop
 | nil:RowsLe [] []
 | cons {r r':List C} {l l':List (List C)} (h:CsLe r r') (k:RowsLe l l'):RowsLe (r::l) (r'::l')
theorem CsLe.refl:∀l:List C,CsLe l l
 | []=>.nil
 | _::l=>.cons .refl (CsLe.refl l)
theorem CsLe.length {l l':List C}(h:CsLe l l'):l'.length=l.length:=by
 induction h with
 | nil=>rfl
 | cons h0 h q=>simp[q]
theorem CsLe.rep {S:Sto}{l l':List C}(h:CsLe l l'):∀{vs:List Value},dL S l vs→dL S l' vs:=by
 induction h with
 | nil=>exact fun k=>k
 | cons h0 h q=>
  intro vs k;simp only[dL] at k ⊢;obtain⟨v,vs',rfl,h1,h2⟩:=k;exact⟨v,vs',rfl,h0.rep h1,q h2⟩
theorem CsLe.app {a q b b':List C}(h:CsLe a q) (k:CsLe b b'):CsLe (a++b) (q++b'):=by
 induction h with
 | nil=>exact k
 | cons h0 h I=>exact .cons h0 I
theorem RowsLe.flat {l l':List (List C)}(h:RowsLe l l'):CsLe l.flatten l'.flatten:=by
 induction h with
 | nil=>exact .nil
 | cons h k q=>simp only[Bi];exact h.app q
theorem RowsLe.length {l l':List (List C)}(h:RowsLe l l'):l'.length=l.length:=by
 induction h with
 | nil=>rfl
 | cons h k q=>simp[q]
theorem RowsLe.rows {l l':List (List C)}(h:RowsLe l l') {n:Nat}:(∀r∈l,r.length=n)→∀r∈l',r.length=n:=by
 induction h with
 | nil=>exact fun h=>h
 | cons h k I=>
  intro hl r q;rcases Ao.1 q with rfl | q
  ·rw[h.length];exact hl _ ζ
  ·exact I (fun x hx=>hl x (κ _ hx)) r q
theorem Sub.arrWeak {kf:List Nat}{st:St}{x te es fz:Nat}{rows q:List (List C)}(h:st.h x=some (.arr te es rows fz)) (hp:RowsLe rows q):Sub kf ⟨st.e,upd st.h x (some (.arr te es q fz)),st.d⟩ st:=by
 intro G n S μ a w _ hs;have hi:=hs.inv;have Y:=hi.obj x _ h
 have J:Evolve S μ st.h S μ (upd st.h x (some (.arr te es q fz))):=⟨S.le_refl,fun j y hj=>by
  by_cases I:j=x
  ·subst I;rw[h] at hj;cases hj;exact⟨_,aK _ _ _,by simp[AObj.succ,hp.length]⟩
  ·exact⟨y,by rw[bE _ _ _ I];exact hj,y.succ_refl rfl⟩⟩
 have hold:∀j y,upd st.h x (some (.arr te es q fz)) j=some y→∃y',st.h j=some y':=fun j y hj=>by
  by_cases I:j=x
  ·subst I;exact⟨_,h⟩
  ·rw[bE _ _ _ I] at hj;exact⟨_,hj⟩
 refine⟨S,μ,⟨⟨hi.holds,fun j y hj=>?_,fun i j y y' b c c' N hj hm W=>?_,fun i y b c N hm=>?_,hi.frame,hi.sle,hi.sto,hi.evo.trans J,hi.fre⟩,hs.size,hs.defers.evolve J,fun s v e=>b6.evolve J v _ (hs.env s v e)⟩⟩
 ·by_cases I:j=x
  ·subst I;have O:some (AObj.arr te es q fz)=some y:=by rw[←hj];exact(aK _ _ _).symm
   cases O;obtain⟨g0,g⟩:=Y;refine⟨hp.rows g0,?_⟩;rcases g with⟨g1,g2⟩ | ⟨b,base,cap,vs,g1,g2,g3,g4,g5,g6,g7,g8,g9⟩
   ·subst g2;cases hp;exact .inl ⟨g1,rfl⟩
   ·refine .inr ⟨b,base,cap,vs,g1,g2,g3,by rw[hp.length];exact g4,g5,?_,g7,?_,?_⟩
    ·rw[hp.length];exact hp.flat.rep g6
    ·rw[hp.length];exact g8
    ·rw[hp.length];exact g9
  ·have O:st.h j=some y:=by rw[←hj];exact(bE _ _ _ I).symm
   exact(hi.obj j y O).evolve J rfl fun _ _ _=>⟨rfl,fun _=>rfl,rfl⟩
 ·obtain⟨_,h1⟩:=hold _ _ N;obtain⟨_,h2⟩:=hold _ _ hj;exact hi.inj i j _ _ b c c' h1 h2 hm W
 ·obtain⟨_,h1⟩:=hold _ _ N;exact hi.own i _ b c h1 hm
theorem aw {kf:List Nat}{st:St}(x:Nat) {te es fz:Nat}{rows:List (List C)}(q:List (List C)) (h:st.h x=some (.arr te es rows fz):=by rfl)
  (hp:RowsLe rows q:=by repeat (first | exact .nil | apply Go.AM.RowsLe.cons | apply Go.AM.CsLe.cons .refl | apply Go.AM.CsLe.cons .nl)):Sub kf ⟨st.e,upd st.h x (some (.arr te es q fz)),st.d⟩ st:=Sub.arrWeak h hp
end Go.AM
namespace Go.Proofs.YtockgoadliilhaaGreatDoor
open Go Go.AM
set_option maxRecDepth 20000
mutual
def tn:Ty→Nat
 | .mk _ _ s a=>1+s.length+tns a
def tns:List Ty→Nat
 | []=>0
 | t::l=>tn t+tns l
end
theorem kJ (t:Ty):1≤tn t:=by cases t;rw[tn];omega
theorem aIw:∀l:List Ty,l.length≤tns l
 | []=>Aj _
 | t::l=>by rw[tns,Ag];have:=aIw l;have:=kJ t;omega
theorem kV:∀{l:List Ty}{t:Ty},t∈l→tn t≤tns l
 | u::l,t,h=>by
  rw[tns];rcases Ao.1 h with rfl | h
  ·omega
  ·have:=kV h;omega
theorem aAn (t:Ty) (ht:t.args.length≤1000000) (N:∀u∈t.args,aU Tryz.prog 115 [tyV u] [] (tyV u) []):aU Tryz.prog 115 [tyV t] [] (tyV t) []:=by
 obtain⟨f,n,s,a⟩:=t;have N:∀u∈a,aU Tryz.prog 115 [tyV u] [] (tyV u) []:=N;have Z:a.length≤1000000:=ht;have q:(eE a).length=a.length:=by rw[gY,θ]
 refine bO (n:=22) tok Tryz.func115 rfl rfl rfl ?_;refine sg rfl (sg rfl (AWp.sub (Sub.own (t:=3) (id:=600) 33 4 rfl rfl) ?_));refine a8 (sg rfl (aC (aL (fun i:Nat=>mk [(1,.one (.vp 1 0)),(2,.one (.vp 2 0)),(3,.one (.hs 600 0 ((eE a).take i).length ((eE a).take i).length)),(7,.one (.c (.sl 4 (eE a)))),(8,I .i64 ((eE a).length:Int)),(9,I .i64 i)] [(600,.arr 33 4 ((eE a).take i) 0),(1,.var 33 ((b8 (.mk f n s a)).map R.c)),(2,.var 33 [.c (.int .i64 0),.c (.int .i64 0),.c (.str []),.c .nl])]) (fun i=>i≤a.length) (fun i=>a.length-i) 0 (Aj _) sl ?_)));intro i hi;have aa:((eE a).take i).length=i:=by rw[Au];omega
 refine sg rfl (a8 (aA rfl (fun hb=>?_) (fun hb=>?_)))
 ·have J:=ltD hb q;obtain⟨u,hu⟩:=aJ J;have O:(eE a)[i]?=some (b8 u):=by rw[gY];exact bM b8 hu
  have hc:=N u (η hu);have W:(eE a).take (i+1)=(eE a).take i++[b8 u]:=by rw[Bh,O];rfl
  refine aD (a8 (aC (sgh [(0,.row i (b8 u))] rfl (aE mixed (ak 2 [] rfl (kc hc ?_))))));refine ak 3 [(3,.all)] rfl (az (ag [] rfl ⟨i+1,J,by dsimp only;omega,?_⟩));dsimp only;rw[W];exact sl
 have Y:=geD hb q hi;subst Y;rw[show(eE a).take a.length=eE a by rw[←q,An]];refine aO (AWp.sub (Sub.freeze (id:=600) rfl) ?_);refine sg rfl (AWp.sub (vp 1 (b8 (.mk f n s a))) ?_);exact sg rfl (aI (rtC trw))
mutual
def wfS:Ty→Bool
 | .mk f n s a=>(if f=4 then decide (n=0∧s=[]∧a.length=2) else if f=5 then decide (n=0∧a.length=1) else a.isEmpty)&&aGu a
def aGu:List Ty→Bool
 | []=>true
 | t::l=>wfS t&&aGu l
end
theorem aDe:∀{l:List Ty}{t:Ty},aGu l=true→t∈l→wfS t=true
 | u::l,t,h,ht=>by
  rw[aGu,Ai] at h;rcases Ao.1 ht with rfl | ht
  ·exact h.1
  ·exact aDe h.2 ht
theorem nL {f n:Int}{s:Str}{a:List Ty}(h:wfS (.mk f n s a)=true):a.length≤2∧(∀u∈a,wfS u=true)∧(f=4→n=0∧s=[]∧∃u v,a=[u,v])∧(f=5→n=0∧∃u,a=[u])∧(¬f=4→¬f=5→a=[]):=by
 rw[wfS,Ai] at h;obtain⟨h1,h2⟩:=h;refine⟨?_,fun u hu=>aDe h2 hu,fun h4=>?_,fun h5=>?_,fun h4 h5=>?_⟩
 ·split at h1
  ·exact le_of_eq (ψ h1).2.2
  ·split at h1
   ·rw[(ψ h1).2];omega
   ·rw[List.isEmpty_iff.1 h1];simp
 ·rw[ξ h4] at h1;obtain⟨q,a2,a3⟩:=ψ h1
  match a,a3 with
  | [u,v],_=>exact⟨q,a2,u,v,rfl⟩
 ·rw[φ (by omega),ξ h5] at h1;obtain⟨q,a2⟩:=ψ h1;exact⟨q,Bk.1 a2⟩
 ·rw[φ h4,φ h5] at h1;exact List.isEmpty_iff.1 h1
theorem xV:∀(k:Nat) (t:Ty),tn t≤k→wfS t=true→aU Tryz.prog 115 [tyV t] [] (tyV t) []
 | 0,t,h,_=>by have:=kJ t;omega
 | k+1,t,h,hw=>by
  obtain⟨f,n,s,a⟩:=t;obtain⟨h1,h2,_⟩:=nL hw;exact aAn (.mk f n s a) (show a.length≤_ by omega) fun u hu=>xV k u (by have hu:u∈a:=hu;have:=kV hu;rw[tn] at h;omega) (h2 u hu)
theorem aP6 (a b:Ty):aU Tryz.prog 116 [tyV a,tyV b] [] (tyV (aN2 a b)) []:=by
 refine bO (n:=9) tok Tryz.func116 rfl rfl rfl ?_;exact sg rfl (sgh [(2,.all)] rfl (aI (rtC trw)))
theorem aSf (s:Str):aU Tryz.prog 114 [Go.AM.T s] [] (tyV (.mk 2 0 s [])) []:=by
 refine bO (n:=5) tok Tryz.func114 rfl rfl rfl ?_;exact sg rfl (sg rfl (aI (rtC trw)))
def gR (f:Int) (s:Str) (o:List Str) (x:Str):List Str:=if ¬x∈o∧(¬f=5∨¬x=s) then o++[x] else o
def r8 (f:Int) (s:Str) (o:List Str) (l:List Str):List Str:=l.foldl (gR f s) o
mutual
def tfR:Ty→List Str
 | .mk f _ s a=>if f=2 then [s] else oP f s a []
def oP (f:Int) (s:Str):List Ty→List Str→List Str
 | [],o=>o
 | t::l,o=>oP f s l (r8 f s o (tfR t))
end
def tfL (f:Int) (s:Str) (l:List Ty) (o:List Str):List Str:=l.foldl (fun o t=>r8 f s o (tfR t)) o
theorem vY (f:Int) (s:Str):∀(l:List Ty) (o:List Str),oP f s l o=tfL f s l o
 | [],o=>by rw[oP];rfl
 | t::l,o=>by rw[oP,vY f s l];rfl
theorem aI0 (f:Int) (s:Str) (o:List Str) (x:Str):(gR f s o x).length≤o.length+1:=by
 unfold gR;split
 ·simp
 ·omega
theorem qK (f:Int) (s:Str):∀(l o:List Str),(r8 f s o l).length≤o.length+l.length
 | [],o=>le_refl _
 | x::l,o=>by
  have h1:=qK f s l (gR f s o x);have h2:=aI0 f s o x;show(r8 f s (gR f s o x) l).length≤_;rw[Ag];omega
mutual
theorem aIx:∀t:Ty,(tfR t).length≤tn t
 | .mk f n s a=>by
  rw[tfR,tn];split
  ·simp;omega
  ·have:=aBv f s a [];simp only[length_nil] at this;omega
theorem aBv (f:Int) (s:Str):∀(l:List Ty) (o:List Str),(oP f s l o).length≤o.length+tns l
 | [],o=>by rw[oP,tns];exact le_refl _
 | t::l,o=>by
  rw[oP,tns];have h1:=aBv f s l (r8 f s o (tfR t));have h2:=qK f s (tfR t) o;have h3:=aIx t;omega
end
theorem aI3 {f:Int}{s:Str}{o l:List Str}{j:Nat}{x:Str}(h:l[j]?=some x):r8 f s o (l.take (j+1))=gR f s (r8 f s o (l.take j)) x:=by
 unfold r8;rw[Bh,h,B4];rfl
theorem aD7 {f:Int}{s:Str}{o:List Str}{l:List Ty}{j:Nat}{x:Ty}(h:l[j]?=some x):tfL f s (l.take (j+1)) o=r8 f s (tfL f s (l.take j) o) (tfR x):=by
 unfold tfL;rw[Bh,h,B4];rfl
theorem aD2:∀(l:List Ty) (i:Nat),tns (l.take i)≤tns l
 | [],i=>by simp
 | t::l,0=>by rw[Bp,tns];omega
 | t::l,i+1=>by rw[Ax,tns,tns];have:=aD2 l i;omega
theorem oD (t:Ty) (ht:t.args.length≤1000000000) (hL:∀i,(tfL t.form t.name (t.args.take i) []).length≤1000000000) (hU:∀u∈t.args,(tfR u).length≤1000000000) (ih:∀u∈t.args,aU Tryz.prog 76 [tyV u] [] (aY (tfR u)) []):aU Tryz.prog 76 [tyV t] [] (aY (tfR t)) []:=by
 obtain⟨f,n,s,a⟩:=t;have hal:a.length≤1000000000:=ht;have hL:∀i,(tfL f s (a.take i) []).length≤1000000000:=hL;have hU:∀u∈a,(tfR u).length≤1000000000:=hU;have ih:∀u∈a,aU Tryz.prog 76 [tyV u] [] (aY (tfR u)) []:=ih;have ad:(eE a).length=a.length:=by rw[gY,θ]
 rw[tfR];refine bO (n:=50) tok Tryz.func76 rfl rfl rfl ?_;refine sg rfl (a8 (sg rfl (aA rfl (fun hb=>?_) (fun hb=>?_))))
 ·have h2:f=2:=ψ hb;rw[ξ h2];exact sgh [(2,.all)] rfl (aI rtT)
 ·have h2:¬f=2:=δ hb;rw[φ h2,vY] at *;refine aD (sg rfl (AWp.sub (Sub.own (t:=3) (id:=600) 9 1 rfl rfl) (AWp.sub (Sub.freeze (id:=600) rfl) ?_)));refine a8 (sg rfl (aC (aL (fun i:Nat=>mk [(1,.one (.vp 1 0)),(3,.one (.hs 600 0 (tfL f s (a.take i) []).length (tfL f s (a.take i) []).length)),(15,.one (.c (.sl 4 (eE a)))),(16,I .i64 ((eE a).length:Int)),(17,I .i64 i)] [(600,.arr 9 1 ((tfL f s (a.take i) []).map bD) 2),(1,.var 33 ((b8 (.mk f n s a)).map R.c))]) (fun i=>i≤a.length) (fun i=>a.length-i) 0 (Aj _) sl ?_)));intro i hi;refine sg rfl (a8 (aA rfl (fun hb=>?_) (fun hb=>?_)))
  ·have ae:=ltD hb ad;obtain⟨u,hu⟩:=aJ ae;have hu':(eE a)[i]?=some (b8 u):=by rw[gY];exact bM b8 hu
   have hm:=η hu;have hc:=ih u hm;have hul:=hU u hm;have Z:=aD7 (f:=f) (s:=s) (o:=[]) hu;have hol:=hL i;generalize tfL f s (a.take i) []=o at Z hol ⊢;have aa:((tfR u).map bD).length=(tfR u).length:=θ _;generalize tfR u=J at hc hul Z aa;refine aD (a8 (aC (sgh [(0,.row i (b8 u))] rfl (sk 1 rfl (kc hc ?_)))));refine kz 2 rfl (aC (aL (fun j:Nat=>mk [(1,.one (.vp 1 0)),(3,.one (.hs 600 0 (r8 f s o (J.take j)).length (r8 f s o (J.take j)).length)),(15,.one (.c (.sl 4 (eE a)))),(16,I .i64 ((eE a).length:Int)),(17,I .i64 i),(22,aY J),(23,I .i64 ((J.map bD).length:Int)),(24,I .i64 j)] [(600,.arr 9 1 ((r8 f s o (J.take j)).map bD) 2),(1,.var 33 ((b8 (.mk f n s a)).map R.c))]) (fun j=>j≤J.length) (fun j=>J.length-j) 0 (Aj _) sl ?_));intro j hj;refine sg rfl (a8 (aA rfl (fun hb=>?_) (fun hb=>?_)))
   ·have N:=ltD hb aa;obtain⟨x,hx⟩:=aJ N;have hx':=bM bD hx;have O:=aI3 (f:=f) (s:=s) (o:=o) hx;have hpl:(r8 f s o (J.take j)).length≤2000000000:=by
     have:=qK f s (J.take j) o;rw[Au] at this;omega
    generalize r8 f s o (J.take j)=q at O hpl ⊢;have W:=bW q x (by omega);have hkq:(q.map bD).length=q.length:=θ _;refine aD (a8 (aC (sgh [(0,.row j (bD x))] rfl ?_)));by_cases Y:x∈q
    ·rw[Ak Y] at W;have he:gR f s q x=q:=by unfold gR;rw[φ (fun h=>h.1 Y)]
     refine sk 2 rfl (kc W ?_);refine kz 12 rfl (aA rfl nofun (fun _=>aD (ag [] rfl ⟨j+1,N,by dsimp only;omega,?_⟩)));dsimp only;rw[O,he];exact sl
    rw[Al Y] at W;by_cases h5:f=5
    ·have d5:decide (f=5)=true:=Ak h5;have d5':(!decide (f=5))=false:=by rw[d5];rfl
     refine sk 2 rfl (kc W ?_);refine ak 12 [(8,.bv false),(13,.bv false)] rfl (az (aA rfl (fun hb=>?_) (fun hb=>?_)))
     ·have ab:¬x=s:=by simp at hb;exact hb
      have he:gR f s q x=q++[x]:=by unfold gR;rw[ξ ⟨Y,.inr ab⟩]
      refine ag [(2,.all)] rfl (AWp.sub (Sub.freeze (id:=600) rfl) ?_);refine ag [] rfl ⟨j+1,N,by dsimp only;omega,?_⟩;dsimp only;rw[O,he];exact sl (hh:=⟨⟨_,rfl,.arrS (by rw[Ar];rfl)⟩,⟨_,rfl,.var rfl⟩,trivial⟩)
     ·have ab:x=s:=by simp at hb;exact hb
      have he:gR f s q x=q:=by unfold gR;rw[φ (fun h=>h.2.elim (fun h=>h h5) (fun h=>h ab))]
      refine aD (ag [] rfl ⟨j+1,N,by dsimp only;omega,?_⟩);dsimp only;rw[O,he];exact sl
    ·have d5:decide (f=5)=false:=Al h5;have d5':(!decide (f=5))=true:=by rw[d5];rfl
     have he:gR f s q x=q++[x]:=by unfold gR;rw[ξ ⟨Y,.inl h5⟩]
     refine sk 2 rfl (kc W ?_);refine ak 12 [(8,.bv true),(13,.bv true)] rfl (az (aA rfl (fun _=>ag [(2,.all)] rfl (AWp.sub (Sub.freeze (id:=600) rfl) ?_)) nofun));refine ag [] rfl ⟨j+1,N,by dsimp only;omega,?_⟩;dsimp only;rw[O,he];exact sl (hh:=⟨⟨_,rfl,.arrS (by rw[Ar];rfl)⟩,⟨_,rfl,.var rfl⟩,trivial⟩)
   have ac:=geD hb aa hj;subst ac;rw[An];refine aO (ag [] rfl ⟨i+1,ae,by dsimp only;omega,?_⟩);dsimp only;rw[Z];exact sl
  have ac:=geD hb ad hi;subst ac;rw[An];exact aO (sg rfl (aI (rtT (hc:=hs_all rfl rfl (by simp) rfl))))
theorem aAo (t:Ty) (ht:tn t≤1000000000) (q:∀u,tn u<tn t→aU Tryz.prog 76 [tyV u] [] (aY (tfR u)) []):aU Tryz.prog 76 [tyV t] [] (aY (tfR t)) []:=by
 obtain⟨f,n,s,a⟩:=t;rw[tn] at ht q;have I:=aIw a;refine oD (.mk f n s a) (show a.length≤_ by omega) (fun i=>?_) (fun u hu=>?_) fun u hu=>q u ?_
 ·have h1:=aBv f s (a.take i) [];rw[vY] at h1;have h2:=aD2 a i;simp only[length_nil] at h1;show(tfL f s (a.take i) []).length≤_;omega
 ·have h1:=kV (show u∈a from hu);have h2:=aIx u;omega
 ·have h1:=kV (show u∈a from hu);omega
theorem aF8:∀(k:Nat) (t:Ty),tn t≤k→tn t≤1000000000→aU Tryz.prog 76 [tyV t] [] (aY (tfR t)) []
 | 0,t,h,_=>by have:=kJ t;omega
 | k+1,t,h,hm=>aAo t hm fun u hu=>aF8 k u (by omega) (by omega)
mutual
def fvm:Ty→Nat
 | .mk f n s a=>max (tfR (.mk f n s a)).length (aLz a)
def aLz:List Ty→Nat
 | []=>0
 | t::l=>max (fvm t) (aLz l)
end
theorem iL (t:Ty):(tfR t).length≤fvm t:=by cases t;rw[fvm];exact C2 ..
theorem aFu:∀{l:List Ty}{t:Ty},t∈l→fvm t≤aLz l
 | u::l,t,h=>by
  rw[aLz];rcases Ao.1 h with rfl | h
  ·exact C2 ..
  ·exact le_trans (aFu h) (Cy ..)
theorem sM {f n:Int}{s:Str}{a:List Ty}{u:Ty}(h:u∈a):fvm u≤fvm (.mk f n s a):=by
 rw[fvm];exact le_trans (aFu h) (Cy ..)
theorem aI2 {f:Int}{s:Str}{L:Nat}:∀{l:List Ty}{o:List Str},(∀u∈l,(tfR u).length≤L)→(tfL f s l o).length≤o.length+l.length*L
 | [],o,_=>by simp[tfL]
 | t::l,o,h=>by
  have h1:=aI2 (f:=f) (s:=s) (l:=l) (o:=r8 f s o (tfR t)) fun u hu=>h u (κ _ hu)
  have h2:=qK f s (tfR t) o;have h3:=h t ζ;show(tfL f s l (r8 f s o (tfR t))).length≤_;rw[Ag,Nat.succ_mul];omega
theorem oE:∀(k:Nat) (t:Ty),tn t≤k→wfS t=true→fvm t≤400000000→aU Tryz.prog 76 [tyV t] [] (aY (tfR t)) []
 | 0,t,h,_,_=>by have:=kJ t;omega
 | k+1,t,h,hw,hf=>by
  obtain⟨f,n,s,a⟩:=t;obtain⟨h1,h2,_⟩:=nL hw;have hu:∀u∈a,(tfR u).length≤400000000:=fun u hu=>le_trans (iL u) (le_trans (sM hu) hf)
  refine oD (.mk f n s a) (show a.length≤_ by omega) (fun i=>?_) (fun u q=>le_trans (hu u q) (by decide)) fun u q=>?_
  ·have h3:=aI2 (f:=f) (s:=s) (l:=a.take i) (o:=[]) fun u q=>hu u (Bl q)
   rw[Au,length_nil] at h3;have h4:min i a.length*400000000≤2*400000000:=Ay _ (by omega);show(tfL f s (a.take i) []).length≤_;omega
  ·have q:u∈a:=q;exact oE k u (by have:=kV q;rw[tn] at h;omega) (h2 u q) (le_trans (sM q) hf)
def fw (t:Ty):Nat:=if wfS t=true∧fvm t≤tn t then fvm t else tn t
theorem aYf (t:Ty):(tfR t).length≤fw t:=by
 unfold fw;split
 ·exact iL t
 ·exact aIx t
theorem aR7 {t:Ty}(h:wfS t=true):fw t≤fvm t:=by
 unfold fw;split
 ·exact le_refl _
 ·rename_i q;have:¬fvm t≤tn t:=fun hh=>q ⟨h,hh⟩
  omega
theorem aF9 (t:Ty) (h:fw t≤400000000):aU Tryz.prog 76 [tyV t] [] (aY (tfR t)) []:=by
 unfold fw at h;split at h
 ·rename_i q;exact oE (tn t) t (le_refl _) q.1 h
 ·exact aF8 (tn t) t (le_refl _) (by omega)
end Go.Proofs.YtockgoadliilhaaGreatDoor
namespace Go.AM
open Go
theorem aYj:∀m:_root_.Fin 128,Utf8.encode ((m.val:Nat):Int)=⟨⟨[UInt8.ofNat m.val]⟩⟩:=by decide+kernel
section
variable {P:Program}{T:TT}{n:Nat}{o:Oper}{st:St}{d:Nat}
theorem aTp {src dst:TypeId}{i j:TI}{x:Operand}{k:IntKind}{m:Nat}(hm:m<128) (q:Tok P T) (W:o.op=.convert src dst x) (hd:o.dst=some d) (J:d<n) (hi:T[src]?=some (some i)) (N:i.k=.int k) (hj:T[dst]?=some (some j)) (O:j.k=.str)
  (hx:opv st x=some (I k (m:Int))):Step P n o st ⟨opr x,[]⟩ ⟨some (d,some (Go.AM.T [UInt8.ofNat m])),[]⟩:=by
 refine Step.value hd J fun st' ha G S μ a w hs=>?_
 have hv:=fF (aQ hs hx ha.1);refine⟨.string ⟨⟨[UInt8.ofNat m]⟩⟩,?_,by simp[b6,bF,Rep]⟩;have h1:=(q.get hi).int N;have h2:=(q.get hj).str O;have h3:=run_convert_int_string (P:=P) w src dst k (m:Int) (by rw[h1];rfl) h2;rw[aYj ⟨m,hm⟩] at h3;simp only[execOp,W,hv,Ae,h3,ε,Af]
end
section
variable {P:Program}{n:Nat}{ops:Array Oper}{draw:Bool}{k d:Nat}{st:St}{pre:REs}{Q:St→Prop}{o:Oper}
theorem kr {tr:Tr}{src dst:TypeId}{i j:TI}{x:Operand}{kk:IntKind}(m:Nat) (hm:m<128) (W:Tok P tr.flat)
  (hk:kS P n ops draw (k+1) ⟨upd st.e d (some (Go.AM.T [UInt8.ofNat m])),st.h,st.d⟩ ((⟨opr x,[]⟩,⟨some (d,some (Go.AM.T [UInt8.ofNat m])),[]⟩)::pre) Q) (hw:tr.wf=true)
  (Y:ops[k]?=some o:=by rfl) (hg:o.guard=none:=by rfl) (q:o.op=.convert src dst x:=by rfl) (hd:o.dst=some d:=by rfl) (J:Nat.blt d n=true:=by rfl) (hi:tr.get src=some i:=by rfl) (N:i.k=.int kk:=by rfl) (hj:tr.get dst=some j:=by rfl) (O:j.k=.str:=by rfl) (hx:opv st x=some (I kk (m:Int)):=by first | rfl | assumption):kS P n ops draw k st pre Q:=
 k_ (g_ Y hg (aTp hm W q hd (mB J) (Tr.get_ok hw hi) N (Tr.get_ok hw hj) O hx)) hk
end
end Go.AM
namespace Go.Proofs.YtockgoadliilhaaGreatDoor
open Go Go.AM
set_option maxRecDepth 20000
def bG (n:Nat):Str:=if n<26 then [UInt8.ofNat (97+n%26)] else [UInt8.ofNat (97+n%26)]++Lib.decDigits (n/26)
theorem wrap_small (m:Nat) (h:m<128):IntKind.i32.wrap (m:Int)=(m:Int):=by
 have:∀m:_root_.Fin 128,IntKind.i32.wrap ((m.val:Nat):Int)=((m.val:Nat):Int):=by decide+kernel
 exact this ⟨m,h⟩
theorem nI (n:Nat) (h:n≤600000000000):(Lib.decDigits n).length≤20:=by
 rw[Lib.decDigits_length];by_cases h0:n=0
 ·subst h0;decide+kernel
 ·have:=Lib.numDigits_eq n (by omega) (by omega);split at this<;>omega
theorem aAr (n:Nat) (hn:n≤600000000000) (q:26≤n→aU Tryz.prog 129 [I .i64 ((n/26:Nat):Int)] [] (Go.AM.T (Lib.decDigits (n/26))) []):aU Tryz.prog 137 [I .i64 n] [] (Go.AM.T (bG n)) []:=by
 have J:(97:Int)+(n:Int)%26=((97+n%26:Nat):Int):=by omega
 refine bO (n:=17) tok Tryz.func137 rfl rfl rfl ?_;refine sg rfl (sk 4 rfl ?_ (hc:=by repeat (first | exact trivial | refine⟨by first | rfl | omega,?_⟩)))
 refine kr (97+n%26) (by omega) tok ?_ trw (hx:=by
  show some (I .i32 (IntKind.i32.wrap (97+(n:Int)%26)))=some (I .i32 ((97+n%26:Nat):Int))
  rw[J,wrap_small _ (by omega)])
 refine kz 1 rfl (a8 (sg rfl (aA rfl (fun hb=>?_) (fun hb=>?_))))
 ·have h:n<26:=by have:=ψ hb;omega
  unfold bG;rw[ξ h];exact sg rfl (aI rtT)
 ·have h:¬n<26:=by have:=δ hb;omega
  have q:=q (by omega);have O:600000000000≤maxLen:=by decide
  have N:=nI (n/26) (by omega);have hd:(n:Int)/26=((n/26:Nat):Int):=by omega
  unfold bG;rw[φ h];refine aD (sk 3 rfl ?_ (hc:=by repeat (first | exact trivial | refine⟨by first | rfl | omega | decide,?_⟩)));rw[←hd] at q;refine kc q ?_;refine ak 2 [] rfl ?_ (hc:=by repeat (first | exact trivial | refine⟨by first | rfl | omega | (simp;omega),?_⟩));exact az (aI rtT)
theorem qZ {a b:Nat}(ha:a<256) (hb:b<256) (h:UInt8.ofNat a=UInt8.ofNat b):a=b:=by
 have:=congrArg UInt8.toNat h;simp only[UInt8.toNat_ofNat'] at this;omega
theorem aF6 (n:Nat):1≤(Lib.decDigits n).length:=by
 rw[Lib.decDigits];split<;>simp
theorem aSb:∀(n m:Nat),Lib.decDigits n=Lib.decDigits m→n=m:=by
 intro n
 induction n using Nat.strongRecOn with
 | _ n q=>
  intro m h;rw[Lib.decDigits,Lib.decDigits.eq_1 m] at h;split at h<;>split at h
  ·simp only[List.cons.injEq,and_true] at h;have:=qZ (by omega) (by omega) h;omega
  ·have:=congrArg List.length h;have hp:=aF6 (m/10);simp only[ω,Ag,length_nil] at this;omega
  ·have:=congrArg List.length h;have hp:=aF6 (n/10);simp only[ω,Ag,length_nil] at this;omega
  ·have h1:=List.append_inj' h rfl;have h2:=q (n/10) (by omega) (m/10) h1.1;have h3:=h1.2;simp only[List.cons.injEq,and_true] at h3;have:=qZ (by omega) (by omega) h3;omega
theorem aCm (n m:Nat) (h:bG n=bG m):n=m:=by
 unfold bG at h;split at h<;>split at h
 ·simp only[List.cons.injEq,and_true] at h;have:=qZ (by omega) (by omega) h;omega
 ·have:=congrArg List.length h;have hp:=aF6 (m/26);simp only[ω,Ag,length_nil] at this;omega
 ·have:=congrArg List.length h;have hp:=aF6 (n/26);simp only[ω,Ag,length_nil] at this;omega
 ·simp only[Ba,Bd,List.cons.injEq] at h;have h1:=qZ (by omega) (by omega) h.1;have h2:=aSb _ _ h.2;omega
theorem aPw (l:List Str):∃n,n≤l.length∧¬bG n∈l:=by
 refine Classical.byContradiction fun J=>?_
 have q:∀n,n≤l.length→bG n∈l:=fun n hn=>Classical.byContradiction fun h=>J ⟨n,hn,h⟩
 have N:((List.range (l.length+1)).map bG).Nodup:=by
  rw[List.Nodup,List.pairwise_map];exact List.Pairwise.imp (fun h e=>h (aCm _ _ e)) nodup_range
 have I:∀x∈(List.range (l.length+1)).map bG,x∈l:=fun x hx=>by
  obtain⟨i,hi,rfl⟩:=Ad.1 hx;exact q i (by have:=mem_range.1 hi;omega)
 have key:∀(a b:List Str),a.Nodup→(∀x∈a,x∈b)→a.length≤b.length:=by
  intro a
  induction a with
  | nil=>intro b _ _;simp
  | cons x a O=>
   intro b hn hs;rw[Br] at hn;have h1:=O (b.erase x) hn.2 fun y hy=>(List.mem_erase_of_ne (by rintro rfl;exact hn.1 hy)).2 (hs y (κ _ hy))
   have hx:=hs x ζ;rw[List.length_erase_of_mem hx] at h1;have:=List.length_pos_of_mem hx;rw[Ag];omega
 have:=key _ _ N I;rw[θ,length_range] at this;omega
theorem kE (l:List Str):∃n,n≤l.length∧¬bG n∈l∧∀m,m<n→bG m∈l:=by
 have key:∀k:Nat,(∃n,n≤k∧¬bG n∈l)→∃n,n≤k∧¬bG n∈l∧∀m,m<n→bG m∈l:=by
  intro k
  induction k with
  | zero=>
   rintro⟨n,hn,h⟩;exact⟨n,hn,h,fun m hm=>by omega⟩
  | succ k I=>
   rintro⟨n,hn,h⟩;by_cases hk:∃n,n≤k∧¬bG n∈l
   ·obtain⟨m,h1,h2,h3⟩:=I hk;exact⟨m,by omega,h2,h3⟩
   ·have J:n=k+1:=by
     by_cases h1:n≤k
     ·exact absurd ⟨n,h1,h⟩ hk
     ·omega
    exact⟨n,hn,h,fun m hm=>Classical.byContradiction fun q=>hk ⟨m,by omega,q⟩⟩
 exact key l.length (aPw l)
noncomputable def dT (l:List Str):Nat:=Classical.choose (kE l)
noncomputable def aZ (l:List Str):Str:=bG (dT l)
theorem lQ (l:List Str):dT l≤l.length:=(B7 (kE l)).1
theorem gU (l:List Str):¬bG (dT l)∈l:=(B7 (kE l)).2.1
theorem jZ (l:List Str) {m:Nat}(h:m<dT l):bG m∈l:=(B7 (kE l)).2.2 m h
theorem xY (l:List Str) (hl:l.length≤570000000000) (N:∀k,k≤l.length→aU Tryz.prog 129 [I .i64 (k:Int)] [] (Go.AM.T (Lib.decDigits k)) []):aU Tryz.prog 113 [aY l] [] (Go.AM.T (aZ l)) []:=by
 have hf:=lQ l;refine bO (n:=12) tok Tryz.func113 rfl rfl rfl ?_;refine sg rfl (sg rfl (a8 (aC (aL (fun n:Nat=>mk [(0,aY l),(3,I .i64 n)] []) (fun n=>n≤dT l) (fun n=>dT l-n) 0 (Aj _) sl ?_))));intro n hn;have q:=aAr n (by omega) fun h=>N (n/26) (by omega)
 have J:=bW l (bG n) (by omega);refine a8 (sk 2 rfl (kc q ?_));refine kc J ?_;refine az (aA rfl (fun hb=>?_) (fun hb=>?_))
 ·have hm:bG n∈l:=ψ hb;have O:n≠dT l:=by rintro rfl;exact gU l hm
  refine aD (aC (ag [] rfl ?_ (hc:=by repeat (first | exact trivial | refine⟨by omega,?_⟩))));exact⟨n+1,by omega,by dsimp only;omega,sl⟩
 ·have hm:¬bG n∈l:=δ hb;have he:n=dT l:=by
   by_cases h:n<dT l
   ·exact absurd (jZ l h) hm
   ·omega
  refine aO (sk 1 rfl (kc q ?_));refine kz 1 rfl ?_;unfold aZ;rw[←he];exact aI rtT
abbrev cQ (m:Nat):Prop:=∀k,k≤m→aU Tryz.prog 129 [I .i64 (k:Int)] [] (Go.AM.T (Lib.decDigits k)) []
theorem aQb (l:List Str) (hl:l.length≤570000000000) (N:cQ l.length):aU Tryz.prog 138 [aY l] [] (Go.AM.T (aZ l)) []:=by
 have hf:=lQ l;have O:(l.map bD).length=l.length:=θ _;refine bO (n:=19) tok Tryz.func138 rfl rfl rfl ?_;refine sg rfl (a8 (a8 (agN [] rfl (aC (aL (fun n:Nat=>mk [(0,aY l),(7,I .i64 (((l.map bD).length+1:Nat):Int)),(8,I .i64 n)] []) (fun n=>n≤dT l) (fun n=>dT l-n) 0 (Aj _) sl ?_)) (hc:=⟨by show(l.map bD).length+1≤9223372036854775807;omega,trivial⟩))));intro n hn;have q:=aAr n (by omega) fun h=>N (n/26) (by omega)
 have J:=bW l (bG n) (by omega);refine sg rfl (a8 (aA rfl (fun hb=>?_) (fun hb=>?_)))
 ·refine aD (a8 (aC (sg rfl (sk 1 rfl (kc q ?_)))));refine kz 1 rfl (sk 2 rfl (kc J ?_));refine kz 1 rfl (aA rfl (fun hb=>?_) (fun hb=>?_))
  ·have hm:¬bG n∈l:=by simpa using hb
   have he:n=dT l:=by
    by_cases h:n<dT l
    ·exact absurd (jZ l h) hm
    ·omega
   refine sg rfl ?_;unfold aZ;rw[←he];exact aI rtT
  ·have hm:bG n∈l:=by simpa using hb
   have W:n≠dT l:=by rintro rfl;exact gU l hm
   refine aD (ag [] rfl ?_ (hc:=by repeat (first | exact trivial | refine⟨by omega,?_⟩)));exact⟨n+1,by omega,by dsimp only;omega,sl⟩
 ·exfalso;have:=δ hb;omega
theorem aU1 (s:Str) (t:Ty) (q:aU Tryz.prog 115 [tyV t] [] (tyV t) []):aU Tryz.prog 139 [Go.AM.T s,tyV t] [] (tyV (.mk 5 0 s [t])) []:=by
 refine bO (n:=10) tok Tryz.func139 rfl rfl rfl ?_;refine sg rfl (sk 2 rfl (kc q ?_));exact ak 3 [(3,.all)] rfl (az (aI (rtC trw)))
set_option maxHeartbeats 4000000
def aN0 (l:List Ty):V:=.one (.c (.sl 4 (l.map b8)))
def unF (nm:Str) (body:Ty) (l:List (Str×Ty)):List (Str×Ty):=l.filter fun p=>!decide (p.1=nm)&&decide (p.1∈tfR body)
def unC (l:List (Str×Ty)):List Str:=l.flatMap fun p=>tfR p.2
noncomputable def unN (nm:Str) (body:Ty) (l:List (Str×Ty)):Str:=if nm∈unC (unF nm body l) then aZ (unC (unF nm body l)++tfR body) else nm
noncomputable def unP (nm:Str) (body:Ty) (l:List (Str×Ty)):List (Str×Ty):=if nm∈unC (unF nm body l) then unF nm body l++[(nm,.mk 2 0 (unN nm body l) [])] else unF nm body l
theorem aDn {nm:Str}{body:Ty}{l:List (Str×Ty)}{i:Nat}{p:Str×Ty}(h:l[i]?=some p):unF nm body (l.take (i+1))=if(!decide (p.1=nm)&&decide (p.1∈tfR body))=true then unF nm body (l.take i)++[p] else unF nm body (l.take i):=by
 unfold unF;rw[Bh,h,List.filter_append];show _++List.filter _ [p]=_;rw[Cw];split<;>simp
theorem aP5 (nm:Str) (body b':Ty) (ps:List (Str×Ty)) (hl:ps.length≤1000000000) (hfr:aU Tryz.prog 76 [tyV body] [] (aY (tfR body)) []) (hfl:(tfR body).length≤400000000) (Z:aU Tryz.prog 139 [Go.AM.T (unN nm body ps),tyV b'] [] (tyV (.mk 5 0 (unN nm body ps) [b'])) [])
  (hps:∀p∈ps,aU Tryz.prog 76 [tyV p.2] [] (aY (tfR p.2)) []∧(tfR p.2).length≤400000000) (hc:(unC (unF nm body ps)).length≤540000000000∧∀i,(unC (unF nm body (ps.take i))).length≤540000000000) (hI:cQ ((unC (unF nm body ps)).length+(tfR body).length))
  (hS:aU Tryz.prog 78 [tyV body,aY ((unP nm body ps).map (·.1)),aN0 ((unP nm body ps).map (·.2))] [] (tyV b') []):
  aU Tryz.prog 117 [tyV (.mk 5 0 nm [body]),aY (ps.map (·.1)),aN0 (ps.map (·.2))] [] (tyV (.mk 5 0 (unN nm body ps) [b'])) []:=by
 have hk1:((ps.map (·.1)).map bD).length=ps.length:=by rw[θ,θ]
 refine bO (n:=81) tok Tryz.func117 rfl rfl rfl ?_;refine sg rfl (sgh [(2,.row 0 (b8 body))] rfl (sk 1 rfl (kc hfr ?_)));refine kz 1 rfl (sg rfl (sg rfl (sg rfl (AWp.sub (Sub.own (t:=9) (id:=600) 9 1 rfl rfl) (AWp.sub (Sub.freeze (id:=600) rfl) ?_)))));refine AWp.sub (Sub.own (t:=10) (id:=601) 33 4 rfl rfl) (AWp.sub (Sub.freeze (id:=601) rfl) ?_);refine AWp.sub (Sub.own (t:=11) (id:=602) 9 1 rfl rfl) (AWp.sub (Sub.freeze (id:=602) rfl) ?_);refine a8 (sg rfl (aC ?_))
 refine aL (fun i:Nat=>mk [(2,aN0 (ps.map (·.2))),(3,.one (.vp 3 0)),(6,.one (.vp 6 0)),(7,.one (.vp 7 0)),(8,aY (tfR body)),(9,.one (.hs 600 0 (unF nm body (ps.take i)).length (unF nm body (ps.take i)).length)),(10,.one (.hs 601 0 (unF nm body (ps.take i)).length (unF nm body (ps.take i)).length)),(11,.one (.hs 602 0 (unC (unF nm body (ps.take i))).length (unC (unF nm body (ps.take i))).length)),(21,aY (ps.map (·.1))),(22,I .i64 (((ps.map (·.1)).map bD).length:Int)),(23,I .i64 i)]
  [(600,.arr 9 1 (((unF nm body (ps.take i)).map (·.1)).map bD) 2),(601,.arr 33 4 (((unF nm body (ps.take i)).map (·.2)).map b8) 2),(602,.arr 9 1 ((unC (unF nm body (ps.take i))).map bD) 2),(3,.var 33 ((b8 (.mk 5 0 nm [body])).map R.c)),(6,.var 33 [.c (.int .i64 0),.c (.int .i64 0),.c (.str []),.c .nl]),(7,.var 33 ((b8 body).map R.c))]) (fun i=>i≤ps.length) (fun i=>ps.length-i) 0 (Aj _) sl ?_
 intro i hi;refine sg rfl (a8 (aA rfl (fun hb=>?_) (fun hb=>?_)))
 ·have W:=ltD hb hk1;obtain⟨⟨s,u⟩,hu⟩:=aJ W;have hs':((ps.map (·.1)).map bD)[i]?=some (bD s):=bM bD (by rw[Az,hu];rfl);have hu':((ps.map (·.2)).map b8)[i]?=some (b8 u):=bM b8 (by rw[Az,hu];rfl);obtain⟨hfu,hul⟩:=hps _ (η hu);have hul:(tfR u).length≤400000000:=hul;have hfu:aU Tryz.prog 76 [tyV u] [] (aY (tfR u)) []:=hfu;have J:=aDn (nm:=nm) (body:=body) hu;have O:=bW (tfR body) s (by omega);have hql:=hc.2 i;have hpl:(unF nm body (ps.take i)).length≤1000000000:=by
   have h1:(unF nm body (ps.take i)).length≤(ps.take i).length:=length_filter_le _ _;rw[Au] at h1;omega
  generalize unF nm body (ps.take i)=q at J hql hpl ⊢;generalize tfR body=fb at O J ⊢;refine aD (a8 (aC (sgh [(1,.row i (bD s))] rfl ?_)));by_cases h1:s=nm
  ·have Y:(!decide (s=nm))=false:=by rw[Ak h1];rfl
   dsimp only at J;rw[Y,Bool.false_and,φ (by decide)] at J;refine sgh [(4,.bv false),(8,.bv false)] rfl (aA rfl nofun (fun _=>aD (ag [] rfl ⟨i+1,W,by dsimp only;omega,?_⟩)));dsimp only;rw[J];exact sl
  have Y:(!decide (s=nm))=true:=by rw[Al h1];rfl
  dsimp only at J;rw[Y,Bool.true_and] at J;by_cases h2:s∈fb
  ·rw[Ak h2] at O;rw[ξ (Ak h2)] at J;have hql2:=hc.2 (i+1);rw[J] at hql2;have hcq:unC (q++[(s,u)])=unC q++tfR u:=by unfold unC;rw[Cl];simp
   rw[hcq,ω] at hql2;refine skh 7 [(4,.bv true)] rfl (kcG O ?_ (hw:=Y));refine ak 1 [(8,.bv true)] rfl (az (aA rfl (fun _=>?_) nofun));have hq1:((q.map (·.1)).map bD).length=q.length:=by rw[θ,θ]
   have hq2:((q.map (·.2)).map b8).length=q.length:=by rw[θ,θ]
   have hq3:((unC q).map bD).length=(unC q).length:=θ _;have hq4:((tfR u).map bD).length=(tfR u).length:=θ _;refine sgh [(2,.all),(7,.row i (b8 u)),(9,.all)] rfl (AWp.sub (Sub.freeze (id:=600) rfl) (AWp.sub (Sub.freeze (id:=601) rfl) ?_));refine aE mixed (ak 5 [(3,.row i (b8 u))] rfl (kc hfu ?_));refine kz 2 rfl (AWp.sub (Sub.freeze (id:=602) rfl) ?_);refine ag [] rfl ⟨i+1,W,by dsimp only;omega,?_⟩;dsimp only;rw[J,hcq];refine sl (he:=⟨rfl,rfl,rfl,rfl,rfl,Go.AM.hs_ren (by simp) (by simp),Go.AM.hs_ren (by simp) (by simp),Go.AM.hs_ren (by simp) (by simp),rfl,rfl,rfl,trivial⟩) (hh:=⟨⟨_,rfl,.arrS (by simp[bD])⟩,⟨_,rfl,.arrS (by simp;rfl)⟩,⟨_,rfl,.arrS (by simp)⟩,⟨_,rfl,.var rfl⟩,⟨_,rfl,.var rfl⟩,⟨_,rfl,.var rfl⟩,trivial⟩)
  ·rw[Al h2] at O;rw[φ (by rw[Al h2];decide)] at J;refine skh 7 [(4,.bv true)] rfl (kcG O ?_ (hw:=Y));refine ak 1 [(8,.bv true)] rfl (az (aA rfl nofun (fun _=>aD (ag [] rfl ⟨i+1,W,by dsimp only;omega,?_⟩))));dsimp only;rw[J];exact sl
 ·have hge:=geD hb hk1 hi;subst hge;rw[An];have hpl:(unF nm body ps).length≤1000000000:=by
   have h1:(unF nm body ps).length≤ps.length:=length_filter_le _ _;omega
  have O:=bW (unC (unF nm body ps)) nm (by omega);refine aO (sg rfl ?_);by_cases h1:nm∈unC (unF nm body ps)
  ·have eN:unN nm body ps=aZ (unC (unF nm body ps)++tfR body):=by unfold unN;rw[ξ h1]
   have eP:unP nm body ps=unF nm body ps++[(nm,.mk 2 0 (unN nm body ps) [])]:=by unfold unP;rw[ξ h1]
   have W:=aQb (unC (unF nm body ps)++tfR body) (by rw[ω];have:=hc.1;omega) (fun k hk=>hI k (by rw[ω] at hk;exact hk));rw[←eN] at W;rw[eP] at hS;have hv:=aSf (unN nm body ps);rw[Ak h1] at O;generalize unN nm body ps=N at *;have hcl:=hc.1;generalize unF nm body ps=q at *;have hS2:aU Tryz.prog 78 [tyV body,.one (.c (.sl 1 ((q.map (·.1)).map bD++[bD nm]))),.one (.c (.sl 4 ((q.map (·.2)).map b8++[b8 (.mk 2 0 N [])])))] [] (tyV b') []:=by
    have Y:aY ((q++[(nm,Ty.mk 2 0 N [])]).map (·.1))=.one (.c (.sl 1 ((q.map (·.1)).map bD++[bD nm]))):=by unfold aY;rw[Ar,Ar];rfl
    have e2:aN0 ((q++[(nm,Ty.mk 2 0 N [])]).map (·.2))=.one (.c (.sl 4 ((q.map (·.2)).map b8++[b8 (.mk 2 0 N [])]))):=by unfold aN0;rw[Ar,Ar];rfl
    rw[Y,e2] at hS;exact hS
   have hq1:((q.map (·.1)).map bD).length=q.length:=by rw[θ,θ]
   have hq2:((q.map (·.2)).map b8).length=q.length:=by rw[θ,θ]
   have hq3:((unC q).map bD).length=(unC q).length:=θ _;have hq4:((tfR body).map bD).length=(tfR body).length:=θ _;have hlt2:aU Tryz.prog 138 [.one (.c (.sl 1 ((unC q).map bD++(tfR body).map bD)))] [] (Go.AM.T N) []:=by
    have Y:aY (unC q++tfR body)=.one (.c (.sl 1 ((unC q).map bD++(tfR body).map bD))):=by unfold aY;rw[Ar]
    rw[Y] at W;exact W
   refine a8 (sk 2 rfl (kc O ?_));refine az (aA rfl (fun _=>skh 3 [(2,.fz)] rfl (kc hlt2 ?_)) nofun);refine kz 1 rfl (aE mixed (ak 7 [(3,.all)] rfl (kc hv ?_)));refine ak 4 [(8,.all)] rfl (az (AWp.sub (Sub.freeze (id:=600) rfl) (AWp.sub (Sub.freeze (id:=601) rfl) ?_)));refine sk 4 rfl (kc hS2 ?_);refine kc Z ?_;exact kz 1 rfl (aI (rtC trw))
  ·have eN:unN nm body ps=nm:=by unfold unN;rw[φ h1]
   have eP:unP nm body ps=unF nm body ps:=by unfold unP;rw[φ h1]
   rw[eP] at hS;rw[eN] at Z ⊢;rw[Al h1] at O;have hcl:=hc.1;generalize unF nm body ps=q at *;have hq1:((q.map (·.1)).map bD).length=q.length:=by rw[θ,θ]
   have hq2:((q.map (·.2)).map b8).length=q.length:=by rw[θ,θ]
   refine a8 (sk 2 rfl (kc O ?_));refine az (aA rfl nofun (fun _=>aD (sk 4 rfl (kc hS ?_))));refine kc Z ?_;exact kz 1 rfl (aI (rtC trw))
theorem pB (s:Str):∀(l:List Str) (k:Int),(∃i:Nat,yC s l k=k+i∧l[i]?=some s)∨(¬s∈l∧yC s l k= -1)
 | [],k=>.inr ⟨by simp,rfl⟩
 | x::l,k=>by
  rw[yC];split
  ·rename_i h;subst h;exact .inl ⟨0,by simp,rfl⟩
  ·rename_i h;rcases pB s l (k+1) with⟨i,h1,h2⟩ | ⟨h1,h2⟩
   ·exact .inl ⟨i+1,by rw[h1];omega,by simpa using h2⟩
   ·exact .inr ⟨by simp[h,h1],h2⟩
theorem aIz {f:Int}{s:Str}{o:List Str}{x y:Str}(h:y∈o):y∈gR f s o x:=by
 unfold gR;split
 ·exact χ.2 (.inl h)
 ·exact h
theorem qJ {f:Int}{s:Str}:∀{l o:List Str}{y:Str},y∈o→y∈r8 f s o l
 | [],_,_,h=>h
 | x::l,o,y,h=>qJ (l:=l) (o:=gR f s o x) (aIz h)
theorem nN {f:Int}{s:Str}:∀{l o:List Str}{y:Str},y∈l→(¬f=5∨¬y=s)→y∈r8 f s o l
 | x::l,o,y,h,hf=>by
  rcases Ao.1 h with rfl | h
  ·refine qJ (l:=l) (o:=gR f s o y) ?_;unfold gR;by_cases hy:y∈o
   ·rw[φ (fun h=>h.1 hy)];exact hy
   ·rw[ξ ⟨hy,hf⟩];simp
  ·exact nN (l:=l) (o:=gR f s o x) h hf
theorem aWi {n:Int}{nm:Str}{body:Ty}{x:Str}(h:x∈tfR body) (hx:¬x=nm):x∈tfR (.mk 5 n nm [body]):=by
 rw[tfR,φ (by decide),oP,oP];exact nN h (.inr hx)
theorem aTa {n:Int}{s:Str}{a b:Ty}{x:Str}(h:x∈tfR a):x∈tfR (.mk 4 n s [a,b]):=by
 rw[tfR,φ (by decide),oP,oP,oP];exact qJ (nN h (.inl (by decide)))
theorem aS9 {n:Int}{s:Str}{a b:Ty}{x:Str}(h:x∈tfR b):x∈tfR (.mk 4 n s [a,b]):=by
 rw[tfR,φ (by decide),oP,oP,oP];exact nN h (.inl (by decide))
theorem aCl (n:Nat) (h:n≤540000000000):(bG n).length≤21:=by
 unfold bG;have:=nI (n/26) (by omega);split
 ·simp
 ·simp;omega
theorem jY (l:List Str) (h:l.length≤540000000000):(aZ l).length≤21:=aCl _ (le_trans (lQ l) h)
end Go.Proofs.YtockgoadliilhaaGreatDoor
namespace Go.AM
open Go
theorem qS {α:Type}:∀(a b:List (Nat×α)) (i:Nat),look (a++b) i=match look a i with | some x=>some x | none=>look b i
 | [],_,_=>rfl
 | (k,x)::a,b,i=>by
  simp only[Ba,look];cases Nat.beq i k
  ·simpa using qS a b i
  ·rfl
theorem iZ:∀(a b:List (Nat×AObj)),dN (a++b)=dN a++dN b
 | [],_=>rfl
 | (k,o)::a,b=>by simp only[Ba,dN,iZ a b,At]
theorem eW.app {α:Type}{p:α→Prop}:∀{a b:List α},eW p a→eW p b→eW p (a++b)
 | [],_,_,h=>h
 | _::_,_,h,k=>⟨h.1,eW.app h.2 k⟩
theorem fL:∀{l:List Nat},l.Nodup→distinct l=true
 | [],_=>rfl
 | x::l,h=>by
  obtain⟨h1,h2⟩:=Br.1 h;simp only[distinct,fL h2,Bool.and_true];simpa using h1
theorem eI {a b:List Nat}(h:∀x∈a,x∈b):subset a b=true:=by
 simp only[subset,A7];exact fun x hx=>by simpa using h x hx
theorem aU.row {P:Program}{f:FuncId}{args:List V}{hin hin' hout hout':List (Nat×AObj)}{res:V}(h:aU P f args hin res hout) (h1:look hin'=look hin) (h2:look hout'=look hout):aU P f args hin' res hout':=by
 unfold aU at h ⊢;rw[h1,h2];exact h
section
variable {P:Program}{n:Nat}
theorem Sub.ownCellR {kf:List Nat}{st:St}{x k id tv:Nat}{cells:List R}(te es:Nat) (h:st.h x=some (.var tv cells)) (hk:cells[k]?=some (.c .nl)) (hid:st.h id=none):
  Sub kf ⟨st.e,upd (upd st.h id (some (.rarr te es []))) x (some (.var tv (cells.set k (.ra id 0 0 0)))),st.d⟩ st:=by
 intro G n S μ a w _ hs;obtain⟨hi,Z⟩:=hs.inv.emptyR te es hid;have Y:x≠id:=fun e=>by subst e;rw[h] at hid;cases hid
 have hx:upd st.h id (some (.rarr te es [])) x=some (.var tv cells):=by rw[bE _ _ _ Y];exact h
 obtain⟨b,vs,g1,g2,g3,g4⟩:=hi.obj x _ hx
 have I:Evolve S (upd μ id none) (upd st.h id (some (.rarr te es []))) S (upd μ id none) (upd (upd st.h id (some (.rarr te es []))) x (some (.var tv (cells.set k (.ra id 0 0 0))))):=⟨S.le_refl,fun j y hj=>by
  by_cases q:j=x
  ·subst q;rw[hx] at hj;cases hj;exact⟨_,aK _ _ _,by simp[AObj.succ]⟩
  ·exact⟨y,by rw[bE _ _ _ q];exact hj,y.succ_refl rfl⟩⟩
 have hold:∀j y,upd (upd st.h id (some (.rarr te es []))) x (some (.var tv (cells.set k (.ra id 0 0 0)))) j=some y→∃y',upd st.h id (some (.rarr te es [])) j=some y':=fun j y hj=>by
  by_cases q:j=x
  ·subst q;exact⟨_,hx⟩
  ·rw[bE _ _ _ q] at hj;exact⟨_,hj⟩
 refine⟨S,upd μ id none,⟨⟨hi.holds,fun j y hj=>?_,fun i j y y' b c c' J hj hm aa=>?_,fun i y b c J hm=>?_,hi.frame,hi.sle,hi.sto,hi.evo.trans I,hi.fre⟩,hs.size,hs.defers.evolve (Z.trans I),fun s v e=>b6.evolve (Z.trans I) v _ (hs.env s v e)⟩⟩
 ·by_cases q:j=x
  ·subst q;have N:some (AObj.var tv (cells.set k (.ra id 0 0 0)))=some y:=by rw[←hj];exact(aK _ _ _).symm
   cases N;refine⟨b,vs,g1,g2,?_,g4⟩;have h3:=aW.evolve I _ _ g3;obtain⟨u,hu,O⟩:=g3.get k _ hk;simp only[bF,Rep] at O;have ab:k<cells.length:=(Ab.1 hk).1
   have W:cells.set k (.ra id 0 0 0)=bY cells k [.ra id 0 0 0]:=by
    unfold bY;rw[Cf,ξ ab];simp
   have hvl:=g3.length;have ac:vs=bY vs k [u]:=by
    unfold bY;apply Bt;intro i;simp only[By,ω,Au,Ag,length_nil,Av,Ap];have hm:min k vs.length=k:=by omega
    rw[hm];by_cases c1:i<k
    ·simp[c1,show i<k+1 by omega]
    ·by_cases c2:i=k
     ·subst c2;simp[hu]
     ·simp[show ¬i<k+1 by omega,show k+1+(i-(k+1))=i by omega]
   rw[W] at h3 ⊢;rw[ac];refine oR h3 ?_;simp only[aW,bF];exact⟨u,[],rfl,⟨⟨_,_,_,O⟩,.inr ⟨te,es,[],by rw[bE _ _ _ Y.symm];exact aK _ _ _,le_refl _,fun _=>⟨le_refl _,.inl ⟨aK _ _ _,rfl,O⟩⟩⟩⟩,rfl⟩
  ·have N:upd st.h id (some (.rarr te es [])) j=some y:=by rw[←hj];exact(bE _ _ _ q).symm
   exact(hi.obj j y N).evolve I rfl fun _ _ _=>⟨rfl,fun _=>rfl,rfl⟩
 ·obtain⟨_,h1⟩:=hold _ _ J;obtain⟨_,h2⟩:=hold _ _ hj;exact hi.inj i j _ _ b c c' h1 h2 hm aa
 ·obtain⟨_,h1⟩:=hold _ _ J;exact hi.own i _ b c h1 hm
end
theorem Ole.varS {t:Nat}{l l':List R}(h:l=l'):Ole (fun i=>i) (.var t l) (.var t l'):=by subst h;exact .var (R.renL_id _).symm
structure TF (F:List (Nat×AObj)):Prop where
 far:∀p∈F,800≤p.1
 nodup:(F.map (·.1)).Nodup
 arr:∀p∈F,∃te es l z,p.2=.arr te es l z
theorem TF.refs {F:List (Nat×AObj)}(h:TF F):dN F=[]:=by
 have key:∀l:List (Nat×AObj),(∀p∈l,∃te es l z,p.2=.arr te es l z)→dN l=[]:=by
  intro l
  induction l with
  | nil=>intro _;rfl
  | cons p l I=>
   intro h;obtain⟨te,es,l',z,hp⟩:=h p (by simp);show p.2.refs++dN l=[];rw[I fun q J=>h q (by simp[J]),hp];rfl
 exact key F h.arr
theorem TF.ok {F:List (Nat×AObj)}(h:TF F):∀p∈F,p.2.live=true∧p.2.plain=true:=fun p hp=>by
 obtain⟨te,es,l,z,e⟩:=h.arr p hp;rw[e];exact⟨rfl,rfl⟩
def mkt (el:List (Nat×V)) (hl F:List (Nat×AObj)):St:=⟨look el,fun i=>match look hl i with | some x=>some x | none=>bif Nat.blt i 800 then none else look F i,[]⟩
theorem iD {α:Type}:∀{l:List (Nat×α)}{i:Nat},i∉l.map (·.1)→look l i=none
 | [],_,_=>rfl
 | (k,x)::l,i,h=>by
  simp only[Am,Ao,not_or] at h;simp only[look];have:Nat.beq i k=false:=by
   cases hb:Nat.beq i k with
   | false=>rfl
   | true=>exact absurd (Ac hb) h.1
  rw[this];simpa using iD h.2
theorem TF.near {F:List (Nat×AObj)}(q:TF F) {i:Nat}(h:i<800):look F i=none:=iD fun hm=>by
 obtain⟨p,hp,rfl⟩:=Ad.1 hm;have:=q.far p hp;omega
theorem aHu {i k:Nat}(h:i<k):Nat.blt i k=true:=Nat.ble_eq_true_of_le h
theorem aAz {i k:Nat}(h:k≤i):Nat.blt i k=false:=by
 cases hb:Nat.blt i k with
 | false=>rfl
 | true=>have:=Aq hb;omega
theorem aKv {el:List (Nat×V)}{hl F:List (Nat×AObj)}(q:TF F):mkt el hl F=mk el (hl++F):=by
 unfold mkt mk;congr 1;funext i;rw[qS];cases look hl i with
 | some x=>rfl
 | none=>
  by_cases h:i<800
  ·simp only[aHu h,q.near h,Bo]
  ·simp only[aAz (le_of_not_lt h),Bq]
theorem oZ {α:Type}:∀{l:List (Nat×α)},(l.map (·.1)).Nodup→∀p∈l,look l p.1=some p.2
 | (k,x)::l,h,p,hp=>by
  simp only[Am,Br] at h;simp only[look];rcases Ao.1 hp with rfl | hp
  ·simp
  ·have q:p.1≠k:=fun e=>h.1 (e▸Ad.2 ⟨p,hp,rfl⟩)
   have:Nat.beq p.1 k=false:=by
    cases hb:Nat.beq p.1 k with
    | false=>rfl
    | true=>exact absurd (Ac hb) q
   rw[this];simpa using oZ h.2 p hp
def FarEq (h:cR) (F:List (Nat×AObj)):Prop:=∀p∈F,h p.1=some p.2
theorem x5 {hl:List (Nat×AObj)}(h:(hl.all fun p=>Nat.blt p.1 800)=true) {i:Nat}(hi:800≤i):look hl i=none:=iD fun hm=>by
 obtain⟨p,hp,rfl⟩:=Ad.1 hm;have:=Aq ((A7.1 h) p hp);omega
theorem FarEq.raw {hl F:List (Nat×AObj)}(q:TF F) (h:(hl.all fun p=>Nat.blt p.1 800)=true:=by rfl):FarEq (fun i=>match look hl i with | some x=>some x | none=>bif Nat.blt i 800 then none else look F i) F:=fun p hp=>by
 have h1:=q.far p hp;show(match look hl p.1 with | some x=>some x | none=>bif Nat.blt p.1 800 then none else look F p.1)=_;rw[x5 h h1,aAz h1];exact oZ q.nodup p hp
theorem FarEq.mkt {el:List (Nat×V)}{hl F:List (Nat×AObj)}(q:TF F) (h:(hl.all fun p=>Nat.blt p.1 800)=true:=by rfl):FarEq (mkt el hl F).h F:=FarEq.raw q h
theorem FarEq.upd {h:cR}{F:List (Nat×AObj)}{k:Nat}{x:Option AObj}(q:TF F) (hf:FarEq h F) (hk:Nat.blt k 800=true:=by rfl):FarEq (upd h k x) F:=fun p hp=>by
 have h1:=q.far p hp;have:=Aq hk;rw[bE _ _ _ (by omega)];exact hf p hp
theorem FarEq.updL {h:cR}{F:List (Nat×AObj)}{l:List (Nat×Option AObj)}(I:TF F) (hf:FarEq h F) (hk:(l.all fun p=>Nat.blt p.1 800)=true:=by rfl):FarEq (updL h l) F:=fun p hp=>by
 have h1:=I.far p hp;simp only[Go.AM.updL];have:look l p.1=none:=iD fun hm=>by
  obtain⟨q,J,e⟩:=Ad.1 hm;have:=Aq ((A7.1 hk) q J);omega
 rw[this];exact hf p hp
theorem uP {hl F:List (Nat×AObj)}(I:TF F) (h1:distinct (hl.map (·.1))=true) (h2:(hl.all fun p=>Nat.blt p.1 800)=true):((hl++F).map (·.1)).Nodup:=by
 rw[Ar,Co];refine⟨dO h1,I.nodup,fun a ha b hb e=>?_⟩;subst e;obtain⟨p,hp,rfl⟩:=Ad.1 ha;obtain⟨q,J,e⟩:=Ad.1 hb;have:=Aq ((A7.1 h2) p hp);have:=I.far q J;omega
theorem nO {hl F:List (Nat×AObj)}(q:TF F) (h:∀x∈dN hl,x∈keys hl∨x∈keys F):∀x∈dN (hl++F),x∈keys (hl++F):=fun x hx=>by
 rw[iZ,q.refs,A0] at hx;unfold keys at h ⊢;rw[Ar,χ];exact h x hx
theorem Sub.tailT {kf:List Nat}{q:St}{el:List (Nat×V)}{hl F:List (Nat×AObj)}(σ:Nat→Nat) (I:TF F) (he:eW (fun p=>q.e p.1=some (p.2.ren σ)) el) (hh:eW (fun p=>∃o,q.h (σ p.1)=some o∧Ole σ o p.2) hl)
  (J:∀p∈F,∃o,q.h (σ p.1)=some o∧Ole σ o p.2) (hd:q.d=[]) (h1:∀x∈nT el,x∈keys hl∨x∈keys F) (h2:∀x∈dN hl,x∈keys hl∨x∈keys F) (h3:((hl++F).map fun p=>σ p.1).Nodup) (h4:∀i∈kf,(i∈keys hl∨i∈keys F)∧σ i=i):
  Sub kf (mkt el hl F) q:=by
 rw[aKv I];refine Sub.list σ he (eW.app hh (eW.of J)) ?_;have hk:∀x,(x∈keys hl∨x∈keys F)→x∈(hl++F).map (·.1):=fun x hx=>by rw[Ar,χ];exact hx
 simp only[aV0,Ai];refine⟨⟨⟨⟨⟨eI fun x hx=>hk x (h1 x hx),eI (nO I h2)⟩,fL h3⟩,eI fun x hx=>hk x (h4 x hx).1⟩,A7.2 fun i hi=>by rw[(h4 i hi).2];simp⟩,by rw[hd];rfl⟩
theorem slT {kf:List Nat}{q:St}{el:List (Nat×V)}{hl F:List (Nat×AObj)}(I:TF F) (hf:FarEq q.h F) (h1:∀x∈nT el,x∈keys hl∨x∈keys F) (h2:∀x∈dN hl,x∈keys hl∨x∈keys F) (h4:∀i∈kf,i∈keys hl∨i∈keys F)
  (he:eW (fun p=>q.e p.1=some (p.2.ren (fun i=>i))) el:=by repeat (first | exact trivial | refine⟨by first | rfl | exact congrArg some (V.ren_id _).symm,?_⟩))
  (hh:eW (fun p=>∃o,q.h p.1=some o∧Ole (fun i=>i) o p.2) hl:=by repeat (first | exact trivial | refine⟨⟨_,rfl,by first | exact Go.AM.Ole.arr | exact Go.AM.Ole.var rfl | exact Go.AM.Ole.varS rfl | exact Go.AM.Ole.map | exact Go.AM.Ole.rarrS rfl⟩,?_⟩))
  (hd:q.d=[]:=by rfl) (h3:distinct (hl.map (·.1))=true:=by rfl) (h3':(hl.all fun p=>Nat.blt p.1 800)=true:=by rfl):Sub kf (mkt el hl F) q:=
 Sub.tailT (fun i=>i) I he hh (fun p hp=>⟨p.2,hf p hp,.refl_id (by intro e;have:=(I.ok p hp).1;rw[e] at this;cases this)⟩) hd h1 h2 (uP I h3 h3') fun i hi=>⟨h4 i hi,rfl⟩
section
variable {P:Program}{T:TT}
theorem tM {f:FuncId}{fn:Func}{c:Code}{n:Nat}{args:List V}{hl F hout:List (Nat×AObj)}{res:V}(q:TF F) (I:Tok P T) (hf:P.funcs[f]?=some fn) (hb:fn.body=some c) (hn:fn.ntmps=n) (hle:Nat.ble args.length n=true)
  (h:AWp none P n (keys (hl++F)) c (mkt (aVs 0 args) hl F) (fun ex st=>(ex=.normal∨ex=.ret)∧Fin T fn st (hl++F) res hout)):aU P f args (hl++F) res hout:=bO I hf hb hn hle (by rw[aKv q] at h;exact h)
theorem aCw {fn:Func}{st:St}{hin hl F:List (Nat×AObj)}{res:V}(q:TF F) (hf:FarEq st.h F) (hex:∃vs vs',ResV T st fn.results.toList vs∧Convs st.h vs vs'∧aN1 vs'=res)
  (h1:∀x∈res.refs,x∈keys hl∨x∈keys F) (h2:∀x∈dN hl,x∈keys hl∨x∈keys F) (h4:∀i∈keys hin,i∈keys hl∨i∈keys F) (h5:∀p∈hin,p.2.plain=true)
  (hh:eW (fun p=>∃o,st.h p.1=some o∧Ole (fun i=>i) o p.2) hl:=by repeat (first | exact trivial | refine⟨⟨_,rfl,by first | exact Go.AM.Ole.arr | exact Go.AM.Ole.var rfl | exact Go.AM.Ole.varS rfl | exact Go.AM.Ole.map | exact Go.AM.Ole.rarrS rfl⟩,?_⟩))
  (h3:distinct (hl.map (·.1))=true:=by rfl) (h3':(hl.all fun p=>Nat.blt p.1 800)=true:=by rfl) (h6:(hl.all fun p=>p.2.plain)=true:=by rfl):Fin T fn st hin res (hl++F):=by
 refine⟨hex,eW.app hh (eW.of fun p hp=>⟨p.2,hf p hp,.refl_id (by intro e;have:=(q.ok p hp).1;rw[e] at this;cases this)⟩),?_⟩;have hk:∀x,(x∈keys hl∨x∈keys F)→x∈keys (hl++F):=fun x hx=>by unfold keys at *;rw[Ar,χ];exact hx
 simp only[Ai];refine⟨⟨⟨⟨⟨eI fun x hx=>hk x (h1 x hx),eI (nO q h2)⟩,fL (uP q h3 h3')⟩,eI fun x hx=>hk x (h4 x hx)⟩,A7.2 h5⟩,?_⟩;rw[all_append,Ai];exact⟨h6,A7.2 fun p hp=>(q.ok p hp).2⟩
end
theorem qX {h:cR}{hl F:List (Nat×AObj)}(q:TF F):updL h (outs (hl++F))=fun i=>bif Nat.blt i 800 then updL h (outs hl) i else updL h (outs (hl++F)) i:=by
 funext i;by_cases hi:i<800
 ·rw[aHu hi,Bo,kU,kU,qS,q.near hi];cases look hl i<;>rfl
 ·rw[aAz (le_of_not_lt hi),Bq]
theorem FarEq.outs {h:cR}{hl F:List (Nat×AObj)}(q:TF F) (hk:(hl.all fun p=>Nat.blt p.1 800)=true:=by rfl):FarEq (Go.AM.updL h (Go.AM.outs (hl++F))) F:=fun p hp=>by
 rw[kU,qS,x5 hk (q.far p hp),oZ q.nodup p hp]
theorem FarEq.bif {h q:cR}{F:List (Nat×AObj)}(I:TF F) (hf:FarEq h F):FarEq (fun i=>bif Nat.blt i 800 then q i else h i) F:=fun p hp=>by
 show(bif Nat.blt p.1 800 then q p.1 else h p.1)=_;rw[aAz (I.far p hp)];exact hf p hp
theorem nJ {args:List V}{hl F:List (Nat×AObj)}(q:TF F) (h1:∀x∈V.refsL args,x∈keys hl∨x∈keys F) (h2:∀x∈dN hl,x∈keys hl∨x∈keys F) (h3:(hl.all fun p=>p.2.live)=true:=by rfl):kQ args (hl++F)=true:=by
 have hk:∀x,(x∈keys hl∨x∈keys F)→x∈keys (hl++F):=fun x hx=>by unfold keys at *;rw[Ar,χ];exact hx
 simp only[kQ,Ai];refine⟨⟨eI fun x hx=>hk x (h1 x hx),eI (nO q h2)⟩,?_⟩;rw[all_append,Ai];exact⟨h3,A7.2 fun p hp=>(q.ok p hp).1⟩
theorem FarEq.all {h:cR}{F:List (Nat×AObj)}(hf:FarEq h F):eW (fun p=>h p.1=some p.2) F:=eW.of hf
theorem aU.toR {P:Program}{f:FuncId}{args:List V}{id te es n:Nat}{elems:List (List C)}(h:aU P f args [] (.one (.hs id 0 n n)) [(id,.arr te es elems 0)]):aU P f args [] (.one (.ra id 0 n n)) [(id,.rarr te es (elems.map (·.map R.c)))]:=by
 intro S μ w vals O hv;refine Calls.mono (h S μ w vals O hv) ?_;rintro e w' ⟨S',μ',v,h1,h2,h3⟩;have key:∀{o:AObj} {j:Nat} {x:AObj},look [(id,o)] j=some x→j=id∧x=o:=by
  intro o j x hj;simp only[look] at hj;split at hj
  ·rename_i hb;cases hj;exact⟨Ac hb,rfl⟩
  ·cases hj
 have hid:∀o:AObj,look [(id,o)] id=some o:=fun o=>by simp[look]
 have I:(elems.map (·.map R.c)).flatten=elems.flatten.map R.c:=by rw[List.map_flatten]
 refine⟨S',μ',v,h1,⟨h2.holds,fun j o hj=>?_,fun i j o o' b c c' hi hj _ _=>?_,fun i o b c hi hm=>?_,h2.frame,h2.sle,h2.sto,⟨h2.evo.le,fun j o hj=>by cases hj⟩,h2.fre⟩,?_⟩
 ·obtain⟨rfl,rfl⟩:=key hj;obtain⟨g0,g⟩:=h2.obj j _ (hid _);refine⟨fun r W=>?_,?_⟩
  ·obtain⟨r',J,rfl⟩:=Ad.1 W;rw[θ];exact g0 r' J
  ·rcases g with⟨g1,g2⟩ | ⟨b,base,cap,vs,g1,g2,g3,g4,g5,g6,g7,g8,g9⟩
   ·exact .inl ⟨g1,by rw[g2];rfl⟩
   ·refine .inr ⟨b,base,cap,vs,g1,g2,g3,by rw[θ];exact g4,g5,?_,g7 rfl⟩;rw[I,θ];exact g6.toR
 ·rw[(key hi).1,(key hj).1]
 ·obtain⟨rfl,rfl⟩:=key hi;exact h2.own i _ b c (hid _) hm
 ·simp only[b6,bF] at h3 ⊢;obtain⟨Y,k | ⟨te',es',el',fz',N,Z,k3⟩⟩:=h3
  ·rw[hid] at k;cases k
  ·rw[hid] at N;cases N;refine⟨Y,.inr ⟨te,es,_,hid _,by rw[θ];exact Z,fun e=>?_⟩⟩;rw[θ] at e;obtain⟨q1,q⟩:=k3 e;refine⟨q1,?_⟩;rcases q with⟨q,q3,q4⟩ | q
   ·exact .inl ⟨q,by rw[q3];rfl,q4⟩
   ·exact .inr q
structure GW (G F:List (Nat×AObj)):Prop where
 tf:TF F
 refs:∀x∈dN G,x∈keys G∨x∈keys F
 near:(G.all fun p=>Nat.blt p.1 800)=true
 plain:(G.all fun p=>p.2.plain)=true
theorem i7 {α:Type}{a b:List (Nat×α)}{x:Nat}:x∈keys (a++b)↔x∈keys a∨x∈keys b:=by unfold keys;rw[Ar,χ]
theorem GW.kf {G F:List (Nat×AObj)}:∀i∈keys (G++F),i∈keys G∨i∈keys F:=fun _ h=>i7.1 h
def Kn (ex G F:List (Nat×AObj)) (x:Nat):Prop:=x∈keys ex∨x∈keys G∨x∈keys F
theorem Kn.of {l:List Nat}{ex G F:List (Nat×AObj)}(h:subset l (keys ex++keys G)=true):∀x∈l,Kn ex G F x:=fun x hx=>by
 rcases χ.1 (bP h x hx) with h | h
 ·exact .inl h
 ·exact .inr (.inl h)
theorem Kn.app {a b:List Nat}{ex G F:List (Nat×AObj)}(h:∀x∈a,Kn ex G F x) (k:∀x∈b,Kn ex G F x):∀x∈a++b,Kn ex G F x:=fun x hx=>(χ.1 hx).elim (h x) (k x)
def GF (G F:List (Nat×AObj)) (l:List Nat):Prop:=∀x∈l,x∈keys G∨x∈keys F
theorem Kn.gf {l:List Nat}{ex G F:List (Nat×AObj)}(h:GF G F l):∀x∈l,Kn ex G F x:=fun x hx=>.inr (h x hx)
theorem GF.app {G F:List (Nat×AObj)}{a b:List Nat}(h:GF G F a) (k:GF G F b):GF G F (a++b):=fun x hx=>(χ.1 hx).elim (h x) (k x)
theorem Kn.nil {ex G F:List (Nat×AObj)}:∀x∈([]:List Nat),Kn ex G F x:=fun _ h=>by cases h
theorem z6 {ex:List (Nat×AObj)}{p:Nat→Prop}(h:eW (fun q=>∀x∈q.2.refs,p x) ex):∀x∈dN ex,p x:=by
 induction ex with
 | nil=>intro x hx;cases hx
 | cons q l I=>
  intro x hx;rcases χ.1 (show x∈q.2.refs++dN l from hx) with hx | hx
  ·exact h.1 x hx
  ·exact I h.2 x hx
theorem Kn.split {ex G F:List (Nat×AObj)}{x:Nat}(h:Kn ex G F x):x∈keys (ex++G)∨x∈keys F:=by
 rcases h with h | h | h
 ·exact .inl (i7.2 (.inl h))
 ·exact .inl (i7.2 (.inr h))
 ·exact .inr h
theorem GW.all {ex G F:List (Nat×AObj)}(W:GW G F) (h2:eW (fun q=>∀x∈q.2.refs,Kn ex G F x) ex):∀x∈dN (ex++G),x∈keys (ex++G)∨x∈keys F:=fun x hx=>by
 rw[iZ] at hx;rcases χ.1 hx with hx | hx
 ·exact(z6 h2 x hx).split
 ·exact(W.refs x hx).imp (fun h=>i7.2 (.inr h)) id
theorem slG {kf:List Nat}{I:St}{el:List (Nat×V)}{ex G F:List (Nat×AObj)}(W:GW G F)
  (h4:∀i∈kf,i∈keys G∨i∈keys F:=by exact Go.AM.GW.kf)
  (hf:FarEq I.h F:=by repeat (first | exact Go.AM.FarEq.raw (by assumption) | (refine Go.AM.FarEq.updL (by assumption) ?_) | (refine Go.AM.FarEq.upd (by assumption) ?_) | (refine Go.AM.FarEq.hfz (by assumption) ?_)))
  (h1:∀x∈nT el,Kn ex G F x:=by exact Go.AM.Kn.of rfl)
  (h2:eW (fun q=>∀x∈q.2.refs,Kn ex G F x) ex:=by repeat (first | exact trivial | refine⟨by first | exact Go.AM.Kn.of rfl | exact Go.AM.Kn.gf (by assumption),?_⟩))
  (he:eW (fun p=>I.e p.1=some (p.2.ren (fun i=>i))) el:=by repeat (first | exact trivial | refine⟨by first | rfl | exact congrArg some (V.ren_id _).symm,?_⟩))
  (hh:eW (fun p=>∃o,I.h p.1=some o∧Ole (fun i=>i) o p.2) (ex++G):=by repeat (first | exact trivial | refine⟨⟨_,rfl,by first | exact Go.AM.Ole.arr | exact Go.AM.Ole.var rfl | exact Go.AM.Ole.varS rfl | exact Go.AM.Ole.map | exact Go.AM.Ole.rarrS rfl⟩,?_⟩))
  (hd:I.d=[]:=by rfl) (h3:distinct ((ex++G).map (·.1))=true:=by rfl) (h3':((ex++G).all fun p=>Nat.blt p.1 800)=true:=by rfl):Sub kf (mkt el (ex++G) F) I:=
 slT W.tf hf (fun x hx=>(h1 x hx).split) (W.all h2) (fun i hi=>(h4 i hi).imp (fun h=>i7.2 (.inr h)) id) he hh hd h3 h3'
theorem rtG {T:TT}{fn:Func}{st:St}{G F:List (Nat×AObj)}{res:V}{t:Nat}(W:GW G F) (q:fn.results.toList=[.tmp t]:=by rfl) (hv:st.e t=some res:=by rfl)
  (hf:FarEq st.h F:=by repeat (first | exact Go.AM.FarEq.raw (by assumption) | (refine Go.AM.FarEq.updL (by assumption) ?_) | (refine Go.AM.FarEq.upd (by assumption) ?_) | (refine Go.AM.FarEq.hfz (by assumption) ?_)))
  (h1:∀x∈res.refs,Kn [] G F x:=by exact Go.AM.Kn.of rfl)
  (hh:eW (fun p=>∃o,st.h p.1=some o∧Ole (fun i=>i) o p.2) G:=by repeat (first | exact trivial | refine⟨⟨_,rfl,by first | exact Go.AM.Ole.arr | exact Go.AM.Ole.var rfl | exact Go.AM.Ole.varS rfl | exact Go.AM.Ole.map | exact Go.AM.Ole.rarrS rfl⟩,?_⟩))
  (h3:distinct (G.map (·.1))=true:=by rfl):(Exit.ret=.normal∨Exit.ret=.ret)∧Fin T fn st (G++F) res (G++F):=by
 refine⟨.inr rfl,aCw W.tf hf ⟨[res],[res],by rw[q];exact .tmp hv .nil,.cons .refl .nil,rfl⟩ (fun x hx=>(h1 x hx).split) (fun x hx=>W.refs x hx) GW.kf (fun p hp=>?_) hh h3 W.near W.plain⟩;rcases χ.1 hp with hp | hp
 ·exact(A7.1 W.plain) p hp
 ·exact(W.tf.ok p hp).2
theorem kix {tr:Tr}{P:Program}{n:Nat}{ops:Array Oper}{draw:Bool}{k d:Nat}{st:St}{pre:REs}{Q:St→Prop}{o:Oper}{t te:TypeId}{i q:TI}{x y:Operand}{id len sz j es J fz:Nat}{kk:IntKind}{elems:List (List C)}(hT:Tok P tr.flat)
  (hh:st.h id=some (.arr J es elems fz)) (hx:opv st x=some (.one (.hs id 0 len sz))) (N:sz=elems.length) (O:j<len)
  (hk:kS P n ops draw (k+1) ⟨upd st.e d (some (.one (.ep id j 0 sz))),st.h,st.d⟩ ((⟨opr x++opr y,[id]⟩,⟨some (d,some (.one (.ep id j 0 sz))),[]⟩)::pre) Q)
  (hw:tr.wf=true) (ho:ops[k]?=some o:=by rfl) (hg:o.guard=none:=by rfl) (W:o.op=.indexAddr t x y:=by rfl) (hd:o.dst=some d:=by rfl) (Y:Nat.blt d n=true:=by rfl)
  (hi:tr.get t=some i:=by rfl) (Z:i.k=.sl te:=by rfl) (aa:tr.get te=some q:=by rfl) (ab:q.size=es:=by rfl) (hy:opv st y=some (I kk (j:Int)):=by rfl):kS P n ops draw k st pre Q:=by
 have h:=uI (P:=P) (n:=n) hT W hd (mB Y) (Tr.get_ok hw hi) Z (Tr.get_ok hw aa) ab hx hh N hy rfl O;rw[Be] at h;exact k_ (g_ ho hg h) hk
theorem a1s {tr:Tr}{P:Program}{n:Nat}{ops:Array Oper}{draw:Bool}{k d:Nat}{st:St}{pre:REs}{Q:St→Prop}{o:Oper}{t te:TypeId}{i:TI}{x:Operand}{id off len sz es q fz:Nat}{elems:List (List C)}(Y:Tok P tr.flat)
  (hh:st.h id=some (.arr q es elems fz)) (hx:opv st x=some (.one (.hs id off len sz))) (J:sz=elems.length)
  (hk:kS P n ops draw (k+1) ⟨upd st.e d (some (I .i64 (len:Int))),st.h,st.d⟩ ((⟨opr x,[id]⟩,⟨some (d,some (I .i64 (len:Int))),[]⟩)::pre) Q)
  (hw:tr.wf=true) (Z:ops[k]?=some o:=by rfl) (hg:o.guard=none:=by rfl) (N:o.op=.call { callee:=.builtin .len,args:= #[x],argTypes:= #[t] }:=by rfl) (hd:o.dst=some d:=by rfl) (O:Nat.blt d n=true:=by rfl)
  (hi:tr.get t=some i:=by rfl) (W:i.k=.sl te:=by rfl):kS P n ops draw k st pre Q:=
 k_ (g_ Z hg (aEr (P:=P) (n:=n) Y N hd (mB O) (Tr.get_ok hw hi) W hx hh J)) hk
def fzH (id:Nat) (z:Fz):List (Nat×AObj)→List (Nat×AObj)
 | []=>[]
 | (k,o)::l=>(k,o.fz id z)::fzH id z l
theorem aFl {id:Nat}{z:Fz}:∀{l:List (Nat×V)}{t:Nat},look (fzE id z l) t=(look l t).map (V.fz id z)
 | [],_=>rfl
 | (k,v)::l,t=>by
  simp only[fzE,look];cases Nat.beq t k
  ·simpa using aFl (l:=l) (t:=t)
  ·rfl
theorem xE {id:Nat}{z:Fz}:∀{l:List (Nat×AObj)}{t:Nat},look (fzH id z l) t=(look l t).map (AObj.fz id z)
 | [],_=>rfl
 | (k,v)::l,t=>by
  simp only[fzH,look];cases Nat.beq t k
  ·simpa using xE (l:=l) (t:=t)
  ·rfl
section
variable {id n es:Nat}{l:List R}
mutual
theorem R.fz_far:∀(r:R),id∉r.refs→r.fz id (.ra n es l)=r
 | .c _,_=>rfl
 | .hs ..,_=>rfl
 | .tl ..,_=>rfl
 | .vp ..,_=>rfl
 | .ep ..,_=>rfl
 | .mr _,_=>rfl
 | .clo f caps,h=>by simp only[R.fz,R.fzL_far caps (by simpa only[R.refs] using h)]
 | .mth f x,h=>by simp only[R.fz,R.fz_far x (by simpa only[R.refs] using h)]
 | .yl _,_=>rfl
 | .ra j off len sz,h=>by
  have hj:j≠id:=fun e=>h (by simp[R.refs,e])
  have hb:Nat.beq j id=false:=by
   cases hb:Nat.beq j id with
   | false=>rfl
   | true=>exact absurd (Ac hb) hj
  simp[R.fz,hb]
 | .rp j i fo sz,h=>by
  have hj:j≠id:=fun e=>h (by simp[R.refs,e])
  have hb:Nat.beq j id=false:=by
   cases hb:Nat.beq j id with
   | false=>rfl
   | true=>exact absurd (Ac hb) hj
  simp[R.fz,hb]
 | .ras m e r,h=>by simp only[R.fz,R.fzL_far r (by simpa only[R.refs] using h)]
 | .pas r,h=>by simp only[R.fz,R.fzL_far r (by simpa only[R.refs] using h)]
theorem R.fzL_far:∀(r:List R),id∉R.refsL r→R.fzL id (.ra n es l) r=r
 | [],_=>rfl
 | r::rs,h=>by
  simp only[R.refsL,χ,not_or] at h;simp only[R.fzL,R.fz_far r h.1,R.fzL_far rs h.2]
end
theorem sJ:∀(r:List (List R)),id∉c8 r→fzR id (.ra n es l) r=r
 | [],_=>rfl
 | r::rs,h=>by
  simp only[c8,χ,not_or] at h;simp only[fzR,R.fzL_far r h.1,sJ rs h.2]
theorem aPv {m:Nat}(h:m=n):R.fz id (.ra n es l) (.ra id 0 m m)=.ras n es l:=by subst h;simp[R.fz]
end
theorem Sub.fraT {kf:List Nat}{el:List (Nat×V)}{rest F:List (Nat×AObj)}{id te es:Nat}{rows:List (List R)}(hF:TF F) (O:id∉kf) (W:id∉c8 rows) (I:Nat.blt id 800=true:=by rfl) (Y:distinct (id::rest.map (·.1))=true:=by rfl):
  Sub kf (mkt (fzE id (.ra rows.length es rows.flatten) el) (fzH id (.ra rows.length es rows.flatten) rest) F) (mkt el ((id,.rarr te es rows)::rest) F):=by
 have J:id∉R.refsL rows.flatten:=by
  have key:∀l:List (List R),R.refsL l.flatten=c8 l:=by
   intro l
   induction l with
   | nil=>rfl
   | cons r l ih=>rw[Bi,R.refsL_append,ih];rfl
  rw[key];exact W
 have h:=Sub.fra (kf:=kf) (st:=mkt el ((id,.rarr te es rows)::rest) F) (id:=id) (te:=te) (es:=es) (elems:=rows) (by
  show(match look ((id,AObj.rarr te es rows)::rest) id with | some x=>some x | none=>_)=_
  rw[dJ]) O (R.fzL_far _ J) J
 have e:(⟨fun t=>((mkt el ((id,.rarr te es rows)::rest) F).e t).map (V.fz id (.ra rows.length es rows.flatten)),hfz id (.ra rows.length es rows.flatten) (mkt el ((id,.rarr te es rows)::rest) F).h,(mkt el ((id,.rarr te es rows)::rest) F).d⟩:St)=
   mkt (fzE id (.ra rows.length es rows.flatten) el) (fzH id (.ra rows.length es rows.flatten) rest) F:=by
  unfold mkt;congr 1
  ·funext t;exact aFl.symm
  ·funext j;have q:=dO Y;simp only[Br] at q;have hid:=Aq I;by_cases hj:j=id
   ·subst hj;rw[aRy,xE,iD q.1,C1];simp only[I,Bo]
   ·rw[jX hj];show Option.map _ (match look ((id,AObj.rarr te es rows)::rest) j with | some x=>some x | none=>bif Nat.blt j 800 then none else look F j)=_;rw[dR hj,xE];cases look rest j with
    | some x=>rfl
    | none=>
     simp only[C1];by_cases Z:j<800
     ·simp only[aHu Z,Bo,C1]
     ·simp only[aAz (le_of_not_lt Z),Bq];cases hl:look F j with
      | none=>rfl
      | some o=>
       obtain⟨te',es',l',z',N⟩:=hF.arr _ (cD hl);have N:o=_:=N;subst N;rfl
 rw[e] at h;exact h
end Go.AM
namespace Go.Proofs.YtockgoadliilhaaGreatDoor
open Go Go.AM
set_option maxRecDepth 20000
def dW (f n:Int) (s:Str) (t:Ty) (nk nb na:Nat):List R:=[.c (.int .i64 f),.c (.int .i64 n),.c (.str s),.c (.int .i64 t.form),.c (.int .i64 t.n),.c (.str t.name),.c (.sl 4 (gD t)),.hs 702 0 nk nk,.hs 701 0 nb nb,.ra 703 0 na na]
def dM (k:Nat) (a:Alt):List R:=[.c (.int .i64 a.form),.c (.int .i64 a.n),.c (.str a.name),.hs (k+800) 0 a.vars.length a.vars.length]++(aB a.body).map R.c
def aV:Nat→List Alt→List (List R)
 | _,[]=>[]
 | k,a::l=>dM k a::aV (k+1) l
def fam:Nat→List Alt→List (Nat×AObj)
 | _,[]=>[]
 | k,a::l=>(k+800,.arr 9 1 (a.vars.map bD) 0)::fam (k+1) l
theorem mV:∀{l:List Alt}{k i:Nat}{a:Alt},l[i]?=some a→(aV k l)[i]?=some (dM (k+i) a)
 | b::l,k,0,a,h=>by simp at h;subst h;rfl
 | b::l,k,i+1,a,h=>by
  simp only[aV,Bj];rw[mV (by simpa using h),show k+1+i=k+(i+1) by omega]
theorem dV:∀{l:List Alt}{k:Nat},(aV k l).length=l.length
 | [],_=>rfl
 | _::l,k=>by simp[aV,dV (l:=l)]
theorem aAi:∀{l:List Alt}{k i:Nat}{a:Alt},l[i]?=some a→(k+i+800,AObj.arr 9 1 (a.vars.map bD) 0)∈fam k l
 | b::l,k,0,a,h=>by simp at h;subst h;exact ζ
 | b::l,k,i+1,a,h=>by
  have:=aAi (l:=l) (k:=k+1) (by simpa using h);rw[show k+1+i=k+(i+1) by omega] at this;exact κ _ this
theorem nE:∀{l:List Alt}{k:Nat}{p:Nat×AObj},p∈fam k l→∃i a,l[i]?=some a∧p=(k+i+800,AObj.arr 9 1 (a.vars.map bD) 0)
 | b::l,k,p,h=>by
  rcases Ao.1 h with rfl | h
  ·exact⟨0,b,rfl,rfl⟩
  ·obtain⟨i,a,h1,h2⟩:=nE h;exact⟨i+1,a,h1,by rw[h2,show k+1+i=k+(i+1) by omega]⟩
theorem lS:∀{l:List Alt}{k:Nat},((fam k l).map (·.1)).Nodup
 | [],_=>nodup_nil
 | a::l,k=>by
  simp only[fam,Am];refine Br.2 ⟨fun h=>?_,lS⟩;obtain⟨p,hp,e⟩:=Ad.1 h;obtain⟨i,b,_,rfl⟩:=nE hp;simp only at e;omega
theorem fI {l:List Alt}{k:Nat}:TF (fam k l):=⟨fun p hp=>by obtain⟨i,a,_,rfl⟩:=nE hp;simp only;omega,lS,fun p hp=>by obtain⟨i,a,_,rfl⟩:=nE hp;exact⟨_,_,_,_,rfl⟩⟩
theorem aL5 {l:List Alt}{k i:Nat}(h:i<l.length):k+i+800∈keys (fam k l):=by
 obtain⟨a,ha⟩:=aJ h;exact Ad.2 ⟨_,aAi ha,rfl⟩
theorem pU {k:Nat}{a:Alt}{x:Nat}(h:x∈R.refsL (dM k a)):x=k+800:=by
 unfold dM aB at h;simpa [R.refsL,R.refs] using h
theorem dA:∀{l:List Alt}{k:Nat},∀x∈c8 (aV k l),x∈keys (fam k l)
 | [],_,x,h=>by simp[aV,c8] at h
 | a::l,k,x,h=>by
  rcases χ.1 (show x∈R.refsL (dM k a)++c8 (aV (k+1) l) from h) with h | h
  ·rw[pU h];exact ζ
  ·exact κ _ (dA x h)
def gHl (f n:Int) (s:Str) (t:Ty) (ks:List Core) (bs:List Bind) (al:List Alt):List (Nat×AObj):=
 [(700,.var 37 (dW f n s t ks.length bs.length al.length)),(701,.arr 58 15 (aS bs) 0),(702,.arr 37 10 (aM ks) 0),(703,.rarr 88 14 (aV 0 al))]
theorem qU {f n:Int}{s:Str}{t:Ty}{ks:List Core}{bs:List Bind}{al:List Alt}:∀x∈dN (gHl f n s t ks bs al),x∈keys (gHl f n s t ks bs al)∨x∈keys (fam 0 al):=fun x hx=>by
 simp only[gHl,dN,AObj.refs,dW,R.refsL,R.refs,Bd,A0,χ,Ao,not_mem_nil,or_false,false_or] at hx;rcases hx with(rfl | rfl | rfl) | hx
 ·exact .inl (by simp[gHl,keys])
 ·exact .inl (by simp[gHl,keys])
 ·exact .inl (by simp[gHl,keys])
 ·exact .inr (dA x hx)
theorem gW {f n:Int}{s:Str}{t:Ty}{ks:List Core}{bs:List Bind}{al:List Alt}:GW (gHl f n s t ks bs al) (fam 0 al):=⟨fI,qU,rfl,rfl⟩
def gNm:Bool→List (List R)
 | true=>[[.vp 700 2]]
 | false=>[]
def gPo (rows:List (List R)):AObj:=.rarr 118 1 rows
def gNo (rows:List (List R)):AObj:=.rarr 158 1 rows
def rgR (f:Nat→List R) (k:Nat):List (List R):=(List.range k).map f
theorem qL (f:Nat→List R) (k:Nat):rgR f (k+1)=rgR f k++[f k]:=by unfold rgR;rw[List.range_succ,Ar];rfl
theorem fY (f:Nat→List R) (k:Nat):(rgR f k).length=k:=by simp[rgR]
theorem mG {f:Nat→List R}{L:Nat→Prop}(h:∀j,∀x∈R.refsL (f j),L x) (k:Nat):∀x∈c8 (rgR f k),L x:=by
 have key:∀rows:List (List R),(∀r∈rows,∀x∈R.refsL r,L x)→∀x∈c8 rows,L x:=by
  intro rows
  induction rows with
  | nil=>intro _ x hx;simp[c8] at hx
  | cons r rows J=>
   intro I x hx;rcases χ.1 (show x∈R.refsL r++c8 rows from hx) with hx | hx
   ·exact I r ζ x hx
   ·exact J (fun q N=>I q (κ _ N)) x hx
 refine key _ fun r I=>?_
 obtain⟨j,_,rfl⟩:=Ad.1 I;exact h j
def nR (b:Bool) (nb i:Nat):List (List R):=gNm b++rgR (fun j=>[.ep 701 j 0 nb]) i
def pR (nk nb i:Nat):List (List R):=rgR (fun j=>[.ep 702 j 0 nk]) nk++rgR (fun j=>[.ep 701 j 5 nb]) i
def vR (k nv i:Nat):List (List R):=rgR (fun j=>[.ep (k+800) j 0 nv]) i
def mE (na k:Nat) (a:Alt):List R:=[.ras (vR k a.vars.length a.vars.length).length 1 (vR k a.vars.length a.vars.length).flatten,.ras 1 1 [.rp 703 k 4 na]]
def aGn (na:Nat):Nat→List Alt→List (List R)
 | _,[]=>[]
 | k,a::l=>mE na k a::aGn na (k+1) l
def pA (b:Bool) (nk nb:Nat):List R:=[.ras (nR b nb nb).length 1 (nR b nb nb).flatten,.ras (pR nk nb nb).length 1 (pR nk nb nb).flatten]
def bZ (b:Bool) (nk nb na:Nat) (l:List Alt):List (List R):=pA b nk nb::aGn na 0 l
theorem y7 {q:Nat}:∀{l:List Alt}{k:Nat},(aGn q k l).length=l.length
 | [],_=>rfl
 | _::l,k=>by simp[aGn,y7 (l:=l)]
theorem aBb {q:Nat}:∀{l:List Alt}{k i:Nat}{a:Alt},l[i]?=some a→aGn q k (l.take (i+1))=aGn q k (l.take i)++[mE q (k+i) a]
 | b::l,k,0,a,h=>by simp at h;subst h;simp[aGn]
 | b::l,k,i+1,a,h=>by
  simp only[Ax,aGn,Ba];rw[aBb (l:=l) (k:=k+1) (by simpa using h),show k+1+i=k+(i+1) by omega]
theorem aNf {q:Nat}:∀{l:List Alt}{k i:Nat}{a:Alt},l[i]?=some a→(aGn q k l)[i]?=some (mE q (k+i) a)
 | b::l,k,0,a,h=>by simp at h;subst h;rfl
 | b::l,k,i+1,a,h=>by
  simp only[aGn,Bj];rw[aNf (by simpa using h),show k+1+i=k+(i+1) by omega]
theorem dE:∀{rows:List (List R)},R.refsL rows.flatten=c8 rows
 | []=>rfl
 | r::rows=>by
  rw[Bi,R.refsL_append,dE];rfl
end Go.Proofs.YtockgoadliilhaaGreatDoor
