/-
  Texts Am29 to Lg1 in one.
-/
import Derived.Test.YtglfogjcijokpaaGreatDoorM5
import Derived.Laws.Runes
open List (all_append all_eq_true append_assoc append_nil cons_append drop_eq_getElem_cons drop_length filter_cons flatMap_append flatten_cons foldl_append isEmpty_iff length_append length_cons length_eq_one_iff length_map length_nil length_pos_of_mem length_range length_take map_append map_cons map_map mem_append mem_cons mem_cons_of_mem mem_cons_self mem_map mem_of_mem_take mem_range nil_append nodup_append nodup_cons nodup_nil nodup_range not_mem_nil set_eq_take_append_cons_drop sum_cons take_add_one take_length take_succ_cons take_zero)
open Nat (beq_refl eq_of_beq_eq_true le_max_left le_max_right le_of_ble_eq_true le_of_eq le_refl le_trans mul_le_mul_right succ_mul zero_add zero_le)
namespace Go.AM
open Go
def AObj.ren (σ:Nat→Nat):AObj→AObj
 | .var t cells=>.var t (R.renL σ cells)
 | .lp st j i e=>.lp st j i (aKh σ e)
 | .rarr te es l=>.rarr te es (nJ σ l)
 | .tok r k=>.tok (r.ren σ) k
 | o=>o
def renH (σ:Nat→Nat) (hl:List (Nat×AObj)):List (Nat×AObj):=hl.map fun p=>(σ p.1,p.2.ren σ)
section
mutual
theorem R.ren_ren {σ:Nat→Nat}(hσ:∀i,σ (σ i)=i):∀r:R,(r.ren σ).ren σ=r
 | .c _=>rfl
 | .hs ..=>by simp[R.ren,hσ]
 | .tl ..=>by simp[R.ren,hσ]
 | .vp ..=>by simp[R.ren,hσ]
 | .ep ..=>by simp[R.ren,hσ]
 | .mr _=>by simp[R.ren,hσ]
 | .clo f caps=>by simp[R.ren,R.renL_renL hσ caps]
 | .mth f r=>by simp[R.ren,R.ren_ren hσ r]
 | .yl _=>by simp[R.ren,hσ]
 | .ra ..=>by simp[R.ren,hσ]
 | .rp ..=>by simp[R.ren,hσ]
 | .ras n es l=>by simp[R.ren,R.renL_renL hσ l]
 | .pas l=>by simp[R.ren,R.renL_renL hσ l]
theorem R.renL_renL {σ:Nat→Nat}(hσ:∀i,σ (σ i)=i):∀l:List R,R.renL σ (R.renL σ l)=l
 | []=>rfl
 | r::l=>by simp[R.renL,R.ren_ren hσ r,R.renL_renL hσ l]
end
mutual
theorem V.ren_ren {σ:Nat→Nat}(hσ:∀i,σ (σ i)=i):∀r:V,(r.ren σ).ren σ=r
 | .one r=>by simp[V.ren,R.ren_ren hσ r]
 | .pa _=>rfl
 | .ma l=>by simp[V.ren,R.renL_renL hσ l]
 | .tup l=>by simp[V.ren,V.renL_renL hσ l]
theorem V.renL_renL {σ:Nat→Nat}(hσ:∀i,σ (σ i)=i):∀l:List V,V.renL σ (V.renL σ l)=l
 | []=>rfl
 | r::l=>by simp[V.renL,V.ren_ren hσ r,V.renL_renL hσ l]
end
variable {σ:Nat→Nat}(hσ:∀i,σ (σ i)=i)
include hσ
theorem aAz:∀l:List (Nat×V),aKh σ (aKh σ l)=l
 | []=>rfl
 | (t,v)::l=>by simp[aKh,V.ren_ren hσ v,aAz l]
theorem aAx:∀l:List (List R),nJ σ (nJ σ l)=l
 | []=>rfl
 | r::l=>by simp[nJ,R.renL_renL hσ r,aAx l]
theorem Ole.to_ren (o:AObj):Ole σ o (o.ren σ):=by
 cases o with
 | var t cells=>exact .var (R.renL_renL hσ cells).symm
 | lp st j i e=>exact .lp (aAz hσ e).symm
 | rarr te es l=>exact .rarr (aAx hσ l).symm
 | tok r k=>exact .tok (R.ren_ren hσ r).symm
 | arr=>exact .arr
 | map=>exact .map
 | dead=>exact .dead
 | dfr=>exact .dfr
end
theorem Ole.of_ren {σ:Nat→Nat}(o:AObj):Ole σ (o.ren σ) o:=by
 cases o with
 | var t cells=>exact .var rfl
 | lp st j i e=>exact .lp rfl
 | rarr te es l=>exact .rarr rfl
 | tok r k=>exact .tok rfl
 | arr=>exact .arr
 | map=>exact .map
 | dead=>exact .dead
 | dfr=>exact .dfr
mutual
theorem R.refs_ren {σ:Nat→Nat}:∀r:R,(r.ren σ).refs=r.refs.map σ
 | .c _=>rfl
 | .hs ..=>rfl
 | .tl ..=>rfl
 | .vp ..=>rfl
 | .ep ..=>rfl
 | .mr _=>rfl
 | .clo f caps=>by simp[R.ren,R.refs,R.refsL_ren caps]
 | .mth f r=>by simp[R.ren,R.refs,R.refs_ren r]
 | .yl _=>rfl
 | .ra ..=>rfl
 | .rp ..=>rfl
 | .ras n es l=>by simp[R.ren,R.refs,R.refsL_ren l]
 | .pas l=>by simp[R.ren,R.refs,R.refsL_ren l]
theorem R.refsL_ren {σ:Nat→Nat}:∀l:List R,R.refsL (R.renL σ l)=(R.refsL l).map σ
 | []=>rfl
 | r::l=>by simp[R.renL,R.refsL,R.refs_ren r,R.refsL_ren l]
end
mutual
theorem V.refs_ren {σ:Nat→Nat}:∀r:V,(r.ren σ).refs=r.refs.map σ
 | .one r=>by simp[V.ren,V.refs,R.refs_ren r]
 | .pa _=>rfl
 | .ma l=>by simp[V.ren,V.refs,R.refsL_ren l]
 | .tup l=>by simp[V.ren,V.refs,V.refsL_ren l]
theorem V.refsL_ren {σ:Nat→Nat}:∀l:List V,V.refsL (V.renL σ l)=(V.refsL l).map σ
 | []=>rfl
 | r::l=>by simp[V.renL,V.refsL,V.refs_ren r,V.refsL_ren l]
end
theorem aA3 {σ:Nat→Nat}:∀l:List (Nat×V),oL (aKh σ l)=(oL l).map σ
 | []=>rfl
 | (t,v)::l=>by simp[aKh,oL,V.refs_ren v,aA3 l]
theorem aA1 {σ:Nat→Nat}:∀l:List (List R),bZ (nJ σ l)=(bZ l).map σ
 | []=>rfl
 | r::l=>by simp[nJ,bZ,R.refsL_ren r,aA1 l]
theorem AObj.refs_ren {σ:Nat→Nat}(o:AObj):(o.ren σ).refs=o.refs.map σ:=by
 cases o with
 | var t cells=>exact R.refsL_ren cells
 | lp st j i e=>exact aA3 e
 | rarr te es l=>exact aA1 l
 | tok r k=>exact R.refs_ren r
 | _=>rfl
structure RenH (σ:Nat→Nat) (H H':cK):Prop where
 to:∀i o,H (σ i)=some o→∃o',H' i=some o'∧Ole σ o o'
 of:∀i o',H' i=some o'→∃o,H (σ i)=some o∧Ole σ o o'
 cl:∀i o',H' i=some o'→∀j∈o'.refs,∃x,H' j=some x
theorem RenH.good {σ:Nat→Nat}{H H':cK}(h:RenH σ H H') {i:Nat}(hi:∃x,H' i=some x):Good H H' σ i:=by
 obtain⟨x,hx⟩:=hi;obtain⟨o,h1,h2⟩:=h.of i x hx;exact⟨o,x,h1,hx,h2⟩
theorem aRl {σ:Nat→Nat}{P:Prop}{a b c d:AObj}(h1:Ole σ a b) (h2:Ole σ c d) (h:a.succ P c):b.succ P d:=by
 cases h1<;>cases h2<;>simp only[AObj.succ] at h ⊢<;>try exact h
 ·rename_i q _ _ _ _ I;subst q I;simpa [fG] using h
theorem Inv.renH {σ:Nat→Nat}(hσ:∀i,σ (σ i)=i) {G:Ctx}{J H H':cK}{S:Sto}{μ:Mu}{w:World}(h:Inv G S μ H w) (h0:RenH σ G.h0 J) (q:RenH σ H H'):
  Inv { G with μ0:=fun i=>G.μ0 (σ i),h0:=J } S (fun i=>μ (σ i)) H' w:=by
 refine⟨h.holds,fun id o I=>?_,fun i j o o' b c c' hi O hm W=>?_,fun i o b c hi hm=>?_,h.frame,h.sle,h.sto,⟨h.evo.le,fun id o I=>?_⟩,h.fre⟩
 ·obtain⟨x,h1,h2⟩:=q.of id o I;exact(h.obj _ _ h1).ren h2 fun j O=>q.good (q.cl id o I j O)
 ·obtain⟨x,h1,_⟩:=q.of i o hi;obtain⟨y,h2,_⟩:=q.of j o' O;have:=h.inj _ _ _ _ b c c' h1 h2 hm W;rw[←hσ i,←hσ j,this]
 ·obtain⟨x,h1,_⟩:=q.of i o hi;exact h.own _ _ b c h1 hm
 ·obtain⟨x,h1,h2⟩:=h0.of id o I;obtain⟨y,h3,h4⟩:=h.evo.obj _ _ h1;obtain⟨z,h5,Y⟩:=q.to id y h3;exact⟨z,h5,aRl h2 Y h4⟩
section
variable {σ:Nat→Nat}(hσ:∀i,σ (σ i)=i)
include hσ
theorem aZe (i k:Nat):Nat.beq (σ i) (σ k)=Nat.beq i k:=by
 cases h:Nat.beq i k with
 | true=>rw[Ac h];exact Cb _
 | false=>
  cases q:Nat.beq (σ i) (σ k) with
  | false=>rfl
  | true=>
   have:=Ac q;have e:i=k:=by rw[←hσ i,←hσ k,this]
   rw[e,Cb] at h;cases h
theorem mI (i:Nat):∀hl:List (Nat×AObj),look (Go.AM.renH σ hl) (σ i)=(look hl i).map (AObj.ren σ)
 | []=>rfl
 | (k,o)::hl=>by
  have q:=mI i hl;simp only[Go.AM.renH,Al,look,aZe hσ] at q ⊢;split
  ·rfl
  ·exact q
theorem RenH.a {hl:List (Nat×AObj)}(hc:subset (dO hl) (keys hl)=true):RenH σ (look (Go.AM.renH σ hl)) (look hl):=by
 refine⟨fun i o h=>?_,fun i o h=>?_,fun i o h j q=>?_⟩
 ·rw[mI hσ] at h;cases hx:look hl i with
  | none=>rw[hx] at h;cases h
  | some x=>rw[hx] at h;cases h;exact⟨x,rfl,.of_ren x⟩
 ·exact⟨o.ren σ,by rw[mI hσ,h];rfl,.of_ren o⟩
 ·exact jS (bO hc j (kC (c8 h) j q))
theorem RenH.b {hl:List (Nat×AObj)}(hc:subset (dO hl) (keys hl)=true):RenH σ (look hl) (look (Go.AM.renH σ hl)):=by
 have key:∀i,look (Go.AM.renH σ hl) i=(look hl (σ i)).map (AObj.ren σ):=fun i=>by
  have:=mI hσ (σ i) hl;rwa [hσ] at this
 refine⟨fun i o h=>⟨o.ren σ,by rw[key,h];rfl,.to_ren hσ o⟩,fun i o h=>?_,fun i o h j q=>?_⟩
 ·rw[key] at h;cases hx:look hl (σ i) with
  | none=>rw[hx] at h;cases h
  | some x=>rw[hx] at h;cases h;exact⟨x,rfl,.to_ren hσ x⟩
 ·rw[key] at h;cases hx:look hl (σ i) with
  | none=>rw[hx] at h;cases h
  | some x=>
   rw[hx] at h;cases h;rw[AObj.refs_ren] at q;obtain⟨k,hk,rfl⟩:=Ad.1 q;obtain⟨y,I⟩:=jS (bO hc k (kC (c8 hx) k hk));exact⟨y.ren σ,by rw[key,hσ,I];rfl⟩
theorem aU.ren {P:Program}{f:FuncId}{args:List V}{hin hout:List (Nat×AObj)}{res:V}(h:aU P f args hin res hout) (h1:subset (dO hin) (keys hin)=true) (h2:subset (V.refsL args) (keys hin)=true) (h3:subset (dO hout) (keys hout)=true) (h4:subset res.refs (keys hout)=true):
  aU P f (V.renL σ args) (Go.AM.renH σ hin) (res.ren σ) (Go.AM.renH σ hout):=by
 intro S μ w vals O W;have ra:=RenH.a hσ h1;have q:=O.renH hσ ra ra;have I:vF μ (look (Go.AM.renH σ hin))=vF (fun i=>μ (σ i)) (look hin):=by
  funext b;refine propext ⟨?_,?_⟩
  ·rintro⟨j,o,c,g1,g2⟩;obtain⟨o',g3,_⟩:=ra.to (σ j) o (by rw[hσ];exact g1);exact⟨σ j,o',c,g3,by show μ (σ (σ j))=_;rw[hσ];exact g2⟩
  ·rintro⟨j,o,c,g1,g2⟩;obtain⟨o',g3,_⟩:=ra.of j o g1;exact⟨σ j,o',c,g3,g2⟩
 rw[I] at q;have J:bS S (fun i=>μ (σ i)) (look hin) args vals:=bS.ren args vals (fun i hi=>ra.good (jS (bO h2 i hi))) W;refine Calls.mono (h S (fun i=>μ (σ i)) w vals q J) ?_;rintro e w' ⟨S',μ',v,g1,g2,g3⟩;refine⟨S',fun i=>μ' (σ i),v,g1,?_,?_⟩
 ·have:=g2.renH hσ (RenH.b hσ h1) (RenH.b hσ h3);dsimp only at this;rw[I];simpa only[hσ] using this
 ·refine aZ.ren (res.ren σ) v (fun i hi=>(RenH.b hσ h3).good ?_) (by rw[V.ren_ren hσ];exact g3);rw[V.refs_ren] at hi;obtain⟨k,hk,rfl⟩:=Ad.1 hi;obtain⟨y,Y⟩:=jS (bO h4 k hk);exact⟨y.ren σ,by rw[mI hσ,Y];rfl⟩
end
def swp (a b i:Nat):Nat:=bif Nat.beq i a then b else bif Nat.beq i b then a else i
theorem aWu (a b i:Nat):swp a b (swp a b i)=i:=by
 have hb:∀x y:Nat,(Nat.beq x y=true)↔x=y:=fun x y=>⟨Ac,fun h=>by subst h;exact Cb _⟩
 unfold swp;cases h1:Nat.beq i a<;>cases h2:Nat.beq i b<;>simp only[Bn,Bs]
 ·rw[h1,h2];rfl
 ·cases h3:Nat.beq a a with
  | true=>simp only[Bn];exact((hb _ _).1 h2).symm
  | false=>rw[Cb] at h3;cases h3
 ·cases h3:Nat.beq b a with
  | true=>simp only[Bn];rw[(hb _ _).1 h3,(hb _ _).1 h1]
  | false=>rw[Cb];simp only[Bn,Bs];exact((hb _ _).1 h1).symm
 ·have q:=(hb _ _).1 h1;have I:=(hb _ _).1 h2;have J:b=a:=by rw[←I,q]
  rw[J,Cb];simp only[Bn];exact q.symm
theorem aU.swap (a b:Nat) {P:Program}{f:FuncId}{args:List V}{hin hout:List (Nat×AObj)}{res:V}(h:aU P f args hin res hout) (h1:subset (dO hin) (keys hin)=true:=by rfl) (h2:subset (V.refsL args) (keys hin)=true:=by rfl) (h3:subset (dO hout) (keys hout)=true:=by rfl) (h4:subset res.refs (keys hout)=true:=by rfl):
  aU P f (V.renL (swp a b) args) (renH (swp a b) hin) (res.ren (swp a b)) (renH (swp a b) hout):=h.ren (aWu a b) h1 h2 h3 h4
end Go.AM
namespace Go.AM
open Go Go.Proofs
section
variable {P:Program}{n:Nat}{ops:Array Oper}{draw:Bool}{k d:Nat}{st:St}{pre:REs}{Q:St→Prop}{o:Oper}{f:FuncId}{xs:Array Operand}{ts:Array TypeId}{ids:List Nat}{args:List V}{res:V}{hin hout:List (Nat×AObj)}
theorem kcG {j t:Nat}{want b:Bool}(hf:aU P f args hin res hout)
  (hk:k9 P n ops draw (k+1) ⟨upd st.e d (some res),updL st.h (outs hout),st.d⟩ ((⟨t::dD xs.toList,ids++keys hin++keys hout⟩,⟨some (d,some res),outs hout⟩)::pre) Q)
  (hb:jZ P f:=by exact sB (by kernel_rfl)) (O:ops[k]?=some o:=by rfl) (W:o.guard=some (j,want):=by rfl) (Y:(ops[j]?).bind (·.dst)=some t:=by rfl) (q:st.e t=some (.one (.c (.bool b))):=by rfl) (hw:b=want:=by first | rfl | assumption) (I:o.op=.call { callee:=.value (.func f),args:=xs,argTypes:=ts }:=by rfl) (hd:o.dst=some d:=by rfl) (J:Nat.blt d n=true:=by rfl)
  (ha:ArgsV st ids xs.toList args:=by repeat (first | exact .nil | (apply Go.AM.ArgsV.cons rfl;(first | exact .refl | exact .one (.c .nl .nil) | exact .one (.c .sn .nil) | exact .one (.hs rfl (by first | rfl | simp) (by first | rfl | (simp;done) | (simp[Go.AM.take_map];done) | exact Go.AM.take_map.symm) .nil) | exact Go.AM.hs_all rfl rfl (by first | rfl | assumption | (simp;done) | (simp;omega)) (by first | rfl | assumption | (simp;done)) | ((first | apply Go.AM.Conv.pa | apply Go.AM.Conv.agg);repeat (first | exact .nil | apply Go.AM.PureL.c .refl | apply Go.AM.PureL.c .nl | apply Go.AM.PureL.c .sn | (apply Go.AM.PureL.hs;rfl;(first | rfl | simp);(first | rfl | (simp;done) | (simp[Go.AM.take_map];done) | exact Go.AM.take_map.symm))))))))
  (hin':eJ (fun p=>st.h p.1=some p.2) hin:=by repeat (first | exact trivial | refine⟨rfl,?_⟩)) (hout':eJ (fun p=>p.1∈keys hin∨st.h p.1=none) hout:=by repeat (first | exact trivial | refine⟨.inr rfl,?_⟩ | refine⟨.inl (by decide),?_⟩ | refine⟨.inl (by repeat (first | exact List.Mem.head _ | apply List.Mem.tail)),?_⟩)) (hok:jJ args hin=true:=by rfl):k9 P n ops draw k st pre Q:=
 k_ (GStep.yes O W Y q hw (aMg hin hout hb I hd (fU J) hf ha hin' hout' hok)) hk
end
end Go.AM
namespace Go.Proofs.YtglfogjcijokpaaGreatDoor
open Go Go.AM
set_option maxRecDepth 20000
def bK (l:List Str):V:=.one (.c (.sl 1 (l.map bC)))
theorem iS (l:List (List C)) (h:l.length≤600000000000):aU Tryz.prog 45 [.one (.c (.sl 1 l))] [] (.one (.hs 710 0 l.length l.length)) [(710,.arr 9 1 l 0)]:=by
 refine bL (n:=8) tok Tryz.func45 rfl rfl rfl ?_;refine sg rfl (aIv 0 rfl (fun hl=>?_) ?_)
 ·subst hl;refine a8 (sg rfl (aA rfl (fun _=>sg rfl (AWp.sub (Sub.own (t:=2) (id:=710) 9 1 rfl rfl) ?_)) nofun));exact aF rtT
 ·refine a8 (sg rfl (aA rfl nofun (fun _=>aD (sgh [(0,.id 710)] rfl (AWp.sub (st2:=mk [(2,.one (.hs 710 0 l.length l.length))] [(710,.arr 9 1 l 0)]) sl ?_)))));exact aF rtT
theorem zP (l:List (List C)) (h:l.length≤600000000000):aU Tryz.prog 128 [.one (.c (.sl 15 l))] [] (.one (.hs 701 0 l.length l.length)) [(701,.arr 69 15 l 0)]:=by
 refine bL (n:=8) tok Tryz.func128 rfl rfl rfl ?_;refine sg rfl (aIv 0 rfl (fun hl=>?_) ?_)
 ·subst hl;refine a8 (sg rfl (aA rfl (fun _=>sg rfl (AWp.sub (Sub.own (t:=2) (id:=701) 69 15 rfl rfl) ?_)) nofun));exact aF rtT
 ·refine a8 (sg rfl (aA rfl nofun (fun _=>aD (sgh [(0,.id 701)] rfl (AWp.sub (st2:=mk [(2,.one (.hs 701 0 l.length l.length))] [(701,.arr 69 15 l 0)]) sl ?_)))));exact aF rtT
theorem lE (l:List (List C)) (h:l.length≤600000000000):aU Tryz.prog 96 [.one (.c (.sl 10 l))] [] (.one (.hs 702 0 l.length l.length)) [(702,.arr 34 10 l 0)]:=by
 refine bL (n:=8) tok Tryz.func96 rfl rfl rfl ?_;refine sg rfl (aIv 0 rfl (fun hl=>?_) ?_)
 ·subst hl;refine a8 (sg rfl (aA rfl (fun _=>sg rfl (AWp.sub (Sub.own (t:=2) (id:=702) 34 10 rfl rfl) ?_)) nofun));exact aF rtT
 ·refine a8 (sg rfl (aA rfl nofun (fun _=>aD (sgh [(0,.id 702)] rfl (AWp.sub (st2:=mk [(2,.one (.hs 702 0 l.length l.length))] [(702,.arr 34 10 l 0)]) sl ?_)))));exact aF rtT
theorem aCp (l:List (List C)) (h:l.length≤600000000000):aU Tryz.prog 129 [.one (.c (.sl 14 l))] [] (.one (.hs 703 0 l.length l.length)) [(703,.arr 71 14 l 0)]:=by
 refine bL (n:=8) tok Tryz.func129 rfl rfl rfl ?_;refine sg rfl (aIv 0 rfl (fun hl=>?_) ?_)
 ·subst hl;refine a8 (sg rfl (aA rfl (fun _=>sg rfl (AWp.sub (Sub.own (t:=2) (id:=703) 71 14 rfl rfl) ?_)) nofun));exact aF rtT
 ·refine a8 (sg rfl (aA rfl nofun (fun _=>aD (sgh [(0,.id 703)] rfl (AWp.sub (st2:=mk [(2,.one (.hs 703 0 l.length l.length))] [(703,.arr 71 14 l 0)]) sl ?_)))));exact aF rtT
def aJz (s:Str):List Str→Int→Int
 | [],_=> -1
 | x::l,k=>if s=x then k else aJz s l (k+1)
theorem aH7 (s:Str):∀(l:List Str) (k:Int),0≤k→(decide (0≤aJz s l k)=decide (s∈l))
 | [],k,_=>by simp[aJz]
 | x::l,k,hk=>by
  rw[aJz];split
  ·rename_i h;subst h;simp[hk]
  ·rename_i h;rw[aH7 s l (k+1) (by omega)];simp[h]
theorem aE4 (l:List Str) (s:Str) (h:l.length≤600000000000):aU Tryz.prog 63 [bK l,Go.AM.T s] [] (I .i64 (aJz s l 0)) []:=by
 refine bL (n:=19) tok Tryz.func63 rfl rfl rfl ?_;refine sg rfl (a8 (sg rfl ?_));have J:(l.map bC).length=l.length:=ζ _;refine aC (aO (fun i:Nat=>mk [(0,bK l),(1,Go.AM.T s),(7,I .i64 ((l.map bC).length:Int)),(8,I .i64 i)] []) (fun i=>i≤l.length∧aJz s l 0=aJz s (l.drop i) i) (fun i=>l.length-i) 0 ⟨Ak _,rfl⟩ sl ?_);intro i ⟨hi,he⟩;refine sg rfl (a8 (aA rfl (fun hb=>?_) (fun hb=>?_)))
 ·have q:=ltD hb J;obtain⟨x,hx⟩:=aL q;have W:=bM bC hx;have hd:l.drop i=x::l.drop (i+1):=by rw[B8 q,(τ.1 hx).2]
  rw[hd,aJz] at he;refine aD (a8 (aC (sg rfl (sgh [(3,.row i (bC x))] rfl (aA rfl (fun hb=>?_) (fun hb=>?_))))))
  ·have hs:s=x:=θ hb;rw[ξ hs] at he;rw[he];exact sg rfl (aF rtT)
  ·have hs:¬s=x:=Aa hb;rw[ψ hs] at he;exact aD (ag [] rfl ⟨i+1,⟨q,he⟩,by dsimp only;omega,sl⟩)
 ·have O:=geD hb J hi;subst O;rw[drop_length,aJz] at he;rw[he];exact aM (sg rfl (aF rtT))
theorem bR (l:List Str) (s:Str) (h:l.length≤600000000000):aU Tryz.prog 75 [bK l,Go.AM.T s] [] (B (decide (s∈l))) []:=by
 have hi:=aE4 l s h;refine bL (n:=9) tok Tryz.func75 rfl rfl rfl ?_;refine sg rfl (sgh [(2,.pc (I .i64 (aJz s l 0)))] rfl ?_);rw[←aH7 s l 0 (by omega)];exact aF rtT
def aVl {α:Type}(p:α→Bool):List α→Nat→Int
 | [],_=> -1
 | x::l,i=>if p x then(i:Int) else aVl p l (i+1)
theorem aOa {α:Type}(p:α→Bool):∀(l:List α) (i:Nat),decide (aVl p l i≥0)=l.any p
 | [],_=>rfl
 | x::l,i=>by
  rw[aVl,List.any_cons];cases h:p x
  ·rw[ψ (by simp),aOa p l];rfl
  ·rw[ξ rfl,Bool.true_or];simp
mutual
def tkR:Core→Bool
 | .mk f _ _ _ ks bs al=>(if f=6∨f=7 then !ks.isEmpty else true)&&(aZx ks&&(aZy bs&&aZz al))
def aZx:List Core→Bool
 | []=>true
 | c::l=>tkR c&&aZx l
def aZy:List Bind→Bool
 | []=>true
 | .mk _ _ c::l=>tkR c&&aZy l
def aZz:List Alt→Bool
 | []=>true
 | .mk _ _ _ _ c::l=>tkR c&&aZz l
end
theorem xN:∀{l:List Core},aZx l=true→∀x∈l,tkR x=true
 | c::l,h,x,hx=>by
  rw[aZx,ε] at h;rcases Ah.1 hx with rfl | hx
  ·exact h.1
  ·exact xN h.2 x hx
theorem aGe:∀{l:List Bind},aZy l=true→∀x∈l,tkR x.body=true
 | .mk s t c::l,h,x,hx=>by
  rw[aZy,ε] at h;rcases Ah.1 hx with rfl | hx
  ·exact h.1
  ·exact aGe h.2 x hx
theorem aGf:∀{l:List Alt},aZz l=true→∀x∈l,tkR x.body=true
 | .mk f n s v c::l,h,x,hx=>by
  rw[aZz,ε] at h;rcases Ah.1 hx with rfl | hx
  ·exact h.1
  ·exact aGf h.2 x hx
def xC (c:Core):Prop:=aU Tryz.prog 15 [.pa (aB c)] [] (.pa (aB (aK c))) []
theorem aPe (l:List Bind) (hl:l.length≤570000000000) (Y:∀b∈l,xC b.body):aU Tryz.prog 44 [.one (.c (.sl 15 (aT l)))] [] (.one (.c (.sl 15 (aT (cR l))))) []:=by
 refine bL (n:=23) tok Tryz.func44 rfl rfl rfl ?_;refine sg rfl (sg rfl (AWp.sub (Sub.own (t:=3) (id:=500) 69 15 rfl rfl) ?_));refine a8 (sg rfl ?_);have hle:(aT l).length=l.length:=by rw[bN,ζ]
 refine aC (aO (fun i:Nat=>mk [(6,.one (.c (.sl 15 (aT l)))),(7,I .i64 ((aT l).length:Int)),(3,.one (.hs 500 0 i i)),(8,I .i64 i)] [(500,.arr 69 15 ((l.take i).map fun b=>b8 (lQ b)) 0)]) (fun i=>i≤l.length) (fun i=>l.length-i) 0 (Ak _) sl ?_);intro i hi;refine sg rfl (a8 (aA rfl (fun hb=>?_) (fun hb=>?_)))
 ·have J:=ltD hb hle;obtain⟨b,q⟩:=aL J;have Z:=c9 q;have W:=lX (fun b=>b8 (lQ b)) q;have hk:=Y b (δ q);obtain⟨s,t,c⟩:=b;have hk:xC c:=hk;exact aD (a8 (aC (sgh [(0,.row i (b8 (.mk s t c)))] rfl (ag [(5,.pc (.pa (aB (aK c)))),(7,.all)] rfl (ag [] rfl ⟨i+1,J,by dsimp only;omega,sl⟩)))))
 ·have O:=geD hb hle hi;subst O;have hr:(l.take l.length).map (fun b=>b8 (lQ b))=aT (cR l):=by rw[As,bN,lC,Az];rfl
  rw[hr];have h2:l.length=(aT (cR l)).length:=by rw[bN,lC,ζ,ζ]
  refine aM (sg rfl (AWp.sub (Sub.freeze (id:=500) rfl) ?_));exact aF (rtT (hc:=hs_all rfl rfl h2 rfl))
theorem sH (a:Alt):a.vars.length≤qJ a:=by
 obtain⟨f,n,s,v,c⟩:=a;rw[qJ];have:∀l:List Str,l.length≤(l.map fun v=>1+v.length).sum:=by
  intro l
  induction l with
  | nil=>simp
  | cons x l q=>rw[Al,Cc,Am];omega
 have:=this v;show v.length≤_;omega
theorem zK (c:Core) (hc:aV c≤570000000000) (htk:tkR c=true) (ih:∀x,aV x<aV c→tkR x=true→xC x):xC c:=by
 refine bL (n:=68) tok Tryz.func15 rfl rfl rfl ?_;refine sg rfl (a8 (aC (aO (fun x:Core=>mk [(1,.one (.vp 1 0)),(2,.one (.vp 2 0))] [(1,.var 34 (b7 x)),(2,.var 34 bI)]) (fun x=>aK x=aK c∧aV x≤aV c∧tkR x=true) aV c ⟨rfl,le_refl _,htk⟩ sl ?_)));rintro⟨f,n,s,t,ks,bs,al⟩ ⟨he,hsz,ab⟩;simp only[tkR,ε] at ab;obtain⟨t1,t2,t3,t4⟩:=ab;obtain⟨ac,ihb,iha,hkl,hbl,hal⟩:= @c6 f n s t ks bs al;refine a8 (a8 (agF 4 [] rfl rfl rfl (aA rfl (fun hb=>?_) (fun hb=>?_))))
 ·have ad:f=6∨f=7:=by
   by_cases h6:f=6∨f=7
   ·exact h6
   ·exfalso;have:¬f=6∧¬f=7:=by omega
    simp[Core.form,this.1,this.2] at hb
  rw[ξ ad] at t1;cases ks with
  | nil=>simp at t1
  | cons J ks=>
   have hr:aK (.mk f n s t (J::ks) bs al)=aK J:=by
    rw[aK,ξ ⟨ad,by simp⟩,cQ];rfl
   rw[hr] at he;have hk:=ac J (by simp);exact aD (aC (ag [(2,.row 0 (aB J))] rfl ⟨J,⟨he,by omega,xN t2 J (by simp)⟩,hk,sl⟩))
 ·have Z:¬(f=6∨f=7):=by
   rintro(rfl | rfl)<;>simp[Core.form] at hb
  have hB:=aPe bs (by omega) fun b hb=>ih _ (by have:=ihb b hb;omega) (aGe t3 b hb)
  rw[aK,ψ (fun h=>Z h.1)] at he;refine aM ?_;rw[←he];refine sgh [(8,.pc (.one (.c (.sl 15 (aT (cR bs))))))] rfl (a8 (sg rfl (AWp.sub (Sub.ownCell (x:=3) (k:=7) (id:=500) 34 10 rfl rfl rfl) ?_)));have ae:(aR ks).length=ks.length:=by rw[bD,ζ]
  refine aC (aO (fun i:Nat=>mk [(1,.one (.vp 1 0)),(2,.one (.vp 2 0)),(3,.one (.vp 3 0)),(31,.one (.c (.sl 10 (aR ks)))),(32,I .i64 ((aR ks).length:Int)),(33,I .i64 i)] [(1,.var 34 (b7 (.mk f n s t ks bs al))),(2,.var 34 bI),(3,.var 34 [.c (.int .i64 f),.c (.int .i64 n),.c (.str s),.c (.int .i64 0),.c (.int .i64 0),.c (.str []),.c .nl,.hs 500 0 i i,.c (.sl 15 (aT (cR bs))),.c .nl]),(500,.arr 34 10 ((ks.take i).map fun x=>aB (aK x)) 0)]) (fun i=>i≤ks.length) (fun i=>ks.length-i) 0 (Ak _) sl ?_);intro i hi;refine sg rfl (a8 (aA rfl (fun hb=>?_) (fun hb=>?_)))
  ·have q:i<ks.length:=ltD hb ae;obtain⟨k,O⟩:=aL q;have hki':=iI O;have hm:=δ O;have he:=ih k (by have:=ac k hm;omega) (xN t2 k hm);have aa:=lX (fun x=>aB (aK x)) O;exact aD (a8 (aC (sgh [(0,.row i (aB k))] rfl (ag [(3,.pc (.pa (aB (aK k))))] rfl (ag [] rfl ⟨i+1,q,by dsimp only;omega,sl⟩)))))
  ·have W:i=ks.length:=geD hb ae hi;subst W;have hKs:(ks.take ks.length).map (fun x=>aB (aK x))=aR (cQ ks):=by rw[As,bD,l9,Az];rfl
   rw[hKs];refine aM (AWp.sub (Sub.freeze (id:=500) rfl) ?_);refine a8 (sg rfl (AWp.sub (Sub.ownCell (x:=3) (k:=9) (id:=501) 71 14 rfl rfl rfl) ?_));have ah:(bP al).length=al.length:=by rw[bT,ζ]
   refine aC (aO (fun i:Nat=>mk [(2,.one (.vp 2 0)),(3,.one (.vp 3 0)),(46,.one (.c (.sl 14 (bP al)))),(47,I .i64 ((bP al).length:Int)),(48,I .i64 i)] [(2,.var 34 bI),(3,.var 34 [.c (.int .i64 f),.c (.int .i64 n),.c (.str s),.c (.int .i64 0),.c (.int .i64 0),.c (.str []),.c .nl,.hs 500 0 ks.length ks.length,.c (.sl 15 (aT (cR bs))),.hs 501 0 i i]),(500,.arr 34 10 (aR (cQ ks)) 2),(501,.arr 71 14 ((al.take i).map fun x=>cD (eC x)) 0)]) (fun i=>i≤al.length) (fun i=>al.length-i) 0 (Ak _) sl ?_);intro j hj;refine sg rfl (a8 (aA rfl (fun hb=>?_) (fun hb=>?_)))
   ·have q:j<al.length:=ltD hb ah;obtain⟨a,Y⟩:=aL q;have hai':=nD Y;have hm:=δ Y;have he:=ih a.body (by have:=iha a hm;omega) (aGf t4 a hm);have aa:=lX (fun x=>cD (eC x)) Y;have hav:=iL hm;have hvl:=sH a;obtain⟨f',n',s',v',c'⟩:=a;have he:xC c':=he;have hcl:aU Tryz.prog 45 [.one (.c (.sl 1 (v'.map bC)))] [] (.one (.c (.sl 1 (v'.map bC)))) []:=aU.plain (iS (v'.map bC) (by rw[ζ];rw[aV] at hsz;have:v'.length≤qJ (.mk f' n' s' v' c'):=hvl;omega)) rfl;exact aD (a8 (aC (sgh [(0,.row j (cD (.mk f' n' s' v' c')))] rfl (sgh [(2,.pc (.one (.c (.sl 1 (v'.map bC))))),(5,.pc (.pa (aB (aK c'))))] rfl (ag [] rfl (ag [] rfl ⟨j+1,q,by dsimp only;omega,sl⟩))))))
   ·have W:=geD hb ah hj;subst W;have hAs:(al.take al.length).map (fun x=>cD (eC x))=bP (eT al):=by rw[As,bT,lD,Az];rfl
    rw[hAs];refine aM (sg rfl (AWp.sub (Sub.freeze (id:=501) rfl) ?_));have h1:ks.length=(aR (cQ ks)).length:=by rw[bD,l9,Az,ζ]
    have h2:al.length=(bP (eT al)).length:=by rw[bT,lD,Az,ζ]
    exact aF (rtC trw)
theorem zL:∀(n:Nat) (c:Core),aV c≤n→aV c≤570000000000→tkR c=true→xC c
 | 0,c,h,_,_=>by have:=bG c;omega
 | n+1,c,h,hm,ht=>zK c hm ht fun x hx q=>zL n x (by omega) (by omega) q
def a5x (l:List Int):V:=.one (.c (.sl 1 (l.map aQ0)))
end Go.Proofs.YtglfogjcijokpaaGreatDoor
namespace Go.AM
open Go
inductive CsLe:List C→List C→Prop
 | nil:CsLe [] []
 | cons {c c':C} {l l':List C} (h0:Cle c c') (h:CsLe l l'):CsLe (c::l) (c'::l')
inductive RowsLe:List (List C)→List (List C)→Prop
 | nil:RowsLe [] []
 | cons {r r':List C} {l l':List (List C)} (h:CsLe r r') (k:RowsLe l l'):RowsLe (r::l) (r'::l')
theorem CsLe.refl:∀l:List C,CsLe l l
 | []=>.nil
 | _::l=>.cons .refl (CsLe.refl l)
theorem CsLe.length {l l':List C}(h:CsLe l l'):l'.length=l.length:=by
 induction h with
 | nil=>rfl
 | cons h0 h q=>simp[q]
theorem CsLe.rep {S:Sto}{l l':List C}(h:CsLe l l'):∀{vs:List Value},cB S l vs→cB S l' vs:=by
 induction h with
 | nil=>exact fun k=>k
 | cons h0 h q=>
  intro vs k;simp only[cB] at k ⊢;obtain⟨v,vs',rfl,h1,h2⟩:=k;exact⟨v,vs',rfl,h0.rep h1,q h2⟩
theorem CsLe.app {a q b I:List C}(h:CsLe a q) (k:CsLe b I):CsLe (a++b) (q++I):=by
 induction h with
 | nil=>exact k
 | cons h0 h J=>exact .cons h0 J
theorem RowsLe.flat {l l':List (List C)}(h:RowsLe l l'):CsLe l.flatten l'.flatten:=by
 induction h with
 | nil=>exact .nil
 | cons h k q=>simp only[Bk];exact h.app q
theorem RowsLe.length {l l':List (List C)}(h:RowsLe l l'):l'.length=l.length:=by
 induction h with
 | nil=>rfl
 | cons h k q=>simp[q]
theorem RowsLe.rows {l l':List (List C)}(h:RowsLe l l') {n:Nat}:(∀r∈l,r.length=n)→∀r∈l',r.length=n:=by
 induction h with
 | nil=>exact fun h=>h
 | cons h k I=>
  intro hl r q;rcases Ah.1 q with rfl | q
  ·rw[h.length];exact hl _ φ
  ·exact I (fun x hx=>hl x (η _ hx)) r q
theorem Sub.arrWeak {kf:List Nat}{st:St}{x te es fz:Nat}{rows q:List (List C)}(h:st.h x=some (.arr te es rows fz)) (hp:RowsLe rows q):Sub kf ⟨st.e,upd st.h x (some (.arr te es q fz)),st.d⟩ st:=by
 intro G n S μ a w _ hs;have hi:=hs.inv;have ho:=hi.obj x _ h
 have O:Evolve S μ st.h S μ (upd st.h x (some (.arr te es q fz))):=⟨S.le_refl,fun j y J=>by
  by_cases I:j=x
  ·subst I;rw[h] at J;cases J;exact⟨_,aI _ _ _,by simp[AObj.succ,hp.length]⟩
  ·exact⟨y,by rw[aS _ _ _ I];exact J,y.succ_refl rfl⟩⟩
 have hold:∀j y,upd st.h x (some (.arr te es q fz)) j=some y→∃y',st.h j=some y':=fun j y J=>by
  by_cases I:j=x
  ·subst I;exact⟨_,h⟩
  ·rw[aS _ _ _ I] at J;exact⟨_,J⟩
 refine⟨S,μ,⟨⟨hi.holds,fun j y J=>?_,fun i j y y' b c c' W J hm Z=>?_,fun i y b c W hm=>?_,hi.frame,hi.sle,hi.sto,hi.evo.trans O,hi.fre⟩,hs.size,hs.defers.evolve O,fun s v e=>aZ.evolve O v _ (hs.env s v e)⟩⟩
 ·by_cases I:j=x
  ·subst I;have Y:some (AObj.arr te es q fz)=some y:=by rw[←J];exact(aI _ _ _).symm
   cases Y;obtain⟨g0,g⟩:=ho;refine⟨hp.rows g0,?_⟩;rcases g with⟨g1,g2⟩ | ⟨b,base,cap,vs,g1,g2,g3,g4,g5,g6,g7,g8,g9⟩
   ·subst g2;cases hp;exact .inl ⟨g1,rfl⟩
   ·refine .inr ⟨b,base,cap,vs,g1,g2,g3,by rw[hp.length];exact g4,g5,?_,g7,?_,?_⟩
    ·rw[hp.length];exact hp.flat.rep g6
    ·rw[hp.length];exact g8
    ·rw[hp.length];exact g9
  ·have Y:st.h j=some y:=by rw[←J];exact(aS _ _ _ I).symm
   exact(hi.obj j y Y).evolve O rfl fun _ _ _=>⟨rfl,fun _=>rfl,rfl⟩
 ·obtain⟨_,h1⟩:=hold _ _ W;obtain⟨_,h2⟩:=hold _ _ J;exact hi.inj i j _ _ b c c' h1 h2 hm Z
 ·obtain⟨_,h1⟩:=hold _ _ W;exact hi.own i _ b c h1 hm
theorem aw {kf:List Nat}{st:St}(x:Nat) {te es fz:Nat}{rows:List (List C)}(q:List (List C)) (h:st.h x=some (.arr te es rows fz):=by rfl)
  (hp:RowsLe rows q:=by repeat (first | exact .nil | apply Go.AM.RowsLe.cons | apply Go.AM.CsLe.cons .refl | apply Go.AM.CsLe.cons .nl)):Sub kf ⟨st.e,upd st.h x (some (.arr te es q fz)),st.d⟩ st:=Sub.arrWeak h hp
end Go.AM
namespace Go.Proofs.YtglfogjcijokpaaGreatDoor
open Go Go.AM
set_option maxRecDepth 20000
mutual
def tn:Ty→Nat
 | .mk _ _ s a=>1+s.length+tns a
def tns:List Ty→Nat
 | []=>0
 | t::l=>tn t+tns l
end
theorem nM (t:Ty):1≤tn t:=by cases t;rw[tn];omega
theorem aK9:∀l:List Ty,l.length≤tns l
 | []=>Ak _
 | t::l=>by rw[tns,Am];have:=aK9 l;have:=nM t;omega
theorem nZ:∀{l:List Ty}{t:Ty},t∈l→tn t≤tns l
 | u::l,t,h=>by
  rw[tns];rcases Ah.1 h with rfl | h
  ·omega
  ·have:=nZ h;omega
theorem aCf (t:Ty) (ht:t.args.length≤1000000) (O:∀u∈t.args,aU Tryz.prog 64 [tyV u] [] (tyV u) []):aU Tryz.prog 64 [tyV t] [] (tyV t) []:=by
 obtain⟨f,n,s,a⟩:=t;have O:∀u∈a,aU Tryz.prog 64 [tyV u] [] (tyV u) []:=O;have aa:a.length≤1000000:=ht;have q:(fF a).length=a.length:=by rw[kJ,ζ]
 refine bL (n:=22) tok Tryz.func64 rfl rfl rfl ?_;refine sg rfl (sg rfl (AWp.sub (Sub.own (t:=3) (id:=600) 30 4 rfl rfl) ?_));refine a8 (sg rfl (aC (aO (fun i:Nat=>mk [(1,.one (.vp 1 0)),(2,.one (.vp 2 0)),(3,.one (.hs 600 0 ((fF a).take i).length ((fF a).take i).length)),(7,.one (.c (.sl 4 (fF a)))),(8,I .i64 ((fF a).length:Int)),(9,I .i64 i)] [(600,.arr 30 4 ((fF a).take i) 0),(1,.var 30 ((bH (.mk f n s a)).map R.c)),(2,.var 30 [.c (.int .i64 0),.c (.int .i64 0),.c (.str []),.c .nl])]) (fun i=>i≤a.length) (fun i=>a.length-i) 0 (Ak _) sl ?_)));intro i hi;have ab:((fF a).take i).length=i:=by rw[At];omega
 refine sg rfl (a8 (aA rfl (fun hb=>?_) (fun hb=>?_)))
 ·have J:=ltD hb q;obtain⟨u,hu⟩:=aL J;have W:(fF a)[i]?=some (bH u):=by rw[kJ];exact bM bH hu
  have hc:=O u (δ hu);have Y:(fF a).take (i+1)=(fF a).take i++[bH u]:=by rw[Bh,W];rfl
  refine aD (a8 (aC (sgh [(0,.row i (bH u))] rfl (aE mixed (ak 2 [] rfl (kc hc ?_))))));refine ak 3 [(3,.all)] rfl (az (ag [] rfl ⟨i+1,J,by dsimp only;omega,?_⟩));dsimp only;rw[Y];exact sl
 have Z:=geD hb q hi;subst Z;rw[show(fF a).take a.length=fF a by rw[←q,As]];refine aM (AWp.sub (Sub.freeze (id:=600) rfl) ?_);refine sg rfl (AWp.sub (vp 1 (bH (.mk f n s a))) ?_);exact sg rfl (aF (rtC trw))
mutual
def wfS:Ty→Bool
 | .mk f n s a=>(if f=4 then decide (n=0∧s=[]∧a.length=2) else if f=5 then decide (n=0∧a.length=1) else a.isEmpty)&&aI2 a
def aI2:List Ty→Bool
 | []=>true
 | t::l=>wfS t&&aI2 l
end
theorem aFl:∀{l:List Ty}{t:Ty},aI2 l=true→t∈l→wfS t=true
 | u::l,t,h,ht=>by
  rw[aI2,ε] at h;rcases Ah.1 ht with rfl | ht
  ·exact h.1
  ·exact aFl h.2 ht
theorem sG {f n:Int}{s:Str}{a:List Ty}(h:wfS (.mk f n s a)=true):a.length≤2∧(∀u∈a,wfS u=true)∧(f=4→n=0∧s=[]∧∃u v,a=[u,v])∧(f=5→n=0∧∃u,a=[u])∧(¬f=4→¬f=5→a=[]):=by
 rw[wfS,ε] at h;obtain⟨h1,h2⟩:=h;refine⟨?_,fun u hu=>aFl h2 hu,fun h4=>?_,fun h5=>?_,fun h4 h5=>?_⟩
 ·split at h1
  ·exact le_of_eq (θ h1).2.2
  ·split at h1
   ·rw[(θ h1).2];omega
   ·rw[isEmpty_iff.1 h1];simp
 ·rw[ξ h4] at h1;obtain⟨q,a2,a3⟩:=θ h1
  match a,a3 with
  | [u,v],_=>exact⟨q,a2,u,v,rfl⟩
 ·rw[ψ (by omega),ξ h5] at h1;obtain⟨q,a2⟩:=θ h1;exact⟨q,Bm.1 a2⟩
 ·rw[ψ h4,ψ h5] at h1;exact isEmpty_iff.1 h1
theorem zI:∀(k:Nat) (t:Ty),tn t≤k→wfS t=true→aU Tryz.prog 64 [tyV t] [] (tyV t) []
 | 0,t,h,_=>by have:=nM t;omega
 | k+1,t,h,hw=>by
  obtain⟨f,n,s,a⟩:=t;obtain⟨h1,h2,_⟩:=sG hw;exact aCf (.mk f n s a) (show a.length≤_ by omega) fun u hu=>zI k u (by have hu:u∈a:=hu;have:=nZ hu;rw[tn] at h;omega) (h2 u hu)
theorem aS8 (a b:Ty):aU Tryz.prog 65 [tyV a,tyV b] [] (tyV (tapp a b)) []:=by
 refine bL (n:=9) tok Tryz.func65 rfl rfl rfl ?_;exact sg rfl (sgh [(2,.all)] rfl (aF (rtC trw)))
theorem aV1 (s:Str):aU Tryz.prog 48 [Go.AM.T s] [] (tyV (.mk 2 0 s [])) []:=by
 refine bL (n:=5) tok Tryz.func48 rfl rfl rfl ?_;exact sg rfl (sg rfl (aF (rtC trw)))
def iT (f:Int) (s:Str) (o:List Str) (x:Str):List Str:=if ¬x∈o∧(¬f=5∨¬x=s) then o++[x] else o
def vK (f:Int) (s:Str) (o:List Str) (l:List Str):List Str:=l.foldl (iT f s) o
mutual
def tfR:Ty→List Str
 | .mk f _ s a=>if f=2 then [s] else pT f s a []
def pT (f:Int) (s:Str):List Ty→List Str→List Str
 | [],o=>o
 | t::l,o=>pT f s l (vK f s o (tfR t))
end
def tfL (f:Int) (s:Str) (l:List Ty) (o:List Str):List Str:=l.foldl (fun o t=>vK f s o (tfR t)) o
theorem aDv (f:Int) (s:Str):∀(l:List Ty) (o:List Str),pT f s l o=tfL f s l o
 | [],o=>by rw[pT];rfl
 | t::l,o=>by rw[pT,aDv f s l];rfl
theorem aLe (f:Int) (s:Str) (o:List Str) (x:Str):(iT f s o x).length≤o.length+1:=by
 unfold iT;split
 ·simp
 ·omega
theorem rI (f:Int) (s:Str):∀(l o:List Str),(vK f s o l).length≤o.length+l.length
 | [],o=>le_refl _
 | x::l,o=>by
  have h1:=rI f s l (iT f s o x);have h2:=aLe f s o x;show(vK f s (iT f s o x) l).length≤_;rw[Am];omega
mutual
theorem aLb:∀t:Ty,(tfR t).length≤tn t
 | .mk f n s a=>by
  rw[tfR,tn];split
  ·simp;omega
  ·have:=aDu f s a [];simp only[length_nil] at this;omega
theorem aDu (f:Int) (s:Str):∀(l:List Ty) (o:List Str),(pT f s l o).length≤o.length+tns l
 | [],o=>by rw[pT,tns];exact le_refl _
 | t::l,o=>by
  rw[pT,tns];have h1:=aDu f s l (vK f s o (tfR t));have h2:=rI f s (tfR t) o;have h3:=aLb t;omega
end
theorem aLh {f:Int}{s:Str}{o l:List Str}{j:Nat}{x:Str}(h:l[j]?=some x):vK f s o (l.take (j+1))=iT f s (vK f s o (l.take j)) x:=by
 unfold vK;rw[Bh,h,Bv];rfl
theorem aRg {f:Int}{s:Str}{o:List Str}{l:List Ty}{j:Nat}{x:Ty}(h:l[j]?=some x):tfL f s (l.take (j+1)) o=vK f s (tfL f s (l.take j) o) (tfR x):=by
 unfold tfL;rw[Bh,h,Bv];rfl
theorem aGc:∀(l:List Ty) (i:Nat),tns (l.take i)≤tns l
 | [],i=>by simp
 | t::l,0=>by rw[Cr,tns];omega
 | t::l,i+1=>by rw[A1,tns,tns];have:=aGc l i;omega
theorem pH (t:Ty) (ht:t.args.length≤1000000000) (hL:∀i,(tfL t.form t.name (t.args.take i) []).length≤1000000000) (hU:∀u∈t.args,(tfR u).length≤1000000000) (ih:∀u∈t.args,aU Tryz.prog 78 [tyV u] [] (bK (tfR u)) []):aU Tryz.prog 78 [tyV t] [] (bK (tfR t)) []:=by
 obtain⟨f,n,s,a⟩:=t;have hal:a.length≤1000000000:=ht;have hL:∀i,(tfL f s (a.take i) []).length≤1000000000:=hL;have hU:∀u∈a,(tfR u).length≤1000000000:=hU;have ih:∀u∈a,aU Tryz.prog 78 [tyV u] [] (bK (tfR u)) []:=ih;have ae:(fF a).length=a.length:=by rw[kJ,ζ]
 rw[tfR];refine bL (n:=50) tok Tryz.func78 rfl rfl rfl ?_;refine sg rfl (a8 (sg rfl (aA rfl (fun hb=>?_) (fun hb=>?_))))
 ·have h2:f=2:=θ hb;rw[ξ h2];exact sgh [(2,.all)] rfl (aF rtT)
 ·have h2:¬f=2:=Aa hb;rw[ψ h2,aDv] at *;refine aD (sg rfl (AWp.sub (Sub.own (t:=3) (id:=600) 9 1 rfl rfl) (AWp.sub (Sub.freeze (id:=600) rfl) ?_)));refine a8 (sg rfl (aC (aO (fun i:Nat=>mk [(1,.one (.vp 1 0)),(3,.one (.hs 600 0 (tfL f s (a.take i) []).length (tfL f s (a.take i) []).length)),(15,.one (.c (.sl 4 (fF a)))),(16,I .i64 ((fF a).length:Int)),(17,I .i64 i)] [(600,.arr 9 1 ((tfL f s (a.take i) []).map bC) 2),(1,.var 30 ((bH (.mk f n s a)).map R.c))]) (fun i=>i≤a.length) (fun i=>a.length-i) 0 (Ak _) sl ?_)));intro i hi;refine sg rfl (a8 (aA rfl (fun hb=>?_) (fun hb=>?_)))
  ·have ah:=ltD hb ae;obtain⟨u,hu⟩:=aL ah;have hu':(fF a)[i]?=some (bH u):=by rw[kJ];exact bM bH hu
   have hm:=δ hu;have hc:=ih u hm;have hul:=hU u hm;have aa:=aRg (f:=f) (s:=s) (o:=[]) hu;have hol:=hL i;generalize tfL f s (a.take i) []=o at aa hol ⊢;have ab:((tfR u).map bC).length=(tfR u).length:=ζ _;generalize tfR u=J at hc hul aa ab;refine aD (a8 (aC (sgh [(0,.row i (bH u))] rfl (sk 1 rfl (kc hc ?_)))));refine kz 2 rfl (aC (aO (fun j:Nat=>mk [(1,.one (.vp 1 0)),(3,.one (.hs 600 0 (vK f s o (J.take j)).length (vK f s o (J.take j)).length)),(15,.one (.c (.sl 4 (fF a)))),(16,I .i64 ((fF a).length:Int)),(17,I .i64 i),(22,bK J),(23,I .i64 ((J.map bC).length:Int)),(24,I .i64 j)] [(600,.arr 9 1 ((vK f s o (J.take j)).map bC) 2),(1,.var 30 ((bH (.mk f n s a)).map R.c))]) (fun j=>j≤J.length) (fun j=>J.length-j) 0 (Ak _) sl ?_));intro j hj;refine sg rfl (a8 (aA rfl (fun hb=>?_) (fun hb=>?_)))
   ·have O:=ltD hb ab;obtain⟨x,hx⟩:=aL O;have hx':=bM bC hx;have W:=aLh (f:=f) (s:=s) (o:=o) hx;have hpl:(vK f s o (J.take j)).length≤2000000000:=by
     have:=rI f s (J.take j) o;rw[At] at this;omega
    generalize vK f s o (J.take j)=q at W hpl ⊢;have Y:=bR q x (by omega);have hkq:(q.map bC).length=q.length:=ζ _;refine aD (a8 (aC (sgh [(0,.row j (bC x))] rfl ?_)));by_cases Z:x∈q
    ·rw[Af Z] at Y;have he:iT f s q x=q:=by unfold iT;rw[ψ (fun h=>h.1 Z)]
     refine sk 2 rfl (kc Y ?_);refine kz 12 rfl (aA rfl nofun (fun _=>aD (ag [] rfl ⟨j+1,O,by dsimp only;omega,?_⟩)));dsimp only;rw[W,he];exact sl
    rw[Ae Z] at Y;by_cases h5:f=5
    ·have d5:decide (f=5)=true:=Af h5;have d5':(!decide (f=5))=false:=by rw[d5];rfl
     refine sk 2 rfl (kc Y ?_);refine ak 12 [(8,.bv false),(13,.bv false)] rfl (az (aA rfl (fun hb=>?_) (fun hb=>?_)))
     ·have ac:¬x=s:=by simp at hb;exact hb
      have he:iT f s q x=q++[x]:=by unfold iT;rw[ξ ⟨Z,.inr ac⟩]
      refine ag [(2,.all)] rfl (AWp.sub (Sub.freeze (id:=600) rfl) ?_);refine ag [] rfl ⟨j+1,O,by dsimp only;omega,?_⟩;dsimp only;rw[W,he];exact sl (hh:=⟨⟨_,rfl,.arrS (by rw[A6];rfl)⟩,⟨_,rfl,.var rfl⟩,trivial⟩)
     ·have ac:x=s:=by simp at hb;exact hb
      have he:iT f s q x=q:=by unfold iT;rw[ψ (fun h=>h.2.elim (fun h=>h h5) (fun h=>h ac))]
      refine aD (ag [] rfl ⟨j+1,O,by dsimp only;omega,?_⟩);dsimp only;rw[W,he];exact sl
    ·have d5:decide (f=5)=false:=Ae h5;have d5':(!decide (f=5))=true:=by rw[d5];rfl
     have he:iT f s q x=q++[x]:=by unfold iT;rw[ξ ⟨Z,.inl h5⟩]
     refine sk 2 rfl (kc Y ?_);refine ak 12 [(8,.bv true),(13,.bv true)] rfl (az (aA rfl (fun _=>ag [(2,.all)] rfl (AWp.sub (Sub.freeze (id:=600) rfl) ?_)) nofun));refine ag [] rfl ⟨j+1,O,by dsimp only;omega,?_⟩;dsimp only;rw[W,he];exact sl (hh:=⟨⟨_,rfl,.arrS (by rw[A6];rfl)⟩,⟨_,rfl,.var rfl⟩,trivial⟩)
   have ad:=geD hb ab hj;subst ad;rw[As];refine aM (ag [] rfl ⟨i+1,ah,by dsimp only;omega,?_⟩);dsimp only;rw[aa];exact sl
  have ad:=geD hb ae hi;subst ad;rw[As];exact aM (sg rfl (aF (rtT (hc:=hs_all rfl rfl (by simp) rfl))))
theorem aCg (t:Ty) (ht:tn t≤1000000000) (q:∀u,tn u<tn t→aU Tryz.prog 78 [tyV u] [] (bK (tfR u)) []):aU Tryz.prog 78 [tyV t] [] (bK (tfR t)) []:=by
 obtain⟨f,n,s,a⟩:=t;rw[tn] at ht q;have I:=aK9 a;refine pH (.mk f n s a) (show a.length≤_ by omega) (fun i=>?_) (fun u hu=>?_) fun u hu=>q u ?_
 ·have h1:=aDu f s (a.take i) [];rw[aDv] at h1;have h2:=aGc a i;simp only[length_nil] at h1;show(tfL f s (a.take i) []).length≤_;omega
 ·have h1:=nZ (show u∈a from hu);have h2:=aLb u;omega
 ·have h1:=nZ (show u∈a from hu);omega
theorem aIh:∀(k:Nat) (t:Ty),tn t≤k→tn t≤1000000000→aU Tryz.prog 78 [tyV t] [] (bK (tfR t)) []
 | 0,t,h,_=>by have:=nM t;omega
 | k+1,t,h,hm=>aCg t hm fun u hu=>aIh k u (by omega) (by omega)
mutual
def fvm:Ty→Nat
 | .mk f n s a=>max (tfR (.mk f n s a)).length (aOp a)
def aOp:List Ty→Nat
 | []=>0
 | t::l=>max (fvm t) (aOp l)
end
theorem oY (t:Ty):(tfR t).length≤fvm t:=by cases t;rw[fvm];exact C7 ..
theorem aH3:∀{l:List Ty}{t:Ty},t∈l→fvm t≤aOp l
 | u::l,t,h=>by
  rw[aOp];rcases Ah.1 h with rfl | h
  ·exact C7 ..
  ·exact le_trans (aH3 h) (Cf ..)
theorem yW {f n:Int}{s:Str}{a:List Ty}{u:Ty}(h:u∈a):fvm u≤fvm (.mk f n s a):=by
 rw[fvm];exact le_trans (aH3 h) (Cf ..)
theorem aLg {f:Int}{s:Str}{L:Nat}:∀{l:List Ty}{o:List Str},(∀u∈l,(tfR u).length≤L)→(tfL f s l o).length≤o.length+l.length*L
 | [],o,_=>by simp[tfL]
 | t::l,o,h=>by
  have h1:=aLg (f:=f) (s:=s) (l:=l) (o:=vK f s o (tfR t)) fun u hu=>h u (η _ hu)
  have h2:=rI f s (tfR t) o;have h3:=h t φ;show(tfL f s l (vK f s o (tfR t))).length≤_;rw[Am,succ_mul];omega
theorem pI:∀(k:Nat) (t:Ty),tn t≤k→wfS t=true→fvm t≤400000000→aU Tryz.prog 78 [tyV t] [] (bK (tfR t)) []
 | 0,t,h,_,_=>by have:=nM t;omega
 | k+1,t,h,hw,hf=>by
  obtain⟨f,n,s,a⟩:=t;obtain⟨h1,h2,_⟩:=sG hw;have hu:∀u∈a,(tfR u).length≤400000000:=fun u hu=>le_trans (oY u) (le_trans (yW hu) hf)
  refine pH (.mk f n s a) (show a.length≤_ by omega) (fun i=>?_) (fun u q=>le_trans (hu u q) (by decide)) fun u q=>?_
  ·have h3:=aLg (f:=f) (s:=s) (l:=a.take i) (o:=[]) fun u q=>hu u (Br q)
   rw[At,length_nil] at h3;have h4:min i a.length*400000000≤2*400000000:=Ar _ (by omega);show(tfL f s (a.take i) []).length≤_;omega
  ·have q:u∈a:=q;exact pI k u (by have:=nZ q;rw[tn] at h;omega) (h2 u q) (le_trans (yW q) hf)
def fw (t:Ty):Nat:=if wfS t=true∧fvm t≤tn t then fvm t else tn t
theorem a2p (t:Ty):(tfR t).length≤fw t:=by
 unfold fw;split
 ·exact oY t
 ·exact aLb t
theorem aVr {t:Ty}(h:wfS t=true):fw t≤fvm t:=by
 unfold fw;split
 ·exact le_refl _
 ·rename_i q;have:¬fvm t≤tn t:=fun hh=>q ⟨h,hh⟩
  omega
theorem aIi (t:Ty) (h:fw t≤400000000):aU Tryz.prog 78 [tyV t] [] (bK (tfR t)) []:=by
 unfold fw at h;split at h
 ·rename_i q;exact pI (tn t) t (le_refl _) q.1 h
 ·exact aIh (tn t) t (le_refl _) (by omega)
end Go.Proofs.YtglfogjcijokpaaGreatDoor
namespace Go.AM
open Go
theorem a2y:∀m:_root_.Fin 128,Utf8.encode ((m.val:Nat):Int)=⟨⟨[UInt8.ofNat m.val]⟩⟩:=by decide+kernel
section
variable {P:Program}{T:TT}{n:Nat}{o:Oper}{st:St}{d:Nat}
theorem aW9 {src dst:TypeId}{i j:TI}{x:Operand}{k:IntKind}{m:Nat}(hm:m<128) (q:Tok P T) (Y:o.op=.convert src dst x) (hd:o.dst=some d) (J:d<n) (hi:T[src]?=some (some i)) (O:i.k=.int k) (Z:T[dst]?=some (some j)) (W:j.k=.str)
  (hx:opv st x=some (I k (m:Int))):Step P n o st ⟨opr x,[]⟩ ⟨some (d,some (Go.AM.T [UInt8.ofNat m])),[]⟩:=by
 refine Step.value hd J fun st' ha G S μ a w hs=>?_
 have hv:=fN (aQ hs hx ha.1);refine⟨.string ⟨⟨[UInt8.ofNat m]⟩⟩,?_,by simp[aZ,b9,Rep]⟩;have h1:=(q.get hi).int O;have h2:=(q.get Z).str W;have h3:=run_convert_int_string (P:=P) w src dst k (m:Int) (by rw[h1];rfl) h2;rw[a2y ⟨m,hm⟩] at h3;simp only[execOp,Y,hv,Ag,h3,ω,Ai]
end
section
variable {P:Program}{n:Nat}{ops:Array Oper}{draw:Bool}{k d:Nat}{st:St}{pre:REs}{Q:St→Prop}{o:Oper}
theorem kr {tr:Tr}{src dst:TypeId}{i j:TI}{x:Operand}{kk:IntKind}(m:Nat) (hm:m<128) (Y:Tok P tr.flat)
  (hk:k9 P n ops draw (k+1) ⟨upd st.e d (some (Go.AM.T [UInt8.ofNat m])),st.h,st.d⟩ ((⟨opr x,[]⟩,⟨some (d,some (Go.AM.T [UInt8.ofNat m])),[]⟩)::pre) Q) (hw:tr.wf=true)
  (Z:ops[k]?=some o:=by rfl) (hg:o.guard=none:=by rfl) (q:o.op=.convert src dst x:=by rfl) (hd:o.dst=some d:=by rfl) (J:Nat.blt d n=true:=by rfl) (hi:tr.get src=some i:=by rfl) (O:i.k=.int kk:=by rfl) (hj:tr.get dst=some j:=by rfl) (W:j.k=.str:=by rfl) (hx:opv st x=some (I kk (m:Int)):=by first | rfl | assumption):k9 P n ops draw k st pre Q:=
 k_ (g_ Z hg (aW9 hm Y q hd (fU J) (Tr.get_ok hw hi) O (Tr.get_ok hw hj) W hx)) hk
end
end Go.AM
namespace Go.Proofs.YtglfogjcijokpaaGreatDoor
open Go Go.AM
set_option maxRecDepth 20000
def bQ (n:Nat):Str:=if n<26 then [UInt8.ofNat (97+n%26)] else [UInt8.ofNat (97+n%26)]++Lib.decDigits (n/26)
theorem wrap_small (m:Nat) (h:m<128):IntKind.i32.wrap (m:Int)=(m:Int):=by
 have:∀m:_root_.Fin 128,IntKind.i32.wrap ((m.val:Nat):Int)=((m.val:Nat):Int):=by decide+kernel
 exact this ⟨m,h⟩
theorem zG (n:Nat) (h:n≤600000000000):(Lib.decDigits n).length≤20:=by
 rw[Lib.decDigits_length];by_cases h0:n=0
 ·subst h0;decide+kernel
 ·have:=Lib.numDigits_eq n (by omega) (by omega);split at this<;>omega
theorem aCm (n:Nat) (hn:n≤600000000000) (q:26≤n→aU Tryz.prog 144 [I .i64 ((n/26:Nat):Int)] [] (Go.AM.T (Lib.decDigits (n/26))) []):aU Tryz.prog 148 [I .i64 n] [] (Go.AM.T (bQ n)) []:=by
 have J:(97:Int)+(n:Int)%26=((97+n%26:Nat):Int):=by omega
 refine bL (n:=17) tok Tryz.func148 rfl rfl rfl ?_;refine sg rfl (sk 4 rfl ?_ (hc:=by repeat (first | exact trivial | refine⟨by first | rfl | omega,?_⟩)))
 refine kr (97+n%26) (by omega) tok ?_ trw (hx:=by
  show some (I .i32 (IntKind.i32.wrap (97+(n:Int)%26)))=some (I .i32 ((97+n%26:Nat):Int))
  rw[J,wrap_small _ (by omega)])
 refine kz 1 rfl (a8 (sg rfl (aA rfl (fun hb=>?_) (fun hb=>?_))))
 ·have h:n<26:=by have:=θ hb;omega
  unfold bQ;rw[ξ h];exact sg rfl (aF rtT)
 ·have h:¬n<26:=by have:=Aa hb;omega
  have q:=q (by omega);have W:600000000000≤maxLen:=by decide
  have O:=zG (n/26) (by omega);have hd:(n:Int)/26=((n/26:Nat):Int):=by omega
  unfold bQ;rw[ψ h];refine aD (sk 3 rfl ?_ (hc:=by repeat (first | exact trivial | refine⟨by first | rfl | omega | decide,?_⟩)));rw[←hd] at q;refine kc q ?_;refine ak 2 [] rfl ?_ (hc:=by repeat (first | exact trivial | refine⟨by first | rfl | omega | (simp;omega),?_⟩));exact az (aF rtT)
theorem sA {a b:Nat}(ha:a<256) (hb:b<256) (h:UInt8.ofNat a=UInt8.ofNat b):a=b:=by
 have:=congrArg UInt8.toNat h;simp only[UInt8.toNat_ofNat'] at this;omega
theorem aIe (n:Nat):1≤(Lib.decDigits n).length:=by
 rw[Lib.decDigits];split<;>simp
theorem aO4:∀(n m:Nat),Lib.decDigits n=Lib.decDigits m→n=m:=by
 intro n
 induction n using Nat.strongRecOn with
 | _ n q=>
  intro m h;rw[Lib.decDigits,Lib.decDigits.eq_1 m] at h;split at h<;>split at h
  ·simp only[List.cons.injEq,and_true] at h;have:=sA (by omega) (by omega) h;omega
  ·have:=congrArg List.length h;have hp:=aIe (m/10);simp only[Ab,Am,length_nil] at this;omega
  ·have:=congrArg List.length h;have hp:=aIe (n/10);simp only[Ab,Am,length_nil] at this;omega
  ·have h1:=List.append_inj' h rfl;have h2:=q (n/10) (by omega) (m/10) h1.1;have h3:=h1.2;simp only[List.cons.injEq,and_true] at h3;have:=sA (by omega) (by omega) h3;omega
theorem aEl (n m:Nat) (h:bQ n=bQ m):n=m:=by
 unfold bQ at h;split at h<;>split at h
 ·simp only[List.cons.injEq,and_true] at h;have:=sA (by omega) (by omega) h;omega
 ·have:=congrArg List.length h;have hp:=aIe (m/26);simp only[Ab,Am,length_nil] at this;omega
 ·have:=congrArg List.length h;have hp:=aIe (n/26);simp only[Ab,Am,length_nil] at this;omega
 ·simp only[A9,A4,List.cons.injEq] at h;have h1:=sA (by omega) (by omega) h.1;have h2:=aO4 _ _ h.2;omega
theorem aSw (l:List Str):∃n,n≤l.length∧¬bQ n∈l:=by
 refine Classical.byContradiction fun J=>?_
 have q:∀n,n≤l.length→bQ n∈l:=fun n hn=>Classical.byContradiction fun h=>J ⟨n,hn,h⟩
 have O:((List.range (l.length+1)).map bQ).Nodup:=by
  rw[List.Nodup,List.pairwise_map];exact List.Pairwise.imp (fun h e=>h (aEl _ _ e)) nodup_range
 have I:∀x∈(List.range (l.length+1)).map bQ,x∈l:=fun x hx=>by
  obtain⟨i,hi,rfl⟩:=Ad.1 hx;exact q i (by have:=mem_range.1 hi;omega)
 have key:∀(a b:List Str),a.Nodup→(∀x∈a,x∈b)→a.length≤b.length:=by
  intro a
  induction a with
  | nil=>intro b _ _;simp
  | cons x a Y=>
   intro b hn hs;rw[Bt] at hn;have h1:=Y (b.erase x) hn.2 fun y W=>(List.mem_erase_of_ne (by rintro rfl;exact hn.1 W)).2 (hs y (η _ W))
   have hx:=hs x φ;rw[List.length_erase_of_mem hx] at h1;have:=length_pos_of_mem hx;rw[Am];omega
 have:=key _ _ O I;rw[ζ,length_range] at this;omega
theorem kZ (l:List Str):∃n,n≤l.length∧¬bQ n∈l∧∀m,m<n→bQ m∈l:=by
 have key:∀k:Nat,(∃n,n≤k∧¬bQ n∈l)→∃n,n≤k∧¬bQ n∈l∧∀m,m<n→bQ m∈l:=by
  intro k
  induction k with
  | zero=>
   rintro⟨n,hn,h⟩;exact⟨n,hn,h,fun m hm=>by omega⟩
  | succ k I=>
   rintro⟨n,hn,h⟩;by_cases hk:∃n,n≤k∧¬bQ n∈l
   ·obtain⟨m,h1,h2,h3⟩:=I hk;exact⟨m,by omega,h2,h3⟩
   ·have J:n=k+1:=by
     by_cases h1:n≤k
     ·exact absurd ⟨n,h1,h⟩ hk
     ·omega
    exact⟨n,hn,h,fun m hm=>Classical.byContradiction fun q=>hk ⟨m,by omega,q⟩⟩
 exact key l.length (aSw l)
noncomputable def jV (l:List Str):Nat:=Classical.choose (kZ l)
noncomputable def b6 (l:List Str):Str:=bQ (jV l)
theorem uA (l:List Str):jV l≤l.length:=(By (kZ l)).1
theorem qE (l:List Str):¬bQ (jV l)∈l:=(By (kZ l)).2.1
theorem aBy (l:List Str) {m:Nat}(h:m<jV l):bQ m∈l:=(By (kZ l)).2.2 m h
theorem zN (l:List Str) (hl:l.length≤570000000000) (O:∀k,k≤l.length→aU Tryz.prog 144 [I .i64 (k:Int)] [] (Go.AM.T (Lib.decDigits k)) []):aU Tryz.prog 131 [bK l] [] (Go.AM.T (b6 l)) []:=by
 have hf:=uA l;refine bL (n:=12) tok Tryz.func131 rfl rfl rfl ?_;refine sg rfl (sg rfl (a8 (aC (aO (fun n:Nat=>mk [(0,bK l),(3,I .i64 n)] []) (fun n=>n≤jV l) (fun n=>jV l-n) 0 (Ak _) sl ?_))));intro n hn;have q:=aCm n (by omega) fun h=>O (n/26) (by omega)
 have J:=bR l (bQ n) (by omega);refine a8 (sk 2 rfl (kc q ?_));refine kc J ?_;refine az (aA rfl (fun hb=>?_) (fun hb=>?_))
 ·have hm:bQ n∈l:=θ hb;have W:n≠jV l:=by rintro rfl;exact qE l hm
  refine aD (aC (ag [] rfl ?_ (hc:=by repeat (first | exact trivial | refine⟨by omega,?_⟩))));exact⟨n+1,by omega,by dsimp only;omega,sl⟩
 ·have hm:¬bQ n∈l:=Aa hb;have he:n=jV l:=by
   by_cases h:n<jV l
   ·exact absurd (aBy l h) hm
   ·omega
  refine aM (sk 1 rfl (kc q ?_));refine kz 1 rfl ?_;unfold b6;rw[←he];exact aF rtT
abbrev cE (m:Nat):Prop:=∀k,k≤m→aU Tryz.prog 144 [I .i64 (k:Int)] [] (Go.AM.T (Lib.decDigits k)) []
theorem aTf (l:List Str) (hl:l.length≤570000000000) (O:cE l.length):aU Tryz.prog 120 [bK l] [] (Go.AM.T (b6 l)) []:=by
 have hf:=uA l;have W:(l.map bC).length=l.length:=ζ _;refine bL (n:=19) tok Tryz.func120 rfl rfl rfl ?_;refine sg rfl (a8 (a8 (agN [] rfl (aC (aO (fun n:Nat=>mk [(0,bK l),(7,I .i64 (((l.map bC).length+1:Nat):Int)),(8,I .i64 n)] []) (fun n=>n≤jV l) (fun n=>jV l-n) 0 (Ak _) sl ?_)) (hc:=⟨by show(l.map bC).length+1≤9223372036854775807;omega,trivial⟩))));intro n hn;have q:=aCm n (by omega) fun h=>O (n/26) (by omega)
 have J:=bR l (bQ n) (by omega);refine sg rfl (a8 (aA rfl (fun hb=>?_) (fun hb=>?_)))
 ·refine aD (a8 (aC (sg rfl (sk 1 rfl (kc q ?_)))));refine kz 1 rfl (sk 2 rfl (kc J ?_));refine kz 1 rfl (aA rfl (fun hb=>?_) (fun hb=>?_))
  ·have hm:¬bQ n∈l:=by simpa using hb
   have he:n=jV l:=by
    by_cases h:n<jV l
    ·exact absurd (aBy l h) hm
    ·omega
   refine sg rfl ?_;unfold b6;rw[←he];exact aF rtT
  ·have hm:bQ n∈l:=by simpa using hb
   have Y:n≠jV l:=by rintro rfl;exact qE l hm
   refine aD (ag [] rfl ?_ (hc:=by repeat (first | exact trivial | refine⟨by omega,?_⟩)));exact⟨n+1,by omega,by dsimp only;omega,sl⟩
 ·exfalso;have:=Aa hb;omega
theorem aYx (s:Str) (t:Ty) (q:aU Tryz.prog 64 [tyV t] [] (tyV t) []):aU Tryz.prog 121 [Go.AM.T s,tyV t] [] (tyV (.mk 5 0 s [t])) []:=by
 refine bL (n:=10) tok Tryz.func121 rfl rfl rfl ?_;refine sg rfl (sk 2 rfl (kc q ?_));exact ak 3 [(3,.all)] rfl (az (aF (rtC trw)))
set_option maxHeartbeats 4000000
def aZw (l:List Ty):V:=.one (.c (.sl 4 (l.map bH)))
def unF (nm:Str) (body:Ty) (l:List (Str×Ty)):List (Str×Ty):=l.filter fun p=>!decide (p.1=nm)&&decide (p.1∈tfR body)
def unC (l:List (Str×Ty)):List Str:=l.flatMap fun p=>tfR p.2
noncomputable def unN (nm:Str) (body:Ty) (l:List (Str×Ty)):Str:=if nm∈unC (unF nm body l) then b6 (unC (unF nm body l)++tfR body) else nm
noncomputable def unP (nm:Str) (body:Ty) (l:List (Str×Ty)):List (Str×Ty):=if nm∈unC (unF nm body l) then unF nm body l++[(nm,.mk 2 0 (unN nm body l) [])] else unF nm body l
theorem aQ9 {nm:Str}{body:Ty}{l:List (Str×Ty)}{i:Nat}{p:Str×Ty}(h:l[i]?=some p):unF nm body (l.take (i+1))=if(!decide (p.1=nm)&&decide (p.1∈tfR body))=true then unF nm body (l.take i)++[p] else unF nm body (l.take i):=by
 unfold unF;rw[Bh,h,List.filter_append];show _++List.filter _ [p]=_;rw[Cu];split<;>simp
theorem aS6 (nm:Str) (body b':Ty) (ps:List (Str×Ty)) (hl:ps.length≤1000000000) (hfr:aU Tryz.prog 78 [tyV body] [] (bK (tfR body)) []) (hfl:(tfR body).length≤400000000) (Z:aU Tryz.prog 121 [Go.AM.T (unN nm body ps),tyV b'] [] (tyV (.mk 5 0 (unN nm body ps) [b'])) [])
  (hps:∀p∈ps,aU Tryz.prog 78 [tyV p.2] [] (bK (tfR p.2)) []∧(tfR p.2).length≤400000000) (hc:(unC (unF nm body ps)).length≤540000000000∧∀i,(unC (unF nm body (ps.take i))).length≤540000000000) (hI:cE ((unC (unF nm body ps)).length+(tfR body).length))
  (hS:aU Tryz.prog 28 [tyV body,bK ((unP nm body ps).map (·.1)),aZw ((unP nm body ps).map (·.2))] [] (tyV b') []):
  aU Tryz.prog 66 [tyV (.mk 5 0 nm [body]),bK (ps.map (·.1)),aZw (ps.map (·.2))] [] (tyV (.mk 5 0 (unN nm body ps) [b'])) []:=by
 have hk1:((ps.map (·.1)).map bC).length=ps.length:=by rw[ζ,ζ]
 refine bL (n:=81) tok Tryz.func66 rfl rfl rfl ?_;refine sg rfl (sgh [(2,.row 0 (bH body))] rfl (sk 1 rfl (kc hfr ?_)));refine kz 1 rfl (sg rfl (sg rfl (sg rfl (AWp.sub (Sub.own (t:=9) (id:=600) 9 1 rfl rfl) (AWp.sub (Sub.freeze (id:=600) rfl) ?_)))));refine AWp.sub (Sub.own (t:=10) (id:=601) 30 4 rfl rfl) (AWp.sub (Sub.freeze (id:=601) rfl) ?_);refine AWp.sub (Sub.own (t:=11) (id:=602) 9 1 rfl rfl) (AWp.sub (Sub.freeze (id:=602) rfl) ?_);refine a8 (sg rfl (aC ?_))
 refine aO (fun i:Nat=>mk [(2,aZw (ps.map (·.2))),(3,.one (.vp 3 0)),(6,.one (.vp 6 0)),(7,.one (.vp 7 0)),(8,bK (tfR body)),(9,.one (.hs 600 0 (unF nm body (ps.take i)).length (unF nm body (ps.take i)).length)),(10,.one (.hs 601 0 (unF nm body (ps.take i)).length (unF nm body (ps.take i)).length)),(11,.one (.hs 602 0 (unC (unF nm body (ps.take i))).length (unC (unF nm body (ps.take i))).length)),(21,bK (ps.map (·.1))),(22,I .i64 (((ps.map (·.1)).map bC).length:Int)),(23,I .i64 i)]
  [(600,.arr 9 1 (((unF nm body (ps.take i)).map (·.1)).map bC) 2),(601,.arr 30 4 (((unF nm body (ps.take i)).map (·.2)).map bH) 2),(602,.arr 9 1 ((unC (unF nm body (ps.take i))).map bC) 2),(3,.var 30 ((bH (.mk 5 0 nm [body])).map R.c)),(6,.var 30 [.c (.int .i64 0),.c (.int .i64 0),.c (.str []),.c .nl]),(7,.var 30 ((bH body).map R.c))]) (fun i=>i≤ps.length) (fun i=>ps.length-i) 0 (Ak _) sl ?_
 intro i hi;refine sg rfl (a8 (aA rfl (fun hb=>?_) (fun hb=>?_)))
 ·have W:=ltD hb hk1;obtain⟨⟨s,u⟩,hu⟩:=aL W;have hs':((ps.map (·.1)).map bC)[i]?=some (bC s):=bM bC (by rw[Bo,hu];rfl);have hu':((ps.map (·.2)).map bH)[i]?=some (bH u):=bM bH (by rw[Bo,hu];rfl);obtain⟨hfu,hul⟩:=hps _ (δ hu);have hul:(tfR u).length≤400000000:=hul;have hfu:aU Tryz.prog 78 [tyV u] [] (bK (tfR u)) []:=hfu;have J:=aQ9 (nm:=nm) (body:=body) hu;have O:=bR (tfR body) s (by omega);have hql:=hc.2 i;have hpl:(unF nm body (ps.take i)).length≤1000000000:=by
   have h1:(unF nm body (ps.take i)).length≤(ps.take i).length:=List.length_filter_le _ _;rw[At] at h1;omega
  generalize unF nm body (ps.take i)=q at J hql hpl ⊢;generalize tfR body=fb at O J ⊢;refine aD (a8 (aC (sgh [(1,.row i (bC s))] rfl ?_)));by_cases h1:s=nm
  ·have Y:(!decide (s=nm))=false:=by rw[Af h1];rfl
   dsimp only at J;rw[Y,Bool.false_and,ψ (by decide)] at J;refine sgh [(4,.bv false),(8,.bv false)] rfl (aA rfl nofun (fun _=>aD (ag [] rfl ⟨i+1,W,by dsimp only;omega,?_⟩)));dsimp only;rw[J];exact sl
  have Y:(!decide (s=nm))=true:=by rw[Ae h1];rfl
  dsimp only at J;rw[Y,Bool.true_and] at J;by_cases h2:s∈fb
  ·rw[Af h2] at O;rw[ξ (Af h2)] at J;have hql2:=hc.2 (i+1);rw[J] at hql2;have hcq:unC (q++[(s,u)])=unC q++tfR u:=by unfold unC;rw[flatMap_append];simp
   rw[hcq,Ab] at hql2;refine skh 7 [(4,.bv true)] rfl (kcG O ?_ (hw:=Y));refine ak 1 [(8,.bv true)] rfl (az (aA rfl (fun _=>?_) nofun));have hq1:((q.map (·.1)).map bC).length=q.length:=by rw[ζ,ζ]
   have hq2:((q.map (·.2)).map bH).length=q.length:=by rw[ζ,ζ]
   have hq3:((unC q).map bC).length=(unC q).length:=ζ _;have hq4:((tfR u).map bC).length=(tfR u).length:=ζ _;refine sgh [(2,.all),(7,.row i (bH u)),(9,.all)] rfl (AWp.sub (Sub.freeze (id:=600) rfl) (AWp.sub (Sub.freeze (id:=601) rfl) ?_));refine aE mixed (ak 5 [(3,.row i (bH u))] rfl (kc hfu ?_));refine kz 2 rfl (AWp.sub (Sub.freeze (id:=602) rfl) ?_);refine ag [] rfl ⟨i+1,W,by dsimp only;omega,?_⟩;dsimp only;rw[J,hcq];refine sl (he:=⟨rfl,rfl,rfl,rfl,rfl,Go.AM.hs_ren (by simp) (by simp),Go.AM.hs_ren (by simp) (by simp),Go.AM.hs_ren (by simp) (by simp),rfl,rfl,rfl,trivial⟩) (hh:=⟨⟨_,rfl,.arrS (by simp[bC])⟩,⟨_,rfl,.arrS (by simp;rfl)⟩,⟨_,rfl,.arrS (by simp)⟩,⟨_,rfl,.var rfl⟩,⟨_,rfl,.var rfl⟩,⟨_,rfl,.var rfl⟩,trivial⟩)
  ·rw[Ae h2] at O;rw[ψ (by rw[Ae h2];decide)] at J;refine skh 7 [(4,.bv true)] rfl (kcG O ?_ (hw:=Y));refine ak 1 [(8,.bv true)] rfl (az (aA rfl nofun (fun _=>aD (ag [] rfl ⟨i+1,W,by dsimp only;omega,?_⟩))));dsimp only;rw[J];exact sl
 ·have hge:=geD hb hk1 hi;subst hge;rw[As];have hpl:(unF nm body ps).length≤1000000000:=by
   have h1:(unF nm body ps).length≤ps.length:=List.length_filter_le _ _;omega
  have O:=bR (unC (unF nm body ps)) nm (by omega);refine aM (sg rfl ?_);by_cases h1:nm∈unC (unF nm body ps)
  ·have eN:unN nm body ps=b6 (unC (unF nm body ps)++tfR body):=by unfold unN;rw[ξ h1]
   have eP:unP nm body ps=unF nm body ps++[(nm,.mk 2 0 (unN nm body ps) [])]:=by unfold unP;rw[ξ h1]
   have W:=aTf (unC (unF nm body ps)++tfR body) (by rw[Ab];have:=hc.1;omega) (fun k hk=>hI k (by rw[Ab] at hk;exact hk));rw[←eN] at W;rw[eP] at hS;have hv:=aV1 (unN nm body ps);rw[Af h1] at O;generalize unN nm body ps=N at *;have hcl:=hc.1;generalize unF nm body ps=q at *;have hS2:aU Tryz.prog 28 [tyV body,.one (.c (.sl 1 ((q.map (·.1)).map bC++[bC nm]))),.one (.c (.sl 4 ((q.map (·.2)).map bH++[bH (.mk 2 0 N [])])))] [] (tyV b') []:=by
    have Y:bK ((q++[(nm,Ty.mk 2 0 N [])]).map (·.1))=.one (.c (.sl 1 ((q.map (·.1)).map bC++[bC nm]))):=by unfold bK;rw[A6,A6];rfl
    have e2:aZw ((q++[(nm,Ty.mk 2 0 N [])]).map (·.2))=.one (.c (.sl 4 ((q.map (·.2)).map bH++[bH (.mk 2 0 N [])]))):=by unfold aZw;rw[A6,A6];rfl
    rw[Y,e2] at hS;exact hS
   have hq1:((q.map (·.1)).map bC).length=q.length:=by rw[ζ,ζ]
   have hq2:((q.map (·.2)).map bH).length=q.length:=by rw[ζ,ζ]
   have hq3:((unC q).map bC).length=(unC q).length:=ζ _;have hq4:((tfR body).map bC).length=(tfR body).length:=ζ _;have hlt2:aU Tryz.prog 120 [.one (.c (.sl 1 ((unC q).map bC++(tfR body).map bC)))] [] (Go.AM.T N) []:=by
    have Y:bK (unC q++tfR body)=.one (.c (.sl 1 ((unC q).map bC++(tfR body).map bC))):=by unfold bK;rw[A6]
    rw[Y] at W;exact W
   refine a8 (sk 2 rfl (kc O ?_));refine az (aA rfl (fun _=>skh 3 [(2,.fz)] rfl (kc hlt2 ?_)) nofun);refine kz 1 rfl (aE mixed (ak 7 [(3,.all)] rfl (kc hv ?_)));refine ak 4 [(8,.all)] rfl (az (AWp.sub (Sub.freeze (id:=600) rfl) (AWp.sub (Sub.freeze (id:=601) rfl) ?_)));refine sk 4 rfl (kc hS2 ?_);refine kc Z ?_;exact kz 1 rfl (aF (rtC trw))
  ·have eN:unN nm body ps=nm:=by unfold unN;rw[ψ h1]
   have eP:unP nm body ps=unF nm body ps:=by unfold unP;rw[ψ h1]
   rw[eP] at hS;rw[eN] at Z ⊢;rw[Ae h1] at O;have hcl:=hc.1;generalize unF nm body ps=q at *;have hq1:((q.map (·.1)).map bC).length=q.length:=by rw[ζ,ζ]
   have hq2:((q.map (·.2)).map bH).length=q.length:=by rw[ζ,ζ]
   refine a8 (sk 2 rfl (kc O ?_));refine az (aA rfl nofun (fun _=>aD (sk 4 rfl (kc hS ?_))));refine kc Z ?_;exact kz 1 rfl (aF (rtC trw))
theorem wM (s:Str):∀(l:List Str) (k:Int),(∃i:Nat,aJz s l k=k+i∧l[i]?=some s)∨(¬s∈l∧aJz s l k= -1)
 | [],k=>.inr ⟨by simp,rfl⟩
 | x::l,k=>by
  rw[aJz];split
  ·rename_i h;subst h;exact .inl ⟨0,by simp,rfl⟩
  ·rename_i h;rcases wM s l (k+1) with⟨i,h1,h2⟩ | ⟨h1,h2⟩
   ·exact .inl ⟨i+1,by rw[h1];omega,by simpa using h2⟩
   ·exact .inr ⟨by simp[h,h1],h2⟩
theorem aLd {f:Int}{s:Str}{o:List Str}{x y:Str}(h:y∈o):y∈iT f s o x:=by
 unfold iT;split
 ·exact χ.2 (.inl h)
 ·exact h
theorem rH {f:Int}{s:Str}:∀{l o:List Str}{y:Str},y∈o→y∈vK f s o l
 | [],_,_,h=>h
 | x::l,o,_,h=>rH (l:=l) (o:=iT f s o x) (aLd h)
theorem oH {f:Int}{s:Str}:∀{l o:List Str}{y:Str},y∈l→(¬f=5∨¬y=s)→y∈vK f s o l
 | x::l,o,y,h,hf=>by
  rcases Ah.1 h with rfl | h
  ·refine rH (l:=l) (o:=iT f s o y) ?_;unfold iT;by_cases q:y∈o
   ·rw[ψ (fun h=>h.1 q)];exact q
   ·rw[ξ ⟨q,hf⟩];simp
  ·exact oH (l:=l) (o:=iT f s o x) h hf
theorem a0u {n:Int}{nm:Str}{body:Ty}{x:Str}(h:x∈tfR body) (hx:¬x=nm):x∈tfR (.mk 5 n nm [body]):=by
 rw[tfR,ψ (by decide),pT,pT];exact oH h (.inr hx)
theorem aWs {n:Int}{s:Str}{a b:Ty}{x:Str}(h:x∈tfR a):x∈tfR (.mk 4 n s [a,b]):=by
 rw[tfR,ψ (by decide),pT,pT,pT];exact rH (oH h (.inl (by decide)))
theorem aWr {n:Int}{s:Str}{a b:Ty}{x:Str}(h:x∈tfR b):x∈tfR (.mk 4 n s [a,b]):=by
 rw[tfR,ψ (by decide),pT,pT,pT];exact oH h (.inl (by decide))
theorem aEk (n:Nat) (h:n≤540000000000):(bQ n).length≤21:=by
 unfold bQ;have:=zG (n/26) (by omega);split
 ·simp
 ·simp;omega
theorem kI (l:List Str) (h:l.length≤540000000000):(b6 l).length≤21:=aEk _ (le_trans (uA l) h)
end Go.Proofs.YtglfogjcijokpaaGreatDoor
namespace Go.AM
open Go
theorem rZ {α:Type}:∀(a b:List (Nat×α)) (i:Nat),look (a++b) i=match look a i with | some x=>some x | none=>look b i
 | [],_,_=>rfl
 | (k,x)::a,b,i=>by
  simp only[A9,look];cases Nat.beq i k
  ·simpa using rZ a b i
  ·rfl
theorem jA:∀(a b:List (Nat×AObj)),dO (a++b)=dO a++dO b
 | [],_=>rfl
 | (k,o)::a,b=>by simp only[A9,dO,jA a b,A0]
theorem eJ.app {α:Type}{p:α→Prop}:∀{a b:List α},eJ p a→eJ p b→eJ p (a++b)
 | [],_,_,h=>h
 | _::_,_,h,k=>⟨h.1,eJ.app h.2 k⟩
theorem gG:∀{l:List Nat},l.Nodup→distinct l=true
 | [],_=>rfl
 | x::l,h=>by
  obtain⟨h1,h2⟩:=Bt.1 h;simp only[distinct,gG h2,Bool.and_true];simpa using h1
theorem eX {a b:List Nat}(h:∀x∈a,x∈b):subset a b=true:=by
 simp only[subset,A5];exact fun x hx=>by simpa using h x hx
theorem aU.row {P:Program}{f:FuncId}{args:List V}{hin hin' hout hout':List (Nat×AObj)}{res:V}(h:aU P f args hin res hout) (h1:look hin'=look hin) (h2:look hout'=look hout):aU P f args hin' res hout':=by
 unfold aU at h ⊢;rw[h1,h2];exact h
section
variable {P:Program}{n:Nat}
theorem Sub.ownCellR {kf:List Nat}{st:St}{x k id tv:Nat}{cells:List R}(te es:Nat) (h:st.h x=some (.var tv cells)) (hk:cells[k]?=some (.c .nl)) (hid:st.h id=none):
  Sub kf ⟨st.e,upd (upd st.h id (some (.rarr te es []))) x (some (.var tv (cells.set k (.ra id 0 0 0)))),st.d⟩ st:=by
 intro G n S μ a w _ hs;obtain⟨hi,hE⟩:=hs.inv.emptyR te es hid;have aa:x≠id:=fun e=>by subst e;rw[h] at hid;cases hid
 have hx:upd st.h id (some (.rarr te es [])) x=some (.var tv cells):=by rw[aS _ _ _ aa];exact h
 obtain⟨b,vs,g1,g2,g3,g4⟩:=hi.obj x _ hx
 have J:Evolve S (upd μ id none) (upd st.h id (some (.rarr te es []))) S (upd μ id none) (upd (upd st.h id (some (.rarr te es []))) x (some (.var tv (cells.set k (.ra id 0 0 0))))):=⟨S.le_refl,fun j y I=>by
  by_cases q:j=x
  ·subst q;rw[hx] at I;cases I;exact⟨_,aI _ _ _,by simp[AObj.succ]⟩
  ·exact⟨y,by rw[aS _ _ _ q];exact I,y.succ_refl rfl⟩⟩
 have hold:∀j y,upd (upd st.h id (some (.rarr te es []))) x (some (.var tv (cells.set k (.ra id 0 0 0)))) j=some y→∃y',upd st.h id (some (.rarr te es [])) j=some y':=fun j y I=>by
  by_cases q:j=x
  ·subst q;exact⟨_,hx⟩
  ·rw[aS _ _ _ q] at I;exact⟨_,I⟩
 refine⟨S,upd μ id none,⟨⟨hi.holds,fun j y I=>?_,fun i j y y' b c c' O I hm hm'=>?_,fun i y b c O hm=>?_,hi.frame,hi.sle,hi.sto,hi.evo.trans J,hi.fre⟩,hs.size,hs.defers.evolve (hE.trans J),fun s v e=>aZ.evolve (hE.trans J) v _ (hs.env s v e)⟩⟩
 ·by_cases q:j=x
  ·subst q;have W:some (AObj.var tv (cells.set k (.ra id 0 0 0)))=some y:=by rw[←I];exact(aI _ _ _).symm
   cases W;refine⟨b,vs,g1,g2,?_,g4⟩;have h3:=aW.evolve J _ _ g3;obtain⟨u,hu,Y⟩:=g3.get k _ hk;simp only[b9,Rep] at Y;have hkl:k<cells.length:=(τ.1 hk).1
   have Z:cells.set k (.ra id 0 0 0)=bX cells k [.ra id 0 0 0]:=by
    unfold bX;rw[Cj,ξ hkl];simp
   have hvl:=g3.length;have hvs:vs=bX vs k [u]:=by
    unfold bX;apply Bx;intro i;simp only[B6,Ab,At,Am,length_nil,Au,An];have hm:min k vs.length=k:=by omega
    rw[hm];by_cases c1:i<k
    ·simp[c1,show i<k+1 by omega]
    ·by_cases c2:i=k
     ·subst c2;simp[hu]
     ·simp[show ¬i<k+1 by omega,show k+1+(i-(k+1))=i by omega]
   rw[Z] at h3 ⊢;rw[hvs];refine pW h3 ?_;simp only[aW,b9];exact⟨u,[],rfl,⟨⟨_,_,_,Y⟩,.inr ⟨te,es,[],by rw[aS _ _ _ aa.symm];exact aI _ _ _,le_refl _,fun _=>⟨le_refl _,.inl ⟨aI _ _ _,rfl,Y⟩⟩⟩⟩,rfl⟩
  ·have W:upd st.h id (some (.rarr te es [])) j=some y:=by rw[←I];exact(aS _ _ _ q).symm
   exact(hi.obj j y W).evolve J rfl fun _ _ _=>⟨rfl,fun _=>rfl,rfl⟩
 ·obtain⟨_,h1⟩:=hold _ _ O;obtain⟨_,h2⟩:=hold _ _ I;exact hi.inj i j _ _ b c c' h1 h2 hm hm'
 ·obtain⟨_,h1⟩:=hold _ _ O;exact hi.own i _ b c h1 hm
theorem Sim.turnMap {G:Ctx}{n:Nat}{S:Sto}{μ:Mu}{st:St}{a:Act}{w:World}{id:Nat}{agg:Bool}{ents ents':List (List C)}(hs:Sim G n S μ st a w) (hid:st.h id=some (.map agg ents))
  (W:∃b es clk,μ id=some (b,0,0)∧w.heap[b]?=some (.map es clk)∧zZ S agg ents' es.toList∧aFg S b ents'):Sim G n S μ ⟨st.e,upd st.h id (some (.map agg ents')),st.d⟩ a w:=by
 have J:Evolve S μ st.h S μ (upd st.h id (some (.map agg ents'))):=⟨S.le_refl,fun j x q=>by
  by_cases I:j=id
  ·subst I;rw[hid] at q;cases q;exact⟨_,aI _ _ _,by simp[AObj.succ]⟩
  ·exact⟨x,by rw[aS _ _ _ I];exact q,x.succ_refl rfl⟩⟩
 have hold:∀j x,upd st.h id (some (.map agg ents')) j=some x→∃x',st.h j=some x':=fun j x q=>by
  by_cases I:j=id
  ·subst I;exact⟨_,hid⟩
  ·rw[aS _ _ _ I] at q;exact⟨_,q⟩
 refine⟨⟨hs.inv.holds,fun j x q=>?_,fun i j x x' b c c' hi q hm O=>?_,fun i x b c hi hm=>?_,hs.inv.frame,hs.inv.sle,hs.inv.sto,hs.inv.evo.trans J,hs.inv.fre⟩,hs.size,hs.defers.evolve J,fun t v ht=>aZ.evolve J v _ (hs.env t v ht)⟩
 ·have q:upd st.h id (some (.map agg ents')) j=some x:=q;by_cases I:j=id
  ·subst I;rw[aI] at q;cases q;exact W
  ·rw[aS _ _ _ I] at q;exact(hs.inv.obj j x q).evolve J rfl fun _ _ _=>⟨rfl,fun _=>rfl,rfl⟩
 ·obtain⟨_,h1⟩:=hold _ _ hi;obtain⟨_,h2⟩:=hold _ _ q;exact hs.inv.inj i j _ _ b c c' h1 h2 hm O
 ·obtain⟨_,h1⟩:=hold _ _ hi;exact hs.inv.own i _ b c h1 hm
theorem aNo {k:List UInt8}{vs:List C}:∀{l:List (List C)},iA l→iA (uT k vs l)
 | [],_=>by simp[uT,iA]
 | (.str s::us)::r,h=>by
  simp only[uT];simp only[iA] at h;split
  ·simpa [iA] using h
  ·simpa [iA] using aNo h
end
theorem Ole.varS {t:Nat}{l l':List R}(h:l=l'):Ole (fun i=>i) (.var t l) (.var t l'):=by subst h;exact .var (R.renL_id _).symm
structure TF (F:List (Nat×AObj)):Prop where
 far:∀p∈F,800≤p.1
 nodup:(F.map (·.1)).Nodup
 arr:∀p∈F,∃te es l z,p.2=.arr te es l z
theorem TF.refs {F:List (Nat×AObj)}(h:TF F):dO F=[]:=by
 have key:∀l:List (Nat×AObj),(∀p∈l,∃te es l z,p.2=.arr te es l z)→dO l=[]:=by
  intro l
  induction l with
  | nil=>intro _;rfl
  | cons p l I=>
   intro h;obtain⟨te,es,l',z,hp⟩:=h p (by simp);show p.2.refs++dO l=[];rw[I fun q J=>h q (by simp[J]),hp];rfl
 exact key F h.arr
theorem TF.ok {F:List (Nat×AObj)}(h:TF F):∀p∈F,p.2.live=true∧p.2.plain=true:=fun p hp=>by
 obtain⟨te,es,l,z,e⟩:=h.arr p hp;rw[e];exact⟨rfl,rfl⟩
def mkt (el:List (Nat×V)) (hl F:List (Nat×AObj)):St:=⟨look el,fun i=>match look hl i with | some x=>some x | none=>bif Nat.blt i 800 then none else look F i,[]⟩
theorem iU {α:Type}:∀{l:List (Nat×α)}{i:Nat},i∉l.map (·.1)→look l i=none
 | [],_,_=>rfl
 | (k,x)::l,i,h=>by
  simp only[Al,Ah,not_or] at h;simp only[look];have:Nat.beq i k=false:=by
   cases hb:Nat.beq i k with
   | false=>rfl
   | true=>exact absurd (Ac hb) h.1
  rw[this];simpa using iU h.2
theorem TF.near {F:List (Nat×AObj)}(q:TF F) {i:Nat}(h:i<800):look F i=none:=iU fun hm=>by
 obtain⟨p,hp,rfl⟩:=Ad.1 hm;have:=q.far p hp;omega
theorem aJ5 {i k:Nat}(h:i<k):Nat.blt i k=true:=Nat.ble_eq_true_of_le h
theorem aCu {i k:Nat}(h:k≤i):Nat.blt i k=false:=by
 cases hb:Nat.blt i k with
 | false=>rfl
 | true=>have:=Aq hb;omega
theorem aNr {el:List (Nat×V)}{hl F:List (Nat×AObj)}(q:TF F):mkt el hl F=mk el (hl++F):=by
 unfold mkt mk;congr 1;funext i;rw[rZ];cases look hl i with
 | some x=>rfl
 | none=>
  by_cases h:i<800
  ·simp only[aJ5 h,q.near h,Bn]
  ·simp only[aCu (Nat.le_of_not_lt h),Bs]
theorem qB {α:Type}:∀{l:List (Nat×α)},(l.map (·.1)).Nodup→∀p∈l,look l p.1=some p.2
 | (k,x)::l,h,p,hp=>by
  simp only[Al,Bt] at h;simp only[look];rcases Ah.1 hp with rfl | hp
  ·simp
  ·have q:p.1≠k:=fun e=>h.1 (e▸Ad.2 ⟨p,hp,rfl⟩)
   have:Nat.beq p.1 k=false:=by
    cases hb:Nat.beq p.1 k with
    | false=>rfl
    | true=>exact absurd (Ac hb) q
   rw[this];simpa using qB h.2 p hp
def FarEq (h:cK) (F:List (Nat×AObj)):Prop:=∀p∈F,h p.1=some p.2
theorem yF {hl:List (Nat×AObj)}(h:(hl.all fun p=>Nat.blt p.1 800)=true) {i:Nat}(hi:800≤i):look hl i=none:=iU fun hm=>by
 obtain⟨p,hp,rfl⟩:=Ad.1 hm;have:=Aq ((A5.1 h) p hp);omega
theorem FarEq.raw {hl F:List (Nat×AObj)}(q:TF F) (h:(hl.all fun p=>Nat.blt p.1 800)=true:=by rfl):FarEq (fun i=>match look hl i with | some x=>some x | none=>bif Nat.blt i 800 then none else look F i) F:=fun p hp=>by
 have h1:=q.far p hp;show(match look hl p.1 with | some x=>some x | none=>bif Nat.blt p.1 800 then none else look F p.1)=_;rw[yF h h1,aCu h1];exact qB q.nodup p hp
theorem FarEq.mkt {el:List (Nat×V)}{hl F:List (Nat×AObj)}(q:TF F) (h:(hl.all fun p=>Nat.blt p.1 800)=true:=by rfl):FarEq (mkt el hl F).h F:=FarEq.raw q h
theorem FarEq.upd {h:cK}{F:List (Nat×AObj)}{k:Nat}{x:Option AObj}(q:TF F) (hf:FarEq h F) (hk:Nat.blt k 800=true:=by rfl):FarEq (upd h k x) F:=fun p hp=>by
 have h1:=q.far p hp;have:=Aq hk;rw[aS _ _ _ (by omega)];exact hf p hp
theorem FarEq.updL {h:cK}{F:List (Nat×AObj)}{l:List (Nat×Option AObj)}(I:TF F) (hf:FarEq h F) (hk:(l.all fun p=>Nat.blt p.1 800)=true:=by rfl):FarEq (updL h l) F:=fun p hp=>by
 have h1:=I.far p hp;simp only[Go.AM.updL];have:look l p.1=none:=iU fun hm=>by
  obtain⟨q,J,e⟩:=Ad.1 hm;have:=Aq ((A5.1 hk) q J);omega
 rw[this];exact hf p hp
theorem wD {hl F:List (Nat×AObj)}(I:TF F) (h1:distinct (hl.map (·.1))=true) (h2:(hl.all fun p=>Nat.blt p.1 800)=true):((hl++F).map (·.1)).Nodup:=by
 rw[A6,C4];refine⟨dR h1,I.nodup,fun a ha b hb e=>?_⟩;subst e;obtain⟨p,hp,rfl⟩:=Ad.1 ha;obtain⟨q,J,e⟩:=Ad.1 hb;have:=Aq ((A5.1 h2) p hp);have:=I.far q J;omega
theorem oI {hl F:List (Nat×AObj)}(q:TF F) (h:∀x∈dO hl,x∈keys hl∨x∈keys F):∀x∈dO (hl++F),x∈keys (hl++F):=fun x hx=>by
 rw[jA,q.refs,A8] at hx;unfold keys at h ⊢;rw[A6,χ];exact h x hx
theorem Sub.tailT {kf:List Nat}{q:St}{el:List (Nat×V)}{hl F:List (Nat×AObj)}(σ:Nat→Nat) (I:TF F) (he:eJ (fun p=>q.e p.1=some (p.2.ren σ)) el) (hh:eJ (fun p=>∃o,q.h (σ p.1)=some o∧Ole σ o p.2) hl)
  (J:∀p∈F,∃o,q.h (σ p.1)=some o∧Ole σ o p.2) (hd:q.d=[]) (h1:∀x∈oL el,x∈keys hl∨x∈keys F) (h2:∀x∈dO hl,x∈keys hl∨x∈keys F) (h3:((hl++F).map fun p=>σ p.1).Nodup) (h4:∀i∈kf,(i∈keys hl∨i∈keys F)∧σ i=i):
  Sub kf (mkt el hl F) q:=by
 rw[aNr I];refine Sub.list σ he (eJ.app hh (eJ.of J)) ?_;have hk:∀x,(x∈keys hl∨x∈keys F)→x∈(hl++F).map (·.1):=fun x hx=>by rw[A6,χ];exact hx
 simp only[aZ1,ε];refine⟨⟨⟨⟨⟨eX fun x hx=>hk x (h1 x hx),eX (oI I h2)⟩,gG h3⟩,eX fun x hx=>hk x (h4 x hx).1⟩,A5.2 fun i hi=>by rw[(h4 i hi).2];simp⟩,by rw[hd];rfl⟩
theorem slT {kf:List Nat}{q:St}{el:List (Nat×V)}{hl F:List (Nat×AObj)}(I:TF F) (hf:FarEq q.h F) (h1:∀x∈oL el,x∈keys hl∨x∈keys F) (h2:∀x∈dO hl,x∈keys hl∨x∈keys F) (h4:∀i∈kf,i∈keys hl∨i∈keys F)
  (he:eJ (fun p=>q.e p.1=some (p.2.ren (fun i=>i))) el:=by repeat (first | exact trivial | refine⟨by first | rfl | exact congrArg some (V.ren_id _).symm,?_⟩))
  (hh:eJ (fun p=>∃o,q.h p.1=some o∧Ole (fun i=>i) o p.2) hl:=by repeat (first | exact trivial | refine⟨⟨_,rfl,by first | exact Go.AM.Ole.arr | exact Go.AM.Ole.var rfl | exact Go.AM.Ole.varS rfl | exact Go.AM.Ole.map | exact Go.AM.Ole.rarrS rfl⟩,?_⟩))
  (hd:q.d=[]:=by rfl) (h3:distinct (hl.map (·.1))=true:=by rfl) (h3':(hl.all fun p=>Nat.blt p.1 800)=true:=by rfl):Sub kf (mkt el hl F) q:=
 Sub.tailT (fun i=>i) I he hh (fun p hp=>⟨p.2,hf p hp,.refl_id (by intro e;have:=(I.ok p hp).1;rw[e] at this;cases this)⟩) hd h1 h2 (wD I h3 h3') fun i hi=>⟨h4 i hi,rfl⟩
section
variable {P:Program}{T:TT}
theorem uY {f:FuncId}{fn:Func}{c:Code}{n:Nat}{args:List V}{hl F hout:List (Nat×AObj)}{res:V}(q:TF F) (I:Tok P T) (hf:P.funcs[f]?=some fn) (hb:fn.body=some c) (hn:fn.ntmps=n) (hle:Nat.ble args.length n=true)
  (h:AWp none P n (keys (hl++F)) c (mkt (aZn 0 args) hl F) (fun ex st=>(ex=.normal∨ex=.ret)∧Fin T fn st (hl++F) res hout)):aU P f args (hl++F) res hout:=bL I hf hb hn hle (by rw[aNr q] at h;exact h)
theorem aEu {fn:Func}{st:St}{hin hl F:List (Nat×AObj)}{res:V}(q:TF F) (hf:FarEq st.h F) (hex:∃vs vs',ResV T st fn.results.toList vs∧Convs st.h vs vs'∧aUh vs'=res)
  (h1:∀x∈res.refs,x∈keys hl∨x∈keys F) (h2:∀x∈dO hl,x∈keys hl∨x∈keys F) (h4:∀i∈keys hin,i∈keys hl∨i∈keys F) (h5:∀p∈hin,p.2.plain=true)
  (hh:eJ (fun p=>∃o,st.h p.1=some o∧Ole (fun i=>i) o p.2) hl:=by repeat (first | exact trivial | refine⟨⟨_,rfl,by first | exact Go.AM.Ole.arr | exact Go.AM.Ole.var rfl | exact Go.AM.Ole.varS rfl | exact Go.AM.Ole.map | exact Go.AM.Ole.rarrS rfl⟩,?_⟩))
  (h3:distinct (hl.map (·.1))=true:=by rfl) (h3':(hl.all fun p=>Nat.blt p.1 800)=true:=by rfl) (I:(hl.all fun p=>p.2.plain)=true:=by rfl):Fin T fn st hin res (hl++F):=by
 refine⟨hex,eJ.app hh (eJ.of fun p hp=>⟨p.2,hf p hp,.refl_id (by intro e;have:=(q.ok p hp).1;rw[e] at this;cases this)⟩),?_⟩;have hk:∀x,(x∈keys hl∨x∈keys F)→x∈keys (hl++F):=fun x hx=>by unfold keys at *;rw[A6,χ];exact hx
 simp only[ε];refine⟨⟨⟨⟨⟨eX fun x hx=>hk x (h1 x hx),eX (oI q h2)⟩,gG (wD q h3 h3')⟩,eX fun x hx=>hk x (h4 x hx)⟩,A5.2 h5⟩,?_⟩;rw[all_append,ε];exact⟨I,A5.2 fun p hp=>(q.ok p hp).2⟩
end
theorem s6 {h:cK}{hl F:List (Nat×AObj)}(q:TF F):updL h (outs (hl++F))=fun i=>bif Nat.blt i 800 then updL h (outs hl) i else updL h (outs (hl++F)) i:=by
 funext i;by_cases hi:i<800
 ·rw[aJ5 hi,Bn,lW,lW,rZ,q.near hi];cases look hl i<;>rfl
 ·rw[aCu (Nat.le_of_not_lt hi),Bs]
theorem FarEq.outs {h:cK}{hl F:List (Nat×AObj)}(q:TF F) (hk:(hl.all fun p=>Nat.blt p.1 800)=true:=by rfl):FarEq (Go.AM.updL h (Go.AM.outs (hl++F))) F:=fun p hp=>by
 rw[lW,rZ,yF hk (q.far p hp),qB q.nodup p hp]
theorem FarEq.bif {h q:cK}{F:List (Nat×AObj)}(I:TF F) (hf:FarEq h F):FarEq (fun i=>bif Nat.blt i 800 then q i else h i) F:=fun p hp=>by
 show(bif Nat.blt p.1 800 then q p.1 else h p.1)=_;rw[aCu (I.far p hp)];exact hf p hp
theorem oB {args:List V}{hl F:List (Nat×AObj)}(q:TF F) (h1:∀x∈V.refsL args,x∈keys hl∨x∈keys F) (h2:∀x∈dO hl,x∈keys hl∨x∈keys F) (h3:(hl.all fun p=>p.2.live)=true:=by rfl):jJ args (hl++F)=true:=by
 have hk:∀x,(x∈keys hl∨x∈keys F)→x∈keys (hl++F):=fun x hx=>by unfold keys at *;rw[A6,χ];exact hx
 simp only[jJ,ε];refine⟨⟨eX fun x hx=>hk x (h1 x hx),eX (oI q h2)⟩,?_⟩;rw[all_append,ε];exact⟨h3,A5.2 fun p hp=>(q.ok p hp).1⟩
theorem FarEq.all {h:cK}{F:List (Nat×AObj)}(hf:FarEq h F):eJ (fun p=>h p.1=some p.2) F:=eJ.of hf
theorem aU.toR {P:Program}{f:FuncId}{args:List V}{id te es n:Nat}{elems:List (List C)}(h:aU P f args [] (.one (.hs id 0 n n)) [(id,.arr te es elems 0)]):aU P f args [] (.one (.ra id 0 n n)) [(id,.rarr te es (elems.map (·.map R.c)))]:=by
 intro S μ w vals Y Z;refine Calls.mono (h S μ w vals Y Z) ?_;rintro e w' ⟨S',μ',v,h1,h2,h3⟩;have key:∀{o:AObj} {j:Nat} {x:AObj},look [(id,o)] j=some x→j=id∧x=o:=by
  intro o j x q;simp only[look] at q;split at q
  ·rename_i hb;cases q;exact⟨Ac hb,rfl⟩
  ·cases q
 have hid:∀o:AObj,look [(id,o)] id=some o:=fun o=>by simp[look]
 have J:(elems.map (·.map R.c)).flatten=elems.flatten.map R.c:=by rw[List.map_flatten]
 refine⟨S',μ',v,h1,⟨h2.holds,fun j o q=>?_,fun i j o o' b c c' hi q _ _=>?_,fun i o b c hi hm=>?_,h2.frame,h2.sle,h2.sto,⟨h2.evo.le,fun j o q=>by cases q⟩,h2.fre⟩,?_⟩
 ·obtain⟨rfl,rfl⟩:=key q;obtain⟨g0,g⟩:=h2.obj j _ (hid _);refine⟨fun r hr=>?_,?_⟩
  ·obtain⟨r',O,rfl⟩:=Ad.1 hr;rw[ζ];exact g0 r' O
  ·rcases g with⟨g1,g2⟩ | ⟨b,base,cap,vs,g1,g2,g3,g4,g5,g6,g7,g8,g9⟩
   ·exact .inl ⟨g1,by rw[g2];rfl⟩
   ·refine .inr ⟨b,base,cap,vs,g1,g2,g3,by rw[ζ];exact g4,g5,?_,g7 rfl⟩;rw[J,ζ];exact g6.toR
 ·rw[(key hi).1,(key q).1]
 ·obtain⟨rfl,rfl⟩:=key hi;exact h2.own i _ b c (hid _) hm
 ·simp only[aZ,b9] at h3 ⊢;obtain⟨k0,k | ⟨te',es',el',fz',W,k2,k3⟩⟩:=h3
  ·rw[hid] at k;cases k
  ·rw[hid] at W;cases W;refine⟨k0,.inr ⟨te,es,_,hid _,by rw[ζ];exact k2,fun e=>?_⟩⟩;rw[ζ] at e;obtain⟨q1,I⟩:=k3 e;refine⟨q1,?_⟩;rcases I with⟨I,q3,q4⟩ | I
   ·exact .inl ⟨I,by rw[q3];rfl,q4⟩
   ·exact .inr I
structure GW (G F:List (Nat×AObj)):Prop where
 tf:TF F
 refs:∀x∈dO G,x∈keys G∨x∈keys F
 near:(G.all fun p=>Nat.blt p.1 800)=true
 plain:(G.all fun p=>p.2.plain)=true
theorem iP {α:Type}{a b:List (Nat×α)}{x:Nat}:x∈keys (a++b)↔x∈keys a∨x∈keys b:=by unfold keys;rw[A6,χ]
theorem GW.kf {G F:List (Nat×AObj)}:∀i∈keys (G++F),i∈keys G∨i∈keys F:=fun _ h=>iP.1 h
def Kn (ex G F:List (Nat×AObj)) (x:Nat):Prop:=x∈keys ex∨x∈keys G∨x∈keys F
theorem Kn.of {l:List Nat}{ex G F:List (Nat×AObj)}(h:subset l (keys ex++keys G)=true):∀x∈l,Kn ex G F x:=fun x hx=>by
 rcases χ.1 (bO h x hx) with h | h
 ·exact .inl h
 ·exact .inr (.inl h)
theorem Kn.app {a b:List Nat}{ex G F:List (Nat×AObj)}(h:∀x∈a,Kn ex G F x) (k:∀x∈b,Kn ex G F x):∀x∈a++b,Kn ex G F x:=fun x hx=>(χ.1 hx).elim (h x) (k x)
def GF (G F:List (Nat×AObj)) (l:List Nat):Prop:=∀x∈l,x∈keys G∨x∈keys F
theorem Kn.gf {l:List Nat}{ex G F:List (Nat×AObj)}(h:GF G F l):∀x∈l,Kn ex G F x:=fun x hx=>.inr (h x hx)
theorem GF.app {G F:List (Nat×AObj)}{a b:List Nat}(h:GF G F a) (k:GF G F b):GF G F (a++b):=fun x hx=>(χ.1 hx).elim (h x) (k x)
theorem Kn.nil {ex G F:List (Nat×AObj)}:∀x∈([]:List Nat),Kn ex G F x:=fun _ h=>by cases h
theorem aA2 {ex:List (Nat×AObj)}{p:Nat→Prop}(h:eJ (fun q=>∀x∈q.2.refs,p x) ex):∀x∈dO ex,p x:=by
 induction ex with
 | nil=>intro x hx;cases hx
 | cons q l I=>
  intro x hx;rcases χ.1 (show x∈q.2.refs++dO l from hx) with hx | hx
  ·exact h.1 x hx
  ·exact I h.2 x hx
theorem Kn.split {ex G F:List (Nat×AObj)}{x:Nat}(h:Kn ex G F x):x∈keys (ex++G)∨x∈keys F:=by
 rcases h with h | h | h
 ·exact .inl (iP.2 (.inl h))
 ·exact .inl (iP.2 (.inr h))
 ·exact .inr h
theorem GW.all {ex G F:List (Nat×AObj)}(W:GW G F) (h2:eJ (fun q=>∀x∈q.2.refs,Kn ex G F x) ex):∀x∈dO (ex++G),x∈keys (ex++G)∨x∈keys F:=fun x hx=>by
 rw[jA] at hx;rcases χ.1 hx with hx | hx
 ·exact(aA2 h2 x hx).split
 ·exact(W.refs x hx).imp (fun h=>iP.2 (.inr h)) id
theorem slG {kf:List Nat}{I:St}{el:List (Nat×V)}{ex G F:List (Nat×AObj)}(W:GW G F)
  (h4:∀i∈kf,i∈keys G∨i∈keys F:=by exact Go.AM.GW.kf)
  (hf:FarEq I.h F:=by repeat (first | exact Go.AM.FarEq.raw (by assumption) | (refine Go.AM.FarEq.updL (by assumption) ?_) | (refine Go.AM.FarEq.upd (by assumption) ?_) | (refine Go.AM.FarEq.hfz (by assumption) ?_)))
  (h1:∀x∈oL el,Kn ex G F x:=by exact Go.AM.Kn.of rfl)
  (h2:eJ (fun q=>∀x∈q.2.refs,Kn ex G F x) ex:=by repeat (first | exact trivial | refine⟨by first | exact Go.AM.Kn.of rfl | exact Go.AM.Kn.gf (by assumption),?_⟩))
  (he:eJ (fun p=>I.e p.1=some (p.2.ren (fun i=>i))) el:=by repeat (first | exact trivial | refine⟨by first | rfl | exact congrArg some (V.ren_id _).symm,?_⟩))
  (hh:eJ (fun p=>∃o,I.h p.1=some o∧Ole (fun i=>i) o p.2) (ex++G):=by repeat (first | exact trivial | refine⟨⟨_,rfl,by first | exact Go.AM.Ole.arr | exact Go.AM.Ole.var rfl | exact Go.AM.Ole.varS rfl | exact Go.AM.Ole.map | exact Go.AM.Ole.rarrS rfl⟩,?_⟩))
  (hd:I.d=[]:=by rfl) (h3:distinct ((ex++G).map (·.1))=true:=by rfl) (h3':((ex++G).all fun p=>Nat.blt p.1 800)=true:=by rfl):Sub kf (mkt el (ex++G) F) I:=
 slT W.tf hf (fun x hx=>(h1 x hx).split) (W.all h2) (fun i hi=>(h4 i hi).imp (fun h=>iP.2 (.inr h)) id) he hh hd h3 h3'
theorem rtG {T:TT}{fn:Func}{st:St}{G F:List (Nat×AObj)}{res:V}{t:Nat}(W:GW G F) (q:fn.results.toList=[.tmp t]:=by rfl) (I:st.e t=some res:=by rfl)
  (hf:FarEq st.h F:=by repeat (first | exact Go.AM.FarEq.raw (by assumption) | (refine Go.AM.FarEq.updL (by assumption) ?_) | (refine Go.AM.FarEq.upd (by assumption) ?_) | (refine Go.AM.FarEq.hfz (by assumption) ?_)))
  (h1:∀x∈res.refs,Kn [] G F x:=by exact Go.AM.Kn.of rfl)
  (hh:eJ (fun p=>∃o,st.h p.1=some o∧Ole (fun i=>i) o p.2) G:=by repeat (first | exact trivial | refine⟨⟨_,rfl,by first | exact Go.AM.Ole.arr | exact Go.AM.Ole.var rfl | exact Go.AM.Ole.varS rfl | exact Go.AM.Ole.map | exact Go.AM.Ole.rarrS rfl⟩,?_⟩))
  (h3:distinct (G.map (·.1))=true:=by rfl):(Exit.ret=.normal∨Exit.ret=.ret)∧Fin T fn st (G++F) res (G++F):=by
 refine⟨.inr rfl,aEu W.tf hf ⟨[res],[res],by rw[q];exact .tmp I .nil,.cons .refl .nil,rfl⟩ (fun x hx=>(h1 x hx).split) (fun x hx=>W.refs x hx) GW.kf (fun p hp=>?_) hh h3 W.near W.plain⟩;rcases χ.1 hp with hp | hp
 ·exact(A5.1 W.plain) p hp
 ·exact(W.tf.ok p hp).2
theorem kix {tr:Tr}{P:Program}{n:Nat}{ops:Array Oper}{draw:Bool}{k d:Nat}{st:St}{pre:REs}{Q:St→Prop}{o:Oper}{t te:TypeId}{i ei:TI}{x y:Operand}{id len sz j es q fz:Nat}{kk:IntKind}{elems:List (List C)}(hT:Tok P tr.flat)
  (hh:st.h id=some (.arr q es elems fz)) (hx:opv st x=some (.one (.hs id 0 len sz))) (J:sz=elems.length) (O:j<len)
  (hk:k9 P n ops draw (k+1) ⟨upd st.e d (some (.one (.ep id j 0 sz))),st.h,st.d⟩ ((⟨opr x++opr y,[id]⟩,⟨some (d,some (.one (.ep id j 0 sz))),[]⟩)::pre) Q)
  (hw:tr.wf=true) (ho:ops[k]?=some o:=by rfl) (hg:o.guard=none:=by rfl) (W:o.op=.indexAddr t x y:=by rfl) (hd:o.dst=some d:=by rfl) (Y:Nat.blt d n=true:=by rfl)
  (hi:tr.get t=some i:=by rfl) (Z:i.k=.sl te:=by rfl) (aa:tr.get te=some ei:=by rfl) (ab:ei.size=es:=by rfl) (hy:opv st y=some (I kk (j:Int)):=by rfl):k9 P n ops draw k st pre Q:=by
 have h:=w7 (P:=P) (n:=n) hT W hd (fU Y) (Tr.get_ok hw hi) Z (Tr.get_ok hw aa) ab hx hh J hy rfl O;rw[Ba] at h;exact k_ (g_ ho hg h) hk
theorem a7j {tr:Tr}{P:Program}{n:Nat}{ops:Array Oper}{draw:Bool}{k d:Nat}{st:St}{pre:REs}{Q:St→Prop}{o:Oper}{t te:TypeId}{i:TI}{x:Operand}{id off len sz es q fz:Nat}{elems:List (List C)}(Z:Tok P tr.flat)
  (hh:st.h id=some (.arr q es elems fz)) (hx:opv st x=some (.one (.hs id off len sz))) (J:sz=elems.length)
  (hk:k9 P n ops draw (k+1) ⟨upd st.e d (some (I .i64 (len:Int))),st.h,st.d⟩ ((⟨opr x,[id]⟩,⟨some (d,some (I .i64 (len:Int))),[]⟩)::pre) Q)
  (hw:tr.wf=true) (ho:ops[k]?=some o:=by rfl) (hg:o.guard=none:=by rfl) (O:o.op=.call { callee:=.builtin .len,args:= #[x],argTypes:= #[t] }:=by rfl) (hd:o.dst=some d:=by rfl) (W:Nat.blt d n=true:=by rfl)
  (hi:tr.get t=some i:=by rfl) (Y:i.k=.sl te:=by rfl):k9 P n ops draw k st pre Q:=
 k_ (g_ ho hg (aG1 (P:=P) (n:=n) Z O hd (fU W) (Tr.get_ok hw hi) Y hx hh J)) hk
def fzH (id:Nat) (z:Fz):List (Nat×AObj)→List (Nat×AObj)
 | []=>[]
 | (k,o)::l=>(k,o.fz id z)::fzH id z l
theorem aHt {id:Nat}{z:Fz}:∀{l:List (Nat×V)}{t:Nat},look (fzE id z l) t=(look l t).map (V.fz id z)
 | [],_=>rfl
 | (k,v)::l,t=>by
  simp only[fzE,look];cases Nat.beq t k
  ·simpa using aHt (l:=l) (t:=t)
  ·rfl
theorem yR {id:Nat}{z:Fz}:∀{l:List (Nat×AObj)}{t:Nat},look (fzH id z l) t=(look l t).map (AObj.fz id z)
 | [],_=>rfl
 | (k,v)::l,t=>by
  simp only[fzH,look];cases Nat.beq t k
  ·simpa using yR (l:=l) (t:=t)
  ·rfl
section
variable {id n es:Nat}{l:List R}
mutual
theorem R.fz_far:∀(r:R),id∉r.refs→r.fz id (.ra n es l)=r
 | .c _,_=>rfl
 | .hs ..,_=>rfl
 | .tl ..,_=>rfl
 | .vp ..,_=>rfl
 | .ep ..,_=>rfl
 | .mr _,_=>rfl
 | .clo f caps,h=>by simp only[R.fz,R.fzL_far caps (by simpa only[R.refs] using h)]
 | .mth f x,h=>by simp only[R.fz,R.fz_far x (by simpa only[R.refs] using h)]
 | .yl _,_=>rfl
 | .ra j off len sz,h=>by
  have q:j≠id:=fun e=>h (by simp[R.refs,e])
  have hb:Nat.beq j id=false:=by
   cases hb:Nat.beq j id with
   | false=>rfl
   | true=>exact absurd (Ac hb) q
  simp[R.fz,hb]
 | .rp j i fo sz,h=>by
  have q:j≠id:=fun e=>h (by simp[R.refs,e])
  have hb:Nat.beq j id=false:=by
   cases hb:Nat.beq j id with
   | false=>rfl
   | true=>exact absurd (Ac hb) q
  simp[R.fz,hb]
 | .ras m e r,h=>by simp only[R.fz,R.fzL_far r (by simpa only[R.refs] using h)]
 | .pas r,h=>by simp only[R.fz,R.fzL_far r (by simpa only[R.refs] using h)]
theorem R.fzL_far:∀(r:List R),id∉R.refsL r→R.fzL id (.ra n es l) r=r
 | [],_=>rfl
 | r::rs,h=>by
  simp only[R.refsL,χ,not_or] at h;simp only[R.fzL,R.fz_far r h.1,R.fzL_far rs h.2]
end
theorem u6:∀(r:List (List R)),id∉bZ r→fzR id (.ra n es l) r=r
 | [],_=>rfl
 | r::rs,h=>by
  simp only[bZ,χ,not_or] at h;simp only[fzR,R.fzL_far r h.1,u6 rs h.2]
theorem aSv {m:Nat}(h:m=n):R.fz id (.ra n es l) (.ra id 0 m m)=.ras n es l:=by subst h;simp[R.fz]
end
theorem Sub.fraT {kf:List Nat}{el:List (Nat×V)}{rest F:List (Nat×AObj)}{id te es:Nat}{rows:List (List R)}(hF:TF F) (Y:id∉kf) (Z:id∉bZ rows) (I:Nat.blt id 800=true:=by rfl) (aa:distinct (id::rest.map (·.1))=true:=by rfl):
  Sub kf (mkt (fzE id (.ra rows.length es rows.flatten) el) (fzH id (.ra rows.length es rows.flatten) rest) F) (mkt el ((id,.rarr te es rows)::rest) F):=by
 have J:id∉R.refsL rows.flatten:=by
  have key:∀l:List (List R),R.refsL l.flatten=bZ l:=by
   intro l
   induction l with
   | nil=>rfl
   | cons r l ih=>rw[Bk,R.refsL_append,ih];rfl
  rw[key];exact Z
 have h:=Sub.fra (kf:=kf) (st:=mkt el ((id,.rarr te es rows)::rest) F) (id:=id) (te:=te) (es:=es) (elems:=rows) (by
  show(match look ((id,AObj.rarr te es rows)::rest) id with | some x=>some x | none=>_)=_
  rw[dI]) Y (R.fzL_far _ J) J
 have e:(⟨fun t=>((mkt el ((id,.rarr te es rows)::rest) F).e t).map (V.fz id (.ra rows.length es rows.flatten)),hfz id (.ra rows.length es rows.flatten) (mkt el ((id,.rarr te es rows)::rest) F).h,(mkt el ((id,.rarr te es rows)::rest) F).d⟩:St)=
   mkt (fzE id (.ra rows.length es rows.flatten) el) (fzH id (.ra rows.length es rows.flatten) rest) F:=by
  unfold mkt;congr 1
  ·funext t;exact aHt.symm
  ·funext j;have q:=dR aa;simp only[Bt] at q;have hid:=Aq I;by_cases O:j=id
   ·subst O;rw[aVm,yR,iU q.1,C5];simp only[I,Bn]
   ·rw[kH O];show Option.map _ (match look ((id,AObj.rarr te es rows)::rest) j with | some x=>some x | none=>bif Nat.blt j 800 then none else look F j)=_;rw[dW O,yR];cases look rest j with
    | some x=>rfl
    | none=>
     simp only[C5];by_cases h8:j<800
     ·simp only[aJ5 h8,Bn,C5]
     ·simp only[aCu (Nat.le_of_not_lt h8),Bs];cases hl:look F j with
      | none=>rfl
      | some o=>
       obtain⟨te',es',l',z',W⟩:=hF.arr _ (c8 hl);have W:o=_:=W;subst W;rfl
 rw[e] at h;exact h
end Go.AM
namespace Go.Proofs.YtglfogjcijokpaaGreatDoor
open Go Go.AM
set_option maxRecDepth 20000
def eD (f n:Int) (s:Str) (t:Ty) (nk nb na:Nat):List R:=[.c (.int .i64 f),.c (.int .i64 n),.c (.str s),.c (.int .i64 t.form),.c (.int .i64 t.n),.c (.str t.name),.c (.sl 4 (iW t)),.hs 702 0 nk nk,.hs 701 0 nb nb,.ra 703 0 na na]
def dN (k:Nat) (a:Alt):List R:=[.c (.int .i64 a.form),.c (.int .i64 a.n),.c (.str a.name),.hs (k+800) 0 a.vars.length a.vars.length]++(aB a.body).map R.c
def aY:Nat→List Alt→List (List R)
 | _,[]=>[]
 | k,a::l=>dN k a::aY (k+1) l
def fam:Nat→List Alt→List (Nat×AObj)
 | _,[]=>[]
 | k,a::l=>(k+800,.arr 9 1 (a.vars.map bC) 0)::fam (k+1) l
theorem nF:∀{l:List Alt}{k i:Nat}{a:Alt},l[i]?=some a→(aY k l)[i]?=some (dN (k+i) a)
 | b::l,k,0,a,h=>by simp at h;subst h;rfl
 | b::l,k,i+1,a,h=>by
  simp only[aY,Bg];rw[nF (by simpa using h),show k+1+i=k+(i+1) by omega]
theorem dY:∀{l:List Alt}{k:Nat},(aY k l).length=l.length
 | [],_=>rfl
 | _::l,k=>by simp[aY,dY (l:=l)]
theorem aB1:∀{l:List Alt}{k i:Nat}{a:Alt},l[i]?=some a→(k+i+800,AObj.arr 9 1 (a.vars.map bC) 0)∈fam k l
 | b::l,k,0,a,h=>by simp at h;subst h;exact φ
 | b::l,k,i+1,a,h=>by
  have:=aB1 (l:=l) (k:=k+1) (by simpa using h);rw[show k+1+i=k+(i+1) by omega] at this;exact η _ this
theorem oA:∀{l:List Alt}{k:Nat}{p:Nat×AObj},p∈fam k l→∃i a,l[i]?=some a∧p=(k+i+800,AObj.arr 9 1 (a.vars.map bC) 0)
 | b::l,k,p,h=>by
  rcases Ah.1 h with rfl | h
  ·exact⟨0,b,rfl,rfl⟩
  ·obtain⟨i,a,h1,h2⟩:=oA h;exact⟨i+1,a,h1,by rw[h2,show k+1+i=k+(i+1) by omega]⟩
theorem mL:∀{l:List Alt}{k:Nat},((fam k l).map (·.1)).Nodup
 | [],_=>nodup_nil
 | a::l,k=>by
  simp only[fam,Al];refine Bt.2 ⟨fun h=>?_,mL⟩;obtain⟨p,hp,e⟩:=Ad.1 h;obtain⟨i,b,_,rfl⟩:=oA hp;simp only at e;omega
theorem fT {l:List Alt}{k:Nat}:TF (fam k l):=⟨fun p hp=>by obtain⟨i,a,_,rfl⟩:=oA hp;simp only;omega,mL,fun p hp=>by obtain⟨i,a,_,rfl⟩:=oA hp;exact⟨_,_,_,_,rfl⟩⟩
theorem aO0 {l:List Alt}{k i:Nat}(h:i<l.length):k+i+800∈keys (fam k l):=by
 obtain⟨a,ha⟩:=aL h;exact Ad.2 ⟨_,aB1 ha,rfl⟩
theorem r4 {k:Nat}{a:Alt}{x:Nat}(h:x∈R.refsL (dN k a)):x=k+800:=by
 unfold dN aB at h;simpa [R.refsL,R.refs] using h
theorem cZ:∀{l:List Alt}{k:Nat},∀x∈bZ (aY k l),x∈keys (fam k l)
 | [],_,x,h=>by simp[aY,bZ] at h
 | a::l,k,x,h=>by
  rcases χ.1 (show x∈R.refsL (dN k a)++bZ (aY (k+1) l) from h) with h | h
  ·rw[r4 h];exact φ
  ·exact η _ (cZ x h)
def gHl (f n:Int) (s:Str) (t:Ty) (ks:List Core) (bs:List Bind) (al:List Alt):List (Nat×AObj):=
 [(700,.var 34 (eD f n s t ks.length bs.length al.length)),(701,.arr 69 15 (aT bs) 0),(702,.arr 34 10 (aR ks) 0),(703,.rarr 71 14 (aY 0 al))]
theorem s5 {f n:Int}{s:Str}{t:Ty}{ks:List Core}{bs:List Bind}{al:List Alt}:∀x∈dO (gHl f n s t ks bs al),x∈keys (gHl f n s t ks bs al)∨x∈keys (fam 0 al):=fun x hx=>by
 simp only[gHl,dO,AObj.refs,eD,R.refsL,R.refs,A4,A8,χ,Ah,Ca,C8] at hx;rcases hx with(rfl | rfl | rfl) | hx
 ·exact .inl (by simp[gHl,keys])
 ·exact .inl (by simp[gHl,keys])
 ·exact .inl (by simp[gHl,keys])
 ·exact .inr (cZ x hx)
theorem gW {f n:Int}{s:Str}{t:Ty}{ks:List Core}{bs:List Bind}{al:List Alt}:GW (gHl f n s t ks bs al) (fam 0 al):=⟨fT,s5,rfl,rfl⟩
def gNm:Bool→List (List R)
 | true=>[[.vp 700 2]]
 | false=>[]
def gPo (rows:List (List R)):AObj:=.rarr 91 1 rows
def gNo (rows:List (List R)):AObj:=.rarr 133 1 rows
def rgR (f:Nat→List R) (k:Nat):List (List R):=(List.range k).map f
theorem rM (f:Nat→List R) (k:Nat):rgR f (k+1)=rgR f k++[f k]:=by unfold rgR;rw[List.range_succ,A6];rfl
theorem gU (f:Nat→List R) (k:Nat):(rgR f k).length=k:=by simp[rgR]
theorem mY {f:Nat→List R}{L:Nat→Prop}(h:∀j,∀x∈R.refsL (f j),L x) (k:Nat):∀x∈bZ (rgR f k),L x:=by
 have key:∀rows:List (List R),(∀r∈rows,∀x∈R.refsL r,L x)→∀x∈bZ rows,L x:=by
  intro rows
  induction rows with
  | nil=>intro _ x hx;simp[bZ] at hx
  | cons r rows J=>
   intro I x hx;rcases χ.1 (show x∈R.refsL r++bZ rows from hx) with hx | hx
   ·exact I r φ x hx
   ·exact J (fun q O=>I q (η _ O)) x hx
 refine key _ fun r I=>?_
 obtain⟨j,_,rfl⟩:=Ad.1 I;exact h j
def nR (b:Bool) (nb i:Nat):List (List R):=gNm b++rgR (fun j=>[.ep 701 j 0 nb]) i
def pR (nk nb i:Nat):List (List R):=rgR (fun j=>[.ep 702 j 0 nk]) nk++rgR (fun j=>[.ep 701 j 5 nb]) i
def vR (k nv i:Nat):List (List R):=rgR (fun j=>[.ep (k+800) j 0 nv]) i
def mV (na k:Nat) (a:Alt):List R:=[.ras (vR k a.vars.length a.vars.length).length 1 (vR k a.vars.length a.vars.length).flatten,.ras 1 1 [.rp 703 k 4 na]]
def aIx (na:Nat):Nat→List Alt→List (List R)
 | _,[]=>[]
 | k,a::l=>mV na k a::aIx na (k+1) l
def qD (b:Bool) (nk nb:Nat):List R:=[.ras (nR b nb nb).length 1 (nR b nb nb).flatten,.ras (pR nk nb nb).length 1 (pR nk nb nb).flatten]
def bY (b:Bool) (nk nb na:Nat) (l:List Alt):List (List R):=qD b nk nb::aIx na 0 l
theorem zV {q:Nat}:∀{l:List Alt}{k:Nat},(aIx q k l).length=l.length
 | [],_=>rfl
 | _::l,k=>by simp[aIx,zV (l:=l)]
theorem aC7 {q:Nat}:∀{l:List Alt}{k i:Nat}{a:Alt},l[i]?=some a→aIx q k (l.take (i+1))=aIx q k (l.take i)++[mV q (k+i) a]
 | b::l,k,0,a,h=>by simp at h;subst h;simp[aIx]
 | b::l,k,i+1,a,h=>by
  simp only[A1,aIx,A9];rw[aC7 (l:=l) (k:=k+1) (by simpa using h),show k+1+i=k+(i+1) by omega]
theorem aP9 {q:Nat}:∀{l:List Alt}{k i:Nat}{a:Alt},l[i]?=some a→(aIx q k l)[i]?=some (mV q (k+i) a)
 | b::l,k,0,a,h=>by simp at h;subst h;rfl
 | b::l,k,i+1,a,h=>by
  simp only[aIx,Bg];rw[aP9 (by simpa using h),show k+1+i=k+(i+1) by omega]
theorem dE:∀{rows:List (List R)},R.refsL rows.flatten=bZ rows
 | []=>rfl
 | r::rows=>by
  rw[Bk,R.refsL_append,dE];rfl
end Go.Proofs.YtglfogjcijokpaaGreatDoor
