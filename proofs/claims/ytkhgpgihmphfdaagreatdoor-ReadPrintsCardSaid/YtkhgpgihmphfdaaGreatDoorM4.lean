/-
  Texts Am17 to Ax5 in one.
-/
import Derived.Test.YtkhgpgihmphfdaaGreatDoorM3
import Derived.ProofKit
import Derived.SizedLaws
import Derived.OpenShut
import Derived.Carry
import Derived.Laws.BytesArg
open List (append_assoc append_nil drop_append_of_le_length drop_drop drop_take drop_zero eq_nil_of_length_eq_zero flatten_append flatten_cons length_append length_cons length_drop length_nil length_take map_cons map_nil map_toArray mem_append mem_cons mem_of_mem_take size_toArray take_append_of_le_length take_left' take_of_length_le take_take)
open Nat (add_assoc add_mul add_zero beq_refl eq_of_beq_eq_true le_of_ble_eq_true le_refl le_trans min_eq_left mul_le_mul_left mul_le_mul_right sub_zero zero_add zero_le zero_mul)
namespace Go.AM
open Go
section
variable {P:Program}{n:Nat}{o:Oper}{st:St}{d:Nat}{T:TT}
theorem qI {α:Type}(f:Nat→Option α) (k:Nat) (x y:Option α):upd (upd f k x) k y=upd f k y:=by
 funext i;simp only[upd];split<;>rfl
theorem aJ2 {t e:TypeId}{i q:TI}{x y:Operand}{rows:List (List C)}{O:V}{ids:List Nat}(id:Nat) (hT:Tok P T) (ho:o.op=.call { callee:=.builtin .append,args:= #[x,y],argTypes:= #[t,t] }) (hd:o.dst=some d) (U:d<n)
  (hi:T[t]?=some (some i)) (hk:i.k=.sl e) (Y:T[e]?=some (some q)) (aa:Nat.ble 1 q.size=true) (ab:Nat.ble 1 q.bytes=true)
  (hx:opv st x=some (.one (.c .nl))) (hid:st.h id=none) (hy:opv st y=some O) (u:Src st q.size ids O rows)
  (B:rows.length*q.bytes≤140737488355328):
  Step P n o st ⟨opr x++opr y,id::ids⟩ ⟨some (d,some (.one (.hs id 0 rows.length rows.length))),[(id,some (.arr e q.size rows 0))]⟩:=by
 intro st' ha G S μ a w K Q hs ac;have I:st'.h id=none:=by rw[ha.2 id (by simp),hid]
 obtain⟨ad,J⟩:=hs.inv.empty e q.size I;have E:Sim G n S (upd μ id none) ⟨st'.e,upd st'.h id (some (.arr e q.size [] 0)),st'.d⟩ a w:=⟨ad,hs.size,hs.defers.evolve J,fun t v e=>aS.evolve J v _ (hs.env t v e)⟩
 have A:=aO hs hx fun t ht=>ha.1 t (by simp[ht])
 have ae:=aO hs hy fun t ht=>ha.1 t (by simp[ht])
 simp only[aS,aZ,Rep] at A;have M:aS S (upd μ id none) (upd st'.h id (some (.arr e q.size [] 0))) (.one (.hs id 0 0 0)) (a.eval x):=by
  simp only[aS,aZ];exact⟨⟨_,_,_,A⟩,.inr ⟨e,q.size,[],0,aN _ _ _,le_refl _,fun _=>⟨le_refl _,.inl ⟨aN _ _ _,rfl,A⟩⟩⟩⟩
 have af:∀j∈ids,j≠id:=by
  intro j hj e;subst e;cases u with
  | hs h1 _ _=>simp at hj;subst hj;rw[hid] at h1;cases h1
  | all h1 _=>simp at hj;subst hj;rw[hid] at h1;cases h1
  | sl=>simp at hj
  | nl=>simp at hj
  | sn=>simp at hj
 have:=aB1 (fz:=0) (elems:=[]) (id:=id) hT ho hi hk Y aa ab rfl (by simpa using B) (aN _ _ _) E M (aS.evolve J _ _ ae) u fun j hj=>by
  show upd st'.h id (some (.arr e q.size [] 0)) j=_;rw[bJ _ _ _ (af j hj)];exact ha.2 j (by simp[hj])
 refine aKz hd U (by simp) _ (aN _ _ _) E (fun S' μ' a' w' h=>ac S' μ' a' w' ?_) this;have e1:Eff.apply ⟨some (d,some (.one (.hs id 0 (([]:List (List C)).length+rows.length) (([]:List (List C)).length+rows.length)))),[(id,some (.arr e q.size ([]++rows) (if 0=0 then 0 else 1)))]⟩ ⟨st'.e,upd st'.h id (some (.arr e q.size [] 0)),st'.d⟩
   =Eff.apply ⟨some (d,some (.one (.hs id 0 rows.length rows.length))),[(id,some (.arr e q.size rows 0))]⟩ st':=by
  unfold Eff.apply;rw[cE,cE,qI];simp
 rw[e1] at h;exact h
theorem Sub.conv {kf ids:List Nat}{t:Nat}{v v':V}(h:st.e t=some v) (hc:Conv st.h ids v v'):Sub kf ⟨upd st.e t (some v'),st.h,st.d⟩ st:=by
 intro G n S μ a w _ hs;refine⟨S,μ,⟨hs.inv,hs.size,hs.defers,fun s u e=>?_⟩⟩;by_cases q:s=t
 ·subst q;have:some v'=some u:=by rw[←e];exact(aN _ _ _).symm
  cases this;exact hc.rel (fun _ _=>rfl) hs.inv.obj (hs.env s _ h)
 ·exact hs.env s u (by rw[←e];exact(bJ _ _ _ q).symm)
theorem aOj {t e:TypeId}{i q:TI}{len:Nat}{parts:Array (Nat×Operand)}{ids:List Nat}{rows:List (List C)}(id:Nat) (hT:Tok P T) (ho:o.op=.buildSlice t len parts) (hd:o.dst=some d) (U:d<n) (hi:T[t]?=some (some i)) (hk:i.k=.sl e) (Y:T[e]?=some (some q)) (y:RowsV st q.size 0 ids parts.toList rows) (hlen:Nat.beq len parts.size=true) (E:Nat.ble (len*q.size) 16777216=true) (M:Nat.ble len 16777216=true) (hid:st.h id=none):
  Step P n o st ⟨gD parts.toList,id::ids⟩ ⟨some (d,some (.one (.c (.sl q.size rows)))),[(id,some (.arr e q.size rows 2))]⟩:=by
 intro st' ha G S μ a w K Q hs aa;refine aJm id hT ho hd U hi hk Y y hlen E M hid st' ha G S μ a w K Q hs fun S1 μ1 O w1 h1=>?_
 have A:len=rows.length:=by rw[y.lengths];simpa using τ hlen
 have hh:(Eff.apply ⟨some (d,some (.one (.hs id 0 len len))),[(id,some (.arr e q.size rows 0))]⟩ st').h id=some (.arr e q.size rows 0):=by
  show jT st'.h [(id,some (.arr e q.size rows 0))] id=_;rw[cE,aN]
 obtain⟨S2,J,h2⟩:=h1.freeze hh;refine aa S2 J O w1 ⟨?_,h2.size,?_,fun s u e1=>?_⟩
 ·have:=h2.inv;show Inv G S2 J (jT st'.h [(id,some (.arr e q.size rows 2))]) w1;rw[cE];have B:upd (Eff.apply ⟨some (d,some (.one (.hs id 0 len len))),[(id,some (.arr e q.size rows 0))]⟩ st').h id (some (.arr e q.size rows 2))=upd st'.h id (some (.arr e q.size rows 2)):=by
   show upd (jT st'.h [(id,some (.arr e q.size rows 0))]) id _=_;rw[cE,qI]
  rw[←B];exact this
 ·have:=h2.defers;show Marks _ J (jT st'.h [(id,some (.arr e q.size rows 2))]) st'.d O.defers;rw[cE];have B:upd (Eff.apply ⟨some (d,some (.one (.hs id 0 len len))),[(id,some (.arr e q.size rows 0))]⟩ st').h id (some (.arr e q.size rows 2))=upd st'.h id (some (.arr e q.size rows 2)):=by
   show upd (jT st'.h [(id,some (.arr e q.size rows 0))]) id _=_;rw[cE,qI]
  rw[←B];exact this
 ·have B:upd (Eff.apply ⟨some (d,some (.one (.hs id 0 len len))),[(id,some (.arr e q.size rows 0))]⟩ st').h id (some (.arr e q.size rows 2))=jT st'.h [(id,some (.arr e q.size rows 2))]:=by
   show upd (jT st'.h [(id,some (.arr e q.size rows 0))]) id _=_;rw[cE,cE,qI]
  show aS S2 J (jT st'.h [(id,some (.arr e q.size rows 2))]) u (O.tmps.getD s undef);by_cases I:s=d
  ·subst I;have hu:u=.one (.c (.sl q.size rows)):=by
    have:upd st'.e s (some (.one (.c (.sl q.size rows)))) s=some u:=e1;rw[aN] at this;cases this;rfl
   subst hu;have hv:=h2.env s (.one (.hs id 0 len len)) (aN _ _ _);have hO:=h2.inv.obj id _ (aN _ _ _);have:=(Conv.one (h:=upd (Eff.apply ⟨some (s,some (.one (.hs id 0 len len))),[(id,some (.arr e q.size rows 0))]⟩ st').h id (some (.arr e q.size rows 2))) (PureL.hs (e:=rows) (aN _ _ _) A (by rw[A];simp) .nil)).rel (fun _ _=>rfl) h2.inv.obj hv;rw[←B];exact this
  ·have:upd st'.e d (some (.one (.c (.sl q.size rows)))) s=some u:=e1;rw[bJ _ _ _ I] at this;have hv:=h2.env s u (by show upd st'.e d _ s=some u;rw[bJ _ _ _ I];exact this);rw[←B];exact hv
theorem aX2 {u ty:TypeId}{x y:Operand}{a b:Nat}(ho:o.op=.binOp .add u x y ty) (A:o.dst=some d) (q:d<n) (hx:opv st x=some (I .i64 (a:Nat))) (hy:opv st y=some (I .i64 (b:Nat))) (B:a+b≤9223372036854775807):
  Step P n o st ⟨opr x++opr y,[]⟩ ⟨some (d,some (I .i64 ((a+b:Nat):Int))),[]⟩:=aTi ho A q hx hy (by rw[←Int.natCast_add];exact B5 _ (by omega))
theorem aXw {u ty:TypeId}{x y:Operand}{a b:Nat}(ho:o.op=.binOp .mul u x y ty) (A:o.dst=some d) (q:d<n) (hx:opv st x=some (I .i64 (a:Nat))) (hy:opv st y=some (I .i64 (b:Nat))) (B:a*b≤9223372036854775807):
  Step P n o st ⟨opr x++opr y,[]⟩ ⟨some (d,some (I .i64 ((a*b:Nat):Int))),[]⟩:=aTb ho A q hx hy (by rw[←Int.natCast_mul];exact B5 _ (by omega))
theorem aXl {u ty:TypeId}{x y:Operand}{a b:Nat}(ho:o.op=.binOp .sub u x y ty) (A:o.dst=some d) (q:d<n) (hx:opv st x=some (I .i64 (a:Nat))) (hy:opv st y=some (I .i64 (b:Nat))) (B:b≤a∧a≤9223372036854775807):
  Step P n o st ⟨opr x++opr y,[]⟩ ⟨some (d,some (I .i64 ((a-b:Nat):Int))),[]⟩:=aS6 ho A q hx hy (by rw[show(a:Int)-b=((a-b:Nat):Int) by omega];exact B5 _ (by omega))
theorem aXt {u ty:TypeId}{x y:Operand}{a b:Nat}(ho:o.op=.binOp .quo u x y ty) (A:o.dst=some d) (q:d<n) (hx:opv st x=some (I .i64 (a:Nat))) (hy:opv st y=some (I .i64 (b:Nat))) (B:a≤9223372036854775807∧1≤b):
  Step P n o st ⟨opr x++opr y,[]⟩ ⟨some (d,some (I .i64 ((a/b:Nat):Int))),[]⟩:=by
 have:=aRg (P:=P) (n:=n) ho A q hx hy (by omega);rwa [←Int.natCast_ediv] at this
theorem aXs {u ty:TypeId}{x y:Operand}{a b:Nat}(ho:o.op=.binOp .rem u x y ty) (A:o.dst=some d) (q:d<n) (hx:opv st x=some (I .i64 (a:Nat))) (hy:opv st y=some (I .i64 (b:Nat))) (B:1≤b):
  Step P n o st ⟨opr x++opr y,[]⟩ ⟨some (d,some (I .i64 ((a%b:Nat):Int))),[]⟩:=by
 have:=aRf (P:=P) (n:=n) ho A q hx hy (by omega);rwa [←Int.natCast_emod] at this
theorem a1z {t1 t2:TypeId}{x y:Operand}{k:IntKind}{a b r:Int}(ho:o.op=.call { callee:=.builtin .max,args:= #[x,y],argTypes:= #[t1,t2] }) (u:o.dst=some d) (q:d<n) (hx:opv st x=some (I k a)) (hy:opv st y=some (I k b)) (A:(if b>a then b else a)=r):
  Step P n o st ⟨opr x++opr y,[]⟩ ⟨some (d,some (I k r)),[]⟩:=by
 refine Step.value u q fun st' ha G S μ ac w hs=>?_
 have h1:=eG (aO hs hx fun t h=>ha.1 t (by simp[h]));have h2:=eG (aO hs hy fun t h=>ha.1 t (by simp[h]));refine⟨.int k r,?_,by simp[aS,aZ,Rep]⟩;simp only[execOp,ho,resolve,map_toArray,Ar,Ca,h1,h2,Aa,Ad,δ,invoke,builtin,Builtin.max_,List.foldlM_cons,List.foldlM_nil,Builtin.max2,A]
end
section
variable {P:Program}{n:Nat}{o:Oper}{st:St}{d:Nat}{T:TT}
theorem aD8 {t e:TypeId}{i u:TI}(y:Tok P T) (hi:T[t]?=some (some i)) (B:i.k=.sl e) (A:T[e]?=some (some u)) (w:World) (q:Option Addr) (len cap l:Nat) (kk:IntKind) (h:l≤len):
  (Instr.sliceAt t (.slice q len cap) (some (.int kk (l:Int))) none none).run P w=.ok (.slice (if cap=l then q else q.map (·.add (l*u.size))) (len-l) (cap-l)) w:=by
 have hu:=Ak ((y.get hi).slice B) w;simp[Instr.sliceAt,hu,Instr.slice,Instr.sliceBounds,Instr.sliceBound,asIntOf,h,(y.get A).size_run w]
theorem aXk {t e:TypeId}{i A:TI}{x y:Operand}{te es id len sz:Nat}{kk:IntKind}{elems:List (List C)}{fz:Nat}(l:Nat) (Y:Tok P T) (ho:o.op=.slice t x (some y) none none) (hd:o.dst=some d) (E:d<n) (hi:T[t]?=some (some i)) (hk:i.k=.sl e) (J:T[e]?=some (some A)) (M:A.size=es)
  (hx:opv st x=some (.one (.hs id 0 len sz))) (hh:st.h id=some (.arr te es elems fz)) (hsz:sz=elems.length) (hlen:len=sz) (hy:opv st y=some (I kk (l:Nat))) (hl:1≤l∧l≤len):Step P n o st ⟨opr x++opr y,[id]⟩ ⟨some (d,some (.one (.tl id l (len-l) sz))),[]⟩:=by
 refine Step.value hd E fun st' ha G S μ a w hs=>?_
 have hv:=aO hs hx fun t ht=>ha.1 t (by simp[ht])
 have O:=eG (aO hs hy fun t ht=>ha.1 t (by simp[ht]));have q:st'.h id=some (.arr te es elems fz):=by rw[ha.2 id (by simp),hh]
 simp only[aS,aZ] at hv;obtain⟨_,hv | ⟨te',es',elems',fz',h1,h2,h3⟩⟩:=hv
 ·rw[q] at hv;cases hv
 rw[q] at h1;cases h1;obtain⟨h4,⟨B,u,h7⟩ | ⟨b,base,cap,B,u⟩⟩:=h3 hsz
 ·subst u;simp at hsz;omega
 obtain⟨q0,vs,q1,q2,q3,q4,q5⟩:=(hs.inv.obj id _ q).arr B;rw[zero_mul,Ct,sub_zero] at u;refine⟨.slice (if cap=l then some ⟨b,base,none⟩ else(some ⟨b,base,none⟩:Option Addr).map (·.add (l*A.size))) (len-l) (cap-l),?_,?_⟩
 ·have U:=aD8 (P:=P) Y hi hk J w (some ⟨b,base,none⟩) len cap l kk hl.2;simp only[execOp,ho,B9,Option.map_none,u,O,Aa,Ad] at U ⊢;rw[U];rfl
 ·simp only[aS,aZ];refine⟨⟨_,_,_,rfl⟩,.inr ⟨te,es,elems,fz,q,h2,fun _=>⟨by omega,b,base,cap,B,by omega,?_⟩⟩⟩;by_cases hc:cap=l
  ·simp[hc]
  ·simp[hc,M,Addr.add_mid]
end
inductive Fz where
 | map (agg:Bool) (ents:List (List C))
 | var (l:List C)
 | ra (n es:Nat) (l:List R)
mutual
def R.fz (id:Nat) (z:Fz):R→R
 | .mr j=>match z with
  | .map agg ents=>if Nat.beq j id then .c (.mp agg ents) else .mr j
  | _=>.mr j
 | .vp j off=>match z with
  | .var l=>if Nat.beq j id then .c (.pt (l.drop off)) else .vp j off
  | _=>.vp j off
 | .ra j off len sz=>match z with
  | .ra n es l=>if Nat.beq j id then(if Nat.beq off 0&&Nat.beq len n&&Nat.beq sz n then .ras n es l else .c .any) else .ra j off len sz
  | _=>.ra j off len sz
 | .rp j i fo sz=>match z with
  | .ra _ _ _=>if Nat.beq j id then .c .any else .rp j i fo sz
  | _=>.rp j i fo sz
 | .ras n es l=>.ras n es (R.fzL id z l)
 | .pas l=>.pas (R.fzL id z l)
 | .clo f caps=>.clo f (R.fzL id z caps)
 | .mth f x=>.mth f (R.fz id z x)
 | r=>r
def R.fzL (id:Nat) (z:Fz):List R→List R
 | []=>[]
 | r::rs=>R.fz id z r::R.fzL id z rs
end
mutual
def V.fz (id:Nat) (z:Fz):V→V
 | .one r=>.one (r.fz id z)
 | .pa l=>.pa l
 | .ma l=>.ma (R.fzL id z l)
 | .tup l=>.tup (V.fzL id z l)
def V.fzL (id:Nat) (z:Fz):List V→List V
 | []=>[]
 | r::rs=>V.fz id z r::V.fzL id z rs
end
def fzE (id:Nat) (z:Fz):List (Nat×V)→List (Nat×V)
 | []=>[]
 | (t,v)::l=>(t,v.fz id z)::fzE id z l
def fzR (id:Nat) (z:Fz):List (List R)→List (List R)
 | []=>[]
 | r::l=>R.fzL id z r::fzR id z l
theorem aK0 {id:Nat}{z:Fz}:∀{l:List (Nat×V)}{t:Nat}{v:V},(t,v)∈fzE id z l→∃v0,(t,v0)∈l∧v=v0.fz id z
 | (k,u)::l,t,v,h=>by
  simp only[fzE,Aq] at h;rcases h with h | h
  ·cases h;exact⟨u,by simp,rfl⟩
  ·obtain⟨v0,h1,h2⟩:=aK0 h;exact⟨v0,by simp[h1],h2⟩
theorem R.fzL_length {id:Nat}{z:Fz}:∀{l:List R},(R.fzL id z l).length=l.length
 | []=>rfl
 | _::l=>by simp[R.fzL,R.fzL_length (l:=l)]
theorem R.fzL_append {id:Nat}{z:Fz}:∀{l m:List R},R.fzL id z (l++m)=R.fzL id z l++R.fzL id z m
 | [],_=>rfl
 | _::l,m=>by simp[R.fzL,R.fzL_append (l:=l)]
theorem fI {id:Nat}{z:Fz}:∀{l:List (List R)},(fzR id z l).length=l.length
 | []=>rfl
 | _::l=>by simp[fzR,fI (l:=l)]
theorem aE9 {id:Nat}{z:Fz}:∀{l:List (List R)},(fzR id z l).flatten=R.fzL id z l.flatten
 | []=>rfl
 | _::l=>by simp[fzR,aE9 (l:=l),R.fzL_append]
theorem oM {id:Nat}{z:Fz}{es:Nat}:∀{l:List (List R)},(∀r∈l,r.length=es)→∀r∈fzR id z l,r.length=es
 | [],_,r,h=>by simp[fzR] at h
 | x::l,k,r,h=>by
  simp only[fzR,Aq] at h;rcases h with rfl | h
  ·rw[R.fzL_length];exact k _ (by simp)
  ·exact oM (l:=l) (fun r q=>k r (by simp[q])) r h
def AObj.fz (id:Nat) (z:Fz):AObj→AObj
 | .var t cells=>.var t (R.fzL id z cells)
 | .lp st j i e=>.lp st j i (fzE id z e)
 | .rarr te es l=>.rarr te es (fzR id z l)
 | .tok r k=>.tok (r.fz id z) k
 | o=>o
def Fz.of:Fz→AObj→Prop
 | .map agg ents,o=>o=.map agg ents
 | .var l,o=>∃t,o=.var t (l.map R.c)
 | .ra n es l,o=>∃te elems,o=.rarr te es elems∧l=elems.flatten∧n=elems.length
def hfz (id:Nat) (z:Fz) (H:cF):cF:=fun j=>if Nat.beq j id then none else(H j).map (AObj.fz id z)
section
variable {S S':Sto}{μ:Mu}{H:cF}{id:Nat}{z:Fz}
theorem lY {j:Nat}(h:j≠id):hfz id z H j=(H j).map (AObj.fz id z):=by
 have:Nat.beq j id=false:=by
  cases hb:Nat.beq j id with
  | false=>rfl
  | true=>exact absurd (τ hb) h
 simp[hfz,this]
theorem aYu:hfz id z H id=none:=by simp[hfz]
theorem aCv {j te es fz:Nat}{l:List (List C)}{o:AObj}(hid:H id=some o) (q:z.of o) (h:H j=some (.arr te es l fz)):hfz id z H j=some (.arr te es l fz):=by
 have u:j≠id:=by
  rintro rfl;rw[h] at hid;cases hid;cases z with
  | map agg ents=>cases q
  | var l=>obtain⟨t,h⟩:=q;cases h
  | ra n es l=>obtain⟨_,_,h,_⟩:=q;cases h
 rw[lY u,h];rfl
theorem xM {j:Nat}{o:AObj}(hid:H id=some o) (q:z.of o) (h:H j=some .dead):hfz id z H j=some .dead:=by
 have u:j≠id:=by
  rintro rfl;rw[h] at hid;cases hid;cases z with
  | map agg ents=>cases q
  | var l=>obtain⟨t,h⟩:=q;cases h
  | ra n es l=>obtain⟨_,_,h,_⟩:=q;cases h
 rw[lY u,h];rfl
def aW3 (S':Sto) (μ:Mu) (H:cF) (id:Nat):Fz→Prop
 | .map agg ents=>∀b c,μ id=some (b,c)→∃es clk,S'.mapo b=some (.all es clk)∧(bG S' agg ents es.toList∨aNp S' agg ents es)
 | .var l=>∀b c,μ id=some (b,c)→∃vs,bZ S' l vs∧fD S' b 0 vs
 | .ra n es l=>n*es=l.length∧∀b base cap,μ id=some (b,base,cap)→n≤cap∧cap≤maxLen∧∃vs,aT S' μ (hfz id (.ra n es l) H) l vs∧fD S' b base vs
mutual
theorem aZ.fz (hle:S.le S') {o:AObj}(hid:H id=some o) (q:z.of o):∀(r:R) (v:Value),(id∈r.refs→aW3 S' μ H id z)→aZ S μ H r v→aZ S' μ (hfz id z H) (r.fz id z) v
 | .c x,v,_,k=>by simp only[aZ,R.fz] at k ⊢;exact Rep.mono hle x v k
 | .hs j off len sz,v,_,k=>by
  simp only[aZ,R.fz] at k ⊢;obtain⟨k0,k | ⟨te,es,elems,fz,h1,h2⟩⟩:=k
  ·exact⟨k0,.inl (xM hid q k)⟩
  ·exact⟨k0,.inr ⟨te,es,elems,fz,aCv hid q h1,h2⟩⟩
 | .tl j off len sz,v,_,k=>by
  simp only[aZ,R.fz] at k ⊢;obtain⟨k0,k | ⟨te,es,elems,fz,h1,h2⟩⟩:=k
  ·exact⟨k0,.inl (xM hid q k)⟩
  ·exact⟨k0,.inr ⟨te,es,elems,fz,aCv hid q h1,h2⟩⟩
 | .ep j i fo sz,v,_,k=>by
  simp only[aZ,R.fz] at k ⊢;obtain⟨k0,k | ⟨te,es,elems,fz,h1,h2⟩⟩:=k
  ·exact⟨k0,.inl (xM hid q k)⟩
  ·exact⟨k0,.inr ⟨te,es,elems,fz,aCv hid q h1,h2⟩⟩
 | .vp j off,v,A,k=>by
  simp only[aZ] at k;obtain⟨t,cells,b,c,h1,h2,y⟩:=k;by_cases hj:j=id
  ·subst hj;rw[h1] at hid;cases hid;cases z with
   | map agg ents=>cases q
   | ra n es l=>obtain⟨_,_,h,_⟩:=q;cases h
   | var l=>
    simp only[R.fz,beq_refl,Cu,aZ,Rep];obtain⟨vs,g1,g2⟩:=A (by simp[R.refs]) b c h2;refine⟨b,off,y,vs.drop off,g1.drop off,fun i u hu=>?_⟩;rw[Ao] at hu;have:=g2 _ u hu;rwa [Bk] at this
  ·have hb:Nat.beq j id=false:=by
    cases hb:Nat.beq j id with
    | false=>rfl
    | true=>exact absurd (τ hb) hj
   have e:(R.vp j off).fz id z=.vp j off:=by cases z<;>simp[R.fz,hb]
   rw[e];simp only[aZ];exact⟨t,_,b,c,by rw[lY hj,h1];rfl,h2,y⟩
 | .mr j,v,A,k=>by
  simp only[aZ] at k;obtain⟨agg,ents,b,c,h1,h2,y⟩:=k;by_cases hj:j=id
  ·subst hj;rw[h1] at hid;cases hid;cases z with
   | var l=>obtain⟨t,h⟩:=q;cases h
   | ra n es l=>obtain⟨_,_,h,_⟩:=q;cases h
   | map ac ab=>
    cases q;simp only[R.fz,beq_refl,Cu,aZ,Rep];obtain⟨es,clk,g1,g2⟩:=A (by simp[R.refs]) b c h2;exact⟨b,es,clk,y,g1,g2⟩
  ·have hb:Nat.beq j id=false:=by
    cases hb:Nat.beq j id with
    | false=>rfl
    | true=>exact absurd (τ hb) hj
   have e:(R.mr j).fz id z=.mr j:=by cases z<;>simp[R.fz,hb]
   rw[e];simp only[aZ];exact⟨agg,ents,b,c,by rw[lY hj,h1];rfl,h2,y⟩
 | .clo f caps,v,A,k=>by
  simp only[aZ,R.fz] at k ⊢;obtain⟨vs,h1,h2⟩:=k;exact⟨vs,h1,aT.fz hle hid q caps vs (by simpa only[R.refs] using A) h2⟩
 | .ras n es l,v,A,k=>by
  simp only[aZ,R.fz] at k ⊢;obtain⟨a,cap,h1,h2,y,h4,h5,h6,b,o,h7,vs,I,J⟩:=k;exact⟨a,cap,h1,by rw[R.fzL_length];exact h2,y,h4,h5,h6,b,o,h7,vs,aT.fz hle hid q l vs (by simpa only[R.refs] using A) I,J.mono hle⟩
 | .pas l,v,A,k=>by
  simp only[aZ,R.fz] at k ⊢;obtain⟨b,o,h1,vs,I,J⟩:=k;exact⟨b,o,h1,vs,aT.fz hle hid q l vs (by simpa only[R.refs] using A) I,J.mono hle⟩
 | .mth f recv,v,A,k=>by
  simp only[aZ,R.fz] at k ⊢;obtain⟨u,h1,h2⟩:=k;exact⟨u,h1,aZ.fz hle hid q recv u (by simpa only[R.refs] using A) h2⟩
 | .rp j i fo sz,v,A,k=>by
  simp only[aZ] at k;obtain⟨k0,k⟩:=k;by_cases hj:j=id
  ·subst hj;have key:aZ S' μ (hfz j z H) (.c .any) v:=by
    obtain⟨a,rfl⟩:=k0;simp only[aZ,Rep];exact⟨rfl,rfl⟩
   rcases k with k | ⟨te,es,elems,h1,h2,y⟩
   ·rw[k] at hid;cases hid;cases z with
    | map agg ents=>cases q
    | var l=>obtain⟨t,h⟩:=q;cases h
    | ra n es l=>obtain⟨_,_,h,_⟩:=q;cases h
   ·rw[h1] at hid;cases hid;cases z with
    | map agg ents=>cases q
    | var l=>obtain⟨t,h⟩:=q;cases h
    | ra n es l=>simpa only[R.fz,beq_refl,Cu] using key
  ·have hb:Nat.beq j id=false:=by
    cases hb:Nat.beq j id with
    | false=>rfl
    | true=>exact absurd (τ hb) hj
   have e:(R.rp j i fo sz).fz id z=.rp j i fo sz:=by cases z<;>simp[R.fz,hb]
   rw[e];simp only[aZ];rcases k with k | ⟨te,es,elems,h1,h2,y⟩
   ·exact⟨k0,.inl (by rw[lY hj,k];rfl)⟩
   ·exact⟨k0,.inr ⟨te,es,fzR id z elems,by rw[lY hj,h1];rfl,by rw[fI];exact h2,fun e=>y (by rw[fI] at e;exact e)⟩⟩
 | .yl j,v,_,k=>by
  simp only[aZ,R.fz] at k ⊢;obtain⟨st,jp,i,e,b,c,h1,h2,y⟩:=k;have aa:j≠id:=by
   rintro rfl;rw[h1] at hid;cases hid;cases z with
   | map agg ents=>cases q
   | var l=>obtain⟨t,h⟩:=q;cases h
   | ra n es l=>obtain⟨_,_,h,_⟩:=q;cases h
  exact⟨st,jp,i,_,b,c,by rw[lY aa,h1];rfl,h2,y⟩
 | .ra j off len sz,v,A,k=>by
  simp only[aZ] at k;obtain⟨k0,k⟩:=k;by_cases hj:j=id
  ·subst hj;have key:aZ S' μ (hfz j z H) (.c .any) v:=by
    obtain⟨a,l,c,rfl⟩:=k0;simp only[aZ,Rep];exact⟨rfl,rfl⟩
   rcases k with k | ⟨te,es,elems,h1,h2,y⟩
   ·rw[k] at hid;cases hid;cases z with
    | map agg ents=>cases q
    | var l=>obtain⟨t,h⟩:=q;cases h
    | ra n es l=>obtain⟨_,_,h,_⟩:=q;cases h
   ·rw[h1] at hid;cases hid;cases z with
    | map agg ents=>cases q
    | var l=>obtain⟨t,h⟩:=q;cases h
    | ra n es' l=>
     obtain⟨te',elems',M,B,E⟩:=q;cases M;simp only[R.fz,beq_refl,Cu];split
     ·rename_i hc;simp only[π] at hc;obtain⟨⟨O,U⟩,Y⟩:=hc;have O:=τ O;have U:=τ U;have Y:=τ Y;subst O;subst U;subst Y;obtain⟨f1,f2⟩:=A (by simp[R.refs]);obtain⟨_,⟨m1,m2,m3⟩ | ⟨b,base,cap,m1,m2⟩⟩:=y E
      ·subst m2;simp only[length_nil] at E;subst E;subst B;simp only[aZ];exact⟨none,0,m3,by simp,le_refl _,Ab _,(fun _=>⟨by first | rfl | simp,rfl⟩),(by simp),0,0,(by simp),[],(by simp[aT]),(by intro i v e;simp at e)⟩
      ·obtain⟨f3,f4,vs,f5,f6⟩:=f2 b base cap m1;simp only[aZ];exact⟨some ⟨b,base,none⟩,cap,by rw[m2];simp,f1,f3,f4,by simp,(fun ad h=>by cases h;rfl),b,base,(fun ad h=>by cases h;exact⟨rfl,rfl⟩),vs,f5,f6⟩
     ·exact key
  ·have hb:Nat.beq j id=false:=by
    cases hb:Nat.beq j id with
    | false=>rfl
    | true=>exact absurd (τ hb) hj
   have e:(R.ra j off len sz).fz id z=.ra j off len sz:=by cases z<;>simp[R.fz,hb]
   rw[e];simp only[aZ];rcases k with k | ⟨te,es,elems,h1,h2,y⟩
   ·exact⟨k0,.inl (by rw[lY hj,k];rfl)⟩
   ·refine⟨k0,.inr ⟨te,es,fzR id z elems,by rw[lY hj,h1];rfl,by rw[fI];exact h2,fun e=>?_⟩⟩;rw[fI] at e;obtain⟨M,B⟩:=y e;refine⟨M,?_⟩;rcases B with⟨B,E,q4⟩ | B
    ·exact .inl ⟨B,by rw[E];rfl,q4⟩
    ·exact .inr B
theorem aT.fz (hle:S.le S') {o:AObj}(hid:H id=some o) (q:z.of o):∀(r:List R) (v:List Value),(id∈R.refsL r→aW3 S' μ H id z)→aT S μ H r v→aT S' μ (hfz id z H) (R.fzL id z r) v
 | [],_,_,k=>by simpa only[aT,R.fzL] using k
 | r::rs,vs,A,k=>by
  simp only[aT,R.fzL] at k ⊢;obtain⟨v,vs',h1,h2,y⟩:=k;exact⟨v,vs',h1,aZ.fz hle hid q r v (fun h=>A (by simp[R.refsL,h])) h2,aT.fz hle hid q rs vs' (fun h=>A (by simp[R.refsL,h])) y⟩
end
mutual
theorem aS.fz (hle:S.le S') {o:AObj}(hid:H id=some o) (q:z.of o) (u:aW3 S' μ H id z):∀(r:V) (v:Value),aS S μ H r v→aS S' μ (hfz id z H) (r.fz id z) v
 | .one r,v,k=>by simp only[aS,V.fz] at k ⊢;exact aZ.fz hle hid q r v (fun _=>u) k
 | .pa l,v,k=>by
  simp only[aS,V.fz] at k ⊢;obtain⟨vs,h1,h2⟩:=k;exact⟨vs,h1,bZ.mono hle l vs h2⟩
 | .ma l,v,k=>by
  simp only[aS,V.fz] at k ⊢;obtain⟨vs,h1,h2⟩:=k;exact⟨vs,h1,aT.fz hle hid q l vs (fun _=>u) h2⟩
 | .tup l,v,k=>by
  simp only[aS,V.fz] at k ⊢;obtain⟨vs,h1,h2⟩:=k;exact⟨vs,h1,b7.fz hle hid q u l vs h2⟩
theorem b7.fz (hle:S.le S') {o:AObj}(hid:H id=some o) (q:z.of o) (u:aW3 S' μ H id z):∀(r:List V) (v:List Value),b7 S μ H r v→b7 S' μ (hfz id z H) (V.fzL id z r) v
 | [],_,k=>by simpa only[b7,V.fzL] using k
 | r::rs,vs,k=>by
  simp only[b7,V.fzL] at k ⊢;obtain⟨v,vs',h1,h2,y⟩:=k;exact⟨v,vs',h1,aS.fz hle hid q u r v h2,b7.fz hle hid q u rs vs' y⟩
end
theorem AObj.succ_fz {p:Prop}{o o':AObj}(h:o.succ p o'):o.succ p (o'.fz id z):=by
 cases o<;>cases o'<;>simp only[AObj.succ,AObj.fz,fI] at h ⊢<;>exact h
theorem mB.fz {w:World}{j:Nat}{x:AObj}(hle:S.le S') {o:AObj}(hid:H id=some o) (B:z.of o) (E:aW3 S' μ H id z) (h:mB S μ H w j x) (hb:∀b c,μ j=some (b,c)→(∀o,S'.cell b o=S.cell b o)∧S'.mapo b=S.mapo b):mB S' μ (hfz id z H) w j (x.fz id z):=by
 cases x with
 | var t cells=>
  obtain⟨b,vs,h1,h2,u,q⟩:=h;exact⟨b,vs,h1,h2,aT.fz hle hid B _ _ (fun _=>E) u,fun o=>by rw[(hb b _ h1).1,q.1],by rw[(hb b _ h1).2,q.2]⟩
 | arr te es elems fz=>
  obtain⟨h0,h1 | ⟨b,base,cap,vs,h1,h2,u,q,y,A,I,J,M⟩⟩:=h
  ·exact⟨h0,.inl h1⟩
  ·exact⟨h0,.inr ⟨b,base,cap,vs,h1,h2,u,q,⟨y.1,by rw[(hb b _ h1).2,y.2]⟩,bZ.mono hle _ _ A,fun e o ho=>by rw[(hb b _ h1).1,I e o ho],fun o e=>by rw[(hb b _ h1).1,J o e],fun e=>(M e).mono hle⟩⟩
 | map agg ents=>
  obtain⟨b,es,clk,h1,h2,u,q⟩:=h;exact⟨b,es,clk,h1,h2,aB2.mono hle u,q.of_eq (hb b _ h1).2⟩
 | dead=>exact h
 | lp st jp i e=>
  obtain⟨b,r,fn,tmps,h1,h2,u,q,y,A⟩:=h;refine⟨b,r,fn,tmps,h1,h2,u,fun t v ht=>?_,fun o=>by rw[(hb b _ h1).1,y],by rw[(hb b _ h1).2,A]⟩;obtain⟨v0,O,rfl⟩:=aK0 ht;exact aS.fz hle hid B E _ _ (q t v0 O)
 | dfr=>
  obtain⟨b,h1,h2,u,q⟩:=h;exact⟨b,h1,h2,fun o=>by rw[(hb b _ h1).1,u],by rw[(hb b _ h1).2,q]⟩
 | rarr te es elems=>
  obtain⟨h0,h1 | ⟨b,base,cap,vs,h1,h2,u,q,y,A,I⟩⟩:=h
  ·exact⟨oM h0,.inl ⟨h1.1,by rw[h1.2];rfl⟩⟩
  ·refine⟨oM h0,.inr ⟨b,base,cap,vs,h1,h2,u,by rw[fI];exact q,⟨y.1,by rw[(hb b _ h1).2,y.2]⟩,?_,fun o ho=>by rw[(hb b _ h1).1,I o ho]⟩⟩;rw[aE9,fI];exact aT.fz hle hid B _ _ (fun _=>E) A
 | tok r k=>
  obtain⟨h1,b,h2,m,u,q⟩:=h;obtain⟨U,y,A⟩:=hle.2 b m u;exact⟨h1,b,aZ.fz hle hid B _ _ (fun _=>E) h2,U,y,MK.le_has A q⟩
theorem Sto.free_of {S S':Sto}(h:S.free) {b:Nat}(hb:∀q,q≠b→(∀o,S'.cell q o=S.cell q o)∧S'.mapo q=S.mapo q) (ht:∀te lo hi,¬S'.mapo b=some (.top te lo hi)):S'.free:=fun q te lo hi e o ho=>by
 by_cases u:q=b
 ·subst u;exact absurd e (ht te lo hi)
 ·obtain⟨h1,h2⟩:=hb q u;rw[h1,h q te lo hi (by rw[←h2];exact e) o ho]
theorem aPe {G:Ctx}{n:Nat}{kf:List Nat}{st:St}{a:Act}{w:World}{o:AObj}(hid:st.h id=some o) (A:z.of o) (J:id∉kf) (hg:G.keeps kf) (hs:Sim G n S μ st a w) (hle:S.le S') (hh:Holds S' w) (M:aW3 S' μ st.h id z)
  (hb:∀b,(∀c,μ id≠some (b,c))→(∀o,S'.cell b o=S.cell b o)∧S'.mapo b=S.mapo b) (E:S'.free):Sim G n S' μ ⟨fun t=>(st.e t).map (V.fz id z),hfz id z st.h,st.d⟩ a w:=by
 have hold:∀j x,hfz id z st.h j=some x→j≠id∧∃u,st.h j=some u∧x=u.fz id z:=by
  intro j x hj;have q:j≠id:=by rintro rfl;rw[aYu] at hj;cases hj
  rw[lY q] at hj;cases h:st.h j with
  | none=>rw[h] at hj;cases hj
  | some u=>
   rw[h] at hj;cases hj;exact⟨q,u,rfl,rfl⟩
 have I:∀j u,st.h j=some u→j≠id→∀b c,μ j=some (b,c)→∀c',μ id≠some (b,c'):=by
  intro j u hj q b c hm c' B;exact q (hs.inv.inj j id u o b c c' hj hid hm B)
 refine⟨⟨hh,fun j x hj=>?_,fun i j x x' b c c' hi hj hm B=>?_,fun i x b c hi hm=>?_,hs.inv.frame,Sto.le_trans hs.inv.sle hle,fun b O U=>?_,⟨Sto.le_trans hs.inv.evo.le hle,fun j x hj=>?_⟩,E⟩,hs.size,hs.defers.go fun j _ hj=>⟨rfl,?_⟩,fun t v e=>?_⟩
 ·obtain⟨q,u,h1,rfl⟩:=hold j x hj;exact(hs.inv.obj j u h1).fz hle hid A M fun b c hm=>hb b (I j u h1 q b c hm)
 ·obtain⟨_,y,h1,_⟩:=hold i x hi;obtain⟨_,y',h2,_⟩:=hold j x' hj;exact hs.inv.inj i j y y' b c c' h1 h2 hm B
 ·obtain⟨_,y,h1,_⟩:=hold i x hi;exact hs.inv.own i y b c h1 hm
 ·have Y:∀c,μ id≠some (b,c):=by
   intro c hm;rcases hs.inv.own id o b c hid hm with h | h
   ·omega
   ·exact U h
  obtain⟨h1,h2⟩:=hb b Y;obtain⟨h3,h4⟩:=hs.inv.sto b O U;exact⟨fun o=>(h1 o).trans (h3 o),h2.trans h4⟩
 ·obtain⟨o',h1,h2⟩:=hs.inv.evo.obj j x hj;have q:j≠id:=fun e=>J (e▸hg.1 j x hj)
  exact⟨o'.fz id z,by show hfz id z st.h j=_;rw[lY q,h1];rfl,AObj.succ_fz h2⟩
 ·have q:j≠id:=by
   rintro rfl;rw[hj] at hid;cases hid;cases z with
   | map agg ents=>cases A
   | var l=>obtain⟨t,h⟩:=A;cases h
   | ra n es l=>obtain⟨_,_,h,_⟩:=A;cases h
  show hfz id z st.h j=_;rw[lY q,hj];rfl
 ·cases h:st.e t with
  | none=>simp[h] at e
  | some v0=>
   simp only[h,B9,Option.some.injEq] at e;subst e;exact aS.fz hle hid A M v0 _ (hs.env t v0 h)
theorem Sub.fvar {kf:List Nat}{st:St}{id t:Nat}{l:List C}(hid:st.h id=some (.var t (l.map R.c))) (y:id∉kf):Sub kf ⟨fun t=>(st.e t).map (V.fz id (.var l)),hfz id (.var l) st.h,st.d⟩ st:=by
 intro G n S μ a w I hs;obtain⟨b,vs,h1,h2,J,A⟩:=hs.inv.obj id _ hid;have B:=J.pure
 let S':Sto:=⟨fun q o=>if q=b then vs[o]? else S.cell q o,S.mapo⟩
 have hle:S.le S':=⟨fun q o v e=>by
  show(if q=b then vs[o]? else S.cell q o)=some v;by_cases hb:q=b
  ·subst hb;rw[A.1] at e;cases e
  ·rw[η hb];exact e,fun _ m e=>⟨m,e,m.le_refl⟩⟩
 refine⟨S',μ,aPe hid ⟨t,rfl⟩ y I hs hle ⟨fun q o v e=>?_,hs.inv.holds.2⟩ ?_ (fun q hb=>⟨fun o=>?_,rfl⟩) (Sto.free_of hs.inv.fre (b:=b) (fun q hb=>⟨fun _=>η hb,rfl⟩) fun te lo hi e=>by have e:S.mapo b=_:=e;rw[A.2] at e;cases e)⟩
 ·have e':(if q=b then vs[o]? else S.cell q o)=some v:=e;by_cases hb:q=b
  ·subst hb;rw[ζ rfl] at e';exact⟨⟨vs⟩,t,(0,0),h2,by simpa using e'⟩
  ·rw[η hb] at e';exact hs.inv.holds.1 q o v e'
 ·intro q c hm;rw[h1] at hm;cases hm;refine⟨vs,bZ.mono hle _ _ B,fun i u hu=>?_⟩;show(if b=b then vs[0+i]? else S.cell b (0+i))=some u;rw[ζ rfl,Bk];exact hu
 ·have E:q≠b:=fun e=>hb (0,0) (by rw[e];exact h1)
  exact η E
end
theorem b7.length {S:Sto}{μ:Mu}{H:cF}:∀{l:List V}{us:List Value},b7 S μ H l us→us.length=l.length
 | [],_,h=>by simp only[b7] at h;subst h;rfl
 | _::l,_,h=>by
  simp only[b7] at h;obtain⟨v,vs',rfl,_,h2⟩:=h;simp[b7.length h2]
theorem aAg {α:Type}{k i:Nat}{x:α}{l:List (Nat×α)}(h:i≠k):look ((k,x)::l) i=look l i:=by
 have:Nat.beq i k=false:=by
  cases hb:Nat.beq i k with
  | false=>rfl
  | true=>exact absurd (τ hb) h
 simp[look,this]
theorem o6 {α:Type}{k:Nat}{x:α}{l:List (Nat×α)}:look ((k,x)::l) k=some x:=by simp[look]
theorem Inv.keep {G:Ctx}{S:Sto}{μ:Mu}{H:cF}{w:World}{hout:List (Nat×AObj)}(hs:Inv G S μ H w) (q:iM (fun p=>∃o,H p.1=some o∧Ole (fun i=>i) o p.2) hout)
  (I:subset (iN hout) (keys hout)=true) (J:∀id o,G.h0 id=some o→id∈keys hout):Inv G S μ (look hout) w:=by
 have u:∀i∈keys hout,Good H (look hout) (fun i=>i) i:=by
  intro i hi;obtain⟨o',y⟩:=cW hi;obtain⟨o,g1,g2⟩:=q.mem _ (bE y);exact⟨o,o',g1,y,g2⟩
 refine⟨hs.holds,fun id o ho=>?_,fun i j o o' b c c' hi hj hm B=>?_,fun i o b c hi hm=>?_,hs.frame,hs.sle,hs.sto,⟨hs.evo.le,fun id o ho=>?_⟩,hs.fre⟩
 ·obtain⟨A,g1,g2⟩:=q.mem _ (bE ho);exact(hs.obj _ _ g1).ren g2 fun i hi=>u i (bY I i (mN (bE ho) i hi))
 ·obtain⟨A,g1,g2⟩:=q.mem _ (bE hi);obtain⟨E,g3,g4⟩:=q.mem _ (bE hj);exact hs.inj _ _ _ _ b c c' g1 g3 hm B
 ·obtain⟨A,g1,g2⟩:=q.mem _ (bE hi);exact hs.own _ _ b c g1 hm
 ·obtain⟨o',g1,g2⟩:=hs.evo.obj id o ho;obtain⟨A,E,g3,g4,g5⟩:=u id (J id o ho);rw[g1] at g3;cases g3;exact⟨E,g4,AObj.succ_trans g2 g5.succ fun e _=>e⟩
section
variable {P:Program}{n:Nat}{o:Oper}{st:St}{d:Nat}
end
def aB5 (W:World):Sto:=
 ⟨fun b o=>match W.heap[b]? with | some (.cells vs _ _)=>vs[o]? | _=>none,fun b=>match W.heap[b]? with | some (.map es clk)=>some (.all es clk) | _=>none⟩
theorem aHk (W:World):Holds (aB5 W) W:=by
 refine⟨fun b o v h=>?_,fun b mk h=>?_⟩
 ·simp only[aB5] at h;split at h
  ·rename_i vs t q hq;exact⟨vs,t,q,hq,h⟩
  ·cases h
 ·simp only[aB5] at h;split at h
  ·rename_i hq;cases h;exact hq
  ·cases h
theorem aO1 (W:World):(aB5 W).noTop:=fun b m e=>by
 simp only[aB5] at e;split at e
 ·cases e;exact⟨_,_,rfl⟩
 ·cases e
theorem aKk (W:World):(aB5 W).free:=fun b te lo hi e=>by
 obtain⟨_,_,h⟩:=aO1 W b _ e;cases h
theorem aKl {W:World}{a:Addr}{v:Value}(h:W.cell? a=some v):(aB5 W).cell a.block a.off=some v:=by
 unfold World.cell? at h;simp only[aB5];split at h
 ·rename_i hq;rw[hq];split at h
  ·cases h
  ·exact h
 ·cases h
theorem aKw {P:Program}{f:FuncId}{args:List V}{vals:List Value}{res:V}(h:aW P f args [] res []) (W:World) (hv:b7 (aB5 W) (fun _=>none) (look []) args vals) (ht:aQ0 W:=by first | assumption | (intro g h;cases h)):
  Calls P f ⟨vals⟩ W fun e W'=>∃v S μ,e=.returned v∧RowKit.Below W.heap.size W W'∧aS S μ (look []) res v:=by
 have u:Inv ⟨W,aB5 W,kI (fun _=>none) (look []),fun _=>none,look []⟩ (aB5 W) (fun _=>none) (look []) W:=
  ⟨aHk W,(fun _ _ h=>by cases h),(fun _ _ _ _ _ _ _ h=>by cases h),(fun _ _ _ _ h=>by cases h),FrameW.refl _ _ ⟨ht,fun g _ ⟨_,_,_,h,_⟩=>by cases h⟩,Sto.le_refl _,fun _ _ _=>⟨fun _=>rfl,rfl⟩,Evolve.refl _ _ _,aKk W⟩
 refine(h (aB5 W) (fun _=>none) W vals u hv).mono ?_;rintro e W' ⟨S',μ',v,he,q,y⟩;refine⟨v,S',μ',he,⟨q.frame.os,q.frame.tape,q.frame.output,q.frame.size,fun k A=>q.frame.block k A ?_⟩,y⟩;rintro⟨id,o,c,h1,_⟩;cases h1
theorem aV0 {S:Sto}{μ:Mu}{H:cF}{b:Bool}{v:Value}(h:aS S μ H (B b) v):v=.bool b:=by simpa [aS,aZ,Rep] using h
def mY (l:List Int):List (List C):=l.map fun m=>[.int .i64 m]
theorem aOg {W:World}{a:Addr}{len cap:Nat}{l:List Int}(hs:cap≠0→a.spot=none) (hl:l.length=len) (hc:len≤cap) (hm:cap≤maxLen) (q:∀i,i<len→W.cell? (a.add i)=some (.int .i64 (l.getD i 0))):
  Rep (aB5 W) (.sl 1 (mY l)) (.slice (some a) len cap):=by
 simp only[Rep];refine⟨some a,len,cap,rfl,by simp[mY,hl],hc,hm,(by intro h;cases h),(by intro y h;cases h;exact hs),a.block,a.off,(by intro y h;cases h;exact⟨rfl,rfl⟩),?_⟩;have key:∀(r:List Int) (k:Nat),(∀i,i<r.length→W.cell? (a.add (k+i))=some (.int .i64 (r.getD i 0)))→bI (aB5 W) 1 a.block (mY r) (a.off+k):=by
  intro r
  induction r with
  | nil=>intro k _;simp[mY,bI]
  | cons x r A=>
   intro k u;simp only[mY,Ar,bI];refine⟨rfl,⟨[.int .i64 x],by simp[bZ,Rep],fun i v hi=>?_⟩,?_⟩
   ·have h0:=aKl (u 0 (by simp));have hb:(a.add (k+0)).block=a.block:=by unfold Addr.add;split<;>rfl
    have ho:(a.add (k+0)).off=a.off+k:=by
     unfold Addr.add;split
     ·rename_i h;omega
     ·rfl
    rw[hb,ho] at h0;cases i with
    | zero=>simp at hi;subst hi;simpa using h0
    | succ i=>simp at hi
   ·have:=A (k+1) fun i hi=>by
     have:=u (i+1) (by simp;omega);rw[show k+(i+1)=k+1+i by omega] at this;simpa using this
    rw[add_assoc];exact this
 have:=key l 0 fun i hi=>by rw[Bk];exact q i (by omega)
 simpa using this
theorem zH {W:World}:Rep (aB5 W) (.sl 1 (mY [])) (.slice none 0 0):=by
 simp only[Rep];exact⟨none,0,0,rfl,rfl,le_refl _,Ab _,(fun _=>⟨rfl,rfl⟩),(by intro q h;cases h),0,0,(by intro q h;cases h),by simp[mY,bI]⟩
theorem aHh {H:Type}{enc:TypeId×Value→H}{P:Program}{W:World}{t e:TypeId}{v:Value}{d:DataW H}{ps:List MemPlace}{base:Nat}(ht:P.underlying t=some (.slice e)) (he:P.underlying e=some (.int .i64)) (hc:P.cellsOf e=1)
  (hok:Value.okWide P W .any base t v) (h:DataW.Trod enc P W 0 (fun _=>true) true t v d ps):
  ∃l:List Int,Rep (aB5 W) (.sl 1 (mY l)) v∧(∀m∈l,-9223372036854775808≤m∧m≤9223372036854775807)∧(∃x y,(d=.nil∧l=[])∨(d=.slice x y∧x.length=l.length)):=by
 obtain⟨fuel,B⟩:=h;obtain⟨a0,q,u,rfl⟩:=WideShapes.okWide_slice ht hok;rcases ChangeShapes.open_ints ht he hc B with⟨h1,h2⟩ | ⟨a,len,cap,A,h1,_,E,I,J,M,O,U⟩
 ·have hv:Value.slice a0 q u=.slice none 0 0:=by
   simp only[Value.cells] at h1;simpa using h1
  cases hv;refine⟨[],zH,by simp,[],[],.inl ⟨?_,rfl⟩⟩;have:=congrArg Prod.fst h2;simpa using this
 ·have hv:Value.slice a0 q u=.slice (some a) len cap:=by
   simp only[Value.cells] at h1;simpa using h1
  cases hv;have hs:a.spot=none:=by
   simp only[Value.okWide,ht,Cell.okWide,Cell.ok] at hok;exact hok.2.2.2.1
  have hlen:q≤A.length:=by rw[J];split<;>omega
  refine⟨A.take q,aOg (fun _=>hs) (by simp;omega) E I (fun i hi=>?_),fun m hm=>?_,ChangeShapes.lits .i64 (A.take q),ChangeShapes.lits .i64 (A.drop q),.inr ⟨?_,?_⟩⟩
  ·rw[O i (by omega)];congr 2;simp[List.getD_eq_getElem?_getD,hi]
  ·have:=U m (Bb hm);simp only[Lit.wf,π,decide_eq_true_eq] at this;exact this
  ·have:=congrArg Prod.fst M;simpa using this
  ·simp[ChangeShapes.lits]
inductive BndV (st:St):Option Operand→Nat→Nat→Prop
 | no {m}:BndV st none m m
 | yes {x kk m k}:opv st x=some (I kk ((k:Nat):Int))→BndV st (some x) m k
def aQi:Option Operand→List Nat
 | none=>[]
 | some x=>opr x
section
variable {P:Program}{n:Nat}{o:Oper}{st:St}{d:Nat}{T:TT}
theorem BndV.val {G:Ctx}{S:Sto}{μ:Mu}{st':St}{a:Act}{w:World}{x:Option Operand}{m k:Nat}(h:BndV st x m k) (hs:Sim G n S μ st' a w) (ha:∀t∈aQi x,st'.e t=st.e t):
  (x=none∧k=m)∨∃kk,x.map a.eval=some (.int kk ((k:Nat):Int)):=by
 cases h with
 | no=>exact .inl ⟨rfl,rfl⟩
 | @yes x kk _ _ h=>exact .inr ⟨kk,by rw[B9,eG (aO hs h ha)]⟩
theorem vB {w:World}{b:Bool}{len cap lo hi:Nat}{low high:Option Value}(hl:(low=none∧lo=0)∨∃kk,low=some (.int kk ((lo:Nat):Int))) (hh:(high=none∧hi=len)∨∃kk,high=some (.int kk ((hi:Nat):Int))) (h1:lo≤hi) (h2:hi≤len) (q:len≤cap):
  (Instr.sliceBounds b len cap low high none).run P w=.ok (lo,hi,cap) w:=by
 have u:hi≤cap:=le_trans h2 q;rcases hl with⟨rfl,rfl⟩ | ⟨y,rfl⟩<;>rcases hh with⟨rfl,rfl⟩ | ⟨A,rfl⟩<;>simp[Instr.sliceBounds,Instr.sliceBound,asIntOf,h1,u]
theorem a16 {t e:TypeId}{i u:TI}{x:Operand}{low high:Option Operand}{es lo hi:Nat}{l:List (List C)}(E:Tok P T) (ho:o.op=.slice t x low high none) (hd:o.dst=some d) (I:d<n) (J:T[t]?=some (some i)) (hk:i.k=.sl e) (M:T[e]?=some (some u)) (O:u.size=es)
  (hx:opv st x=some (.one (.c (.sl es l)))) (U:BndV st low 0 lo) (Y:BndV st high l.length hi) (h1:lo≤hi) (h2:hi≤l.length):
  Step P n o st ⟨opr x++aQi low++aQi high,[]⟩ ⟨some (d,some (.one (.c (.sl es ((l.take hi).drop lo))))),[]⟩:=by
 refine Step.value hd I fun st' ha G S μ a w hs=>?_
 have hv:=aO hs hx fun t ht=>ha.1 t (by simp[ht])
 have hl:=U.val hs fun t ht=>ha.1 t (by simp[ht])
 have hh:=Y.val hs fun t ht=>ha.1 t (by simp[ht])
 simp only[aS,aZ,Rep] at hv;obtain⟨q,len,cap,p1,p2,p3,p4,p5,p6,b,of,p7,p8⟩:=hv;subst p2;have hb:=vB (P:=P) (w:=w) (b:=true) (low:=low.map a.eval) (high:=high.map a.eval) (len:=l.length) (cap:=cap) (by rcases hl with⟨rfl,h⟩ | h;exact .inl ⟨rfl,h⟩;exact .inr h) (by rcases hh with⟨rfl,h⟩ | h;exact .inl ⟨rfl,h⟩;exact .inr h) h1 h2 p3;refine⟨.slice (if cap=lo then q else q.map (·.add (lo*u.size))) (hi-lo) (cap-lo),?_,?_⟩
 ·have hu:=Ak ((E.get J).slice hk) w;simp only[execOp,ho,p1,Option.map_none,Aa,Instr.sliceAt,hu,δ,Instr.slice,hb,(E.get M).size_run w,Ad]
 ·simp only[aS,aZ,Rep];have hlen:((l.take hi).drop lo).length=hi-lo:=by simp;omega
  refine⟨_,_,_,rfl,hlen.symm,by omega,by omega,?_,?_,?_⟩
  ·intro e;have:q=none:=by
    split at e
    ·exact e
    ·cases q<;>simp at e;rfl
   obtain⟨A,B⟩:=p5 this;omega
  ·intro y e hcc;split at e
   ·omega
   ·cases q with
    | none=>cases e
    | some z=>
     simp at e;subst e;have:=p6 z rfl (by omega);obtain⟨zb,zo,zs⟩:=z;simp at this;subst this;rw[Addr.add_mid]
  ·by_cases hc:cap=lo
   ·have:(l.take hi).drop lo=[]:=Aw (by omega);rw[this];refine⟨b,of,fun y e=>p7 y (by rwa [ζ hc] at e),by simp[bI]⟩
   ·refine⟨b,of+lo*es,fun y e=>?_,(p8.take hi).drop lo⟩;rw[η hc] at e;cases q with
    | none=>cases e
    | some z=>
     simp at e;subst e;obtain⟨A,B⟩:=p7 z rfl;have:=p6 z rfl (by omega);obtain⟨zb,zo,zs⟩:=z;simp at this A B;subst this A B;rw[Addr.add_mid,O];exact⟨rfl,rfl⟩
theorem extract_mk (s:List UInt8) (lo hi:Nat):(ByteArray.mk ⟨s⟩).extract lo hi=⟨⟨(s.take hi).drop lo⟩⟩:=by
 apply ByteArray.ext;simp;rw[drop_take]
theorem aXq {t:TypeId}{i:TI}{x:Operand}{low high:Option Operand}{lo hi:Nat}{s:List UInt8}(B:Tok P T) (ho:o.op=.slice t x low high none) (E:o.dst=some d) (q:d<n) (u:T[t]?=some (some i)) (I:i.k=.str)
  (hx:opv st x=some (Go.AM.T s)) (y:BndV st low 0 lo) (A:BndV st high s.length hi) (h1:lo≤hi) (h2:hi≤s.length):
  Step P n o st ⟨opr x++aQi low++aQi high,[]⟩ ⟨some (d,some (Go.AM.T ((s.take hi).drop lo))),[]⟩:=by
 refine Step.value E q fun st' ha G S μ a w hs=>?_
 have hv:=mS (aO hs hx fun t ht=>ha.1 t (by simp[ht]));have hl:=y.val hs fun t ht=>ha.1 t (by simp[ht])
 have hh:=A.val hs fun t ht=>ha.1 t (by simp[ht])
 have hb:=vB (P:=P) (w:=w) (b:=false) (low:=low.map a.eval) (high:=high.map a.eval) (len:=s.length) (cap:=s.length) (by rcases hl with⟨rfl,h⟩ | h;exact .inl ⟨rfl,h⟩;exact .inr h) (by rcases hh with⟨rfl,h⟩ | h;exact .inl ⟨rfl,h⟩;exact .inr h) h1 h2 (le_refl _);refine⟨.string ⟨⟨(s.take hi).drop lo⟩⟩,?_,by simp[aS,aZ,Rep]⟩;have hu:=Ak ((B.get u).str I) w;have hsz:(ByteArray.mk ⟨s⟩).size=s.length:=rfl;simp only[execOp,ho,hv,Option.map_none,Aa,Instr.sliceAt,hu,δ,Instr.slice,hsz,hb,Option.isSome_none,Ax,Bw,Ad,extract_mk]
theorem aRe {t:TypeId}{i:TI}{x y:Operand}{s:List UInt8}{kk:IntKind}{m:Int}{k:Nat}{b:UInt8}(B:Tok P T) (ho:o.op=.index t x y) (E:o.dst=some d) (q:d<n) (u:T[t]?=some (some i)) (J:i.k=.str)
  (hx:opv st x=some (Go.AM.T s)) (hy:opv st y=some (I kk m)) (hm:m=(k:Int)) (hb:s[k]?=some b):Step P n o st ⟨opr x++opr y,[]⟩ ⟨some (d,some (I .u8 ((b.toNat:Nat):Int))),[]⟩:=by
 refine Step.value E q fun st' ha G S μ a w hs=>?_
 have hv:=mS (aO hs hx fun t ht=>ha.1 t (by simp[ht]));have h2:=eG (aO hs hy fun t ht=>ha.1 t (by simp[ht]));subst hm;refine⟨.int .u8 ((b.toNat:Nat):Int),?_,by simp[aS,aZ,Rep]⟩;have hu:=Ak ((B.get u).str J) w;have M:(ByteArray.mk ⟨s⟩)[k]?=some b:=by
  have A:=(Ah.1 hb).1
  have hsz:(ByteArray.mk ⟨s⟩).size=s.length:=rfl;rw[getElem?_pos (ByteArray.mk ⟨s⟩) k (by rw[hsz];exact A)];have:=(Ah.1 hb).2
  rw[←this];rfl
 simp only[execOp,ho,hv,h2,Aa,Instr.index,asIntOf,Ad,δ,hu];simp[M]
theorem aXy {t1 t2:TypeId}{x y:Operand}{k:IntKind}{a b r:Int}(ho:o.op=.call { callee:=.builtin .min,args:= #[x,y],argTypes:= #[t1,t2] }) (u:o.dst=some d) (q:d<n) (hx:opv st x=some (I k a)) (hy:opv st y=some (I k b)) (A:(if b<a then b else a)=r):
  Step P n o st ⟨opr x++opr y,[]⟩ ⟨some (d,some (I k r)),[]⟩:=by
 refine Step.value u q fun st' ha G S μ ac w hs=>?_
 have h1:=eG (aO hs hx fun t h=>ha.1 t (by simp[h]));have h2:=eG (aO hs hy fun t h=>ha.1 t (by simp[h]));refine⟨.int k r,?_,by simp[aS,aZ,Rep]⟩;simp only[execOp,ho,resolve,map_toArray,Ar,Ca,h1,h2,Aa,Ad,δ,invoke,builtin,Builtin.min_,List.foldlM_cons,List.foldlM_nil,Builtin.min2,A]
end
section
variable {P:Program}{n:Nat}{o:Oper}{st:St}{d:Nat}{T:TT}
theorem mB.rarr {S:Sto}{μ:Mu}{H:cF}{w:World}{id:Nat}{te es:Nat}{elems:List (List R)}(h:mB S μ H w id (.rarr te es elems)) {b base cap:Nat}(hm:μ id=some (b,base,cap)):
  (∀r∈elems,r.length=es)∧∃vs,w.heap[b]?=some (.cells ⟨vs⟩ te (0,0))∧base+cap*es≤vs.length∧elems.length≤cap∧(cap≤maxLen∧S.mapo b=none)∧aT S μ H elems.flatten ((vs.drop base).take (elems.length*es))∧(∀o,base≤o→S.cell b o=none):=by
 obtain⟨h0,h1 | ⟨J,q,u,vs,h1,h2,y,A,B,E,I⟩⟩:=h
 ·rw[h1.1] at hm;cases hm
 ·rw[h1] at hm;cases hm;exact⟨h0,vs,h2,y,A,B,E,I⟩
def wJ (st:St) (es:Nat):Nat→List (Nat×Operand)→Option (List (List R))
 | _,[]=>some []
 | k,(i,x)::ps=>bif Nat.beq i k then(opv st x).bind fun v=>(iK v).bind fun rs=>bif Nat.beq rs.length es then(wJ st es (k+1) ps).bind fun l=>some (rs::l) else none else none
theorem zF {es:Nat}:∀{ps:List (Nat×Operand)}{k:Nat}{l:List (List R)},wJ st es k ps=some l→l.length=ps.length∧∀r∈l,r.length=es
 | [],k,l,h=>by simp[wJ] at h;subst h;simp
 | (i,x)::ps,k,l,h=>by
  simp only[wJ] at h;cases hi:Nat.beq i k with
  | false=>rw[hi] at h;cases h
  | true=>
   rw[hi] at h;simp only[B1,Ae] at h;obtain⟨v,hv,rs,y,h⟩:=h;cases hl:Nat.beq rs.length es with
   | false=>rw[hl] at h;cases h
   | true=>
    rw[hl] at h;simp only[B1,Ae] at h;obtain⟨A,u,h⟩:=h;cases h;obtain⟨h1,h2⟩:=zF u;refine⟨by simp[h1],fun r q=>?_⟩;rcases Aq.1 q with rfl | q
    ·exact τ hl
    ·exact h2 r q
theorem aG3 {G:Ctx}{S:Sto}{μ:Mu}{st':St}{a:Act}{w:World}(hs:Sim G n S μ st' a w) {es:Nat}:∀{k:Nat}{ps:List (Nat×Operand)}{rows:List (List R)},wJ st es k ps=some rows→(∀t∈gD ps,st'.e t=st.e t)→
  ∀(cells:Array Value),cells.size=(k+ps.length)*es→∃out:Array Value,Instr.fill (fun i=>some (i*es,es)) cells (ps.map fun(i,x)=>(i,a.eval x))=some out∧out.size=cells.size∧
   ∃us,aT S μ st'.h rows.flatten us∧out.toList=cells.toList.take (k*es)++us:=by
 intro k ps
 induction ps generalizing k with
 | nil=>
  intro rows h _ cells hc;simp only[wJ] at h;cases h;refine⟨cells,rfl,rfl,[],by simp[aT],?_⟩;rw[Ay,Au];simp at hc;simp[hc]
 | cons p ps M=>
  obtain⟨i,x⟩:=p;intro rows h ha cells hsz;simp only[wJ] at h;cases hi:Nat.beq i k with
  | false=>rw[hi] at h;cases h
  | true=>
   rw[hi] at h;have B:=τ hi;subst B;simp only[B1,Ae] at h;obtain⟨v,hv,rs,E,h⟩:=h;cases hl:Nat.beq rs.length es with
   | false=>rw[hl] at h;cases h
   | true=>
    rw[hl] at h;simp only[B1,Ae] at h;obtain⟨l',y,h⟩:=h;cases h;have Y:=τ hl;have hrel:=dZ (aO hs hv fun t ht=>ha t (by simp[gD,ht])) E;have I:=hrel.length;simp only[A6] at I;simp only[ω] at hsz;have aa:(i+(ps.length+1))*es=i*es+es+ps.length*es:=by
     rw[Be,Be];omega
    have A:=pK (i*es) (a.eval x).cells.toList 0 cells (by simp only[A6];omega);have u:(bW cells.toList (i*es) (a.eval x).cells.toList).length=cells.size:=by
     unfold bW;simp;omega
    obtain⟨out,h1,h2,us,O,U⟩:=M y (fun t ht=>ha t (by simp[gD,ht])) ⟨bW cells.toList (i*es) (a.eval x).cells.toList⟩ (by
     simp only[size_toArray,u,hsz];congr 1
     omega)
    refine⟨out,?_,by rw[h2];simpa using u,(a.eval x).cells.toList++us,?_,?_⟩
    ·simp only[Ar,Instr.fill];have q:((a.eval x).cells.size≠es || decide (i*es+(a.eval x).cells.size>cells.size))=false:=by
      simp only[Bool.or_eq_false_iff,decide_eq_false_iff_not];exact⟨by simp;omega,by omega⟩
     simp only[q,Ax,Bw];have J:((a.eval x).cells.zipIdx.foldl (fun cs (x:Value×Nat)=>cs.setIfInBounds (i*es+x.2) x.1) cells)=⟨bW cells.toList (i*es) (a.eval x).cells.toList⟩:=by
      rw[←Array.foldl_toList,Array.toList_zipIdx];simpa using A
     rw[←h1];congr 1
    ·rw[Bj];exact hrel.append O
    ·rw[U];have:(bW cells.toList (i*es) (a.eval x).cells.toList).take ((i+1)*es)=cells.toList.take (i*es)++(a.eval x).cells.toList:=by
      unfold bW;apply take_left';simp;rw[Be];omega
     show(bW cells.toList (i*es) (a.eval x).cells.toList).take ((i+1)*es)++us=_;rw[this,Aj]
theorem aOi {t e:TypeId}{i q:TI}{len:Nat}{parts:Array (Nat×Operand)}{rows:List (List R)}(id:Nat) (B:Tok P T) (ho:o.op=.buildSlice t len parts) (hd:o.dst=some d) (ab:d<n) (hi:T[t]?=some (some i)) (hk:i.k=.sl e) (y:T[e]?=some (some q))
  (A:wJ st q.size 0 parts.toList=some rows) (hlen:Nat.beq len parts.size=true) (E:Nat.ble (len*q.size) 16777216=true) (O:Nat.ble len 16777216=true) (hid:st.h id=none):
  Step P n o st ⟨gD parts.toList,[id]⟩ ⟨some (d,some (.one (.ra id 0 len len))),[(id,some (.rarr e q.size rows))]⟩:=by
 refine Step.new hd ab hid (by simp) fun st' ha U G S μ a w hs=>?_
 have J:=τ hlen;have hsm:=Ap E;obtain⟨z,hz,hzr,_⟩:=(B.get y).zero_run;have M:=(hzr S).length;rw[(B.get y).len] at M;simp only[A6] at M;obtain⟨hrl,hrw⟩:=zF A;simp only[A6] at hrl;have key:∀(cells:Array Value),cells.size=len*q.size→∃out:Array Value,Instr.fill (fun i=>some (i*q.size,q.size)) cells (parts.map fun(i,x)=>(i,a.eval x)).toList=some out∧out.size=len*q.size∧aT S μ st'.h rows.flatten out.toList:=by
  intro cells hc;obtain⟨out,h1,h2,us,u,h4⟩:=aG3 hs A ha.1 cells (by rw[hc,J];simp);refine⟨out,by rw[←h1];simp,by rw[h2,hc],?_⟩;simp at h4;rw[h4];exact u
 have Y:∃out:Array Value,(Instr.buildSlice t len (parts.map fun(i,x)=>(i,a.eval x))).run P w=.ok (.slice (some ⟨w.heap.size,0,none⟩) len len) (w.alloc (.cells out e))∧out.size=len*q.size∧aT S μ st'.h rows.flatten out.toList:=by
  by_cases h0:len*q.size=0
  ·obtain⟨out,h1,h2,u⟩:=key ((Array.range (len*q.size)).map ((#[]:Array Value)[· %(#[]:Array Value).size]!)) (by simp);refine⟨out,?_,h2,u⟩;have I:¬len*q.size>2^24:=by omega
   simp only[Instr.buildSlice,Aa,Ak ((B.get hi).slice hk) w,δ,(B.get y).size_run w];rw[η I,ζ h0];simp only[Aa,δ,Ad,h1,iU]
  ·obtain⟨out,h1,h2,u⟩:=key ((Array.range (len*q.size)).map (z.cells[· %z.cells.size]!)) (by simp);refine⟨out,?_,h2,u⟩;have I:¬len*q.size>2^24:=by omega
   simp only[Instr.buildSlice,Aa,Ak ((B.get hi).slice hk) w,δ,(B.get y).size_run w];rw[η I,η h0];simp only[Aa,hz w,δ,Ad,h1,iU]
 obtain⟨out,h1,h2,u⟩:=Y;have hlm:len≤maxLen:=by
  have:=Ap O;unfold maxLen;omega
 have aa:rows.length=len:=by omega
 refine⟨_,_,.slice (some ⟨w.heap.size,0,none⟩) len len,(0,len),?_,WChg.alloc w (.cells out e),?_,?_⟩
 ·simp only[execOp,ho,Aa,h1,δ,Ad]
 ·refine⟨hrw,.inr ⟨w.heap.size,0,len,out.toList,aN _ _ _,B2 w _,by simp[h2],by omega,⟨hlm,rE hs.inv⟩,?_,fun o _=>fU hs.inv o⟩⟩;simp only[B8];rw[Au (by simp[h2,aa])];exact aT.evolve (gM U _ _) _ _ u
 ·simp only[aS,aZ];exact⟨⟨_,_,_,rfl⟩,.inr ⟨e,q.size,rows,aN _ _ _,by omega,fun _=>⟨by omega,.inr ⟨w.heap.size,0,len,aN _ _ _,by simp⟩⟩⟩⟩
theorem aG8 {t e:TypeId}{i A:TI}{x y:Operand}{te es k id off len sz:Nat}{kk:IntKind}{m:Int}{elems:List (List R)}(Y:Tok P T) (ho:o.op=.indexAddr t x y) (hd:o.dst=some d) (B:d<n) (hi:T[t]?=some (some i)) (hk:i.k=.sl e) (E:T[e]?=some (some A)) (J:A.size=es)
  (hx:opv st x=some (.one (.ra id off len sz))) (hh:st.h id=some (.rarr te es elems)) (hsz:sz=elems.length) (hy:opv st y=some (I kk m)) (hm:m=(k:Int)) (M:k<len):Step P n o st ⟨opr x++opr y,[id]⟩ ⟨some (d,some (.one (.rp id (off+k) 0 sz))),[]⟩:=by
 refine Step.value hd B fun st' ha G S μ a w hs=>?_
 have hv:=aO hs hx fun t ht=>ha.1 t (by simp[ht])
 have O:=eG (aO hs hy fun t ht=>ha.1 t (by simp[ht]));have q:st'.h id=some (.rarr te es elems):=by rw[ha.2 id (by simp),hh]
 simp only[aS,aZ] at hv;obtain⟨_,hv | ⟨te',es',elems',h1,h2,h3⟩⟩:=hv
 ·rw[q] at hv;cases hv
 rw[q] at h1;cases h1;obtain⟨h4,⟨U,u,h7⟩ | ⟨b,base,cap,U,u⟩⟩:=h3 hsz
 ·subst u;simp at hsz;omega
 subst hm;refine⟨.pointer (some ⟨b,base+(off+k)*es+0,none⟩),?_,?_⟩
 ·simp only[execOp,ho,u,O,Aa,lE Y hi hk E w b (base+off*es) len _ k kk M,δ,Ad,J,Ct];rw[show base+off*es+k*es=base+(off+k)*es by rw[Be];omega]
 ·simp only[aS,aZ];exact⟨⟨_,rfl⟩,.inr ⟨te,es,elems,q,h2,fun _=>⟨by omega,b,base,cap,U,rfl⟩⟩⟩
theorem aHb {t y:TypeId}{i A:TI}{fs:List (Nat×TypeId)}{f q:Nat}{x:Operand}{id k fo sz:Nat}(I:Tok P T) (ho:o.op=.fieldAddr t x f) (J:o.dst=some d) (B:d<n) (hi:T[t]?=some (some i)) (M:i.k=.st fs) (O:fs[f]?=some (q,y)) (E:T[y]?=some (some A)) (U:A.size≠0)
  {te es:Nat} {elems:List (List R)} (hx:opv st x=some (.one (.rp id k fo sz))) (hh:st.h id=some (.rarr te es elems)) (hsz:sz=elems.length):Step P n o st ⟨opr x,[id]⟩ ⟨some (d,some (.one (.rp id k (fo+q) sz))),[]⟩:=by
 refine Step.value J B fun st' ha G S μ a w hs=>?_
 have hv:=aO hs hx ha.1;have u:st'.h id=some (.rarr te es elems):=by rw[ha.2 id (by simp),hh]
 simp only[aS,aZ] at hv;obtain⟨_,hv | ⟨te',es',elems',h1,h2,Y⟩⟩:=hv
 ·rw[u] at hv;cases hv
 rw[u] at h1;cases h1;obtain⟨h4,b,base,cap,h5,h6⟩:=Y hsz;refine⟨.pointer (some ⟨b,base+k*es+fo+q,none⟩),?_,?_⟩
 ·simp only[execOp,ho,h6,Aa,jB I hi M O E U,δ,Ad]
 ·simp only[aS,aZ];exact⟨⟨_,rfl⟩,.inr ⟨te,es,elems,u,h2,fun _=>⟨h4,b,base,cap,h5,by rw[add_assoc]⟩⟩⟩
theorem aOn {t e:TypeId}{i:TI}{x:Operand}{te es id off len sz:Nat}{elems:List (List R)}(y:Tok P T) (ho:o.op=.call { callee:=.builtin .len,args:= #[x],argTypes:= #[t] }) (E:o.dst=some d) (A:d<n) (hi:T[t]?=some (some i)) (B:i.k=.sl e)
  (hx:opv st x=some (.one (.ra id off len sz))) (hh:st.h id=some (.rarr te es elems)) (hsz:sz=elems.length):Step P n o st ⟨opr x,[id]⟩ ⟨some (d,some (I .i64 (len:Int))),[]⟩:=by
 refine Step.value E A fun st' ha G S μ a w hs=>?_
 have hv:=aO hs hx ha.1;have q:st'.h id=some (.rarr te es elems):=by rw[ha.2 id (by simp),hh]
 simp only[aS,aZ] at hv;obtain⟨_,hv | ⟨U,Y,elems',h1,h2,J⟩⟩:=hv
 ·rw[q] at hv;cases hv
 rw[q] at h1;cases h1;obtain⟨h4,⟨M,u,O⟩ | ⟨b,base,cap,M,u⟩⟩:=J hsz
 ·have hl:len=0:=by subst u;simp at hsz;omega
  subst hl;refine⟨goInt 0,lD ho O ?_,by simp[aS,aZ,Rep,goInt]⟩;simp[Builtin.len_,Ak ((y.get hi).slice B) w]
 ·refine⟨goInt len,lD ho u ?_,by simp[aS,aZ,Rep,goInt]⟩;simp[Builtin.len_,Ak ((y.get hi).slice B) w]
theorem aJh {S:Sto}{μ:Mu}{H:cF}{es base:Nat}{elems:List (List R)}{vs:List Value}(h0:∀r∈elems,r.length=es) (h:aT S μ H elems.flatten ((vs.drop base).take (elems.length*es))) {k:Nat}{r:List R}(q:elems[k]?=some r):
  aT S μ H r ((vs.drop (base+k*es)).take es):=by
 have u:k<elems.length:=(Ah.1 q).1
 have hmul:(k+1)*es≤elems.length*es:=A2 _ u;rw[Be] at hmul;have h1:=(h.drop (k*es)).take es;rw[sZ h0 k r q] at h1;rw[drop_take,take_take,Cx,C4 (by omega)] at h1;exact h1
theorem aJq {t te es:Nat}{i:TI}{x:Operand}{id k fo sz:Nat}{elems:List (List R)}{r:List R}{y:V}(O:Tok P T) (ho:o.op=.load t x) (U:o.dst=some d) (E:d<n) (hi:T[t]?=some (some i)) (hx:opv st x=some (.one (.rp id k fo sz)))
  (hh:st.h id=some (.rarr te es elems)) (hsz:sz=elems.length) (I:elems[k]?=some r) (hl:fo+i.size≤es) (hy:lO i ((r.drop fo).take i.size)=some y):Step P n o st ⟨opr x,[id]⟩ ⟨some (d,some y),[]⟩:=by
 refine Step.value U E fun st' ha G S μ a w hs=>?_
 have hv:=aO hs hx ha.1;have u:st'.h id=some (.rarr te es elems):=by rw[ha.2 id (by simp),hh]
 simp only[aS,aZ] at hv;obtain⟨_,hv | ⟨te',es',elems',h1,h2,Y⟩⟩:=hv
 ·rw[u] at hv;cases hv
 rw[u] at h1;cases h1;obtain⟨h4,b,base,cap,h5,h6⟩:=Y hsz;obtain⟨g0,vs,g1,g2,g3,g4,g5,g6⟩:=(hs.inv.obj id _ u).rarr h5;have B:=aJh g0 g5 I;have q:=(B.drop fo).take i.size;rw[drop_take,take_take,Cx,C4 (by omega)] at q;have hlt:k<elems.length:=(Ah.1 I).1
 have hmul:(k+1)*es≤cap*es:=A2 _ (by omega);rw[Be] at hmul;have J:((vs.drop (base+k*es+fo)).take i.size).length=i.size:=a2s (by omega);have M:=lG g1 (base+k*es+fo) i.size;refine⟨_,?_,mV q hy⟩;have A:=run_load (O.get hi) w b (base+k*es+fo) _ M J;simp only[execOp,ho,h6,Aa,Ad] at A ⊢;rw[A];rfl
theorem wO {x:Operand}{te es id k fo sz:Nat}{elems:List (List C)}{fz:Nat}(ho:o.op=.nilCheck x) (y:o.dst=some d) (u:d<n) (hx:opv st x=some (.one (.ep id k fo sz))) (hh:st.h id=some (.arr te es elems fz)) (hsz:sz=elems.length):
  Step P n o st ⟨opr x,[id]⟩ ⟨some (d,some (.one (.ep id k fo sz))),[]⟩:=by
 refine Step.value y u fun st' ha G S μ a w hs=>⟨a.eval x,?_,aO hs hx ha.1⟩
 have hv:=aO hs hx ha.1;have q:st'.h id=some (.arr te es elems fz):=by rw[ha.2 id (by simp),hh]
 simp only[aS,aZ] at hv;obtain⟨_,hv | ⟨E,I,elems',J,h1,h2,A⟩⟩:=hv
 ·rw[q] at hv;cases hv
 rw[q] at h1;cases h1;obtain⟨M,b,base,cap,O,B⟩:=A hsz;simp[execOp,ho,B]
theorem wN {x:Operand}{te es id k fo sz:Nat}{elems:List (List R)}(ho:o.op=.nilCheck x) (y:o.dst=some d) (u:d<n) (hx:opv st x=some (.one (.rp id k fo sz))) (hh:st.h id=some (.rarr te es elems)) (hsz:sz=elems.length):
  Step P n o st ⟨opr x,[id]⟩ ⟨some (d,some (.one (.rp id k fo sz))),[]⟩:=by
 refine Step.value y u fun st' ha G S μ a w hs=>⟨a.eval x,?_,aO hs hx ha.1⟩
 have hv:=aO hs hx ha.1;have q:st'.h id=some (.rarr te es elems):=by rw[ha.2 id (by simp),hh]
 simp only[aS,aZ] at hv;obtain⟨_,hv | ⟨E,I,elems',h1,h2,A⟩⟩:=hv
 ·rw[q] at hv;cases hv
 rw[q] at h1;cases h1;obtain⟨J,b,base,cap,M,B⟩:=A hsz;simp[execOp,ho,B]
end
section
variable {P:Program}{n:Nat}{o:Oper}{st:St}{d:Nat}{T:TT}
theorem vW {t e:TypeId}{i q:TI}{x y:Operand}{id id2 sz te2:Nat}{elems rows:List (List R)}{st':St}{G:Ctx}{S:Sto}{μ:Mu}{a:Act}{w:World}(hT:Tok P T) (ho:o.op=.call { callee:=.builtin .append,args:= #[x,y],argTypes:= #[t,t] })
  (hi:T[t]?=some (some i)) (hk:i.k=.sl e) (hei:T[e]?=some (some q)) (hes:Nat.ble 1 q.size=true) (heb:Nat.ble 1 q.bytes=true)
  (hsz:sz=elems.length) (hpos:0<rows.length) (hroom:(elems.length+rows.length)*q.bytes≤140737488355328) (hh':st'.h id=some (.rarr e q.size elems)) (hs:Sim G n S μ st' a w)
  (hvx:aS S μ st'.h (.one (.ra id 0 sz sz)) (a.eval x)) (hvy:aS S μ st'.h (.one (.ra id2 0 rows.length rows.length)) (a.eval y)) (hh2:st'.h id2=some (.rarr te2 q.size rows)):
  ∃w' v b bo c,(execOp a.eval o).run P w=.ok (.value v) w'∧(w.heap.size≤b∨∃c',μ id=some (b,c'))∧WChg w w' b bo∧
   mB S (upd μ id (some (b,c))) (upd st'.h id (some (.rarr e q.size (elems++rows)))) w' id (.rarr e q.size (elems++rows))∧(∀o v,S.cell b o=some v→∃vs t fr,bo=.cells vs t fr∧vs[o]?=some v)∧(∀m,S.mapo b=some m→w.heap.size≤b)∧
   Evolve S μ st'.h S (upd μ id (some (b,c))) (upd st'.h id (some (.rarr e q.size (elems++rows))))∧
   aS S (upd μ id (some (b,c))) (upd st'.h id (some (.rarr e q.size (elems++rows)))) (.one (.ra id 0 (elems.length+rows.length) (elems.length+rows.length))) v:=by
 subst hsz;have hes':=Ap hes;have heb':=Ap heb
 have hE:∀b c,Evolve S μ st'.h S (upd μ id (some (b,c))) (upd st'.h id (some (.rarr e q.size (elems++rows)))):=fun b c=>⟨S.le_refl,fun j x hj=>by
  by_cases hne:j=id
  ·subst hne;rw[hh'] at hj;cases hj;exact⟨_,aN _ _ _,by simp only[AObj.succ,true_and];exact⟨by simp,fun e=>by rw[ψ] at e;omega⟩⟩
  ·exact⟨x,by rw[bJ _ _ _ hne];exact hj,x.succ_refl (bJ _ _ _ hne)⟩⟩
 obtain⟨ad,cc,news,hvy1,B,hrl,J⟩:∃ad cc news,a.eval y=.slice (some ad) rows.length cc∧aT S μ st'.h rows.flatten news∧(∀r∈rows,r.length=q.size)∧∀j u,news[j]?=some u→w.cell? (ad.add j)=some u:=by
  simp only[aS,aZ] at hvy;obtain⟨_,hv | ⟨te',es',elems',h1,h2,h3⟩⟩:=hvy
  ·rw[hh2] at hv;cases hv
  rw[hh2] at h1;cases h1;obtain⟨h4,⟨h5,M,h7⟩ | ⟨b,base,cap,h5,M⟩⟩:=h3 rfl
  ·rw[M] at hpos;simp at hpos
  obtain⟨g0,vs,g1,g2,g3,g4,g5,g6⟩:=(hs.inv.obj id2 _ hh2).rarr h5;refine⟨_,_,_,M,g5,g0,fun j u hj=>?_⟩;rw[Addr.add_mid,cell_of_row w b _ ⟨vs⟩ te2 (0,0) g1];rw[An] at hj;split at hj
  ·rw[Ao] at hj;simpa using hj
  ·cases hj
 have E:news.length=rows.length*q.size:=by rw[B.length,jH hrl]
 obtain⟨inf,dd,z,g1,g2,g3,g4,g5,g6,g7,g8⟩:=(hT.get hei).ex;have hu:=(hT.get hi).slice hk;have hzs:z.cells.size=q.size:=by
  have h1:=(iY (S:=S) g7).length;rw[(hT.get hei).len] at h1;simpa using h1
 simp only[aS,aZ] at hvx;obtain⟨_,hv | ⟨te',es',elems',h1,h2,h3⟩⟩:=hvx
 ·rw[hh'] at hv;cases hv
 rw[hh'] at h1;cases h1;obtain⟨h4,hcase⟩:=h3 rfl;have hbig:elems.length+rows.length≤140737488355328:=by
  have:(elems.length+rows.length)*1≤(elems.length+rows.length)*q.bytes:=mul_le_mul_left _ heb';omega
 have hone:∀u∈news,u.oneCell'=true:=B.one;have hcap:∀old,elems.length+rows.length≤grownCap w (elems.length+rows.length) old e∧grownCap w (elems.length+rows.length) old e≤maxLen:=fun old=>
  ⟨grownCap_ge _ _ _ _,grownCap_le_maxLen _ _ _ _ (by unfold maxLen;omega)⟩
 have hlen':(elems++rows).length=elems.length+rows.length:=by simp
 have I:∀(O:List Value) (old:Nat),aT S μ st'.h elems.flatten O→∀g0:(∀r∈elems,r.length=q.size),
   mB S (upd μ id (some (w.heap.size,0,grownCap w (elems.length+rows.length) old e))) (upd st'.h id (some (.rarr e q.size (elems++rows))))
    (w.drew.alloc (.cells (O.toArray++news.toArray++Builtin.zeroCells z.cells (grownCap w (elems.length+rows.length) old e-(elems.length+rows.length))) e)) id (.rarr e q.size (elems++rows)):=by
  intro O old hol g0;obtain⟨hc1,hc2⟩:=hcap old;have U:=hol.length;rw[jH g0] at U;refine⟨?_,.inr ⟨w.heap.size,0,grownCap w (elems.length+rows.length) old e,(O.toArray++news.toArray++Builtin.zeroCells z.cells (grownCap w (elems.length+rows.length) old e-(elems.length+rows.length))).toList,aN _ _ _,B2 w.drew _,?_,by simpa using hc1,⟨hc2,rE hs.inv⟩,?_,fun o _=>fU hs.inv o⟩⟩
  ·intro r A;rcases A4.1 A with A | A
   ·exact g0 r A
   ·exact hrl r A
  ·simp only[Array.toList_append,ψ,A6,size_zeroCells,hzs];simp only[U,E,Bk,←Be];exact A2 _ (by omega)
  ·simp only[Array.toList_append,B8,ψ,Cy];rw[Cc (by simp[U,E,Be]),Au (by simp[U,E,Be])];exact(aT.evolve (hE _ _) _ _ hol).append (aT.evolve (hE _ _) _ _ B)
 rcases hcase with⟨h5,M,h7⟩ | ⟨b,base,cap,h5,M⟩
 ·--the first elements
  subst M;simp only[length_nil,Bk] at hroom hbig I hcap;have A:=run_append_nil (P:=P) w t o.type e inf z hu g1 g6 ad rows.length cc news (by rw[E,g3]) J (by omega) (by omega) (by rw[g4];omega);refine⟨_,_,w.heap.size,_,(0,grownCap w rows.length 0 e),fG ho h7 hvy1 A,.inl (le_refl _),WChg.alloc_drew w _,?_,fun o v e=>(by rw[fU hs.inv o] at e;cases e),fun m e=>le_refl _,hE _ _,?_⟩
  ·have:=I [] 0 (by simp[aT]) (by simp);simpa using this
  ·simp only[aS,aZ];exact⟨⟨_,_,_,rfl⟩,.inr ⟨e,q.size,_,aN _ _ _,by simp,fun _=>⟨by simp,.inr ⟨w.heap.size,0,_,aN _ _ _,by simp⟩⟩⟩⟩
 ·obtain⟨q0,vs,q1,q2,q3,q4,q5,q6⟩:=(hs.inv.obj id _ hh').rarr h5;have hce:elems.length*q.size≤cap*q.size:=A2 _ q3;simp only[sub_zero,zero_mul,Ct] at M;by_cases Y:elems.length+rows.length≤cap
  ·--there is room
   have hce2:(elems.length+rows.length)*q.size≤cap*q.size:=A2 _ Y;rw[Be] at hce2;have A:=lW (P:=P) w t o.type e inf hu g1 b base elems.length cap ⟨vs⟩ q1 ad rows.length cc news (by rw[E,g3]) J hone Y (by rw[g3,E];simp only[size_toArray];omega);rw[g3] at A;have hW:=WChg.setRow w b ⟨vs⟩ ⟨vs.take (base+elems.length*q.size)++news++vs.drop (base+elems.length*q.size+news.length)⟩ e (0,0) q1
   refine⟨_,_,b,_,(base,cap),fG ho M hvy1 A,.inr ⟨_,h5⟩,hW,⟨?_,.inr ⟨b,base,cap,_,aN _ _ _,hW.new,?_,by rw[hlen'];omega,q4,?_,q6⟩⟩,fun o v e=>(by
     by_cases hb:base≤o
     ·rw[q6 o hb] at e;cases e
     ·obtain⟨vs0,t0,fr0,p1,p2⟩:=hs.inv.holds.1 b o v e;rw[q1] at p1;cases p1;refine⟨_,_,_,rfl,?_⟩;simp only[Cr] at p2 ⊢;have hlt:o<vs.length:=(Ah.1 p2).1
      rw[Aj,Bc (by simp;omega),An,ζ (by omega)]
      exact p2),fun m e=>gL q4.2 m e,hE _ _,?_⟩
   ·intro r A;rcases A4.1 A with A | A
    ·exact q0 r A
    ·exact hrl r A
   ·simp only[ψ,Ai,Bi];omega
   ·rw[hlen',Cy];have e1:((vs.take (base+elems.length*q.size)++news++vs.drop (base+elems.length*q.size+news.length)).drop base).take ((elems.length+rows.length)*q.size)=(vs.drop base).take (elems.length*q.size)++news:=by
     rw[Aj,Bp (by simp;omega),←Aj,Cc (by simp[Be];omega)];rw[Au (by simp[Be];omega),drop_take];rw[show base+elems.length*q.size-base=elems.length*q.size by omega]
    rw[e1];exact(aT.evolve (hE _ _) _ _ q5).append (aT.evolve (hE _ _) _ _ B)
   ·simp only[aS,aZ];exact⟨⟨_,_,_,rfl⟩,.inr ⟨e,q.size,_,aN _ _ _,by simp,fun _=>⟨by simp,.inr ⟨b,base,cap,aN _ _ _,by simp⟩⟩⟩⟩
  ·--into a new block
   have A:=run_append_grow (P:=P) w t o.type e inf z hu g1 g6 ⟨b,base,none⟩ elems.length cap ((vs.drop base).take (elems.length*q.size)) (by rw[g3];simp;omega) (by
     intro j v hj;rw[Addr.add_mid,cell_of_row w b _ ⟨vs⟩ e (0,0) q1];rw[An] at hj;split at hj
     ·rw[Ao] at hj;simpa using hj
     ·cases hj) ad rows.length cc news (by rw[E,g3]) J (by omega) (by omega) (by rw[g4];exact growslice_fits (by omega) hroom)
   refine⟨_,_,w.heap.size,_,(0,grownCap w (elems.length+rows.length) cap e),fG ho M hvy1 A,.inl (le_refl _),WChg.alloc_drew w _,?_,fun o v e=>(by rw[fU hs.inv o] at e;cases e),fun m e=>le_refl _,hE _ _,?_⟩
   ·have:=I _ cap q5 q0;simpa using this
   ·simp only[aS,aZ];exact⟨⟨_,_,_,rfl⟩,.inr ⟨e,q.size,_,aN _ _ _,by simp,fun _=>⟨by simp,.inr ⟨w.heap.size,0,_,aN _ _ _,by simp⟩⟩⟩⟩
theorem aE7 {y:V}{id te es:Nat}{elems:List (List R)}(M:o.dst=some d) (A:d<n) {st':St}{G:Ctx}{S:Sto}{μ:Mu}{a:Act}{w:World}{K:Act→World→Prop}{Q:Exit→Act→World→Prop}
  (hs:Sim G n S μ st' a w) (q:∀b c',μ id=some (b,c')→∃ao,st'.h id=some ao) (O:∀S' μ' B w',Sim G n S' μ' (Eff.apply ⟨some (d,some y),[(id,some (.rarr te es elems))]⟩ st') B w'→K B w')
  (h:∃w' v b u c,(execOp a.eval o).run P w=.ok (.value v) w'∧(w.heap.size≤b∨∃c',μ id=some (b,c'))∧WChg w w' b u∧mB S (upd μ id (some (b,c))) (upd st'.h id (some (.rarr te es elems))) w' id (.rarr te es elems)∧
   (∀o v,S.cell b o=some v→∃vs t U,u=.cells vs t U∧vs[o]?=some v)∧(∀m,S.mapo b=some m→w.heap.size≤b)∧Evolve S μ st'.h S (upd μ id (some (b,c))) (upd st'.h id (some (.rarr te es elems)))∧aS S (upd μ id (some (b,c))) (upd st'.h id (some (.rarr te es elems))) y v):
  ∀ro,o.wpIn (Wd ro) 0 P a w K Q:=by
 obtain⟨w',v,b,u,c,Y,hb,hw,hO,hS,E,I,hv⟩:=h;refine fun ro=>fS Y ?_
 rw[M];have hi:=hs.inv.chg (id:=id) (cap:=c) (ao:=.rarr te es elems) hw (hb.imp (fun h=>h) fun⟨c',h⟩=>by obtain⟨ao,J⟩:=q _ _ h;exact⟨_,c',J,h⟩) I hO hS E;have:=hs.put hi I A (x:=some y) (v:=v) (fun z hz=>by cases hz;exact hv);refine O S (upd μ id (some (b,c))) _ _ ?_;unfold Eff.apply;rw[cE];exact this
theorem aJ1 {t e:TypeId}{i q:TI}{x y:Operand}{id u sz B:Nat}{elems rows:List (List R)}(hT:Tok P T) (ho:o.op=.call { callee:=.builtin .append,args:= #[x,y],argTypes:= #[t,t] }) (hd:o.dst=some d) (M:d<n)
  (hi:T[t]?=some (some i)) (hk:i.k=.sl e) (O:T[e]?=some (some q)) (U:Nat.ble 1 q.size=true) (Y:Nat.ble 1 q.bytes=true)
  (hx:opv st x=some (.one (.ra id 0 sz sz))) (hh:st.h id=some (.rarr e q.size elems)) (hsz:sz=elems.length) (hy:opv st y=some (.one (.ra u 0 rows.length rows.length))) (aa:st.h u=some (.rarr B q.size rows)) (I:0<rows.length)
  (A:(elems.length+rows.length)*q.bytes≤140737488355328):
  Step P n o st ⟨opr x++opr y,[id,u]⟩ ⟨some (d,some (.one (.ra id 0 (elems.length+rows.length) (elems.length+rows.length)))),[(id,some (.rarr e q.size (elems++rows)))]⟩:=by
 intro st' ha G S μ a w K Q hs ab;have ac:=aO hs hx fun t ht=>ha.1 t (by simp[ht])
 have ad:=aO hs hy fun t ht=>ha.1 t (by simp[ht])
 have E:st'.h id=some (.rarr e q.size elems):=by rw[ha.2 id (by simp),hh]
 have J:st'.h u=some (.rarr B q.size rows):=by rw[ha.2 u (by simp),aa]
 exact aE7 hd M hs (fun _ _ _=>⟨_,E⟩) ab (vW hT ho hi hk O U Y hsz I A E hs ac ad J)
theorem Inv.emptyR {G:Ctx}{S:Sto}{μ:Mu}{H:cF}{w:World}{id:Nat}(te es:Nat) (h:Inv G S μ H w) (hid:H id=none):Inv G S (upd μ id none) (upd H id (some (.rarr te es []))) w∧Evolve S μ H S (upd μ id none) (upd H id (some (.rarr te es []))):=by
 have y:Evolve S μ H S (upd μ id none) (upd H id (some (.rarr te es []))):=gM hid _ _;refine⟨⟨h.holds,fun j x hj=>?_,fun i j x A b c c' hi hj hm q=>?_,fun i x b c hi hm=>?_,h.frame,h.sle,h.sto,h.evo.trans y,h.fre⟩,y⟩
 ·by_cases u:j=id
  ·subst u;rw[aN] at hj;cases hj;exact⟨by simp,.inl ⟨aN _ _ _,rfl⟩⟩
  ·rw[bJ _ _ _ u] at hj;exact(h.obj j x hj).evolve y (bJ _ _ _ u) fun _ _ _=>⟨rfl,fun _=>rfl,rfl⟩
 ·have h1:i≠id:=fun e=>by subst e;rw[aN] at hm;cases hm
  have h2:j≠id:=fun e=>by subst e;rw[aN] at q;cases q
  rw[bJ _ _ _ h1] at hi hm;rw[bJ _ _ _ h2] at hj q;exact h.inj i j x A b c c' hi hj hm q
 ·have h1:i≠id:=fun e=>by subst e;rw[aN] at hm;cases hm
  rw[bJ _ _ _ h1] at hi hm;exact h.own i x b c hi hm
theorem aHe {t e:TypeId}{i q:TI}{x y:Operand}{u J:Nat}{rows:List (List R)}(id:Nat) (hT:Tok P T) (ho:o.op=.call { callee:=.builtin .append,args:= #[x,y],argTypes:= #[t,t] }) (hd:o.dst=some d) (aa:d<n)
  (hi:T[t]?=some (some i)) (hk:i.k=.sl e) (ab:T[e]?=some (some q)) (ac:Nat.ble 1 q.size=true) (ad:Nat.ble 1 q.bytes=true)
  (hx:opv st x=some (.one (.c .nl))) (hid:st.h id=none) (hy:opv st y=some (.one (.ra u 0 rows.length rows.length))) (ae:st.h u=some (.rarr J q.size rows)) (O:0<rows.length)
  (I:rows.length*q.bytes≤140737488355328):
  Step P n o st ⟨opr x++opr y,[id,u]⟩ ⟨some (d,some (.one (.ra id 0 rows.length rows.length))),[(id,some (.rarr e q.size rows))]⟩:=by
 intro st' ha G S μ a w K Q hs af;have B:st'.h id=none:=by rw[ha.2 id (by simp),hid]
 obtain⟨ag,U⟩:=hs.inv.emptyR e q.size B;have M:Sim G n S (upd μ id none) ⟨st'.e,upd st'.h id (some (.rarr e q.size [])),st'.d⟩ a w:=⟨ag,hs.size,hs.defers.evolve U,fun t v e=>aS.evolve U v _ (hs.env t v e)⟩
 have E:=aO hs hx fun t ht=>ha.1 t (by simp[ht])
 have ah:=aO hs hy fun t ht=>ha.1 t (by simp[ht])
 have A:st'.h u=some (.rarr J q.size rows):=by rw[ha.2 u (by simp),ae]
 simp only[aS,aZ,Rep] at E;have Y:aS S (upd μ id none) (upd st'.h id (some (.rarr e q.size []))) (.one (.ra id 0 0 0)) (a.eval x):=by
  simp only[aS,aZ];exact⟨⟨_,_,_,E⟩,.inr ⟨e,q.size,[],aN _ _ _,le_refl _,fun _=>⟨le_refl _,.inl ⟨aN _ _ _,rfl,E⟩⟩⟩⟩
 have ai:u≠id:=fun e=>by subst e;rw[B] at A;cases A
 have:=vW (elems:=[]) (id:=id) hT ho hi hk ab ac ad rfl O (by simpa using I) (aN _ _ _) M Y (aS.evolve U _ _ ah) (by
  show upd st'.h id (some (.rarr e q.size [])) u=_;rw[bJ _ _ _ ai]
  exact A)
 refine aE7 hd aa M (fun _ _ _=>⟨_,aN _ _ _⟩) (fun S' μ' a' w' h=>af S' μ' a' w' ?_) this;have e1:Eff.apply ⟨some (d,some (.one (.ra id 0 (([]:List (List R)).length+rows.length) (([]:List (List R)).length+rows.length)))),[(id,some (.rarr e q.size ([]++rows)))]⟩ ⟨st'.e,upd st'.h id (some (.rarr e q.size [])),st'.d⟩
   =Eff.apply ⟨some (d,some (.one (.ra id 0 rows.length rows.length))),[(id,some (.rarr e q.size rows))]⟩ st':=by
  unfold Eff.apply;rw[cE,cE,qI];simp
 rw[e1] at h;exact h
end
section
variable {P:Program}{n:Nat}{o:Oper}{st:St}{d:Nat}{T:TT}
theorem aTe {src dst:TypeId}{i j:TI}{x:Operand}{k k':IntKind}{m:Int}(q:Tok P T) (ho:o.op=.convert src dst x) (B:o.dst=some d) (u:d<n) (hi:T[src]?=some (some i)) (y:i.k=.int k) (hj:T[dst]?=some (some j)) (A:j.k=.int k')
  (hx:opv st x=some (I k m)):Step P n o st ⟨opr x,[]⟩ ⟨some (d,some (I k' (k'.wrap m))),[]⟩:=by
 refine Step.value B u fun st' ha G S μ a w hs=>?_
 have hv:=eG (aO hs hx ha.1);refine⟨.int k' (k'.wrap m),?_,by simp[aS,aZ,Rep]⟩;have h1:=(q.get hi).int y;have h2:=(q.get hj).int A;simp only[execOp,ho,hv,Aa,convert,Ak h1 w,Ak h2 w,δ,Conv.intToInt,Ad]
theorem aTf {src dst e:TypeId}{i j Y:TI}{x:Operand}{v:V}{ids:List Nat}{rows:List (List C)}{q:List Int}(J:Tok P T) (ho:o.op=.convert src dst x) (hd:o.dst=some d) (aa:d<n) (hi:T[src]?=some (some i)) (ab:i.k=.sl e) (ac:T[e]?=some (some Y)) (ae:Y.k=.int .u8)
  (hj:T[dst]?=some (some j)) (af:j.k=.str) (hx:opv st x=some v) (M:Src st 1 ids v rows) (O:rows=q.map fun m=>[C.int .u8 m]):Step P n o st ⟨opr x,ids⟩ ⟨some (d,some (Go.AM.T (q.map fun m=>UInt8.ofNat m.toNat))),[]⟩:=by
 refine Step.value hd aa fun st' ha G S μ a w hs=>?_
 have hv:=aO hs hx ha.1;obtain⟨y,c,news,h1,h2,h3,h4,h5⟩:=M.rel hs ha.2 hv;have B:=(J.get hi).slice ab;have E:=(J.get ac).int ae;have I:=(J.get hj).str af;have A:∀(q:List Int) (news:List Value),bZ S (q.map fun m=>[C.int .u8 m]).flatten news→news=q.map (Value.int .u8):=by
  intro q
  induction q with
  | nil=>intro news h;simpa [bZ] using h
  | cons m q ih=>
   intro news h;simp only[Ar,Bj,List.singleton_append,bZ,Rep] at h;obtain⟨u,us,rfl,rfl,h⟩:=h;rw[ih us h];rfl
 rw[O] at h2;have hn:=A q news h2;have U:(convert src dst (a.eval x)).run P w=.ok (.string ⟨⟨q.map fun m=>UInt8.ofNat m.toNat⟩⟩) w:=by
  rw[h1];cases y with
  | none=>
   have h6:=h4 rfl;rw[O] at h6;have:q=[]:=by simpa using h6
   subst this;exact run_convert_bytes_nil w src e B E _ _ dst I
  | some y=>
   have hlen:rows.length=q.length:=by rw[O];simp
   have hl:(loadCells y q.length).run P w=.ok (q.map (Value.int .u8)).toArray w:=by
    have:=run_loadCells_list (P:=P) w y (q.map (Value.int .u8)) (fun j v hj=>h5 y rfl j v (by rw[hn];exact hj));simpa using this
   rw[hlen,run_convert_bytes_string w src dst e _ _ _ B E I,run_bytesToString w _ _ _ q hl,foldl_push_bytes];simp[ByteArray.empty,ByteArray.emptyWithCapacity];rfl
 refine⟨.string ⟨⟨q.map fun m=>UInt8.ofNat m.toNat⟩⟩,?_,by simp[aS,aZ,Rep]⟩;simp only[execOp,ho,Aa,U,δ,Ad]
theorem bG.length {S:Sto}{agg:Bool}:∀{l:List (List C)}{es:List MapEntry},bG S agg l es→es.length=l.length
 | [],es,h=>by simp only[bG] at h;subst h;rfl
 | r::rs,es,h=>by
  simp only[bG] at h;obtain⟨e,q,rfl,_,h⟩:=h;simp[bG.length h]
theorem aJv {t E J:TypeId}{i:TI}{x:Operand}{id:Nat}{agg:Bool}{ents:List (List C)}(M:Tok P T) (ho:o.op=.call { callee:=.builtin .len,args:= #[x],argTypes:= #[t] }) (O:o.dst=some d) (u:d<n) (hi:T[t]?=some (some i)) (U:i.k=.mp E J)
  (hx:opv st x=some (.one (.mr id))) (hh:st.h id=some (.map agg ents)) (y:mT ents):Step P n o st ⟨opr x,[id]⟩ ⟨some (d,some (I .i64 (ents.length:Int))),[]⟩:=by
 refine Step.value O u fun st' ha G S μ a w hs=>?_
 have hv:=aO hs hx ha.1;have q:st'.h id=some (.map agg ents):=by rw[ha.2 id (by simp),hh]
 simp only[aS,aZ] at hv;obtain⟨Y,B,b,c,h1,h2,h3⟩:=hv;rw[q] at h1;cases h1;obtain⟨b',es,clk,A,q2,q3,q4⟩:=hs.inv.obj id _ q;rw[h2] at A;cases A;have hl:=(q3.rep y).length;refine⟨goInt ents.length,lD ho h3 ?_,by simp[aS,aZ,Rep,goInt]⟩;have hg:(getObj b).run P w=.ok (.map es clk) w:=MapKept.run_getObj_map q2;simp at hl;simp[Builtin.len_,Ak ((M.get hi).map U) w,hg,hl]
end
section
variable {P:Program}{n:Nat}{T:TT}{o:Oper}{st:St}{d:Nat}
theorem tE {t e:TypeId}{i A:TI}{x y:Operand}{u es k:Nat}{kk:IntKind}{m:Int}{l r:List R}(Y:Tok P T) (ho:o.op=.indexAddr t x y) (hd:o.dst=some d) (B:d<n) (hi:T[t]?=some (some i)) (hk:i.k=.sl e) (E:T[e]?=some (some A)) (J:A.size=es)
  (hx:opv st x=some (.one (.ras u es l))) (hy:opv st y=some (I kk m)) (hm:m=(k:Int)) (M:k<u) (hr:(l.drop (k*es)).take es=r):Step P n o st ⟨opr x++opr y,[]⟩ ⟨some (d,some (.one (.pas r))),[]⟩:=by
 refine Step.value hd B fun st' ha G S μ a w hs=>?_
 have hv:=aO hs hx (dB ha).1;have O:=eG (aO hs hy (dB ha).2);simp only[aS,aZ] at hv;obtain⟨q,cap,h1,h2,h3,h4,h5,h6,b,off,h7,vs,h8,h9⟩:=hv;cases q with
 | none=>have:=(h5 rfl).1;omega
 | some q=>
  obtain⟨h10,h10'⟩:=h7 q rfl;have h11:=h6 q rfl;have U:q=⟨b,off,none⟩:=by cases q;simp_all
  subst U;subst hm;refine⟨.pointer (some ⟨b,off+k*es,none⟩),?_,?_⟩
  ·simp only[execOp,ho,h1,O,Aa,lE Y hi hk E w b off u cap k kk M,δ,Ad,J]
  ·simp only[aS,aZ];subst hr;refine⟨b,off+k*es,rfl,(vs.drop (k*es)).take es,(h8.drop (k*es)).take es,fun j v hj=>?_⟩;rw[An] at hj;split at hj
   ·rw[Ao] at hj;have:=h9 _ v hj;rwa [←add_assoc] at this
   ·cases hj
theorem aG7 {t:TypeId}{i:TI}{x:Operand}{l:List R}{y:V}(A:Tok P T) (ho:o.op=.load t x) (B:o.dst=some d) (q:d<n) (hi:T[t]?=some (some i)) (hx:opv st x=some (.one (.pas l)))
  (hl:i.size≤l.length) (hy:lO i (l.take i.size)=some y):Step P n o st ⟨opr x,[]⟩ ⟨some (d,some y),[]⟩:=by
 refine Step.value B q fun st' ha G S μ a w hs=>?_
 have hv:=aO hs hx ha.1;simp only[aS,aZ] at hv;obtain⟨b,off,h1,vs,h2,E⟩:=hv;have J:=h2.length;refine⟨_,?_,mV (h2.take i.size) hy⟩;have I:=o5 hs.inv.holds E;have u:w.rangeAt b off (vs.take i.size):=fun j v hj=>by
  rw[An] at hj;split at hj
  ·exact I j v hj
  ·cases hj
 simp only[execOp,ho,h1,Aa,run_load (A.get hi) w b off _ u (by simp;omega),δ,Ad]
theorem aCi {t u:TypeId}{i y:TI}{fs:List (Nat×TypeId)}{f q:Nat}{x:Operand}{l:List R}(E:Tok P T) (ho:o.op=.fieldAddr t x f) (I:o.dst=some d) (A:d<n) (hi:T[t]?=some (some i)) (J:i.k=.st fs) (M:fs[f]?=some (q,u)) (B:T[u]?=some (some y)) (O:y.size≠0)
  (hx:opv st x=some (.one (.pas l))):Step P n o st ⟨opr x,[]⟩ ⟨some (d,some (.one (.pas (l.drop q)))),[]⟩:=by
 refine Step.value I A fun st' ha G S μ a w hs=>?_
 have hv:=aO hs hx ha.1;simp only[aS,aZ] at hv;obtain⟨b,off,h1,vs,h2,U⟩:=hv;refine⟨.pointer (some ⟨b,off+q,none⟩),?_,?_⟩
 ·simp only[execOp,ho,h1,Aa,jB E hi J M B O,δ,Ad]
 ·simp only[aS,aZ];refine⟨b,off+q,rfl,vs.drop q,h2.drop q,fun j v hj=>?_⟩;rw[Ao] at hj;have:=U (q+j) v hj;rwa [←add_assoc] at this
theorem aJu {t e:TypeId}{i:TI}{x:Operand}{q es:Nat}{l:List R}(y:Tok P T) (ho:o.op=.call { callee:=.builtin .len,args:= #[x],argTypes:= #[t] }) (A:o.dst=some d) (u:d<n) (hi:T[t]?=some (some i)) (B:i.k=.sl e)
  (hx:opv st x=some (.one (.ras q es l))):Step P n o st ⟨opr x,[]⟩ ⟨some (d,some (I .i64 (q:Int))),[]⟩:=by
 refine Step.value A u fun st' ha G S μ a w hs=>?_
 have hv:=aO hs hx ha.1;simp only[aS,aZ] at hv;obtain⟨E,cap,h1,_⟩:=hv;refine⟨goInt q,lD ho h1 ?_,by simp[aS,aZ,Rep,goInt]⟩;simp[Builtin.len_,Ak ((y.get hi).slice B) w]
theorem aG4 {t te es:Nat}{i:TI}{x y:Operand}{id k fo sz:Nat}{elems:List (List R)}{v:V}{cs r:List R}(hT:Tok P T) (ho:o.op=.store t x y) (hd:o.dst=none) (hi:T[t]?=some (some i)) (hx:opv st x=some (.one (.rp id k fo sz)))
  (hy:opv st y=some v) (hc:iK v=some cs) (hh:st.h id=some (.rarr te es elems)) (hsz:sz=elems.length) (M:elems[k]?=some r) (hcs:cs.length=i.size) (hl:fo+i.size≤es):
  Step P n o st ⟨opr x++opr y,[id]⟩ ⟨none,[(id,some (.rarr te es (elems.set k (bW r fo cs))))]⟩:=by
 refine Step.turn hd hh (by simp) (by simp[AObj.succ]) fun st' ha A G S μ a w hs=>?_
 have Y:=aO hs hx fun t ht=>ha.1 t (by simp[ht])
 have hvy:=aO hs hy fun t ht=>ha.1 t (by simp[ht])
 simp only[aS,aZ] at Y;obtain⟨_,hv | ⟨te',es',elems',h1,h2,h3⟩⟩:=Y
 ·rw[A] at hv;cases hv
 rw[A] at h1;cases h1;obtain⟨h4,b,base,cap,h5,h6⟩:=h3 hsz;obtain⟨g0,vs,g1,g2,g3,g4,g5,g6⟩:=(hs.inv.obj id _ A).rarr h5;have hrel:=dZ hvy hc;have E:=hrel;have hone:=hrel.one;have hnl:=E.length;have hk:k<elems.length:=(Ah.1 M).1
 have hres:r.length=es:=g0 r (ε M);have hke:(k+1)*es≤elems.length*es:=A2 _ hk;have hce:elems.length*es≤cap*es:=A2 _ g3;rw[Be] at hke;generalize O:(a.eval y).cells.toList=news at *;have hrun:=run_store (hT.get hi) w b (base+k*es+fo) vs news te (a.eval y) g1 O (by omega) (by omega) hone;have hE:=jJ (S:=S) (μ:=μ) (o':=.rarr te es (elems.set k (bW r fo cs))) A h5 (by simp[AObj.succ]);have I:=aJh g0 g5 M;have B:=aC0 g0 k r M;have hlen:(elems.set k (bW r fo cs)).length=elems.length:=by simp
 have hW:=WChg.setRow w b ⟨vs⟩ ⟨vs.take (base+k*es+fo)++news++vs.drop (base+k*es+fo+news.length)⟩ te (0,0) g1;refine⟨_,_,b,(base,cap),?_,h5,hW,⟨?_,.inr ⟨b,base,cap,_,aN _ _ _,hW.new,?_,by rw[hlen];exact g3,g4,?_,g6⟩⟩,fun o v e=>?_,fun m e=>gL g4.2 m e⟩
 ·simp only[execOp,ho,h6,Aa,hrun,δ,Ad]
 ·intro q hq;rcases List.mem_or_eq_of_mem_set hq with hq | rfl
  ·exact g0 q hq
  ·unfold bW;simp;omega
 ·simp only[ψ,Ai,Bi];omega
 ·rw[hlen];have e1:(elems.set k (bW r fo cs)).flatten=elems.flatten.take (k*es)++(r.take fo++cs++r.drop (fo+cs.length))++elems.flatten.drop (k*es+es):=by
   rw[Cs,ζ hk,Cy,Bj,B.1,B.2,←Aj];rfl
  have e2:((vs.take (base+k*es+fo)++news++vs.drop (base+k*es+fo+news.length)).drop base).take (elems.length*es)=
    ((vs.drop base).take (elems.length*es)).take (k*es)++((((vs.drop (base+k*es)).take es).take fo)++news++(((vs.drop (base+k*es)).take es).drop (fo+cs.length)))++((vs.drop base).take (elems.length*es)).drop (k*es+es):=by
   apply Cv;intro j;simp only[An,Ao,Cf,ψ,Ai,Bi];have hm1:min (k*es) (min (elems.length*es) (vs.length-base))=k*es:=by omega
   have hm2:min (base+k*es+fo) vs.length=base+k*es+fo:=by omega
   have hm3:min fo es=fo:=by omega
   have hm4:min es (vs.length-(base+k*es))=es:=by omega
   simp only[hm1,hm2,hm3,hm4,hnl];by_cases U:j<k*es
   ·have u:j<elems.length*es:=by omega
    have a2:base+j<base+k*es+fo:=by omega
    have a3:base+j<base+k*es+fo+cs.length:=by omega
    have a4:j<k*es+(fo+cs.length+(es-(fo+cs.length))):=by omega
    simp[U,u,a2,a3,a4]
   ·by_cases c2:j<k*es+fo
    ·have u:j<elems.length*es:=by omega
     have a2:base+j<base+k*es+fo:=by omega
     have a3:base+j<base+k*es+fo+cs.length:=by omega
     have a4:j<k*es+(fo+cs.length+(es-(fo+cs.length))):=by omega
     have a5:j-k*es<fo+cs.length:=by omega
     have J:j-k*es<fo:=by omega
     have a7:j-k*es<es:=by omega
     simp[U,u,a2,a3,a4,a5,J,a7,show base+k*es+(j-k*es)=base+j by omega]
    ·by_cases c3:j<k*es+fo+cs.length
     ·have u:j<elems.length*es:=by omega
      have a2:¬base+j<base+k*es+fo:=by omega
      have a3:base+j<base+k*es+fo+cs.length:=by omega
      have a4:j<k*es+(fo+cs.length+(es-(fo+cs.length))):=by omega
      have a5:j-k*es<fo+cs.length:=by omega
      have J:¬j-k*es<fo:=by omega
      simp[U,u,a2,a3,a4,a5,J,show base+j-(base+k*es+fo)=j-k*es-fo by omega]
     ·by_cases c4:j<k*es+es
      ·have u:j<elems.length*es:=by omega
       have a3:¬base+j<base+k*es+fo+cs.length:=by omega
       have a4:j<k*es+(fo+cs.length+(es-(fo+cs.length))):=by omega
       have a5:¬j-k*es<fo+cs.length:=by omega
       have J:fo+cs.length+(j-k*es-(fo+cs.length))<es:=by omega
       simp[U,u,a3,a4,a5,J,show base+k*es+fo+cs.length+(base+j-(base+k*es+fo+cs.length))=base+j by omega,show base+k*es+(fo+cs.length+(j-k*es-(fo+cs.length)))=base+j by omega]
      ·have a3:¬base+j<base+k*es+fo+cs.length:=by omega
       have a4:¬j<k*es+(fo+cs.length+(es-(fo+cs.length))):=by omega
       by_cases c5:j<elems.length*es
       ·have a5:k*es+es+(j-(k*es+(fo+cs.length+(es-(fo+cs.length)))))<elems.length*es:=by omega
        simp[a3,a4,c5,a5,show base+k*es+fo+cs.length+(base+j-(base+k*es+fo+cs.length))=base+j by omega,show base+(k*es+es+(j-(k*es+(fo+cs.length+(es-(fo+cs.length))))))=base+j by omega]
       ·have a5:¬k*es+es+(j-(k*es+(fo+cs.length+(es-(fo+cs.length)))))<elems.length*es:=by omega
        simp[a4,c5,a5]
  rw[e1];show aT S _ _ _ (((vs.take (base+k*es+fo)++news++vs.drop (base+k*es+fo+news.length)).drop base).take (elems.length*es));rw[e2];refine aT.evolve hE _ _ ?_;exact((g5.take (k*es)).append (((I.take fo).append E).append (I.drop (fo+cs.length)))).append (g5.drop (k*es+es))
 ·--what stays is not touched
  by_cases hb:base≤o
  ·rw[g6 o hb] at e;cases e
  ·obtain⟨vs0,t0,fr0,q1,q2⟩:=hs.inv.holds.1 b o v e;rw[g1] at q1;cases q1;refine⟨_,_,_,rfl,?_⟩;simp only[Cr] at q2 ⊢;have hlt:o<vs.length:=(Ah.1 q2).1
   rw[Aj,Bc (by simp;omega),An,ζ (by omega)];exact q2
end
end Go.AM
