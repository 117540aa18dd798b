/-
  Texts Am17 to Ax5 in one.
-/
import Derived.Test.YtkhgpgihmphfdaaGreatDoorM3
import Derived.ProofKit
import Derived.SizedLaws
import Derived.OpenShut
import Derived.Carry
import Derived.Laws.BytesArg
open List (append_assoc append_nil drop_append_of_le_length drop_drop drop_take drop_zero eq_nil_of_length_eq_zero flatten_append flatten_cons length_append length_cons length_drop length_nil length_take map_cons map_nil map_toArray mem_append mem_cons mem_of_mem_take size_toArray take_append_of_le_length take_left' take_of_length_le take_take)
open Nat (add_assoc add_mul add_zero beq_refl eq_of_beq_eq_true le_of_ble_eq_true le_refl le_trans min_eq_left mul_le_mul_right sub_zero zero_add zero_le zero_mul)
namespace Go.AM
open Go
section
variable {P:Program}{n:Nat}{o:Oper}{st:St}{d:Nat}{T:TT}
theorem nV {α:Type}(f:Nat→Option α) (k:Nat) (x y:Option α):upd (upd f k x) k y=upd f k y:=by
 funext i;simp only[upd];split<;>rfl
theorem aG7 {t e:TypeId}{i q:TI}{x y:Operand}{rows:List (List C)}{O:V}{ids:List Nat}(id:Nat) (hT:Tok P T) (ho:o.op=.call { callee:=.builtin .append,args:= #[x,y],argTypes:= #[t,t] }) (hd:o.dst=some d) (U:d<n)
  (hi:T[t]?=some (some i)) (hk:i.k=.sl e) (Y:T[e]?=some (some q)) (aa:Nat.ble 1 q.size=true) (ab:Nat.ble 1 q.bytes=true)
  (hx:opv st x=some (.one (.c .nl))) (hid:st.h id=none) (hy:opv st y=some O) (u:Src st q.size ids O rows)
  (B:rows.length*q.bytes≤140737488355328):
  Step P n o st ⟨opr x++opr y,id::ids⟩ ⟨some (d,some (.one (.hs id 0 rows.length rows.length))),[(id,some (.arr e q.size rows 0))]⟩:=by
 intro st' ha G S μ a w K Q hs ac;have I:st'.h id=none:=by rw[ha.2 id (by simp),hid]
 obtain⟨ad,J⟩:=hs.inv.empty e q.size I;have E:Sim G n S (upd μ id none) ⟨st'.e,upd st'.h id (some (.arr e q.size [] 0)),st'.d⟩ a w:=⟨ad,hs.size,hs.defers.evolve J,fun t v e=>aL.evolve J v _ (hs.env t v e)⟩
 have A:=aI hs hx fun t ht=>ha.1 t (by simp[ht])
 have ae:=aI hs hy fun t ht=>ha.1 t (by simp[ht])
 simp only[aL,aV,Rep] at A;have M:aL S (upd μ id none) (upd st'.h id (some (.arr e q.size [] 0))) (.one (.hs id 0 0 0)) (a.eval x):=by
  simp only[aL,aV];exact⟨⟨_,_,_,A⟩,.inr ⟨e,q.size,[],0,aH _ _ _,le_refl _,fun _=>⟨le_refl _,.inl ⟨aH _ _ _,rfl,A⟩⟩⟩⟩
 have af:∀j∈ids,j≠id:=by
  intro j r e;subst e;cases u with
  | hs h1 _ _=>simp at r;subst r;rw[hid] at h1;cases h1
  | all h1 _=>simp at r;subst r;rw[hid] at h1;cases h1
  | sl=>simp at r
  | nl=>simp at r
  | sn=>simp at r
 have:=yE (fz:=0) (elems:=[]) (id:=id) hT ho hi hk Y aa ab rfl (by simpa using B) (aH _ _ _) E M (aL.evolve J _ _ ae) u fun j r=>by
  show upd st'.h id (some (.arr e q.size [] 0)) j=_;rw[bJ _ _ _ (af j r)];exact ha.2 j (by simp[r])
 refine aIb hd U (by simp) _ (aH _ _ _) E (fun S' μ' a' w' h=>ac S' μ' a' w' ?_) this;have e1:Eff.apply ⟨some (d,some (.one (.hs id 0 (([]:List (List C)).length+rows.length) (([]:List (List C)).length+rows.length)))),[(id,some (.arr e q.size ([]++rows) (if 0=0 then 0 else 1)))]⟩ ⟨st'.e,upd st'.h id (some (.arr e q.size [] 0)),st'.d⟩
   =Eff.apply ⟨some (d,some (.one (.hs id 0 rows.length rows.length))),[(id,some (.arr e q.size rows 0))]⟩ st':=by
  unfold Eff.apply;rw[c7,c7,nV];simp
 rw[e1] at h;exact h
theorem Sub.conv {kf ids:List Nat}{t:Nat}{v v':V}(h:st.e t=some v) (hc:Conv st.h ids v v'):Sub kf ⟨upd st.e t (some v'),st.h,st.d⟩ st:=by
 intro G n S μ a w _ hs;refine⟨S,μ,⟨hs.inv,hs.size,hs.defers,fun s u e=>?_⟩⟩;by_cases q:s=t
 ·subst q;have:some v'=some u:=by rw[←e];exact(aH _ _ _).symm
  cases this;exact hc.rel (fun _ _=>rfl) hs.inv.obj (hs.env s _ h)
 ·exact hs.env s u (by rw[←e];exact(bJ _ _ _ q).symm)
theorem aK8 {t e:TypeId}{i q:TI}{len:Nat}{parts:Array (Nat×Operand)}{ids:List Nat}{rows:List (List C)}(id:Nat) (hT:Tok P T) (ho:o.op=.buildSlice t len parts) (hd:o.dst=some d) (U:d<n) (hi:T[t]?=some (some i)) (hk:i.k=.sl e) (Y:T[e]?=some (some q)) (r:RowsV st q.size 0 ids parts.toList rows) (hlen:Nat.beq len parts.size=true) (B:Nat.ble (len*q.size) 16777216=true) (J:Nat.ble len 16777216=true) (hid:st.h id=none):
  Step P n o st ⟨fB parts.toList,id::ids⟩ ⟨some (d,some (.one (.c (.sl q.size rows)))),[(id,some (.arr e q.size rows 2))]⟩:=by
 intro st' ha G S μ a w K Q hs aa;refine aGr id hT ho hd U hi hk Y r hlen B J hid st' ha G S μ a w K Q hs fun S1 μ1 M w1 h1=>?_
 have y:len=rows.length:=by rw[r.lengths];simpa using δ hlen
 have hh:(Eff.apply ⟨some (d,some (.one (.hs id 0 len len))),[(id,some (.arr e q.size rows 0))]⟩ st').h id=some (.arr e q.size rows 0):=by
  show iB st'.h [(id,some (.arr e q.size rows 0))] id=_;rw[c7,aH]
 obtain⟨S2,I,h2⟩:=h1.freeze hh;refine aa S2 I M w1 ⟨?_,h2.size,?_,fun s u e1=>?_⟩
 ·have:=h2.inv;show Inv G S2 I (iB st'.h [(id,some (.arr e q.size rows 2))]) w1;rw[c7];have A:upd (Eff.apply ⟨some (d,some (.one (.hs id 0 len len))),[(id,some (.arr e q.size rows 0))]⟩ st').h id (some (.arr e q.size rows 2))=upd st'.h id (some (.arr e q.size rows 2)):=by
   show upd (iB st'.h [(id,some (.arr e q.size rows 0))]) id _=_;rw[c7,nV]
  rw[←A];exact this
 ·have:=h2.defers;show Marks _ I (iB st'.h [(id,some (.arr e q.size rows 2))]) st'.d M.defers;rw[c7];have A:upd (Eff.apply ⟨some (d,some (.one (.hs id 0 len len))),[(id,some (.arr e q.size rows 0))]⟩ st').h id (some (.arr e q.size rows 2))=upd st'.h id (some (.arr e q.size rows 2)):=by
   show upd (iB st'.h [(id,some (.arr e q.size rows 0))]) id _=_;rw[c7,nV]
  rw[←A];exact this
 ·have A:upd (Eff.apply ⟨some (d,some (.one (.hs id 0 len len))),[(id,some (.arr e q.size rows 0))]⟩ st').h id (some (.arr e q.size rows 2))=iB st'.h [(id,some (.arr e q.size rows 2))]:=by
   show upd (iB st'.h [(id,some (.arr e q.size rows 0))]) id _=_;rw[c7,c7,nV]
  show aL S2 I (iB st'.h [(id,some (.arr e q.size rows 2))]) u (M.tmps.getD s undef);by_cases E:s=d
  ·subst E;have hu:u=.one (.c (.sl q.size rows)):=by
    have:upd st'.e s (some (.one (.c (.sl q.size rows)))) s=some u:=e1;rw[aH] at this;cases this;rfl
   subst hu;have O:=h2.env s (.one (.hs id 0 len len)) (aH _ _ _);have hO:=h2.inv.obj id _ (aH _ _ _);have:=(Conv.one (h:=upd (Eff.apply ⟨some (s,some (.one (.hs id 0 len len))),[(id,some (.arr e q.size rows 0))]⟩ st').h id (some (.arr e q.size rows 2))) (PureL.hs (e:=rows) (aH _ _ _) y (by rw[y];simp) .nil)).rel (fun _ _=>rfl) h2.inv.obj O;rw[←A];exact this
  ·have:upd st'.e d (some (.one (.c (.sl q.size rows)))) s=some u:=e1;rw[bJ _ _ _ E] at this;have O:=h2.env s u (by show upd st'.e d _ s=some u;rw[bJ _ _ _ E];exact this);rw[←A];exact O
theorem aTy {r ty:TypeId}{x y:Operand}{a b:Nat}(ho:o.op=.binOp .add r x y ty) (u:o.dst=some d) (q:d<n) (hx:opv st x=some (I .i64 (a:Nat))) (hy:opv st y=some (I .i64 (b:Nat))) (A:a+b≤9223372036854775807):
  Step P n o st ⟨opr x++opr y,[]⟩ ⟨some (d,some (I .i64 ((a+b:Nat):Int))),[]⟩:=aPv ho u q hx hy (by rw[←Int.natCast_add];exact B4 _ (by omega))
theorem aTt {r ty:TypeId}{x y:Operand}{a b:Nat}(ho:o.op=.binOp .mul r x y ty) (u:o.dst=some d) (q:d<n) (hx:opv st x=some (I .i64 (a:Nat))) (hy:opv st y=some (I .i64 (b:Nat))) (A:a*b≤9223372036854775807):
  Step P n o st ⟨opr x++opr y,[]⟩ ⟨some (d,some (I .i64 ((a*b:Nat):Int))),[]⟩:=aPo ho u q hx hy (by rw[←Int.natCast_mul];exact B4 _ (by omega))
theorem aTi {r ty:TypeId}{x y:Operand}{a b:Nat}(ho:o.op=.binOp .sub r x y ty) (u:o.dst=some d) (q:d<n) (hx:opv st x=some (I .i64 (a:Nat))) (hy:opv st y=some (I .i64 (b:Nat))) (A:b≤a∧a≤9223372036854775807):
  Step P n o st ⟨opr x++opr y,[]⟩ ⟨some (d,some (I .i64 ((a-b:Nat):Int))),[]⟩:=aPl ho u q hx hy (by rw[show(a:Int)-b=((a-b:Nat):Int) by omega];exact B4 _ (by omega))
theorem aTq {r ty:TypeId}{x y:Operand}{a b:Nat}(ho:o.op=.binOp .quo r x y ty) (u:o.dst=some d) (q:d<n) (hx:opv st x=some (I .i64 (a:Nat))) (hy:opv st y=some (I .i64 (b:Nat))) (A:a≤9223372036854775807∧1≤b):
  Step P n o st ⟨opr x++opr y,[]⟩ ⟨some (d,some (I .i64 ((a/b:Nat):Int))),[]⟩:=by
 have:=aNp (P:=P) (n:=n) ho u q hx hy (by omega);rwa [←Int.natCast_ediv] at this
theorem aTp {r ty:TypeId}{x y:Operand}{a b:Nat}(ho:o.op=.binOp .rem r x y ty) (u:o.dst=some d) (q:d<n) (hx:opv st x=some (I .i64 (a:Nat))) (hy:opv st y=some (I .i64 (b:Nat))) (A:1≤b):
  Step P n o st ⟨opr x++opr y,[]⟩ ⟨some (d,some (I .i64 ((a%b:Nat):Int))),[]⟩:=by
 have:=aNo (P:=P) (n:=n) ho u q hx hy (by omega);rwa [←Int.natCast_emod] at this
theorem aXn {t1 t2:TypeId}{x y:Operand}{k:IntKind}{a b r:Int}(ho:o.op=.call { callee:=.builtin .max,args:= #[x,y],argTypes:= #[t1,t2] }) (u:o.dst=some d) (q:d<n) (hx:opv st x=some (I k a)) (hy:opv st y=some (I k b)) (A:(if b>a then b else a)=r):
  Step P n o st ⟨opr x++opr y,[]⟩ ⟨some (d,some (I k r)),[]⟩:=by
 refine Step.value u q fun st' ha G S μ ac w hs=>?_
 have h1:=dS (aI hs hx fun t h=>ha.1 t (by simp[h]));have h2:=dS (aI hs hy fun t h=>ha.1 t (by simp[h]));refine⟨.int k r,?_,by simp[aL,aV,Rep]⟩;simp only[execOp,ho,resolve,map_toArray,An,Bz,h1,h2,ε,τ,θ,invoke,builtin,Builtin.max_,List.foldlM_cons,List.foldlM_nil,Builtin.max2,A]
end
section
variable {P:Program}{n:Nat}{o:Oper}{st:St}{d:Nat}{T:TT}
theorem aA8 {t e:TypeId}{i r:TI}(u:Tok P T) (hi:T[t]?=some (some i)) (A:i.k=.sl e) (y:T[e]?=some (some r)) (w:World) (q:Option Addr) (len cap l:Nat) (kk:IntKind) (h:l≤len):
  (Instr.sliceAt t (.slice q len cap) (some (.int kk (l:Int))) none none).run P w=.ok (.slice (if cap=l then q else q.map (·.add (l*r.size))) (len-l) (cap-l)) w:=by
 have hu:=Ag ((u.get hi).slice A) w;simp[Instr.sliceAt,hu,Instr.slice,Instr.sliceBounds,Instr.sliceBound,asIntOf,h,(u.get y).size_run w]
theorem aTh {t e:TypeId}{i A:TI}{x y:Operand}{te es id len sz:Nat}{kk:IntKind}{elems:List (List C)}{fz:Nat}(l:Nat) (Y:Tok P T) (ho:o.op=.slice t x (some y) none none) (hd:o.dst=some d) (E:d<n) (hi:T[t]?=some (some i)) (hk:i.k=.sl e) (J:T[e]?=some (some A)) (M:A.size=es)
  (hx:opv st x=some (.one (.hs id 0 len sz))) (hh:st.h id=some (.arr te es elems fz)) (hsz:sz=elems.length) (hlen:len=sz) (hy:opv st y=some (I kk (l:Nat))) (hl:1≤l∧l≤len):Step P n o st ⟨opr x++opr y,[id]⟩ ⟨some (d,some (.one (.tl id l (len-l) sz))),[]⟩:=by
 refine Step.value hd E fun st' ha G S μ a w hs=>?_
 have r:=aI hs hx fun t ht=>ha.1 t (by simp[ht])
 have O:=dS (aI hs hy fun t ht=>ha.1 t (by simp[ht]));have q:st'.h id=some (.arr te es elems fz):=by rw[ha.2 id (by simp),hh]
 simp only[aL,aV] at r;obtain⟨_,r | ⟨te',es',elems',fz',h1,h2,h3⟩⟩:=r
 ·rw[q] at r;cases r
 rw[q] at h1;cases h1;obtain⟨h4,⟨B,u,h7⟩ | ⟨b,base,cap,B,u⟩⟩:=h3 hsz
 ·subst u;simp at hsz;omega
 obtain⟨q0,vs,q1,q2,q3,q4,q5⟩:=(hs.inv.obj id _ q).arr B;rw[zero_mul,Cc,sub_zero] at u;refine⟨.slice (if cap=l then some ⟨b,base,none⟩ else(some ⟨b,base,none⟩:Option Addr).map (·.add (l*A.size))) (len-l) (cap-l),?_,?_⟩
 ·have U:=aA8 (P:=P) Y hi hk J w (some ⟨b,base,none⟩) len cap l kk hl.2;simp only[execOp,ho,Bx,Option.map_none,u,O,ε,τ] at U ⊢;rw[U];rfl
 ·simp only[aL,aV];refine⟨⟨_,_,_,rfl⟩,.inr ⟨te,es,elems,fz,q,h2,fun _=>⟨by omega,b,base,cap,B,by omega,?_⟩⟩⟩;by_cases hc:cap=l
  ·simp[hc]
  ·simp[hc,M,Addr.add_mid]
end
inductive Fz where
 | map (agg:Bool) (ents:List (List C))
 | var (l:List C)
 | ra (n es:Nat) (l:List R)
mutual
def R.fz (id:Nat) (z:Fz):R→R
 | .mr j=>match z with
  | .map agg ents=>if Nat.beq j id then .c (.mp agg ents) else .mr j
  | _=>.mr j
 | .vp j off=>match z with
  | .var l=>if Nat.beq j id then .c (.pt (l.drop off)) else .vp j off
  | _=>.vp j off
 | .ra j off len sz=>match z with
  | .ra n es l=>if Nat.beq j id then(if Nat.beq off 0&&Nat.beq len n&&Nat.beq sz n then .ras n es l else .c .any) else .ra j off len sz
  | _=>.ra j off len sz
 | .rp j i fo sz=>match z with
  | .ra _ _ _=>if Nat.beq j id then .c .any else .rp j i fo sz
  | _=>.rp j i fo sz
 | .ras n es l=>.ras n es (R.fzL id z l)
 | .pas l=>.pas (R.fzL id z l)
 | .clo f caps=>.clo f (R.fzL id z caps)
 | .mth f x=>.mth f (R.fz id z x)
 | r=>r
def R.fzL (id:Nat) (z:Fz):List R→List R
 | []=>[]
 | r::rs=>R.fz id z r::R.fzL id z rs
end
mutual
def V.fz (id:Nat) (z:Fz):V→V
 | .one r=>.one (r.fz id z)
 | .pa l=>.pa l
 | .ma l=>.ma (R.fzL id z l)
 | .tup l=>.tup (V.fzL id z l)
def V.fzL (id:Nat) (z:Fz):List V→List V
 | []=>[]
 | r::rs=>V.fz id z r::V.fzL id z rs
end
def fzE (id:Nat) (z:Fz):List (Nat×V)→List (Nat×V)
 | []=>[]
 | (t,v)::l=>(t,v.fz id z)::fzE id z l
def fzR (id:Nat) (z:Fz):List (List R)→List (List R)
 | []=>[]
 | r::l=>R.fzL id z r::fzR id z l
theorem aId {id:Nat}{z:Fz}:∀{l:List (Nat×V)}{t:Nat}{v:V},(t,v)∈fzE id z l→∃v0,(t,v0)∈l∧v=v0.fz id z
 | (k,u)::l,t,v,h=>by
  simp only[fzE,Aq] at h;rcases h with h | h
  ·cases h;exact⟨u,by simp,rfl⟩
  ·obtain⟨v0,h1,h2⟩:=aId h;exact⟨v0,by simp[h1],h2⟩
theorem R.fzL_length {id:Nat}{z:Fz}:∀{l:List R},(R.fzL id z l).length=l.length
 | []=>rfl
 | _::l=>by simp[R.fzL,R.fzL_length (l:=l)]
theorem R.fzL_append {id:Nat}{z:Fz}:∀{l m:List R},R.fzL id z (l++m)=R.fzL id z l++R.fzL id z m
 | [],_=>rfl
 | _::l,m=>by simp[R.fzL,R.fzL_append (l:=l)]
theorem eN {id:Nat}{z:Fz}:∀{l:List (List R)},(fzR id z l).length=l.length
 | []=>rfl
 | _::l=>by simp[fzR,eN (l:=l)]
theorem aCd {id:Nat}{z:Fz}:∀{l:List (List R)},(fzR id z l).flatten=R.fzL id z l.flatten
 | []=>rfl
 | _::l=>by simp[fzR,aCd (l:=l),R.fzL_append]
theorem mL {id:Nat}{z:Fz}{es:Nat}:∀{l:List (List R)},(∀r∈l,r.length=es)→∀r∈fzR id z l,r.length=es
 | [],_,r,h=>by simp[fzR] at h
 | x::l,k,r,h=>by
  simp only[fzR,Aq] at h;rcases h with rfl | h
  ·rw[R.fzL_length];exact k _ (by simp)
  ·exact mL (l:=l) (fun r q=>k r (by simp[q])) r h
def AObj.fz (id:Nat) (z:Fz):AObj→AObj
 | .var t cells=>.var t (R.fzL id z cells)
 | .lp st j i e=>.lp st j i (fzE id z e)
 | .rarr te es l=>.rarr te es (fzR id z l)
 | .tok r k=>.tok (r.fz id z) k
 | o=>o
def Fz.of:Fz→AObj→Prop
 | .map agg ents,o=>o=.map agg ents
 | .var l,o=>∃t,o=.var t (l.map R.c)
 | .ra n es l,o=>∃te elems,o=.rarr te es elems∧l=elems.flatten∧n=elems.length
def hfz (id:Nat) (z:Fz) (H:c8):c8:=fun j=>if Nat.beq j id then none else(H j).map (AObj.fz id z)
section
variable {S S':Sto}{μ:Mu}{H:c8}{id:Nat}{z:Fz}
theorem kC {j:Nat}(h:j≠id):hfz id z H j=(H j).map (AObj.fz id z):=by
 have:Nat.beq j id=false:=by
  cases hb:Nat.beq j id with
  | false=>rfl
  | true=>exact absurd (δ hb) h
 simp[hfz,this]
theorem aUr:hfz id z H id=none:=by simp[hfz]
theorem zR {j te es fz:Nat}{l:List (List C)}{o:AObj}(hid:H id=some o) (q:z.of o) (h:H j=some (.arr te es l fz)):hfz id z H j=some (.arr te es l fz):=by
 have r:j≠id:=by
  rintro rfl;rw[h] at hid;cases hid;cases z with
  | map agg ents=>cases q
  | var l=>obtain⟨t,h⟩:=q;cases h
  | ra n es l=>obtain⟨_,_,h,_⟩:=q;cases h
 rw[kC r,h];rfl
theorem uI {j:Nat}{o:AObj}(hid:H id=some o) (q:z.of o) (h:H j=some .dead):hfz id z H j=some .dead:=by
 have r:j≠id:=by
  rintro rfl;rw[h] at hid;cases hid;cases z with
  | map agg ents=>cases q
  | var l=>obtain⟨t,h⟩:=q;cases h
  | ra n es l=>obtain⟨_,_,h,_⟩:=q;cases h
 rw[kC r,h];rfl
def aSz (S':Sto) (μ:Mu) (H:c8) (id:Nat):Fz→Prop
 | .map agg ents=>∀b c,μ id=some (b,c)→∃es clk,S'.mapo b=some (.all es clk)∧(b7 S' agg ents es.toList∨aKg S' agg ents es)
 | .var l=>∀b c,μ id=some (b,c)→∃vs,bZ S' l vs∧eK S' b 0 vs
 | .ra n es l=>n*es=l.length∧∀b base cap,μ id=some (b,base,cap)→n≤cap∧cap≤maxLen∧∃vs,aM S' μ (hfz id (.ra n es l) H) l vs∧eK S' b base vs
mutual
theorem aV.fz (hle:S.le S') {o:AObj}(hid:H id=some o) (q:z.of o):∀(r:R) (v:Value),(id∈r.refs→aSz S' μ H id z)→aV S μ H r v→aV S' μ (hfz id z H) (r.fz id z) v
 | .c x,v,_,k=>by simp only[aV,R.fz] at k ⊢;exact Rep.mono hle x v k
 | .hs j off len sz,v,_,k=>by
  simp only[aV,R.fz] at k ⊢;obtain⟨k0,k | ⟨te,es,elems,fz,h1,h2⟩⟩:=k
  ·exact⟨k0,.inl (uI hid q k)⟩
  ·exact⟨k0,.inr ⟨te,es,elems,fz,zR hid q h1,h2⟩⟩
 | .tl j off len sz,v,_,k=>by
  simp only[aV,R.fz] at k ⊢;obtain⟨k0,k | ⟨te,es,elems,fz,h1,h2⟩⟩:=k
  ·exact⟨k0,.inl (uI hid q k)⟩
  ·exact⟨k0,.inr ⟨te,es,elems,fz,zR hid q h1,h2⟩⟩
 | .ep j i fo sz,v,_,k=>by
  simp only[aV,R.fz] at k ⊢;obtain⟨k0,k | ⟨te,es,elems,fz,h1,h2⟩⟩:=k
  ·exact⟨k0,.inl (uI hid q k)⟩
  ·exact⟨k0,.inr ⟨te,es,elems,fz,zR hid q h1,h2⟩⟩
 | .vp j off,v,A,k=>by
  simp only[aV] at k;obtain⟨t,cells,b,c,h1,h2,y⟩:=k;by_cases B:j=id
  ·subst B;rw[h1] at hid;cases hid;cases z with
   | map agg ents=>cases q
   | ra n es l=>obtain⟨_,_,h,_⟩:=q;cases h
   | var l=>
    simp only[R.fz,beq_refl,Ce,aV,Rep];obtain⟨vs,g1,g2⟩:=A (by simp[R.refs]) b c h2;refine⟨b,off,y,vs.drop off,g1.drop off,fun i u hu=>?_⟩;rw[Am] at hu;have:=g2 _ u hu;rwa [Bb] at this
  ·have hb:Nat.beq j id=false:=by
    cases hb:Nat.beq j id with
    | false=>rfl
    | true=>exact absurd (δ hb) B
   have e:(R.vp j off).fz id z=.vp j off:=by cases z<;>simp[R.fz,hb]
   rw[e];simp only[aV];exact⟨t,_,b,c,by rw[kC B,h1];rfl,h2,y⟩
 | .mr j,v,A,k=>by
  simp only[aV] at k;obtain⟨agg,ents,b,c,h1,h2,y⟩:=k;by_cases B:j=id
  ·subst B;rw[h1] at hid;cases hid;cases z with
   | var l=>obtain⟨t,h⟩:=q;cases h
   | ra n es l=>obtain⟨_,_,h,_⟩:=q;cases h
   | map agg' ents'=>
    cases q;simp only[R.fz,beq_refl,Ce,aV,Rep];obtain⟨es,clk,g1,g2⟩:=A (by simp[R.refs]) b c h2;exact⟨b,es,clk,y,g1,g2⟩
  ·have hb:Nat.beq j id=false:=by
    cases hb:Nat.beq j id with
    | false=>rfl
    | true=>exact absurd (δ hb) B
   have e:(R.mr j).fz id z=.mr j:=by cases z<;>simp[R.fz,hb]
   rw[e];simp only[aV];exact⟨agg,ents,b,c,by rw[kC B,h1];rfl,h2,y⟩
 | .clo f caps,v,A,k=>by
  simp only[aV,R.fz] at k ⊢;obtain⟨vs,h1,h2⟩:=k;exact⟨vs,h1,aM.fz hle hid q caps vs (by simpa only[R.refs] using A) h2⟩
 | .ras n es l,v,A,k=>by
  simp only[aV,R.fz] at k ⊢;obtain⟨a,cap,h1,h2,y,h4,h5,h6,b,o,h7,vs,J,M⟩:=k;exact⟨a,cap,h1,by rw[R.fzL_length];exact h2,y,h4,h5,h6,b,o,h7,vs,aM.fz hle hid q l vs (by simpa only[R.refs] using A) J,M.mono hle⟩
 | .pas l,v,A,k=>by
  simp only[aV,R.fz] at k ⊢;obtain⟨b,o,h1,vs,J,M⟩:=k;exact⟨b,o,h1,vs,aM.fz hle hid q l vs (by simpa only[R.refs] using A) J,M.mono hle⟩
 | .mth f recv,v,A,k=>by
  simp only[aV,R.fz] at k ⊢;obtain⟨u,h1,h2⟩:=k;exact⟨u,h1,aV.fz hle hid q recv u (by simpa only[R.refs] using A) h2⟩
 | .rp j i fo sz,v,A,k=>by
  simp only[aV] at k;obtain⟨k0,k⟩:=k;by_cases B:j=id
  ·subst B;have key:aV S' μ (hfz j z H) (.c .any) v:=by
    obtain⟨a,rfl⟩:=k0;simp only[aV,Rep];exact⟨rfl,rfl⟩
   rcases k with k | ⟨te,es,elems,h1,h2,y⟩
   ·rw[k] at hid;cases hid;cases z with
    | map agg ents=>cases q
    | var l=>obtain⟨t,h⟩:=q;cases h
    | ra n es l=>obtain⟨_,_,h,_⟩:=q;cases h
   ·rw[h1] at hid;cases hid;cases z with
    | map agg ents=>cases q
    | var l=>obtain⟨t,h⟩:=q;cases h
    | ra n es l=>simpa only[R.fz,beq_refl,Ce] using key
  ·have hb:Nat.beq j id=false:=by
    cases hb:Nat.beq j id with
    | false=>rfl
    | true=>exact absurd (δ hb) B
   have e:(R.rp j i fo sz).fz id z=.rp j i fo sz:=by cases z<;>simp[R.fz,hb]
   rw[e];simp only[aV];rcases k with k | ⟨te,es,elems,h1,h2,y⟩
   ·exact⟨k0,.inl (by rw[kC B,k];rfl)⟩
   ·exact⟨k0,.inr ⟨te,es,fzR id z elems,by rw[kC B,h1];rfl,by rw[eN];exact h2,fun e=>y (by rw[eN] at e;exact e)⟩⟩
 | .yl j,v,_,k=>by
  simp only[aV,R.fz] at k ⊢;obtain⟨st,jp,i,e,b,c,h1,h2,y⟩:=k;have hne:j≠id:=by
   rintro rfl;rw[h1] at hid;cases hid;cases z with
   | map agg ents=>cases q
   | var l=>obtain⟨t,h⟩:=q;cases h
   | ra n es l=>obtain⟨_,_,h,_⟩:=q;cases h
  exact⟨st,jp,i,_,b,c,by rw[kC hne,h1];rfl,h2,y⟩
 | .ra j off len sz,v,A,k=>by
  simp only[aV] at k;obtain⟨k0,k⟩:=k;by_cases B:j=id
  ·subst B;have key:aV S' μ (hfz j z H) (.c .any) v:=by
    obtain⟨a,l,c,rfl⟩:=k0;simp only[aV,Rep];exact⟨rfl,rfl⟩
   rcases k with k | ⟨te,es,elems,h1,h2,y⟩
   ·rw[k] at hid;cases hid;cases z with
    | map agg ents=>cases q
    | var l=>obtain⟨t,h⟩:=q;cases h
    | ra n es l=>obtain⟨_,_,h,_⟩:=q;cases h
   ·rw[h1] at hid;cases hid;cases z with
    | map agg ents=>cases q
    | var l=>obtain⟨t,h⟩:=q;cases h
    | ra n es' l=>
     obtain⟨te',elems',O,E,I⟩:=q;cases O;simp only[R.fz,beq_refl,Ce];split
     ·rename_i hc;simp only[Ab] at hc;obtain⟨⟨U,Y⟩,c3⟩:=hc;have U:=δ U;have Y:=δ Y;have c3:=δ c3;subst U;subst Y;subst c3;obtain⟨f1,f2⟩:=A (by simp[R.refs]);obtain⟨_,⟨m1,m2,m3⟩ | ⟨b,base,cap,m1,m2⟩⟩:=y I
      ·subst m2;simp only[length_nil] at I;subst I;subst E;simp only[aV];exact⟨none,0,m3,by simp,le_refl _,Ae _,(fun _=>⟨by first | rfl | simp,rfl⟩),(by simp),0,0,(by simp),[],(by simp[aM]),(by intro i v e;simp at e)⟩
      ·obtain⟨f3,f4,vs,f5,f6⟩:=f2 b base cap m1;simp only[aV];exact⟨some ⟨b,base,none⟩,cap,by rw[m2];simp,f1,f3,f4,by simp,(fun ad h=>by cases h;rfl),b,base,(fun ad h=>by cases h;exact⟨rfl,rfl⟩),vs,f5,f6⟩
     ·exact key
  ·have hb:Nat.beq j id=false:=by
    cases hb:Nat.beq j id with
    | false=>rfl
    | true=>exact absurd (δ hb) B
   have e:(R.ra j off len sz).fz id z=.ra j off len sz:=by cases z<;>simp[R.fz,hb]
   rw[e];simp only[aV];rcases k with k | ⟨te,es,elems,h1,h2,y⟩
   ·exact⟨k0,.inl (by rw[kC B,k];rfl)⟩
   ·refine⟨k0,.inr ⟨te,es,fzR id z elems,by rw[kC B,h1];rfl,by rw[eN];exact h2,fun e=>?_⟩⟩;rw[eN] at e;obtain⟨O,E⟩:=y e;refine⟨O,?_⟩;rcases E with⟨E,I,q4⟩ | E
    ·exact .inl ⟨E,by rw[I];rfl,q4⟩
    ·exact .inr E
theorem aM.fz (hle:S.le S') {o:AObj}(hid:H id=some o) (q:z.of o):∀(r:List R) (v:List Value),(id∈R.refsL r→aSz S' μ H id z)→aM S μ H r v→aM S' μ (hfz id z H) (R.fzL id z r) v
 | [],_,_,k=>by simpa only[aM,R.fzL] using k
 | r::rs,vs,A,k=>by
  simp only[aM,R.fzL] at k ⊢;obtain⟨v,vs',h1,h2,y⟩:=k;exact⟨v,vs',h1,aV.fz hle hid q r v (fun h=>A (by simp[R.refsL,h])) h2,aM.fz hle hid q rs vs' (fun h=>A (by simp[R.refsL,h])) y⟩
end
mutual
theorem aL.fz (hle:S.le S') {o:AObj}(hid:H id=some o) (q:z.of o) (u:aSz S' μ H id z):∀(r:V) (v:Value),aL S μ H r v→aL S' μ (hfz id z H) (r.fz id z) v
 | .one r,v,k=>by simp only[aL,V.fz] at k ⊢;exact aV.fz hle hid q r v (fun _=>u) k
 | .pa l,v,k=>by
  simp only[aL,V.fz] at k ⊢;obtain⟨vs,h1,h2⟩:=k;exact⟨vs,h1,bZ.mono hle l vs h2⟩
 | .ma l,v,k=>by
  simp only[aL,V.fz] at k ⊢;obtain⟨vs,h1,h2⟩:=k;exact⟨vs,h1,aM.fz hle hid q l vs (fun _=>u) h2⟩
 | .tup l,v,k=>by
  simp only[aL,V.fz] at k ⊢;obtain⟨vs,h1,h2⟩:=k;exact⟨vs,h1,aY.fz hle hid q u l vs h2⟩
theorem aY.fz (hle:S.le S') {o:AObj}(hid:H id=some o) (q:z.of o) (u:aSz S' μ H id z):∀(r:List V) (v:List Value),aY S μ H r v→aY S' μ (hfz id z H) (V.fzL id z r) v
 | [],_,k=>by simpa only[aY,V.fzL] using k
 | r::rs,vs,k=>by
  simp only[aY,V.fzL] at k ⊢;obtain⟨v,vs',h1,h2,y⟩:=k;exact⟨v,vs',h1,aL.fz hle hid q u r v h2,aY.fz hle hid q u rs vs' y⟩
end
theorem AObj.succ_fz {p:Prop}{o o':AObj}(h:o.succ p o'):o.succ p (o'.fz id z):=by
 cases o<;>cases o'<;>simp only[AObj.succ,AObj.fz,eN] at h ⊢<;>exact h
theorem kF.fz {w:World}{j:Nat}{x:AObj}(hle:S.le S') {o:AObj}(hid:H id=some o) (B:z.of o) (E:aSz S' μ H id z) (h:kF S μ H w j x) (hb:∀b c,μ j=some (b,c)→(∀o,S'.cell b o=S.cell b o)∧S'.mapo b=S.mapo b):kF S' μ (hfz id z H) w j (x.fz id z):=by
 cases x with
 | var t cells=>
  obtain⟨b,vs,h1,h2,u,q⟩:=h;exact⟨b,vs,h1,h2,aM.fz hle hid B _ _ (fun _=>E) u,fun o=>by rw[(hb b _ h1).1,q.1],by rw[(hb b _ h1).2,q.2]⟩
 | arr te es elems fz=>
  obtain⟨h0,h1 | ⟨b,base,cap,vs,h1,h2,u,q,y,A,I,J,M⟩⟩:=h
  ·exact⟨h0,.inl h1⟩
  ·exact⟨h0,.inr ⟨b,base,cap,vs,h1,h2,u,q,⟨y.1,by rw[(hb b _ h1).2,y.2]⟩,bZ.mono hle _ _ A,fun e o ho=>by rw[(hb b _ h1).1,I e o ho],fun o e=>by rw[(hb b _ h1).1,J o e],fun e=>(M e).mono hle⟩⟩
 | map agg ents=>
  obtain⟨b,es,clk,h1,h2,u,q⟩:=h;exact⟨b,es,clk,h1,h2,yG.mono hle u,q.of_eq (hb b _ h1).2⟩
 | dead=>exact h
 | lp st jp i e=>
  obtain⟨b,r,fn,tmps,h1,h2,u,q,y,A⟩:=h;refine⟨b,r,fn,tmps,h1,h2,u,fun t v ht=>?_,fun o=>by rw[(hb b _ h1).1,y],by rw[(hb b _ h1).2,A]⟩;obtain⟨v0,O,rfl⟩:=aId ht;exact aL.fz hle hid B E _ _ (q t v0 O)
 | dfr=>
  obtain⟨b,h1,h2,u,q⟩:=h;exact⟨b,h1,h2,fun o=>by rw[(hb b _ h1).1,u],by rw[(hb b _ h1).2,q]⟩
 | rarr te es elems=>
  obtain⟨h0,h1 | ⟨b,base,cap,vs,h1,h2,u,q,y,A,I⟩⟩:=h
  ·exact⟨mL h0,.inl ⟨h1.1,by rw[h1.2];rfl⟩⟩
  ·refine⟨mL h0,.inr ⟨b,base,cap,vs,h1,h2,u,by rw[eN];exact q,⟨y.1,by rw[(hb b _ h1).2,y.2]⟩,?_,fun o ho=>by rw[(hb b _ h1).1,I o ho]⟩⟩;rw[aCd,eN];exact aM.fz hle hid B _ _ (fun _=>E) A
 | tok r k=>
  obtain⟨h1,b,h2,m,u,q⟩:=h;obtain⟨U,y,A⟩:=hle.2 b m u;exact⟨h1,b,aV.fz hle hid B _ _ (fun _=>E) h2,U,y,MK.le_has A q⟩
theorem Sto.free_of {S S':Sto}(h:S.free) {b:Nat}(hb:∀q,q≠b→(∀o,S'.cell q o=S.cell q o)∧S'.mapo q=S.mapo q) (ht:∀te lo hi,¬S'.mapo b=some (.top te lo hi)):S'.free:=fun q te lo hi e o ho=>by
 by_cases r:q=b
 ·subst r;exact absurd e (ht te lo hi)
 ·obtain⟨h1,h2⟩:=hb q r;rw[h1,h q te lo hi (by rw[←h2];exact e) o ho]
theorem aL0 {G:Ctx}{n:Nat}{kf:List Nat}{st:St}{a:Act}{w:World}{o:AObj}(hid:st.h id=some o) (A:z.of o) (J:id∉kf) (hg:G.keeps kf) (hs:Sim G n S μ st a w) (hle:S.le S') (hh:Holds S' w) (M:aSz S' μ st.h id z)
  (hb:∀b,(∀c,μ id≠some (b,c))→(∀o,S'.cell b o=S.cell b o)∧S'.mapo b=S.mapo b) (E:S'.free):Sim G n S' μ ⟨fun t=>(st.e t).map (V.fz id z),hfz id z st.h,st.d⟩ a w:=by
 have hold:∀j x,hfz id z st.h j=some x→j≠id∧∃u,st.h j=some u∧x=u.fz id z:=by
  intro j x q;have r:j≠id:=by rintro rfl;rw[aUr] at q;cases q
  rw[kC r] at q;cases h:st.h j with
  | none=>rw[h] at q;cases q
  | some u=>
   rw[h] at q;cases q;exact⟨r,u,rfl,rfl⟩
 have I:∀j u,st.h j=some u→j≠id→∀b c,μ j=some (b,c)→∀c',μ id≠some (b,c'):=by
  intro j u q r b c hm c' B;exact r (hs.inv.inj j id u o b c c' q hid hm B)
 refine⟨⟨hh,fun j x q=>?_,fun i j x x' b c c' hi q hm B=>?_,fun i x b c hi hm=>?_,hs.inv.frame,Sto.le_trans hs.inv.sle hle,fun b O U=>?_,⟨Sto.le_trans hs.inv.evo.le hle,fun j x q=>?_⟩,E⟩,hs.size,hs.defers.go fun j _ q=>⟨rfl,?_⟩,fun t v e=>?_⟩
 ·obtain⟨r,u,h1,rfl⟩:=hold j x q;exact(hs.inv.obj j u h1).fz hle hid A M fun b c hm=>hb b (I j u h1 r b c hm)
 ·obtain⟨_,y,h1,_⟩:=hold i x hi;obtain⟨_,y',h2,_⟩:=hold j x' q;exact hs.inv.inj i j y y' b c c' h1 h2 hm B
 ·obtain⟨_,y,h1,_⟩:=hold i x hi;exact hs.inv.own i y b c h1 hm
 ·have Y:∀c,μ id≠some (b,c):=by
   intro c hm;rcases hs.inv.own id o b c hid hm with h | h
   ·omega
   ·exact U h
  obtain⟨h1,h2⟩:=hb b Y;obtain⟨h3,h4⟩:=hs.inv.sto b O U;exact⟨fun o=>(h1 o).trans (h3 o),h2.trans h4⟩
 ·obtain⟨o',h1,h2⟩:=hs.inv.evo.obj j x q;have r:j≠id:=fun e=>J (e▸hg.1 j x q)
  exact⟨o'.fz id z,by show hfz id z st.h j=_;rw[kC r,h1];rfl,AObj.succ_fz h2⟩
 ·have r:j≠id:=by
   rintro rfl;rw[q] at hid;cases hid;cases z with
   | map agg ents=>cases A
   | var l=>obtain⟨t,h⟩:=A;cases h
   | ra n es l=>obtain⟨_,_,h,_⟩:=A;cases h
  show hfz id z st.h j=_;rw[kC r,q];rfl
 ·cases h:st.e t with
  | none=>simp[h] at e
  | some v0=>
   simp only[h,Bx,Option.some.injEq] at e;subst e;exact aL.fz hle hid A M v0 _ (hs.env t v0 h)
theorem Sub.fvar {kf:List Nat}{st:St}{id t:Nat}{l:List C}(hid:st.h id=some (.var t (l.map R.c))) (r:id∉kf):Sub kf ⟨fun t=>(st.e t).map (V.fz id (.var l)),hfz id (.var l) st.h,st.d⟩ st:=by
 intro G n S μ a w E hs;obtain⟨b,vs,h1,h2,I,y⟩:=hs.inv.obj id _ hid;have A:=I.pure
 let S':Sto:=⟨fun q o=>if q=b then vs[o]? else S.cell q o,S.mapo⟩
 have hle:S.le S':=⟨fun q o v e=>by
  show(if q=b then vs[o]? else S.cell q o)=some v;by_cases hb:q=b
  ·subst hb;rw[y.1] at e;cases e
  ·rw[ζ hb];exact e,fun _ m e=>⟨m,e,m.le_refl⟩⟩
 refine⟨S',μ,aL0 hid ⟨t,rfl⟩ r E hs hle ⟨fun q o v e=>?_,hs.inv.holds.2⟩ ?_ (fun q hb=>⟨fun o=>?_,rfl⟩) (Sto.free_of hs.inv.fre (b:=b) (fun q hb=>⟨fun _=>ζ hb,rfl⟩) fun te lo hi e=>by have e:S.mapo b=_:=e;rw[y.2] at e;cases e)⟩
 ·have e':(if q=b then vs[o]? else S.cell q o)=some v:=e;by_cases hb:q=b
  ·subst hb;rw[ξ rfl] at e';exact⟨⟨vs⟩,t,(0,0),h2,by simpa using e'⟩
  ·rw[ζ hb] at e';exact hs.inv.holds.1 q o v e'
 ·intro q c hm;rw[h1] at hm;cases hm;refine⟨vs,bZ.mono hle _ _ A,fun i u hu=>?_⟩;show(if b=b then vs[0+i]? else S.cell b (0+i))=some u;rw[ξ rfl,Bb];exact hu
 ·have B:q≠b:=fun e=>hb (0,0) (by rw[e];exact h1)
  exact ζ B
end
theorem aY.length {S:Sto}{μ:Mu}{H:c8}:∀{l:List V}{us:List Value},aY S μ H l us→us.length=l.length
 | [],_,h=>by simp only[aY] at h;subst h;rfl
 | _::l,_,h=>by
  simp only[aY] at h;obtain⟨v,vs',rfl,_,h2⟩:=h;simp[aY.length h2]
theorem Inv.keep {G:Ctx}{S:Sto}{μ:Mu}{H:c8}{w:World}{hout:List (Nat×AObj)}(hs:Inv G S μ H w) (q:gG (fun p=>∃o,H p.1=some o∧Ole (fun i=>i) o p.2) hout)
  (E:subset (gS hout) (keys hout)=true) (I:∀id o,G.h0 id=some o→id∈keys hout):Inv G S μ (look hout) w:=by
 have r:∀i∈keys hout,Good H (look hout) (fun i=>i) i:=by
  intro i hi;obtain⟨o',u⟩:=cM hi;obtain⟨o,g1,g2⟩:=q.mem _ (b6 u);exact⟨o,o',g1,u,g2⟩
 refine⟨hs.holds,fun id o ho=>?_,fun i j o o' b c c' hi J hm A=>?_,fun i o b c hi hm=>?_,hs.frame,hs.sle,hs.sto,⟨hs.evo.le,fun id o ho=>?_⟩,hs.fre⟩
 ·obtain⟨y,g1,g2⟩:=q.mem _ (b6 ho);exact(hs.obj _ _ g1).ren g2 fun i hi=>r i (bT E i (kQ (b6 ho) i hi))
 ·obtain⟨y,g1,g2⟩:=q.mem _ (b6 hi);obtain⟨B,g3,g4⟩:=q.mem _ (b6 J);exact hs.inj _ _ _ _ b c c' g1 g3 hm A
 ·obtain⟨y,g1,g2⟩:=q.mem _ (b6 hi);exact hs.own _ _ b c g1 hm
 ·obtain⟨o',g1,g2⟩:=hs.evo.obj id o ho;obtain⟨y,B,g3,g4,g5⟩:=r id (I id o ho);rw[g1] at g3;cases g3;exact⟨B,g4,AObj.succ_trans g2 g5.succ fun e _=>e⟩
section
variable {P:Program}{n:Nat}{o:Oper}{st:St}{d:Nat}
end
def yK (W:World):Sto:=
 ⟨fun b o=>match W.heap[b]? with | some (.cells vs _ _)=>vs[o]? | _=>none,fun b=>match W.heap[b]? with | some (.map es clk)=>some (.all es clk) | _=>none⟩
theorem aEh (W:World):Holds (yK W) W:=by
 refine⟨fun b o v h=>?_,fun b mk h=>?_⟩
 ·simp only[yK] at h;split at h
  ·rename_i vs t q hq;exact⟨vs,t,q,hq,h⟩
  ·cases h
 ·simp only[yK] at h;split at h
  ·rename_i hq;cases h;exact hq
  ·cases h
theorem aLq (W:World):(yK W).noTop:=fun b m e=>by
 simp only[yK] at e;split at e
 ·cases e;exact⟨_,_,rfl⟩
 ·cases e
theorem aHv (W:World):(yK W).free:=fun b te lo hi e=>by
 obtain⟨_,_,h⟩:=aLq W b _ e;cases h
theorem aHw {W:World}{a:Addr}{v:Value}(h:W.cell? a=some v):(yK W).cell a.block a.off=some v:=by
 unfold World.cell? at h;simp only[yK];split at h
 ·rename_i hq;rw[hq];split at h
  ·cases h
  ·exact h
 ·cases h
theorem aH7 {P:Program}{f:FuncId}{args:List V}{vals:List Value}{res:V}(h:bI P f args [] res []) (W:World) (r:aY (yK W) (fun _=>none) (look []) args vals) (ht:aM7 W:=by first | assumption | (intro g h;cases h)):
  Calls P f ⟨vals⟩ W fun e W'=>∃v S μ,e=.returned v∧RowKit.Below W.heap.size W W'∧aL S μ (look []) res v:=by
 have u:Inv ⟨W,yK W,k8 (fun _=>none) (look []),fun _=>none,look []⟩ (yK W) (fun _=>none) (look []) W:=
  ⟨aEh W,(fun _ _ h=>by cases h),(fun _ _ _ _ _ _ _ h=>by cases h),(fun _ _ _ _ h=>by cases h),FrameW.refl _ _ ⟨ht,fun g _ ⟨_,_,_,h,_⟩=>by cases h⟩,Sto.le_refl _,fun _ _ _=>⟨fun _=>rfl,rfl⟩,Evolve.refl _ _ _,aHv W⟩
 refine(h (yK W) (fun _=>none) W vals u r).mono ?_;rintro e W' ⟨S',μ',v,he,q,y⟩;refine⟨v,S',μ',he,⟨q.frame.os,q.frame.tape,q.frame.output,q.frame.size,fun k A=>q.frame.block k A ?_⟩,y⟩;rintro⟨id,o,c,h1,_⟩;cases h1
theorem aR2 {S:Sto}{μ:Mu}{H:c8}{b:Bool}{v:Value}(h:aL S μ H (B b) v):v=.bool b:=by simpa [aL,aV,Rep] using h
def kZ (l:List Int):List (List C):=l.map fun m=>[.int .i64 m]
theorem aK5 {W:World}{a:Addr}{len cap:Nat}{l:List Int}(hs:cap≠0→a.spot=none) (hl:l.length=len) (hc:len≤cap) (hm:cap≤maxLen) (q:∀i,i<len→W.cell? (a.add i)=some (.int .i64 (l.getD i 0))):
  Rep (yK W) (.sl 1 (kZ l)) (.slice (some a) len cap):=by
 simp only[Rep];refine⟨some a,len,cap,rfl,by simp[kZ,hl],hc,hm,(by intro h;cases h),(by intro y h;cases h;exact hs),a.block,a.off,(by intro y h;cases h;exact⟨rfl,rfl⟩),?_⟩;have key:∀(r:List Int) (k:Nat),(∀i,i<r.length→W.cell? (a.add (k+i))=some (.int .i64 (r.getD i 0)))→bC (yK W) 1 a.block (kZ r) (a.off+k):=by
  intro r
  induction r with
  | nil=>intro k _;simp[kZ,bC]
  | cons x r A=>
   intro k u;simp only[kZ,An,bC];refine⟨rfl,⟨[.int .i64 x],by simp[bZ,Rep],fun i v hi=>?_⟩,?_⟩
   ·have h0:=aHw (u 0 (by simp));have hb:(a.add (k+0)).block=a.block:=by unfold Addr.add;split<;>rfl
    have ho:(a.add (k+0)).off=a.off+k:=by
     unfold Addr.add;split
     ·rename_i h;omega
     ·rfl
    rw[hb,ho] at h0;cases i with
    | zero=>simp at hi;subst hi;simpa using h0
    | succ i=>simp at hi
   ·have:=A (k+1) fun i hi=>by
     have:=u (i+1) (by simp;omega);rw[show k+(i+1)=k+1+i by omega] at this;simpa using this
    rw[add_assoc];exact this
 have:=key l 0 fun i hi=>by rw[Bb];exact q i (by omega)
 simpa using this
theorem wC {W:World}:Rep (yK W) (.sl 1 (kZ [])) (.slice none 0 0):=by
 simp only[Rep];exact⟨none,0,0,rfl,rfl,le_refl _,Ae _,(fun _=>⟨rfl,rfl⟩),(by intro q h;cases h),0,0,(by intro q h;cases h),by simp[kZ,bC]⟩
theorem sO {H:Type}{enc:TypeId×Value→H}{P:Program}{W:World}{t e:TypeId}{v:Value}{d:DataW H}{ps:List MemPlace}{base:Nat}(ht:P.underlying t=some (.slice e)) (he:P.underlying e=some (.int .i64)) (hc:P.cellsOf e=1)
  (hok:Value.okWide P W .any base t v) (h:DataW.Trod enc P W 0 (fun _=>true) true t v d ps):
  ∃l:List Int,Rep (yK W) (.sl 1 (kZ l)) v∧(∀m∈l,-9223372036854775808≤m∧m≤9223372036854775807)∧(∃x y,(d=.nil∧l=[])∨(d=.slice x y∧x.length=l.length)):=by
 obtain⟨fuel,B⟩:=h;obtain⟨a0,q,r,rfl⟩:=WideShapes.okWide_slice ht hok;rcases ChangeShapes.open_ints ht he hc B with⟨h1,h2⟩ | ⟨a,len,cap,u,h1,_,E,I,J,M,O,U⟩
 ·have A:Value.slice a0 q r=.slice none 0 0:=by
   simp only[Value.cells] at h1;simpa using h1
  cases A;refine⟨[],wC,by simp,[],[],.inl ⟨?_,rfl⟩⟩;have:=congrArg Prod.fst h2;simpa using this
 ·have A:Value.slice a0 q r=.slice (some a) len cap:=by
   simp only[Value.cells] at h1;simpa using h1
  cases A;have hs:a.spot=none:=by
   simp only[Value.okWide,ht,Cell.okWide,Cell.ok] at hok;exact hok.2.2.2.1
  have hlen:q≤u.length:=by rw[J];split<;>omega
  refine⟨u.take q,aK5 (fun _=>hs) (by simp;omega) E I (fun i hi=>?_),fun m hm=>?_,ChangeShapes.lits .i64 (u.take q),ChangeShapes.lits .i64 (u.drop q),.inr ⟨?_,?_⟩⟩
  ·rw[O i (by omega)];congr 2;simp[List.getD_eq_getElem?_getD,hi]
  ·have:=U m (By hm);simp only[Lit.wf,Ab,decide_eq_true_eq] at this;exact this
  ·have:=congrArg Prod.fst M;simpa using this
  ·simp[ChangeShapes.lits]
inductive BndV (st:St):Option Operand→Nat→Nat→Prop
 | no {m}:BndV st none m m
 | yes {x kk m k}:opv st x=some (I kk ((k:Nat):Int))→BndV st (some x) m k
def aMr:Option Operand→List Nat
 | none=>[]
 | some x=>opr x
section
variable {P:Program}{n:Nat}{o:Oper}{st:St}{d:Nat}{T:TT}
theorem BndV.val {G:Ctx}{S:Sto}{μ:Mu}{st':St}{a:Act}{w:World}{x:Option Operand}{m k:Nat}(h:BndV st x m k) (hs:Sim G n S μ st' a w) (ha:∀t∈aMr x,st'.e t=st.e t):
  (x=none∧k=m)∨∃kk,x.map a.eval=some (.int kk ((k:Nat):Int)):=by
 cases h with
 | no=>exact .inl ⟨rfl,rfl⟩
 | @yes x kk _ _ h=>exact .inr ⟨kk,by rw[Bx,dS (aI hs h ha)]⟩
theorem sH {w:World}{b:Bool}{len cap lo hi:Nat}{low high:Option Value}(hl:(low=none∧lo=0)∨∃kk,low=some (.int kk ((lo:Nat):Int))) (hh:(high=none∧hi=len)∨∃kk,high=some (.int kk ((hi:Nat):Int))) (h1:lo≤hi) (h2:hi≤len) (q:len≤cap):
  (Instr.sliceBounds b len cap low high none).run P w=.ok (lo,hi,cap) w:=by
 have r:hi≤cap:=le_trans h2 q;rcases hl with⟨rfl,rfl⟩ | ⟨u,rfl⟩<;>rcases hh with⟨rfl,rfl⟩ | ⟨y,rfl⟩<;>simp[Instr.sliceBounds,Instr.sliceBound,asIntOf,h1,r]
theorem aXt {t e:TypeId}{i r:TI}{x:Operand}{low high:Option Operand}{es lo hi:Nat}{l:List (List C)}(B:Tok P T) (ho:o.op=.slice t x low high none) (hd:o.dst=some d) (E:d<n) (I:T[t]?=some (some i)) (hk:i.k=.sl e) (J:T[e]?=some (some r)) (M:r.size=es)
  (hx:opv st x=some (.one (.c (.sl es l)))) (O:BndV st low 0 lo) (U:BndV st high l.length hi) (h1:lo≤hi) (h2:hi≤l.length):
  Step P n o st ⟨opr x++aMr low++aMr high,[]⟩ ⟨some (d,some (.one (.c (.sl es ((l.take hi).drop lo))))),[]⟩:=by
 refine Step.value hd E fun st' ha G S μ a w hs=>?_
 have Y:=aI hs hx fun t ht=>ha.1 t (by simp[ht])
 have hl:=O.val hs fun t ht=>ha.1 t (by simp[ht])
 have hh:=U.val hs fun t ht=>ha.1 t (by simp[ht])
 simp only[aL,aV,Rep] at Y;obtain⟨q,len,cap,p1,p2,p3,p4,p5,p6,b,of,p7,p8⟩:=Y;subst p2;have hb:=sH (P:=P) (w:=w) (b:=true) (low:=low.map a.eval) (high:=high.map a.eval) (len:=l.length) (cap:=cap) (by rcases hl with⟨rfl,h⟩ | h;exact .inl ⟨rfl,h⟩;exact .inr h) (by rcases hh with⟨rfl,h⟩ | h;exact .inl ⟨rfl,h⟩;exact .inr h) h1 h2 p3;refine⟨.slice (if cap=lo then q else q.map (·.add (lo*r.size))) (hi-lo) (cap-lo),?_,?_⟩
 ·have hu:=Ag ((B.get I).slice hk) w;simp only[execOp,ho,p1,Option.map_none,ε,Instr.sliceAt,hu,θ,Instr.slice,hb,(B.get J).size_run w,τ]
 ·simp only[aL,aV,Rep];have hlen:((l.take hi).drop lo).length=hi-lo:=by simp;omega
  refine⟨_,_,_,rfl,hlen.symm,by omega,by omega,?_,?_,?_⟩
  ·intro e;have:q=none:=by
    split at e
    ·exact e
    ·cases q<;>simp at e;rfl
   obtain⟨u,A⟩:=p5 this;omega
  ·intro y e hcc;split at e
   ·omega
   ·cases q with
    | none=>cases e
    | some z=>
     simp at e;subst e;have:=p6 z rfl (by omega);obtain⟨zb,zo,zs⟩:=z;simp at this;subst this;rw[Addr.add_mid]
  ·by_cases hc:cap=lo
   ·have:(l.take hi).drop lo=[]:=Au (by omega);rw[this];refine⟨b,of,fun y e=>p7 y (by rwa [ξ hc] at e),by simp[bC]⟩
   ·refine⟨b,of+lo*es,fun y e=>?_,(p8.take hi).drop lo⟩;rw[ζ hc] at e;cases q with
    | none=>cases e
    | some z=>
     simp at e;subst e;obtain⟨u,A⟩:=p7 z rfl;have:=p6 z rfl (by omega);obtain⟨zb,zo,zs⟩:=z;simp at this u A;subst this u A;rw[Addr.add_mid,M];exact⟨rfl,rfl⟩
theorem extract_mk (s:List UInt8) (lo hi:Nat):(ByteArray.mk ⟨s⟩).extract lo hi=⟨⟨(s.take hi).drop lo⟩⟩:=by
 apply ByteArray.ext;simp;rw[drop_take]
theorem aTn {t:TypeId}{i:TI}{x:Operand}{low high:Option Operand}{lo hi:Nat}{s:List UInt8}(A:Tok P T) (ho:o.op=.slice t x low high none) (B:o.dst=some d) (q:d<n) (r:T[t]?=some (some i)) (E:i.k=.str)
  (hx:opv st x=some (Go.AM.T s)) (u:BndV st low 0 lo) (y:BndV st high s.length hi) (h1:lo≤hi) (h2:hi≤s.length):
  Step P n o st ⟨opr x++aMr low++aMr high,[]⟩ ⟨some (d,some (Go.AM.T ((s.take hi).drop lo))),[]⟩:=by
 refine Step.value B q fun st' ha G S μ a w hs=>?_
 have I:=kV (aI hs hx fun t ht=>ha.1 t (by simp[ht]));have hl:=u.val hs fun t ht=>ha.1 t (by simp[ht])
 have hh:=y.val hs fun t ht=>ha.1 t (by simp[ht])
 have hb:=sH (P:=P) (w:=w) (b:=false) (low:=low.map a.eval) (high:=high.map a.eval) (len:=s.length) (cap:=s.length) (by rcases hl with⟨rfl,h⟩ | h;exact .inl ⟨rfl,h⟩;exact .inr h) (by rcases hh with⟨rfl,h⟩ | h;exact .inl ⟨rfl,h⟩;exact .inr h) h1 h2 (le_refl _);refine⟨.string ⟨⟨(s.take hi).drop lo⟩⟩,?_,by simp[aL,aV,Rep]⟩;have hu:=Ag ((A.get r).str E) w;have hsz:(ByteArray.mk ⟨s⟩).size=s.length:=rfl;simp only[execOp,ho,I,Option.map_none,ε,Instr.sliceAt,hu,θ,Instr.slice,hsz,hb,Option.isSome_none,Av,Bn,τ,extract_mk]
theorem aNn {t:TypeId}{i:TI}{x y:Operand}{s:List UInt8}{kk:IntKind}{m:Int}{k:Nat}{b:UInt8}(A:Tok P T) (ho:o.op=.index t x y) (B:o.dst=some d) (q:d<n) (r:T[t]?=some (some i)) (E:i.k=.str)
  (hx:opv st x=some (Go.AM.T s)) (hy:opv st y=some (I kk m)) (hm:m=(k:Int)) (hb:s[k]?=some b):Step P n o st ⟨opr x++opr y,[]⟩ ⟨some (d,some (I .u8 ((b.toNat:Nat):Int))),[]⟩:=by
 refine Step.value B q fun st' ha G S μ a w hs=>?_
 have J:=kV (aI hs hx fun t ht=>ha.1 t (by simp[ht]));have h2:=dS (aI hs hy fun t ht=>ha.1 t (by simp[ht]));subst hm;refine⟨.int .u8 ((b.toNat:Nat):Int),?_,by simp[aL,aV,Rep]⟩;have hu:=Ag ((A.get r).str E) w;have M:(ByteArray.mk ⟨s⟩)[k]?=some b:=by
  have u:=(Af.1 hb).1
  have hsz:(ByteArray.mk ⟨s⟩).size=s.length:=rfl;rw[getElem?_pos (ByteArray.mk ⟨s⟩) k (by rw[hsz];exact u)];have:=(Af.1 hb).2
  rw[←this];rfl
 simp only[execOp,ho,J,h2,ε,Instr.index,asIntOf,τ,θ,hu];simp[M]
theorem aXm {t1 t2:TypeId}{x y:Operand}{k:IntKind}{a b r:Int}(ho:o.op=.call { callee:=.builtin .min,args:= #[x,y],argTypes:= #[t1,t2] }) (u:o.dst=some d) (q:d<n) (hx:opv st x=some (I k a)) (hy:opv st y=some (I k b)) (A:(if b<a then b else a)=r):
  Step P n o st ⟨opr x++opr y,[]⟩ ⟨some (d,some (I k r)),[]⟩:=by
 refine Step.value u q fun st' ha G S μ ac w hs=>?_
 have h1:=dS (aI hs hx fun t h=>ha.1 t (by simp[h]));have h2:=dS (aI hs hy fun t h=>ha.1 t (by simp[h]));refine⟨.int k r,?_,by simp[aL,aV,Rep]⟩;simp only[execOp,ho,resolve,map_toArray,An,Bz,h1,h2,ε,τ,θ,invoke,builtin,Builtin.min_,List.foldlM_cons,List.foldlM_nil,Builtin.min2,A]
end
section
variable {P:Program}{n:Nat}{o:Oper}{st:St}{d:Nat}{T:TT}
theorem kF.rarr {S:Sto}{μ:Mu}{H:c8}{w:World}{id:Nat}{te es:Nat}{elems:List (List R)}(h:kF S μ H w id (.rarr te es elems)) {b base cap:Nat}(hm:μ id=some (b,base,cap)):
  (∀r∈elems,r.length=es)∧∃vs,w.heap[b]?=some (.cells ⟨vs⟩ te (0,0))∧base+cap*es≤vs.length∧elems.length≤cap∧(cap≤maxLen∧S.mapo b=none)∧aM S μ H elems.flatten ((vs.drop base).take (elems.length*es))∧(∀o,base≤o→S.cell b o=none):=by
 obtain⟨h0,h1 | ⟨J,q,u,vs,h1,h2,y,A,B,E,I⟩⟩:=h
 ·rw[h1.1] at hm;cases hm
 ·rw[h1] at hm;cases hm;exact⟨h0,vs,h2,y,A,B,E,I⟩
def tT (st:St) (es:Nat):Nat→List (Nat×Operand)→Option (List (List R))
 | _,[]=>some []
 | k,(i,x)::ps=>bif Nat.beq i k then(opv st x).bind fun v=>(fZ v).bind fun rs=>bif Nat.beq rs.length es then(tT st es (k+1) ps).bind fun l=>some (rs::l) else none else none
theorem wA {es:Nat}:∀{ps:List (Nat×Operand)}{k:Nat}{l:List (List R)},tT st es k ps=some l→l.length=ps.length∧∀r∈l,r.length=es
 | [],k,l,h=>by simp[tT] at h;subst h;simp
 | (i,x)::ps,k,l,h=>by
  simp only[tT] at h;cases hi:Nat.beq i k with
  | false=>rw[hi] at h;cases h
  | true=>
   rw[hi] at h;simp only[Bt,Ac] at h;obtain⟨v,A,rs,y,h⟩:=h;cases hl:Nat.beq rs.length es with
   | false=>rw[hl] at h;cases h
   | true=>
    rw[hl] at h;simp only[Bt,Ac] at h;obtain⟨B,u,h⟩:=h;cases h;obtain⟨h1,h2⟩:=wA u;refine⟨by simp[h1],fun r q=>?_⟩;rcases Aq.1 q with rfl | q
    ·exact δ hl
    ·exact h2 r q
theorem aD0 {G:Ctx}{S:Sto}{μ:Mu}{st':St}{a:Act}{w:World}(hs:Sim G n S μ st' a w) {es:Nat}:∀{k:Nat}{ps:List (Nat×Operand)}{rows:List (List R)},tT st es k ps=some rows→(∀t∈fB ps,st'.e t=st.e t)→
  ∀(cells:Array Value),cells.size=(k+ps.length)*es→∃out:Array Value,Instr.fill (fun i=>some (i*es,es)) cells (ps.map fun(i,x)=>(i,a.eval x))=some out∧out.size=cells.size∧
   ∃us,aM S μ st'.h rows.flatten us∧out.toList=cells.toList.take (k*es)++us:=by
 intro k ps
 induction ps generalizing k with
 | nil=>
  intro rows h _ cells hc;simp only[tT] at h;cases h;refine⟨cells,rfl,rfl,[],by simp[aM],?_⟩;rw[Bm,A0];simp at hc;simp[hc]
 | cons p ps J=>
  obtain⟨i,x⟩:=p;intro rows h ha cells hsz;simp only[tT] at h;cases hi:Nat.beq i k with
  | false=>rw[hi] at h;cases h
  | true=>
   rw[hi] at h;have A:=δ hi;subst A;simp only[Bt,Ac] at h;obtain⟨v,M,rs,B,h⟩:=h;cases hl:Nat.beq rs.length es with
   | false=>rw[hl] at h;cases h
   | true=>
    rw[hl] at h;simp only[Bt,Ac] at h;obtain⟨l',u,h⟩:=h;cases h;have Y:=δ hl;have hrel:=dG (aI hs M fun t ht=>ha t (by simp[fB,ht])) B;have E:=hrel.length;simp only[Ay] at E;simp only[κ] at hsz;have aa:(i+(ps.length+1))*es=i*es+es+ps.length*es:=by
     rw[A7,A7];omega
    have y:=nD (i*es) (a.eval x).cells.toList 0 cells (by simp only[Ay];omega);have r:(bR cells.toList (i*es) (a.eval x).cells.toList).length=cells.size:=by
     unfold bR;simp;omega
    obtain⟨out,h1,h2,us,O,U⟩:=J u (fun t ht=>ha t (by simp[fB,ht])) ⟨bR cells.toList (i*es) (a.eval x).cells.toList⟩ (by
     simp only[size_toArray,r,hsz];congr 1
     omega)
    refine⟨out,?_,by rw[h2];simpa using r,(a.eval x).cells.toList++us,?_,?_⟩
    ·simp only[An,Instr.fill];have q:((a.eval x).cells.size≠es || decide (i*es+(a.eval x).cells.size>cells.size))=false:=by
      simp only[Bool.or_eq_false_iff,decide_eq_false_iff_not];exact⟨by simp;omega,by omega⟩
     simp only[q,Av,Bn];have I:((a.eval x).cells.zipIdx.foldl (fun cs (x:Value×Nat)=>cs.setIfInBounds (i*es+x.2) x.1) cells)=⟨bR cells.toList (i*es) (a.eval x).cells.toList⟩:=by
      rw[←Array.foldl_toList,Array.toList_zipIdx];simpa using y
     rw[←h1];congr 1
    ·rw[Ba];exact hrel.append O
    ·rw[U];have:(bR cells.toList (i*es) (a.eval x).cells.toList).take ((i+1)*es)=cells.toList.take (i*es)++(a.eval x).cells.toList:=by
      unfold bR;apply take_left';simp;rw[A7];omega
     show(bR cells.toList (i*es) (a.eval x).cells.toList).take ((i+1)*es)++us=_;rw[this,Aj]
theorem aK7 {t e:TypeId}{i q:TI}{len:Nat}{parts:Array (Nat×Operand)}{rows:List (List R)}(id:Nat) (A:Tok P T) (ho:o.op=.buildSlice t len parts) (hd:o.dst=some d) (aa:d<n) (hi:T[t]?=some (some i)) (hk:i.k=.sl e) (u:T[e]?=some (some q))
  (y:tT st q.size 0 parts.toList=some rows) (hlen:Nat.beq len parts.size=true) (B:Nat.ble (len*q.size) 16777216=true) (M:Nat.ble len 16777216=true) (hid:st.h id=none):
  Step P n o st ⟨fB parts.toList,[id]⟩ ⟨some (d,some (.one (.ra id 0 len len))),[(id,some (.rarr e q.size rows))]⟩:=by
 refine Step.new hd aa hid (by simp) fun st' ha O G S μ a w hs=>?_
 have I:=δ hlen;have hsm:=Ao B;obtain⟨z,hz,hzr,_⟩:=(A.get u).zero_run;have J:=(hzr S).length;rw[(A.get u).len] at J;simp only[Ay] at J;obtain⟨hrl,hrw⟩:=wA y;simp only[Ay] at hrl;have key:∀(cells:Array Value),cells.size=len*q.size→∃out:Array Value,Instr.fill (fun i=>some (i*q.size,q.size)) cells (parts.map fun(i,x)=>(i,a.eval x)).toList=some out∧out.size=len*q.size∧aM S μ st'.h rows.flatten out.toList:=by
  intro cells hc;obtain⟨out,h1,h2,us,r,h4⟩:=aD0 hs y ha.1 cells (by rw[hc,I];simp);refine⟨out,by rw[←h1];simp,by rw[h2,hc],?_⟩;simp at h4;rw[h4];exact r
 have U:∃out:Array Value,(Instr.buildSlice t len (parts.map fun(i,x)=>(i,a.eval x))).run P w=.ok (.slice (some ⟨w.heap.size,0,none⟩) len len) (w.alloc (.cells out e))∧out.size=len*q.size∧aM S μ st'.h rows.flatten out.toList:=by
  by_cases h0:len*q.size=0
  ·obtain⟨out,h1,h2,r⟩:=key ((Array.range (len*q.size)).map ((#[]:Array Value)[· %(#[]:Array Value).size]!)) (by simp);refine⟨out,?_,h2,r⟩;have E:¬len*q.size>2^24:=by omega
   simp only[Instr.buildSlice,ε,Ag ((A.get hi).slice hk) w,θ,(A.get u).size_run w];rw[ζ E,ξ h0];simp only[ε,θ,τ,h1,gI]
  ·obtain⟨out,h1,h2,r⟩:=key ((Array.range (len*q.size)).map (z.cells[· %z.cells.size]!)) (by simp);refine⟨out,?_,h2,r⟩;have E:¬len*q.size>2^24:=by omega
   simp only[Instr.buildSlice,ε,Ag ((A.get hi).slice hk) w,θ,(A.get u).size_run w];rw[ζ E,ζ h0];simp only[ε,hz w,θ,τ,h1,gI]
 obtain⟨out,h1,h2,r⟩:=U;have hlm:len≤maxLen:=by
  have:=Ao M;unfold maxLen;omega
 have Y:rows.length=len:=by omega
 refine⟨_,_,.slice (some ⟨w.heap.size,0,none⟩) len len,(0,len),?_,WChg.alloc w (.cells out e),?_,?_⟩
 ·simp only[execOp,ho,ε,h1,θ,τ]
 ·refine⟨hrw,.inr ⟨w.heap.size,0,len,out.toList,aH _ _ _,B2 w _,by simp[h2],by omega,⟨hlm,r4 hs.inv⟩,?_,fun o _=>fR hs.inv o⟩⟩;simp only[B8];rw[A0 (by simp[h2,Y])];exact aM.evolve (gK O _ _) _ _ r
 ·simp only[aL,aV];exact⟨⟨_,_,_,rfl⟩,.inr ⟨e,q.size,rows,aH _ _ _,by omega,fun _=>⟨by omega,.inr ⟨w.heap.size,0,len,aH _ _ _,by simp⟩⟩⟩⟩
theorem aD5 {t e:TypeId}{i A:TI}{x y:Operand}{te es k id off len sz:Nat}{kk:IntKind}{m:Int}{elems:List (List R)}(Y:Tok P T) (ho:o.op=.indexAddr t x y) (hd:o.dst=some d) (B:d<n) (hi:T[t]?=some (some i)) (hk:i.k=.sl e) (E:T[e]?=some (some A)) (J:A.size=es)
  (hx:opv st x=some (.one (.ra id off len sz))) (hh:st.h id=some (.rarr te es elems)) (hsz:sz=elems.length) (hy:opv st y=some (I kk m)) (hm:m=(k:Int)) (M:k<len):Step P n o st ⟨opr x++opr y,[id]⟩ ⟨some (d,some (.one (.rp id (off+k) 0 sz))),[]⟩:=by
 refine Step.value hd B fun st' ha G S μ a w hs=>?_
 have q:=aI hs hx fun t ht=>ha.1 t (by simp[ht])
 have O:=dS (aI hs hy fun t ht=>ha.1 t (by simp[ht]));have r:st'.h id=some (.rarr te es elems):=by rw[ha.2 id (by simp),hh]
 simp only[aL,aV] at q;obtain⟨_,q | ⟨te',es',elems',h1,h2,h3⟩⟩:=q
 ·rw[r] at q;cases q
 rw[r] at h1;cases h1;obtain⟨h4,⟨U,u,h7⟩ | ⟨b,base,cap,U,u⟩⟩:=h3 hsz
 ·subst u;simp at hsz;omega
 subst hm;refine⟨.pointer (some ⟨b,base+(off+k)*es+0,none⟩),?_,?_⟩
 ·simp only[execOp,ho,u,O,ε,jO Y hi hk E w b (base+off*es) len _ k kk M,θ,τ,J,Cc];rw[show base+off*es+k*es=base+(off+k)*es by rw[A7];omega]
 ·simp only[aL,aV];exact⟨⟨_,rfl⟩,.inr ⟨te,es,elems,r,h2,fun _=>⟨by omega,b,base,cap,U,rfl⟩⟩⟩
theorem aD8 {t y:TypeId}{i A:TI}{fs:List (Nat×TypeId)}{f q:Nat}{x:Operand}{id k fo sz:Nat}(I:Tok P T) (ho:o.op=.fieldAddr t x f) (J:o.dst=some d) (B:d<n) (hi:T[t]?=some (some i)) (M:i.k=.st fs) (O:fs[f]?=some (q,y)) (E:T[y]?=some (some A)) (U:A.size≠0)
  {te es:Nat} {elems:List (List R)} (hx:opv st x=some (.one (.rp id k fo sz))) (hh:st.h id=some (.rarr te es elems)) (hsz:sz=elems.length):Step P n o st ⟨opr x,[id]⟩ ⟨some (d,some (.one (.rp id k (fo+q) sz))),[]⟩:=by
 refine Step.value J B fun st' ha G S μ a w hs=>?_
 have r:=aI hs hx ha.1;have u:st'.h id=some (.rarr te es elems):=by rw[ha.2 id (by simp),hh]
 simp only[aL,aV] at r;obtain⟨_,r | ⟨te',es',elems',h1,h2,Y⟩⟩:=r
 ·rw[u] at r;cases r
 rw[u] at h1;cases h1;obtain⟨h4,b,base,cap,h5,h6⟩:=Y hsz;refine⟨.pointer (some ⟨b,base+k*es+fo+q,none⟩),?_,?_⟩
 ·simp only[execOp,ho,h6,ε,gR I hi M O E U,θ,τ]
 ·simp only[aL,aV];exact⟨⟨_,rfl⟩,.inr ⟨te,es,elems,u,h2,fun _=>⟨h4,b,base,cap,h5,by rw[add_assoc]⟩⟩⟩
theorem aLc {t e:TypeId}{i:TI}{x:Operand}{te es id off len sz:Nat}{elems:List (List R)}(y:Tok P T) (ho:o.op=.call { callee:=.builtin .len,args:= #[x],argTypes:= #[t] }) (E:o.dst=some d) (A:d<n) (hi:T[t]?=some (some i)) (B:i.k=.sl e)
  (hx:opv st x=some (.one (.ra id off len sz))) (hh:st.h id=some (.rarr te es elems)) (hsz:sz=elems.length):Step P n o st ⟨opr x,[id]⟩ ⟨some (d,some (I .i64 (len:Int))),[]⟩:=by
 refine Step.value E A fun st' ha G S μ a w hs=>?_
 have q:=aI hs hx ha.1;have r:st'.h id=some (.rarr te es elems):=by rw[ha.2 id (by simp),hh]
 simp only[aL,aV] at q;obtain⟨_,q | ⟨U,Y,elems',h1,h2,J⟩⟩:=q
 ·rw[r] at q;cases q
 rw[r] at h1;cases h1;obtain⟨h4,⟨M,u,O⟩ | ⟨b,base,cap,M,u⟩⟩:=J hsz
 ·have hl:len=0:=by subst u;simp at hsz;omega
  subst hl;refine⟨goInt 0,jN ho O ?_,by simp[aL,aV,Rep,goInt]⟩;simp[Builtin.len_,Ag ((y.get hi).slice B) w]
 ·refine⟨goInt len,jN ho u ?_,by simp[aL,aV,Rep,goInt]⟩;simp[Builtin.len_,Ag ((y.get hi).slice B) w]
theorem aGk {S:Sto}{μ:Mu}{H:c8}{es base:Nat}{elems:List (List R)}{vs:List Value}(h0:∀r∈elems,r.length=es) (h:aM S μ H elems.flatten ((vs.drop base).take (elems.length*es))) {k:Nat}{r:List R}(q:elems[k]?=some r):
  aM S μ H r ((vs.drop (base+k*es)).take es):=by
 have u:k<elems.length:=(Af.1 q).1
 have hmul:(k+1)*es≤elems.length*es:=Ax _ u;rw[A7] at hmul;have h1:=(h.drop (k*es)).take es;rw[qL h0 k r q] at h1;rw[drop_take,take_take,Cr,min_eq_left (by omega)] at h1;exact h1
theorem aGv {t te es:Nat}{i:TI}{x:Operand}{id k fo sz:Nat}{elems:List (List R)}{r:List R}{y:V}(U:Tok P T) (ho:o.op=.load t x) (Y:o.dst=some d) (I:d<n) (hi:T[t]?=some (some i)) (hx:opv st x=some (.one (.rp id k fo sz)))
  (hh:st.h id=some (.rarr te es elems)) (hsz:sz=elems.length) (J:elems[k]?=some r) (hl:fo+i.size≤es) (hy:jV i ((r.drop fo).take i.size)=some y):Step P n o st ⟨opr x,[id]⟩ ⟨some (d,some y),[]⟩:=by
 refine Step.value Y I fun st' ha G S μ a w hs=>?_
 have u:=aI hs hx ha.1;have A:st'.h id=some (.rarr te es elems):=by rw[ha.2 id (by simp),hh]
 simp only[aL,aV] at u;obtain⟨_,u | ⟨te',es',elems',h1,h2,h3⟩⟩:=u
 ·rw[A] at u;cases u
 rw[A] at h1;cases h1;obtain⟨h4,b,base,cap,h5,h6⟩:=h3 hsz;obtain⟨g0,vs,g1,g2,g3,g4,g5,g6⟩:=(hs.inv.obj id _ A).rarr h5;have E:=aGk g0 g5 J;have q:=(E.drop fo).take i.size;rw[drop_take,take_take,Cr,min_eq_left (by omega)] at q;have hlt:k<elems.length:=(Af.1 J).1
 have hmul:(k+1)*es≤cap*es:=Ax _ (by omega);rw[A7] at hmul;have M:((vs.drop (base+k*es+fo)).take i.size).length=i.size:=aYl (by omega);have O:=jQ g1 (base+k*es+fo) i.size;refine⟨_,?_,kY q hy⟩;have B:=run_load (U.get hi) w b (base+k*es+fo) _ O M;simp only[execOp,ho,h6,ε,τ] at B ⊢;rw[B];rfl
theorem tV {x:Operand}{te es id k fo sz:Nat}{elems:List (List C)}{fz:Nat}(ho:o.op=.nilCheck x) (y:o.dst=some d) (u:d<n) (hx:opv st x=some (.one (.ep id k fo sz))) (hh:st.h id=some (.arr te es elems fz)) (hsz:sz=elems.length):
  Step P n o st ⟨opr x,[id]⟩ ⟨some (d,some (.one (.ep id k fo sz))),[]⟩:=by
 refine Step.value y u fun st' ha G S μ a w hs=>⟨a.eval x,?_,aI hs hx ha.1⟩
 have q:=aI hs hx ha.1;have r:st'.h id=some (.arr te es elems fz):=by rw[ha.2 id (by simp),hh]
 simp only[aL,aV] at q;obtain⟨_,q | ⟨E,I,elems',J,h1,h2,A⟩⟩:=q
 ·rw[r] at q;cases q
 rw[r] at h1;cases h1;obtain⟨M,b,base,cap,O,B⟩:=A hsz;simp[execOp,ho,B]
theorem tU {x:Operand}{te es id k fo sz:Nat}{elems:List (List R)}(ho:o.op=.nilCheck x) (y:o.dst=some d) (u:d<n) (hx:opv st x=some (.one (.rp id k fo sz))) (hh:st.h id=some (.rarr te es elems)) (hsz:sz=elems.length):
  Step P n o st ⟨opr x,[id]⟩ ⟨some (d,some (.one (.rp id k fo sz))),[]⟩:=by
 refine Step.value y u fun st' ha G S μ a w hs=>⟨a.eval x,?_,aI hs hx ha.1⟩
 have q:=aI hs hx ha.1;have r:st'.h id=some (.rarr te es elems):=by rw[ha.2 id (by simp),hh]
 simp only[aL,aV] at q;obtain⟨_,q | ⟨E,I,elems',h1,h2,A⟩⟩:=q
 ·rw[r] at q;cases q
 rw[r] at h1;cases h1;obtain⟨J,b,base,cap,M,B⟩:=A hsz;simp[execOp,ho,B]
end
section
variable {P:Program}{n:Nat}{o:Oper}{st:St}{d:Nat}{T:TT}
theorem tJ {t e:TypeId}{i q:TI}{x y:Operand}{id id2 sz te2:Nat}{elems rows:List (List R)}{st':St}{G:Ctx}{S:Sto}{μ:Mu}{a:Act}{w:World}(hT:Tok P T) (ho:o.op=.call { callee:=.builtin .append,args:= #[x,y],argTypes:= #[t,t] })
  (hi:T[t]?=some (some i)) (hk:i.k=.sl e) (hei:T[e]?=some (some q)) (hes:Nat.ble 1 q.size=true) (heb:Nat.ble 1 q.bytes=true)
  (hsz:sz=elems.length) (hpos:0<rows.length) (hroom:(elems.length+rows.length)*q.bytes≤140737488355328) (hh':st'.h id=some (.rarr e q.size elems)) (hs:Sim G n S μ st' a w)
  (hvx:aL S μ st'.h (.one (.ra id 0 sz sz)) (a.eval x)) (hvy:aL S μ st'.h (.one (.ra id2 0 rows.length rows.length)) (a.eval y)) (hh2:st'.h id2=some (.rarr te2 q.size rows)):
  ∃w' v b bo c,(execOp a.eval o).run P w=.ok (.value v) w'∧(w.heap.size≤b∨∃c',μ id=some (b,c'))∧WChg w w' b bo∧
   kF S (upd μ id (some (b,c))) (upd st'.h id (some (.rarr e q.size (elems++rows)))) w' id (.rarr e q.size (elems++rows))∧(∀o v,S.cell b o=some v→∃vs t fr,bo=.cells vs t fr∧vs[o]?=some v)∧(∀m,S.mapo b=some m→w.heap.size≤b)∧
   Evolve S μ st'.h S (upd μ id (some (b,c))) (upd st'.h id (some (.rarr e q.size (elems++rows))))∧
   aL S (upd μ id (some (b,c))) (upd st'.h id (some (.rarr e q.size (elems++rows)))) (.one (.ra id 0 (elems.length+rows.length) (elems.length+rows.length))) v:=by
 subst hsz;have hes':=Ao hes;have heb':=Ao heb
 have hE:∀b c,Evolve S μ st'.h S (upd μ id (some (b,c))) (upd st'.h id (some (.rarr e q.size (elems++rows)))):=fun b c=>⟨S.le_refl,fun j x B=>by
  by_cases hne:j=id
  ·subst hne;rw[hh'] at B;cases B;exact⟨_,aH _ _ _,by simp only[AObj.succ,true_and];exact⟨by simp,fun e=>by rw[ψ] at e;omega⟩⟩
  ·exact⟨x,by rw[bJ _ _ _ hne];exact B,x.succ_refl (bJ _ _ _ hne)⟩⟩
 obtain⟨ad,cc,news,hvy1,E,hrl,M⟩:∃ad cc news,a.eval y=.slice (some ad) rows.length cc∧aM S μ st'.h rows.flatten news∧(∀r∈rows,r.length=q.size)∧∀j u,news[j]?=some u→w.cell? (ad.add j)=some u:=by
  simp only[aL,aV] at hvy;obtain⟨_,hv | ⟨te',es',elems',h1,h2,h3⟩⟩:=hvy
  ·rw[hh2] at hv;cases hv
  rw[hh2] at h1;cases h1;obtain⟨h4,⟨h5,O,h7⟩ | ⟨b,base,cap,h5,O⟩⟩:=h3 rfl
  ·rw[O] at hpos;simp at hpos
  obtain⟨g0,vs,g1,g2,g3,g4,g5,g6⟩:=(hs.inv.obj id2 _ hh2).rarr h5;refine⟨_,_,_,O,g5,g0,fun j u B=>?_⟩;rw[Addr.add_mid,cell_of_row w b _ ⟨vs⟩ te2 (0,0) g1];rw[Al] at B;split at B
  ·rw[Am] at B;simpa using B
  ·cases B
 have I:news.length=rows.length*q.size:=by rw[E.length,gW hrl]
 obtain⟨inf,dd,z,g1,g2,g3,g4,g5,g6,g7,g8⟩:=(hT.get hei).ex;have hu:=(hT.get hi).slice hk;have hzs:z.cells.size=q.size:=by
  have h1:=(jG (S:=S) g7).length;rw[(hT.get hei).len] at h1;simpa using h1
 simp only[aL,aV] at hvx;obtain⟨_,hv | ⟨te',es',elems',h1,h2,h3⟩⟩:=hvx
 ·rw[hh'] at hv;cases hv
 rw[hh'] at h1;cases h1;obtain⟨h4,hcase⟩:=h3 rfl;have hbig:elems.length+rows.length≤140737488355328:=by
  have:(elems.length+rows.length)*1≤(elems.length+rows.length)*q.bytes:=Nat.mul_le_mul_left _ heb';omega
 have hone:∀u∈news,u.oneCell'=true:=E.one;have hcap:∀old,elems.length+rows.length≤grownCap w (elems.length+rows.length) old e∧grownCap w (elems.length+rows.length) old e≤maxLen:=fun old=>
  ⟨grownCap_ge _ _ _ _,grownCap_le_maxLen _ _ _ _ (by unfold maxLen;omega)⟩
 have hlen':(elems++rows).length=elems.length+rows.length:=by simp
 have J:∀(U:List Value) (old:Nat),aM S μ st'.h elems.flatten U→∀g0:(∀r∈elems,r.length=q.size),
   kF S (upd μ id (some (w.heap.size,0,grownCap w (elems.length+rows.length) old e))) (upd st'.h id (some (.rarr e q.size (elems++rows))))
    (w.drew.alloc (.cells (U.toArray++news.toArray++Builtin.zeroCells z.cells (grownCap w (elems.length+rows.length) old e-(elems.length+rows.length))) e)) id (.rarr e q.size (elems++rows)):=by
  intro U old hol g0;obtain⟨hc1,hc2⟩:=hcap old;have Y:=hol.length;rw[gW g0] at Y;refine⟨?_,.inr ⟨w.heap.size,0,grownCap w (elems.length+rows.length) old e,(U.toArray++news.toArray++Builtin.zeroCells z.cells (grownCap w (elems.length+rows.length) old e-(elems.length+rows.length))).toList,aH _ _ _,B2 w.drew _,?_,by simpa using hc1,⟨hc2,r4 hs.inv⟩,?_,fun o _=>fR hs.inv o⟩⟩
  ·intro r A;rcases A2.1 A with A | A
   ·exact g0 r A
   ·exact hrl r A
  ·simp only[Array.toList_append,ψ,Ay,size_zeroCells,hzs];simp only[Y,I,Bb,←A7];exact Ax _ (by omega)
  ·simp only[Array.toList_append,B8,ψ,Ci];rw[Bo (by simp[Y,I,A7]),A0 (by simp[Y,I,A7])];exact(aM.evolve (hE _ _) _ _ hol).append (aM.evolve (hE _ _) _ _ E)
 rcases hcase with⟨h5,O,h7⟩ | ⟨b,base,cap,h5,O⟩
 ·--the first elements
  subst O;simp only[length_nil,Bb] at hroom hbig J hcap;have A:=run_append_nil (P:=P) w t o.type e inf z hu g1 g6 ad rows.length cc news (by rw[I,g3]) M (by omega) (by omega) (by rw[g4];omega);refine⟨_,_,w.heap.size,_,(0,grownCap w rows.length 0 e),eM ho h7 hvy1 A,.inl (le_refl _),WChg.alloc_drew w _,?_,fun o v e=>(by rw[fR hs.inv o] at e;cases e),fun m e=>le_refl _,hE _ _,?_⟩
  ·have:=J [] 0 (by simp[aM]) (by simp);simpa using this
  ·simp only[aL,aV];exact⟨⟨_,_,_,rfl⟩,.inr ⟨e,q.size,_,aH _ _ _,by simp,fun _=>⟨by simp,.inr ⟨w.heap.size,0,_,aH _ _ _,by simp⟩⟩⟩⟩
 ·obtain⟨q0,vs,q1,q2,q3,q4,q5,q6⟩:=(hs.inv.obj id _ hh').rarr h5;have hce:elems.length*q.size≤cap*q.size:=Ax _ q3;simp only[sub_zero,zero_mul,Cc] at O;by_cases aa:elems.length+rows.length≤cap
  ·--there is room
   have hce2:(elems.length+rows.length)*q.size≤cap*q.size:=Ax _ aa;rw[A7] at hce2;have A:=kA (P:=P) w t o.type e inf hu g1 b base elems.length cap ⟨vs⟩ q1 ad rows.length cc news (by rw[I,g3]) M hone aa (by rw[g3,I];simp only[size_toArray];omega);rw[g3] at A;have hW:=WChg.setRow w b ⟨vs⟩ ⟨vs.take (base+elems.length*q.size)++news++vs.drop (base+elems.length*q.size+news.length)⟩ e (0,0) q1
   refine⟨_,_,b,_,(base,cap),eM ho O hvy1 A,.inr ⟨_,h5⟩,hW,⟨?_,.inr ⟨b,base,cap,_,aH _ _ _,hW.new,?_,by rw[hlen'];omega,q4,?_,q6⟩⟩,fun o v e=>(by
     by_cases hb:base≤o
     ·rw[q6 o hb] at e;cases e
     ·obtain⟨vs0,t0,fr0,p1,p2⟩:=hs.inv.holds.1 b o v e;rw[q1] at p1;cases p1;refine⟨_,_,_,rfl,?_⟩;simp only[Ca] at p2 ⊢;have hlt:o<vs.length:=(Af.1 p2).1
      rw[Aj,A6 (by simp;omega),Al,ξ (by omega)]
      exact p2),fun m e=>fG q4.2 m e,hE _ _,?_⟩
   ·intro r A;rcases A2.1 A with A | A
    ·exact q0 r A
    ·exact hrl r A
   ·simp only[ψ,Ak,Be];omega
   ·rw[hlen',Ci];have e1:((vs.take (base+elems.length*q.size)++news++vs.drop (base+elems.length*q.size+news.length)).drop base).take ((elems.length+rows.length)*q.size)=(vs.drop base).take (elems.length*q.size)++news:=by
     rw[Aj,B1 (by simp;omega),←Aj,Bo (by simp[A7];omega)];rw[A0 (by simp[A7];omega),drop_take];rw[show base+elems.length*q.size-base=elems.length*q.size by omega]
    rw[e1];exact(aM.evolve (hE _ _) _ _ q5).append (aM.evolve (hE _ _) _ _ E)
   ·simp only[aL,aV];exact⟨⟨_,_,_,rfl⟩,.inr ⟨e,q.size,_,aH _ _ _,by simp,fun _=>⟨by simp,.inr ⟨b,base,cap,aH _ _ _,by simp⟩⟩⟩⟩
  ·--into a new block
   have A:=run_append_grow (P:=P) w t o.type e inf z hu g1 g6 ⟨b,base,none⟩ elems.length cap ((vs.drop base).take (elems.length*q.size)) (by rw[g3];simp;omega) (by
     intro j v B;rw[Addr.add_mid,cell_of_row w b _ ⟨vs⟩ e (0,0) q1];rw[Al] at B;split at B
     ·rw[Am] at B;simpa using B
     ·cases B) ad rows.length cc news (by rw[I,g3]) M (by omega) (by omega) (by rw[g4];exact growslice_fits (by omega) hroom)
   refine⟨_,_,w.heap.size,_,(0,grownCap w (elems.length+rows.length) cap e),eM ho O hvy1 A,.inl (le_refl _),WChg.alloc_drew w _,?_,fun o v e=>(by rw[fR hs.inv o] at e;cases e),fun m e=>le_refl _,hE _ _,?_⟩
   ·have:=J _ cap q5 q0;simpa using this
   ·simp only[aL,aV];exact⟨⟨_,_,_,rfl⟩,.inr ⟨e,q.size,_,aH _ _ _,by simp,fun _=>⟨by simp,.inr ⟨w.heap.size,0,_,aH _ _ _,by simp⟩⟩⟩⟩
theorem aCa {y:V}{id te es:Nat}{elems:List (List R)}(J:o.dst=some d) (u:d<n) {st':St}{G:Ctx}{S:Sto}{μ:Mu}{a:Act}{w:World}{K:Act→World→Prop}{Q:Exit→Act→World→Prop}
  (hs:Sim G n S μ st' a w) (q:∀b c',μ id=some (b,c')→∃ao,st'.h id=some ao) (M:∀S' μ' A w',Sim G n S' μ' (Eff.apply ⟨some (d,some y),[(id,some (.rarr te es elems))]⟩ st') A w'→K A w')
  (h:∃w' v b r c,(execOp a.eval o).run P w=.ok (.value v) w'∧(w.heap.size≤b∨∃c',μ id=some (b,c'))∧WChg w w' b r∧kF S (upd μ id (some (b,c))) (upd st'.h id (some (.rarr te es elems))) w' id (.rarr te es elems)∧
   (∀o v,S.cell b o=some v→∃vs t O,r=.cells vs t O∧vs[o]?=some v)∧(∀m,S.mapo b=some m→w.heap.size≤b)∧Evolve S μ st'.h S (upd μ id (some (b,c))) (upd st'.h id (some (.rarr te es elems)))∧aL S (upd μ id (some (b,c))) (upd st'.h id (some (.rarr te es elems))) y v):
  ∀ro,o.wpIn (Wd ro) 0 P a w K Q:=by
 obtain⟨w',v,b,r,c,U,hb,hw,hO,hS,B,E,Y⟩:=h;refine fun ro=>eS U ?_
 rw[J];have hi:=hs.inv.chg (id:=id) (cap:=c) (ao:=.rarr te es elems) hw (hb.imp (fun h=>h) fun⟨c',h⟩=>by obtain⟨ao,I⟩:=q _ _ h;exact⟨_,c',I,h⟩) E hO hS B;have:=hs.put hi E u (x:=some y) (v:=v) (fun z hz=>by cases hz;exact Y);refine M S (upd μ id (some (b,c))) _ _ ?_;unfold Eff.apply;rw[c7];exact this
theorem aG6 {t e:TypeId}{i q:TI}{x y:Operand}{id r sz A:Nat}{elems rows:List (List R)}(hT:Tok P T) (ho:o.op=.call { callee:=.builtin .append,args:= #[x,y],argTypes:= #[t,t] }) (hd:o.dst=some d) (J:d<n)
  (hi:T[t]?=some (some i)) (hk:i.k=.sl e) (M:T[e]?=some (some q)) (O:Nat.ble 1 q.size=true) (U:Nat.ble 1 q.bytes=true)
  (hx:opv st x=some (.one (.ra id 0 sz sz))) (hh:st.h id=some (.rarr e q.size elems)) (hsz:sz=elems.length) (hy:opv st y=some (.one (.ra r 0 rows.length rows.length))) (Y:st.h r=some (.rarr A q.size rows)) (E:0<rows.length)
  (u:(elems.length+rows.length)*q.bytes≤140737488355328):
  Step P n o st ⟨opr x++opr y,[id,r]⟩ ⟨some (d,some (.one (.ra id 0 (elems.length+rows.length) (elems.length+rows.length)))),[(id,some (.rarr e q.size (elems++rows)))]⟩:=by
 intro st' ha G S μ a w K Q hs aa;have ab:=aI hs hx fun t ht=>ha.1 t (by simp[ht])
 have ac:=aI hs hy fun t ht=>ha.1 t (by simp[ht])
 have B:st'.h id=some (.rarr e q.size elems):=by rw[ha.2 id (by simp),hh]
 have I:st'.h r=some (.rarr A q.size rows):=by rw[ha.2 r (by simp),Y]
 exact aCa hd J hs (fun _ _ _=>⟨_,B⟩) aa (tJ hT ho hi hk M O U hsz E u B hs ab ac I)
theorem Inv.emptyR {G:Ctx}{S:Sto}{μ:Mu}{H:c8}{w:World}{id:Nat}(te es:Nat) (h:Inv G S μ H w) (hid:H id=none):Inv G S (upd μ id none) (upd H id (some (.rarr te es []))) w∧Evolve S μ H S (upd μ id none) (upd H id (some (.rarr te es []))):=by
 have y:Evolve S μ H S (upd μ id none) (upd H id (some (.rarr te es []))):=gK hid _ _;refine⟨⟨h.holds,fun j x q=>?_,fun i j x A b c c' hi q hm r=>?_,fun i x b c hi hm=>?_,h.frame,h.sle,h.sto,h.evo.trans y,h.fre⟩,y⟩
 ·by_cases u:j=id
  ·subst u;rw[aH] at q;cases q;exact⟨by simp,.inl ⟨aH _ _ _,rfl⟩⟩
  ·rw[bJ _ _ _ u] at q;exact(h.obj j x q).evolve y (bJ _ _ _ u) fun _ _ _=>⟨rfl,fun _=>rfl,rfl⟩
 ·have h1:i≠id:=fun e=>by subst e;rw[aH] at hm;cases hm
  have h2:j≠id:=fun e=>by subst e;rw[aH] at r;cases r
  rw[bJ _ _ _ h1] at hi hm;rw[bJ _ _ _ h2] at q r;exact h.inj i j x A b c c' hi q hm r
 ·have h1:i≠id:=fun e=>by subst e;rw[aH] at hm;cases hm
  rw[bJ _ _ _ h1] at hi hm;exact h.own i x b c hi hm
theorem aEb {t e:TypeId}{i q:TI}{x y:Operand}{r I:Nat}{rows:List (List R)}(id:Nat) (hT:Tok P T) (ho:o.op=.call { callee:=.builtin .append,args:= #[x,y],argTypes:= #[t,t] }) (hd:o.dst=some d) (Y:d<n)
  (hi:T[t]?=some (some i)) (hk:i.k=.sl e) (aa:T[e]?=some (some q)) (ab:Nat.ble 1 q.size=true) (ac:Nat.ble 1 q.bytes=true)
  (hx:opv st x=some (.one (.c .nl))) (hid:st.h id=none) (hy:opv st y=some (.one (.ra r 0 rows.length rows.length))) (ad:st.h r=some (.rarr I q.size rows)) (M:0<rows.length)
  (E:rows.length*q.bytes≤140737488355328):
  Step P n o st ⟨opr x++opr y,[id,r]⟩ ⟨some (d,some (.one (.ra id 0 rows.length rows.length))),[(id,some (.rarr e q.size rows))]⟩:=by
 intro st' ha G S μ a w K Q hs ae;have A:st'.h id=none:=by rw[ha.2 id (by simp),hid]
 obtain⟨af,O⟩:=hs.inv.emptyR e q.size A;have J:Sim G n S (upd μ id none) ⟨st'.e,upd st'.h id (some (.rarr e q.size [])),st'.d⟩ a w:=⟨af,hs.size,hs.defers.evolve O,fun t v e=>aL.evolve O v _ (hs.env t v e)⟩
 have B:=aI hs hx fun t ht=>ha.1 t (by simp[ht])
 have ag:=aI hs hy fun t ht=>ha.1 t (by simp[ht])
 have u:st'.h r=some (.rarr I q.size rows):=by rw[ha.2 r (by simp),ad]
 simp only[aL,aV,Rep] at B;have U:aL S (upd μ id none) (upd st'.h id (some (.rarr e q.size []))) (.one (.ra id 0 0 0)) (a.eval x):=by
  simp only[aL,aV];exact⟨⟨_,_,_,B⟩,.inr ⟨e,q.size,[],aH _ _ _,le_refl _,fun _=>⟨le_refl _,.inl ⟨aH _ _ _,rfl,B⟩⟩⟩⟩
 have ah:r≠id:=fun e=>by subst e;rw[A] at u;cases u
 have:=tJ (elems:=[]) (id:=id) hT ho hi hk aa ab ac rfl M (by simpa using E) (aH _ _ _) J U (aL.evolve O _ _ ag) (by
  show upd st'.h id (some (.rarr e q.size [])) r=_;rw[bJ _ _ _ ah]
  exact u)
 refine aCa hd Y J (fun _ _ _=>⟨_,aH _ _ _⟩) (fun S' μ' a' w' h=>ae S' μ' a' w' ?_) this;have e1:Eff.apply ⟨some (d,some (.one (.ra id 0 (([]:List (List R)).length+rows.length) (([]:List (List R)).length+rows.length)))),[(id,some (.rarr e q.size ([]++rows)))]⟩ ⟨st'.e,upd st'.h id (some (.rarr e q.size [])),st'.d⟩
   =Eff.apply ⟨some (d,some (.one (.ra id 0 rows.length rows.length))),[(id,some (.rarr e q.size rows))]⟩ st':=by
  unfold Eff.apply;rw[c7,c7,nV];simp
 rw[e1] at h;exact h
end
section
variable {P:Program}{n:Nat}{o:Oper}{st:St}{d:Nat}{T:TT}
theorem aPr {src dst:TypeId}{i j:TI}{x:Operand}{k k':IntKind}{m:Int}(q:Tok P T) (ho:o.op=.convert src dst x) (A:o.dst=some d) (r:d<n) (hi:T[src]?=some (some i)) (u:i.k=.int k) (B:T[dst]?=some (some j)) (y:j.k=.int k')
  (hx:opv st x=some (I k m)):Step P n o st ⟨opr x,[]⟩ ⟨some (d,some (I k' (k'.wrap m))),[]⟩:=by
 refine Step.value A r fun st' ha G S μ a w hs=>?_
 have E:=dS (aI hs hx ha.1);refine⟨.int k' (k'.wrap m),?_,by simp[aL,aV,Rep]⟩;have h1:=(q.get hi).int u;have h2:=(q.get B).int y;simp only[execOp,ho,E,ε,convert,Ag h1 w,Ag h2 w,θ,Conv.intToInt,τ]
theorem aPs {src dst e:TypeId}{i j Y:TI}{x:Operand}{v:V}{ids:List Nat}{rows:List (List C)}{q:List Int}(I:Tok P T) (ho:o.op=.convert src dst x) (hd:o.dst=some d) (aa:d<n) (hi:T[src]?=some (some i)) (ab:i.k=.sl e) (ac:T[e]?=some (some Y)) (ae:Y.k=.int .u8)
  (J:T[dst]?=some (some j)) (af:j.k=.str) (hx:opv st x=some v) (M:Src st 1 ids v rows) (O:rows=q.map fun m=>[C.int .u8 m]):Step P n o st ⟨opr x,ids⟩ ⟨some (d,some (Go.AM.T (q.map fun m=>UInt8.ofNat m.toNat))),[]⟩:=by
 refine Step.value hd aa fun st' ha G S μ a w hs=>?_
 have hv:=aI hs hx ha.1;obtain⟨r,c,news,h1,h2,h3,h4,h5⟩:=M.rel hs ha.2 hv;have A:=(I.get hi).slice ab;have B:=(I.get ac).int ae;have E:=(I.get J).str af;have y:∀(q:List Int) (news:List Value),bZ S (q.map fun m=>[C.int .u8 m]).flatten news→news=q.map (Value.int .u8):=by
  intro q
  induction q with
  | nil=>intro news h;simpa [bZ] using h
  | cons m q ih=>
   intro news h;simp only[An,Ba,List.singleton_append,bZ,Rep] at h;obtain⟨u,us,rfl,rfl,h⟩:=h;rw[ih us h];rfl
 rw[O] at h2;have hn:=y q news h2;have U:(convert src dst (a.eval x)).run P w=.ok (.string ⟨⟨q.map fun m=>UInt8.ofNat m.toNat⟩⟩) w:=by
  rw[h1];cases r with
  | none=>
   have h6:=h4 rfl;rw[O] at h6;have:q=[]:=by simpa using h6
   subst this;exact run_convert_bytes_nil w src e A B _ _ dst E
  | some r=>
   have hlen:rows.length=q.length:=by rw[O];simp
   have hl:(loadCells r q.length).run P w=.ok (q.map (Value.int .u8)).toArray w:=by
    have:=run_loadCells_list (P:=P) w r (q.map (Value.int .u8)) (fun j v J=>h5 r rfl j v (by rw[hn];exact J));simpa using this
   rw[hlen,run_convert_bytes_string w src dst e _ _ _ A B E,run_bytesToString w _ _ _ q hl,foldl_push_bytes];simp[ByteArray.empty,ByteArray.emptyWithCapacity];rfl
 refine⟨.string ⟨⟨q.map fun m=>UInt8.ofNat m.toNat⟩⟩,?_,by simp[aL,aV,Rep]⟩;simp only[execOp,ho,ε,U,θ,τ]
theorem b7.length {S:Sto}{agg:Bool}:∀{l:List (List C)}{es:List MapEntry},b7 S agg l es→es.length=l.length
 | [],es,h=>by simp only[b7] at h;subst h;rfl
 | r::rs,es,h=>by
  simp only[b7] at h;obtain⟨e,q,rfl,_,h⟩:=h;simp[b7.length h]
theorem aG0 {t E J:TypeId}{i:TI}{x:Operand}{id:Nat}{agg:Bool}{ents:List (List C)}(M:Tok P T) (ho:o.op=.call { callee:=.builtin .len,args:= #[x],argTypes:= #[t] }) (O:o.dst=some d) (r:d<n) (hi:T[t]?=some (some i)) (U:i.k=.mp E J)
  (hx:opv st x=some (.one (.mr id))) (hh:st.h id=some (.map agg ents)) (u:kX ents):Step P n o st ⟨opr x,[id]⟩ ⟨some (d,some (I .i64 (ents.length:Int))),[]⟩:=by
 refine Step.value O r fun st' ha G S μ a w hs=>?_
 have y:=aI hs hx ha.1;have q:st'.h id=some (.map agg ents):=by rw[ha.2 id (by simp),hh]
 simp only[aL,aV] at y;obtain⟨Y,B,b,c,h1,h2,h3⟩:=y;rw[q] at h1;cases h1;obtain⟨b',es,clk,A,q2,q3,q4⟩:=hs.inv.obj id _ q;rw[h2] at A;cases A;have hl:=(q3.rep u).length;refine⟨goInt ents.length,jN ho h3 ?_,by simp[aL,aV,Rep,goInt]⟩;have hg:(getObj b).run P w=.ok (.map es clk) w:=MapKept.run_getObj_map q2;simp at hl;simp[Builtin.len_,Ag ((M.get hi).map U) w,hg,hl]
end
section
variable {P:Program}{n:Nat}{T:TT}{o:Oper}{st:St}{d:Nat}
theorem qT {t e:TypeId}{i B:TI}{x y:Operand}{A es k:Nat}{kk:IntKind}{m:Int}{l r:List R}(hT:Tok P T) (ho:o.op=.indexAddr t x y) (hd:o.dst=some d) (E:d<n) (hi:T[t]?=some (some i)) (hk:i.k=.sl e) (J:T[e]?=some (some B)) (M:B.size=es)
  (hx:opv st x=some (.one (.ras A es l))) (hy:opv st y=some (I kk m)) (hm:m=(k:Int)) (O:k<A) (hr:(l.drop (k*es)).take es=r):Step P n o st ⟨opr x++opr y,[]⟩ ⟨some (d,some (.one (.pas r))),[]⟩:=by
 refine Step.value hd E fun st' ha G S μ a w hs=>?_
 have U:=aI hs hx (cS ha).1;have Y:=dS (aI hs hy (cS ha).2);simp only[aL,aV] at U;obtain⟨q,cap,h1,h2,h3,h4,h5,h6,b,off,h7,vs,h8,h9⟩:=U;cases q with
 | none=>have:=(h5 rfl).1;omega
 | some q=>
  obtain⟨h10,h10'⟩:=h7 q rfl;have h11:=h6 q rfl;have aa:q=⟨b,off,none⟩:=by cases q;simp_all
  subst aa;subst hm;refine⟨.pointer (some ⟨b,off+k*es,none⟩),?_,?_⟩
  ·simp only[execOp,ho,h1,Y,ε,jO hT hi hk J w b off A cap k kk O,θ,τ,M]
  ·simp only[aL,aV];subst hr;refine⟨b,off+k*es,rfl,(vs.drop (k*es)).take es,(h8.drop (k*es)).take es,fun j v u=>?_⟩;rw[Al] at u;split at u
   ·rw[Am] at u;have:=h9 _ v u;rwa [←add_assoc] at this
   ·cases u
theorem aD4 {t:TypeId}{i:TI}{x:Operand}{l:List R}{y:V}(B:Tok P T) (ho:o.op=.load t x) (E:o.dst=some d) (r:d<n) (hi:T[t]?=some (some i)) (hx:opv st x=some (.one (.pas l)))
  (hl:i.size≤l.length) (hy:jV i (l.take i.size)=some y):Step P n o st ⟨opr x,[]⟩ ⟨some (d,some y),[]⟩:=by
 refine Step.value E r fun st' ha G S μ a w hs=>?_
 have u:=aI hs hx ha.1;simp only[aL,aV] at u;obtain⟨b,off,h1,vs,h2,I⟩:=u;have M:=h2.length;refine⟨_,?_,kY (h2.take i.size) hy⟩;have J:=mC hs.inv.holds I;have A:w.rangeAt b off (vs.take i.size):=fun j v q=>by
  rw[Al] at q;split at q
  ·exact J j v q
  ·cases q
 simp only[execOp,ho,h1,ε,run_load (B.get hi) w b off _ A (by simp;omega),θ,τ]
theorem zD {t r:TypeId}{i u:TI}{fs:List (Nat×TypeId)}{f q:Nat}{x:Operand}{l:List R}(I:Tok P T) (ho:o.op=.fieldAddr t x f) (J:o.dst=some d) (y:d<n) (hi:T[t]?=some (some i)) (M:i.k=.st fs) (O:fs[f]?=some (q,r)) (A:T[r]?=some (some u)) (U:u.size≠0)
  (hx:opv st x=some (.one (.pas l))):Step P n o st ⟨opr x,[]⟩ ⟨some (d,some (.one (.pas (l.drop q)))),[]⟩:=by
 refine Step.value J y fun st' ha G S μ a w hs=>?_
 have B:=aI hs hx ha.1;simp only[aL,aV] at B;obtain⟨b,off,h1,vs,h2,Y⟩:=B;refine⟨.pointer (some ⟨b,off+q,none⟩),?_,?_⟩
 ·simp only[execOp,ho,h1,ε,gR I hi M O A U,θ,τ]
 ·simp only[aL,aV];refine⟨b,off+q,rfl,vs.drop q,h2.drop q,fun j v E=>?_⟩;rw[Am] at E;have:=Y (q+j) v E;rwa [←add_assoc] at this
theorem aGz {t e:TypeId}{i:TI}{x:Operand}{q es:Nat}{l:List R}(y:Tok P T) (ho:o.op=.call { callee:=.builtin .len,args:= #[x],argTypes:= #[t] }) (A:o.dst=some d) (r:d<n) (hi:T[t]?=some (some i)) (B:i.k=.sl e)
  (hx:opv st x=some (.one (.ras q es l))):Step P n o st ⟨opr x,[]⟩ ⟨some (d,some (I .i64 (q:Int))),[]⟩:=by
 refine Step.value A r fun st' ha G S μ a w hs=>?_
 have u:=aI hs hx ha.1;simp only[aL,aV] at u;obtain⟨E,cap,h1,_⟩:=u;refine⟨goInt q,jN ho h1 ?_,by simp[aL,aV,Rep,goInt]⟩;simp[Builtin.len_,Ag ((y.get hi).slice B) w]
theorem aD1 {t te es:Nat}{i:TI}{x y:Operand}{id k fo sz:Nat}{elems:List (List R)}{v:V}{cs r:List R}(hT:Tok P T) (ho:o.op=.store t x y) (hd:o.dst=none) (hi:T[t]?=some (some i)) (hx:opv st x=some (.one (.rp id k fo sz)))
  (hy:opv st y=some v) (hc:fZ v=some cs) (hh:st.h id=some (.rarr te es elems)) (hsz:sz=elems.length) (M:elems[k]?=some r) (hcs:cs.length=i.size) (hl:fo+i.size≤es):
  Step P n o st ⟨opr x++opr y,[id]⟩ ⟨none,[(id,some (.rarr te es (elems.set k (bR r fo cs))))]⟩:=by
 refine Step.turn hd hh (by simp) (by simp[AObj.succ]) fun st' ha A G S μ a w hs=>?_
 have Y:=aI hs hx fun t ht=>ha.1 t (by simp[ht])
 have hvy:=aI hs hy fun t ht=>ha.1 t (by simp[ht])
 simp only[aL,aV] at Y;obtain⟨_,hv | ⟨te',es',elems',h1,h2,h3⟩⟩:=Y
 ·rw[A] at hv;cases hv
 rw[A] at h1;cases h1;obtain⟨h4,b,base,cap,h5,h6⟩:=h3 hsz;obtain⟨g0,vs,g1,g2,g3,g4,g5,g6⟩:=(hs.inv.obj id _ A).rarr h5;have hrel:=dG hvy hc;have E:=hrel;have hone:=hrel.one;have hnl:=E.length;have hk:k<elems.length:=(Af.1 M).1
 have hres:r.length=es:=g0 r (Aa M);have hke:(k+1)*es≤elems.length*es:=Ax _ hk;have hce:elems.length*es≤cap*es:=Ax _ g3;rw[A7] at hke;generalize O:(a.eval y).cells.toList=news at *;have hrun:=run_store (hT.get hi) w b (base+k*es+fo) vs news te (a.eval y) g1 O (by omega) (by omega) hone;have hE:=gY (S:=S) (μ:=μ) (o':=.rarr te es (elems.set k (bR r fo cs))) A h5 (by simp[AObj.succ]);have I:=aGk g0 g5 M;have B:=zU g0 k r M;have hlen:(elems.set k (bR r fo cs)).length=elems.length:=by simp
 have hW:=WChg.setRow w b ⟨vs⟩ ⟨vs.take (base+k*es+fo)++news++vs.drop (base+k*es+fo+news.length)⟩ te (0,0) g1;refine⟨_,_,b,(base,cap),?_,h5,hW,⟨?_,.inr ⟨b,base,cap,_,aH _ _ _,hW.new,?_,by rw[hlen];exact g3,g4,?_,g6⟩⟩,fun o v e=>?_,fun m e=>fG g4.2 m e⟩
 ·simp only[execOp,ho,h6,ε,hrun,θ,τ]
 ·intro q hq;rcases List.mem_or_eq_of_mem_set hq with hq | rfl
  ·exact g0 q hq
  ·unfold bR;simp;omega
 ·simp only[ψ,Ak,Be];omega
 ·rw[hlen];have e1:(elems.set k (bR r fo cs)).flatten=elems.flatten.take (k*es)++(r.take fo++cs++r.drop (fo+cs.length))++elems.flatten.drop (k*es+es):=by
   rw[Cb,ξ hk,Ci,Ba,B.1,B.2,←Aj];rfl
  have e2:((vs.take (base+k*es+fo)++news++vs.drop (base+k*es+fo+news.length)).drop base).take (elems.length*es)=
    ((vs.drop base).take (elems.length*es)).take (k*es)++((((vs.drop (base+k*es)).take es).take fo)++news++(((vs.drop (base+k*es)).take es).drop (fo+cs.length)))++((vs.drop base).take (elems.length*es)).drop (k*es+es):=by
   apply Cf;intro j;simp only[Al,Am,B3,ψ,Ak,Be];have hm1:min (k*es) (min (elems.length*es) (vs.length-base))=k*es:=by omega
   have hm2:min (base+k*es+fo) vs.length=base+k*es+fo:=by omega
   have hm3:min fo es=fo:=by omega
   have hm4:min es (vs.length-(base+k*es))=es:=by omega
   simp only[hm1,hm2,hm3,hm4,hnl];by_cases U:j<k*es
   ·have u:j<elems.length*es:=by omega
    have a2:base+j<base+k*es+fo:=by omega
    have a3:base+j<base+k*es+fo+cs.length:=by omega
    have a4:j<k*es+(fo+cs.length+(es-(fo+cs.length))):=by omega
    simp[U,u,a2,a3,a4]
   ·by_cases c2:j<k*es+fo
    ·have u:j<elems.length*es:=by omega
     have a2:base+j<base+k*es+fo:=by omega
     have a3:base+j<base+k*es+fo+cs.length:=by omega
     have a4:j<k*es+(fo+cs.length+(es-(fo+cs.length))):=by omega
     have a5:j-k*es<fo+cs.length:=by omega
     have J:j-k*es<fo:=by omega
     have a7:j-k*es<es:=by omega
     simp[U,u,a2,a3,a4,a5,J,a7,show base+k*es+(j-k*es)=base+j by omega]
    ·by_cases c3:j<k*es+fo+cs.length
     ·have u:j<elems.length*es:=by omega
      have a2:¬base+j<base+k*es+fo:=by omega
      have a3:base+j<base+k*es+fo+cs.length:=by omega
      have a4:j<k*es+(fo+cs.length+(es-(fo+cs.length))):=by omega
      have a5:j-k*es<fo+cs.length:=by omega
      have J:¬j-k*es<fo:=by omega
      simp[U,u,a2,a3,a4,a5,J,show base+j-(base+k*es+fo)=j-k*es-fo by omega]
     ·by_cases c4:j<k*es+es
      ·have u:j<elems.length*es:=by omega
       have a3:¬base+j<base+k*es+fo+cs.length:=by omega
       have a4:j<k*es+(fo+cs.length+(es-(fo+cs.length))):=by omega
       have a5:¬j-k*es<fo+cs.length:=by omega
       have J:fo+cs.length+(j-k*es-(fo+cs.length))<es:=by omega
       simp[U,u,a3,a4,a5,J,show base+k*es+fo+cs.length+(base+j-(base+k*es+fo+cs.length))=base+j by omega,show base+k*es+(fo+cs.length+(j-k*es-(fo+cs.length)))=base+j by omega]
      ·have a3:¬base+j<base+k*es+fo+cs.length:=by omega
       have a4:¬j<k*es+(fo+cs.length+(es-(fo+cs.length))):=by omega
       by_cases c5:j<elems.length*es
       ·have a5:k*es+es+(j-(k*es+(fo+cs.length+(es-(fo+cs.length)))))<elems.length*es:=by omega
        simp[a3,a4,c5,a5,show base+k*es+fo+cs.length+(base+j-(base+k*es+fo+cs.length))=base+j by omega,show base+(k*es+es+(j-(k*es+(fo+cs.length+(es-(fo+cs.length))))))=base+j by omega]
       ·have a5:¬k*es+es+(j-(k*es+(fo+cs.length+(es-(fo+cs.length)))))<elems.length*es:=by omega
        simp[a4,c5,a5]
  rw[e1];show aM S _ _ _ (((vs.take (base+k*es+fo)++news++vs.drop (base+k*es+fo+news.length)).drop base).take (elems.length*es));rw[e2];refine aM.evolve hE _ _ ?_;exact((g5.take (k*es)).append (((I.take fo).append E).append (I.drop (fo+cs.length)))).append (g5.drop (k*es+es))
 ·--what stays is not touched
  by_cases hb:base≤o
  ·rw[g6 o hb] at e;cases e
  ·obtain⟨vs0,t0,fr0,q1,q2⟩:=hs.inv.holds.1 b o v e;rw[g1] at q1;cases q1;refine⟨_,_,_,rfl,?_⟩;simp only[Ca] at q2 ⊢;have hlt:o<vs.length:=(Af.1 q2).1
   rw[Aj,A6 (by simp;omega),Al,ξ (by omega)];exact q2
end
end Go.AM
