/-
  Texts Am17 to Ax5 in one.
-/
import Derived.Test.YtpmheldmadendaaGreatDoorM3
import Derived.ProofKit
import Derived.SizedLaws
import Derived.OpenShut
import Derived.Carry
import Derived.Laws.BytesArg
open List (append_assoc append_nil drop_drop drop_take drop_zero eq_nil_of_length_eq_zero flatten_append flatten_cons length_append length_cons length_drop length_nil length_take map_cons map_nil map_toArray mem_append mem_cons size_toArray take_append_of_le_length take_left' take_of_length_le take_take)
open Nat (add_assoc add_mul add_zero beq_refl eq_of_beq_eq_true le_of_ble_eq_true le_refl le_trans min_eq_left mul_le_mul_right sub_zero zero_add zero_le zero_mul)
namespace Go.AM
open Go
section
variable {P:Program}{n:Nat}{o:Oper}{st:St}{d:Nat}{T:TT}
theorem n9 {α:Type}(f:Nat→Option α) (k:Nat) (x y:Option α):upd (upd f k x) k y=upd f k y:=by
 funext i;simp only[upd];split<;>rfl
theorem aEc {t e:TypeId}{i q:TI}{x y:Operand}{rows:List (List C)}{O:V}{ids:List Nat}(id:Nat) (hT:Tok P T) (ho:o.op=.call { callee:=.builtin .append,args:= #[x,y],argTypes:= #[t,t] }) (hd:o.dst=some d) (U:d<n)
  (hi:T[t]?=some (some i)) (hk:i.k=.sl e) (Y:T[e]?=some (some q)) (aa:Nat.ble 1 q.size=true) (ab:Nat.ble 1 q.bytes=true)
  (hx:opv st x=some (.one (.c .nl))) (hid:st.h id=none) (hy:opv st y=some O) (u:Src st q.size ids O rows)
  (B:rows.length*q.bytes≤140737488355328):
  Step P n o st ⟨opr x++opr y,id::ids⟩ ⟨some (d,some (.one (.hs id 0 rows.length rows.length))),[(id,some (.arr e q.size rows 0))]⟩:=by
 intro st' ha G S μ a w K Q hs ac;have I:st'.h id=none:=by rw[ha.2 id (by simp),hid]
 obtain⟨ad,J⟩:=hs.inv.empty e q.size I;have E:Sim G n S (upd μ id none) ⟨st'.e,upd st'.h id (some (.arr e q.size [] 0)),st'.d⟩ a w:=⟨ad,hs.size,hs.defers.evolve J,fun t v e=>aO.evolve J v _ (hs.env t v e)⟩
 have A:=aL hs hx fun t ht=>ha.1 t (by simp[ht])
 have ae:=aL hs hy fun t ht=>ha.1 t (by simp[ht])
 simp only[aO,aT,Rep] at A;have M:aO S (upd μ id none) (upd st'.h id (some (.arr e q.size [] 0))) (.one (.hs id 0 0 0)) (a.eval x):=by
  simp only[aO,aT];exact⟨⟨_,_,_,A⟩,.inr ⟨e,q.size,[],0,aJ _ _ _,le_refl _,fun _=>⟨le_refl _,.inl ⟨aJ _ _ _,rfl,A⟩⟩⟩⟩
 have af:∀j∈ids,j≠id:=by
  intro j r e;subst e;cases u with
  | hs h1 _ _=>simp at r;subst r;rw[hid] at h1;cases h1
  | all h1 _=>simp at r;subst r;rw[hid] at h1;cases h1
  | sl=>simp at r
  | nl=>simp at r
  | sn=>simp at r
 have:=w9 (fz:=0) (elems:=[]) (id:=id) hT ho hi hk Y aa ab rfl (by simpa using B) (aJ _ _ _) E M (aO.evolve J _ _ ae) u fun j r=>by
  show upd st'.h id (some (.arr e q.size [] 0)) j=_;rw[bC _ _ _ (af j r)];exact ha.2 j (by simp[r])
 refine aE4 hd U (by simp) _ (aJ _ _ _) E (fun S' μ' a' w' h=>ac S' μ' a' w' ?_) this;have e1:Eff.apply ⟨some (d,some (.one (.hs id 0 (([]:List (List C)).length+rows.length) (([]:List (List C)).length+rows.length)))),[(id,some (.arr e q.size ([]++rows) (if 0=0 then 0 else 1)))]⟩ ⟨st'.e,upd st'.h id (some (.arr e q.size [] 0)),st'.d⟩
   =Eff.apply ⟨some (d,some (.one (.hs id 0 rows.length rows.length))),[(id,some (.arr e q.size rows 0))]⟩ st':=by
  unfold Eff.apply;rw[bY,bY,n9];simp
 rw[e1] at h;exact h
theorem Sub.conv {kf ids:List Nat}{t:Nat}{v v':V}(h:st.e t=some v) (hc:Conv st.h ids v v'):Sub kf ⟨upd st.e t (some v'),st.h,st.d⟩ st:=by
 intro G n S μ a w _ hs;refine⟨S,μ,⟨hs.inv,hs.size,hs.defers,fun s u e=>?_⟩⟩;by_cases c:s=t
 ·subst c;have:some v'=some u:=by rw[←e];exact(aJ _ _ _).symm
  cases this;exact hc.rel (fun _ _=>rfl) hs.inv.obj (hs.env s _ h)
 ·exact hs.env s u (by rw[←e];exact(bC _ _ _ c).symm)
theorem aH4 {t e:TypeId}{i j:TI}{len:Nat}{parts:Array (Nat×Operand)}{ids:List Nat}{rows:List (List C)}(id:Nat) (hT:Tok P T) (ho:o.op=.buildSlice t len parts) (hd:o.dst=some d) (O:d<n) (hi:T[t]?=some (some i)) (hk:i.k=.sl e) (U:T[e]?=some (some j)) (q:RowsV st j.size 0 ids parts.toList rows) (hlen:Nat.beq len parts.size=true) (A:Nat.ble (len*j.size) 16777216=true) (I:Nat.ble len 16777216=true) (hid:st.h id=none):
  Step P n o st ⟨eF parts.toList,id::ids⟩ ⟨some (d,some (.one (.c (.sl j.size rows)))),[(id,some (.arr e j.size rows 2))]⟩:=by
 intro st' ha G S μ a w K Q hs Y;refine aDw id hT ho hd O hi hk U q hlen A I hid st' ha G S μ a w K Q hs fun S1 μ1 J w1 h1=>?_
 have r:len=rows.length:=by rw[q.lengths];simpa using δ hlen
 have hh:(Eff.apply ⟨some (d,some (.one (.hs id 0 len len))),[(id,some (.arr e j.size rows 0))]⟩ st').h id=some (.arr e j.size rows 0):=by
  show gO st'.h [(id,some (.arr e j.size rows 0))] id=_;rw[bY,aJ]
 obtain⟨S2,E,h2⟩:=h1.freeze hh;refine Y S2 E J w1 ⟨?_,h2.size,?_,fun s u e1=>?_⟩
 ·have:=h2.inv;show Inv G S2 E (gO st'.h [(id,some (.arr e j.size rows 2))]) w1;rw[bY];have y:upd (Eff.apply ⟨some (d,some (.one (.hs id 0 len len))),[(id,some (.arr e j.size rows 0))]⟩ st').h id (some (.arr e j.size rows 2))=upd st'.h id (some (.arr e j.size rows 2)):=by
   show upd (gO st'.h [(id,some (.arr e j.size rows 0))]) id _=_;rw[bY,n9]
  rw[←y];exact this
 ·have:=h2.defers;show Marks _ E (gO st'.h [(id,some (.arr e j.size rows 2))]) st'.d J.defers;rw[bY];have y:upd (Eff.apply ⟨some (d,some (.one (.hs id 0 len len))),[(id,some (.arr e j.size rows 0))]⟩ st').h id (some (.arr e j.size rows 2))=upd st'.h id (some (.arr e j.size rows 2)):=by
   show upd (gO st'.h [(id,some (.arr e j.size rows 0))]) id _=_;rw[bY,n9]
  rw[←y];exact this
 ·have y:upd (Eff.apply ⟨some (d,some (.one (.hs id 0 len len))),[(id,some (.arr e j.size rows 0))]⟩ st').h id (some (.arr e j.size rows 2))=gO st'.h [(id,some (.arr e j.size rows 2))]:=by
   show upd (gO st'.h [(id,some (.arr e j.size rows 0))]) id _=_;rw[bY,bY,n9]
  show aO S2 E (gO st'.h [(id,some (.arr e j.size rows 2))]) u (J.tmps.getD s undef);by_cases B:s=d
  ·subst B;have hu:u=.one (.c (.sl j.size rows)):=by
    have:upd st'.e s (some (.one (.c (.sl j.size rows)))) s=some u:=e1;rw[aJ] at this;cases this;rfl
   subst hu;have M:=h2.env s (.one (.hs id 0 len len)) (aJ _ _ _);have hO:=h2.inv.obj id _ (aJ _ _ _);have:=(Conv.one (h:=upd (Eff.apply ⟨some (s,some (.one (.hs id 0 len len))),[(id,some (.arr e j.size rows 0))]⟩ st').h id (some (.arr e j.size rows 2))) (PureL.hs (e:=rows) (aJ _ _ _) r (by rw[r];simp) .nil)).rel (fun _ _=>rfl) h2.inv.obj M;rw[←y];exact this
  ·have:upd st'.e d (some (.one (.c (.sl j.size rows)))) s=some u:=e1;rw[bC _ _ _ B] at this;have M:=h2.env s u (by show upd st'.e d _ s=some u;rw[bC _ _ _ B];exact this);rw[←y];exact M
theorem aPb {j ty:TypeId}{x y:Operand}{a b:Nat}(ho:o.op=.binOp .add j x y ty) (q:o.dst=some d) (c:d<n) (hx:opv st x=some (I .i64 (a:Nat))) (hy:opv st y=some (I .i64 (b:Nat))) (r:a+b≤9223372036854775807):
  Step P n o st ⟨opr x++opr y,[]⟩ ⟨some (d,some (I .i64 ((a+b:Nat):Int))),[]⟩:=aL1 ho q c hx hy (by rw[←Int.natCast_add];exact Bv _ (by omega))
theorem aO6 {j ty:TypeId}{x y:Operand}{a b:Nat}(ho:o.op=.binOp .mul j x y ty) (q:o.dst=some d) (c:d<n) (hx:opv st x=some (I .i64 (a:Nat))) (hy:opv st y=some (I .i64 (b:Nat))) (r:a*b≤9223372036854775807):
  Step P n o st ⟨opr x++opr y,[]⟩ ⟨some (d,some (I .i64 ((a*b:Nat):Int))),[]⟩:=aLu ho q c hx hy (by rw[←Int.natCast_mul];exact Bv _ (by omega))
theorem aOv {j ty:TypeId}{x y:Operand}{a b:Nat}(ho:o.op=.binOp .sub j x y ty) (q:o.dst=some d) (c:d<n) (hx:opv st x=some (I .i64 (a:Nat))) (hy:opv st y=some (I .i64 (b:Nat))) (r:b≤a∧a≤9223372036854775807):
  Step P n o st ⟨opr x++opr y,[]⟩ ⟨some (d,some (I .i64 ((a-b:Nat):Int))),[]⟩:=aLq ho q c hx hy (by rw[show(a:Int)-b=((a-b:Nat):Int) by omega];exact Bv _ (by omega))
theorem aO3 {j ty:TypeId}{x y:Operand}{a b:Nat}(ho:o.op=.binOp .quo j x y ty) (q:o.dst=some d) (c:d<n) (hx:opv st x=some (I .i64 (a:Nat))) (hy:opv st y=some (I .i64 (b:Nat))) (r:a≤9223372036854775807∧1≤b):
  Step P n o st ⟨opr x++opr y,[]⟩ ⟨some (d,some (I .i64 ((a/b:Nat):Int))),[]⟩:=by
 have:=aKl (P:=P) (n:=n) ho q c hx hy (by omega);rwa [←Int.natCast_ediv] at this
theorem aO2 {j ty:TypeId}{x y:Operand}{a b:Nat}(ho:o.op=.binOp .rem j x y ty) (q:o.dst=some d) (c:d<n) (hx:opv st x=some (I .i64 (a:Nat))) (hy:opv st y=some (I .i64 (b:Nat))) (r:1≤b):
  Step P n o st ⟨opr x++opr y,[]⟩ ⟨some (d,some (I .i64 ((a%b:Nat):Int))),[]⟩:=by
 have:=aKk (P:=P) (n:=n) ho q c hx hy (by omega);rwa [←Int.natCast_emod] at this
theorem aR7 {t1 t2:TypeId}{x y:Operand}{k:IntKind}{a b r:Int}(ho:o.op=.call { callee:=.builtin .max,args:= #[x,y],argTypes:= #[t1,t2] }) (j:o.dst=some d) (c:d<n) (hx:opv st x=some (I k a)) (hy:opv st y=some (I k b)) (q:(if b>a then b else a)=r):
  Step P n o st ⟨opr x++opr y,[]⟩ ⟨some (d,some (I k r)),[]⟩:=by
 refine Step.value j c fun st' ha G S μ ac w hs=>?_
 have h1:=dB (aL hs hx fun t h=>ha.1 t (by simp[h]));have h2:=dB (aL hs hy fun t h=>ha.1 t (by simp[h]));refine⟨.int k r,?_,by simp[aO,aT,Rep]⟩;simp only[execOp,ho,resolve,map_toArray,Av,map_nil,h1,h2,π,Aa,κ,invoke,builtin,Builtin.max_,List.foldlM_cons,List.foldlM_nil,Builtin.max2,q]
end
section
variable {P:Program}{n:Nat}{o:Oper}{st:St}{d:Nat}{T:TT}
theorem yF {t e:TypeId}{i j:TI}(q:Tok P T) (hi:T[t]?=some (some i)) (u:i.k=.sl e) (r:T[e]?=some (some j)) (w:World) (c:Option Addr) (len cap l:Nat) (kk:IntKind) (h:l≤len):
  (Instr.sliceAt t (.slice c len cap) (some (.int kk (l:Int))) none none).run P w=.ok (.slice (if cap=l then c else c.map (·.add (l*j.size))) (len-l) (cap-l)) w:=by
 have hu:=Ah ((q.get hi).slice u) w;simp[Instr.sliceAt,hu,Instr.slice,Instr.sliceBounds,Instr.sliceBound,asIntOf,h,(q.get r).size_run w]
theorem aOu {t e:TypeId}{i r:TI}{x y:Operand}{te es id len sz:Nat}{kk:IntKind}{elems:List (List C)}{fz:Nat}(l:Nat) (O:Tok P T) (ho:o.op=.slice t x (some y) none none) (U:o.dst=some d) (A:d<n) (hi:T[t]?=some (some i)) (Y:i.k=.sl e) (B:T[e]?=some (some r)) (E:r.size=es)
  (hx:opv st x=some (.one (.hs id 0 len sz))) (hh:st.h id=some (.arr te es elems fz)) (hsz:sz=elems.length) (hlen:len=sz) (hy:opv st y=some (I kk (l:Nat))) (hl:1≤l∧l≤len):Step P n o st ⟨opr x++opr y,[id]⟩ ⟨some (d,some (.one (.tl id l (len-l) sz))),[]⟩:=by
 refine Step.value U A fun st' ha G S μ a w hs=>?_
 have j:=aL hs hx fun t ht=>ha.1 t (by simp[ht])
 have J:=dB (aL hs hy fun t ht=>ha.1 t (by simp[ht]));have c:st'.h id=some (.arr te es elems fz):=by rw[ha.2 id (by simp),hh]
 simp only[aO,aT] at j;obtain⟨_,j | ⟨te',es',elems',fz',h1,h2,h3⟩⟩:=j
 ·rw[c] at j;cases j
 rw[c] at h1;cases h1;obtain⟨h4,⟨u,q,h7⟩ | ⟨b,base,cap,u,q⟩⟩:=h3 hsz
 ·subst q;simp at hsz;omega
 obtain⟨q0,vs,q1,q2,q3,q4,q5⟩:=(hs.inv.obj id _ c).arr u;rw[zero_mul,Cf,sub_zero] at q;refine⟨.slice (if cap=l then some ⟨b,base,none⟩ else(some ⟨b,base,none⟩:Option Addr).map (·.add (l*r.size))) (len-l) (cap-l),?_,?_⟩
 ·have M:=yF (P:=P) O hi Y B w (some ⟨b,base,none⟩) len cap l kk hl.2;simp only[execOp,ho,By,Option.map_none,q,J,π,Aa] at M ⊢;rw[M];rfl
 ·simp only[aO,aT];refine⟨⟨_,_,_,rfl⟩,.inr ⟨te,es,elems,fz,c,h2,fun _=>⟨by omega,b,base,cap,u,by omega,?_⟩⟩⟩;by_cases hc:cap=l
  ·simp[hc]
  ·simp[hc,E,Addr.add_mid]
end
inductive Fz where
 | map (agg:Bool) (ents:List (List C))
 | var (l:List C)
 | ra (n es:Nat) (l:List R)
mutual
def R.fz (id:Nat) (z:Fz):R→R
 | .mr j=>match z with
  | .map agg ents=>if Nat.beq j id then .c (.mp agg ents) else .mr j
  | _=>.mr j
 | .vp j off=>match z with
  | .var l=>if Nat.beq j id then .c (.pt (l.drop off)) else .vp j off
  | _=>.vp j off
 | .ra j off len sz=>match z with
  | .ra n es l=>if Nat.beq j id then(if Nat.beq off 0&&Nat.beq len n&&Nat.beq sz n then .ras n es l else .c .any) else .ra j off len sz
  | _=>.ra j off len sz
 | .rp j i fo sz=>match z with
  | .ra _ _ _=>if Nat.beq j id then .c .any else .rp j i fo sz
  | _=>.rp j i fo sz
 | .ras n es l=>.ras n es (R.fzL id z l)
 | .pas l=>.pas (R.fzL id z l)
 | .clo f caps=>.clo f (R.fzL id z caps)
 | .mth f x=>.mth f (R.fz id z x)
 | r=>r
def R.fzL (id:Nat) (z:Fz):List R→List R
 | []=>[]
 | r::rs=>R.fz id z r::R.fzL id z rs
end
mutual
def V.fz (id:Nat) (z:Fz):V→V
 | .one r=>.one (r.fz id z)
 | .pa l=>.pa l
 | .ma l=>.ma (R.fzL id z l)
 | .tup l=>.tup (V.fzL id z l)
def V.fzL (id:Nat) (z:Fz):List V→List V
 | []=>[]
 | r::rs=>V.fz id z r::V.fzL id z rs
end
def fzE (id:Nat) (z:Fz):List (Nat×V)→List (Nat×V)
 | []=>[]
 | (t,v)::l=>(t,v.fz id z)::fzE id z l
def fzR (id:Nat) (z:Fz):List (List R)→List (List R)
 | []=>[]
 | r::l=>R.fzL id z r::fzR id z l
theorem aE5 {id:Nat}{z:Fz}:∀{l:List (Nat×V)}{t:Nat}{v:V},(t,v)∈fzE id z l→∃v0,(t,v0)∈l∧v=v0.fz id z
 | (k,u)::l,t,v,h=>by
  simp only[fzE,Ap] at h;rcases h with h | h
  ·cases h;exact⟨u,by simp,rfl⟩
  ·obtain⟨v0,h1,h2⟩:=aE5 h;exact⟨v0,by simp[h1],h2⟩
theorem R.fzL_length {id:Nat}{z:Fz}:∀{l:List R},(R.fzL id z l).length=l.length
 | []=>rfl
 | _::l=>by simp[R.fzL,R.fzL_length (l:=l)]
theorem R.fzL_append {id:Nat}{z:Fz}:∀{l m:List R},R.fzL id z (l++m)=R.fzL id z l++R.fzL id z m
 | [],_=>rfl
 | _::l,m=>by simp[R.fzL,R.fzL_append (l:=l)]
theorem dW {id:Nat}{z:Fz}:∀{l:List (List R)},(fzR id z l).length=l.length
 | []=>rfl
 | _::l=>by simp[fzR,dW (l:=l)]
theorem zP {id:Nat}{z:Fz}:∀{l:List (List R)},(fzR id z l).flatten=R.fzL id z l.flatten
 | []=>rfl
 | _::l=>by simp[fzR,zP (l:=l),R.fzL_append]
theorem lR {id:Nat}{z:Fz}{es:Nat}:∀{l:List (List R)},(∀r∈l,r.length=es)→∀r∈fzR id z l,r.length=es
 | [],_,r,h=>by simp[fzR] at h
 | x::l,k,r,h=>by
  simp only[fzR,Ap] at h;rcases h with rfl | h
  ·rw[R.fzL_length];exact k _ (by simp)
  ·exact lR (l:=l) (fun r c=>k r (by simp[c])) r h
def AObj.fz (id:Nat) (z:Fz):AObj→AObj
 | .var t cells=>.var t (R.fzL id z cells)
 | .lp st j i e=>.lp st j i (fzE id z e)
 | .rarr te es l=>.rarr te es (fzR id z l)
 | .tok r k=>.tok (r.fz id z) k
 | o=>o
def Fz.of:Fz→AObj→Prop
 | .map agg ents,o=>o=.map agg ents
 | .var l,o=>∃t,o=.var t (l.map R.c)
 | .ra n es l,o=>∃te elems,o=.rarr te es elems∧l=elems.flatten∧n=elems.length
def hfz (id:Nat) (z:Fz) (H:bZ):bZ:=fun j=>if Nat.beq j id then none else(H j).map (AObj.fz id z)
section
variable {S S':Sto}{μ:Mu}{H:bZ}{id:Nat}{z:Fz}
theorem j4 {j:Nat}(h:j≠id):hfz id z H j=(H j).map (AObj.fz id z):=by
 have:Nat.beq j id=false:=by
  cases hb:Nat.beq j id with
  | false=>rfl
  | true=>exact absurd (δ hb) h
 simp[hfz,this]
theorem aPq:hfz id z H id=none:=by simp[hfz]
theorem x9 {j te es fz:Nat}{l:List (List C)}{o:AObj}(hid:H id=some o) (c:z.of o) (h:H j=some (.arr te es l fz)):hfz id z H j=some (.arr te es l fz):=by
 have q:j≠id:=by
  rintro rfl;rw[h] at hid;cases hid;cases z with
  | map agg ents=>cases c
  | var l=>obtain⟨t,h⟩:=c;cases h
  | ra n es l=>obtain⟨_,_,h,_⟩:=c;cases h
 rw[j4 q,h];rfl
theorem sH {j:Nat}{o:AObj}(hid:H id=some o) (c:z.of o) (h:H j=some .dead):hfz id z H j=some .dead:=by
 have q:j≠id:=by
  rintro rfl;rw[h] at hid;cases hid;cases z with
  | map agg ents=>cases c
  | var l=>obtain⟨t,h⟩:=c;cases h
  | ra n es l=>obtain⟨_,_,h,_⟩:=c;cases h
 rw[j4 q,h];rfl
def aOh (S':Sto) (μ:Mu) (H:bZ) (id:Nat):Fz→Prop
 | .map agg ents=>∀b c,μ id=some (b,c)→∃es clk,S'.mapo b=some (.all es clk)∧(bA S' agg ents es.toList∨aHh S' agg ents es)
 | .var l=>∀b c,μ id=some (b,c)→∃vs,bW S' l vs∧dS S' b 0 vs
 | .ra n es l=>n*es=l.length∧∀b base cap,μ id=some (b,base,cap)→n≤cap∧cap≤maxLen∧∃vs,aP S' μ (hfz id (.ra n es l) H) l vs∧dS S' b base vs
mutual
theorem aT.fz (hle:S.le S') {o:AObj}(hid:H id=some o) (q:z.of o):∀(r:R) (v:Value),(id∈r.refs→aOh S' μ H id z)→aT S μ H r v→aT S' μ (hfz id z H) (r.fz id z) v
 | .c x,v,_,k=>by simp only[aT,R.fz] at k ⊢;exact Rep.mono hle x v k
 | .hs j off len sz,v,_,k=>by
  simp only[aT,R.fz] at k ⊢;obtain⟨E,k | ⟨te,es,elems,fz,h1,h2⟩⟩:=k
  ·exact⟨E,.inl (sH hid q k)⟩
  ·exact⟨E,.inr ⟨te,es,elems,fz,x9 hid q h1,h2⟩⟩
 | .tl j off len sz,v,_,k=>by
  simp only[aT,R.fz] at k ⊢;obtain⟨E,k | ⟨te,es,elems,fz,h1,h2⟩⟩:=k
  ·exact⟨E,.inl (sH hid q k)⟩
  ·exact⟨E,.inr ⟨te,es,elems,fz,x9 hid q h1,h2⟩⟩
 | .ep j i fo sz,v,_,k=>by
  simp only[aT,R.fz] at k ⊢;obtain⟨E,k | ⟨te,es,elems,fz,h1,h2⟩⟩:=k
  ·exact⟨E,.inl (sH hid q k)⟩
  ·exact⟨E,.inr ⟨te,es,elems,fz,x9 hid q h1,h2⟩⟩
 | .vp j off,v,A,k=>by
  simp only[aT] at k;obtain⟨t,cells,b,c,h1,h2,y⟩:=k;by_cases B:j=id
  ·subst B;rw[h1] at hid;cases hid;cases z with
   | map agg ents=>cases q
   | ra n es l=>obtain⟨_,_,h,_⟩:=q;cases h
   | var l=>
    simp only[R.fz,beq_refl,Ch,aT,Rep];obtain⟨vs,g1,g2⟩:=A (by simp[R.refs]) b c h2;refine⟨b,off,y,vs.drop off,g1.drop off,fun i u hu=>?_⟩;rw[Ak] at hu;have:=g2 _ u hu;rwa [Bb] at this
  ·have hb:Nat.beq j id=false:=by
    cases hb:Nat.beq j id with
    | false=>rfl
    | true=>exact absurd (δ hb) B
   have e:(R.vp j off).fz id z=.vp j off:=by cases z<;>simp[R.fz,hb]
   rw[e];simp only[aT];exact⟨t,_,b,c,by rw[j4 B,h1];rfl,h2,y⟩
 | .mr j,v,A,k=>by
  simp only[aT] at k;obtain⟨agg,ents,b,c,h1,h2,y⟩:=k;by_cases B:j=id
  ·subst B;rw[h1] at hid;cases hid;cases z with
   | var l=>obtain⟨t,h⟩:=q;cases h
   | ra n es l=>obtain⟨_,_,h,_⟩:=q;cases h
   | map agg' ents'=>
    cases q;simp only[R.fz,beq_refl,Ch,aT,Rep];obtain⟨es,clk,g1,g2⟩:=A (by simp[R.refs]) b c h2;exact⟨b,es,clk,y,g1,g2⟩
  ·have hb:Nat.beq j id=false:=by
    cases hb:Nat.beq j id with
    | false=>rfl
    | true=>exact absurd (δ hb) B
   have e:(R.mr j).fz id z=.mr j:=by cases z<;>simp[R.fz,hb]
   rw[e];simp only[aT];exact⟨agg,ents,b,c,by rw[j4 B,h1];rfl,h2,y⟩
 | .clo f caps,v,A,k=>by
  simp only[aT,R.fz] at k ⊢;obtain⟨vs,h1,h2⟩:=k;exact⟨vs,h1,aP.fz hle hid q caps vs (by simpa only[R.refs] using A) h2⟩
 | .ras n es l,v,A,k=>by
  simp only[aT,R.fz] at k ⊢;obtain⟨a,cap,h1,h2,y,h4,h5,h6,b,o,h7,vs,M,O⟩:=k;exact⟨a,cap,h1,by rw[R.fzL_length];exact h2,y,h4,h5,h6,b,o,h7,vs,aP.fz hle hid q l vs (by simpa only[R.refs] using A) M,O.mono hle⟩
 | .pas l,v,A,k=>by
  simp only[aT,R.fz] at k ⊢;obtain⟨b,o,h1,vs,M,O⟩:=k;exact⟨b,o,h1,vs,aP.fz hle hid q l vs (by simpa only[R.refs] using A) M,O.mono hle⟩
 | .mth f recv,v,A,k=>by
  simp only[aT,R.fz] at k ⊢;obtain⟨u,h1,h2⟩:=k;exact⟨u,h1,aT.fz hle hid q recv u (by simpa only[R.refs] using A) h2⟩
 | .rp j i fo sz,v,A,k=>by
  simp only[aT] at k;obtain⟨E,k⟩:=k;by_cases B:j=id
  ·subst B;have key:aT S' μ (hfz j z H) (.c .any) v:=by
    obtain⟨a,rfl⟩:=E;simp only[aT,Rep];exact⟨rfl,rfl⟩
   rcases k with k | ⟨te,es,elems,h1,h2,y⟩
   ·rw[k] at hid;cases hid;cases z with
    | map agg ents=>cases q
    | var l=>obtain⟨t,h⟩:=q;cases h
    | ra n es l=>obtain⟨_,_,h,_⟩:=q;cases h
   ·rw[h1] at hid;cases hid;cases z with
    | map agg ents=>cases q
    | var l=>obtain⟨t,h⟩:=q;cases h
    | ra n es l=>simpa only[R.fz,beq_refl,Ch] using key
  ·have hb:Nat.beq j id=false:=by
    cases hb:Nat.beq j id with
    | false=>rfl
    | true=>exact absurd (δ hb) B
   have e:(R.rp j i fo sz).fz id z=.rp j i fo sz:=by cases z<;>simp[R.fz,hb]
   rw[e];simp only[aT];rcases k with k | ⟨te,es,elems,h1,h2,y⟩
   ·exact⟨E,.inl (by rw[j4 B,k];rfl)⟩
   ·exact⟨E,.inr ⟨te,es,fzR id z elems,by rw[j4 B,h1];rfl,by rw[dW];exact h2,fun e=>y (by rw[dW] at e;exact e)⟩⟩
 | .yl j,v,_,k=>by
  simp only[aT,R.fz] at k ⊢;obtain⟨st,jp,i,e,b,c,h1,h2,y⟩:=k;have hne:j≠id:=by
   rintro rfl;rw[h1] at hid;cases hid;cases z with
   | map agg ents=>cases q
   | var l=>obtain⟨t,h⟩:=q;cases h
   | ra n es l=>obtain⟨_,_,h,_⟩:=q;cases h
  exact⟨st,jp,i,_,b,c,by rw[j4 hne,h1];rfl,h2,y⟩
 | .ra j off len sz,v,A,k=>by
  simp only[aT] at k;obtain⟨E,k⟩:=k;by_cases B:j=id
  ·subst B;have key:aT S' μ (hfz j z H) (.c .any) v:=by
    obtain⟨a,l,c,rfl⟩:=E;simp only[aT,Rep];exact⟨rfl,rfl⟩
   rcases k with k | ⟨te,es,elems,h1,h2,y⟩
   ·rw[k] at hid;cases hid;cases z with
    | map agg ents=>cases q
    | var l=>obtain⟨t,h⟩:=q;cases h
    | ra n es l=>obtain⟨_,_,h,_⟩:=q;cases h
   ·rw[h1] at hid;cases hid;cases z with
    | map agg ents=>cases q
    | var l=>obtain⟨t,h⟩:=q;cases h
    | ra n es' l=>
     obtain⟨te',elems',U,I,J⟩:=q;cases U;simp only[R.fz,beq_refl,Ch];split
     ·rename_i hc;simp only[τ] at hc;obtain⟨⟨Y,c2⟩,c3⟩:=hc;have Y:=δ Y;have c2:=δ c2;have c3:=δ c3;subst Y;subst c2;subst c3;obtain⟨f1,f2⟩:=A (by simp[R.refs]);obtain⟨_,⟨m1,m2,m3⟩ | ⟨b,base,cap,m1,m2⟩⟩:=y J
      ·subst m2;simp only[length_nil] at J;subst J;subst I;simp only[aT];exact⟨none,0,m3,by simp,le_refl _,Ac _,(fun _=>⟨by first | rfl | simp,rfl⟩),(by simp),0,0,(by simp),[],(by simp[aP]),(by intro i v e;simp at e)⟩
      ·obtain⟨f3,f4,vs,f5,f6⟩:=f2 b base cap m1;simp only[aT];exact⟨some ⟨b,base,none⟩,cap,by rw[m2];simp,f1,f3,f4,by simp,(fun ad h=>by cases h;rfl),b,base,(fun ad h=>by cases h;exact⟨rfl,rfl⟩),vs,f5,f6⟩
     ·exact key
  ·have hb:Nat.beq j id=false:=by
    cases hb:Nat.beq j id with
    | false=>rfl
    | true=>exact absurd (δ hb) B
   have e:(R.ra j off len sz).fz id z=.ra j off len sz:=by cases z<;>simp[R.fz,hb]
   rw[e];simp only[aT];rcases k with k | ⟨te,es,elems,h1,h2,y⟩
   ·exact⟨E,.inl (by rw[j4 B,k];rfl)⟩
   ·refine⟨E,.inr ⟨te,es,fzR id z elems,by rw[j4 B,h1];rfl,by rw[dW];exact h2,fun e=>?_⟩⟩;rw[dW] at e;obtain⟨U,I⟩:=y e;refine⟨U,?_⟩;rcases I with⟨I,J,q4⟩ | I
    ·exact .inl ⟨I,by rw[J];rfl,q4⟩
    ·exact .inr I
theorem aP.fz (hle:S.le S') {o:AObj}(hid:H id=some o) (q:z.of o):∀(r:List R) (v:List Value),(id∈R.refsL r→aOh S' μ H id z)→aP S μ H r v→aP S' μ (hfz id z H) (R.fzL id z r) v
 | [],_,_,k=>by simpa only[aP,R.fzL] using k
 | r::rs,vs,A,k=>by
  simp only[aP,R.fzL] at k ⊢;obtain⟨v,vs',h1,h2,y⟩:=k;exact⟨v,vs',h1,aT.fz hle hid q r v (fun h=>A (by simp[R.refsL,h])) h2,aP.fz hle hid q rs vs' (fun h=>A (by simp[R.refsL,h])) y⟩
end
mutual
theorem aO.fz (hle:S.le S') {o:AObj}(hid:H id=some o) (c:z.of o) (j:aOh S' μ H id z):∀(r:V) (v:Value),aO S μ H r v→aO S' μ (hfz id z H) (r.fz id z) v
 | .one r,v,k=>by simp only[aO,V.fz] at k ⊢;exact aT.fz hle hid c r v (fun _=>j) k
 | .pa l,v,k=>by
  simp only[aO,V.fz] at k ⊢;obtain⟨vs,h1,h2⟩:=k;exact⟨vs,h1,bW.mono hle l vs h2⟩
 | .ma l,v,k=>by
  simp only[aO,V.fz] at k ⊢;obtain⟨vs,h1,h2⟩:=k;exact⟨vs,h1,aP.fz hle hid c l vs (fun _=>j) h2⟩
 | .tup l,v,k=>by
  simp only[aO,V.fz] at k ⊢;obtain⟨vs,h1,h2⟩:=k;exact⟨vs,h1,aU.fz hle hid c j l vs h2⟩
theorem aU.fz (hle:S.le S') {o:AObj}(hid:H id=some o) (c:z.of o) (j:aOh S' μ H id z):∀(r:List V) (v:List Value),aU S μ H r v→aU S' μ (hfz id z H) (V.fzL id z r) v
 | [],_,k=>by simpa only[aU,V.fzL] using k
 | r::rs,vs,k=>by
  simp only[aU,V.fzL] at k ⊢;obtain⟨v,vs',h1,h2,q⟩:=k;exact⟨v,vs',h1,aO.fz hle hid c j r v h2,aU.fz hle hid c j rs vs' q⟩
end
theorem AObj.succ_fz {p:Prop}{o o':AObj}(h:o.succ p o'):o.succ p (o'.fz id z):=by
 cases o<;>cases o'<;>simp only[AObj.succ,AObj.fz,dW] at h ⊢<;>exact h
theorem j6.fz {w:World}{j:Nat}{x:AObj}(hle:S.le S') {o:AObj}(hid:H id=some o) (B:z.of o) (E:aOh S' μ H id z) (h:j6 S μ H w j x) (hb:∀b c,μ j=some (b,c)→(∀o,S'.cell b o=S.cell b o)∧S'.mapo b=S.mapo b):j6 S' μ (hfz id z H) w j (x.fz id z):=by
 cases x with
 | var t cells=>
  obtain⟨b,vs,h1,h2,u,q⟩:=h;exact⟨b,vs,h1,h2,aP.fz hle hid B _ _ (fun _=>E) u,fun o=>by rw[(hb b _ h1).1,q.1],by rw[(hb b _ h1).2,q.2]⟩
 | arr te es elems fz=>
  obtain⟨h0,h1 | ⟨b,base,cap,vs,h1,h2,u,q,y,A,I,J,M⟩⟩:=h
  ·exact⟨h0,.inl h1⟩
  ·exact⟨h0,.inr ⟨b,base,cap,vs,h1,h2,u,q,⟨y.1,by rw[(hb b _ h1).2,y.2]⟩,bW.mono hle _ _ A,fun e o ho=>by rw[(hb b _ h1).1,I e o ho],fun o e=>by rw[(hb b _ h1).1,J o e],fun e=>(M e).mono hle⟩⟩
 | map agg ents=>
  obtain⟨b,es,clk,h1,h2,u,q⟩:=h;exact⟨b,es,clk,h1,h2,wB.mono hle u,q.of_eq (hb b _ h1).2⟩
 | dead=>exact h
 | lp st jp i e=>
  obtain⟨b,r,fn,tmps,h1,h2,u,q,y,A⟩:=h;refine⟨b,r,fn,tmps,h1,h2,u,fun t v ht=>?_,fun o=>by rw[(hb b _ h1).1,y],by rw[(hb b _ h1).2,A]⟩;obtain⟨v0,O,rfl⟩:=aE5 ht;exact aO.fz hle hid B E _ _ (q t v0 O)
 | dfr=>
  obtain⟨b,h1,h2,u,q⟩:=h;exact⟨b,h1,h2,fun o=>by rw[(hb b _ h1).1,u],by rw[(hb b _ h1).2,q]⟩
 | rarr te es elems=>
  obtain⟨h0,h1 | ⟨b,base,cap,vs,h1,h2,u,q,y,A,I⟩⟩:=h
  ·exact⟨lR h0,.inl ⟨h1.1,by rw[h1.2];rfl⟩⟩
  ·refine⟨lR h0,.inr ⟨b,base,cap,vs,h1,h2,u,by rw[dW];exact q,⟨y.1,by rw[(hb b _ h1).2,y.2]⟩,?_,fun o ho=>by rw[(hb b _ h1).1,I o ho]⟩⟩;rw[zP,dW];exact aP.fz hle hid B _ _ (fun _=>E) A
 | tok r k=>
  obtain⟨h1,b,h2,m,u,q⟩:=h;obtain⟨U,y,A⟩:=hle.2 b m u;exact⟨h1,b,aT.fz hle hid B _ _ (fun _=>E) h2,U,y,MK.le_has A q⟩
theorem Sto.free_of {S S':Sto}(h:S.free) {b:Nat}(hb:∀c,c≠b→(∀o,S'.cell c o=S.cell c o)∧S'.mapo c=S.mapo c) (ht:∀te lo hi,¬S'.mapo b=some (.top te lo hi)):S'.free:=fun c te lo hi e o ho=>by
 by_cases j:c=b
 ·subst j;exact absurd e (ht te lo hi)
 ·obtain⟨h1,h2⟩:=hb c j;rw[h1,h c te lo hi (by rw[←h2];exact e) o ho]
theorem aIu {G:Ctx}{n:Nat}{kf:List Nat}{st:St}{a:Act}{w:World}{o:AObj}(hid:st.h id=some o) (A:z.of o) (J:id∉kf) (hg:G.keeps kf) (hs:Sim G n S μ st a w) (hle:S.le S') (hh:Holds S' w) (M:aOh S' μ st.h id z)
  (hb:∀b,(∀c,μ id≠some (b,c))→(∀o,S'.cell b o=S.cell b o)∧S'.mapo b=S.mapo b) (E:S'.free):Sim G n S' μ ⟨fun t=>(st.e t).map (V.fz id z),hfz id z st.h,st.d⟩ a w:=by
 have hold:∀j x,hfz id z st.h j=some x→j≠id∧∃u,st.h j=some u∧x=u.fz id z:=by
  intro j x q;have r:j≠id:=by rintro rfl;rw[aPq] at q;cases q
  rw[j4 r] at q;cases h:st.h j with
  | none=>rw[h] at q;cases q
  | some u=>
   rw[h] at q;cases q;exact⟨r,u,rfl,rfl⟩
 have I:∀j u,st.h j=some u→j≠id→∀b c,μ j=some (b,c)→∀c',μ id≠some (b,c'):=by
  intro j u q r b c hm c' B;exact r (hs.inv.inj j id u o b c c' q hid hm B)
 refine⟨⟨hh,fun j x q=>?_,fun i j x x' b c c' hi q hm B=>?_,fun i x b c hi hm=>?_,hs.inv.frame,Sto.le_trans hs.inv.sle hle,fun b O U=>?_,⟨Sto.le_trans hs.inv.evo.le hle,fun j x q=>?_⟩,E⟩,hs.size,hs.defers.go fun j _ q=>⟨rfl,?_⟩,fun t v e=>?_⟩
 ·obtain⟨r,u,h1,rfl⟩:=hold j x q;exact(hs.inv.obj j u h1).fz hle hid A M fun b c hm=>hb b (I j u h1 r b c hm)
 ·obtain⟨_,y,h1,_⟩:=hold i x hi;obtain⟨_,y',h2,_⟩:=hold j x' q;exact hs.inv.inj i j y y' b c c' h1 h2 hm B
 ·obtain⟨_,y,h1,_⟩:=hold i x hi;exact hs.inv.own i y b c h1 hm
 ·have Y:∀c,μ id≠some (b,c):=by
   intro c hm;rcases hs.inv.own id o b c hid hm with h | h
   ·omega
   ·exact U h
  obtain⟨h1,h2⟩:=hb b Y;obtain⟨h3,h4⟩:=hs.inv.sto b O U;exact⟨fun o=>(h1 o).trans (h3 o),h2.trans h4⟩
 ·obtain⟨o',h1,h2⟩:=hs.inv.evo.obj j x q;have r:j≠id:=fun e=>J (e▸hg.1 j x q)
  exact⟨o'.fz id z,by show hfz id z st.h j=_;rw[j4 r,h1];rfl,AObj.succ_fz h2⟩
 ·have r:j≠id:=by
   rintro rfl;rw[q] at hid;cases hid;cases z with
   | map agg ents=>cases A
   | var l=>obtain⟨t,h⟩:=A;cases h
   | ra n es l=>obtain⟨_,_,h,_⟩:=A;cases h
  show hfz id z st.h j=_;rw[j4 r,q];rfl
 ·cases h:st.e t with
  | none=>simp[h] at e
  | some v0=>
   simp only[h,By,Option.some.injEq] at e;subst e;exact aO.fz hle hid A M v0 _ (hs.env t v0 h)
theorem Sub.fvar {kf:List Nat}{st:St}{id t:Nat}{l:List C}(hid:st.h id=some (.var t (l.map R.c))) (q:id∉kf):Sub kf ⟨fun t=>(st.e t).map (V.fz id (.var l)),hfz id (.var l) st.h,st.d⟩ st:=by
 intro G n S μ a w B hs;obtain⟨b,vs,h1,h2,E,r⟩:=hs.inv.obj id _ hid;have y:=E.pure
 let S':Sto:=⟨fun j o=>if j=b then vs[o]? else S.cell j o,S.mapo⟩
 have hle:S.le S':=⟨fun j o v e=>by
  show(if j=b then vs[o]? else S.cell j o)=some v;by_cases hb:j=b
  ·subst hb;rw[r.1] at e;cases e
  ·rw[ξ hb];exact e,fun _ m e=>⟨m,e,m.le_refl⟩⟩
 refine⟨S',μ,aIu hid ⟨t,rfl⟩ q B hs hle ⟨fun j o v e=>?_,hs.inv.holds.2⟩ ?_ (fun j hb=>⟨fun o=>?_,rfl⟩) (Sto.free_of hs.inv.fre (b:=b) (fun j hb=>⟨fun _=>ξ hb,rfl⟩) fun te lo hi e=>by have e:S.mapo b=_:=e;rw[r.2] at e;cases e)⟩
 ·have e':(if j=b then vs[o]? else S.cell j o)=some v:=e;by_cases hb:j=b
  ·subst hb;rw[θ rfl] at e';exact⟨⟨vs⟩,t,(0,0),h2,by simpa using e'⟩
  ·rw[ξ hb] at e';exact hs.inv.holds.1 j o v e'
 ·intro j c hm;rw[h1] at hm;cases hm;refine⟨vs,bW.mono hle _ _ y,fun i u hu=>?_⟩;show(if b=b then vs[0+i]? else S.cell b (0+i))=some u;rw[θ rfl,Bb];exact hu
 ·have A:j≠b:=fun e=>hb (0,0) (by rw[e];exact h1)
  exact ξ A
end
theorem aU.length {S:Sto}{μ:Mu}{H:bZ}:∀{l:List V}{us:List Value},aU S μ H l us→us.length=l.length
 | [],_,h=>by simp only[aU] at h;subst h;rfl
 | _::l,_,h=>by
  simp only[aU] at h;obtain⟨v,vs',rfl,_,h2⟩:=h;simp[aU.length h2]
theorem uK {α:Type}{k i:Nat}{x:α}{l:List (Nat×α)}(h:i≠k):look ((k,x)::l) i=look l i:=by
 have:Nat.beq i k=false:=by
  cases hb:Nat.beq i k with
  | false=>rfl
  | true=>exact absurd (δ hb) h
 simp[look,this]
theorem lD {α:Type}{k:Nat}{x:α}{l:List (Nat×α)}:look ((k,x)::l) k=some x:=by simp[look]
theorem Inv.keep {G:Ctx}{S:Sto}{μ:Mu}{H:bZ}{w:World}{hout:List (Nat×AObj)}(hs:Inv G S μ H w) (q:fH (fun p=>∃o,H p.1=some o∧Ole (fun i=>i) o p.2) hout)
  (E:subset (fI hout) (keys hout)=true) (I:∀id o,G.h0 id=some o→id∈keys hout):Inv G S μ (look hout) w:=by
 have r:∀i∈keys hout,Good H (look hout) (fun i=>i) i:=by
  intro i hi;obtain⟨o',u⟩:=cE hi;obtain⟨o,g1,g2⟩:=q.mem _ (b9 u);exact⟨o,o',g1,u,g2⟩
 refine⟨hs.holds,fun id o ho=>?_,fun i j o o' b c c' hi J hm A=>?_,fun i o b c hi hm=>?_,hs.frame,hs.sle,hs.sto,⟨hs.evo.le,fun id o ho=>?_⟩,hs.fre⟩
 ·obtain⟨y,g1,g2⟩:=q.mem _ (b9 ho);exact(hs.obj _ _ g1).ren g2 fun i hi=>r i (bR E i (jJ (b9 ho) i hi))
 ·obtain⟨y,g1,g2⟩:=q.mem _ (b9 hi);obtain⟨B,g3,g4⟩:=q.mem _ (b9 J);exact hs.inj _ _ _ _ b c c' g1 g3 hm A
 ·obtain⟨y,g1,g2⟩:=q.mem _ (b9 hi);exact hs.own _ _ b c g1 hm
 ·obtain⟨o',g1,g2⟩:=hs.evo.obj id o ho;obtain⟨y,B,g3,g4,g5⟩:=r id (I id o ho);rw[g1] at g3;cases g3;exact⟨B,g4,AObj.succ_trans g2 g5.succ fun e _=>e⟩
section
variable {P:Program}{n:Nat}{o:Oper}{st:St}{d:Nat}
end
def aHe (W:World):Sto:=
 ⟨fun b o=>match W.heap[b]? with | some (.cells vs _ _)=>vs[o]? | _=>none,fun b=>match W.heap[b]? with | some (.map es clk)=>some (.all es clk) | _=>none⟩
theorem aBy (W:World):Holds (aHe W) W:=by
 refine⟨fun b o v h=>?_,fun b mk h=>?_⟩
 ·simp only[aHe] at h;split at h
  ·rename_i vs t c hq;exact⟨vs,t,c,hq,h⟩
  ·cases h
 ·simp only[aHe] at h;split at h
  ·rename_i hq;cases h;exact hq
  ·cases h
theorem aIm (W:World):(aHe W).noTop:=fun b m e=>by
 simp only[aHe] at e;split at e
 ·cases e;exact⟨_,_,rfl⟩
 ·cases e
theorem aEr (W:World):(aHe W).free:=fun b te lo hi e=>by
 obtain⟨_,_,h⟩:=aIm W b _ e;cases h
theorem aE1 {P:Program}{f:FuncId}{args:List V}{vals:List Value}{res:V}(h:b8 P f args [] res []) (W:World) (q:aU (aHe W) (fun _=>none) (look []) args vals) (ht:aJ9 W:=by first | assumption | (intro g h;cases h)):
  Calls P f ⟨vals⟩ W fun e W'=>∃v S μ,e=.returned v∧RowKit.Below W.heap.size W W'∧aO S μ (look []) res v:=by
 have r:Inv ⟨W,aHe W,hH (fun _=>none) (look []),fun _=>none,look []⟩ (aHe W) (fun _=>none) (look []) W:=
  ⟨aBy W,(fun _ _ h=>by cases h),(fun _ _ _ _ _ _ _ h=>by cases h),(fun _ _ _ _ h=>by cases h),FrameW.refl _ _ ⟨ht,fun g _ ⟨_,_,_,h,_⟩=>by cases h⟩,Sto.le_refl _,fun _ _ _=>⟨fun _=>rfl,rfl⟩,Evolve.refl _ _ _,aEr W⟩
 refine(h (aHe W) (fun _=>none) W vals r q).mono ?_;rintro e W' ⟨S',μ',v,he,j,u⟩;refine⟨v,S',μ',he,⟨j.frame.os,j.frame.tape,j.frame.output,j.frame.size,fun k y=>j.frame.block k y ?_⟩,u⟩;rintro⟨id,o,c,h1,_⟩;cases h1
theorem aNh {S:Sto}{μ:Mu}{H:bZ}{b:Bool}{v:Value}(h:aO S μ H (B b) v):v=.bool b:=by simpa [aO,aT,Rep] using h
inductive BndV (st:St):Option Operand→Nat→Nat→Prop
 | no {m}:BndV st none m m
 | yes {x kk m k}:opv st x=some (I kk ((k:Nat):Int))→BndV st (some x) m k
def aJu:Option Operand→List Nat
 | none=>[]
 | some x=>opr x
section
variable {P:Program}{n:Nat}{o:Oper}{st:St}{d:Nat}{T:TT}
theorem BndV.val {G:Ctx}{S:Sto}{μ:Mu}{st':St}{a:Act}{w:World}{x:Option Operand}{m k:Nat}(h:BndV st x m k) (hs:Sim G n S μ st' a w) (ha:∀t∈aJu x,st'.e t=st.e t):
  (x=none∧k=m)∨∃kk,x.map a.eval=some (.int kk ((k:Nat):Int)):=by
 cases h with
 | no=>exact .inl ⟨rfl,rfl⟩
 | @yes x kk _ _ h=>exact .inr ⟨kk,by rw[By,dB (aL hs h ha)]⟩
theorem qX {w:World}{b:Bool}{len cap lo hi:Nat}{low high:Option Value}(hl:(low=none∧lo=0)∨∃kk,low=some (.int kk ((lo:Nat):Int))) (hh:(high=none∧hi=len)∨∃kk,high=some (.int kk ((hi:Nat):Int))) (h1:lo≤hi) (h2:hi≤len) (c:len≤cap):
  (Instr.sliceBounds b len cap low high none).run P w=.ok (lo,hi,cap) w:=by
 have j:hi≤cap:=le_trans h2 c;rcases hl with⟨rfl,rfl⟩ | ⟨q,rfl⟩<;>rcases hh with⟨rfl,rfl⟩ | ⟨r,rfl⟩<;>simp[Instr.sliceBounds,Instr.sliceBound,asIntOf,h1,j]
theorem aSd {t e:TypeId}{i q:TI}{x:Operand}{low high:Option Operand}{es lo hi:Nat}{l:List (List C)}(A:Tok P T) (ho:o.op=.slice t x low high none) (hd:o.dst=some d) (B:d<n) (E:T[t]?=some (some i)) (hk:i.k=.sl e) (I:T[e]?=some (some q)) (J:q.size=es)
  (hx:opv st x=some (.one (.c (.sl es l)))) (M:BndV st low 0 lo) (O:BndV st high l.length hi) (h1:lo≤hi) (h2:hi≤l.length):
  Step P n o st ⟨opr x++aJu low++aJu high,[]⟩ ⟨some (d,some (.one (.c (.sl es ((l.take hi).drop lo))))),[]⟩:=by
 refine Step.value hd B fun st' ha G S μ a w hs=>?_
 have U:=aL hs hx fun t ht=>ha.1 t (by simp[ht])
 have hl:=M.val hs fun t ht=>ha.1 t (by simp[ht])
 have hh:=O.val hs fun t ht=>ha.1 t (by simp[ht])
 simp only[aO,aT,Rep] at U;obtain⟨j,len,cap,p1,p2,p3,p4,p5,Y,b,of,p7,p8⟩:=U;subst p2;have hb:=qX (P:=P) (w:=w) (b:=true) (low:=low.map a.eval) (high:=high.map a.eval) (len:=l.length) (cap:=cap) (by rcases hl with⟨rfl,h⟩ | h;exact .inl ⟨rfl,h⟩;exact .inr h) (by rcases hh with⟨rfl,h⟩ | h;exact .inl ⟨rfl,h⟩;exact .inr h) h1 h2 p3;refine⟨.slice (if cap=lo then j else j.map (·.add (lo*q.size))) (hi-lo) (cap-lo),?_,?_⟩
 ·have hu:=Ah ((A.get E).slice hk) w;simp only[execOp,ho,p1,Option.map_none,π,Instr.sliceAt,hu,κ,Instr.slice,hb,(A.get I).size_run w,Aa]
 ·simp only[aO,aT,Rep];have hlen:((l.take hi).drop lo).length=hi-lo:=by simp;omega
  refine⟨_,_,_,rfl,hlen.symm,by omega,by omega,?_,?_,?_⟩
  ·intro e;have:j=none:=by
    split at e
    ·exact e
    ·cases j<;>simp at e;rfl
   obtain⟨r,u⟩:=p5 this;omega
  ·intro y e hcc;split at e
   ·omega
   ·cases j with
    | none=>cases e
    | some z=>
     simp at e;subst e;have:=Y z rfl (by omega);obtain⟨zb,zo,zs⟩:=z;simp at this;subst this;rw[Addr.add_mid]
  ·by_cases hc:cap=lo
   ·have:(l.take hi).drop lo=[]:=An (by omega);rw[this];refine⟨b,of,fun y e=>p7 y (by rwa [θ hc] at e),by simp[bF]⟩
   ·refine⟨b,of+lo*es,fun y e=>?_,(p8.take hi).drop lo⟩;rw[ξ hc] at e;cases j with
    | none=>cases e
    | some z=>
     simp at e;subst e;obtain⟨r,u⟩:=p7 z rfl;have:=Y z rfl (by omega);obtain⟨zb,zo,zs⟩:=z;simp at this r u;subst this r u;rw[Addr.add_mid,J];exact⟨rfl,rfl⟩
theorem extract_mk (s:List UInt8) (lo hi:Nat):(ByteArray.mk ⟨s⟩).extract lo hi=⟨⟨(s.take hi).drop lo⟩⟩:=by
 apply ByteArray.ext;simp;rw[drop_take]
theorem aO0 {t:TypeId}{i:TI}{x:Operand}{low high:Option Operand}{lo hi:Nat}{s:List UInt8}(u:Tok P T) (ho:o.op=.slice t x low high none) (y:o.dst=some d) (c:d<n) (j:T[t]?=some (some i)) (A:i.k=.str)
  (hx:opv st x=some (Go.AM.T s)) (q:BndV st low 0 lo) (r:BndV st high s.length hi) (h1:lo≤hi) (h2:hi≤s.length):
  Step P n o st ⟨opr x++aJu low++aJu high,[]⟩ ⟨some (d,some (Go.AM.T ((s.take hi).drop lo))),[]⟩:=by
 refine Step.value y c fun st' ha G S μ a w hs=>?_
 have B:=jN (aL hs hx fun t ht=>ha.1 t (by simp[ht]));have hl:=q.val hs fun t ht=>ha.1 t (by simp[ht])
 have hh:=r.val hs fun t ht=>ha.1 t (by simp[ht])
 have hb:=qX (P:=P) (w:=w) (b:=false) (low:=low.map a.eval) (high:=high.map a.eval) (len:=s.length) (cap:=s.length) (by rcases hl with⟨rfl,h⟩ | h;exact .inl ⟨rfl,h⟩;exact .inr h) (by rcases hh with⟨rfl,h⟩ | h;exact .inl ⟨rfl,h⟩;exact .inr h) h1 h2 (le_refl _);refine⟨.string ⟨⟨(s.take hi).drop lo⟩⟩,?_,by simp[aO,aT,Rep]⟩;have hu:=Ah ((u.get j).str A) w;have hsz:(ByteArray.mk ⟨s⟩).size=s.length:=rfl;simp only[execOp,ho,B,Option.map_none,π,Instr.sliceAt,hu,κ,Instr.slice,hsz,hb,Option.isSome_none,Ao,Bm,Aa,extract_mk]
theorem aKj {t:TypeId}{i:TI}{x y:Operand}{s:List UInt8}{kk:IntKind}{m:Int}{k:Nat}{b:UInt8}(r:Tok P T) (ho:o.op=.index t x y) (u:o.dst=some d) (c:d<n) (j:T[t]?=some (some i)) (A:i.k=.str)
  (hx:opv st x=some (Go.AM.T s)) (hy:opv st y=some (I kk m)) (hm:m=(k:Int)) (hb:s[k]?=some b):Step P n o st ⟨opr x++opr y,[]⟩ ⟨some (d,some (I .u8 ((b.toNat:Nat):Int))),[]⟩:=by
 refine Step.value u c fun st' ha G S μ a w hs=>?_
 have B:=jN (aL hs hx fun t ht=>ha.1 t (by simp[ht]));have h2:=dB (aL hs hy fun t ht=>ha.1 t (by simp[ht]));subst hm;refine⟨.int .u8 ((b.toNat:Nat):Int),?_,by simp[aO,aT,Rep]⟩;have hu:=Ah ((r.get j).str A) w;have E:(ByteArray.mk ⟨s⟩)[k]?=some b:=by
  have q:=(Af.1 hb).1
  have hsz:(ByteArray.mk ⟨s⟩).size=s.length:=rfl;rw[getElem?_pos (ByteArray.mk ⟨s⟩) k (by rw[hsz];exact q)];have:=(Af.1 hb).2
  rw[←this];rfl
 simp only[execOp,ho,B,h2,π,Instr.index,asIntOf,Aa,κ,hu];simp[E]
theorem aR6 {t1 t2:TypeId}{x y:Operand}{k:IntKind}{a b r:Int}(ho:o.op=.call { callee:=.builtin .min,args:= #[x,y],argTypes:= #[t1,t2] }) (j:o.dst=some d) (c:d<n) (hx:opv st x=some (I k a)) (hy:opv st y=some (I k b)) (q:(if b<a then b else a)=r):
  Step P n o st ⟨opr x++opr y,[]⟩ ⟨some (d,some (I k r)),[]⟩:=by
 refine Step.value j c fun st' ha G S μ ac w hs=>?_
 have h1:=dB (aL hs hx fun t h=>ha.1 t (by simp[h]));have h2:=dB (aL hs hy fun t h=>ha.1 t (by simp[h]));refine⟨.int k r,?_,by simp[aO,aT,Rep]⟩;simp only[execOp,ho,resolve,map_toArray,Av,map_nil,h1,h2,π,Aa,κ,invoke,builtin,Builtin.min_,List.foldlM_cons,List.foldlM_nil,Builtin.min2,q]
end
section
variable {P:Program}{n:Nat}{o:Oper}{st:St}{d:Nat}{T:TT}
theorem j6.rarr {S:Sto}{μ:Mu}{H:bZ}{w:World}{id:Nat}{te es:Nat}{elems:List (List R)}(h:j6 S μ H w id (.rarr te es elems)) {b base cap:Nat}(hm:μ id=some (b,base,cap)):
  (∀r∈elems,r.length=es)∧∃vs,w.heap[b]?=some (.cells ⟨vs⟩ te (0,0))∧base+cap*es≤vs.length∧elems.length≤cap∧(cap≤maxLen∧S.mapo b=none)∧aP S μ H elems.flatten ((vs.drop base).take (elems.length*es))∧(∀o,base≤o→S.cell b o=none):=by
 obtain⟨h0,h1 | ⟨E,c,j,vs,h1,h2,q,u,y,A,B⟩⟩:=h
 ·rw[h1.1] at hm;cases hm
 ·rw[h1] at hm;cases hm;exact⟨h0,vs,h2,q,u,y,A,B⟩
def rT (st:St) (es:Nat):Nat→List (Nat×Operand)→Option (List (List R))
 | _,[]=>some []
 | k,(i,x)::ps=>bif Nat.beq i k then(opv st x).bind fun v=>(fF v).bind fun rs=>bif Nat.beq rs.length es then(rT st es (k+1) ps).bind fun l=>some (rs::l) else none else none
theorem tW {es:Nat}:∀{ps:List (Nat×Operand)}{k:Nat}{l:List (List R)},rT st es k ps=some l→l.length=ps.length∧∀r∈l,r.length=es
 | [],k,l,h=>by simp[rT] at h;subst h;simp
 | (i,x)::ps,k,l,h=>by
  simp only[rT] at h;cases hi:Nat.beq i k with
  | false=>rw[hi] at h;cases h
  | true=>
   rw[hi] at h;simp only[Bp,Ab] at h;obtain⟨v,u,rs,q,h⟩:=h;cases hl:Nat.beq rs.length es with
   | false=>rw[hl] at h;cases h
   | true=>
    rw[hl] at h;simp only[Bp,Ab] at h;obtain⟨y,j,h⟩:=h;cases h;obtain⟨h1,h2⟩:=tW j;refine⟨by simp[h1],fun r c=>?_⟩;rcases Ap.1 c with rfl | c
    ·exact δ hl
    ·exact h2 r c
theorem aBg {G:Ctx}{S:Sto}{μ:Mu}{st':St}{a:Act}{w:World}(hs:Sim G n S μ st' a w) {es:Nat}:∀{k:Nat}{ps:List (Nat×Operand)}{rows:List (List R)},rT st es k ps=some rows→(∀t∈eF ps,st'.e t=st.e t)→
  ∀(cells:Array Value),cells.size=(k+ps.length)*es→∃out:Array Value,Instr.fill (fun i=>some (i*es,es)) cells (ps.map fun(i,x)=>(i,a.eval x))=some out∧out.size=cells.size∧
   ∃us,aP S μ st'.h rows.flatten us∧out.toList=cells.toList.take (k*es)++us:=by
 intro k ps
 induction ps generalizing k with
 | nil=>
  intro rows h _ cells hc;simp only[rT] at h;cases h;refine⟨cells,rfl,rfl,[],by simp[aP],?_⟩;rw[Cc,A5];simp at hc;simp[hc]
 | cons p ps E=>
  obtain⟨i,x⟩:=p;intro rows h ha cells hsz;simp only[rT] at h;cases hi:Nat.beq i k with
  | false=>rw[hi] at h;cases h
  | true=>
   rw[hi] at h;have u:=δ hi;subst u;simp only[Bp,Ab] at h;obtain⟨v,I,rs,y,h⟩:=h;cases hl:Nat.beq rs.length es with
   | false=>rw[hl] at h;cases h
   | true=>
    rw[hl] at h;simp only[Bp,Ab] at h;obtain⟨Y,q,h⟩:=h;cases h;have O:=δ hl;have hrel:=cV (aL hs I fun t ht=>ha t (by simp[eF,ht])) y;have A:=hrel.length;simp only[Au] at A;simp only[ε] at hsz;have U:(i+(ps.length+1))*es=i*es+es+ps.length*es:=by
     rw[A2,A2];omega
    have r:=mH (i*es) (a.eval x).cells.toList 0 cells (by simp only[Au];omega);have j:(bQ cells.toList (i*es) (a.eval x).cells.toList).length=cells.size:=by
     unfold bQ;simp;omega
    obtain⟨out,h1,h2,us,J,M⟩:=E q (fun t ht=>ha t (by simp[eF,ht])) ⟨bQ cells.toList (i*es) (a.eval x).cells.toList⟩ (by
     simp only[size_toArray,j,hsz];congr 1
     omega)
    refine⟨out,?_,by rw[h2];simpa using j,(a.eval x).cells.toList++us,?_,?_⟩
    ·simp only[Av,Instr.fill];have c:((a.eval x).cells.size≠es || decide (i*es+(a.eval x).cells.size>cells.size))=false:=by
      simp only[Bool.or_eq_false_iff,decide_eq_false_iff_not];exact⟨by simp;omega,by omega⟩
     simp only[c,Ao,Bm];have B:((a.eval x).cells.zipIdx.foldl (fun cs (x:Value×Nat)=>cs.setIfInBounds (i*es+x.2) x.1) cells)=⟨bQ cells.toList (i*es) (a.eval x).cells.toList⟩:=by
      rw[←Array.foldl_toList,Array.toList_zipIdx];simpa using r
     rw[←h1];congr 1
    ·rw[A9];exact hrel.append J
    ·rw[M];have:(bQ cells.toList (i*es) (a.eval x).cells.toList).take ((i+1)*es)=cells.toList.take (i*es)++(a.eval x).cells.toList:=by
      unfold bQ;apply take_left';simp;rw[A2];omega
     show(bQ cells.toList (i*es) (a.eval x).cells.toList).take ((i+1)*es)++us=_;rw[this,As]
theorem aH3 {t e:TypeId}{i c:TI}{len:Nat}{parts:Array (Nat×Operand)}{rows:List (List R)}(id:Nat) (u:Tok P T) (ho:o.op=.buildSlice t len parts) (hd:o.dst=some d) (U:d<n) (hi:T[t]?=some (some i)) (Y:i.k=.sl e) (q:T[e]?=some (some c))
  (r:rT st c.size 0 parts.toList=some rows) (hlen:Nat.beq len parts.size=true) (y:Nat.ble (len*c.size) 16777216=true) (I:Nat.ble len 16777216=true) (hid:st.h id=none):
  Step P n o st ⟨eF parts.toList,[id]⟩ ⟨some (d,some (.one (.ra id 0 len len))),[(id,some (.rarr e c.size rows))]⟩:=by
 refine Step.new hd U hid (by simp) fun st' ha J G S μ a w hs=>?_
 have B:=δ hlen;have hsm:=Al y;obtain⟨z,hz,aa,_⟩:=(u.get q).zero_run;have E:=(aa S).length;rw[(u.get q).len] at E;simp only[Au] at E;obtain⟨ab,ac⟩:=tW r;simp only[Au] at ab;have key:∀(cells:Array Value),cells.size=len*c.size→∃out:Array Value,Instr.fill (fun i=>some (i*c.size,c.size)) cells (parts.map fun(i,x)=>(i,a.eval x)).toList=some out∧out.size=len*c.size∧aP S μ st'.h rows.flatten out.toList:=by
  intro cells hc;obtain⟨out,h1,h2,us,j,h4⟩:=aBg hs r ha.1 cells (by rw[hc,B];simp);refine⟨out,by rw[←h1];simp,by rw[h2,hc],?_⟩;simp at h4;rw[h4];exact j
 have M:∃out:Array Value,(Instr.buildSlice t len (parts.map fun(i,x)=>(i,a.eval x))).run P w=.ok (.slice (some ⟨w.heap.size,0,none⟩) len len) (w.alloc (.cells out e))∧out.size=len*c.size∧aP S μ st'.h rows.flatten out.toList:=by
  by_cases h0:len*c.size=0
  ·obtain⟨out,h1,h2,j⟩:=key ((Array.range (len*c.size)).map ((#[]:Array Value)[· %(#[]:Array Value).size]!)) (by simp);refine⟨out,?_,h2,j⟩;have A:¬len*c.size>2^24:=by omega
   simp only[Instr.buildSlice,π,Ah ((u.get hi).slice Y) w,κ,(u.get q).size_run w];rw[ξ A,θ h0];simp only[π,κ,Aa,h1,fP]
  ·obtain⟨out,h1,h2,j⟩:=key ((Array.range (len*c.size)).map (z.cells[· %z.cells.size]!)) (by simp);refine⟨out,?_,h2,j⟩;have A:¬len*c.size>2^24:=by omega
   simp only[Instr.buildSlice,π,Ah ((u.get hi).slice Y) w,κ,(u.get q).size_run w];rw[ξ A,ξ h0];simp only[π,hz w,κ,Aa,h1,fP]
 obtain⟨out,h1,h2,j⟩:=M;have hlm:len≤maxLen:=by
  have:=Al I;unfold maxLen;omega
 have O:rows.length=len:=by omega
 refine⟨_,_,.slice (some ⟨w.heap.size,0,none⟩) len len,(0,len),?_,WChg.alloc w (.cells out e),?_,?_⟩
 ·simp only[execOp,ho,π,h1,κ,Aa]
 ·refine⟨ac,.inr ⟨w.heap.size,0,len,out.toList,aJ _ _ _,B1 w _,by simp[h2],by omega,⟨hlm,pQ hs.inv⟩,?_,fun o _=>fB hs.inv o⟩⟩;simp only[B5];rw[A5 (by simp[h2,O])];exact aP.evolve (eM J _ _) _ _ j
 ·simp only[aO,aT];exact⟨⟨_,_,_,rfl⟩,.inr ⟨e,c.size,rows,aJ _ _ _,by omega,fun _=>⟨by omega,.inr ⟨w.heap.size,0,len,aJ _ _ _,by simp⟩⟩⟩⟩
theorem aBl {t e:TypeId}{i r:TI}{x y:Operand}{te es k id off len sz:Nat}{kk:IntKind}{m:Int}{elems:List (List R)}(O:Tok P T) (ho:o.op=.indexAddr t x y) (U:o.dst=some d) (u:d<n) (hi:T[t]?=some (some i)) (Y:i.k=.sl e) (A:T[e]?=some (some r)) (B:r.size=es)
  (hx:opv st x=some (.one (.ra id off len sz))) (hh:st.h id=some (.rarr te es elems)) (hsz:sz=elems.length) (hy:opv st y=some (I kk m)) (hm:m=(k:Int)) (E:k<len):Step P n o st ⟨opr x++opr y,[id]⟩ ⟨some (d,some (.one (.rp id (off+k) 0 sz))),[]⟩:=by
 refine Step.value U u fun st' ha G S μ a w hs=>?_
 have c:=aL hs hx fun t ht=>ha.1 t (by simp[ht])
 have J:=dB (aL hs hy fun t ht=>ha.1 t (by simp[ht]));have j:st'.h id=some (.rarr te es elems):=by rw[ha.2 id (by simp),hh]
 simp only[aO,aT] at c;obtain⟨_,c | ⟨te',es',elems',h1,h2,h3⟩⟩:=c
 ·rw[j] at c;cases c
 rw[j] at h1;cases h1;obtain⟨h4,⟨M,q,h7⟩ | ⟨b,base,cap,M,q⟩⟩:=h3 hsz
 ·subst q;simp at hsz;omega
 subst hm;refine⟨.pointer (some ⟨b,base+(off+k)*es+0,none⟩),?_,?_⟩
 ·simp only[execOp,ho,q,J,π,iL O hi Y A w b (base+off*es) len _ k kk E,κ,Aa,B,Cf];rw[show base+off*es+k*es=base+(off+k)*es by rw[A2];omega]
 ·simp only[aO,aT];exact⟨⟨_,rfl⟩,.inr ⟨te,es,elems,j,h2,fun _=>⟨by omega,b,base,cap,M,rfl⟩⟩⟩
theorem aBo {t r:TypeId}{i u:TI}{fs:List (Nat×TypeId)}{f c:Nat}{x:Operand}{id k fo sz:Nat}(B:Tok P T) (ho:o.op=.fieldAddr t x f) (E:o.dst=some d) (y:d<n) (hi:T[t]?=some (some i)) (I:i.k=.st fs) (J:fs[f]?=some (c,r)) (A:T[r]?=some (some u)) (M:u.size≠0)
  {te es:Nat} {elems:List (List R)} (hx:opv st x=some (.one (.rp id k fo sz))) (hh:st.h id=some (.rarr te es elems)) (hsz:sz=elems.length):Step P n o st ⟨opr x,[id]⟩ ⟨some (d,some (.one (.rp id k (fo+c) sz))),[]⟩:=by
 refine Step.value E y fun st' ha G S μ a w hs=>?_
 have j:=aL hs hx ha.1;have q:st'.h id=some (.rarr te es elems):=by rw[ha.2 id (by simp),hh]
 simp only[aO,aT] at j;obtain⟨_,j | ⟨te',es',elems',h1,h2,O⟩⟩:=j
 ·rw[q] at j;cases j
 rw[q] at h1;cases h1;obtain⟨U,b,base,cap,Y,h6⟩:=O hsz;refine⟨.pointer (some ⟨b,base+k*es+fo+c,none⟩),?_,?_⟩
 ·simp only[execOp,ho,h6,π,fT B hi I J A M,κ,Aa]
 ·simp only[aO,aT];exact⟨⟨_,rfl⟩,.inr ⟨te,es,elems,q,h2,fun _=>⟨U,b,base,cap,Y,by rw[add_assoc]⟩⟩⟩
theorem aH8 {t e:TypeId}{i:TI}{x:Operand}{te es id off len sz:Nat}{elems:List (List R)}(r:Tok P T) (ho:o.op=.call { callee:=.builtin .len,args:= #[x],argTypes:= #[t] }) (A:o.dst=some d) (u:d<n) (hi:T[t]?=some (some i)) (y:i.k=.sl e)
  (hx:opv st x=some (.one (.ra id off len sz))) (hh:st.h id=some (.rarr te es elems)) (hsz:sz=elems.length):Step P n o st ⟨opr x,[id]⟩ ⟨some (d,some (I .i64 (len:Int))),[]⟩:=by
 refine Step.value A u fun st' ha G S μ a w hs=>?_
 have c:=aL hs hx ha.1;have j:st'.h id=some (.rarr te es elems):=by rw[ha.2 id (by simp),hh]
 simp only[aO,aT] at c;obtain⟨_,c | ⟨M,O,elems',h1,h2,B⟩⟩:=c
 ·rw[j] at c;cases c
 rw[j] at h1;cases h1;obtain⟨U,⟨E,q,J⟩ | ⟨b,base,cap,E,q⟩⟩:=B hsz
 ·have hl:len=0:=by subst q;simp at hsz;omega
  subst hl;refine⟨goInt 0,iK ho J ?_,by simp[aO,aT,Rep,goInt]⟩;simp[Builtin.len_,Ah ((r.get hi).slice y) w]
 ·refine⟨goInt len,iK ho q ?_,by simp[aO,aT,Rep,goInt]⟩;simp[Builtin.len_,Ah ((r.get hi).slice y) w]
theorem aDq {S:Sto}{μ:Mu}{H:bZ}{es base:Nat}{elems:List (List R)}{vs:List Value}(h0:∀r∈elems,r.length=es) (h:aP S μ H elems.flatten ((vs.drop base).take (elems.length*es))) {k:Nat}{r:List R}(c:elems[k]?=some r):
  aP S μ H r ((vs.drop (base+k*es)).take es):=by
 have j:k<elems.length:=(Af.1 c).1
 have hmul:(k+1)*es≤elems.length*es:=Ar _ j;rw[A2] at hmul;have h1:=(h.drop (k*es)).take es;rw[pA h0 k r c] at h1;rw[drop_take,take_take,Cr,min_eq_left (by omega)] at h1;exact h1
theorem aD0 {t te es:Nat}{i:TI}{x:Operand}{id k fo sz:Nat}{elems:List (List R)}{r:List R}{y:V}(M:Tok P T) (ho:o.op=.load t x) (O:o.dst=some d) (B:d<n) (hi:T[t]?=some (some i)) (hx:opv st x=some (.one (.rp id k fo sz)))
  (hh:st.h id=some (.rarr te es elems)) (hsz:sz=elems.length) (E:elems[k]?=some r) (hl:fo+i.size≤es) (hy:iS i ((r.drop fo).take i.size)=some y):Step P n o st ⟨opr x,[id]⟩ ⟨some (d,some y),[]⟩:=by
 refine Step.value O B fun st' ha G S μ a w hs=>?_
 have j:=aL hs hx ha.1;have q:st'.h id=some (.rarr te es elems):=by rw[ha.2 id (by simp),hh]
 simp only[aO,aT] at j;obtain⟨_,j | ⟨te',es',elems',h1,h2,U⟩⟩:=j
 ·rw[q] at j;cases j
 rw[q] at h1;cases h1;obtain⟨h4,b,base,cap,Y,h6⟩:=U hsz;obtain⟨g0,vs,g1,g2,g3,g4,g5,g6⟩:=(hs.inv.obj id _ q).rarr Y;have A:=aDq g0 g5 E;have c:=(A.drop fo).take i.size;rw[drop_take,take_take,Cr,min_eq_left (by omega)] at c;have hlt:k<elems.length:=(Af.1 E).1
 have hmul:(k+1)*es≤cap*es:=Ar _ (by omega);rw[A2] at hmul;have I:((vs.drop (base+k*es+fo)).take i.size).length=i.size:=aSq (by omega);have J:=iN g1 (base+k*es+fo) i.size;refine⟨_,?_,jP c hy⟩;have u:=run_load (M.get hi) w b (base+k*es+fo) _ J I;simp only[execOp,ho,h6,π,Aa] at u ⊢;rw[u];rfl
theorem rV {x:Operand}{te es id k fo sz:Nat}{elems:List (List C)}{fz:Nat}(ho:o.op=.nilCheck x) (r:o.dst=some d) (q:d<n) (hx:opv st x=some (.one (.ep id k fo sz))) (hh:st.h id=some (.arr te es elems fz)) (hsz:sz=elems.length):
  Step P n o st ⟨opr x,[id]⟩ ⟨some (d,some (.one (.ep id k fo sz))),[]⟩:=by
 refine Step.value r q fun st' ha G S μ a w hs=>⟨a.eval x,?_,aL hs hx ha.1⟩
 have c:=aL hs hx ha.1;have j:st'.h id=some (.arr te es elems fz):=by rw[ha.2 id (by simp),hh]
 simp only[aO,aT] at c;obtain⟨_,c | ⟨A,B,elems',E,h1,h2,u⟩⟩:=c
 ·rw[j] at c;cases c
 rw[j] at h1;cases h1;obtain⟨I,b,base,cap,J,y⟩:=u hsz;simp[execOp,ho,y]
theorem rU {x:Operand}{te es id k fo sz:Nat}{elems:List (List R)}(ho:o.op=.nilCheck x) (r:o.dst=some d) (q:d<n) (hx:opv st x=some (.one (.rp id k fo sz))) (hh:st.h id=some (.rarr te es elems)) (hsz:sz=elems.length):
  Step P n o st ⟨opr x,[id]⟩ ⟨some (d,some (.one (.rp id k fo sz))),[]⟩:=by
 refine Step.value r q fun st' ha G S μ a w hs=>⟨a.eval x,?_,aL hs hx ha.1⟩
 have c:=aL hs hx ha.1;have j:st'.h id=some (.rarr te es elems):=by rw[ha.2 id (by simp),hh]
 simp only[aO,aT] at c;obtain⟨_,c | ⟨A,B,elems',h1,h2,u⟩⟩:=c
 ·rw[j] at c;cases c
 rw[j] at h1;cases h1;obtain⟨E,b,base,cap,I,y⟩:=u hsz;simp[execOp,ho,y]
end
section
variable {P:Program}{n:Nat}{o:Oper}{st:St}{d:Nat}{T:TT}
theorem rJ {t e:TypeId}{i q:TI}{x y:Operand}{id id2 sz te2:Nat}{elems rows:List (List R)}{st':St}{G:Ctx}{S:Sto}{μ:Mu}{a:Act}{w:World}(hT:Tok P T) (ho:o.op=.call { callee:=.builtin .append,args:= #[x,y],argTypes:= #[t,t] })
  (hi:T[t]?=some (some i)) (hk:i.k=.sl e) (hei:T[e]?=some (some q)) (hes:Nat.ble 1 q.size=true) (heb:Nat.ble 1 q.bytes=true)
  (hsz:sz=elems.length) (hpos:0<rows.length) (hroom:(elems.length+rows.length)*q.bytes≤140737488355328) (hh':st'.h id=some (.rarr e q.size elems)) (hs:Sim G n S μ st' a w)
  (hvx:aO S μ st'.h (.one (.ra id 0 sz sz)) (a.eval x)) (hvy:aO S μ st'.h (.one (.ra id2 0 rows.length rows.length)) (a.eval y)) (hh2:st'.h id2=some (.rarr te2 q.size rows)):
  ∃w' v b bo c,(execOp a.eval o).run P w=.ok (.value v) w'∧(w.heap.size≤b∨∃c',μ id=some (b,c'))∧WChg w w' b bo∧
   j6 S (upd μ id (some (b,c))) (upd st'.h id (some (.rarr e q.size (elems++rows)))) w' id (.rarr e q.size (elems++rows))∧(∀o v,S.cell b o=some v→∃vs t fr,bo=.cells vs t fr∧vs[o]?=some v)∧(∀m,S.mapo b=some m→w.heap.size≤b)∧
   Evolve S μ st'.h S (upd μ id (some (b,c))) (upd st'.h id (some (.rarr e q.size (elems++rows))))∧
   aO S (upd μ id (some (b,c))) (upd st'.h id (some (.rarr e q.size (elems++rows)))) (.one (.ra id 0 (elems.length+rows.length) (elems.length+rows.length))) v:=by
 subst hsz;have hes':=Al hes;have heb':=Al heb
 have hE:∀b c,Evolve S μ st'.h S (upd μ id (some (b,c))) (upd st'.h id (some (.rarr e q.size (elems++rows)))):=fun b c=>⟨S.le_refl,fun j x B=>by
  by_cases hne:j=id
  ·subst hne;rw[hh'] at B;cases B;exact⟨_,aJ _ _ _,by simp only[AObj.succ,true_and];exact⟨by simp,fun e=>by rw[ζ] at e;omega⟩⟩
  ·exact⟨x,by rw[bC _ _ _ hne];exact B,x.succ_refl (bC _ _ _ hne)⟩⟩
 obtain⟨ad,cc,news,hvy1,E,hrl,M⟩:∃ad cc news,a.eval y=.slice (some ad) rows.length cc∧aP S μ st'.h rows.flatten news∧(∀r∈rows,r.length=q.size)∧∀j u,news[j]?=some u→w.cell? (ad.add j)=some u:=by
  simp only[aO,aT] at hvy;obtain⟨_,hv | ⟨te',es',elems',h1,h2,h3⟩⟩:=hvy
  ·rw[hh2] at hv;cases hv
  rw[hh2] at h1;cases h1;obtain⟨h4,⟨h5,O,h7⟩ | ⟨b,base,cap,h5,O⟩⟩:=h3 rfl
  ·rw[O] at hpos;simp at hpos
  obtain⟨g0,vs,g1,g2,g3,g4,g5,g6⟩:=(hs.inv.obj id2 _ hh2).rarr h5;refine⟨_,_,_,O,g5,g0,fun j u B=>?_⟩;rw[Addr.add_mid,cell_of_row w b _ ⟨vs⟩ te2 (0,0) g1];rw[Aj] at B;split at B
  ·rw[Ak] at B;simpa using B
  ·cases B
 have I:news.length=rows.length*q.size:=by rw[E.length,fZ hrl]
 obtain⟨inf,dd,z,g1,g2,g3,g4,g5,g6,g7,g8⟩:=(hT.get hei).ex;have hu:=(hT.get hi).slice hk;have hzs:z.cells.size=q.size:=by
  have h1:=(iE (S:=S) g7).length;rw[(hT.get hei).len] at h1;simpa using h1
 simp only[aO,aT] at hvx;obtain⟨_,hv | ⟨te',es',elems',h1,h2,h3⟩⟩:=hvx
 ·rw[hh'] at hv;cases hv
 rw[hh'] at h1;cases h1;obtain⟨h4,hcase⟩:=h3 rfl;have hbig:elems.length+rows.length≤140737488355328:=by
  have:(elems.length+rows.length)*1≤(elems.length+rows.length)*q.bytes:=Nat.mul_le_mul_left _ heb';omega
 have hone:∀u∈news,u.oneCell'=true:=E.one;have hcap:∀old,elems.length+rows.length≤grownCap w (elems.length+rows.length) old e∧grownCap w (elems.length+rows.length) old e≤maxLen:=fun old=>
  ⟨grownCap_ge _ _ _ _,grownCap_le_maxLen _ _ _ _ (by unfold maxLen;omega)⟩
 have hlen':(elems++rows).length=elems.length+rows.length:=by simp
 have J:∀(U:List Value) (old:Nat),aP S μ st'.h elems.flatten U→∀g0:(∀r∈elems,r.length=q.size),
   j6 S (upd μ id (some (w.heap.size,0,grownCap w (elems.length+rows.length) old e))) (upd st'.h id (some (.rarr e q.size (elems++rows))))
    (w.drew.alloc (.cells (U.toArray++news.toArray++Builtin.zeroCells z.cells (grownCap w (elems.length+rows.length) old e-(elems.length+rows.length))) e)) id (.rarr e q.size (elems++rows)):=by
  intro U old hol g0;obtain⟨hc1,hc2⟩:=hcap old;have Y:=hol.length;rw[fZ g0] at Y;refine⟨?_,.inr ⟨w.heap.size,0,grownCap w (elems.length+rows.length) old e,(U.toArray++news.toArray++Builtin.zeroCells z.cells (grownCap w (elems.length+rows.length) old e-(elems.length+rows.length))).toList,aJ _ _ _,B1 w.drew _,?_,by simpa using hc1,⟨hc2,pQ hs.inv⟩,?_,fun o _=>fB hs.inv o⟩⟩
  ·intro r A;rcases Bi.1 A with A | A
   ·exact g0 r A
   ·exact hrl r A
  ·simp only[Array.toList_append,ζ,Au,size_zeroCells,hzs];simp only[Y,I,Bb,←A2];exact Ar _ (by omega)
  ·simp only[Array.toList_append,B5,ζ,Cm];rw[Cj (by simp[Y,I,A2]),A5 (by simp[Y,I,A2])];exact(aP.evolve (hE _ _) _ _ hol).append (aP.evolve (hE _ _) _ _ E)
 rcases hcase with⟨h5,O,h7⟩ | ⟨b,base,cap,h5,O⟩
 ·--the first elements
  subst O;simp only[length_nil,Bb] at hroom hbig J hcap;have A:=run_append_nil (P:=P) w t o.type e inf z hu g1 g6 ad rows.length cc news (by rw[I,g3]) M (by omega) (by omega) (by rw[g4];omega);refine⟨_,_,w.heap.size,_,(0,grownCap w rows.length 0 e),dV ho h7 hvy1 A,.inl (le_refl _),WChg.alloc_drew w _,?_,fun o v e=>(by rw[fB hs.inv o] at e;cases e),fun m e=>le_refl _,hE _ _,?_⟩
  ·have:=J [] 0 (by simp[aP]) (by simp);simpa using this
  ·simp only[aO,aT];exact⟨⟨_,_,_,rfl⟩,.inr ⟨e,q.size,_,aJ _ _ _,by simp,fun _=>⟨by simp,.inr ⟨w.heap.size,0,_,aJ _ _ _,by simp⟩⟩⟩⟩
 ·obtain⟨q0,vs,q1,q2,q3,q4,q5,q6⟩:=(hs.inv.obj id _ hh').rarr h5;have hce:elems.length*q.size≤cap*q.size:=Ar _ q3;simp only[sub_zero,zero_mul,Cf] at O;by_cases aa:elems.length+rows.length≤cap
  ·--there is room
   have hce2:(elems.length+rows.length)*q.size≤cap*q.size:=Ar _ aa;rw[A2] at hce2;have A:=j0 (P:=P) w t o.type e inf hu g1 b base elems.length cap ⟨vs⟩ q1 ad rows.length cc news (by rw[I,g3]) M hone aa (by rw[g3,I];simp only[size_toArray];omega);rw[g3] at A;have hW:=WChg.setRow w b ⟨vs⟩ ⟨vs.take (base+elems.length*q.size)++news++vs.drop (base+elems.length*q.size+news.length)⟩ e (0,0) q1
   refine⟨_,_,b,_,(base,cap),dV ho O hvy1 A,.inr ⟨_,h5⟩,hW,⟨?_,.inr ⟨b,base,cap,_,aJ _ _ _,hW.new,?_,by rw[hlen'];omega,q4,?_,q6⟩⟩,fun o v e=>(by
     by_cases hb:base≤o
     ·rw[q6 o hb] at e;cases e
     ·obtain⟨vs0,t0,fr0,p1,p2⟩:=hs.inv.holds.1 b o v e;rw[q1] at p1;cases p1;refine⟨_,_,_,rfl,?_⟩;simp only[Cd] at p2 ⊢;have hlt:o<vs.length:=(Af.1 p2).1
      rw[As,A1 (by simp;omega),Aj,θ (by omega)]
      exact p2),fun m e=>eL q4.2 m e,hE _ _,?_⟩
   ·intro r A;rcases Bi.1 A with A | A
    ·exact q0 r A
    ·exact hrl r A
   ·simp only[ζ,Am,Bg];omega
   ·rw[hlen',Cm];have e1:((vs.take (base+elems.length*q.size)++news++vs.drop (base+elems.length*q.size+news.length)).drop base).take ((elems.length+rows.length)*q.size)=(vs.drop base).take (elems.length*q.size)++news:=by
     rw[As,List.drop_append_of_le_length (by simp;omega),←As,Cj (by simp[A2];omega)];rw[A5 (by simp[A2];omega),drop_take];rw[show base+elems.length*q.size-base=elems.length*q.size by omega]
    rw[e1];exact(aP.evolve (hE _ _) _ _ q5).append (aP.evolve (hE _ _) _ _ E)
   ·simp only[aO,aT];exact⟨⟨_,_,_,rfl⟩,.inr ⟨e,q.size,_,aJ _ _ _,by simp,fun _=>⟨by simp,.inr ⟨b,base,cap,aJ _ _ _,by simp⟩⟩⟩⟩
  ·--into a new block
   have A:=run_append_grow (P:=P) w t o.type e inf z hu g1 g6 ⟨b,base,none⟩ elems.length cap ((vs.drop base).take (elems.length*q.size)) (by rw[g3];simp;omega) (by
     intro j v B;rw[Addr.add_mid,cell_of_row w b _ ⟨vs⟩ e (0,0) q1];rw[Aj] at B;split at B
     ·rw[Ak] at B;simpa using B
     ·cases B) ad rows.length cc news (by rw[I,g3]) M (by omega) (by omega) (by rw[g4];exact growslice_fits (by omega) hroom)
   refine⟨_,_,w.heap.size,_,(0,grownCap w (elems.length+rows.length) cap e),dV ho O hvy1 A,.inl (le_refl _),WChg.alloc_drew w _,?_,fun o v e=>(by rw[fB hs.inv o] at e;cases e),fun m e=>le_refl _,hE _ _,?_⟩
   ·have:=J _ cap q5 q0;simpa using this
   ·simp only[aO,aT];exact⟨⟨_,_,_,rfl⟩,.inr ⟨e,q.size,_,aJ _ _ _,by simp,fun _=>⟨by simp,.inr ⟨w.heap.size,0,_,aJ _ _ _,by simp⟩⟩⟩⟩
theorem zM {y:V}{id te es:Nat}{elems:List (List R)}(I:o.dst=some d) (r:d<n) {st':St}{G:Ctx}{S:Sto}{μ:Mu}{a:Act}{w:World}{K:Act→World→Prop}{Q:Exit→Act→World→Prop}
  (hs:Sim G n S μ st' a w) (j:∀b c',μ id=some (b,c')→∃ao,st'.h id=some ao) (J:∀S' μ' u w',Sim G n S' μ' (Eff.apply ⟨some (d,some y),[(id,some (.rarr te es elems))]⟩ st') u w'→K u w')
  (h:∃w' v b q c,(execOp a.eval o).run P w=.ok (.value v) w'∧(w.heap.size≤b∨∃c',μ id=some (b,c'))∧WChg w w' b q∧j6 S (upd μ id (some (b,c))) (upd st'.h id (some (.rarr te es elems))) w' id (.rarr te es elems)∧
   (∀o v,S.cell b o=some v→∃vs t M,q=.cells vs t M∧vs[o]?=some v)∧(∀m,S.mapo b=some m→w.heap.size≤b)∧Evolve S μ st'.h S (upd μ id (some (b,c))) (upd st'.h id (some (.rarr te es elems)))∧aO S (upd μ id (some (b,c))) (upd st'.h id (some (.rarr te es elems))) y v):
  ∀ro,o.wpIn (Wd ro) 0 P a w K Q:=by
 obtain⟨w',v,b,q,c,O,hb,hw,hO,hS,A,B,U⟩:=h;refine fun ro=>eB O ?_
 rw[I];have hi:=hs.inv.chg (id:=id) (cap:=c) (ao:=.rarr te es elems) hw (hb.imp (fun h=>h) fun⟨c',h⟩=>by obtain⟨ao,E⟩:=j _ _ h;exact⟨_,c',E,h⟩) B hO hS A;have:=hs.put hi B r (x:=some y) (v:=v) (fun z Y=>by cases Y;exact U);refine J S (upd μ id (some (b,c))) _ _ ?_;unfold Eff.apply;rw[bY];exact this
theorem aEb {t e:TypeId}{i c:TI}{x y:Operand}{id j sz r:Nat}{elems rows:List (List R)}(hT:Tok P T) (ho:o.op=.call { callee:=.builtin .append,args:= #[x,y],argTypes:= #[t,t] }) (hd:o.dst=some d) (E:d<n)
  (hi:T[t]?=some (some i)) (hk:i.k=.sl e) (I:T[e]?=some (some c)) (J:Nat.ble 1 c.size=true) (M:Nat.ble 1 c.bytes=true)
  (hx:opv st x=some (.one (.ra id 0 sz sz))) (hh:st.h id=some (.rarr e c.size elems)) (hsz:sz=elems.length) (hy:opv st y=some (.one (.ra j 0 rows.length rows.length))) (O:st.h j=some (.rarr r c.size rows)) (A:0<rows.length)
  (q:(elems.length+rows.length)*c.bytes≤140737488355328):
  Step P n o st ⟨opr x++opr y,[id,j]⟩ ⟨some (d,some (.one (.ra id 0 (elems.length+rows.length) (elems.length+rows.length)))),[(id,some (.rarr e c.size (elems++rows)))]⟩:=by
 intro st' ha G S μ a w K Q hs U;have Y:=aL hs hx fun t ht=>ha.1 t (by simp[ht])
 have aa:=aL hs hy fun t ht=>ha.1 t (by simp[ht])
 have u:st'.h id=some (.rarr e c.size elems):=by rw[ha.2 id (by simp),hh]
 have B:st'.h j=some (.rarr r c.size rows):=by rw[ha.2 j (by simp),O]
 exact zM hd E hs (fun _ _ _=>⟨_,u⟩) U (rJ hT ho hi hk I J M hsz A q u hs Y aa B)
theorem Inv.emptyR {G:Ctx}{S:Sto}{μ:Mu}{H:bZ}{w:World}{id:Nat}(te es:Nat) (h:Inv G S μ H w) (hid:H id=none):Inv G S (upd μ id none) (upd H id (some (.rarr te es []))) w∧Evolve S μ H S (upd μ id none) (upd H id (some (.rarr te es []))):=by
 have y:Evolve S μ H S (upd μ id none) (upd H id (some (.rarr te es []))):=eM hid _ _;refine⟨⟨h.holds,fun j x q=>?_,fun i j x A b c c' hi q hm r=>?_,fun i x b c hi hm=>?_,h.frame,h.sle,h.sto,h.evo.trans y,h.fre⟩,y⟩
 ·by_cases u:j=id
  ·subst u;rw[aJ] at q;cases q;exact⟨by simp,.inl ⟨aJ _ _ _,rfl⟩⟩
  ·rw[bC _ _ _ u] at q;exact(h.obj j x q).evolve y (bC _ _ _ u) fun _ _ _=>⟨rfl,fun _=>rfl,rfl⟩
 ·have h1:i≠id:=fun e=>by subst e;rw[aJ] at hm;cases hm
  have h2:j≠id:=fun e=>by subst e;rw[aJ] at r;cases r
  rw[bC _ _ _ h1] at hi hm;rw[bC _ _ _ h2] at q r;exact h.inj i j x A b c c' hi q hm r
 ·have h1:i≠id:=fun e=>by subst e;rw[aJ] at hm;cases hm
  rw[bC _ _ _ h1] at hi hm;exact h.own i x b c hi hm
theorem aBr {t e:TypeId}{i j:TI}{x y:Operand}{q E:Nat}{rows:List (List R)}(id:Nat) (hT:Tok P T) (ho:o.op=.call { callee:=.builtin .append,args:= #[x,y],argTypes:= #[t,t] }) (hd:o.dst=some d) (U:d<n)
  (hi:T[t]?=some (some i)) (hk:i.k=.sl e) (Y:T[e]?=some (some j)) (aa:Nat.ble 1 j.size=true) (ab:Nat.ble 1 j.bytes=true)
  (hx:opv st x=some (.one (.c .nl))) (hid:st.h id=none) (hy:opv st y=some (.one (.ra q 0 rows.length rows.length))) (ac:st.h q=some (.rarr E j.size rows)) (J:0<rows.length)
  (B:rows.length*j.bytes≤140737488355328):
  Step P n o st ⟨opr x++opr y,[id,q]⟩ ⟨some (d,some (.one (.ra id 0 rows.length rows.length))),[(id,some (.rarr e j.size rows))]⟩:=by
 intro st' ha G S μ a w K Q hs ad;have u:st'.h id=none:=by rw[ha.2 id (by simp),hid]
 obtain⟨ae,M⟩:=hs.inv.emptyR e j.size u;have I:Sim G n S (upd μ id none) ⟨st'.e,upd st'.h id (some (.rarr e j.size [])),st'.d⟩ a w:=⟨ae,hs.size,hs.defers.evolve M,fun t v e=>aO.evolve M v _ (hs.env t v e)⟩
 have A:=aL hs hx fun t ht=>ha.1 t (by simp[ht])
 have af:=aL hs hy fun t ht=>ha.1 t (by simp[ht])
 have r:st'.h q=some (.rarr E j.size rows):=by rw[ha.2 q (by simp),ac]
 simp only[aO,aT,Rep] at A;have O:aO S (upd μ id none) (upd st'.h id (some (.rarr e j.size []))) (.one (.ra id 0 0 0)) (a.eval x):=by
  simp only[aO,aT];exact⟨⟨_,_,_,A⟩,.inr ⟨e,j.size,[],aJ _ _ _,le_refl _,fun _=>⟨le_refl _,.inl ⟨aJ _ _ _,rfl,A⟩⟩⟩⟩
 have ag:q≠id:=fun e=>by subst e;rw[u] at r;cases r
 have:=rJ (elems:=[]) (id:=id) hT ho hi hk Y aa ab rfl J (by simpa using B) (aJ _ _ _) I O (aO.evolve M _ _ af) (by
  show upd st'.h id (some (.rarr e j.size [])) q=_;rw[bC _ _ _ ag]
  exact r)
 refine zM hd U I (fun _ _ _=>⟨_,aJ _ _ _⟩) (fun S' μ' a' w' h=>ad S' μ' a' w' ?_) this;have e1:Eff.apply ⟨some (d,some (.one (.ra id 0 (([]:List (List R)).length+rows.length) (([]:List (List R)).length+rows.length)))),[(id,some (.rarr e j.size ([]++rows)))]⟩ ⟨st'.e,upd st'.h id (some (.rarr e j.size [])),st'.d⟩
   =Eff.apply ⟨some (d,some (.one (.ra id 0 rows.length rows.length))),[(id,some (.rarr e j.size rows))]⟩ st':=by
  unfold Eff.apply;rw[bY,bY,n9];simp
 rw[e1] at h;exact h
end
section
variable {P:Program}{n:Nat}{o:Oper}{st:St}{d:Nat}{T:TT}
theorem aLx {src dst:TypeId}{i j:TI}{x:Operand}{k k':IntKind}{m:Int}(c:Tok P T) (ho:o.op=.convert src dst x) (y:o.dst=some d) (q:d<n) (hi:T[src]?=some (some i)) (r:i.k=.int k) (A:T[dst]?=some (some j)) (u:j.k=.int k')
  (hx:opv st x=some (I k m)):Step P n o st ⟨opr x,[]⟩ ⟨some (d,some (I k' (k'.wrap m))),[]⟩:=by
 refine Step.value y q fun st' ha G S μ a w hs=>?_
 have B:=dB (aL hs hx ha.1);refine⟨.int k' (k'.wrap m),?_,by simp[aO,aT,Rep]⟩;have h1:=(c.get hi).int r;have h2:=(c.get A).int u;simp only[execOp,ho,B,π,convert,Ah h1 w,Ah h2 w,κ,Conv.intToInt,Aa]
theorem aLy {src dst e:TypeId}{i j Y:TI}{x:Operand}{v:V}{ids:List Nat}{rows:List (List C)}{q:List Int}(I:Tok P T) (ho:o.op=.convert src dst x) (hd:o.dst=some d) (aa:d<n) (hi:T[src]?=some (some i)) (ab:i.k=.sl e) (ac:T[e]?=some (some Y)) (ae:Y.k=.int .u8)
  (J:T[dst]?=some (some j)) (af:j.k=.str) (hx:opv st x=some v) (M:Src st 1 ids v rows) (O:rows=q.map fun m=>[C.int .u8 m]):Step P n o st ⟨opr x,ids⟩ ⟨some (d,some (Go.AM.T (q.map fun m=>UInt8.ofNat m.toNat))),[]⟩:=by
 refine Step.value hd aa fun st' ha G S μ a w hs=>?_
 have hv:=aL hs hx ha.1;obtain⟨r,c,news,h1,h2,h3,h4,h5⟩:=M.rel hs ha.2 hv;have A:=(I.get hi).slice ab;have B:=(I.get ac).int ae;have E:=(I.get J).str af;have y:∀(q:List Int) (news:List Value),bW S (q.map fun m=>[C.int .u8 m]).flatten news→news=q.map (Value.int .u8):=by
  intro q
  induction q with
  | nil=>intro news h;simpa [bW] using h
  | cons m q ih=>
   intro news h;simp only[Av,A9,List.singleton_append,bW,Rep] at h;obtain⟨u,us,rfl,rfl,h⟩:=h;rw[ih us h];rfl
 rw[O] at h2;have hn:=y q news h2;have U:(convert src dst (a.eval x)).run P w=.ok (.string ⟨⟨q.map fun m=>UInt8.ofNat m.toNat⟩⟩) w:=by
  rw[h1];cases r with
  | none=>
   have h6:=h4 rfl;rw[O] at h6;have:q=[]:=by simpa using h6
   subst this;exact run_convert_bytes_nil w src e A B _ _ dst E
  | some r=>
   have hlen:rows.length=q.length:=by rw[O];simp
   have hl:(loadCells r q.length).run P w=.ok (q.map (Value.int .u8)).toArray w:=by
    have:=run_loadCells_list (P:=P) w r (q.map (Value.int .u8)) (fun j v J=>h5 r rfl j v (by rw[hn];exact J));simpa using this
   rw[hlen,run_convert_bytes_string w src dst e _ _ _ A B E,run_bytesToString w _ _ _ q hl,foldl_push_bytes];simp[ByteArray.empty,ByteArray.emptyWithCapacity];rfl
 refine⟨.string ⟨⟨q.map fun m=>UInt8.ofNat m.toNat⟩⟩,?_,by simp[aO,aT,Rep]⟩;simp only[execOp,ho,π,U,κ,Aa]
theorem bA.length {S:Sto}{agg:Bool}:∀{l:List (List C)}{es:List MapEntry},bA S agg l es→es.length=l.length
 | [],es,h=>by simp only[bA] at h;subst h;rfl
 | r::rs,es,h=>by
  simp only[bA] at h;obtain⟨e,c,rfl,_,h⟩:=h;simp[bA.length h]
theorem aD5 {t B E:TypeId}{i:TI}{x:Operand}{id:Nat}{agg:Bool}{ents:List (List C)}(J:Tok P T) (ho:o.op=.call { callee:=.builtin .len,args:= #[x],argTypes:= #[t] }) (M:o.dst=some d) (q:d<n) (hi:T[t]?=some (some i)) (O:i.k=.mp B E)
  (hx:opv st x=some (.one (.mr id))) (hh:st.h id=some (.map agg ents)) (r:jO ents):Step P n o st ⟨opr x,[id]⟩ ⟨some (d,some (I .i64 (ents.length:Int))),[]⟩:=by
 refine Step.value M q fun st' ha G S μ a w hs=>?_
 have u:=aL hs hx ha.1;have j:st'.h id=some (.map agg ents):=by rw[ha.2 id (by simp),hh]
 simp only[aO,aT] at u;obtain⟨U,A,b,c,h1,h2,Y⟩:=u;rw[j] at h1;cases h1;obtain⟨b',es,clk,y,q2,q3,q4⟩:=hs.inv.obj id _ j;rw[h2] at y;cases y;have hl:=(q3.rep r).length;refine⟨goInt ents.length,iK ho Y ?_,by simp[aO,aT,Rep,goInt]⟩;have hg:(getObj b).run P w=.ok (.map es clk) w:=MapKept.run_getObj_map q2;simp at hl;simp[Builtin.len_,Ah ((J.get hi).map O) w,hg,hl]
end
section
variable {P:Program}{n:Nat}{T:TT}{o:Oper}{st:St}{d:Nat}
theorem pJ {t e:TypeId}{i A:TI}{x y:Operand}{u es k:Nat}{kk:IntKind}{m:Int}{l r:List R}(hT:Tok P T) (ho:o.op=.indexAddr t x y) (hd:o.dst=some d) (B:d<n) (hi:T[t]?=some (some i)) (hk:i.k=.sl e) (E:T[e]?=some (some A)) (J:A.size=es)
  (hx:opv st x=some (.one (.ras u es l))) (hy:opv st y=some (I kk m)) (hm:m=(k:Int)) (M:k<u) (hr:(l.drop (k*es)).take es=r):Step P n o st ⟨opr x++opr y,[]⟩ ⟨some (d,some (.one (.pas r))),[]⟩:=by
 refine Step.value hd B fun st' ha G S μ a w hs=>?_
 have O:=aL hs hx (cI ha).1;have U:=dB (aL hs hy (cI ha).2);simp only[aO,aT] at O;obtain⟨c,cap,h1,h2,h3,h4,h5,h6,b,off,h7,vs,h8,h9⟩:=O;cases c with
 | none=>have:=(h5 rfl).1;omega
 | some c=>
  obtain⟨h10,h10'⟩:=h7 c rfl;have h11:=h6 c rfl;have Y:c=⟨b,off,none⟩:=by cases c;simp_all
  subst Y;subst hm;refine⟨.pointer (some ⟨b,off+k*es,none⟩),?_,?_⟩
  ·simp only[execOp,ho,h1,U,π,iL hT hi hk E w b off u cap k kk M,κ,Aa,J]
  ·simp only[aO,aT];subst hr;refine⟨b,off+k*es,rfl,(vs.drop (k*es)).take es,(h8.drop (k*es)).take es,fun j v q=>?_⟩;rw[Aj] at q;split at q
   ·rw[Ak] at q;have:=h9 _ v q;rwa [←add_assoc] at this
   ·cases q
theorem aBk {t:TypeId}{i:TI}{x:Operand}{l:List R}{y:V}(A:Tok P T) (ho:o.op=.load t x) (B:o.dst=some d) (q:d<n) (hi:T[t]?=some (some i)) (hx:opv st x=some (.one (.pas l)))
  (hl:i.size≤l.length) (hy:iS i (l.take i.size)=some y):Step P n o st ⟨opr x,[]⟩ ⟨some (d,some y),[]⟩:=by
 refine Step.value B q fun st' ha G S μ a w hs=>?_
 have r:=aL hs hx ha.1;simp only[aO,aT] at r;obtain⟨b,off,h1,vs,h2,E⟩:=r;have J:=h2.length;refine⟨_,?_,jP (h2.take i.size) hy⟩;have I:=lA hs.inv.holds E;have u:w.rangeAt b off (vs.take i.size):=fun j v c=>by
  rw[Aj] at c;split at c
  ·exact I j v c
  ·cases c
 simp only[execOp,ho,h1,π,run_load (A.get hi) w b off _ u (by simp;omega),κ,Aa]
theorem wP {t q:TypeId}{i r:TI}{fs:List (Nat×TypeId)}{f c:Nat}{x:Operand}{l:List R}(E:Tok P T) (ho:o.op=.fieldAddr t x f) (I:o.dst=some d) (u:d<n) (hi:T[t]?=some (some i)) (J:i.k=.st fs) (M:fs[f]?=some (c,q)) (y:T[q]?=some (some r)) (O:r.size≠0)
  (hx:opv st x=some (.one (.pas l))):Step P n o st ⟨opr x,[]⟩ ⟨some (d,some (.one (.pas (l.drop c)))),[]⟩:=by
 refine Step.value I u fun st' ha G S μ a w hs=>?_
 have A:=aL hs hx ha.1;simp only[aO,aT] at A;obtain⟨b,off,h1,vs,h2,U⟩:=A;refine⟨.pointer (some ⟨b,off+c,none⟩),?_,?_⟩
 ·simp only[execOp,ho,h1,π,fT E hi J M y O,κ,Aa]
 ·simp only[aO,aT];refine⟨b,off+c,rfl,vs.drop c,h2.drop c,fun j v B=>?_⟩;rw[Ak] at B;have:=U (c+j) v B;rwa [←add_assoc] at this
theorem aD4 {t e:TypeId}{i:TI}{x:Operand}{c es:Nat}{l:List R}(r:Tok P T) (ho:o.op=.call { callee:=.builtin .len,args:= #[x],argTypes:= #[t] }) (u:o.dst=some d) (j:d<n) (hi:T[t]?=some (some i)) (y:i.k=.sl e)
  (hx:opv st x=some (.one (.ras c es l))):Step P n o st ⟨opr x,[]⟩ ⟨some (d,some (I .i64 (c:Int))),[]⟩:=by
 refine Step.value u j fun st' ha G S μ a w hs=>?_
 have q:=aL hs hx ha.1;simp only[aO,aT] at q;obtain⟨A,cap,h1,_⟩:=q;refine⟨goInt c,iK ho h1 ?_,by simp[aO,aT,Rep,goInt]⟩;simp[Builtin.len_,Ah ((r.get hi).slice y) w]
theorem aBh {t te es:Nat}{i:TI}{x y:Operand}{id k fo sz:Nat}{elems:List (List R)}{v:V}{cs r:List R}(hT:Tok P T) (ho:o.op=.store t x y) (hd:o.dst=none) (hi:T[t]?=some (some i)) (hx:opv st x=some (.one (.rp id k fo sz)))
  (hy:opv st y=some v) (hc:fF v=some cs) (hh:st.h id=some (.rarr te es elems)) (hsz:sz=elems.length) (J:elems[k]?=some r) (hcs:cs.length=i.size) (hl:fo+i.size≤es):
  Step P n o st ⟨opr x++opr y,[id]⟩ ⟨none,[(id,some (.rarr te es (elems.set k (bQ r fo cs))))]⟩:=by
 refine Step.turn hd hh (by simp) (by simp[AObj.succ]) fun st' ha u G S μ a w hs=>?_
 have U:=aL hs hx fun t ht=>ha.1 t (by simp[ht])
 have hvy:=aL hs hy fun t ht=>ha.1 t (by simp[ht])
 simp only[aO,aT] at U;obtain⟨_,hv | ⟨te',es',elems',h1,h2,h3⟩⟩:=U
 ·rw[u] at hv;cases hv
 rw[u] at h1;cases h1;obtain⟨h4,b,base,cap,Y,h6⟩:=h3 hsz;obtain⟨g0,vs,g1,g2,g3,g4,g5,g6⟩:=(hs.inv.obj id _ u).rarr Y;have hrel:=cV hvy hc;have B:=hrel;have aa:=hrel.one;have hnl:=B.length;have hk:k<elems.length:=(Af.1 J).1
 have hres:r.length=es:=g0 r (Ag J);have hke:(k+1)*es≤elems.length*es:=Ar _ hk;have hce:elems.length*es≤cap*es:=Ar _ g3;rw[A2] at hke;generalize M:(a.eval y).cells.toList=news at *;have ab:=run_store (hT.get hi) w b (base+k*es+fo) vs news te (a.eval y) g1 M (by omega) (by omega) aa;have hE:=gG (S:=S) (μ:=μ) (o':=.rarr te es (elems.set k (bQ r fo cs))) u Y (by simp[AObj.succ]);have E:=aDq g0 g5 J;have A:=xD g0 k r J;have hlen:(elems.set k (bQ r fo cs)).length=elems.length:=by simp
 have hW:=WChg.setRow w b ⟨vs⟩ ⟨vs.take (base+k*es+fo)++news++vs.drop (base+k*es+fo+news.length)⟩ te (0,0) g1;refine⟨_,_,b,(base,cap),?_,Y,hW,⟨?_,.inr ⟨b,base,cap,_,aJ _ _ _,hW.new,?_,by rw[hlen];exact g3,g4,?_,g6⟩⟩,fun o v e=>?_,fun m e=>eL g4.2 m e⟩
 ·simp only[execOp,ho,h6,π,ab,κ,Aa]
 ·intro q hq;rcases List.mem_or_eq_of_mem_set hq with hq | rfl
  ·exact g0 q hq
  ·unfold bQ;simp;omega
 ·simp only[ζ,Am,Bg];omega
 ·rw[hlen];have e1:(elems.set k (bQ r fo cs)).flatten=elems.flatten.take (k*es)++(r.take fo++cs++r.drop (fo+cs.length))++elems.flatten.drop (k*es+es):=by
   rw[Ce,θ hk,Cm,A9,A.1,A.2,←As];rfl
  have e2:((vs.take (base+k*es+fo)++news++vs.drop (base+k*es+fo+news.length)).drop base).take (elems.length*es)=
    ((vs.drop base).take (elems.length*es)).take (k*es)++((((vs.drop (base+k*es)).take es).take fo)++news++(((vs.drop (base+k*es)).take es).drop (fo+cs.length)))++((vs.drop base).take (elems.length*es)).drop (k*es+es):=by
   apply B6;intro j;simp only[Aj,Ak,B2,ζ,Am,Bg];have hm1:min (k*es) (min (elems.length*es) (vs.length-base))=k*es:=by omega
   have hm2:min (base+k*es+fo) vs.length=base+k*es+fo:=by omega
   have hm3:min fo es=fo:=by omega
   have hm4:min es (vs.length-(base+k*es))=es:=by omega
   simp only[hm1,hm2,hm3,hm4,hnl];by_cases O:j<k*es
   ·have c:j<elems.length*es:=by omega
    have a2:base+j<base+k*es+fo:=by omega
    have a3:base+j<base+k*es+fo+cs.length:=by omega
    have a4:j<k*es+(fo+cs.length+(es-(fo+cs.length))):=by omega
    simp[O,c,a2,a3,a4]
   ·by_cases c2:j<k*es+fo
    ·have c:j<elems.length*es:=by omega
     have a2:base+j<base+k*es+fo:=by omega
     have a3:base+j<base+k*es+fo+cs.length:=by omega
     have a4:j<k*es+(fo+cs.length+(es-(fo+cs.length))):=by omega
     have a5:j-k*es<fo+cs.length:=by omega
     have I:j-k*es<fo:=by omega
     have a7:j-k*es<es:=by omega
     simp[O,c,a2,a3,a4,a5,I,a7,show base+k*es+(j-k*es)=base+j by omega]
    ·by_cases c3:j<k*es+fo+cs.length
     ·have c:j<elems.length*es:=by omega
      have a2:¬base+j<base+k*es+fo:=by omega
      have a3:base+j<base+k*es+fo+cs.length:=by omega
      have a4:j<k*es+(fo+cs.length+(es-(fo+cs.length))):=by omega
      have a5:j-k*es<fo+cs.length:=by omega
      have I:¬j-k*es<fo:=by omega
      simp[O,c,a2,a3,a4,a5,I,show base+j-(base+k*es+fo)=j-k*es-fo by omega]
     ·by_cases c4:j<k*es+es
      ·have c:j<elems.length*es:=by omega
       have a3:¬base+j<base+k*es+fo+cs.length:=by omega
       have a4:j<k*es+(fo+cs.length+(es-(fo+cs.length))):=by omega
       have a5:¬j-k*es<fo+cs.length:=by omega
       have I:fo+cs.length+(j-k*es-(fo+cs.length))<es:=by omega
       simp[O,c,a3,a4,a5,I,show base+k*es+fo+cs.length+(base+j-(base+k*es+fo+cs.length))=base+j by omega,show base+k*es+(fo+cs.length+(j-k*es-(fo+cs.length)))=base+j by omega]
      ·have a3:¬base+j<base+k*es+fo+cs.length:=by omega
       have a4:¬j<k*es+(fo+cs.length+(es-(fo+cs.length))):=by omega
       by_cases c5:j<elems.length*es
       ·have a5:k*es+es+(j-(k*es+(fo+cs.length+(es-(fo+cs.length)))))<elems.length*es:=by omega
        simp[a3,a4,c5,a5,show base+k*es+fo+cs.length+(base+j-(base+k*es+fo+cs.length))=base+j by omega,show base+(k*es+es+(j-(k*es+(fo+cs.length+(es-(fo+cs.length))))))=base+j by omega]
       ·have a5:¬k*es+es+(j-(k*es+(fo+cs.length+(es-(fo+cs.length)))))<elems.length*es:=by omega
        simp[a4,c5,a5]
  rw[e1];show aP S _ _ _ (((vs.take (base+k*es+fo)++news++vs.drop (base+k*es+fo+news.length)).drop base).take (elems.length*es));rw[e2];refine aP.evolve hE _ _ ?_;exact((g5.take (k*es)).append (((E.take fo).append B).append (E.drop (fo+cs.length)))).append (g5.drop (k*es+es))
 ·--what stays is not touched
  by_cases hb:base≤o
  ·rw[g6 o hb] at e;cases e
  ·obtain⟨vs0,t0,fr0,q1,q2⟩:=hs.inv.holds.1 b o v e;rw[g1] at q1;cases q1;refine⟨_,_,_,rfl,?_⟩;simp only[Cd] at q2 ⊢;have hlt:o<vs.length:=(Af.1 q2).1
   rw[As,A1 (by simp;omega),Aj,θ (by omega)];exact q2
end
end Go.AM
