/-
  Texts Am17 to Ax5 in one.
-/
import Derived.Test.YtpmheldmadendaaGreatDoorM3
import Derived.ProofKit
import Derived.SizedLaws
import Derived.OpenShut
import Derived.Carry
import Derived.Laws.BytesArg
open List (append_assoc append_nil drop_drop drop_take drop_zero eq_nil_of_length_eq_zero flatten_append flatten_cons length_append length_cons length_drop length_nil length_take map_cons map_nil map_toArray mem_append mem_cons mem_of_mem_take size_toArray take_append_of_le_length take_left' take_of_length_le take_take)
open Nat (add_assoc add_mul add_zero beq_refl eq_of_beq_eq_true le_of_ble_eq_true le_refl le_trans min_eq_left mul_le_mul_right sub_zero zero_add zero_le zero_mul)
namespace Go.AM
open Go
section
variable {P:Program}{n:Nat}{o:Oper}{st:St}{d:Nat}{T:TT}
theorem lP {α:Type}(f:Nat→Option α) (k:Nat) (x y:Option α):upd (upd f k x) k y=upd f k y:=by
 funext i;simp only[upd];split<;>rfl
theorem aCs {t e:TypeId}{i q:TI}{x y:Operand}{rows:List (List C)}{U:V}{ids:List Nat}(id:Nat) (hT:Tok P T) (ho:o.op=.call { callee:=.builtin .append,args:= #[x,y],argTypes:= #[t,t] }) (hd:o.dst=some d) (Y:d<n)
  (hi:T[t]?=some (some i)) (hk:i.k=.sl e) (aa:T[e]?=some (some q)) (ab:Nat.ble 1 q.size=true) (ac:Nat.ble 1 q.bytes=true)
  (hx:opv st x=some (.one (.c .nl))) (hid:st.h id=none) (hy:opv st y=some U) (A:Src st q.size ids U rows)
  (E:rows.length*q.bytes≤140737488355328):
  Step P n o st ⟨opr x++opr y,id::ids⟩ ⟨some (d,some (.one (.hs id 0 rows.length rows.length))),[(id,some (.arr e q.size rows 0))]⟩:=by
 intro st' ha G S μ a w K Q hs ad;have J:st'.h id=none:=by rw[ha.2 id (by simp),hid]
 obtain⟨ae,M⟩:=hs.inv.empty e q.size J;have I:Sim G n S (upd μ id none) ⟨st'.e,upd st'.h id (some (.arr e q.size [] 0)),st'.d⟩ a w:=⟨ae,hs.size,hs.defers.evolve M,fun t v e=>aK.evolve M v _ (hs.env t v e)⟩
 have B:=aI hs hx fun t ht=>ha.1 t (by simp[ht])
 have af:=aI hs hy fun t ht=>ha.1 t (by simp[ht])
 simp only[aK,aQ,Rep] at B;have O:aK S (upd μ id none) (upd st'.h id (some (.arr e q.size [] 0))) (.one (.hs id 0 0 0)) (a.eval x):=by
  simp only[aK,aQ];exact⟨⟨_,_,_,B⟩,.inr ⟨e,q.size,[],0,aH _ _ _,le_refl _,fun _=>⟨le_refl _,.inl ⟨aH _ _ _,rfl,B⟩⟩⟩⟩
 have ag:∀j∈ids,j≠id:=by
  intro j r e;subst e;cases A with
  | hs h1 _ _=>simp at r;subst r;rw[hid] at h1;cases h1
  | all h1 _=>simp at r;subst r;rw[hid] at h1;cases h1
  | sl=>simp at r
  | nl=>simp at r
  | sn=>simp at r
 have:=uN (fz:=0) (elems:=[]) (id:=id) hT ho hi hk aa ab ac rfl (by simpa using E) (aH _ _ _) I O (aK.evolve M _ _ af) A fun j r=>by
  show upd st'.h id (some (.arr e q.size [] 0)) j=_;rw[bC _ _ _ (ag j r)];exact ha.2 j (by simp[r])
 refine aDo hd Y (by simp) _ (aH _ _ _) I (fun S' μ' a' w' h=>ad S' μ' a' w' ?_) this;have e1:Eff.apply ⟨some (d,some (.one (.hs id 0 (([]:List (List C)).length+rows.length) (([]:List (List C)).length+rows.length)))),[(id,some (.arr e q.size ([]++rows) (if 0=0 then 0 else 1)))]⟩ ⟨st'.e,upd st'.h id (some (.arr e q.size [] 0)),st'.d⟩
   =Eff.apply ⟨some (d,some (.one (.hs id 0 rows.length rows.length))),[(id,some (.arr e q.size rows 0))]⟩ st':=by
  unfold Eff.apply;rw[bU,bU,lP];simp
 rw[e1] at h;exact h
theorem Sub.conv {kf ids:List Nat}{t:Nat}{v v':V}(h:st.e t=some v) (hc:Conv st.h ids v v'):Sub kf ⟨upd st.e t (some v'),st.h,st.d⟩ st:=by
 intro G n S μ a w _ hs;refine⟨S,μ,⟨hs.inv,hs.size,hs.defers,fun s u e=>?_⟩⟩;by_cases c:s=t
 ·subst c;have:some v'=some u:=by rw[←e];exact(aH _ _ _).symm
  cases this;exact hc.rel (fun _ _=>rfl) hs.inv.obj (hs.env s _ h)
 ·exact hs.env s u (by rw[←e];exact(bC _ _ _ c).symm)
theorem aGo {t e:TypeId}{i q:TI}{len:Nat}{parts:Array (Nat×Operand)}{ids:List Nat}{rows:List (List C)}(id:Nat) (hT:Tok P T) (ho:o.op=.buildSlice t len parts) (hd:o.dst=some d) (U:d<n) (hi:T[t]?=some (some i)) (hk:i.k=.sl e) (Y:T[e]?=some (some q)) (r:RowsV st q.size 0 ids parts.toList rows) (hlen:Nat.beq len parts.size=true) (B:Nat.ble (len*q.size) 16777216=true) (J:Nat.ble len 16777216=true) (hid:st.h id=none):
  Step P n o st ⟨dM parts.toList,id::ids⟩ ⟨some (d,some (.one (.c (.sl q.size rows)))),[(id,some (.arr e q.size rows 2))]⟩:=by
 intro st' ha G S μ a w K Q hs aa;refine aCd id hT ho hd U hi hk Y r hlen B J hid st' ha G S μ a w K Q hs fun S1 μ1 M w1 h1=>?_
 have y:len=rows.length:=by rw[r.lengths];simpa using ω hlen
 have hh:(Eff.apply ⟨some (d,some (.one (.hs id 0 len len))),[(id,some (.arr e q.size rows 0))]⟩ st').h id=some (.arr e q.size rows 0):=by
  show dX st'.h [(id,some (.arr e q.size rows 0))] id=_;rw[bU,aH]
 obtain⟨S2,I,h2⟩:=h1.freeze hh;refine aa S2 I M w1 ⟨?_,h2.size,?_,fun s u e1=>?_⟩
 ·have:=h2.inv;show Inv G S2 I (dX st'.h [(id,some (.arr e q.size rows 2))]) w1;rw[bU];have A:upd (Eff.apply ⟨some (d,some (.one (.hs id 0 len len))),[(id,some (.arr e q.size rows 0))]⟩ st').h id (some (.arr e q.size rows 2))=upd st'.h id (some (.arr e q.size rows 2)):=by
   show upd (dX st'.h [(id,some (.arr e q.size rows 0))]) id _=_;rw[bU,lP]
  rw[←A];exact this
 ·have:=h2.defers;show Marks _ I (dX st'.h [(id,some (.arr e q.size rows 2))]) st'.d M.defers;rw[bU];have A:upd (Eff.apply ⟨some (d,some (.one (.hs id 0 len len))),[(id,some (.arr e q.size rows 0))]⟩ st').h id (some (.arr e q.size rows 2))=upd st'.h id (some (.arr e q.size rows 2)):=by
   show upd (dX st'.h [(id,some (.arr e q.size rows 0))]) id _=_;rw[bU,lP]
  rw[←A];exact this
 ·have A:upd (Eff.apply ⟨some (d,some (.one (.hs id 0 len len))),[(id,some (.arr e q.size rows 0))]⟩ st').h id (some (.arr e q.size rows 2))=dX st'.h [(id,some (.arr e q.size rows 2))]:=by
   show upd (dX st'.h [(id,some (.arr e q.size rows 0))]) id _=_;rw[bU,bU,lP]
  show aK S2 I (dX st'.h [(id,some (.arr e q.size rows 2))]) u (M.tmps.getD s undef);by_cases E:s=d
  ·subst E;have hu:u=.one (.c (.sl q.size rows)):=by
    have:upd st'.e s (some (.one (.c (.sl q.size rows)))) s=some u:=e1;rw[aH] at this;cases this;rfl
   subst hu;have O:=h2.env s (.one (.hs id 0 len len)) (aH _ _ _);have hO:=h2.inv.obj id _ (aH _ _ _);have:=(Conv.one (h:=upd (Eff.apply ⟨some (s,some (.one (.hs id 0 len len))),[(id,some (.arr e q.size rows 0))]⟩ st').h id (some (.arr e q.size rows 2))) (PureL.hs (e:=rows) (aH _ _ _) y (by rw[y];simp) .nil)).rel (fun _ _=>rfl) h2.inv.obj O;rw[←A];exact this
  ·have:upd st'.e d (some (.one (.c (.sl q.size rows)))) s=some u:=e1;rw[bC _ _ _ E] at this;have O:=h2.env s u (by show upd st'.e d _ s=some u;rw[bC _ _ _ E];exact this);rw[←A];exact O
theorem aNn {q ty:TypeId}{x y:Operand}{a b:Nat}(ho:o.op=.binOp .add q x y ty) (r:o.dst=some d) (c:d<n) (hx:opv st x=some (I .i64 (a:Nat))) (hy:opv st y=some (I .i64 (b:Nat))) (A:a+b≤9223372036854775807):
  Step P n o st ⟨opr x++opr y,[]⟩ ⟨some (d,some (I .i64 ((a+b:Nat):Int))),[]⟩:=aKh ho r c hx hy (by rw[←Int.natCast_add];exact Bt _ (by omega))
theorem aNi {q ty:TypeId}{x y:Operand}{a b:Nat}(ho:o.op=.binOp .mul q x y ty) (r:o.dst=some d) (c:d<n) (hx:opv st x=some (I .i64 (a:Nat))) (hy:opv st y=some (I .i64 (b:Nat))) (A:a*b≤9223372036854775807):
  Step P n o st ⟨opr x++opr y,[]⟩ ⟨some (d,some (I .i64 ((a*b:Nat):Int))),[]⟩:=aKa ho r c hx hy (by rw[←Int.natCast_mul];exact Bt _ (by omega))
theorem aM7 {q ty:TypeId}{x y:Operand}{a b:Nat}(ho:o.op=.binOp .sub q x y ty) (r:o.dst=some d) (c:d<n) (hx:opv st x=some (I .i64 (a:Nat))) (hy:opv st y=some (I .i64 (b:Nat))) (A:b≤a∧a≤9223372036854775807):
  Step P n o st ⟨opr x++opr y,[]⟩ ⟨some (d,some (I .i64 ((a-b:Nat):Int))),[]⟩:=aJ6 ho r c hx hy (by rw[show(a:Int)-b=((a-b:Nat):Int) by omega];exact Bt _ (by omega))
theorem aNf {q ty:TypeId}{x y:Operand}{a b:Nat}(ho:o.op=.binOp .quo q x y ty) (r:o.dst=some d) (c:d<n) (hx:opv st x=some (I .i64 (a:Nat))) (hy:opv st y=some (I .i64 (b:Nat))) (A:a≤9223372036854775807∧1≤b):
  Step P n o st ⟨opr x++opr y,[]⟩ ⟨some (d,some (I .i64 ((a/b:Nat):Int))),[]⟩:=by
 have:=aI1 (P:=P) (n:=n) ho r c hx hy (by omega);rwa [←Int.natCast_ediv] at this
theorem aNe {q ty:TypeId}{x y:Operand}{a b:Nat}(ho:o.op=.binOp .rem q x y ty) (r:o.dst=some d) (c:d<n) (hx:opv st x=some (I .i64 (a:Nat))) (hy:opv st y=some (I .i64 (b:Nat))) (A:1≤b):
  Step P n o st ⟨opr x++opr y,[]⟩ ⟨some (d,some (I .i64 ((a%b:Nat):Int))),[]⟩:=by
 have:=aI0 (P:=P) (n:=n) ho r c hx hy (by omega);rwa [←Int.natCast_emod] at this
theorem aQr {t1 t2:TypeId}{x y:Operand}{k:IntKind}{a b r:Int}(ho:o.op=.call { callee:=.builtin .max,args:= #[x,y],argTypes:= #[t1,t2] }) (q:o.dst=some d) (c:d<n) (hx:opv st x=some (I k a)) (hy:opv st y=some (I k b)) (A:(if b>a then b else a)=r):
  Step P n o st ⟨opr x++opr y,[]⟩ ⟨some (d,some (I k r)),[]⟩:=by
 refine Step.value q c fun st' ha G S μ ac w hs=>?_
 have h1:=cR (aI hs hx fun t h=>ha.1 t (by simp[h]));have h2:=cR (aI hs hy fun t h=>ha.1 t (by simp[h]));refine⟨.int k r,?_,by simp[aK,aQ,Rep]⟩;simp only[execOp,ho,resolve,map_toArray,As,map_nil,h1,h2,δ,ε,θ,invoke,builtin,Builtin.max_,List.foldlM_cons,List.foldlM_nil,Builtin.max2,A]
end
section
variable {P:Program}{n:Nat}{o:Oper}{st:St}{d:Nat}{T:TT}
theorem x6 {t e:TypeId}{i q:TI}(r:Tok P T) (hi:T[t]?=some (some i)) (A:i.k=.sl e) (y:T[e]?=some (some q)) (w:World) (c:Option Addr) (len cap l:Nat) (kk:IntKind) (h:l≤len):
  (Instr.sliceAt t (.slice c len cap) (some (.int kk (l:Int))) none none).run P w=.ok (.slice (if cap=l then c else c.map (·.add (l*q.size))) (len-l) (cap-l)) w:=by
 have hu:=Ah ((r.get hi).slice A) w;simp[Instr.sliceAt,hu,Instr.slice,Instr.sliceBounds,Instr.sliceBound,asIntOf,h,(r.get y).size_run w]
theorem aM6 {t e:TypeId}{i A:TI}{x y:Operand}{te es id len sz:Nat}{kk:IntKind}{elems:List (List C)}{fz:Nat}(l:Nat) (Y:Tok P T) (ho:o.op=.slice t x (some y) none none) (hd:o.dst=some d) (E:d<n) (hi:T[t]?=some (some i)) (hk:i.k=.sl e) (J:T[e]?=some (some A)) (M:A.size=es)
  (hx:opv st x=some (.one (.hs id 0 len sz))) (hh:st.h id=some (.arr te es elems fz)) (hsz:sz=elems.length) (hlen:len=sz) (hy:opv st y=some (I kk (l:Nat))) (hl:1≤l∧l≤len):Step P n o st ⟨opr x++opr y,[id]⟩ ⟨some (d,some (.one (.tl id l (len-l) sz))),[]⟩:=by
 refine Step.value hd E fun st' ha G S μ a w hs=>?_
 have q:=aI hs hx fun t ht=>ha.1 t (by simp[ht])
 have O:=cR (aI hs hy fun t ht=>ha.1 t (by simp[ht]));have c:st'.h id=some (.arr te es elems fz):=by rw[ha.2 id (by simp),hh]
 simp only[aK,aQ] at q;obtain⟨_,q | ⟨te',es',elems',fz',h1,h2,h3⟩⟩:=q
 ·rw[c] at q;cases q
 rw[c] at h1;cases h1;obtain⟨h4,⟨B,r,h7⟩ | ⟨b,base,cap,B,r⟩⟩:=h3 hsz
 ·subst r;simp at hsz;omega
 obtain⟨q0,vs,q1,q2,q3,q4,q5⟩:=(hs.inv.obj id _ c).arr B;rw[zero_mul,Cb,sub_zero] at r;refine⟨.slice (if cap=l then some ⟨b,base,none⟩ else(some ⟨b,base,none⟩:Option Addr).map (·.add (l*A.size))) (len-l) (cap-l),?_,?_⟩
 ·have U:=x6 (P:=P) Y hi hk J w (some ⟨b,base,none⟩) len cap l kk hl.2;simp only[execOp,ho,Bu,Option.map_none,r,O,δ,ε] at U ⊢;rw[U];rfl
 ·simp only[aK,aQ];refine⟨⟨_,_,_,rfl⟩,.inr ⟨te,es,elems,fz,c,h2,fun _=>⟨by omega,b,base,cap,B,by omega,?_⟩⟩⟩;by_cases hc:cap=l
  ·simp[hc]
  ·simp[hc,M,Addr.add_mid]
end
inductive Fz where
 | map (agg:Bool) (ents:List (List C))
 | var (l:List C)
 | ra (n es:Nat) (l:List R)
mutual
def R.fz (id:Nat) (z:Fz):R→R
 | .mr j=>match z with
  | .map agg ents=>if Nat.beq j id then .c (.mp agg ents) else .mr j
  | _=>.mr j
 | .vp j off=>match z with
  | .var l=>if Nat.beq j id then .c (.pt (l.drop off)) else .vp j off
  | _=>.vp j off
 | .ra j off len sz=>match z with
  | .ra n es l=>if Nat.beq j id then(if Nat.beq off 0&&Nat.beq len n&&Nat.beq sz n then .ras n es l else .c .any) else .ra j off len sz
  | _=>.ra j off len sz
 | .rp j i fo sz=>match z with
  | .ra _ _ _=>if Nat.beq j id then .c .any else .rp j i fo sz
  | _=>.rp j i fo sz
 | .ras n es l=>.ras n es (R.fzL id z l)
 | .pas l=>.pas (R.fzL id z l)
 | .clo f caps=>.clo f (R.fzL id z caps)
 | .mth f x=>.mth f (R.fz id z x)
 | r=>r
def R.fzL (id:Nat) (z:Fz):List R→List R
 | []=>[]
 | r::rs=>R.fz id z r::R.fzL id z rs
end
mutual
def V.fz (id:Nat) (z:Fz):V→V
 | .one r=>.one (r.fz id z)
 | .pa l=>.pa l
 | .ma l=>.ma (R.fzL id z l)
 | .tup l=>.tup (V.fzL id z l)
def V.fzL (id:Nat) (z:Fz):List V→List V
 | []=>[]
 | r::rs=>V.fz id z r::V.fzL id z rs
end
def fzE (id:Nat) (z:Fz):List (Nat×V)→List (Nat×V)
 | []=>[]
 | (t,v)::l=>(t,v.fz id z)::fzE id z l
def fzR (id:Nat) (z:Fz):List (List R)→List (List R)
 | []=>[]
 | r::l=>R.fzL id z r::fzR id z l
theorem aDq {id:Nat}{z:Fz}:∀{l:List (Nat×V)}{t:Nat}{v:V},(t,v)∈fzE id z l→∃v0,(t,v0)∈l∧v=v0.fz id z
 | (k,u)::l,t,v,h=>by
  simp only[fzE,Ap] at h;rcases h with h | h
  ·cases h;exact⟨u,by simp,rfl⟩
  ·obtain⟨v0,h1,h2⟩:=aDq h;exact⟨v0,by simp[h1],h2⟩
theorem R.fzL_length {id:Nat}{z:Fz}:∀{l:List R},(R.fzL id z l).length=l.length
 | []=>rfl
 | _::l=>by simp[R.fzL,R.fzL_length (l:=l)]
theorem R.fzL_append {id:Nat}{z:Fz}:∀{l m:List R},R.fzL id z (l++m)=R.fzL id z l++R.fzL id z m
 | [],_=>rfl
 | _::l,m=>by simp[R.fzL,R.fzL_append (l:=l)]
theorem dE {id:Nat}{z:Fz}:∀{l:List (List R)},(fzR id z l).length=l.length
 | []=>rfl
 | _::l=>by simp[fzR,dE (l:=l)]
theorem y4 {id:Nat}{z:Fz}:∀{l:List (List R)},(fzR id z l).flatten=R.fzL id z l.flatten
 | []=>rfl
 | _::l=>by simp[fzR,y4 (l:=l),R.fzL_append]
theorem jT {id:Nat}{z:Fz}{es:Nat}:∀{l:List (List R)},(∀r∈l,r.length=es)→∀r∈fzR id z l,r.length=es
 | [],_,r,h=>by simp[fzR] at h
 | x::l,k,r,h=>by
  simp only[fzR,Ap] at h;rcases h with rfl | h
  ·rw[R.fzL_length];exact k _ (by simp)
  ·exact jT (l:=l) (fun r c=>k r (by simp[c])) r h
def AObj.fz (id:Nat) (z:Fz):AObj→AObj
 | .var t cells=>.var t (R.fzL id z cells)
 | .lp st j i e=>.lp st j i (fzE id z e)
 | .rarr te es l=>.rarr te es (fzR id z l)
 | .tok r k=>.tok (r.fz id z) k
 | o=>o
def Fz.of:Fz→AObj→Prop
 | .map agg ents,o=>o=.map agg ents
 | .var l,o=>∃t,o=.var t (l.map R.c)
 | .ra n es l,o=>∃te elems,o=.rarr te es elems∧l=elems.flatten∧n=elems.length
def hfz (id:Nat) (z:Fz) (H:bW):bW:=fun j=>if Nat.beq j id then none else(H j).map (AObj.fz id z)
section
variable {S S':Sto}{μ:Mu}{H:bW}{id:Nat}{z:Fz}
theorem iC {j:Nat}(h:j≠id):hfz id z H j=(H j).map (AObj.fz id z):=by
 have:Nat.beq j id=false:=by
  cases hb:Nat.beq j id with
  | false=>rfl
  | true=>exact absurd (ω hb) h
 simp[hfz,this]
theorem aN6:hfz id z H id=none:=by simp[hfz]
theorem vQ {j te es fz:Nat}{l:List (List C)}{o:AObj}(hid:H id=some o) (c:z.of o) (h:H j=some (.arr te es l fz)):hfz id z H j=some (.arr te es l fz):=by
 have q:j≠id:=by
  rintro rfl;rw[h] at hid;cases hid;cases z with
  | map agg ents=>cases c
  | var l=>obtain⟨t,h⟩:=c;cases h
  | ra n es l=>obtain⟨_,_,h,_⟩:=c;cases h
 rw[iC q,h];rfl
theorem r2 {j:Nat}{o:AObj}(hid:H id=some o) (c:z.of o) (h:H j=some .dead):hfz id z H j=some .dead:=by
 have q:j≠id:=by
  rintro rfl;rw[h] at hid;cases hid;cases z with
  | map agg ents=>cases c
  | var l=>obtain⟨t,h⟩:=c;cases h
  | ra n es l=>obtain⟨_,_,h,_⟩:=c;cases h
 rw[iC q,h];rfl
def aMu (S':Sto) (μ:Mu) (H:bW) (id:Nat):Fz→Prop
 | .map agg ents=>∀b c,μ id=some (b,c)→∃es clk,S'.mapo b=some (.all es clk)∧(aZ S' agg ents es.toList∨aFz S' agg ents es)
 | .var l=>∀b c,μ id=some (b,c)→∃vs,bR S' l vs∧dC S' b 0 vs
 | .ra n es l=>n*es=l.length∧∀b base cap,μ id=some (b,base,cap)→n≤cap∧cap≤maxLen∧∃vs,aN S' μ (hfz id (.ra n es l) H) l vs∧dC S' b base vs
mutual
theorem aQ.fz (hle:S.le S') {o:AObj}(hid:H id=some o) (q:z.of o):∀(r:R) (v:Value),(id∈r.refs→aMu S' μ H id z)→aQ S μ H r v→aQ S' μ (hfz id z H) (r.fz id z) v
 | .c x,v,_,k=>by simp only[aQ,R.fz] at k ⊢;exact Rep.mono hle x v k
 | .hs j off len sz,v,_,k=>by
  simp only[aQ,R.fz] at k ⊢;obtain⟨E,k | ⟨te,es,elems,fz,h1,h2⟩⟩:=k
  ·exact⟨E,.inl (r2 hid q k)⟩
  ·exact⟨E,.inr ⟨te,es,elems,fz,vQ hid q h1,h2⟩⟩
 | .tl j off len sz,v,_,k=>by
  simp only[aQ,R.fz] at k ⊢;obtain⟨E,k | ⟨te,es,elems,fz,h1,h2⟩⟩:=k
  ·exact⟨E,.inl (r2 hid q k)⟩
  ·exact⟨E,.inr ⟨te,es,elems,fz,vQ hid q h1,h2⟩⟩
 | .ep j i fo sz,v,_,k=>by
  simp only[aQ,R.fz] at k ⊢;obtain⟨E,k | ⟨te,es,elems,fz,h1,h2⟩⟩:=k
  ·exact⟨E,.inl (r2 hid q k)⟩
  ·exact⟨E,.inr ⟨te,es,elems,fz,vQ hid q h1,h2⟩⟩
 | .vp j off,v,A,k=>by
  simp only[aQ] at k;obtain⟨t,cells,b,c,h1,h2,y⟩:=k;by_cases B:j=id
  ·subst B;rw[h1] at hid;cases hid;cases z with
   | map agg ents=>cases q
   | ra n es l=>obtain⟨_,_,h,_⟩:=q;cases h
   | var l=>
    simp only[R.fz,beq_refl,Cd,aQ,Rep];obtain⟨vs,g1,g2⟩:=A (by simp[R.refs]) b c h2;refine⟨b,off,y,vs.drop off,g1.drop off,fun i u hu=>?_⟩;rw[Aj] at hu;have:=g2 _ u hu;rwa [A5] at this
  ·have hb:Nat.beq j id=false:=by
    cases hb:Nat.beq j id with
    | false=>rfl
    | true=>exact absurd (ω hb) B
   have e:(R.vp j off).fz id z=.vp j off:=by cases z<;>simp[R.fz,hb]
   rw[e];simp only[aQ];exact⟨t,_,b,c,by rw[iC B,h1];rfl,h2,y⟩
 | .mr j,v,A,k=>by
  simp only[aQ] at k;obtain⟨agg,ents,b,c,h1,h2,y⟩:=k;by_cases B:j=id
  ·subst B;rw[h1] at hid;cases hid;cases z with
   | var l=>obtain⟨t,h⟩:=q;cases h
   | ra n es l=>obtain⟨_,_,h,_⟩:=q;cases h
   | map agg' ents'=>
    cases q;simp only[R.fz,beq_refl,Cd,aQ,Rep];obtain⟨es,clk,g1,g2⟩:=A (by simp[R.refs]) b c h2;exact⟨b,es,clk,y,g1,g2⟩
  ·have hb:Nat.beq j id=false:=by
    cases hb:Nat.beq j id with
    | false=>rfl
    | true=>exact absurd (ω hb) B
   have e:(R.mr j).fz id z=.mr j:=by cases z<;>simp[R.fz,hb]
   rw[e];simp only[aQ];exact⟨agg,ents,b,c,by rw[iC B,h1];rfl,h2,y⟩
 | .clo f caps,v,A,k=>by
  simp only[aQ,R.fz] at k ⊢;obtain⟨vs,h1,h2⟩:=k;exact⟨vs,h1,aN.fz hle hid q caps vs (by simpa only[R.refs] using A) h2⟩
 | .ras n es l,v,A,k=>by
  simp only[aQ,R.fz] at k ⊢;obtain⟨a,cap,h1,h2,y,h4,h5,h6,b,o,h7,vs,M,O⟩:=k;exact⟨a,cap,h1,by rw[R.fzL_length];exact h2,y,h4,h5,h6,b,o,h7,vs,aN.fz hle hid q l vs (by simpa only[R.refs] using A) M,O.mono hle⟩
 | .pas l,v,A,k=>by
  simp only[aQ,R.fz] at k ⊢;obtain⟨b,o,h1,vs,M,O⟩:=k;exact⟨b,o,h1,vs,aN.fz hle hid q l vs (by simpa only[R.refs] using A) M,O.mono hle⟩
 | .mth f recv,v,A,k=>by
  simp only[aQ,R.fz] at k ⊢;obtain⟨u,h1,h2⟩:=k;exact⟨u,h1,aQ.fz hle hid q recv u (by simpa only[R.refs] using A) h2⟩
 | .rp j i fo sz,v,A,k=>by
  simp only[aQ] at k;obtain⟨E,k⟩:=k;by_cases B:j=id
  ·subst B;have key:aQ S' μ (hfz j z H) (.c .any) v:=by
    obtain⟨a,rfl⟩:=E;simp only[aQ,Rep];exact⟨rfl,rfl⟩
   rcases k with k | ⟨te,es,elems,h1,h2,y⟩
   ·rw[k] at hid;cases hid;cases z with
    | map agg ents=>cases q
    | var l=>obtain⟨t,h⟩:=q;cases h
    | ra n es l=>obtain⟨_,_,h,_⟩:=q;cases h
   ·rw[h1] at hid;cases hid;cases z with
    | map agg ents=>cases q
    | var l=>obtain⟨t,h⟩:=q;cases h
    | ra n es l=>simpa only[R.fz,beq_refl,Cd] using key
  ·have hb:Nat.beq j id=false:=by
    cases hb:Nat.beq j id with
    | false=>rfl
    | true=>exact absurd (ω hb) B
   have e:(R.rp j i fo sz).fz id z=.rp j i fo sz:=by cases z<;>simp[R.fz,hb]
   rw[e];simp only[aQ];rcases k with k | ⟨te,es,elems,h1,h2,y⟩
   ·exact⟨E,.inl (by rw[iC B,k];rfl)⟩
   ·exact⟨E,.inr ⟨te,es,fzR id z elems,by rw[iC B,h1];rfl,by rw[dE];exact h2,fun e=>y (by rw[dE] at e;exact e)⟩⟩
 | .yl j,v,_,k=>by
  simp only[aQ,R.fz] at k ⊢;obtain⟨st,jp,i,e,b,c,h1,h2,y⟩:=k;have hne:j≠id:=by
   rintro rfl;rw[h1] at hid;cases hid;cases z with
   | map agg ents=>cases q
   | var l=>obtain⟨t,h⟩:=q;cases h
   | ra n es l=>obtain⟨_,_,h,_⟩:=q;cases h
  exact⟨st,jp,i,_,b,c,by rw[iC hne,h1];rfl,h2,y⟩
 | .ra j off len sz,v,A,k=>by
  simp only[aQ] at k;obtain⟨E,k⟩:=k;by_cases B:j=id
  ·subst B;have key:aQ S' μ (hfz j z H) (.c .any) v:=by
    obtain⟨a,l,c,rfl⟩:=E;simp only[aQ,Rep];exact⟨rfl,rfl⟩
   rcases k with k | ⟨te,es,elems,h1,h2,y⟩
   ·rw[k] at hid;cases hid;cases z with
    | map agg ents=>cases q
    | var l=>obtain⟨t,h⟩:=q;cases h
    | ra n es l=>obtain⟨_,_,h,_⟩:=q;cases h
   ·rw[h1] at hid;cases hid;cases z with
    | map agg ents=>cases q
    | var l=>obtain⟨t,h⟩:=q;cases h
    | ra n es' l=>
     obtain⟨te',elems',U,I,J⟩:=q;cases U;simp only[R.fz,beq_refl,Cd];split
     ·rename_i hc;simp only[Aa] at hc;obtain⟨⟨Y,c2⟩,c3⟩:=hc;have Y:=ω Y;have c2:=ω c2;have c3:=ω c3;subst Y;subst c2;subst c3;obtain⟨f1,f2⟩:=A (by simp[R.refs]);obtain⟨_,⟨m1,m2,m3⟩ | ⟨b,base,cap,m1,m2⟩⟩:=y J
      ·subst m2;simp only[length_nil] at J;subst J;subst I;simp only[aQ];exact⟨none,0,m3,by simp,le_refl _,Ae _,(fun _=>⟨by first | rfl | simp,rfl⟩),(by simp),0,0,(by simp),[],(by simp[aN]),(by intro i v e;simp at e)⟩
      ·obtain⟨f3,f4,vs,f5,f6⟩:=f2 b base cap m1;simp only[aQ];exact⟨some ⟨b,base,none⟩,cap,by rw[m2];simp,f1,f3,f4,by simp,(fun ad h=>by cases h;rfl),b,base,(fun ad h=>by cases h;exact⟨rfl,rfl⟩),vs,f5,f6⟩
     ·exact key
  ·have hb:Nat.beq j id=false:=by
    cases hb:Nat.beq j id with
    | false=>rfl
    | true=>exact absurd (ω hb) B
   have e:(R.ra j off len sz).fz id z=.ra j off len sz:=by cases z<;>simp[R.fz,hb]
   rw[e];simp only[aQ];rcases k with k | ⟨te,es,elems,h1,h2,y⟩
   ·exact⟨E,.inl (by rw[iC B,k];rfl)⟩
   ·refine⟨E,.inr ⟨te,es,fzR id z elems,by rw[iC B,h1];rfl,by rw[dE];exact h2,fun e=>?_⟩⟩;rw[dE] at e;obtain⟨U,I⟩:=y e;refine⟨U,?_⟩;rcases I with⟨I,J,q4⟩ | I
    ·exact .inl ⟨I,by rw[J];rfl,q4⟩
    ·exact .inr I
theorem aN.fz (hle:S.le S') {o:AObj}(hid:H id=some o) (q:z.of o):∀(r:List R) (v:List Value),(id∈R.refsL r→aMu S' μ H id z)→aN S μ H r v→aN S' μ (hfz id z H) (R.fzL id z r) v
 | [],_,_,k=>by simpa only[aN,R.fzL] using k
 | r::rs,vs,A,k=>by
  simp only[aN,R.fzL] at k ⊢;obtain⟨v,vs',h1,h2,y⟩:=k;exact⟨v,vs',h1,aQ.fz hle hid q r v (fun h=>A (by simp[R.refsL,h])) h2,aN.fz hle hid q rs vs' (fun h=>A (by simp[R.refsL,h])) y⟩
end
mutual
theorem aK.fz (hle:S.le S') {o:AObj}(hid:H id=some o) (c:z.of o) (q:aMu S' μ H id z):∀(r:V) (v:Value),aK S μ H r v→aK S' μ (hfz id z H) (r.fz id z) v
 | .one r,v,k=>by simp only[aK,V.fz] at k ⊢;exact aQ.fz hle hid c r v (fun _=>q) k
 | .pa l,v,k=>by
  simp only[aK,V.fz] at k ⊢;obtain⟨vs,h1,h2⟩:=k;exact⟨vs,h1,bR.mono hle l vs h2⟩
 | .ma l,v,k=>by
  simp only[aK,V.fz] at k ⊢;obtain⟨vs,h1,h2⟩:=k;exact⟨vs,h1,aN.fz hle hid c l vs (fun _=>q) h2⟩
 | .tup l,v,k=>by
  simp only[aK,V.fz] at k ⊢;obtain⟨vs,h1,h2⟩:=k;exact⟨vs,h1,aS.fz hle hid c q l vs h2⟩
theorem aS.fz (hle:S.le S') {o:AObj}(hid:H id=some o) (c:z.of o) (q:aMu S' μ H id z):∀(r:List V) (v:List Value),aS S μ H r v→aS S' μ (hfz id z H) (V.fzL id z r) v
 | [],_,k=>by simpa only[aS,V.fzL] using k
 | r::rs,vs,k=>by
  simp only[aS,V.fzL] at k ⊢;obtain⟨v,vs',h1,h2,y⟩:=k;exact⟨v,vs',h1,aK.fz hle hid c q r v h2,aS.fz hle hid c q rs vs' y⟩
end
theorem AObj.succ_fz {p:Prop}{o o':AObj}(h:o.succ p o'):o.succ p (o'.fz id z):=by
 cases o<;>cases o'<;>simp only[AObj.succ,AObj.fz,dE] at h ⊢<;>exact h
theorem iG.fz {w:World}{j:Nat}{x:AObj}(hle:S.le S') {o:AObj}(hid:H id=some o) (E:z.of o) (I:aMu S' μ H id z) (h:iG S μ H w j x) (hb:∀b c,μ j=some (b,c)→(∀o,S'.cell b o=S.cell b o)∧S'.mapo b=S.mapo b):iG S' μ (hfz id z H) w j (x.fz id z):=by
 cases x with
 | var t cells=>
  obtain⟨b,vs,h1,h2,y,q⟩:=h;exact⟨b,vs,h1,h2,aN.fz hle hid E _ _ (fun _=>I) y,fun o=>by rw[(hb b _ h1).1,q.1],by rw[(hb b _ h1).2,q.2]⟩
 | arr te es elems fz=>
  obtain⟨h0,h1 | ⟨b,base,cap,vs,h1,h2,y,q,A,B,J,M,O⟩⟩:=h
  ·exact⟨h0,.inl h1⟩
  ·exact⟨h0,.inr ⟨b,base,cap,vs,h1,h2,y,q,⟨A.1,by rw[(hb b _ h1).2,A.2]⟩,bR.mono hle _ _ B,fun e o ho=>by rw[(hb b _ h1).1,J e o ho],fun o e=>by rw[(hb b _ h1).1,M o e],fun e=>(O e).mono hle⟩⟩
 | map agg ents=>
  obtain⟨b,es,clk,h1,h2,y,q⟩:=h;exact⟨b,es,clk,h1,h2,uP.mono hle y,q.of_eq (hb b _ h1).2⟩
 | dead=>exact h
 | lp st jp i e=>
  obtain⟨b,r,fn,tmps,h1,h2,y,q,A,B⟩:=h;refine⟨b,r,fn,tmps,h1,h2,y,fun t v ht=>?_,fun o=>by rw[(hb b _ h1).1,A],by rw[(hb b _ h1).2,B]⟩;obtain⟨v0,U,rfl⟩:=aDq ht;exact aK.fz hle hid E I _ _ (q t v0 U)
 | dfr=>
  obtain⟨b,h1,h2,y,q⟩:=h;exact⟨b,h1,h2,fun o=>by rw[(hb b _ h1).1,y],by rw[(hb b _ h1).2,q]⟩
 | rarr te es elems=>
  obtain⟨h0,h1 | ⟨b,base,cap,vs,h1,h2,y,q,A,B,J⟩⟩:=h
  ·exact⟨jT h0,.inl ⟨h1.1,by rw[h1.2];rfl⟩⟩
  ·refine⟨jT h0,.inr ⟨b,base,cap,vs,h1,h2,y,by rw[dE];exact q,⟨A.1,by rw[(hb b _ h1).2,A.2]⟩,?_,fun o ho=>by rw[(hb b _ h1).1,J o ho]⟩⟩;rw[y4,dE];exact aN.fz hle hid E _ _ (fun _=>I) B
 | tok r k=>
  obtain⟨h1,b,h2,m,y,q⟩:=h;obtain⟨Y,A,B⟩:=hle.2 b m y;exact⟨h1,b,aQ.fz hle hid E _ _ (fun _=>I) h2,Y,A,MK.le_has B q⟩
theorem Sto.free_of {S S':Sto}(h:S.free) {b:Nat}(hb:∀c,c≠b→(∀o,S'.cell c o=S.cell c o)∧S'.mapo c=S.mapo c) (ht:∀te lo hi,¬S'.mapo b=some (.top te lo hi)):S'.free:=fun c te lo hi e o ho=>by
 by_cases q:c=b
 ·subst q;exact absurd e (ht te lo hi)
 ·obtain⟨h1,h2⟩:=hb c q;rw[h1,h c te lo hi (by rw[←h2];exact e) o ho]
theorem aHd {G:Ctx}{n:Nat}{kf:List Nat}{st:St}{a:Act}{w:World}{o:AObj}(hid:st.h id=some o) (B:z.of o) (M:id∉kf) (hg:G.keeps kf) (hs:Sim G n S μ st a w) (hle:S.le S') (hh:Holds S' w) (O:aMu S' μ st.h id z)
  (hb:∀b,(∀c,μ id≠some (b,c))→(∀o,S'.cell b o=S.cell b o)∧S'.mapo b=S.mapo b) (I:S'.free):Sim G n S' μ ⟨fun t=>(st.e t).map (V.fz id z),hfz id z st.h,st.d⟩ a w:=by
 have hold:∀j x,hfz id z st.h j=some x→j≠id∧∃A,st.h j=some A∧x=A.fz id z:=by
  intro j x q;have r:j≠id:=by rintro rfl;rw[aN6] at q;cases q
  rw[iC r] at q;cases h:st.h j with
  | none=>rw[h] at q;cases q
  | some A=>
   rw[h] at q;cases q;exact⟨r,A,rfl,rfl⟩
 have J:∀j A,st.h j=some A→j≠id→∀b c,μ j=some (b,c)→∀c',μ id≠some (b,c'):=by
  intro j A q r b c hm c' E;exact r (hs.inv.inj j id A o b c c' q hid hm E)
 refine⟨⟨hh,fun j x q=>?_,fun i j x x' b c c' hi q hm E=>?_,fun i x b c hi hm=>?_,hs.inv.frame,Sto.le_trans hs.inv.sle hle,fun b U Y=>?_,⟨Sto.le_trans hs.inv.evo.le hle,fun j x q=>?_⟩,I⟩,hs.size,hs.defers.go fun j _ q=>⟨rfl,?_⟩,fun t v e=>?_⟩
 ·obtain⟨r,A,h1,rfl⟩:=hold j x q;exact(hs.inv.obj j A h1).fz hle hid B O fun b c hm=>hb b (J j A h1 r b c hm)
 ·obtain⟨_,y,h1,_⟩:=hold i x hi;obtain⟨_,y',h2,_⟩:=hold j x' q;exact hs.inv.inj i j y y' b c c' h1 h2 hm E
 ·obtain⟨_,y,h1,_⟩:=hold i x hi;exact hs.inv.own i y b c h1 hm
 ·have aa:∀c,μ id≠some (b,c):=by
   intro c hm;rcases hs.inv.own id o b c hid hm with h | h
   ·omega
   ·exact Y h
  obtain⟨h1,h2⟩:=hb b aa;obtain⟨h3,h4⟩:=hs.inv.sto b U Y;exact⟨fun o=>(h1 o).trans (h3 o),h2.trans h4⟩
 ·obtain⟨o',h1,h2⟩:=hs.inv.evo.obj j x q;have r:j≠id:=fun e=>M (e▸hg.1 j x q)
  exact⟨o'.fz id z,by show hfz id z st.h j=_;rw[iC r,h1];rfl,AObj.succ_fz h2⟩
 ·have r:j≠id:=by
   rintro rfl;rw[q] at hid;cases hid;cases z with
   | map agg ents=>cases B
   | var l=>obtain⟨t,h⟩:=B;cases h
   | ra n es l=>obtain⟨_,_,h,_⟩:=B;cases h
  show hfz id z st.h j=_;rw[iC r,q];rfl
 ·cases h:st.e t with
  | none=>simp[h] at e
  | some v0=>
   simp only[h,Bu,Option.some.injEq] at e;subst e;exact aK.fz hle hid B O v0 _ (hs.env t v0 h)
theorem Sub.fvar {kf:List Nat}{st:St}{id t:Nat}{l:List C}(hid:st.h id=some (.var t (l.map R.c))) (r:id∉kf):Sub kf ⟨fun t=>(st.e t).map (V.fz id (.var l)),hfz id (.var l) st.h,st.d⟩ st:=by
 intro G n S μ a w E hs;obtain⟨b,vs,h1,h2,I,y⟩:=hs.inv.obj id _ hid;have A:=I.pure
 let S':Sto:=⟨fun q o=>if q=b then vs[o]? else S.cell q o,S.mapo⟩
 have hle:S.le S':=⟨fun q o v e=>by
  show(if q=b then vs[o]? else S.cell q o)=some v;by_cases hb:q=b
  ·subst hb;rw[y.1] at e;cases e
  ·rw[η hb];exact e,fun _ m e=>⟨m,e,m.le_refl⟩⟩
 refine⟨S',μ,aHd hid ⟨t,rfl⟩ r E hs hle ⟨fun q o v e=>?_,hs.inv.holds.2⟩ ?_ (fun q hb=>⟨fun o=>?_,rfl⟩) (Sto.free_of hs.inv.fre (b:=b) (fun q hb=>⟨fun _=>η hb,rfl⟩) fun te lo hi e=>by have e:S.mapo b=_:=e;rw[y.2] at e;cases e)⟩
 ·have e':(if q=b then vs[o]? else S.cell q o)=some v:=e;by_cases hb:q=b
  ·subst hb;rw[ξ rfl] at e';exact⟨⟨vs⟩,t,(0,0),h2,by simpa using e'⟩
  ·rw[η hb] at e';exact hs.inv.holds.1 q o v e'
 ·intro q c hm;rw[h1] at hm;cases hm;refine⟨vs,bR.mono hle _ _ A,fun i u hu=>?_⟩;show(if b=b then vs[0+i]? else S.cell b (0+i))=some u;rw[ξ rfl,A5];exact hu
 ·have B:q≠b:=fun e=>hb (0,0) (by rw[e];exact h1)
  exact η B
end
theorem aS.length {S:Sto}{μ:Mu}{H:bW}:∀{l:List V}{us:List Value},aS S μ H l us→us.length=l.length
 | [],_,h=>by simp only[aS] at h;subst h;rfl
 | _::l,_,h=>by
  simp only[aS] at h;obtain⟨v,vs',rfl,_,h2⟩:=h;simp[aS.length h2]
theorem Inv.keep {G:Ctx}{S:Sto}{μ:Mu}{H:bW}{w:World}{hout:List (Nat×AObj)}(hs:Inv G S μ H w) (q:eN (fun p=>∃o,H p.1=some o∧Ole (fun i=>i) o p.2) hout)
  (I:subset (eK hout) (keys hout)=true) (J:∀id o,G.h0 id=some o→id∈keys hout):Inv G S μ (look hout) w:=by
 have r:∀i∈keys hout,Good H (look hout) (fun i=>i) i:=by
  intro i hi;obtain⟨o',y⟩:=bZ hi;obtain⟨o,g1,g2⟩:=q.mem _ (aU y);exact⟨o,o',g1,y,g2⟩
 refine⟨hs.holds,fun id o ho=>?_,fun i j o o' b c c' hi M hm B=>?_,fun i o b c hi hm=>?_,hs.frame,hs.sle,hs.sto,⟨hs.evo.le,fun id o ho=>?_⟩,hs.fre⟩
 ·obtain⟨A,g1,g2⟩:=q.mem _ (aU ho);exact(hs.obj _ _ g1).ren g2 fun i hi=>r i (bK I i (iP (aU ho) i hi))
 ·obtain⟨A,g1,g2⟩:=q.mem _ (aU hi);obtain⟨E,g3,g4⟩:=q.mem _ (aU M);exact hs.inj _ _ _ _ b c c' g1 g3 hm B
 ·obtain⟨A,g1,g2⟩:=q.mem _ (aU hi);exact hs.own _ _ b c g1 hm
 ·obtain⟨o',g1,g2⟩:=hs.evo.obj id o ho;obtain⟨A,E,g3,g4,g5⟩:=r id (J id o ho);rw[g1] at g3;cases g3;exact⟨E,g4,AObj.succ_trans g2 g5.succ fun e _=>e⟩
section
variable {P:Program}{n:Nat}{o:Oper}{st:St}{d:Nat}
end
def uT (W:World):Sto:=
 ⟨fun b o=>match W.heap[b]? with | some (.cells vs _ _)=>vs[o]? | _=>none,fun b=>match W.heap[b]? with | some (.map es clk)=>some (.all es clk) | _=>none⟩
theorem aAi (W:World):Holds (uT W) W:=by
 refine⟨fun b o v h=>?_,fun b mk h=>?_⟩
 ·simp only[uT] at h;split at h
  ·rename_i vs t c hq;exact⟨vs,t,c,hq,h⟩
  ·cases h
 ·simp only[uT] at h;split at h
  ·rename_i hq;cases h;exact hq
  ·cases h
theorem aG3 (W:World):(uT W).noTop:=fun b m e=>by
 simp only[uT] at e;split at e
 ·cases e;exact⟨_,_,rfl⟩
 ·cases e
theorem aC7 (W:World):(uT W).free:=fun b te lo hi e=>by
 obtain⟨_,_,h⟩:=aG3 W b _ e;cases h
theorem aC8 {W:World}{a:Addr}{v:Value}(h:W.cell? a=some v):(uT W).cell a.block a.off=some v:=by
 unfold World.cell? at h;simp only[uT];split at h
 ·rename_i hq;rw[hq];split at h
  ·cases h
  ·exact h
 ·cases h
theorem aDl {P:Program}{f:FuncId}{args:List V}{vals:List Value}{res:V}(h:b9 P f args [] res []) (W:World) (r:aS (uT W) (fun _=>none) (look []) args vals) (ht:aIp W:=by first | assumption | (intro g h;cases h)):
  Calls P f ⟨vals⟩ W fun e W'=>∃v S μ,e=.returned v∧RowKit.Below W.heap.size W W'∧aK S μ (look []) res v:=by
 have y:Inv ⟨W,uT W,fJ (fun _=>none) (look []),fun _=>none,look []⟩ (uT W) (fun _=>none) (look []) W:=
  ⟨aAi W,(fun _ _ h=>by cases h),(fun _ _ _ _ _ _ _ h=>by cases h),(fun _ _ _ _ h=>by cases h),FrameW.refl _ _ ⟨ht,fun g _ ⟨_,_,_,h,_⟩=>by cases h⟩,Sto.le_refl _,fun _ _ _=>⟨fun _=>rfl,rfl⟩,Evolve.refl _ _ _,aC7 W⟩
 refine(h (uT W) (fun _=>none) W vals y r).mono ?_;rintro e W' ⟨S',μ',v,he,q,A⟩;refine⟨v,S',μ',he,⟨q.frame.os,q.frame.tape,q.frame.output,q.frame.size,fun k B=>q.frame.block k B ?_⟩,A⟩;rintro⟨id,o,c,h1,_⟩;cases h1
theorem aLu {S:Sto}{μ:Mu}{H:bW}{b:Bool}{v:Value}(h:aK S μ H (B b) v):v=.bool b:=by simpa [aK,aQ,Rep] using h
def iW (l:List Int):List (List C):=l.map fun m=>[.int .i64 m]
theorem aGl {W:World}{a:Addr}{len cap:Nat}{l:List Int}(hs:cap≠0→a.spot=none) (hl:l.length=len) (hc:len≤cap) (hm:cap≤maxLen) (c:∀i,i<len→W.cell? (a.add i)=some (.int .i64 (l.getD i 0))):
  Rep (uT W) (.sl 1 (iW l)) (.slice (some a) len cap):=by
 simp only[Rep];refine⟨some a,len,cap,rfl,by simp[iW,hl],hc,hm,(by intro h;cases h),(by intro y h;cases h;exact hs),a.block,a.off,(by intro y h;cases h;exact⟨rfl,rfl⟩),?_⟩;have key:∀(r:List Int) (k:Nat),(∀i,i<r.length→W.cell? (a.add (k+i))=some (.int .i64 (r.getD i 0)))→b4 (uT W) 1 a.block (iW r) (a.off+k):=by
  intro r
  induction r with
  | nil=>intro k _;simp[iW,b4]
  | cons x r A=>
   intro k q;simp only[iW,As,b4];refine⟨rfl,⟨[.int .i64 x],by simp[bR,Rep],fun i v hi=>?_⟩,?_⟩
   ·have h0:=aC8 (q 0 (by simp));have hb:(a.add (k+0)).block=a.block:=by unfold Addr.add;split<;>rfl
    have ho:(a.add (k+0)).off=a.off+k:=by
     unfold Addr.add;split
     ·rename_i h;omega
     ·rfl
    rw[hb,ho] at h0;cases i with
    | zero=>simp at hi;subst hi;simpa using h0
    | succ i=>simp at hi
   ·have:=A (k+1) fun i hi=>by
     have:=q (i+1) (by simp;omega);rw[show k+(i+1)=k+1+i by omega] at this;simpa using this
    rw[add_assoc];exact this
 have:=key l 0 fun i hi=>by rw[A5];exact c i (by omega)
 simpa using this
theorem sG {W:World}:Rep (uT W) (.sl 1 (iW [])) (.slice none 0 0):=by
 simp only[Rep];exact⟨none,0,0,rfl,rfl,le_refl _,Ae _,(fun _=>⟨rfl,rfl⟩),(by intro c h;cases h),0,0,(by intro c h;cases h),by simp[iW,b4]⟩
theorem aAf {H:Type}{enc:TypeId×Value→H}{P:Program}{W:World}{t e:TypeId}{v:Value}{d:DataW H}{ps:List MemPlace}{base:Nat}(ht:P.underlying t=some (.slice e)) (he:P.underlying e=some (.int .i64)) (hc:P.cellsOf e=1)
  (hok:Value.okWide P W .any base t v) (h:DataW.Trod enc P W 0 (fun _=>true) true t v d ps):
  ∃l:List Int,Rep (uT W) (.sl 1 (iW l)) v∧(∀m∈l,-9223372036854775808≤m∧m≤9223372036854775807)∧(∃x y,(d=.nil∧l=[])∨(d=.slice x y∧x.length=l.length)):=by
 obtain⟨fuel,B⟩:=h;obtain⟨a0,c,q,rfl⟩:=WideShapes.okWide_slice ht hok;rcases ChangeShapes.open_ints ht he hc B with⟨h1,h2⟩ | ⟨a,len,cap,r,h1,_,E,I,J,M,O,U⟩
 ·have A:Value.slice a0 c q=.slice none 0 0:=by
   simp only[Value.cells] at h1;simpa using h1
  cases A;refine⟨[],sG,by simp,[],[],.inl ⟨?_,rfl⟩⟩;have:=congrArg Prod.fst h2;simpa using this
 ·have A:Value.slice a0 c q=.slice (some a) len cap:=by
   simp only[Value.cells] at h1;simpa using h1
  cases A;have hs:a.spot=none:=by
   simp only[Value.okWide,ht,Cell.okWide,Cell.ok] at hok;exact hok.2.2.2.1
  have hlen:c≤r.length:=by rw[J];split<;>omega
  refine⟨r.take c,aGl (fun _=>hs) (by simp;omega) E I (fun i hi=>?_),fun m hm=>?_,ChangeShapes.lits .i64 (r.take c),ChangeShapes.lits .i64 (r.drop c),.inr ⟨?_,?_⟩⟩
  ·rw[O i (by omega)];congr 2;simp[List.getD_eq_getElem?_getD,hi]
  ·have:=U m (B3 hm);simp only[Lit.wf,Aa,decide_eq_true_eq] at this;exact this
  ·have:=congrArg Prod.fst M;simpa using this
  ·simp[ChangeShapes.lits]
inductive BndV (st:St):Option Operand→Nat→Nat→Prop
 | no {m}:BndV st none m m
 | yes {x kk m k}:opv st x=some (I kk ((k:Nat):Int))→BndV st (some x) m k
def aIb:Option Operand→List Nat
 | none=>[]
 | some x=>opr x
section
variable {P:Program}{n:Nat}{o:Oper}{st:St}{d:Nat}{T:TT}
theorem BndV.val {G:Ctx}{S:Sto}{μ:Mu}{st':St}{a:Act}{w:World}{x:Option Operand}{m k:Nat}(h:BndV st x m k) (hs:Sim G n S μ st' a w) (ha:∀t∈aIb x,st'.e t=st.e t):
  (x=none∧k=m)∨∃kk,x.map a.eval=some (.int kk ((k:Nat):Int)):=by
 cases h with
 | no=>exact .inl ⟨rfl,rfl⟩
 | @yes x kk _ _ h=>exact .inr ⟨kk,by rw[Bu,cR (aI hs h ha)]⟩
theorem pC {w:World}{b:Bool}{len cap lo hi:Nat}{low high:Option Value}(hl:(low=none∧lo=0)∨∃kk,low=some (.int kk ((lo:Nat):Int))) (hh:(high=none∧hi=len)∨∃kk,high=some (.int kk ((hi:Nat):Int))) (h1:lo≤hi) (h2:hi≤len) (c:len≤cap):
  (Instr.sliceBounds b len cap low high none).run P w=.ok (lo,hi,cap) w:=by
 have q:hi≤cap:=le_trans h2 c;rcases hl with⟨rfl,rfl⟩ | ⟨r,rfl⟩<;>rcases hh with⟨rfl,rfl⟩ | ⟨y,rfl⟩<;>simp[Instr.sliceBounds,Instr.sliceBound,asIntOf,h1,q]
theorem aQx {t e:TypeId}{i r:TI}{x:Operand}{low high:Option Operand}{es lo hi:Nat}{l:List (List C)}(E:Tok P T) (ho:o.op=.slice t x low high none) (hd:o.dst=some d) (I:d<n) (J:T[t]?=some (some i)) (hk:i.k=.sl e) (M:T[e]?=some (some r)) (O:r.size=es)
  (hx:opv st x=some (.one (.c (.sl es l)))) (U:BndV st low 0 lo) (Y:BndV st high l.length hi) (h1:lo≤hi) (h2:hi≤l.length):
  Step P n o st ⟨opr x++aIb low++aIb high,[]⟩ ⟨some (d,some (.one (.c (.sl es ((l.take hi).drop lo))))),[]⟩:=by
 refine Step.value hd I fun st' ha G S μ a w hs=>?_
 have hv:=aI hs hx fun t ht=>ha.1 t (by simp[ht])
 have hl:=U.val hs fun t ht=>ha.1 t (by simp[ht])
 have hh:=Y.val hs fun t ht=>ha.1 t (by simp[ht])
 simp only[aK,aQ,Rep] at hv;obtain⟨q,len,cap,p1,p2,p3,p4,p5,p6,b,of,p7,p8⟩:=hv;subst p2;have hb:=pC (P:=P) (w:=w) (b:=true) (low:=low.map a.eval) (high:=high.map a.eval) (len:=l.length) (cap:=cap) (by rcases hl with⟨rfl,h⟩ | h;exact .inl ⟨rfl,h⟩;exact .inr h) (by rcases hh with⟨rfl,h⟩ | h;exact .inl ⟨rfl,h⟩;exact .inr h) h1 h2 p3;refine⟨.slice (if cap=lo then q else q.map (·.add (lo*r.size))) (hi-lo) (cap-lo),?_,?_⟩
 ·have hu:=Ah ((E.get J).slice hk) w;simp only[execOp,ho,p1,Option.map_none,δ,Instr.sliceAt,hu,θ,Instr.slice,hb,(E.get M).size_run w,ε]
 ·simp only[aK,aQ,Rep];have hlen:((l.take hi).drop lo).length=hi-lo:=by simp;omega
  refine⟨_,_,_,rfl,hlen.symm,by omega,by omega,?_,?_,?_⟩
  ·intro e;have:q=none:=by
    split at e
    ·exact e
    ·cases q<;>simp at e;rfl
   obtain⟨A,B⟩:=p5 this;omega
  ·intro y e hcc;split at e
   ·omega
   ·cases q with
    | none=>cases e
    | some z=>
     simp at e;subst e;have:=p6 z rfl (by omega);obtain⟨zb,zo,zs⟩:=z;simp at this;subst this;rw[Addr.add_mid]
  ·by_cases hc:cap=lo
   ·have:(l.take hi).drop lo=[]:=An (by omega);rw[this];refine⟨b,of,fun y e=>p7 y (by rwa [ξ hc] at e),by simp[b4]⟩
   ·refine⟨b,of+lo*es,fun y e=>?_,(p8.take hi).drop lo⟩;rw[η hc] at e;cases q with
    | none=>cases e
    | some z=>
     simp at e;subst e;obtain⟨A,B⟩:=p7 z rfl;have:=p6 z rfl (by omega);obtain⟨zb,zo,zs⟩:=z;simp at this A B;subst this A B;rw[Addr.add_mid,O];exact⟨rfl,rfl⟩
theorem extract_mk (s:List UInt8) (lo hi:Nat):(ByteArray.mk ⟨s⟩).extract lo hi=⟨⟨(s.take hi).drop lo⟩⟩:=by
 apply ByteArray.ext;simp;rw[drop_take]
theorem aNc {t:TypeId}{i:TI}{x:Operand}{low high:Option Operand}{lo hi:Nat}{s:List UInt8}(A:Tok P T) (ho:o.op=.slice t x low high none) (B:o.dst=some d) (c:d<n) (q:T[t]?=some (some i)) (E:i.k=.str)
  (hx:opv st x=some (Go.AM.T s)) (r:BndV st low 0 lo) (y:BndV st high s.length hi) (h1:lo≤hi) (h2:hi≤s.length):
  Step P n o st ⟨opr x++aIb low++aIb high,[]⟩ ⟨some (d,some (Go.AM.T ((s.take hi).drop lo))),[]⟩:=by
 refine Step.value B c fun st' ha G S μ a w hs=>?_
 have I:=iT (aI hs hx fun t ht=>ha.1 t (by simp[ht]));have hl:=r.val hs fun t ht=>ha.1 t (by simp[ht])
 have hh:=y.val hs fun t ht=>ha.1 t (by simp[ht])
 have hb:=pC (P:=P) (w:=w) (b:=false) (low:=low.map a.eval) (high:=high.map a.eval) (len:=s.length) (cap:=s.length) (by rcases hl with⟨rfl,h⟩ | h;exact .inl ⟨rfl,h⟩;exact .inr h) (by rcases hh with⟨rfl,h⟩ | h;exact .inl ⟨rfl,h⟩;exact .inr h) h1 h2 (le_refl _);refine⟨.string ⟨⟨(s.take hi).drop lo⟩⟩,?_,by simp[aK,aQ,Rep]⟩;have hu:=Ah ((A.get q).str E) w;have hsz:(ByteArray.mk ⟨s⟩).size=s.length:=rfl;simp only[execOp,ho,I,Option.map_none,δ,Instr.sliceAt,hu,θ,Instr.slice,hsz,hb,Option.isSome_none,Ao,Bm,ε,extract_mk]
theorem aIz {t:TypeId}{i:TI}{x y:Operand}{s:List UInt8}{kk:IntKind}{m:Int}{k:Nat}{b:UInt8}(A:Tok P T) (ho:o.op=.index t x y) (B:o.dst=some d) (c:d<n) (q:T[t]?=some (some i)) (E:i.k=.str)
  (hx:opv st x=some (Go.AM.T s)) (hy:opv st y=some (I kk m)) (hm:m=(k:Int)) (hb:s[k]?=some b):Step P n o st ⟨opr x++opr y,[]⟩ ⟨some (d,some (I .u8 ((b.toNat:Nat):Int))),[]⟩:=by
 refine Step.value B c fun st' ha G S μ a w hs=>?_
 have J:=iT (aI hs hx fun t ht=>ha.1 t (by simp[ht]));have h2:=cR (aI hs hy fun t ht=>ha.1 t (by simp[ht]));subst hm;refine⟨.int .u8 ((b.toNat:Nat):Int),?_,by simp[aK,aQ,Rep]⟩;have hu:=Ah ((A.get q).str E) w;have M:(ByteArray.mk ⟨s⟩)[k]?=some b:=by
  have r:=(Ad.1 hb).1
  have hsz:(ByteArray.mk ⟨s⟩).size=s.length:=rfl;rw[getElem?_pos (ByteArray.mk ⟨s⟩) k (by rw[hsz];exact r)];have:=(Ad.1 hb).2
  rw[←this];rfl
 simp only[execOp,ho,J,h2,δ,Instr.index,asIntOf,ε,θ,hu];simp[M]
theorem aQq {t1 t2:TypeId}{x y:Operand}{k:IntKind}{a b r:Int}(ho:o.op=.call { callee:=.builtin .min,args:= #[x,y],argTypes:= #[t1,t2] }) (q:o.dst=some d) (c:d<n) (hx:opv st x=some (I k a)) (hy:opv st y=some (I k b)) (A:(if b<a then b else a)=r):
  Step P n o st ⟨opr x++opr y,[]⟩ ⟨some (d,some (I k r)),[]⟩:=by
 refine Step.value q c fun st' ha G S μ ac w hs=>?_
 have h1:=cR (aI hs hx fun t h=>ha.1 t (by simp[h]));have h2:=cR (aI hs hy fun t h=>ha.1 t (by simp[h]));refine⟨.int k r,?_,by simp[aK,aQ,Rep]⟩;simp only[execOp,ho,resolve,map_toArray,As,map_nil,h1,h2,δ,ε,θ,invoke,builtin,Builtin.min_,List.foldlM_cons,List.foldlM_nil,Builtin.min2,A]
end
section
variable {P:Program}{n:Nat}{o:Oper}{st:St}{d:Nat}{T:TT}
theorem iG.rarr {S:Sto}{μ:Mu}{H:bW}{w:World}{id:Nat}{te es:Nat}{elems:List (List R)}(h:iG S μ H w id (.rarr te es elems)) {b base cap:Nat}(hm:μ id=some (b,base,cap)):
  (∀r∈elems,r.length=es)∧∃vs,w.heap[b]?=some (.cells ⟨vs⟩ te (0,0))∧base+cap*es≤vs.length∧elems.length≤cap∧(cap≤maxLen∧S.mapo b=none)∧aN S μ H elems.flatten ((vs.drop base).take (elems.length*es))∧(∀o,base≤o→S.cell b o=none):=by
 obtain⟨h0,h1 | ⟨J,c,q,vs,h1,h2,y,A,B,E,I⟩⟩:=h
 ·rw[h1.1] at hm;cases hm
 ·rw[h1] at hm;cases hm;exact⟨h0,vs,h2,y,A,B,E,I⟩
def qM (st:St) (es:Nat):Nat→List (Nat×Operand)→Option (List (List R))
 | _,[]=>some []
 | k,(i,x)::ps=>bif Nat.beq i k then(opv st x).bind fun v=>(eG v).bind fun rs=>bif Nat.beq rs.length es then(qM st es (k+1) ps).bind fun l=>some (rs::l) else none else none
theorem sE {es:Nat}:∀{ps:List (Nat×Operand)}{k:Nat}{l:List (List R)},qM st es k ps=some l→l.length=ps.length∧∀r∈l,r.length=es
 | [],k,l,h=>by simp[qM] at h;subst h;simp
 | (i,x)::ps,k,l,h=>by
  simp only[qM] at h;cases hi:Nat.beq i k with
  | false=>rw[hi] at h;cases h
  | true=>
   rw[hi] at h;simp only[Bp,Ab] at h;obtain⟨v,A,rs,y,h⟩:=h;cases hl:Nat.beq rs.length es with
   | false=>rw[hl] at h;cases h
   | true=>
    rw[hl] at h;simp only[Bp,Ab] at h;obtain⟨B,q,h⟩:=h;cases h;obtain⟨h1,h2⟩:=sE q;refine⟨by simp[h1],fun r c=>?_⟩;rcases Ap.1 c with rfl | c
    ·exact ω hl
    ·exact h2 r c
theorem zR {G:Ctx}{S:Sto}{μ:Mu}{st':St}{a:Act}{w:World}(hs:Sim G n S μ st' a w) {es:Nat}:∀{k:Nat}{ps:List (Nat×Operand)}{rows:List (List R)},qM st es k ps=some rows→(∀t∈dM ps,st'.e t=st.e t)→
  ∀(cells:Array Value),cells.size=(k+ps.length)*es→∃out:Array Value,Instr.fill (fun i=>some (i*es,es)) cells (ps.map fun(i,x)=>(i,a.eval x))=some out∧out.size=cells.size∧
   ∃us,aN S μ st'.h rows.flatten us∧out.toList=cells.toList.take (k*es)++us:=by
 intro k ps
 induction ps generalizing k with
 | nil=>
  intro rows h _ cells hc;simp only[qM] at h;cases h;refine⟨cells,rfl,rfl,[],by simp[aN],?_⟩;rw[Cm,Aq];simp at hc;simp[hc]
 | cons p ps J=>
  obtain⟨i,x⟩:=p;intro rows h ha cells hsz;simp only[qM] at h;cases hi:Nat.beq i k with
  | false=>rw[hi] at h;cases h
  | true=>
   rw[hi] at h;have A:=ω hi;subst A;simp only[Bp,Ab] at h;obtain⟨v,M,rs,B,h⟩:=h;cases hl:Nat.beq rs.length es with
   | false=>rw[hl] at h;cases h
   | true=>
    rw[hl] at h;simp only[Bp,Ab] at h;obtain⟨l',r,h⟩:=h;cases h;have Y:=ω hl;have hrel:=cK (aI hs M fun t ht=>ha t (by simp[dM,ht])) B;have E:=hrel.length;simp only[Av] at E;simp only[τ] at hsz;have aa:(i+(ps.length+1))*es=i*es+es+ps.length*es:=by
     rw[A2,A2];omega
    have y:=kU (i*es) (a.eval x).cells.toList 0 cells (by simp only[Av];omega);have q:(bJ cells.toList (i*es) (a.eval x).cells.toList).length=cells.size:=by
     unfold bJ;simp;omega
    obtain⟨out,h1,h2,us,O,U⟩:=J r (fun t ht=>ha t (by simp[dM,ht])) ⟨bJ cells.toList (i*es) (a.eval x).cells.toList⟩ (by
     simp only[size_toArray,q,hsz];congr 1
     omega)
    refine⟨out,?_,by rw[h2];simpa using q,(a.eval x).cells.toList++us,?_,?_⟩
    ·simp only[As,Instr.fill];have c:((a.eval x).cells.size≠es || decide (i*es+(a.eval x).cells.size>cells.size))=false:=by
      simp only[Bool.or_eq_false_iff,decide_eq_false_iff_not];exact⟨by simp;omega,by omega⟩
     simp only[c,Ao,Bm];have I:((a.eval x).cells.zipIdx.foldl (fun cs (x:Value×Nat)=>cs.setIfInBounds (i*es+x.2) x.1) cells)=⟨bJ cells.toList (i*es) (a.eval x).cells.toList⟩:=by
      rw[←Array.foldl_toList,Array.toList_zipIdx];simpa using y
     rw[←h1];congr 1
    ·rw[A6];exact hrel.append O
    ·rw[U];have:(bJ cells.toList (i*es) (a.eval x).cells.toList).take ((i+1)*es)=cells.toList.take (i*es)++(a.eval x).cells.toList:=by
      unfold bJ;apply take_left';simp;rw[A2];omega
     show(bJ cells.toList (i*es) (a.eval x).cells.toList).take ((i+1)*es)++us=_;rw[this,Ar]
theorem aGn {t e:TypeId}{i c:TI}{len:Nat}{parts:Array (Nat×Operand)}{rows:List (List R)}(id:Nat) (A:Tok P T) (ho:o.op=.buildSlice t len parts) (hd:o.dst=some d) (aa:d<n) (hi:T[t]?=some (some i)) (hk:i.k=.sl e) (r:T[e]?=some (some c))
  (y:qM st c.size 0 parts.toList=some rows) (hlen:Nat.beq len parts.size=true) (B:Nat.ble (len*c.size) 16777216=true) (M:Nat.ble len 16777216=true) (hid:st.h id=none):
  Step P n o st ⟨dM parts.toList,[id]⟩ ⟨some (d,some (.one (.ra id 0 len len))),[(id,some (.rarr e c.size rows))]⟩:=by
 refine Step.new hd aa hid (by simp) fun st' ha O G S μ a w hs=>?_
 have I:=ω hlen;have hsm:=Ak B;obtain⟨z,hz,hzr,_⟩:=(A.get r).zero_run;have J:=(hzr S).length;rw[(A.get r).len] at J;simp only[Av] at J;obtain⟨hrl,hrw⟩:=sE y;simp only[Av] at hrl;have key:∀(cells:Array Value),cells.size=len*c.size→∃out:Array Value,Instr.fill (fun i=>some (i*c.size,c.size)) cells (parts.map fun(i,x)=>(i,a.eval x)).toList=some out∧out.size=len*c.size∧aN S μ st'.h rows.flatten out.toList:=by
  intro cells hc;obtain⟨out,h1,h2,us,q,h4⟩:=zR hs y ha.1 cells (by rw[hc,I];simp);refine⟨out,by rw[←h1];simp,by rw[h2,hc],?_⟩;simp at h4;rw[h4];exact q
 have U:∃out:Array Value,(Instr.buildSlice t len (parts.map fun(i,x)=>(i,a.eval x))).run P w=.ok (.slice (some ⟨w.heap.size,0,none⟩) len len) (w.alloc (.cells out e))∧out.size=len*c.size∧aN S μ st'.h rows.flatten out.toList:=by
  by_cases h0:len*c.size=0
  ·obtain⟨out,h1,h2,q⟩:=key ((Array.range (len*c.size)).map ((#[]:Array Value)[· %(#[]:Array Value).size]!)) (by simp);refine⟨out,?_,h2,q⟩;have E:¬len*c.size>2^24:=by omega
   simp only[Instr.buildSlice,δ,Ah ((A.get hi).slice hk) w,θ,(A.get r).size_run w];rw[η E,ξ h0];simp only[δ,θ,ε,h1,eO]
  ·obtain⟨out,h1,h2,q⟩:=key ((Array.range (len*c.size)).map (z.cells[· %z.cells.size]!)) (by simp);refine⟨out,?_,h2,q⟩;have E:¬len*c.size>2^24:=by omega
   simp only[Instr.buildSlice,δ,Ah ((A.get hi).slice hk) w,θ,(A.get r).size_run w];rw[η E,η h0];simp only[δ,hz w,θ,ε,h1,eO]
 obtain⟨out,h1,h2,q⟩:=U;have hlm:len≤maxLen:=by
  have:=Ak M;unfold maxLen;omega
 have Y:rows.length=len:=by omega
 refine⟨_,_,.slice (some ⟨w.heap.size,0,none⟩) len len,(0,len),?_,WChg.alloc w (.cells out e),?_,?_⟩
 ·simp only[execOp,ho,δ,h1,θ,ε]
 ·refine⟨hrw,.inr ⟨w.heap.size,0,len,out.toList,aH _ _ _,Bx w _,by simp[h2],by omega,⟨hlm,nU hs.inv⟩,?_,fun o _=>eA hs.inv o⟩⟩;simp only[B1];rw[Aq (by simp[h2,Y])];exact aN.evolve (eP O _ _) _ _ q
 ·simp only[aK,aQ];exact⟨⟨_,_,_,rfl⟩,.inr ⟨e,c.size,rows,aH _ _ _,by omega,fun _=>⟨by omega,.inr ⟨w.heap.size,0,len,aH _ _ _,by simp⟩⟩⟩⟩
theorem zW {t e:TypeId}{i A:TI}{x y:Operand}{te es k id off len sz:Nat}{kk:IntKind}{m:Int}{elems:List (List R)}(Y:Tok P T) (ho:o.op=.indexAddr t x y) (hd:o.dst=some d) (B:d<n) (hi:T[t]?=some (some i)) (hk:i.k=.sl e) (E:T[e]?=some (some A)) (J:A.size=es)
  (hx:opv st x=some (.one (.ra id off len sz))) (hh:st.h id=some (.rarr te es elems)) (hsz:sz=elems.length) (hy:opv st y=some (I kk m)) (hm:m=(k:Int)) (M:k<len):Step P n o st ⟨opr x++opr y,[id]⟩ ⟨some (d,some (.one (.rp id (off+k) 0 sz))),[]⟩:=by
 refine Step.value hd B fun st' ha G S μ a w hs=>?_
 have c:=aI hs hx fun t ht=>ha.1 t (by simp[ht])
 have O:=cR (aI hs hy fun t ht=>ha.1 t (by simp[ht]));have q:st'.h id=some (.rarr te es elems):=by rw[ha.2 id (by simp),hh]
 simp only[aK,aQ] at c;obtain⟨_,c | ⟨te',es',elems',h1,h2,h3⟩⟩:=c
 ·rw[q] at c;cases c
 rw[q] at h1;cases h1;obtain⟨h4,⟨U,r,h7⟩ | ⟨b,base,cap,U,r⟩⟩:=h3 hsz
 ·subst r;simp at hsz;omega
 subst hm;refine⟨.pointer (some ⟨b,base+(off+k)*es+0,none⟩),?_,?_⟩
 ·simp only[execOp,ho,r,O,δ,gR Y hi hk E w b (base+off*es) len _ k kk M,θ,ε,J,Cb];rw[show base+off*es+k*es=base+(off+k)*es by rw[A2];omega]
 ·simp only[aK,aQ];exact⟨⟨_,rfl⟩,.inr ⟨te,es,elems,q,h2,fun _=>⟨by omega,b,base,cap,U,rfl⟩⟩⟩
theorem zZ {t y:TypeId}{i A:TI}{fs:List (Nat×TypeId)}{f c:Nat}{x:Operand}{id k fo sz:Nat}(I:Tok P T) (ho:o.op=.fieldAddr t x f) (J:o.dst=some d) (B:d<n) (hi:T[t]?=some (some i)) (M:i.k=.st fs) (O:fs[f]?=some (c,y)) (E:T[y]?=some (some A)) (U:A.size≠0)
  {te es:Nat} {elems:List (List R)} (hx:opv st x=some (.one (.rp id k fo sz))) (hh:st.h id=some (.rarr te es elems)) (hsz:sz=elems.length):Step P n o st ⟨opr x,[id]⟩ ⟨some (d,some (.one (.rp id k (fo+c) sz))),[]⟩:=by
 refine Step.value J B fun st' ha G S μ a w hs=>?_
 have q:=aI hs hx ha.1;have r:st'.h id=some (.rarr te es elems):=by rw[ha.2 id (by simp),hh]
 simp only[aK,aQ] at q;obtain⟨_,q | ⟨te',es',elems',h1,h2,Y⟩⟩:=q
 ·rw[r] at q;cases q
 rw[r] at h1;cases h1;obtain⟨h4,b,base,cap,h5,h6⟩:=Y hsz;refine⟨.pointer (some ⟨b,base+k*es+fo+c,none⟩),?_,?_⟩
 ·simp only[execOp,ho,h6,δ,eU I hi M O E U,θ,ε]
 ·simp only[aK,aQ];exact⟨⟨_,rfl⟩,.inr ⟨te,es,elems,r,h2,fun _=>⟨h4,b,base,cap,h5,by rw[add_assoc]⟩⟩⟩
theorem aGs {t e:TypeId}{i:TI}{x:Operand}{te es id off len sz:Nat}{elems:List (List R)}(y:Tok P T) (ho:o.op=.call { callee:=.builtin .len,args:= #[x],argTypes:= #[t] }) (E:o.dst=some d) (A:d<n) (hi:T[t]?=some (some i)) (B:i.k=.sl e)
  (hx:opv st x=some (.one (.ra id off len sz))) (hh:st.h id=some (.rarr te es elems)) (hsz:sz=elems.length):Step P n o st ⟨opr x,[id]⟩ ⟨some (d,some (I .i64 (len:Int))),[]⟩:=by
 refine Step.value E A fun st' ha G S μ a w hs=>?_
 have c:=aI hs hx ha.1;have q:st'.h id=some (.rarr te es elems):=by rw[ha.2 id (by simp),hh]
 simp only[aK,aQ] at c;obtain⟨_,c | ⟨U,Y,elems',h1,h2,J⟩⟩:=c
 ·rw[q] at c;cases c
 rw[q] at h1;cases h1;obtain⟨h4,⟨M,r,O⟩ | ⟨b,base,cap,M,r⟩⟩:=J hsz
 ·have hl:len=0:=by subst r;simp at hsz;omega
  subst hl;refine⟨goInt 0,gQ ho O ?_,by simp[aK,aQ,Rep,goInt]⟩;simp[Builtin.len_,Ah ((y.get hi).slice B) w]
 ·refine⟨goInt len,gQ ho r ?_,by simp[aK,aQ,Rep,goInt]⟩;simp[Builtin.len_,Ah ((y.get hi).slice B) w]
theorem aB7 {S:Sto}{μ:Mu}{H:bW}{es base:Nat}{elems:List (List R)}{vs:List Value}(h0:∀r∈elems,r.length=es) (h:aN S μ H elems.flatten ((vs.drop base).take (elems.length*es))) {k:Nat}{r:List R}(c:elems[k]?=some r):
  aN S μ H r ((vs.drop (base+k*es)).take es):=by
 have q:k<elems.length:=(Ad.1 c).1
 have hmul:(k+1)*es≤elems.length*es:=Au _ q;rw[A2] at hmul;have h1:=(h.drop (k*es)).take es;rw[nG h0 k r c] at h1;rw[drop_take,take_take,Cp,Cr (by omega)] at h1;exact h1
theorem aCg {t te es:Nat}{i:TI}{x:Operand}{id k fo sz:Nat}{elems:List (List R)}{r:List R}{y:V}(U:Tok P T) (ho:o.op=.load t x) (Y:o.dst=some d) (I:d<n) (hi:T[t]?=some (some i)) (hx:opv st x=some (.one (.rp id k fo sz)))
  (hh:st.h id=some (.rarr te es elems)) (hsz:sz=elems.length) (J:elems[k]?=some r) (hl:fo+i.size≤es) (hy:gX i ((r.drop fo).take i.size)=some y):Step P n o st ⟨opr x,[id]⟩ ⟨some (d,some y),[]⟩:=by
 refine Step.value Y I fun st' ha G S μ a w hs=>?_
 have q:=aI hs hx ha.1;have A:st'.h id=some (.rarr te es elems):=by rw[ha.2 id (by simp),hh]
 simp only[aK,aQ] at q;obtain⟨_,q | ⟨te',es',elems',h1,h2,h3⟩⟩:=q
 ·rw[A] at q;cases q
 rw[A] at h1;cases h1;obtain⟨h4,b,base,cap,h5,h6⟩:=h3 hsz;obtain⟨g0,vs,g1,g2,g3,g4,g5,g6⟩:=(hs.inv.obj id _ A).rarr h5;have E:=aB7 g0 g5 J;have c:=(E.drop fo).take i.size;rw[drop_take,take_take,Cp,Cr (by omega)] at c;have hlt:k<elems.length:=(Ad.1 J).1
 have hmul:(k+1)*es≤cap*es:=Au _ (by omega);rw[A2] at hmul;have M:((vs.drop (base+k*es+fo)).take i.size).length=i.size:=aQ9 (by omega);have O:=gT g1 (base+k*es+fo) i.size;refine⟨_,?_,iV c hy⟩;have B:=run_load (U.get hi) w b (base+k*es+fo) _ O M;simp only[execOp,ho,h6,δ,ε] at B ⊢;rw[B];rfl
theorem qO {x:Operand}{te es id k fo sz:Nat}{elems:List (List C)}{fz:Nat}(ho:o.op=.nilCheck x) (y:o.dst=some d) (r:d<n) (hx:opv st x=some (.one (.ep id k fo sz))) (hh:st.h id=some (.arr te es elems fz)) (hsz:sz=elems.length):
  Step P n o st ⟨opr x,[id]⟩ ⟨some (d,some (.one (.ep id k fo sz))),[]⟩:=by
 refine Step.value y r fun st' ha G S μ a w hs=>⟨a.eval x,?_,aI hs hx ha.1⟩
 have c:=aI hs hx ha.1;have q:st'.h id=some (.arr te es elems fz):=by rw[ha.2 id (by simp),hh]
 simp only[aK,aQ] at c;obtain⟨_,c | ⟨E,I,elems',J,h1,h2,A⟩⟩:=c
 ·rw[q] at c;cases c
 rw[q] at h1;cases h1;obtain⟨M,b,base,cap,O,B⟩:=A hsz;simp[execOp,ho,B]
theorem qN {x:Operand}{te es id k fo sz:Nat}{elems:List (List R)}(ho:o.op=.nilCheck x) (y:o.dst=some d) (r:d<n) (hx:opv st x=some (.one (.rp id k fo sz))) (hh:st.h id=some (.rarr te es elems)) (hsz:sz=elems.length):
  Step P n o st ⟨opr x,[id]⟩ ⟨some (d,some (.one (.rp id k fo sz))),[]⟩:=by
 refine Step.value y r fun st' ha G S μ a w hs=>⟨a.eval x,?_,aI hs hx ha.1⟩
 have c:=aI hs hx ha.1;have q:st'.h id=some (.rarr te es elems):=by rw[ha.2 id (by simp),hh]
 simp only[aK,aQ] at c;obtain⟨_,c | ⟨E,I,elems',h1,h2,A⟩⟩:=c
 ·rw[q] at c;cases c
 rw[q] at h1;cases h1;obtain⟨J,b,base,cap,M,B⟩:=A hsz;simp[execOp,ho,B]
end
section
variable {P:Program}{n:Nat}{o:Oper}{st:St}{d:Nat}{T:TT}
theorem pZ {t e:TypeId}{i q:TI}{x y:Operand}{id id2 sz te2:Nat}{elems rows:List (List R)}{st':St}{G:Ctx}{S:Sto}{μ:Mu}{a:Act}{w:World}(hT:Tok P T) (ho:o.op=.call { callee:=.builtin .append,args:= #[x,y],argTypes:= #[t,t] })
  (hi:T[t]?=some (some i)) (hk:i.k=.sl e) (hei:T[e]?=some (some q)) (hes:Nat.ble 1 q.size=true) (heb:Nat.ble 1 q.bytes=true)
  (hsz:sz=elems.length) (hpos:0<rows.length) (hroom:(elems.length+rows.length)*q.bytes≤140737488355328) (hh':st'.h id=some (.rarr e q.size elems)) (hs:Sim G n S μ st' a w)
  (hvx:aK S μ st'.h (.one (.ra id 0 sz sz)) (a.eval x)) (hvy:aK S μ st'.h (.one (.ra id2 0 rows.length rows.length)) (a.eval y)) (hh2:st'.h id2=some (.rarr te2 q.size rows)):
  ∃w' v b bo c,(execOp a.eval o).run P w=.ok (.value v) w'∧(w.heap.size≤b∨∃c',μ id=some (b,c'))∧WChg w w' b bo∧
   iG S (upd μ id (some (b,c))) (upd st'.h id (some (.rarr e q.size (elems++rows)))) w' id (.rarr e q.size (elems++rows))∧(∀o v,S.cell b o=some v→∃vs t fr,bo=.cells vs t fr∧vs[o]?=some v)∧(∀m,S.mapo b=some m→w.heap.size≤b)∧
   Evolve S μ st'.h S (upd μ id (some (b,c))) (upd st'.h id (some (.rarr e q.size (elems++rows))))∧
   aK S (upd μ id (some (b,c))) (upd st'.h id (some (.rarr e q.size (elems++rows)))) (.one (.ra id 0 (elems.length+rows.length) (elems.length+rows.length))) v:=by
 subst hsz;have hes':=Ak hes;have heb':=Ak heb
 have hE:∀b c,Evolve S μ st'.h S (upd μ id (some (b,c))) (upd st'.h id (some (.rarr e q.size (elems++rows)))):=fun b c=>⟨S.le_refl,fun j x B=>by
  by_cases hne:j=id
  ·subst hne;rw[hh'] at B;cases B;exact⟨_,aH _ _ _,by simp only[AObj.succ,true_and];exact⟨by simp,fun e=>by rw[ζ] at e;omega⟩⟩
  ·exact⟨x,by rw[bC _ _ _ hne];exact B,x.succ_refl (bC _ _ _ hne)⟩⟩
 obtain⟨ad,cc,news,hvy1,E,hrl,M⟩:∃ad cc news,a.eval y=.slice (some ad) rows.length cc∧aN S μ st'.h rows.flatten news∧(∀r∈rows,r.length=q.size)∧∀j u,news[j]?=some u→w.cell? (ad.add j)=some u:=by
  simp only[aK,aQ] at hvy;obtain⟨_,hv | ⟨te',es',elems',h1,h2,h3⟩⟩:=hvy
  ·rw[hh2] at hv;cases hv
  rw[hh2] at h1;cases h1;obtain⟨h4,⟨h5,O,h7⟩ | ⟨b,base,cap,h5,O⟩⟩:=h3 rfl
  ·rw[O] at hpos;simp at hpos
  obtain⟨g0,vs,g1,g2,g3,g4,g5,g6⟩:=(hs.inv.obj id2 _ hh2).rarr h5;refine⟨_,_,_,O,g5,g0,fun j u B=>?_⟩;rw[Addr.add_mid,cell_of_row w b _ ⟨vs⟩ te2 (0,0) g1];rw[Ai] at B;split at B
  ·rw[Aj] at B;simpa using B
  ·cases B
 have I:news.length=rows.length*q.size:=by rw[E.length,fA hrl]
 obtain⟨inf,dd,z,g1,g2,g3,g4,g5,g6,g7,g8⟩:=(hT.get hei).ex;have hu:=(hT.get hi).slice hk;have hzs:z.cells.size=q.size:=by
  have h1:=(gI (S:=S) g7).length;rw[(hT.get hei).len] at h1;simpa using h1
 simp only[aK,aQ] at hvx;obtain⟨_,hv | ⟨te',es',elems',h1,h2,h3⟩⟩:=hvx
 ·rw[hh'] at hv;cases hv
 rw[hh'] at h1;cases h1;obtain⟨h4,hcase⟩:=h3 rfl;have hbig:elems.length+rows.length≤140737488355328:=by
  have:(elems.length+rows.length)*1≤(elems.length+rows.length)*q.bytes:=Nat.mul_le_mul_left _ heb';omega
 have hone:∀u∈news,u.oneCell'=true:=E.one;have hcap:∀old,elems.length+rows.length≤grownCap w (elems.length+rows.length) old e∧grownCap w (elems.length+rows.length) old e≤maxLen:=fun old=>
  ⟨grownCap_ge _ _ _ _,grownCap_le_maxLen _ _ _ _ (by unfold maxLen;omega)⟩
 have hlen':(elems++rows).length=elems.length+rows.length:=by simp
 have J:∀(U:List Value) (old:Nat),aN S μ st'.h elems.flatten U→∀g0:(∀r∈elems,r.length=q.size),
   iG S (upd μ id (some (w.heap.size,0,grownCap w (elems.length+rows.length) old e))) (upd st'.h id (some (.rarr e q.size (elems++rows))))
    (w.drew.alloc (.cells (U.toArray++news.toArray++Builtin.zeroCells z.cells (grownCap w (elems.length+rows.length) old e-(elems.length+rows.length))) e)) id (.rarr e q.size (elems++rows)):=by
  intro U old hol g0;obtain⟨hc1,hc2⟩:=hcap old;have Y:=hol.length;rw[fA g0] at Y;refine⟨?_,.inr ⟨w.heap.size,0,grownCap w (elems.length+rows.length) old e,(U.toArray++news.toArray++Builtin.zeroCells z.cells (grownCap w (elems.length+rows.length) old e-(elems.length+rows.length))).toList,aH _ _ _,Bx w.drew _,?_,by simpa using hc1,⟨hc2,nU hs.inv⟩,?_,fun o _=>eA hs.inv o⟩⟩
  ·intro r A;rcases Bi.1 A with A | A
   ·exact g0 r A
   ·exact hrl r A
  ·simp only[Array.toList_append,ζ,Av,size_zeroCells,hzs];simp only[Y,I,A5,←A2];exact Au _ (by omega)
  ·simp only[Array.toList_append,B1,ζ,Ch];rw[Cf (by simp[Y,I,A2]),Aq (by simp[Y,I,A2])];exact(aN.evolve (hE _ _) _ _ hol).append (aN.evolve (hE _ _) _ _ E)
 rcases hcase with⟨h5,O,h7⟩ | ⟨b,base,cap,h5,O⟩
 ·--the first elements
  subst O;simp only[length_nil,A5] at hroom hbig J hcap;have A:=run_append_nil (P:=P) w t o.type e inf z hu g1 g6 ad rows.length cc news (by rw[I,g3]) M (by omega) (by omega) (by rw[g4];omega);refine⟨_,_,w.heap.size,_,(0,grownCap w rows.length 0 e),dD ho h7 hvy1 A,.inl (le_refl _),WChg.alloc_drew w _,?_,fun o v e=>(by rw[eA hs.inv o] at e;cases e),fun m e=>le_refl _,hE _ _,?_⟩
  ·have:=J [] 0 (by simp[aN]) (by simp);simpa using this
  ·simp only[aK,aQ];exact⟨⟨_,_,_,rfl⟩,.inr ⟨e,q.size,_,aH _ _ _,by simp,fun _=>⟨by simp,.inr ⟨w.heap.size,0,_,aH _ _ _,by simp⟩⟩⟩⟩
 ·obtain⟨q0,vs,q1,q2,q3,q4,q5,q6⟩:=(hs.inv.obj id _ hh').rarr h5;have hce:elems.length*q.size≤cap*q.size:=Au _ q3;simp only[sub_zero,zero_mul,Cb] at O;by_cases aa:elems.length+rows.length≤cap
  ·--there is room
   have hce2:(elems.length+rows.length)*q.size≤cap*q.size:=Au _ aa;rw[A2] at hce2;have A:=i6 (P:=P) w t o.type e inf hu g1 b base elems.length cap ⟨vs⟩ q1 ad rows.length cc news (by rw[I,g3]) M hone aa (by rw[g3,I];simp only[size_toArray];omega);rw[g3] at A;have hW:=WChg.setRow w b ⟨vs⟩ ⟨vs.take (base+elems.length*q.size)++news++vs.drop (base+elems.length*q.size+news.length)⟩ e (0,0) q1
   refine⟨_,_,b,_,(base,cap),dD ho O hvy1 A,.inr ⟨_,h5⟩,hW,⟨?_,.inr ⟨b,base,cap,_,aH _ _ _,hW.new,?_,by rw[hlen'];omega,q4,?_,q6⟩⟩,fun o v e=>(by
     by_cases hb:base≤o
     ·rw[q6 o hb] at e;cases e
     ·obtain⟨vs0,t0,fr0,p1,p2⟩:=hs.inv.holds.1 b o v e;rw[q1] at p1;cases p1;refine⟨_,_,_,rfl,?_⟩;simp only[B9] at p2 ⊢;have hlt:o<vs.length:=(Ad.1 p2).1
      rw[Ar,A1 (by simp;omega),Ai,ξ (by omega)]
      exact p2),fun m e=>dT q4.2 m e,hE _ _,?_⟩
   ·intro r A;rcases Bi.1 A with A | A
    ·exact q0 r A
    ·exact hrl r A
   ·simp only[ζ,Al,Bf];omega
   ·rw[hlen',Ch];have e1:((vs.take (base+elems.length*q.size)++news++vs.drop (base+elems.length*q.size+news.length)).drop base).take ((elems.length+rows.length)*q.size)=(vs.drop base).take (elems.length*q.size)++news:=by
     rw[Ar,List.drop_append_of_le_length (by simp;omega),←Ar,Cf (by simp[A2];omega)];rw[Aq (by simp[A2];omega),drop_take];rw[show base+elems.length*q.size-base=elems.length*q.size by omega]
    rw[e1];exact(aN.evolve (hE _ _) _ _ q5).append (aN.evolve (hE _ _) _ _ E)
   ·simp only[aK,aQ];exact⟨⟨_,_,_,rfl⟩,.inr ⟨e,q.size,_,aH _ _ _,by simp,fun _=>⟨by simp,.inr ⟨b,base,cap,aH _ _ _,by simp⟩⟩⟩⟩
  ·--into a new block
   have A:=run_append_grow (P:=P) w t o.type e inf z hu g1 g6 ⟨b,base,none⟩ elems.length cap ((vs.drop base).take (elems.length*q.size)) (by rw[g3];simp;omega) (by
     intro j v B;rw[Addr.add_mid,cell_of_row w b _ ⟨vs⟩ e (0,0) q1];rw[Ai] at B;split at B
     ·rw[Aj] at B;simpa using B
     ·cases B) ad rows.length cc news (by rw[I,g3]) M (by omega) (by omega) (by rw[g4];exact growslice_fits (by omega) hroom)
   refine⟨_,_,w.heap.size,_,(0,grownCap w (elems.length+rows.length) cap e),dD ho O hvy1 A,.inl (le_refl _),WChg.alloc_drew w _,?_,fun o v e=>(by rw[eA hs.inv o] at e;cases e),fun m e=>le_refl _,hE _ _,?_⟩
   ·have:=J _ cap q5 q0;simpa using this
   ·simp only[aK,aQ];exact⟨⟨_,_,_,rfl⟩,.inr ⟨e,q.size,_,aH _ _ _,by simp,fun _=>⟨by simp,.inr ⟨w.heap.size,0,_,aH _ _ _,by simp⟩⟩⟩⟩
theorem y1 {y:V}{id te es:Nat}{elems:List (List R)}(M:o.dst=some d) (A:d<n) {st':St}{G:Ctx}{S:Sto}{μ:Mu}{a:Act}{w:World}{K:Act→World→Prop}{Q:Exit→Act→World→Prop}
  (hs:Sim G n S μ st' a w) (q:∀b c',μ id=some (b,c')→∃ao,st'.h id=some ao) (O:∀S' μ' B w',Sim G n S' μ' (Eff.apply ⟨some (d,some y),[(id,some (.rarr te es elems))]⟩ st') B w'→K B w')
  (h:∃w' v b r c,(execOp a.eval o).run P w=.ok (.value v) w'∧(w.heap.size≤b∨∃c',μ id=some (b,c'))∧WChg w w' b r∧iG S (upd μ id (some (b,c))) (upd st'.h id (some (.rarr te es elems))) w' id (.rarr te es elems)∧
   (∀o v,S.cell b o=some v→∃vs t U,r=.cells vs t U∧vs[o]?=some v)∧(∀m,S.mapo b=some m→w.heap.size≤b)∧Evolve S μ st'.h S (upd μ id (some (b,c))) (upd st'.h id (some (.rarr te es elems)))∧aK S (upd μ id (some (b,c))) (upd st'.h id (some (.rarr te es elems))) y v):
  ∀ro,o.wpIn (Wd ro) 0 P a w K Q:=by
 obtain⟨w',v,b,r,c,Y,hb,hw,hO,hS,E,I,hv⟩:=h;refine fun ro=>dK Y ?_
 rw[M];have hi:=hs.inv.chg (id:=id) (cap:=c) (ao:=.rarr te es elems) hw (hb.imp (fun h=>h) fun⟨c',h⟩=>by obtain⟨ao,J⟩:=q _ _ h;exact⟨_,c',J,h⟩) I hO hS E;have:=hs.put hi I A (x:=some y) (v:=v) (fun z hz=>by cases hz;exact hv);refine O S (upd μ id (some (b,c))) _ _ ?_;unfold Eff.apply;rw[bU];exact this
theorem aCr {t e:TypeId}{i c:TI}{x y:Operand}{id q sz A:Nat}{elems rows:List (List R)}(hT:Tok P T) (ho:o.op=.call { callee:=.builtin .append,args:= #[x,y],argTypes:= #[t,t] }) (hd:o.dst=some d) (J:d<n)
  (hi:T[t]?=some (some i)) (hk:i.k=.sl e) (M:T[e]?=some (some c)) (O:Nat.ble 1 c.size=true) (U:Nat.ble 1 c.bytes=true)
  (hx:opv st x=some (.one (.ra id 0 sz sz))) (hh:st.h id=some (.rarr e c.size elems)) (hsz:sz=elems.length) (hy:opv st y=some (.one (.ra q 0 rows.length rows.length))) (Y:st.h q=some (.rarr A c.size rows)) (E:0<rows.length)
  (r:(elems.length+rows.length)*c.bytes≤140737488355328):
  Step P n o st ⟨opr x++opr y,[id,q]⟩ ⟨some (d,some (.one (.ra id 0 (elems.length+rows.length) (elems.length+rows.length)))),[(id,some (.rarr e c.size (elems++rows)))]⟩:=by
 intro st' ha G S μ a w K Q hs aa;have ab:=aI hs hx fun t ht=>ha.1 t (by simp[ht])
 have ac:=aI hs hy fun t ht=>ha.1 t (by simp[ht])
 have B:st'.h id=some (.rarr e c.size elems):=by rw[ha.2 id (by simp),hh]
 have I:st'.h q=some (.rarr A c.size rows):=by rw[ha.2 q (by simp),Y]
 exact y1 hd J hs (fun _ _ _=>⟨_,B⟩) aa (pZ hT ho hi hk M O U hsz E r B hs ab ac I)
theorem Inv.emptyR {G:Ctx}{S:Sto}{μ:Mu}{H:bW}{w:World}{id:Nat}(te es:Nat) (h:Inv G S μ H w) (hid:H id=none):Inv G S (upd μ id none) (upd H id (some (.rarr te es []))) w∧Evolve S μ H S (upd μ id none) (upd H id (some (.rarr te es []))):=by
 have A:Evolve S μ H S (upd μ id none) (upd H id (some (.rarr te es []))):=eP hid _ _;refine⟨⟨h.holds,fun j x q=>?_,fun i j x B b c c' hi q hm r=>?_,fun i x b c hi hm=>?_,h.frame,h.sle,h.sto,h.evo.trans A,h.fre⟩,A⟩
 ·by_cases y:j=id
  ·subst y;rw[aH] at q;cases q;exact⟨by simp,.inl ⟨aH _ _ _,rfl⟩⟩
  ·rw[bC _ _ _ y] at q;exact(h.obj j x q).evolve A (bC _ _ _ y) fun _ _ _=>⟨rfl,fun _=>rfl,rfl⟩
 ·have h1:i≠id:=fun e=>by subst e;rw[aH] at hm;cases hm
  have h2:j≠id:=fun e=>by subst e;rw[aH] at r;cases r
  rw[bC _ _ _ h1] at hi hm;rw[bC _ _ _ h2] at q r;exact h.inj i j x B b c c' hi q hm r
 ·have h1:i≠id:=fun e=>by subst e;rw[aH] at hm;cases hm
  rw[bC _ _ _ h1] at hi hm;exact h.own i x b c hi hm
theorem aAc {t e:TypeId}{i q:TI}{x y:Operand}{r J:Nat}{rows:List (List R)}(id:Nat) (hT:Tok P T) (ho:o.op=.call { callee:=.builtin .append,args:= #[x,y],argTypes:= #[t,t] }) (hd:o.dst=some d) (aa:d<n)
  (hi:T[t]?=some (some i)) (hk:i.k=.sl e) (ab:T[e]?=some (some q)) (ac:Nat.ble 1 q.size=true) (ad:Nat.ble 1 q.bytes=true)
  (hx:opv st x=some (.one (.c .nl))) (hid:st.h id=none) (hy:opv st y=some (.one (.ra r 0 rows.length rows.length))) (ae:st.h r=some (.rarr J q.size rows)) (O:0<rows.length)
  (I:rows.length*q.bytes≤140737488355328):
  Step P n o st ⟨opr x++opr y,[id,r]⟩ ⟨some (d,some (.one (.ra id 0 rows.length rows.length))),[(id,some (.rarr e q.size rows))]⟩:=by
 intro st' ha G S μ a w K Q hs af;have B:st'.h id=none:=by rw[ha.2 id (by simp),hid]
 obtain⟨ag,U⟩:=hs.inv.emptyR e q.size B;have M:Sim G n S (upd μ id none) ⟨st'.e,upd st'.h id (some (.rarr e q.size [])),st'.d⟩ a w:=⟨ag,hs.size,hs.defers.evolve U,fun t v e=>aK.evolve U v _ (hs.env t v e)⟩
 have E:=aI hs hx fun t ht=>ha.1 t (by simp[ht])
 have ah:=aI hs hy fun t ht=>ha.1 t (by simp[ht])
 have A:st'.h r=some (.rarr J q.size rows):=by rw[ha.2 r (by simp),ae]
 simp only[aK,aQ,Rep] at E;have Y:aK S (upd μ id none) (upd st'.h id (some (.rarr e q.size []))) (.one (.ra id 0 0 0)) (a.eval x):=by
  simp only[aK,aQ];exact⟨⟨_,_,_,E⟩,.inr ⟨e,q.size,[],aH _ _ _,le_refl _,fun _=>⟨le_refl _,.inl ⟨aH _ _ _,rfl,E⟩⟩⟩⟩
 have ai:r≠id:=fun e=>by subst e;rw[B] at A;cases A
 have:=pZ (elems:=[]) (id:=id) hT ho hi hk ab ac ad rfl O (by simpa using I) (aH _ _ _) M Y (aK.evolve U _ _ ah) (by
  show upd st'.h id (some (.rarr e q.size [])) r=_;rw[bC _ _ _ ai]
  exact A)
 refine y1 hd aa M (fun _ _ _=>⟨_,aH _ _ _⟩) (fun S' μ' a' w' h=>af S' μ' a' w' ?_) this;have e1:Eff.apply ⟨some (d,some (.one (.ra id 0 (([]:List (List R)).length+rows.length) (([]:List (List R)).length+rows.length)))),[(id,some (.rarr e q.size ([]++rows)))]⟩ ⟨st'.e,upd st'.h id (some (.rarr e q.size [])),st'.d⟩
   =Eff.apply ⟨some (d,some (.one (.ra id 0 rows.length rows.length))),[(id,some (.rarr e q.size rows))]⟩ st':=by
  unfold Eff.apply;rw[bU,bU,lP];simp
 rw[e1] at h;exact h
end
section
variable {P:Program}{n:Nat}{o:Oper}{st:St}{d:Nat}{T:TT}
theorem aKd {src dst:TypeId}{i j:TI}{x:Operand}{k k':IntKind}{m:Int}(c:Tok P T) (ho:o.op=.convert src dst x) (A:o.dst=some d) (q:d<n) (hi:T[src]?=some (some i)) (r:i.k=.int k) (B:T[dst]?=some (some j)) (y:j.k=.int k')
  (hx:opv st x=some (I k m)):Step P n o st ⟨opr x,[]⟩ ⟨some (d,some (I k' (k'.wrap m))),[]⟩:=by
 refine Step.value A q fun st' ha G S μ a w hs=>?_
 have E:=cR (aI hs hx ha.1);refine⟨.int k' (k'.wrap m),?_,by simp[aK,aQ,Rep]⟩;have h1:=(c.get hi).int r;have h2:=(c.get B).int y;simp only[execOp,ho,E,δ,convert,Ah h1 w,Ah h2 w,θ,Conv.intToInt,ε]
theorem aKe {src dst e:TypeId}{i j Y:TI}{x:Operand}{v:V}{ids:List Nat}{rows:List (List C)}{q:List Int}(I:Tok P T) (ho:o.op=.convert src dst x) (hd:o.dst=some d) (aa:d<n) (hi:T[src]?=some (some i)) (ab:i.k=.sl e) (ac:T[e]?=some (some Y)) (ae:Y.k=.int .u8)
  (J:T[dst]?=some (some j)) (af:j.k=.str) (hx:opv st x=some v) (M:Src st 1 ids v rows) (O:rows=q.map fun m=>[C.int .u8 m]):Step P n o st ⟨opr x,ids⟩ ⟨some (d,some (Go.AM.T (q.map fun m=>UInt8.ofNat m.toNat))),[]⟩:=by
 refine Step.value hd aa fun st' ha G S μ a w hs=>?_
 have hv:=aI hs hx ha.1;obtain⟨r,c,news,h1,h2,h3,h4,h5⟩:=M.rel hs ha.2 hv;have A:=(I.get hi).slice ab;have B:=(I.get ac).int ae;have E:=(I.get J).str af;have y:∀(q:List Int) (news:List Value),bR S (q.map fun m=>[C.int .u8 m]).flatten news→news=q.map (Value.int .u8):=by
  intro q
  induction q with
  | nil=>intro news h;simpa [bR] using h
  | cons m q ih=>
   intro news h;simp only[As,A6,List.singleton_append,bR,Rep] at h;obtain⟨u,us,rfl,rfl,h⟩:=h;rw[ih us h];rfl
 rw[O] at h2;have hn:=y q news h2;have U:(convert src dst (a.eval x)).run P w=.ok (.string ⟨⟨q.map fun m=>UInt8.ofNat m.toNat⟩⟩) w:=by
  rw[h1];cases r with
  | none=>
   have h6:=h4 rfl;rw[O] at h6;have:q=[]:=by simpa using h6
   subst this;exact run_convert_bytes_nil w src e A B _ _ dst E
  | some r=>
   have hlen:rows.length=q.length:=by rw[O];simp
   have hl:(loadCells r q.length).run P w=.ok (q.map (Value.int .u8)).toArray w:=by
    have:=run_loadCells_list (P:=P) w r (q.map (Value.int .u8)) (fun j v J=>h5 r rfl j v (by rw[hn];exact J));simpa using this
   rw[hlen,run_convert_bytes_string w src dst e _ _ _ A B E,run_bytesToString w _ _ _ q hl,foldl_push_bytes];simp[ByteArray.empty,ByteArray.emptyWithCapacity];rfl
 refine⟨.string ⟨⟨q.map fun m=>UInt8.ofNat m.toNat⟩⟩,?_,by simp[aK,aQ,Rep]⟩;simp only[execOp,ho,δ,U,θ,ε]
theorem aZ.length {S:Sto}{agg:Bool}:∀{l:List (List C)}{es:List MapEntry},aZ S agg l es→es.length=l.length
 | [],es,h=>by simp only[aZ] at h;subst h;rfl
 | r::rs,es,h=>by
  simp only[aZ] at h;obtain⟨e,c,rfl,_,h⟩:=h;simp[aZ.length h]
theorem aCl {t J M:TypeId}{i:TI}{x:Operand}{id:Nat}{agg:Bool}{ents:List (List C)}(O:Tok P T) (ho:o.op=.call { callee:=.builtin .len,args:= #[x],argTypes:= #[t] }) (U:o.dst=some d) (r:d<n) (hi:T[t]?=some (some i)) (Y:i.k=.mp J M)
  (hx:opv st x=some (.one (.mr id))) (hh:st.h id=some (.map agg ents)) (y:iU ents):Step P n o st ⟨opr x,[id]⟩ ⟨some (d,some (I .i64 (ents.length:Int))),[]⟩:=by
 refine Step.value U r fun st' ha G S μ a w hs=>?_
 have A:=aI hs hx ha.1;have q:st'.h id=some (.map agg ents):=by rw[ha.2 id (by simp),hh]
 simp only[aK,aQ] at A;obtain⟨aa,E,b,c,h1,h2,h3⟩:=A;rw[q] at h1;cases h1;obtain⟨b',es,clk,B,q2,q3,q4⟩:=hs.inv.obj id _ q;rw[h2] at B;cases B;have hl:=(q3.rep y).length;refine⟨goInt ents.length,gQ ho h3 ?_,by simp[aK,aQ,Rep,goInt]⟩;have hg:(getObj b).run P w=.ok (.map es clk) w:=MapKept.run_getObj_map q2;simp at hl;simp[Builtin.len_,Ah ((O.get hi).map Y) w,hg,hl]
end
section
variable {P:Program}{n:Nat}{T:TT}{o:Oper}{st:St}{d:Nat}
theorem nM {t e:TypeId}{i B:TI}{x y:Operand}{A es k:Nat}{kk:IntKind}{m:Int}{l r:List R}(hT:Tok P T) (ho:o.op=.indexAddr t x y) (hd:o.dst=some d) (E:d<n) (hi:T[t]?=some (some i)) (hk:i.k=.sl e) (J:T[e]?=some (some B)) (M:B.size=es)
  (hx:opv st x=some (.one (.ras A es l))) (hy:opv st y=some (I kk m)) (hm:m=(k:Int)) (O:k<A) (hr:(l.drop (k*es)).take es=r):Step P n o st ⟨opr x++opr y,[]⟩ ⟨some (d,some (.one (.pas r))),[]⟩:=by
 refine Step.value hd E fun st' ha G S μ a w hs=>?_
 have U:=aI hs hx (c8 ha).1;have Y:=cR (aI hs hy (c8 ha).2);simp only[aK,aQ] at U;obtain⟨c,cap,h1,h2,h3,h4,h5,h6,b,off,h7,vs,h8,h9⟩:=U;cases c with
 | none=>have:=(h5 rfl).1;omega
 | some c=>
  obtain⟨h10,h10'⟩:=h7 c rfl;have h11:=h6 c rfl;have aa:c=⟨b,off,none⟩:=by cases c;simp_all
  subst aa;subst hm;refine⟨.pointer (some ⟨b,off+k*es,none⟩),?_,?_⟩
  ·simp only[execOp,ho,h1,Y,δ,gR hT hi hk J w b off A cap k kk O,θ,ε,M]
  ·simp only[aK,aQ];subst hr;refine⟨b,off+k*es,rfl,(vs.drop (k*es)).take es,(h8.drop (k*es)).take es,fun j v q=>?_⟩;rw[Ai] at q;split at q
   ·rw[Aj] at q;have:=h9 _ v q;rwa [←add_assoc] at this
   ·cases q
theorem zV {t:TypeId}{i:TI}{x:Operand}{l:List R}{y:V}(B:Tok P T) (ho:o.op=.load t x) (E:o.dst=some d) (q:d<n) (hi:T[t]?=some (some i)) (hx:opv st x=some (.one (.pas l)))
  (hl:i.size≤l.length) (hy:gX i (l.take i.size)=some y):Step P n o st ⟨opr x,[]⟩ ⟨some (d,some y),[]⟩:=by
 refine Step.value E q fun st' ha G S μ a w hs=>?_
 have r:=aI hs hx ha.1;simp only[aK,aQ] at r;obtain⟨b,off,h1,vs,h2,I⟩:=r;have M:=h2.length;refine⟨_,?_,iV (h2.take i.size) hy⟩;have J:=jK hs.inv.holds I;have A:w.rangeAt b off (vs.take i.size):=fun j v c=>by
  rw[Ai] at c;split at c
  ·exact J j v c
  ·cases c
 simp only[execOp,ho,h1,δ,run_load (B.get hi) w b off _ A (by simp;omega),θ,ε]
theorem vE {t q:TypeId}{i r:TI}{fs:List (Nat×TypeId)}{f c:Nat}{x:Operand}{l:List R}(I:Tok P T) (ho:o.op=.fieldAddr t x f) (J:o.dst=some d) (y:d<n) (hi:T[t]?=some (some i)) (M:i.k=.st fs) (O:fs[f]?=some (c,q)) (A:T[q]?=some (some r)) (U:r.size≠0)
  (hx:opv st x=some (.one (.pas l))):Step P n o st ⟨opr x,[]⟩ ⟨some (d,some (.one (.pas (l.drop c)))),[]⟩:=by
 refine Step.value J y fun st' ha G S μ a w hs=>?_
 have B:=aI hs hx ha.1;simp only[aK,aQ] at B;obtain⟨b,off,h1,vs,h2,Y⟩:=B;refine⟨.pointer (some ⟨b,off+c,none⟩),?_,?_⟩
 ·simp only[execOp,ho,h1,δ,eU I hi M O A U,θ,ε]
 ·simp only[aK,aQ];refine⟨b,off+c,rfl,vs.drop c,h2.drop c,fun j v E=>?_⟩;rw[Aj] at E;have:=Y (c+j) v E;rwa [←add_assoc] at this
theorem aCk {t e:TypeId}{i:TI}{x:Operand}{c es:Nat}{l:List R}(y:Tok P T) (ho:o.op=.call { callee:=.builtin .len,args:= #[x],argTypes:= #[t] }) (A:o.dst=some d) (q:d<n) (hi:T[t]?=some (some i)) (B:i.k=.sl e)
  (hx:opv st x=some (.one (.ras c es l))):Step P n o st ⟨opr x,[]⟩ ⟨some (d,some (I .i64 (c:Int))),[]⟩:=by
 refine Step.value A q fun st' ha G S μ a w hs=>?_
 have r:=aI hs hx ha.1;simp only[aK,aQ] at r;obtain⟨E,cap,h1,_⟩:=r;refine⟨goInt c,gQ ho h1 ?_,by simp[aK,aQ,Rep,goInt]⟩;simp[Builtin.len_,Ah ((y.get hi).slice B) w]
theorem zS {t te es:Nat}{i:TI}{x y:Operand}{id k fo sz:Nat}{elems:List (List R)}{v:V}{cs r:List R}(hT:Tok P T) (ho:o.op=.store t x y) (hd:o.dst=none) (hi:T[t]?=some (some i)) (hx:opv st x=some (.one (.rp id k fo sz)))
  (hy:opv st y=some v) (hc:eG v=some cs) (hh:st.h id=some (.rarr te es elems)) (hsz:sz=elems.length) (M:elems[k]?=some r) (hcs:cs.length=i.size) (hl:fo+i.size≤es):
  Step P n o st ⟨opr x++opr y,[id]⟩ ⟨none,[(id,some (.rarr te es (elems.set k (bJ r fo cs))))]⟩:=by
 refine Step.turn hd hh (by simp) (by simp[AObj.succ]) fun st' ha A G S μ a w hs=>?_
 have Y:=aI hs hx fun t ht=>ha.1 t (by simp[ht])
 have hvy:=aI hs hy fun t ht=>ha.1 t (by simp[ht])
 simp only[aK,aQ] at Y;obtain⟨_,hv | ⟨te',es',elems',h1,h2,h3⟩⟩:=Y
 ·rw[A] at hv;cases hv
 rw[A] at h1;cases h1;obtain⟨h4,b,base,cap,h5,h6⟩:=h3 hsz;obtain⟨g0,vs,g1,g2,g3,g4,g5,g6⟩:=(hs.inv.obj id _ A).rarr h5;have hrel:=cK hvy hc;have E:=hrel;have hone:=hrel.one;have hnl:=E.length;have hk:k<elems.length:=(Ad.1 M).1
 have hres:r.length=es:=g0 r (Ag M);have hke:(k+1)*es≤elems.length*es:=Au _ hk;have hce:elems.length*es≤cap*es:=Au _ g3;rw[A2] at hke;generalize O:(a.eval y).cells.toList=news at *;have hrun:=run_store (hT.get hi) w b (base+k*es+fo) vs news te (a.eval y) g1 O (by omega) (by omega) hone;have hE:=fD (S:=S) (μ:=μ) (o':=.rarr te es (elems.set k (bJ r fo cs))) A h5 (by simp[AObj.succ]);have I:=aB7 g0 g5 M;have B:=vT g0 k r M;have hlen:(elems.set k (bJ r fo cs)).length=elems.length:=by simp
 have hW:=WChg.setRow w b ⟨vs⟩ ⟨vs.take (base+k*es+fo)++news++vs.drop (base+k*es+fo+news.length)⟩ te (0,0) g1;refine⟨_,_,b,(base,cap),?_,h5,hW,⟨?_,.inr ⟨b,base,cap,_,aH _ _ _,hW.new,?_,by rw[hlen];exact g3,g4,?_,g6⟩⟩,fun o v e=>?_,fun m e=>dT g4.2 m e⟩
 ·simp only[execOp,ho,h6,δ,hrun,θ,ε]
 ·intro q hq;rcases List.mem_or_eq_of_mem_set hq with hq | rfl
  ·exact g0 q hq
  ·unfold bJ;simp;omega
 ·simp only[ζ,Al,Bf];omega
 ·rw[hlen];have e1:(elems.set k (bJ r fo cs)).flatten=elems.flatten.take (k*es)++(r.take fo++cs++r.drop (fo+cs.length))++elems.flatten.drop (k*es+es):=by
   rw[Ca,ξ hk,Ch,A6,B.1,B.2,←Ar];rfl
  have e2:((vs.take (base+k*es+fo)++news++vs.drop (base+k*es+fo+news.length)).drop base).take (elems.length*es)=
    ((vs.drop base).take (elems.length*es)).take (k*es)++((((vs.drop (base+k*es)).take es).take fo)++news++(((vs.drop (base+k*es)).take es).drop (fo+cs.length)))++((vs.drop base).take (elems.length*es)).drop (k*es+es):=by
   apply B2;intro j;simp only[Ai,Aj,By,ζ,Al,Bf];have hm1:min (k*es) (min (elems.length*es) (vs.length-base))=k*es:=by omega
   have hm2:min (base+k*es+fo) vs.length=base+k*es+fo:=by omega
   have hm3:min fo es=fo:=by omega
   have hm4:min es (vs.length-(base+k*es))=es:=by omega
   simp only[hm1,hm2,hm3,hm4,hnl];by_cases U:j<k*es
   ·have c:j<elems.length*es:=by omega
    have a2:base+j<base+k*es+fo:=by omega
    have a3:base+j<base+k*es+fo+cs.length:=by omega
    have a4:j<k*es+(fo+cs.length+(es-(fo+cs.length))):=by omega
    simp[U,c,a2,a3,a4]
   ·by_cases c2:j<k*es+fo
    ·have c:j<elems.length*es:=by omega
     have a2:base+j<base+k*es+fo:=by omega
     have a3:base+j<base+k*es+fo+cs.length:=by omega
     have a4:j<k*es+(fo+cs.length+(es-(fo+cs.length))):=by omega
     have a5:j-k*es<fo+cs.length:=by omega
     have J:j-k*es<fo:=by omega
     have a7:j-k*es<es:=by omega
     simp[U,c,a2,a3,a4,a5,J,a7,show base+k*es+(j-k*es)=base+j by omega]
    ·by_cases c3:j<k*es+fo+cs.length
     ·have c:j<elems.length*es:=by omega
      have a2:¬base+j<base+k*es+fo:=by omega
      have a3:base+j<base+k*es+fo+cs.length:=by omega
      have a4:j<k*es+(fo+cs.length+(es-(fo+cs.length))):=by omega
      have a5:j-k*es<fo+cs.length:=by omega
      have J:¬j-k*es<fo:=by omega
      simp[U,c,a2,a3,a4,a5,J,show base+j-(base+k*es+fo)=j-k*es-fo by omega]
     ·by_cases c4:j<k*es+es
      ·have c:j<elems.length*es:=by omega
       have a3:¬base+j<base+k*es+fo+cs.length:=by omega
       have a4:j<k*es+(fo+cs.length+(es-(fo+cs.length))):=by omega
       have a5:¬j-k*es<fo+cs.length:=by omega
       have J:fo+cs.length+(j-k*es-(fo+cs.length))<es:=by omega
       simp[U,c,a3,a4,a5,J,show base+k*es+fo+cs.length+(base+j-(base+k*es+fo+cs.length))=base+j by omega,show base+k*es+(fo+cs.length+(j-k*es-(fo+cs.length)))=base+j by omega]
      ·have a3:¬base+j<base+k*es+fo+cs.length:=by omega
       have a4:¬j<k*es+(fo+cs.length+(es-(fo+cs.length))):=by omega
       by_cases c5:j<elems.length*es
       ·have a5:k*es+es+(j-(k*es+(fo+cs.length+(es-(fo+cs.length)))))<elems.length*es:=by omega
        simp[a3,a4,c5,a5,show base+k*es+fo+cs.length+(base+j-(base+k*es+fo+cs.length))=base+j by omega,show base+(k*es+es+(j-(k*es+(fo+cs.length+(es-(fo+cs.length))))))=base+j by omega]
       ·have a5:¬k*es+es+(j-(k*es+(fo+cs.length+(es-(fo+cs.length)))))<elems.length*es:=by omega
        simp[a4,c5,a5]
  rw[e1];show aN S _ _ _ (((vs.take (base+k*es+fo)++news++vs.drop (base+k*es+fo+news.length)).drop base).take (elems.length*es));rw[e2];refine aN.evolve hE _ _ ?_;exact((g5.take (k*es)).append (((I.take fo).append E).append (I.drop (fo+cs.length)))).append (g5.drop (k*es+es))
 ·--what stays is not touched
  by_cases hb:base≤o
  ·rw[g6 o hb] at e;cases e
  ·obtain⟨vs0,t0,fr0,q1,q2⟩:=hs.inv.holds.1 b o v e;rw[g1] at q1;cases q1;refine⟨_,_,_,rfl,?_⟩;simp only[B9] at q2 ⊢;have hlt:o<vs.length:=(Ad.1 q2).1
   rw[Ar,A1 (by simp;omega),Ai,ξ (by omega)];exact q2
end
end Go.AM
