/-
  Texts Am17 to Ax5 in one.
-/
import Derived.Test.YtkhgpgihmphfdaaGreatM3
import Derived.ProofKit
import Derived.SizedLaws
import Derived.Laws.BytesArg
open List (all_eq_true append_assoc append_nil drop_append_of_le_length drop_drop drop_take drop_zero eq_nil_of_length_eq_zero flatten_append flatten_cons length_append length_cons length_drop length_nil length_take map_cons map_nil map_toArray mem_append mem_cons mem_map mem_of_mem_take size_toArray take_append_of_le_length take_left' take_of_length_le take_take)
open Nat (add_assoc add_mul add_zero beq_refl eq_of_beq_eq_true le_of_ble_eq_true le_refl le_trans lt_irrefl min_eq_left mul_le_mul_right sub_zero zero_add zero_le zero_mul)
namespace Go.AM
open Go
section
variable {P:Program}{n:Nat}{o:Oper}{st:St}{d:Nat}{T:TT}
theorem mX {α:Type}(f:Nat→Option α) (k:Nat) (x y:Option α):upd (upd f k x) k y=upd f k y:=by
 funext i;simp only[upd];split<;>rfl
theorem aE7 {t e:TypeId}{i g:TI}{x y:Operand}{rows:List (List C)}{Y:V}{ids:List Nat}(id:Nat) (hT:Tok P T) (ho:o.op=.call { callee:=.builtin .append,args:= #[x,y],argTypes:= #[t,t] }) (hd:o.dst=some d) (aa:d<n)
  (hi:T[t]?=some (some i)) (hk:i.k=.sl e) (ab:T[e]?=some (some g)) (ac:Nat.ble 1 g.size=true) (ad:Nat.ble 1 g.bytes=true)
  (hx:opv st x=some (.one (.c .nl))) (u:st.h id=none) (hy:opv st y=some Y) (A:Src st g.size ids Y rows)
  (E:rows.length*g.bytes≤140737488355328):
  Step P n o st ⟨opr x++opr y,id::ids⟩ ⟨some (d,some (.one (.hs id 0 rows.length rows.length))),[(id,some (.arr e g.size rows 0))]⟩:=by
 intro st' ha G S μ a w K Q hs ae;have J:st'.h id=none:=by rw[ha.2 id (by simp),u]
 obtain⟨af,M⟩:=hs.inv.empty e g.size J;have I:Sim G n S (upd μ id none) ⟨st'.e,upd st'.h id (some (.arr e g.size [] 0)),st'.d⟩ a w:=⟨af,hs.size,hs.defers.evolve M,fun t v e=>aN.evolve M v _ (hs.env t v e)⟩
 have B:=aK hs hx fun t O=>ha.1 t (by simp[O])
 have ag:=aK hs hy fun t O=>ha.1 t (by simp[O])
 simp only[aN,aY,Rep] at B;have U:aN S (upd μ id none) (upd st'.h id (some (.arr e g.size [] 0))) (.one (.hs id 0 0 0)) (a.eval x):=by
  simp only[aN,aY];exact⟨⟨_,_,_,B⟩,.inr ⟨e,g.size,[],0,aH _ _ _,le_refl _,fun _=>⟨le_refl _,.inl ⟨aH _ _ _,rfl,B⟩⟩⟩⟩
 have ah:∀j∈ids,j≠id:=by
  intro j q e;subst e;cases A with
  | hs h1 _ _=>simp at q;subst q;rw[u] at h1;cases h1
  | all h1 _=>simp at q;subst q;rw[u] at h1;cases h1
  | sl=>simp at q
  | nl=>simp at q
  | sn=>simp at q
 have:=wW (fz:=0) (elems:=[]) (id:=id) hT ho hi hk ab ac ad rfl (by simpa using E) (aH _ _ _) I U (aN.evolve M _ _ ag) A fun j q=>by
  show upd st'.h id (some (.arr e g.size [] 0)) j=_;rw[aW _ _ _ (ah j q)];exact ha.2 j (by simp[q])
 refine aFz hd aa (by simp) _ (aH _ _ _) I (fun S' μ' a' w' h=>ae S' μ' a' w' ?_) this;have e1:Eff.apply ⟨some (d,some (.one (.hs id 0 (([]:List (List C)).length+rows.length) (([]:List (List C)).length+rows.length)))),[(id,some (.arr e g.size ([]++rows) (if 0=0 then 0 else 1)))]⟩ ⟨st'.e,upd st'.h id (some (.arr e g.size [] 0)),st'.d⟩
   =Eff.apply ⟨some (d,some (.one (.hs id 0 rows.length rows.length))),[(id,some (.arr e g.size rows 0))]⟩ st':=by
  unfold Eff.apply;rw[bY,bY,mX];simp
 rw[e1] at h;exact h
theorem Sub.conv {kf ids:List Nat}{t:Nat}{v v':V}(h:st.e t=some v) (hc:Conv st.h ids v v'):Sub kf ⟨upd st.e t (some v'),st.h,st.d⟩ st:=by
 intro G n S μ a w _ hs;refine⟨S,μ,⟨hs.inv,hs.size,hs.defers,fun s u e=>?_⟩⟩;by_cases g:s=t
 ·subst g;have:some v'=some u:=by rw[←e];exact(aH _ _ _).symm
  cases this;exact hc.rel (fun _ _=>rfl) hs.inv.obj (hs.env s _ h)
 ·exact hs.env s u (by rw[←e];exact(aW _ _ _ g).symm)
theorem aJj {t e:TypeId}{i g:TI}{len:Nat}{parts:Array (Nat×Operand)}{ids:List Nat}{rows:List (List C)}(id:Nat) (hT:Tok P T) (ho:o.op=.buildSlice t len parts) (hd:o.dst=some d) (U:d<n) (hi:T[t]?=some (some i)) (hk:i.k=.sl e) (Y:T[e]?=some (some g)) (q:RowsV st g.size 0 ids parts.toList rows) (hlen:Nat.beq len parts.size=true) (B:Nat.ble (len*g.size) 16777216=true) (J:Nat.ble len 16777216=true) (aa:st.h id=none):
  Step P n o st ⟨eQ parts.toList,id::ids⟩ ⟨some (d,some (.one (.c (.sl g.size rows)))),[(id,some (.arr e g.size rows 2))]⟩:=by
 intro st' ha G S μ a w K Q hs ab;refine aEr id hT ho hd U hi hk Y q hlen B J aa st' ha G S μ a w K Q hs fun S1 μ1 M w1 h1=>?_
 have y:len=rows.length:=by rw[q.lengths];simpa using δ hlen
 have hh:(Eff.apply ⟨some (d,some (.one (.hs id 0 len len))),[(id,some (.arr e g.size rows 0))]⟩ st').h id=some (.arr e g.size rows 0):=by
  show fC st'.h [(id,some (.arr e g.size rows 0))] id=_;rw[bY,aH]
 obtain⟨S2,I,h2⟩:=h1.freeze hh;refine ab S2 I M w1 ⟨?_,h2.size,?_,fun s u e1=>?_⟩
 ·have:=h2.inv;show Inv G S2 I (fC st'.h [(id,some (.arr e g.size rows 2))]) w1;rw[bY];have A:upd (Eff.apply ⟨some (d,some (.one (.hs id 0 len len))),[(id,some (.arr e g.size rows 0))]⟩ st').h id (some (.arr e g.size rows 2))=upd st'.h id (some (.arr e g.size rows 2)):=by
   show upd (fC st'.h [(id,some (.arr e g.size rows 0))]) id _=_;rw[bY,mX]
  rw[←A];exact this
 ·have:=h2.defers;show Marks _ I (fC st'.h [(id,some (.arr e g.size rows 2))]) st'.d M.defers;rw[bY];have A:upd (Eff.apply ⟨some (d,some (.one (.hs id 0 len len))),[(id,some (.arr e g.size rows 0))]⟩ st').h id (some (.arr e g.size rows 2))=upd st'.h id (some (.arr e g.size rows 2)):=by
   show upd (fC st'.h [(id,some (.arr e g.size rows 0))]) id _=_;rw[bY,mX]
  rw[←A];exact this
 ·have A:upd (Eff.apply ⟨some (d,some (.one (.hs id 0 len len))),[(id,some (.arr e g.size rows 0))]⟩ st').h id (some (.arr e g.size rows 2))=fC st'.h [(id,some (.arr e g.size rows 2))]:=by
   show upd (fC st'.h [(id,some (.arr e g.size rows 0))]) id _=_;rw[bY,bY,mX]
  show aN S2 I (fC st'.h [(id,some (.arr e g.size rows 2))]) u (M.tmps.getD s undef);by_cases E:s=d
  ·subst E;have hu:u=.one (.c (.sl g.size rows)):=by
    have:upd st'.e s (some (.one (.c (.sl g.size rows)))) s=some u:=e1;rw[aH] at this;cases this;rfl
   subst hu;have O:=h2.env s (.one (.hs id 0 len len)) (aH _ _ _);have hO:=h2.inv.obj id _ (aH _ _ _);have:=(Conv.one (h:=upd (Eff.apply ⟨some (s,some (.one (.hs id 0 len len))),[(id,some (.arr e g.size rows 0))]⟩ st').h id (some (.arr e g.size rows 2))) (PureL.hs (e:=rows) (aH _ _ _) y (by rw[y];simp) .nil)).rel (fun _ _=>rfl) h2.inv.obj O;rw[←A];exact this
  ·have:upd st'.e d (some (.one (.c (.sl g.size rows)))) s=some u:=e1;rw[aW _ _ _ E] at this;have O:=h2.env s u (by show upd st'.e d _ s=some u;rw[aW _ _ _ E];exact this);rw[←A];exact O
theorem aSb {q ty:TypeId}{x y:Operand}{a b:Nat}(ho:o.op=.binOp .add q x y ty) (u:o.dst=some d) (g:d<n) (hx:opv st x=some (I .i64 (a:Nat))) (hy:opv st y=some (I .i64 (b:Nat))) (A:a+b≤9223372036854775807):
  Step P n o st ⟨opr x++opr y,[]⟩ ⟨some (d,some (I .i64 ((a+b:Nat):Int))),[]⟩:=aOh ho u g hx hy (by rw[←Int.natCast_add];exact Bz _ (by omega))
theorem aR6 {q ty:TypeId}{x y:Operand}{a b:Nat}(ho:o.op=.binOp .mul q x y ty) (u:o.dst=some d) (g:d<n) (hx:opv st x=some (I .i64 (a:Nat))) (hy:opv st y=some (I .i64 (b:Nat))) (A:a*b≤9223372036854775807):
  Step P n o st ⟨opr x++opr y,[]⟩ ⟨some (d,some (I .i64 ((a*b:Nat):Int))),[]⟩:=aOa ho u g hx hy (by rw[←Int.natCast_mul];exact Bz _ (by omega))
theorem aRv {q ty:TypeId}{x y:Operand}{a b:Nat}(ho:o.op=.binOp .sub q x y ty) (u:o.dst=some d) (g:d<n) (hx:opv st x=some (I .i64 (a:Nat))) (hy:opv st y=some (I .i64 (b:Nat))) (A:b≤a∧a≤9223372036854775807):
  Step P n o st ⟨opr x++opr y,[]⟩ ⟨some (d,some (I .i64 ((a-b:Nat):Int))),[]⟩:=aN7 ho u g hx hy (by rw[show(a:Int)-b=((a-b:Nat):Int) by omega];exact Bz _ (by omega))
theorem aR3 {q ty:TypeId}{x y:Operand}{a b:Nat}(ho:o.op=.binOp .quo q x y ty) (u:o.dst=some d) (g:d<n) (hx:opv st x=some (I .i64 (a:Nat))) (hy:opv st y=some (I .i64 (b:Nat))) (A:a≤9223372036854775807∧1≤b):
  Step P n o st ⟨opr x++opr y,[]⟩ ⟨some (d,some (I .i64 ((a/b:Nat):Int))),[]⟩:=by
 have:=aMo (P:=P) (n:=n) ho u g hx hy (by omega);rwa [←Int.natCast_ediv] at this
theorem aR2 {q ty:TypeId}{x y:Operand}{a b:Nat}(ho:o.op=.binOp .rem q x y ty) (u:o.dst=some d) (g:d<n) (hx:opv st x=some (I .i64 (a:Nat))) (hy:opv st y=some (I .i64 (b:Nat))) (A:1≤b):
  Step P n o st ⟨opr x++opr y,[]⟩ ⟨some (d,some (I .i64 ((a%b:Nat):Int))),[]⟩:=by
 have:=aMn (P:=P) (n:=n) ho u g hx hy (by omega);rwa [←Int.natCast_emod] at this
theorem aVn {t1 t2:TypeId}{x y:Operand}{k:IntKind}{a b r:Int}(ho:o.op=.call { callee:=.builtin .max,args:= #[x,y],argTypes:= #[t1,t2] }) (q:o.dst=some d) (g:d<n) (hx:opv st x=some (I k a)) (hy:opv st y=some (I k b)) (u:(if b>a then b else a)=r):
  Step P n o st ⟨opr x++opr y,[]⟩ ⟨some (d,some (I k r)),[]⟩:=by
 refine Step.value q g fun st' ha G S μ ac w hs=>?_
 have h1:=dL (aK hs hx fun t h=>ha.1 t (by simp[h]));have h2:=dL (aK hs hy fun t h=>ha.1 t (by simp[h]));refine⟨.int k r,?_,by simp[aN,aY,Rep]⟩;simp only[execOp,ho,resolve,map_toArray,Be,map_nil,h1,h2,π,τ,ζ,invoke,builtin,Builtin.max_,List.foldlM_cons,List.foldlM_nil,Builtin.max2,u]
end
section
variable {P:Program}{n:Nat}{o:Oper}{st:St}{d:Nat}{T:TT}
theorem zL {t e:TypeId}{i q:TI}(u:Tok P T) (hi:T[t]?=some (some i)) (A:i.k=.sl e) (y:T[e]?=some (some q)) (w:World) (g:Option Addr) (len cap l:Nat) (kk:IntKind) (h:l≤len):
  (Instr.sliceAt t (.slice g len cap) (some (.int kk (l:Int))) none none).run P w=.ok (.slice (if cap=l then g else g.map (·.add (l*q.size))) (len-l) (cap-l)) w:=by
 have hu:=Ah ((u.get hi).slice A) w;simp[Instr.sliceAt,hu,Instr.slice,Instr.sliceBounds,Instr.sliceBound,asIntOf,h,(u.get y).size_run w]
theorem uN {t e:TypeId}{i A:TI}{x y:Operand}{te es id len sz:Nat}{kk:IntKind}{elems:List (List C)}{fz:Nat}(l:Nat) (hT:Tok P T) (ho:o.op=.slice t x (some y) none none) (hd:o.dst=some d) (J:d<n) (hi:T[t]?=some (some i)) (hk:i.k=.sl e) (M:T[e]?=some (some A)) (O:A.size=es)
  (hx:opv st x=some (.one (.hs id 0 len sz))) (hh:st.h id=some (.arr te es elems fz)) (hsz:sz=elems.length) (hlen:len=sz) (hy:opv st y=some (I kk (l:Nat))) (hl:1≤l∧l≤len):Step P n o st ⟨opr x++opr y,[id]⟩ ⟨some (d,some (.one (.tl id l (len-l) sz))),[]⟩:=by
 refine Step.value hd J fun st' ha G S μ a w hs=>?_
 have q:=aK hs hx fun t B=>ha.1 t (by simp[B])
 have U:=dL (aK hs hy fun t B=>ha.1 t (by simp[B]));have g:st'.h id=some (.arr te es elems fz):=by rw[ha.2 id (by simp),hh]
 simp only[aN,aY] at q;obtain⟨_,q | ⟨te',es',elems',fz',h1,h2,h3⟩⟩:=q
 ·rw[g] at q;cases q
 rw[g] at h1;cases h1;obtain⟨h4,⟨E,u,h7⟩ | ⟨b,base,cap,E,u⟩⟩:=h3 hsz
 ·subst u;simp at hsz;omega
 obtain⟨q0,vs,q1,q2,q3,q4,q5⟩:=(hs.inv.obj id _ g).arr E;rw[zero_mul,Ck,sub_zero] at u;refine⟨.slice (if cap=l then some ⟨b,base,none⟩ else(some ⟨b,base,none⟩:Option Addr).map (·.add (l*A.size))) (len-l) (cap-l),?_,?_⟩
 ·have Y:=zL (P:=P) hT hi hk M w (some ⟨b,base,none⟩) len cap l kk hl.2;simp only[execOp,ho,B1,Option.map_none,u,U,π,τ] at Y ⊢;rw[Y];rfl
 ·simp only[aN,aY];refine⟨⟨_,_,_,rfl⟩,.inr ⟨te,es,elems,fz,g,h2,fun _=>⟨by omega,b,base,cap,E,by omega,?_⟩⟩⟩;by_cases hc:cap=l
  ·simp[hc]
  ·simp[hc,O,Addr.add_mid]
end
inductive Fz where
 | map (agg:Bool) (ents:List (List C))
 | var (l:List C)
 | ra (n es:Nat) (l:List R)
mutual
def R.fz (id:Nat) (z:Fz):R→R
 | .mr j=>match z with
  | .map agg ents=>if Nat.beq j id then .c (.mp agg ents) else .mr j
  | _=>.mr j
 | .vp j off=>match z with
  | .var l=>if Nat.beq j id then .c (.pt (l.drop off)) else .vp j off
  | _=>.vp j off
 | .ra j off len sz=>match z with
  | .ra n es l=>if Nat.beq j id then(if Nat.beq off 0&&Nat.beq len n&&Nat.beq sz n then .ras n es l else .c .any) else .ra j off len sz
  | _=>.ra j off len sz
 | .rp j i fo sz=>match z with
  | .ra _ _ _=>if Nat.beq j id then .c .any else .rp j i fo sz
  | _=>.rp j i fo sz
 | .ras n es l=>.ras n es (R.fzL id z l)
 | .pas l=>.pas (R.fzL id z l)
 | .clo f caps=>.clo f (R.fzL id z caps)
 | .mth f x=>.mth f (R.fz id z x)
 | r=>r
def R.fzL (id:Nat) (z:Fz):List R→List R
 | []=>[]
 | r::rs=>R.fz id z r::R.fzL id z rs
end
mutual
def V.fz (id:Nat) (z:Fz):V→V
 | .one r=>.one (r.fz id z)
 | .pa l=>.pa l
 | .ma l=>.ma (R.fzL id z l)
 | .tup l=>.tup (V.fzL id z l)
def V.fzL (id:Nat) (z:Fz):List V→List V
 | []=>[]
 | r::rs=>V.fz id z r::V.fzL id z rs
end
def fzE (id:Nat) (z:Fz):List (Nat×V)→List (Nat×V)
 | []=>[]
 | (t,v)::l=>(t,v.fz id z)::fzE id z l
def fzR (id:Nat) (z:Fz):List (List R)→List (List R)
 | []=>[]
 | r::l=>R.fzL id z r::fzR id z l
theorem aF0 {id:Nat}{z:Fz}:∀{l:List (Nat×V)}{t:Nat}{v:V},(t,v)∈fzE id z l→∃v0,(t,v0)∈l∧v=v0.fz id z
 | (k,u)::l,t,v,h=>by
  simp only[fzE,Au] at h;rcases h with h | h
  ·cases h;exact⟨u,by simp,rfl⟩
  ·obtain⟨v0,h1,h2⟩:=aF0 h;exact⟨v0,by simp[h1],h2⟩
theorem R.fzL_length {id:Nat}{z:Fz}:∀{l:List R},(R.fzL id z l).length=l.length
 | []=>rfl
 | _::l=>by simp[R.fzL,R.fzL_length (l:=l)]
theorem R.fzL_append {id:Nat}{z:Fz}:∀{l m:List R},R.fzL id z (l++m)=R.fzL id z l++R.fzL id z m
 | [],_=>rfl
 | _::l,m=>by simp[R.fzL,R.fzL_append (l:=l)]
theorem eA {id:Nat}{z:Fz}:∀{l:List (List R)},(fzR id z l).length=l.length
 | []=>rfl
 | _::l=>by simp[fzR,eA (l:=l)]
theorem aAq {id:Nat}{z:Fz}:∀{l:List (List R)},(fzR id z l).flatten=R.fzL id z l.flatten
 | []=>rfl
 | _::l=>by simp[fzR,aAq (l:=l),R.fzL_append]
theorem lJ {id:Nat}{z:Fz}{es:Nat}:∀{l:List (List R)},(∀r∈l,r.length=es)→∀r∈fzR id z l,r.length=es
 | [],_,r,h=>by simp[fzR] at h
 | x::l,k,r,h=>by
  simp only[fzR,Au] at h;rcases h with rfl | h
  ·rw[R.fzL_length];exact k _ (by simp)
  ·exact lJ (l:=l) (fun r g=>k r (by simp[g])) r h
def AObj.fz (id:Nat) (z:Fz):AObj→AObj
 | .var t cells=>.var t (R.fzL id z cells)
 | .lp st j i e=>.lp st j i (fzE id z e)
 | .rarr te es l=>.rarr te es (fzR id z l)
 | .tok r k=>.tok (r.fz id z) k
 | o=>o
def Fz.of:Fz→AObj→Prop
 | .map agg ents,o=>o=.map agg ents
 | .var l,o=>∃t,o=.var t (l.map R.c)
 | .ra n es l,o=>∃te elems,o=.rarr te es elems∧l=elems.flatten∧n=elems.length
def hfz (id:Nat) (z:Fz) (H:bX):bX:=fun j=>if Nat.beq j id then none else(H j).map (AObj.fz id z)
section
variable {S S':Sto}{μ:Mu}{H:bX}{id:Nat}{z:Fz}
theorem jD {j:Nat}(h:j≠id):hfz id z H j=(H j).map (AObj.fz id z):=by
 have:Nat.beq j id=false:=by
  cases hb:Nat.beq j id with
  | false=>rfl
  | true=>exact absurd (δ hb) h
 simp[hfz,this]
theorem aSy:hfz id z H id=none:=by simp[hfz]
theorem y2 {j te es fz:Nat}{l:List (List C)}{o:AObj}(g:H id=some o) (q:z.of o) (h:H j=some (.arr te es l fz)):hfz id z H j=some (.arr te es l fz):=by
 have u:j≠id:=by
  rintro rfl;rw[h] at g;cases g;cases z with
  | map agg ents=>cases q
  | var l=>obtain⟨t,h⟩:=q;cases h
  | ra n es l=>obtain⟨_,_,h,_⟩:=q;cases h
 rw[jD u,h];rfl
theorem sM {j:Nat}{o:AObj}(g:H id=some o) (q:z.of o) (h:H j=some .dead):hfz id z H j=some .dead:=by
 have u:j≠id:=by
  rintro rfl;rw[h] at g;cases g;cases z with
  | map agg ents=>cases q
  | var l=>obtain⟨t,h⟩:=q;cases h
  | ra n es l=>obtain⟨_,_,h,_⟩:=q;cases h
 rw[jD u,h];rfl
def aRj (S':Sto) (μ:Mu) (H:bX) (id:Nat):Fz→Prop
 | .map agg ents=>∀b c,μ id=some (b,c)→∃es clk,S'.mapo b=some (.all es clk)∧(bD S' agg ents es.toList∨aIs S' agg ents es)
 | .var l=>∀b c,μ id=some (b,c)→∃vs,bS S' l vs∧dX S' b 0 vs
 | .ra n es l=>n*es=l.length∧∀b base cap,μ id=some (b,base,cap)→n≤cap∧cap≤maxLen∧∃vs,aP S' μ (hfz id (.ra n es l) H) l vs∧dX S' b base vs
mutual
theorem aY.fz (hle:S.le S') {o:AObj}(g:H id=some o) (q:z.of o):∀(r:R) (v:Value),(id∈r.refs→aRj S' μ H id z)→aY S μ H r v→aY S' μ (hfz id z H) (r.fz id z) v
 | .c x,v,_,k=>by simp only[aY,R.fz] at k ⊢;exact Rep.mono hle x v k
 | .hs j off len sz,v,_,k=>by
  simp only[aY,R.fz] at k ⊢;obtain⟨k0,k | ⟨te,es,elems,fz,h1,h2⟩⟩:=k
  ·exact⟨k0,.inl (sM g q k)⟩
  ·exact⟨k0,.inr ⟨te,es,elems,fz,y2 g q h1,h2⟩⟩
 | .tl j off len sz,v,_,k=>by
  simp only[aY,R.fz] at k ⊢;obtain⟨k0,k | ⟨te,es,elems,fz,h1,h2⟩⟩:=k
  ·exact⟨k0,.inl (sM g q k)⟩
  ·exact⟨k0,.inr ⟨te,es,elems,fz,y2 g q h1,h2⟩⟩
 | .ep j i fo sz,v,_,k=>by
  simp only[aY,R.fz] at k ⊢;obtain⟨k0,k | ⟨te,es,elems,fz,h1,h2⟩⟩:=k
  ·exact⟨k0,.inl (sM g q k)⟩
  ·exact⟨k0,.inr ⟨te,es,elems,fz,y2 g q h1,h2⟩⟩
 | .vp j off,v,A,k=>by
  simp only[aY] at k;obtain⟨t,cells,b,c,h1,h2,y⟩:=k;by_cases B:j=id
  ·subst B;rw[h1] at g;cases g;cases z with
   | map agg ents=>cases q
   | ra n es l=>obtain⟨_,_,h,_⟩:=q;cases h
   | var l=>
    simp only[R.fz,beq_refl,Cg,aY,Rep];obtain⟨vs,J,M⟩:=A (by simp[R.refs]) b c h2;refine⟨b,off,y,vs.drop off,J.drop off,fun i u hu=>?_⟩;rw[Al] at hu;have:=M _ u hu;rwa [Ba] at this
  ·have hb:Nat.beq j id=false:=by
    cases hb:Nat.beq j id with
    | false=>rfl
    | true=>exact absurd (δ hb) B
   have e:(R.vp j off).fz id z=.vp j off:=by cases z<;>simp[R.fz,hb]
   rw[e];simp only[aY];exact⟨t,_,b,c,by rw[jD B,h1];rfl,h2,y⟩
 | .mr j,v,A,k=>by
  simp only[aY] at k;obtain⟨agg,ents,b,c,h1,h2,y⟩:=k;by_cases B:j=id
  ·subst B;rw[h1] at g;cases g;cases z with
   | var l=>obtain⟨t,h⟩:=q;cases h
   | ra n es l=>obtain⟨_,_,h,_⟩:=q;cases h
   | map agg' ents'=>
    cases q;simp only[R.fz,beq_refl,Cg,aY,Rep];obtain⟨es,clk,J,M⟩:=A (by simp[R.refs]) b c h2;exact⟨b,es,clk,y,J,M⟩
  ·have hb:Nat.beq j id=false:=by
    cases hb:Nat.beq j id with
    | false=>rfl
    | true=>exact absurd (δ hb) B
   have e:(R.mr j).fz id z=.mr j:=by cases z<;>simp[R.fz,hb]
   rw[e];simp only[aY];exact⟨agg,ents,b,c,by rw[jD B,h1];rfl,h2,y⟩
 | .clo f caps,v,A,k=>by
  simp only[aY,R.fz] at k ⊢;obtain⟨vs,h1,h2⟩:=k;exact⟨vs,h1,aP.fz hle g q caps vs (by simpa only[R.refs] using A) h2⟩
 | .ras n es l,v,A,k=>by
  simp only[aY,R.fz] at k ⊢;obtain⟨a,cap,h1,h2,y,h4,h5,h6,b,o,h7,vs,O,U⟩:=k;exact⟨a,cap,h1,by rw[R.fzL_length];exact h2,y,h4,h5,h6,b,o,h7,vs,aP.fz hle g q l vs (by simpa only[R.refs] using A) O,U.mono hle⟩
 | .pas l,v,A,k=>by
  simp only[aY,R.fz] at k ⊢;obtain⟨b,o,h1,vs,O,U⟩:=k;exact⟨b,o,h1,vs,aP.fz hle g q l vs (by simpa only[R.refs] using A) O,U.mono hle⟩
 | .mth f recv,v,A,k=>by
  simp only[aY,R.fz] at k ⊢;obtain⟨u,h1,h2⟩:=k;exact⟨u,h1,aY.fz hle g q recv u (by simpa only[R.refs] using A) h2⟩
 | .rp j i fo sz,v,A,k=>by
  simp only[aY] at k;obtain⟨k0,k⟩:=k;by_cases B:j=id
  ·subst B;have key:aY S' μ (hfz j z H) (.c .any) v:=by
    obtain⟨a,rfl⟩:=k0;simp only[aY,Rep];exact⟨rfl,rfl⟩
   rcases k with k | ⟨te,es,elems,h1,h2,y⟩
   ·rw[k] at g;cases g;cases z with
    | map agg ents=>cases q
    | var l=>obtain⟨t,h⟩:=q;cases h
    | ra n es l=>obtain⟨_,_,h,_⟩:=q;cases h
   ·rw[h1] at g;cases g;cases z with
    | map agg ents=>cases q
    | var l=>obtain⟨t,h⟩:=q;cases h
    | ra n es l=>simpa only[R.fz,beq_refl,Cg] using key
  ·have hb:Nat.beq j id=false:=by
    cases hb:Nat.beq j id with
    | false=>rfl
    | true=>exact absurd (δ hb) B
   have e:(R.rp j i fo sz).fz id z=.rp j i fo sz:=by cases z<;>simp[R.fz,hb]
   rw[e];simp only[aY];rcases k with k | ⟨te,es,elems,h1,h2,y⟩
   ·exact⟨k0,.inl (by rw[jD B,k];rfl)⟩
   ·exact⟨k0,.inr ⟨te,es,fzR id z elems,by rw[jD B,h1];rfl,by rw[eA];exact h2,fun e=>y (by rw[eA] at e;exact e)⟩⟩
 | .yl j,v,_,k=>by
  simp only[aY,R.fz] at k ⊢;obtain⟨st,jp,i,e,b,c,h1,h2,y⟩:=k;have hne:j≠id:=by
   rintro rfl;rw[h1] at g;cases g;cases z with
   | map agg ents=>cases q
   | var l=>obtain⟨t,h⟩:=q;cases h
   | ra n es l=>obtain⟨_,_,h,_⟩:=q;cases h
  exact⟨st,jp,i,_,b,c,by rw[jD hne,h1];rfl,h2,y⟩
 | .ra j off len sz,v,A,k=>by
  simp only[aY] at k;obtain⟨k0,k⟩:=k;by_cases B:j=id
  ·subst B;have key:aY S' μ (hfz j z H) (.c .any) v:=by
    obtain⟨a,l,c,rfl⟩:=k0;simp only[aY,Rep];exact⟨rfl,rfl⟩
   rcases k with k | ⟨te,es,elems,h1,h2,y⟩
   ·rw[k] at g;cases g;cases z with
    | map agg ents=>cases q
    | var l=>obtain⟨t,h⟩:=q;cases h
    | ra n es l=>obtain⟨_,_,h,_⟩:=q;cases h
   ·rw[h1] at g;cases g;cases z with
    | map agg ents=>cases q
    | var l=>obtain⟨t,h⟩:=q;cases h
    | ra n es' l=>
     obtain⟨te',elems',Y,E,I⟩:=q;cases Y;simp only[R.fz,beq_refl,Cg];split
     ·rename_i hc;simp only[ε] at hc;obtain⟨⟨c1,c2⟩,c3⟩:=hc;have c1:=δ c1;have c2:=δ c2;have c3:=δ c3;subst c1;subst c2;subst c3;obtain⟨f1,f2⟩:=A (by simp[R.refs]);obtain⟨_,⟨m1,m2,m3⟩ | ⟨b,base,cap,m1,m2⟩⟩:=y I
      ·subst m2;simp only[length_nil] at I;subst I;subst E;simp only[aY];exact⟨none,0,m3,by simp,le_refl _,Ad _,(fun _=>⟨by first | rfl | simp,rfl⟩),(by simp),0,0,(by simp),[],(by simp[aP]),(by intro i v e;simp at e)⟩
      ·obtain⟨f3,f4,vs,f5,f6⟩:=f2 b base cap m1;simp only[aY];exact⟨some ⟨b,base,none⟩,cap,by rw[m2];simp,f1,f3,f4,by simp,(fun ad h=>by cases h;rfl),b,base,(fun ad h=>by cases h;exact⟨rfl,rfl⟩),vs,f5,f6⟩
     ·exact key
  ·have hb:Nat.beq j id=false:=by
    cases hb:Nat.beq j id with
    | false=>rfl
    | true=>exact absurd (δ hb) B
   have e:(R.ra j off len sz).fz id z=.ra j off len sz:=by cases z<;>simp[R.fz,hb]
   rw[e];simp only[aY];rcases k with k | ⟨te,es,elems,h1,h2,y⟩
   ·exact⟨k0,.inl (by rw[jD B,k];rfl)⟩
   ·refine⟨k0,.inr ⟨te,es,fzR id z elems,by rw[jD B,h1];rfl,by rw[eA];exact h2,fun e=>?_⟩⟩;rw[eA] at e;obtain⟨Y,E⟩:=y e;refine⟨Y,?_⟩;rcases E with⟨E,I,q4⟩ | E
    ·exact .inl ⟨E,by rw[I];rfl,q4⟩
    ·exact .inr E
theorem aP.fz (hle:S.le S') {o:AObj}(g:H id=some o) (q:z.of o):∀(r:List R) (v:List Value),(id∈R.refsL r→aRj S' μ H id z)→aP S μ H r v→aP S' μ (hfz id z H) (R.fzL id z r) v
 | [],_,_,k=>by simpa only[aP,R.fzL] using k
 | r::rs,vs,A,k=>by
  simp only[aP,R.fzL] at k ⊢;obtain⟨v,vs',h1,h2,y⟩:=k;exact⟨v,vs',h1,aY.fz hle g q r v (fun h=>A (by simp[R.refsL,h])) h2,aP.fz hle g q rs vs' (fun h=>A (by simp[R.refsL,h])) y⟩
end
mutual
theorem aN.fz (hle:S.le S') {o:AObj}(g:H id=some o) (q:z.of o) (u:aRj S' μ H id z):∀(r:V) (v:Value),aN S μ H r v→aN S' μ (hfz id z H) (r.fz id z) v
 | .one r,v,k=>by simp only[aN,V.fz] at k ⊢;exact aY.fz hle g q r v (fun _=>u) k
 | .pa l,v,k=>by
  simp only[aN,V.fz] at k ⊢;obtain⟨vs,h1,h2⟩:=k;exact⟨vs,h1,bS.mono hle l vs h2⟩
 | .ma l,v,k=>by
  simp only[aN,V.fz] at k ⊢;obtain⟨vs,h1,h2⟩:=k;exact⟨vs,h1,aP.fz hle g q l vs (fun _=>u) h2⟩
 | .tup l,v,k=>by
  simp only[aN,V.fz] at k ⊢;obtain⟨vs,h1,h2⟩:=k;exact⟨vs,h1,aT.fz hle g q u l vs h2⟩
theorem aT.fz (hle:S.le S') {o:AObj}(g:H id=some o) (q:z.of o) (u:aRj S' μ H id z):∀(r:List V) (v:List Value),aT S μ H r v→aT S' μ (hfz id z H) (V.fzL id z r) v
 | [],_,k=>by simpa only[aT,V.fzL] using k
 | r::rs,vs,k=>by
  simp only[aT,V.fzL] at k ⊢;obtain⟨v,vs',h1,h2,y⟩:=k;exact⟨v,vs',h1,aN.fz hle g q u r v h2,aT.fz hle g q u rs vs' y⟩
end
theorem AObj.succ_fz {p:Prop}{o o':AObj}(h:o.succ p o'):o.succ p (o'.fz id z):=by
 cases o<;>cases o'<;>simp only[AObj.succ,AObj.fz,eA] at h ⊢<;>exact h
theorem jF.fz {w:World}{j:Nat}{x:AObj}(hle:S.le S') {o:AObj}(A:H id=some o) (B:z.of o) (E:aRj S' μ H id z) (h:jF S μ H w j x) (hb:∀b c,μ j=some (b,c)→(∀o,S'.cell b o=S.cell b o)∧S'.mapo b=S.mapo b):jF S' μ (hfz id z H) w j (x.fz id z):=by
 cases x with
 | var t cells=>
  obtain⟨b,vs,h1,h2,q,g⟩:=h;exact⟨b,vs,h1,h2,aP.fz hle A B _ _ (fun _=>E) q,fun o=>by rw[(hb b _ h1).1,g.1],by rw[(hb b _ h1).2,g.2]⟩
 | arr te es elems fz=>
  obtain⟨h0,h1 | ⟨b,base,cap,vs,h1,h2,q,g,u,y,I,J,M⟩⟩:=h
  ·exact⟨h0,.inl h1⟩
  ·exact⟨h0,.inr ⟨b,base,cap,vs,h1,h2,q,g,⟨u.1,by rw[(hb b _ h1).2,u.2]⟩,bS.mono hle _ _ y,fun e o ho=>by rw[(hb b _ h1).1,I e o ho],fun o e=>by rw[(hb b _ h1).1,J o e],fun e=>(M e).mono hle⟩⟩
 | map agg ents=>
  obtain⟨b,es,clk,h1,h2,q,g⟩:=h;exact⟨b,es,clk,h1,h2,wX.mono hle q,g.of_eq (hb b _ h1).2⟩
 | dead=>exact h
 | lp st jp i e=>
  obtain⟨b,r,fn,tmps,h1,h2,q,g,u,y⟩:=h;refine⟨b,r,fn,tmps,h1,h2,q,fun t v O=>?_,fun o=>by rw[(hb b _ h1).1,u],by rw[(hb b _ h1).2,y]⟩;obtain⟨v0,U,rfl⟩:=aF0 O;exact aN.fz hle A B E _ _ (g t v0 U)
 | dfr=>
  obtain⟨b,h1,h2,q,g⟩:=h;exact⟨b,h1,h2,fun o=>by rw[(hb b _ h1).1,q],by rw[(hb b _ h1).2,g]⟩
 | rarr te es elems=>
  obtain⟨h0,h1 | ⟨b,base,cap,vs,h1,h2,q,g,u,y,I⟩⟩:=h
  ·exact⟨lJ h0,.inl ⟨h1.1,by rw[h1.2];rfl⟩⟩
  ·refine⟨lJ h0,.inr ⟨b,base,cap,vs,h1,h2,q,by rw[eA];exact g,⟨u.1,by rw[(hb b _ h1).2,u.2]⟩,?_,fun o ho=>by rw[(hb b _ h1).1,I o ho]⟩⟩;rw[aAq,eA];exact aP.fz hle A B _ _ (fun _=>E) y
 | tok r k=>
  obtain⟨h1,b,h2,m,q,g⟩:=h;obtain⟨Y,u,y⟩:=hle.2 b m q;exact⟨h1,b,aY.fz hle A B _ _ (fun _=>E) h2,Y,u,MK.le_has y g⟩
theorem Sto.free_of {S S':Sto}(h:S.free) {b:Nat}(hb:∀g,g≠b→(∀o,S'.cell g o=S.cell g o)∧S'.mapo g=S.mapo g) (u:∀te lo hi,¬S'.mapo b=some (.top te lo hi)):S'.free:=fun g te lo hi e o ho=>by
 by_cases q:g=b
 ·subst q;exact absurd e (u te lo hi)
 ·obtain⟨h1,h2⟩:=hb g q;rw[h1,h g te lo hi (by rw[←h2];exact e) o ho]
theorem aKb {G:Ctx}{n:Nat}{kf:List Nat}{st:St}{a:Act}{w:World}{o:AObj}(A:st.h id=some o) (B:z.of o) (M:id∉kf) (hg:G.keeps kf) (hs:Sim G n S μ st a w) (hle:S.le S') (hh:aDn S' w) (O:aRj S' μ st.h id z)
  (hb:∀b,(∀c,μ id≠some (b,c))→(∀o,S'.cell b o=S.cell b o)∧S'.mapo b=S.mapo b) (I:S'.free):Sim G n S' μ ⟨fun t=>(st.e t).map (V.fz id z),hfz id z st.h,st.d⟩ a w:=by
 have hold:∀j x,hfz id z st.h j=some x→j≠id∧∃u,st.h j=some u∧x=u.fz id z:=by
  intro j x g;have q:j≠id:=by rintro rfl;rw[aSy] at g;cases g
  rw[jD q] at g;cases h:st.h j with
  | none=>rw[h] at g;cases g
  | some u=>
   rw[h] at g;cases g;exact⟨q,u,rfl,rfl⟩
 have J:∀j u,st.h j=some u→j≠id→∀b c,μ j=some (b,c)→∀c',μ id≠some (b,c'):=by
  intro j u g q b c hm c' E;exact q (hs.inv.inj j id u o b c c' g A hm E)
 refine⟨⟨hh,fun j x g=>?_,fun i j x x' b c c' hi g hm E=>?_,fun i x b c hi hm=>?_,hs.inv.frame,Sto.le_trans hs.inv.sle hle,fun b U Y=>?_,⟨Sto.le_trans hs.inv.evo.le hle,fun j x g=>?_⟩,I⟩,hs.size,hs.defers.go fun j _ g=>⟨rfl,?_⟩,fun t v e=>?_⟩
 ·obtain⟨q,u,h1,rfl⟩:=hold j x g;exact(hs.inv.obj j u h1).fz hle A B O fun b c hm=>hb b (J j u h1 q b c hm)
 ·obtain⟨_,y,h1,_⟩:=hold i x hi;obtain⟨_,y',h2,_⟩:=hold j x' g;exact hs.inv.inj i j y y' b c c' h1 h2 hm E
 ·obtain⟨_,y,h1,_⟩:=hold i x hi;exact hs.inv.own i y b c h1 hm
 ·have aa:∀c,μ id≠some (b,c):=by
   intro c hm;rcases hs.inv.own id o b c A hm with h | h
   ·omega
   ·exact Y h
  obtain⟨h1,h2⟩:=hb b aa;obtain⟨h3,h4⟩:=hs.inv.sto b U Y;exact⟨fun o=>(h1 o).trans (h3 o),h2.trans h4⟩
 ·obtain⟨o',h1,h2⟩:=hs.inv.evo.obj j x g;have q:j≠id:=fun e=>M (e▸hg.1 j x g)
  exact⟨o'.fz id z,by show hfz id z st.h j=_;rw[jD q,h1];rfl,AObj.succ_fz h2⟩
 ·have q:j≠id:=by
   rintro rfl;rw[g] at A;cases A;cases z with
   | map agg ents=>cases B
   | var l=>obtain⟨t,h⟩:=B;cases h
   | ra n es l=>obtain⟨_,_,h,_⟩:=B;cases h
  show hfz id z st.h j=_;rw[jD q,g];rfl
 ·cases h:st.e t with
  | none=>simp[h] at e
  | some v0=>
   simp only[h,B1,Option.some.injEq] at e;subst e;exact aN.fz hle A B O v0 _ (hs.env t v0 h)
theorem Sub.fvar {kf:List Nat}{st:St}{id t:Nat}{l:List C}(q:st.h id=some (.var t (l.map R.c))) (y:id∉kf):Sub kf ⟨fun t=>(st.e t).map (V.fz id (.var l)),hfz id (.var l) st.h,st.d⟩ st:=by
 intro G n S μ a w I hs;obtain⟨b,vs,h1,h2,J,A⟩:=hs.inv.obj id _ q;have B:=J.pure
 let S':Sto:=⟨fun g o=>if g=b then vs[o]? else S.cell g o,S.mapo⟩
 have hle:S.le S':=⟨fun g o v e=>by
  show(if g=b then vs[o]? else S.cell g o)=some v;by_cases hb:g=b
  ·subst hb;rw[A.1] at e;cases e
  ·rw[ξ hb];exact e,fun _ m e=>⟨m,e,m.le_refl⟩⟩
 refine⟨S',μ,aKb q ⟨t,rfl⟩ y I hs hle ⟨fun g o v e=>?_,hs.inv.holds.2⟩ ?_ (fun g hb=>⟨fun o=>?_,rfl⟩) (Sto.free_of hs.inv.fre (b:=b) (fun g hb=>⟨fun _=>ξ hb,rfl⟩) fun te lo hi e=>by have e:S.mapo b=_:=e;rw[A.2] at e;cases e)⟩
 ·have e':(if g=b then vs[o]? else S.cell g o)=some v:=e;by_cases hb:g=b
  ·subst hb;rw[θ rfl] at e';exact⟨⟨vs⟩,t,(0,0),h2,by simpa using e'⟩
  ·rw[ξ hb] at e';exact hs.inv.holds.1 g o v e'
 ·intro g c hm;rw[h1] at hm;cases hm;refine⟨vs,bS.mono hle _ _ B,fun i u hu=>?_⟩;show(if b=b then vs[0+i]? else S.cell b (0+i))=some u;rw[θ rfl,Ba];exact hu
 ·have E:g≠b:=fun e=>hb (0,0) (by rw[e];exact h1)
  exact ξ E
end
theorem WChg.putObj {w:World}{b:Nat}{o o':Obj}(h:w.heap[b]?=some o'):WChg w (w.putObj b o) b o:=
 ⟨rfl,rfl,rfl,by simp,World.putObj_heap_same (Bw.1 h).1,fun k _ g=>World.putObj_heap_other g⟩
theorem aT.length {S:Sto}{μ:Mu}{H:bX}:∀{l:List V}{us:List Value},aT S μ H l us→us.length=l.length
 | [],_,h=>by simp only[aT] at h;subst h;rfl
 | _::l,_,h=>by
  simp only[aT] at h;obtain⟨v,vs',rfl,_,h2⟩:=h;simp[aT.length h2]
theorem dZ {α:Type}{k i:Nat}{x:α}{l:List (Nat×α)}(h:i≠k):look ((k,x)::l) i=look l i:=by
 have:Nat.beq i k=false:=by
  cases hb:Nat.beq i k with
  | false=>rfl
  | true=>exact absurd (δ hb) h
 simp[look,this]
theorem dA {α:Type}{k:Nat}{x:α}{l:List (Nat×α)}:look ((k,x)::l) k=some x:=by simp[look]
theorem Inv.keep {G:Ctx}{S:Sto}{μ:Mu}{H:bX}{w:World}{hout:List (Nat×AObj)}(hs:Inv G S μ H w) (g:eF (fun p=>∃o,H p.1=some o∧Ole (fun i=>i) o p.2) hout)
  (O:subset (eG hout) (keys hout)=true) (U:∀id o,G.h0 id=some o→id∈keys hout):Inv G S μ (look hout) w:=by
 have y:∀i∈keys hout,Good H (look hout) (fun i=>i) i:=by
  intro i hi;obtain⟨o',B⟩:=bZ hi;obtain⟨o,q,u⟩:=g.mem _ (b6 B);exact⟨o,o',q,B,u⟩
 refine⟨hs.holds,fun id o ho=>?_,fun i j o o' b c c' hi Y hm I=>?_,fun i o b c hi hm=>?_,hs.frame,hs.sle,hs.sto,⟨hs.evo.le,fun id o ho=>?_⟩,hs.fre⟩
 ·obtain⟨E,q,u⟩:=g.mem _ (b6 ho);exact(hs.obj _ _ q).ren u fun i hi=>y i (bM O i (gC (b6 ho) i hi))
 ·obtain⟨E,q,u⟩:=g.mem _ (b6 hi);obtain⟨J,A,M⟩:=g.mem _ (b6 Y);exact hs.inj _ _ _ _ b c c' q A hm I
 ·obtain⟨E,q,u⟩:=g.mem _ (b6 hi);exact hs.own _ _ b c q hm
 ·obtain⟨o',q,u⟩:=hs.evo.obj id o ho;obtain⟨E,J,A,M,g5⟩:=y id (U id o ho);rw[q] at A;cases A;exact⟨J,M,AObj.succ_trans u g5.succ fun e _=>e⟩
theorem aOp {α:Type}:∀{l:List (Nat×α)}{id:Nat},(!((keys l).contains id))=true→look l id=none:=by
 intro l id h;refine pF fun hm=>?_
 simp only[Bm] at h;have:(keys l).contains id=true:=by simpa [keys] using hm
 rw[this] at h;cases h
section
variable {P:Program}{n:Nat}{o:Oper}{st:St}{d:Nat}
def aAl (Q:Exit→St→Prop) (st:St):Option Code→Prop
 | none=>Q .normal st
 | some .ret=>Q .ret st
 | some (.exit id)=>Q (.exit id) st
 | _=>False
theorem aGp {S:Sto}{μ:Mu}{H:bX}:∀{caps:List R}{vs:List Value},aP S μ H caps vs→aT S μ H (caps.map V.one) vs
 | [],_,h=>by simp only[aP] at h;subst h;simp[aT]
 | c::caps,_,h=>by
  simp only[aP] at h;obtain⟨v,vs',rfl,g,q⟩:=h;simp only[Be,aT];exact⟨v,vs',rfl,by simpa [aN] using g,aGp q⟩
theorem aB6 {G:Ctx}{S:Sto}{μ:Mu}{a:Act}{w:World}{g:Operand}{ps:Array Tmp}{asg body:Code}{f:FuncId}{caps:List R}{e:List (Nat×V)}{q:Nat}{hin hout:List (Nat×AObj)}{st':LoopState}{j:Option Code}{u:LI}{e':List (Nat×V)}{fn:FuncId}{r:Nat}
  (hb:fG P f) (hg:opv st g=some (.one (.clo f caps))) (he:eF (fun p=>st.e p.1=some p.2) e) (hin':eF (fun p=>st.h p.1=some p.2) hin) (hout':eF (fun p=>p.1∈keys hin∨st.h p.1=none) hout) (O:st.h q=none)
  (hf:aV P f (.one (.yl q)::caps.map V.one) ((q,.lp .ready none ⟨n,ps,asg,body⟩ e)::hin) (.tup []) ((q,.lp st' j u e')::hout))
  (hok:dU (.one (.yl q)::caps.map V.one) ((q,.lp .ready none ⟨n,ps,asg,body⟩ e)::hin)=true) (hst:st'≠ .busy)
  (hs:Sim G n S μ st a w) {Q:World→Prop} (hQ:∀S' μ' w',Sim G n S' μ' ⟨st.e,fC st.h (outs ((q,.lp .exhausted j u e')::hout)),st.d⟩ a w'→Q w'):
  ∃d w2 args,(resolve a.eval (rangeCall g w.heap.size) 0).run P (w.alloc (.loop { state:=.ready,pending:=none,fn,tmps:=a.tmps,params:=ps,assign:=asg,body,defers:=r }))=.ok d w2∧(invoke d.target d.args).run P w2=.ok (.enter f args) w2∧
   Calls P f args w2 fun ending w3=>∃v,ending=.returned v∧∃w4,(Instr.endLoop w.heap.size).run P w3=.ok j w4∧Q w4:=by
 have hW:=WChg.alloc w (.loop { state:=.ready,pending:=none,fn,tmps:=a.tmps,params:=ps,assign:=asg,body,defers:=r });have U:=dR (S:=S) (μ:=μ) O (some (w.heap.size,(0,0))) (some (.lp .ready none ⟨n,ps,asg,body⟩ e));have Y:(∀k,S.cell w.heap.size k=none)∧S.mapo w.heap.size=none:=by
  refine⟨fun k=>?_,?_⟩
  ·cases hc:S.cell w.heap.size k with
   | none=>rfl
   | some v=>obtain⟨vs,t,fr,h1,_⟩:=hs.inv.holds.1 _ _ _ hc;exact absurd (c9 h1) (Cm _)
  ·cases hc:S.mapo w.heap.size with
   | none=>rfl
   | some v=>obtain⟨_,h1⟩:=MK.holds_some (hs.inv.holds.2 _ _ hc);exact absurd (c9 h1) (Cm _)
 have hI1:=hs.inv.chg (id:=q) (cap:=(0,0)) (ao:=.lp .ready none ⟨n,ps,asg,body⟩ e) hW (.inl (le_refl _)) U
  ⟨w.heap.size,r,fn,a.tmps,aH _ _ _,hW.new,hs.size,fun t v E=>aN.evolve U _ _ (hs.env t v (he.mem _ E)),Y⟩
  (fun k v hc=>by rw[Y.1] at hc;cases hc) (fun m hc=>le_refl _)
 have A:Sim G n S (upd μ q (some (w.heap.size,(0,0)))) ⟨st.e,upd st.h q (some (.lp .ready none ⟨n,ps,asg,body⟩ e)),st.d⟩ a (w.alloc (.loop { state:=.ready,pending:=none,fn,tmps:=a.tmps,params:=ps,assign:=asg,body,defers:=r })):=
  ⟨hI1,hs.size,hs.defers.evolve U,fun t v E=>aN.evolve U _ _ (hs.env t v E)⟩
 generalize w.alloc (.loop { state:=.ready,pending:=none,fn,tmps:=a.tmps,params:=ps,assign:=asg,body,defers:=r })=w1 at A hW;have hvx:=aN.evolve U _ _ (aK hs hg fun _ _=>rfl);simp only[aN,aY] at hvx;obtain⟨vs,hgv,hcaps⟩:=hvx;simp only[dU,ε] at hok;obtain⟨⟨k1,k2⟩,k3⟩:=hok;have hne:∀{j o},st.h j=some o→j≠q:=by rintro j o hj rfl;rw[O] at hj;cases hj
 have hh:∀id o,look ((q,.lp .ready none ⟨n,ps,asg,body⟩ e)::hin) id=some o→upd st.h q (some (.lp .ready none ⟨n,ps,asg,body⟩ e)) id=some o∧o≠ .dead:=by
  intro id o ho;have hm:=b6 ho;refine⟨?_,?_⟩
  ·by_cases y:id=q
   ·subst y;rw[dA] at ho;rw[aH];exact ho
   ·rw[dZ y] at ho;rw[aW _ _ _ y];exact hin'.mem _ (b6 ho)
  ·have:=(Bc.1 k3) _ hm;rintro rfl;simp[AObj.live] at this
 have hnew:∀id o,look ((q,.lp st' j u e')::hout) id=some o→(∃o',look ((q,.lp .ready none ⟨n,ps,asg,body⟩ e)::hin) id=some o')∨upd st.h q (some (.lp .ready none ⟨n,ps,asg,body⟩ e)) id=none:=by
  intro id o ho;by_cases y:id=q
  ·subst y;exact .inl ⟨_,dA⟩
  ·rw[dZ y] at ho;rcases hout'.mem _ (b6 ho) with h1 | h1
   ·obtain⟨o',h2⟩:=bZ h1;exact .inl ⟨o',by rw[dZ y];exact h2⟩
   ·exact .inr (by rw[aW _ _ _ y];exact h1)
 have hI:=A.inv.hand hh k2;have hgood:∀i∈keys ((q,.lp .ready none ⟨n,ps,asg,body⟩ e)::hin),Good (upd st.h q (some (.lp .ready none ⟨n,ps,asg,body⟩ e))) (look ((q,.lp .ready none ⟨n,ps,asg,body⟩ e)::hin)) (fun i=>i) i:=by
  intro i hi;obtain⟨o,ho⟩:=bZ hi;obtain⟨h1,h2⟩:=hh i o ho;exact⟨o,o,h1,ho,.refl_id h2⟩
 have hcv:aT S (upd μ q (some (w.heap.size,(0,0)))) (upd st.h q (some (.lp .ready none ⟨n,ps,asg,body⟩ e))) (.one (.yl q)::caps.map V.one) (.func (.yield w.heap.size) #[] #[]::vs):=by
  simp only[aT];refine⟨_,_,rfl,?_,?_⟩
  ·simp only[aN,aY];exact⟨_,_,_,_,w.heap.size,_,aH _ _ _,aH _ _ _,rfl⟩
  ·exact aGp hcaps
 have hcv':aT S (upd μ q (some (w.heap.size,(0,0)))) (look ((q,.lp .ready none ⟨n,ps,asg,body⟩ e)::hin)) (.one (.yl q)::caps.map V.one) (.func (.yield w.heap.size) #[] #[]::vs):=by
  have:=aT.ren (H:=upd st.h q (some (.lp .ready none ⟨n,ps,asg,body⟩ e))) (H':=look ((q,.lp .ready none ⟨n,ps,asg,body⟩ e)::hin)) (σ:=fun i=>i) _ _ (fun i hi=>hgood i (bM k1 i hi)) (by rw[V.renL_id];exact hcv);exact this
 refine⟨{ target:=.fn (.func f) ⟨vs⟩,args:= #[.func (.yield w.heap.size) #[] #[]] },w1, #[.func (.yield w.heap.size) #[] #[]]++⟨vs⟩,?_,?_,?_⟩
 ·have hce:a.eval (.const (.func (.yield w.heap.size) #[] #[]))=.func (.yield w.heap.size) #[] #[]:=rfl;simp only[resolve,hgv,Deferred.ofValue,τ,map_toArray,Be,map_nil,hce];rfl
 ·simp only[invoke,dI hb]
 ·have hc:=hf S _ w1 _ hI hcv';have hlist:(⟨.func (.yield w.heap.size) #[] #[]::vs⟩:Array Value)= #[.func (.yield w.heap.size) #[] #[]]++⟨vs⟩:=by
   apply Array.ext';simp
  rw[hlist] at hc;refine hc.mono ?_;rintro ending w3 ⟨S',μ',v,rfl,hI',hres⟩;obtain⟨μ2,p1,p2,p3,p4⟩:=A.inv.back (fun id o ho=>(hh id o ho).1) hnew hI';have I:fC (upd st.h q (some (.lp .ready none ⟨n,ps,asg,body⟩ e))) (outs ((q,.lp st' j u e')::hout)) q=some (.lp st' j u e'):=by
   rw[dE,dA]
  have aa:μ2 q=some (w.heap.size,(0,0)):=by
   obtain⟨o',q1,q2⟩:=p3.obj q _ (aH _ _ _);rw[I] at q1;cases q1;simp only[AObj.succ] at q2;rw[q2,aH]
  obtain⟨b,r',fn',J,g1,g2,g3,g4,g5,g6⟩:=p2.obj q _ I;rw[aa] at g1;cases g1;refine⟨v,rfl,_,run_endLoop g2 hst,?_⟩;have ab:Evolve S' μ2 (fC (upd st.h q (some (.lp .ready none ⟨n,ps,asg,body⟩ e))) (outs ((q,.lp st' j u e')::hout))) S' (upd μ2 q (some (w.heap.size,(0,0)))) (upd (fC (upd st.h q (some (.lp .ready none ⟨n,ps,asg,body⟩ e))) (outs ((q,.lp st' j u e')::hout))) q (some (.lp .exhausted j u e'))):=
   eV I aa trivial
  have hW4:=WChg.putObj (o:=.loop { state:=.exhausted,pending:=j,fn:=fn',tmps:=J,params:=u.params,assign:=u.asg,body:=u.body,defers:=r' }) g2;have hI4:=p2.chg (id:=q) (cap:=(0,0)) (ao:=.lp .exhausted j u e') hW4 (.inr ⟨_,_,I,aa⟩) ab
   ⟨w.heap.size,r',fn',J,aH _ _ _,hW4.new,g3,fun t v E=>aN.evolve ab _ _ (g4 t v E),g5,g6⟩ (fun k v hc=>by rw[g5] at hc;cases hc) (fun m hc=>by rw[g6] at hc;cases hc)
  have B:upd (fC (upd st.h q (some (.lp .ready none ⟨n,ps,asg,body⟩ e))) (outs ((q,.lp st' j u e')::hout))) q (some (.lp .exhausted j u e'))=fC st.h (outs ((q,.lp .exhausted j u e')::hout)):=by
   funext k;by_cases hk:k=q
   ·subst hk;rw[aH,dE,dA]
   ·rw[aW _ _ _ hk,dE,dE,dZ hk,dZ hk,aW _ _ _ hk]
  refine hQ S' (upd μ2 q (some (w.heap.size,(0,0)))) _ ?_;have M:=(p3.trans ab)
  exact⟨by rw[←B];exact hI4,A.size,by
   show Marks _ _ (fC st.h (outs ((q,.lp .exhausted j u e')::hout))) st.d a.defers;rw[←B];exact A.defers.evolve M,fun t v E=>by
   show aN S' _ (fC st.h (outs ((q,.lp .exhausted j u e')::hout))) v _
   rw[←B];exact aN.evolve M _ _ (A.env t v E)⟩
theorem Marks.mem {lo:Nat}{μ:Mu}{H:bX}:∀{ids:List Nat}{g:List Deferred},Marks lo μ H ids g→∀id∈ids,H id=some .dfr
 | [],_,_,id,h=>by simp at h
 | i::ids,_,⟨b,c,y,h1,h2,q,A,B,u⟩,id,h=>by
  rcases Au.1 h with rfl | h
  ·exact q
  ·exact Marks.mem u id h
def aSt (F:Fence) (m:Nat) (P:Program) (Q':Exit→Act→World→Prop) (a:Act) (w:World):Option Code→Prop
 | none=>Q' .normal a w
 | some c=>c.wpIn F m P Q' a w
theorem aVz {st st':St}(h:st'.e=st.e) (x:Operand):opv st' x=opv st x:=by cases x<;>simp[opv,h]
theorem aO7 {F:Fence}{m:Nat}{kf:List Nat}{Q:Exit→St→Prop}{Q':Exit→Act→World→Prop}{q st2:St}{G:Ctx}{S:Sto}{μ:Mu}{a:Act}{w:World}{j:Option Code}(B:G.keeps kf) (hs:Sim G n S μ q a w) (u:Sub kf st2 q) (g:aAl Q st2 j)
  (y:∀ex st' S' μ' A w',Q ex st'→Sim G n S' μ' st' A w'→Q' ex A w'):aSt F m P Q' a w j:=by
 obtain⟨S',μ',h⟩:=u G n S μ a w B hs
 match j,g with
 | none,g=>exact y _ _ _ _ _ _ g h
 | some .ret,g=>exact wpIn_ret (y _ _ _ _ _ _ g h)
 | some (.exit id),g=>exact wpIn_exit (y _ _ _ _ _ _ g h)
theorem wT {kf:List Nat}{Q:Exit→St→Prop}{g:Operand}{ps:Array Tmp}{asg body:Code}{f:FuncId}{caps:List R}{hin hout:List (Nat×AObj)}{st':LoopState}{j:Option Code}{i':LI}{e':List (Nat×V)}(y u:Nat) (e:List (Nat×V)) (st2:St)
  (hb:fG P f) (hg:opv st g=some (.one (.clo f caps))) (he:eF (fun p=>st.e p.1=some p.2) e) (O:eF (fun p=>st.h p.1=some p.2) hin) (I:eF (fun p=>p.1∈keys hin∨st.h p.1=none) hout) (U:st.h y=none) (A:st.h u=none)
  (hf:aV P f (.one (.yl y)::caps.map V.one) ((y,.lp .ready none ⟨n,ps,asg,body⟩ e)::hin) (.tup []) ((y,.lp st' j i' e')::hout))
  (hok:(dU (.one (.yl y)::caps.map V.one) ((y,.lp .ready none ⟨n,ps,asg,body⟩ e)::hin)&&(!Nat.beq u y&& !((keys hout).contains u)))=true) (hst:st'≠ .busy)
  (Y:Sub kf st2 ⟨st.e,fC (upd st.h u (some .dfr)) (outs ((y,.lp .exhausted j i' e')::hout)),u::st.d⟩) (hQ:aAl Q st2 j):AWp none P n kf (.rangeFunc g ps asg body) st Q:=by
 intro G S μ a w Q' hgk hs hk;rw[ε,ε] at hok;obtain⟨hok,hne,B⟩:=hok;have B:=aOp B;have aa:u≠y:=by
  intro h;subst h;simp at hne
 refine wpIn_rangeFunc fun fn _=>?_
 have hW:=WChg.alloc w (.deferred (some []));have hE:=dR (S:=S) (μ:=μ) A (some (w.heap.size,(0,0))) (some .dfr);have E:(∀k,S.cell w.heap.size k=none)∧S.mapo w.heap.size=none:=by
  refine⟨fun k=>?_,?_⟩
  ·cases hc:S.cell w.heap.size k with
   | none=>rfl
   | some v=>obtain⟨vs,t,fr,h1,_⟩:=hs.inv.holds.1 _ _ _ hc;exact absurd (c9 h1) (Cm _)
  ·cases hc:S.mapo w.heap.size with
   | none=>rfl
   | some v=>obtain⟨_,h1⟩:=MK.holds_some (hs.inv.holds.2 _ _ hc);exact absurd (c9 h1) (Cm _)
 have hI1:=hs.inv.chg (id:=u) (cap:=(0,0)) (ao:=.dfr) hW (.inl (le_refl _)) hE ⟨w.heap.size,aH _ _ _,hW.new,E⟩
  (fun k v hc=>by rw[E.1] at hc;cases hc) (fun m hc=>le_refl _)
 have hmk:Marks G.w0.heap.size (upd μ u (some (w.heap.size,(0,0)))) (upd st.h u (some .dfr)) (u::st.d) ({ target:=.collected w.heap.size,args:= #[] }::a.defers):=
  ⟨w.heap.size,_,_,rfl,aH _ _ _,aH _ _ _,hs.inv.frame.size,(fun h=>by have:=hs.defers.mem u h;rw[A] at this;cases this),hs.defers.evolve hE⟩
 have hsA:Sim G n S (upd μ u (some (w.heap.size,(0,0)))) ⟨st.e,upd st.h u (some .dfr),u::st.d⟩ { a with defers:=[{ target:=.collected w.heap.size,args:= #[] }]++a.defers } (w.alloc (.deferred (some []))):=
  ⟨hI1,hs.size,hmk,fun t v ht=>aN.evolve hE _ _ (hs.env t v ht)⟩
 have hnd:∀{j o},st.h j=some o→j≠u:=by rintro j o hj rfl;rw[A] at hj;cases hj
 have hinA:eF (fun p=>upd st.h u (some .dfr) p.1=some p.2) hin:=by
  have:∀l:List (Nat×AObj),eF (fun p=>st.h p.1=some p.2) l→eF (fun p=>upd st.h u (some .dfr) p.1=some p.2) l:=by
   intro l
   induction l with
   | nil=>intro _;trivial
   | cons p l ih=>intro h;exact⟨(aW _ _ _ (hnd h.1)).trans h.1,ih h.2⟩
  exact this _ O
 have J:eF (fun p=>p.1∈keys hin∨upd st.h u (some .dfr) p.1=none) hout:=by
  have:∀l:List (Nat×AObj),(∀p∈l,p.1≠u)→eF (fun p=>p.1∈keys hin∨st.h p.1=none) l→eF (fun p=>p.1∈keys hin∨upd st.h u (some .dfr) p.1=none) l:=by
   intro l
   induction l with
   | nil=>intro _ _;trivial
   | cons p l ih=>intro hl h;exact⟨h.1.imp id fun h=>(aW _ _ _ (hl p (by simp))).trans h,ih (fun q hq=>hl q (by simp[hq])) h.2⟩
  refine this _ (fun p hp he=>?_) I;obtain⟨x,hx⟩:=bZ (mem_map.2 ⟨p,hp,rfl⟩:p.1∈hout.map (·.1));rw[he,B] at hx;cases hx
 obtain⟨d,w2,args,q1,q2,q3⟩:=aB6 (P:=P) (G:=G) (st:=⟨st.e,upd st.h u (some .dfr),u::st.d⟩) (fn:=fn) (r:=w.heap.size) (asg:=asg) (body:=body) (ps:=ps) (Q:=fun M=>aSt (Wd none) 0 P Q' { a with defers:=[{ target:=.collected w.heap.size,args:= #[] }]++a.defers } M j)
  hb (by rw[aVz rfl];exact hg) he hinA J (by show upd st.h u (some .dfr) y=none;rw[aW _ _ _ (Ne.symm aa)];exact U) hf hok hst hsA (fun S' μ' M hs4=>aO7 hgk.1 hs4 Y hQ hk)
 refine⟨w.heap.size+1,[{ target:=.collected w.heap.size,args:= #[] }],_,d,w2,f,args,w2,run_enterLoop_outer _ _ _ _ _,?_,fun _ _=>trivial,q2,fun h=>by simp[Wd] at h,Wd.calls.2 ?_⟩
 ·rw[World.size_alloc] at q1;exact q1
 ·refine q3.mono ?_;rintro ending w3 ⟨v,rfl,M,h1,h2⟩;rw[World.size_alloc] at h1;exact⟨j,M,h1,by cases j<;>exact h2⟩
end
def x6 (W:World):Sto:=
 ⟨fun b o=>match W.heap[b]? with | some (.cells vs _ _)=>vs[o]? | _=>none,fun b=>match W.heap[b]? with | some (.map es clk)=>some (.all es clk) | _=>none⟩
theorem aCl (W:World):aDn (x6 W) W:=by
 refine⟨fun b o v h=>?_,fun b mk h=>?_⟩
 ·simp only[x6] at h;split at h
  ·rename_i vs t g hq;exact⟨vs,t,g,hq,h⟩
  ·cases h
 ·simp only[x6] at h;split at h
  ·rename_i hq;cases h;exact hq
  ·cases h
theorem aJ1 (W:World):(x6 W).noTop:=fun b m e=>by
 simp only[x6] at e;split at e
 ·cases e;exact⟨_,_,rfl⟩
 ·cases e
theorem aFn (W:World):(x6 W).free:=fun b te lo hi e=>by
 obtain⟨_,_,h⟩:=aJ1 W b _ e;cases h
theorem aFo {W:World}{a:Addr}{v:Value}(h:W.cell? a=some v):(x6 W).cell a.block a.off=some v:=by
 unfold World.cell? at h;simp only[x6];split at h
 ·rename_i hq;rw[hq];split at h
  ·cases h
  ·exact h
 ·cases h
theorem aFx {P:Program}{f:FuncId}{args:List V}{vals:List Value}{res:V}(h:aV P f args [] res []) (W:World) (u:aT (x6 W) (fun _=>none) (look []) args vals) (y:aQz W:=by first | assumption | (intro g h;cases h)):
  Calls P f ⟨vals⟩ W fun e W'=>∃v S μ,e=.returned v∧RowKit.Below W.heap.size W W'∧aN S μ (look []) res v:=by
 have A:Inv ⟨W,x6 W,i3 (fun _=>none) (look []),fun _=>none,look []⟩ (x6 W) (fun _=>none) (look []) W:=
  ⟨aCl W,(fun _ _ h=>by cases h),(fun _ _ _ _ _ _ _ h=>by cases h),(fun _ _ _ _ h=>by cases h),FrameW.refl _ _ ⟨y,fun g _ ⟨_,_,_,h,_⟩=>by cases h⟩,Sto.le_refl _,fun _ _ _=>⟨fun _=>rfl,rfl⟩,Evolve.refl _ _ _,aFn W⟩
 refine(h (x6 W) (fun _=>none) W vals A u).mono ?_;rintro e W' ⟨S',μ',v,he,q,B⟩;refine⟨v,S',μ',he,⟨q.frame.os,q.frame.tape,q.frame.output,q.frame.size,fun k E=>q.frame.block k E ?_⟩,B⟩;rintro⟨id,o,c,h1,_⟩;cases h1
theorem aQl {S:Sto}{μ:Mu}{H:bX}{b:Bool}{v:Value}(h:aN S μ H (B b) v):v=.bool b:=by simpa [aN,aY,Rep] using h
def k9 (l:List Int):List (List C):=l.map fun m=>[.int .i64 m]
theorem aJh {W:World}{a:Addr}{len cap:Nat}{l:List Int}(hs:cap≠0→a.spot=none) (hl:l.length=len) (hc:len≤cap) (hm:cap≤maxLen) (g:∀i,i<len→W.cell? (a.add i)=some (.int .i64 (l.getD i 0))):
  Rep (x6 W) (.sl 1 (k9 l)) (.slice (some a) len cap):=by
 simp only[Rep];refine⟨some a,len,cap,rfl,by simp[k9,hl],hc,hm,(by intro h;cases h),(by intro u h;cases h;exact hs),a.block,a.off,(by intro u h;cases h;exact⟨rfl,rfl⟩),?_⟩;have key:∀(r:List Int) (k:Nat),(∀i,i<r.length→W.cell? (a.add (k+i))=some (.int .i64 (r.getD i 0)))→bG (x6 W) 1 a.block (k9 r) (a.off+k):=by
  intro r
  induction r with
  | nil=>intro k _;simp[k9,bG]
  | cons x r y=>
   intro k q;simp only[k9,Be,bG];refine⟨rfl,⟨[.int .i64 x],by simp[bS,Rep],fun i v hi=>?_⟩,?_⟩
   ·have h0:=aFo (q 0 (by simp));have hb:(a.add (k+0)).block=a.block:=by unfold Addr.add;split<;>rfl
    have ho:(a.add (k+0)).off=a.off+k:=by
     unfold Addr.add;split
     ·rename_i h;omega
     ·rfl
    rw[hb,ho] at h0;cases i with
    | zero=>simp at hi;subst hi;simpa using h0
    | succ i=>simp at hi
   ·have:=y (k+1) fun i hi=>by
     have:=q (i+1) (by simp;omega);rw[show k+(i+1)=k+1+i by omega] at this;simpa using this
    rw[add_assoc];exact this
 have:=key l 0 fun i hi=>by rw[Ba];exact g i (by omega)
 simpa using this
theorem uE {W:World}:Rep (x6 W) (.sl 1 (k9 [])) (.slice none 0 0):=by
 simp only[Rep];exact⟨none,0,0,rfl,rfl,le_refl _,Ad _,(fun _=>⟨rfl,rfl⟩),(by intro g h;cases h),0,0,(by intro g h;cases h),by simp[k9,bG]⟩
theorem qX {H:Type}{enc:TypeId×Value→H}{P:Program}{W:World}{t e:TypeId}{v:Value}{d:DataW H}{ps:List MemPlace}{base:Nat}(A:P.underlying t=some (.slice e)) (he:P.underlying e=some (.int .i64)) (hc:P.cellsOf e=1)
  (hok:Value.okWide P W .any base t v) (h:DataW.Trod enc P W 0 (fun _=>true) true t v d ps):
  ∃l:List Int,Rep (x6 W) (.sl 1 (k9 l)) v∧(∀m∈l,-9223372036854775808≤m∧m≤9223372036854775807)∧(∃x y,(d=.nil∧l=[])∨(d=.slice x y∧x.length=l.length)):=by
 obtain⟨fuel,E⟩:=h;obtain⟨a0,g,q,rfl⟩:=WideShapes.okWide_slice A hok;rcases ChangeShapes.open_ints A he hc E with⟨h1,h2⟩ | ⟨a,len,cap,u,h1,_,I,J,M,O,U,Y⟩
 ·have B:Value.slice a0 g q=.slice none 0 0:=by
   simp only[Value.cells] at h1;simpa using h1
  cases B;refine⟨[],uE,by simp,[],[],.inl ⟨?_,rfl⟩⟩;have:=congrArg Prod.fst h2;simpa using this
 ·have B:Value.slice a0 g q=.slice (some a) len cap:=by
   simp only[Value.cells] at h1;simpa using h1
  cases B;have hs:a.spot=none:=by
   simp only[Value.okWide,A,Cell.okWide,Cell.ok] at hok;exact hok.2.2.2.1
  have hlen:g≤u.length:=by rw[M];split<;>omega
  refine⟨u.take g,aJh (fun _=>hs) (by simp;omega) I J (fun i hi=>?_),fun m hm=>?_,ChangeShapes.lits .i64 (u.take g),ChangeShapes.lits .i64 (u.drop g),.inr ⟨?_,?_⟩⟩
  ·rw[U i (by omega)];congr 2;simp[List.getD_eq_getElem?_getD,hi]
  ·have:=Y m (B9 hm);simp only[Lit.wf,ε,As] at this;exact this
  ·have:=congrArg Prod.fst O;simpa using this
  ·simp[ChangeShapes.lits]
inductive BndV (st:St):Option Operand→Nat→Nat→Prop
 | no {m}:BndV st none m m
 | yes {x kk m k}:opv st x=some (I kk ((k:Nat):Int))→BndV st (some x) m k
def aLm:Option Operand→List Nat
 | none=>[]
 | some x=>opr x
section
variable {P:Program}{n:Nat}{o:Oper}{st:St}{d:Nat}{T:TT}
theorem BndV.val {G:Ctx}{S:Sto}{μ:Mu}{st':St}{a:Act}{w:World}{x:Option Operand}{m k:Nat}(h:BndV st x m k) (hs:Sim G n S μ st' a w) (ha:∀t∈aLm x,st'.e t=st.e t):
  (x=none∧k=m)∨∃kk,x.map a.eval=some (.int kk ((k:Nat):Int)):=by
 cases h with
 | no=>exact .inl ⟨rfl,rfl⟩
 | @yes x kk _ _ h=>exact .inr ⟨kk,by rw[B1,dL (aK hs h ha)]⟩
theorem qQ {w:World}{b:Bool}{len cap lo hi:Nat}{low high:Option Value}(hl:(low=none∧lo=0)∨∃kk,low=some (.int kk ((lo:Nat):Int))) (hh:(high=none∧hi=len)∨∃kk,high=some (.int kk ((hi:Nat):Int))) (h1:lo≤hi) (h2:hi≤len) (g:len≤cap):
  (Instr.sliceBounds b len cap low high none).run P w=.ok (lo,hi,cap) w:=by
 have q:hi≤cap:=le_trans h2 g;rcases hl with⟨rfl,rfl⟩ | ⟨u,rfl⟩<;>rcases hh with⟨rfl,rfl⟩ | ⟨y,rfl⟩<;>simp[Instr.sliceBounds,Instr.sliceBound,asIntOf,h1,q]
theorem aVt {t e:TypeId}{i u:TI}{x:Operand}{low high:Option Operand}{es lo hi:Nat}{l:List (List C)}(E:Tok P T) (ho:o.op=.slice t x low high none) (hd:o.dst=some d) (I:d<n) (J:T[t]?=some (some i)) (hk:i.k=.sl e) (M:T[e]?=some (some u)) (O:u.size=es)
  (hx:opv st x=some (.one (.c (.sl es l)))) (U:BndV st low 0 lo) (Y:BndV st high l.length hi) (h1:lo≤hi) (h2:hi≤l.length):
  Step P n o st ⟨opr x++aLm low++aLm high,[]⟩ ⟨some (d,some (.one (.c (.sl es ((l.take hi).drop lo))))),[]⟩:=by
 refine Step.value hd I fun st' ha G S μ a w hs=>?_
 have hv:=aK hs hx fun t q=>ha.1 t (by simp[q])
 have hl:=U.val hs fun t q=>ha.1 t (by simp[q])
 have hh:=Y.val hs fun t q=>ha.1 t (by simp[q])
 simp only[aN,aY,Rep] at hv;obtain⟨g,len,cap,p1,p2,p3,p4,p5,p6,b,of,p7,p8⟩:=hv;subst p2;have hb:=qQ (P:=P) (w:=w) (b:=true) (low:=low.map a.eval) (high:=high.map a.eval) (len:=l.length) (cap:=cap) (by rcases hl with⟨rfl,h⟩ | h;exact .inl ⟨rfl,h⟩;exact .inr h) (by rcases hh with⟨rfl,h⟩ | h;exact .inl ⟨rfl,h⟩;exact .inr h) h1 h2 p3;refine⟨.slice (if cap=lo then g else g.map (·.add (lo*u.size))) (hi-lo) (cap-lo),?_,?_⟩
 ·have hu:=Ah ((E.get J).slice hk) w;simp only[execOp,ho,p1,Option.map_none,π,Instr.sliceAt,hu,ζ,Instr.slice,hb,(E.get M).size_run w,τ]
 ·simp only[aN,aY,Rep];have hlen:((l.take hi).drop lo).length=hi-lo:=by simp;omega
  refine⟨_,_,_,rfl,hlen.symm,by omega,by omega,?_,?_,?_⟩
  ·intro e;have:g=none:=by
    split at e
    ·exact e
    ·cases g<;>simp at e;rfl
   obtain⟨A,B⟩:=p5 this;omega
  ·intro y e hcc;split at e
   ·omega
   ·cases g with
    | none=>cases e
    | some z=>
     simp at e;subst e;have:=p6 z rfl (by omega);obtain⟨zb,zo,zs⟩:=z;simp at this;subst this;rw[Addr.add_mid]
  ·by_cases hc:cap=lo
   ·have:(l.take hi).drop lo=[]:=Ap (by omega);rw[this];refine⟨b,of,fun y e=>p7 y (by rwa [θ hc] at e),by simp[bG]⟩
   ·refine⟨b,of+lo*es,fun y e=>?_,(p8.take hi).drop lo⟩;rw[ξ hc] at e;cases g with
    | none=>cases e
    | some z=>
     simp at e;subst e;obtain⟨A,B⟩:=p7 z rfl;have:=p6 z rfl (by omega);obtain⟨zb,zo,zs⟩:=z;simp at this A B;subst this A B;rw[Addr.add_mid,O];exact⟨rfl,rfl⟩
theorem extract_mk (s:List UInt8) (lo hi:Nat):(ByteArray.mk ⟨s⟩).extract lo hi=⟨⟨(s.take hi).drop lo⟩⟩:=by
 apply ByteArray.ext;simp;rw[drop_take]
theorem aR0 {t:TypeId}{i:TI}{x:Operand}{low high:Option Operand}{lo hi:Nat}{s:List UInt8}(B:Tok P T) (ho:o.op=.slice t x low high none) (E:o.dst=some d) (q:d<n) (u:T[t]?=some (some i)) (I:i.k=.str)
  (hx:opv st x=some (Go.AM.T s)) (y:BndV st low 0 lo) (A:BndV st high s.length hi) (h1:lo≤hi) (h2:hi≤s.length):
  Step P n o st ⟨opr x++aLm low++aLm high,[]⟩ ⟨some (d,some (Go.AM.T ((s.take hi).drop lo))),[]⟩:=by
 refine Step.value E q fun st' ha G S μ a w hs=>?_
 have J:=jW (aK hs hx fun t g=>ha.1 t (by simp[g]));have hl:=y.val hs fun t g=>ha.1 t (by simp[g])
 have hh:=A.val hs fun t g=>ha.1 t (by simp[g])
 have hb:=qQ (P:=P) (w:=w) (b:=false) (low:=low.map a.eval) (high:=high.map a.eval) (len:=s.length) (cap:=s.length) (by rcases hl with⟨rfl,h⟩ | h;exact .inl ⟨rfl,h⟩;exact .inr h) (by rcases hh with⟨rfl,h⟩ | h;exact .inl ⟨rfl,h⟩;exact .inr h) h1 h2 (le_refl _);refine⟨.string ⟨⟨(s.take hi).drop lo⟩⟩,?_,by simp[aN,aY,Rep]⟩;have hu:=Ah ((B.get u).str I) w;have hsz:(ByteArray.mk ⟨s⟩).size=s.length:=rfl;simp only[execOp,ho,J,Option.map_none,π,Instr.sliceAt,hu,ζ,Instr.slice,hsz,hb,Option.isSome_none,Aq,Bq,τ,extract_mk]
theorem aMm {t:TypeId}{i:TI}{x y:Operand}{s:List UInt8}{kk:IntKind}{m:Int}{k:Nat}{b:UInt8}(B:Tok P T) (ho:o.op=.index t x y) (E:o.dst=some d) (q:d<n) (u:T[t]?=some (some i)) (J:i.k=.str)
  (hx:opv st x=some (Go.AM.T s)) (hy:opv st y=some (I kk m)) (hm:m=(k:Int)) (hb:s[k]?=some b):Step P n o st ⟨opr x++opr y,[]⟩ ⟨some (d,some (I .u8 ((b.toNat:Nat):Int))),[]⟩:=by
 refine Step.value E q fun st' ha G S μ a w hs=>?_
 have M:=jW (aK hs hx fun t g=>ha.1 t (by simp[g]));have h2:=dL (aK hs hy fun t g=>ha.1 t (by simp[g]));subst hm;refine⟨.int .u8 ((b.toNat:Nat):Int),?_,by simp[aN,aY,Rep]⟩;have hu:=Ah ((B.get u).str J) w;have O:(ByteArray.mk ⟨s⟩)[k]?=some b:=by
  have A:=(Af.1 hb).1
  have hsz:(ByteArray.mk ⟨s⟩).size=s.length:=rfl;rw[getElem?_pos (ByteArray.mk ⟨s⟩) k (by rw[hsz];exact A)];have:=(Af.1 hb).2
  rw[←this];rfl
 simp only[execOp,ho,M,h2,π,Instr.index,asIntOf,τ,ζ,hu];simp[O]
theorem aVm {t1 t2:TypeId}{x y:Operand}{k:IntKind}{a b r:Int}(ho:o.op=.call { callee:=.builtin .min,args:= #[x,y],argTypes:= #[t1,t2] }) (q:o.dst=some d) (g:d<n) (hx:opv st x=some (I k a)) (hy:opv st y=some (I k b)) (u:(if b<a then b else a)=r):
  Step P n o st ⟨opr x++opr y,[]⟩ ⟨some (d,some (I k r)),[]⟩:=by
 refine Step.value q g fun st' ha G S μ ac w hs=>?_
 have h1:=dL (aK hs hx fun t h=>ha.1 t (by simp[h]));have h2:=dL (aK hs hy fun t h=>ha.1 t (by simp[h]));refine⟨.int k r,?_,by simp[aN,aY,Rep]⟩;simp only[execOp,ho,resolve,map_toArray,Be,map_nil,h1,h2,π,τ,ζ,invoke,builtin,Builtin.min_,List.foldlM_cons,List.foldlM_nil,Builtin.min2,u]
end
section
variable {P:Program}{n:Nat}{o:Oper}{st:St}{d:Nat}{T:TT}
theorem jF.rarr {S:Sto}{μ:Mu}{H:bX}{w:World}{id:Nat}{te es:Nat}{elems:List (List R)}(h:jF S μ H w id (.rarr te es elems)) {b base cap:Nat}(hm:μ id=some (b,base,cap)):
  (∀r∈elems,r.length=es)∧∃vs,w.heap[b]?=some (.cells ⟨vs⟩ te (0,0))∧base+cap*es≤vs.length∧elems.length≤cap∧(cap≤maxLen∧S.mapo b=none)∧aP S μ H elems.flatten ((vs.drop base).take (elems.length*es))∧(∀o,base≤o→S.cell b o=none):=by
 obtain⟨h0,h1 | ⟨I,g,q,vs,h1,h2,u,y,A,B,E⟩⟩:=h
 ·rw[h1.1] at hm;cases hm
 ·rw[h1] at hm;cases hm;exact⟨h0,vs,h2,u,y,A,B,E⟩
def rU (st:St) (es:Nat):Nat→List (Nat×Operand)→Option (List (List R))
 | _,[]=>some []
 | k,(i,x)::ps=>bif Nat.beq i k then(opv st x).bind fun v=>(fO v).bind fun rs=>bif Nat.beq rs.length es then(rU st es (k+1) ps).bind fun l=>some (rs::l) else none else none
theorem uC {es:Nat}:∀{ps:List (Nat×Operand)}{k:Nat}{l:List (List R)},rU st es k ps=some l→l.length=ps.length∧∀r∈l,r.length=es
 | [],k,l,h=>by simp[rU] at h;subst h;simp
 | (i,x)::ps,k,l,h=>by
  simp only[rU] at h;cases hi:Nat.beq i k with
  | false=>rw[hi] at h;cases h
  | true=>
   rw[hi] at h;simp only[Bk,Ab] at h;obtain⟨v,y,rs,u,h⟩:=h;cases hl:Nat.beq rs.length es with
   | false=>rw[hl] at h;cases h
   | true=>
    rw[hl] at h;simp only[Bk,Ab] at h;obtain⟨l',q,h⟩:=h;cases h;obtain⟨h1,h2⟩:=uC q;refine⟨by simp[h1],fun r g=>?_⟩;rcases Au.1 g with rfl | g
    ·exact δ hl
    ·exact h2 r g
theorem aB5 {G:Ctx}{S:Sto}{μ:Mu}{st':St}{a:Act}{w:World}(hs:Sim G n S μ st' a w) {es:Nat}:∀{k:Nat}{ps:List (Nat×Operand)}{rows:List (List R)},rU st es k ps=some rows→(∀t∈eQ ps,st'.e t=st.e t)→
  ∀(cells:Array Value),cells.size=(k+ps.length)*es→∃out:Array Value,Instr.fill (fun i=>some (i*es,es)) cells (ps.map fun(i,x)=>(i,a.eval x))=some out∧out.size=cells.size∧
   ∃us,aP S μ st'.h rows.flatten us∧out.toList=cells.toList.take (k*es)++us:=by
 intro k ps
 induction ps generalizing k with
 | nil=>
  intro rows h _ cells hc;simp only[rU] at h;cases h;refine⟨cells,rfl,rfl,[],by simp[aP],?_⟩;rw[A0,Aw];simp at hc;simp[hc]
 | cons p ps M=>
  obtain⟨i,x⟩:=p;intro rows h ha cells hsz;simp only[rU] at h;cases hi:Nat.beq i k with
  | false=>rw[hi] at h;cases h
  | true=>
   rw[hi] at h;have B:=δ hi;subst B;simp only[Bk,Ab] at h;obtain⟨v,O,rs,E,h⟩:=h;cases hl:Nat.beq rs.length es with
   | false=>rw[hl] at h;cases h
   | true=>
    rw[hl] at h;simp only[Bk,Ab] at h;obtain⟨l',u,h⟩:=h;cases h;have aa:=δ hl;have hrel:=dB (aK hs O fun t y=>ha t (by simp[eQ,y])) E;have I:=hrel.length;simp only[Ax] at I;simp only[Aa] at hsz;have ab:(i+(ps.length+1))*es=i*es+es+ps.length*es:=by
     rw[A6,A6];omega
    have A:=mC (i*es) (a.eval x).cells.toList 0 cells (by simp only[Ax];omega);have q:(bQ cells.toList (i*es) (a.eval x).cells.toList).length=cells.size:=by
     unfold bQ;simp;omega
    obtain⟨out,h1,h2,us,U,Y⟩:=M u (fun t y=>ha t (by simp[eQ,y])) ⟨bQ cells.toList (i*es) (a.eval x).cells.toList⟩ (by
     simp only[size_toArray,q,hsz];congr 1
     omega)
    refine⟨out,?_,by rw[h2];simpa using q,(a.eval x).cells.toList++us,?_,?_⟩
    ·simp only[Be,Instr.fill];have g:((a.eval x).cells.size≠es || decide (i*es+(a.eval x).cells.size>cells.size))=false:=by
      simp only[Bool.or_eq_false_iff,decide_eq_false_iff_not];exact⟨by simp;omega,by omega⟩
     simp only[g,Aq,Bq];have J:((a.eval x).cells.zipIdx.foldl (fun cs (x:Value×Nat)=>cs.setIfInBounds (i*es+x.2) x.1) cells)=⟨bQ cells.toList (i*es) (a.eval x).cells.toList⟩:=by
      rw[←Array.foldl_toList,Array.toList_zipIdx];simpa using A
     rw[←h1];congr 1
    ·rw[Bb];exact hrel.append U
    ·rw[Y];have:(bQ cells.toList (i*es) (a.eval x).cells.toList).take ((i+1)*es)=cells.toList.take (i*es)++(a.eval x).cells.toList:=by
      unfold bQ;apply take_left';simp;rw[A6];omega
     show(bQ cells.toList (i*es) (a.eval x).cells.toList).take ((i+1)*es)++us=_;rw[this,An]
theorem aJi {t e:TypeId}{i g:TI}{len:Nat}{parts:Array (Nat×Operand)}{rows:List (List R)}(id:Nat) (A:Tok P T) (ho:o.op=.buildSlice t len parts) (hd:o.dst=some d) (aa:d<n) (hi:T[t]?=some (some i)) (hk:i.k=.sl e) (u:T[e]?=some (some g))
  (y:rU st g.size 0 parts.toList=some rows) (hlen:Nat.beq len parts.size=true) (B:Nat.ble (len*g.size) 16777216=true) (M:Nat.ble len 16777216=true) (hid:st.h id=none):
  Step P n o st ⟨eQ parts.toList,[id]⟩ ⟨some (d,some (.one (.ra id 0 len len))),[(id,some (.rarr e g.size rows))]⟩:=by
 refine Step.new hd aa hid (by simp) fun st' ha O G S μ a w hs=>?_
 have I:=δ hlen;have hsm:=Am B;obtain⟨z,hz,hzr,_⟩:=(A.get u).zero_run;have J:=(hzr S).length;rw[(A.get u).len] at J;simp only[Ax] at J;obtain⟨hrl,hrw⟩:=uC y;simp only[Ax] at hrl;have key:∀(cells:Array Value),cells.size=len*g.size→∃out:Array Value,Instr.fill (fun i=>some (i*g.size,g.size)) cells (parts.map fun(i,x)=>(i,a.eval x)).toList=some out∧out.size=len*g.size∧aP S μ st'.h rows.flatten out.toList:=by
  intro cells hc;obtain⟨out,h1,h2,us,q,h4⟩:=aB5 hs y ha.1 cells (by rw[hc,I];simp);refine⟨out,by rw[←h1];simp,by rw[h2,hc],?_⟩;simp at h4;rw[h4];exact q
 have U:∃out:Array Value,(Instr.buildSlice t len (parts.map fun(i,x)=>(i,a.eval x))).run P w=.ok (.slice (some ⟨w.heap.size,0,none⟩) len len) (w.alloc (.cells out e))∧out.size=len*g.size∧aP S μ st'.h rows.flatten out.toList:=by
  by_cases h0:len*g.size=0
  ·obtain⟨out,h1,h2,q⟩:=key ((Array.range (len*g.size)).map ((#[]:Array Value)[· %(#[]:Array Value).size]!)) (by simp);refine⟨out,?_,h2,q⟩;have E:¬len*g.size>2^24:=by omega
   simp only[Instr.buildSlice,π,Ah ((A.get hi).slice hk) w,ζ,(A.get u).size_run w];rw[ξ E,θ h0];simp only[π,ζ,τ,h1,fW]
  ·obtain⟨out,h1,h2,q⟩:=key ((Array.range (len*g.size)).map (z.cells[· %z.cells.size]!)) (by simp);refine⟨out,?_,h2,q⟩;have E:¬len*g.size>2^24:=by omega
   simp only[Instr.buildSlice,π,Ah ((A.get hi).slice hk) w,ζ,(A.get u).size_run w];rw[ξ E,ξ h0];simp only[π,hz w,ζ,τ,h1,fW]
 obtain⟨out,h1,h2,q⟩:=U;have hlm:len≤maxLen:=by
  have:=Am M;unfold maxLen;omega
 have Y:rows.length=len:=by omega
 refine⟨_,_,.slice (some ⟨w.heap.size,0,none⟩) len len,(0,len),?_,WChg.alloc w (.cells out e),?_,?_⟩
 ·simp only[execOp,ho,π,h1,ζ,τ]
 ·refine⟨hrw,.inr ⟨w.heap.size,0,len,out.toList,aH _ _ _,Bx w _,by simp[h2],by omega,⟨hlm,nQ hs.inv⟩,?_,fun o _=>eJ hs.inv o⟩⟩;simp only[B0];rw[Aw (by simp[h2,Y])];exact aP.evolve (dR O _ _) _ _ q
 ·simp only[aN,aY];exact⟨⟨_,_,_,rfl⟩,.inr ⟨e,g.size,rows,aH _ _ _,by omega,fun _=>⟨by omega,.inr ⟨w.heap.size,0,len,aH _ _ _,by simp⟩⟩⟩⟩
theorem aCb {t e:TypeId}{i B:TI}{x y:Operand}{te es k id off len sz:Nat}{kk:IntKind}{m:Int}{elems:List (List R)}(hT:Tok P T) (ho:o.op=.indexAddr t x y) (hd:o.dst=some d) (E:d<n) (hi:T[t]?=some (some i)) (hk:i.k=.sl e) (J:T[e]?=some (some B)) (M:B.size=es)
  (hx:opv st x=some (.one (.ra id off len sz))) (hh:st.h id=some (.rarr te es elems)) (hsz:sz=elems.length) (hy:opv st y=some (I kk m)) (hm:m=(k:Int)) (O:k<len):Step P n o st ⟨opr x++opr y,[id]⟩ ⟨some (d,some (.one (.rp id (off+k) 0 sz))),[]⟩:=by
 refine Step.value hd E fun st' ha G S μ a w hs=>?_
 have g:=aK hs hx fun t u=>ha.1 t (by simp[u])
 have U:=dL (aK hs hy fun t u=>ha.1 t (by simp[u]));have q:st'.h id=some (.rarr te es elems):=by rw[ha.2 id (by simp),hh]
 simp only[aN,aY] at g;obtain⟨_,g | ⟨te',es',elems',h1,h2,h3⟩⟩:=g
 ·rw[q] at g;cases g
 rw[q] at h1;cases h1;obtain⟨h4,⟨Y,A,h7⟩ | ⟨b,base,cap,Y,A⟩⟩:=h3 hsz
 ·subst A;simp at hsz;omega
 subst hm;refine⟨.pointer (some ⟨b,base+(off+k)*es+0,none⟩),?_,?_⟩
 ·simp only[execOp,ho,A,U,π,iO hT hi hk J w b (base+off*es) len _ k kk O,ζ,τ,M,Ck];rw[show base+off*es+k*es=base+(off+k)*es by rw[A6];omega]
 ·simp only[aN,aY];exact⟨⟨_,rfl⟩,.inr ⟨te,es,elems,q,h2,fun _=>⟨by omega,b,base,cap,Y,rfl⟩⟩⟩
theorem aCe {t y:TypeId}{i A:TI}{fs:List (Nat×TypeId)}{f g:Nat}{x:Operand}{id k fo sz:Nat}(I:Tok P T) (ho:o.op=.fieldAddr t x f) (J:o.dst=some d) (B:d<n) (hi:T[t]?=some (some i)) (M:i.k=.st fs) (O:fs[f]?=some (g,y)) (E:T[y]?=some (some A)) (U:A.size≠0)
  {te es:Nat} {elems:List (List R)} (hx:opv st x=some (.one (.rp id k fo sz))) (hh:st.h id=some (.rarr te es elems)) (hsz:sz=elems.length):Step P n o st ⟨opr x,[id]⟩ ⟨some (d,some (.one (.rp id k (fo+g) sz))),[]⟩:=by
 refine Step.value J B fun st' ha G S μ a w hs=>?_
 have q:=aK hs hx ha.1;have u:st'.h id=some (.rarr te es elems):=by rw[ha.2 id (by simp),hh]
 simp only[aN,aY] at q;obtain⟨_,q | ⟨te',es',elems',h1,h2,Y⟩⟩:=q
 ·rw[u] at q;cases q
 rw[u] at h1;cases h1;obtain⟨h4,b,base,cap,h5,h6⟩:=Y hsz;refine⟨.pointer (some ⟨b,base+k*es+fo+g,none⟩),?_,?_⟩
 ·simp only[execOp,ho,h6,π,fZ I hi M O E U,ζ,τ]
 ·simp only[aN,aY];exact⟨⟨_,rfl⟩,.inr ⟨te,es,elems,u,h2,fun _=>⟨h4,b,base,cap,h5,by rw[add_assoc]⟩⟩⟩
theorem aJn {t e:TypeId}{i:TI}{x:Operand}{te es id off len sz:Nat}{elems:List (List R)}(y:Tok P T) (ho:o.op=.call { callee:=.builtin .len,args:= #[x],argTypes:= #[t] }) (E:o.dst=some d) (A:d<n) (hi:T[t]?=some (some i)) (B:i.k=.sl e)
  (hx:opv st x=some (.one (.ra id off len sz))) (hh:st.h id=some (.rarr te es elems)) (hsz:sz=elems.length):Step P n o st ⟨opr x,[id]⟩ ⟨some (d,some (I .i64 (len:Int))),[]⟩:=by
 refine Step.value E A fun st' ha G S μ a w hs=>?_
 have g:=aK hs hx ha.1;have q:st'.h id=some (.rarr te es elems):=by rw[ha.2 id (by simp),hh]
 simp only[aN,aY] at g;obtain⟨_,g | ⟨U,Y,elems',h1,h2,J⟩⟩:=g
 ·rw[q] at g;cases g
 rw[q] at h1;cases h1;obtain⟨h4,⟨M,u,O⟩ | ⟨b,base,cap,M,u⟩⟩:=J hsz
 ·have hl:len=0:=by subst u;simp at hsz;omega
  subst hl;refine⟨goInt 0,iN ho O ?_,by simp[aN,aY,Rep,goInt]⟩;simp[Builtin.len_,Ah ((y.get hi).slice B) w]
 ·refine⟨goInt len,iN ho u ?_,by simp[aN,aY,Rep,goInt]⟩;simp[Builtin.len_,Ah ((y.get hi).slice B) w]
theorem aEo {S:Sto}{μ:Mu}{H:bX}{es base:Nat}{elems:List (List R)}{vs:List Value}(h0:∀r∈elems,r.length=es) (h:aP S μ H elems.flatten ((vs.drop base).take (elems.length*es))) {k:Nat}{r:List R}(g:elems[k]?=some r):
  aP S μ H r ((vs.drop (base+k*es)).take es):=by
 have q:k<elems.length:=(Af.1 g).1
 have hmul:(k+1)*es≤elems.length*es:=Av _ q;rw[A6] at hmul;have h1:=(h.drop (k*es)).take es;rw[oR h0 k r g] at h1;rw[drop_take,take_take,Co,Cv (by omega)] at h1;exact h1
theorem aEv {t te es:Nat}{i:TI}{x:Operand}{id k fo sz:Nat}{elems:List (List R)}{r:List R}{y:V}(O:Tok P T) (ho:o.op=.load t x) (U:o.dst=some d) (E:d<n) (hi:T[t]?=some (some i)) (hx:opv st x=some (.one (.rp id k fo sz)))
  (hh:st.h id=some (.rarr te es elems)) (hsz:sz=elems.length) (I:elems[k]?=some r) (hl:fo+i.size≤es) (hy:iU i ((r.drop fo).take i.size)=some y):Step P n o st ⟨opr x,[id]⟩ ⟨some (d,some y),[]⟩:=by
 refine Step.value U E fun st' ha G S μ a w hs=>?_
 have q:=aK hs hx ha.1;have u:st'.h id=some (.rarr te es elems):=by rw[ha.2 id (by simp),hh]
 simp only[aN,aY] at q;obtain⟨_,q | ⟨te',es',elems',h1,h2,Y⟩⟩:=q
 ·rw[u] at q;cases q
 rw[u] at h1;cases h1;obtain⟨h4,b,base,cap,h5,h6⟩:=Y hsz;obtain⟨g0,vs,g1,g2,g3,g4,g5,g6⟩:=(hs.inv.obj id _ u).rarr h5;have B:=aEo g0 g5 I;have g:=(B.drop fo).take i.size;rw[drop_take,take_take,Co,Cv (by omega)] at g;have hlt:k<elems.length:=(Af.1 I).1
 have hmul:(k+1)*es≤cap*es:=Av _ (by omega);rw[A6] at hmul;have J:((vs.drop (base+k*es+fo)).take i.size).length=i.size:=aWb (by omega);have M:=iQ g1 (base+k*es+fo) i.size;refine⟨_,?_,jZ g hy⟩;have A:=run_load (O.get hi) w b (base+k*es+fo) _ M J;simp only[execOp,ho,h6,π,τ] at A ⊢;rw[A];rfl
theorem rX {x:Operand}{te es id k fo sz:Nat}{elems:List (List C)}{fz:Nat}(ho:o.op=.nilCheck x) (y:o.dst=some d) (u:d<n) (hx:opv st x=some (.one (.ep id k fo sz))) (hh:st.h id=some (.arr te es elems fz)) (hsz:sz=elems.length):
  Step P n o st ⟨opr x,[id]⟩ ⟨some (d,some (.one (.ep id k fo sz))),[]⟩:=by
 refine Step.value y u fun st' ha G S μ a w hs=>⟨a.eval x,?_,aK hs hx ha.1⟩
 have g:=aK hs hx ha.1;have q:st'.h id=some (.arr te es elems fz):=by rw[ha.2 id (by simp),hh]
 simp only[aN,aY] at g;obtain⟨_,g | ⟨E,I,elems',J,h1,h2,A⟩⟩:=g
 ·rw[q] at g;cases g
 rw[q] at h1;cases h1;obtain⟨M,b,base,cap,O,B⟩:=A hsz;simp[execOp,ho,B]
theorem rW {x:Operand}{te es id k fo sz:Nat}{elems:List (List R)}(ho:o.op=.nilCheck x) (y:o.dst=some d) (u:d<n) (hx:opv st x=some (.one (.rp id k fo sz))) (hh:st.h id=some (.rarr te es elems)) (hsz:sz=elems.length):
  Step P n o st ⟨opr x,[id]⟩ ⟨some (d,some (.one (.rp id k fo sz))),[]⟩:=by
 refine Step.value y u fun st' ha G S μ a w hs=>⟨a.eval x,?_,aK hs hx ha.1⟩
 have g:=aK hs hx ha.1;have q:st'.h id=some (.rarr te es elems):=by rw[ha.2 id (by simp),hh]
 simp only[aN,aY] at g;obtain⟨_,g | ⟨E,I,elems',h1,h2,A⟩⟩:=g
 ·rw[q] at g;cases g
 rw[q] at h1;cases h1;obtain⟨J,b,base,cap,M,B⟩:=A hsz;simp[execOp,ho,B]
end
section
variable {P:Program}{n:Nat}{o:Oper}{st:St}{d:Nat}{T:TT}
theorem rI {t e:TypeId}{i g:TI}{x y:Operand}{id id2 sz te2:Nat}{elems rows:List (List R)}{st':St}{G:Ctx}{S:Sto}{μ:Mu}{a:Act}{w:World}(hT:Tok P T) (ho:o.op=.call { callee:=.builtin .append,args:= #[x,y],argTypes:= #[t,t] })
  (hi:T[t]?=some (some i)) (hk:i.k=.sl e) (hei:T[e]?=some (some g)) (hes:Nat.ble 1 g.size=true) (heb:Nat.ble 1 g.bytes=true)
  (hsz:sz=elems.length) (hpos:0<rows.length) (hroom:(elems.length+rows.length)*g.bytes≤140737488355328) (hh':st'.h id=some (.rarr e g.size elems)) (hs:Sim G n S μ st' a w)
  (hvx:aN S μ st'.h (.one (.ra id 0 sz sz)) (a.eval x)) (hvy:aN S μ st'.h (.one (.ra id2 0 rows.length rows.length)) (a.eval y)) (hh2:st'.h id2=some (.rarr te2 g.size rows)):
  ∃w' v b bo c,(execOp a.eval o).run P w=.ok (.value v) w'∧(w.heap.size≤b∨∃c',μ id=some (b,c'))∧WChg w w' b bo∧
   jF S (upd μ id (some (b,c))) (upd st'.h id (some (.rarr e g.size (elems++rows)))) w' id (.rarr e g.size (elems++rows))∧(∀o v,S.cell b o=some v→∃vs t fr,bo=.cells vs t fr∧vs[o]?=some v)∧(∀m,S.mapo b=some m→w.heap.size≤b)∧
   Evolve S μ st'.h S (upd μ id (some (b,c))) (upd st'.h id (some (.rarr e g.size (elems++rows))))∧
   aN S (upd μ id (some (b,c))) (upd st'.h id (some (.rarr e g.size (elems++rows)))) (.one (.ra id 0 (elems.length+rows.length) (elems.length+rows.length))) v:=by
 subst hsz;have hes':=Am hes;have heb':=Am heb
 have hE:∀b c,Evolve S μ st'.h S (upd μ id (some (b,c))) (upd st'.h id (some (.rarr e g.size (elems++rows)))):=fun b c=>⟨S.le_refl,fun j x A=>by
  by_cases hne:j=id
  ·subst hne;rw[hh'] at A;cases A;exact⟨_,aH _ _ _,by simp only[AObj.succ,true_and];exact⟨by simp,fun e=>by rw[η] at e;omega⟩⟩
  ·exact⟨x,by rw[aW _ _ _ hne];exact A,x.succ_refl (aW _ _ _ hne)⟩⟩
 obtain⟨ad,cc,news,hvy1,B,hrl,J⟩:∃ad cc news,a.eval y=.slice (some ad) rows.length cc∧aP S μ st'.h rows.flatten news∧(∀r∈rows,r.length=g.size)∧∀j u,news[j]?=some u→w.cell? (ad.add j)=some u:=by
  simp only[aN,aY] at hvy;obtain⟨_,hv | ⟨te',es',elems',h1,h2,h3⟩⟩:=hvy
  ·rw[hh2] at hv;cases hv
  rw[hh2] at h1;cases h1;obtain⟨h4,⟨h5,M,h7⟩ | ⟨b,base,cap,h5,M⟩⟩:=h3 rfl
  ·rw[M] at hpos;simp at hpos
  obtain⟨g0,vs,g1,g2,g3,g4,g5,g6⟩:=(hs.inv.obj id2 _ hh2).rarr h5;refine⟨_,_,_,M,g5,g0,fun j u A=>?_⟩;rw[Addr.add_mid,cell_of_row w b _ ⟨vs⟩ te2 (0,0) g1];rw[Ak] at A;split at A
  ·rw[Al] at A;simpa using A
  ·cases A
 have E:news.length=rows.length*g.size:=by rw[B.length,gI hrl]
 obtain⟨inf,dd,z,g1,g2,g3,g4,g5,g6,g7,g8⟩:=(hT.get hei).ex;have hu:=(hT.get hi).slice hk;have hzs:z.cells.size=g.size:=by
  have h1:=(fY (S:=S) g7).length;rw[(hT.get hei).len] at h1;simpa using h1
 simp only[aN,aY] at hvx;obtain⟨_,hv | ⟨te',es',elems',h1,h2,h3⟩⟩:=hvx
 ·rw[hh'] at hv;cases hv
 rw[hh'] at h1;cases h1;obtain⟨h4,hcase⟩:=h3 rfl;have hbig:elems.length+rows.length≤140737488355328:=by
  have:(elems.length+rows.length)*1≤(elems.length+rows.length)*g.bytes:=Nat.mul_le_mul_left _ heb';omega
 have hone:∀u∈news,u.oneCell'=true:=B.one;have hcap:∀old,elems.length+rows.length≤grownCap w (elems.length+rows.length) old e∧grownCap w (elems.length+rows.length) old e≤maxLen:=fun old=>
  ⟨grownCap_ge _ _ _ _,grownCap_le_maxLen _ _ _ _ (by unfold maxLen;omega)⟩
 have hlen':(elems++rows).length=elems.length+rows.length:=by simp
 have I:∀(O:List Value) (old:Nat),aP S μ st'.h elems.flatten O→∀g0:(∀r∈elems,r.length=g.size),
   jF S (upd μ id (some (w.heap.size,0,grownCap w (elems.length+rows.length) old e))) (upd st'.h id (some (.rarr e g.size (elems++rows))))
    (w.drew.alloc (.cells (O.toArray++news.toArray++Builtin.zeroCells z.cells (grownCap w (elems.length+rows.length) old e-(elems.length+rows.length))) e)) id (.rarr e g.size (elems++rows)):=by
  intro O old hol g0;obtain⟨hc1,hc2⟩:=hcap old;have U:=hol.length;rw[gI g0] at U;refine⟨?_,.inr ⟨w.heap.size,0,grownCap w (elems.length+rows.length) old e,(O.toArray++news.toArray++Builtin.zeroCells z.cells (grownCap w (elems.length+rows.length) old e-(elems.length+rows.length))).toList,aH _ _ _,Bx w.drew _,?_,by simpa using hc1,⟨hc2,nQ hs.inv⟩,?_,fun o _=>eJ hs.inv o⟩⟩
  ·intro r q;rcases Ay.1 q with q | q
   ·exact g0 r q
   ·exact hrl r q
  ·simp only[Array.toList_append,η,Ax,size_zeroCells,hzs];simp only[U,E,Ba,←A6];exact Av _ (by omega)
  ·simp only[Array.toList_append,B0,η,Cp];rw[B2 (by simp[U,E,A6]),Aw (by simp[U,E,A6])];exact(aP.evolve (hE _ _) _ _ hol).append (aP.evolve (hE _ _) _ _ B)
 rcases hcase with⟨h5,M,h7⟩ | ⟨b,base,cap,h5,M⟩
 ·--the first elements
  subst M;simp only[length_nil,Ba] at hroom hbig I hcap;have q:=run_append_nil (P:=P) w t o.type e inf z hu g1 g6 ad rows.length cc news (by rw[E,g3]) J (by omega) (by omega) (by rw[g4];omega);refine⟨_,_,w.heap.size,_,(0,grownCap w rows.length 0 e),dY ho h7 hvy1 q,.inl (le_refl _),WChg.alloc_drew w _,?_,fun o v e=>(by rw[eJ hs.inv o] at e;cases e),fun m e=>le_refl _,hE _ _,?_⟩
  ·have:=I [] 0 (by simp[aP]) (by simp);simpa using this
  ·simp only[aN,aY];exact⟨⟨_,_,_,rfl⟩,.inr ⟨e,g.size,_,aH _ _ _,by simp,fun _=>⟨by simp,.inr ⟨w.heap.size,0,_,aH _ _ _,by simp⟩⟩⟩⟩
 ·obtain⟨q0,vs,q1,q2,q3,q4,q5,q6⟩:=(hs.inv.obj id _ hh').rarr h5;have hce:elems.length*g.size≤cap*g.size:=Av _ q3;simp only[sub_zero,zero_mul,Ck] at M;by_cases Y:elems.length+rows.length≤cap
  ·--there is room
   have hce2:(elems.length+rows.length)*g.size≤cap*g.size:=Av _ Y;rw[A6] at hce2;have q:=j7 (P:=P) w t o.type e inf hu g1 b base elems.length cap ⟨vs⟩ q1 ad rows.length cc news (by rw[E,g3]) J hone Y (by rw[g3,E];simp only[size_toArray];omega);rw[g3] at q;have hW:=WChg.setRow w b ⟨vs⟩ ⟨vs.take (base+elems.length*g.size)++news++vs.drop (base+elems.length*g.size+news.length)⟩ e (0,0) q1
   refine⟨_,_,b,_,(base,cap),dY ho M hvy1 q,.inr ⟨_,h5⟩,hW,⟨?_,.inr ⟨b,base,cap,_,aH _ _ _,hW.new,?_,by rw[hlen'];omega,q4,?_,q6⟩⟩,fun o v e=>(by
     by_cases hb:base≤o
     ·rw[q6 o hb] at e;cases e
     ·obtain⟨vs0,t0,fr0,p1,p2⟩:=hs.inv.holds.1 b o v e;rw[q1] at p1;cases p1;refine⟨_,_,_,rfl,?_⟩;simp only[Cd] at p2 ⊢;have hlt:o<vs.length:=(Af.1 p2).1
      rw[An,A5 (by simp;omega),Ak,θ (by omega)]
      exact p2),fun m e=>eU q4.2 m e,hE _ _,?_⟩
   ·intro r q;rcases Ay.1 q with q | q
    ·exact q0 r q
    ·exact hrl r q
   ·simp only[η,Aj,Bf];omega
   ·rw[hlen',Cp];have e1:((vs.take (base+elems.length*g.size)++news++vs.drop (base+elems.length*g.size+news.length)).drop base).take ((elems.length+rows.length)*g.size)=(vs.drop base).take (elems.length*g.size)++news:=by
     rw[An,B3 (by simp;omega),←An,B2 (by simp[A6];omega)];rw[Aw (by simp[A6];omega),drop_take];rw[show base+elems.length*g.size-base=elems.length*g.size by omega]
    rw[e1];exact(aP.evolve (hE _ _) _ _ q5).append (aP.evolve (hE _ _) _ _ B)
   ·simp only[aN,aY];exact⟨⟨_,_,_,rfl⟩,.inr ⟨e,g.size,_,aH _ _ _,by simp,fun _=>⟨by simp,.inr ⟨b,base,cap,aH _ _ _,by simp⟩⟩⟩⟩
  ·--into a new block
   have q:=run_append_grow (P:=P) w t o.type e inf z hu g1 g6 ⟨b,base,none⟩ elems.length cap ((vs.drop base).take (elems.length*g.size)) (by rw[g3];simp;omega) (by
     intro j v A;rw[Addr.add_mid,cell_of_row w b _ ⟨vs⟩ e (0,0) q1];rw[Ak] at A;split at A
     ·rw[Al] at A;simpa using A
     ·cases A) ad rows.length cc news (by rw[E,g3]) J (by omega) (by omega) (by rw[g4];exact growslice_fits (by omega) hroom)
   refine⟨_,_,w.heap.size,_,(0,grownCap w (elems.length+rows.length) cap e),dY ho M hvy1 q,.inl (le_refl _),WChg.alloc_drew w _,?_,fun o v e=>(by rw[eJ hs.inv o] at e;cases e),fun m e=>le_refl _,hE _ _,?_⟩
   ·have:=I _ cap q5 q0;simpa using this
   ·simp only[aN,aY];exact⟨⟨_,_,_,rfl⟩,.inr ⟨e,g.size,_,aH _ _ _,by simp,fun _=>⟨by simp,.inr ⟨w.heap.size,0,_,aH _ _ _,by simp⟩⟩⟩⟩
theorem aAo {y:V}{id te es:Nat}{elems:List (List R)}(J:o.dst=some d) (u:d<n) {st':St}{G:Ctx}{S:Sto}{μ:Mu}{a:Act}{w:World}{K:Act→World→Prop}{Q:Exit→Act→World→Prop}
  (hs:Sim G n S μ st' a w) (g:∀b c',μ id=some (b,c')→∃ao,st'.h id=some ao) (M:∀S' μ' A w',Sim G n S' μ' (Eff.apply ⟨some (d,some y),[(id,some (.rarr te es elems))]⟩ st') A w'→K A w')
  (h:∃w' v b q c,(execOp a.eval o).run P w=.ok (.value v) w'∧(w.heap.size≤b∨∃c',μ id=some (b,c'))∧WChg w w' b q∧jF S (upd μ id (some (b,c))) (upd st'.h id (some (.rarr te es elems))) w' id (.rarr te es elems)∧
   (∀o v,S.cell b o=some v→∃vs t O,q=.cells vs t O∧vs[o]?=some v)∧(∀m,S.mapo b=some m→w.heap.size≤b)∧Evolve S μ st'.h S (upd μ id (some (b,c))) (upd st'.h id (some (.rarr te es elems)))∧aN S (upd μ id (some (b,c))) (upd st'.h id (some (.rarr te es elems))) y v):
  ∀ro,o.wpIn (Wd ro) 0 P a w K Q:=by
 obtain⟨w',v,b,q,c,U,hb,hw,hO,hS,B,E,Y⟩:=h;refine fun ro=>eI U ?_
 rw[J];have hi:=hs.inv.chg (id:=id) (cap:=c) (ao:=.rarr te es elems) hw (hb.imp (fun h=>h) fun⟨c',h⟩=>by obtain⟨ao,I⟩:=g _ _ h;exact⟨_,c',I,h⟩) E hO hS B;have:=hs.put hi E u (x:=some y) (v:=v) (fun z hz=>by cases hz;exact Y);refine M S (upd μ id (some (b,c))) _ _ ?_;unfold Eff.apply;rw[bY];exact this
theorem aE6 {t e:TypeId}{i g:TI}{x y:Operand}{id q sz A:Nat}{elems rows:List (List R)}(hT:Tok P T) (ho:o.op=.call { callee:=.builtin .append,args:= #[x,y],argTypes:= #[t,t] }) (hd:o.dst=some d) (M:d<n)
  (hi:T[t]?=some (some i)) (hk:i.k=.sl e) (O:T[e]?=some (some g)) (U:Nat.ble 1 g.size=true) (Y:Nat.ble 1 g.bytes=true)
  (hx:opv st x=some (.one (.ra id 0 sz sz))) (hh:st.h id=some (.rarr e g.size elems)) (hsz:sz=elems.length) (hy:opv st y=some (.one (.ra q 0 rows.length rows.length))) (aa:st.h q=some (.rarr A g.size rows)) (E:0<rows.length)
  (u:(elems.length+rows.length)*g.bytes≤140737488355328):
  Step P n o st ⟨opr x++opr y,[id,q]⟩ ⟨some (d,some (.one (.ra id 0 (elems.length+rows.length) (elems.length+rows.length)))),[(id,some (.rarr e g.size (elems++rows)))]⟩:=by
 intro st' ha G S μ a w K Q hs ab;have ac:=aK hs hx fun t I=>ha.1 t (by simp[I])
 have ad:=aK hs hy fun t I=>ha.1 t (by simp[I])
 have B:st'.h id=some (.rarr e g.size elems):=by rw[ha.2 id (by simp),hh]
 have J:st'.h q=some (.rarr A g.size rows):=by rw[ha.2 q (by simp),aa]
 exact aAo hd M hs (fun _ _ _=>⟨_,B⟩) ab (rI hT ho hi hk O U Y hsz E u B hs ac ad J)
theorem Inv.emptyR {G:Ctx}{S:Sto}{μ:Mu}{H:bX}{w:World}{id:Nat}(te es:Nat) (h:Inv G S μ H w) (A:H id=none):Inv G S (upd μ id none) (upd H id (some (.rarr te es []))) w∧Evolve S μ H S (upd μ id none) (upd H id (some (.rarr te es []))):=by
 have y:Evolve S μ H S (upd μ id none) (upd H id (some (.rarr te es []))):=dR A _ _;refine⟨⟨h.holds,fun j x g=>?_,fun i j x B b c c' hi g hm q=>?_,fun i x b c hi hm=>?_,h.frame,h.sle,h.sto,h.evo.trans y,h.fre⟩,y⟩
 ·by_cases u:j=id
  ·subst u;rw[aH] at g;cases g;exact⟨by simp,.inl ⟨aH _ _ _,rfl⟩⟩
  ·rw[aW _ _ _ u] at g;exact(h.obj j x g).evolve y (aW _ _ _ u) fun _ _ _=>⟨rfl,fun _=>rfl,rfl⟩
 ·have h1:i≠id:=fun e=>by subst e;rw[aH] at hm;cases hm
  have h2:j≠id:=fun e=>by subst e;rw[aH] at q;cases q
  rw[aW _ _ _ h1] at hi hm;rw[aW _ _ _ h2] at g q;exact h.inj i j x B b c c' hi g hm q
 ·have h1:i≠id:=fun e=>by subst e;rw[aH] at hm;cases hm
  rw[aW _ _ _ h1] at hi hm;exact h.own i x b c hi hm
theorem aCh {t e:TypeId}{i g:TI}{x y:Operand}{q I:Nat}{rows:List (List R)}(id:Nat) (hT:Tok P T) (ho:o.op=.call { callee:=.builtin .append,args:= #[x,y],argTypes:= #[t,t] }) (hd:o.dst=some d) (aa:d<n)
  (hi:T[t]?=some (some i)) (hk:i.k=.sl e) (ab:T[e]?=some (some g)) (ac:Nat.ble 1 g.size=true) (ad:Nat.ble 1 g.bytes=true)
  (hx:opv st x=some (.one (.c .nl))) (ae:st.h id=none) (hy:opv st y=some (.one (.ra q 0 rows.length rows.length))) (af:st.h q=some (.rarr I g.size rows)) (M:0<rows.length)
  (E:rows.length*g.bytes≤140737488355328):
  Step P n o st ⟨opr x++opr y,[id,q]⟩ ⟨some (d,some (.one (.ra id 0 rows.length rows.length))),[(id,some (.rarr e g.size rows))]⟩:=by
 intro st' ha G S μ a w K Q hs ag;have A:st'.h id=none:=by rw[ha.2 id (by simp),ae]
 obtain⟨ah,O⟩:=hs.inv.emptyR e g.size A;have J:Sim G n S (upd μ id none) ⟨st'.e,upd st'.h id (some (.rarr e g.size [])),st'.d⟩ a w:=⟨ah,hs.size,hs.defers.evolve O,fun t v e=>aN.evolve O v _ (hs.env t v e)⟩
 have B:=aK hs hx fun t U=>ha.1 t (by simp[U])
 have ai:=aK hs hy fun t U=>ha.1 t (by simp[U])
 have u:st'.h q=some (.rarr I g.size rows):=by rw[ha.2 q (by simp),af]
 simp only[aN,aY,Rep] at B;have Y:aN S (upd μ id none) (upd st'.h id (some (.rarr e g.size []))) (.one (.ra id 0 0 0)) (a.eval x):=by
  simp only[aN,aY];exact⟨⟨_,_,_,B⟩,.inr ⟨e,g.size,[],aH _ _ _,le_refl _,fun _=>⟨le_refl _,.inl ⟨aH _ _ _,rfl,B⟩⟩⟩⟩
 have aj:q≠id:=fun e=>by subst e;rw[A] at u;cases u
 have:=rI (elems:=[]) (id:=id) hT ho hi hk ab ac ad rfl M (by simpa using E) (aH _ _ _) J Y (aN.evolve O _ _ ai) (by
  show upd st'.h id (some (.rarr e g.size [])) q=_;rw[aW _ _ _ aj]
  exact u)
 refine aAo hd aa J (fun _ _ _=>⟨_,aH _ _ _⟩) (fun S' μ' a' w' h=>ag S' μ' a' w' ?_) this;have e1:Eff.apply ⟨some (d,some (.one (.ra id 0 (([]:List (List R)).length+rows.length) (([]:List (List R)).length+rows.length)))),[(id,some (.rarr e g.size ([]++rows)))]⟩ ⟨st'.e,upd st'.h id (some (.rarr e g.size [])),st'.d⟩
   =Eff.apply ⟨some (d,some (.one (.ra id 0 rows.length rows.length))),[(id,some (.rarr e g.size rows))]⟩ st':=by
  unfold Eff.apply;rw[bY,bY,mX];simp
 rw[e1] at h;exact h
end
section
variable {P:Program}{n:Nat}{o:Oper}{st:St}{d:Nat}{T:TT}
theorem aOd {src dst:TypeId}{i j:TI}{x:Operand}{k k':IntKind}{m:Int}(g:Tok P T) (ho:o.op=.convert src dst x) (A:o.dst=some d) (q:d<n) (hi:T[src]?=some (some i)) (u:i.k=.int k) (B:T[dst]?=some (some j)) (y:j.k=.int k')
  (hx:opv st x=some (I k m)):Step P n o st ⟨opr x,[]⟩ ⟨some (d,some (I k' (k'.wrap m))),[]⟩:=by
 refine Step.value A q fun st' ha G S μ a w hs=>?_
 have E:=dL (aK hs hx ha.1);refine⟨.int k' (k'.wrap m),?_,by simp[aN,aY,Rep]⟩;have h1:=(g.get hi).int u;have h2:=(g.get B).int y;simp only[execOp,ho,E,π,convert,Ah h1 w,Ah h2 w,ζ,Conv.intToInt,τ]
theorem aOe {src dst e:TypeId}{i j Y:TI}{x:Operand}{v:V}{ids:List Nat}{rows:List (List C)}{g:List Int}(I:Tok P T) (ho:o.op=.convert src dst x) (hd:o.dst=some d) (aa:d<n) (hi:T[src]?=some (some i)) (ab:i.k=.sl e) (ac:T[e]?=some (some Y)) (ae:Y.k=.int .u8)
  (J:T[dst]?=some (some j)) (af:j.k=.str) (hx:opv st x=some v) (M:Src st 1 ids v rows) (O:rows=g.map fun m=>[C.int .u8 m]):Step P n o st ⟨opr x,ids⟩ ⟨some (d,some (Go.AM.T (g.map fun m=>UInt8.ofNat m.toNat))),[]⟩:=by
 refine Step.value hd aa fun st' ha G S μ a w hs=>?_
 have hv:=aK hs hx ha.1;obtain⟨q,c,news,h1,h2,h3,h4,h5⟩:=M.rel hs ha.2 hv;have A:=(I.get hi).slice ab;have B:=(I.get ac).int ae;have E:=(I.get J).str af;have y:∀(g:List Int) (news:List Value),bS S (g.map fun m=>[C.int .u8 m]).flatten news→news=g.map (Value.int .u8):=by
  intro g
  induction g with
  | nil=>intro news h;simpa [bS] using h
  | cons m g ih=>
   intro news h;simp only[Be,Bb,List.singleton_append,bS,Rep] at h;obtain⟨u,us,rfl,rfl,h⟩:=h;rw[ih us h];rfl
 rw[O] at h2;have hn:=y g news h2;have U:(convert src dst (a.eval x)).run P w=.ok (.string ⟨⟨g.map fun m=>UInt8.ofNat m.toNat⟩⟩) w:=by
  rw[h1];cases q with
  | none=>
   have h6:=h4 rfl;rw[O] at h6;have:g=[]:=by simpa using h6
   subst this;exact run_convert_bytes_nil w src e A B _ _ dst E
  | some q=>
   have hlen:rows.length=g.length:=by rw[O];simp
   have hl:(loadCells q g.length).run P w=.ok (g.map (Value.int .u8)).toArray w:=by
    have:=run_loadCells_list (P:=P) w q (g.map (Value.int .u8)) (fun j v J=>h5 q rfl j v (by rw[hn];exact J));simpa using this
   rw[hlen,run_convert_bytes_string w src dst e _ _ _ A B E,run_bytesToString w _ _ _ g hl,foldl_push_bytes];simp[ByteArray.empty,ByteArray.emptyWithCapacity];rfl
 refine⟨.string ⟨⟨g.map fun m=>UInt8.ofNat m.toNat⟩⟩,?_,by simp[aN,aY,Rep]⟩;simp only[execOp,ho,π,U,ζ,τ]
theorem bD.length {S:Sto}{agg:Bool}:∀{l:List (List C)}{es:List MapEntry},bD S agg l es→es.length=l.length
 | [],es,h=>by simp only[bD] at h;subst h;rfl
 | r::rs,es,h=>by
  simp only[bD] at h;obtain⟨e,g,rfl,_,h⟩:=h;simp[bD.length h]
theorem aE0 {t E J:TypeId}{i:TI}{x:Operand}{id:Nat}{agg:Bool}{ents:List (List C)}(M:Tok P T) (ho:o.op=.call { callee:=.builtin .len,args:= #[x],argTypes:= #[t] }) (O:o.dst=some d) (q:d<n) (hi:T[t]?=some (some i)) (U:i.k=.mp E J)
  (hx:opv st x=some (.one (.mr id))) (hh:st.h id=some (.map agg ents)) (u:jB ents):Step P n o st ⟨opr x,[id]⟩ ⟨some (d,some (I .i64 (ents.length:Int))),[]⟩:=by
 refine Step.value O q fun st' ha G S μ a w hs=>?_
 have y:=aK hs hx ha.1;have g:st'.h id=some (.map agg ents):=by rw[ha.2 id (by simp),hh]
 simp only[aN,aY] at y;obtain⟨Y,B,b,c,h1,h2,h3⟩:=y;rw[g] at h1;cases h1;obtain⟨b',es,clk,A,q2,q3,q4⟩:=hs.inv.obj id _ g;rw[h2] at A;cases A;have hl:=(q3.rep u).length;refine⟨goInt ents.length,iN ho h3 ?_,by simp[aN,aY,Rep,goInt]⟩;have hg:(getObj b).run P w=.ok (.map es clk) w:=MapKept.run_getObj_map q2;simp at hl;simp[Builtin.len_,Ah ((M.get hi).map U) w,hg,hl]
end
section
variable {P:Program}{n:Nat}{T:TT}{o:Oper}{st:St}{d:Nat}
theorem oX {t e:TypeId}{i A:TI}{x y:Operand}{u es k:Nat}{kk:IntKind}{m:Int}{l r:List R}(hT:Tok P T) (ho:o.op=.indexAddr t x y) (hd:o.dst=some d) (B:d<n) (hi:T[t]?=some (some i)) (hk:i.k=.sl e) (E:T[e]?=some (some A)) (J:A.size=es)
  (hx:opv st x=some (.one (.ras u es l))) (hy:opv st y=some (I kk m)) (hm:m=(k:Int)) (M:k<u) (hr:(l.drop (k*es)).take es=r):Step P n o st ⟨opr x++opr y,[]⟩ ⟨some (d,some (.one (.pas r))),[]⟩:=by
 refine Step.value hd B fun st' ha G S μ a w hs=>?_
 have O:=aK hs hx (cR ha).1;have U:=dL (aK hs hy (cR ha).2);simp only[aN,aY] at O;obtain⟨g,cap,h1,h2,h3,h4,h5,h6,b,off,h7,vs,h8,h9⟩:=O;cases g with
 | none=>have:=(h5 rfl).1;omega
 | some g=>
  obtain⟨h10,h10'⟩:=h7 g rfl;have h11:=h6 g rfl;have Y:g=⟨b,off,none⟩:=by cases g;simp_all
  subst Y;subst hm;refine⟨.pointer (some ⟨b,off+k*es,none⟩),?_,?_⟩
  ·simp only[execOp,ho,h1,U,π,iO hT hi hk E w b off u cap k kk M,ζ,τ,J]
  ·simp only[aN,aY];subst hr;refine⟨b,off+k*es,rfl,(vs.drop (k*es)).take es,(h8.drop (k*es)).take es,fun j v q=>?_⟩;rw[Ak] at q;split at q
   ·rw[Al] at q;have:=h9 _ v q;rwa [←add_assoc] at this
   ·cases q
theorem aCa {t:TypeId}{i:TI}{x:Operand}{l:List R}{y:V}(B:Tok P T) (ho:o.op=.load t x) (E:o.dst=some d) (q:d<n) (hi:T[t]?=some (some i)) (hx:opv st x=some (.one (.pas l)))
  (hl:i.size≤l.length) (hy:iU i (l.take i.size)=some y):Step P n o st ⟨opr x,[]⟩ ⟨some (d,some y),[]⟩:=by
 refine Step.value E q fun st' ha G S μ a w hs=>?_
 have u:=aK hs hx ha.1;simp only[aN,aY] at u;obtain⟨b,off,h1,vs,h2,I⟩:=u;have M:=h2.length;refine⟨_,?_,jZ (h2.take i.size) hy⟩;have J:=kZ hs.inv.holds I;have A:w.rangeAt b off (vs.take i.size):=fun j v g=>by
  rw[Ak] at g;split at g
  ·exact J j v g
  ·cases g
 simp only[execOp,ho,h1,π,run_load (B.get hi) w b off _ A (by simp;omega),ζ,τ]
theorem xM {t q:TypeId}{i u:TI}{fs:List (Nat×TypeId)}{f g:Nat}{x:Operand}{l:List R}(I:Tok P T) (ho:o.op=.fieldAddr t x f) (J:o.dst=some d) (y:d<n) (hi:T[t]?=some (some i)) (M:i.k=.st fs) (O:fs[f]?=some (g,q)) (A:T[q]?=some (some u)) (U:u.size≠0)
  (hx:opv st x=some (.one (.pas l))):Step P n o st ⟨opr x,[]⟩ ⟨some (d,some (.one (.pas (l.drop g)))),[]⟩:=by
 refine Step.value J y fun st' ha G S μ a w hs=>?_
 have B:=aK hs hx ha.1;simp only[aN,aY] at B;obtain⟨b,off,h1,vs,h2,Y⟩:=B;refine⟨.pointer (some ⟨b,off+g,none⟩),?_,?_⟩
 ·simp only[execOp,ho,h1,π,fZ I hi M O A U,ζ,τ]
 ·simp only[aN,aY];refine⟨b,off+g,rfl,vs.drop g,h2.drop g,fun j v E=>?_⟩;rw[Al] at E;have:=Y (g+j) v E;rwa [←add_assoc] at this
theorem aEz {t e:TypeId}{i:TI}{x:Operand}{g es:Nat}{l:List R}(y:Tok P T) (ho:o.op=.call { callee:=.builtin .len,args:= #[x],argTypes:= #[t] }) (A:o.dst=some d) (q:d<n) (hi:T[t]?=some (some i)) (B:i.k=.sl e)
  (hx:opv st x=some (.one (.ras g es l))):Step P n o st ⟨opr x,[]⟩ ⟨some (d,some (I .i64 (g:Int))),[]⟩:=by
 refine Step.value A q fun st' ha G S μ a w hs=>?_
 have u:=aK hs hx ha.1;simp only[aN,aY] at u;obtain⟨E,cap,h1,_⟩:=u;refine⟨goInt g,iN ho h1 ?_,by simp[aN,aY,Rep,goInt]⟩;simp[Builtin.len_,Ah ((y.get hi).slice B) w]
theorem aB7 {t te es:Nat}{i:TI}{x y:Operand}{id k fo sz:Nat}{elems:List (List R)}{v:V}{cs r:List R}(hT:Tok P T) (ho:o.op=.store t x y) (hd:o.dst=none) (hi:T[t]?=some (some i)) (hx:opv st x=some (.one (.rp id k fo sz)))
  (hy:opv st y=some v) (hc:fO v=some cs) (hh:st.h id=some (.rarr te es elems)) (hsz:sz=elems.length) (O:elems[k]?=some r) (hcs:cs.length=i.size) (hl:fo+i.size≤es):
  Step P n o st ⟨opr x++opr y,[id]⟩ ⟨none,[(id,some (.rarr te es (elems.set k (bQ r fo cs))))]⟩:=by
 refine Step.turn hd hh (by simp) (by simp[AObj.succ]) fun st' ha A G S μ a w hs=>?_
 have hvx:=aK hs hx fun t ht=>ha.1 t (by simp[ht])
 have hvy:=aK hs hy fun t ht=>ha.1 t (by simp[ht])
 simp only[aN,aY] at hvx;obtain⟨_,hv | ⟨te',es',elems',h1,h2,h3⟩⟩:=hvx
 ·rw[A] at hv;cases hv
 rw[A] at h1;cases h1;obtain⟨h4,b,base,cap,h5,h6⟩:=h3 hsz;obtain⟨U,vs,g1,g2,g3,g4,g5,g6⟩:=(hs.inv.obj id _ A).rarr h5;have hrel:=dB hvy hc;have E:=hrel;have hone:=hrel.one;have hnl:=E.length;have hk:k<elems.length:=(Af.1 O).1
 have hres:r.length=es:=U r (Ag O);have hke:(k+1)*es≤elems.length*es:=Av _ hk;have hce:elems.length*es≤cap*es:=Av _ g3;rw[A6] at hke;generalize Y:(a.eval y).cells.toList=news at *;have hrun:=run_store (hT.get hi) w b (base+k*es+fo) vs news te (a.eval y) g1 Y (by omega) (by omega) hone;have hE:=eV (S:=S) (μ:=μ) (o':=.rarr te es (elems.set k (bQ r fo cs))) A h5 (by simp[AObj.succ]);have I:=aEo U g5 O;have B:=y6 U k r O;have hlen:(elems.set k (bQ r fo cs)).length=elems.length:=by simp
 have hW:=WChg.setRow w b ⟨vs⟩ ⟨vs.take (base+k*es+fo)++news++vs.drop (base+k*es+fo+news.length)⟩ te (0,0) g1;refine⟨_,_,b,(base,cap),?_,h5,hW,⟨?_,.inr ⟨b,base,cap,_,aH _ _ _,hW.new,?_,by rw[hlen];exact g3,g4,?_,g6⟩⟩,fun o v e=>?_,fun m e=>eU g4.2 m e⟩
 ·simp only[execOp,ho,h6,π,hrun,ζ,τ]
 ·intro q hq;rcases List.mem_or_eq_of_mem_set hq with hq | rfl
  ·exact U q hq
  ·unfold bQ;simp;omega
 ·simp only[η,Aj,Bf];omega
 ·rw[hlen];have e1:(elems.set k (bQ r fo cs)).flatten=elems.flatten.take (k*es)++(r.take fo++cs++r.drop (fo+cs.length))++elems.flatten.drop (k*es+es):=by
   rw[Ce,θ hk,Cp,Bb,B.1,B.2,←An];rfl
  have e2:((vs.take (base+k*es+fo)++news++vs.drop (base+k*es+fo+news.length)).drop base).take (elems.length*es)=
    ((vs.drop base).take (elems.length*es)).take (k*es)++((((vs.drop (base+k*es)).take es).take fo)++news++(((vs.drop (base+k*es)).take es).drop (fo+cs.length)))++((vs.drop base).take (elems.length*es)).drop (k*es+es):=by
   apply Ch;intro j;simp only[Ak,Al,B6,η,Aj,Bf];have hm1:min (k*es) (min (elems.length*es) (vs.length-base))=k*es:=by omega
   have hm2:min (base+k*es+fo) vs.length=base+k*es+fo:=by omega
   have hm3:min fo es=fo:=by omega
   have hm4:min es (vs.length-(base+k*es))=es:=by omega
   simp only[hm1,hm2,hm3,hm4,hnl];by_cases c1:j<k*es
   ·have u:j<elems.length*es:=by omega
    have J:base+j<base+k*es+fo:=by omega
    have a3:base+j<base+k*es+fo+cs.length:=by omega
    have a4:j<k*es+(fo+cs.length+(es-(fo+cs.length))):=by omega
    simp[c1,u,J,a3,a4]
   ·by_cases c2:j<k*es+fo
    ·have u:j<elems.length*es:=by omega
     have J:base+j<base+k*es+fo:=by omega
     have a3:base+j<base+k*es+fo+cs.length:=by omega
     have a4:j<k*es+(fo+cs.length+(es-(fo+cs.length))):=by omega
     have g:j-k*es<fo+cs.length:=by omega
     have M:j-k*es<fo:=by omega
     have a7:j-k*es<es:=by omega
     simp[c1,u,J,a3,a4,g,M,a7,show base+k*es+(j-k*es)=base+j by omega]
    ·by_cases c3:j<k*es+fo+cs.length
     ·have u:j<elems.length*es:=by omega
      have J:¬base+j<base+k*es+fo:=by omega
      have a3:base+j<base+k*es+fo+cs.length:=by omega
      have a4:j<k*es+(fo+cs.length+(es-(fo+cs.length))):=by omega
      have g:j-k*es<fo+cs.length:=by omega
      have M:¬j-k*es<fo:=by omega
      simp[c1,u,J,a3,a4,g,M,show base+j-(base+k*es+fo)=j-k*es-fo by omega]
     ·by_cases c4:j<k*es+es
      ·have u:j<elems.length*es:=by omega
       have a3:¬base+j<base+k*es+fo+cs.length:=by omega
       have a4:j<k*es+(fo+cs.length+(es-(fo+cs.length))):=by omega
       have g:¬j-k*es<fo+cs.length:=by omega
       have M:fo+cs.length+(j-k*es-(fo+cs.length))<es:=by omega
       simp[c1,u,a3,a4,g,M,show base+k*es+fo+cs.length+(base+j-(base+k*es+fo+cs.length))=base+j by omega,show base+k*es+(fo+cs.length+(j-k*es-(fo+cs.length)))=base+j by omega]
      ·have a3:¬base+j<base+k*es+fo+cs.length:=by omega
       have a4:¬j<k*es+(fo+cs.length+(es-(fo+cs.length))):=by omega
       by_cases c5:j<elems.length*es
       ·have g:k*es+es+(j-(k*es+(fo+cs.length+(es-(fo+cs.length)))))<elems.length*es:=by omega
        simp[a3,a4,c5,g,show base+k*es+fo+cs.length+(base+j-(base+k*es+fo+cs.length))=base+j by omega,show base+(k*es+es+(j-(k*es+(fo+cs.length+(es-(fo+cs.length))))))=base+j by omega]
       ·have g:¬k*es+es+(j-(k*es+(fo+cs.length+(es-(fo+cs.length)))))<elems.length*es:=by omega
        simp[a4,c5,g]
  rw[e1];show aP S _ _ _ (((vs.take (base+k*es+fo)++news++vs.drop (base+k*es+fo+news.length)).drop base).take (elems.length*es));rw[e2];refine aP.evolve hE _ _ ?_;exact((g5.take (k*es)).append (((I.take fo).append E).append (I.drop (fo+cs.length)))).append (g5.drop (k*es+es))
 ·--what stays is not touched
  by_cases hb:base≤o
  ·rw[g6 o hb] at e;cases e
  ·obtain⟨vs0,t0,fr0,q1,q2⟩:=hs.inv.holds.1 b o v e;rw[g1] at q1;cases q1;refine⟨_,_,_,rfl,?_⟩;simp only[Cd] at q2 ⊢;have hlt:o<vs.length:=(Af.1 q2).1
   rw[An,A5 (by simp;omega),Ak,θ (by omega)];exact q2
end
end Go.AM
