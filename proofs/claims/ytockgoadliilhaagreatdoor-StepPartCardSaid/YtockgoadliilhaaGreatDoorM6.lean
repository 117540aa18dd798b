/-
  Texts Am30 to Lg2 in one.
-/
import Derived.Test.YtockgoadliilhaaGreatDoorM5
import Derived.Laws.Runes
open List (all_append all_eq_true append_assoc append_nil cons_append drop_eq_getElem_cons drop_length filter_cons flatMap_append flatten_cons foldl_append length_append length_cons length_eq_one_iff length_map length_nil length_range length_take map_append map_cons mem_append mem_cons mem_cons_of_mem mem_cons_self mem_map mem_of_mem_take mem_range nil_append nodup_append nodup_cons nodup_nil nodup_range not_mem_nil set_eq_take_append_cons_drop sum_cons take_add_one take_length take_of_length_le take_succ_cons take_zero)
open Nat (eq_of_beq_eq_true le_max_left le_max_right le_of_ble_eq_true le_of_eq le_refl le_trans mul_le_mul_right zero_add zero_le)
namespace Go.AM
open Go Go.Proofs
section
variable {P:Program}{n:Nat}{ops:Array Oper}{draw:Bool}{k d:Nat}{st:St}{pre:REs}{Q:St→Prop}{o:Oper}{f:FuncId}{xs:Array Operand}{ts:Array TypeId}{ids:List Nat}{args:List V}{res:V}{hin hout:List (Nat×AObj)}
theorem kcG {j t:Nat}{want b:Bool}(hf:aW P f args hin res hout)
  (hk:kE P n ops draw (k+1) ⟨upd st.e d (some res),updL st.h (outs hout),st.d⟩ ((⟨t::dP xs.toList,ids++keys hin++keys hout⟩,⟨some (d,some res),outs hout⟩)::pre) Q)
  (hb:pC P f:=by exact aM9 (by kernel_rfl)) (O:ops[k]?=some o:=by rfl) (hg:o.guard=some (j,want):=by rfl) (hj:(ops[j]?).bind (·.dst)=some t:=by rfl) (I:st.e t=some (.one (.c (.bool b))):=by rfl) (hw:b=want:=by first | rfl | assumption) (J:o.op=.call { callee:=.value (.func f),args:=xs,argTypes:=ts }:=by rfl) (hd:o.dst=some d:=by rfl) (N:Nat.blt d n=true:=by rfl)
  (ha:ArgsV st ids xs.toList args:=by repeat (first | exact .nil | (apply Go.AM.ArgsV.cons rfl;(first | exact .refl | exact .one (.c .nl .nil) | exact .one (.c .sn .nil) | exact .one (.hs rfl (by first | rfl | simp) (by first | rfl | (simp;done) | (simp[Go.AM.take_map];done) | exact Go.AM.take_map.symm) .nil) | exact Go.AM.hs_all rfl rfl (by first | rfl | assumption | (simp;done) | (simp;omega)) (by first | rfl | assumption | (simp;done)) | ((first | apply Go.AM.Conv.pa | apply Go.AM.Conv.agg);repeat (first | exact .nil | apply Go.AM.PureL.c .refl | apply Go.AM.PureL.c .nl | apply Go.AM.PureL.c .sn | (apply Go.AM.PureL.hs;rfl;(first | rfl | simp);(first | rfl | (simp;done) | (simp[Go.AM.take_map];done) | exact Go.AM.take_map.symm))))))))
  (hin':eQ (fun p=>st.h p.1=some p.2) hin:=by repeat (first | exact trivial | refine⟨rfl,?_⟩)) (hout':eQ (fun p=>p.1∈keys hin∨st.h p.1=none) hout:=by repeat (first | exact trivial | refine⟨.inr rfl,?_⟩ | refine⟨.inl (by decide),?_⟩ | refine⟨.inl (by repeat (first | exact List.Mem.head _ | apply List.Mem.tail)),?_⟩)) (hok:k9 args hin=true:=by rfl):kE P n ops draw k st pre Q:=
 k_ (GStep.yes O hg hj I hw (aIx hin hout hb J hd (lI N) hf ha hin' hout' hok)) hk
end
end Go.AM
namespace Go.Proofs.YtockgoadliilhaaGreatDoor
open Go Go.AM
set_option maxRecDepth 20000
def bN (l:List Str):V:=.one (.c (.sl 1 (l.map bO)))
theorem mN (l:List (List C)) (h:l.length≤600000000000):aW Tryz.prog 98 [.one (.c (.sl 1 l))] [] (.one (.hs 710 0 l.length l.length)) [(710,.arr 9 1 l 0)]:=by
 refine bT (n:=8) tok Tryz.func98 rfl rfl rfl ?_;refine sg rfl (aFl 0 rfl (fun hl=>?_) ?_)
 ·subst hl;refine a8 (sg rfl (aA rfl (fun _=>sg rfl (AWp.sub (Sub.own (t:=2) (id:=710) 9 1 rfl rfl) ?_)) nofun));exact aI rtT
 ·refine a8 (sg rfl (aA rfl nofun (fun _=>aD (sgh [(0,.id 710)] rfl (AWp.sub (st2:=mk [(2,.one (.hs 710 0 l.length l.length))] [(710,.arr 9 1 l 0)]) sl ?_)))));exact aI rtT
theorem xG (l:List (List C)) (h:l.length≤600000000000):aW Tryz.prog 96 [.one (.c (.sl 15 l))] [] (.one (.hs 701 0 l.length l.length)) [(701,.arr 58 15 l 0)]:=by
 refine bT (n:=8) tok Tryz.func96 rfl rfl rfl ?_;refine sg rfl (aFl 0 rfl (fun hl=>?_) ?_)
 ·subst hl;refine a8 (sg rfl (aA rfl (fun _=>sg rfl (AWp.sub (Sub.own (t:=2) (id:=701) 58 15 rfl rfl) ?_)) nofun));exact aI rtT
 ·refine a8 (sg rfl (aA rfl nofun (fun _=>aD (sgh [(0,.id 701)] rfl (AWp.sub (st2:=mk [(2,.one (.hs 701 0 l.length l.length))] [(701,.arr 58 15 l 0)]) sl ?_)))));exact aI rtT
theorem nY (l:List (List C)) (h:l.length≤600000000000):aW Tryz.prog 95 [.one (.c (.sl 10 l))] [] (.one (.hs 702 0 l.length l.length)) [(702,.arr 37 10 l 0)]:=by
 refine bT (n:=8) tok Tryz.func95 rfl rfl rfl ?_;refine sg rfl (aFl 0 rfl (fun hl=>?_) ?_)
 ·subst hl;refine a8 (sg rfl (aA rfl (fun _=>sg rfl (AWp.sub (Sub.own (t:=2) (id:=702) 37 10 rfl rfl) ?_)) nofun));exact aI rtT
 ·refine a8 (sg rfl (aA rfl nofun (fun _=>aD (sgh [(0,.id 702)] rfl (AWp.sub (st2:=mk [(2,.one (.hs 702 0 l.length l.length))] [(702,.arr 37 10 l 0)]) sl ?_)))));exact aI rtT
theorem zQ (l:List (List C)) (h:l.length≤600000000000):aW Tryz.prog 97 [.one (.c (.sl 14 l))] [] (.one (.hs 703 0 l.length l.length)) [(703,.arr 88 14 l 0)]:=by
 refine bT (n:=8) tok Tryz.func97 rfl rfl rfl ?_;refine sg rfl (aFl 0 rfl (fun hl=>?_) ?_)
 ·subst hl;refine a8 (sg rfl (aA rfl (fun _=>sg rfl (AWp.sub (Sub.own (t:=2) (id:=703) 88 14 rfl rfl) ?_)) nofun));exact aI rtT
 ·refine a8 (sg rfl (aA rfl nofun (fun _=>aD (sgh [(0,.id 703)] rfl (AWp.sub (st2:=mk [(2,.one (.hs 703 0 l.length l.length))] [(703,.arr 88 14 l 0)]) sl ?_)))));exact aI rtT
def aGn (s:Str):List Str→Int→Int
 | [],_=> -1
 | x::l,k=>if s=x then k else aGn s l (k+1)
theorem aEz (s:Str):∀(l:List Str) (k:Int),0≤k→(decide (0≤aGn s l k)=decide (s∈l))
 | [],k,_=>by simp[aGn]
 | x::l,k,hk=>by
  rw[aGn];split
  ·rename_i h;subst h;simp[hk]
  ·rename_i h;rw[aEz s l (k+1) (by omega)];simp[h]
theorem aLr (l:List Str) (s:Str) (h:l.length≤600000000000):aW Tryz.prog 111 [bN l,Go.AM.T s] [] (I .i64 (aGn s l 0)) []:=by
 refine bT (n:=19) tok Tryz.func111 rfl rfl rfl ?_;refine sg rfl (a8 (sg rfl ?_));have N:(l.map bO).length=l.length:=ξ _;refine aC (aL (fun i:Nat=>mk [(0,bN l),(1,Go.AM.T s),(7,I .i64 ((l.map bO).length:Int)),(8,I .i64 i)] []) (fun i=>i≤l.length∧aGn s l 0=aGn s (l.drop i) i) (fun i=>l.length-i) 0 ⟨Ak _,rfl⟩ sl ?_);intro i ⟨hi,he⟩;refine sg rfl (a8 (aA rfl (fun hb=>?_) (fun hb=>?_)))
 ·have J:=ltD hb N;obtain⟨x,hx⟩:=aK J;have W:=bJ bO hx;have hd:l.drop i=x::l.drop (i+1):=by rw[Ca J,(ε.1 hx).2]
  rw[hd,aGn] at he;refine aD (a8 (aC (sg rfl (sgh [(3,.row i (bO x))] rfl (aA rfl (fun hb=>?_) (fun hb=>?_))))))
  ·have hs:s=x:=φ hb;rw[θ hs] at he;rw[he];exact sg rfl (aI rtT)
  ·have hs:¬s=x:=δ hb;rw[ψ hs] at he;exact aD (ag [] rfl ⟨i+1,⟨J,he⟩,by dsimp only;omega,sl⟩)
 ·have O:=geD hb N hi;subst O;rw[drop_length,aGn] at he;rw[he];exact aM (sg rfl (aI rtT))
theorem bU (l:List Str) (s:Str) (h:l.length≤600000000000):aW Tryz.prog 73 [bN l,Go.AM.T s] [] (B (decide (s∈l))) []:=by
 have hi:=aLr l s h;refine bT (n:=9) tok Tryz.func73 rfl rfl rfl ?_;refine sg rfl (sgh [(2,.pc (I .i64 (aGn s l 0)))] rfl ?_);rw[←aEz s l 0 (by omega)];exact aI rtT
theorem aB4 (a b:List Str) (h:a.length≤600000000000):aW Tryz.prog 100 [bN a,bN b] [] (B (decide (a=b))) []:=by
 refine bT (n:=26) tok Tryz.func100 rfl rfl rfl ?_;refine sg rfl (a8 (sg rfl (aA rfl (fun hb=>?_) (fun hb=>?_))))
 ·have J:¬a=b:=by
   rintro rfl;simp at hb
  refine sg rfl ?_;rw[Am J];exact aI rtT
 ·have hlen:a.length=b.length:=by
   have:(a.length:Int)=(b.length:Int):=by simpa using hb
   omega
  refine aD (a8 (sg rfl (aC ?_)));have O:(a.map bO).length=a.length:=ξ _;refine aL (fun i:Nat=>mk [(0,bN a),(1,bN b),(5,I .i64 i)] []) (fun i=>i≤a.length∧a.take i=b.take i) (fun i=>a.length-i) 0 ⟨Ak _,by simp⟩ sl ?_;intro i ⟨hi,he⟩;refine a8 (sg rfl (aA rfl (fun hb=>?_) (fun hb=>?_)))
  ·have W:=ltD hb O;obtain⟨x,hx⟩:=aK W;obtain⟨y,hy⟩:=aK (show i<b.length by omega);have aa:=bJ bO hx;have ab:=bJ bO hy;refine aD (a8 (aC (sgh [(2,.row i (bO x)),(6,.row i (bO y))] rfl (aA rfl (fun hb=>?_) (fun hb=>?_)))))
   ·have N:¬x=y:=by simpa using hb
    have J:¬a=b:=by
     rintro rfl;rw[hx] at hy;exact N (Option.some.inj hy)
    rw[Am J];exact sg rfl (aI rtT)
   ·have N:x=y:=by simpa using hb
    refine aD (ag [] rfl ⟨i+1,⟨W,?_⟩,by dsimp only;omega,sl⟩);rw[eC hx,eC hy,he,N]
  ·have Y:=geD hb O hi;have Z:a=b:=by
    have:=he;rw[Y,Au,Ba (by omega)] at this;exact this
   refine aM ?_;rw[Ai Z];exact sg rfl (aI (rtT (hc:=.refl)))
def aQ4 {α:Type}(p:α→Bool):List α→Nat→Int
 | [],_=> -1
 | x::l,i=>if p x then(i:Int) else aQ4 p l (i+1)
theorem aKg {α:Type}(p:α→Bool):∀(l:List α) (i:Nat),decide (aQ4 p l i≥0)=l.any p
 | [],_=>rfl
 | x::l,i=>by
  rw[aQ4,List.any_cons];cases h:p x
  ·rw[ψ (by simp),aKg p l];rfl
  ·rw[θ rfl,Bool.true_or];simp
theorem mQ (a:Alt):a.vars.length≤pM a:=by
 obtain⟨f,n,s,v,c⟩:=a;rw[pM];have:∀l:List Str,l.length≤(l.map fun v=>1+v.length).sum:=by
  intro l
  induction l with
  | nil=>simp
  | cons x l I=>rw[Al,Cb,Aj];omega
 have:=this v;show v.length≤_;omega
def aWy (l:List Int):V:=.one (.c (.sl 1 (l.map aM8)))
end Go.Proofs.YtockgoadliilhaaGreatDoor
namespace Go.AM
open Go
inductive CsLe:List C→List C→Prop
 | nil:CsLe [] []
 | cons {c c':C} {l l':List C} (h0:Cle c c') (h:CsLe l l'):CsLe (c::l) (c'::l')
inductive RowsLe:List (List C)→List (List C)→Prop
 | nil:RowsLe [] []
 | cons {r r':List C} {l l':List (List C)} (h:CsLe r r') (k:RowsLe l l'):RowsLe (r::l) (r'::l')
theorem CsLe.refl:∀l:List C,CsLe l l
 | []=>.nil
 | _::l=>.cons .refl (CsLe.refl l)
theorem CsLe.length {l l':List C}(h:CsLe l l'):l'.length=l.length:=by
 induction h with
 | nil=>rfl
 | cons h0 h I=>simp[I]
theorem CsLe.rep {S:Sto}{l l':List C}(h:CsLe l l'):∀{vs:List Value},dI S l vs→dI S l' vs:=by
 induction h with
 | nil=>exact fun k=>k
 | cons h0 h I=>
  intro vs k;simp only[dI] at k ⊢;obtain⟨v,vs',rfl,h1,h2⟩:=k;exact⟨v,vs',rfl,h0.rep h1,I h2⟩
theorem CsLe.app {a I b b':List C}(h:CsLe a I) (k:CsLe b b'):CsLe (a++b) (I++b'):=by
 induction h with
 | nil=>exact k
 | cons h0 h J=>exact .cons h0 J
theorem RowsLe.flat {l l':List (List C)}(h:RowsLe l l'):CsLe l.flatten l'.flatten:=by
 induction h with
 | nil=>exact .nil
 | cons h k I=>simp only[Bi];exact h.app I
theorem RowsLe.length {l l':List (List C)}(h:RowsLe l l'):l'.length=l.length:=by
 induction h with
 | nil=>rfl
 | cons h k I=>simp[I]
theorem RowsLe.rows {l l':List (List C)}(h:RowsLe l l') {n:Nat}:(∀r∈l,r.length=n)→∀r∈l',r.length=n:=by
 induction h with
 | nil=>exact fun h=>h
 | cons h k J=>
  intro hl r I;rcases Ao.1 I with rfl | I
  ·rw[h.length];exact hl _ ζ
  ·exact J (fun x hx=>hl x (κ _ hx)) r I
theorem Sub.arrWeak {kf:List Nat}{st:St}{x te es fz:Nat}{rows I:List (List C)}(h:st.h x=some (.arr te es rows fz)) (hp:RowsLe rows I):Sub kf ⟨st.e,upd st.h x (some (.arr te es I fz)),st.d⟩ st:=by
 intro G n S μ a w _ hs;have hi:=hs.inv;have Z:=hi.obj x _ h
 have N:Evolve S μ st.h S μ (upd st.h x (some (.arr te es I fz))):=⟨S.le_refl,fun j y hj=>by
  by_cases J:j=x
  ·subst J;rw[h] at hj;cases hj;exact⟨_,aJ _ _ _,by simp[AObj.succ,hp.length]⟩
  ·exact⟨y,by rw[b8 _ _ _ J];exact hj,y.succ_refl rfl⟩⟩
 have hold:∀j y,upd st.h x (some (.arr te es I fz)) j=some y→∃y',st.h j=some y':=fun j y hj=>by
  by_cases J:j=x
  ·subst J;exact⟨_,h⟩
  ·rw[b8 _ _ _ J] at hj;exact⟨_,hj⟩
 refine⟨S,μ,⟨⟨hi.holds,fun j y hj=>?_,fun i j y y' b c c' O hj hm Y=>?_,fun i y b c O hm=>?_,hi.frame,hi.sle,hi.sto,hi.evo.trans N,hi.fre⟩,hs.size,hs.defers.evolve N,fun s v e=>aY.evolve N v _ (hs.env s v e)⟩⟩
 ·by_cases J:j=x
  ·subst J;have W:some (AObj.arr te es I fz)=some y:=by rw[←hj];exact(aJ _ _ _).symm
   cases W;obtain⟨g0,g⟩:=Z;refine⟨hp.rows g0,?_⟩;rcases g with⟨g1,g2⟩ | ⟨b,base,cap,vs,g1,g2,g3,g4,g5,g6,g7,g8,g9⟩
   ·subst g2;cases hp;exact .inl ⟨g1,rfl⟩
   ·refine .inr ⟨b,base,cap,vs,g1,g2,g3,by rw[hp.length];exact g4,g5,?_,g7,?_,?_⟩
    ·rw[hp.length];exact hp.flat.rep g6
    ·rw[hp.length];exact g8
    ·rw[hp.length];exact g9
  ·have W:st.h j=some y:=by rw[←hj];exact(b8 _ _ _ J).symm
   exact(hi.obj j y W).evolve N rfl fun _ _ _=>⟨rfl,fun _=>rfl,rfl⟩
 ·obtain⟨_,h1⟩:=hold _ _ O;obtain⟨_,h2⟩:=hold _ _ hj;exact hi.inj i j _ _ b c c' h1 h2 hm Y
 ·obtain⟨_,h1⟩:=hold _ _ O;exact hi.own i _ b c h1 hm
theorem aw {kf:List Nat}{st:St}(x:Nat) {te es fz:Nat}{rows:List (List C)}(I:List (List C)) (h:st.h x=some (.arr te es rows fz):=by rfl)
  (hp:RowsLe rows I:=by repeat (first | exact .nil | apply Go.AM.RowsLe.cons | apply Go.AM.CsLe.cons .refl | apply Go.AM.CsLe.cons .nl)):Sub kf ⟨st.e,upd st.h x (some (.arr te es I fz)),st.d⟩ st:=Sub.arrWeak h hp
end Go.AM
namespace Go.Proofs.YtockgoadliilhaaGreatDoor
open Go Go.AM
set_option maxRecDepth 20000
mutual
def tn:Ty→Nat
 | .mk _ _ s a=>1+s.length+tns a
def tns:List Ty→Nat
 | []=>0
 | t::l=>tn t+tns l
end
theorem kG (t:Ty):1≤tn t:=by cases t;rw[tn];omega
theorem aAw:∀l:List Ty,l.length≤tns l
 | []=>Ak _
 | t::l=>by rw[tns,Aj];have:=aAw l;have:=kG t;omega
theorem jI:∀{l:List Ty}{t:Ty},t∈l→tn t≤tns l
 | u::l,t,h=>by
  rw[tns];rcases Ao.1 h with rfl | h
  ·omega
  ·have:=jI h;omega
theorem zI (t:Ty) (ht:t.args.length≤1000000) (O:∀u∈t.args,aW Tryz.prog 115 [tyV u] [] (tyV u) []):aW Tryz.prog 115 [tyV t] [] (tyV t) []:=by
 obtain⟨f,n,s,a⟩:=t;have O:∀u∈a,aW Tryz.prog 115 [tyV u] [] (tyV u) []:=O;have aa:a.length≤1000000:=ht;have J:(dT a).length=a.length:=by rw[eU,ξ]
 refine bT (n:=22) tok Tryz.func115 rfl rfl rfl ?_;refine sg rfl (sg rfl (AWp.sub (Sub.own (t:=3) (id:=600) 33 4 rfl rfl) ?_));refine a8 (sg rfl (aC (aL (fun i:Nat=>mk [(1,.one (.vp 1 0)),(2,.one (.vp 2 0)),(3,.one (.hs 600 0 ((dT a).take i).length ((dT a).take i).length)),(7,.one (.c (.sl 4 (dT a)))),(8,I .i64 ((dT a).length:Int)),(9,I .i64 i)] [(600,.arr 33 4 ((dT a).take i) 0),(1,.var 33 ((bD (.mk f n s a)).map R.c)),(2,.var 33 [.c (.int .i64 0),.c (.int .i64 0),.c (.str []),.c .nl])]) (fun i=>i≤a.length) (fun i=>a.length-i) 0 (Ak _) sl ?_)));intro i hi;have ab:((dT a).take i).length=i:=by rw[At];omega
 refine sg rfl (a8 (aA rfl (fun hb=>?_) (fun hb=>?_)))
 ·have N:=ltD hb J;obtain⟨u,hu⟩:=aK N;have W:(dT a)[i]?=some (bD u):=by rw[eU];exact bJ bD hu
  have hc:=O u (η hu);have Y:(dT a).take (i+1)=(dT a).take i++[bD u]:=by rw[Bh,W];rfl
  refine aD (a8 (aC (sgh [(0,.row i (bD u))] rfl (aE mixed (ak 2 [] rfl (kc hc ?_))))));refine ak 3 [(3,.all)] rfl (az (ag [] rfl ⟨i+1,N,by dsimp only;omega,?_⟩));dsimp only;rw[Y];exact sl
 have Z:=geD hb J hi;subst Z;rw[show(dT a).take a.length=dT a by rw[←J,Au]];refine aM (AWp.sub (Sub.freeze (id:=600) rfl) ?_);refine sg rfl (AWp.sub (vp 1 (bD (.mk f n s a))) ?_);exact sg rfl (aI (rtC trw))
mutual
def wfS:Ty→Bool
 | .mk f n s a=>(if f=4 then decide (n=0∧s=[]∧a.length=2) else if f=5 then decide (n=0∧a.length=1) else a.isEmpty)&&aFt a
def aFt:List Ty→Bool
 | []=>true
 | t::l=>wfS t&&aFt l
end
theorem aCk:∀{l:List Ty}{t:Ty},aFt l=true→t∈l→wfS t=true
 | u::l,t,h,ht=>by
  rw[aFt,Ah] at h;rcases Ao.1 ht with rfl | ht
  ·exact h.1
  ·exact aCk h.2 ht
theorem qL {f n:Int}{s:Str}{a:List Ty}(h:wfS (.mk f n s a)=true):a.length≤2∧(∀u∈a,wfS u=true)∧(f=4→n=0∧s=[]∧∃u v,a=[u,v])∧(f=5→n=0∧∃u,a=[u])∧(¬f=4→¬f=5→a=[]):=by
 rw[wfS,Ah] at h;obtain⟨h1,h2⟩:=h;refine⟨?_,fun u hu=>aCk h2 hu,fun h4=>?_,fun h5=>?_,fun h4 h5=>?_⟩
 ·split at h1
  ·exact le_of_eq (φ h1).2.2
  ·split at h1
   ·rw[(φ h1).2];omega
   ·rw[List.isEmpty_iff.1 h1];simp
 ·rw[θ h4] at h1;obtain⟨I,a2,a3⟩:=φ h1
  match a,a3 with
  | [u,v],_=>exact⟨I,a2,u,v,rfl⟩
 ·rw[ψ (by omega),θ h5] at h1;obtain⟨I,a2⟩:=φ h1;exact⟨I,Bp.1 a2⟩
 ·rw[ψ h4,ψ h5] at h1;exact List.isEmpty_iff.1 h1
theorem xB:∀(k:Nat) (t:Ty),tn t≤k→wfS t=true→aW Tryz.prog 115 [tyV t] [] (tyV t) []
 | 0,t,h,_=>by have:=kG t;omega
 | k+1,t,h,hw=>by
  obtain⟨f,n,s,a⟩:=t;obtain⟨h1,h2,_⟩:=qL hw;exact zI (.mk f n s a) (show a.length≤_ by omega) fun u hu=>xB k u (by have hu:u∈a:=hu;have:=jI hu;rw[tn] at h;omega) (h2 u hu)
theorem aPd (a b:Ty):aW Tryz.prog 116 [tyV a,tyV b] [] (tyV (aM6 a b)) []:=by
 refine bT (n:=9) tok Tryz.func116 rfl rfl rfl ?_;exact sg rfl (sgh [(2,.all)] rfl (aI (rtC trw)))
theorem aRl (s:Str):aW Tryz.prog 114 [Go.AM.T s] [] (tyV (.mk 2 0 s [])) []:=by
 refine bT (n:=5) tok Tryz.func114 rfl rfl rfl ?_;exact sg rfl (sg rfl (aI (rtC trw)))
def gN (f:Int) (s:Str) (o:List Str) (x:Str):List Str:=if ¬x∈o∧(¬f=5∨¬x=s) then o++[x] else o
def sX (f:Int) (s:Str) (o:List Str) (l:List Str):List Str:=l.foldl (gN f s) o
mutual
def tfR:Ty→List Str
 | .mk f _ s a=>if f=2 then [s] else o9 f s a []
def o9 (f:Int) (s:Str):List Ty→List Str→List Str
 | [],o=>o
 | t::l,o=>o9 f s l (sX f s o (tfR t))
end
def tfL (f:Int) (s:Str) (l:List Ty) (o:List Str):List Str:=l.foldl (fun o t=>sX f s o (tfR t)) o
theorem aA1 (f:Int) (s:Str):∀(l:List Ty) (o:List Str),o9 f s l o=tfL f s l o
 | [],o=>by rw[o9];rfl
 | t::l,o=>by rw[o9,aA1 f s l];rfl
theorem aHz (f:Int) (s:Str) (o:List Str) (x:Str):(gN f s o x).length≤o.length+1:=by
 unfold gN;split
 ·simp
 ·omega
theorem pT (f:Int) (s:Str):∀(l o:List Str),(sX f s o l).length≤o.length+l.length
 | [],o=>le_refl _
 | x::l,o=>by
  have h1:=pT f s l (gN f s o x);have h2:=aHz f s o x;show(sX f s (gN f s o x) l).length≤_;rw[Aj];omega
mutual
theorem aHw:∀t:Ty,(tfR t).length≤tn t
 | .mk f n s a=>by
  rw[tfR,tn];split
  ·simp;omega
  ·have:=aA0 f s a [];simp only[length_nil] at this;omega
theorem aA0 (f:Int) (s:Str):∀(l:List Ty) (o:List Str),(o9 f s l o).length≤o.length+tns l
 | [],o=>by rw[o9,tns];exact le_refl _
 | t::l,o=>by
  rw[o9,tns];have h1:=aA0 f s l (sX f s o (tfR t));have h2:=pT f s (tfR t) o;have h3:=aHw t;omega
end
theorem aH2 {f:Int}{s:Str}{o l:List Str}{j:Nat}{x:Str}(h:l[j]?=some x):sX f s o (l.take (j+1))=gN f s (sX f s o (l.take j)) x:=by
 unfold sX;rw[Bh,h,B6];rfl
theorem aNk {f:Int}{s:Str}{o:List Str}{l:List Ty}{j:Nat}{x:Ty}(h:l[j]?=some x):tfL f s (l.take (j+1)) o=sX f s (tfL f s (l.take j) o) (tfR x):=by
 unfold tfL;rw[Bh,h,B6];rfl
theorem aC8:∀(l:List Ty) (i:Nat),tns (l.take i)≤tns l
 | [],i=>by simp
 | t::l,0=>by rw[Cm,tns];omega
 | t::l,i+1=>by rw[Az,tns,tns];have:=aC8 l i;omega
theorem nU (t:Ty) (ht:t.args.length≤1000000000) (hL:∀i,(tfL t.form t.name (t.args.take i) []).length≤1000000000) (hU:∀u∈t.args,(tfR u).length≤1000000000) (ih:∀u∈t.args,aW Tryz.prog 76 [tyV u] [] (bN (tfR u)) []):aW Tryz.prog 76 [tyV t] [] (bN (tfR t)) []:=by
 obtain⟨f,n,s,a⟩:=t;have hal:a.length≤1000000000:=ht;have hL:∀i,(tfL f s (a.take i) []).length≤1000000000:=hL;have hU:∀u∈a,(tfR u).length≤1000000000:=hU;have ih:∀u∈a,aW Tryz.prog 76 [tyV u] [] (bN (tfR u)) []:=ih;have ad:(dT a).length=a.length:=by rw[eU,ξ]
 rw[tfR];refine bT (n:=50) tok Tryz.func76 rfl rfl rfl ?_;refine sg rfl (a8 (sg rfl (aA rfl (fun hb=>?_) (fun hb=>?_))))
 ·have h2:f=2:=φ hb;rw[θ h2];exact sgh [(2,.all)] rfl (aI rtT)
 ·have h2:¬f=2:=δ hb;rw[ψ h2,aA1] at *;refine aD (sg rfl (AWp.sub (Sub.own (t:=3) (id:=600) 9 1 rfl rfl) (AWp.sub (Sub.freeze (id:=600) rfl) ?_)));refine a8 (sg rfl (aC (aL (fun i:Nat=>mk [(1,.one (.vp 1 0)),(3,.one (.hs 600 0 (tfL f s (a.take i) []).length (tfL f s (a.take i) []).length)),(15,.one (.c (.sl 4 (dT a)))),(16,I .i64 ((dT a).length:Int)),(17,I .i64 i)] [(600,.arr 9 1 ((tfL f s (a.take i) []).map bO) 2),(1,.var 33 ((bD (.mk f n s a)).map R.c))]) (fun i=>i≤a.length) (fun i=>a.length-i) 0 (Ak _) sl ?_)));intro i hi;refine sg rfl (a8 (aA rfl (fun hb=>?_) (fun hb=>?_)))
  ·have ae:=ltD hb ad;obtain⟨u,hu⟩:=aK ae;have hu':(dT a)[i]?=some (bD u):=by rw[eU];exact bJ bD hu
   have hm:=η hu;have hc:=ih u hm;have hul:=hU u hm;have Z:=aNk (f:=f) (s:=s) (o:=[]) hu;have hol:=hL i;generalize tfL f s (a.take i) []=o at Z hol ⊢;have aa:((tfR u).map bO).length=(tfR u).length:=ξ _;generalize tfR u=J at hc hul Z aa;refine aD (a8 (aC (sgh [(0,.row i (bD u))] rfl (sk 1 rfl (kc hc ?_)))));refine kz 2 rfl (aC (aL (fun j:Nat=>mk [(1,.one (.vp 1 0)),(3,.one (.hs 600 0 (sX f s o (J.take j)).length (sX f s o (J.take j)).length)),(15,.one (.c (.sl 4 (dT a)))),(16,I .i64 ((dT a).length:Int)),(17,I .i64 i),(22,bN J),(23,I .i64 ((J.map bO).length:Int)),(24,I .i64 j)] [(600,.arr 9 1 ((sX f s o (J.take j)).map bO) 2),(1,.var 33 ((bD (.mk f n s a)).map R.c))]) (fun j=>j≤J.length) (fun j=>J.length-j) 0 (Ak _) sl ?_));intro j hj;refine sg rfl (a8 (aA rfl (fun hb=>?_) (fun hb=>?_)))
   ·have N:=ltD hb aa;obtain⟨x,hx⟩:=aK N;have hx':=bJ bO hx;have O:=aH2 (f:=f) (s:=s) (o:=o) hx;have hpl:(sX f s o (J.take j)).length≤2000000000:=by
     have:=pT f s (J.take j) o;rw[At] at this;omega
    generalize sX f s o (J.take j)=q at O hpl ⊢;have W:=bU q x (by omega);have hkq:(q.map bO).length=q.length:=ξ _;refine aD (a8 (aC (sgh [(0,.row j (bO x))] rfl ?_)));by_cases Y:x∈q
    ·rw[Ai Y] at W;have he:gN f s q x=q:=by unfold gN;rw[ψ (fun h=>h.1 Y)]
     refine sk 2 rfl (kc W ?_);refine kz 12 rfl (aA rfl nofun (fun _=>aD (ag [] rfl ⟨j+1,N,by dsimp only;omega,?_⟩)));dsimp only;rw[O,he];exact sl
    rw[Am Y] at W;by_cases h5:f=5
    ·have d5:decide (f=5)=true:=Ai h5;have d5':(!decide (f=5))=false:=by rw[d5];rfl
     refine sk 2 rfl (kc W ?_);refine ak 12 [(8,.bv false),(13,.bv false)] rfl (az (aA rfl (fun hb=>?_) (fun hb=>?_)))
     ·have ab:¬x=s:=by simp at hb;exact hb
      have he:gN f s q x=q++[x]:=by unfold gN;rw[θ ⟨Y,.inr ab⟩]
      refine ag [(2,.all)] rfl (AWp.sub (Sub.freeze (id:=600) rfl) ?_);refine ag [] rfl ⟨j+1,N,by dsimp only;omega,?_⟩;dsimp only;rw[O,he];exact sl (hh:=⟨⟨_,rfl,.arrS (by rw[As];rfl)⟩,⟨_,rfl,.var rfl⟩,trivial⟩)
     ·have ab:x=s:=by simp at hb;exact hb
      have he:gN f s q x=q:=by unfold gN;rw[ψ (fun h=>h.2.elim (fun h=>h h5) (fun h=>h ab))]
      refine aD (ag [] rfl ⟨j+1,N,by dsimp only;omega,?_⟩);dsimp only;rw[O,he];exact sl
    ·have d5:decide (f=5)=false:=Am h5;have d5':(!decide (f=5))=true:=by rw[d5];rfl
     have he:gN f s q x=q++[x]:=by unfold gN;rw[θ ⟨Y,.inl h5⟩]
     refine sk 2 rfl (kc W ?_);refine ak 12 [(8,.bv true),(13,.bv true)] rfl (az (aA rfl (fun _=>ag [(2,.all)] rfl (AWp.sub (Sub.freeze (id:=600) rfl) ?_)) nofun));refine ag [] rfl ⟨j+1,N,by dsimp only;omega,?_⟩;dsimp only;rw[O,he];exact sl (hh:=⟨⟨_,rfl,.arrS (by rw[As];rfl)⟩,⟨_,rfl,.var rfl⟩,trivial⟩)
   have ac:=geD hb aa hj;subst ac;rw[Au];refine aM (ag [] rfl ⟨i+1,ae,by dsimp only;omega,?_⟩);dsimp only;rw[Z];exact sl
  have ac:=geD hb ad hi;subst ac;rw[Au];exact aM (sg rfl (aI (rtT (hc:=hs_all rfl rfl (by simp) rfl))))
theorem zJ (t:Ty) (ht:tn t≤1000000000) (I:∀u,tn u<tn t→aW Tryz.prog 76 [tyV u] [] (bN (tfR u)) []):aW Tryz.prog 76 [tyV t] [] (bN (tfR t)) []:=by
 obtain⟨f,n,s,a⟩:=t;rw[tn] at ht I;have J:=aAw a;refine nU (.mk f n s a) (show a.length≤_ by omega) (fun i=>?_) (fun u hu=>?_) fun u hu=>I u ?_
 ·have h1:=aA0 f s (a.take i) [];rw[aA1] at h1;have h2:=aC8 a i;simp only[length_nil] at h1;show(tfL f s (a.take i) []).length≤_;omega
 ·have h1:=jI (show u∈a from hu);have h2:=aHw u;omega
 ·have h1:=jI (show u∈a from hu);omega
theorem aE9:∀(k:Nat) (t:Ty),tn t≤k→tn t≤1000000000→aW Tryz.prog 76 [tyV t] [] (bN (tfR t)) []
 | 0,t,h,_=>by have:=kG t;omega
 | k+1,t,h,hm=>zJ t hm fun u hu=>aE9 k u (by omega) (by omega)
mutual
def fvm:Ty→Nat
 | .mk f n s a=>max (tfR (.mk f n s a)).length (aKw a)
def aKw:List Ty→Nat
 | []=>0
 | t::l=>max (fvm t) (aKw l)
end
theorem nM (t:Ty):(tfR t).length≤fvm t:=by cases t;rw[fvm];exact le_max_left ..
theorem aEv:∀{l:List Ty}{t:Ty},t∈l→fvm t≤aKw l
 | u::l,t,h=>by
  rw[aKw];rcases Ao.1 h with rfl | h
  ·exact le_max_left ..
  ·exact le_trans (aEv h) (le_max_right ..)
theorem wW {f n:Int}{s:Str}{a:List Ty}{u:Ty}(h:u∈a):fvm u≤fvm (.mk f n s a):=by
 rw[fvm];exact le_trans (aEv h) (le_max_right ..)
theorem aH1 {f:Int}{s:Str}{L:Nat}:∀{l:List Ty}{o:List Str},(∀u∈l,(tfR u).length≤L)→(tfL f s l o).length≤o.length+l.length*L
 | [],o,_=>by simp[tfL]
 | t::l,o,h=>by
  have h1:=aH1 (f:=f) (s:=s) (l:=l) (o:=sX f s o (tfR t)) fun u hu=>h u (κ _ hu)
  have h2:=pT f s (tfR t) o;have h3:=h t ζ;show(tfL f s l (sX f s o (tfR t))).length≤_;rw[Aj,Nat.succ_mul];omega
theorem nV:∀(k:Nat) (t:Ty),tn t≤k→wfS t=true→fvm t≤400000000→aW Tryz.prog 76 [tyV t] [] (bN (tfR t)) []
 | 0,t,h,_,_=>by have:=kG t;omega
 | k+1,t,h,hw,hf=>by
  obtain⟨f,n,s,a⟩:=t;obtain⟨h1,h2,_⟩:=qL hw;have hu:∀u∈a,(tfR u).length≤400000000:=fun u hu=>le_trans (nM u) (le_trans (wW hu) hf)
  refine nU (.mk f n s a) (show a.length≤_ by omega) (fun i=>?_) (fun u I=>le_trans (hu u I) (by decide)) fun u I=>?_
  ·have h3:=aH1 (f:=f) (s:=s) (l:=a.take i) (o:=[]) fun u I=>hu u (Bs I)
   rw[At,length_nil] at h3;have h4:min i a.length*400000000≤2*400000000:=Ax _ (by omega);show(tfL f s (a.take i) []).length≤_;omega
  ·have I:u∈a:=I;exact nV k u (by have:=jI I;rw[tn] at h;omega) (h2 u I) (le_trans (wW I) hf)
def fw (t:Ty):Nat:=if wfS t=true∧fvm t≤tn t then fvm t else tn t
theorem aXa (t:Ty):(tfR t).length≤fw t:=by
 unfold fw;split
 ·exact nM t
 ·exact aHw t
theorem aRe {t:Ty}(h:wfS t=true):fw t≤fvm t:=by
 unfold fw;split
 ·exact le_refl _
 ·rename_i I;have:¬fvm t≤tn t:=fun hh=>I ⟨h,hh⟩
  omega
theorem aFa (t:Ty) (h:fw t≤400000000):aW Tryz.prog 76 [tyV t] [] (bN (tfR t)) []:=by
 unfold fw at h;split at h
 ·rename_i I;exact nV (tn t) t (le_refl _) I.1 h
 ·exact aE9 (tn t) t (le_refl _) (by omega)
end Go.Proofs.YtockgoadliilhaaGreatDoor
namespace Go.AM
open Go
theorem aXe:∀m:_root_.Fin 128,Utf8.encode ((m.val:Nat):Int)=⟨⟨[UInt8.ofNat m.val]⟩⟩:=by decide+kernel
section
variable {P:Program}{T:TT}{n:Nat}{o:Oper}{st:St}{d:Nat}
theorem aSq {src dst:TypeId}{i j:TI}{x:Operand}{k:IntKind}{m:Nat}(hm:m<128) (J:Tok P T) (Y:o.op=.convert src dst x) (hd:o.dst=some d) (N:d<n) (hi:T[src]?=some (some i)) (O:i.k=.int k) (hj:T[dst]?=some (some j)) (W:j.k=.str)
  (hx:opv st x=some (I k (m:Int))):Step P n o st ⟨opr x,[]⟩ ⟨some (d,some (Go.AM.T [UInt8.ofNat m])),[]⟩:=by
 refine Step.value hd N fun st' ha G S μ a w hs=>?_
 have hv:=eY (aO hs hx ha.1);refine⟨.string ⟨⟨[UInt8.ofNat m]⟩⟩,?_,by simp[aY,bB,Rep]⟩;have h1:=(J.get hi).int O;have h2:=(J.get hj).str W;have h3:=run_convert_int_string (P:=P) w src dst k (m:Int) (by rw[h1];rfl) h2;rw[aXe ⟨m,hm⟩] at h3;simp only[execOp,Y,hv,Ae,h3,χ,Af]
end
section
variable {P:Program}{n:Nat}{ops:Array Oper}{draw:Bool}{k d:Nat}{st:St}{pre:REs}{Q:St→Prop}{o:Oper}
theorem kr {tr:Tr}{src dst:TypeId}{i j:TI}{x:Operand}{kk:IntKind}(m:Nat) (hm:m<128) (Y:Tok P tr.flat)
  (hk:kE P n ops draw (k+1) ⟨upd st.e d (some (Go.AM.T [UInt8.ofNat m])),st.h,st.d⟩ ((⟨opr x,[]⟩,⟨some (d,some (Go.AM.T [UInt8.ofNat m])),[]⟩)::pre) Q) (hw:tr.wf=true)
  (Z:ops[k]?=some o:=by rfl) (hg:o.guard=none:=by rfl) (J:o.op=.convert src dst x:=by rfl) (hd:o.dst=some d:=by rfl) (N:Nat.blt d n=true:=by rfl) (hi:tr.get src=some i:=by rfl) (O:i.k=.int kk:=by rfl) (hj:tr.get dst=some j:=by rfl) (W:j.k=.str:=by rfl) (hx:opv st x=some (I kk (m:Int)):=by first | rfl | assumption):kE P n ops draw k st pre Q:=
 k_ (g_ Z hg (aSq hm Y J hd (lI N) (Tr.get_ok hw hi) O (Tr.get_ok hw hj) W hx)) hk
end
end Go.AM
namespace Go.Proofs.YtockgoadliilhaaGreatDoor
open Go Go.AM
set_option maxRecDepth 20000
def bQ (n:Nat):Str:=if n<26 then [UInt8.ofNat (97+n%26)] else [UInt8.ofNat (97+n%26)]++Lib.decDigits (n/26)
theorem wrap_small (m:Nat) (h:m<128):IntKind.i32.wrap (m:Int)=(m:Int):=by
 have:∀m:_root_.Fin 128,IntKind.i32.wrap ((m.val:Nat):Int)=((m.val:Nat):Int):=by decide+kernel
 exact this ⟨m,h⟩
theorem aB1 (n:Nat) (h:n≤600000000000):(Lib.decDigits n).length≤20:=by
 rw[Lib.decDigits_length];by_cases h0:n=0
 ·subst h0;decide+kernel
 ·have:=Lib.numDigits_eq n (by omega) (by omega);split at this<;>omega
theorem zM (n:Nat) (hn:n≤600000000000) (J:26≤n→aW Tryz.prog 129 [I .i64 ((n/26:Nat):Int)] [] (Go.AM.T (Lib.decDigits (n/26))) []):aW Tryz.prog 137 [I .i64 n] [] (Go.AM.T (bQ n)) []:=by
 have N:(97:Int)+(n:Int)%26=((97+n%26:Nat):Int):=by omega
 refine bT (n:=17) tok Tryz.func137 rfl rfl rfl ?_;refine sg rfl (sk 4 rfl ?_ (hc:=by repeat (first | exact trivial | refine⟨by first | rfl | omega,?_⟩)))
 refine kr (97+n%26) (by omega) tok ?_ trw (hx:=by
  show some (I .i32 (IntKind.i32.wrap (97+(n:Int)%26)))=some (I .i32 ((97+n%26:Nat):Int))
  rw[N,wrap_small _ (by omega)])
 refine kz 1 rfl (a8 (sg rfl (aA rfl (fun hb=>?_) (fun hb=>?_))))
 ·have h:n<26:=by have:=φ hb;omega
  unfold bQ;rw[θ h];exact sg rfl (aI rtT)
 ·have h:¬n<26:=by have:=δ hb;omega
  have J:=J (by omega);have W:600000000000≤maxLen:=by decide
  have O:=aB1 (n/26) (by omega);have hd:(n:Int)/26=((n/26:Nat):Int):=by omega
  unfold bQ;rw[ψ h];refine aD (sk 3 rfl ?_ (hc:=by repeat (first | exact trivial | refine⟨by first | rfl | omega | decide,?_⟩)));rw[←hd] at J;refine kc J ?_;refine ak 2 [] rfl ?_ (hc:=by repeat (first | exact trivial | refine⟨by first | rfl | omega | (simp;omega),?_⟩));exact az (aI rtT)
theorem qG {a b:Nat}(ha:a<256) (hb:b<256) (h:UInt8.ofNat a=UInt8.ofNat b):a=b:=by
 have:=congrArg UInt8.toNat h;simp only[UInt8.toNat_ofNat'] at this;omega
theorem aE7 (n:Nat):1≤(Lib.decDigits n).length:=by
 rw[Lib.decDigits];split<;>simp
theorem aRh:∀(n m:Nat),Lib.decDigits n=Lib.decDigits m→n=m:=by
 intro n
 induction n using Nat.strongRecOn with
 | _ n I=>
  intro m h;rw[Lib.decDigits,Lib.decDigits.eq_1 m] at h;split at h<;>split at h
  ·simp only[List.cons.injEq,and_true] at h;have:=qG (by omega) (by omega) h;omega
  ·have:=congrArg List.length h;have hp:=aE7 (m/10);simp only[Aa,Aj,length_nil] at this;omega
  ·have:=congrArg List.length h;have hp:=aE7 (n/10);simp only[Aa,Aj,length_nil] at this;omega
  ·have h1:=List.append_inj' h rfl;have h2:=I (n/10) (by omega) (m/10) h1.1;have h3:=h1.2;simp only[List.cons.injEq,and_true] at h3;have:=qG (by omega) (by omega) h3;omega
theorem aBq (n m:Nat) (h:bQ n=bQ m):n=m:=by
 unfold bQ at h;split at h<;>split at h
 ·simp only[List.cons.injEq,and_true] at h;have:=qG (by omega) (by omega) h;omega
 ·have:=congrArg List.length h;have hp:=aE7 (m/26);simp only[Aa,Aj,length_nil] at this;omega
 ·have:=congrArg List.length h;have hp:=aE7 (n/26);simp only[Aa,Aj,length_nil] at this;omega
 ·simp only[A9,Be,List.cons.injEq] at h;have h1:=qG (by omega) (by omega) h.1;have h2:=aRh _ _ h.2;omega
theorem aO4 (l:List Str):∃n,n≤l.length∧¬bQ n∈l:=by
 refine Classical.byContradiction fun N=>?_
 have I:∀n,n≤l.length→bQ n∈l:=fun n hn=>Classical.byContradiction fun h=>N ⟨n,hn,h⟩
 have O:((List.range (l.length+1)).map bQ).Nodup:=by
  rw[List.Nodup,List.pairwise_map];exact List.Pairwise.imp (fun h e=>h (aBq _ _ e)) nodup_range
 have J:∀x∈(List.range (l.length+1)).map bQ,x∈l:=fun x hx=>by
  obtain⟨i,hi,rfl⟩:=Ad.1 hx;exact I i (by have:=mem_range.1 hi;omega)
 have key:∀(a b:List Str),a.Nodup→(∀x∈a,x∈b)→a.length≤b.length:=by
  intro a
  induction a with
  | nil=>intro b _ _;simp
  | cons x a W=>
   intro b hn hs;rw[Bq] at hn;have h1:=W (b.erase x) hn.2 fun y hy=>(List.mem_erase_of_ne (by rintro rfl;exact hn.1 hy)).2 (hs y (κ _ hy))
   have hx:=hs x ζ;rw[List.length_erase_of_mem hx] at h1;have:=List.length_pos_of_mem hx;rw[Aj];omega
 have:=key _ _ O J;rw[ξ,length_range] at this;omega
theorem jP (l:List Str):∃n,n≤l.length∧¬bQ n∈l∧∀m,m<n→bQ m∈l:=by
 have key:∀k:Nat,(∃n,n≤k∧¬bQ n∈l)→∃n,n≤k∧¬bQ n∈l∧∀m,m<n→bQ m∈l:=by
  intro k
  induction k with
  | zero=>
   rintro⟨n,hn,h⟩;exact⟨n,hn,h,fun m hm=>by omega⟩
  | succ k J=>
   rintro⟨n,hn,h⟩;by_cases hk:∃n,n≤k∧¬bQ n∈l
   ·obtain⟨m,h1,h2,h3⟩:=J hk;exact⟨m,by omega,h2,h3⟩
   ·have N:n=k+1:=by
     by_cases h1:n≤k
     ·exact absurd ⟨n,h1,h⟩ hk
     ·omega
    exact⟨n,hn,h,fun m hm=>Classical.byContradiction fun I=>hk ⟨m,by omega,I⟩⟩
 exact key l.length (aO4 l)
noncomputable def iY (l:List Str):Nat:=Classical.choose (jP l)
noncomputable def bA (l:List Str):Str:=bQ (iY l)
theorem rV (l:List Str):iY l≤l.length:=(B5 (jP l)).1
theorem oJ (l:List Str):¬bQ (iY l)∈l:=(B5 (jP l)).2.1
theorem z7 (l:List Str) {m:Nat}(h:m<iY l):bQ m∈l:=(B5 (jP l)).2.2 m h
theorem xE (l:List Str) (hl:l.length≤570000000000) (O:∀k,k≤l.length→aW Tryz.prog 129 [I .i64 (k:Int)] [] (Go.AM.T (Lib.decDigits k)) []):aW Tryz.prog 113 [bN l] [] (Go.AM.T (bA l)) []:=by
 have hf:=rV l;refine bT (n:=12) tok Tryz.func113 rfl rfl rfl ?_;refine sg rfl (sg rfl (a8 (aC (aL (fun n:Nat=>mk [(0,bN l),(3,I .i64 n)] []) (fun n=>n≤iY l) (fun n=>iY l-n) 0 (Ak _) sl ?_))));intro n hn;have J:=zM n (by omega) fun h=>O (n/26) (by omega)
 have N:=bU l (bQ n) (by omega);refine a8 (sk 2 rfl (kc J ?_));refine kc N ?_;refine az (aA rfl (fun hb=>?_) (fun hb=>?_))
 ·have hm:bQ n∈l:=φ hb;have W:n≠iY l:=by rintro rfl;exact oJ l hm
  refine aD (aC (ag [] rfl ?_ (hc:=by repeat (first | exact trivial | refine⟨by omega,?_⟩))));exact⟨n+1,by omega,by dsimp only;omega,sl⟩
 ·have hm:¬bQ n∈l:=δ hb;have he:n=iY l:=by
   by_cases h:n<iY l
   ·exact absurd (z7 l h) hm
   ·omega
  refine aM (sk 1 rfl (kc J ?_));refine kz 1 rfl ?_;unfold bA;rw[←he];exact aI rtT
abbrev cK (m:Nat):Prop:=∀k,k≤m→aW Tryz.prog 129 [I .i64 (k:Int)] [] (Go.AM.T (Lib.decDigits k)) []
theorem aPi (l:List Str) (hl:l.length≤570000000000) (O:cK l.length):aW Tryz.prog 138 [bN l] [] (Go.AM.T (bA l)) []:=by
 have hf:=rV l;have W:(l.map bO).length=l.length:=ξ _;refine bT (n:=19) tok Tryz.func138 rfl rfl rfl ?_;refine sg rfl (a8 (a8 (agN [] rfl (aC (aL (fun n:Nat=>mk [(0,bN l),(7,I .i64 (((l.map bO).length+1:Nat):Int)),(8,I .i64 n)] []) (fun n=>n≤iY l) (fun n=>iY l-n) 0 (Ak _) sl ?_)) (hc:=⟨by show(l.map bO).length+1≤9223372036854775807;omega,trivial⟩))));intro n hn;have J:=zM n (by omega) fun h=>O (n/26) (by omega)
 have N:=bU l (bQ n) (by omega);refine sg rfl (a8 (aA rfl (fun hb=>?_) (fun hb=>?_)))
 ·refine aD (a8 (aC (sg rfl (sk 1 rfl (kc J ?_)))));refine kz 1 rfl (sk 2 rfl (kc N ?_));refine kz 1 rfl (aA rfl (fun hb=>?_) (fun hb=>?_))
  ·have hm:¬bQ n∈l:=by simpa using hb
   have he:n=iY l:=by
    by_cases h:n<iY l
    ·exact absurd (z7 l h) hm
    ·omega
   refine sg rfl ?_;unfold bA;rw[←he];exact aI rtT
  ·have hm:bQ n∈l:=by simpa using hb
   have Y:n≠iY l:=by rintro rfl;exact oJ l hm
   refine aD (ag [] rfl ?_ (hc:=by repeat (first | exact trivial | refine⟨by omega,?_⟩)));exact⟨n+1,by omega,by dsimp only;omega,sl⟩
 ·exfalso;have:=δ hb;omega
theorem aT0 (s:Str) (t:Ty) (I:aW Tryz.prog 115 [tyV t] [] (tyV t) []):aW Tryz.prog 139 [Go.AM.T s,tyV t] [] (tyV (.mk 5 0 s [t])) []:=by
 refine bT (n:=10) tok Tryz.func139 rfl rfl rfl ?_;refine sg rfl (sk 2 rfl (kc I ?_));exact ak 3 [(3,.all)] rfl (az (aI (rtC trw)))
set_option maxHeartbeats 4000000
def aUp (l:List Ty):V:=.one (.c (.sl 4 (l.map bD)))
def unF (nm:Str) (body:Ty) (l:List (Str×Ty)):List (Str×Ty):=l.filter fun p=>!decide (p.1=nm)&&decide (p.1∈tfR body)
def unC (l:List (Str×Ty)):List Str:=l.flatMap fun p=>tfR p.2
noncomputable def unN (nm:Str) (body:Ty) (l:List (Str×Ty)):Str:=if nm∈unC (unF nm body l) then bA (unC (unF nm body l)++tfR body) else nm
noncomputable def unP (nm:Str) (body:Ty) (l:List (Str×Ty)):List (Str×Ty):=if nm∈unC (unF nm body l) then unF nm body l++[(nm,.mk 2 0 (unN nm body l) [])] else unF nm body l
theorem aNe {nm:Str}{body:Ty}{l:List (Str×Ty)}{i:Nat}{p:Str×Ty}(h:l[i]?=some p):unF nm body (l.take (i+1))=if(!decide (p.1=nm)&&decide (p.1∈tfR body))=true then unF nm body (l.take i)++[p] else unF nm body (l.take i):=by
 unfold unF;rw[Bh,h,List.filter_append];show _++List.filter _ [p]=_;rw[Cu];split<;>simp
theorem aPc (nm:Str) (body b':Ty) (ps:List (Str×Ty)) (hl:ps.length≤1000000000) (hfr:aW Tryz.prog 76 [tyV body] [] (bN (tfR body)) []) (hfl:(tfR body).length≤400000000) (Z:aW Tryz.prog 139 [Go.AM.T (unN nm body ps),tyV b'] [] (tyV (.mk 5 0 (unN nm body ps) [b'])) [])
  (hps:∀p∈ps,aW Tryz.prog 76 [tyV p.2] [] (bN (tfR p.2)) []∧(tfR p.2).length≤400000000) (hc:(unC (unF nm body ps)).length≤540000000000∧∀i,(unC (unF nm body (ps.take i))).length≤540000000000) (hI:cK ((unC (unF nm body ps)).length+(tfR body).length))
  (hS:aW Tryz.prog 78 [tyV body,bN ((unP nm body ps).map (·.1)),aUp ((unP nm body ps).map (·.2))] [] (tyV b') []):
  aW Tryz.prog 117 [tyV (.mk 5 0 nm [body]),bN (ps.map (·.1)),aUp (ps.map (·.2))] [] (tyV (.mk 5 0 (unN nm body ps) [b'])) []:=by
 have hk1:((ps.map (·.1)).map bO).length=ps.length:=by rw[ξ,ξ]
 refine bT (n:=81) tok Tryz.func117 rfl rfl rfl ?_;refine sg rfl (sgh [(2,.row 0 (bD body))] rfl (sk 1 rfl (kc hfr ?_)));refine kz 1 rfl (sg rfl (sg rfl (sg rfl (AWp.sub (Sub.own (t:=9) (id:=600) 9 1 rfl rfl) (AWp.sub (Sub.freeze (id:=600) rfl) ?_)))));refine AWp.sub (Sub.own (t:=10) (id:=601) 33 4 rfl rfl) (AWp.sub (Sub.freeze (id:=601) rfl) ?_);refine AWp.sub (Sub.own (t:=11) (id:=602) 9 1 rfl rfl) (AWp.sub (Sub.freeze (id:=602) rfl) ?_);refine a8 (sg rfl (aC ?_))
 refine aL (fun i:Nat=>mk [(2,aUp (ps.map (·.2))),(3,.one (.vp 3 0)),(6,.one (.vp 6 0)),(7,.one (.vp 7 0)),(8,bN (tfR body)),(9,.one (.hs 600 0 (unF nm body (ps.take i)).length (unF nm body (ps.take i)).length)),(10,.one (.hs 601 0 (unF nm body (ps.take i)).length (unF nm body (ps.take i)).length)),(11,.one (.hs 602 0 (unC (unF nm body (ps.take i))).length (unC (unF nm body (ps.take i))).length)),(21,bN (ps.map (·.1))),(22,I .i64 (((ps.map (·.1)).map bO).length:Int)),(23,I .i64 i)]
  [(600,.arr 9 1 (((unF nm body (ps.take i)).map (·.1)).map bO) 2),(601,.arr 33 4 (((unF nm body (ps.take i)).map (·.2)).map bD) 2),(602,.arr 9 1 ((unC (unF nm body (ps.take i))).map bO) 2),(3,.var 33 ((bD (.mk 5 0 nm [body])).map R.c)),(6,.var 33 [.c (.int .i64 0),.c (.int .i64 0),.c (.str []),.c .nl]),(7,.var 33 ((bD body).map R.c))]) (fun i=>i≤ps.length) (fun i=>ps.length-i) 0 (Ak _) sl ?_
 intro i hi;refine sg rfl (a8 (aA rfl (fun hb=>?_) (fun hb=>?_)))
 ·have W:=ltD hb hk1;obtain⟨⟨s,u⟩,hu⟩:=aK W;have hs':((ps.map (·.1)).map bO)[i]?=some (bO s):=bJ bO (by rw[A5,hu];rfl);have hu':((ps.map (·.2)).map bD)[i]?=some (bD u):=bJ bD (by rw[A5,hu];rfl);obtain⟨hfu,hul⟩:=hps _ (η hu);have hul:(tfR u).length≤400000000:=hul;have hfu:aW Tryz.prog 76 [tyV u] [] (bN (tfR u)) []:=hfu;have J:=aNe (nm:=nm) (body:=body) hu;have O:=bU (tfR body) s (by omega);have hql:=hc.2 i;have hpl:(unF nm body (ps.take i)).length≤1000000000:=by
   have h1:(unF nm body (ps.take i)).length≤(ps.take i).length:=List.length_filter_le _ _;rw[At] at h1;omega
  generalize unF nm body (ps.take i)=q at J hql hpl ⊢;generalize tfR body=fb at O J ⊢;refine aD (a8 (aC (sgh [(1,.row i (bO s))] rfl ?_)));by_cases h1:s=nm
  ·have Y:(!decide (s=nm))=false:=by rw[Ai h1];rfl
   dsimp only at J;rw[Y,Bool.false_and,ψ (by decide)] at J;refine sgh [(4,.bv false),(8,.bv false)] rfl (aA rfl nofun (fun _=>aD (ag [] rfl ⟨i+1,W,by dsimp only;omega,?_⟩)));dsimp only;rw[J];exact sl
  have Y:(!decide (s=nm))=true:=by rw[Am h1];rfl
  dsimp only at J;rw[Y,Bool.true_and] at J;by_cases h2:s∈fb
  ·rw[Ai h2] at O;rw[θ (Ai h2)] at J;have hql2:=hc.2 (i+1);rw[J] at hql2;have hcq:unC (q++[(s,u)])=unC q++tfR u:=by unfold unC;rw[flatMap_append];simp
   rw[hcq,Aa] at hql2;refine skh 7 [(4,.bv true)] rfl (kcG O ?_ (hw:=Y));refine ak 1 [(8,.bv true)] rfl (az (aA rfl (fun _=>?_) nofun));have hq1:((q.map (·.1)).map bO).length=q.length:=by rw[ξ,ξ]
   have hq2:((q.map (·.2)).map bD).length=q.length:=by rw[ξ,ξ]
   have hq3:((unC q).map bO).length=(unC q).length:=ξ _;have hq4:((tfR u).map bO).length=(tfR u).length:=ξ _;refine sgh [(2,.all),(7,.row i (bD u)),(9,.all)] rfl (AWp.sub (Sub.freeze (id:=600) rfl) (AWp.sub (Sub.freeze (id:=601) rfl) ?_));refine aE mixed (ak 5 [(3,.row i (bD u))] rfl (kc hfu ?_));refine kz 2 rfl (AWp.sub (Sub.freeze (id:=602) rfl) ?_);refine ag [] rfl ⟨i+1,W,by dsimp only;omega,?_⟩;dsimp only;rw[J,hcq];refine sl (he:=⟨rfl,rfl,rfl,rfl,rfl,Go.AM.hs_ren (by simp) (by simp),Go.AM.hs_ren (by simp) (by simp),Go.AM.hs_ren (by simp) (by simp),rfl,rfl,rfl,trivial⟩) (hh:=⟨⟨_,rfl,.arrS (by simp[bO])⟩,⟨_,rfl,.arrS (by simp;rfl)⟩,⟨_,rfl,.arrS (by simp)⟩,⟨_,rfl,.var rfl⟩,⟨_,rfl,.var rfl⟩,⟨_,rfl,.var rfl⟩,trivial⟩)
  ·rw[Am h2] at O;rw[ψ (by rw[Am h2];decide)] at J;refine skh 7 [(4,.bv true)] rfl (kcG O ?_ (hw:=Y));refine ak 1 [(8,.bv true)] rfl (az (aA rfl nofun (fun _=>aD (ag [] rfl ⟨i+1,W,by dsimp only;omega,?_⟩))));dsimp only;rw[J];exact sl
 ·have hge:=geD hb hk1 hi;subst hge;rw[Au];have hpl:(unF nm body ps).length≤1000000000:=by
   have h1:(unF nm body ps).length≤ps.length:=List.length_filter_le _ _;omega
  have O:=bU (unC (unF nm body ps)) nm (by omega);refine aM (sg rfl ?_);by_cases h1:nm∈unC (unF nm body ps)
  ·have eN:unN nm body ps=bA (unC (unF nm body ps)++tfR body):=by unfold unN;rw[θ h1]
   have eP:unP nm body ps=unF nm body ps++[(nm,.mk 2 0 (unN nm body ps) [])]:=by unfold unP;rw[θ h1]
   have W:=aPi (unC (unF nm body ps)++tfR body) (by rw[Aa];have:=hc.1;omega) (fun k hk=>hI k (by rw[Aa] at hk;exact hk));rw[←eN] at W;rw[eP] at hS;have hv:=aRl (unN nm body ps);rw[Ai h1] at O;generalize unN nm body ps=N at *;have hcl:=hc.1;generalize unF nm body ps=q at *;have hS2:aW Tryz.prog 78 [tyV body,.one (.c (.sl 1 ((q.map (·.1)).map bO++[bO nm]))),.one (.c (.sl 4 ((q.map (·.2)).map bD++[bD (.mk 2 0 N [])])))] [] (tyV b') []:=by
    have Y:bN ((q++[(nm,Ty.mk 2 0 N [])]).map (·.1))=.one (.c (.sl 1 ((q.map (·.1)).map bO++[bO nm]))):=by unfold bN;rw[As,As];rfl
    have e2:aUp ((q++[(nm,Ty.mk 2 0 N [])]).map (·.2))=.one (.c (.sl 4 ((q.map (·.2)).map bD++[bD (.mk 2 0 N [])]))):=by unfold aUp;rw[As,As];rfl
    rw[Y,e2] at hS;exact hS
   have hq1:((q.map (·.1)).map bO).length=q.length:=by rw[ξ,ξ]
   have hq2:((q.map (·.2)).map bD).length=q.length:=by rw[ξ,ξ]
   have hq3:((unC q).map bO).length=(unC q).length:=ξ _;have hq4:((tfR body).map bO).length=(tfR body).length:=ξ _;have hlt2:aW Tryz.prog 138 [.one (.c (.sl 1 ((unC q).map bO++(tfR body).map bO)))] [] (Go.AM.T N) []:=by
    have Y:bN (unC q++tfR body)=.one (.c (.sl 1 ((unC q).map bO++(tfR body).map bO))):=by unfold bN;rw[As]
    rw[Y] at W;exact W
   refine a8 (sk 2 rfl (kc O ?_));refine az (aA rfl (fun _=>skh 3 [(2,.fz)] rfl (kc hlt2 ?_)) nofun);refine kz 1 rfl (aE mixed (ak 7 [(3,.all)] rfl (kc hv ?_)));refine ak 4 [(8,.all)] rfl (az (AWp.sub (Sub.freeze (id:=600) rfl) (AWp.sub (Sub.freeze (id:=601) rfl) ?_)));refine sk 4 rfl (kc hS2 ?_);refine kc Z ?_;exact kz 1 rfl (aI (rtC trw))
  ·have eN:unN nm body ps=nm:=by unfold unN;rw[ψ h1]
   have eP:unP nm body ps=unF nm body ps:=by unfold unP;rw[ψ h1]
   rw[eP] at hS;rw[eN] at Z ⊢;rw[Am h1] at O;have hcl:=hc.1;generalize unF nm body ps=q at *;have hq1:((q.map (·.1)).map bO).length=q.length:=by rw[ξ,ξ]
   have hq2:((q.map (·.2)).map bD).length=q.length:=by rw[ξ,ξ]
   refine a8 (sk 2 rfl (kc O ?_));refine az (aA rfl nofun (fun _=>aD (sk 4 rfl (kc hS ?_))));refine kc Z ?_;exact kz 1 rfl (aI (rtC trw))
theorem u9 (s:Str):∀(l:List Str) (k:Int),(∃i:Nat,aGn s l k=k+i∧l[i]?=some s)∨(¬s∈l∧aGn s l k= -1)
 | [],k=>.inr ⟨by simp,rfl⟩
 | x::l,k=>by
  rw[aGn];split
  ·rename_i h;subst h;exact .inl ⟨0,by simp,rfl⟩
  ·rename_i h;rcases u9 s l (k+1) with⟨i,h1,h2⟩ | ⟨h1,h2⟩
   ·exact .inl ⟨i+1,by rw[h1];omega,by simpa using h2⟩
   ·exact .inr ⟨by simp[h,h1],h2⟩
theorem aHy {f:Int}{s:Str}{o:List Str}{x y:Str}(h:y∈o):y∈gN f s o x:=by
 unfold gN;split
 ·exact ω.2 (.inl h)
 ·exact h
theorem pS {f:Int}{s:Str}:∀{l o:List Str}{y:Str},y∈o→y∈sX f s o l
 | [],_,_,h=>h
 | x::l,o,y,h=>pS (l:=l) (o:=gN f s o x) (aHy h)
theorem n9 {f:Int}{s:Str}:∀{l o:List Str}{y:Str},y∈l→(¬f=5∨¬y=s)→y∈sX f s o l
 | x::l,o,y,h,hf=>by
  rcases Ao.1 h with rfl | h
  ·refine pS (l:=l) (o:=gN f s o y) ?_;unfold gN;by_cases hy:y∈o
   ·rw[ψ (fun h=>h.1 hy)];exact hy
   ·rw[θ ⟨hy,hf⟩];simp
  ·exact n9 (l:=l) (o:=gN f s o x) h hf
theorem aVd {n:Int}{nm:Str}{body:Ty}{x:Str}(h:x∈tfR body) (hx:¬x=nm):x∈tfR (.mk 5 n nm [body]):=by
 rw[tfR,ψ (by decide),o9,o9];exact n9 h (.inr hx)
theorem aSd {n:Int}{s:Str}{a b:Ty}{x:Str}(h:x∈tfR a):x∈tfR (.mk 4 n s [a,b]):=by
 rw[tfR,ψ (by decide),o9,o9,o9];exact pS (n9 h (.inl (by decide)))
theorem aSc {n:Int}{s:Str}{a b:Ty}{x:Str}(h:x∈tfR b):x∈tfR (.mk 4 n s [a,b]):=by
 rw[tfR,ψ (by decide),o9,o9,o9];exact n9 h (.inl (by decide))
theorem aBp (n:Nat) (h:n≤540000000000):(bQ n).length≤21:=by
 unfold bQ;have:=aB1 (n/26) (by omega);split
 ·simp
 ·simp;omega
theorem jB (l:List Str) (h:l.length≤540000000000):(bA l).length≤21:=aBp _ (le_trans (rV l) h)
end Go.Proofs.YtockgoadliilhaaGreatDoor
namespace Go.AM
open Go
theorem qA {α:Type}:∀(a b:List (Nat×α)) (i:Nat),look (a++b) i=match look a i with | some x=>some x | none=>look b i
 | [],_,_=>rfl
 | (k,x)::a,b,i=>by
  simp only[A9,look];cases Nat.beq i k
  ·simpa using qA a b i
  ·rfl
theorem iG:∀(a b:List (Nat×AObj)),dM (a++b)=dM a++dM b
 | [],_=>rfl
 | (k,o)::a,b=>by simp only[A9,dM,iG a b,Aw]
theorem eQ.app {α:Type}{p:α→Prop}:∀{a b:List α},eQ p a→eQ p b→eQ p (a++b)
 | [],_,_,h=>h
 | _::_,_,h,k=>⟨h.1,eQ.app h.2 k⟩
theorem fG:∀{l:List Nat},l.Nodup→distinct l=true
 | [],_=>rfl
 | x::l,h=>by
  obtain⟨h1,h2⟩:=Bq.1 h;simp only[distinct,fG h2,Bool.and_true];simpa using h1
theorem eE {a b:List Nat}(h:∀x∈a,x∈b):subset a b=true:=by
 simp only[subset,A3];exact fun x hx=>by simpa using h x hx
theorem aW.row {P:Program}{f:FuncId}{args:List V}{hin hin' hout hout':List (Nat×AObj)}{res:V}(h:aW P f args hin res hout) (h1:look hin'=look hin) (h2:look hout'=look hout):aW P f args hin' res hout':=by
 unfold aW at h ⊢;rw[h1,h2];exact h
section
variable {P:Program}{n:Nat}
theorem Sub.ownCellR {kf:List Nat}{st:St}{x k id tv:Nat}{cells:List R}(te es:Nat) (h:st.h x=some (.var tv cells)) (hk:cells[k]?=some (.c .nl)) (hid:st.h id=none):
  Sub kf ⟨st.e,upd (upd st.h id (some (.rarr te es []))) x (some (.var tv (cells.set k (.ra id 0 0 0)))),st.d⟩ st:=by
 intro G n S μ a w _ hs;obtain⟨hi,hE⟩:=hs.inv.emptyR te es hid;have Z:x≠id:=fun e=>by subst e;rw[h] at hid;cases hid
 have hx:upd st.h id (some (.rarr te es [])) x=some (.var tv cells):=by rw[b8 _ _ _ Z];exact h
 obtain⟨b,vs,g1,g2,g3,g4⟩:=hi.obj x _ hx
 have J:Evolve S (upd μ id none) (upd st.h id (some (.rarr te es []))) S (upd μ id none) (upd (upd st.h id (some (.rarr te es []))) x (some (.var tv (cells.set k (.ra id 0 0 0))))):=⟨S.le_refl,fun j y hj=>by
  by_cases I:j=x
  ·subst I;rw[hx] at hj;cases hj;exact⟨_,aJ _ _ _,by simp[AObj.succ]⟩
  ·exact⟨y,by rw[b8 _ _ _ I];exact hj,y.succ_refl rfl⟩⟩
 have hold:∀j y,upd (upd st.h id (some (.rarr te es []))) x (some (.var tv (cells.set k (.ra id 0 0 0)))) j=some y→∃y',upd st.h id (some (.rarr te es [])) j=some y':=fun j y hj=>by
  by_cases I:j=x
  ·subst I;exact⟨_,hx⟩
  ·rw[b8 _ _ _ I] at hj;exact⟨_,hj⟩
 refine⟨S,upd μ id none,⟨⟨hi.holds,fun j y hj=>?_,fun i j y y' b c c' N hj hm hm'=>?_,fun i y b c N hm=>?_,hi.frame,hi.sle,hi.sto,hi.evo.trans J,hi.fre⟩,hs.size,hs.defers.evolve (hE.trans J),fun s v e=>aY.evolve (hE.trans J) v _ (hs.env s v e)⟩⟩
 ·by_cases I:j=x
  ·subst I;have O:some (AObj.var tv (cells.set k (.ra id 0 0 0)))=some y:=by rw[←hj];exact(aJ _ _ _).symm
   cases O;refine⟨b,vs,g1,g2,?_,g4⟩;have h3:=aV.evolve J _ _ g3;obtain⟨u,hu,W⟩:=g3.get k _ hk;simp only[bB,Rep] at W;have hkl:k<cells.length:=(ε.1 hk).1
   have Y:cells.set k (.ra id 0 0 0)=bX cells k [.ra id 0 0 0]:=by
    unfold bX;rw[Ce,θ hkl];simp
   have hvl:=g3.length;have hvs:vs=bX vs k [u]:=by
    unfold bX;apply Bo;intro i;simp only[Bx,Aa,At,Aj,length_nil,Av,An];have hm:min k vs.length=k:=by omega
    rw[hm];by_cases c1:i<k
    ·simp[c1,show i<k+1 by omega]
    ·by_cases c2:i=k
     ·subst c2;simp[hu]
     ·simp[show ¬i<k+1 by omega,show k+1+(i-(k+1))=i by omega]
   rw[Y] at h3 ⊢;rw[hvs];refine oC h3 ?_;simp only[aV,bB];exact⟨u,[],rfl,⟨⟨_,_,_,W⟩,.inr ⟨te,es,[],by rw[b8 _ _ _ Z.symm];exact aJ _ _ _,le_refl _,fun _=>⟨le_refl _,.inl ⟨aJ _ _ _,rfl,W⟩⟩⟩⟩,rfl⟩
  ·have O:upd st.h id (some (.rarr te es [])) j=some y:=by rw[←hj];exact(b8 _ _ _ I).symm
   exact(hi.obj j y O).evolve J rfl fun _ _ _=>⟨rfl,fun _=>rfl,rfl⟩
 ·obtain⟨_,h1⟩:=hold _ _ N;obtain⟨_,h2⟩:=hold _ _ hj;exact hi.inj i j _ _ b c c' h1 h2 hm hm'
 ·obtain⟨_,h1⟩:=hold _ _ N;exact hi.own i _ b c h1 hm
end
theorem Ole.varS {t:Nat}{l l':List R}(h:l=l'):Ole (fun i=>i) (.var t l) (.var t l'):=by subst h;exact .var (R.renL_id _).symm
structure TF (F:List (Nat×AObj)):Prop where
 far:∀p∈F,800≤p.1
 nodup:(F.map (·.1)).Nodup
 arr:∀p∈F,∃te es l z,p.2=.arr te es l z
theorem TF.refs {F:List (Nat×AObj)}(h:TF F):dM F=[]:=by
 have key:∀l:List (Nat×AObj),(∀p∈l,∃te es l z,p.2=.arr te es l z)→dM l=[]:=by
  intro l
  induction l with
  | nil=>intro _;rfl
  | cons p l I=>
   intro h;obtain⟨te,es,l',z,hp⟩:=h p (by simp);show p.2.refs++dM l=[];rw[I fun q J=>h q (by simp[J]),hp];rfl
 exact key F h.arr
theorem TF.ok {F:List (Nat×AObj)}(h:TF F):∀p∈F,p.2.live=true∧p.2.plain=true:=fun p hp=>by
 obtain⟨te,es,l,z,e⟩:=h.arr p hp;rw[e];exact⟨rfl,rfl⟩
def mkt (el:List (Nat×V)) (hl F:List (Nat×AObj)):St:=⟨look el,fun i=>match look hl i with | some x=>some x | none=>bif Nat.blt i 800 then none else look F i,[]⟩
theorem gR {α:Type}:∀{l:List (Nat×α)}{i:Nat},i∉l.map (·.1)→look l i=none
 | [],_,_=>rfl
 | (k,x)::l,i,h=>by
  simp only[Al,Ao,not_or] at h;simp only[look];have:Nat.beq i k=false:=by
   cases hb:Nat.beq i k with
   | false=>rfl
   | true=>exact absurd (Ab hb) h.1
  rw[this];simpa using gR h.2
theorem TF.near {F:List (Nat×AObj)}(I:TF F) {i:Nat}(h:i<800):look F i=none:=gR fun hm=>by
 obtain⟨p,hp,rfl⟩:=Ad.1 hm;have:=I.far p hp;omega
theorem aGt {i k:Nat}(h:i<k):Nat.blt i k=true:=Nat.ble_eq_true_of_le h
theorem zT {i k:Nat}(h:k≤i):Nat.blt i k=false:=by
 cases hb:Nat.blt i k with
 | false=>rfl
 | true=>have:=Ap hb;omega
theorem aJs {el:List (Nat×V)}{hl F:List (Nat×AObj)}(I:TF F):mkt el hl F=mk el (hl++F):=by
 unfold mkt mk;congr 1;funext i;rw[qA];cases look hl i with
 | some x=>rfl
 | none=>
  by_cases h:i<800
  ·simp only[aGt h,I.near h,Bm]
  ·simp only[zT (Nat.le_of_not_lt h),Bn]
theorem oH {α:Type}:∀{l:List (Nat×α)},(l.map (·.1)).Nodup→∀p∈l,look l p.1=some p.2
 | (k,x)::l,h,p,hp=>by
  simp only[Al,Bq] at h;simp only[look];rcases Ao.1 hp with rfl | hp
  ·simp
  ·have I:p.1≠k:=fun e=>h.1 (e▸Ad.2 ⟨p,hp,rfl⟩)
   have:Nat.beq p.1 k=false:=by
    cases hb:Nat.beq p.1 k with
    | false=>rfl
    | true=>exact absurd (Ab hb) I
   rw[this];simpa using oH h.2 p hp
def FarEq (h:cO) (F:List (Nat×AObj)):Prop:=∀p∈F,h p.1=some p.2
theorem wC {hl:List (Nat×AObj)}(h:(hl.all fun p=>Nat.blt p.1 800)=true) {i:Nat}(hi:800≤i):look hl i=none:=gR fun hm=>by
 obtain⟨p,hp,rfl⟩:=Ad.1 hm;have:=Ap ((A3.1 h) p hp);omega
theorem FarEq.raw {hl F:List (Nat×AObj)}(I:TF F) (h:(hl.all fun p=>Nat.blt p.1 800)=true:=by rfl):FarEq (fun i=>match look hl i with | some x=>some x | none=>bif Nat.blt i 800 then none else look F i) F:=fun p hp=>by
 have h1:=I.far p hp;show(match look hl p.1 with | some x=>some x | none=>bif Nat.blt p.1 800 then none else look F p.1)=_;rw[wC h h1,zT h1];exact oH I.nodup p hp
theorem FarEq.mkt {el:List (Nat×V)}{hl F:List (Nat×AObj)}(I:TF F) (h:(hl.all fun p=>Nat.blt p.1 800)=true:=by rfl):FarEq (mkt el hl F).h F:=FarEq.raw I h
theorem FarEq.upd {h:cO}{F:List (Nat×AObj)}{k:Nat}{x:Option AObj}(I:TF F) (hf:FarEq h F) (hk:Nat.blt k 800=true:=by rfl):FarEq (upd h k x) F:=fun p hp=>by
 have h1:=I.far p hp;have:=Ap hk;rw[b8 _ _ _ (by omega)];exact hf p hp
theorem FarEq.updL {h:cO}{F:List (Nat×AObj)}{l:List (Nat×Option AObj)}(I:TF F) (hf:FarEq h F) (hk:(l.all fun p=>Nat.blt p.1 800)=true:=by rfl):FarEq (updL h l) F:=fun p hp=>by
 have h1:=I.far p hp;simp only[Go.AM.updL];have:look l p.1=none:=gR fun hm=>by
  obtain⟨q,J,e⟩:=Ad.1 hm;have:=Ap ((A3.1 hk) q J);omega
 rw[this];exact hf p hp
theorem tY {hl F:List (Nat×AObj)}(I:TF F) (h1:distinct (hl.map (·.1))=true) (h2:(hl.all fun p=>Nat.blt p.1 800)=true):((hl++F).map (·.1)).Nodup:=by
 rw[As,nodup_append];refine⟨dN h1,I.nodup,fun a ha b hb e=>?_⟩;subst e;obtain⟨p,hp,rfl⟩:=Ad.1 ha;obtain⟨q,J,e⟩:=Ad.1 hb;have:=Ap ((A3.1 h2) p hp);have:=I.far q J;omega
theorem nA {hl F:List (Nat×AObj)}(I:TF F) (h:∀x∈dM hl,x∈keys hl∨x∈keys F):∀x∈dM (hl++F),x∈keys (hl++F):=fun x hx=>by
 rw[iG,I.refs,A8] at hx;unfold keys at h ⊢;rw[As,ω];exact h x hx
theorem Sub.tailT {kf:List Nat}{I:St}{el:List (Nat×V)}{hl F:List (Nat×AObj)}(σ:Nat→Nat) (J:TF F) (he:eQ (fun p=>I.e p.1=some (p.2.ren σ)) el) (hh:eQ (fun p=>∃o,I.h (σ p.1)=some o∧Ole σ o p.2) hl)
  (N:∀p∈F,∃o,I.h (σ p.1)=some o∧Ole σ o p.2) (hd:I.d=[]) (h1:∀x∈nC el,x∈keys hl∨x∈keys F) (h2:∀x∈dM hl,x∈keys hl∨x∈keys F) (h3:((hl++F).map fun p=>σ p.1).Nodup) (h4:∀i∈kf,(i∈keys hl∨i∈keys F)∧σ i=i):
  Sub kf (mkt el hl F) I:=by
 rw[aJs J];refine Sub.list σ he (eQ.app hh (eQ.of N)) ?_;have hk:∀x,(x∈keys hl∨x∈keys F)→x∈(hl++F).map (·.1):=fun x hx=>by rw[As,ω];exact hx
 simp only[aUu,Ah];refine⟨⟨⟨⟨⟨eE fun x hx=>hk x (h1 x hx),eE (nA J h2)⟩,fG h3⟩,eE fun x hx=>hk x (h4 x hx).1⟩,A3.2 fun i hi=>by rw[(h4 i hi).2];simp⟩,by rw[hd];rfl⟩
theorem slT {kf:List Nat}{I:St}{el:List (Nat×V)}{hl F:List (Nat×AObj)}(J:TF F) (hf:FarEq I.h F) (h1:∀x∈nC el,x∈keys hl∨x∈keys F) (h2:∀x∈dM hl,x∈keys hl∨x∈keys F) (h4:∀i∈kf,i∈keys hl∨i∈keys F)
  (he:eQ (fun p=>I.e p.1=some (p.2.ren (fun i=>i))) el:=by repeat (first | exact trivial | refine⟨by first | rfl | exact congrArg some (V.ren_id _).symm,?_⟩))
  (hh:eQ (fun p=>∃o,I.h p.1=some o∧Ole (fun i=>i) o p.2) hl:=by repeat (first | exact trivial | refine⟨⟨_,rfl,by first | exact Go.AM.Ole.arr | exact Go.AM.Ole.var rfl | exact Go.AM.Ole.varS rfl | exact Go.AM.Ole.map | exact Go.AM.Ole.rarrS rfl⟩,?_⟩))
  (hd:I.d=[]:=by rfl) (h3:distinct (hl.map (·.1))=true:=by rfl) (h3':(hl.all fun p=>Nat.blt p.1 800)=true:=by rfl):Sub kf (mkt el hl F) I:=
 Sub.tailT (fun i=>i) J he hh (fun p hp=>⟨p.2,hf p hp,.refl_id (by intro e;have:=(J.ok p hp).1;rw[e] at this;cases this)⟩) hd h1 h2 (tY J h3 h3') fun i hi=>⟨h4 i hi,rfl⟩
section
variable {P:Program}{T:TT}
theorem sO {f:FuncId}{fn:Func}{c:Code}{n:Nat}{args:List V}{hl F hout:List (Nat×AObj)}{res:V}(I:TF F) (J:Tok P T) (hf:P.funcs[f]?=some fn) (hb:fn.body=some c) (hn:fn.ntmps=n) (hle:Nat.ble args.length n=true)
  (h:AWp none P n (keys (hl++F)) c (mkt (aUi 0 args) hl F) (fun ex st=>(ex=.normal∨ex=.ret)∧Fin T fn st (hl++F) res hout)):aW P f args (hl++F) res hout:=bT J hf hb hn hle (by rw[aJs I] at h;exact h)
theorem aBx {fn:Func}{st:St}{hin hl F:List (Nat×AObj)}{res:V}(I:TF F) (hf:FarEq st.h F) (hex:∃vs vs',ResV T st fn.results.toList vs∧Convs st.h vs vs'∧aQb vs'=res)
  (h1:∀x∈res.refs,x∈keys hl∨x∈keys F) (h2:∀x∈dM hl,x∈keys hl∨x∈keys F) (h4:∀i∈keys hin,i∈keys hl∨i∈keys F) (h5:∀p∈hin,p.2.plain=true)
  (hh:eQ (fun p=>∃o,st.h p.1=some o∧Ole (fun i=>i) o p.2) hl:=by repeat (first | exact trivial | refine⟨⟨_,rfl,by first | exact Go.AM.Ole.arr | exact Go.AM.Ole.var rfl | exact Go.AM.Ole.varS rfl | exact Go.AM.Ole.map | exact Go.AM.Ole.rarrS rfl⟩,?_⟩))
  (h3:distinct (hl.map (·.1))=true:=by rfl) (h3':(hl.all fun p=>Nat.blt p.1 800)=true:=by rfl) (h6:(hl.all fun p=>p.2.plain)=true:=by rfl):Fin T fn st hin res (hl++F):=by
 refine⟨hex,eQ.app hh (eQ.of fun p hp=>⟨p.2,hf p hp,.refl_id (by intro e;have:=(I.ok p hp).1;rw[e] at this;cases this)⟩),?_⟩;have hk:∀x,(x∈keys hl∨x∈keys F)→x∈keys (hl++F):=fun x hx=>by unfold keys at *;rw[As,ω];exact hx
 simp only[Ah];refine⟨⟨⟨⟨⟨eE fun x hx=>hk x (h1 x hx),eE (nA I h2)⟩,fG (tY I h3 h3')⟩,eE fun x hx=>hk x (h4 x hx)⟩,A3.2 h5⟩,?_⟩;rw[all_append,Ah];exact⟨h6,A3.2 fun p hp=>(I.ok p hp).2⟩
end
theorem qE {h:cO}{hl F:List (Nat×AObj)}(I:TF F):updL h (outs (hl++F))=fun i=>bif Nat.blt i 800 then updL h (outs hl) i else updL h (outs (hl++F)) i:=by
 funext i;by_cases hi:i<800
 ·rw[aGt hi,Bm,kF,kF,qA,I.near hi];cases look hl i<;>rfl
 ·rw[zT (Nat.le_of_not_lt hi),Bn]
theorem FarEq.outs {h:cO}{hl F:List (Nat×AObj)}(I:TF F) (hk:(hl.all fun p=>Nat.blt p.1 800)=true:=by rfl):FarEq (Go.AM.updL h (Go.AM.outs (hl++F))) F:=fun p hp=>by
 rw[kF,qA,wC hk (I.far p hp),oH I.nodup p hp]
theorem FarEq.bif {h I:cO}{F:List (Nat×AObj)}(J:TF F) (hf:FarEq h F):FarEq (fun i=>bif Nat.blt i 800 then I i else h i) F:=fun p hp=>by
 show(bif Nat.blt p.1 800 then I p.1 else h p.1)=_;rw[zT (J.far p hp)];exact hf p hp
theorem n6 {args:List V}{hl F:List (Nat×AObj)}(I:TF F) (h1:∀x∈V.refsL args,x∈keys hl∨x∈keys F) (h2:∀x∈dM hl,x∈keys hl∨x∈keys F) (h3:(hl.all fun p=>p.2.live)=true:=by rfl):k9 args (hl++F)=true:=by
 have hk:∀x,(x∈keys hl∨x∈keys F)→x∈keys (hl++F):=fun x hx=>by unfold keys at *;rw[As,ω];exact hx
 simp only[k9,Ah];refine⟨⟨eE fun x hx=>hk x (h1 x hx),eE (nA I h2)⟩,?_⟩;rw[all_append,Ah];exact⟨h3,A3.2 fun p hp=>(I.ok p hp).1⟩
theorem FarEq.all {h:cO}{F:List (Nat×AObj)}(hf:FarEq h F):eQ (fun p=>h p.1=some p.2) F:=eQ.of hf
theorem aW.toR {P:Program}{f:FuncId}{args:List V}{id te es n:Nat}{elems:List (List C)}(h:aW P f args [] (.one (.hs id 0 n n)) [(id,.arr te es elems 0)]):aW P f args [] (.one (.ra id 0 n n)) [(id,.rarr te es (elems.map (·.map R.c)))]:=by
 intro S μ w vals W hv;refine Calls.mono (h S μ w vals W hv) ?_;rintro e w' ⟨S',μ',v,h1,h2,h3⟩;have key:∀{o:AObj} {j:Nat} {x:AObj},look [(id,o)] j=some x→j=id∧x=o:=by
  intro o j x hj;simp only[look] at hj;split at hj
  ·rename_i hb;cases hj;exact⟨Ab hb,rfl⟩
  ·cases hj
 have hid:∀o:AObj,look [(id,o)] id=some o:=fun o=>by simp[look]
 have J:(elems.map (·.map R.c)).flatten=elems.flatten.map R.c:=by rw[List.map_flatten]
 refine⟨S',μ',v,h1,⟨h2.holds,fun j o hj=>?_,fun i j o o' b c c' hi hj _ _=>?_,fun i o b c hi hm=>?_,h2.frame,h2.sle,h2.sto,⟨h2.evo.le,fun j o hj=>by cases hj⟩,h2.fre⟩,?_⟩
 ·obtain⟨rfl,rfl⟩:=key hj;obtain⟨g0,g⟩:=h2.obj j _ (hid _);refine⟨fun r Y=>?_,?_⟩
  ·obtain⟨r',N,rfl⟩:=Ad.1 Y;rw[ξ];exact g0 r' N
  ·rcases g with⟨g1,g2⟩ | ⟨b,base,cap,vs,g1,g2,g3,g4,g5,g6,g7,g8,g9⟩
   ·exact .inl ⟨g1,by rw[g2];rfl⟩
   ·refine .inr ⟨b,base,cap,vs,g1,g2,g3,by rw[ξ];exact g4,g5,?_,g7 rfl⟩;rw[J,ξ];exact g6.toR
 ·rw[(key hi).1,(key hj).1]
 ·obtain⟨rfl,rfl⟩:=key hi;exact h2.own i _ b c (hid _) hm
 ·simp only[aY,bB] at h3 ⊢;obtain⟨Z,k | ⟨te',es',el',fz',O,k2,k3⟩⟩:=h3
  ·rw[hid] at k;cases k
  ·rw[hid] at O;cases O;refine⟨Z,.inr ⟨te,es,_,hid _,by rw[ξ];exact k2,fun e=>?_⟩⟩;rw[ξ] at e;obtain⟨q1,I⟩:=k3 e;refine⟨q1,?_⟩;rcases I with⟨I,q3,q4⟩ | I
   ·exact .inl ⟨I,by rw[q3];rfl,q4⟩
   ·exact .inr I
structure GW (G F:List (Nat×AObj)):Prop where
 tf:TF F
 refs:∀x∈dM G,x∈keys G∨x∈keys F
 near:(G.all fun p=>Nat.blt p.1 800)=true
 plain:(G.all fun p=>p.2.plain)=true
theorem gH {α:Type}{a b:List (Nat×α)}{x:Nat}:x∈keys (a++b)↔x∈keys a∨x∈keys b:=by unfold keys;rw[As,ω]
theorem GW.kf {G F:List (Nat×AObj)}:∀i∈keys (G++F),i∈keys G∨i∈keys F:=fun _ h=>gH.1 h
def Kn (ex G F:List (Nat×AObj)) (x:Nat):Prop:=x∈keys ex∨x∈keys G∨x∈keys F
theorem Kn.of {l:List Nat}{ex G F:List (Nat×AObj)}(h:subset l (keys ex++keys G)=true):∀x∈l,Kn ex G F x:=fun x hx=>by
 rcases ω.1 (bL h x hx) with h | h
 ·exact .inl h
 ·exact .inr (.inl h)
theorem Kn.app {a b:List Nat}{ex G F:List (Nat×AObj)}(h:∀x∈a,Kn ex G F x) (k:∀x∈b,Kn ex G F x):∀x∈a++b,Kn ex G F x:=fun x hx=>(ω.1 hx).elim (h x) (k x)
def GF (G F:List (Nat×AObj)) (l:List Nat):Prop:=∀x∈l,x∈keys G∨x∈keys F
theorem Kn.gf {l:List Nat}{ex G F:List (Nat×AObj)}(h:GF G F l):∀x∈l,Kn ex G F x:=fun x hx=>.inr (h x hx)
theorem GF.app {G F:List (Nat×AObj)}{a b:List Nat}(h:GF G F a) (k:GF G F b):GF G F (a++b):=fun x hx=>(ω.1 hx).elim (h x) (k x)
theorem Kn.nil {ex G F:List (Nat×AObj)}:∀x∈([]:List Nat),Kn ex G F x:=fun _ h=>by cases h
theorem yF {ex:List (Nat×AObj)}{p:Nat→Prop}(h:eQ (fun q=>∀x∈q.2.refs,p x) ex):∀x∈dM ex,p x:=by
 induction ex with
 | nil=>intro x hx;cases hx
 | cons q l I=>
  intro x hx;rcases ω.1 (show x∈q.2.refs++dM l from hx) with hx | hx
  ·exact h.1 x hx
  ·exact I h.2 x hx
theorem Kn.split {ex G F:List (Nat×AObj)}{x:Nat}(h:Kn ex G F x):x∈keys (ex++G)∨x∈keys F:=by
 rcases h with h | h | h
 ·exact .inl (gH.2 (.inl h))
 ·exact .inl (gH.2 (.inr h))
 ·exact .inr h
theorem GW.all {ex G F:List (Nat×AObj)}(W:GW G F) (h2:eQ (fun q=>∀x∈q.2.refs,Kn ex G F x) ex):∀x∈dM (ex++G),x∈keys (ex++G)∨x∈keys F:=fun x hx=>by
 rw[iG] at hx;rcases ω.1 hx with hx | hx
 ·exact(yF h2 x hx).split
 ·exact(W.refs x hx).imp (fun h=>gH.2 (.inr h)) id
theorem slG {kf:List Nat}{I:St}{el:List (Nat×V)}{ex G F:List (Nat×AObj)}(W:GW G F)
  (h4:∀i∈kf,i∈keys G∨i∈keys F:=by exact Go.AM.GW.kf)
  (hf:FarEq I.h F:=by repeat (first | exact Go.AM.FarEq.raw (by assumption) | (refine Go.AM.FarEq.updL (by assumption) ?_) | (refine Go.AM.FarEq.upd (by assumption) ?_) | (refine Go.AM.FarEq.hfz (by assumption) ?_)))
  (h1:∀x∈nC el,Kn ex G F x:=by exact Go.AM.Kn.of rfl)
  (h2:eQ (fun q=>∀x∈q.2.refs,Kn ex G F x) ex:=by repeat (first | exact trivial | refine⟨by first | exact Go.AM.Kn.of rfl | exact Go.AM.Kn.gf (by assumption),?_⟩))
  (he:eQ (fun p=>I.e p.1=some (p.2.ren (fun i=>i))) el:=by repeat (first | exact trivial | refine⟨by first | rfl | exact congrArg some (V.ren_id _).symm,?_⟩))
  (hh:eQ (fun p=>∃o,I.h p.1=some o∧Ole (fun i=>i) o p.2) (ex++G):=by repeat (first | exact trivial | refine⟨⟨_,rfl,by first | exact Go.AM.Ole.arr | exact Go.AM.Ole.var rfl | exact Go.AM.Ole.varS rfl | exact Go.AM.Ole.map | exact Go.AM.Ole.rarrS rfl⟩,?_⟩))
  (hd:I.d=[]:=by rfl) (h3:distinct ((ex++G).map (·.1))=true:=by rfl) (h3':((ex++G).all fun p=>Nat.blt p.1 800)=true:=by rfl):Sub kf (mkt el (ex++G) F) I:=
 slT W.tf hf (fun x hx=>(h1 x hx).split) (W.all h2) (fun i hi=>(h4 i hi).imp (fun h=>gH.2 (.inr h)) id) he hh hd h3 h3'
theorem rtG {T:TT}{fn:Func}{st:St}{G F:List (Nat×AObj)}{res:V}{t:Nat}(W:GW G F) (I:fn.results.toList=[.tmp t]:=by rfl) (hv:st.e t=some res:=by rfl)
  (hf:FarEq st.h F:=by repeat (first | exact Go.AM.FarEq.raw (by assumption) | (refine Go.AM.FarEq.updL (by assumption) ?_) | (refine Go.AM.FarEq.upd (by assumption) ?_) | (refine Go.AM.FarEq.hfz (by assumption) ?_)))
  (h1:∀x∈res.refs,Kn [] G F x:=by exact Go.AM.Kn.of rfl)
  (hh:eQ (fun p=>∃o,st.h p.1=some o∧Ole (fun i=>i) o p.2) G:=by repeat (first | exact trivial | refine⟨⟨_,rfl,by first | exact Go.AM.Ole.arr | exact Go.AM.Ole.var rfl | exact Go.AM.Ole.varS rfl | exact Go.AM.Ole.map | exact Go.AM.Ole.rarrS rfl⟩,?_⟩))
  (h3:distinct (G.map (·.1))=true:=by rfl):(Exit.ret=.normal∨Exit.ret=.ret)∧Fin T fn st (G++F) res (G++F):=by
 refine⟨.inr rfl,aBx W.tf hf ⟨[res],[res],by rw[I];exact .tmp hv .nil,.cons .refl .nil,rfl⟩ (fun x hx=>(h1 x hx).split) (fun x hx=>W.refs x hx) GW.kf (fun p hp=>?_) hh h3 W.near W.plain⟩;rcases ω.1 hp with hp | hp
 ·exact(A3.1 W.plain) p hp
 ·exact(W.tf.ok p hp).2
theorem kix {tr:Tr}{P:Program}{n:Nat}{ops:Array Oper}{draw:Bool}{k d:Nat}{st:St}{pre:REs}{Q:St→Prop}{o:Oper}{t te:TypeId}{i J:TI}{x y:Operand}{id len sz j es N fz:Nat}{kk:IntKind}{elems:List (List C)}(hT:Tok P tr.flat)
  (hh:st.h id=some (.arr N es elems fz)) (hx:opv st x=some (.one (.hs id 0 len sz))) (O:sz=elems.length) (W:j<len)
  (hk:kE P n ops draw (k+1) ⟨upd st.e d (some (.one (.ep id j 0 sz))),st.h,st.d⟩ ((⟨opr x++opr y,[id]⟩,⟨some (d,some (.one (.ep id j 0 sz))),[]⟩)::pre) Q)
  (hw:tr.wf=true) (ho:ops[k]?=some o:=by rfl) (hg:o.guard=none:=by rfl) (Y:o.op=.indexAddr t x y:=by rfl) (hd:o.dst=some d:=by rfl) (Z:Nat.blt d n=true:=by rfl)
  (hi:tr.get t=some i:=by rfl) (aa:i.k=.sl te:=by rfl) (ab:tr.get te=some J:=by rfl) (ac:J.size=es:=by rfl) (hy:opv st y=some (I kk (j:Int)):=by rfl):kE P n ops draw k st pre Q:=by
 have h:=tM (P:=P) (n:=n) hT Y hd (lI Z) (Tr.get_ok hw hi) aa (Tr.get_ok hw ab) ac hx hh O hy rfl W;rw[Bd] at h;exact k_ (g_ ho hg h) hk
theorem a0k {tr:Tr}{P:Program}{n:Nat}{ops:Array Oper}{draw:Bool}{k d:Nat}{st:St}{pre:REs}{Q:St→Prop}{o:Oper}{t te:TypeId}{i:TI}{x:Operand}{id off len sz es J fz:Nat}{elems:List (List C)}(Z:Tok P tr.flat)
  (hh:st.h id=some (.arr J es elems fz)) (hx:opv st x=some (.one (.hs id off len sz))) (N:sz=elems.length)
  (hk:kE P n ops draw (k+1) ⟨upd st.e d (some (I .i64 (len:Int))),st.h,st.d⟩ ((⟨opr x,[id]⟩,⟨some (d,some (I .i64 (len:Int))),[]⟩)::pre) Q)
  (hw:tr.wf=true) (ho:ops[k]?=some o:=by rfl) (hg:o.guard=none:=by rfl) (O:o.op=.call { callee:=.builtin .len,args:= #[x],argTypes:= #[t] }:=by rfl) (hd:o.dst=some d:=by rfl) (W:Nat.blt d n=true:=by rfl)
  (hi:tr.get t=some i:=by rfl) (Y:i.k=.sl te:=by rfl):kE P n ops draw k st pre Q:=
 k_ (g_ ho hg (aDv (P:=P) (n:=n) Z O hd (lI W) (Tr.get_ok hw hi) Y hx hh N)) hk
def fzH (id:Nat) (z:Fz):List (Nat×AObj)→List (Nat×AObj)
 | []=>[]
 | (k,o)::l=>(k,o.fz id z)::fzH id z l
theorem aEm {id:Nat}{z:Fz}:∀{l:List (Nat×V)}{t:Nat},look (fzE id z l) t=(look l t).map (V.fz id z)
 | [],_=>rfl
 | (k,v)::l,t=>by
  simp only[fzE,look];cases Nat.beq t k
  ·simpa using aEm (l:=l) (t:=t)
  ·rfl
theorem wN {id:Nat}{z:Fz}:∀{l:List (Nat×AObj)}{t:Nat},look (fzH id z l) t=(look l t).map (AObj.fz id z)
 | [],_=>rfl
 | (k,v)::l,t=>by
  simp only[fzH,look];cases Nat.beq t k
  ·simpa using wN (l:=l) (t:=t)
  ·rfl
section
variable {id n es:Nat}{l:List R}
mutual
theorem R.fz_far:∀(r:R),id∉r.refs→r.fz id (.ra n es l)=r
 | .c _,_=>rfl
 | .hs ..,_=>rfl
 | .tl ..,_=>rfl
 | .vp ..,_=>rfl
 | .ep ..,_=>rfl
 | .mr _,_=>rfl
 | .clo f caps,h=>by simp only[R.fz,R.fzL_far caps (by simpa only[R.refs] using h)]
 | .mth f x,h=>by simp only[R.fz,R.fz_far x (by simpa only[R.refs] using h)]
 | .yl _,_=>rfl
 | .ra j off len sz,h=>by
  have hj:j≠id:=fun e=>h (by simp[R.refs,e])
  have hb:Nat.beq j id=false:=by
   cases hb:Nat.beq j id with
   | false=>rfl
   | true=>exact absurd (Ab hb) hj
  simp[R.fz,hb]
 | .rp j i fo sz,h=>by
  have hj:j≠id:=fun e=>h (by simp[R.refs,e])
  have hb:Nat.beq j id=false:=by
   cases hb:Nat.beq j id with
   | false=>rfl
   | true=>exact absurd (Ab hb) hj
  simp[R.fz,hb]
 | .ras m e r,h=>by simp only[R.fz,R.fzL_far r (by simpa only[R.refs] using h)]
 | .pas r,h=>by simp only[R.fz,R.fzL_far r (by simpa only[R.refs] using h)]
theorem R.fzL_far:∀(r:List R),id∉R.refsL r→R.fzL id (.ra n es l) r=r
 | [],_=>rfl
 | r::rs,h=>by
  simp only[R.refsL,ω,not_or] at h;simp only[R.fzL,R.fz_far r h.1,R.fzL_far rs h.2]
end
theorem rS:∀(r:List (List R)),id∉c7 r→fzR id (.ra n es l) r=r
 | [],_=>rfl
 | r::rs,h=>by
  simp only[c7,ω,not_or] at h;simp only[fzR,R.fzL_far r h.1,rS rs h.2]
theorem aO3 {m:Nat}(h:m=n):R.fz id (.ra n es l) (.ra id 0 m m)=.ras n es l:=by subst h;simp[R.fz]
end
theorem Sub.fraT {kf:List Nat}{el:List (Nat×V)}{rest F:List (Nat×AObj)}{id te es:Nat}{rows:List (List R)}(hF:TF F) (W:id∉kf) (Y:id∉c7 rows) (J:Nat.blt id 800=true:=by rfl) (Z:distinct (id::rest.map (·.1))=true:=by rfl):
  Sub kf (mkt (fzE id (.ra rows.length es rows.flatten) el) (fzH id (.ra rows.length es rows.flatten) rest) F) (mkt el ((id,.rarr te es rows)::rest) F):=by
 have N:id∉R.refsL rows.flatten:=by
  have key:∀l:List (List R),R.refsL l.flatten=c7 l:=by
   intro l
   induction l with
   | nil=>rfl
   | cons r l ih=>rw[Bi,R.refsL_append,ih];rfl
  rw[key];exact Y
 have h:=Sub.fra (kf:=kf) (st:=mkt el ((id,.rarr te es rows)::rest) F) (id:=id) (te:=te) (es:=es) (elems:=rows) (by
  show(match look ((id,AObj.rarr te es rows)::rest) id with | some x=>some x | none=>_)=_
  rw[dG]) W (R.fzL_far _ N) N
 have e:(⟨fun t=>((mkt el ((id,.rarr te es rows)::rest) F).e t).map (V.fz id (.ra rows.length es rows.flatten)),hfz id (.ra rows.length es rows.flatten) (mkt el ((id,.rarr te es rows)::rest) F).h,(mkt el ((id,.rarr te es rows)::rest) F).d⟩:St)=
   mkt (fzE id (.ra rows.length es rows.flatten) el) (fzH id (.ra rows.length es rows.flatten) rest) F:=by
  unfold mkt;congr 1
  ·funext t;exact aEm.symm
  ·funext j;have I:=dN Z;simp only[Bq] at I;have hid:=Ap J;by_cases hj:j=id
   ·subst hj;rw[aQ5,wN,gR I.1,Cw];simp only[J,Bm]
   ·rw[jA hj];show Option.map _ (match look ((id,AObj.rarr te es rows)::rest) j with | some x=>some x | none=>bif Nat.blt j 800 then none else look F j)=_;rw[dQ hj,wN];cases look rest j with
    | some x=>rfl
    | none=>
     simp only[Cw];by_cases h8:j<800
     ·simp only[aGt h8,Bm,Cw]
     ·simp only[zT (Nat.le_of_not_lt h8),Bn];cases hl:look F j with
      | none=>rfl
      | some o=>
       obtain⟨te',es',l',z',O⟩:=hF.arr _ (c9 hl);have O:o=_:=O;subst O;rfl
 rw[e] at h;exact h
end Go.AM
namespace Go.Proofs.YtockgoadliilhaaGreatDoor
open Go Go.AM
set_option maxRecDepth 20000
def dU (f n:Int) (s:Str) (t:Ty) (nk nb na:Nat):List R:=[.c (.int .i64 f),.c (.int .i64 n),.c (.str s),.c (.int .i64 t.form),.c (.int .i64 t.n),.c (.str t.name),.c (.sl 4 (gC t)),.hs 702 0 nk nk,.hs 701 0 nb nb,.ra 703 0 na na]
def dL (k:Nat) (a:Alt):List R:=[.c (.int .i64 a.form),.c (.int .i64 a.n),.c (.str a.name),.hs (k+800) 0 a.vars.length a.vars.length]++(aB a.body).map R.c
def aT:Nat→List Alt→List (List R)
 | _,[]=>[]
 | k,a::l=>dL k a::aT (k+1) l
def fam:Nat→List Alt→List (Nat×AObj)
 | _,[]=>[]
 | k,a::l=>(k+800,.arr 9 1 (a.vars.map bO) 0)::fam (k+1) l
theorem mF:∀{l:List Alt}{k i:Nat}{a:Alt},l[i]?=some a→(aT k l)[i]?=some (dL (k+i) a)
 | b::l,k,0,a,h=>by simp at h;subst h;rfl
 | b::l,k,i+1,a,h=>by
  simp only[aT,Bj];rw[mF (by simpa using h),show k+1+i=k+(i+1) by omega]
theorem dS:∀{l:List Alt}{k:Nat},(aT k l).length=l.length
 | [],_=>rfl
 | _::l,k=>by simp[aT,dS (l:=l)]
theorem zE:∀{l:List Alt}{k i:Nat}{a:Alt},l[i]?=some a→(k+i+800,AObj.arr 9 1 (a.vars.map bO) 0)∈fam k l
 | b::l,k,0,a,h=>by simp at h;subst h;exact ζ
 | b::l,k,i+1,a,h=>by
  have:=zE (l:=l) (k:=k+1) (by simpa using h);rw[show k+1+i=k+(i+1) by omega] at this;exact κ _ this
theorem n5:∀{l:List Alt}{k:Nat}{p:Nat×AObj},p∈fam k l→∃i a,l[i]?=some a∧p=(k+i+800,AObj.arr 9 1 (a.vars.map bO) 0)
 | b::l,k,p,h=>by
  rcases Ao.1 h with rfl | h
  ·exact⟨0,b,rfl,rfl⟩
  ·obtain⟨i,a,h1,h2⟩:=n5 h;exact⟨i+1,a,h1,by rw[h2,show k+1+i=k+(i+1) by omega]⟩
theorem kZ:∀{l:List Alt}{k:Nat},((fam k l).map (·.1)).Nodup
 | [],_=>nodup_nil
 | a::l,k=>by
  simp only[fam,Al];refine Bq.2 ⟨fun h=>?_,kZ⟩;obtain⟨p,hp,e⟩:=Ad.1 h;obtain⟨i,b,_,rfl⟩:=n5 hp;simp only at e;omega
theorem fD {l:List Alt}{k:Nat}:TF (fam k l):=⟨fun p hp=>by obtain⟨i,a,_,rfl⟩:=n5 hp;simp only;omega,kZ,fun p hp=>by obtain⟨i,a,_,rfl⟩:=n5 hp;exact⟨_,_,_,_,rfl⟩⟩
theorem aK4 {l:List Alt}{k i:Nat}(h:i<l.length):k+i+800∈keys (fam k l):=by
 obtain⟨a,ha⟩:=aK h;exact Ad.2 ⟨_,zE ha,rfl⟩
theorem pA {k:Nat}{a:Alt}{x:Nat}(h:x∈R.refsL (dL k a)):x=k+800:=by
 unfold dL aB at h;simpa [R.refsL,R.refs] using h
theorem cV:∀{l:List Alt}{k:Nat},∀x∈c7 (aT k l),x∈keys (fam k l)
 | [],_,x,h=>by simp[aT,c7] at h
 | a::l,k,x,h=>by
  rcases ω.1 (show x∈R.refsL (dL k a)++c7 (aT (k+1) l) from h) with h | h
  ·rw[pA h];exact ζ
  ·exact κ _ (cV x h)
def gHl (f n:Int) (s:Str) (t:Ty) (ks:List Core) (bs:List Bind) (al:List Alt):List (Nat×AObj):=
 [(700,.var 37 (dU f n s t ks.length bs.length al.length)),(701,.arr 58 15 (aR bs) 0),(702,.arr 37 10 (aQ ks) 0),(703,.rarr 88 14 (aT 0 al))]
theorem qC {f n:Int}{s:Str}{t:Ty}{ks:List Core}{bs:List Bind}{al:List Alt}:∀x∈dM (gHl f n s t ks bs al),x∈keys (gHl f n s t ks bs al)∨x∈keys (fam 0 al):=fun x hx=>by
 simp only[gHl,dM,AObj.refs,dU,R.refsL,R.refs,Be,A8,ω,Ao,not_mem_nil,or_false,false_or] at hx;rcases hx with(rfl | rfl | rfl) | hx
 ·exact .inl (by simp[gHl,keys])
 ·exact .inl (by simp[gHl,keys])
 ·exact .inl (by simp[gHl,keys])
 ·exact .inr (cV x hx)
theorem gW {f n:Int}{s:Str}{t:Ty}{ks:List Core}{bs:List Bind}{al:List Alt}:GW (gHl f n s t ks bs al) (fam 0 al):=⟨fD,qC,rfl,rfl⟩
def gNm:Bool→List (List R)
 | true=>[[.vp 700 2]]
 | false=>[]
def gPo (rows:List (List R)):AObj:=.rarr 118 1 rows
def gNo (rows:List (List R)):AObj:=.rarr 158 1 rows
def rgR (f:Nat→List R) (k:Nat):List (List R):=(List.range k).map f
theorem pU (f:Nat→List R) (k:Nat):rgR f (k+1)=rgR f k++[f k]:=by unfold rgR;rw[List.range_succ,As];rfl
theorem fP (f:Nat→List R) (k:Nat):(rgR f k).length=k:=by simp[rgR]
theorem lR {f:Nat→List R}{L:Nat→Prop}(h:∀j,∀x∈R.refsL (f j),L x) (k:Nat):∀x∈c7 (rgR f k),L x:=by
 have key:∀rows:List (List R),(∀r∈rows,∀x∈R.refsL r,L x)→∀x∈c7 rows,L x:=by
  intro rows
  induction rows with
  | nil=>intro _ x hx;simp[c7] at hx
  | cons r rows J=>
   intro I x hx;rcases ω.1 (show x∈R.refsL r++c7 rows from hx) with hx | hx
   ·exact I r ζ x hx
   ·exact J (fun q N=>I q (κ _ N)) x hx
 refine key _ fun r I=>?_
 obtain⟨j,_,rfl⟩:=Ad.1 I;exact h j
def nR (b:Bool) (nb i:Nat):List (List R):=gNm b++rgR (fun j=>[.ep 701 j 0 nb]) i
def pR (nk nb i:Nat):List (List R):=rgR (fun j=>[.ep 702 j 0 nk]) nk++rgR (fun j=>[.ep 701 j 5 nb]) i
def vR (k nv i:Nat):List (List R):=rgR (fun j=>[.ep (k+800) j 0 nv]) i
def lM (na k:Nat) (a:Alt):List R:=[.ras (vR k a.vars.length a.vars.length).length 1 (vR k a.vars.length a.vars.length).flatten,.ras 1 1 [.rp 703 k 4 na]]
def aFn (na:Nat):Nat→List Alt→List (List R)
 | _,[]=>[]
 | k,a::l=>lM na k a::aFn na (k+1) l
def oI (b:Bool) (nk nb:Nat):List R:=[.ras (nR b nb nb).length 1 (nR b nb nb).flatten,.ras (pR nk nb nb).length 1 (pR nk nb nb).flatten]
def bY (b:Bool) (nk nb na:Nat) (l:List Alt):List (List R):=oI b nk nb::aFn na 0 l
theorem xL {I:Nat}:∀{l:List Alt}{k:Nat},(aFn I k l).length=l.length
 | [],_=>rfl
 | _::l,k=>by simp[aFn,xL (l:=l)]
theorem aAf {I:Nat}:∀{l:List Alt}{k i:Nat}{a:Alt},l[i]?=some a→aFn I k (l.take (i+1))=aFn I k (l.take i)++[lM I (k+i) a]
 | b::l,k,0,a,h=>by simp at h;subst h;simp[aFn]
 | b::l,k,i+1,a,h=>by
  simp only[Az,aFn,A9];rw[aAf (l:=l) (k:=k+1) (by simpa using h),show k+1+i=k+(i+1) by omega]
theorem aMj {I:Nat}:∀{l:List Alt}{k i:Nat}{a:Alt},l[i]?=some a→(aFn I k l)[i]?=some (lM I (k+i) a)
 | b::l,k,0,a,h=>by simp at h;subst h;rfl
 | b::l,k,i+1,a,h=>by
  simp only[aFn,Bj];rw[aMj (by simpa using h),show k+1+i=k+(i+1) by omega]
theorem dB:∀{rows:List (List R)},R.refsL rows.flatten=c7 rows
 | []=>rfl
 | r::rows=>by
  rw[Bi,R.refsL_append,dB];rfl
theorem aO0 {G F:List (Nat×AObj)}{f:Nat→List R}(h:∀j,GF G F (R.refsL (f j))) (k:Nat):GF G F (c7 (rgR f k)):=lR h k
theorem j7:∀(a b:List (List R)),c7 (a++b)=c7 a++c7 b
 | [],_=>rfl
 | r::a,b=>by simp only[A9,c7,j7 a b,Aw]
section
variable {f n:Int}{s:Str}{t:Ty}{ks:List Core}{bs:List Bind}{al:List Alt}
abbrev gfo (f n:Int) (s:Str) (t:Ty) (ks:List Core) (bs:List Bind) (al:List Alt) (l:List Nat):Prop:=GF (gHl f n s t ks bs al) (fam 0 al) l
theorem aZ9 (nk i:Nat):gfo f n s t ks bs al (c7 (rgR (fun j=>[.ep 702 j 0 nk]) i)):=aO0 (fun j x hx=>.inl (by
 have:x=702:=by simpa [R.refsL,R.refs] using hx
 subst this;simp[gHl,keys])) i
theorem aRa (b:Bool) (nb i:Nat):gfo f n s t ks bs al (c7 (nR b nb i)):=by
 unfold nR;rw[j7];refine GF.app ?_ (aO0 (fun j x hx=>.inl ?_) i)
 ·cases b
  ·exact fun x hx=>by simp[gNm,c7] at hx
  ·intro x hx;have:x=700:=by simpa [gNm,c7,R.refsL,R.refs] using hx
   subst this;exact .inl (by simp[gHl,keys])
 ·have:x=701:=by simpa [R.refsL,R.refs] using hx
  subst this;simp[gHl,keys]
theorem aM7 (nk nb i:Nat):gfo f n s t ks bs al (c7 (pR nk nb i)):=by
 unfold pR;rw[j7];refine GF.app (aZ9 _ _) (aO0 (fun j x hx=>.inl ?_) i);have:x=701:=by simpa [R.refsL,R.refs] using hx
 subst this;simp[gHl,keys]
theorem aYi {k:Nat}(hk:k<al.length) (nv i:Nat):gfo f n s t ks bs al (c7 (vR k nv i)):=by
 unfold vR;refine aO0 (fun j x hx=>.inr ?_) i;have:x=k+800:=by simpa [R.refsL,R.refs] using hx
 subst this;have:=aK4 (k:=0) hk;rwa [Bd] at this
theorem aW5 {k:Nat}(hk:k<al.length) (a:Alt):gfo f n s t ks bs al (R.refsL (lM al.length k a)):=by
 unfold lM;simp only[R.refsL,R.refs,dB,A8];refine GF.app (aYi hk _ _) fun x hx=>.inl ?_
 have:x=703:=by simpa using hx
 subst this;simp[gHl,keys]
theorem aKm:∀{l:List Alt}{k:Nat},k+l.length≤al.length→gfo f n s t ks bs al (c7 (aFn al.length k l))
 | [],_,_=>fun x hx=>by simp[aFn,c7] at hx
 | a::l,k,h=>by
  simp only[Aj] at h;exact GF.app (aW5 (by omega) a) (aKm (by omega))
theorem mY (b:Bool) (i:Nat):gfo f n s t ks bs al (c7 (bY b ks.length bs.length al.length (al.take i))):=by
 unfold bY;refine GF.app ?_ (aKm (by simp;omega));unfold oI;simp only[R.refsL,R.refs,dB,A8];exact GF.app (aRa _ _ _) (aM7 _ _ _)
end
theorem j2 {f n:Int}{s:Str}{t:Ty}{ks:List Core}{bs:List Bind}{al:List Alt}{l:List Nat}(h:gfo f n s t ks bs al l) {id:Nat}(h1:703<id) (h2:id<800):id∉l:=fun hx=>by
 rcases h id hx with h | h
 ·have:id=700∨id=701∨id=702∨id=703:=by simpa [gHl,keys] using h
  omega
 ·obtain⟨p,hp,e⟩:=Ad.1 h;have:=fD.far p hp;omega
theorem aW8 {f n:Int}{s:Str}{t:Ty}{ks:List Core}{bs:List Bind}{al:List Alt}{id:Nat}(h1:703<id) (h2:id<800):id∉keys (gHl f n s t ks bs al++fam 0 al):=j2 (fun x hx=>gH.1 hx) h1 h2
theorem rT {f n:Int}{s:Str}{t:Ty}{ks:List Core}{bs:List Bind}{al:List Alt}{id m es:Nat}{l:List R}(h1:703<id) (h2:id<800):fzH id (.ra m es l) (gHl f n s t ks bs al)=gHl f n s t ks bs al:=by
 have hb:Nat.beq 703 id=false:=by
  cases hb:Nat.beq 703 id with
  | false=>rfl
  | true=>have:=Ab hb;omega
 have I:id∉c7 (aT 0 al):=j2 (fun x hx=>.inr (cV x hx)) h1 h2 (f:=f) (n:=n) (s:=s) (t:=t) (ks:=ks) (bs:=bs);simp only[gHl,fzH,AObj.fz,dU,R.fzL,R.fz,hb,rS _ I,Bc,Bt]
theorem s6 (b:Bool) (f n:Int) (s:Str) (t:Ty) (ks:List Core) (bs:List Bind) (al:List Alt) (hb5:decide (f=5)=b) (hk:ks.length≤600000000000) (hb:bs.length≤600000000000) (ha:al.length≤600000000000) (hv:∀a∈al,a.vars.length≤600000000000):
  aW Tryz.prog 79 [.one (.vp 700 0)] (gHl f n s t ks bs al++fam 0 al) (.one (.ras (bY b ks.length bs.length al.length al).length 2 (bY b ks.length bs.length al.length al).flatten)) (gHl f n s t ks bs al++fam 0 al):=by
 have hF:TF (fam 0 al):=fD;have W:GW (gHl f n s t ks bs al) (fam 0 al):=gW;have hkB:(aR bs).length=bs.length:=by rw[bP,ξ]
 have hkK:(aQ ks).length=ks.length:=by rw[aZ,ξ]
 refine sO hF (n:=123) tok Tryz.func79 rfl rfl rfl ?_;refine sg rfl (sg rfl (AWp.sub (Sub.ownCellR (x:=3) (k:=1) (id:=712) 118 1 rfl rfl rfl) (AWp.sub (Sub.ownCellR (x:=3) (k:=0) (id:=711) 158 1 rfl rfl rfl) ?_)));refine a8 (sg rfl (aC (aL (fun i:Nat=>mkt [(0,.one (.vp 700 0)),(3,.one (.vp 3 0)),(16,I .i64 ((ks.length:Nat):Int)),(17,I .i64 i)] ([(712,gPo (rgR (fun j=>[.ep 702 j 0 ks.length]) i)),(3,.var 126 [.ra 711 0 0 0,.ra 712 0 (rgR (fun j=>[.ep 702 j 0 ks.length]) i).length (rgR (fun j=>[.ep 702 j 0 ks.length]) i).length]),(711,gNo [])]++gHl f n s t ks bs al) (fam 0 al)) (fun i=>i≤ks.length) (fun i=>ks.length-i) 0 (Ak _) (slG W) ?_)));intro i hi;have hpl:=fP (fun j=>[.ep 702 j 0 ks.length]) i;refine sg rfl (a8 (aA rfl (fun hb=>?_) (fun hb=>?_)))
 ·have J:i<ks.length:=by
   have:(i:Int)<(ks.length:Int):=φ hb;omega
  have hst:=pU (fun j=>[.ep 702 j 0 ks.length]) i;have hr:gfo f n s t ks bs al (gPo (rgR (fun j=>[.ep 702 j 0 ks.length]) (i+1))).refs:=aZ9 _ _;refine aD (a8 (aC (sg rfl (ag [] rfl (ag [] rfl ⟨i+1,J,by dsimp only;omega,?_⟩)))));dsimp only;rw[hst] at hr ⊢;refine slG W (hh:=⟨⟨_,rfl,.rarrS rfl⟩,⟨_,rfl,.var ?_⟩,⟨_,rfl,.rarrS rfl⟩,⟨_,rfl,.var rfl⟩,⟨_,rfl,.arr⟩,⟨_,rfl,.arr⟩,⟨_,rfl,.rarrS rfl⟩,trivial⟩);rw[Aa];rfl
 have N:i=ks.length:=by
  have:¬(i:Int)<(ks.length:Int):=δ hb;omega
 subst N;clear hi hb hpl;have e0:rgR (fun j=>[.ep 702 j 0 ks.length]) ks.length=pR ks.length bs.length 0:=by simp[pR,rgR]
 rw[e0];have hr12:gfo f n s t ks bs al (gPo (pR ks.length bs.length 0)).refs:=aM7 _ _ _;have hr11:gfo f n s t ks bs al (gNo (nR b bs.length 0)).refs:=aRa _ _ _;refine aM (a8 (AWp.cut (mkt [(0,.one (.vp 700 0)),(3,.one (.vp 3 0))] ([(712,gPo (pR ks.length bs.length 0)),(3,.var 126 [.ra 711 0 (nR b bs.length 0).length (nR b bs.length 0).length,.ra 712 0 (pR ks.length bs.length 0).length (pR ks.length bs.length 0).length]),(711,gNo (nR b bs.length 0))]++gHl f n s t ks bs al) (fam 0 al)) ?_ ?_))
 ·refine sg rfl (aA rfl (fun hb=>?_) (fun hb=>?_))
  ·have hb:decide (f=5)=true:=hb;rw[hb] at hb5;subst hb5;exact ag [] rfl (slG W)
  ·have hb:decide (f=5)=false:=hb;rw[hb] at hb5;subst hb5;exact aD (slG W)
 clear hr11 hr12 e0;refine a8 (sg rfl (aC (aL (fun i:Nat=>mkt [(0,.one (.vp 700 0)),(3,.one (.vp 3 0)),(49,I .i64 ((bs.length:Nat):Int)),(50,I .i64 i)] ([(712,gPo (pR ks.length bs.length i)),(3,.var 126 [.ra 711 0 (nR b bs.length i).length (nR b bs.length i).length,.ra 712 0 (pR ks.length bs.length i).length (pR ks.length bs.length i).length]),(711,gNo (nR b bs.length i))]++gHl f n s t ks bs al) (fam 0 al)) (fun i=>i≤bs.length) (fun i=>bs.length-i) 0 (Ak _) (slG W (h2:=⟨Kn.gf (aM7 _ _ _),Kn.of rfl,Kn.gf (aRa _ _ _),trivial⟩)) ?_)));intro i hi;have hpl:(pR ks.length bs.length i).length=ks.length+i:=by unfold pR;rw[Aa,fP,fP]
 have hnl:(nR b bs.length i).length≤1+i:=by unfold nR;rw[Aa,fP];cases b<;>simp[gNm]
 refine sg rfl (a8 (aA rfl (fun hb=>?_) (fun hb=>?_)))
 ·have J:i<bs.length:=by
   have:(i:Int)<(bs.length:Int):=φ hb;omega
  have hst1:pR ks.length bs.length (i+1)=pR ks.length bs.length i++[[.ep 701 i 5 bs.length]]:=by unfold pR;rw[pU,Aw]
  have hst2:nR b bs.length (i+1)=nR b bs.length i++[[.ep 701 i 0 bs.length]]:=by unfold nR;rw[pU,Aw]
  have hr12:gfo f n s t ks bs al (gPo (pR ks.length bs.length (i+1))).refs:=aM7 _ _ _;have hr11:gfo f n s t ks bs al (gNo (nR b bs.length (i+1))).refs:=aRa _ _ _;refine aD (a8 (aC (sg rfl (sg rfl (ag [] rfl (ag [] rfl ⟨i+1,J,by dsimp only;omega,?_⟩))))));dsimp only;rw[hst1,hst2] at *;refine slG W (hh:=⟨⟨_,rfl,.rarrS rfl⟩,⟨_,rfl,.var ?_⟩,⟨_,rfl,.rarrS rfl⟩,⟨_,rfl,.var rfl⟩,⟨_,rfl,.arr⟩,⟨_,rfl,.arr⟩,⟨_,rfl,.rarrS rfl⟩,trivial⟩);rw[Aa,Aa];rfl
 have N:i=bs.length:=by
  have:¬(i:Int)<(bs.length:Int):=δ hb;omega
 subst N;clear hi hb;refine aM ?_;have hn1:711∉c7 (nR b bs.length bs.length):=j2 (aRa (f:=f) (n:=n) (s:=s) (t:=t) (ks:=ks) (bs:=bs) (al:=al) b bs.length bs.length) (by omega) (by omega);have hn2:712∉c7 (nR b bs.length bs.length):=j2 (aRa (f:=f) (n:=n) (s:=s) (t:=t) (ks:=ks) (bs:=bs) (al:=al) b bs.length bs.length) (by omega) (by omega);have Z:711∉c7 (pR ks.length bs.length bs.length):=j2 (aM7 (f:=f) (n:=n) (s:=s) (t:=t) (ks:=ks) (bs:=bs) (al:=al) ks.length bs.length bs.length) (by omega) (by omega);have aa:712∉c7 (pR ks.length bs.length bs.length):=j2 (aM7 (f:=f) (n:=n) (s:=s) (t:=t) (ks:=ks) (bs:=bs) (al:=al) ks.length bs.length bs.length) (by omega) (by omega);refine AWp.sub (st2:=mkt [(0,.one (.vp 700 0)),(3,.one (.vp 3 0))] ((712,gPo (pR ks.length bs.length bs.length))::([(3,.var 126 [.ra 711 0 (nR b bs.length bs.length).length (nR b bs.length bs.length).length,.ra 712 0 (pR ks.length bs.length bs.length).length (pR ks.length bs.length bs.length).length]),(711,gNo (nR b bs.length bs.length))]++gHl f n s t ks bs al)) (fam 0 al)) (slG (ex:=(712,_)::[_,_]) W (h2:=⟨Kn.gf (aM7 _ _ _),Kn.of rfl,Kn.gf (aRa _ _ _),trivial⟩)) ?_;refine AWp.sub (Sub.fraT hF (aW8 (by omega) (by omega)) aa) ?_;have Y:fzH 712 (.ra (pR ks.length bs.length bs.length).length 1 (pR ks.length bs.length bs.length).flatten) ([(3,.var 126 [.ra 711 0 (nR b bs.length bs.length).length (nR b bs.length bs.length).length,.ra 712 0 (pR ks.length bs.length bs.length).length (pR ks.length bs.length bs.length).length]),(711,gNo (nR b bs.length bs.length))]++gHl f n s t ks bs al)
   =[(3,.var 126 [.ra 711 0 (nR b bs.length bs.length).length (nR b bs.length bs.length).length,.ras (pR ks.length bs.length bs.length).length 1 (pR ks.length bs.length bs.length).flatten]),(711,gNo (nR b bs.length bs.length))]++gHl f n s t ks bs al:=by
  show(3,_)::(711,AObj.rarr _ _ (fzR _ _ _))::fzH _ _ (gHl f n s t ks bs al)=_;rw[rT (by omega) (by omega),rS _ hn2];simp only[AObj.fz,R.fzL,aO3 rfl];rfl
 rw[Y];refine AWp.sub (st2:=mkt [(0,.one (.vp 700 0)),(3,.one (.vp 3 0))] ((711,gNo (nR b bs.length bs.length))::([(3,.var 126 [.ra 711 0 (nR b bs.length bs.length).length (nR b bs.length bs.length).length,.ras (pR ks.length bs.length bs.length).length 1 (pR ks.length bs.length bs.length).flatten])]++gHl f n s t ks bs al)) (fam 0 al)) (slG (ex:=(711,_)::[_]) W (h2:=⟨Kn.gf (aRa _ _ _),Kn.app (Kn.of rfl) (Kn.app (by simp only[R.refs,dB];exact Kn.gf (aM7 _ _ _)) Kn.nil),trivial⟩)) ?_;refine AWp.sub (Sub.fraT hF (aW8 (by omega) (by omega)) hn1) ?_;have e2:fzH 711 (.ra (nR b bs.length bs.length).length 1 (nR b bs.length bs.length).flatten) ([(3,.var 126 [.ra 711 0 (nR b bs.length bs.length).length (nR b bs.length bs.length).length,.ras (pR ks.length bs.length bs.length).length 1 (pR ks.length bs.length bs.length).flatten])]++gHl f n s t ks bs al)
   =[(3,.var 126 (oI b ks.length bs.length))]++gHl f n s t ks bs al:=by
  show(3,_)::fzH _ _ (gHl f n s t ks bs al)=_;rw[rT (by omega) (by omega)];simp only[AObj.fz,R.fzL,aO3 rfl,R.fz_far (.ras (pR ks.length bs.length bs.length).length 1 (pR ks.length bs.length bs.length).flatten) (show 711∉R.refsL (pR ks.length bs.length bs.length).flatten by rw[dB];exact Z)];rfl
 rw[e2];clear Y e2 hn1 hn2 Z aa hpl hnl;have hgf:gfo f n s t ks bs al (c7 (bY b ks.length bs.length al.length (al.take 0))):=mY b 0;have hal:al.length=(aT 0 al).length:=dS.symm;refine sgh [(1,.id 713)] rfl (a8 (sg rfl (aC (aL (fun i:Nat=>mkt [(0,.one (.vp 700 0)),(7,.one (.ra 713 0 (bY b ks.length bs.length al.length (al.take i)).length (bY b ks.length bs.length al.length (al.take i)).length)),(82,I .i64 ((al.length:Nat):Int)),(83,I .i64 i)] ([(713,.rarr 126 2 (bY b ks.length bs.length al.length (al.take i)))]++gHl f n s t ks bs al) (fam 0 al)) (fun i=>i≤al.length) (fun i=>al.length-i) 0 (Ak _) (slG W) ?_))));intro i hi;have hgl:(bY b ks.length bs.length al.length (al.take i)).length=1+i:=by unfold bY;rw[Aj,xL,At];omega
 refine sg rfl (a8 (aA rfl (fun hb=>?_) (fun hb=>?_)))
 ·have J:i<al.length:=by
   have:(i:Int)<(al.length:Int):=φ hb;omega
  obtain⟨a,hai⟩:=aK J;have hrow:(aT 0 al)[i]?=some (dL i a):=by rw[mF hai,Bd]
  have hvl:=hv a (η hai);have hobj:(i+800,AObj.arr 9 1 (a.vars.map bO) 0)∈fam 0 al:=by have:=zE (k:=0) hai;rwa [Bd] at this
  have hvk:a.vars.length=(a.vars.map bO).length:=(ξ _).symm;have hnx:bY b ks.length bs.length al.length (al.take (i+1))=bY b ks.length bs.length al.length (al.take i)++[lM al.length i a]:=by
   unfold bY;rw[aAf hai,Bd];rfl
  have O:gfo f n s t ks bs al (c7 (bY b ks.length bs.length al.length (al.take i))):=mY b i;have hg1:gfo f n s t ks bs al (c7 (bY b ks.length bs.length al.length (al.take (i+1)))):=mY b (i+1);generalize bY b ks.length bs.length al.length (al.take i)=G at hgl hnx O ⊢;refine aD (a8 (aC (sg rfl (sg rfl (sgh [(3,.id 722)] rfl ?_)))));have aa:722∉c7 [[R.rp 703 i 4 al.length]]:=by simp[c7,R.refsL,R.refs]
  refine AWp.sub (st2:=mkt [(0,.one (.vp 700 0)),(7,.one (.ra 713 0 G.length G.length)),(9,.one (.rp 703 i 0 al.length)),(10,.one (.vp 10 0)),(82,I .i64 ((al.length:Nat):Int)),(83,I .i64 i)] ((722,gPo [[.rp 703 i 4 al.length]])::([(10,.var 126 [.c .nl,.ra 722 0 1 1]),(713,.rarr 126 2 G)]++gHl f n s t ks bs al)) (fam 0 al)) (slG (ex:=(722,_)::[_,_]) W) ?_;refine AWp.sub (Sub.fraT hF (aW8 (by omega) (by omega)) aa) ?_;have Y:fzH 722 (.ra 1 1 [R.rp 703 i 4 al.length]) ([(10,.var 126 [.c .nl,.ra 722 0 1 1]),(713,.rarr 126 2 G)]++gHl f n s t ks bs al)
    =[(10,.var 126 [.c .nl,.ras 1 1 [.rp 703 i 4 al.length]]),(713,.rarr 126 2 G)]++gHl f n s t ks bs al:=by
   show(10,_)::(713,AObj.rarr _ _ (fzR _ _ _))::fzH _ _ (gHl f n s t ks bs al)=_;rw[rT (by omega) (by omega),rS _ (j2 O (by omega) (by omega))];rfl
  have e1':fzH 722 (.ra ([[R.rp 703 i 4 al.length]]:List (List R)).length 1 ([[R.rp 703 i 4 al.length]]:List (List R)).flatten)=fzH 722 (.ra 1 1 [R.rp 703 i 4 al.length]):=rfl;rw[e1',Y];clear Y e1' aa;refine AWp.sub (Sub.ownCellR (x:=10) (k:=0) (id:=721) 158 1 rfl rfl rfl) ?_;refine AWp.sub (st2:=mkt [(0,.one (.vp 700 0)),(7,.one (.ra 713 0 G.length G.length)),(9,.one (.rp 703 i 0 al.length)),(10,.one (.vp 10 0)),(82,I .i64 ((al.length:Nat):Int)),(83,I .i64 i)] ([(10,.var 126 [.ra 721 0 0 0,.ras 1 1 [.rp 703 i 4 al.length]]),(713,.rarr 126 2 G),(721,gNo [])]++gHl f n s t ks bs al) (fam 0 al)) (slG W) ?_;have hlook:∀(ex:List (Nat×AObj)),(ex.all fun p=>Nat.blt p.1 800)=true→(mkt [] (ex++gHl f n s t ks bs al) (fam 0 al)).h (i+800)=some (AObj.arr 9 1 (a.vars.map bO) 0):=fun ex hex=>
   (show FarEq _ _ from FarEq.mkt hF (by rw[all_append,hex];rfl)) _ hobj
  refine a8 (skh 4 [(3,.rr (dL i a))] rfl (a0k tok (hlook _ rfl) rfl hvk ?_ trw));refine kz 1 rfl (aC (aL (fun j:Nat=>mkt [(0,.one (.vp 700 0)),(7,.one (.ra 713 0 G.length G.length)),(9,.one (.rp 703 i 0 al.length)),(10,.one (.vp 10 0)),(82,I .i64 ((al.length:Nat):Int)),(83,I .i64 i),(101,I .i64 ((a.vars.length:Nat):Int)),(102,I .i64 j)] ([(721,gNo (vR i a.vars.length j)),(10,.var 126 [.ra 721 0 (vR i a.vars.length j).length (vR i a.vars.length j).length,.ras 1 1 [.rp 703 i 4 al.length]]),(713,.rarr 126 2 G)]++gHl f n s t ks bs al) (fam 0 al)) (fun j=>j≤a.vars.length) (fun j=>a.vars.length-j) 0 (Ak _) (slG W) ?_));intro j hj;have hvj:(vR i a.vars.length j).length=j:=fP _ _;refine sg rfl (a8 (aA rfl (fun hb=>?_) (fun hb=>?_)))
  ·have hlt2:j<a.vars.length:=by
    have:(j:Int)<(a.vars.length:Int):=φ hb;omega
   have hst:vR i a.vars.length (j+1)=vR i a.vars.length j++[[.ep (i+800) j 0 a.vars.length]]:=pU _ _;have hr:gfo f n s t ks bs al (gNo (vR i a.vars.length (j+1))).refs:=aYi J _ _;refine aD (a8 (aC (sg rfl (aE mixed (ak 7 [(5,.rr (dL i a))] rfl (kix tok (j:=j) (hlook _ rfl) rfl hvk hlt2 ?_ trw))))));refine kz 4 rfl (ag [] rfl ⟨j+1,hlt2,by dsimp only;omega,?_⟩);dsimp only;rw[hst] at hr ⊢;refine slG W (hh:=⟨⟨_,rfl,.rarrS rfl⟩,⟨_,rfl,.varS ?_⟩,⟨_,rfl,.rarrS rfl⟩,⟨_,rfl,.var rfl⟩,⟨_,rfl,.arr⟩,⟨_,rfl,.arr⟩,⟨_,rfl,.rarrS rfl⟩,trivial⟩);rw[Aa]
  have N:j=a.vars.length:=by
   have:¬(j:Int)<(a.vars.length:Int):=δ hb;omega
  subst N;clear hb hj;refine aM ?_;have Z:721∉c7 (vR i a.vars.length a.vars.length):=j2 (aYi (f:=f) (n:=n) (s:=s) (t:=t) (ks:=ks) (bs:=bs) J a.vars.length a.vars.length) (by omega) (by omega);have hrv:gfo f n s t ks bs al (gNo (vR i a.vars.length a.vars.length)).refs:=aYi J _ _;refine AWp.sub (st2:=mkt [(0,.one (.vp 700 0)),(7,.one (.ra 713 0 G.length G.length)),(10,.one (.vp 10 0)),(82,I .i64 ((al.length:Nat):Int)),(83,I .i64 i)] ((721,gNo (vR i a.vars.length a.vars.length))::([(10,.var 126 [.ra 721 0 (vR i a.vars.length a.vars.length).length (vR i a.vars.length a.vars.length).length,.ras 1 1 [.rp 703 i 4 al.length]]),(713,.rarr 126 2 G)]++gHl f n s t ks bs al)) (fam 0 al)) (slG (ex:=(721,_)::[_,_]) W) ?_;refine AWp.sub (Sub.fraT hF (aW8 (by omega) (by omega)) Z) ?_;have Y:fzH 721 (.ra (vR i a.vars.length a.vars.length).length 1 (vR i a.vars.length a.vars.length).flatten) ([(10,.var 126 [.ra 721 0 (vR i a.vars.length a.vars.length).length (vR i a.vars.length a.vars.length).length,.ras 1 1 [.rp 703 i 4 al.length]]),(713,.rarr 126 2 G)]++gHl f n s t ks bs al)
    =[(10,.var 126 (lM al.length i a)),(713,.rarr 126 2 G)]++gHl f n s t ks bs al:=by
   show(10,_)::(713,AObj.rarr _ _ (fzR _ _ _))::fzH _ _ (gHl f n s t ks bs al)=_;rw[rT (by omega) (by omega),rS _ (j2 O (by omega) (by omega))];simp only[AObj.fz,R.fzL,aO3 rfl,R.fz_far (.ras 1 1 [.rp 703 i 4 al.length]) (show 721∉R.refs (.ras 1 1 [.rp 703 i 4 al.length]) by simp[R.refs,R.refsL])];rfl
  rw[Y];clear Y Z;have hra:gfo f n s t ks bs al (R.refsL (lM al.length i a)):=aW5 J a;have halr:∃x y,lM al.length i a=[x,y]:=⟨_,_,rfl⟩
  refine ag [] rfl (ag [] rfl ⟨i+1,J,by dsimp only;omega,?_⟩);dsimp only;rw[hnx] at hg1 ⊢;have hg1:gfo f n s t ks bs al (AObj.rarr 126 2 (G++[lM al.length i a])).refs:=hg1;refine slG W (he:=⟨rfl,by rw[Aa];rfl,rfl,rfl,trivial⟩)
 have N:i=al.length:=by
  have:¬(i:Int)<(al.length:Int):=δ hb;omega
 subst N;have O:gfo f n s t ks bs al (c7 (bY b ks.length bs.length al.length (al.take al.length))):=mY b _;rw[Au] at *;generalize bY b ks.length bs.length al.length al=G at *;refine aM (AWp.sub (st2:=mkt [(7,.one (.ra 713 0 G.length G.length))] ((713,.rarr 126 2 G)::([]++gHl f n s t ks bs al)) (fam 0 al)) (slG (ex:=[(713,_)]) W (h2:=⟨Kn.gf O,trivial⟩)) ?_);refine AWp.sub (Sub.fraT hF (aW8 (by omega) (by omega)) (j2 O (by omega) (by omega))) ?_;have Y:fzH 713 (.ra G.length 2 G.flatten) ([]++gHl f n s t ks bs al)=gHl f n s t ks bs al:=rT (by omega) (by omega);have e2:fzE 713 (.ra G.length 2 G.flatten) [(7,.one (.ra 713 0 G.length G.length))]=[(7,.one (.ras G.length 2 G.flatten))]:=by
  simp only[fzE,V.fz,aO3 rfl]
 rw[Y,e2];exact sg rfl (aI (rtG W (h1:=Kn.gf (by show GF _ _ (R.refsL G.flatten);rw[dB];exact O))))
end Go.Proofs.YtockgoadliilhaaGreatDoor
