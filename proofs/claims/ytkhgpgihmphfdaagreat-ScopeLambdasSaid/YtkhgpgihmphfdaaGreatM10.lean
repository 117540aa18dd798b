/-
  Texts Rd40 to Rd52 in one.
-/
import Derived.Test.YtkhgpgihmphfdaaGreatM9
import Derived.Lib.Join
import Derived.Tactics2
import Derived.LoopTactic
open List (append_assoc append_nil cons_append dropWhile_cons filter_append filter_cons_of_neg filter_cons_of_pos filter_nil foldl_append foldl_cons length_append length_cons length_drop length_filter_le length_map length_nil length_pos_iff length_singleton length_take map_append map_cons mem_append mem_cons mem_filter mem_singleton nil_append takeWhile_cons take_add_one take_length)
open Nat (le_of_lt le_refl le_trans lt_of_le_of_lt lt_succ_self sub_self zero_le)
namespace Go.Proofs.YtkhgpgihmphfdaaGreat
open Go Go.AM
set_option maxRecDepth 20000
set_option maxHeartbeats 4000000
theorem jX {s:Str}{z:Z}(hb:(bP s z).1=false):(bP s z).2=z:=by
 unfold bP at hb ⊢;split
 ·rename_i hc;rw[θ hc] at hb;cases hb
 ·rfl
section
variable {L:List Tk}{ex:Nat→Z→Ex×Z}{N:Nat}(hO:ExO L ex) (hS:ExS L ex N) (hwt:wt L≤30000)
include hO hS hwt
theorem aT0 (deep:Nat) {z:Z}(h:ZA L z) (hN:z.R.length≤N+1) (hd:deep≤41):aV Tryz.prog 20 [xP,I .i64 (deep:Nat)] [(700,zO L z)] (.pa (bC (vJ ex deep z).1)) [(700,zO L (vJ ex deep z).2)]:=by
 have hn:=fP h;have ho:=iG L z;unfold vJ;refine bF (n:=82) tok Tryz.func20 rfl rfl rfl ?_;refine sg rfl (sk 1 rfl (kc hn ?_));refine kz 2 rfl (aA (sk 1 rfl (kc ho ?_)));refine kz 1 rfl ?_;by_cases he:z.e=0
 case neg=>
  rw[θ he];have d0:(!decide (z.e=0))=true:=by rw[ψ he];rfl
  exact aB rfl (fun _=>sg rfl (aF (rtC trw))) (fun hb=>absurd (hb.symm.trans d0) Bool.noConfusion)
 rw[ξ (fun k=>k he)];have d0:(!decide (z.e=0))=false:=by rw[φ he];rfl
 refine aB rfl (fun hb=>absurd (hb.symm.trans d0) Bool.noConfusion) (fun _=>aD (aA (sg rfl (aB rfl (fun hb=>?_) (fun hb=>?_)))))
 ·rw[θ (by have:=κ hb;omega)];have hfl:=eK L z 13 (b4 z).pl;refine sk 3 rfl (kc hfl ?_);exact az (sg rfl (aF (rtC trw)))
 have hd40:¬40<deep:=by have:=Ae hb;omega
 rw[ξ hd40];refine aD ?_;have u:=mM h v8;have A:=eR (s:=v8) h;have B:=h.may v8;have E:= @jX v8 z;have M:=fun e=>aTt hS (b4 z).pl deep B (by have:=A e;omega) (by omega)
 generalize bP v8 z=m at u A B E M ⊢;obtain⟨b,z1⟩:=m;dsimp only at u A B E M ⊢;refine aA (sk 1 rfl (kc u ?_));refine az ?_;cases b with
 | true=>
  rw[θ rfl];have M:=M rfl;refine aB rfl (fun _=>sk 4 rfl (kc M ?_)) (fun hb=>Bool.noConfusion hb);exact kz 1 rfl (aF (rtC trw))
 | false=>
 obtain rfl:=E rfl;rw[ξ ω];clear u A B M E;refine aB rfl (fun hb=>Bool.noConfusion hb) (fun _=>aD ?_);have u:=mM h v7;have A:=eR (s:=v7) h;have B:=h.may v7;have E:= @jX v7 z1;have O:=fun e=>aTq hO hS hwt (b4 z1).pl deep B (by have:=A e;omega) (by omega)
 generalize bP v7 z1=m at u A B E O ⊢;obtain⟨b,z2⟩:=m;dsimp only at u A B E O ⊢;refine aA (sk 1 rfl (kc u ?_));refine az ?_;cases b with
 | true=>
  rw[θ rfl];have O:=O rfl;refine aB rfl (fun _=>sk 4 rfl (kc O ?_)) (fun hb=>Bool.noConfusion hb);exact kz 1 rfl (aF (rtC trw))
 | false=>
 obtain rfl:=E rfl;rw[ξ ω];clear u A B O E;refine aB rfl (fun hb=>Bool.noConfusion hb) (fun _=>aD ?_);have u:=mM h kD;have A:=eR (s:=kD) h;have B:=h.may kD;have E:= @jX kD z2;have hcs:=fun e=>aP7 hO hS (b4 z2).pl deep B (by have:=A e;omega) (by omega)
 generalize bP kD z2=m at u A B E hcs ⊢;obtain⟨b,z3⟩:=m;dsimp only at u A B E hcs ⊢;refine aA (sk 1 rfl (kc u ?_));refine az ?_;cases b with
 | true=>
  rw[θ rfl];have hcs:=hcs rfl;refine aB rfl (fun _=>sk 4 rfl (kc hcs ?_)) (fun hb=>Bool.noConfusion hb);exact kz 1 rfl (aF (rtC trw))
 | false=>
 obtain rfl:=E rfl;rw[ξ ω];clear u A B hcs E;refine aB rfl (fun hb=>Bool.noConfusion hb) (fun _=>aD ?_);have U:=aM9 hO hS deep h hN (by omega);obtain⟨o1,_,o3,o4⟩:=iR hO deep h;have hlz:=h.lp;generalize hT:b4 z3=t at hn ⊢;unfold fE;rw[hT];generalize gS ex deep z3=y at U o1 o3 o4 ⊢;obtain⟨⟨e0,b0⟩,z4⟩:=y;dsimp only at U o1 o3 o4 ⊢;have o4:z4.R.length≤z3.R.length:=o4;refine sk 2 rfl (kc U ?_);refine kz 6 rfl ?_;have Y:∃z5,z5=(if b0=false then bR 12 t.pl z4 else z4)∧ZA L z5∧z5.R.length≤z3.R.length∧(z5.e=0→z5.R.length<z3.R.length):=by
  refine⟨_,rfl,?_⟩;split
  ·exact⟨o1.fail _ _,by rw[nE];exact o4,fun e=>(cS (by decide) e).elim⟩
  ·rename_i hb;exact⟨o1,o4,fun e=>o3 (by simpa using hb) e⟩
 obtain⟨z5,Y,h5,l5,l5'⟩:=Y;rw[←Y];have hfl:=eK L z4 12 t.pl;refine aA (AWp.cut (mk [(0,xP),(1,I .i64 (deep:Nat)),(4,.one (.vp 4 0)),(5,.one (.vp 5 0)),(6,.one (.vp 6 0))] [(700,zO L z5),(4,.var 35 (aIu.map .c)),(5,.var 85 ((aI t).map .c)),(6,.var 35 ((bC e0).map .c))]) ?_ ?_)
 ·refine sg rfl ?_;cases b0 with
  | false=>
   rw[θ rfl] at Y;subst Y;refine aB rfl (fun _=>aC mixed (ak 3 [] rfl (kc hfl ?_))) (fun hb=>Bool.noConfusion hb);exact az sl
  | true=>
   rw[ξ (show ¬(true=false) from fun k=>Bool.noConfusion k)] at Y;subst Y;exact aB rfl (fun hb=>Bool.noConfusion hb) (fun _=>aD sl)
 have hWx:∃W,W=eZ ex deep t.pl (z3.R.length+1) e0 z5:=⟨_,rfl⟩
 obtain⟨W,J⟩:=hWx;rw[←J];clear U o1 o3 o4 hfl Y;refine aA (aE (aL (fun q:Ex×Z×Nat=>mk [(0,xP),(1,I .i64 (deep:Nat)),(4,.one (.vp 4 0)),(5,.one (.vp 5 0)),(6,.one (.vp 6 0))] [(700,zO L q.2.1),(4,.var 35 (aIu.map .c)),(5,.var 85 ((aI t).map .c)),(6,.var 35 ((bC q.1).map .c))]) (fun q=>ZA L q.2.1∧q.2.1.R.length≤z3.R.length∧(q.2.1.e=0→q.2.1.R.length<q.2.2)∧W=eZ ex deep t.pl q.2.2 q.1 q.2.1) (fun q=>if q.2.1.e=0 then q.2.1.R.length+1 else 0) (e0,z5,z3.R.length+1) ⟨h5,l5,fun _=>by dsimp only;omega,J⟩ sl ?_));clear J h5 l5 l5';rintro⟨e,z6,f⟩ ⟨h6,l6,hf,J⟩;dsimp only at h6 l6 hf J ⊢;have ho6:=iG L z6;have hend:∀(z7:Z) (st:St),ZA L z7→Sub (keys [(700,zO L z3)]) (mk [(0,xP),(4,.one (.vp 4 0)),(5,.one (.vp 5 0)),(6,.one (.vp 6 0))] [(700,zO L z7),(4,.var 35 (aIu.map .c)),(5,.var 85 ((aI t).map .c)),(6,.var 35 ((bC e).map .c))]) st→W=(e,z7)→
   AWp none Tryz.prog 82 (keys [(700,zO L z3)]) (jI (jI (jI (jI (jI (jI (jI (jI (jI (jI (Tryz.f20.body.getD .skip))))))))))) st (fun ex' st'=>(ex'=.normal∨ex'=.ret)∧Fin tr.flat Tryz.f20 st' [(700,zO L z3)] (.pa (bC (pZ t.pl W).1)) [(700,zO L (pZ t.pl W).2)]):=fun z7 st h7 hst hw=>by
  refine AWp.sub hst ?_;subst hw;have hm:=mM h7 eP;have g2:=h7.may eP;unfold pZ;dsimp only;generalize bP eP z7=m at hm g2 ⊢;obtain⟨b,z8⟩:=m;dsimp only at hm g2 ⊢;refine aA (sk 1 rfl (kc hm ?_));refine az ?_;cases b with
  | true=>
   rw[θ rfl];have hsc:=wA g2 hwt;generalize bN z8=y at hsc ⊢;obtain⟨s,z9⟩:=y;dsimp only at hsc ⊢;refine aB rfl (fun _=>skh 5 [(3,.all)] rfl (kc hsc ?_)) (fun hb=>Bool.noConfusion hb);exact kz 2 rfl (aF (rtC trw))
  | false=>
   rw[ξ ω];exact aB rfl (fun hb=>Bool.noConfusion hb) (fun _=>aD (sg rfl (aF (rtC trw))))
 refine aA (sk 1 rfl (kc ho6 ?_));refine az ?_;by_cases he6:z6.e=0
 case neg=>
  have e0:eZ ex deep t.pl f e z6=(e,z6):=by
   cases f with
   | zero=>rfl
   | succ f=>rw[eZ,ξ he6]
  rw[e0] at J;have d0:decide (z6.e=0)=false:=ψ he6;exact aB rfl (fun hb=>absurd (hb.symm.trans d0) Bool.noConfusion) (fun _=>aG (hend z6 _ h6 sl J))
 have d0:decide (z6.e=0)=true:=φ he6;have hf:=hf he6;obtain⟨f,rfl⟩:∃g,f=g+1:=⟨f-1,by omega⟩
 rw[eZ,θ he6] at J;have U:=aM9 hO hS deep h6 (by omega) (by omega);obtain⟨o1,_,o3,o4⟩:=iR hO deep h6;generalize gS ex deep z6=y at U o1 o3 o4 J;obtain⟨⟨a,b⟩,z7⟩:=y;dsimp only at U o1 o3 o4 J;have o4:z7.R.length≤z6.R.length:=o4;refine aB rfl (fun _=>aD (aE (sk 2 rfl (kc U ?_)))) (fun hb=>absurd (hb.symm.trans d0) Bool.noConfusion);refine kz 6 rfl (aA (sg rfl ?_));cases b with
 | false=>
  rw[θ rfl] at J;exact aB rfl (fun _=>aG (hend z7 _ o1 sl J)) (fun hb=>Bool.noConfusion hb)
 | true=>
  rw[ξ (show ¬(true=false) from fun k=>Bool.noConfusion k)] at J;refine aB rfl (fun hb=>Bool.noConfusion hb) (fun _=>aD (ag [(4,.all)] rfl ⟨(aL1 t.pl e a,z7,f),⟨o1,by dsimp only;omega,fun h0=>by have:=o3 rfl h0;dsimp only;omega,J⟩,?_,Sub.trans ?_ (vp 6 (bC (aL1 t.pl e a)))⟩))
  rotate_left
  ·exact sl
  dsimp only;rw[θ he6];split
  ·rename_i h0;have:=o3 rfl h0;omega
  ·omega
end
theorem aS5 {L:List Tk}(hwt:wt L≤30000):∀f,ExS L (aCw f) f
 | 0=>fun deep z h hN _=>by have:=h.lp;omega
 | f+1=>fun deep z h hN g=>aT0 (k8 hwt f) (aS5 hwt f) hwt deep h hN g
structure Cl where
 name:Str
 pl:Int
 var:Str
 supers:List Str
 methods:List Sg
structure In where
 cls:Str
 pl:Int
 con:Str
 vars:List Str
 preds:List Prd
 binds:List Bd
structure Pg where
 datas:List Dt
 classes:List Cl
 insts:List In
 binds:List Bd
def qG (c:Cl):List C:=[.str c.name,.int .i64 c.pl,.str c.var,.sl 1 [],.sl 1 (c.supers.map aX),.sl 9 (c.methods.map cT)]
def sS (x:In):List C:=[.str x.cls,.int .i64 x.pl,.str x.con,.sl 1 (x.vars.map aX),.sl 5 (x.preds.map aR),.sl 33 (x.binds.map b8)]
def mF (p:Pg):List C:=[.sl 5 (p.datas.map sT),.sl 6 (p.classes.map qG),.sl 6 (p.insts.map sS),.sl 33 (p.binds.map b8)]
def zPg:Pg:=⟨[],[],[],[]⟩
def nH:Str:=[100,97,116,97]
def iE:Str:=[99,108,97,115,115]
def nB:Str:=[105,110,115,116,97,110,99,101]
def dG (v:Str) (a:Int):List Prd→List Str→Z→List Str×Z
 | [],out,z=>(out,z)
 | p::l,out,z=>if z.e=0 then dG v a l (out++[p.cls]) (if p.ty.form=2∧p.ty.name=v then z else bR 12 a z) else(out,z)
def qD (cls v:Str) (s:Sch):Sch:=⟨v::s.vars.filter (fun x=>!decide (x=v)),⟨cls,.mk 2 0 v []⟩::s.preds,s.ty⟩
def o6 (cls v:Str) (z:Z):Sg×Z:=(⟨(b5 1 z).1.text,(b5 1 z).1.pl,qD cls v (bN (aQ eP (b5 1 z).2)).1⟩,(bN (aQ eP (b5 1 z).2)).2)
def jC (cls v:Str) (a:Int):Nat→Nat→List Sg→Z→List Sg×Z
 | 0,_,out,z=>(out,z)
 | f+1,n,out,z=>if(bI bA n z).1=true then jC cls v a f (n+1) (out++[(o6 cls v (bI bA n z).2).1]) (cI (out++[(o6 cls v (bI bA n z).2).1]).length 16 a (o6 cls v (bI bA n z).2).2) else(out,(bI bA n z).2)
def iF (z:Z):List Prd×Tk×Tk×Z:=((bT z).1,(b5 2 (bT z).2).1,(b5 1 (b5 2 (bT z).2).2).1,(b5 1 (b5 2 (bT z).2).2).2)
def nU (y:List Prd×Tk×Tk×Z):List Str×Z:=((dG y.2.2.1.text y.2.1.pl y.1 [] y.2.2.2).1,aQ dQ (dG y.2.2.1.text y.2.1.pl y.1 [] y.2.2.2).2)
def vU (y:List Prd×Tk×Tk×Z) (w:List Str×Z):List Sg×Z:=jC y.2.1.text y.2.2.1.text y.2.1.pl (w.2.R.length+1) 0 [] w.2
def iD (z:Z):Cl×Z:=(⟨(iF z).2.1.text,(iF z).2.1.pl,(iF z).2.2.1.text,(nU (iF z)).1,(vU (iF z) (nU (iF z))).1⟩,aQ bA (vU (iF z) (nU (iF z))).2)
def hD (a:Int):List Prd→Z→Z
 | [],z=>z
 | p::l,z=>hD a l (if z.e=0∧¬p.ty.form=2 then bR 12 a z else z)
def gW (z:Z):List Prd×Tk×Bool×Tk×Z:=
 ((bT z).1,(b5 2 (bT z).2).1,(bP cE (b5 2 (bT z).2).2).1,(b5 2 (bP cE (b5 2 (bT z).2).2).2).1,(b5 2 (bP cE (b5 2 (bT z).2).2).2).2)
def instV (b:Bool) (z:Z):List Str×Z:=if b=true then((aZ z).1.map (·.text),aQ lX (aZ z).2) else([],z)
def vA (y:List Prd×Tk×Bool×Tk×Z) (w:List Str×Z):Z:=aQ dQ (hD y.2.1.pl y.1 (if w.2.e=0 then cI w.1.length 8 y.2.1.pl w.2 else w.2))
section
variable (ex:Nat→Z→Ex×Z)
def fL:Nat→Nat→List Bd→Z→List Bd×Z
 | 0,_,out,z=>(out,z)
 | f+1,n,out,z=>if(bI bA n z).1=true then fL f (n+1) (out++[(dP ex (b5 1 (bI bA n z).2).1 0 (b5 1 (bI bA n z).2).2).1]) (dP ex (b5 1 (bI bA n z).2).1 0 (b5 1 (bI bA n z).2).2).2 else(out,(bI bA n z).2)
def aFv (z:Z):List Bd×Z:=fL ex (z.R.length+1) 0 [] z
def pJ (z:Z):In×Z:=
 (⟨(gW z).2.1.text,(gW z).2.1.pl,(gW z).2.2.2.1.text,(instV (gW z).2.2.1 (gW z).2.2.2.2).1,(gW z).1,(aFv ex (vA (gW z) (instV (gW z).2.2.1 (gW z).2.2.2.2))).1⟩,
  aQ bA (aFv ex (vA (gW z) (instV (gW z).2.2.1 (gW z).2.2.2.2))).2)
def jH (p:Pg) (sigs:List Sg) (z:Z):(Pg×List Sg)×Z:=
 if(bP nH z).1=true then((⟨p.datas++[(oA (bP nH z).2).1],p.classes,p.insts,p.binds⟩,sigs),(oA (bP nH z).2).2)
 else if(bP iE z).1=true then((⟨p.datas,p.classes++[(iD (bP iE z).2).1],p.insts,p.binds⟩,sigs),(iD (bP iE z).2).2)
 else if(bP nB z).1=true then((⟨p.datas,p.classes,p.insts++[(pJ ex (bP nB z).2).1],p.binds⟩,sigs),(pJ ex (bP nB z).2).2)
 else((⟨p.datas,p.classes,p.insts,(aS ex sigs p.binds 0 z).1.2⟩,(aS ex sigs p.binds 0 z).1.1),(aS ex sigs p.binds 0 z).2)
def m6:Nat→Nat→Pg→List Sg→Z→(Pg×List Sg)×Z
 | 0,_,p,sigs,z=>((p,sigs),z)
 | f+1,n,p,sigs,z=>if(bI [] n z).1=true then m6 f (n+1) (jH ex p sigs (bI [] n z).2).1.1 (jH ex p sigs (bI [] n z).2).1.2 (jH ex p sigs (bI [] n z).2).2 else((p,sigs),(bI [] n z).2)
def zV (y:(Pg×List Sg)×Z):Pg×Z:=(⟨y.1.1.datas,y.1.1.classes,y.1.1.insts,(cO y.1.2 y.1.1.binds y.2).1⟩,(cO y.1.2 y.1.1.binds y.2).2)
def kK (z:Z):Pg×Z:=zV (m6 ex (z.R.length+1) 0 zPg [] z)
end
def lK (z:Z):Z:=if z.e=0∧¬(b4 z).kind=6 then bR 12 (b4 z).pl z else z
def sgO (s:Sg):Prop:=WF s.ty.ty∧tn s.ty.ty≤30000∧(∀p∈s.ty.preds,WF p.ty∧tn p.ty≤30000)∧s.ty.preds.length≤4002∧s.ty.vars.length≤120060001
structure ClOk (c:Cl):Prop where
 s:c.supers.length≤4001
 m:c.methods.length≤60∧∀m∈c.methods,sgO m
structure InOk (x:In):Prop where
 v:x.vars.length≤4001
 p:x.preds.length≤4001∧∀p∈x.preds,WF p.ty∧tn p.ty≤30000
 b:x.binds.length≤60∧eY x.binds
structure DtOk (d:Dt):Prop where
 v:d.vars.length≤4001
 c:d.cons.length≤4002∧∀c∈d.cons,c.fields.length≤4002∧∀x∈c.fields,WF x∧tn x≤30000
theorem qO {L:List Tk}(v:Str) (a:Int):∀(l:List Prd) (out:List Str) (z:Z),ZA L z→ZA L (dG v a l out z).2∧(dG v a l out z).1.length≤out.length+l.length∧Ze z (dG v a l out z).2
 | [],out,z,h=>⟨h,le_refl _,Ze.refl z⟩
 | p::l,out,z,h=>by
  rw[dG];split
  ·have h1:ZA L (if p.ty.form=2∧p.ty.name=v then z else bR 12 a z)∧Ze z (if p.ty.form=2∧p.ty.name=v then z else bR 12 a z):=by
    split
    ·exact⟨h,Ze.refl z⟩
    ·exact⟨h.fail _ _,Ze.fail _ _ z⟩
   obtain⟨g,q,u⟩:=qO v a l (out++[p.cls]) _ h1.1;exact⟨g,by rw[η,Bj] at q;rw[Aa];omega,h1.2.trans u⟩
  ·exact⟨h,by rw[Aa];dsimp only;omega,Ze.refl z⟩
theorem vE {L:List Tk}(a:Int):∀(l:List Prd) (z:Z),ZA L z→ZA L (hD a l z)∧Ze z (hD a l z)
 | [],z,h=>⟨h,Ze.refl z⟩
 | p::l,z,h=>by
  rw[hD];have h1:ZA L (if z.e=0∧¬p.ty.form=2 then bR 12 a z else z)∧Ze z (if z.e=0∧¬p.ty.form=2 then bR 12 a z else z):=by
   split
   ·exact⟨h.fail _ _,Ze.fail _ _ z⟩
   ·exact⟨h,Ze.refl z⟩
  obtain⟨g,q⟩:=vE a l _ h1.1;exact⟨g,h1.2.trans q⟩
theorem m7 {L:List Tk}{z:Z}(h:ZA L z) (hwt:wt L≤30000):ZA L (bT z).2∧((bT z).1.length≤4001∧∀p∈(bT z).1,WF p.ty∧tn p.ty≤30000)∧Ze z (bT z).2:=by
 refine⟨h.preds,?_⟩;have hw:=h.wt;have hl:=h.len;unfold bT;split
 ·cases hs:cQ z.R with
  | error e=>obtain⟨e,p⟩:=e;exact⟨⟨Ad _,fun p hp=>(by cases hp)⟩,Ze.refl z⟩
  | ok y=>
   obtain⟨s,R'⟩:=y;obtain⟨_,⟨p,h2,_⟩,g,q⟩:=kL hs;refine⟨⟨by show s.length≤_;omega,fun p hp=>⟨(g p hp).1,by have:=(g p hp).2;omega⟩⟩,?_⟩;show R'.length≤_;rw[h2,η];omega
 ·exact⟨⟨Ad _,fun p hp=>(by cases hp)⟩,Ze.refl z⟩
theorem aDz {L:List Tk}{z:Z}(h:ZA L z) (hwt:wt L≤30000) (k:Int):(b5 k z).1.text.length≤29994:=by
 have hw:=h.wt;obtain⟨R,e,p⟩:=z;obtain⟨t,R,rfl⟩:=h.e.ne;unfold b5;split
 ·show t.text.length≤_;have hw:wt (t::R)≤wt L:=hw;rw[cB] at hw;omega
 ·exact Ad _
theorem aJy (cls v:Str) {s:Sch}(h:SchOk s) (g:v.length≤29994) (t:Str) (a:Int):sgO ⟨t,a,qD cls v s⟩:=by
 refine⟨h.t.1,h.t.2,fun p hp=>?_,?_,?_⟩
 ·rcases Au.1 hp with rfl | hp
  ·exact⟨⟨rfl,rfl⟩,by show tn (.mk 2 0 v [])≤_;rw[tn,tns];omega⟩
  ·exact h.p p hp
 ·show(_::s.preds).length≤_;rw[Aa];have:=h.l;omega
 ·show(v::s.vars.filter _).length≤_;rw[Aa];have:=length_filter_le (fun x=>!decide (x=v)) s.vars;have:=h.v;omega
theorem uV {L:List Tk}(hwt:wt L≤30000) (cls v:Str) (g:v.length≤29994) (a:Int):∀(f n:Nat) (out:List Sg) (z:Z),ZA L z→n≤60→out.length=n→(∀m∈out,sgO m)→ZA L (jC cls v a f n out z).2∧((jC cls v a f n out z).1.length≤60∧∀m∈(jC cls v a f n out z).1,sgO m)∧Ze z (jC cls v a f n out z).2
 | 0,n,out,z,h,hn,hl,ho=>by rw[jC];exact⟨h,⟨by dsimp only;omega,ho⟩,Ze.refl z⟩
 | f+1,n,out,z,h,hn,hl,ho=>by
  rw[jC];split
  ·rename_i hm;obtain⟨_,q⟩:=fF hm;have h1:=h.more bA n;obtain⟨A,B,_,E⟩:=fV ((h1.word (k:=1) (by decide)).need eP) hwt;have u:∀m∈out++[(o6 cls v (bI bA n z).2).1],sgO m:=fun m hm=>by
    rcases Ay.1 hm with hm | hm
    ·exact ho m hm
    ·rw[Ar.1 hm];exact aJy cls v B g _ _
   have y:(out++[(o6 cls v (bI bA n z).2).1]).length=n+1:=by rw[η,hl];rfl
   obtain⟨I,J,M⟩:=uV hwt cls v g a f (n+1) _ (cI (out++[(o6 cls v (bI bA n z).2).1]).length 16 a (o6 cls v (bI bA n z).2).2) (ZA.long A _ _ _) q y u;exact⟨I,J,((((Ze.more bA n z).trans (Ze.word 1 _)).trans (Ze.need eP _)).trans E).trans ((Ze.long _ _ _ _).trans M)⟩
  ·exact⟨h.more _ _,⟨by dsimp only;omega,ho⟩,Ze.more _ _ _⟩
theorem aGn {L:List Tk}{z:Z}(h:ZA L z) (hwt:wt L≤30000):ZA L (iD z).2∧ClOk (iD z).1∧Ze z (iD z).2:=by
 obtain⟨q,U,u⟩:=m7 h hwt;have h2:=q.word (k:=2) (by decide);have y:=h2.word (k:=1) (by decide);have A:=aDz h2 hwt 1;obtain⟨B,E,I⟩:=qO (b5 1 (b5 2 (bT z).2).2).1.text (b5 2 (bT z).2).1.pl (bT z).1 [] _ y;obtain⟨J,M,O⟩:=uV hwt (iF z).2.1.text (iF z).2.2.1.text A (iF z).2.1.pl ((nU (iF z)).2.R.length+1) 0 [] _ (B.need dQ) (Ad _) rfl (fun m hm=>by cases hm);refine⟨J.need _,⟨?_,M⟩,(((u.trans (Ze.word 2 _)).trans (Ze.word 1 _)).trans I).trans ((Ze.need dQ _).trans (O.trans (Ze.need bA _)))⟩;show(dG _ _ _ _ _).1.length≤_;have g:(dG (b5 1 (b5 2 (bT z).2).2).1.text (b5 2 (bT z).2).1.pl (bT z).1 [] (b5 1 (b5 2 (bT z).2).2).2).1.length≤0+(bT z).1.length:=E;exact le_trans g (by omega)
theorem aAm {L:List Tk}(b:Bool) {z:Z}(h:ZA L z):ZA L (instV b z).2∧(instV b z).1.length≤4001∧Ze z (instV b z).2:=by
 unfold instV;split
 ·exact⟨h.words.need _,by rw[χ];exact eT h,(Ze.words z).trans (Ze.need _ _)⟩
 ·exact⟨h,Ad _,Ze.refl z⟩
theorem aJ7 {L:List Tk}(y:List Prd×Tk×Bool×Tk×Z) (w:List Str×Z) (h:ZA L w.2):ZA L (vA y w)∧Ze w.2 (vA y w):=by
 have h1:ZA L (if w.2.e=0 then cI w.1.length 8 y.2.1.pl w.2 else w.2)∧Ze w.2 (if w.2.e=0 then cI w.1.length 8 y.2.1.pl w.2 else w.2):=by
  split
  ·exact⟨h.long _ _ _,Ze.long _ _ _ _⟩
  ·exact⟨h,Ze.refl _⟩
 obtain⟨g,q⟩:=vE y.2.1.pl y.1 _ h1.1;exact⟨g.need _,(h1.2.trans q).trans (Ze.need _ _)⟩
section
variable {L:List Tk}{ex:Nat→Z→Ex×Z}(hO:ExO L ex) (hwt:wt L≤30000)
include hO
theorem r4:∀(f n:Nat) (out:List Bd) (z:Z),ZA L z→n≤60→out.length=n→eY out→ZA L (fL ex f n out z).2∧((fL ex f n out z).1.length≤60∧eY (fL ex f n out z).1)∧Ze z (fL ex f n out z).2
 | 0,n,out,z,h,hn,hl,ho=>by rw[fL];exact⟨h,⟨by dsimp only;omega,ho⟩,Ze.refl z⟩
 | f+1,n,out,z,h,hn,hl,ho=>by
  rw[fL];split
  ·rename_i hm;obtain⟨_,g⟩:=fF hm;obtain⟨q,u,_,y⟩:=tH hO (b5 1 (bI bA n z).2).1 0 ((h.more bA n).word (k:=1) (by decide));obtain⟨A,B,E⟩:=r4 f (n+1) _ _ q g (by rw[η,hl];rfl) (mO ho u);exact⟨A,B,(((Ze.more bA n z).trans (Ze.word 1 _)).trans y).trans E⟩
  ·exact⟨h.more _ _,⟨by dsimp only;omega,ho⟩,Ze.more _ _ _⟩
include hwt
theorem aJ6 {z:Z}(h:ZA L z):ZA L (pJ ex z).2∧InOk (pJ ex z).1∧Ze z (pJ ex z).2:=by
 obtain⟨g,q,u⟩:=m7 h hwt;have h2:=((g.word (k:=2) (by decide)).may cE).word (k:=2) (by decide);have y:=((u.trans (Ze.word 2 _)).trans (Ze.may cE _)).trans (Ze.word 2 _);obtain⟨A,B,E⟩:=aAm (gW z).2.2.1 h2;obtain⟨I,J⟩:=aJ7 (gW z) (instV (gW z).2.2.1 (gW z).2.2.2.2) A;obtain⟨M,O,U⟩:=r4 hO ((vA (gW z) (instV (gW z).2.2.1 (gW z).2.2.2.2)).R.length+1) 0 [] _ I (Ad _) rfl trivial;exact⟨M.need _,⟨B,q,O⟩,(y.trans E).trans (J.trans (U.trans (Ze.need _ _)))⟩
end
def aWx:List C:=[.str [],.int .i64 0,.str [],.nl,.nl,.nl]
section
variable {L:List Tk}{ex:Nat→Z→Ex×Z}{N:Nat}(hO:ExO L ex) (hS:ExS L ex N) (hwt:wt L≤30000)
include hO hS hwt
end
def aTc (c:Cn):Prop:=c.fields.length≤4002∧∀x∈c.fields,WF x∧tn x≤30000
theorem aPl {L:List Tk}{z:Z}(h:ZA L z) (hwt:wt L≤30000):ZA L (sY z).2∧aTc (sY z).1∧Ze z (sY z).2:=by
 have h1:=h.word (k:=2) (by decide);have hl:=h1.len;obtain⟨q,g,u,y⟩:=r5 ((b5 2 z).2.R.length+1) [] _ h1 (fun x hx=>by cases hx) (by rw[length_nil];omega);exact⟨q.long _ _ _,⟨y,fun x hx=>⟨(g x hx).1,by have:=(g x hx).2;omega⟩⟩,((Ze.word 2 z).trans u).trans (Ze.long _ _ _ _)⟩
theorem aA4 {L:List Tk}(hwt:wt L≤30000) (a:Int):∀(f:Nat) (out:List Cn) (z:Z),ZA L z→out.length+z.R.length≤4002→(∀c∈out,aTc c)→ZA L (mH f a out z).2∧((mH f a out z).1.length≤4002∧∀c∈(mH f a out z).1,aTc c)∧Ze z (mH f a out z).2
 | 0,out,z,h,hl,ho=>by rw[mH];exact⟨h,⟨by dsimp only;omega,ho⟩,Ze.refl z⟩
 | f+1,out,z,h,hl,ho=>by
  rw[mH];obtain⟨u,y,A⟩:=aPl h hwt;have h2:=u.long (out++[(sY z).1]).length 16 a;have q:=A.trans (Ze.long (out++[(sY z).1]).length 16 a _);have hle:(out++[(sY z).1]).length=out.length+1:=by rw[η];rfl
  have g:∀c∈out++[(sY z).1],aTc c:=fun c hc=>by
   rcases Ay.1 hc with hc | hc
   ·exact ho c hc
   ·rw[Ar.1 hc];exact y
  have J:=h.lp;split
  ·rename_i hm;have M:=eR h2 hm;have O:(cI (out++[(sY z).1]).length 16 a (sY z).2).R.length≤z.R.length:=q;obtain⟨B,E,I⟩:=aA4 hwt a f _ _ (h2.may aDb) (by omega) g;exact⟨B,E,(q.trans (Ze.may _ _)).trans I⟩
  ·exact⟨h2.may aDb,⟨by dsimp only;omega,g⟩,q.trans (Ze.may _ _)⟩
theorem aKi {L:List Tk}{z:Z}(h:ZA L z) (hwt:wt L≤30000):ZA L (oA z).2∧DtOk (oA z).1∧Ze z (oA z).2:=by
 have h1:=h.word (k:=2) (by decide);have g:=eT h1;have h2:ZA L (lM z).2.2:=(h1.words.long _ _ _).need _;have q:Ze z (lM z).2.2:=((Ze.word 2 z).trans (Ze.words _)).trans ((Ze.long _ _ _ _).trans (Ze.need _ _));have hc:ZA L (lN (lM z)).2∧((lN (lM z)).1.length≤4002∧∀c∈(lN (lM z)).1,aTc c)∧Ze (lM z).2.2 (lN (lM z)).2:=by
  unfold lN;split
  ·exact aA4 hwt _ _ [] _ h2 (by rw[length_nil];have:=h2.len;omega) (fun c hc=>by cases hc)
  ·exact⟨h2,⟨Ad _,fun c hc=>(by cases hc)⟩,Ze.refl _⟩
 exact⟨hc.1,⟨by show((lM z).2.1.map _).length≤_;rw[χ];exact g,hc.2.1⟩,q.trans hc.2.2⟩
structure PgOk (n:Nat) (p:Pg):Prop where
 d:p.datas.length≤n∧∀d∈p.datas,DtOk d
 c:p.classes.length≤n∧∀c∈p.classes,ClOk c
 i:p.insts.length≤n∧∀x∈p.insts,InOk x
 b:p.binds.length≤n∧eY p.binds
theorem aId {α:Type}{l:List α}{x:α}{n:Nat}(h:l.length≤n):(l++[x]).length≤n+1:=by rw[η,Bj];omega
theorem yR {α:Type}{P:α→Prop}{l:List α}{x:α}(h:∀y∈l,P y) (hx:P x):∀y∈l++[x],P y:=fun y hy=>by
 rcases Ay.1 hy with hy | hy
 ·exact h y hy
 ·rw[Ar.1 hy];exact hx
section
variable {L:List Tk}{ex:Nat→Z→Ex×Z}(hO:ExO L ex) (hwt:wt L≤30000)
include hO hwt
theorem aA3 {n:Nat}{p:Pg}{sigs:List Sg}{z:Z}(h:ZA L z) (hp:PgOk n p) (hs:fS sigs∧sigs.length≤n):ZA L (jH ex p sigs z).2∧PgOk (n+1) (jH ex p sigs z).1.1∧(fS (jH ex p sigs z).1.2∧(jH ex p sigs z).1.2.length≤n+1)∧((jH ex p sigs z).2.e=0→(jH ex p sigs z).2.R.length<z.R.length)∧Ze z (jH ex p sigs z).2:=by
 obtain⟨u,hc,hi,hb⟩:=hp;have up:∀{m:Nat},m≤n→m≤n+1:=fun h=>Nat.le_succ_of_le h
 unfold jH;split
 ·rename_i hm;have g:=eR h hm;obtain⟨y,A,B⟩:=aKi (h.may nH) hwt;have q:(oA (bP nH z).2).2.R.length≤(bP nH z).2.R.length:=B;exact⟨y,⟨⟨aId u.1,yR u.2 A⟩,⟨up hc.1,hc.2⟩,⟨up hi.1,hi.2⟩,⟨up hb.1,hb.2⟩⟩,⟨hs.1,up hs.2⟩,fun _=>By q g,Cy (By q g)⟩
 split
 ·rename_i hm;have g:=eR h hm;obtain⟨y,A,B⟩:=aGn (h.may iE) hwt;have q:(iD (bP iE z).2).2.R.length≤(bP iE z).2.R.length:=B;exact⟨y,⟨⟨up u.1,u.2⟩,⟨aId hc.1,yR hc.2 A⟩,⟨up hi.1,hi.2⟩,⟨up hb.1,hb.2⟩⟩,⟨hs.1,up hs.2⟩,fun _=>By q g,Cy (By q g)⟩
 split
 ·rename_i hm;have g:=eR h hm;obtain⟨y,A,B⟩:=aJ6 hO hwt (h.may nB);have q:(pJ ex (bP nB z).2).2.R.length≤(bP nB z).2.R.length:=B;exact⟨y,⟨⟨up u.1,u.2⟩,⟨up hc.1,hc.2⟩,⟨aId hi.1,yR hi.2 A⟩,⟨up hb.1,hb.2⟩⟩,⟨hs.1,up hs.2⟩,fun _=>By q g,Cy (By q g)⟩
 ·obtain⟨y,A,B,J,M,E,I⟩:=iC hO hwt sigs p.binds 0 h hs.1 hb.2;exact⟨y,⟨⟨up u.1,u.2⟩,⟨up hc.1,hc.2⟩,⟨up hi.1,hi.2⟩,⟨by show(aS ex sigs p.binds 0 z).1.2.length≤_;omega,B⟩⟩,⟨A,by show(aS ex sigs p.binds 0 z).1.1.length≤_;omega⟩,E,I⟩
end
section
variable {L:List Tk}{ex:Nat→Z→Ex×Z}{N:Nat}(hO:ExO L ex) (hS:ExS L ex N) (hwt:wt L≤30000)
include hO hS hwt
end
theorem aGb {t:Tk}{R:List Tk}(h:mU R):mU (t::R):=by
 obtain⟨p,e,rfl,he⟩:=h;exact⟨t::p,e,rfl,he⟩
theorem aFg {c:UInt8}{r:Str}{k:Int}{t:Str}{v:Int}(h:gG (c::r)=.ok (k,t,v)):(k=4→v=0)∧1≤k∧k≤5:=by
 rw[gG] at h;split at h
 ·split at h
  ·cases h
  ·cases h;exact⟨fun e=>by omega,by decide,by decide⟩
 split at h
 ·unfold m8 at h;split at h
  ·cases h
  split at h
  ·cases h;exact⟨fun e=>by omega,by decide,by decide⟩
  split at h
  ·cases h;exact⟨fun e=>by omega,by decide,by decide⟩
  ·cases h;exact⟨fun e=>by omega,by decide,by decide⟩
 split at h
 ·cases h
 ·cases h;exact⟨fun _=>rfl,by decide,by decide⟩
structure LOk (L:List Tk) (n:Nat):Prop where
 e:mU L
 w:wt L≤7*n+6
 l:L.length≤n+1
 z:nZ L
theorem xT:∀(f a:Nat) (s:Str) (l:List Tk),jJ f a s=.ok l→LOk l s.length
 | 0,a,s,l,h=>by
  rw[jJ] at h;cases h;refine⟨⟨[],_,rfl,rfl⟩,by rw[cB];show 0+6+0≤_;omega,by simp,fun t g=>?_⟩;rw[Ar.1 g];exact fun _=>rfl
 | f+1,a,[],l,h=>by
  rw[jJ] at h;cases h;refine⟨⟨[],_,rfl,rfl⟩,by rw[cB];exact le_refl _,by simp,fun t g=>?_⟩;rw[Ar.1 g];exact fun _=>rfl
 | f+1,a,c::r,l,h=>by
  rw[jJ] at h;split at h
  ·rename_i hb;obtain⟨q,A,B,E⟩:=xT f _ _ l h;rw[Bf] at A B;exact⟨q,by omega,by omega,E⟩
  ·cases ho:gG (c::r) with
   | error e=>rw[ho] at h;cases h
   | ok y=>
    obtain⟨k,t,v⟩:=y;rw[ho] at h;dsimp only at h;cases I:jJ f (a+t.length) ((c::r).drop t.length) with
    | error e=>rw[I,sX] at h;cases h
    | ok l'=>
     rw[I,sX] at h;cases h;obtain⟨q,A,B,E⟩:=xT f _ _ l' I;obtain⟨M,O⟩:=kM ho;obtain⟨J,U,Y⟩:=aFg ho;rw[Bf] at A B;refine⟨aGb q,?_,?_,fun u hu=>?_⟩
     ·rw[cB];show t.length+6+wt l'≤_;omega
     ·rw[Aa];omega
     ·rcases Au.1 hu with rfl | hu
      ·exact J
      ·exact E u hu
theorem aOy {s:Str}{l:List Tk}(h:nA s=.ok l):LOk l s.length∧s.length≤4000:=by
 unfold nA at h;split at h
 ·cases h
 ·exact⟨xT _ _ _ _ h,by omega⟩
theorem sF:∀(f a:Nat) (s:Str) (e p:Int),jJ f a s=.error (e,p)→¬e=0
 | 0,a,s,e,p,h=>by rw[jJ] at h;cases h
 | f+1,a,[],e,p,h=>by rw[jJ] at h;cases h
 | f+1,a,c::r,e,p,h=>by
  rw[jJ] at h;split at h
  ·exact sF f _ _ e p h
  ·cases ho:gG (c::r) with
   | error e'=>
    rw[ho] at h;dsimp only at h;cases h;exact s9 ho
   | ok y=>
    obtain⟨k,t,v⟩:=y;rw[ho] at h;dsimp only at h;cases g:jJ f (a+t.length) ((c::r).drop t.length) with
    | error e'=>obtain⟨e',q⟩:=e';rw[g,sX] at h;cases h;exact sF f _ _ e p g
    | ok l'=>rw[g,sX] at h;cases h
theorem sG {s:Str}{e p:Int}(h:nA s=.error (e,p)):¬e=0:=by
 unfold nA at h;split at h
 ·cases h;decide
 ·exact sF _ _ _ _ _ h
def vL:Tk:=⟨6,[],0,0⟩
def cA (s:Str):List Tk×Z:=match nA s with
 | .ok l=>(l,⟨l,0,0⟩)
 | .error (e,p)=>([vL],⟨[vL],e,p⟩)
theorem kF (s:Str):ZA (cA s).1 (cA s).2∧wt (cA s).1≤30000∧nZ (cA s).1∧(cA s).1=(cA s).2.R:=by
 unfold cA;cases h:nA s with
 | ok l=>
  obtain⟨⟨h1,h2,u,g⟩,y⟩:=aOy h;refine⟨⟨?_,h1,by dsimp only;omega⟩,by dsimp only;omega,g,rfl⟩;show l.drop (l.length-l.length)=l;rw[Cb];rfl
 | error e=>
  obtain⟨e,p⟩:=e;refine⟨⟨rfl,⟨[],vL,rfl,rfl⟩,by show 1≤_;decide⟩,?_,?_,rfl⟩
  ·show wt [vL]≤30000;decide
  ·intro t q;rw[Ar.1 q];exact fun _=>rfl
theorem aLa (s:Str):aV Tryz.prog 19 [Go.AM.T s] [] xP [(700,zO (cA s).1 (cA s).2)]:=by
 have q:=aUc s;unfold cA;have g:= @sG s;generalize nA s=w at q g ⊢;refine bF (n:=21) tok Tryz.func19 rfl rfl rfl ?_;refine sg rfl (sk 1 rfl (kc q ?_));cases w with
 | ok l=>
  unfold aDs atV;refine kz 6 rfl (aA (sg rfl (aB rfl (fun hb=>Bool.noConfusion hb) (fun _=>aD (sgh [(2,.id 700)] rfl ?_)))));have e:zO l ⟨l,0,0⟩=.var 60 [.c (.sl 4 (l.map aI)),.c (.int .i64 0),.c (.int .i64 0),.c (.int .i64 0)]:=by unfold zO;dsimp only;rw[Cb];rfl
  dsimp only;rw[e];exact aF rtT
 | error e=>
  obtain⟨e,p⟩:=e;have he:=g rfl;have d0:(!decide (e=0))=true:=by rw[ψ he];rfl
  unfold aDs atV;exact kz 6 rfl (aA (sg rfl (aB rfl (fun _=>sgh [(1,.all),(4,.id 700)] rfl (aF rtT)) (fun hb=>absurd (hb.symm.trans d0) Bool.noConfusion))))
theorem aT3 {L:List Tk}{z:Z}(h:ZA L z):aV Tryz.prog 21 [xP] [(700,zO L z)] (.tup []) [(700,zO L (lK z))]:=by
 have ho:=iG L z;have hn:=fP h;have q:=eK L z 12 (b4 z).pl;unfold lK;refine bF (n:=15) tok Tryz.func21 rfl rfl rfl ?_;by_cases he:z.e=0
 case neg=>
  rw[ξ (fun k=>he k.1)];rw[ψ he] at ho;refine sk 1 rfl (kc ho ?_);exact ak 6 [(2,.bv false),(7,.bv false)] rfl (az (aB rfl (fun hb=>Bool.noConfusion hb) (fun _=>aD rtN)))
 rw[φ he] at ho;refine sk 1 rfl (kc ho ?_);refine ak 2 [(2,.bv true)] rfl (kcG hn ?_);refine ak 3 [(2,.bv true),(7,.bv true)] rfl (az ?_);by_cases g:(b4 z).kind=6
 ·rw[ξ (fun k=>k.2 g)];have d:(!decide ((b4 z).kind=6))=false:=by rw[φ g];rfl
  exact aB rfl (fun hb=>absurd (hb.symm.trans d) Bool.noConfusion) (fun _=>aD rtN)
 ·rw[θ ⟨he,g⟩];have d:(!decide ((b4 z).kind=6))=true:=by rw[ψ g];rfl
  refine aB rfl (fun _=>aC mixed (ak 2 [] rfl (kc hn ?_))) (fun hb=>absurd (hb.symm.trans d) Bool.noConfusion);refine ak 1 [] rfl (kc q ?_);exact az rtN
def i5 (s:Str):Pg×Z:=if(cA s).2.e=0 then kK (aCw (cA s).2.R.length) (cA s).2 else(zPg,(cA s).2)
def i6 (s:Str):Pg×Int×Int:=if(lK (i5 s).2).e=0 then((i5 s).1,(lK (i5 s).2).e,(lK (i5 s).2).p) else(zPg,(lK (i5 s).2).e,(lK (i5 s).2).p)
theorem zW {L:List Tk}{ex:Nat→Z→Ex×Z}(hO:ExO L ex) (hwt:wt L≤30000):∀(f n:Nat) (p:Pg) (sigs:List Sg) (z:Z),ZA L z→PgOk n p→(fS sigs∧sigs.length≤n)→n≤60→ZA L (m6 ex f n p sigs z).2∧PgOk 60 (m6 ex f n p sigs z).1.1∧(fS (m6 ex f n p sigs z).1.2∧(m6 ex f n p sigs z).1.2.length≤60)
 | 0,n,p,sigs,z,h,hp,hs,hn=>by
  rw[m6];exact⟨h,⟨⟨le_trans hp.d.1 hn,hp.d.2⟩,⟨le_trans hp.c.1 hn,hp.c.2⟩,⟨le_trans hp.i.1 hn,hp.i.2⟩,⟨le_trans hp.b.1 hn,hp.b.2⟩⟩,⟨hs.1,le_trans hs.2 hn⟩⟩
 | f+1,n,p,sigs,z,h,hp,hs,hn=>by
  rw[m6];split
  ·rename_i hm;obtain⟨_,g⟩:=fF hm;obtain⟨q,u,y,_,_⟩:=aA3 hO hwt (h.more [] n) hp hs;exact zW hO hwt f (n+1) _ _ _ q u y g
  ·exact⟨h.more _ _,⟨⟨le_trans hp.d.1 hn,hp.d.2⟩,⟨le_trans hp.c.1 hn,hp.c.2⟩,⟨le_trans hp.i.1 hn,hp.i.2⟩,⟨le_trans hp.b.1 hn,hp.b.2⟩⟩,⟨hs.1,le_trans hs.2 hn⟩⟩
theorem PgOk.z (n:Nat):PgOk n zPg:=⟨⟨Ad _,fun d g=>(by cases g)⟩,⟨Ad _,fun d g=>(by cases g)⟩,⟨Ad _,fun d g=>(by cases g)⟩,⟨Ad _,trivial⟩⟩
theorem xN {L:List Tk}{ex:Nat→Z→Ex×Z}(hO:ExO L ex) (hwt:wt L≤30000) {z:Z}(h:ZA L z):ZA L (kK ex z).2∧PgOk 60 (kK ex z).1:=by
 obtain⟨q,g,u⟩:=zW hO hwt (z.R.length+1) 0 zPg [] z h (.z 0) ⟨fun s hs=>(by cases hs),le_refl _⟩ (Ad _);obtain⟨y,A,B,_⟩:=fT (m6 ex (z.R.length+1) 0 zPg [] z).1.2 (m6 ex (z.R.length+1) 0 zPg [] z).1.1.binds _ q u.1 g.b.2;exact⟨y,⟨g.d,g.c,g.i,⟨by show(cO _ _ _).1.length≤_;rw[B];exact g.b.1,A⟩⟩⟩
mutual
def exB:Ex→Prop
 | .mk f _ _ _ ks _ bs _=>(f=6∨bs=[])∧aPg ks∧aDa bs
def aPg:List Ex→Prop
 | []=>True
 | e::l=>exB e∧aPg l
def bdB:Bd→Prop
 | .mk _ _ _ _ e=>exB e
def aDa:List Bd→Prop
 | []=>True
 | b::l=>bdB b∧aDa l
end
theorem aAy:∀{l:List Ex}{p:Ex},aPg l→exB p→aPg (l++[p])
 | [],_,_,h=>⟨h,trivial⟩
 | _::_,_,h,k=>⟨h.1,aAy h.2 k⟩
theorem aBl:∀{l:List Bd}{p:Bd},aDa l→bdB p→aDa (l++[p])
 | [],_,_,h=>⟨h,trivial⟩
 | _::_,_,h,k=>⟨h.1,aBl h.2 k⟩
theorem aBy:exB zEx:=⟨.inr rfl,trivial,trivial⟩
theorem aAa:∀(l:List Sg) (b:List Bd) (z:Z),aDa b→aDa (cO l b z).1
 | [],b,z,hb=>by rw[cO];exact hb
 | s::l,b,z,hb=>by
  rw[cO];split
  ·split
   ·exact aAa l b _ hb
   ·rename_i k _;split
    ·exact hb
    ·rename_i x hx;split
     ·exact aAa l b _ hb
     ·have q:∀(b:List Bd) (k:Nat) (x:Bd),b[k]?=some x→aDa b→aDa (b.set k (j6 x s.ty)):=fun b=>by
       induction b with
       | nil=>intro k x hx;cases hx
       | cons a b u=>
        intro k x hx hb;cases k with
        | zero=>
         injection hx with hx;subst hx;cases a with
         | mk y pl h g e=>exact⟨hb.1,hb.2⟩
        | succ k=>exact⟨hb.1,u k x hx hb.2⟩
      exact aAa l _ z (q b k x hx hb)
  ·exact hb
def ExB (ex:Nat→Z→Ex×Z):Prop:=∀deep z,exB (ex deep z).1
section
variable {ex:Nat→Z→Ex×Z}(hV:ExB ex)
include hV
theorem aSh (deep:Nat) (z:Z):exB (gS ex deep z).1.1:=by
 unfold gS;split
 ·exact aBy
 split
 ·unfold nJ;split<;>exact⟨.inr rfl,trivial,trivial⟩
 split
 ·exact aBy
 ·exact hV _ _
theorem aNn (deep:Nat) (a:Int):∀(f:Nat) (e:Ex) (z:Z),exB e→exB (eZ ex deep a f e z).1
 | 0,e,z,he=>he
 | f+1,e,z,he=>by
  rw[eZ];split
  ·split
   ·exact he
   ·exact aNn deep a f _ _ ⟨.inr rfl,⟨he,aSh hV deep z,trivial⟩,trivial⟩
  ·exact he
theorem aV6 (a:Int) (deep:Nat) (z:Z):exB (r2 ex a deep z).1:=⟨.inr rfl,⟨hV _ _,trivial⟩,trivial⟩
theorem aUf (g:Tk) (deep:Nat) (z:Z):bdB (dP ex g deep z).1:=by
 show exB (wH (fH g z).1 (ex deep (fH g z).2).1);unfold wH;split
 ·exact hV _ _
 ·exact⟨.inr rfl,⟨hV _ _,trivial⟩,trivial⟩
theorem aKh (sigs:List Sg) (binds:List Bd) (deep:Nat) (z:Z) (hb:aDa binds):aDa (aS ex sigs binds deep z).1.2:=by
 unfold aS;split
 ·exact hb
 ·exact aBl hb (aUf hV _ _ _)
theorem aMx (deep:Nat):∀(f n:Nat) (sigs:List Sg) (binds:List Bd) (z:Z),aDa binds→aDa (eO ex deep f n sigs binds z).1.2
 | 0,n,sigs,binds,z,hb=>hb
 | f+1,n,sigs,binds,z,hb=>by
  rw[eO];split
  ·exact aMx deep f (n+1) _ _ _ (aKh hV sigs binds deep _ hb)
  ·exact hb
theorem aV4 (a:Int) (deep:Nat) (z:Z):exB (r1 ex a deep z).1:=by
 have h1:exB (ex (deep+1) (aQ inS (aCo (l8 ex deep z)).2)).1:=hV _ _;have h2:aDa (l8 ex deep z).1.2:=aMx hV (deep+1) _ 0 [] [] _ trivial;exact⟨.inl rfl,⟨h1,trivial⟩,aAa _ _ _ h2⟩
theorem aNq (deep:Nat):∀(f n:Nat) (ps:List Pt) (ks:List Ex) (z:Z),aPg ks→aPg (eN ex deep f n ps ks z).1.2
 | 0,n,ps,ks,z,g=>g
 | f+1,n,ps,ks,z,g=>by
  rw[eN];split
  ·exact aNq deep f (n+1) _ _ _ (aAy g (hV _ _))
  ·exact g
theorem aTe (a:Int) (deep:Nat) (z:Z):exB (gM ex a deep z).1:=by
 have h1:exB (cP ex deep z).1:=hV _ _;have h2:aPg (fM ex deep (cP ex deep z)).1.2:=aNq hV deep _ 0 [] [(cP ex deep z).1] _ ⟨h1,trivial⟩;exact⟨.inr rfl,h2,trivial⟩
theorem aOm (deep:Nat) (z:Z):exB (fE ex deep z).1:=by
 unfold fE;exact aNn hV deep _ _ _ _ (aSh hV deep z)
omit hV in
theorem aWq (a:Int) (y:Ex×Z) (he:exB y.1):exB (pZ a y).1:=by
 unfold pZ;split
 ·exact⟨.inr rfl,⟨he,trivial⟩,trivial⟩
 ·exact he
theorem aS7:ExB (vJ ex):=fun deep z=>by
 unfold vJ;split
 ·exact aBy
 split
 ·exact aBy
 split
 ·exact aV6 hV _ deep _
 split
 ·exact aV4 hV _ deep _
 split
 ·exact aTe hV _ deep _
 exact aWq _ _ (aOm hV deep z)
end
theorem aM3:∀f,ExB (aCw f)
 | 0=>fun _ _=>aBy
 | f+1=>aS7 (aM3 f)
mutual
def vaR:Pt→List Str
 | .mk f _ _ s l=>(if f=2 then [s] else [])++lT l
def lT:List Pt→List Str
 | []=>[]
 | p::l=>vaR p++lT l
end
theorem yY:∀(l:List Pt) (p:Pt),lT (l++[p])=lT l++vaR p
 | [],p=>by rw[A2,lT,lT,lT,A0,A2]
 | a::l,p=>by rw[A4,lT,lT,yY l p,An]
def bnR (bs:List Bd):List Str:=bs.map Bd.name
def gvR (f:Int) (ps:List Pt) (nb:List Str) (i:Nat):List Str:=
 if f=6 then nb else if f=7∧0<i then((ps[i-1]?).map vaR).getD [] else if f=5 then ps.map Pt.name else []
mutual
def tdE:Ex→List Str→List Ex
 | .mk f pl n s ks ps bs g,inn=>(if f=1∧¬s∈inn then [.mk f pl n s ks ps bs g] else [])++tdB bs (inn++bnR bs)++tdK f ps (bnR bs) 0 ks inn
def tdB:List Bd→List Str→List Ex
 | [],_=>[]
 | .mk _ _ _ _ e::l,inn=>tdE e inn++tdB l inn
def tdK (f:Int) (ps:List Pt) (nb:List Str):Nat→List Ex→List Str→List Ex
 | _,[],_=>[]
 | i,k::l,inn=>tdE k (inn++gvR f ps nb i)++tdK f ps nb (i+1) l inn
end
theorem xG:∀(l:List Bd) (b:Bd) (g:List Str),tdB (l++[b]) g=tdB l g++tdE b.body g
 | [],.mk _ _ _ _ e,g=>by rw[A2,tdB,tdB,tdB,A0,A2];rfl
 | .mk _ _ _ _ e::l,b,g=>by rw[A4,tdB,tdB,xG l b g,An]
theorem xF (f:Int) (ps:List Pt) (q:List Str):∀(l:List Ex) (k:Ex) (i:Nat) (g:List Str),tdK f ps q i (l++[k]) g=tdK f ps q i l g++tdE k (g++gvR f ps q (i+l.length))
 | [],k,i,g=>by rw[A2,tdK,tdK,tdK,A0,A2];rfl
 | a::l,k,i,g=>by
  rw[A4,tdK,tdK,xF f ps q l k (i+1) g,An,Aa,show i+1+l.length=i+(l.length+1) by omega]
def ddS (out:List Str) (s:Str):List Str:=if s∈out then out else out++[s]
def frR (e:Ex):List Str:=((tdE e []).map Ex.name).foldl ddS []
mutual
theorem rM (s:Str):∀(e:Ex) (a b:List Str),(∀x,x∈b↔x∈a∨x=s)→tdE e b=(tdE e a).filter (fun y=>decide (¬y.name=s))
 | .mk f pl n t ks ps E g,a,b,h=>by
  have hx:∀(m:List Str),∀x,x∈b++m↔x∈a++m∨x=s:=fun m x=>by
   rw[Ay,Ay,h x];constructor
   ·rintro((h | h) | h)
    ·exact .inl (.inl h)
    ·exact .inr h
    ·exact .inl (.inr h)
   ·rintro((h | h) | h)
    ·exact .inl (.inl h)
    ·exact .inr h
    ·exact .inl (.inr h)
  rw[tdE,tdE,Bv,Bv,zF s E _ _ (hx _),zE s f ps (bnR E) ks 0 a b h];congr 1;congr 1;by_cases u:f=1∧¬t∈a
  ·rw[θ u];by_cases B:t=s
   ·rw[ξ (fun k=>k.2 ((h t).2 (.inr B)))];rw[Bn (by rw[As];exact fun k=>k B),Ci]
   ·rw[θ ⟨u.1,fun k=>by
     rcases(h t).1 k with k | k
     ·exact u.2 k
     ·exact B k⟩]
    rw[Bo (by rw[As];exact B),Ci]
  ·rw[ξ u,ξ (fun k=>u ⟨k.1,fun q=>k.2 ((h t).2 (.inl q))⟩),Ci]
theorem zF (s:Str):∀(l:List Bd) (a b:List Str),(∀x,x∈b↔x∈a∨x=s)→tdB l b=(tdB l a).filter (fun y=>decide (¬y.name=s))
 | [],_,_,_=>rfl
 | .mk _ _ _ _ e::l,a,b,h=>by rw[tdB,tdB,Bv,rM s e a b h,zF s l a b h]
theorem zE (s:Str) (f:Int) (ps:List Pt) (A:List Str):∀(l:List Ex) (i:Nat) (a b:List Str),(∀x,x∈b↔x∈a∨x=s)→tdK f ps A i l b=(tdK f ps A i l a).filter (fun y=>decide (¬y.name=s))
 | [],_,_,_,_=>rfl
 | k::l,i,a,b,h=>by
  rw[tdK,tdK,Bv,zE s f ps A l (i+1) a b h,rM s k (a++gvR f ps A i) (b++gvR f ps A i) (fun x=>by
   rw[Ay,Ay,h x];constructor
   ·rintro((h | h) | h)
    ·exact .inl (.inl h)
    ·exact .inr h
    ·exact .inl (.inr h)
   ·rintro((h | h) | h)
    ·exact .inl (.inl h)
    ·exact .inr h
    ·exact .inl (.inr h))]
end
theorem aGh (x:Str):∀(l out:List Str),x∈l.foldl ddS out↔x∈out∨x∈l
 | [],out=>by simp
 | a::l,out=>by
  rw[Cw,aGh x l];have:x∈ddS out a↔x∈out∨x=a:=by
   unfold ddS;split
   ·rename_i h;exact⟨.inl,fun k=>k.elim id fun k=>by rw[k];exact h⟩
   ·simp
  rw[this,Au];constructor
  ·rintro((h | h) | h)
   ·exact .inl h
   ·exact .inr (.inl h)
   ·exact .inr (.inr h)
  ·rintro(h | h | h)
   ·exact .inl (.inl h)
   ·exact .inl (.inr h)
   ·exact .inr h
theorem vS (s:Str):∀(l out:List Str),(l.filter (fun y=>decide (¬y=s))).foldl ddS (out.filter (fun y=>decide (¬y=s)))=(l.foldl ddS out).filter (fun y=>decide (¬y=s))
 | [],out=>rfl
 | a::l,out=>by
  rw[Cw,←vS s l];by_cases ha:a=s
  ·rw[Bn (by rw[As];exact fun k=>k ha)];congr 1;unfold ddS;split
   ·rfl
   ·rw[Bv,Bn (by rw[As];exact fun k=>k ha),Ci,A0]
  ·rw[Bo (by rw[As];exact ha),Cw];congr 1;unfold ddS;have hm:a∈out.filter (fun y=>decide (¬y=s))↔a∈out:=by
    rw[mem_filter,As];exact⟨fun h=>h.1,fun h=>⟨h,ha⟩⟩
   by_cases h:a∈out
   ·rw[θ h,θ (hm.2 h)]
   ·rw[ξ h,ξ (fun k=>h (hm.1 k)),Bv,Bo (by rw[As];exact ha),Ci]
theorem aS2 (a:Ex) (pl n:Int) (u s:Str) (p:Pt) (g:Sch) (h:p.name=s):frR (.mk 5 pl n u [a] [p] [] g)=(frR a).filter (fun y=>decide (¬y=s)):=by
 unfold frR;rw[←vS s _ [],Ci];rw[tdE,ξ (fun k=>absurd k.1 (by decide)),tdB,tdK,tdK,A0,A2,A2];rw[show gvR 5 [p] (bnR []) 0=[p.name] from rfl,h,A0,rM s a [] [s] (fun x=>by simp)];congr 1;have hm:∀l:List Ex,(l.filter (fun y=>decide (¬y.name=s))).map Ex.name=(l.map Ex.name).filter (fun y=>decide (¬y=s)):=fun l=>by
  induction l with
  | nil=>rfl
  | cons a l q=>
   by_cases ha:a.name=s
   ·rw[Bn (by rw[As];exact fun k=>k ha),Be,Bn (by rw[As];exact fun k=>k ha),q]
   ·rw[Bo (by rw[As];exact ha),Be,Be,Bo (by rw[As];exact ha),q]
 exact hm _
theorem aGj (a:List Str):∀(l out:List Str),(∀x∈out,¬x∈a)→l.foldl ddS (a++out)=a++(l.filter (fun y=>decide (¬y∈a))).foldl ddS out
 | [],out,_=>rfl
 | x::l,out,h=>by
  rw[Cw];by_cases hx:x∈a
  ·rw[Bn (by rw[As];exact fun k=>k hx)];have:ddS (a++out) x=a++out:=θ (List.mem_append_left _ hx);rw[this];exact aGj a l out h
  ·rw[Bo (by rw[As];exact hx),Cw];have e:ddS (a++out) x=a++ddS out x:=by
    unfold ddS;by_cases ho:x∈out
    ·rw[θ ho,θ (List.mem_append_right _ ho)]
    ·rw[ξ ho,ξ (fun k=>by
      rcases Ay.1 k with k | k
      ·exact hx k
      ·exact ho k),An]
   rw[e];refine aGj a l _ fun y hy=>?_
   unfold ddS at hy;split at hy
   ·exact h y hy
   ·rcases Ay.1 hy with hy | hy
    ·exact h y hy
    ·rw[Ar.1 hy];exact hx
theorem r9 (q:Str→Bool):∀(l out:List Str),(l.filter q).foldl ddS (out.filter q)=(l.foldl ddS out).filter q
 | [],out=>rfl
 | a::l,out=>by
  rw[Cw,←r9 q l];cases ha:q a
  ·rw[Bn (by rw[ha];exact ω)];congr 1;unfold ddS;split
   ·rfl
   ·rw[Bv,Bn (by rw[ha];exact ω),Ci,A0]
  ·rw[Bo ha,Cw];congr 1;unfold ddS;have hm:a∈out.filter q↔a∈out:=by
    rw[mem_filter];exact⟨fun h=>h.1,fun h=>⟨h,ha⟩⟩
   by_cases h:a∈out
   ·rw[θ h,θ (hm.2 h)]
   ·rw[ξ h,ξ (fun k=>h (hm.1 k)),Bv,Bo ha,Ci]
theorem aS3 (a b:Ex) (pl n:Int) (q:Str) (g:Sch):frR (.mk 4 pl n q [a,b] [] [] g)=frR a++(frR b).filter (fun y=>decide (¬y∈frR a)):=by
 have e:tdE (.mk 4 pl n q [a,b] [] [] g) []=tdE a []++tdE b []:=by
  rw[tdE,ξ (fun k=>absurd k.1 (by decide)),tdB,tdK,tdK,tdK,A0,A2,A2];rw[show gvR 4 [] (bnR []) 0=[] from rfl,show gvR 4 [] (bnR []) (0+1)=[] from rfl,A0,A0]
 unfold frR;rw[e,Ai,foldl_append];generalize u:((tdE a []).map Ex.name).foldl ddS []=A;have:=aGj A ((tdE b []).map Ex.name) [] (fun x hx=>by cases hx);rw[A0] at this;rw[this,←r9 (fun y=>decide (¬y∈A)) _ [],Ci]
inductive PT:Ty→Prop where
 | leaf (f:Int) (s:Str) (h:f=0∨f=2∨f=3):PT (.mk f 0 s [])
 | app {a b:Ty} (ha:PT a) (hb:PT b):PT (qA a b)
mutual
def tyW:Ty→Nat
 | .mk _ _ s a=>s.length+8+aMd a
def aMd:List Ty→Nat
 | []=>0
 | t::l=>tyW t+aMd l
end
theorem xD (a b:Ty):tyW (qA a b)=8+(tyW a+tyW b):=by unfold qA;rw[tyW,aMd,aMd,aMd];simp
def aW0 (p:Prd):Nat:=p.cls.length+8+tyW p.ty
def jG (l:List Prd):Nat:=(l.map aW0).sum
def aDp (s:Sch):Nat:=jG s.preds+8+tyW s.ty
structure SchP (s:Sch):Prop where
 t:PT s.ty
 p:∀p∈s.preds,PT p.ty
 l:s.preds.length≤100000
end Go.Proofs.YtkhgpgihmphfdaaGreat
namespace Go.Proofs.YtkhgpgihmphfdaaGreat
open Go
section
set_option maxRecDepth 100000
set_option maxHeartbeats 4000000
def rE (e p:Int):Value:=.iface 161 (.agg #[.int .i64 e,.int .i64 p])
theorem uJ (e p:Int) (w:World):Calls Tryz.prog 134 #[.int .i64 e,.int .i64 p] w fun g w'=>g=.panicked [{ v:=rE e p,recovered:=false }]∧w=w':=by
 go_enter Tryz.func134,Tryz.ntmps134
 go_wp2
 all_goals exact⟨rfl,⟨rfl,rfl⟩⟩
end
open Go.AM
theorem aKs (e p:Int):aBw Tryz.prog 134 [I .i64 e,I .i64 p] [] (rE e p):=by
 intro S μ w vals u q;have g:vals=[.int .i64 e,.int .i64 p]:=by
  simp only[aT] at q;obtain⟨v,vs,rfl,h1,v2,y,rfl,h2,rfl⟩:=q;simp only[aN,aY,Rep] at h1 h2;subst h1 h2;rfl
 subst g;refine(uJ e p w).mono fun A w' ⟨h1,h2⟩=>?_
 subst h2;exact⟨S,μ,[],h1,fun id o ho=>(by cases ho),u⟩
theorem bK (e p:Int):aV Tryz.prog 88 [B true,I .i64 e,I .i64 p] [] (.tup []) []:=by
 refine bF (n:=11) tok Tryz.func88 rfl rfl rfl ?_;exact sg rfl (aB rfl (fun hb=>Bool.noConfusion hb) (fun _=>aD rtN))
theorem bL (e p:Int):aBw Tryz.prog 88 [B false,I .i64 e,I .i64 p] [] (rE e p):=by
 have g:=aKs e p;refine aPa (n:=11) Tryz.func88 rfl rfl rfl rfl ?_;exact sg rfl (aB rfl (fun _=>aC mixed (ak 2 [] rfl (kp g))) (fun hb=>Bool.noConfusion hb))
def rP:V:=.one (.vp 600 0)
def rO (L:List Tk) (z:Z):AObj:=.var 166 [.c (.sl 4 (L.map aI)),.c (.int .i64 ((L.length-z.R.length:Nat):Int))]
def fU (L:List Tk) (res:V) (z:Z) (hs:List (Nat×AObj)):Except Value (V×List (Nat×AObj)):=if z.e=0 then .ok (res,(600,rO L z)::hs) else .error (rE z.e z.p)
theorem b9 {L:List Tk}{res:V}{z:Z}{hs:List (Nat×AObj)}(h:z.e=0):fU L res z hs=.ok (res,(600,rO L z)::hs):=θ h
theorem aJ {L:List Tk}{res:V}{z:Z}{hs:List (Nat×AObj)}(h:¬z.e=0):fU L res z hs=.error (rE z.e z.p):=ξ h
theorem bE.ok {P:Program}{f:FuncId}{args:List V}{hin:List (Nat×AObj)}{L:List Tk}{res:V}{z:Z}{hs:List (Nat×AObj)}(h:bE P f args hin (fU L res z hs)) (he:z.e=0):aV P f args hin res ((600,rO L z)::hs):=by rw[b9 he] at h;exact h
theorem bE.err {P:Program}{f:FuncId}{args:List V}{hin:List (Nat×AObj)}{L:List Tk}{res:V}{z:Z}{hs:List (Nat×AObj)}(h:bE P f args hin (fU L res z hs)) (he:¬z.e=0):aBw P f args hin (rE z.e z.p):=by rw[aJ he] at h;exact h
theorem dS {L:List Tk}{z:Z}(h:ZA L z):aV Tryz.prog 89 [rP] [(600,rO L z)] (tkV (b4 z)) [(600,rO L z)]:=by
 have hl:=bB aI h.now;have g:(L.map aI).length=L.length:=χ _;have q:=h.lt;have u:=h.l;refine bF (n:=13) tok Tryz.func89 rfl rfl rfl ?_;exact sg rfl (sgh [(8,.row (L.length-z.R.length) (aI (b4 z)))] rfl (aF (rtC trw)))
theorem lC {L:List Tk}{z:Z}(h:ZA L z) (s:Str):aV Tryz.prog 135 [rP,Go.AM.T s] [(600,rO L z)] (B (isZ s z)) [(600,rO L z)]:=by
 have hn:=dS h;unfold isZ;generalize b4 z=t at hn ⊢;unfold isK;refine bF (n:=24) tok Tryz.func135 rfl rfl rfl ?_;refine sg rfl (sk 3 rfl (kc hn ?_));refine kz 2 rfl ?_;by_cases g:t.kind=4
 ·have d4:decide (t.kind=4)=true:=φ g;rw[d4,Bool.true_or,Cu];exact sgh [(3,.bv true),(7,.bv true),(8,.bv true),(13,.bv true)] rfl (aF rtT)
 have d4:decide (t.kind=4)=false:=ψ g;rw[d4,B4];by_cases q:t.kind=5
 ·have d5:decide (t.kind=5)=true:=φ q;rw[d5,Cu];exact sgh [(3,.bv false),(7,.bv false),(8,.bv true),(13,.bv true)] rfl (aF rtT)
 ·have d5:decide (t.kind=5)=false:=ψ q;rw[d5,Cs];exact sgh [(3,.bv false),(7,.bv false),(8,.bv false),(13,.bv false)] rfl (aF rtT)
theorem eS {L:List Tk}{z:Z}(h:ZA L z) (he:z.e=0) (s:Str):aV Tryz.prog 93 [rP,Go.AM.T s] [(600,rO L z)] (B (bP s z).1) [(600,rO L (bP s z).2)]:=by
 have hi:=lC h s;have g:= @iV s (b4 z);have y:=h.l;refine bF (n:=20) tok Tryz.func93 rfl rfl rfl ?_;refine sg rfl (sk 2 rfl (kc hi ?_));refine kz 1 rfl (aA (sg rfl ?_));unfold bP;cases u:isZ s z with
 | false=>
  rw[ξ (fun h=>by cases h.2)];exact aB rfl (fun hb=>Bool.noConfusion hb) (fun _=>aD (sg rfl (aF rtT)))
 | true=>
  rw[θ ⟨he,rfl⟩];have q:isK s (b4 z)=true:=u;obtain⟨_,hn⟩:=h.tl (g q) z.e z.p;unfold rO;dsimp only;rw[hn];exact aB rfl (fun _=>agN [] rfl (sg rfl (aF rtT))) (fun hb=>Bool.noConfusion hb)
theorem cU {L:List Tk}{z:Z}(h:ZA L z) (he:z.e=0) (s:Str):bE Tryz.prog 139 [rP,Go.AM.T s] [(600,rO L z)] (fU L (.tup []) (aQ s z) []):=by
 have hm:=eS h he s;have q:= @jX s z;have h1:=h.may s;have u:=gV s z;have hn:=dS h1;have y:aQ s z=if(bP s z).1=true then(bP s z).2 else bR 12 (b4 z).pl z:=rfl
 rw[y];generalize bP s z=m at hm q h1 hn u ⊢;obtain⟨b,g⟩:=m;dsimp only at hm q h1 hn u ⊢;cases b with
 | true=>
  have A:=bK 12 (b4 g).pl;rw[θ rfl,b9 (u.trans he)];refine bF (n:=13) tok Tryz.func139 rfl rfl rfl ?_;refine aC mixed (ak 2 [] rfl (kc hm ?_));refine ak 3 [] rfl (kc hn ?_);refine ak 1 [] rfl (kc A ?_);exact az rtN
 | false=>
  obtain rfl:=q rfl;have B:=bL 12 (b4 g).pl;have E:bR 12 (b4 g).pl g=⟨g.R,12,(b4 g).pl⟩:=θ he;rw[ξ ω,E,aJ (show ¬(12:Int)=0 by decide)];refine aPa (n:=13) Tryz.func139 rfl rfl rfl rfl ?_;refine aC mixed (ak 2 [] rfl (kc hm ?_));refine ak 3 [] rfl (kc hn ?_);refine ak 1 [] rfl (kpD (.tup []) [] B ?_);exact az trivial
end Go.Proofs.YtkhgpgihmphfdaaGreat
namespace Go.Proofs.YtkhgpgihmphfdaaGreat
open Go Go.AM
set_option maxRecDepth 20000
set_option maxHeartbeats 4000000
theorem gN {L:List Tk}{z:Z}(h:ZA L z) (he:z.e=0) (k:Int) (A:¬k=6):bE Tryz.prog 136 [rP,I .i64 k] [(600,rO L z)] (fU L (tkV (b5 k z).1) (b5 k z).2 []):=by
 have hn:=dS h;have q:=h.tl;have B:=h.l;unfold b5;by_cases g:(b4 z).kind=k
 ·have d:decide ((b4 z).kind=k)=true:=φ g;have hm:=bK 12 (b4 z).pl;rw[θ ⟨he,g⟩];dsimp only;rw[b9 (show(Z.mk z.R.tail z.e z.p).e=0 from he)];obtain⟨_,u⟩:=q (by rw[g];exact A) z.e z.p;unfold rO;dsimp only;rw[u];refine bF (n:=27) tok Tryz.func136 rfl rfl rfl ?_;refine sg rfl (sk 3 rfl (kc hn ?_));refine kz 2 rfl (sk 6 rfl ?_);rw[d];refine kc hm ?_;exact az (aA (agN [] rfl (sg rfl (aF (rtC trw)))))
 ·have d:decide ((b4 z).kind=k)=false:=ψ g;have hm:=bL 12 (b4 z).pl;have y:bR 12 (b4 z).pl z=⟨z.R,12,(b4 z).pl⟩:=θ he;rw[ξ (fun h=>g h.2),y];dsimp only;rw[aJ (show ¬(12:Int)=0 by decide)];refine aPa (n:=27) Tryz.func136 rfl rfl rfl rfl ?_;refine sg rfl (sk 3 rfl (kc hn ?_));refine kz 2 rfl (sk 6 rfl ?_);rw[d];exact kp hm
theorem mJ {L:List Tk}{z:Z}(h:ZA L z) (he:z.e=0):aV Tryz.prog 137 [rP] [(600,rO L z)] (.one (.c (.sl 4 ((aZ z).1.map aI)))) [(600,rO L (aZ z).2)]:=by
 refine bF (n:=16) tok Tryz.func137 rfl rfl rfl ?_;refine sg rfl (sg rfl (AWp.sub (Sub.own (t:=3) (id:=500) 167 4 rfl rfl) ?_));refine aA (aE (aL (fun q:List Tk×Z=>mk [(0,rP),(3,.one (.hs 500 0 q.1.length q.1.length))] [(600,rO L q.2),(500,.arr 167 4 (q.1.map aI) 0)]) (fun q=>ZA L q.2∧q.2.e=0∧q.1.length+q.2.R.length≤4001∧q.1++(aZ q.2).1=(aZ z).1∧(aZ q.2).2=(aZ z).2) (fun q=>q.2.R.length) ([],z) ⟨h,he,by dsimp only;have:=h.len;rw[length_nil];omega,rfl,rfl⟩ sl ?_));clear he;rintro⟨out,O⟩ ⟨g,he,hlen,E,I⟩;dsimp only at g he hlen E I ⊢;rw[←E,←I];clear E I;have hout:(out.map aI).length=out.length:=χ _;have hn:=dS g;have hw:=gN g he 1 (by decide);obtain⟨R,e,p⟩:=O;obtain⟨t,R,rfl⟩:=g.e.ne;have he:e=0:=he;have B:b4 (Z.mk (t::R) e p)=t:=rfl;rw[B] at hn;refine aA (sk 3 rfl (kc hn ?_));refine kz 2 rfl (aB rfl (fun hb=>?_) (fun hb=>?_))
 ·have u:t.kind=1:=κ hb;have hl:qF t=true:=hb;have U:b5 1 (Z.mk (t::R) e p)=(t,⟨R,e,p⟩):=by unfold b5;rw[θ ⟨he,u⟩];rfl
  rw[U] at hw;have hw:=bE.ok (z:=⟨R,e,p⟩) hw he;have h2:ZA L ⟨R,e,p⟩:=(g.tl (by rw[B,u];decide) e p).1
  have J:aZ ⟨t::R,e,p⟩=(t::(aZ ⟨R,e,p⟩).1,(aZ ⟨R,e,p⟩).2):=by
   unfold aZ;rw[θ he,θ he];show((t::R).takeWhile qF,Z.mk ((t::R).dropWhile qF) _ _)=_;rw[takeWhile_cons,θ hl,B7,θ hl]
  have M:out.length+(R.length+1)≤4001:=hlen;refine aD (aE (aC mixed (ak 2 [] rfl (kc hw ?_))));refine ak 3 [(3,.all)] rfl (az ?_);have A:out.map aI++[aI t]=(out++[t]).map aI:=by rw[Ai];rfl
  have y:(out++[t]).length=out.length+1:=by rw[η];rfl
  refine⟨(out++[t],⟨R,e,p⟩),⟨h2,he,by dsimp only;rw[y];omega,by rw[J];simp,by rw[J]⟩,B5 _,?_⟩;exact sl (he:=⟨rfl,Go.AM.hs_ren (by rw[y,←hout];rfl) (by rw[y,←hout];rfl),trivial⟩) (hh:=⟨⟨_,rfl,.var rfl⟩,⟨_,rfl,.arrS A⟩,trivial⟩)
 ·have u:¬qF t=true:=fun h=>by rw[show qF t=false from hb] at h;cases h
  refine aG (AWp.sub (Sub.freeze (id:=500) rfl) ?_);refine sg rfl ?_;unfold aZ;rw[θ he];dsimp only;rw[takeWhile_cons,ξ u,A0,B7,ξ u];exact aF (rtH (hsz:=hout.symm) (hlen:=hout.symm))
theorem tA (l:List Tk) (hl:l.length≤4001):aV Tryz.prog 138 [.one (.c (.sl 4 (l.map aI)))] [] (bJ (l.map (·.text))) []:=by
 have q:(l.map aI).length=l.length:=χ _;refine bF (n:=19) tok Tryz.func138 rfl rfl rfl ?_;refine sg rfl (sg rfl (AWp.sub (Sub.own (t:=3) (id:=500) 9 1 rfl rfl) ?_));refine aA (sg rfl (aE (aL (fun i:Nat=>mk [(3,.one (.hs 500 0 i i)),(6,.one (.c (.sl 4 (l.map aI)))),(7,I .i64 ((l.map aI).length:Nat)),(8,I .i64 (i:Nat))] [(500,.arr 9 1 (((l.take i).map (·.text)).map aX) 0)]) (fun i=>i≤l.length) (fun i=>l.length-i) 0 (Ad _) sl ?_)));intro i hi;have g:(((l.take i).map (·.text)).map aX).length=i:=by rw[χ,χ,Aj];omega
 refine sg rfl (aA (aB rfl (fun hb=>?_) (fun hb=>?_)))
 ·have u:=ltD hb q;obtain⟨t,y⟩:=aM u;have E:=bB aI y;have A:((l.take (i+1)).map (·.text)).map aX=((l.take i).map (·.text)).map aX++[[.str t.text]]:=by rw[Bg,y,Ai,Ai];rfl
  exact aD (aA (aE (sgh [(0,.row i (aI t))] rfl (ag [(3,.all)] rfl (agN [] rfl ⟨i+1,u,by dsimp only;omega,sl (he:=⟨Go.AM.hs_ren (congrArg (· +1) g) (congrArg (· +1) g),rfl,rfl,rfl,trivial⟩) (hh:=⟨⟨_,rfl,.arrS A.symm⟩,trivial⟩)⟩)))))
 ·have B:=geD hb q hi;subst B;rw[Ao] at g ⊢;refine aG (AWp.sub (Sub.freeze (id:=500) rfl) ?_);exact sg rfl (aF (rtH (hsz:=g.symm) (hlen:=g.symm)))
theorem aLd {L:List Tk}{z:Z}(h:ZA L z) (he:z.e=0) (hZ:nZ L):bE Tryz.prog 141 [rP] [(600,rO L z)] (fU L (tyV (gR z).1) (gR z).2 []):=by
 have g:=aLc L hZ z.R _ h;have q:=eM (3*z.R.length) 0 z.R;unfold gR;generalize cM (3*z.R.length) 0 z.R=w at g q ⊢;cases w with
 | error e=>
  obtain⟨e,p⟩:=e;have u:=q e p rfl;have hm:=bL e p;have d:decide (e=0)=false:=ψ u;unfold tpV atV at g;dsimp only[atZ];rw[aJ (show ¬(Z.mk z.R e p).e=0 from u)];refine aPa (n:=35) Tryz.func141 rfl rfl rfl rfl ?_;refine sg rfl (sk 10 rfl (kc g ?_));refine kz 9 rfl (sk 7 rfl ?_);rw[d];exact kp hm
 | ok y=>
  obtain⟨x,R'⟩:=y;have hm:=bK 0 0;rw[j5] at g;unfold atV at g;dsimp only[atZ];rw[b9 (show(Z.mk R' z.e z.p).e=0 from he)];refine bF (n:=35) tok Tryz.func141 rfl rfl rfl ?_;refine sg rfl (sk 10 rfl (kc g ?_));refine kz 9 rfl (sk 7 rfl (kc hm ?_));exact az (sg rfl (sg rfl (aF (rtC trw))))
theorem wB {L:List Tk}{z:Z}(h:ZA L z) (he:z.e=0) (hZ:nZ L):bE Tryz.prog 142 [rP] [(600,rO L z)] (fU L (.one (.c (.sl 5 ((bT z).1.map aR)))) (bT z).2 []):=by
 have g:=tG L hZ z.R _ h;have q:= @iB z.R;unfold bT;rw[θ he];generalize cQ z.R=w at g q ⊢;cases w with
 | error e=>
  obtain⟨e,p⟩:=e;have u:=q rfl;have hm:=bL e p;have d:decide (e=0)=false:=ψ u;unfold aRb atV at g;dsimp only[aVw];rw[aJ (show ¬(Z.mk z.R e p).e=0 from u)];refine aPa (n:=35) Tryz.func142 rfl rfl rfl rfl ?_;refine sg rfl (sk 10 rfl (kc g ?_));refine kz 8 rfl (sk 7 rfl ?_);rw[d];exact kp hm
 | ok y=>
  obtain⟨x,R'⟩:=y;have hm:=bK 0 0;rw[n9] at g;unfold atV at g;dsimp only[aVw];rw[b9 (show(Z.mk R' z.e z.p).e=0 from he)];refine bF (n:=35) tok Tryz.func142 rfl rfl rfl ?_;refine sg rfl (sk 10 rfl (kc g ?_));refine kz 8 rfl (sk 7 rfl (kc hm ?_));exact az (sg rfl (sg rfl (aF rtT)))
theorem kS {L:List Tk}{z:Z}(h:ZA L z) (he:z.e=0) (hZ:nZ L) (hwt:wt L≤30000):bE Tryz.prog 145 [rP] [(600,rO L z)] (fU L (.pa (mD (bN z).1)) (bN z).2 []):=by
 have g:=aHm L hZ z.R _ h hwt;have q:= @n3 z.R;unfold bN;rw[θ he];generalize cH z.R=w at g q ⊢;cases w with
 | error e=>
  obtain⟨e,p⟩:=e;have u:=q rfl;have hm:=bL e p;have d:decide (e=0)=false:=ψ u;unfold spV atV at g;dsimp only[aRr];rw[aJ (show ¬(Z.mk z.R e p).e=0 from u)];refine aPa (n:=35) Tryz.func145 rfl rfl rfl rfl ?_;refine sg rfl (sk 10 rfl (kc g ?_));refine kz 9 rfl (sk 7 rfl ?_);rw[d];exact kp hm
 | ok y=>
  obtain⟨x,R'⟩:=y;have hm:=bK 0 0;rw[aMh] at g;unfold atV at g;dsimp only[aRr];rw[b9 (show(Z.mk R' z.e z.p).e=0 from he)];refine bF (n:=35) tok Tryz.func145 rfl rfl rfl ?_;refine sg rfl (sk 10 rfl (kc g ?_));refine kz 9 rfl (sk 7 rfl (kc hm ?_));exact az (sg rfl (sg rfl (aF (rtC trw))))
theorem aHj {L:List Tk}{z:Z}(h:ZA L z):aV Tryz.prog 140 [rP] [(600,rO L z)] (B (aUh z)) [(600,rO L z)]:=by
 have hn:=dS h;have hi:=lC h cE;unfold aUh;refine bF (n:=19) tok Tryz.func140 rfl rfl rfl ?_;refine sg rfl (sk 3 rfl (kc hn ?_));refine kz 2 rfl ?_;by_cases h1:(b4 z).kind=1
 ·have d1:decide ((b4 z).kind=1)=true:=φ h1;rw[d1,Bool.true_or];exact sgh [(2,.bv true),(5,.bv true),(6,.bv true),(9,.bv true)] rfl (aF rtT)
 have d1:decide ((b4 z).kind=1)=false:=ψ h1;rw[d1,B4];by_cases h2:(b4 z).kind=2
 ·have d2:decide ((b4 z).kind=2)=true:=φ h2;rw[d2,Bool.true_or];exact sgh [(2,.bv false),(5,.bv false),(6,.bv true),(9,.bv true)] rfl (aF rtT)
 ·have d2:decide ((b4 z).kind=2)=false:=ψ h2;rw[d2,B4];refine skh 8 [(2,.bv false),(5,.bv false),(6,.bv false)] rfl (kcG hi ?_);exact ak 2 [(6,.bv false),(9,.bv false)] rfl (az (aF rtT))
section
variable {z:Z}(h:¬z.e=0)
include h
theorem kH {s:Str}:bP s z=(false,z):=ξ fun k=>h k.1
theorem kT {k:Int}:(b5 k z).2=z:=by
 unfold b5;rw[ξ (fun k=>h k.1)];exact fD h
theorem kG:aZ z=([],z):=ξ h
theorem dV {n m:Nat}{a:Int}:cI n m a z=z:=by
 unfold cI;split
 ·exact fD h
 ·rfl
theorem rC:bN z=(iJ,z):=ξ h
theorem rD {f:Nat}{out:List Ty}:cN f out z=(out,z):=nS fun k=>h k.1
theorem aHq {s:Str}{n:Nat}:moreA s n z=z:=ξ fun k=>h k.2.1
theorem kU:cL z=z:=ξ h
theorem aLo {s:Str}{n:Nat}:bI s n z=(false,z):=by
 unfold bI;rw[aHq h,kU h,θ (.inl h)]
end
theorem fI {n m:Nat}{a:Int}{z:Z}(h:n≤m):cI n m a z=z:=ξ (by omega)
theorem fJ {n m:Nat}{a:Int}{z:Z}(h:¬n≤m) (he:z.e=0):cI n m a z=⟨z.R,2,a⟩:=(θ (by omega)).trans (θ he)
theorem cG:¬(2:Int)=0:=by decide
theorem wK {W:List Cn×Z}{f:Nat}{a g:Int}{out:List Cn}{fs:List Ty}{z:Z}{m:Nat}(h:¬z.e=0)
  (q:W=if(bP aDb (cI m 16 a (cI fs.length 8 g z))).1=true then mH f a out (bP aDb (cI m 16 a (cI fs.length 8 g z))).2 else(out,(bP aDb (cI m 16 a (cI fs.length 8 g z))).2)):W.2=z:=by
 rw[dV h,dV h,kH h,ξ ω] at q;rw[q]
def aXa:List (Nat×V):=[(0,rP),(2,.one (.vp 2 0)),(3,.one (.vp 3 0)),(5,.one (.vp 5 0)),(7,.one (.vp 7 0)),(8,.one (.vp 8 0))]
def aW9 (L:List Tk) (z:Z) (nm:Tk) (vs:List Tk) (out:List Cn) (cn:Tk) (fs:List Ty):List (Nat×AObj):=[(600,rO L z),(2,.var 172 [.c (.str []),.c (.int .i64 0),.c .nl,.c .nl,.c .nl]),(3,.var 167 ((aI nm).map .c)),(5,.var 172 [.c (.str nm.text),.c (.int .i64 nm.pl),.c (.sl 1 ((vs.map (·.text)).map aX)),.c .nl,.hs 502 0 out.length out.length]),(7,.var 167 ((aI cn).map .c)),(8,.var 188 [.c (.str cn.text),.c (.int .i64 cn.pl),.hs 501 0 fs.length fs.length]),(501,.arr 31 4 (fs.map cF) 0),(502,.arr 188 3 (out.map yB) 0)]
theorem aP6 {L:List Tk}{z:Z}(h:ZA L z) (he:z.e=0) (hZ:nZ L):bE Tryz.prog 94 [rP] [(600,rO L z)] (fU L (.pa (sT (oA z).1)) (oA z).2 []):=by
 have hw:=gN h he 2 (by decide);have h1:=h.word (k:=2) (by decide);unfold oA lM;generalize b5 2 z=x1 at hw h1 ⊢;obtain⟨A,E⟩:=x1;dsimp only at hw h1 ⊢;refine mB (n:=68) tok Tryz.func94 rfl rfl rfl rfl ?_;refine sg rfl ?_;by_cases y:E.e=0
 case neg=>
  have hp:=bE.err hw y;have hb:(lN (A,(aZ E).1,aQ eqS (cI (aZ E).1.length 8 A.pl (aZ E).2))).2=E:=by
   rw[kG y,dV y,bH y];unfold lN;dsimp only;rw[ξ y]
  rw[hb,aJ y];exact sk 1 rfl (kp hp)
 have hw:=bE.ok hw y;have ac:=mJ h1 y;have h2:=h1.words;have ab:(aZ E).2.e=0:=by unfold aZ;rw[θ y];exact y
 have ae:=eT h1;generalize aZ E=x2 at ac h2 ae ab ⊢;obtain⟨vs,z2⟩:=x2;dsimp only at ac h2 ae ab ⊢;have hvk:(vs.map aI).length=vs.length:=χ _;refine sk 1 rfl (kc hw ?_);refine kz 2 rfl (sk 1 rfl (kc ac ?_));refine kz 1 rfl ?_;by_cases hv8:vs.length≤8
 case neg=>
  have d:decide (((vs.length:Nat):Int)≤8)=false:=ψ (by omega);have hb:(lN (A,vs,aQ eqS (cI vs.length 8 A.pl z2))).2=⟨z2.R,2,A.pl⟩:=by
   rw[fJ hv8 ab,bH cG];unfold lN;dsimp only;rw[ξ cG]
  rw[hb,aJ cG];have hm:=bL 2 A.pl;refine sk 5 rfl ?_;rw[hvk,d];exact kp hm
 have d:decide (((vs.length:Nat):Int)≤8)=true:=φ (by omega);have hm:=bK 2 A.pl;rw[fI hv8];refine sk 5 rfl ?_;rw[hvk,d];refine kc hm ?_;refine az ?_;have htx:=tA vs ae;refine sk 5 rfl (kc htx ?_);refine kz 3 rfl ?_;have aa:=cU h2 ab eqS;have h4:=h2.need eqS;generalize aQ eqS z2=z4 at aa h4 ⊢;by_cases U:z4.e=0
 case neg=>
  have hp:=bE.err aa U;have hb:(lN (A,vs,z4)).2=z4:=by unfold lN;dsimp only;rw[ξ U]
  rw[hb,aJ U];exact sk 1 rfl (kp hp)
 have aa:=bE.ok aa U;refine sk 1 rfl (kc aa ?_);refine az (aA (sg rfl (AWp.sub (Sub.ownCell (x:=5) (k:=4) (id:=502) 188 3 rfl rfl rfl) ?_)));have hWx:∃W,W=lN (A,vs,z4):=⟨_,rfl⟩
 obtain⟨W,u⟩:=hWx;rw[←u];have hlen4:=h4.len;have u:W=mH (z4.R.length+1) A.pl [] z4:=by rw[u];exact θ U
 refine aE (aL (fun q:Bool×List Cn×Z×Nat=>mk [(0,rP),(2,.one (.vp 2 0)),(3,.one (.vp 3 0)),(5,.one (.vp 5 0)),(6,B q.1)] [(600,rO L q.2.2.1),(2,.var 172 [.c (.str []),.c (.int .i64 0),.c .nl,.c .nl,.c .nl]),(3,.var 167 ((aI A).map .c)),(5,.var 172 [.c (.str A.text),.c (.int .i64 A.pl),.c (.sl 1 ((vs.map (·.text)).map aX)),.c .nl,.hs 502 0 q.2.1.length q.2.1.length]),(502,.arr 188 3 (q.2.1.map yB) 0)]) (fun q=>ZA L q.2.2.1∧q.2.2.1.e=0∧((q.1=true∧W=mH q.2.2.2 A.pl q.2.1 q.2.2.1∧q.2.2.1.R.length<q.2.2.2∧q.2.1.length+q.2.2.1.R.length≤4001)∨(q.1=false∧W=(q.2.1,q.2.2.1)))) (fun q=>if q.1=true then q.2.2.1.R.length+1 else 0) (true,[],z4,z4.R.length+1) ⟨h4,U,.inl ⟨rfl,u,by dsimp only;omega,by dsimp only;rw[length_nil];omega⟩⟩ sl ?_);clear u hw h1 ac h2 htx h4 U ab y aa hm h he hlen4;rintro⟨more,out,z0,f⟩ ⟨h,he,hinv⟩;dsimp only at h he hinv ⊢;have hout:(out.map yB).length=out.length:=χ _;refine aA (sg rfl ?_);rcases hinv with⟨hm,u,hf,hol⟩ | ⟨hm,u⟩
 case inr=>
  subst hm;refine aB rfl (fun hb=>absurd hb (by decide)) (fun _=>aG (AWp.sub (Sub.freeze (id:=502) rfl) ?_));refine sg rfl ?_;rw[u,b9 he];exact aF (rtC trw)
 subst hm;obtain⟨f,rfl⟩:∃g,f=g+1:=⟨f-1,by omega⟩
 rw[mH] at u;unfold sY at u;have hw:=gN h he 2 (by decide);have h1:=h.word (k:=2) (by decide);have l1:=Ze.word 2 z0;generalize b5 2 z0=x1 at hw h1 l1 u;obtain⟨I,E⟩:=x1;dsimp only at hw h1 l1 u;refine aB rfl (fun _=>aD ?_) (fun hb=>absurd hb (by decide));by_cases y:E.e=0
 case neg=>
  have hp:=bE.err hw y;rw[rD y] at u;rw[wK y u,aJ y];exact aA (aE (sk 1 rfl (kp hp)))
 have hw:=bE.ok hw y;refine aA (aE (sk 1 rfl (kc hw ?_)));refine kz 2 rfl (sg rfl (AWp.sub (Sub.ownCell (x:=8) (k:=2) (id:=501) 31 4 rfl rfl rfl) ?_));have hlen1:=h1.len;have hFx:∃F,F=cN (E.R.length+1) [] E:=⟨_,rfl⟩
 obtain⟨F,J⟩:=hFx;rw[←J] at u;refine aA (aE (aL (fun q:List Ty×Z×Nat=>mk aXa (aW9 L q.2.1 A vs out I q.1)) (fun q=>ZA L q.2.1∧q.2.1.e=0∧F=cN q.2.2 q.1 q.2.1∧q.2.1.R.length<q.2.2∧q.1.length+q.2.1.R.length≤4001∧q.2.1.R.length≤E.R.length) (fun q=>q.2.1.R.length+1) ([],E,E.R.length+1) ⟨h1,y,J,by dsimp only;omega,by dsimp only;rw[length_nil];omega,le_refl _⟩ sl ?_));clear J hw h1 hlen1 y h he;rintro⟨fs,z,g⟩ ⟨h,he,J,hg,hol2,hk4⟩;dsimp only at h he J hg hol2 hk4 ⊢;have af:(fs.map cF).length=fs.length:=χ _;have hbg:=aHj h;refine aA (sk 1 rfl (kc hbg ?_));refine az (aB rfl (fun hb=>?_) (fun hb=>?_))
 ·have ha:=aLd h he hZ;obtain⟨g1,g2,g3,g4,g5⟩:=aBp h;obtain⟨g,rfl⟩:∃k,g=k+1:=⟨g-1,by omega⟩
  rw[cN,θ ⟨he,hb⟩] at J;have hlp:=h.lp;generalize gR z=x at ha g1 g2 g3 g4 g5 J;obtain⟨x,z'⟩:=x;dsimp only at ha g1 g2 g3 g4 g5 J;refine aD ?_;by_cases Y:z'.e=0
  case neg=>
   have hp:=bE.err ha Y;rw[rD Y] at J;rw[J] at u;rw[wK Y u,aJ Y];refine aE (aC mixed (ak 3 [] rfl (kpD (tyV zTy) [(600,rO L z)] hp ?_)));exact ak 4 [(1,.all)] rfl (az trivial)
  have ha:=bE.ok ha Y;refine aE (aC mixed (ak 3 [] rfl (kc ha ?_)));refine ak 4 [(1,.all)] rfl (az ?_);have M:fs.map cF++[cF x]=(fs++[x]).map cF:=by rw[Ai];rfl
  have hle:(fs++[x]).length=fs.length+1:=by rw[η];rfl
  have g5':z'.R.length≤z.R.length:=g5;have hlt:=g4 Y;refine⟨(fs++[x],z',g),⟨g1,Y,J,by dsimp only;omega,by dsimp only;rw[hle];omega,by dsimp only;omega⟩,by dsimp only;omega,?_⟩;exact sl (he:=⟨rfl,rfl,rfl,rfl,rfl,rfl,trivial⟩) (hh:=⟨⟨_,rfl,.var rfl⟩,⟨_,rfl,.var rfl⟩,⟨_,rfl,.var rfl⟩,⟨_,rfl,.var rfl⟩,⟨_,rfl,.var rfl⟩,⟨_,rfl,.var (by rw[hle,←af];rfl)⟩,⟨_,rfl,.arrS M⟩,⟨_,rfl,Go.AM.Ole.arr⟩,trivial⟩)
 ·have hb':¬(z.e=0∧aUh z=true):=fun hh=>by rw[hh.2] at hb;cases hb
  rw[nS hb'] at J;subst J;dsimp only at u;refine aG (AWp.sub (Sub.freeze (id:=501) rfl) ?_);refine AWp.sub (vp 8 [.str I.text,.int .i64 I.pl,.sl 4 (fs.map cF)] (hp:=.c .refl (.c .refl (.hs rfl af.symm (Go.AM.take_all af.symm) .nil)))) ?_;by_cases hf8:fs.length≤8
  case neg=>
   have d:decide ((((fs.map cF).length:Nat):Int)≤8)=false:=ψ (by omega);rw[fJ hf8 he,dV cG,kH cG,ξ ω] at u;rw[u,aJ cG];have hm:=bL 2 I.pl;refine sk 6 rfl ?_;rw[d];exact kp hm
  rw[fI hf8] at u;have d:decide ((((fs.map cF).length:Nat):Int)≤8)=true:=φ (by omega);have hm:=bK 2 I.pl;refine sk 6 rfl ?_;rw[d];refine kc hm ?_;refine az ?_;have M:out.map yB++[[.str I.text,.int .i64 I.pl,.sl 4 (fs.map cF)]]=(out++[(⟨I.text,I.pl,fs⟩:Cn)]).map yB:=by rw[Ai];rfl
  have hle:(out++[(⟨I.text,I.pl,fs⟩:Cn)]).length=out.length+1:=by rw[η];rfl
  generalize hO:out++[(⟨I.text,I.pl,fs⟩:Cn)]=O at u M hle;refine sgh [(3,.all)] rfl (AWp.sub (st2:=mk [(0,rP),(2,.one (.vp 2 0)),(3,.one (.vp 3 0)),(5,.one (.vp 5 0))] [(600,rO L z),(2,.var 172 [.c (.str []),.c (.int .i64 0),.c .nl,.c .nl,.c .nl]),(3,.var 167 ((aI A).map .c)),(5,.var 172 [.c (.str A.text),.c (.int .i64 A.pl),.c (.sl 1 ((vs.map (·.text)).map aX)),.c .nl,.hs 502 0 O.length O.length]),(502,.arr 188 3 (O.map yB) 0)]) (sl (hh:=⟨⟨_,rfl,.var rfl⟩,⟨_,rfl,.var rfl⟩,⟨_,rfl,.var rfl⟩,⟨_,rfl,.var (by rw[hle,←hout];rfl)⟩,⟨_,rfl,.arrS M⟩,trivial⟩)) ?_);by_cases ho:O.length≤16
  case neg=>
   have d:decide (((O.length:Nat):Int)≤16)=false:=ψ (by omega);rw[fJ ho he,kH cG,ξ ω] at u;rw[u,aJ cG];have hm:=bL 2 A.pl;refine aC mixed (ak 6 [] rfl ?_);rw[d];exact kp hm
  rw[fI ho] at u;have d:decide (((O.length:Nat):Int)≤16)=true:=φ (by omega);have hm:=bK 2 A.pl;refine aC mixed (ak 6 [] rfl ?_);rw[d];refine kc hm ?_;refine az ?_;have hm:=eS h he aDb;have h7:=h.may aDb;have ad:=(gV aDb z).trans he;have l7:=eR h (s:=aDb);generalize bP aDb z=m at hm h7 l7 u ad;obtain⟨b,z7⟩:=m;dsimp only at hm h7 l7 u ad;refine aC mixed (ak 1 [] rfl (kc hm ?_));refine kz 1 rfl ?_;have l1':E.R.length≤z0.R.length:=l1;cases b with
  | true=>
   rw[θ rfl] at u;have:=l7 rfl;exact⟨(true,O,z7,f),⟨h7,ad,.inl ⟨rfl,u,by dsimp only;omega,by dsimp only;omega⟩⟩,by dsimp only;rw[θ rfl,θ rfl];omega,sl⟩
  | false=>
   rw[ξ (by decide)] at u;exact⟨(false,O,z7,f),⟨h7,ad,.inr ⟨rfl,u⟩⟩,by dsimp only;rw[ξ (by decide),θ rfl];omega,sl⟩
def aL6 (L:List Tk):Prop:=∀t∈L,¬t.kind=3→t.n=0
theorem aJv {c:UInt8}{r:Str}{k:Int}{t:Str}{v:Int}(h:gG (c::r)=.ok (k,t,v)) (g:¬k=3):v=0:=by
 rw[gG] at h;split at h
 ·split at h
  ·cases h
  ·cases h;exact absurd rfl g
 split at h
 ·unfold m8 at h;split at h
  ·cases h
  split at h
  ·cases h;rfl
  split at h
  ·cases h;rfl
  ·cases h;rfl
 split at h
 ·cases h
 ·cases h;rfl
theorem sE:∀(f a:Nat) (s:Str) (l:List Tk),jJ f a s=.ok l→aL6 l
 | 0,a,s,l,h=>by
  rw[jJ] at h;cases h;intro t g;rw[Ar.1 g];exact fun _=>rfl
 | f+1,a,[],l,h=>by
  rw[jJ] at h;cases h;intro t g;rw[Ar.1 g];exact fun _=>rfl
 | f+1,a,c::r,l,h=>by
  rw[jJ] at h;split at h
  ·exact sE f _ _ l h
  ·cases ho:gG (c::r) with
   | error e=>rw[ho] at h;cases h
   | ok y=>
    obtain⟨k,t,v⟩:=y;rw[ho] at h;dsimp only at h;cases q:jJ f (a+t.length) ((c::r).drop t.length) with
    | error e=>rw[q,sX] at h;cases h
    | ok l'=>
     rw[q,sX] at h;cases h;intro u hu;rcases Au.1 hu with rfl | hu
     ·exact aJv ho
     ·exact sE f _ _ l' q u hu
theorem ZA.mem {L:List Tk}{z:Z}(h:ZA L z):b4 z∈L:=by
 obtain⟨R,e',g⟩:=z;obtain⟨t,R,rfl⟩:=h.e.ne;exact At.mem h
def aW1 (z:Z):Pt:=.mk 0 (b4 z).pl 0 (b4 z).text []
def aI8 (y:(Pt×Bool)×Z) (z:Z):Pt:=if y.1.2=true then y.1.1 else aW1 z
def aIi (L:List Tk) (f:Nat):Prop:=∀(o:Nat) (z:Z),ZA L z→z.e=0→3*z.R.length≤f→o≤40→bE Tryz.prog 231 [rP,I .i64 (o:Nat)] [(600,rO L z)] (fU L (.tup [.pa (bO (aI8 (b7 f o z) z)),B (b7 f o z).1.2]) (b7 f o z).2 [])
def aQ1 (L:List Tk) (f:Nat):Prop:=∀(o:Nat) (z:Z),ZA L z→z.e=0→3*z.R.length+1≤f→o≤40→bE Tryz.prog 227 [rP,I .i64 (o:Nat)] [(600,rO L z)] (fU L (.pa (bO (gF f o z).1)) (gF f o z).2 [])
theorem aJt {L:List Tk}{z:Z}(h:ZA L z) (q:¬(b4 z).kind=6):rO L (tlZ z)=.var 166 [.c (.sl 4 (L.map aI)),.c (.int .i64 ((L.length-z.R.length+1:Nat):Int))]:=by
 obtain⟨_,g⟩:=h.tl q z.e z.p;unfold rO tlZ;dsimp only;rw[g]
theorem aG2 (L:List Tk) (hN:aL6 L) (f:Nat) (ih:aQ1 L f):aIi L (f+1):=by
 intro o z h he hf ho40;rw[b7,ξ (fun k=>k he)];have hn:=dS h;have J:=hN _ h.mem;have u:=fun hk=>aJt h hk
 have hLl:=h.l;have hm:=lC h xC;have hi:=lC h cE;have U:bP xC z=if isZ xC z=true then(true,tlZ z) else(false,z):=by
  unfold bP;by_cases hu:isZ xC z=true
  ·rw[θ ⟨he,hu⟩,θ hu];rfl
  ·rw[ξ (fun k=>hu k.2),ξ hu]
 have Y:isZ xC z=true→¬(b4 z).kind=6:=iV;have aa:isZ cE z=true→¬(b4 z).kind=6:=iV;have A:isZ cE z=true→aQ cE z=tlZ z:=aFk he;have h1:=h.need cE;have hle:(aQ cE z).e=0∨isZ cE z=false:=by
  cases hb:isZ cE z with
  | true=>left;rw[A hb];exact he
  | false=>exact .inr rfl
 have htl:=oQ h;have ab:aW1 z=.mk 0 (b4 z).pl 0 (b4 z).text []:=rfl;refine mB (n:=77) tok Tryz.func231 rfl rfl rfl rfl ?_;refine sg rfl (sk 3 rfl (kc hn ?_));refine kz 2 rfl (sg rfl ?_);rw[U];generalize ht:b4 z=t at J ab u Y aa ⊢;clear hn U;refine aA (aE (sg rfl ?_));by_cases M:t.kind=1
 ·have d:decide (t.kind=1)=true:=φ M;have B:¬t.kind=6:=by omega
  rw[θ (show 0<t.kind∧t.kind<4 by omega)];unfold aI8;dsimp only;rw[θ rfl,b9 (show(tlZ z).e=0 from he),u B,J (by omega)];unfold j8 gD;rw[θ M,ξ (by omega)];unfold rO;exact aB rfl (fun _=>ag [] rfl (aA (agN [] rfl (sg rfl (aF oD))))) (fun hb=>absurd (hb.symm.trans d) Bool.noConfusion)
 refine aB rfl (fun hb=>absurd (κ hb) M) (fun _=>sg rfl ?_);by_cases O:t.kind=2
 ·have d:decide (t.kind=2)=true:=φ O;have B:¬t.kind=6:=by omega
  rw[θ (show 0<t.kind∧t.kind<4 by omega)];unfold aI8;dsimp only;rw[θ rfl,b9 (show(tlZ z).e=0 from he),u B,J (by omega)];unfold j8 gD;rw[ξ M,θ O,ξ (by omega)];unfold rO;exact aB rfl (fun _=>ag [] rfl (aA (agN [] rfl (sg rfl (aF oD))))) (fun hb=>absurd (hb.symm.trans d) Bool.noConfusion)
 refine aB rfl (fun hb=>absurd (κ hb) O) (fun _=>sg rfl ?_);by_cases k3:t.kind=3
 ·have d:decide (t.kind=3)=true:=φ k3;have B:¬t.kind=6:=by omega
  rw[θ (show 0<t.kind∧t.kind<4 by omega)];unfold aI8;dsimp only;rw[θ rfl,b9 (show(tlZ z).e=0 from he),u B];unfold j8 gD;rw[ξ M,ξ O,θ k3];unfold rO;exact aB rfl (fun _=>ag [] rfl (aA (agN [] rfl (sg rfl (aF oD))))) (fun hb=>absurd (hb.symm.trans d) Bool.noConfusion)
 refine aB rfl (fun hb=>absurd (κ hb) k3) (fun _=>?_);rw[ξ (show ¬(0<t.kind∧t.kind<4) by omega)];refine sk 1 rfl (kc hm ?_);refine kz 1 rfl ?_;cases hu:isZ xC z with
 | true=>
  rw[θ rfl,θ rfl];unfold aI8;dsimp only;rw[θ rfl,b9 (show(tlZ z).e=0 from he),u (Y hu)];unfold rO;exact aB rfl (fun _=>ag [] rfl (aA (agN [] rfl (sg rfl (aF oD))))) (fun hb=>Bool.noConfusion hb)
 | false=>
 rw[ξ ω];dsimp only;rw[ξ ω];refine aB rfl (fun hb=>Bool.noConfusion hb) (fun _=>sk 1 rfl (kc hi ?_));refine kz 1 rfl ?_;cases hl:isZ cE z with
 | false=>
  rw[θ rfl];unfold aI8;dsimp only;rw[ξ ω,b9 he,ab];exact aB rfl (fun hb=>Bool.noConfusion hb) (fun _=>sg rfl (aF oD))
 | true=>
 rw[ξ (by decide)];have A:=A hl;refine aB rfl (fun _=>?_) (fun hb=>Bool.noConfusion hb);by_cases ho:40≤o
 ·have d:decide (((o:Nat):Int)<40)=false:=ψ (by omega);have hmn:=bL 13 t.pl;rw[θ ho];unfold bR;rw[θ he];dsimp only;rw[aJ (show ¬(13:Int)=0 by decide)];refine sk 4 rfl ?_;rw[d];exact kp hmn
 have d:decide (((o:Nat):Int)<40)=true:=φ (by omega);have hmo:=bK 13 t.pl;rw[ξ ho];refine sk 4 rfl ?_;rw[d];refine kc hmo ?_;refine az ?_;rw[A];rw[A] at h1;have hp:=ih (o+1) (tlZ z) h1 he (by omega) (by omega);obtain⟨g1,_⟩:=(gE L f).2.1 (o+1) (tlZ z) h1;have ac:=u (aa hl);unfold rO at ac;unfold rO;refine aA (agN [] rfl ?_);unfold rO at hp;rw[ac] at hp;generalize gF f (o+1) (tlZ z)=y at hp g1 ⊢;obtain⟨q,z2⟩:=y;dsimp only at hp g1 ⊢;unfold aI8;dsimp only;rw[θ rfl];by_cases E:z2.e=0
 case neg=>
  have hp:=bE.err hp E;rw[bH E,aJ E];exact aA (aC mixed (akN 3 [] rfl (kp hp)))
 have hp:=bE.ok hp E;refine aA (aC mixed (akN 3 [] rfl (kc hp ?_)));refine akN 1 [] rfl (az ?_);have g:=cU g1 E lX;generalize aQ lX z2=z3 at g ⊢;by_cases I:z3.e=0
 case neg=>
  have hp:=bE.err g I;rw[aJ I];exact sk 1 rfl (kp hp)
 have g:=bE.ok g I;rw[b9 I];refine sk 1 rfl (kc g ?_);exact az (sg rfl (aF oD))
theorem aLp {f o:Nat}{out:List Pt}{z:Z}(h:¬z.e=0):dW f o out z=(out,z):=by
 cases f with
 | zero=>rfl
 | succ f=>rw[dW,ξ h]
theorem aTm (L:List Tk) (hN:aL6 L) (f:Nat) (ihS:∀g,g≤f→aIi L g):aQ1 L (f+1):=by
 intro o z h he hf J;have hn:=dS h;have hnm:=hN _ h.mem;have hlp:=h.lp;rw[gF];refine mB (n:=58) tok Tryz.func227 rfl rfl rfl rfl ?_;refine sg rfl (sk 3 rfl (kc hn ?_));refine kz 2 rfl (aA (sg rfl ?_));by_cases E:(b4 z).kind=2
 ·obtain⟨f,rfl⟩:∃g,f=g+1:=⟨f-1,by omega⟩
  have M:b7 (f+1) o z=((.mk (j8 (b4 z)) (b4 z).pl (b4 z).n (gD (b4 z)) [],true),tlZ z):=by
   rw[b7,ξ (fun k=>k he),θ (by omega)]
  rw[M,ξ (show ¬(true=false) from fun k=>Bool.noConfusion k),θ ⟨E,he⟩];have h1:=h.tlp (by rw[E];decide);have hrt:=aJt h (by rw[E];decide);have htl:=oQ h;have hlen:=h.len;have hLl:=h.l;have u:∃W,W=dW (f+1) o [] (tlZ z):=⟨_,rfl⟩
  obtain⟨W,u⟩:=u;rw[←u,hnm (by omega)];generalize b4 z=t at hn E M hnm ⊢;have d:(!decide (t.kind=2))=false:=by rw[φ E];rfl
  refine aB rfl (fun hb=>absurd (hb.symm.trans d) Bool.noConfusion) (fun _=>aD ?_);unfold rO;refine aA (agN [] rfl ?_);rw[←hrt];refine sg rfl (AWp.sub (Sub.ownCell (x:=8) (k:=4) (id:=501) 43 10 rfl rfl rfl) ?_);refine aE (aL (fun q:List Pt×Z×Nat=>mk [(0,rP),(1,I .i64 (o:Nat)),(4,.one (.vp 4 0)),(8,.one (.vp 8 0))] [(600,rO L q.2.1),(4,.var 43 (aRk.map .c)),(8,.var 43 [.c (.int .i64 4),.c (.int .i64 t.pl),.c (.int .i64 0),.c (.str t.text),.hs 501 0 q.1.length q.1.length,.c (.int .i64 0),.c (.int .i64 0),.c (.str []),.c .nl,.c .nl]),(501,.arr 43 10 (q.1.map bO) 0)]) (fun q=>ZA L q.2.1∧q.2.1.e=0∧W=dW q.2.2 o q.1 q.2.1∧q.2.2≤f+1∧3*q.2.1.R.length+1≤q.2.2∧q.1.length+q.2.1.R.length≤4001) (fun q=>q.2.1.R.length+1) ([],tlZ z,f+1) ⟨h1,he,u,le_refl _,by dsimp only;omega,by dsimp only;rw[length_nil];omega⟩ sl ?_);clear u hn M htl h1 hrt hlp hlen he hf h;rintro⟨out,U,g⟩ ⟨Y,O,u,hgf,hg,hol⟩;dsimp only at Y O u hgf hg hol ⊢;have hout:(out.map bO).length=out.length:=χ _;obtain⟨g,rfl⟩:∃k,g=k+1:=⟨g-1,by omega⟩
  rw[dW,θ O] at u;have hs:=ihS g (by omega) o U Y O (by omega) J;obtain⟨g1,_,g3,g4⟩:=(gE L g).1 o U Y;have hlp:=Y.lp;unfold aI8 at hs;generalize b7 g o U=y at hs g1 g3 g4 u;obtain⟨⟨q,b⟩,z2⟩:=y;dsimp only at hs g1 g3 g4 u;by_cases A:z2.e=0
  case neg=>
   have hp:=bE.err hs A;have hb:W.2=z2:=by
    rw[aLp A] at u;rw[u];split<;>rfl
   rw[hb,aJ A];exact aE (sk 2 rfl (kp hp))
  have hs:=bE.ok hs A;refine aE (sk 2 rfl (kc hs ?_));refine kz 6 rfl (aA (sg rfl ?_));cases b with
  | false=>
   rw[θ rfl] at u;refine aB rfl (fun _=>AWp.sub (Sub.freeze (id:=501) rfl) ?_) (fun hb=>Bool.noConfusion hb);refine sg rfl ?_;rw[u];dsimp only;rw[b9 A];unfold bO;rw[mE (Pt.mk _ _ _ _ _)];exact aF (rtC trw (hc:=.agg (.c .refl (.c .refl (.c .refl (.c .refl (.hs rfl hout.symm (Go.AM.take_all hout.symm) (.c .refl (.c .refl (.c .refl (.c .nl (.c .nl .nil))))))))))))
  | true=>
   rw[ξ (show ¬(true=false) from fun k=>Bool.noConfusion k)] at u;have hrows:out.map bO++[bO q]=(out++[q]).map bO:=by rw[Ai];rfl
   have hle:(out++[q]).length=out.length+1:=by rw[η];rfl
   have g4':z2.R.length≤U.R.length:=g4;have g3':=g3 rfl A;rw[θ rfl];refine aB rfl (fun hb=>Bool.noConfusion hb) (fun _=>aD (ag [(3,.all)] rfl ⟨(out++[q],z2,g),⟨g1,A,u,by dsimp only;omega,by dsimp only;omega,by dsimp only;rw[hle];omega⟩,by dsimp only;omega,?_⟩));exact sl (he:=⟨rfl,rfl,rfl,rfl,trivial⟩) (hh:=⟨⟨_,rfl,.var rfl⟩,⟨_,rfl,.var rfl⟩,⟨_,rfl,.var (by rw[hle,←hout];rfl)⟩,⟨_,rfl,.arrS hrows⟩,trivial⟩)
 have d:(!decide ((b4 z).kind=2))=true:=by rw[ψ E];rfl
 refine aB rfl (fun _=>?_) (fun hb=>absurd (hb.symm.trans d) Bool.noConfusion);rw[ξ (show ¬((b4 z).kind=2∧z.e=0) from fun k=>E k.1)];have hs:=ihS f (le_refl _) o z h he (by omega) J;unfold aI8 at hs;generalize b7 f o z=y at hs ⊢;obtain⟨⟨q,b⟩,z1⟩:=y;dsimp only at hs ⊢;by_cases B:z1.e=0
 case neg=>
  have hp:=bE.err hs B;have hb:(if b=false then(zPt,bR 12 (b4 z).pl z1) else(q,z1)).2=z1:=by
   rw[fD B];split<;>rfl
  rw[hb,aJ B];exact sk 2 rfl (kp hp)
 have hs:=bE.ok hs B;refine sk 2 rfl (kc hs ?_);refine kz 6 rfl ?_;cases b with
 | false=>
  have hm:=bL 12 (b4 z).pl;rw[θ rfl];unfold bR;rw[θ B];dsimp only;rw[aJ (show ¬(12:Int)=0 by decide)];exact sk 3 rfl (kp hm)
 | true=>
  have hm:=bK 12 (b4 z).pl;rw[ξ (show ¬(true=false) from fun k=>Bool.noConfusion k),θ rfl];dsimp only;rw[b9 B];refine sk 3 rfl (kc hm ?_);exact az (sg rfl (aF (rtC trw)))
theorem aVy (L:List Tk) (hN:aL6 L):∀f,(∀g,g≤f→aIi L g)∧∀g,g≤f→aQ1 L g:=by
 intro f
 induction f with
 | zero=>exact⟨fun g u o z h he y ho=>by have:=h.lp;omega,fun g u o z h he y ho=>by have:=h.lp;omega⟩
 | succ f q=>
  refine⟨fun g u=>?_,fun g u=>?_⟩
  ·by_cases h:g≤f
   ·exact q.1 g h
   ·rw[show g=f+1 by omega];exact aG2 L hN f (q.2 f (le_refl _))
  ·by_cases h:g≤f
   ·exact q.2 g h
   ·rw[show g=f+1 by omega];exact aTm L hN f q.1
theorem aA9 (l:List Tk) (hl:l.length≤4001):aV Tryz.prog 193 [.one (.c (.sl 4 (l.map aI)))] [] (.one (.c (.sl 10 ((fR l).map bO)))) []:=by
 have q:(l.map aI).length=l.length:=χ _;refine bF (n:=22) tok Tryz.func193 rfl rfl rfl ?_;refine sg rfl (sg rfl (AWp.sub (Sub.own (t:=3) (id:=500) 43 10 rfl rfl) ?_));refine aA (sg rfl (aE (aL (fun i:Nat=>mk [(3,.one (.hs 500 0 i i)),(6,.one (.c (.sl 4 (l.map aI)))),(7,I .i64 ((l.map aI).length:Nat)),(8,I .i64 (i:Nat))] [(500,.arr 43 10 ((fR (l.take i)).map bO) 0)]) (fun i=>i≤l.length) (fun i=>l.length-i) 0 (Ad _) sl ?_)));intro i hi;have g:((fR (l.take i)).map bO).length=i:=by rw[χ,oN,Aj];omega
 refine sg rfl (aA (aB rfl (fun hb=>?_) (fun hb=>?_)))
 ·have u:=ltD hb q;obtain⟨t,y⟩:=aM u;have E:=bB aI y;have A:(fR (l.take (i+1))).map bO=(fR (l.take i)).map bO++[bO (.mk 2 t.pl 0 t.text [])]:=by
   unfold fR;rw[Bg,y,Ai,Ai];rfl
  exact aD (aA (aE (sgh [(0,.row i (aI t))] rfl (ag [(6,.all)] rfl (agN [] rfl ⟨i+1,u,by dsimp only;omega,sl (he:=⟨Go.AM.hs_ren (congrArg (· +1) g) (congrArg (· +1) g),rfl,rfl,rfl,trivial⟩) (hh:=⟨⟨_,rfl,.arrS A.symm⟩,trivial⟩)⟩)))))
 ·have B:=geD hb q hi;subst B;rw[Ao] at g ⊢;refine aG (AWp.sub (Sub.freeze (id:=500) rfl) ?_);exact sg rfl (aF (rtH (hsz:=g.symm) (hlen:=g.symm)))
def aNs (L:List Tk) (ex:Nat→Z→Ex×Z) (N:Nat):Prop:=∀(deep:Nat) (z:Z),ZA L z→z.e=0→z.R.length≤N→deep≤41→bE Tryz.prog 192 [rP,I .i64 (deep:Nat)] [(600,rO L z)] (fU L (.pa (bC (ex deep z).1)) (ex deep z).2 [])
def tQ (ex:Nat→Z→Ex×Z):Prop:=∀(deep:Nat) (z:Z),¬z.e=0→(ex deep z).2=z
theorem sP:∀f,tQ (aCw f)
 | 0=>fun _ _ h=>fD h
 | f+1=>fun deep z h=>by
  show(vJ (aCw f) deep z).2=z;unfold vJ;rw[θ h]
theorem aOu {s:Str}{z:Z}(he:z.e=0):bP s z=if isZ s z=true then(true,tlZ z) else(false,z):=by
 unfold bP;by_cases hu:isZ s z=true
 ·rw[θ ⟨he,hu⟩,θ hu];rfl
 ·rw[ξ (fun k=>hu k.2),ξ hu]
section
variable {L:List Tk}{ex:Nat→Z→Ex×Z}{N:Nat}(hO:ExO L ex) (hB:tQ ex) (hS:aNs L ex N)
include hO hS
theorem aG6 (deep:Nat) {z:Z}(h:ZA L z) (he:z.e=0) (hN:z.R.length≤N+1) (hd:deep≤40):bE Tryz.prog 218 [rP,I .i64 (deep:Nat)] [(600,rO L z)] (fU L (.tup [.pa (bC (gS ex deep z).1.1),B (gS ex deep z).1.2]) (gS ex deep z).2 []):=by
 unfold gS;rw[ξ (fun k=>k he)];have hn:=dS h;have hm:=eS h he cE;have hLl:=h.l;have u:=fun hk=>aJt h hk
 refine mB (n:=73) tok Tryz.func218 rfl rfl rfl rfl ?_;refine sg rfl (sk 3 rfl (kc hn ?_));refine kz 2 rfl (aA (sg rfl ?_));generalize ht:b4 z=t at u ⊢;refine aE (sg rfl ?_);by_cases M:t.kind=1
 ·have d:decide (t.kind=1)=true:=φ M;rw[θ (show 0<t.kind∧t.kind<4 by omega)];dsimp only;rw[b9 (show(tlZ z).e=0 from he),u (by omega)];have O:nJ t=.mk 1 t.pl 0 t.text [] [] [] iJ:=by unfold nJ;rw[ξ (by omega),M]
  rw[O];unfold rO;exact aB rfl (fun _=>aA (agN [] rfl (sg rfl (aF oD)))) (fun hb=>absurd (hb.symm.trans d) Bool.noConfusion)
 refine aB rfl (fun hb=>absurd (κ hb) M) (fun _=>sg rfl ?_);by_cases U:t.kind=2
 ·have d:decide (t.kind=2)=true:=φ U;rw[θ (show 0<t.kind∧t.kind<4 by omega)];dsimp only;rw[b9 (show(tlZ z).e=0 from he),u (by omega)];have O:nJ t=.mk 2 t.pl 0 t.text [] [] [] iJ:=by unfold nJ;rw[ξ (by omega),U]
  rw[O];unfold rO;exact aB rfl (fun _=>aA (agN [] rfl (sg rfl (aF oD)))) (fun hb=>absurd (hb.symm.trans d) Bool.noConfusion)
 refine aB rfl (fun hb=>absurd (κ hb) U) (fun _=>sg rfl ?_);by_cases Y:t.kind=3
 ·have d:decide (t.kind=3)=true:=φ Y;rw[θ (show 0<t.kind∧t.kind<4 by omega)];dsimp only;rw[b9 (show(tlZ z).e=0 from he),u (by omega)];unfold nJ;rw[θ Y];unfold rO;exact aB rfl (fun _=>aA (agN [] rfl (sg rfl (aF oD)))) (fun hb=>absurd (hb.symm.trans d) Bool.noConfusion)
 refine aB rfl (fun hb=>absurd (κ hb) Y) (fun _=>aD ?_);rw[ξ (show ¬(0<t.kind∧t.kind<4) by omega)];have h1:=h.may cE;have J:=eR h (s:=cE);have e1:=(gV cE z).trans he;have E:= @jX cE z;generalize bP cE z=m at hm h1 J e1 E ⊢;obtain⟨b,z1⟩:=m;dsimp only at hm h1 J e1 E ⊢;refine aA (sk 1 rfl (kc hm ?_));refine kz 1 rfl ?_;cases b with
 | false=>
  obtain rfl:=E rfl;rw[θ rfl];dsimp only;rw[b9 he];exact aB rfl (fun _=>sg rfl (aF oD)) (fun hb=>Bool.noConfusion hb)
 | true=>
  rw[ξ (by decide)];have J:=J rfl;have hx:=hS (deep+1) z1 h1 e1 (by omega) (by omega);obtain⟨g1,_⟩:=hO (deep+1) z1 h1;generalize ex (deep+1) z1=y at hx g1 ⊢;obtain⟨b,z2⟩:=y;dsimp only at hx g1 ⊢;refine aB rfl (fun hb=>Bool.noConfusion hb) (fun _=>aD ?_);by_cases g:z2.e=0
  case neg=>
   have hp:=bE.err hx g;rw[bH g,aJ g];exact aA (aC mixed (akN 3 [] rfl (kp hp)))
  have hx:=bE.ok hx g;refine aA (aC mixed (akN 3 [] rfl (kc hx ?_)));refine akN 2 [] rfl (az ?_);have q:=cU g1 g lX;generalize aQ lX z2=z3 at q ⊢;by_cases A:z3.e=0
  case neg=>
   have hp:=bE.err q A;rw[aJ A];exact sk 1 rfl (kp hp)
  have q:=bE.ok q A;rw[b9 A];refine sk 1 rfl (kc q ?_);exact az (sg rfl (aF oD))
omit hO
include hB
theorem aTu (a:Int) (deep:Nat) {z:Z}(h:ZA L z) (he:z.e=0) (hN:z.R.length≤N) (hd:deep≤40):bE Tryz.prog 215 [rP,I .i64 a,I .i64 (deep:Nat)] [(600,rO L z)] (fU L (.pa (bC (r2 ex a deep z).1)) (r2 ex a deep z).2 []):=by
 obtain⟨u,O,g3⟩:=xX a h;have q:=hS (deep+1) (r3 a z).2 u;have g:=hB (deep+1) (r3 a z).2;have A:(r3 a z).2.R.length≤N:=le_trans g3 hN;unfold r2;generalize hy:ex (deep+1) (r3 a z).2=y at q g ⊢;obtain⟨b,z6⟩:=y;dsimp only at q g ⊢;unfold r3 at q g u O A ⊢;dsimp only at q g u O A ⊢;have U:=mJ h he;have h1:=h.words;have B:(aZ z).2.e=0:=by unfold aZ;rw[θ he];exact he
 generalize aZ z=w at q g u O A U h1 B ⊢;obtain⟨l,z1⟩:=w;dsimp only at q g u O A U h1 B ⊢;have hn:=dS h1;have Y:(l.map aI).length=l.length:=χ _;have hv:=aA9 l O;refine mB (n:=35) tok Tryz.func215 rfl rfl rfl rfl ?_;refine sg rfl (sk 1 rfl (kc U ?_));refine kz 1 rfl ?_;by_cases hl:l=[]
 ·subst hl;rw[θ rfl] at g;unfold bR at g;rw[θ B,dV (show ¬(12:Int)=0 by decide),bH (show ¬(12:Int)=0 by decide)] at g;rw[g (show ¬(12:Int)=0 by decide),aJ (show ¬(12:Int)=0 by decide)];have hm:=bL 12 (b4 z1).pl;refine sk 6 rfl (kc hn ?_);exact ak 1 [] rfl (kp hm)
 rw[ξ hl] at q g u A;have d0:decide ((0:Int)<((l.length:Nat):Int))=true:=φ (by have:=length_pos_iff.2 hl;omega);have hm:=bK 12 (b4 z1).pl;refine sk 6 rfl (kc hn ?_);refine ak 1 [] rfl ?_;rw[Y,d0];refine kc hm ?_;refine az ?_;by_cases aa:l.length≤8
 case neg=>
  have d:decide (((l.length:Nat):Int)≤8)=false:=ψ (by omega);rw[fJ aa B,bH cG] at g;rw[g cG,aJ cG];have hm:=bL 2 a;refine sk 4 rfl ?_;rw[Y,d];exact kp hm
 have d:decide (((l.length:Nat):Int)≤8)=true:=φ (by omega);have hm:=bK 2 a;rw[fI aa] at q g u A;refine sk 4 rfl ?_;rw[Y,d];refine kc hm ?_;refine az ?_;have E:=cU h1 B arrow;generalize aQ arrow z1=z3 at E q g u A;by_cases J:z3.e=0
 case neg=>
  have hp:=bE.err E J;rw[g J,aJ J];exact sk 1 rfl (kp hp)
 have E:=bE.ok E J;refine sk 1 rfl (kc E ?_);refine az ?_;have q:=q J A (by omega);refine sk 2 rfl (kc hv ?_);refine akN 3 [] rfl ?_;by_cases M:z6.e=0
 case neg=>
  have hp:=bE.err q M;rw[aJ M];exact kp hp
 have q:=bE.ok q M;rw[b9 M];refine kc q ?_;exact ak 3 [(7,.all)] rfl (az (aF (rtC trw)))
theorem tF (u:Tk) (deep:Nat) {z:Z}(h:ZA L z) (he:z.e=0) (hN:z.R.length≤N) (hd:deep≤41):bE Tryz.prog 150 [rP,tkV u,I .i64 (deep:Nat)] [(600,rO L z)] (fU L (.pa (b8 (dP ex u deep z).1)) (dP ex u deep z).2 []):=by
 obtain⟨E,U,g3⟩:=tI u h;have q:=hS deep (fH u z).2 E;have g:=hB deep (fH u z).2;have J:(fH u z).2.R.length≤N:=le_trans g3 hN;unfold dP;generalize hy:ex deep (fH u z).2=y at q g ⊢;obtain⟨b,z6⟩:=y;dsimp only at q g ⊢;unfold fH at q g E U J ⊢;dsimp only at q g E U J ⊢;have Y:=mJ h he;have h1:=h.words;have M:(aZ z).2.e=0:=by unfold aZ;rw[θ he];exact he
 generalize aZ z=w at q g E U J Y h1 M ⊢;obtain⟨l,z1⟩:=w;dsimp only at q g E U J Y h1 M ⊢;have aa:(l.map aI).length=l.length:=χ _;have hv:=aA9 l U;refine mB (n:=40) tok Tryz.func150 rfl rfl rfl rfl ?_;refine sg rfl (sk 1 rfl (kc Y ?_));refine kz 1 rfl ?_;by_cases ab:l.length≤8
 case neg=>
  have d:decide (((l.length:Nat):Int)≤8)=false:=ψ (by omega);rw[fJ ab M,bH cG] at g;rw[g cG,aJ cG];have hm:=bL 2 u.pl;refine sk 5 rfl ?_;rw[aa,d];exact kp hm
 have d:decide (((l.length:Nat):Int)≤8)=true:=φ (by omega);have hm:=bK 2 u.pl;rw[fI ab] at q g E J;refine sk 5 rfl ?_;rw[aa,d];refine kc hm ?_;refine az ?_;have A:=cU h1 M eqS;generalize aQ eqS z1=z3 at A q g E J;by_cases B:z3.e=0
 case neg=>
  have hp:=bE.err A B;rw[g B,aJ B];exact sk 1 rfl (kp hp)
 have A:=bE.ok A B;refine sk 1 rfl (kc A ?_);refine az ?_;have q:=q B J hd;by_cases O:z6.e=0
 case neg=>
  have hp:=bE.err q O;rw[aJ O];exact sk 2 rfl (kp hp)
 have q:=bE.ok q O;rw[b9 O];refine sk 2 rfl (kc q ?_);refine kz 2 rfl (aA (sg rfl ?_));cases l with
 | nil=>
  exact aB rfl (fun hb=>Bool.noConfusion hb) (fun _=>aD (sg rfl (aF (rtC trw))))
 | cons t l=>
  have d0:decide ((0:Int)<(((t::l).map aI).length:Int))=true:=φ (by rw[aa,Aa];omega);have ht:((t::l).map aI)[0]?=some (aI t):=rfl;refine aB rfl (fun _=>aC mixed (ak 5 [(1,.row 0 (aI t))] rfl (kc hv ?_))) (fun hb=>absurd (hb.symm.trans d0) Bool.noConfusion);exact ak 4 [(7,.all)] rfl (az (sg rfl (aF (rtC trw))))
end
end Go.Proofs.YtkhgpgihmphfdaaGreat
