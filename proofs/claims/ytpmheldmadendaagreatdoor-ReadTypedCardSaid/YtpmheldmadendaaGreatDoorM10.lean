/-
  Texts Rd41 to Re4 in one.
-/
import Derived.Test.YtpmheldmadendaaGreatDoorM9
open List (cons_append drop_append_of_le_length drop_eq_getElem_cons drop_eq_nil_of_le drop_length filter_append length_append length_cons length_drop length_filter_le length_map length_nil length_singleton length_take map_append map_cons map_map map_nil map_set mem_append mem_cons mem_cons_of_mem mem_cons_self mem_singleton not_mem_nil take_add_one take_append_of_le_length take_length take_succ_cons)
open Nat (le_of_lt le_refl le_trans lt_irrefl lt_of_le_of_lt lt_succ_self sub_self zero_le)
namespace Go.Proofs.YtpmheldmadendaaGreatDoor
open Go Go.AM
set_option maxRecDepth 20000
set_option maxHeartbeats 4000000
structure Cl where
 name:Str
 pl:Int
 var:Str
 supers:List Str
 methods:List Sg
structure In where
 cls:Str
 pl:Int
 con:Str
 vars:List Str
 preds:List Prd
 binds:List Bd
structure Pg where
 datas:List Dt
 classes:List Cl
 insts:List In
 binds:List Bd
def gW (c:Cl):List C:=[.str c.name,.int .i64 c.pl,.str c.var,.sl 1 [],.sl 1 (c.supers.map b7),.sl 9 (c.methods.map cI)]
def jK (x:In):List C:=[.str x.cls,.int .i64 x.pl,.str x.con,.sl 1 (x.vars.map b7),.sl 5 (x.preds.map aN),.sl 33 (x.binds.map b8)]
def nV (p:Pg):List C:=[.sl 5 (p.datas.map gV),.sl 6 (p.classes.map gW),.sl 6 (p.insts.map jK),.sl 33 (p.binds.map b8)]
def zPg:Pg:=⟨[],[],[],[]⟩
def jB:Str:=[100,97,116,97]
def eF:Str:=[99,108,97,115,115]
def iX:Str:=[105,110,115,116,97,110,99,101]
def bY (v:Str) (a:Int):List Prd→List Str→Z→List Str×Z
 | [],out,z=>(out,z)
 | p::l,out,z=>if z.e=0 then bY v a l (out++[p.cls]) (if p.ty.form=2∧p.ty.name=v then z else bS 12 a z) else(out,z)
def rD (cls v:Str) (s:Sch):Sch:=⟨v::s.vars.filter (fun x=>!decide (x=v)),⟨cls,.mk 2 0 v []⟩::s.preds,s.ty⟩
def iV (cls v:Str) (z:Z):Sg×Z:=(⟨(aS 1 z).1.text,(aS 1 z).1.pl,rD cls v (bK (aQ dR (aS 1 z).2)).1⟩,(bK (aQ dR (aS 1 z).2)).2)
def dQ (cls v:Str) (a:Int):Nat→Nat→List Sg→Z→List Sg×Z
 | 0,_,out,z=>(out,z)
 | f+1,n,out,z=>if(aW aV n z).1=true then dQ cls v a f (n+1) (out++[(iV cls v (aW aV n z).2).1]) (c8 (out++[(iV cls v (aW aV n z).2).1]).length 16 a (iV cls v (aW aV n z).2).2) else(out,(aW aV n z).2)
def cC (z:Z):List Prd×Tk×Tk×Z:=((bM z).1,(aS 2 (bM z).2).1,(aS 1 (aS 2 (bM z).2).2).1,(aS 1 (aS 2 (bM z).2).2).2)
def fY (y:List Prd×Tk×Tk×Z):List Str×Z:=((bY y.2.2.1.text y.2.1.pl y.1 [] y.2.2.2).1,aQ cY (bY y.2.2.1.text y.2.1.pl y.1 [] y.2.2.2).2)
def jM (y:List Prd×Tk×Tk×Z) (w:List Str×Z):List Sg×Z:=dQ y.2.1.text y.2.2.1.text y.2.1.pl (w.2.R.length+1) 0 [] w.2
def eE (z:Z):Cl×Z:=(⟨(cC z).2.1.text,(cC z).2.1.pl,(cC z).2.2.1.text,(fY (cC z)).1,(jM (cC z) (fY (cC z))).1⟩,aQ aV (jM (cC z) (fY (cC z))).2)
def dJ (a:Int):List Prd→Z→Z
 | [],z=>z
 | p::l,z=>dJ a l (if z.e=0∧¬p.ty.form=2 then bS 12 a z else z)
def eA (z:Z):List Prd×Tk×Bool×Tk×Z:=
 ((bM z).1,(aS 2 (bM z).2).1,(bT bI (aS 2 (bM z).2).2).1,(aS 2 (bT bI (aS 2 (bM z).2).2).2).1,(aS 2 (bT bI (aS 2 (bM z).2).2).2).2)
def instV (b:Bool) (z:Z):List Str×Z:=if b=true then((aU z).1.map (·.text),aQ c6 (aU z).2) else([],z)
def nS (y:List Prd×Tk×Bool×Tk×Z) (w:List Str×Z):Z:=aQ cY (dJ y.2.1.pl y.1 (if w.2.e=0 then c8 w.1.length 8 y.2.1.pl w.2 else w.2))
section
variable (ex:Nat→Z→Ex×Z)
def cM:Nat→Nat→List Bd→Z→List Bd×Z
 | 0,_,out,z=>(out,z)
 | f+1,n,out,z=>if(aW aV n z).1=true then cM f (n+1) (out++[(cP ex (aS 1 (aW aV n z).2).1 0 (aS 1 (aW aV n z).2).2).1]) (cP ex (aS 1 (aW aV n z).2).1 0 (aS 1 (aW aV n z).2).2).2 else(out,(aW aV n z).2)
def rJ (z:Z):List Bd×Z:=cM ex (z.R.length+1) 0 [] z
def kA (z:Z):In×Z:=
 (⟨(eA z).2.1.text,(eA z).2.1.pl,(eA z).2.2.2.1.text,(instV (eA z).2.2.1 (eA z).2.2.2.2).1,(eA z).1,(rJ ex (nS (eA z) (instV (eA z).2.2.1 (eA z).2.2.2.2))).1⟩,
  aQ aV (rJ ex (nS (eA z) (instV (eA z).2.2.1 (eA z).2.2.2.2))).2)
def cS (p:Pg) (sigs:List Sg) (z:Z):(Pg×List Sg)×Z:=
 if(bT jB z).1=true then((⟨p.datas++[(jL (bT jB z).2).1],p.classes,p.insts,p.binds⟩,sigs),(jL (bT jB z).2).2)
 else if(bT eF z).1=true then((⟨p.datas,p.classes++[(eE (bT eF z).2).1],p.insts,p.binds⟩,sigs),(eE (bT eF z).2).2)
 else if(bT iX z).1=true then((⟨p.datas,p.classes,p.insts++[(kA ex (bT iX z).2).1],p.binds⟩,sigs),(kA ex (bT iX z).2).2)
 else((⟨p.datas,p.classes,p.insts,(aY ex sigs p.binds 0 z).1.2⟩,(aY ex sigs p.binds 0 z).1.1),(aY ex sigs p.binds 0 z).2)
def dW:Nat→Nat→Pg→List Sg→Z→(Pg×List Sg)×Z
 | 0,_,p,sigs,z=>((p,sigs),z)
 | f+1,n,p,sigs,z=>if(aW [] n z).1=true then dW f (n+1) (cS ex p sigs (aW [] n z).2).1.1 (cS ex p sigs (aW [] n z).2).1.2 (cS ex p sigs (aW [] n z).2).2 else((p,sigs),(aW [] n z).2)
def nP (y:(Pg×List Sg)×Z):Pg×Z:=(⟨y.1.1.datas,y.1.1.classes,y.1.1.insts,(cF y.1.2 y.1.1.binds y.2).1⟩,(cF y.1.2 y.1.1.binds y.2).2)
def cT (z:Z):Pg×Z:=nP (dW ex (z.R.length+1) 0 zPg [] z)
end
def n1 (z:Z):Z:=if z.e=0∧¬(b6 z).kind=6 then bS 12 (b6 z).pl z else z
def sgO (s:Sg):Prop:=WF s.ty.ty∧tn s.ty.ty≤30000∧(∀p∈s.ty.preds,WF p.ty∧tn p.ty≤30000)∧s.ty.preds.length≤4002∧s.ty.vars.length≤120060001
structure ClOk (c:Cl):Prop where
 s:c.supers.length≤4001
 m:c.methods.length≤60∧∀m∈c.methods,sgO m
structure InOk (x:In):Prop where
 v:x.vars.length≤4001
 p:x.preds.length≤4001∧∀p∈x.preds,WF p.ty∧tn p.ty≤30000
 b:x.binds.length≤60∧eV x.binds
structure DtOk (d:Dt):Prop where
 v:d.vars.length≤4001
 c:d.cons.length≤4002∧∀c∈d.cons,c.fields.length≤4002∧∀x∈c.fields,WF x∧tn x≤30000
theorem oQ {L:List Tk}(v:Str) (a:Int):∀(l:List Prd) (out:List Str) (z:Z),ZA L z→ZA L (bY v a l out z).2∧(bY v a l out z).1.length≤out.length+l.length∧Ze z (bY v a l out z).2
 | [],out,z,h=>⟨h,le_refl _,Ze.refl z⟩
 | p::l,out,z,h=>by
  rw[bY];split
  ·have h1:ZA L (if p.ty.form=2∧p.ty.name=v then z else bS 12 a z)∧Ze z (if p.ty.form=2∧p.ty.name=v then z else bS 12 a z):=by
    split
    ·exact⟨h,Ze.refl z⟩
    ·exact⟨h.fail _ _,Ze.fail _ _ z⟩
   obtain⟨g1,g2,g3⟩:=oQ v a l (out++[p.cls]) _ h1.1;exact⟨g1,by rw[θ,Bl] at g2;rw[χ];omega,h1.2.trans g3⟩
  ·exact⟨h,by rw[χ];dsimp only;omega,Ze.refl z⟩
theorem rL {L:List Tk}(a:Int):∀(l:List Prd) (z:Z),ZA L z→ZA L (dJ a l z)∧Ze z (dJ a l z)
 | [],z,h=>⟨h,Ze.refl z⟩
 | p::l,z,h=>by
  rw[dJ];have h1:ZA L (if z.e=0∧¬p.ty.form=2 then bS 12 a z else z)∧Ze z (if z.e=0∧¬p.ty.form=2 then bS 12 a z else z):=by
   split
   ·exact⟨h.fail _ _,Ze.fail _ _ z⟩
   ·exact⟨h,Ze.refl z⟩
  obtain⟨g1,g2⟩:=rL a l _ h1.1;exact⟨g1,h1.2.trans g2⟩
theorem jJ {L:List Tk}{z:Z}(h:ZA L z) (hwt:wt L≤30000):ZA L (bM z).2∧((bM z).1.length≤4001∧∀p∈(bM z).1,WF p.ty∧tn p.ty≤30000)∧Ze z (bM z).2:=by
 refine⟨h.preds,?_⟩;have hw:=h.wt;have hl:=h.len;unfold bM;split
 ·cases hs:cR z.R with
  | error e=>obtain⟨e,p⟩:=e;exact⟨⟨ε _,fun p hp=>(by cases hp)⟩,Ze.refl z⟩
  | ok y=>
   obtain⟨s,R'⟩:=y;obtain⟨_,⟨p,h2,_⟩,q,r⟩:=mB hs;refine⟨⟨by show s.length≤_;omega,fun p hp=>⟨(q p hp).1,by have:=(q p hp).2;omega⟩⟩,?_⟩;show R'.length≤_;rw[h2,θ];omega
 ·exact⟨⟨ε _,fun p hp=>(by cases hp)⟩,Ze.refl z⟩
theorem vQ {L:List Tk}{z:Z}(h:ZA L z) (hwt:wt L≤30000) (k:Int):(aS k z).1.text.length≤29994:=by
 have hw:=h.wt;obtain⟨R,e,p⟩:=z;obtain⟨t,R,rfl⟩:=h.e.ne;unfold aS;split
 ·show t.text.length≤_;have hw:wt (t::R)≤wt L:=hw;rw[hY] at hw;omega
 ·exact ε _
theorem aMf (cls v:Str) {s:Sch}(h:SchOk s) (hv:v.length≤29994) (t:Str) (a:Int):sgO ⟨t,a,rD cls v s⟩:=by
 refine⟨h.t.1,h.t.2,fun p hp=>?_,?_,?_⟩
 ·rcases Au.1 hp with rfl | hp
  ·exact⟨⟨rfl,rfl⟩,by show tn (.mk 2 0 v [])≤_;rw[tn,tns];omega⟩
  ·exact h.p p hp
 ·show(_::s.preds).length≤_;rw[χ];have:=h.l;omega
 ·show(v::s.vars.filter _).length≤_;rw[χ];have:=C8 (fun x=>!decide (x=v)) s.vars;have:=h.v;omega
theorem wR {L:List Tk}(hwt:wt L≤30000) (cls v:Str) (hv:v.length≤29994) (a:Int):∀(f n:Nat) (out:List Sg) (z:Z),ZA L z→n≤60→out.length=n→(∀m∈out,sgO m)→ZA L (dQ cls v a f n out z).2∧((dQ cls v a f n out z).1.length≤60∧∀m∈(dQ cls v a f n out z).1,sgO m)∧Ze z (dQ cls v a f n out z).2
 | 0,n,out,z,h,hn,hl,ho=>by rw[dQ];exact⟨h,⟨by dsimp only;omega,ho⟩,Ze.refl z⟩
 | f+1,n,out,z,h,hn,hl,ho=>by
  rw[dQ];split
  ·rename_i hm;obtain⟨_,q⟩:=dU hm;have h1:=h.more aV n;obtain⟨g1,g2,_,g4⟩:=gY ((h1.word (k:=1) (by decide)).need dR) hwt;have r:∀m∈out++[(iV cls v (aW aV n z).2).1],sgO m:=fun m hm=>by
    rcases Bk.1 hm with hm | hm
    ·exact ho m hm
    ·rw[A2.1 hm];exact aMf cls v g2 hv _ _
   have u:(out++[(iV cls v (aW aV n z).2).1]).length=n+1:=by rw[θ,hl];rfl
   obtain⟨y,B,E⟩:=wR hwt cls v hv a f (n+1) _ (c8 (out++[(iV cls v (aW aV n z).2).1]).length 16 a (iV cls v (aW aV n z).2).2) (ZA.long g1 _ _ _) q u r;exact⟨y,B,((((Ze.more aV n z).trans (Ze.word 1 _)).trans (Ze.need dR _)).trans g4).trans ((Ze.long _ _ _ _).trans E)⟩
  ·exact⟨h.more _ _,⟨by dsimp only;omega,ho⟩,Ze.more _ _ _⟩
theorem aI8 {L:List Tk}{z:Z}(h:ZA L z) (hwt:wt L≤30000):ZA L (eE z).2∧ClOk (eE z).1∧Ze z (eE z).2:=by
 obtain⟨g1,g2,g3⟩:=jJ h hwt;have h2:=g1.word (k:=2) (by decide);have r:=h2.word (k:=1) (by decide);have hv:=vQ h2 hwt 1;obtain⟨u,y,B⟩:=oQ (aS 1 (aS 2 (bM z).2).2).1.text (aS 2 (bM z).2).1.pl (bM z).1 [] _ r;obtain⟨m1,m2,m3⟩:=wR hwt (cC z).2.1.text (cC z).2.2.1.text hv (cC z).2.1.pl ((fY (cC z)).2.R.length+1) 0 [] _ (u.need cY) (ε _) rfl (fun m hm=>by cases hm);refine⟨m1.need _,⟨?_,m2⟩,(((g3.trans (Ze.word 2 _)).trans (Ze.word 1 _)).trans B).trans ((Ze.need cY _).trans (m3.trans (Ze.need aV _)))⟩;show(bY _ _ _ _ _).1.length≤_;have q:(bY (aS 1 (aS 2 (bM z).2).2).1.text (aS 2 (bM z).2).1.pl (bM z).1 [] (aS 1 (aS 2 (bM z).2).2).2).1.length≤0+(bM z).1.length:=y;exact le_trans q (by omega)
theorem uL {L:List Tk}(b:Bool) {z:Z}(h:ZA L z):ZA L (instV b z).2∧(instV b z).1.length≤4001∧Ze z (instV b z).2:=by
 unfold instV;split
 ·exact⟨h.words.need _,by rw[η];exact eM h,(Ze.words z).trans (Ze.need _ _)⟩
 ·exact⟨h,ε _,Ze.refl z⟩
theorem aCi {L:List Tk}(y:List Prd×Tk×Bool×Tk×Z) (w:List Str×Z) (h:ZA L w.2):ZA L (nS y w)∧Ze w.2 (nS y w):=by
 have h1:ZA L (if w.2.e=0 then c8 w.1.length 8 y.2.1.pl w.2 else w.2)∧Ze w.2 (if w.2.e=0 then c8 w.1.length 8 y.2.1.pl w.2 else w.2):=by
  split
  ·exact⟨h.long _ _ _,Ze.long _ _ _ _⟩
  ·exact⟨h,Ze.refl _⟩
 obtain⟨g1,g2⟩:=rL y.2.1.pl y.1 _ h1.1;exact⟨g1.need _,(h1.2.trans g2).trans (Ze.need _ _)⟩
section
variable {L:List Tk}{ex:Nat→Z→Ex×Z}(hO:ExO L ex) (hwt:wt L≤30000)
include hO
theorem sY:∀(f n:Nat) (out:List Bd) (z:Z),ZA L z→n≤60→out.length=n→eV out→ZA L (cM ex f n out z).2∧((cM ex f n out z).1.length≤60∧eV (cM ex f n out z).1)∧Ze z (cM ex f n out z).2
 | 0,n,out,z,h,hn,hl,ho=>by rw[cM];exact⟨h,⟨by dsimp only;omega,ho⟩,Ze.refl z⟩
 | f+1,n,out,z,h,hn,hl,ho=>by
  rw[cM];split
  ·rename_i hm;obtain⟨_,q⟩:=dU hm;obtain⟨g1,g2,_,g4⟩:=qK hO (aS 1 (aW aV n z).2).1 0 ((h.more aV n).word (k:=1) (by decide));obtain⟨r,u,y⟩:=sY f (n+1) _ _ g1 q (by rw[θ,hl];rfl) (oB ho g2);exact⟨r,u,(((Ze.more aV n z).trans (Ze.word 1 _)).trans g4).trans y⟩
  ·exact⟨h.more _ _,⟨by dsimp only;omega,ho⟩,Ze.more _ _ _⟩
include hwt
theorem aMs {z:Z}(h:ZA L z):ZA L (kA ex z).2∧InOk (kA ex z).1∧Ze z (kA ex z).2:=by
 obtain⟨g1,g2,g3⟩:=jJ h hwt;have h2:=((g1.word (k:=2) (by decide)).may bI).word (k:=2) (by decide);have q:=((g3.trans (Ze.word 2 _)).trans (Ze.may bI _)).trans (Ze.word 2 _);obtain⟨r,u,y⟩:=uL (eA z).2.2.1 h2;obtain⟨m1,m2⟩:=aCi (eA z) (instV (eA z).2.2.1 (eA z).2.2.2.2) r;obtain⟨B,E,I⟩:=sY hO ((nS (eA z) (instV (eA z).2.2.1 (eA z).2.2.2.2)).R.length+1) 0 [] _ m1 (ε _) rfl trivial;exact⟨B.need _,⟨u,g2,E⟩,(q.trans y).trans (m2.trans (I.trans (Ze.need _ _)))⟩
end
def aQb:List C:=[.str [],.int .i64 0,.str [],.nl,.nl,.nl]
section
variable {L:List Tk}{ex:Nat→Z→Ex×Z}{N:Nat}(hO:ExO L ex) (hS:ExS L ex N) (hwt:wt L≤30000)
include hO hS hwt
theorem aSg {z:Z}(h:ZA L z) (hN:z.R.length≤N):b9 Tryz.prog 97 [xP] [(700,zO L z)] (.pa (jK (kA ex z).1)) [(700,zO L (kA ex z).2)]:=by
 unfold kA;have hC:∀y,rJ ex y=cM ex (y.R.length+1) 0 [] y:=fun _=>rfl
 have hV:∀b y,instV b y=if b=true then((aU y).1.map (·.text),aQ c6 (aU y).2) else([],y):=fun _ _=>rfl
 have hB:∀y w,nS y w=aQ cY (dJ y.2.1.pl y.1 (if w.2.e=0 then c8 w.1.length 8 y.2.1.pl w.2 else w.2)):=fun _ _=>rfl
 have hA:eA z=((bM z).1,(aS 2 (bM z).2).1,(bT bI (aS 2 (bM z).2).2).1,(aS 2 (bT bI (aS 2 (bM z).2).2).2).1,(aS 2 (bT bI (aS 2 (bM z).2).2).2).2):=rfl;rw[hA];have hp:=aDc h;obtain⟨h1,hpl,l1⟩:=jJ h hwt;generalize bM z=y at hp h1 hpl l1 ⊢;obtain⟨ps,z1⟩:=y;dsimp only at hp h1 hpl l1 ⊢;have hw:=jD h1 2 (by decide);have h2:=h1.word (k:=2) (by decide);have l2:=l1.trans (Ze.word 2 z1);generalize aS 2 z1=y at hw h2 l2 ⊢;obtain⟨nm,z2⟩:=y;dsimp only at hw h2 l2 ⊢;have hm:=j7 h2 bI;have h3:=h2.may bI;have l3:=l2.trans (Ze.may bI z2);generalize bT bI z2=y at hm h3 l3 ⊢;obtain⟨br,z3⟩:=y;dsimp only at hm h3 l3 ⊢;have hw2:=jD h3 2 (by decide);have h4:=h3.word (k:=2) (by decide);have l4:=l3.trans (Ze.word 2 z3);generalize aS 2 z3=y at hw2 h4 l4 ⊢;obtain⟨cn,z4⟩:=y;dsimp only at hw2 h4 l4 ⊢;obtain⟨M,hvl,l5⟩:=uL br h4;have E:=hV br z4;generalize instV br z4=y at M hvl l5 E ⊢;obtain⟨vs,z5⟩:=y;dsimp only at M hvl l5 ⊢;have hBz:=hB (ps,nm,br,cn,z4) (vs,z5);obtain⟨h9,l9⟩:=aCi (ps,nm,br,cn,z4) (vs,z5) M;have l9:(nS (ps,nm,br,cn,z4) (vs,z5)).R.length≤z.R.length:=(l4.trans l5).trans l9;dsimp only at hBz;generalize nS (ps,nm,br,cn,z4) (vs,z5)=z9 at hBz h9 l9 ⊢;have hvk:(vs.map b7).length=vs.length:=η _;have hpk:(ps.map aN).length=ps.length:=η _;refine bP (n:=81) tok Tryz.func97 rfl rfl rfl ?_;refine sg rfl (sk 1 rfl (kc hp ?_));refine kz 1 rfl (sk 1 rfl (kc hw ?_));refine kz 2 rfl (sg rfl (sk 1 rfl (kc hm ?_)));refine kz 1 rfl (sk 1 rfl (kc hw2 ?_));refine kz 3 rfl (aA (AWp.cut (mk [(0,xP),(2,.one (.vp 2 0)),(3,.one (.c (.sl 5 (ps.map aN)))),(4,.one (.vp 4 0)),(5,.one (.vp 5 0))] [(700,zO L z5),(2,.var 95 (aQb.map .c)),(4,.var 152 ((aG nm).map .c)),(5,.var 95 [.c (.str nm.text),.c (.int .i64 nm.pl),.c (.str cn.text),.c (.sl 1 (vs.map b7)),.c (.sl 5 (ps.map aN)),.c .nl])]) ?_ ?_))
 ·refine sg rfl ?_;cases br with
  | true=>
   rw[ζ rfl] at E;have hws:=qI h4;have g1:=h4.words;have hwl:=eM h4;generalize aU z4=y at hws g1 hwl E;obtain⟨l,z45⟩:=y;dsimp only at hws g1 hwl E;have htx:=aC9 l hwl;have hnd:=dF g1 c6;obtain⟨rfl,rfl⟩:=Prod.mk.inj E;refine aB rfl (fun _=>sk 1 rfl (kc hws ?_)) (fun hb=>Bool.noConfusion hb);refine kc htx ?_;refine kz 2 rfl (aC mixed (ak 1 [] rfl (kc hnd ?_)));exact az sl
  | false=>
   rw[ξ ω] at E;obtain⟨rfl,rfl⟩:=Prod.mk.inj E;refine aB rfl (fun hb=>Bool.noConfusion hb) (fun _=>aD (Sub.trans ?_ (vp 5 [.str nm.text,.int .i64 nm.pl,.str cn.text,.sl 1 [],.sl 5 (ps.map aN),.nl])));exact sl
 have u:∃U,U=(if z5.e=0 then c8 vs.length 8 nm.pl z5 else z5):=⟨_,rfl⟩
 obtain⟨U,u⟩:=u;rw[←u] at hBz;have h6:ZA L U:=by
  rw[u];split
  ·exact M.long _ _ _
  ·exact M
 refine aA (AWp.cut (mk [(0,xP),(2,.one (.vp 2 0)),(3,.one (.c (.sl 5 (ps.map aN)))),(4,.one (.vp 4 0)),(5,.one (.vp 5 0))] [(700,zO L U),(2,.var 95 (aQb.map .c)),(4,.var 152 ((aG nm).map .c)),(5,.var 95 [.c (.str nm.text),.c (.int .i64 nm.pl),.c (.str cn.text),.c (.sl 1 (vs.map b7)),.c (.sl 5 (ps.map aN)),.c .nl])]) ?_ ?_)
 ·have ho:=fP L z5;refine sk 1 rfl (kc ho ?_);refine az ?_;by_cases he:z5.e=0
  ·rw[ζ he] at u;subst u;have d0:decide (z5.e=0)=true:=φ he;have hlg:=lR L z5 vs.length 8 nm.pl;refine aB rfl (fun _=>aC mixed (ak 6 [] rfl ?_)) (fun hb=>absurd (hb.symm.trans d0) Bool.noConfusion);rw[hvk];refine kc hlg ?_;exact az sl
  ·rw[ξ he] at u;subst u;have d0:decide (U.e=0)=false:=ψ he;exact aB rfl (fun hb=>absurd (hb.symm.trans d0) Bool.noConfusion) (fun _=>aD sl)
 have hzf:∃zf,zf=dJ nm.pl ps U:=⟨_,rfl⟩
 obtain⟨zf,hzf⟩:=hzf;rw[←hzf] at hBz;have hf:=(rL nm.pl ps U h6).1
 rw[←hzf] at hf;clear hw h2 hm h3 hw2 h4 M E u;refine aA (sg rfl (aF (aK (fun q:Nat×Z=>mk [(0,xP),(2,.one (.vp 2 0)),(3,.one (.c (.sl 5 (ps.map aN)))),(4,.one (.vp 4 0)),(5,.one (.vp 5 0)),(7,I .i64 (q.1:Nat))] [(700,zO L q.2),(2,.var 95 (aQb.map .c)),(4,.var 152 ((aG nm).map .c)),(5,.var 95 [.c (.str nm.text),.c (.int .i64 nm.pl),.c (.str cn.text),.c (.sl 1 (vs.map b7)),.c (.sl 5 (ps.map aN)),.c .nl])]) (fun q=>q.1≤ps.length∧ZA L q.2∧zf=dJ nm.pl (ps.drop q.1) q.2) (fun q=>ps.length-q.1) (0,U) ⟨ε _,h6,hzf⟩ sl ?_)));clear hzf h6;rintro⟨i,z7⟩ ⟨hi,h7,Y⟩;dsimp only at hi h7 Y ⊢;refine aA (sg rfl (aB rfl (fun hb=>?_) (fun hb=>?_)))
 ·have hlt:=ltD hb hpk;obtain⟨p,hp⟩:=aL hlt;have hp':=aT aN hp;have hds:ps.drop i=p::ps.drop (i+1):=by
   obtain⟨k1,k2⟩:=Ai.1 hp;rw[←k2];exact Ay k1
  rw[hds,dJ] at Y;have ho:=fP L z7;have hfl:=eB L z7 12 nm.pl;have J:∃z8,z8=(if z7.e=0∧¬p.ty.form=2 then bS 12 nm.pl z7 else z7):=⟨_,rfl⟩
  obtain⟨z8,J⟩:=J;rw[←J] at Y;have h8:ZA L z8:=by
   rw[J];split
   ·exact h7.fail _ _
   ·exact h7
  refine aD (aA (aF (aA (AWp.cut (mk [(0,xP),(2,.one (.vp 2 0)),(3,.one (.c (.sl 5 (ps.map aN)))),(4,.one (.vp 4 0)),(5,.one (.vp 5 0)),(7,I .i64 (i:Nat)),(57,B (decide (z7.e=0)&& !decide (p.ty.form=2)))] [(700,zO L z7),(2,.var 95 (aQb.map .c)),(4,.var 152 ((aG nm).map .c)),(5,.var 95 [.c (.str nm.text),.c (.int .i64 nm.pl),.c (.str cn.text),.c (.sl 1 (vs.map b7)),.c (.sl 5 (ps.map aN)),.c .nl])]) ?_ ?_))))
  ·by_cases he:z7.e=0
   ·rw[φ he] at ho ⊢;rw[B8];refine aC mixed (ak 1 [] rfl (kc ho ?_));exact ak 9 [(2,.bv true),(5,.row i (aN p)),(10,.bv true)] rfl (az sl)
   ·rw[ψ he] at ho ⊢;rw[B3];refine aC mixed (ak 1 [] rfl (kc ho ?_));exact ak 9 [(2,.bv false),(10,.bv false)] rfl (az sl)
  refine aB rfl (fun hb=>?_) (fun hb=>?_)
  ·rw[π,Bm] at hb;rw[ζ ⟨κ hb.1,Af hb.2⟩] at J;subst J;refine aC mixed (ak 3 [] rfl (kc hfl ?_));exact az (agN [] rfl ⟨(i+1,bS 12 nm.pl z7),⟨hlt,h8,Y⟩,by dsimp only;omega,sl⟩)
  ·have hb':¬(z7.e=0∧¬p.ty.form=2):=fun hh=>by
    rw[φ hh.1,ψ hh.2] at hb;cases hb
   rw[ξ hb'] at J;subst J;exact aD (agN [] rfl ⟨(i+1,z8),⟨hlt,h8,Y⟩,by dsimp only;omega,sl⟩)
 have hge:=geD hb hpk hi;subst hge;rw[Cc,dJ] at Y;subst Y;clear h7 hi hb;have hnd:=dF hf cY;rw[←hBz] at hnd;have hWx:∃W,W=rJ ex z9:=⟨_,rfl⟩
 obtain⟨W,hW⟩:=hWx;rw[←hW];rw[hC] at hW;refine aH (AWp.sub (Sub.ownCell (x:=5) (k:=5) (id:=503) 99 33 rfl rfl rfl) ?_);refine sk 1 rfl (kc hnd ?_);refine az (aA (sg rfl (aF (aK (fun q:List Bd×Z×Nat×Nat=>mk [(0,xP),(2,.one (.vp 2 0)),(5,.one (.vp 5 0)),(8,I .i64 (q.2.2.1:Nat))] [(700,zO L q.2.1),(2,.var 95 (aQb.map .c)),(5,.var 95 [.c (.str nm.text),.c (.int .i64 nm.pl),.c (.str cn.text),.c (.sl 1 (vs.map b7)),.c (.sl 5 (ps.map aN)),.hs 503 0 q.1.length q.1.length]),(503,bdA q.1 0)]) (fun q=>ZA L q.2.1∧q.2.1.R.length≤z9.R.length∧(q.2.1.e=0→q.2.1.R.length<q.2.2.2)∧q.2.2.1≤60∧q.1.length=q.2.2.1∧W=cM ex q.2.2.2 q.2.2.1 q.1 q.2.1) (fun q=>if q.2.1.e=0 then q.2.1.R.length+1 else 0) ([],z9,0,z9.R.length+1) ⟨h9,le_refl _,fun _=>Bt _,ε _,rfl,hW⟩ sl ?_))));clear hW hnd hf hBz h9;rintro⟨out,z3,n,f⟩ ⟨h,hR,hf,hn,hol,hW⟩;dsimp only at h hR hf hn hol hW ⊢;have hoe:(out.map b8).length=out.length:=η _;have hm:=rX h aV n (by omega);have hmt:= @dU aV n z3;have hm2:=h.more aV n;have hm3:=Ze.more aV n z3;have r:W=if(aW aV n z3).1=true then cM ex (f-1) (n+1) (out++[(cP ex (aS 1 (aW aV n z3).2).1 0 (aS 1 (aW aV n z3).2).2).1]) (cP ex (aS 1 (aW aV n z3).2).1 0 (aS 1 (aW aV n z3).2).2).2 else(out,(aW aV n z3).2):=by
  by_cases he:z3.e=0
  ·obtain⟨f,rfl⟩:∃g,f=g+1:=⟨f-1,by have:=hf he;omega⟩
   rw[cM] at hW;exact hW
  ·rw[dD he];rw[ξ ω];rw[hW];cases f with
   | zero=>rfl
   | succ f=>rw[cM,dD he,ξ ω]
 have hme:(aW aV n z3).1=true→z3.e=0:=fun e=>by
  by_cases he:z3.e=0
  ·exact he
  ·rw[dD he] at e;cases e
 clear hW;generalize aW aV n z3=m at hm hmt hm2 hm3 r hme;obtain⟨b,z4⟩:=m;dsimp only at hm hmt hm2 hm3 r hme;have hm3:z4.R.length≤z3.R.length:=hm3;refine aA (sk 2 rfl (kc hm ?_));refine az ?_;cases b with
 | true=>
  rw[ζ rfl] at r;obtain⟨e3,hn60⟩:=hmt rfl;have he2:=hme rfl;have hf:=hf he2;have hw:=jD hm2 1 (by decide);have M:=hm2.word (k:=1) (by decide);have l5:=Ze.word 1 z4;generalize aS 1 z4=y at hw M l5 r;obtain⟨w,z5⟩:=y;dsimp only at hw M l5 r;have l5:z5.R.length≤z4.R.length:=l5;have hbd:=aJw hS w 0 M (by omega) (by decide);obtain⟨b1,_,b3,b4⟩:=qK hO w 0 M;generalize cP ex w 0 z5=y at hbd b1 b3 b4 r;obtain⟨bd,U⟩:=y;dsimp only at hbd b1 b3 b4 r;have b4:U.R.length≤z5.R.length:=b4;have hr1:out.map b8++[b8 bd]=(out++[bd]).map b8:=by rw[Al];rfl
  have hl1:(out++[bd]).length=out.length+1:=by rw[θ];rfl
  generalize out++[bd]=O at hr1 hl1 r;refine aB rfl (fun _=>aD (aA (aF (aC mixed (ak 4 [] rfl (kc hw ?_)))))) (fun hb=>Bool.noConfusion hb);refine kc hbd ?_;refine ak 4 [(6,.all)] rfl (az (agN [] rfl ⟨(O,U,n+1,f-1),⟨b1,by dsimp only;omega,fun h0=>by have:=b3 h0;dsimp only;omega,hn60,by dsimp only;omega,r⟩,?_,?_⟩))
  ·dsimp only;rw[ζ he2];split
   ·rename_i h0;have:=b3 h0;omega
   ·omega
  ·exact sl (hh:=⟨⟨_,rfl,.var rfl⟩,⟨_,rfl,.var rfl⟩,⟨_,rfl,.var (by rw[hl1,←hoe];rfl)⟩,⟨_,rfl,.arrS hr1⟩,trivial⟩)
 | false=>
  rw[ξ ω] at r;subst r;dsimp only;have hnd3:=dF hm2 aV;refine aB rfl (fun hb=>Bool.noConfusion hb) (fun _=>aH (sk 1 rfl (kc hnd3 ?_)));refine az (AWp.sub (Sub.freeze (id:=503) rfl) ?_);exact sg rfl (aE (rtC trw (hc:=.agg (.c .refl (.c .refl (.c .refl (.c .refl (.c .refl (.hs rfl hoe.symm (Go.AM.take_all hoe.symm) .nil)))))))))
end
def aXq:List C:=[.str [],.int .i64 0,.str [],.nl,.nl,.nl]
def vL (v:Str) (l:List Str):List Str:=l.filter (fun x=>!decide (x=v))
theorem aIw {v:Str}{l:List Str}{j:Nat}{x:Str}(h:l[j]?=some x):vL v (l.take (j+1))=if x=v then vL v (l.take j) else vL v (l.take j)++[x]:=by
 unfold vL;rw[Bf,h,filter_append];by_cases hx:x=v
 ·rw[ζ hx];simp[hx]
 ·rw[ξ hx];simp[hx]
def clH (L:List Tk) (z:Z) (nm vt:Tk) (sup:List Str) (out:List Sg):List (Nat×AObj):=[(700,zO L z),(2,.var 90 (aXq.map .c)),(4,.var 152 ((aG nm).map .c)),(5,.var 152 ((aG vt).map .c)),(6,.var 90 [.c (.str nm.text),.c (.int .i64 nm.pl),.c (.str vt.text),.c .nl,.hs 504 0 sup.length sup.length,.hs 505 0 out.length out.length]),(504,.arr 9 1 (sup.map b7) 0),(505,sgA out 0)]
def clM (m:Tk) (s:Sch) (vs:List Str) (ps:List Prd):List (Nat×AObj):=[(9,.var 152 ((aG m).map .c)),(10,.var 59 ((fH s).map .c)),(11,.var 59 [.hs 506 0 vs.length vs.length,.c .nl,.hs 507 0 ps.length ps.length,.c (.int .i64 s.ty.form),.c (.int .i64 s.ty.n),.c (.str s.ty.name),.c (.sl 4 (dC s.ty))]),(506,.arr 9 1 (vs.map b7) 0),(507,.arr 113 5 (ps.map aN) 0)]
section
variable {L:List Tk}(hwt:wt L≤30000)
include hwt
theorem aNp {z:Z}(h:ZA L z):b9 Tryz.prog 96 [xP] [(700,zO L z)] (.pa (gW (eE z).1)) [(700,zO L (eE z).2)]:=by
 unfold eE;have hB:∀y,fY y=((bY y.2.2.1.text y.2.1.pl y.1 [] y.2.2.2).1,aQ cY (bY y.2.2.1.text y.2.1.pl y.1 [] y.2.2.2).2):=fun _=>rfl
 have hC:∀y w,jM y w=dQ y.2.1.text y.2.2.1.text y.2.1.pl (w.2.R.length+1) 0 [] w.2:=fun _ _=>rfl
 have hA:cC z=((bM z).1,(aS 2 (bM z).2).1,(aS 1 (aS 2 (bM z).2).2).1,(aS 1 (aS 2 (bM z).2).2).2):=rfl;rw[hA];have hp:=aDc h;obtain⟨h1,hpl,l1⟩:=jJ h hwt;generalize bM z=y at hp h1 hpl l1 ⊢;obtain⟨ps,z1⟩:=y;dsimp only at hp h1 hpl l1 ⊢;have hw:=jD h1 2 (by decide);have h2:=h1.word (k:=2) (by decide);generalize aS 2 z1=y at hw h2 ⊢;obtain⟨nm,z2⟩:=y;dsimp only at hw h2 ⊢;have hw2:=jD h2 1 (by decide);have h3:=h2.word (k:=1) (by decide);have hvl:=vQ h2 hwt 1;generalize aS 1 z2=y at hw2 h3 hvl ⊢;obtain⟨r,z3⟩:=y;dsimp only at hw2 h3 hvl ⊢;have hBz:=hB (ps,nm,r,z3);dsimp only at hBz;obtain⟨s1,s2,s3⟩:=oQ r.text nm.pl ps [] z3 h3;have hSx:∃Sx,Sx=bY r.text nm.pl ps [] z3:=⟨_,rfl⟩
 obtain⟨Sx,hSx⟩:=hSx;rw[←hSx] at hBz s1 s2 s3;rw[hBz];rw[length_nil] at s2;obtain⟨sup,z4⟩:=Sx;dsimp only at s1 s2 s3 ⊢;have hpk:(ps.map aN).length=ps.length:=η _;refine bP (n:=146) tok Tryz.func96 rfl rfl rfl ?_;refine sg rfl (sk 1 rfl (kc hp ?_));refine kz 1 rfl (sk 1 rfl (kc hw ?_));refine kz 2 rfl (sk 1 rfl (kc hw2 ?_));refine kz 2 rfl (sg rfl (AWp.sub (Sub.ownCell (x:=6) (k:=4) (id:=504) 9 1 rfl rfl rfl) ?_));refine aA (sg rfl (aF (aK (fun q:Nat×List Str×Z=>mk [(0,xP),(2,.one (.vp 2 0)),(3,.one (.c (.sl 5 (ps.map aN)))),(4,.one (.vp 4 0)),(5,.one (.vp 5 0)),(6,.one (.vp 6 0)),(7,I .i64 (q.1:Nat))] [(700,zO L q.2.2),(2,.var 90 (aXq.map .c)),(4,.var 152 ((aG nm).map .c)),(5,.var 152 ((aG r).map .c)),(6,.var 90 [.c (.str nm.text),.c (.int .i64 nm.pl),.c (.str r.text),.c .nl,.hs 504 0 q.2.1.length q.2.1.length,.c .nl]),(504,.arr 9 1 (q.2.1.map b7) 0)]) (fun q=>q.1≤ps.length∧ZA L q.2.2∧q.2.1.length≤q.1∧(sup,z4)=bY r.text nm.pl (ps.drop q.1) q.2.1 q.2.2) (fun q=>ps.length-q.1) (0,[],z3) ⟨ε _,h3,le_refl _,hSx⟩ sl ?_)));clear hSx hp hw hw2 h2 h3;rintro⟨i,out,z5⟩ ⟨hi,h5,hol,B⟩;dsimp only at hi h5 hol B ⊢;have hoe:(out.map b7).length=out.length:=η _;have ho:=fP L z5;have hend:∀st,Sub (keys [(700,zO L z)]) (mk [(0,xP),(2,.one (.vp 2 0)),(4,.one (.vp 4 0)),(5,.one (.vp 5 0)),(6,.one (.vp 6 0))] [(700,zO L z4),(2,.var 90 (aXq.map .c)),(4,.var 152 ((aG nm).map .c)),(5,.var 152 ((aG r).map .c)),(6,.var 90 [.c (.str nm.text),.c (.int .i64 nm.pl),.c (.str r.text),.c .nl,.hs 504 0 sup.length sup.length,.c .nl]),(504,.arr 9 1 (sup.map b7) 0)]) st→
   AWp none Tryz.prog 146 (keys [(700,zO L z)]) (jF (jF (jF (jF (jF (jF (Tryz.f96.body.getD .skip))))))) st (fun ex' st'=>(ex'=.normal∨ex'=.ret)∧Fin tr.flat Tryz.f96 st' [(700,zO L z)] (.pa (gW ⟨nm.text,nm.pl,r.text,sup,(jM (ps,nm,r,z3) (sup,aQ cY z4)).1⟩)) [(700,zO L (aQ aV (jM (ps,nm,r,z3) (sup,aQ cY z4)).2))]):=by
  intro st M;refine AWp.sub M ?_;have hnd:=dF s1 cY;have h9:=s1.need cY;generalize aQ cY z4=z9 at hnd h9 ⊢;have hWx:∃W,W=jM (ps,nm,r,z3) (sup,z9):=⟨_,rfl⟩
  obtain⟨W,Y⟩:=hWx;rw[←Y];rw[hC] at Y;dsimp only at Y;refine AWp.sub (Sub.ownCell (x:=6) (k:=5) (id:=505) 92 9 rfl rfl rfl) ?_;refine sk 1 rfl (kc hnd ?_);refine az (aA (sg rfl (aF (aK (fun q:List Sg×Z×Nat×Nat=>mk [(0,xP),(2,.one (.vp 2 0)),(4,.one (.vp 4 0)),(5,.one (.vp 5 0)),(6,.one (.vp 6 0)),(8,I .i64 (q.2.2.1:Nat))] (clH L q.2.1 nm r sup q.1)) (fun q=>ZA L q.2.1∧q.2.1.R.length≤z9.R.length∧(q.2.1.e=0→q.2.1.R.length<q.2.2.2)∧q.2.2.1≤60∧q.1.length=q.2.2.1∧W=dQ nm.text r.text nm.pl q.2.2.2 q.2.2.1 q.1 q.2.1) (fun q=>if q.2.1.e=0 then q.2.1.R.length+1 else 0) ([],z9,0,z9.R.length+1) ⟨h9,le_refl _,fun _=>Bt _,ε _,rfl,Y⟩ sl ?_))));clear Y hnd h9 ho h5 B hoe hol hi out z5 i M;rintro⟨out,z5,n,f⟩ ⟨h,hR,hf,hn,hol,Y⟩;dsimp only at h hR hf hn hol Y ⊢;have hoe:(out.map cI).length=out.length:=η _;have hse:(sup.map b7).length=sup.length:=η _;have hm:=rX h aV n (by omega);have hmt:= @dU aV n z5;have hm2:=h.more aV n;have hm3:=Ze.more aV n z5;have u:W=if(aW aV n z5).1=true then dQ nm.text r.text nm.pl (f-1) (n+1) (out++[(iV nm.text r.text (aW aV n z5).2).1]) (c8 (out++[(iV nm.text r.text (aW aV n z5).2).1]).length 16 nm.pl (iV nm.text r.text (aW aV n z5).2).2) else(out,(aW aV n z5).2):=by
   by_cases he:z5.e=0
   ·obtain⟨f,rfl⟩:∃g,f=g+1:=⟨f-1,by have:=hf he;omega⟩
    rw[dQ] at Y;exact Y
   ·rw[dD he];rw[ξ ω];rw[Y];cases f with
    | zero=>rfl
    | succ f=>rw[dQ,dD he,ξ ω]
  have hme:(aW aV n z5).1=true→z5.e=0:=fun e=>by
   by_cases he:z5.e=0
   ·exact he
   ·rw[dD he] at e;cases e
  clear Y;generalize aW aV n z5=m at hm hmt hm2 hm3 u hme;obtain⟨b,z6⟩:=m;dsimp only at hm hmt hm2 hm3 u hme;have hm3:z6.R.length≤z5.R.length:=hm3;refine aA (sk 2 rfl (kc hm ?_));refine az ?_;cases b with
  | true=>
   rw[ζ rfl] at u;obtain⟨e3,hn60⟩:=hmt rfl;have he2:=hme rfl;have hf:=hf he2;unfold iV at u;have hw:=jD hm2 1 (by decide);have h7:=hm2.word (k:=1) (by decide);have l7:=Ze.word 1 z6;generalize aS 1 z6=y at hw h7 l7 u;obtain⟨mt,z7⟩:=y;dsimp only at hw h7 l7 u;have l7:z7.R.length≤z6.R.length:=l7;have hnd:=dF h7 dR;have h8:=h7.need dR;have l8:=Ze.need dR z7;generalize aQ dR z7=z8 at hnd h8 l8 u;have l8:z8.R.length≤z7.R.length:=l8;have hsc:=rV h8 hwt;obtain⟨h10,hso,c3,c4⟩:=gY h8 hwt;generalize bK z8=y at hsc h10 hso c3 c4 u;obtain⟨s,E⟩:=y;dsimp only at hsc h10 hso c3 c4 u;have c4:E.R.length≤z8.R.length:=c4;have hsv:=hso.v;have hsl:=hso.l;have hpe:(s.preds.map aN).length=s.preds.length:=η _;have hve:(s.vars.map b7).length=s.vars.length:=η _;refine aB rfl (fun _=>aD (aA (aF (sk 1 rfl (kc hw ?_))))) (fun hb=>Bool.noConfusion hb);refine kz 2 rfl (sk 1 rfl (kc hnd ?_));refine az (sk 1 rfl (kc hsc ?_));refine kz 2 rfl (sgh [(2,.id 506),(9,.id 507)] rfl (aA (sg rfl (aF (aK (fun j:Nat=>mk [(0,xP),(2,.one (.vp 2 0)),(4,.one (.vp 4 0)),(5,.one (.vp 5 0)),(6,.one (.vp 6 0)),(8,I .i64 (n:Nat)),(9,.one (.vp 9 0)),(10,.one (.vp 10 0)),(11,.one (.vp 11 0)),(12,I .i64 (j:Nat))] (clH L E nm r sup out++clM mt s (r.text::vL r.text (s.vars.take j)) [⟨nm.text,.mk 2 0 r.text []⟩])) (fun j=>j≤s.vars.length) (fun j=>s.vars.length-j) 0 (ε _) sl ?_)))));intro j hj;have hfl:=C8 (fun x=>!decide (x=r.text)) (s.vars.take j);rw[An] at hfl;have hfl:(vL r.text (s.vars.take j)).length≤120060000:=by show(List.filter _ _).length≤_;omega
   refine aA (sg rfl (aB rfl (fun hb=>?_) (fun hb=>?_)))
   ·have hlt:=ltD hb hve;obtain⟨x,hx⟩:=aL hlt;have hx':=aT b7 hx;have M:=aIw (v:=r.text) hx;have hfe:((r.text::vL r.text (s.vars.take j)).map b7).length=(r.text::vL r.text (s.vars.take j)).length:=η _;have hcl:(r.text::vL r.text (s.vars.take j)).length=(vL r.text (s.vars.take j)).length+1:=rfl;refine aD (aA (aF (sgh [(3,.row j (b7 x))] rfl ?_)));by_cases hxv:x=r.text
    ·have d1:(!decide (x=r.text))=false:=by rw[φ hxv];rfl
     rw[ζ hxv] at M;refine aB rfl (fun hb=>absurd (hb.symm.trans d1) Bool.noConfusion) (fun _=>aD (agN [] rfl ⟨j+1,hlt,by dsimp only;omega,?_⟩));dsimp only;rw[M];exact sl
    ·have d1:(!decide (x=r.text))=true:=by rw[ψ hxv];rfl
     rw[ξ hxv] at M;have U:(r.text::vL r.text (s.vars.take j)).map b7++[[.str x]]=(r.text::vL r.text (s.vars.take (j+1))).map b7:=by rw[M,←Ad,Al];rfl
     have hle:(r.text::vL r.text (s.vars.take (j+1))).length=((r.text::vL r.text (s.vars.take j)).map b7).length+1:=by rw[hfe,M,←Ad,θ];rfl
     exact aB rfl (fun _=>ag [(5,.row j (b7 x)),(7,.all)] rfl (agN [] rfl ⟨j+1,hlt,by dsimp only;omega,sl (hh:=⟨⟨_,rfl,.var rfl⟩,⟨_,rfl,.var rfl⟩,⟨_,rfl,.var rfl⟩,⟨_,rfl,.var rfl⟩,⟨_,rfl,.var rfl⟩,⟨_,rfl,Go.AM.Ole.arr⟩,⟨_,rfl,Go.AM.Ole.arr⟩,⟨_,rfl,.var rfl⟩,⟨_,rfl,.var rfl⟩,⟨_,rfl,.var (by rw[hle,hfe];rfl)⟩,⟨_,rfl,.arrS U⟩,⟨_,rfl,Go.AM.Ole.arr⟩,trivial⟩)⟩)) (fun hb=>absurd (hb.symm.trans d1) Bool.noConfusion)
   ·have hge:=geD hb hve hj;subst hge;rw[Ax] at hfl ⊢;have hfe:((r.text::vL r.text s.vars).map b7).length=(r.text::vL r.text s.vars).length:=η _;have hmS:(⟨mt.text,mt.pl,rD nm.text r.text s⟩:Sg)=⟨mt.text,mt.pl,⟨r.text::vL r.text s.vars,⟨nm.text,.mk 2 0 r.text []⟩::s.preds,s.ty⟩⟩:=rfl;rw[hmS] at u;generalize r.text::vL r.text s.vars=V at hfe u ⊢;have hP1:([(⟨nm.text,.mk 2 0 r.text []⟩:Prd)].map aN)++s.preds.map aN=((⟨nm.text,.mk 2 0 r.text []⟩:Prd)::s.preds).map aN:=rfl;have hP2:((⟨nm.text,.mk 2 0 r.text []⟩:Prd)::s.preds).length=1+(s.preds.map aN).length:=by rw[hpe,χ];omega
    have hPe:(((⟨nm.text,.mk 2 0 r.text []⟩:Prd)::s.preds).map aN).length=((⟨nm.text,.mk 2 0 r.text []⟩:Prd)::s.preds).length:=η _;refine aH (sg rfl (AWp.sub (st2:=mk [(0,xP),(2,.one (.vp 2 0)),(4,.one (.vp 4 0)),(5,.one (.vp 5 0)),(6,.one (.vp 6 0)),(8,I .i64 (n:Nat)),(9,.one (.vp 9 0)),(10,.one (.vp 10 0)),(11,.one (.vp 11 0))] (clH L E nm r sup out++clM mt s V (⟨nm.text,.mk 2 0 r.text []⟩::s.preds))) (sl (hh:=⟨⟨_,rfl,.var rfl⟩,⟨_,rfl,.var rfl⟩,⟨_,rfl,.var rfl⟩,⟨_,rfl,.var rfl⟩,⟨_,rfl,.var rfl⟩,⟨_,rfl,Go.AM.Ole.arr⟩,⟨_,rfl,Go.AM.Ole.arr⟩,⟨_,rfl,.var rfl⟩,⟨_,rfl,.var rfl⟩,⟨_,rfl,.var (by rw[hP2];rfl)⟩,⟨_,rfl,Go.AM.Ole.arr⟩,⟨_,rfl,.arrS hP1⟩,trivial⟩)) ?_));generalize (⟨nm.text,.mk 2 0 r.text []⟩:Prd)::s.preds=P at hPe u ⊢;refine AWp.sub (Sub.freeze (id:=506) rfl) ?_;refine AWp.sub (Sub.freeze (id:=507) rfl) ?_;refine AWp.sub (vp 11 (fH ⟨V,P,s.ty⟩) (hp:=.hs rfl hfe.symm (Go.AM.take_all hfe.symm) (.c .nl (.hs rfl hPe.symm (Go.AM.take_all hPe.symm) (.c .refl (.c .refl (.c .refl (.c .refl .nil)))))))) ?_;have hr1:out.map cI++[cI ⟨mt.text,mt.pl,⟨V,P,s.ty⟩⟩]=(out++[(⟨mt.text,mt.pl,⟨V,P,s.ty⟩⟩:Sg)]).map cI:=by rw[Al];rfl
    have hl1:(out++[(⟨mt.text,mt.pl,⟨V,P,s.ty⟩⟩:Sg)]).length=out.length+1:=by rw[θ];rfl
    generalize out++[(⟨mt.text,mt.pl,⟨V,P,s.ty⟩⟩:Sg)]=O at hr1 hl1 u;have hlg:=lR L E O.length 16 nm.pl;have h11:=h10.long O.length 16 nm.pl;have l11:=Ze.long O.length 16 nm.pl E;have c3':(c8 O.length 16 nm.pl E).e=0→E.e=0:=fun e=>by
     unfold c8 at e;split at e
     ·exact(gH (by decide) e).elim
     ·exact e
    generalize c8 O.length 16 nm.pl E=z11 at hlg h11 l11 c3' u;have l11:z11.R.length≤E.R.length:=l11;refine sgh [(8,.all)] rfl (AWp.sub (st2:=mk [(0,xP),(2,.one (.vp 2 0)),(4,.one (.vp 4 0)),(5,.one (.vp 5 0)),(6,.one (.vp 6 0)),(8,I .i64 (n:Nat))] (clH L E nm r sup O)) (sl (hh:=⟨⟨_,rfl,.var rfl⟩,⟨_,rfl,.var rfl⟩,⟨_,rfl,.var rfl⟩,⟨_,rfl,.var rfl⟩,⟨_,rfl,.var (by rw[hl1,←hoe];rfl)⟩,⟨_,rfl,Go.AM.Ole.arr⟩,⟨_,rfl,.arrS hr1⟩,trivial⟩)) ?_);refine aC mixed (ak 6 [] rfl (kc hlg ?_));refine az (agN [] rfl ⟨(O,z11,n+1,f-1),⟨h11,by dsimp only;omega,fun h0=>by have:=c3 (c3' h0);dsimp only;omega,hn60,by dsimp only;omega,u⟩,?_,sl⟩);dsimp only;rw[ζ he2];split
    ·rename_i h0;have:=c3 (c3' h0);omega
    ·omega
  | false=>
   rw[ξ ω] at u;subst u;dsimp only;have hnd3:=dF hm2 aV;refine aB rfl (fun hb=>Bool.noConfusion hb) (fun _=>aH (sk 1 rfl (kc hnd3 ?_)));refine az (AWp.sub (Sub.freeze (id:=504) rfl) ?_);refine AWp.sub (Sub.freeze (id:=505) rfl) ?_;exact sg rfl (aE (rtC trw (hc:=.agg (.c .refl (.c .refl (.c .refl (.c .nl (.hs rfl hse.symm (Go.AM.take_all hse.symm) (.hs rfl hoe.symm (Go.AM.take_all hoe.symm) .nil)))))))))
 by_cases hlt:i<ps.length
 case neg=>
  have d0:decide ((i:Int)<((ps.map aN).length:Int))=false:=ψ (by omega);rw[drop_eq_nil_of_le (by omega),bY] at B;obtain⟨rfl,rfl⟩:=Prod.mk.inj B;exact aA (sgh [(4,.bv false),(7,.bv false)] rfl (aB rfl (fun hb=>Bool.noConfusion hb) (fun _=>aH (hend _ sl))))
 have d0:decide ((i:Int)<((ps.map aN).length:Int))=true:=φ (by omega);obtain⟨p,hp⟩:=aL hlt;have hp':=aT aN hp;have hds:ps.drop i=p::ps.drop (i+1):=by
  obtain⟨k1,k2⟩:=Ai.1 hp;rw[←k2];exact Ay k1
 rw[hds,bY] at B;by_cases he:z5.e=0
 case neg=>
  rw[ξ he] at B;obtain⟨rfl,rfl⟩:=Prod.mk.inj B;rw[ψ he] at ho;refine aA (skh 6 [(4,.bv true)] rfl (kcG ho ?_));exact ak 1 [(4,.bv true),(7,.bv true)] rfl (az (aB rfl (fun hb=>Bool.noConfusion hb) (fun _=>aH (hend _ sl))))
 rw[ζ he] at B;rw[φ he] at ho;refine aA (skh 6 [(4,.bv true)] rfl (kcG ho ?_));refine ak 1 [(4,.bv true),(7,.bv true)] rfl (az (aB rfl (fun _=>aD ?_) (fun hb=>Bool.noConfusion hb)));have J:∃z6,z6=(if p.ty.form=2∧p.ty.name=r.text then z5 else bS 12 nm.pl z5)∧ZA L z6:=⟨_,rfl,by split<;>first | exact h5 | exact h5.fail _ _⟩
 obtain⟨z6,J,h6⟩:=J;rw[←J] at B;have hfl:=eB L z5 12 nm.pl;have U:out.map b7++[[.str p.cls]]=(out++[p.cls]).map b7:=by rw[Al];rfl
 have hle:(out++[p.cls]).length=out.length+1:=by rw[θ];rfl
 generalize out++[p.cls]=O at B U hle;refine aA (aF (aA (AWp.cut (mk [(0,xP),(2,.one (.vp 2 0)),(3,.one (.c (.sl 5 (ps.map aN)))),(4,.one (.vp 4 0)),(5,.one (.vp 5 0)),(6,.one (.vp 6 0)),(7,I .i64 (i:Nat))] [(700,zO L z6),(2,.var 90 (aXq.map .c)),(4,.var 152 ((aG nm).map .c)),(5,.var 152 ((aG r).map .c)),(6,.var 90 [.c (.str nm.text),.c (.int .i64 nm.pl),.c (.str r.text),.c .nl,.hs 504 0 out.length out.length,.c .nl]),(504,.arr 9 1 (out.map b7) 0)]) ?_ ?_)))
 ·by_cases hf:p.ty.form=2
  ·have d1:(!decide (p.ty.form=2))=false:=by rw[φ hf];rfl
   refine sgh [(2,.row i (aN p)),(7,.bv false),(10,.row i (aN p)),(17,.bv false)] rfl ?_;by_cases hnm:p.ty.name=r.text
   ·rw[ζ ⟨hf,hnm⟩] at J;subst J;have d2:(!decide (p.ty.name=r.text))=false:=by rw[φ hnm];rfl
    exact aB rfl (fun hb=>absurd (hb.symm.trans d2) Bool.noConfusion) (fun _=>aD sl)
   ·rw[ξ (fun k=>hnm k.2)] at J;subst J;have d2:(!decide (p.ty.name=r.text))=true:=by rw[ψ hnm];rfl
    refine aB rfl (fun _=>aC mixed (ak 3 [] rfl (kc hfl ?_))) (fun hb=>absurd (hb.symm.trans d2) Bool.noConfusion);exact az sl
  ·have d1:(!decide (p.ty.form=2))=true:=by rw[ψ hf];rfl
   rw[ξ (fun k=>hf k.1)] at J;subst J;refine sgh [(2,.row i (aN p)),(7,.bv true),(17,.bv true)] rfl (aB rfl (fun _=>aC mixed (ak 3 [] rfl (kc hfl ?_))) (fun hb=>Bool.noConfusion hb));exact az sl
 exact ag [(4,.row i (aN p)),(7,.all)] rfl (agN [] rfl ⟨(i+1,O,z6),⟨hlt,h6,by dsimp only;omega,B⟩,by dsimp only;omega,sl (hh:=⟨⟨_,rfl,.var rfl⟩,⟨_,rfl,.var rfl⟩,⟨_,rfl,.var rfl⟩,⟨_,rfl,.var rfl⟩,⟨_,rfl,.var (by rw[hle,←hoe];rfl)⟩,⟨_,rfl,.arrS U⟩,trivial⟩)⟩)
end
def aWe (c:Cn):Prop:=c.fields.length≤4002∧∀x∈c.fields,WF x∧tn x≤30000
theorem aR2 {L:List Tk}{z:Z}(h:ZA L z) (hwt:wt L≤30000):ZA L (pK z).2∧aWe (pK z).1∧Ze z (pK z).2:=by
 have h1:=h.word (k:=2) (by decide);have hl:=h1.len;obtain⟨g1,g2,g3,g4⟩:=oZ ((aS 2 z).2.R.length+1) [] _ h1 (fun x hx=>by cases hx) (by rw[length_nil];omega);exact⟨g1.long _ _ _,⟨g4,fun x hx=>⟨(g2 x hx).1,by have:=(g2 x hx).2;omega⟩⟩,((Ze.word 2 z).trans g3).trans (Ze.long _ _ _ _)⟩
theorem aC1 {L:List Tk}(hwt:wt L≤30000) (a:Int):∀(f:Nat) (out:List Cn) (z:Z),ZA L z→out.length+z.R.length≤4002→(∀c∈out,aWe c)→ZA L (gX f a out z).2∧((gX f a out z).1.length≤4002∧∀c∈(gX f a out z).1,aWe c)∧Ze z (gX f a out z).2
 | 0,out,z,h,hl,ho=>by rw[gX];exact⟨h,⟨by dsimp only;omega,ho⟩,Ze.refl z⟩
 | f+1,out,z,h,hl,ho=>by
  rw[gX];obtain⟨g1,g2,g3⟩:=aR2 h hwt;have h2:=g1.long (out++[(pK z).1]).length 16 a;have r:=g3.trans (Ze.long (out++[(pK z).1]).length 16 a _);have hle:(out++[(pK z).1]).length=out.length+1:=by rw[θ];rfl
  have q:∀c∈out++[(pK z).1],aWe c:=fun c hc=>by
   rcases Bk.1 hc with hc | hc
   ·exact ho c hc
   ·rw[A2.1 hc];exact g2
  have E:=h.lp;split
  ·rename_i hm;have I:=fG h2 hm;have J:(c8 (out++[(pK z).1]).length 16 a (pK z).2).R.length≤z.R.length:=r;obtain⟨u,y,B⟩:=aC1 hwt a f _ _ (h2.may vO) (by omega) q;exact⟨u,y,(r.trans (Ze.may _ _)).trans B⟩
  ·exact⟨h2.may vO,⟨by dsimp only;omega,q⟩,r.trans (Ze.may _ _)⟩
theorem aM6 {L:List Tk}{z:Z}(h:ZA L z) (hwt:wt L≤30000):ZA L (jL z).2∧DtOk (jL z).1∧Ze z (jL z).2:=by
 have h1:=h.word (k:=2) (by decide);have q:=eM h1;have h2:ZA L (fO z).2.2:=(h1.words.long _ _ _).need _;have r:Ze z (fO z).2.2:=((Ze.word 2 z).trans (Ze.words _)).trans ((Ze.long _ _ _ _).trans (Ze.need _ _));have hc:ZA L (jC (fO z)).2∧((jC (fO z)).1.length≤4002∧∀c∈(jC (fO z)).1,aWe c)∧Ze (fO z).2.2 (jC (fO z)).2:=by
  unfold jC;split
  ·exact aC1 hwt _ _ [] _ h2 (by rw[length_nil];have:=h2.len;omega) (fun c hc=>by cases hc)
  ·exact⟨h2,⟨ε _,fun c hc=>(by cases hc)⟩,Ze.refl _⟩
 exact⟨hc.1,⟨by show((fO z).2.1.map _).length≤_;rw[η];exact q,hc.2.1⟩,r.trans hc.2.2⟩
structure PgOk (n:Nat) (p:Pg):Prop where
 d:p.datas.length≤n∧∀d∈p.datas,DtOk d
 c:p.classes.length≤n∧∀c∈p.classes,ClOk c
 i:p.insts.length≤n∧∀x∈p.insts,InOk x
 b:p.binds.length≤n∧eV p.binds
theorem aKp {α:Type}{l:List α}{x:α}{n:Nat}(h:l.length≤n):(l++[x]).length≤n+1:=by rw[θ,Bl];omega
theorem aA2 {α:Type}{P:α→Prop}{l:List α}{x:α}(h:∀y∈l,P y) (hx:P x):∀y∈l++[x],P y:=fun y hy=>by
 rcases Bk.1 hy with hy | hy
 ·exact h y hy
 ·rw[A2.1 hy];exact hx
section
variable {L:List Tk}{ex:Nat→Z→Ex×Z}(hO:ExO L ex) (hwt:wt L≤30000)
include hO hwt
theorem uS {n:Nat}{p:Pg}{sigs:List Sg}{z:Z}(h:ZA L z) (hp:PgOk n p) (hs:fX sigs∧sigs.length≤n):ZA L (cS ex p sigs z).2∧PgOk (n+1) (cS ex p sigs z).1.1∧(fX (cS ex p sigs z).1.2∧(cS ex p sigs z).1.2.length≤n+1)∧((cS ex p sigs z).2.e=0→(cS ex p sigs z).2.R.length<z.R.length)∧Ze z (cS ex p sigs z).2:=by
 obtain⟨hd,hc,hi,hb⟩:=hp;have up:∀{m:Nat},m≤n→m≤n+1:=fun h=>Nat.le_succ_of_le h
 unfold cS;split
 ·rename_i hm;have q:=fG h hm;obtain⟨g1,g2,g3⟩:=aM6 (h.may jB) hwt;have r:(jL (bT jB z).2).2.R.length≤(bT jB z).2.R.length:=g3;exact⟨g1,⟨⟨aKp hd.1,aA2 hd.2 g2⟩,⟨up hc.1,hc.2⟩,⟨up hi.1,hi.2⟩,⟨up hb.1,hb.2⟩⟩,⟨hs.1,up hs.2⟩,fun _=>Bz r q,Dc (Bz r q)⟩
 split
 ·rename_i hm;have q:=fG h hm;obtain⟨g1,g2,g3⟩:=aI8 (h.may eF) hwt;have r:(eE (bT eF z).2).2.R.length≤(bT eF z).2.R.length:=g3;exact⟨g1,⟨⟨up hd.1,hd.2⟩,⟨aKp hc.1,aA2 hc.2 g2⟩,⟨up hi.1,hi.2⟩,⟨up hb.1,hb.2⟩⟩,⟨hs.1,up hs.2⟩,fun _=>Bz r q,Dc (Bz r q)⟩
 split
 ·rename_i hm;have q:=fG h hm;obtain⟨g1,g2,g3⟩:=aMs hO hwt (h.may iX);have r:(kA ex (bT iX z).2).2.R.length≤(bT iX z).2.R.length:=g3;exact⟨g1,⟨⟨up hd.1,hd.2⟩,⟨up hc.1,hc.2⟩,⟨aKp hi.1,aA2 hi.2 g2⟩,⟨up hb.1,hb.2⟩⟩,⟨hs.1,up hs.2⟩,fun _=>Bz r q,Dc (Bz r q)⟩
 ·obtain⟨g1,g2,g3,g4,g5,g6,g7⟩:=mH hO hwt sigs p.binds 0 h hs.1 hb.2;exact⟨g1,⟨⟨up hd.1,hd.2⟩,⟨up hc.1,hc.2⟩,⟨up hi.1,hi.2⟩,⟨by show(aY ex sigs p.binds 0 z).1.2.length≤_;omega,g3⟩⟩,⟨g2,by show(aY ex sigs p.binds 0 z).1.1.length≤_;omega⟩,g6,g7⟩
end
def aZ5:List C:=[.nl,.nl,.nl,.nl]
def pgH (L:List Tk) (z:Z) (p:Pg) (sigs:List Sg):List (Nat×AObj):=[(700,zO L z),(2,.var 29 (aZ5.map .c)),(3,.var 29 [.hs 520 0 p.datas.length p.datas.length,.hs 521 0 p.classes.length p.classes.length,.hs 522 0 p.insts.length p.insts.length,.hs 511 0 p.binds.length p.binds.length]),(510,sgA sigs 0),(511,bdA p.binds 0),(520,.arr 81 5 (p.datas.map gV) 0),(521,.arr 90 6 (p.classes.map gW) 0),(522,.arr 95 6 (p.insts.map jK) 0)]
section
variable {L:List Tk}{ex:Nat→Z→Ex×Z}{N:Nat}(hO:ExO L ex) (hS:ExS L ex N) (hwt:wt L≤30000)
include hO hS hwt
theorem aE8 {z:Z}(h:ZA L z) (hN:z.R.length≤N):b9 Tryz.prog 40 [xP] [(700,zO L z)] (.pa (nV (cT ex z).1)) [(700,zO L (cT ex z).2)]:=by
 have hWx:∃W,W=dW ex (z.R.length+1) 0 zPg [] z:=⟨_,rfl⟩
 obtain⟨W,Y⟩:=hWx;unfold cT;rw[←Y];refine bP (n:=54) tok Tryz.func40 rfl rfl rfl ?_;refine sg rfl (sg rfl (sg rfl (AWp.sub (Sub.own (t:=4) (id:=510) 92 9 rfl rfl) ?_)));refine AWp.sub (Sub.ownCell (x:=3) (k:=0) (id:=520) 81 5 rfl rfl rfl) ?_;refine AWp.sub (Sub.ownCell (x:=3) (k:=1) (id:=521) 90 6 rfl rfl rfl) ?_;refine AWp.sub (Sub.ownCell (x:=3) (k:=2) (id:=522) 95 6 rfl rfl rfl) ?_;refine AWp.sub (Sub.ownCell (x:=3) (k:=3) (id:=511) 99 33 rfl rfl rfl) ?_;refine aA (sg rfl (aF (aK (fun q:(Pg×List Sg)×Z×Nat×Nat=>mk [(0,xP),(2,.one (.vp 2 0)),(3,.one (.vp 3 0)),(4,hsV 510 q.1.2.length),(5,I .i64 (q.2.2.1:Nat))] (pgH L q.2.1 q.1.1 q.1.2)) (fun q=>ZA L q.2.1∧PgOk q.2.2.1 q.1.1∧(fX q.1.2∧q.1.2.length≤q.2.2.1)∧q.2.1.R.length≤z.R.length∧(q.2.1.e=0→q.2.1.R.length<q.2.2.2)∧q.2.2.1≤60∧W=dW ex q.2.2.2 q.2.2.1 q.1.1 q.1.2 q.2.1) (fun q=>if q.2.1.e=0 then q.2.1.R.length+1 else 0) ((zPg,[]),z,0,z.R.length+1) ⟨h,⟨⟨le_refl _,fun d hd=>(by cases hd)⟩,⟨le_refl _,fun d hd=>(by cases hd)⟩,⟨le_refl _,fun d hd=>(by cases hd)⟩,⟨le_refl _,trivial⟩⟩,⟨fun d hd=>(by cases hd),le_refl _⟩,le_refl _,fun _=>Bt _,ε _,Y⟩ sl ?_)));clear Y h;rintro⟨⟨p,sigs⟩,z3,n,f⟩ ⟨h,hp,hs,hR,hf,hn,Y⟩;dsimp only at h hp hs hR hf hn Y ⊢;have hde:(p.datas.map gV).length=p.datas.length:=η _;have hce:(p.classes.map gW).length=p.classes.length:=η _;have hie:(p.insts.map jK).length=p.insts.length:=η _;have hbe:(p.binds.map b8).length=p.binds.length:=η _;have hdl:=hp.d.1;have hcl:=hp.c.1;have hil:=hp.i.1;have hbl:=hp.b.1;have hsl:=hs.2;have hm:=rX h [] n (by omega);have hmt:= @dU [] n z3;have E:=h.more [] n;have hm3:=Ze.more [] n z3;have U:W=if(aW [] n z3).1=true then dW ex (f-1) (n+1) (cS ex p sigs (aW [] n z3).2).1.1 (cS ex p sigs (aW [] n z3).2).1.2 (cS ex p sigs (aW [] n z3).2).2 else((p,sigs),(aW [] n z3).2):=by
  by_cases he:z3.e=0
  ·obtain⟨f,rfl⟩:∃g,f=g+1:=⟨f-1,by have:=hf he;omega⟩
   rw[dW] at Y;exact Y
  ·rw[dD he];rw[ξ ω];rw[Y];cases f with
   | zero=>rfl
   | succ f=>rw[dW,dD he,ξ ω]
 have hme:(aW [] n z3).1=true→z3.e=0:=fun e=>by
  by_cases he:z3.e=0
  ·exact he
  ·rw[dD he] at e;cases e
 clear Y;generalize aW [] n z3=m at hm hmt E hm3 U hme;obtain⟨b,z4⟩:=m;dsimp only at hm hmt E hm3 U hme;have hm3:z4.R.length≤z3.R.length:=hm3;refine aA (sk 2 rfl (kc hm ?_));refine az ?_;cases b with
 | true=>
  rw[ζ rfl] at U;obtain⟨e3,hn60⟩:=hmt rfl;have he2:=hme rfl;have hf:=hf he2;obtain⟨D1,D2,D3,D4,D5⟩:=uS hO hwt E hp hs;have r:∀st,Sub (keys [(700,zO L z)]) (mk [(0,xP),(2,.one (.vp 2 0)),(3,.one (.vp 3 0)),(4,hsV 510 (cS ex p sigs z4).1.2.length),(5,I .i64 ((n+1:Nat):Int))] (pgH L (cS ex p sigs z4).2 (cS ex p sigs z4).1.1 (cS ex p sigs z4).1.2)) st→∃q:(Pg×List Sg)×Z×Nat×Nat,(ZA L q.2.1∧PgOk q.2.2.1 q.1.1∧(fX q.1.2∧q.1.2.length≤q.2.2.1)∧q.2.1.R.length≤z.R.length∧(q.2.1.e=0→q.2.1.R.length<q.2.2.2)∧q.2.2.1≤60∧W=dW ex q.2.2.2 q.2.2.1 q.1.1 q.1.2 q.2.1)∧(if q.2.1.e=0 then q.2.1.R.length+1 else 0)<(if z3.e=0 then z3.R.length+1 else 0)∧Sub (keys [(700,zO L z)]) (mk [(0,xP),(2,.one (.vp 2 0)),(3,.one (.vp 3 0)),(4,hsV 510 q.1.2.length),(5,I .i64 (q.2.2.1:Nat))] (pgH L q.2.1 q.1.1 q.1.2)) st:=fun st hst=>by
   have D5':(cS ex p sigs z4).2.R.length≤z4.R.length:=D5;refine⟨((cS ex p sigs z4).1,(cS ex p sigs z4).2,n+1,f-1),⟨D1,D2,D3,by dsimp only;omega,fun h0=>by have:=D4 h0;dsimp only;omega,hn60,U⟩,?_,hst⟩;dsimp only;rw[ζ he2];split
   ·rename_i h0;have:=D4 h0;omega
   ·omega
  clear D1 D2 D3 D4 D5 U;unfold cS at r;refine aB rfl (fun _=>aD ?_) (fun hb=>Bool.noConfusion hb);have ha:=E.may jB;have u:= @j5 jB z4;have B:=j7 E jB;generalize bT jB z4=m at ha u B r;obtain⟨b,z5⟩:=m;dsimp only at ha u B r;refine aA (aF (aA (sk 1 rfl (kc B ?_))));refine az ?_;cases b with
  | true=>
   rw[ζ rfl] at r;have J:=aSk ha;generalize jL z5=y at J r;obtain⟨d,z6⟩:=y;dsimp only at J r;have M:p.datas.map gV++[gV d]=(p.datas++[d]).map gV:=by rw[Al];rfl
   have O:(p.datas++[d]).length=p.datas.length+1:=by rw[θ];rfl
   generalize p.datas++[d]=D at M O r;refine aB rfl (fun _=>sk 3 rfl (kc J ?_)) (fun hb=>Bool.noConfusion hb);exact ak 4 [(4,.all)] rfl (az (aH (agN [] rfl (r _ (sl (hh:=⟨⟨_,rfl,.var rfl⟩,⟨_,rfl,.var rfl⟩,⟨_,rfl,.var (by rw[O,←hde];rfl)⟩,⟨_,rfl,Go.AM.Ole.arr⟩,⟨_,rfl,Go.AM.Ole.arr⟩,⟨_,rfl,.arrS M⟩,⟨_,rfl,Go.AM.Ole.arr⟩,⟨_,rfl,Go.AM.Ole.arr⟩,trivial⟩))))))
  | false=>
  obtain rfl:=u rfl;rw[ξ ω] at r;refine aB rfl (fun hb=>Bool.noConfusion hb) (fun _=>aD ?_);clear ha B u;have ha:=E.may eF;have u:= @j5 eF z5;have B:=j7 E eF;generalize bT eF z5=m at ha u B r;obtain⟨b,z6⟩:=m;dsimp only at ha u B r;refine aA (sk 1 rfl (kc B ?_));refine az ?_;cases b with
  | true=>
   rw[ζ rfl] at r;have J:=aNp hwt ha;generalize eE z6=y at J r;obtain⟨d,z7⟩:=y;dsimp only at J r;have M:p.classes.map gW++[gW d]=(p.classes++[d]).map gW:=by rw[Al];rfl
   have O:(p.classes++[d]).length=p.classes.length+1:=by rw[θ];rfl
   generalize p.classes++[d]=D at M O r;refine aB rfl (fun _=>sk 3 rfl (kc J ?_)) (fun hb=>Bool.noConfusion hb);exact ak 4 [(4,.all)] rfl (az (aH (agN [] rfl (r _ (sl (hh:=⟨⟨_,rfl,.var rfl⟩,⟨_,rfl,.var rfl⟩,⟨_,rfl,.var (by rw[O,←hce];rfl)⟩,⟨_,rfl,Go.AM.Ole.arr⟩,⟨_,rfl,Go.AM.Ole.arr⟩,⟨_,rfl,Go.AM.Ole.arr⟩,⟨_,rfl,.arrS M⟩,⟨_,rfl,Go.AM.Ole.arr⟩,trivial⟩))))))
  | false=>
  obtain rfl:=u rfl;rw[ξ ω] at r;refine aB rfl (fun hb=>Bool.noConfusion hb) (fun _=>aD ?_);clear ha B u;have ha:=E.may iX;have u:= @j5 iX z6;have B:=j7 E iX;have lm:(bT iX z6).2.R.length≤z6.R.length:=Ze.may iX z6;generalize bT iX z6=m at ha u B lm r;obtain⟨b,z7⟩:=m;dsimp only at ha u B lm r;refine aA (sk 1 rfl (kc B ?_));refine az ?_;cases b with
  | true=>
   rw[ζ rfl] at r;have J:=aSg hO hS hwt ha (by omega);generalize kA ex z7=y at J r;obtain⟨d,z8⟩:=y;dsimp only at J r;have M:p.insts.map jK++[jK d]=(p.insts++[d]).map jK:=by rw[Al];rfl
   have O:(p.insts++[d]).length=p.insts.length+1:=by rw[θ];rfl
   generalize p.insts++[d]=D at M O r;refine aB rfl (fun _=>sk 3 rfl (kc J ?_)) (fun hb=>Bool.noConfusion hb);exact ak 4 [(4,.all)] rfl (az (aH (agN [] rfl (r _ (sl (hh:=⟨⟨_,rfl,.var rfl⟩,⟨_,rfl,.var rfl⟩,⟨_,rfl,.var (by rw[O,←hie];rfl)⟩,⟨_,rfl,Go.AM.Ole.arr⟩,⟨_,rfl,Go.AM.Ole.arr⟩,⟨_,rfl,Go.AM.Ole.arr⟩,⟨_,rfl,Go.AM.Ole.arr⟩,⟨_,rfl,.arrS M⟩,trivial⟩))))))
  | false=>
  obtain rfl:=u rfl;rw[ξ ω] at r;refine aB rfl (fun hb=>Bool.noConfusion hb) (fun _=>aD ?_);have hei:=y6 hS hwt sigs p.binds 0 E (by omega) (by decide) (by omega) (by omega);generalize aY ex sigs p.binds 0 z7=y at hei r;obtain⟨⟨S,Bs⟩,z8⟩:=y;dsimp only at hei r;refine aC mixed (ak 4 [] rfl (kc hei ?_));exact kz 6 rfl (agN [] rfl (r _ sl))
 | false=>
  rw[ξ ω] at U;subst U;unfold nP;dsimp only;have hpr:=aJn sigs p.binds E (by omega) (by omega);obtain⟨p1,p2,p3,p4⟩:=gS sigs p.binds z4 E hs.1 hp.b.2;generalize cF sigs p.binds z4=y at hpr p1 p2 p3 p4 ⊢;obtain⟨Bs,z6⟩:=y;dsimp only at hpr p1 p2 p3 p4 ⊢;have hBl:p.binds.length=(Bs.map b8).length:=by rw[η,p3]
  refine aB rfl (fun hb=>Bool.noConfusion hb) (fun _=>aH (AWp.sub (Sub.freeze (id:=510) rfl) ?_));refine sk 4 rfl (kc hpr ?_);refine kz 2 rfl (AWp.sub (Sub.freeze (id:=511) rfl) ?_);refine AWp.sub (Sub.freeze (id:=520) rfl) ?_;refine AWp.sub (Sub.freeze (id:=521) rfl) ?_;refine AWp.sub (Sub.freeze (id:=522) rfl) ?_;exact sg rfl (aE (rtC trw (hc:=.agg (.hs rfl hde.symm (Go.AM.take_all hde.symm) (.hs rfl hce.symm (Go.AM.take_all hce.symm) (.hs rfl hie.symm (Go.AM.take_all hie.symm) (.hs rfl hBl (Go.AM.take_all hBl) .nil)))))))
end
theorem aIy {t:Tk}{R:List Tk}(h:oH R):oH (t::R):=by
 obtain⟨p,e,rfl,he⟩:=h;exact⟨t::p,e,rfl,he⟩
theorem aHu {c:UInt8}{r:Str}{k:Int}{t:Str}{v:Int}(h:j4 (c::r)=.ok (k,t,v)):(k=4→v=0)∧1≤k∧k≤5:=by
 rw[j4] at h;split at h
 ·split at h
  ·cases h
  ·cases h;exact⟨fun e=>by omega,by decide,by decide⟩
 split at h
 ·unfold oW at h;split at h
  ·cases h
  split at h
  ·cases h;exact⟨fun e=>by omega,by decide,by decide⟩
  split at h
  ·cases h;exact⟨fun e=>by omega,by decide,by decide⟩
  ·cases h;exact⟨fun e=>by omega,by decide,by decide⟩
 split at h
 ·cases h
 ·cases h;exact⟨fun _=>rfl,by decide,by decide⟩
structure LOk (L:List Tk) (n:Nat):Prop where
 e:oH L
 w:wt L≤7*n+6
 l:L.length≤n+1
 z:pO L
theorem zU:∀(f a:Nat) (s:Str) (l:List Tk),mY f a s=.ok l→LOk l s.length
 | 0,a,s,l,h=>by
  rw[mY] at h;cases h;refine⟨⟨[],_,rfl,rfl⟩,by rw[hY];show 0+6+0≤_;omega,by simp,fun t ht=>?_⟩;rw[A2.1 ht];exact fun _=>rfl
 | f+1,a,[],l,h=>by
  rw[mY] at h;cases h;refine⟨⟨[],_,rfl,rfl⟩,by rw[hY];exact le_refl _,by simp,fun t ht=>?_⟩;rw[A2.1 ht];exact fun _=>rfl
 | f+1,a,c::r,l,h=>by
  rw[mY] at h;split at h
  ·rename_i hb;obtain⟨g1,g2,g3,g4⟩:=zU f _ _ l h;rw[Bg] at g2 g3;exact⟨g1,by omega,by omega,g4⟩
  ·cases ho:j4 (c::r) with
   | error e=>rw[ho] at h;cases h
   | ok y=>
    obtain⟨k,t,v⟩:=y;rw[ho] at h;dsimp only at h;cases q:mY f (a+t.length) ((c::r).drop t.length) with
    | error e=>rw[q,uU] at h;cases h
    | ok B=>
     rw[q,uU] at h;cases h;obtain⟨g1,g2,g3,g4⟩:=zU f _ _ B q;obtain⟨I,J⟩:=mC ho;obtain⟨E,M,O⟩:=aHu ho;rw[Bg] at g2 g3;refine⟨aIy g1,?_,?_,fun u hu=>?_⟩
     ·rw[hY];show t.length+6+wt B≤_;omega
     ·rw[χ];omega
     ·rcases Au.1 hu with rfl | hu
      ·exact E
      ·exact g4 u hu
theorem aRd {s:Str}{l:List Tk}(h:lexA s=.ok l):LOk l s.length∧s.length≤4000:=by
 unfold lexA at h;split at h
 ·cases h
 ·exact⟨zU _ _ _ _ h,by omega⟩
theorem uF:∀(f a:Nat) (s:Str) (e p:Int),mY f a s=.error (e,p)→¬e=0
 | 0,a,s,e,p,h=>by rw[mY] at h;cases h
 | f+1,a,[],e,p,h=>by rw[mY] at h;cases h
 | f+1,a,c::r,e,p,h=>by
  rw[mY] at h;split at h
  ·exact uF f _ _ e p h
  ·cases ho:j4 (c::r) with
   | error e'=>
    rw[ho] at h;dsimp only at h;cases h;exact u9 ho
   | ok y=>
    obtain⟨k,t,v⟩:=y;rw[ho] at h;dsimp only at h;cases q:mY f (a+t.length) ((c::r).drop t.length) with
    | error e'=>obtain⟨e',u⟩:=e';rw[q,uU] at h;cases h;exact uF f _ _ e p q
    | ok B=>rw[q,uU] at h;cases h
theorem uG {s:Str}{e p:Int}(h:lexA s=.error (e,p)):¬e=0:=by
 unfold lexA at h;split at h
 ·cases h;decide
 ·exact uF _ _ _ _ _ h
def gU:Tk:=⟨6,[],0,0⟩
def cW (s:Str):List Tk×Z:=match lexA s with
 | .ok l=>(l,⟨l,0,0⟩)
 | .error (e,p)=>([gU],⟨[gU],e,p⟩)
theorem oA (s:Str):ZA (cW s).1 (cW s).2∧wt (cW s).1≤30000∧pO (cW s).1∧(cW s).1=(cW s).2.R:=by
 unfold cW;cases h:lexA s with
 | ok l=>
  obtain⟨⟨h1,h2,r,q⟩,u⟩:=aRd h;refine⟨⟨?_,h1,by dsimp only;omega⟩,by dsimp only;omega,q,rfl⟩;show l.drop (l.length-l.length)=l;rw[Cg];rfl
 | error e=>
  obtain⟨e,p⟩:=e;refine⟨⟨rfl,⟨[],gU,rfl,rfl⟩,by show 1≤_;decide⟩,?_,?_,rfl⟩
  ·show wt [gU]≤30000;decide
  ·intro t ht;rw[A2.1 ht];exact fun _=>rfl
theorem aNv (s:Str):b9 Tryz.prog 38 [Go.AM.T s] [] xP [(700,zO (cW s).1 (cW s).2)]:=by
 have r:=aW8 s;unfold cW;have q:= @uG s;generalize lexA s=w at r q ⊢;refine bP (n:=21) tok Tryz.func38 rfl rfl rfl ?_;refine sg rfl (sk 1 rfl (kc r ?_));cases w with
 | ok l=>
  unfold aFu atV;refine kz 6 rfl (aA (sg rfl (aB rfl (fun hb=>Bool.noConfusion hb) (fun _=>aD (sgh [(2,.id 700)] rfl ?_)))));have e:zO l ⟨l,0,0⟩=.var 78 [.c (.sl 4 (l.map aG)),.c (.int .i64 0),.c (.int .i64 0),.c (.int .i64 0)]:=by unfold zO;dsimp only;rw[Cg];rfl
  dsimp only;rw[e];exact aE rtT
 | error e=>
  obtain⟨e,p⟩:=e;have he:=q rfl;have d0:(!decide (e=0))=true:=by rw[ψ he];rfl
  unfold aFu atV;exact kz 6 rfl (aA (sg rfl (aB rfl (fun _=>sgh [(1,.all),(4,.id 700)] rfl (aE rtT)) (fun hb=>absurd (hb.symm.trans d0) Bool.noConfusion))))
theorem ZA.endz {L:List Tk}{z:Z}(h:ZA L z):ZA L (n1 z):=by
 unfold n1;split
 ·exact h.fail _ _
 ·exact h
theorem aW2 {L:List Tk}{z:Z}(h:ZA L z):b9 Tryz.prog 41 [xP] [(700,zO L z)] (.tup []) [(700,zO L (n1 z))]:=by
 have ho:=fP L z;have hn:=fZ h;have r:=eB L z 12 (b6 z).pl;unfold n1;refine bP (n:=15) tok Tryz.func41 rfl rfl rfl ?_;by_cases he:z.e=0
 case neg=>
  rw[ξ (fun k=>he k.1)];rw[ψ he] at ho;refine sk 1 rfl (kc ho ?_);exact ak 6 [(2,.bv false),(7,.bv false)] rfl (az (aB rfl (fun hb=>Bool.noConfusion hb) (fun _=>aD rtN)))
 rw[φ he] at ho;refine sk 1 rfl (kc ho ?_);refine ak 2 [(2,.bv true)] rfl (kcG hn ?_);refine ak 3 [(2,.bv true),(7,.bv true)] rfl (az ?_);by_cases q:(b6 z).kind=6
 ·rw[ξ (fun k=>k.2 q)];have d:(!decide ((b6 z).kind=6))=false:=by rw[φ q];rfl
  exact aB rfl (fun hb=>absurd (hb.symm.trans d) Bool.noConfusion) (fun _=>aD rtN)
 ·rw[ζ ⟨he,q⟩];have d:(!decide ((b6 z).kind=6))=true:=by rw[ψ q];rfl
  refine aB rfl (fun _=>aC mixed (ak 2 [] rfl (kc hn ?_))) (fun hb=>absurd (hb.symm.trans d) Bool.noConfusion);refine ak 1 [] rfl (kc r ?_);exact az rtN
def gQ (s:Str):Pg×Z:=if(cW s).2.e=0 then cT (fV (cW s).2.R.length) (cW s).2 else(zPg,(cW s).2)
def eD (s:Str):Pg×Int×Int:=if(n1 (gQ s).2).e=0 then((gQ s).1,(n1 (gQ s).2).e,(n1 (gQ s).2).p) else(zPg,(n1 (gQ s).2).e,(n1 (gQ s).2).p)
theorem aBu {L:List Tk}{ex:Nat→Z→Ex×Z}(hO:ExO L ex) (hwt:wt L≤30000):∀(f n:Nat) (p:Pg) (sigs:List Sg) (z:Z),ZA L z→PgOk n p→(fX sigs∧sigs.length≤n)→n≤60→ZA L (dW ex f n p sigs z).2∧PgOk 60 (dW ex f n p sigs z).1.1∧(fX (dW ex f n p sigs z).1.2∧(dW ex f n p sigs z).1.2.length≤60)
 | 0,n,p,sigs,z,h,hp,hs,hn=>by
  rw[dW];exact⟨h,⟨⟨le_trans hp.d.1 hn,hp.d.2⟩,⟨le_trans hp.c.1 hn,hp.c.2⟩,⟨le_trans hp.i.1 hn,hp.i.2⟩,⟨le_trans hp.b.1 hn,hp.b.2⟩⟩,⟨hs.1,le_trans hs.2 hn⟩⟩
 | f+1,n,p,sigs,z,h,hp,hs,hn=>by
  rw[dW];split
  ·rename_i hm;obtain⟨_,q⟩:=dU hm;obtain⟨g1,g2,g3,_,_⟩:=uS hO hwt (h.more [] n) hp hs;exact aBu hO hwt f (n+1) _ _ _ g1 g2 g3 q
  ·exact⟨h.more _ _,⟨⟨le_trans hp.d.1 hn,hp.d.2⟩,⟨le_trans hp.c.1 hn,hp.c.2⟩,⟨le_trans hp.i.1 hn,hp.i.2⟩,⟨le_trans hp.b.1 hn,hp.b.2⟩⟩,⟨hs.1,le_trans hs.2 hn⟩⟩
theorem PgOk.z (n:Nat):PgOk n zPg:=⟨⟨ε _,fun d hd=>(by cases hd)⟩,⟨ε _,fun d hd=>(by cases hd)⟩,⟨ε _,fun d hd=>(by cases hd)⟩,⟨ε _,trivial⟩⟩
theorem n8 {L:List Tk}{ex:Nat→Z→Ex×Z}(hO:ExO L ex) (hwt:wt L≤30000) {z:Z}(h:ZA L z):ZA L (cT ex z).2∧PgOk 60 (cT ex z).1:=by
 obtain⟨g1,g2,g3⟩:=aBu hO hwt (z.R.length+1) 0 zPg [] z h (.z 0) ⟨fun s hs=>(by cases hs),le_refl _⟩ (ε _);obtain⟨q,r,u,_⟩:=gS (dW ex (z.R.length+1) 0 zPg [] z).1.2 (dW ex (z.R.length+1) 0 zPg [] z).1.1.binds _ g1 g3.1 g2.b.2;exact⟨q,⟨g2.d,g2.c,g2.i,⟨by show(cF _ _ _).1.length≤_;rw[u];exact g2.b.1,r⟩⟩⟩
theorem aFd (s:Str):b9 Tryz.prog 9 [Go.AM.T s] [] (.tup [.pa (nV (eD s).1),atV (eD s).2.1 (eD s).2.2]) []:=by
 have B:=aNv s;obtain⟨E,hwt,_,Y⟩:=oA s;have r:=aE8 (lM hwt (cW s).2.R.length) (aV5 hwt _) hwt E (le_refl _);obtain⟨I,_⟩:=n8 (lM hwt (cW s).2.R.length) hwt E;unfold eD gQ;generalize cW s=U at B E hwt r I ⊢;obtain⟨L,z⟩:=U;dsimp only at B E hwt r I ⊢;have ho:=fP L z;refine bP (n:=27) tok Tryz.func9 rfl rfl rfl ?_;refine sg rfl (sk 1 rfl (kc B ?_));refine kz 1 rfl (sg rfl ?_);have q:∃y,y=(if z.e=0 then cT (fV z.R.length) z else(zPg,z))∧ZA L y.2:=⟨_,rfl,by split<;>first | exact I | exact E⟩
 obtain⟨⟨p,M⟩,q,h1⟩:=q;rw[←q];dsimp only at h1 ⊢;refine aA (AWp.cut (mk [(2,.one (.vp 2 0)),(3,.one (.vp 3 0)),(4,xP),(5,.one (.vp 5 0))] [(700,zO L M),(2,.var 29 (aZ5.map .c)),(3,.var 32 [.c (.int .i64 0),.c (.int .i64 0)]),(5,.var 29 ((nV p).map .c))]) ?_ ?_)
 ·refine sk 1 rfl (kc ho ?_);refine az ?_;by_cases he:z.e=0
  ·rw[ζ he] at q;have d:decide (z.e=0)=true:=φ he;rw[←q] at r;refine aB rfl (fun _=>aC mixed (ak 1 [] rfl (kc r ?_))) (fun hb=>absurd (hb.symm.trans d) Bool.noConfusion);exact kz 1 rfl sl
  ·rw[ξ he] at q;have d:decide (z.e=0)=false:=ψ he;obtain⟨rfl,rfl⟩:=Prod.mk.inj q;refine aB rfl (fun hb=>absurd (hb.symm.trans d) Bool.noConfusion) (fun _=>aD (Sub.trans ?_ (vp 5 (nV zPg))));exact sl
 have J:=aW2 h1;have h2:=h1.endz;generalize n1 M=z2 at J h2 ⊢;have O:=fP L z2;refine sk 1 rfl (kc J ?_);refine az (aA (sk 1 rfl (kc O ?_)));refine kz 1 rfl ?_;by_cases u:z2.e=0
 ·rw[ζ u];have d:(!decide (z2.e=0))=false:=by rw[φ u];rfl
  exact aB rfl (fun hb=>absurd (hb.symm.trans d) Bool.noConfusion) (fun _=>aD (sg rfl (aE aGr)))
 ·rw[ξ u];have d:(!decide (z2.e=0))=true:=by rw[ψ u];rfl
  exact aB rfl (fun _=>sg rfl (aE aGr)) (fun hb=>absurd (hb.symm.trans d) Bool.noConfusion)
theorem aX1 {α β:Type}(f:α→β) {c d:Prop} [Decidable c] [Decidable d] (h:d↔c) {a b:α}{x y:β}(ha:x=f a) (hb:y=f b):(if d then x else y)=f (if c then a else b):=by
 by_cases hc:c
 ·rw[ζ hc,ζ (h.2 hc)];exact ha
 ·rw[ξ hc,ξ (fun k=>hc (h.1 k))];exact hb
def tk0 (t:Tk):Tk:=⟨t.kind,t.text,t.n,0⟩
theorem k0 (t:Tk):(tk0 t).kind=t.kind:=rfl
theorem p0 (t:Tk):(tk0 t).pl=0:=rfl
def zz0 (z:Z):Z:=⟨z.R.map tk0,z.e,0⟩
theorem iR (z:Z):(zz0 z).e=z.e:=rfl
theorem s9 (z:Z):(zz0 z).R.length=z.R.length:=η _
theorem aB8 (z:Z):b6 (zz0 z)=tk0 (b6 z):=by
 obtain⟨R,e,p⟩:=z;cases R<;>rfl
theorem is0 (s:Str) (z:Z):isZ s (zz0 z)=isZ s z:=by unfold isZ;rw[aB8];rfl
theorem mP (e p:Int) (z:Z):bS e 0 (zz0 z)=zz0 (bS e p z):=by
 unfold bS;rw[iR];split<;>rfl
theorem aPh (e p:Int) (z y:Z):bS e (b6 (zz0 y)).pl (zz0 z)=zz0 (bS e p z):=by rw[aB8];exact mP e p z
theorem aEs (s:Str) (z:Z):bT s (zz0 z)=((bT s z).1,zz0 (bT s z).2):=by
 unfold bT;rw[is0,iR];split
 ·unfold zz0;rw[List.map_tail]
 ·rfl
theorem jX (s:Str) (z:Z):aQ s (zz0 z)=zz0 (aQ s z):=by
 unfold aQ;rw[aEs];dsimp only;split
 ·rfl
 ·exact aPh _ _ _ _
theorem tN (k:Int) (z:Z):aS k (zz0 z)=(tk0 (aS k z).1,zz0 (aS k z).2):=by
 unfold aS;rw[aB8,iR];show(if z.e=0∧(b6 z).kind=k then _ else _)=_;split
 ·unfold zz0;rw[List.map_tail]
 ·show(_,bS 12 0 (zz0 z))=_;rw[mP 12 (b6 z).pl];rfl
theorem aA6 (z:Z):aU (zz0 z)=((aU z).1.map tk0,zz0 (aU z).2):=by
 unfold aU;rw[iR];split
 ·unfold zz0;rw[List.takeWhile_map,List.dropWhile_map];rfl
 ·rfl
theorem wY (n m:Nat) (a:Int) (z:Z):c8 n m 0 (zz0 z)=zz0 (c8 n m a z):=by
 unfold c8;split
 ·exact mP _ _ _
 ·rfl
theorem aUh (s:Str) (z:Z):cK s (zz0 z)=cK s z:=by
 unfold cK;rw[aB8,is0];rfl
theorem aVn (s:Str) (n:Nat) (z:Z):moreA s n (zz0 z)=zz0 (moreA s n z):=by
 unfold moreA;rw[is0,aUh,iR];split
 ·exact aPh _ _ _ _
 ·rfl
theorem aYn (z:Z):cL (zz0 z)=zz0 (cL z):=by
 unfold cL;rw[iR];split
 ·unfold zz0;rw[List.dropWhile_map];rfl
 ·rfl
theorem aH4 (s:Str) (n:Nat) (z:Z):aW s n (zz0 z)=((aW s n z).1,zz0 (aW s n z).2):=by
 unfold aW;rw[aVn,aYn,aUh,iR,aB8];split
 ·rfl
 ·show(decide ((c8 (n+1) 60 0 _).e=0),c8 (n+1) 60 0 _)=_;rw[wY (n+1) 60 (b6 (cL (moreA s n z))).pl];rfl
theorem tl0 (z:Z):tlZ (zz0 z)=zz0 (tlZ z):=by unfold tlZ zz0;rw[List.map_tail]
def er0 {α:Type}:Except PE (α×List Tk)→Except PE (α×List Tk)
 | .error (e,_)=>.error (e,0)
 | .ok (x,R)=>.ok (x,R.map tk0)
theorem aUg:∀r:TR,n6 (er0 r)=er0 (n6 r)
 | .error _=>rfl
 | .ok (_,[])=>rfl
 | .ok (x,t::R)=>by
  show(if isT (tk0 t) c6=true then _ else _)=er0 (n6 (.ok (x,t::R)));rw[n6];show(if isT t c6=true then _ else _)=_;split<;>rfl
theorem aBc:∀f:Nat,(∀o R,cO f o (R.map tk0)=er0 (cO f o R))∧(∀o R,bX f o (R.map tk0)=er0 (bX f o R))∧(∀o x R,gC f o x (R.map tk0)=er0 (gC f o x R))
 | 0=>⟨fun o R=>by rw[cO,cO];rfl,fun o R=>by rw[bX,bX];rfl,fun o x R=>by rw[gC,gC];rfl⟩
 | f+1=>by
  obtain⟨h1,h2,q⟩:=aBc f;refine⟨fun o R=>?_,fun o R=>?_,fun o x R=>?_⟩
  ·cases R with
   | nil=>rw[Ch,cO];rfl
   | cons t R=>
    rw[Ar,cO,cO];show(if t.kind=2 then _ else if t.kind=1 then _ else if isT t bI=false then _ else _)=_;split
    ·rfl
    split
    ·rfl
    split
    ·rfl
    split
    ·rfl
    ·rw[h2,aUg]
  ·rw[bX,bX,h1];cases cO f o R with
   | error e=>obtain⟨e,p⟩:=e;rfl
   | ok y=>obtain⟨x,R1⟩:=y;exact q o x R1
  ·cases R with
   | nil=>rw[Ch,gC];rfl
   | cons t R=>
    rw[Ar,gC,gC];show(if aFf t=true then _ else if isT t arrow=true then _ else _)=_;split
    ·have h:=h1 o (t::R);rw[Ar] at h;rw[h];cases cO f o (t::R) with
     | error e=>obtain⟨e,p⟩:=e;rfl
     | ok y=>obtain⟨a,R1⟩:=y;exact q o _ R1
    split
    ·rw[h2];cases bX f o R with
     | error e=>obtain⟨e,p⟩:=e;rfl
     | ok y=>obtain⟨a,R1⟩:=y;rfl
    ·rfl
def op0:Option (List Prd×List Tk)→Option (List Prd×List Tk)
 | none=>none
 | some (x,R)=>some (x,R.map tk0)
theorem aO2:∀(f:Nat) (b:Bool) (R:List Tk) (out:List Prd),eZ f b (R.map tk0) out=op0 (eZ f b R out)
 | 0,b,R,out=>by rw[eZ,eZ];rfl
 | f+1,b,[],out=>by rw[Ch,eZ];rfl
 | f+1,b,t::R,out=>by
  rw[Ar,eZ,eZ,η];show(if t.kind=2 then _ else _)=_;split
  ·rw[(aBc _).1];cases cO (3*R.length) (if b=true then 1 else 0) R with
   | error e=>obtain⟨e,p⟩:=e;rfl
   | ok y=>
    obtain⟨x,R1⟩:=y;cases R1 with
    | nil=>rfl
    | cons u R2=>
     show(if(b&&isT u lP)=true then eZ f b (R2.map tk0) _ else _)=op0 (if(b&&isT u lP)=true then _ else _);split
     ·exact aO2 f b R2 _
     ·rfl
  ·rfl
theorem aXj (a:Int) (R0:List Tk) (out:List Prd) (R:List Tk):yV 0 (R0.map tk0) out (R.map tk0)=er0 (yV a R0 out R):=by
 cases R with
 | nil=>rfl
 | cons u R=>
  rw[Ar,yV,yV];show(if isT u darrow=true then _ else _)=_;split
  ·split<;>rfl
  ·rfl
theorem a3d (a:Int) (R0:List Tk) (b:Bool) (out:List Prd) (R:List Tk):brP 0 (R0.map tk0) b out (R.map tk0)=er0 (brP a R0 b out R):=by
 cases R with
 | nil=>rfl
 | cons u R=>
  rw[Ar,brP,brP];show(if b=true then(if isT u c6=true then _ else _) else _)=_;split
  ·split
   ·exact aXj _ _ _ _
   ·rfl
  ·have:=aXj a R0 out (u::R);rw[Ar] at this;exact this
theorem aHj (R:List Tk):cR (R.map tk0)=er0 (cR R):=by
 cases R with
 | nil=>rfl
 | cons t R=>
  rw[Ar,cR,cR];show kT 0 (tk0 t::R.map tk0) (isT t bI) (eZ ((tk0 t::R.map tk0).length+1) (isT t bI) (if isT t bI=true then R.map tk0 else tk0 t::R.map tk0) [])=_;rw[show(tk0 t::R.map tk0)=(t::R).map tk0 from rfl,η,←apply_ite (List.map tk0),aO2];cases eZ ((t::R).length+1) (isT t bI) (if isT t bI=true then R else t::R) [] with
  | none=>rfl
  | some y=>obtain⟨o,R1⟩:=y;exact a3d _ _ _ _ _
theorem aLn (R:List Tk):cH (R.map tk0)=er0 (cH R):=by
 unfold cH;rw[aHj];cases cR R with
 | error e=>obtain⟨e,p⟩:=e;rfl
 | ok y=>
  obtain⟨ps,R1⟩:=y;show nL ps (bX (3*(R1.map tk0).length+2) 0 (R1.map tk0))=er0 (nL ps (bX (3*R1.length+2) 0 R1));rw[η,(aBc _).2.1];cases bX (3*R1.length+2) 0 R1 with
  | error e=>obtain⟨e,p⟩:=e;rfl
  | ok y=>obtain⟨x,R2⟩:=y;rfl
theorem zE (z:Z):bK (zz0 z)=((bK z).1,zz0 (bK z).2):=by
 unfold bK;rw[iR];split
 ·rw[show(zz0 z).R=z.R.map tk0 from rfl,aLn];cases cH z.R with
  | error e=>obtain⟨e,p⟩:=e;rfl
  | ok y=>obtain⟨x,R2⟩:=y;rfl
 ·rfl
theorem aO1 (z:Z):bM (zz0 z)=((bM z).1,zz0 (bM z).2):=by
 unfold bM;rw[iR];split
 ·rw[show(zz0 z).R=z.R.map tk0 from rfl,aHj];cases cR z.R with
  | error e=>obtain⟨e,p⟩:=e;rfl
  | ok y=>obtain⟨x,R2⟩:=y;rfl
 ·rfl
theorem aZx (z:Z):eK (zz0 z)=((eK z).1,zz0 (eK z).2):=by
 unfold eK;rw[s9,show(zz0 z).R=z.R.map tk0 from rfl,(aBc _).1];cases cO (3*z.R.length) 0 z.R with
 | error e=>obtain⟨e,p⟩:=e;rfl
 | ok y=>obtain⟨x,R2⟩:=y;rfl
mutual
def pt0:Pt→Pt
 | .mk f _ n s l=>.mk f 0 n s (sQ l)
def sQ:List Pt→List Pt
 | []=>[]
 | p::l=>pt0 p::sQ l
end
theorem qA:∀l:List Pt,sQ l=l.map pt0
 | []=>rfl
 | p::l=>by rw[sQ,qA l];rfl
theorem aBs (l m:List Pt):sQ (l++m)=sQ l++sQ m:=by simp only[qA,Al]
mutual
def ex0:Ex→Ex
 | .mk f _ n s ks ps bs g=>.mk f 0 n s (aAh ks) (sQ ps) (nH bs) g
def aAh:List Ex→List Ex
 | []=>[]
 | e::l=>ex0 e::aAh l
def bd0:Bd→Bd
 | .mk s _ h g e=>.mk s 0 h g (ex0 e)
def nH:List Bd→List Bd
 | []=>[]
 | b::l=>bd0 b::nH l
end
theorem aCs:∀l:List Ex,aAh l=l.map ex0
 | []=>by rw[aAh];rfl
 | p::l=>by rw[aAh,aCs l];rfl
theorem kD:∀l:List Bd,nH l=l.map bd0
 | []=>by rw[nH];rfl
 | p::l=>by rw[nH,kD l];rfl
theorem aMy (l m:List Ex):aAh (l++m)=aAh l++aAh m:=by simp only[aCs,Al]
theorem aDl (l m:List Bd):nH (l++m)=nH l++nH m:=by simp only[kD,Al]
theorem aN6 (b:Bd):(bd0 b).name=b.name:=by cases b;rw[bd0];rfl
theorem aS2 (b:Bd):(bd0 b).has=b.has:=by cases b;rw[bd0];rfl
def sg0 (s:Sg):Sg:=⟨s.name,0,s.ty⟩
theorem aVh:∀f:Nat,(∀o z,bA f o (zz0 z)=((pt0 (bA f o z).1.1,(bA f o z).1.2),zz0 (bA f o z).2))∧(∀o z,gD f o (zz0 z)=(pt0 (gD f o z).1,zz0 (gD f o z).2))∧(∀o out z,eU f o (sQ out) (zz0 z)=(sQ (eU f o out z).1,zz0 (eU f o out z).2))
 | 0=>⟨fun o z=>by rw[bA,bA];rfl,fun o z=>by rw[gD,gD,mP 12 0];rfl,fun o out z=>by rw[eU,eU]⟩
 | f+1=>by
  obtain⟨h1,h2,r⟩:=aVh f;refine⟨fun o z=>?_,fun o z=>?_,fun o out z=>?_⟩
  ·rw[bA,bA,iR,aB8,aEs,is0,jX,h2,tl0,k0,p0];split
   ·rfl
   split
   ·rfl
   split
   ·rfl
   split
   ·rfl
   split
   ·rw[mP 13 (b6 z).pl];rfl
   ·rw[jX]
  ·rw[gD,gD,h1,aB8,iR,tl0,k0,p0];split
   ·rw[mP 12 (b6 z).pl];rfl
   split
   ·have q:=r o [] (tlZ z);rw[sQ] at q;rw[q,pt0];rfl
   ·rfl
  ·rw[eU,eU,h1,iR];dsimp only;split
   ·split
    ·rfl
    ·have q:=r o (out++[(bA f o z).1.1]) (bA f o z).2;rw[aBs,sQ,sQ] at q;exact q
   ·rfl
def Ex0 (ex:Nat→Z→Ex×Z):Prop:=∀deep z,ex deep (zz0 z)=(ex0 (ex deep z).1,zz0 (ex deep z).2)
theorem aT4 (l:List Tk):kM (l.map tk0)=sQ (kM l):=by
 rw[qA];unfold kM;rw[map_map,map_map];rfl
theorem aXi (t:Tk):pB (tk0 t)=ex0 (pB t):=by
 exact aX1 ex0 Iff.rfl rfl rfl
theorem aVs (a:Int) (l:List Tk) (b:Ex):aRg 0 (l.map tk0) (ex0 b)=ex0 (aRg a l b):=by
 unfold aRg;rw[aT4];rfl
theorem aXa (l:List Tk) (b:Ex):yA (l.map tk0) (ex0 b)=ex0 (yA l b):=by
 cases l with
 | nil=>rfl
 | cons t l=>exact aVs t.pl (t::l) b
theorem aQl (b:Bd) (s:Sch):i7 (bd0 b) s=bd0 (i7 b s):=by
 cases b;rw[bd0];unfold i7;rw[bd0];rfl
theorem aHr:∀(l:List Sg) (b:List Bd) (z:Z),cF (l.map sg0) (nH b) (zz0 z)=(nH (cF l b z).1,zz0 (cF l b z).2)
 | [],b,z=>by rw[Ch,cF,cF]
 | s::l,b,z=>by
  rw[Ar,cF,cF,iR];split
  ·rw[kD,List.findIdx?_map];have q:((fun x:Bd=>decide (x.name=(sg0 s).name))∘bd0)=fun x:Bd=>decide (x.name=s.name):=by
    funext x;show decide ((bd0 x).name=s.name)=_;rw[aN6]
   rw[q];cases b.findIdx? (fun x=>decide (x.name=s.name)) with
   | none=>
    dsimp only;rw[show(sg0 s).pl=0 from rfl,mP 21 s.pl,←kD];exact aHr l b _
   | some k=>
    dsimp only;rw[By];cases b[k]? with
    | none=>rw[←kD];rfl
    | some x=>
     dsimp only[Option.map];rw[aS2];split
     ·rw[show(sg0 s).pl=0 from rfl,mP 20 s.pl,←kD];exact aHr l b _
     ·rw[show(sg0 s).ty=s.ty from rfl,aQl,←map_set,←kD];exact aHr l _ _
  ·rfl
section
variable {ex:Nat→Z→Ex×Z}(hx:Ex0 ex)
include hx
theorem aVk (deep:Nat) (z:Z):fT ex deep (zz0 z)=((ex0 (fT ex deep z).1.1,(fT ex deep z).1.2),zz0 (fT ex deep z).2):=by
 unfold fT;rw[iR,aB8,aEs,tl0,k0];dsimp only;rw[hx,jX,aXi];split
 ·rfl
 split
 ·rfl
 split<;>rfl
theorem aP4 (deep:Nat) (a:Int):∀(f:Nat) (e:Ex) (z:Z),dX ex deep 0 f (ex0 e) (zz0 z)=(ex0 (dX ex deep a f e z).1,zz0 (dX ex deep a f e z).2)
 | 0,e,z=>by rw[dX,dX]
 | f+1,e,z=>by
  rw[dX,dX,iR,aVk hx];dsimp only;split
  ·split
   ·rfl
   ·exact aP4 deep a f (aP5 a e (fT ex deep z).1.1) _
  ·rfl
theorem aZh (a:Int) (deep:Nat) (z:Z):sW ex 0 deep (zz0 z)=(ex0 (sW ex a deep z).1,zz0 (sW ex a deep z).2):=by
 have h:sE 0 (zz0 z)=((sE a z).1.map tk0,zz0 (sE a z).2):=by
  unfold sE;rw[aA6];dsimp only;rw[aB8,η];have q:(if(aU z).1.map tk0=[] then bS 12 (tk0 (b6 (aU z).2)).pl (zz0 (aU z).2) else zz0 (aU z).2)=zz0 (if(aU z).1=[] then bS 12 (b6 (aU z).2).pl (aU z).2 else(aU z).2):=by
   exact aX1 zz0 List.map_eq_nil_iff (mP _ _ _) rfl
  rw[q,wY _ _ a,jX]
 unfold sW;rw[h];dsimp only;rw[hx,aVs a]
theorem aPw (nm:Tk) (deep:Nat) (z:Z):cP ex (tk0 nm) deep (zz0 z)=(bd0 (cP ex nm deep z).1,zz0 (cP ex nm deep z).2):=by
 have h:iO (tk0 nm) (zz0 z)=((iO nm z).1.map tk0,zz0 (iO nm z).2):=by
  unfold iO;rw[aA6];dsimp only[tk0];rw[η,wY _ _ nm.pl,jX]
 unfold cP;rw[h];dsimp only;rw[hx,aXa,bd0];rfl
theorem aCx (sigs:List Sg) (binds:List Bd) (deep:Nat) (z:Z):aY ex (sigs.map sg0) (nH binds) deep (zz0 z)=(((aY ex sigs binds deep z).1.1.map sg0,nH (aY ex sigs binds deep z).1.2),zz0 (aY ex sigs binds deep z).2):=by
 unfold aY;rw[tN];dsimp only;rw[aEs];dsimp only;rw[zE,aPw hx];split
 ·dsimp only;rw[Al];rfl
 ·dsimp only;rw[aDl,nH,nH]
theorem aO9 (deep:Nat):∀(f n:Nat) (sigs:List Sg) (binds:List Bd) (z:Z),eT ex deep f n (sigs.map sg0) (nH binds) (zz0 z)=(((eT ex deep f n sigs binds z).1.1.map sg0,nH (eT ex deep f n sigs binds z).1.2),zz0 (eT ex deep f n sigs binds z).2)
 | 0,n,sigs,binds,z=>by rw[eT,eT]
 | f+1,n,sigs,binds,z=>by
  rw[eT,eT,aH4];dsimp only;rw[aCx hx];split
  ·exact aO9 deep f _ _ _ _
  ·rfl
theorem aZg (a:Int) (deep:Nat) (z:Z):sV ex 0 deep (zz0 z)=(ex0 (sV ex a deep z).1,zz0 (sV ex a deep z).2):=by
 have q:qH ex deep (zz0 z)=(((qH ex deep z).1.1.map sg0,nH (qH ex deep z).1.2),zz0 (qH ex deep z).2):=by
  unfold qH;rw[jX,s9];have:=aO9 hx (deep+1) ((aQ cY z).R.length+1) 0 [] [] (aQ cY z);rw[nH] at this;exact this
 have hB:aFv (((qH ex deep z).1.1.map sg0,nH (qH ex deep z).1.2),zz0 (qH ex deep z).2)=(nH (aFv (qH ex deep z)).1,zz0 (aFv (qH ex deep z)).2):=by
  unfold aFv;dsimp only;rw[jX,aHr]
 unfold sV;rw[q,hB];dsimp only;rw[jX,hx];rfl
theorem aP7 (deep:Nat):∀(f n:Nat) (ps:List Pt) (ks:List Ex) (z:Z),eW ex deep f n (sQ ps) (aAh ks) (zz0 z)=((sQ (eW ex deep f n ps ks z).1.1,aAh (eW ex deep f n ps ks z).1.2),zz0 (eW ex deep f n ps ks z).2)
 | 0,n,ps,ks,z=>by rw[eW,eW]
 | f+1,n,ps,ks,z=>by
  rw[eW,eW,aH4];dsimp only;rw[s9,(aVh _).2.1];dsimp only;rw[jX,hx];dsimp only;split
  ·have:=aP7 deep f (n+1) (ps++[(gD (3*(aW aV n z).2.R.length+1) 0 (aW aV n z).2).1]) (ks++[(ex (deep+1) (aQ arrow (gD (3*(aW aV n z).2.R.length+1) 0 (aW aV n z).2).2)).1]) (ex (deep+1) (aQ arrow (gD (3*(aW aV n z).2.R.length+1) 0 (aW aV n z).2).2)).2;rw[aBs,sQ,sQ,aMy,aAh,aAh] at this;exact this
  ·rfl
theorem aWg (a:Int) (deep:Nat) (z:Z):iL ex 0 deep (zz0 z)=(ex0 (iL ex a deep z).1,zz0 (iL ex a deep z).2):=by
 have q:dP ex deep (zz0 z)=(ex0 (dP ex deep z).1,zz0 (dP ex deep z).2):=by
  unfold dP;rw[hx];dsimp only;rw[jX,jX]
 have hB:gJ ex deep (ex0 (dP ex deep z).1,zz0 (dP ex deep z).2)=((sQ (gJ ex deep (dP ex deep z)).1.1,aAh (gJ ex deep (dP ex deep z)).1.2),zz0 (gJ ex deep (dP ex deep z)).2):=by
  unfold gJ;dsimp only;rw[s9];have:=aP7 hx deep ((dP ex deep z).2.R.length+1) 0 [] [(dP ex deep z).1] (dP ex deep z).2;rw[sQ,aAh,aAh] at this;exact this
 unfold iL;rw[q,hB];dsimp only;rw[jX,aB8];exact congrArg (Prod.mk _) (aX1 zz0 (by rw[qA];exact List.map_eq_nil_iff) (mP _ _ _) rfl)
theorem aQ4 (deep:Nat) (z:Z):eP ex deep (zz0 z)=(ex0 (eP ex deep z).1,zz0 (eP ex deep z).2):=by
 unfold eP;rw[aVk hx,aB8,s9];dsimp only[tk0];have q:(if(fT ex deep z).1.2=false then bS 12 0 (zz0 (fT ex deep z).2) else zz0 (fT ex deep z).2)=zz0 (if(fT ex deep z).1.2=false then bS 12 (b6 z).pl (fT ex deep z).2 else(fT ex deep z).2):=by
  split
  ·exact mP _ _ _
  ·rfl
 rw[q];exact aP4 hx deep _ _ _ _
omit hx in
theorem aZy (a:Int) (y:Ex×Z):s8 0 (ex0 y.1,zz0 y.2)=(ex0 (s8 a y).1,zz0 (s8 a y).2):=by
 unfold s8;dsimp only;rw[aEs];dsimp only;rw[zE];split<;>rfl
theorem aZk:Ex0 (rN ex):=fun deep z=>by
 unfold rN;rw[iR,aB8,aEs,aEs,aEs,p0];dsimp only;rw[aZh hx (b6 z).pl,aZg hx (b6 z).pl,aWg hx (b6 z).pl,aQ4 hx,aZy (b6 z).pl];split
 ·rfl
 split
 ·rw[mP 13 (b6 z).pl];rfl
 split
 ·rfl
 split
 ·rfl
 split<;>rfl
end
theorem aV6:∀f,Ex0 (fV f)
 | 0=>fun _ z=>by
  show(zEx,bS 12 0 (zz0 z))=_;rw[mP 12 0];rfl
 | f+1=>aZk (aV6 f)
def cn0 (c:Cn):Cn:=⟨c.name,0,c.fields⟩
def dt0 (d:Dt):Dt:=⟨d.name,0,d.vars,d.cons.map cn0⟩
def cl0 (c:Cl):Cl:=⟨c.name,0,c.var,c.supers,c.methods.map sg0⟩
def in0 (x:In):In:=⟨x.cls,0,x.con,x.vars,x.preds,nH x.binds⟩
def pg0 (p:Pg):Pg:=⟨p.datas.map dt0,p.classes.map cl0,p.insts.map in0,nH p.binds⟩
theorem a3e (z:Z):aJ2 (zz0 z)=aJ2 z:=by unfold aJ2;rw[aB8,is0];rfl
theorem aIx:∀(f:Nat) (out:List Ty) (z:Z),bZ f out (zz0 z)=((bZ f out z).1,zz0 (bZ f out z).2)
 | 0,out,z=>by rw[bZ,bZ]
 | f+1,out,z=>by
  rw[bZ,bZ,iR,a3e,aZx];split
  ·exact aIx f _ _
  ·rfl
theorem a3a (z:Z):pK (zz0 z)=(cn0 (pK z).1,zz0 (pK z).2):=by
 unfold pK;rw[tN];dsimp only;rw[s9,aIx];dsimp only[tk0];rw[wY _ _ (aS 2 z).1.pl];rfl
theorem aWd (a:Int):∀(f:Nat) (out:List Cn) (z:Z),gX f 0 (out.map cn0) (zz0 z)=((gX f a out z).1.map cn0,zz0 (gX f a out z).2)
 | 0,out,z=>by rw[gX,gX]
 | f+1,out,z=>by
  have h1:out.map cn0++[cn0 (pK z).1]=(out++[(pK z).1]).map cn0:=by rw[Al];rfl
  rw[gX,gX,a3a];dsimp only;rw[h1,η,wY _ _ a,aEs];dsimp only;split
  ·exact aWd a f _ _
  ·rfl
theorem aZq (z:Z):jL (zz0 z)=(dt0 (jL z).1,zz0 (jL z).2):=by
 have q:fO (zz0 z)=(tk0 (fO z).1,(fO z).2.1.map tk0,zz0 (fO z).2.2):=by
  unfold fO;rw[tN];dsimp only;rw[aA6];dsimp only[tk0];rw[η,wY _ _ (aS 2 z).1.pl,jX]
 have hC:jC (tk0 (fO z).1,(fO z).2.1.map tk0,zz0 (fO z).2.2)=((jC (fO z)).1.map cn0,zz0 (jC (fO z)).2):=by
  unfold jC;dsimp only;rw[iR,s9];split
  ·exact aWd (fO z).1.pl _ [] _
  ·rfl
 unfold jL;rw[q,hC];dsimp only[tk0,dt0];rw[map_map];rfl
theorem aGb (v:Str) (a:Int):∀(l:List Prd) (out:List Str) (z:Z),bY v 0 l out (zz0 z)=((bY v a l out z).1,zz0 (bY v a l out z).2)
 | [],out,z=>by rw[bY,bY]
 | p::l,out,z=>by
  have q:(if p.ty.form=2∧p.ty.name=v then zz0 z else bS 12 0 (zz0 z))=zz0 (if p.ty.form=2∧p.ty.name=v then z else bS 12 a z):=by
   split
   ·rfl
   ·exact mP _ _ _
  rw[bY,bY,iR,q];split
  ·exact aGb v a l _ _
  ·rfl
theorem aZd (c v:Str) (z:Z):iV c v (zz0 z)=(sg0 (iV c v z).1,zz0 (iV c v z).2):=by
 unfold iV;rw[tN];dsimp only;rw[jX,zE];rfl
theorem aO8 (c v:Str) (a:Int):∀(f n:Nat) (out:List Sg) (z:Z),dQ c v 0 f n (out.map sg0) (zz0 z)=((dQ c v a f n out z).1.map sg0,zz0 (dQ c v a f n out z).2)
 | 0,n,out,z=>by rw[dQ,dQ]
 | f+1,n,out,z=>by
  have h1:out.map sg0++[sg0 (iV c v (aW aV n z).2).1]=(out++[(iV c v (aW aV n z).2).1]).map sg0:=by rw[Al];rfl
  rw[dQ,dQ,aH4];dsimp only;rw[aZd];dsimp only;rw[h1,η,wY _ _ a];split
  ·exact aO8 c v a f _ _ _
  ·rfl
theorem aWf (z:Z):eE (zz0 z)=(cl0 (eE z).1,zz0 (eE z).2):=by
 have q:cC (zz0 z)=((cC z).1,tk0 (cC z).2.1,tk0 (cC z).2.2.1,zz0 (cC z).2.2.2):=by
  unfold cC;rw[aO1];dsimp only;rw[tN];dsimp only;rw[tN]
 have hB:fY ((cC z).1,tk0 (cC z).2.1,tk0 (cC z).2.2.1,zz0 (cC z).2.2.2)=((fY (cC z)).1,zz0 (fY (cC z)).2):=by
  unfold fY;dsimp only[tk0];rw[aGb _ (cC z).2.1.pl];dsimp only;rw[jX]
 have hC:jM ((cC z).1,tk0 (cC z).2.1,tk0 (cC z).2.2.1,zz0 (cC z).2.2.2) ((fY (cC z)).1,zz0 (fY (cC z)).2)=((jM (cC z) (fY (cC z))).1.map sg0,zz0 (jM (cC z) (fY (cC z))).2):=by
  unfold jM;dsimp only[tk0];rw[s9];exact aO8 _ _ (cC z).2.1.pl _ _ [] _
 unfold eE;rw[q,hB,hC];dsimp only;rw[jX];rfl
theorem aPg (a:Int):∀(l:List Prd) (z:Z),dJ 0 l (zz0 z)=zz0 (dJ a l z)
 | [],z=>by rw[dJ,dJ]
 | p::l,z=>by
  have q:(if z.e=0∧¬p.ty.form=2 then bS 12 0 (zz0 z) else zz0 z)=zz0 (if z.e=0∧¬p.ty.form=2 then bS 12 a z else z):=by
   split
   ·exact mP _ _ _
   ·rfl
  rw[dJ,dJ,iR,q];exact aPg a l _
section
variable {ex:Nat→Z→Ex×Z}(hx:Ex0 ex)
include hx
theorem aIk:∀(f n:Nat) (out:List Bd) (z:Z),cM ex f n (nH out) (zz0 z)=(nH (cM ex f n out z).1,zz0 (cM ex f n out z).2)
 | 0,n,out,z=>by rw[cM,cM]
 | f+1,n,out,z=>by
  rw[cM,cM,aH4];dsimp only;rw[tN];dsimp only;rw[aPw hx];dsimp only;split
  ·have:=aIk f (n+1) (out++[(cP ex (aS 1 (aW aV n z).2).1 0 (aS 1 (aW aV n z).2).2).1]) (cP ex (aS 1 (aW aV n z).2).1 0 (aS 1 (aW aV n z).2).2).2;rw[aDl,nH,nH] at this;exact this
  ·rfl
omit hx in
theorem aVy (b:Bool) (z:Z):instV b (zz0 z)=((instV b z).1,zz0 (instV b z).2):=by
 unfold instV;split
 ·rw[aA6];dsimp only;rw[jX,map_map];rfl
 ·rfl
theorem aZi (z:Z):kA ex (zz0 z)=(in0 (kA ex z).1,zz0 (kA ex z).2):=by
 have q:eA (zz0 z)=((eA z).1,tk0 (eA z).2.1,(eA z).2.2.1,tk0 (eA z).2.2.2.1,zz0 (eA z).2.2.2.2):=by
  unfold eA;rw[aO1];dsimp only;rw[tN];dsimp only;rw[aEs];dsimp only;rw[tN]
 have hB:∀(y:List Prd×Tk×Bool×Tk×Z) (w:List Str×Z),nS (y.1,tk0 y.2.1,y.2.2.1,tk0 y.2.2.2.1,zz0 y.2.2.2.2) (w.1,zz0 w.2)=zz0 (nS y w):=fun y w=>by
  unfold nS;dsimp only[tk0];have r:(if(zz0 w.2).e=0 then c8 w.1.length 8 0 (zz0 w.2) else zz0 w.2)=zz0 (if w.2.e=0 then c8 w.1.length 8 y.2.1.pl w.2 else w.2):=by
   rw[iR];split
   ·exact wY _ _ _ _
   ·rfl
  rw[r,aPg y.2.1.pl,jX]
 have hC:∀z,rJ ex (zz0 z)=(nH (rJ ex z).1,zz0 (rJ ex z).2):=fun z=>by
  unfold rJ;rw[s9];have:=aIk hx (z.R.length+1) 0 [] z;rw[nH] at this;exact this
 unfold kA;rw[q];dsimp only;rw[aVy,hB (eA z) (instV (eA z).2.2.1 (eA z).2.2.2.2),hC];dsimp only;rw[jX];rfl
theorem aZo (p:Pg) (sigs:List Sg) (z:Z):cS ex (pg0 p) (sigs.map sg0) (zz0 z)=((pg0 (cS ex p sigs z).1.1,(cS ex p sigs z).1.2.map sg0),zz0 (cS ex p sigs z).2):=by
 unfold cS;rw[aEs,aEs,aEs];dsimp only;rw[aZq,aWf,aZi hx];dsimp only;have he:=aCx hx sigs p.binds 0 z;rw[show(pg0 p).binds=nH p.binds from rfl,he];split
 ·dsimp only[pg0];rw[Al];rfl
 split
 ·dsimp only[pg0];rw[Al];rfl
 split
 ·dsimp only[pg0];rw[Al];rfl
 ·rfl
theorem aU6:∀(f n:Nat) (p:Pg) (sigs:List Sg) (z:Z),dW ex f n (pg0 p) (sigs.map sg0) (zz0 z)=((pg0 (dW ex f n p sigs z).1.1,(dW ex f n p sigs z).1.2.map sg0),zz0 (dW ex f n p sigs z).2)
 | 0,n,p,sigs,z=>by rw[dW,dW]
 | f+1,n,p,sigs,z=>by
  rw[dW,dW,aH4];dsimp only;rw[aZo hx];dsimp only;split
  ·exact aU6 f _ _ _ _
  ·rfl
theorem aL6 (z:Z):cT ex (zz0 z)=(pg0 (cT ex z).1,zz0 (cT ex z).2):=by
 unfold cT;rw[s9];have:=aU6 hx (z.R.length+1) 0 zPg [] z;rw[show pg0 zPg=zPg from rfl,Ch] at this;rw[this];unfold nP;dsimp only;rw[show(pg0 (dW ex (z.R.length+1) 0 zPg [] z).1.1).binds=nH (dW ex (z.R.length+1) 0 zPg [] z).1.1.binds from rfl,aHr];rfl
end
theorem a26 (z:Z):n1 (zz0 z)=zz0 (n1 z):=by
 unfold n1;rw[iR,aB8];exact aX1 zz0 Iff.rfl (mP _ _ _) rfl
def aD0 (L:List Tk):Pg×Z:=((cT (fV L.length) ⟨L,0,0⟩).1,n1 (cT (fV L.length) ⟨L,0,0⟩).2)
theorem aYi (L:List Tk):aD0 (L.map tk0)=(pg0 (aD0 L).1,zz0 (aD0 L).2):=by
 unfold aD0;have h:=aL6 (aV6 L.length) ⟨L,0,0⟩;rw[show zz0 ⟨L,0,0⟩=⟨L.map tk0,0,0⟩ from rfl] at h;rw[η,h,a26]
theorem aHh {s:Str}{L:List Tk}(h:lexA s=.ok L):eD s=if(aD0 L).2.e=0 then((aD0 L).1,(aD0 L).2.e,(aD0 L).2.p) else(zPg,(aD0 L).2.e,(aD0 L).2.p):=by
 have hb:cW s=(L,⟨L,0,0⟩):=by unfold cW;rw[h]
 unfold eD gQ;rw[hb];rfl
def lx0:LE→Option (List Tk)
 | .ok l=>some (l.map tk0)
 | .error _=>none
def Lxs (s:Str) (us:List Tk):Prop:=∀f at',s.length≤f→lx0 (mY f at' s)=some us
def Lx (a:Str) (ts:List Tk):Prop:=∀b us,Lxs b us→Lxs (a++b) (ts++us)
theorem Lx.nil:Lx [] []:=fun _ _ h=>h
theorem Lxs.nil:Lxs [] [gU]:=fun f at' _=>by cases f<;>rfl
theorem Lxs.lexA {s:Str}{us:List Tk}(h:Lxs s us) (hl:s.length≤4000):∃L,lexA s=.ok L∧L.map tk0=us:=by
 unfold Go.Proofs.YtpmheldmadendaaGreatDoor.lexA;rw[ξ (by omega)];have:=h s.length 0 (le_refl _);generalize mY s.length 0 s=w at this ⊢;cases w with
 | error e=>cases this
 | ok L=>exact⟨L,rfl,by injection this⟩
def tS:List Str:=[[40],[41],[123],[125],[59],[44],[92],[124],[58],[95]]
def aR1 (t:Tk):Option (List Tk)→Option (List Tk)
 | none=>none
 | some l=>some (t::l)
def aMl:Nat→Str→Option (List Tk)
 | _,[]=>some []
 | 0,_=>none
 | f+1,c::r=>
  if blB c.toNat=true then aMl f r
  else if preB [45,45] (c::r)=true then none
  else match j4 (c::r) with
   | .error _=>none
   | .ok (k,t,v)=>if t.length<(c::r).length∨t∈tS then aR1 ⟨k,t,v,0⟩ (aMl f ((c::r).drop t.length)) else none
theorem uI (p:Nat→Bool) (b:Str):∀s:Str,cN p s<s.length→cN p (s++b)=cN p s
 | [],h=>absurd h (lt_irrefl 0)
 | c::s,h=>by
  rw[Ad,cN,cN];rw[cN,χ] at h;split
  ·rename_i hp;rw[ζ hp] at h;rw[uI p b s (by omega)]
  ·rfl
theorem nK {n:Nat}{s b:Str}(h:n≤s.length):(s++b).take n=s.take n:=B7 h
theorem u4 {x s:Str}(b:Str) (h:x.length≤s.length):preB x (s++b)=preB x s:=by
 unfold preB;rw[nK h,θ,φ h,φ (by omega)]
theorem aLg:∀x∈sB,x.length≤2:=by decide
theorem xJ {s:Str}(b:Str) (h:2≤s.length):∀l:List Str,(∀x∈l,x.length≤2)→l.find? (fun x=>preB x (s++b))=l.find? (fun x=>preB x s)
 | [],_=>rfl
 | x::l,hl=>by
  have hx:=hl x Ba;rw[List.find?_cons,List.find?_cons,u4 b (by omega),xJ b h l fun y hy=>hl y (A1 _ hy)]
theorem aBf {s:Str}(b:Str) (h:2≤s.length):oP (s++b)=oP s:=by
 unfold oP;rw[xJ b h sB aLg]
theorem aOt {c:UInt8}{t:Str}(h:oP [c]=t) (hn:¬t=[]):t=[c]:=by
 unfold oP at h;cases q:sB.find? fun x=>preB x [c] with
 | none=>rw[q] at h;exact absurd h.symm hn
 | some x=>
  rw[q] at h;have:=List.find?_some q;unfold preB at this;rw[π] at this;have h1:=κ this.1;have h2:=κ this.2;subst h
  match x,h1,h2,hn with
  | [d],_,h2,_=>exact h2.symm
  | d::e::y,h1,_,_=>exact absurd h1 (by simp)
theorem tR {c:UInt8}(b:Str) (h:[c]∈tS):oP (c::b)=[c]∧preB [45,45] (c::b)=false∧dgB c.toNat=false∧wiB c.toNat 97 122=false∧wiB c.toNat 65 90=false:=by
 unfold tS at h;simp only[Au,List.cons.injEq,and_true,not_mem_nil,or_false] at h;rcases h with rfl | rfl | rfl | rfl | rfl | rfl | rfl | rfl | rfl | rfl<;>exact⟨by simp[oP,sB,preB],by simp[preB],by decide,by decide,by decide⟩
theorem aB6 {c:UInt8}{r:Str}(b:Str) {k:Int}{t:Str}{v:Int}(h:j4 (c::r)=.ok (k,t,v)) (hs:t.length<(c::r).length∨t∈tS):j4 (c::(r++b))=.ok (k,t,v):=by
 have hlen:=mC h;have y:∀p:Nat→Bool,p c.toNat=true→t=(c::r).take (cN p (c::r))→(dgB c.toNat=true∨wiB c.toNat 97 122=true∨wiB c.toNat 65 90=true)→cN p (c::r)<(c::r).length:=fun p hp ht hc=>by
  have q:=gG p (c::r);have J:t.length=cN p (c::r):=by rw[ht,An];omega
  rcases hs with hs | hs
  ·omega
  ·exfalso;have:∃u,t=c::u:=⟨_,by rw[ht,cN,ζ hp,A5]⟩
   obtain⟨u,rfl⟩:=this;have hu:u=[]:=by
    unfold tS at hs;simp only[Au,List.cons.injEq,not_mem_nil,or_false] at hs;rcases hs with h | h | h | h | h | h | h | h | h | h<;>exact h.2
   subst hu;obtain⟨_,_,g1,g2,g3⟩:=tR [] hs;rcases hc with hc | hc | hc
   ·rw[g1] at hc;cases hc
   ·rw[g2] at hc;cases hc
   ·rw[g3] at hc;cases hc
 rw[show c::(r++b)=(c::r)++b from rfl];rw[j4] at h;rw[show j4 ((c::r)++b)=j4 (c::(r++b)) from rfl,j4];rw[show c::(r++b)=(c::r)++b from rfl];by_cases hd:dgB c.toNat=true
 ·rw[ζ hd] at h ⊢;split at h
  ·cases h
  ·rename_i I;injection h with h;injection h with h1 h;injection h with h2 B;have q:=y dgB hd h2.symm (.inl hd);rw[uI _ b _ q,nK (Dc q),ξ I,B,h2,h1]
 rw[ξ hd] at h ⊢;by_cases hn:wiB c.toNat 97 122=true∨wiB c.toNat 65 90=true
 ·rw[ζ hn] at h ⊢;have E:sgB c.toNat=true:=by
   rcases hn with h | h
   ·have:=aGj c.toNat;rw[h] at this;simpa using this
   ·have:=aGi c.toNat;rw[h] at this;simpa using this
  have ht:t=(c::r).take (cN sgB (c::r)):=by
   unfold oW at h;split at h
   ·cases h
   split at h
   ·cases h;rfl
   split at h
   ·cases h;rfl
   ·cases h;rfl
  have q:=y sgB E ht (.inr hn);unfold oW at h ⊢;rw[uI _ b _ q,nK (Dc q)];exact h
 rw[ξ hn] at h ⊢;split at h
 ·cases h
 rename_i hy;injection h with h;injection h with h1 h;injection h with h2 B;have hS:oP ((c::r)++b)=t:=by
  rcases hs with hs | hs
  ·rw[aBf b (by have:=hlen.1;omega)];exact h2
  ·cases r with
   | nil=>
    have e:=aOt h2 (by rw[←h2];exact hy);rw[e] at hs ⊢;exact(tR b hs).1
   | cons d r=>rw[aBf b (by rw[χ,χ];omega)];exact h2
 rw[hS,ξ (by rw[←h2];exact hy),h1,B]
theorem aCe (t:Tk) (r:LE):lx0 (uU t r)=aR1 (tk0 t) (lx0 r):=by cases r<;>rfl
theorem aP:∀(f:Nat) (a:Str) (ts:List Tk),aMl f a=some ts→Lx a ts
 | 0,[],ts,h=>by rw[aMl] at h;cases h;exact Lx.nil
 | 0,c::r,ts,h=>by simp[aMl] at h
 | f+1,[],ts,h=>by rw[aMl] at h;cases h;exact Lx.nil
 | f+1,c::r,ts,h=>by
  intro b us hb g at' U;rw[Ad,χ,θ] at U;obtain⟨g,rfl⟩:∃k,g=k+1:=⟨g-1,by omega⟩
  rw[aMl] at h;rw[Ad,mY];by_cases q:blB c.toNat=true
  ·rw[ζ q] at h;have hB:fD (c::(r++b))=1:=by unfold fD;exact ζ q
   rw[hB,ζ (by decide)];exact aP f r ts h b us hb g _ (by show(r++b).length≤g;rw[θ];omega)
  rw[ξ q] at h;split at h
  ·cases h
  rename_i y;cases ho:j4 (c::r) with
  | error e=>rw[ho] at h;cases h
  | ok p=>
   obtain⟨k,t,v⟩:=p;rw[ho] at h;dsimp only at h;split at h
   case isFalse=>cases h
   rename_i hs;have B:=aB6 b ho hs;obtain⟨aa,u⟩:=mC ho;have E:preB [45,45] (c::(r++b))=false:=by
    by_cases h2:2≤(c::r).length
    ·rw[show c::(r++b)=(c::r)++b from rfl,u4 (x:=[45,45]) b h2];simpa using y
    ·have Y:r=[]:=by
      cases r with
      | nil=>rfl
      | cons d r=>exact absurd (by rw[χ,χ];omega) h2
     subst Y;have ht:t∈tS:=by
      rcases hs with hs | hs
      ·rw[χ,length_nil] at hs;omega
      ·exact hs
     have:t=[c]:=by
      have I:t.length=1:=by rw[χ,length_nil] at u;omega
      match t,I,ho with
      | [d],_,ho=>
       rw[j4] at ho;split at ho
       ·split at ho
        ·cases ho
        ·rename_i hd _;injection ho with ho;injection ho with _ ho;injection ho with ho _;rw[cN,ζ hd,A5] at ho;injection ho with ho _;rw[ho]
       split at ho
       ·rename_i hn;have J:sgB c.toNat=true:=by
         rcases hn with h | h
         ·have:=aGj c.toNat;rw[h] at this;simpa using this
         ·have:=aGi c.toNat;rw[h] at this;simpa using this
        have ht:[d]=[c].take (cN sgB [c]):=by
         unfold oW at ho;split at ho
         ·cases ho
         split at ho
         ·injection ho with ho;injection ho with _ ho;injection ho with ho _;exact ho.symm
         split at ho
         ·injection ho with ho;injection ho with _ ho;injection ho with ho _;exact ho.symm
         ·injection ho with ho;injection ho with _ ho;injection ho with ho _;exact ho.symm
        rw[cN,ζ J,A5] at ht;injection ht with ht _;rw[ht]
       split at ho
       ·cases ho
       rename_i hy;injection ho with ho;injection ho with _ ho;injection ho with ho _;exact aOt ho (by simp)
     rw[this] at ht;exact(tR b ht).2.1
   have hB:fD (c::(r++b))=0:=by
    unfold fD;dsimp only;rw[ξ q,ξ (by rw[E];exact ω)]
   rw[hB,ξ (lt_irrefl 0),B];dsimp only;rw[aCe];have M:(c::(r++b)).drop t.length=(c::r).drop t.length++b:=by
    rw[show c::(r++b)=(c::r)++b from rfl,Bo u]
   rw[M];cases hq:aMl f ((c::r).drop t.length) with
   | none=>rw[hq] at h;cases h
   | some O=>
    rw[hq] at h;injection h with h;subst h;rw[χ] at u;rw[aP f _ O hq b us hb g _ (by rw[θ,Bg,χ];omega)];rfl
end Go.Proofs.YtpmheldmadendaaGreatDoor
