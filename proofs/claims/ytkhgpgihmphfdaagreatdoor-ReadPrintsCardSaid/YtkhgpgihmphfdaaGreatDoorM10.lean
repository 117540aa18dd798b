/-
  Texts Rd41 to Rd50 in one.
-/
import Derived.Test.YtkhgpgihmphfdaaGreatDoorM9
import Derived.Tactics2
import Derived.LoopTactic
open List (append_nil cons_append dropWhile_cons drop_eq_getElem_cons drop_eq_nil_of_le drop_length filter_append length_append length_cons length_drop length_filter_le length_map length_nil length_singleton length_take map_append mem_append mem_cons mem_singleton takeWhile_cons take_add_one take_length)
open Nat (le_of_lt le_refl le_trans lt_of_le_of_lt lt_succ_self sub_self zero_le)
namespace Go.Proofs.YtkhgpgihmphfdaaGreatDoor
open Go Go.AM
set_option maxRecDepth 20000
set_option maxHeartbeats 4000000
structure Cl where
 name:Str
 pl:Int
 var:Str
 supers:List Str
 methods:List Sg
structure In where
 cls:Str
 pl:Int
 con:Str
 vars:List Str
 preds:List Prd
 binds:List Bd
structure Pg where
 datas:List Dt
 classes:List Cl
 insts:List In
 binds:List Bd
def cX (c:Cl):List C:=[.str c.name,.int .i64 c.pl,.str c.var,.sl 1 [],.sl 1 (c.supers.map aK),.sl 9 (c.methods.map c6)]
def dD (x:In):List C:=[.str x.cls,.int .i64 x.pl,.str x.con,.sl 1 (x.vars.map aK),.sl 5 (x.preds.map aM),.sl 33 (x.binds.map aY)]
def oP (p:Pg):List C:=[.sl 5 (p.datas.map cQ),.sl 6 (p.classes.map cX),.sl 6 (p.insts.map dD),.sl 33 (p.binds.map aY)]
def zPg:Pg:=⟨[],[],[],[]⟩
def eV:Str:=[100,97,116,97]
def fK:Str:=[99,108,97,115,115]
def jX:Str:=[105,110,115,116,97,110,99,101]
def bX (v:Str) (a:Int):List Prd→List Str→Z→List Str×Z
 | [],out,z=>(out,z)
 | p::l,out,z=>if z.e=0 then bX v a l (out++[p.cls]) (if p.ty.form=2∧p.ty.name=v then z else bV 12 a z) else(out,z)
def tP (cls v:Str) (s:Sch):Sch:=⟨v::s.vars.filter (fun x=>!decide (x=v)),⟨cls,.mk 2 0 v []⟩::s.preds,s.ty⟩
def jG (cls v:Str) (z:Z):Sg×Z:=(⟨(aR 1 z).1.text,(aR 1 z).1.pl,tP cls v (bM (aQ eT (aR 1 z).2)).1⟩,(bM (aQ eT (aR 1 z).2)).2)
def eO (cls v:Str) (a:Int):Nat→Nat→List Sg→Z→List Sg×Z
 | 0,_,out,z=>(out,z)
 | f+1,n,out,z=>if(b6 b5 n z).1=true then eO cls v a f (n+1) (out++[(jG cls v (b6 b5 n z).2).1]) (c0 (out++[(jG cls v (b6 b5 n z).2).1]).length 16 a (jG cls v (b6 b5 n z).2).2) else(out,(b6 b5 n z).2)
def bP (z:Z):List Prd×Tk×Tk×Z:=((bD z).1,(aR 2 (bD z).2).1,(aR 1 (aR 2 (bD z).2).2).1,(aR 1 (aR 2 (bD z).2).2).2)
def eP (y:List Prd×Tk×Tk×Z):List Str×Z:=((bX y.2.2.1.text y.2.1.pl y.1 [] y.2.2.2).1,aQ dH (bX y.2.2.1.text y.2.1.pl y.1 [] y.2.2.2).2)
def kC (y:List Prd×Tk×Tk×Z) (w:List Str×Z):List Sg×Z:=eO y.2.1.text y.2.2.1.text y.2.1.pl (w.2.R.length+1) 0 [] w.2
def eW (z:Z):Cl×Z:=(⟨(bP z).2.1.text,(bP z).2.1.pl,(bP z).2.2.1.text,(eP (bP z)).1,(kC (bP z) (eP (bP z))).1⟩,aQ b5 (kC (bP z) (eP (bP z))).2)
def eI (a:Int):List Prd→Z→Z
 | [],z=>z
 | p::l,z=>eI a l (if z.e=0∧¬p.ty.form=2 then bV 12 a z else z)
def c9 (z:Z):List Prd×Tk×Bool×Tk×Z:=
 ((bD z).1,(aR 2 (bD z).2).1,(bT cG (aR 2 (bD z).2).2).1,(aR 2 (bT cG (aR 2 (bD z).2).2).2).1,(aR 2 (bT cG (aR 2 (bD z).2).2).2).2)
def instV (b:Bool) (z:Z):List Str×Z:=if b=true then((aU z).1.map (·.text),aQ nY (aU z).2) else([],z)
def jY (y:List Prd×Tk×Bool×Tk×Z) (w:List Str×Z):Z:=aQ dH (eI y.2.1.pl y.1 (if w.2.e=0 then c0 w.1.length 8 y.2.1.pl w.2 else w.2))
section
variable (ex:Nat→Z→Ex×Z)
def cL:Nat→Nat→List Bd→Z→List Bd×Z
 | 0,_,out,z=>(out,z)
 | f+1,n,out,z=>if(b6 b5 n z).1=true then cL f (n+1) (out++[(dP ex (aR 1 (b6 b5 n z).2).1 0 (aR 1 (b6 b5 n z).2).2).1]) (dP ex (aR 1 (b6 b5 n z).2).1 0 (aR 1 (b6 b5 n z).2).2).2 else(out,(b6 b5 n z).2)
def tU (z:Z):List Bd×Z:=cL ex (z.R.length+1) 0 [] z
def kG (z:Z):In×Z:=
 (⟨(c9 z).2.1.text,(c9 z).2.1.pl,(c9 z).2.2.2.1.text,(instV (c9 z).2.2.1 (c9 z).2.2.2.2).1,(c9 z).1,(tU ex (jY (c9 z) (instV (c9 z).2.2.1 (c9 z).2.2.2.2))).1⟩,
  aQ b5 (tU ex (jY (c9 z) (instV (c9 z).2.2.1 (c9 z).2.2.2.2))).2)
def cY (p:Pg) (sigs:List Sg) (z:Z):(Pg×List Sg)×Z:=
 if(bT eV z).1=true then((⟨p.datas++[(jZ (bT eV z).2).1],p.classes,p.insts,p.binds⟩,sigs),(jZ (bT eV z).2).2)
 else if(bT fK z).1=true then((⟨p.datas,p.classes++[(eW (bT fK z).2).1],p.insts,p.binds⟩,sigs),(eW (bT fK z).2).2)
 else if(bT jX z).1=true then((⟨p.datas,p.classes,p.insts++[(kG ex (bT jX z).2).1],p.binds⟩,sigs),(kG ex (bT jX z).2).2)
 else((⟨p.datas,p.classes,p.insts,(aV ex sigs p.binds 0 z).1.2⟩,(aV ex sigs p.binds 0 z).1.1),(aV ex sigs p.binds 0 z).2)
def eA:Nat→Nat→Pg→List Sg→Z→(Pg×List Sg)×Z
 | 0,_,p,sigs,z=>((p,sigs),z)
 | f+1,n,p,sigs,z=>if(b6 [] n z).1=true then eA f (n+1) (cY ex p sigs (b6 [] n z).2).1.1 (cY ex p sigs (b6 [] n z).2).1.2 (cY ex p sigs (b6 [] n z).2).2 else((p,sigs),(b6 [] n z).2)
def sF (y:(Pg×List Sg)×Z):Pg×Z:=(⟨y.1.1.datas,y.1.1.classes,y.1.1.insts,(dG y.1.2 y.1.1.binds y.2).1⟩,(dG y.1.2 y.1.1.binds y.2).2)
def fT (z:Z):Pg×Z:=sF (eA ex (z.R.length+1) 0 zPg [] z)
end
def kZ (z:Z):Z:=if z.e=0∧¬(b8 z).kind=6 then bV 12 (b8 z).pl z else z
def sgO (s:Sg):Prop:=WF s.ty.ty∧tn s.ty.ty≤30000∧(∀p∈s.ty.preds,WF p.ty∧tn p.ty≤30000)∧s.ty.preds.length≤4002∧s.ty.vars.length≤120060001
structure ClOk (c:Cl):Prop where
 s:c.supers.length≤4001
 m:c.methods.length≤60∧∀m∈c.methods,sgO m
structure InOk (x:In):Prop where
 v:x.vars.length≤4001
 p:x.preds.length≤4001∧∀p∈x.preds,WF p.ty∧tn p.ty≤30000
 b:x.binds.length≤60∧eY x.binds
structure DtOk (d:Dt):Prop where
 v:d.vars.length≤4001
 c:d.cons.length≤4002∧∀c∈d.cons,c.fields.length≤4002∧∀x∈c.fields,WF x∧tn x≤30000
theorem nC {L:List Tk}(v:Str) (a:Int):∀(l:List Prd) (out:List Str) (z:Z),ZA L z→ZA L (bX v a l out z).2∧(bX v a l out z).1.length≤out.length+l.length∧Ze z (bX v a l out z).2
 | [],out,z,h=>⟨h,le_refl _,Ze.refl z⟩
 | p::l,out,z,h=>by
  rw[bX];split
  ·have h1:ZA L (if p.ty.form=2∧p.ty.name=v then z else bV 12 a z)∧Ze z (if p.ty.form=2∧p.ty.name=v then z else bV 12 a z):=by
    split
    ·exact⟨h,Ze.refl z⟩
    ·exact⟨h.fail _ _,Ze.fail _ _ z⟩
   obtain⟨g1,g2,g3⟩:=nC v a l (out++[p.cls]) _ h1.1;exact⟨g1,by rw[ψ,Bm] at g2;rw[ω];omega,h1.2.trans g3⟩
  ·exact⟨h,by rw[ω];dsimp only;omega,Ze.refl z⟩
theorem pJ {L:List Tk}(a:Int):∀(l:List Prd) (z:Z),ZA L z→ZA L (eI a l z)∧Ze z (eI a l z)
 | [],z,h=>⟨h,Ze.refl z⟩
 | p::l,z,h=>by
  rw[eI];have h1:ZA L (if z.e=0∧¬p.ty.form=2 then bV 12 a z else z)∧Ze z (if z.e=0∧¬p.ty.form=2 then bV 12 a z else z):=by
   split
   ·exact⟨h.fail _ _,Ze.fail _ _ z⟩
   ·exact⟨h,Ze.refl z⟩
  obtain⟨g1,g2⟩:=pJ a l _ h1.1;exact⟨g1,h1.2.trans g2⟩
theorem kQ {L:List Tk}{z:Z}(h:ZA L z) (hwt:wt L≤30000):ZA L (bD z).2∧((bD z).1.length≤4001∧∀p∈(bD z).1,WF p.ty∧tn p.ty≤30000)∧Ze z (bD z).2:=by
 refine⟨h.preds,?_⟩;have hw:=h.wt;have hl:=h.len;unfold bD;split
 ·cases hs:cV z.R with
  | error e=>obtain⟨e,p⟩:=e;exact⟨⟨Ab _,fun p hp=>(by cases hp)⟩,Ze.refl z⟩
  | ok y=>
   obtain⟨s,R'⟩:=y;obtain⟨_,⟨p,h2,_⟩,q,u⟩:=nH hs;refine⟨⟨by show s.length≤_;omega,fun p hp=>⟨(q p hp).1,by have:=(q p hp).2;omega⟩⟩,?_⟩;show R'.length≤_;rw[h2,ψ];omega
 ·exact⟨⟨Ab _,fun p hp=>(by cases hp)⟩,Ze.refl z⟩
theorem yT {L:List Tk}{z:Z}(h:ZA L z) (hwt:wt L≤30000) (k:Int):(aR k z).1.text.length≤29994:=by
 have hw:=h.wt;obtain⟨R,e,p⟩:=z;obtain⟨t,R,rfl⟩:=h.e.ne;unfold aR;split
 ·show t.text.length≤_;have hw:wt (t::R)≤wt L:=hw;rw[cK] at hw;omega
 ·exact Ab _
theorem aOy (cls v:Str) {s:Sch}(h:SchOk s) (hv:v.length≤29994) (t:Str) (a:Int):sgO ⟨t,a,tP cls v s⟩:=by
 refine⟨h.t.1,h.t.2,fun p hp=>?_,?_,?_⟩
 ·rcases Aq.1 hp with rfl | hp
  ·exact⟨⟨rfl,rfl⟩,by show tn (.mk 2 0 v [])≤_;rw[tn,tns];omega⟩
  ·exact h.p p hp
 ·show(_::s.preds).length≤_;rw[ω];have:=h.l;omega
 ·show(v::s.vars.filter _).length≤_;rw[ω];have:=Co (fun x=>!decide (x=v)) s.vars;have:=h.v;omega
theorem aAa {L:List Tk}(hwt:wt L≤30000) (cls v:Str) (hv:v.length≤29994) (a:Int):∀(f n:Nat) (out:List Sg) (z:Z),ZA L z→n≤60→out.length=n→(∀m∈out,sgO m)→ZA L (eO cls v a f n out z).2∧((eO cls v a f n out z).1.length≤60∧∀m∈(eO cls v a f n out z).1,sgO m)∧Ze z (eO cls v a f n out z).2
 | 0,n,out,z,h,hn,hl,ho=>by rw[eO];exact⟨h,⟨by dsimp only;omega,ho⟩,Ze.refl z⟩
 | f+1,n,out,z,h,hn,hl,ho=>by
  rw[eO];split
  ·rename_i hm;obtain⟨_,q⟩:=eH hm;have h1:=h.more b5 n;obtain⟨g1,g2,_,g4⟩:=gJ ((h1.word (k:=1) (by decide)).need eT) hwt;have u:∀m∈out++[(jG cls v (b6 b5 n z).2).1],sgO m:=fun m hm=>by
    rcases A4.1 hm with hm | hm
    ·exact ho m hm
    ·rw[Am.1 hm];exact aOy cls v g2 hv _ _
   have y:(out++[(jG cls v (b6 b5 n z).2).1]).length=n+1:=by rw[ψ,hl];rfl
   obtain⟨A,B,E⟩:=aAa hwt cls v hv a f (n+1) _ (c0 (out++[(jG cls v (b6 b5 n z).2).1]).length 16 a (jG cls v (b6 b5 n z).2).2) (ZA.long g1 _ _ _) q y u;exact⟨A,B,((((Ze.more b5 n z).trans (Ze.word 1 _)).trans (Ze.need eT _)).trans g4).trans ((Ze.long _ _ _ _).trans E)⟩
  ·exact⟨h.more _ _,⟨by dsimp only;omega,ho⟩,Ze.more _ _ _⟩
theorem aA7 {L:List Tk}{z:Z}(h:ZA L z) (hwt:wt L≤30000):ZA L (eW z).2∧ClOk (eW z).1∧Ze z (eW z).2:=by
 obtain⟨g1,g2,g3⟩:=kQ h hwt;have h2:=g1.word (k:=2) (by decide);have u:=h2.word (k:=1) (by decide);have hv:=yT h2 hwt 1;obtain⟨y,A,B⟩:=nC (aR 1 (aR 2 (bD z).2).2).1.text (aR 2 (bD z).2).1.pl (bD z).1 [] _ u;obtain⟨m1,m2,m3⟩:=aAa hwt (bP z).2.1.text (bP z).2.2.1.text hv (bP z).2.1.pl ((eP (bP z)).2.R.length+1) 0 [] _ (y.need dH) (Ab _) rfl (fun m hm=>by cases hm);refine⟨m1.need _,⟨?_,m2⟩,(((g3.trans (Ze.word 2 _)).trans (Ze.word 1 _)).trans B).trans ((Ze.need dH _).trans (m3.trans (Ze.need b5 _)))⟩;show(bX _ _ _ _ _).1.length≤_;have q:(bX (aR 1 (aR 2 (bD z).2).2).1.text (aR 2 (bD z).2).1.pl (bD z).1 [] (aR 1 (aR 2 (bD z).2).2).2).1.length≤0+(bD z).1.length:=A;exact le_trans q (by omega)
theorem xL {L:List Tk}(b:Bool) {z:Z}(h:ZA L z):ZA L (instV b z).2∧(instV b z).1.length≤4001∧Ze z (instV b z).2:=by
 unfold instV;split
 ·exact⟨h.words.need _,by rw[ξ];exact fE h,(Ze.words z).trans (Ze.need _ _)⟩
 ·exact⟨h,Ab _,Ze.refl z⟩
theorem aE3 {L:List Tk}(y:List Prd×Tk×Bool×Tk×Z) (w:List Str×Z) (h:ZA L w.2):ZA L (jY y w)∧Ze w.2 (jY y w):=by
 have h1:ZA L (if w.2.e=0 then c0 w.1.length 8 y.2.1.pl w.2 else w.2)∧Ze w.2 (if w.2.e=0 then c0 w.1.length 8 y.2.1.pl w.2 else w.2):=by
  split
  ·exact⟨h.long _ _ _,Ze.long _ _ _ _⟩
  ·exact⟨h,Ze.refl _⟩
 obtain⟨g1,g2⟩:=pJ y.2.1.pl y.1 _ h1.1;exact⟨g1.need _,(h1.2.trans g2).trans (Ze.need _ _)⟩
section
variable {L:List Tk}{ex:Nat→Z→Ex×Z}(hO:ExO L ex) (hwt:wt L≤30000)
include hO
theorem vJ:∀(f n:Nat) (out:List Bd) (z:Z),ZA L z→n≤60→out.length=n→eY out→ZA L (cL ex f n out z).2∧((cL ex f n out z).1.length≤60∧eY (cL ex f n out z).1)∧Ze z (cL ex f n out z).2
 | 0,n,out,z,h,hn,hl,ho=>by rw[cL];exact⟨h,⟨by dsimp only;omega,ho⟩,Ze.refl z⟩
 | f+1,n,out,z,h,hn,hl,ho=>by
  rw[cL];split
  ·rename_i hm;obtain⟨_,q⟩:=eH hm;obtain⟨g1,g2,_,g4⟩:=pX hO (aR 1 (b6 b5 n z).2).1 0 ((h.more b5 n).word (k:=1) (by decide));obtain⟨u,y,A⟩:=vJ f (n+1) _ _ g1 q (by rw[ψ,hl];rfl) (pY ho g2);exact⟨u,y,(((Ze.more b5 n z).trans (Ze.word 1 _)).trans g4).trans A⟩
  ·exact⟨h.more _ _,⟨by dsimp only;omega,ho⟩,Ze.more _ _ _⟩
include hwt
theorem aE2 {z:Z}(h:ZA L z):ZA L (kG ex z).2∧InOk (kG ex z).1∧Ze z (kG ex z).2:=by
 obtain⟨g1,g2,g3⟩:=kQ h hwt;have h2:=((g1.word (k:=2) (by decide)).may cG).word (k:=2) (by decide);have q:=((g3.trans (Ze.word 2 _)).trans (Ze.may cG _)).trans (Ze.word 2 _);obtain⟨u,y,A⟩:=xL (c9 z).2.2.1 h2;obtain⟨m1,m2⟩:=aE3 (c9 z) (instV (c9 z).2.2.1 (c9 z).2.2.2.2) u;obtain⟨B,E,I⟩:=vJ hO ((jY (c9 z) (instV (c9 z).2.2.1 (c9 z).2.2.2.2)).R.length+1) 0 [] _ m1 (Ab _) rfl trivial;exact⟨B.need _,⟨y,g2,E⟩,(q.trans A).trans (m2.trans (I.trans (Ze.need _ _)))⟩
end
def aSq:List C:=[.str [],.int .i64 0,.str [],.nl,.nl,.nl]
section
variable {L:List Tk}{ex:Nat→Z→Ex×Z}{N:Nat}(hO:ExO L ex) (hS:ExS L ex N) (hwt:wt L≤30000)
include hO hS hwt
theorem aVd {z:Z}(h:ZA L z) (hN:z.R.length≤N):aW Tryz.prog 79 [xP] [(700,zO L z)] (.pa (dD (kG ex z).1)) [(700,zO L (kG ex z).2)]:=by
 unfold kG;have hC:∀y,tU ex y=cL ex (y.R.length+1) 0 [] y:=fun _=>rfl
 have hV:∀b y,instV b y=if b=true then((aU y).1.map (·.text),aQ nY (aU y).2) else([],y):=fun _ _=>rfl
 have hB:∀y w,jY y w=aQ dH (eI y.2.1.pl y.1 (if w.2.e=0 then c0 w.1.length 8 y.2.1.pl w.2 else w.2)):=fun _ _=>rfl
 have hA:c9 z=((bD z).1,(aR 2 (bD z).2).1,(bT cG (aR 2 (bD z).2).2).1,(aR 2 (bT cG (aR 2 (bD z).2).2).2).1,(aR 2 (bT cG (aR 2 (bD z).2).2).2).2):=rfl;rw[hA];have hp:=aF9 h;obtain⟨h1,hpl,l1⟩:=kQ h hwt;generalize bD z=y at hp h1 hpl l1 ⊢;obtain⟨ps,z1⟩:=y;dsimp only at hp h1 hpl l1 ⊢;have hw:=kH h1 2 (by decide);have h2:=h1.word (k:=2) (by decide);have l2:=l1.trans (Ze.word 2 z1);generalize aR 2 z1=y at hw h2 l2 ⊢;obtain⟨u,z2⟩:=y;dsimp only at hw h2 l2 ⊢;have hm:=kD h2 cG;have h3:=h2.may cG;have l3:=l2.trans (Ze.may cG z2);generalize bT cG z2=y at hm h3 l3 ⊢;obtain⟨br,z3⟩:=y;dsimp only at hm h3 l3 ⊢;have hw2:=kH h3 2 (by decide);have h4:=h3.word (k:=2) (by decide);have l4:=l3.trans (Ze.word 2 z3);generalize aR 2 z3=y at hw2 h4 l4 ⊢;obtain⟨cn,z4⟩:=y;dsimp only at hw2 h4 l4 ⊢;obtain⟨U,hvl,l5⟩:=xL br h4;have J:=hV br z4;generalize instV br z4=y at U hvl l5 J ⊢;obtain⟨vs,z5⟩:=y;dsimp only at U hvl l5 ⊢;have hBz:=hB (ps,u,br,cn,z4) (vs,z5);obtain⟨h9,l9⟩:=aE3 (ps,u,br,cn,z4) (vs,z5) U;have l9:(jY (ps,u,br,cn,z4) (vs,z5)).R.length≤z.R.length:=(l4.trans l5).trans l9;dsimp only at hBz;generalize jY (ps,u,br,cn,z4) (vs,z5)=z9 at hBz h9 l9 ⊢;have hvk:(vs.map aK).length=vs.length:=ξ _;have hpk:(ps.map aM).length=ps.length:=ξ _;refine b9 (n:=81) tok Tryz.func79 rfl rfl rfl ?_;refine sg rfl (sk 1 rfl (kc hp ?_));refine kz 1 rfl (sk 1 rfl (kc hw ?_));refine kz 2 rfl (sg rfl (sk 1 rfl (kc hm ?_)));refine kz 1 rfl (sk 1 rfl (kc hw2 ?_));refine kz 3 rfl (aA (AWp.cut (mk [(0,xP),(2,.one (.vp 2 0)),(3,.one (.c (.sl 5 (ps.map aM)))),(4,.one (.vp 4 0)),(5,.one (.vp 5 0))] [(700,zO L z5),(2,.var 90 (aSq.map .c)),(4,.var 131 ((aI u).map .c)),(5,.var 90 [.c (.str u.text),.c (.int .i64 u.pl),.c (.str cn.text),.c (.sl 1 (vs.map aK)),.c (.sl 5 (ps.map aM)),.c .nl])]) ?_ ?_))
 ·refine sg rfl ?_;cases br with
  | true=>
   rw[ζ rfl] at J;have hws:=sM h4;have g1:=h4.words;have hwl:=fE h4;generalize aU z4=y at hws g1 hwl J;obtain⟨l,z45⟩:=y;dsimp only at hws g1 hwl J;have htx:=aF4 l hwl;have hnd:=dL g1 nY;obtain⟨rfl,rfl⟩:=Prod.mk.inj J;refine aB rfl (fun _=>sk 1 rfl (kc hws ?_)) (fun hb=>Bool.noConfusion hb);refine kc htx ?_;refine kz 2 rfl (aC mixed (ak 1 [] rfl (kc hnd ?_)));exact az sl
  | false=>
   rw[η χ] at J;obtain⟨rfl,rfl⟩:=Prod.mk.inj J;refine aB rfl (fun hb=>Bool.noConfusion hb) (fun _=>aD (Sub.trans ?_ (vp 5 [.str u.text,.int .i64 u.pl,.str cn.text,.sl 1 [],.sl 5 (ps.map aM),.nl])));exact sl
 have E:∃Y,Y=(if z5.e=0 then c0 vs.length 8 u.pl z5 else z5):=⟨_,rfl⟩
 obtain⟨Y,E⟩:=E;rw[←E] at hBz;have h6:ZA L Y:=by
  rw[E];split
  ·exact U.long _ _ _
  ·exact U
 refine aA (AWp.cut (mk [(0,xP),(2,.one (.vp 2 0)),(3,.one (.c (.sl 5 (ps.map aM)))),(4,.one (.vp 4 0)),(5,.one (.vp 5 0))] [(700,zO L Y),(2,.var 90 (aSq.map .c)),(4,.var 131 ((aI u).map .c)),(5,.var 90 [.c (.str u.text),.c (.int .i64 u.pl),.c (.str cn.text),.c (.sl 1 (vs.map aK)),.c (.sl 5 (ps.map aM)),.c .nl])]) ?_ ?_)
 ·have ho:=fP L z5;refine sk 1 rfl (kc ho ?_);refine az ?_;by_cases he:z5.e=0
  ·rw[ζ he] at E;subst E;have d0:decide (z5.e=0)=true:=θ he;have hlg:=n5 L z5 vs.length 8 u.pl;refine aB rfl (fun _=>aC mixed (ak 6 [] rfl ?_)) (fun hb=>absurd (hb.symm.trans d0) Bool.noConfusion);rw[hvk];refine kc hlg ?_;exact az sl
  ·rw[η he] at E;subst E;have d0:decide (Y.e=0)=false:=φ he;exact aB rfl (fun hb=>absurd (hb.symm.trans d0) Bool.noConfusion) (fun _=>aD sl)
 have hzf:∃zf,zf=eI u.pl ps Y:=⟨_,rfl⟩
 obtain⟨zf,hzf⟩:=hzf;rw[←hzf] at hBz;have hf:=(pJ u.pl ps Y h6).1
 rw[←hzf] at hf;clear hw h2 hm h3 hw2 h4 U J E;refine aA (sg rfl (aF (aJ (fun q:Nat×Z=>mk [(0,xP),(2,.one (.vp 2 0)),(3,.one (.c (.sl 5 (ps.map aM)))),(4,.one (.vp 4 0)),(5,.one (.vp 5 0)),(7,I .i64 (q.1:Nat))] [(700,zO L q.2),(2,.var 90 (aSq.map .c)),(4,.var 131 ((aI u).map .c)),(5,.var 90 [.c (.str u.text),.c (.int .i64 u.pl),.c (.str cn.text),.c (.sl 1 (vs.map aK)),.c (.sl 5 (ps.map aM)),.c .nl])]) (fun q=>q.1≤ps.length∧ZA L q.2∧zf=eI u.pl (ps.drop q.1) q.2) (fun q=>ps.length-q.1) (0,Y) ⟨Ab _,h6,hzf⟩ sl ?_)));clear hzf h6;rintro⟨i,z7⟩ ⟨hi,h7,aa⟩;dsimp only at hi h7 aa ⊢;refine aA (sg rfl (aB rfl (fun hb=>?_) (fun hb=>?_)))
 ·have hlt:=ltD hb hpk;obtain⟨p,hp⟩:=aG hlt;have hp':=aP aM hp;have hds:ps.drop i=p::ps.drop (i+1):=by
   obtain⟨k1,k2⟩:=Ah.1 hp;rw[←k2];exact Az k1
  rw[hds,eI] at aa;have ho:=fP L z7;have hfl:=eR L z7 12 u.pl;have M:∃z8,z8=(if z7.e=0∧¬p.ty.form=2 then bV 12 u.pl z7 else z7):=⟨_,rfl⟩
  obtain⟨z8,M⟩:=M;rw[←M] at aa;have h8:ZA L z8:=by
   rw[M];split
   ·exact h7.fail _ _
   ·exact h7
  refine aD (aA (aF (aA (AWp.cut (mk [(0,xP),(2,.one (.vp 2 0)),(3,.one (.c (.sl 5 (ps.map aM)))),(4,.one (.vp 4 0)),(5,.one (.vp 5 0)),(7,I .i64 (i:Nat)),(57,B (decide (z7.e=0)&& !decide (p.ty.form=2)))] [(700,zO L z7),(2,.var 90 (aSq.map .c)),(4,.var 131 ((aI u).map .c)),(5,.var 90 [.c (.str u.text),.c (.int .i64 u.pl),.c (.str cn.text),.c (.sl 1 (vs.map aK)),.c (.sl 5 (ps.map aM)),.c .nl])]) ?_ ?_))))
  ·by_cases he:z7.e=0
   ·rw[θ he] at ho ⊢;rw[Cd];refine aC mixed (ak 1 [] rfl (kc ho ?_));exact ak 9 [(2,.bv true),(5,.row i (aM p)),(10,.bv true)] rfl (az sl)
   ·rw[φ he] at ho ⊢;rw[B6];refine aC mixed (ak 1 [] rfl (kc ho ?_));exact ak 9 [(2,.bv false),(10,.bv false)] rfl (az sl)
  refine aB rfl (fun hb=>?_) (fun hb=>?_)
  ·rw[π,Bn] at hb;rw[ζ ⟨κ hb.1,Ac hb.2⟩] at M;subst M;refine aC mixed (ak 3 [] rfl (kc hfl ?_));exact az (agN [] rfl ⟨(i+1,bV 12 u.pl z7),⟨hlt,h8,aa⟩,by dsimp only;omega,sl⟩)
  ·have hb':¬(z7.e=0∧¬p.ty.form=2):=fun hh=>by
    rw[θ hh.1,φ hh.2] at hb;cases hb
   rw[η hb'] at M;subst M;exact aD (agN [] rfl ⟨(i+1,z8),⟨hlt,h8,aa⟩,by dsimp only;omega,sl⟩)
 have hge:=geD hb hpk hi;subst hge;rw[Ch,eI] at aa;subst aa;clear h7 hi hb;have hnd:=dL hf dH;rw[←hBz] at hnd;have hWx:∃W,W=tU ex z9:=⟨_,rfl⟩
 obtain⟨W,hW⟩:=hWx;rw[←hW];rw[hC] at hW;refine aH (AWp.sub (Sub.ownCell (x:=5) (k:=5) (id:=503) 109 33 rfl rfl rfl) ?_);refine sk 1 rfl (kc hnd ?_);refine az (aA (sg rfl (aF (aJ (fun q:List Bd×Z×Nat×Nat=>mk [(0,xP),(2,.one (.vp 2 0)),(5,.one (.vp 5 0)),(8,I .i64 (q.2.2.1:Nat))] [(700,zO L q.2.1),(2,.var 90 (aSq.map .c)),(5,.var 90 [.c (.str u.text),.c (.int .i64 u.pl),.c (.str cn.text),.c (.sl 1 (vs.map aK)),.c (.sl 5 (ps.map aM)),.hs 503 0 q.1.length q.1.length]),(503,bdA q.1 0)]) (fun q=>ZA L q.2.1∧q.2.1.R.length≤z9.R.length∧(q.2.1.e=0→q.2.1.R.length<q.2.2.2)∧q.2.2.1≤60∧q.1.length=q.2.2.1∧W=cL ex q.2.2.2 q.2.2.1 q.1 q.2.1) (fun q=>if q.2.1.e=0 then q.2.1.R.length+1 else 0) ([],z9,0,z9.R.length+1) ⟨h9,le_refl _,fun _=>Bv _,Ab _,rfl,hW⟩ sl ?_))));clear hW hnd hf hBz h9;rintro⟨out,z3,n,f⟩ ⟨h,hR,hf,hn,hol,hW⟩;dsimp only at h hR hf hn hol hW ⊢;have hoe:(out.map aY).length=out.length:=ξ _;have hm:=u7 h b5 n (by omega);have hmt:= @eH b5 n z3;have hm2:=h.more b5 n;have hm3:=Ze.more b5 n z3;have A:W=if(b6 b5 n z3).1=true then cL ex (f-1) (n+1) (out++[(dP ex (aR 1 (b6 b5 n z3).2).1 0 (aR 1 (b6 b5 n z3).2).2).1]) (dP ex (aR 1 (b6 b5 n z3).2).1 0 (aR 1 (b6 b5 n z3).2).2).2 else(out,(b6 b5 n z3).2):=by
  by_cases he:z3.e=0
  ·obtain⟨f,rfl⟩:∃g,f=g+1:=⟨f-1,by have:=hf he;omega⟩
   rw[cL] at hW;exact hW
  ·rw[dJ he];rw[η χ];rw[hW];cases f with
   | zero=>rfl
   | succ f=>rw[cL,dJ he,η χ]
 have hme:(b6 b5 n z3).1=true→z3.e=0:=fun e=>by
  by_cases he:z3.e=0
  ·exact he
  ·rw[dJ he] at e;cases e
 clear hW;generalize b6 b5 n z3=m at hm hmt hm2 hm3 A hme;obtain⟨b,z4⟩:=m;dsimp only at hm hmt hm2 hm3 A hme;have hm3:z4.R.length≤z3.R.length:=hm3;refine aA (sk 2 rfl (kc hm ?_));refine az ?_;cases b with
 | true=>
  rw[ζ rfl] at A;obtain⟨e3,hn60⟩:=hmt rfl;have he2:=hme rfl;have hf:=hf he2;have hw:=kH hm2 1 (by decide);have U:=hm2.word (k:=1) (by decide);have l5:=Ze.word 1 z4;generalize aR 1 z4=y at hw U l5 A;obtain⟨w,z5⟩:=y;dsimp only at hw U l5 A;have l5:z5.R.length≤z4.R.length:=l5;have hbd:=aMg hS w 0 U (by omega) (by decide);obtain⟨b1,_,b3,b4⟩:=pX hO w 0 U;generalize dP ex w 0 z5=y at hbd b1 b3 b4 A;obtain⟨bd,Y⟩:=y;dsimp only at hbd b1 b3 b4 A;have b4:Y.R.length≤z5.R.length:=b4;have hr1:out.map aY++[aY bd]=(out++[bd]).map aY:=by rw[Af];rfl
  have hl1:(out++[bd]).length=out.length+1:=by rw[ψ];rfl
  generalize out++[bd]=O at hr1 hl1 A;refine aB rfl (fun _=>aD (aA (aF (aC mixed (ak 4 [] rfl (kc hw ?_)))))) (fun hb=>Bool.noConfusion hb);refine kc hbd ?_;refine ak 4 [(6,.all)] rfl (az (agN [] rfl ⟨(O,Y,n+1,f-1),⟨b1,by dsimp only;omega,fun h0=>by have:=b3 h0;dsimp only;omega,hn60,by dsimp only;omega,A⟩,?_,?_⟩))
  ·dsimp only;rw[ζ he2];split
   ·rename_i h0;have:=b3 h0;omega
   ·omega
  ·exact sl (hh:=⟨⟨_,rfl,.var rfl⟩,⟨_,rfl,.var rfl⟩,⟨_,rfl,.var (by rw[hl1,←hoe];rfl)⟩,⟨_,rfl,.arrS hr1⟩,trivial⟩)
 | false=>
  rw[η χ] at A;subst A;dsimp only;have hnd3:=dL hm2 b5;refine aB rfl (fun hb=>Bool.noConfusion hb) (fun _=>aH (sk 1 rfl (kc hnd3 ?_)));refine az (AWp.sub (Sub.freeze (id:=503) rfl) ?_);exact sg rfl (aE (rtC trw (hc:=.agg (.c .refl (.c .refl (.c .refl (.c .refl (.c .refl (.hs rfl hoe.symm (Go.AM.take_all hoe.symm) .nil)))))))))
end
def a0w:List C:=[.str [],.int .i64 0,.str [],.nl,.nl,.nl]
def yO (v:Str) (l:List Str):List Str:=l.filter (fun x=>!decide (x=v))
theorem aK9 {v:Str}{l:List Str}{j:Nat}{x:Str}(h:l[j]?=some x):yO v (l.take (j+1))=if x=v then yO v (l.take j) else yO v (l.take j)++[x]:=by
 unfold yO;rw[Bh,h,filter_append];by_cases hx:x=v
 ·rw[ζ hx];simp[hx]
 ·rw[η hx];simp[hx]
def clH (L:List Tk) (z:Z) (nm vt:Tk) (sup:List Str) (out:List Sg):List (Nat×AObj):=[(700,zO L z),(2,.var 87 (a0w.map .c)),(4,.var 131 ((aI nm).map .c)),(5,.var 131 ((aI vt).map .c)),(6,.var 87 [.c (.str nm.text),.c (.int .i64 nm.pl),.c (.str vt.text),.c .nl,.hs 504 0 sup.length sup.length,.hs 505 0 out.length out.length]),(504,.arr 9 1 (sup.map aK) 0),(505,sgA out 0)]
def clM (m:Tk) (s:Sch) (vs:List Str) (ps:List Prd):List (Nat×AObj):=[(9,.var 131 ((aI m).map .c)),(10,.var 45 ((kU s).map .c)),(11,.var 45 [.hs 506 0 vs.length vs.length,.c .nl,.hs 507 0 ps.length ps.length,.c (.int .i64 s.ty.form),.c (.int .i64 s.ty.n),.c (.str s.ty.name),.c (.sl 4 (dK s.ty))]),(506,.arr 9 1 (vs.map aK) 0),(507,.arr 98 5 (ps.map aM) 0)]
section
variable {L:List Tk}(hwt:wt L≤30000)
include hwt
theorem aP6 {z:Z}(h:ZA L z):aW Tryz.prog 78 [xP] [(700,zO L z)] (.pa (cX (eW z).1)) [(700,zO L (eW z).2)]:=by
 unfold eW;have hB:∀y,eP y=((bX y.2.2.1.text y.2.1.pl y.1 [] y.2.2.2).1,aQ dH (bX y.2.2.1.text y.2.1.pl y.1 [] y.2.2.2).2):=fun _=>rfl
 have hC:∀y w,kC y w=eO y.2.1.text y.2.2.1.text y.2.1.pl (w.2.R.length+1) 0 [] w.2:=fun _ _=>rfl
 have hA:bP z=((bD z).1,(aR 2 (bD z).2).1,(aR 1 (aR 2 (bD z).2).2).1,(aR 1 (aR 2 (bD z).2).2).2):=rfl;rw[hA];have hp:=aF9 h;obtain⟨h1,hpl,l1⟩:=kQ h hwt;generalize bD z=y at hp h1 hpl l1 ⊢;obtain⟨ps,z1⟩:=y;dsimp only at hp h1 hpl l1 ⊢;have hw:=kH h1 2 (by decide);have h2:=h1.word (k:=2) (by decide);generalize aR 2 z1=y at hw h2 ⊢;obtain⟨A,z2⟩:=y;dsimp only at hw h2 ⊢;have hw2:=kH h2 1 (by decide);have h3:=h2.word (k:=1) (by decide);have hvl:=yT h2 hwt 1;generalize aR 1 z2=y at hw2 h3 hvl ⊢;obtain⟨u,z3⟩:=y;dsimp only at hw2 h3 hvl ⊢;have hBz:=hB (ps,A,u,z3);dsimp only at hBz;obtain⟨s1,s2,s3⟩:=nC u.text A.pl ps [] z3 h3;have hSx:∃Sx,Sx=bX u.text A.pl ps [] z3:=⟨_,rfl⟩
 obtain⟨Sx,hSx⟩:=hSx;rw[←hSx] at hBz s1 s2 s3;rw[hBz];rw[length_nil] at s2;obtain⟨sup,z4⟩:=Sx;dsimp only at s1 s2 s3 ⊢;have hpk:(ps.map aM).length=ps.length:=ξ _;refine b9 (n:=146) tok Tryz.func78 rfl rfl rfl ?_;refine sg rfl (sk 1 rfl (kc hp ?_));refine kz 1 rfl (sk 1 rfl (kc hw ?_));refine kz 2 rfl (sk 1 rfl (kc hw2 ?_));refine kz 2 rfl (sg rfl (AWp.sub (Sub.ownCell (x:=6) (k:=4) (id:=504) 9 1 rfl rfl rfl) ?_));refine aA (sg rfl (aF (aJ (fun q:Nat×List Str×Z=>mk [(0,xP),(2,.one (.vp 2 0)),(3,.one (.c (.sl 5 (ps.map aM)))),(4,.one (.vp 4 0)),(5,.one (.vp 5 0)),(6,.one (.vp 6 0)),(7,I .i64 (q.1:Nat))] [(700,zO L q.2.2),(2,.var 87 (a0w.map .c)),(4,.var 131 ((aI A).map .c)),(5,.var 131 ((aI u).map .c)),(6,.var 87 [.c (.str A.text),.c (.int .i64 A.pl),.c (.str u.text),.c .nl,.hs 504 0 q.2.1.length q.2.1.length,.c .nl]),(504,.arr 9 1 (q.2.1.map aK) 0)]) (fun q=>q.1≤ps.length∧ZA L q.2.2∧q.2.1.length≤q.1∧(sup,z4)=bX u.text A.pl (ps.drop q.1) q.2.1 q.2.2) (fun q=>ps.length-q.1) (0,[],z3) ⟨Ab _,h3,le_refl _,hSx⟩ sl ?_)));clear hSx hp hw hw2 h2 h3;rintro⟨i,out,z5⟩ ⟨hi,h5,hol,E⟩;dsimp only at hi h5 hol E ⊢;have hoe:(out.map aK).length=out.length:=ξ _;have ho:=fP L z5;have hend:∀st,Sub (keys [(700,zO L z)]) (mk [(0,xP),(2,.one (.vp 2 0)),(4,.one (.vp 4 0)),(5,.one (.vp 5 0)),(6,.one (.vp 6 0))] [(700,zO L z4),(2,.var 87 (a0w.map .c)),(4,.var 131 ((aI A).map .c)),(5,.var 131 ((aI u).map .c)),(6,.var 87 [.c (.str A.text),.c (.int .i64 A.pl),.c (.str u.text),.c .nl,.hs 504 0 sup.length sup.length,.c .nl]),(504,.arr 9 1 (sup.map aK) 0)]) st→
   AWp none Tryz.prog 146 (keys [(700,zO L z)]) (kJ (kJ (kJ (kJ (kJ (kJ (Tryz.f78.body.getD .skip))))))) st (fun ex' st'=>(ex'=.normal∨ex'=.ret)∧Fin tr.flat Tryz.f78 st' [(700,zO L z)] (.pa (cX ⟨A.text,A.pl,u.text,sup,(kC (ps,A,u,z3) (sup,aQ dH z4)).1⟩)) [(700,zO L (aQ b5 (kC (ps,A,u,z3) (sup,aQ dH z4)).2))]):=by
  intro st U;refine AWp.sub U ?_;have hnd:=dL s1 dH;have h9:=s1.need dH;generalize aQ dH z4=z9 at hnd h9 ⊢;have hWx:∃W,W=kC (ps,A,u,z3) (sup,z9):=⟨_,rfl⟩
  obtain⟨W,hW⟩:=hWx;rw[←hW];rw[hC] at hW;dsimp only at hW;refine AWp.sub (Sub.ownCell (x:=6) (k:=5) (id:=505) 100 9 rfl rfl rfl) ?_;refine sk 1 rfl (kc hnd ?_);refine az (aA (sg rfl (aF (aJ (fun q:List Sg×Z×Nat×Nat=>mk [(0,xP),(2,.one (.vp 2 0)),(4,.one (.vp 4 0)),(5,.one (.vp 5 0)),(6,.one (.vp 6 0)),(8,I .i64 (q.2.2.1:Nat))] (clH L q.2.1 A u sup q.1)) (fun q=>ZA L q.2.1∧q.2.1.R.length≤z9.R.length∧(q.2.1.e=0→q.2.1.R.length<q.2.2.2)∧q.2.2.1≤60∧q.1.length=q.2.2.1∧W=eO A.text u.text A.pl q.2.2.2 q.2.2.1 q.1 q.2.1) (fun q=>if q.2.1.e=0 then q.2.1.R.length+1 else 0) ([],z9,0,z9.R.length+1) ⟨h9,le_refl _,fun _=>Bv _,Ab _,rfl,hW⟩ sl ?_))));clear hW hnd h9 ho h5 E hoe hol hi out z5 i U;rintro⟨out,z5,n,f⟩ ⟨h,hR,hf,hn,hol,hW⟩;dsimp only at h hR hf hn hol hW ⊢;have hoe:(out.map c6).length=out.length:=ξ _;have hse:(sup.map aK).length=sup.length:=ξ _;have hm:=u7 h b5 n (by omega);have hmt:= @eH b5 n z5;have hm2:=h.more b5 n;have hm3:=Ze.more b5 n z5;have B:W=if(b6 b5 n z5).1=true then eO A.text u.text A.pl (f-1) (n+1) (out++[(jG A.text u.text (b6 b5 n z5).2).1]) (c0 (out++[(jG A.text u.text (b6 b5 n z5).2).1]).length 16 A.pl (jG A.text u.text (b6 b5 n z5).2).2) else(out,(b6 b5 n z5).2):=by
   by_cases he:z5.e=0
   ·obtain⟨f,rfl⟩:∃g,f=g+1:=⟨f-1,by have:=hf he;omega⟩
    rw[eO] at hW;exact hW
   ·rw[dJ he];rw[η χ];rw[hW];cases f with
    | zero=>rfl
    | succ f=>rw[eO,dJ he,η χ]
  have hme:(b6 b5 n z5).1=true→z5.e=0:=fun e=>by
   by_cases he:z5.e=0
   ·exact he
   ·rw[dJ he] at e;cases e
  clear hW;generalize b6 b5 n z5=m at hm hmt hm2 hm3 B hme;obtain⟨b,z6⟩:=m;dsimp only at hm hmt hm2 hm3 B hme;have hm3:z6.R.length≤z5.R.length:=hm3;refine aA (sk 2 rfl (kc hm ?_));refine az ?_;cases b with
  | true=>
   rw[ζ rfl] at B;obtain⟨e3,hn60⟩:=hmt rfl;have he2:=hme rfl;have hf:=hf he2;unfold jG at B;have hw:=kH hm2 1 (by decide);have h7:=hm2.word (k:=1) (by decide);have l7:=Ze.word 1 z6;generalize aR 1 z6=y at hw h7 l7 B;obtain⟨mt,z7⟩:=y;dsimp only at hw h7 l7 B;have l7:z7.R.length≤z6.R.length:=l7;have hnd:=dL h7 eT;have h8:=h7.need eT;have l8:=Ze.need eT z7;generalize aQ eT z7=z8 at hnd h8 l8 B;have l8:z8.R.length≤z7.R.length:=l8;have hsc:=u6 h8 hwt;obtain⟨h10,hso,c3,c4⟩:=gJ h8 hwt;generalize bM z8=y at hsc h10 hso c3 c4 B;obtain⟨s,J⟩:=y;dsimp only at hsc h10 hso c3 c4 B;have c4:J.R.length≤z8.R.length:=c4;have hsv:=hso.v;have hsl:=hso.l;have hpe:(s.preds.map aM).length=s.preds.length:=ξ _;have hve:(s.vars.map aK).length=s.vars.length:=ξ _;refine aB rfl (fun _=>aD (aA (aF (sk 1 rfl (kc hw ?_))))) (fun hb=>Bool.noConfusion hb);refine kz 2 rfl (sk 1 rfl (kc hnd ?_));refine az (sk 1 rfl (kc hsc ?_));refine kz 2 rfl (sgh [(2,.id 506),(9,.id 507)] rfl (aA (sg rfl (aF (aJ (fun j:Nat=>mk [(0,xP),(2,.one (.vp 2 0)),(4,.one (.vp 4 0)),(5,.one (.vp 5 0)),(6,.one (.vp 6 0)),(8,I .i64 (n:Nat)),(9,.one (.vp 9 0)),(10,.one (.vp 10 0)),(11,.one (.vp 11 0)),(12,I .i64 (j:Nat))] (clH L J A u sup out++clM mt s (u.text::yO u.text (s.vars.take j)) [⟨A.text,.mk 2 0 u.text []⟩])) (fun j=>j≤s.vars.length) (fun j=>s.vars.length-j) 0 (Ab _) sl ?_)))));intro j hj;have hfl:=Co (fun x=>!decide (x=u.text)) (s.vars.take j);rw[Ai] at hfl;have hfl:(yO u.text (s.vars.take j)).length≤120060000:=by show(List.filter _ _).length≤_;omega
   refine aA (sg rfl (aB rfl (fun hb=>?_) (fun hb=>?_)))
   ·have hlt:=ltD hb hve;obtain⟨x,hx⟩:=aG hlt;have hx':=aP aK hx;have U:=aK9 (v:=u.text) hx;have hfe:((u.text::yO u.text (s.vars.take j)).map aK).length=(u.text::yO u.text (s.vars.take j)).length:=ξ _;have hcl:(u.text::yO u.text (s.vars.take j)).length=(yO u.text (s.vars.take j)).length+1:=rfl;refine aD (aA (aF (sgh [(3,.row j (aK x))] rfl ?_)));by_cases hxv:x=u.text
    ·have d1:(!decide (x=u.text))=false:=by rw[θ hxv];rfl
     rw[ζ hxv] at U;refine aB rfl (fun hb=>absurd (hb.symm.trans d1) Bool.noConfusion) (fun _=>aD (agN [] rfl ⟨j+1,hlt,by dsimp only;omega,?_⟩));dsimp only;rw[U];exact sl
    ·have d1:(!decide (x=u.text))=true:=by rw[φ hxv];rfl
     rw[η hxv] at U;have Y:(u.text::yO u.text (s.vars.take j)).map aK++[[.str x]]=(u.text::yO u.text (s.vars.take (j+1))).map aK:=by rw[U,←As,Af];rfl
     have hle:(u.text::yO u.text (s.vars.take (j+1))).length=((u.text::yO u.text (s.vars.take j)).map aK).length+1:=by rw[hfe,U,←As,ψ];rfl
     exact aB rfl (fun _=>ag [(5,.row j (aK x)),(7,.all)] rfl (agN [] rfl ⟨j+1,hlt,by dsimp only;omega,sl (hh:=⟨⟨_,rfl,.var rfl⟩,⟨_,rfl,.var rfl⟩,⟨_,rfl,.var rfl⟩,⟨_,rfl,.var rfl⟩,⟨_,rfl,.var rfl⟩,⟨_,rfl,Go.AM.Ole.arr⟩,⟨_,rfl,Go.AM.Ole.arr⟩,⟨_,rfl,.var rfl⟩,⟨_,rfl,.var rfl⟩,⟨_,rfl,.var (by rw[hle,hfe];rfl)⟩,⟨_,rfl,.arrS Y⟩,⟨_,rfl,Go.AM.Ole.arr⟩,trivial⟩)⟩)) (fun hb=>absurd (hb.symm.trans d1) Bool.noConfusion)
   ·have hge:=geD hb hve hj;subst hge;rw[Al] at hfl ⊢;have hfe:((u.text::yO u.text s.vars).map aK).length=(u.text::yO u.text s.vars).length:=ξ _;have hmS:(⟨mt.text,mt.pl,tP A.text u.text s⟩:Sg)=⟨mt.text,mt.pl,⟨u.text::yO u.text s.vars,⟨A.text,.mk 2 0 u.text []⟩::s.preds,s.ty⟩⟩:=rfl;rw[hmS] at B;generalize u.text::yO u.text s.vars=V at hfe B ⊢;have hP1:([(⟨A.text,.mk 2 0 u.text []⟩:Prd)].map aM)++s.preds.map aM=((⟨A.text,.mk 2 0 u.text []⟩:Prd)::s.preds).map aM:=rfl;have hP2:((⟨A.text,.mk 2 0 u.text []⟩:Prd)::s.preds).length=1+(s.preds.map aM).length:=by rw[hpe,ω];omega
    have hPe:(((⟨A.text,.mk 2 0 u.text []⟩:Prd)::s.preds).map aM).length=((⟨A.text,.mk 2 0 u.text []⟩:Prd)::s.preds).length:=ξ _;refine aH (sg rfl (AWp.sub (st2:=mk [(0,xP),(2,.one (.vp 2 0)),(4,.one (.vp 4 0)),(5,.one (.vp 5 0)),(6,.one (.vp 6 0)),(8,I .i64 (n:Nat)),(9,.one (.vp 9 0)),(10,.one (.vp 10 0)),(11,.one (.vp 11 0))] (clH L J A u sup out++clM mt s V (⟨A.text,.mk 2 0 u.text []⟩::s.preds))) (sl (hh:=⟨⟨_,rfl,.var rfl⟩,⟨_,rfl,.var rfl⟩,⟨_,rfl,.var rfl⟩,⟨_,rfl,.var rfl⟩,⟨_,rfl,.var rfl⟩,⟨_,rfl,Go.AM.Ole.arr⟩,⟨_,rfl,Go.AM.Ole.arr⟩,⟨_,rfl,.var rfl⟩,⟨_,rfl,.var rfl⟩,⟨_,rfl,.var (by rw[hP2];rfl)⟩,⟨_,rfl,Go.AM.Ole.arr⟩,⟨_,rfl,.arrS hP1⟩,trivial⟩)) ?_));generalize (⟨A.text,.mk 2 0 u.text []⟩:Prd)::s.preds=P at hPe B ⊢;refine AWp.sub (Sub.freeze (id:=506) rfl) ?_;refine AWp.sub (Sub.freeze (id:=507) rfl) ?_;refine AWp.sub (vp 11 (kU ⟨V,P,s.ty⟩) (hp:=.hs rfl hfe.symm (Go.AM.take_all hfe.symm) (.c .nl (.hs rfl hPe.symm (Go.AM.take_all hPe.symm) (.c .refl (.c .refl (.c .refl (.c .refl .nil)))))))) ?_;have hr1:out.map c6++[c6 ⟨mt.text,mt.pl,⟨V,P,s.ty⟩⟩]=(out++[(⟨mt.text,mt.pl,⟨V,P,s.ty⟩⟩:Sg)]).map c6:=by rw[Af];rfl
    have hl1:(out++[(⟨mt.text,mt.pl,⟨V,P,s.ty⟩⟩:Sg)]).length=out.length+1:=by rw[ψ];rfl
    generalize out++[(⟨mt.text,mt.pl,⟨V,P,s.ty⟩⟩:Sg)]=O at hr1 hl1 B;have hlg:=n5 L J O.length 16 A.pl;have h11:=h10.long O.length 16 A.pl;have l11:=Ze.long O.length 16 A.pl J;have c3':(c0 O.length 16 A.pl J).e=0→J.e=0:=fun e=>by
     unfold c0 at e;split at e
     ·exact(cJ (by decide) e).elim
     ·exact e
    generalize c0 O.length 16 A.pl J=z11 at hlg h11 l11 c3' B;have l11:z11.R.length≤J.R.length:=l11;refine sgh [(8,.all)] rfl (AWp.sub (st2:=mk [(0,xP),(2,.one (.vp 2 0)),(4,.one (.vp 4 0)),(5,.one (.vp 5 0)),(6,.one (.vp 6 0)),(8,I .i64 (n:Nat))] (clH L J A u sup O)) (sl (hh:=⟨⟨_,rfl,.var rfl⟩,⟨_,rfl,.var rfl⟩,⟨_,rfl,.var rfl⟩,⟨_,rfl,.var rfl⟩,⟨_,rfl,.var (by rw[hl1,←hoe];rfl)⟩,⟨_,rfl,Go.AM.Ole.arr⟩,⟨_,rfl,.arrS hr1⟩,trivial⟩)) ?_);refine aC mixed (ak 6 [] rfl (kc hlg ?_));refine az (agN [] rfl ⟨(O,z11,n+1,f-1),⟨h11,by dsimp only;omega,fun h0=>by have:=c3 (c3' h0);dsimp only;omega,hn60,by dsimp only;omega,B⟩,?_,sl⟩);dsimp only;rw[ζ he2];split
    ·rename_i h0;have:=c3 (c3' h0);omega
    ·omega
  | false=>
   rw[η χ] at B;subst B;dsimp only;have hnd3:=dL hm2 b5;refine aB rfl (fun hb=>Bool.noConfusion hb) (fun _=>aH (sk 1 rfl (kc hnd3 ?_)));refine az (AWp.sub (Sub.freeze (id:=504) rfl) ?_);refine AWp.sub (Sub.freeze (id:=505) rfl) ?_;exact sg rfl (aE (rtC trw (hc:=.agg (.c .refl (.c .refl (.c .refl (.c .nl (.hs rfl hse.symm (Go.AM.take_all hse.symm) (.hs rfl hoe.symm (Go.AM.take_all hoe.symm) .nil)))))))))
 by_cases hlt:i<ps.length
 case neg=>
  have d0:decide ((i:Int)<((ps.map aM).length:Int))=false:=φ (by omega);rw[drop_eq_nil_of_le (by omega),bX] at E;obtain⟨rfl,rfl⟩:=Prod.mk.inj E;exact aA (sgh [(4,.bv false),(7,.bv false)] rfl (aB rfl (fun hb=>Bool.noConfusion hb) (fun _=>aH (hend _ sl))))
 have d0:decide ((i:Int)<((ps.map aM).length:Int))=true:=θ (by omega);obtain⟨p,hp⟩:=aG hlt;have hp':=aP aM hp;have hds:ps.drop i=p::ps.drop (i+1):=by
  obtain⟨k1,k2⟩:=Ah.1 hp;rw[←k2];exact Az k1
 rw[hds,bX] at E;by_cases he:z5.e=0
 case neg=>
  rw[η he] at E;obtain⟨rfl,rfl⟩:=Prod.mk.inj E;rw[φ he] at ho;refine aA (skh 6 [(4,.bv true)] rfl (kcG ho ?_));exact ak 1 [(4,.bv true),(7,.bv true)] rfl (az (aB rfl (fun hb=>Bool.noConfusion hb) (fun _=>aH (hend _ sl))))
 rw[ζ he] at E;rw[θ he] at ho;refine aA (skh 6 [(4,.bv true)] rfl (kcG ho ?_));refine ak 1 [(4,.bv true),(7,.bv true)] rfl (az (aB rfl (fun _=>aD ?_) (fun hb=>Bool.noConfusion hb)));have M:∃z6,z6=(if p.ty.form=2∧p.ty.name=u.text then z5 else bV 12 A.pl z5)∧ZA L z6:=⟨_,rfl,by split<;>first | exact h5 | exact h5.fail _ _⟩
 obtain⟨z6,M,h6⟩:=M;rw[←M] at E;have hfl:=eR L z5 12 A.pl;have Y:out.map aK++[[.str p.cls]]=(out++[p.cls]).map aK:=by rw[Af];rfl
 have hle:(out++[p.cls]).length=out.length+1:=by rw[ψ];rfl
 generalize out++[p.cls]=O at E Y hle;refine aA (aF (aA (AWp.cut (mk [(0,xP),(2,.one (.vp 2 0)),(3,.one (.c (.sl 5 (ps.map aM)))),(4,.one (.vp 4 0)),(5,.one (.vp 5 0)),(6,.one (.vp 6 0)),(7,I .i64 (i:Nat))] [(700,zO L z6),(2,.var 87 (a0w.map .c)),(4,.var 131 ((aI A).map .c)),(5,.var 131 ((aI u).map .c)),(6,.var 87 [.c (.str A.text),.c (.int .i64 A.pl),.c (.str u.text),.c .nl,.hs 504 0 out.length out.length,.c .nl]),(504,.arr 9 1 (out.map aK) 0)]) ?_ ?_)))
 ·by_cases hf:p.ty.form=2
  ·have d1:(!decide (p.ty.form=2))=false:=by rw[θ hf];rfl
   refine sgh [(2,.row i (aM p)),(7,.bv false),(10,.row i (aM p)),(17,.bv false)] rfl ?_;by_cases hnm:p.ty.name=u.text
   ·rw[ζ ⟨hf,hnm⟩] at M;subst M;have d2:(!decide (p.ty.name=u.text))=false:=by rw[θ hnm];rfl
    exact aB rfl (fun hb=>absurd (hb.symm.trans d2) Bool.noConfusion) (fun _=>aD sl)
   ·rw[η (fun k=>hnm k.2)] at M;subst M;have d2:(!decide (p.ty.name=u.text))=true:=by rw[φ hnm];rfl
    refine aB rfl (fun _=>aC mixed (ak 3 [] rfl (kc hfl ?_))) (fun hb=>absurd (hb.symm.trans d2) Bool.noConfusion);exact az sl
  ·have d1:(!decide (p.ty.form=2))=true:=by rw[φ hf];rfl
   rw[η (fun k=>hf k.1)] at M;subst M;refine sgh [(2,.row i (aM p)),(7,.bv true),(17,.bv true)] rfl (aB rfl (fun _=>aC mixed (ak 3 [] rfl (kc hfl ?_))) (fun hb=>Bool.noConfusion hb));exact az sl
 exact ag [(4,.row i (aM p)),(7,.all)] rfl (agN [] rfl ⟨(i+1,O,z6),⟨hlt,h6,by dsimp only;omega,E⟩,by dsimp only;omega,sl (hh:=⟨⟨_,rfl,.var rfl⟩,⟨_,rfl,.var rfl⟩,⟨_,rfl,.var rfl⟩,⟨_,rfl,.var rfl⟩,⟨_,rfl,.var (by rw[hle,←hoe];rfl)⟩,⟨_,rfl,.arrS Y⟩,trivial⟩)⟩)
end
def aZj (c:Cn):Prop:=c.fields.length≤4002∧∀x∈c.fields,WF x∧tn x≤30000
theorem aUu {L:List Tk}{z:Z}(h:ZA L z) (hwt:wt L≤30000):ZA L (mC z).2∧aZj (mC z).1∧Ze z (mC z).2:=by
 have h1:=h.word (k:=2) (by decide);have hl:=h1.len;obtain⟨g1,g2,g3,g4⟩:=qX ((aR 2 z).2.R.length+1) [] _ h1 (fun x hx=>by cases hx) (by rw[length_nil];omega);exact⟨g1.long _ _ _,⟨g4,fun x hx=>⟨(g2 x hx).1,by have:=(g2 x hx).2;omega⟩⟩,((Ze.word 2 z).trans g3).trans (Ze.long _ _ _ _)⟩
theorem aFv {L:List Tk}(hwt:wt L≤30000) (a:Int):∀(f:Nat) (out:List Cn) (z:Z),ZA L z→out.length+z.R.length≤4002→(∀c∈out,aZj c)→ZA L (iT f a out z).2∧((iT f a out z).1.length≤4002∧∀c∈(iT f a out z).1,aZj c)∧Ze z (iT f a out z).2
 | 0,out,z,h,hl,ho=>by rw[iT];exact⟨h,⟨by dsimp only;omega,ho⟩,Ze.refl z⟩
 | f+1,out,z,h,hl,ho=>by
  rw[iT];obtain⟨g1,g2,g3⟩:=aUu h hwt;have h2:=g1.long (out++[(mC z).1]).length 16 a;have u:=g3.trans (Ze.long (out++[(mC z).1]).length 16 a _);have hle:(out++[(mC z).1]).length=out.length+1:=by rw[ψ];rfl
  have q:∀c∈out++[(mC z).1],aZj c:=fun c hc=>by
   rcases A4.1 hc with hc | hc
   ·exact ho c hc
   ·rw[Am.1 hc];exact g2
  have E:=h.lp;split
  ·rename_i hm;have I:=gF h2 hm;have J:(c0 (out++[(mC z).1]).length 16 a (mC z).2).R.length≤z.R.length:=u;obtain⟨y,A,B⟩:=aFv hwt a f _ _ (h2.may uF) (by omega) q;exact⟨y,A,(u.trans (Ze.may _ _)).trans B⟩
  ·exact⟨h2.may uF,⟨by dsimp only;omega,q⟩,u.trans (Ze.may _ _)⟩
theorem aFu {L:List Tk}{z:Z}(h:ZA L z) (hwt:wt L≤30000):ZA L (jZ z).2∧DtOk (jZ z).1∧Ze z (jZ z).2:=by
 have h1:=h.word (k:=2) (by decide);have q:=fE h1;have h2:ZA L (fO z).2.2:=(h1.words.long _ _ _).need _;have u:Ze z (fO z).2.2:=((Ze.word 2 z).trans (Ze.words _)).trans ((Ze.long _ _ _ _).trans (Ze.need _ _));have hc:ZA L (gO (fO z)).2∧((gO (fO z)).1.length≤4002∧∀c∈(gO (fO z)).1,aZj c)∧Ze (fO z).2.2 (gO (fO z)).2:=by
  unfold gO;split
  ·exact aFv hwt _ _ [] _ h2 (by rw[length_nil];have:=h2.len;omega) (fun c hc=>by cases hc)
  ·exact⟨h2,⟨Ab _,fun c hc=>(by cases hc)⟩,Ze.refl _⟩
 exact⟨hc.1,⟨by show((fO z).2.1.map _).length≤_;rw[ξ];exact q,hc.2.1⟩,u.trans hc.2.2⟩
structure PgOk (n:Nat) (p:Pg):Prop where
 d:p.datas.length≤n∧∀d∈p.datas,DtOk d
 c:p.classes.length≤n∧∀c∈p.classes,ClOk c
 i:p.insts.length≤n∧∀x∈p.insts,InOk x
 b:p.binds.length≤n∧eY p.binds
theorem aNa {α:Type}{l:List α}{x:α}{n:Nat}(h:l.length≤n):(l++[x]).length≤n+1:=by rw[ψ,Bm];omega
theorem aDp {α:Type}{P:α→Prop}{l:List α}{x:α}(h:∀y∈l,P y) (hx:P x):∀y∈l++[x],P y:=fun y hy=>by
 rcases A4.1 hy with hy | hy
 ·exact h y hy
 ·rw[Am.1 hy];exact hx
section
variable {L:List Tk}{ex:Nat→Z→Ex×Z}(hO:ExO L ex) (hwt:wt L≤30000)
include hO hwt
theorem xU {n:Nat}{p:Pg}{sigs:List Sg}{z:Z}(h:ZA L z) (hp:PgOk n p) (hs:gY sigs∧sigs.length≤n):ZA L (cY ex p sigs z).2∧PgOk (n+1) (cY ex p sigs z).1.1∧(gY (cY ex p sigs z).1.2∧(cY ex p sigs z).1.2.length≤n+1)∧((cY ex p sigs z).2.e=0→(cY ex p sigs z).2.R.length<z.R.length)∧Ze z (cY ex p sigs z).2:=by
 obtain⟨y,hc,hi,hb⟩:=hp;have up:∀{m:Nat},m≤n→m≤n+1:=fun h=>Nat.le_succ_of_le h
 unfold cY;split
 ·rename_i hm;have q:=gF h hm;obtain⟨g1,g2,g3⟩:=aFu (h.may eV) hwt;have u:(jZ (bT eV z).2).2.R.length≤(bT eV z).2.R.length:=g3;exact⟨g1,⟨⟨aNa y.1,aDp y.2 g2⟩,⟨up hc.1,hc.2⟩,⟨up hi.1,hi.2⟩,⟨up hb.1,hb.2⟩⟩,⟨hs.1,up hs.2⟩,fun _=>B3 u q,C6 (B3 u q)⟩
 split
 ·rename_i hm;have q:=gF h hm;obtain⟨g1,g2,g3⟩:=aA7 (h.may fK) hwt;have u:(eW (bT fK z).2).2.R.length≤(bT fK z).2.R.length:=g3;exact⟨g1,⟨⟨up y.1,y.2⟩,⟨aNa hc.1,aDp hc.2 g2⟩,⟨up hi.1,hi.2⟩,⟨up hb.1,hb.2⟩⟩,⟨hs.1,up hs.2⟩,fun _=>B3 u q,C6 (B3 u q)⟩
 split
 ·rename_i hm;have q:=gF h hm;obtain⟨g1,g2,g3⟩:=aE2 hO hwt (h.may jX);have u:(kG ex (bT jX z).2).2.R.length≤(bT jX z).2.R.length:=g3;exact⟨g1,⟨⟨up y.1,y.2⟩,⟨up hc.1,hc.2⟩,⟨aNa hi.1,aDp hi.2 g2⟩,⟨up hb.1,hb.2⟩⟩,⟨hs.1,up hs.2⟩,fun _=>B3 u q,C6 (B3 u q)⟩
 ·obtain⟨g1,g2,g3,g4,g5,g6,g7⟩:=kV hO hwt sigs p.binds 0 h hs.1 hb.2;exact⟨g1,⟨⟨up y.1,y.2⟩,⟨up hc.1,hc.2⟩,⟨up hi.1,hi.2⟩,⟨by show(aV ex sigs p.binds 0 z).1.2.length≤_;omega,g3⟩⟩,⟨g2,by show(aV ex sigs p.binds 0 z).1.1.length≤_;omega⟩,g6,g7⟩
end
def a3j:List C:=[.nl,.nl,.nl,.nl]
def pgH (L:List Tk) (z:Z) (p:Pg) (sigs:List Sg):List (Nat×AObj):=[(700,zO L z),(2,.var 30 (a3j.map .c)),(3,.var 30 [.hs 520 0 p.datas.length p.datas.length,.hs 521 0 p.classes.length p.classes.length,.hs 522 0 p.insts.length p.insts.length,.hs 511 0 p.binds.length p.binds.length]),(510,sgA sigs 0),(511,bdA p.binds 0),(520,.arr 81 5 (p.datas.map cQ) 0),(521,.arr 87 6 (p.classes.map cX) 0),(522,.arr 90 6 (p.insts.map dD) 0)]
section
variable {L:List Tk}{ex:Nat→Z→Ex×Z}{N:Nat}(hO:ExO L ex) (hS:ExS L ex N) (hwt:wt L≤30000)
include hO hS hwt
theorem aH1 {z:Z}(h:ZA L z) (hN:z.R.length≤N):aW Tryz.prog 32 [xP] [(700,zO L z)] (.pa (oP (fT ex z).1)) [(700,zO L (fT ex z).2)]:=by
 have hWx:∃W,W=eA ex (z.R.length+1) 0 zPg [] z:=⟨_,rfl⟩
 obtain⟨W,Y⟩:=hWx;unfold fT;rw[←Y];refine b9 (n:=54) tok Tryz.func32 rfl rfl rfl ?_;refine sg rfl (sg rfl (sg rfl (AWp.sub (Sub.own (t:=4) (id:=510) 100 9 rfl rfl) ?_)));refine AWp.sub (Sub.ownCell (x:=3) (k:=0) (id:=520) 81 5 rfl rfl rfl) ?_;refine AWp.sub (Sub.ownCell (x:=3) (k:=1) (id:=521) 87 6 rfl rfl rfl) ?_;refine AWp.sub (Sub.ownCell (x:=3) (k:=2) (id:=522) 90 6 rfl rfl rfl) ?_;refine AWp.sub (Sub.ownCell (x:=3) (k:=3) (id:=511) 109 33 rfl rfl rfl) ?_;refine aA (sg rfl (aF (aJ (fun q:(Pg×List Sg)×Z×Nat×Nat=>mk [(0,xP),(2,.one (.vp 2 0)),(3,.one (.vp 3 0)),(4,hsV 510 q.1.2.length),(5,I .i64 (q.2.2.1:Nat))] (pgH L q.2.1 q.1.1 q.1.2)) (fun q=>ZA L q.2.1∧PgOk q.2.2.1 q.1.1∧(gY q.1.2∧q.1.2.length≤q.2.2.1)∧q.2.1.R.length≤z.R.length∧(q.2.1.e=0→q.2.1.R.length<q.2.2.2)∧q.2.2.1≤60∧W=eA ex q.2.2.2 q.2.2.1 q.1.1 q.1.2 q.2.1) (fun q=>if q.2.1.e=0 then q.2.1.R.length+1 else 0) ((zPg,[]),z,0,z.R.length+1) ⟨h,⟨⟨le_refl _,fun d hd=>(by cases hd)⟩,⟨le_refl _,fun d hd=>(by cases hd)⟩,⟨le_refl _,fun d hd=>(by cases hd)⟩,⟨le_refl _,trivial⟩⟩,⟨fun d hd=>(by cases hd),le_refl _⟩,le_refl _,fun _=>Bv _,Ab _,Y⟩ sl ?_)));clear Y h;rintro⟨⟨p,sigs⟩,z3,n,f⟩ ⟨h,hp,hs,hR,hf,hn,Y⟩;dsimp only at h hp hs hR hf hn Y ⊢;have hde:(p.datas.map cQ).length=p.datas.length:=ξ _;have hce:(p.classes.map cX).length=p.classes.length:=ξ _;have hie:(p.insts.map dD).length=p.insts.length:=ξ _;have hbe:(p.binds.map aY).length=p.binds.length:=ξ _;have hdl:=hp.d.1;have hcl:=hp.c.1;have hil:=hp.i.1;have hbl:=hp.b.1;have hsl:=hs.2;have hm:=u7 h [] n (by omega);have hmt:= @eH [] n z3;have E:=h.more [] n;have hm3:=Ze.more [] n z3;have U:W=if(b6 [] n z3).1=true then eA ex (f-1) (n+1) (cY ex p sigs (b6 [] n z3).2).1.1 (cY ex p sigs (b6 [] n z3).2).1.2 (cY ex p sigs (b6 [] n z3).2).2 else((p,sigs),(b6 [] n z3).2):=by
  by_cases he:z3.e=0
  ·obtain⟨f,rfl⟩:∃g,f=g+1:=⟨f-1,by have:=hf he;omega⟩
   rw[eA] at Y;exact Y
  ·rw[dJ he];rw[η χ];rw[Y];cases f with
   | zero=>rfl
   | succ f=>rw[eA,dJ he,η χ]
 have hme:(b6 [] n z3).1=true→z3.e=0:=fun e=>by
  by_cases he:z3.e=0
  ·exact he
  ·rw[dJ he] at e;cases e
 clear Y;generalize b6 [] n z3=m at hm hmt E hm3 U hme;obtain⟨b,z4⟩:=m;dsimp only at hm hmt E hm3 U hme;have hm3:z4.R.length≤z3.R.length:=hm3;refine aA (sk 2 rfl (kc hm ?_));refine az ?_;cases b with
 | true=>
  rw[ζ rfl] at U;obtain⟨e3,hn60⟩:=hmt rfl;have he2:=hme rfl;have hf:=hf he2;obtain⟨D1,D2,D3,D4,D5⟩:=xU hO hwt E hp hs;have u:∀st,Sub (keys [(700,zO L z)]) (mk [(0,xP),(2,.one (.vp 2 0)),(3,.one (.vp 3 0)),(4,hsV 510 (cY ex p sigs z4).1.2.length),(5,I .i64 ((n+1:Nat):Int))] (pgH L (cY ex p sigs z4).2 (cY ex p sigs z4).1.1 (cY ex p sigs z4).1.2)) st→∃q:(Pg×List Sg)×Z×Nat×Nat,(ZA L q.2.1∧PgOk q.2.2.1 q.1.1∧(gY q.1.2∧q.1.2.length≤q.2.2.1)∧q.2.1.R.length≤z.R.length∧(q.2.1.e=0→q.2.1.R.length<q.2.2.2)∧q.2.2.1≤60∧W=eA ex q.2.2.2 q.2.2.1 q.1.1 q.1.2 q.2.1)∧(if q.2.1.e=0 then q.2.1.R.length+1 else 0)<(if z3.e=0 then z3.R.length+1 else 0)∧Sub (keys [(700,zO L z)]) (mk [(0,xP),(2,.one (.vp 2 0)),(3,.one (.vp 3 0)),(4,hsV 510 q.1.2.length),(5,I .i64 (q.2.2.1:Nat))] (pgH L q.2.1 q.1.1 q.1.2)) st:=fun st hst=>by
   have D5':(cY ex p sigs z4).2.R.length≤z4.R.length:=D5;refine⟨((cY ex p sigs z4).1,(cY ex p sigs z4).2,n+1,f-1),⟨D1,D2,D3,by dsimp only;omega,fun h0=>by have:=D4 h0;dsimp only;omega,hn60,U⟩,?_,hst⟩;dsimp only;rw[ζ he2];split
   ·rename_i h0;have:=D4 h0;omega
   ·omega
  clear D1 D2 D3 D4 D5 U;unfold cY at u;refine aB rfl (fun _=>aD ?_) (fun hb=>Bool.noConfusion hb);have ha:=E.may eV;have A:= @kB eV z4;have B:=kD E eV;generalize bT eV z4=m at ha A B u;obtain⟨b,z5⟩:=m;dsimp only at ha A B u;refine aA (aF (aA (sk 1 rfl (kc B ?_))));refine az ?_;cases b with
  | true=>
   rw[ζ rfl] at u;have J:=aVi ha;generalize jZ z5=y at J u;obtain⟨d,z6⟩:=y;dsimp only at J u;have M:p.datas.map cQ++[cQ d]=(p.datas++[d]).map cQ:=by rw[Af];rfl
   have O:(p.datas++[d]).length=p.datas.length+1:=by rw[ψ];rfl
   generalize p.datas++[d]=D at M O u;refine aB rfl (fun _=>sk 3 rfl (kc J ?_)) (fun hb=>Bool.noConfusion hb);exact ak 4 [(4,.all)] rfl (az (aH (agN [] rfl (u _ (sl (hh:=⟨⟨_,rfl,.var rfl⟩,⟨_,rfl,.var rfl⟩,⟨_,rfl,.var (by rw[O,←hde];rfl)⟩,⟨_,rfl,Go.AM.Ole.arr⟩,⟨_,rfl,Go.AM.Ole.arr⟩,⟨_,rfl,.arrS M⟩,⟨_,rfl,Go.AM.Ole.arr⟩,⟨_,rfl,Go.AM.Ole.arr⟩,trivial⟩))))))
  | false=>
  obtain rfl:=A rfl;rw[η χ] at u;refine aB rfl (fun hb=>Bool.noConfusion hb) (fun _=>aD ?_);clear ha B A;have ha:=E.may fK;have A:= @kB fK z5;have B:=kD E fK;generalize bT fK z5=m at ha A B u;obtain⟨b,z6⟩:=m;dsimp only at ha A B u;refine aA (sk 1 rfl (kc B ?_));refine az ?_;cases b with
  | true=>
   rw[ζ rfl] at u;have J:=aP6 hwt ha;generalize eW z6=y at J u;obtain⟨d,z7⟩:=y;dsimp only at J u;have M:p.classes.map cX++[cX d]=(p.classes++[d]).map cX:=by rw[Af];rfl
   have O:(p.classes++[d]).length=p.classes.length+1:=by rw[ψ];rfl
   generalize p.classes++[d]=D at M O u;refine aB rfl (fun _=>sk 3 rfl (kc J ?_)) (fun hb=>Bool.noConfusion hb);exact ak 4 [(4,.all)] rfl (az (aH (agN [] rfl (u _ (sl (hh:=⟨⟨_,rfl,.var rfl⟩,⟨_,rfl,.var rfl⟩,⟨_,rfl,.var (by rw[O,←hce];rfl)⟩,⟨_,rfl,Go.AM.Ole.arr⟩,⟨_,rfl,Go.AM.Ole.arr⟩,⟨_,rfl,Go.AM.Ole.arr⟩,⟨_,rfl,.arrS M⟩,⟨_,rfl,Go.AM.Ole.arr⟩,trivial⟩))))))
  | false=>
  obtain rfl:=A rfl;rw[η χ] at u;refine aB rfl (fun hb=>Bool.noConfusion hb) (fun _=>aD ?_);clear ha B A;have ha:=E.may jX;have A:= @kB jX z6;have B:=kD E jX;have lm:(bT jX z6).2.R.length≤z6.R.length:=Ze.may jX z6;generalize bT jX z6=m at ha A B lm u;obtain⟨b,z7⟩:=m;dsimp only at ha A B lm u;refine aA (sk 1 rfl (kc B ?_));refine az ?_;cases b with
  | true=>
   rw[ζ rfl] at u;have J:=aVd hO hS hwt ha (by omega);generalize kG ex z7=y at J u;obtain⟨d,z8⟩:=y;dsimp only at J u;have M:p.insts.map dD++[dD d]=(p.insts++[d]).map dD:=by rw[Af];rfl
   have O:(p.insts++[d]).length=p.insts.length+1:=by rw[ψ];rfl
   generalize p.insts++[d]=D at M O u;refine aB rfl (fun _=>sk 3 rfl (kc J ?_)) (fun hb=>Bool.noConfusion hb);exact ak 4 [(4,.all)] rfl (az (aH (agN [] rfl (u _ (sl (hh:=⟨⟨_,rfl,.var rfl⟩,⟨_,rfl,.var rfl⟩,⟨_,rfl,.var (by rw[O,←hie];rfl)⟩,⟨_,rfl,Go.AM.Ole.arr⟩,⟨_,rfl,Go.AM.Ole.arr⟩,⟨_,rfl,Go.AM.Ole.arr⟩,⟨_,rfl,Go.AM.Ole.arr⟩,⟨_,rfl,.arrS M⟩,trivial⟩))))))
  | false=>
  obtain rfl:=A rfl;rw[η χ] at u;refine aB rfl (fun hb=>Bool.noConfusion hb) (fun _=>aD ?_);have hei:=aBi hS hwt sigs p.binds 0 E (by omega) (by decide) (by omega) (by omega);generalize aV ex sigs p.binds 0 z7=y at hei u;obtain⟨⟨S,Bs⟩,z8⟩:=y;dsimp only at hei u;refine aC mixed (ak 4 [] rfl (kc hei ?_));exact kz 6 rfl (agN [] rfl (u _ sl))
 | false=>
  rw[η χ] at U;subst U;unfold sF;dsimp only;have hpr:=aL7 sigs p.binds E (by omega) (by omega);obtain⟨p1,p2,p3,p4⟩:=gV sigs p.binds z4 E hs.1 hp.b.2;generalize dG sigs p.binds z4=y at hpr p1 p2 p3 p4 ⊢;obtain⟨Bs,z6⟩:=y;dsimp only at hpr p1 p2 p3 p4 ⊢;have hBl:p.binds.length=(Bs.map aY).length:=by rw[ξ,p3]
  refine aB rfl (fun hb=>Bool.noConfusion hb) (fun _=>aH (AWp.sub (Sub.freeze (id:=510) rfl) ?_));refine sk 4 rfl (kc hpr ?_);refine kz 2 rfl (AWp.sub (Sub.freeze (id:=511) rfl) ?_);refine AWp.sub (Sub.freeze (id:=520) rfl) ?_;refine AWp.sub (Sub.freeze (id:=521) rfl) ?_;refine AWp.sub (Sub.freeze (id:=522) rfl) ?_;exact sg rfl (aE (rtC trw (hc:=.agg (.hs rfl hde.symm (Go.AM.take_all hde.symm) (.hs rfl hce.symm (Go.AM.take_all hce.symm) (.hs rfl hie.symm (Go.AM.take_all hie.symm) (.hs rfl hBl (Go.AM.take_all hBl) .nil)))))))
end
theorem aLd {t:Tk}{R:List Tk}(h:qE R):qE (t::R):=by
 obtain⟨p,e,rfl,he⟩:=h;exact⟨t::p,e,rfl,he⟩
theorem aKd {c:UInt8}{r:Str}{k:Int}{t:Str}{v:Int}(h:jE (c::r)=.ok (k,t,v)):(k=4→v=0)∧1≤k∧k≤5:=by
 rw[jE] at h;split at h
 ·split at h
  ·cases h
  ·cases h;exact⟨fun e=>by omega,by decide,by decide⟩
 split at h
 ·unfold pE at h;split at h
  ·cases h
  split at h
  ·cases h;exact⟨fun e=>by omega,by decide,by decide⟩
  split at h
  ·cases h;exact⟨fun e=>by omega,by decide,by decide⟩
  ·cases h;exact⟨fun e=>by omega,by decide,by decide⟩
 split at h
 ·cases h
 ·cases h;exact⟨fun _=>rfl,by decide,by decide⟩
structure LOk (L:List Tk) (n:Nat):Prop where
 e:qE L
 w:wt L≤7*n+6
 l:L.length≤n+1
 z:rN L
theorem aCq:∀(f a:Nat) (s:Str) (l:List Tk),mD f a s=.ok l→LOk l s.length
 | 0,a,s,l,h=>by
  rw[mD] at h;cases h;refine⟨⟨[],_,rfl,rfl⟩,by rw[cK];show 0+6+0≤_;omega,by simp,fun t ht=>?_⟩;rw[Am.1 ht];exact fun _=>rfl
 | f+1,a,[],l,h=>by
  rw[mD] at h;cases h;refine⟨⟨[],_,rfl,rfl⟩,by rw[cK];exact le_refl _,by simp,fun t ht=>?_⟩;rw[Am.1 ht];exact fun _=>rfl
 | f+1,a,c::r,l,h=>by
  rw[mD] at h;split at h
  ·rename_i hb;obtain⟨g1,g2,g3,g4⟩:=aCq f _ _ l h;rw[Bi] at g2 g3;exact⟨g1,by omega,by omega,g4⟩
  ·cases ho:jE (c::r) with
   | error e=>rw[ho] at h;cases h
   | ok y=>
    obtain⟨k,t,v⟩:=y;rw[ho] at h;dsimp only at h;cases q:mD f (a+t.length) ((c::r).drop t.length) with
    | error e=>rw[q,xY] at h;cases h
    | ok A=>
     rw[q,xY] at h;cases h;obtain⟨g1,g2,g3,g4⟩:=aCq f _ _ A q;obtain⟨E,I⟩:=nI ho;obtain⟨B,J,M⟩:=aKd ho;rw[Bi] at g2 g3;refine⟨aLd g1,?_,?_,fun u hu=>?_⟩
     ·rw[cK];show t.length+6+wt A≤_;omega
     ·rw[ω];omega
     ·rcases Aq.1 hu with rfl | hu
      ·exact B
      ·exact g4 u hu
theorem aTz {s:Str}{l:List Tk}(h:pG s=.ok l):LOk l s.length∧s.length≤4000:=by
 unfold pG at h;split at h
 ·cases h
 ·exact⟨aCq _ _ _ _ h,by omega⟩
theorem xE:∀(f a:Nat) (s:Str) (e p:Int),mD f a s=.error (e,p)→¬e=0
 | 0,a,s,e,p,h=>by rw[mD] at h;cases h
 | f+1,a,[],e,p,h=>by rw[mD] at h;cases h
 | f+1,a,c::r,e,p,h=>by
  rw[mD] at h;split at h
  ·exact xE f _ _ e p h
  ·cases ho:jE (c::r) with
   | error e'=>
    rw[ho] at h;dsimp only at h;cases h;exact x7 ho
   | ok y=>
    obtain⟨k,t,v⟩:=y;rw[ho] at h;dsimp only at h;cases q:mD f (a+t.length) ((c::r).drop t.length) with
    | error e'=>obtain⟨e',u⟩:=e';rw[q,xY] at h;cases h;exact xE f _ _ e p q
    | ok A=>rw[q,xY] at h;cases h
theorem xF {s:Str}{e p:Int}(h:pG s=.error (e,p)):¬e=0:=by
 unfold pG at h;split at h
 ·cases h;decide
 ·exact xE _ _ _ _ _ h
def aAy:Tk:=⟨6,[],0,0⟩
def bB (s:Str):List Tk×Z:=match pG s with
 | .ok l=>(l,⟨l,0,0⟩)
 | .error (e,p)=>([aAy],⟨[aAy],e,p⟩)
theorem eL (s:Str):ZA (bB s).1 (bB s).2∧wt (bB s).1≤30000∧rN (bB s).1∧(bB s).1=(bB s).2.R:=by
 unfold bB;cases h:pG s with
 | ok l=>
  obtain⟨⟨h1,h2,u,q⟩,y⟩:=aTz h;refine⟨⟨?_,h1,by dsimp only;omega⟩,by dsimp only;omega,q,rfl⟩;show l.drop (l.length-l.length)=l;rw[Cq];rfl
 | error e=>
  obtain⟨e,p⟩:=e;refine⟨⟨rfl,⟨[],aAy,rfl,rfl⟩,by show 1≤_;decide⟩,?_,?_,rfl⟩
  ·show wt [aAy]≤30000;decide
  ·intro t ht;rw[Am.1 ht];exact fun _=>rfl
theorem y5 (s:Str):aW Tryz.prog 30 [Go.AM.T s] [] xP [(700,zO (bB s).1 (bB s).2)]:=by
 have u:=a0e s;unfold bB;have q:= @xF s;generalize pG s=w at u q ⊢;refine b9 (n:=21) tok Tryz.func30 rfl rfl rfl ?_;refine sg rfl (sk 1 rfl (kc u ?_));cases w with
 | ok l=>
  unfold aIl atV;refine kz 6 rfl (aA (sg rfl (aB rfl (fun hb=>Bool.noConfusion hb) (fun _=>aD (sgh [(2,.id 700)] rfl ?_)))));have e:zO l ⟨l,0,0⟩=.var 78 [.c (.sl 4 (l.map aI)),.c (.int .i64 0),.c (.int .i64 0),.c (.int .i64 0)]:=by unfold zO;dsimp only;rw[Cq];rfl
  dsimp only;rw[e];exact aE rtT
 | error e=>
  obtain⟨e,p⟩:=e;have he:=q rfl;have d0:(!decide (e=0))=true:=by rw[φ he];rfl
  unfold aIl atV;exact kz 6 rfl (aA (sg rfl (aB rfl (fun _=>sgh [(1,.all),(4,.id 700)] rfl (aE rtT)) (fun hb=>absurd (hb.symm.trans d0) Bool.noConfusion))))
theorem ZA.endz {L:List Tk}{z:Z}(h:ZA L z):ZA L (kZ z):=by
 unfold kZ;split
 ·exact h.fail _ _
 ·exact h
theorem aMc {L:List Tk}{z:Z}(h:ZA L z):aW Tryz.prog 33 [xP] [(700,zO L z)] (.tup []) [(700,zO L (kZ z))]:=by
 have ho:=fP L z;have hn:=iA h;have u:=eR L z 12 (b8 z).pl;unfold kZ;refine b9 (n:=15) tok Tryz.func33 rfl rfl rfl ?_;by_cases he:z.e=0
 case neg=>
  rw[η (fun k=>he k.1)];rw[φ he] at ho;refine sk 1 rfl (kc ho ?_);exact ak 6 [(2,.bv false),(7,.bv false)] rfl (az (aB rfl (fun hb=>Bool.noConfusion hb) (fun _=>aD rtN)))
 rw[θ he] at ho;refine sk 1 rfl (kc ho ?_);refine ak 2 [(2,.bv true)] rfl (kcG hn ?_);refine ak 3 [(2,.bv true),(7,.bv true)] rfl (az ?_);by_cases q:(b8 z).kind=6
 ·rw[η (fun k=>k.2 q)];have d:(!decide ((b8 z).kind=6))=false:=by rw[θ q];rfl
  exact aB rfl (fun hb=>absurd (hb.symm.trans d) Bool.noConfusion) (fun _=>aD rtN)
 ·rw[ζ ⟨he,q⟩];have d:(!decide ((b8 z).kind=6))=true:=by rw[φ q];rfl
  refine aB rfl (fun _=>aC mixed (ak 2 [] rfl (kc hn ?_))) (fun hb=>absurd (hb.symm.trans d) Bool.noConfusion);refine ak 1 [] rfl (kc u ?_);exact az rtN
def gZ (s:Str):Pg×Z:=if(bB s).2.e=0 then fT (yP (bB s).2.R.length) (bB s).2 else(zPg,(bB s).2)
def dR (s:Str):Pg×Int×Int:=if(kZ (gZ s).2).e=0 then((gZ s).1,(kZ (gZ s).2).e,(kZ (gZ s).2).p) else(zPg,(kZ (gZ s).2).e,(kZ (gZ s).2).p)
theorem aEh {L:List Tk}{ex:Nat→Z→Ex×Z}(hO:ExO L ex) (hwt:wt L≤30000):∀(f n:Nat) (p:Pg) (sigs:List Sg) (z:Z),ZA L z→PgOk n p→(gY sigs∧sigs.length≤n)→n≤60→ZA L (eA ex f n p sigs z).2∧PgOk 60 (eA ex f n p sigs z).1.1∧(gY (eA ex f n p sigs z).1.2∧(eA ex f n p sigs z).1.2.length≤60)
 | 0,n,p,sigs,z,h,hp,hs,hn=>by
  rw[eA];exact⟨h,⟨⟨le_trans hp.d.1 hn,hp.d.2⟩,⟨le_trans hp.c.1 hn,hp.c.2⟩,⟨le_trans hp.i.1 hn,hp.i.2⟩,⟨le_trans hp.b.1 hn,hp.b.2⟩⟩,⟨hs.1,le_trans hs.2 hn⟩⟩
 | f+1,n,p,sigs,z,h,hp,hs,hn=>by
  rw[eA];split
  ·rename_i hm;obtain⟨_,q⟩:=eH hm;obtain⟨g1,g2,g3,_,_⟩:=xU hO hwt (h.more [] n) hp hs;exact aEh hO hwt f (n+1) _ _ _ g1 g2 g3 q
  ·exact⟨h.more _ _,⟨⟨le_trans hp.d.1 hn,hp.d.2⟩,⟨le_trans hp.c.1 hn,hp.c.2⟩,⟨le_trans hp.i.1 hn,hp.i.2⟩,⟨le_trans hp.b.1 hn,hp.b.2⟩⟩,⟨hs.1,le_trans hs.2 hn⟩⟩
theorem PgOk.z (n:Nat):PgOk n zPg:=⟨⟨Ab _,fun d q=>(by cases q)⟩,⟨Ab _,fun d q=>(by cases q)⟩,⟨Ab _,fun d q=>(by cases q)⟩,⟨Ab _,trivial⟩⟩
theorem oG {L:List Tk}{ex:Nat→Z→Ex×Z}(hO:ExO L ex) (hwt:wt L≤30000) {z:Z}(h:ZA L z):ZA L (fT ex z).2∧PgOk 60 (fT ex z).1:=by
 obtain⟨g1,g2,g3⟩:=aEh hO hwt (z.R.length+1) 0 zPg [] z h (.z 0) ⟨fun s hs=>(by cases hs),le_refl _⟩ (Ab _);obtain⟨q,u,y,_⟩:=gV (eA ex (z.R.length+1) 0 zPg [] z).1.2 (eA ex (z.R.length+1) 0 zPg [] z).1.1.binds _ g1 g3.1 g2.b.2;exact⟨q,⟨g2.d,g2.c,g2.i,⟨by show(dG _ _ _).1.length≤_;rw[y];exact g2.b.1,u⟩⟩⟩
theorem aH5 (s:Str):aW Tryz.prog 8 [Go.AM.T s] [] (.tup [.pa (oP (dR s).1),atV (dR s).2.1 (dR s).2.2]) []:=by
 have B:=y5 s;obtain⟨E,hwt,_,Y⟩:=eL s;have u:=aH1 (iG hwt (bB s).2.R.length) (aUf hwt _) hwt E (le_refl _);obtain⟨I,_⟩:=oG (iG hwt (bB s).2.R.length) hwt E;unfold dR gZ;generalize bB s=U at B E hwt u I ⊢;obtain⟨L,z⟩:=U;dsimp only at B E hwt u I ⊢;have ho:=fP L z;refine b9 (n:=27) tok Tryz.func8 rfl rfl rfl ?_;refine sg rfl (sk 1 rfl (kc B ?_));refine kz 1 rfl (sg rfl ?_);have q:∃y,y=(if z.e=0 then fT (yP z.R.length) z else(zPg,z))∧ZA L y.2:=⟨_,rfl,by split<;>first | exact I | exact E⟩
 obtain⟨⟨p,M⟩,q,h1⟩:=q;rw[←q];dsimp only at h1 ⊢;refine aA (AWp.cut (mk [(2,.one (.vp 2 0)),(3,.one (.vp 3 0)),(4,xP),(5,.one (.vp 5 0))] [(700,zO L M),(2,.var 30 (a3j.map .c)),(3,.var 33 [.c (.int .i64 0),.c (.int .i64 0)]),(5,.var 30 ((oP p).map .c))]) ?_ ?_)
 ·refine sk 1 rfl (kc ho ?_);refine az ?_;by_cases he:z.e=0
  ·rw[ζ he] at q;have d:decide (z.e=0)=true:=θ he;rw[←q] at u;refine aB rfl (fun _=>aC mixed (ak 1 [] rfl (kc u ?_))) (fun hb=>absurd (hb.symm.trans d) Bool.noConfusion);exact kz 1 rfl sl
  ·rw[η he] at q;have d:decide (z.e=0)=false:=φ he;obtain⟨rfl,rfl⟩:=Prod.mk.inj q;refine aB rfl (fun hb=>absurd (hb.symm.trans d) Bool.noConfusion) (fun _=>aD (Sub.trans ?_ (vp 5 (oP zPg))));exact sl
 have J:=aMc h1;have h2:=h1.endz;generalize kZ M=z2 at J h2 ⊢;have O:=fP L z2;refine sk 1 rfl (kc J ?_);refine az (aA (sk 1 rfl (kc O ?_)));refine kz 1 rfl ?_;by_cases A:z2.e=0
 ·rw[ζ A];have d:(!decide (z2.e=0))=false:=by rw[θ A];rfl
  exact aB rfl (fun hb=>absurd (hb.symm.trans d) Bool.noConfusion) (fun _=>aD (sg rfl (aE wI)))
 ·rw[η A];have d:(!decide (z2.e=0))=true:=by rw[φ A];rfl
  exact aB rfl (fun _=>sg rfl (aE wI)) (fun hb=>absurd (hb.symm.trans d) Bool.noConfusion)
def wM (s:Str):Ex×Z:=yP (bB s).2.R.length 0 (bB s).2
def aNl (s:Str):Ex×Int×Int:=if(kZ (wM s).2).e=0 then((wM s).1,(kZ (wM s).2).e,(kZ (wM s).2).p) else(zEx,(kZ (wM s).2).e,(kZ (wM s).2).p)
theorem a0h (s:Str):aW Tryz.prog 11 [Go.AM.T s] [] (.tup [.pa (bR (aNl s).1),atV (aNl s).2.1 (aNl s).2.2]) []:=by
 have A:=y5 s;obtain⟨B,hwt,_,O⟩:=eL s;have q:=aUf hwt (bB s).2.R.length 0 _ B (le_refl _) (by decide);obtain⟨u,_⟩:=iG hwt (bB s).2.R.length 0 _ B;unfold aNl wM;generalize bB s=J at A B hwt q u ⊢;obtain⟨L,z⟩:=J;dsimp only at A B hwt q u ⊢;generalize yP z.R.length 0 z=w at q u ⊢;obtain⟨e,M⟩:=w;dsimp only at q u ⊢;have E:=aMc u;generalize kZ M=z2 at E ⊢;have I:=fP L z2;refine b9 (n:=25) tok Tryz.func11 rfl rfl rfl ?_;refine sg rfl (sk 1 rfl (kc A ?_));refine kz 1 rfl (sk 1 rfl (kc q ?_));refine kz 2 rfl (sk 1 rfl (kc E ?_));refine az (aA (sk 1 rfl (kc I ?_)));refine kz 1 rfl ?_;by_cases y:z2.e=0
 ·rw[ζ y];have d:(!decide (z2.e=0))=false:=by rw[θ y];rfl
  exact aB rfl (fun hb=>absurd (hb.symm.trans d) Bool.noConfusion) (fun _=>aD (sg rfl (aE wI)))
 ·rw[η y];have d:(!decide (z2.e=0))=true:=by rw[φ y];rfl
  exact aB rfl (fun _=>sg rfl (aE wI)) (fun hb=>absurd (hb.symm.trans d) Bool.noConfusion)
end Go.Proofs.YtkhgpgihmphfdaaGreatDoor
namespace Go.Proofs.YtkhgpgihmphfdaaGreatDoor
open Go
section
set_option maxRecDepth 100000
set_option maxHeartbeats 4000000
def vS (e p:Int):Value:=.iface 163 (.agg #[.int .i64 e,.int .i64 p])
theorem zJ (e p:Int) (w:World):Calls Tryz.prog 149 #[.int .i64 e,.int .i64 p] w fun q w'=>q=.panicked [{ v:=vS e p,recovered:=false }]∧w=w':=by
 go_enter Tryz.func149,Tryz.ntmps149
 go_wp2
 all_goals exact⟨rfl,⟨rfl,rfl⟩⟩
end
open Go.AM
theorem aPw (e p:Int):aGs Tryz.prog 149 [I .i64 e,I .i64 p] [] (vS e p):=by
 intro S μ w vals u hv;have q:vals=[.int .i64 e,.int .i64 p]:=by
  simp only[b7] at hv;obtain⟨v,vs,rfl,h1,v2,y,rfl,h2,rfl⟩:=hv;simp only[aS,aZ,Rep] at h1 h2;subst h1 h2;rfl
 subst q;refine(zJ e p w).mono fun A w' ⟨h1,h2⟩=>?_
 subst h2;exact⟨S,μ,[],h1,fun id o ho=>(by cases ho),u⟩
theorem bN (e p:Int):aW Tryz.prog 111 [B true,I .i64 e,I .i64 p] [] (.tup []) []:=by
 refine b9 (n:=11) tok Tryz.func111 rfl rfl rfl ?_;exact sg rfl (aB rfl (fun hb=>Bool.noConfusion hb) (fun _=>aD rtN))
theorem bO (e p:Int):aGs Tryz.prog 111 [B false,I .i64 e,I .i64 p] [] (vS e p):=by
 have q:=aPw e p;refine aUc (n:=11) Tryz.func111 rfl rfl rfl rfl ?_;exact sg rfl (aB rfl (fun _=>aC mixed (ak 2 [] rfl (kp q))) (fun hb=>Bool.noConfusion hb))
def rP:V:=.one (.vp 600 0)
def rO (L:List Tk) (z:Z):AObj:=.var 168 [.c (.sl 4 (L.map aI)),.c (.int .i64 ((L.length-z.R.length:Nat):Int))]
def iP (L:List Tk) (res:V) (z:Z) (hs:List (Nat×AObj)):Except Value (V×List (Nat×AObj)):=if z.e=0 then .ok (res,(600,rO L z)::hs) else .error (vS z.e z.p)
theorem bC {L:List Tk}{res:V}{z:Z}{hs:List (Nat×AObj)}(h:z.e=0):iP L res z hs=.ok (res,(600,rO L z)::hs):=ζ h
theorem aL {L:List Tk}{res:V}{z:Z}{hs:List (Nat×AObj)}(h:¬z.e=0):iP L res z hs=.error (vS z.e z.p):=η h
theorem bH.ok {P:Program}{f:FuncId}{args:List V}{hin:List (Nat×AObj)}{L:List Tk}{res:V}{z:Z}{hs:List (Nat×AObj)}(h:bH P f args hin (iP L res z hs)) (he:z.e=0):aW P f args hin res ((600,rO L z)::hs):=by rw[bC he] at h;exact h
theorem bH.err {P:Program}{f:FuncId}{args:List V}{hin:List (Nat×AObj)}{L:List Tk}{res:V}{z:Z}{hs:List (Nat×AObj)}(h:bH P f args hin (iP L res z hs)) (he:¬z.e=0):aGs P f args hin (vS z.e z.p):=by rw[aL he] at h;exact h
theorem eQ {L:List Tk}{z:Z}(h:ZA L z):aW Tryz.prog 112 [rP] [(600,rO L z)] (tkV (b8 z)) [(600,rO L z)]:=by
 have hl:=aP aI h.now;have q:(L.map aI).length=L.length:=ξ _;have u:=h.lt;have y:=h.l;refine b9 (n:=13) tok Tryz.func112 rfl rfl rfl ?_;exact sg rfl (sgh [(8,.row (L.length-z.R.length) (aI (b8 z)))] rfl (aE (rtC trw)))
theorem oB {L:List Tk}{z:Z}(h:ZA L z) (s:Str):aW Tryz.prog 150 [rP,Go.AM.T s] [(600,rO L z)] (B (isZ s z)) [(600,rO L z)]:=by
 have hn:=eQ h;unfold isZ;generalize b8 z=t at hn ⊢;unfold isK;refine b9 (n:=24) tok Tryz.func150 rfl rfl rfl ?_;refine sg rfl (sk 3 rfl (kc hn ?_));refine kz 2 rfl ?_;by_cases q:t.kind=4
 ·have d4:decide (t.kind=4)=true:=θ q;rw[d4,B7,Cd];exact sgh [(3,.bv true),(7,.bv true),(8,.bv true),(13,.bv true)] rfl (aE rtT)
 have d4:decide (t.kind=4)=false:=φ q;rw[d4,A9];by_cases u:t.kind=5
 ·have d5:decide (t.kind=5)=true:=θ u;rw[d5,Cd];exact sgh [(3,.bv false),(7,.bv false),(8,.bv true),(13,.bv true)] rfl (aE rtT)
 ·have d5:decide (t.kind=5)=false:=φ u;rw[d5,B6];exact sgh [(3,.bv false),(7,.bv false),(8,.bv false),(13,.bv false)] rfl (aE rtT)
theorem gH {L:List Tk}{z:Z}(h:ZA L z) (he:z.e=0) (s:Str):aW Tryz.prog 116 [rP,Go.AM.T s] [(600,rO L z)] (B (bT s z).1) [(600,rO L (bT s z).2)]:=by
 have hi:=oB h s;have q:= @lP s (b8 z);have A:=h.l;refine b9 (n:=20) tok Tryz.func116 rfl rfl rfl ?_;refine sg rfl (sk 2 rfl (kc hi ?_));refine kz 1 rfl (aA (sg rfl ?_));unfold bT;cases y:isZ s z with
 | false=>
  rw[η (fun h=>by cases h.2)];exact aB rfl (fun hb=>Bool.noConfusion hb) (fun _=>aD (sg rfl (aE rtT)))
 | true=>
  rw[ζ ⟨he,rfl⟩];have u:isK s (b8 z)=true:=y;obtain⟨_,hn⟩:=h.tl (q u) z.e z.p;unfold rO;dsimp only;rw[hn];exact aB rfl (fun _=>agN [] rfl (sg rfl (aE rtT))) (fun hb=>Bool.noConfusion hb)
theorem dM {L:List Tk}{z:Z}(h:ZA L z) (he:z.e=0) (s:Str):bH Tryz.prog 154 [rP,Go.AM.T s] [(600,rO L z)] (iP L (.tup []) (aQ s z) []):=by
 have hm:=gH h he s;have u:= @kB s z;have h1:=h.may s;have y:=jW s z;have hn:=eQ h1;have A:aQ s z=if(bT s z).1=true then(bT s z).2 else bV 12 (b8 z).pl z:=rfl
 rw[A];generalize bT s z=m at hm u h1 hn y ⊢;obtain⟨b,q⟩:=m;dsimp only at hm u h1 hn y ⊢;cases b with
 | true=>
  have B:=bN 12 (b8 q).pl;rw[ζ rfl,bC (y.trans he)];refine b9 (n:=13) tok Tryz.func154 rfl rfl rfl ?_;refine aC mixed (ak 2 [] rfl (kc hm ?_));refine ak 3 [] rfl (kc hn ?_);refine ak 1 [] rfl (kc B ?_);exact az rtN
 | false=>
  obtain rfl:=u rfl;have E:=bO 12 (b8 q).pl;have I:bV 12 (b8 q).pl q=⟨q.R,12,(b8 q).pl⟩:=ζ he;rw[η χ,I,aL (show ¬(12:Int)=0 by decide)];refine aUc (n:=13) Tryz.func154 rfl rfl rfl rfl ?_;refine aC mixed (ak 2 [] rfl (kc hm ?_));refine ak 3 [] rfl (kc hn ?_);refine ak 1 [] rfl (kpD (.tup []) [] E ?_);exact az trivial
end Go.Proofs.YtkhgpgihmphfdaaGreatDoor
namespace Go.Proofs.YtkhgpgihmphfdaaGreatDoor
open Go Go.AM
set_option maxRecDepth 20000
set_option maxHeartbeats 4000000
theorem jN {L:List Tk}{z:Z}(h:ZA L z) (he:z.e=0) (k:Int) (B:¬k=6):bH Tryz.prog 151 [rP,I .i64 k] [(600,rO L z)] (iP L (tkV (aR k z).1) (aR k z).2 []):=by
 have hn:=eQ h;have u:=h.tl;have E:=h.l;unfold aR;by_cases q:(b8 z).kind=k
 ·have d:decide ((b8 z).kind=k)=true:=θ q;have hm:=bN 12 (b8 z).pl;rw[ζ ⟨he,q⟩];dsimp only;rw[bC (show(Z.mk z.R.tail z.e z.p).e=0 from he)];obtain⟨_,y⟩:=u (by rw[q];exact B) z.e z.p;unfold rO;dsimp only;rw[y];refine b9 (n:=27) tok Tryz.func151 rfl rfl rfl ?_;refine sg rfl (sk 3 rfl (kc hn ?_));refine kz 2 rfl (sk 6 rfl ?_);rw[d];refine kc hm ?_;exact az (aA (agN [] rfl (sg rfl (aE (rtC trw)))))
 ·have d:decide ((b8 z).kind=k)=false:=φ q;have hm:=bO 12 (b8 z).pl;have A:bV 12 (b8 z).pl z=⟨z.R,12,(b8 z).pl⟩:=ζ he;rw[η (fun h=>q h.2),A];dsimp only;rw[aL (show ¬(12:Int)=0 by decide)];refine aUc (n:=27) Tryz.func151 rfl rfl rfl rfl ?_;refine sg rfl (sk 3 rfl (kc hn ?_));refine kz 2 rfl (sk 6 rfl ?_);rw[d];exact kp hm
theorem pP {L:List Tk}{z:Z}(h:ZA L z) (he:z.e=0):aW Tryz.prog 152 [rP] [(600,rO L z)] (.one (.c (.sl 4 ((aU z).1.map aI)))) [(600,rO L (aU z).2)]:=by
 refine b9 (n:=16) tok Tryz.func152 rfl rfl rfl ?_;refine sg rfl (sg rfl (AWp.sub (Sub.own (t:=3) (id:=500) 62 4 rfl rfl) ?_));refine aA (aF (aJ (fun q:List Tk×Z=>mk [(0,rP),(3,.one (.hs 500 0 q.1.length q.1.length))] [(600,rO L q.2),(500,.arr 62 4 (q.1.map aI) 0)]) (fun q=>ZA L q.2∧q.2.e=0∧q.1.length+q.2.R.length≤4001∧q.1++(aU q.2).1=(aU z).1∧(aU q.2).2=(aU z).2) (fun q=>q.2.R.length) ([],z) ⟨h,he,by dsimp only;have:=h.len;rw[length_nil];omega,rfl,rfl⟩ sl ?_));clear he;rintro⟨out,O⟩ ⟨h',he,hlen,E,I⟩;dsimp only at h' he hlen E I ⊢;rw[←E,←I];clear E I;have hout:(out.map aI).length=out.length:=ξ _;have hn:=eQ h';have hw:=jN h' he 1 (by decide);obtain⟨R,e,p⟩:=O;obtain⟨t,R,rfl⟩:=h'.e.ne;have he:e=0:=he;have B:b8 (Z.mk (t::R) e p)=t:=rfl;rw[B] at hn;refine aA (sk 3 rfl (kc hn ?_));refine kz 2 rfl (aB rfl (fun hb=>?_) (fun hb=>?_))
 ·have u:t.kind=1:=κ hb;have hl:qU t=true:=hb;have U:aR 1 (Z.mk (t::R) e p)=(t,⟨R,e,p⟩):=by unfold aR;rw[ζ ⟨he,u⟩];rfl
  rw[U] at hw;have hw:=bH.ok (z:=⟨R,e,p⟩) hw he;have h2:ZA L ⟨R,e,p⟩:=(h'.tl (by rw[B,u];decide) e p).1
  have J:aU ⟨t::R,e,p⟩=(t::(aU ⟨R,e,p⟩).1,(aU ⟨R,e,p⟩).2):=by
   unfold aU;rw[ζ he,ζ he];show((t::R).takeWhile qU,Z.mk ((t::R).dropWhile qU) _ _)=_;rw[takeWhile_cons,ζ hl,Ci,ζ hl]
  have M:out.length+(R.length+1)≤4001:=hlen;refine aD (aF (aC mixed (ak 2 [] rfl (kc hw ?_))));refine ak 3 [(3,.all)] rfl (az ?_);have A:out.map aI++[aI t]=(out++[t]).map aI:=by rw[Af];rfl
  have y:(out++[t]).length=out.length+1:=by rw[ψ];rfl
  refine⟨(out++[t],⟨R,e,p⟩),⟨h2,he,by dsimp only;rw[y];omega,by rw[J];simp,by rw[J]⟩,Bv _,?_⟩;exact sl (he:=⟨rfl,Go.AM.hs_ren (by rw[y,←hout];rfl) (by rw[y,←hout];rfl),trivial⟩) (hh:=⟨⟨_,rfl,.var rfl⟩,⟨_,rfl,.arrS A⟩,trivial⟩)
 ·have u:¬qU t=true:=fun h=>by rw[show qU t=false from hb] at h;cases h
  refine aH (AWp.sub (Sub.freeze (id:=500) rfl) ?_);refine sg rfl ?_;unfold aU;rw[ζ he];dsimp only;rw[takeWhile_cons,η u,Ay,Ci,η u];exact aE (rtH (hsz:=hout.symm) (hlen:=hout.symm))
theorem y2 (l:List Tk) (hl:l.length≤4001):aW Tryz.prog 153 [.one (.c (.sl 4 (l.map aI)))] [] (bU (l.map (·.text))) []:=by
 have u:(l.map aI).length=l.length:=ξ _;refine b9 (n:=19) tok Tryz.func153 rfl rfl rfl ?_;refine sg rfl (sg rfl (AWp.sub (Sub.own (t:=3) (id:=500) 9 1 rfl rfl) ?_));refine aA (sg rfl (aF (aJ (fun i:Nat=>mk [(3,.one (.hs 500 0 i i)),(6,.one (.c (.sl 4 (l.map aI)))),(7,I .i64 ((l.map aI).length:Nat)),(8,I .i64 (i:Nat))] [(500,.arr 9 1 (((l.take i).map (·.text)).map aK) 0)]) (fun i=>i≤l.length) (fun i=>l.length-i) 0 (Ab _) sl ?_)));intro i hi;have q:(((l.take i).map (·.text)).map aK).length=i:=by rw[ξ,ξ,Ai];omega
 refine sg rfl (aA (aB rfl (fun hb=>?_) (fun hb=>?_)))
 ·have y:=ltD hb u;obtain⟨t,ht⟩:=aG y;have E:=aP aI ht;have A:((l.take (i+1)).map (·.text)).map aK=((l.take i).map (·.text)).map aK++[[.str t.text]]:=by rw[Bh,ht,Af,Af];rfl
  exact aD (aA (aF (sgh [(0,.row i (aI t))] rfl (ag [(3,.all)] rfl (agN [] rfl ⟨i+1,y,by dsimp only;omega,sl (he:=⟨Go.AM.hs_ren (congrArg (· +1) q) (congrArg (· +1) q),rfl,rfl,rfl,trivial⟩) (hh:=⟨⟨_,rfl,.arrS A.symm⟩,trivial⟩)⟩)))))
 ·have B:=geD hb u hi;subst B;rw[Al] at q ⊢;refine aH (AWp.sub (Sub.freeze (id:=500) rfl) ?_);exact sg rfl (aE (rtH (hsz:=q.symm) (hlen:=q.symm)))
theorem aQd {L:List Tk}{z:Z}(h:ZA L z) (he:z.e=0) (hZ:rN L):bH Tryz.prog 156 [rP] [(600,rO L z)] (iP L (tyV (eM z).1) (eM z).2 []):=by
 have q:=aQc L hZ z.R _ h;have u:=eN (3*z.R.length) 0 z.R;unfold eM;generalize cU (3*z.R.length) 0 z.R=w at q u ⊢;cases w with
 | error e=>
  obtain⟨e,p⟩:=e;have A:=u e p rfl;have hm:=bO e p;have d:decide (e=0)=false:=φ A;unfold tpV atV at q;dsimp only[atZ];rw[aL (show ¬(Z.mk z.R e p).e=0 from A)];refine aUc (n:=35) Tryz.func156 rfl rfl rfl rfl ?_;refine sg rfl (sk 10 rfl (kc q ?_));refine kz 9 rfl (sk 7 rfl ?_);rw[d];exact kp hm
 | ok y=>
  obtain⟨x,R'⟩:=y;have hm:=bN 0 0;rw[lU] at q;unfold atV at q;dsimp only[atZ];rw[bC (show(Z.mk R' z.e z.p).e=0 from he)];refine b9 (n:=35) tok Tryz.func156 rfl rfl rfl ?_;refine sg rfl (sk 10 rfl (kc q ?_));refine kz 9 rfl (sk 7 rfl (kc hm ?_));exact az (sg rfl (sg rfl (aE (rtC trw))))
theorem aBf {L:List Tk}{z:Z}(h:ZA L z) (he:z.e=0) (hZ:rN L):bH Tryz.prog 157 [rP] [(600,rO L z)] (iP L (.one (.c (.sl 5 ((bD z).1.map aM)))) (bD z).2 []):=by
 have q:=y6 L hZ z.R _ h;have u:= @hD z.R;unfold bD;rw[ζ he];generalize cV z.R=w at q u ⊢;cases w with
 | error e=>
  obtain⟨e,p⟩:=e;have A:=u rfl;have hm:=bO e p;have d:decide (e=0)=false:=φ A;unfold aWq atV at q;dsimp only[a18];rw[aL (show ¬(Z.mk z.R e p).e=0 from A)];refine aUc (n:=35) Tryz.func157 rfl rfl rfl rfl ?_;refine sg rfl (sk 10 rfl (kc q ?_));refine kz 8 rfl (sk 7 rfl ?_);rw[d];exact kp hm
 | ok y=>
  obtain⟨x,R'⟩:=y;have hm:=bN 0 0;rw[qT] at q;unfold atV at q;dsimp only[a18];rw[bC (show(Z.mk R' z.e z.p).e=0 from he)];refine b9 (n:=35) tok Tryz.func157 rfl rfl rfl ?_;refine sg rfl (sk 10 rfl (kc q ?_));refine kz 8 rfl (sk 7 rfl (kc hm ?_));exact az (sg rfl (sg rfl (aE rtT)))
theorem nM {L:List Tk}{z:Z}(h:ZA L z) (he:z.e=0) (hZ:rN L) (hwt:wt L≤30000):bH Tryz.prog 160 [rP] [(600,rO L z)] (iP L (.pa (kU (bM z).1)) (bM z).2 []):=by
 have q:=aMj L hZ z.R _ h hwt;have u:= @qN z.R;unfold bM;rw[ζ he];generalize cT z.R=w at q u ⊢;cases w with
 | error e=>
  obtain⟨e,p⟩:=e;have A:=u rfl;have hm:=bO e p;have d:decide (e=0)=false:=φ A;unfold spV atV at q;dsimp only[aXg];rw[aL (show ¬(Z.mk z.R e p).e=0 from A)];refine aUc (n:=35) Tryz.func160 rfl rfl rfl rfl ?_;refine sg rfl (sk 10 rfl (kc q ?_));refine kz 9 rfl (sk 7 rfl ?_);rw[d];exact kp hm
 | ok y=>
  obtain⟨x,R'⟩:=y;have hm:=bN 0 0;rw[aQ9] at q;unfold atV at q;dsimp only[aXg];rw[bC (show(Z.mk R' z.e z.p).e=0 from he)];refine b9 (n:=35) tok Tryz.func160 rfl rfl rfl ?_;refine sg rfl (sk 10 rfl (kc q ?_));refine kz 9 rfl (sk 7 rfl (kc hm ?_));exact az (sg rfl (sg rfl (aE (rtC trw))))
theorem aMh {L:List Tk}{z:Z}(h:ZA L z):aW Tryz.prog 155 [rP] [(600,rO L z)] (B (aSb z)) [(600,rO L z)]:=by
 have hn:=eQ h;have hi:=oB h cG;unfold aSb;refine b9 (n:=19) tok Tryz.func155 rfl rfl rfl ?_;refine sg rfl (sk 3 rfl (kc hn ?_));refine kz 2 rfl ?_;by_cases h1:(b8 z).kind=1
 ·have d1:decide ((b8 z).kind=1)=true:=θ h1;rw[d1,B7];exact sgh [(2,.bv true),(5,.bv true),(6,.bv true),(9,.bv true)] rfl (aE rtT)
 have d1:decide ((b8 z).kind=1)=false:=φ h1;rw[d1,A9];by_cases h2:(b8 z).kind=2
 ·have d2:decide ((b8 z).kind=2)=true:=θ h2;rw[d2,B7];exact sgh [(2,.bv false),(5,.bv false),(6,.bv true),(9,.bv true)] rfl (aE rtT)
 ·have d2:decide ((b8 z).kind=2)=false:=φ h2;rw[d2,A9];refine skh 8 [(2,.bv false),(5,.bv false),(6,.bv false)] rfl (kcG hi ?_);exact ak 2 [(6,.bv false),(9,.bv false)] rfl (az (aE rtT))
section
variable {z:Z}(h:¬z.e=0)
include h
theorem n8 {s:Str}:bT s z=(false,z):=η fun k=>h k.1
theorem nO {k:Int}:(aR k z).2=z:=by
 unfold aR;rw[η (fun k=>h k.1)];exact gW h
theorem n7:aU z=([],z):=η h
theorem eZ {n m:Nat}{a:Int}:c0 n m a z=z:=by
 unfold c0;split
 ·exact gW h
 ·rfl
theorem vQ:bM z=(oW,z):=η h
theorem vR {f:Nat}{out:List Ty}:cD f out z=(out,z):=mX fun k=>h k.1
theorem aMo {s:Str}{n:Nat}:moreA s n z=z:=η fun k=>h k.2.1
theorem nP:dC z=z:=η h
theorem aQj {s:Str}{n:Nat}:b6 s n z=(false,z):=by
 unfold b6;rw[aMo h,nP h,ζ (.inl h)]
end
theorem iD {n m:Nat}{a:Int}{z:Z}(h:n≤m):c0 n m a z=z:=η (by omega)
theorem iE {n m:Nat}{a:Int}{z:Z}(h:¬n≤m) (he:z.e=0):c0 n m a z=⟨z.R,2,a⟩:=(ζ (by omega)).trans (ζ he)
theorem cS:¬(2:Int)=0:=by decide
theorem aBr {W:List Cn×Z}{f:Nat}{a a2:Int}{out:List Cn}{fs:List Ty}{z:Z}{m:Nat}(h:¬z.e=0)
  (q:W=if(bT uF (c0 m 16 a (c0 fs.length 8 a2 z))).1=true then iT f a out (bT uF (c0 m 16 a (c0 fs.length 8 a2 z))).2 else(out,(bT uF (c0 m 16 a (c0 fs.length 8 a2 z))).2)):W.2=z:=by
 rw[eZ h,eZ h,n8 h,η χ] at q;rw[q]
def a4c:List (Nat×V):=[(0,rP),(2,.one (.vp 2 0)),(3,.one (.vp 3 0)),(5,.one (.vp 5 0)),(7,.one (.vp 7 0)),(8,.one (.vp 8 0))]
def a4b (L:List Tk) (z:Z) (nm:Tk) (vs:List Tk) (out:List Cn) (cn:Tk) (fs:List Ty):List (Nat×AObj):=[(600,rO L z),(2,.var 81 [.c (.str []),.c (.int .i64 0),.c .nl,.c .nl,.c .nl]),(3,.var 62 ((aI nm).map .c)),(5,.var 81 [.c (.str nm.text),.c (.int .i64 nm.pl),.c (.sl 1 ((vs.map (·.text)).map aK)),.c .nl,.hs 502 0 out.length out.length]),(7,.var 62 ((aI cn).map .c)),(8,.var 95 [.c (.str cn.text),.c (.int .i64 cn.pl),.hs 501 0 fs.length fs.length]),(501,.arr 43 4 (fs.map bF) 0),(502,.arr 95 3 (out.map hY) 0)]
theorem aVj {L:List Tk}{z:Z}(h:ZA L z) (he:z.e=0) (hZ:rN L):bH Tryz.prog 117 [rP] [(600,rO L z)] (iP L (.pa (cQ (jZ z).1)) (jZ z).2 []):=by
 have hw:=jN h he 2 (by decide);have h1:=h.word (k:=2) (by decide);unfold jZ fO;generalize aR 2 z=x1 at hw h1 ⊢;obtain⟨A,E⟩:=x1;dsimp only at hw h1 ⊢;refine pI (n:=68) tok Tryz.func117 rfl rfl rfl rfl ?_;refine sg rfl ?_;by_cases y:E.e=0
 case neg=>
  have hp:=bH.err hw y;have hb:(gO (A,(aU E).1,aQ eqS (c0 (aU E).1.length 8 A.pl (aU E).2))).2=E:=by
   rw[n7 y,eZ y,bK y];unfold gO;dsimp only;rw[η y]
  rw[hb,aL y];exact sk 1 rfl (kp hp)
 have hw:=bH.ok hw y;have ac:=pP h1 y;have h2:=h1.words;have ab:(aU E).2.e=0:=by unfold aU;rw[ζ y];exact y
 have ae:=fE h1;generalize aU E=x2 at ac h2 ae ab ⊢;obtain⟨vs,z2⟩:=x2;dsimp only at ac h2 ae ab ⊢;have hvk:(vs.map aI).length=vs.length:=ξ _;refine sk 1 rfl (kc hw ?_);refine kz 2 rfl (sk 1 rfl (kc ac ?_));refine kz 1 rfl ?_;by_cases hv8:vs.length≤8
 case neg=>
  have d:decide (((vs.length:Nat):Int)≤8)=false:=φ (by omega);have hb:(gO (A,vs,aQ eqS (c0 vs.length 8 A.pl z2))).2=⟨z2.R,2,A.pl⟩:=by
   rw[iE hv8 ab,bK cS];unfold gO;dsimp only;rw[η cS]
  rw[hb,aL cS];have hm:=bO 2 A.pl;refine sk 5 rfl ?_;rw[hvk,d];exact kp hm
 have d:decide (((vs.length:Nat):Int)≤8)=true:=θ (by omega);have hm:=bN 2 A.pl;rw[iD hv8];refine sk 5 rfl ?_;rw[hvk,d];refine kc hm ?_;refine az ?_;have htx:=y2 vs ae;refine sk 5 rfl (kc htx ?_);refine kz 3 rfl ?_;have aa:=dM h2 ab eqS;have h4:=h2.need eqS;generalize aQ eqS z2=z4 at aa h4 ⊢;by_cases U:z4.e=0
 case neg=>
  have hp:=bH.err aa U;have hb:(gO (A,vs,z4)).2=z4:=by unfold gO;dsimp only;rw[η U]
  rw[hb,aL U];exact sk 1 rfl (kp hp)
 have aa:=bH.ok aa U;refine sk 1 rfl (kc aa ?_);refine az (aA (sg rfl (AWp.sub (Sub.ownCell (x:=5) (k:=4) (id:=502) 95 3 rfl rfl rfl) ?_)));have hWx:∃W,W=gO (A,vs,z4):=⟨_,rfl⟩
 obtain⟨W,u⟩:=hWx;rw[←u];have hlen4:=h4.len;have u:W=iT (z4.R.length+1) A.pl [] z4:=by rw[u];exact ζ U
 refine aF (aJ (fun q:Bool×List Cn×Z×Nat=>mk [(0,rP),(2,.one (.vp 2 0)),(3,.one (.vp 3 0)),(5,.one (.vp 5 0)),(6,B q.1)] [(600,rO L q.2.2.1),(2,.var 81 [.c (.str []),.c (.int .i64 0),.c .nl,.c .nl,.c .nl]),(3,.var 62 ((aI A).map .c)),(5,.var 81 [.c (.str A.text),.c (.int .i64 A.pl),.c (.sl 1 ((vs.map (·.text)).map aK)),.c .nl,.hs 502 0 q.2.1.length q.2.1.length]),(502,.arr 95 3 (q.2.1.map hY) 0)]) (fun q=>ZA L q.2.2.1∧q.2.2.1.e=0∧((q.1=true∧W=iT q.2.2.2 A.pl q.2.1 q.2.2.1∧q.2.2.1.R.length<q.2.2.2∧q.2.1.length+q.2.2.1.R.length≤4001)∨(q.1=false∧W=(q.2.1,q.2.2.1)))) (fun q=>if q.1=true then q.2.2.1.R.length+1 else 0) (true,[],z4,z4.R.length+1) ⟨h4,U,.inl ⟨rfl,u,by dsimp only;omega,by dsimp only;rw[length_nil];omega⟩⟩ sl ?_);clear u hw h1 ac h2 htx h4 U ab y aa hm h he hlen4;rintro⟨more,out,z0,f⟩ ⟨h,he,hinv⟩;dsimp only at h he hinv ⊢;have hout:(out.map hY).length=out.length:=ξ _;refine aA (sg rfl ?_);rcases hinv with⟨hm,u,hf,hol⟩ | ⟨hm,u⟩
 case inr=>
  subst hm;refine aB rfl (fun hb=>absurd hb (by decide)) (fun _=>aH (AWp.sub (Sub.freeze (id:=502) rfl) ?_));refine sg rfl ?_;rw[u,bC he];exact aE (rtC trw)
 subst hm;obtain⟨f,rfl⟩:∃g,f=g+1:=⟨f-1,by omega⟩
 rw[iT] at u;unfold mC at u;have hw:=jN h he 2 (by decide);have h1:=h.word (k:=2) (by decide);have l1:=Ze.word 2 z0;generalize aR 2 z0=x1 at hw h1 l1 u;obtain⟨I,E⟩:=x1;dsimp only at hw h1 l1 u;refine aB rfl (fun _=>aD ?_) (fun hb=>absurd hb (by decide));by_cases y:E.e=0
 case neg=>
  have hp:=bH.err hw y;rw[vR y] at u;rw[aBr y u,aL y];exact aA (aF (sk 1 rfl (kp hp)))
 have hw:=bH.ok hw y;refine aA (aF (sk 1 rfl (kc hw ?_)));refine kz 2 rfl (sg rfl (AWp.sub (Sub.ownCell (x:=8) (k:=2) (id:=501) 43 4 rfl rfl rfl) ?_));have hlen1:=h1.len;have hFx:∃F,F=cD (E.R.length+1) [] E:=⟨_,rfl⟩
 obtain⟨F,J⟩:=hFx;rw[←J] at u;refine aA (aF (aJ (fun q:List Ty×Z×Nat=>mk a4c (a4b L q.2.1 A vs out I q.1)) (fun q=>ZA L q.2.1∧q.2.1.e=0∧F=cD q.2.2 q.1 q.2.1∧q.2.1.R.length<q.2.2∧q.1.length+q.2.1.R.length≤4001∧q.2.1.R.length≤E.R.length) (fun q=>q.2.1.R.length+1) ([],E,E.R.length+1) ⟨h1,y,J,by dsimp only;omega,by dsimp only;rw[length_nil];omega,le_refl _⟩ sl ?_));clear J hw h1 hlen1 y h he;rintro⟨fs,z,g⟩ ⟨h,he,J,hg,hol2,hk4⟩;dsimp only at h he J hg hol2 hk4 ⊢;have af:(fs.map bF).length=fs.length:=ξ _;have hbg:=aMh h;refine aA (sk 1 rfl (kc hbg ?_));refine az (aB rfl (fun hb=>?_) (fun hb=>?_))
 ·have ha:=aQd h he hZ;obtain⟨g1,g2,g3,g4,g5⟩:=yF h;obtain⟨g,rfl⟩:∃k,g=k+1:=⟨g-1,by omega⟩
  rw[cD,ζ ⟨he,hb⟩] at J;have hlp:=h.lp;generalize eM z=x at ha g1 g2 g3 g4 g5 J;obtain⟨x,z'⟩:=x;dsimp only at ha g1 g2 g3 g4 g5 J;refine aD ?_;by_cases Y:z'.e=0
  case neg=>
   have hp:=bH.err ha Y;rw[vR Y] at J;rw[J] at u;rw[aBr Y u,aL Y];refine aF (aC mixed (ak 3 [] rfl (kpD (tyV zTy) [(600,rO L z)] hp ?_)));exact ak 4 [(1,.all)] rfl (az trivial)
  have ha:=bH.ok ha Y;refine aF (aC mixed (ak 3 [] rfl (kc ha ?_)));refine ak 4 [(1,.all)] rfl (az ?_);have M:fs.map bF++[bF x]=(fs++[x]).map bF:=by rw[Af];rfl
  have hle:(fs++[x]).length=fs.length+1:=by rw[ψ];rfl
  have g5':z'.R.length≤z.R.length:=g5;have hlt:=g4 Y;refine⟨(fs++[x],z',g),⟨g1,Y,J,by dsimp only;omega,by dsimp only;rw[hle];omega,by dsimp only;omega⟩,by dsimp only;omega,?_⟩;exact sl (he:=⟨rfl,rfl,rfl,rfl,rfl,rfl,trivial⟩) (hh:=⟨⟨_,rfl,.var rfl⟩,⟨_,rfl,.var rfl⟩,⟨_,rfl,.var rfl⟩,⟨_,rfl,.var rfl⟩,⟨_,rfl,.var rfl⟩,⟨_,rfl,.var (by rw[hle,←af];rfl)⟩,⟨_,rfl,.arrS M⟩,⟨_,rfl,Go.AM.Ole.arr⟩,trivial⟩)
 ·have hb':¬(z.e=0∧aSb z=true):=fun hh=>by rw[hh.2] at hb;cases hb
  rw[mX hb'] at J;subst J;dsimp only at u;refine aH (AWp.sub (Sub.freeze (id:=501) rfl) ?_);refine AWp.sub (vp 8 [.str I.text,.int .i64 I.pl,.sl 4 (fs.map bF)] (hp:=.c .refl (.c .refl (.hs rfl af.symm (Go.AM.take_all af.symm) .nil)))) ?_;by_cases hf8:fs.length≤8
  case neg=>
   have d:decide ((((fs.map bF).length:Nat):Int)≤8)=false:=φ (by omega);rw[iE hf8 he,eZ cS,n8 cS,η χ] at u;rw[u,aL cS];have hm:=bO 2 I.pl;refine sk 6 rfl ?_;rw[d];exact kp hm
  rw[iD hf8] at u;have d:decide ((((fs.map bF).length:Nat):Int)≤8)=true:=θ (by omega);have hm:=bN 2 I.pl;refine sk 6 rfl ?_;rw[d];refine kc hm ?_;refine az ?_;have M:out.map hY++[[.str I.text,.int .i64 I.pl,.sl 4 (fs.map bF)]]=(out++[(⟨I.text,I.pl,fs⟩:Cn)]).map hY:=by rw[Af];rfl
  have hle:(out++[(⟨I.text,I.pl,fs⟩:Cn)]).length=out.length+1:=by rw[ψ];rfl
  generalize hO:out++[(⟨I.text,I.pl,fs⟩:Cn)]=O at u M hle;refine sgh [(3,.all)] rfl (AWp.sub (st2:=mk [(0,rP),(2,.one (.vp 2 0)),(3,.one (.vp 3 0)),(5,.one (.vp 5 0))] [(600,rO L z),(2,.var 81 [.c (.str []),.c (.int .i64 0),.c .nl,.c .nl,.c .nl]),(3,.var 62 ((aI A).map .c)),(5,.var 81 [.c (.str A.text),.c (.int .i64 A.pl),.c (.sl 1 ((vs.map (·.text)).map aK)),.c .nl,.hs 502 0 O.length O.length]),(502,.arr 95 3 (O.map hY) 0)]) (sl (hh:=⟨⟨_,rfl,.var rfl⟩,⟨_,rfl,.var rfl⟩,⟨_,rfl,.var rfl⟩,⟨_,rfl,.var (by rw[hle,←hout];rfl)⟩,⟨_,rfl,.arrS M⟩,trivial⟩)) ?_);by_cases ho:O.length≤16
  case neg=>
   have d:decide (((O.length:Nat):Int)≤16)=false:=φ (by omega);rw[iE ho he,n8 cS,η χ] at u;rw[u,aL cS];have hm:=bO 2 A.pl;refine aC mixed (ak 6 [] rfl ?_);rw[d];exact kp hm
  rw[iD ho] at u;have d:decide (((O.length:Nat):Int)≤16)=true:=θ (by omega);have hm:=bN 2 A.pl;refine aC mixed (ak 6 [] rfl ?_);rw[d];refine kc hm ?_;refine az ?_;have hm:=gH h he uF;have h7:=h.may uF;have ad:=(jW uF z).trans he;have l7:=gF h (s:=uF);generalize bT uF z=m at hm h7 l7 u ad;obtain⟨b,z7⟩:=m;dsimp only at hm h7 l7 u ad;refine aC mixed (ak 1 [] rfl (kc hm ?_));refine kz 1 rfl ?_;have l1':E.R.length≤z0.R.length:=l1;cases b with
  | true=>
   rw[ζ rfl] at u;have:=l7 rfl;exact⟨(true,O,z7,f),⟨h7,ad,.inl ⟨rfl,u,by dsimp only;omega,by dsimp only;omega⟩⟩,by dsimp only;rw[ζ rfl,ζ rfl];omega,sl⟩
  | false=>
   rw[η (by decide)] at u;exact⟨(false,O,z7,f),⟨h7,ad,.inr ⟨rfl,u⟩⟩,by dsimp only;rw[η (by decide),ζ rfl];omega,sl⟩
def aQ3 (L:List Tk):Prop:=∀t∈L,¬t.kind=3→t.n=0
theorem aOu {c:UInt8}{r:Str}{k:Int}{t:Str}{v:Int}(h:jE (c::r)=.ok (k,t,v)) (q:¬k=3):v=0:=by
 rw[jE] at h;split at h
 ·split at h
  ·cases h
  ·cases h;exact absurd rfl q
 split at h
 ·unfold pE at h;split at h
  ·cases h
  split at h
  ·cases h;rfl
  split at h
  ·cases h;rfl
  ·cases h;rfl
 split at h
 ·cases h
 ·cases h;rfl
theorem xD:∀(f a:Nat) (s:Str) (l:List Tk),mD f a s=.ok l→aQ3 l
 | 0,a,s,l,h=>by
  rw[mD] at h;cases h;intro t ht;rw[Am.1 ht];exact fun _=>rfl
 | f+1,a,[],l,h=>by
  rw[mD] at h;cases h;intro t ht;rw[Am.1 ht];exact fun _=>rfl
 | f+1,a,c::r,l,h=>by
  rw[mD] at h;split at h
  ·exact xD f _ _ l h
  ·cases ho:jE (c::r) with
   | error e=>rw[ho] at h;cases h
   | ok y=>
    obtain⟨k,t,v⟩:=y;rw[ho] at h;dsimp only at h;cases q:mD f (a+t.length) ((c::r).drop t.length) with
    | error e=>rw[q,xY] at h;cases h
    | ok A=>
     rw[q,xY] at h;cases h;intro u hu;rcases Aq.1 hu with rfl | hu
     ·exact aOu ho
     ·exact xD f _ _ A q u hu
theorem ZA.mem {L:List Tk}{z:Z}(h:ZA L z):b8 z∈L:=by
 obtain⟨R,e',q⟩:=z;obtain⟨t,R,rfl⟩:=h.e.ne;exact At.mem h
def a3o (z:Z):Pt:=.mk 0 (b8 z).pl 0 (b8 z).text []
def aN9 (y:(Pt×Bool)×Z) (z:Z):Pt:=if y.1.2=true then y.1.1 else a3o z
def aNg (L:List Tk) (f:Nat):Prop:=∀(o:Nat) (z:Z),ZA L z→z.e=0→3*z.R.length≤f→o≤40→bH Tryz.prog 234 [rP,I .i64 (o:Nat)] [(600,rO L z)] (iP L (.tup [.pa (bL (aN9 (bA f o z) z)),B (bA f o z).1.2]) (bA f o z).2 [])
def aWe (L:List Tk) (f:Nat):Prop:=∀(o:Nat) (z:Z),ZA L z→z.e=0→3*z.R.length+1≤f→o≤40→bH Tryz.prog 230 [rP,I .i64 (o:Nat)] [(600,rO L z)] (iP L (.pa (bL (iO f o z).1)) (iO f o z).2 [])
theorem aOt {L:List Tk}{z:Z}(h:ZA L z) (u:¬(b8 z).kind=6):rO L (tlZ z)=.var 168 [.c (.sl 4 (L.map aI)),.c (.int .i64 ((L.length-z.R.length+1:Nat):Int))]:=by
 obtain⟨_,q⟩:=h.tl u z.e z.p;unfold rO tlZ;dsimp only;rw[q]
theorem aL3 (L:List Tk) (hN:aQ3 L) (f:Nat) (ih:aWe L f):aNg L (f+1):=by
 intro o z h he hf ho40;rw[bA,η (fun k=>k he)];have hn:=eQ h;have M:=hN _ h.mem;have A:=fun hk=>aOt h hk
 have hLl:=h.l;have hm:=oB h aCb;have hi:=oB h cG;have Y:bT aCb z=if isZ aCb z=true then(true,tlZ z) else(false,z):=by
  unfold bT;by_cases hu:isZ aCb z=true
  ·rw[ζ ⟨he,hu⟩,ζ hu];rfl
  ·rw[η (fun k=>hu k.2),η hu]
 have aa:isZ aCb z=true→¬(b8 z).kind=6:=lP;have ab:isZ cG z=true→¬(b8 z).kind=6:=lP;have B:isZ cG z=true→aQ cG z=tlZ z:=aKg he;have h1:=h.need cG;have hle:(aQ cG z).e=0∨isZ cG z=false:=by
  cases hb:isZ cG z with
  | true=>left;rw[B hb];exact he
  | false=>exact .inr rfl
 have htl:=sY h;have ac:a3o z=.mk 0 (b8 z).pl 0 (b8 z).text []:=rfl;refine pI (n:=77) tok Tryz.func234 rfl rfl rfl rfl ?_;refine sg rfl (sk 3 rfl (kc hn ?_));refine kz 2 rfl (sg rfl ?_);rw[Y];generalize ht:b8 z=t at M ac A aa ab ⊢;clear hn Y;refine aA (aF (sg rfl ?_));by_cases O:t.kind=1
 ·have d:decide (t.kind=1)=true:=θ O;have E:¬t.kind=6:=by omega
  rw[ζ (show 0<t.kind∧t.kind<4 by omega)];unfold aN9;dsimp only;rw[ζ rfl,bC (show(tlZ z).e=0 from he),A E,M (by omega)];unfold lX jC;rw[ζ O,η (by omega)];unfold rO;exact aB rfl (fun _=>ag [] rfl (aA (agN [] rfl (sg rfl (aE sD))))) (fun hb=>absurd (hb.symm.trans d) Bool.noConfusion)
 refine aB rfl (fun hb=>absurd (κ hb) O) (fun _=>sg rfl ?_);by_cases U:t.kind=2
 ·have d:decide (t.kind=2)=true:=θ U;have E:¬t.kind=6:=by omega
  rw[ζ (show 0<t.kind∧t.kind<4 by omega)];unfold aN9;dsimp only;rw[ζ rfl,bC (show(tlZ z).e=0 from he),A E,M (by omega)];unfold lX jC;rw[η O,ζ U,η (by omega)];unfold rO;exact aB rfl (fun _=>ag [] rfl (aA (agN [] rfl (sg rfl (aE sD))))) (fun hb=>absurd (hb.symm.trans d) Bool.noConfusion)
 refine aB rfl (fun hb=>absurd (κ hb) U) (fun _=>sg rfl ?_);by_cases k3:t.kind=3
 ·have d:decide (t.kind=3)=true:=θ k3;have E:¬t.kind=6:=by omega
  rw[ζ (show 0<t.kind∧t.kind<4 by omega)];unfold aN9;dsimp only;rw[ζ rfl,bC (show(tlZ z).e=0 from he),A E];unfold lX jC;rw[η O,η U,ζ k3];unfold rO;exact aB rfl (fun _=>ag [] rfl (aA (agN [] rfl (sg rfl (aE sD))))) (fun hb=>absurd (hb.symm.trans d) Bool.noConfusion)
 refine aB rfl (fun hb=>absurd (κ hb) k3) (fun _=>?_);rw[η (show ¬(0<t.kind∧t.kind<4) by omega)];refine sk 1 rfl (kc hm ?_);refine kz 1 rfl ?_;cases hu:isZ aCb z with
 | true=>
  rw[ζ rfl,ζ rfl];unfold aN9;dsimp only;rw[ζ rfl,bC (show(tlZ z).e=0 from he),A (aa hu)];unfold rO;exact aB rfl (fun _=>ag [] rfl (aA (agN [] rfl (sg rfl (aE sD))))) (fun hb=>Bool.noConfusion hb)
 | false=>
 rw[η χ];dsimp only;rw[η χ];refine aB rfl (fun hb=>Bool.noConfusion hb) (fun _=>sk 1 rfl (kc hi ?_));refine kz 1 rfl ?_;cases hl:isZ cG z with
 | false=>
  rw[ζ rfl];unfold aN9;dsimp only;rw[η χ,bC he,ac];exact aB rfl (fun hb=>Bool.noConfusion hb) (fun _=>sg rfl (aE sD))
 | true=>
 rw[η (by decide)];have B:=B hl;refine aB rfl (fun _=>?_) (fun hb=>Bool.noConfusion hb);by_cases ho:40≤o
 ·have d:decide (((o:Nat):Int)<40)=false:=φ (by omega);have hmn:=bO 13 t.pl;rw[ζ ho];unfold bV;rw[ζ he];dsimp only;rw[aL (show ¬(13:Int)=0 by decide)];refine sk 4 rfl ?_;rw[d];exact kp hmn
 have d:decide (((o:Nat):Int)<40)=true:=θ (by omega);have hmo:=bN 13 t.pl;rw[η ho];refine sk 4 rfl ?_;rw[d];refine kc hmo ?_;refine az ?_;rw[B];rw[B] at h1;have hp:=ih (o+1) (tlZ z) h1 he (by omega) (by omega);obtain⟨g1,_⟩:=(gK L f).2.1 (o+1) (tlZ z) h1;have ad:=A (ab hl);unfold rO at ad;unfold rO;refine aA (agN [] rfl ?_);unfold rO at hp;rw[ad] at hp;generalize iO f (o+1) (tlZ z)=y at hp g1 ⊢;obtain⟨q,z2⟩:=y;dsimp only at hp g1 ⊢;unfold aN9;dsimp only;rw[ζ rfl];by_cases I:z2.e=0
 case neg=>
  have hp:=bH.err hp I;rw[bK I,aL I];exact aA (aC mixed (akN 3 [] rfl (kp hp)))
 have hp:=bH.ok hp I;refine aA (aC mixed (akN 3 [] rfl (kc hp ?_)));refine akN 1 [] rfl (az ?_);have u:=dM g1 I nY;generalize aQ nY z2=z3 at u ⊢;by_cases J:z3.e=0
 case neg=>
  have hp:=bH.err u J;rw[aL J];exact sk 1 rfl (kp hp)
 have u:=bH.ok u J;rw[bC J];refine sk 1 rfl (kc u ?_);exact az (sg rfl (aE sD))
end Go.Proofs.YtkhgpgihmphfdaaGreatDoor
