/-
  Texts Rd29 to Wd0 in one.
-/
import Derived.Test.YtkhgpgihmphfdaaGreatDoorM7
open List (append_assoc append_nil cons_append drop_append_of_le_length drop_eq_getElem_cons drop_length length_append length_cons length_drop length_map length_nil length_set length_singleton length_tail length_take map_append map_cons map_map map_nil map_set mem_append mem_cons mem_cons_of_mem mem_cons_self mem_singleton nil_append not_mem_nil take_append_of_le_length take_succ_cons)
open Nat (le_of_lt le_refl le_trans lt_irrefl lt_of_le_of_lt lt_of_lt_of_le mul_le_mul_right sub_self zero_le)
namespace Go.Proofs.YtkhgpgihmphfdaaGreatDoor
open Go Go.AM
set_option maxRecDepth 20000
set_option maxHeartbeats 4000000
inductive Pt where
 | mk (form pl n:Int) (name:Str) (kids:List Pt)
def Pt.form:Pt→Int | .mk f _ _ _ _=>f
def Pt.pl:Pt→Int | .mk _ p _ _ _=>p
def Pt.n:Pt→Int | .mk _ _ n _ _=>n
def Pt.name:Pt→Str | .mk _ _ _ s _=>s
def Pt.kids:Pt→List Pt | .mk _ _ _ _ l=>l
mutual
def mN:Pt→List (List C)
 | .mk _ _ _ _ l=>xH l
def xH:List Pt→List (List C)
 | []=>[]
 | p::l=>[.int .i64 p.form,.int .i64 p.pl,.int .i64 p.n,.str p.name,.sl 10 (mN p),.int .i64 0,.int .i64 0,.str [],.sl 4 [],.sl 4 []]::xH l
end
def cF (p:Pt):List C:=[.int .i64 p.form,.int .i64 p.pl,.int .i64 p.n,.str p.name,.sl 10 (mN p),.int .i64 0,.int .i64 0,.str [],.sl 4 [],.sl 4 []]
theorem sW:∀l:List Pt,xH l=l.map cF
 | []=>by simp[xH]
 | p::l=>by rw[xH,sW l];rfl
theorem qB (p:Pt):mN p=p.kids.map cF:=by cases p;rw[mN,sW];rfl
def zPt:Pt:=.mk 0 0 0 [] []
def aFu:Str:=[95]
def wH (t:Tk):Int:=if t.kind=1 then 2 else if t.kind=2 then 4 else 3
def oT (t:Tk):Str:=if t.kind=3 then [] else t.text
def tlZ (z:Z):Z:=⟨z.R.tail,z.e,z.p⟩
mutual
def aZ:Nat→Nat→Z→(Pt×Bool)×Z
 | 0,_,z=>((zPt,false),z)
 | f+1,o,z=>
  if ¬z.e=0 then((zPt,false),z)
  else if 0<(bA z).kind∧(bA z).kind<4 then((.mk (wH (bA z)) (bA z).pl (bA z).n (oT (bA z)) [],true),tlZ z)
  else if(bX aFu z).1=true then((.mk 1 (bA z).pl 0 [] [],true),(bX aFu z).2)
  else if isZ cW z=false then((zPt,false),z)
  else if 40≤o then((zPt,false),bN 13 (bA z).pl z)
  else(((gJ f (o+1) (aN cW z)).1,true),aN oR (gJ f (o+1) (aN cW z)).2)
def gJ:Nat→Nat→Z→Pt×Z
 | 0,_,z=>(zPt,bN 12 0 z)
 | f+1,o,z=>
  if(aZ f o z).1.2=false then(zPt,bN 12 (bA z).pl (aZ f o z).2)
  else if(bA z).kind=2∧z.e=0 then(.mk 4 (bA z).pl (bA z).n (bA z).text (eA f o [] (tlZ z)).1,(eA f o [] (tlZ z)).2)
  else(aZ f o z).1.1 |>fun p=>(p,(aZ f o z).2)
def eA:Nat→Nat→List Pt→Z→List Pt×Z
 | 0,_,out,z=>(out,z)
 | f+1,o,out,z=>
  if z.e=0 then(if(aZ f o z).1.2=false then(out,(aZ f o z).2) else eA f o (out++[(aZ f o z).1.1]) (aZ f o z).2)
  else(out,z)
end
mutual
def ptB:Pt→Prop
 | .mk _ _ _ _ l=>l.length≤4002∧wI l
def wI:List Pt→Prop
 | []=>True
 | p::l=>ptB p∧wI l
end
theorem pY:∀{l:List Pt}{p:Pt},wI l→ptB p→wI (l++[p])
 | [],_,_,h=>⟨h,trivial⟩
 | _::_,_,h,k=>⟨h.1,pY h.2 k⟩
theorem ZA.tlp {L:List Tk}{z:Z}(h:ZA L z) (q:¬(bA z).kind=6):ZA L (tlZ z):=(h.tl q z.e z.p).1
theorem iK {L:List Tk}{z:Z}(h:ZA L z) {s:Str}(hb:(bX s z).1=true):(bX s z).2.R.length<z.R.length:=by
 unfold bX at hb ⊢;split
 ·have:=h.lp;show z.R.tail.length<_;rw[length_tail];omega
 ·rename_i hc;rw[ζ hc] at hb;cases hb
theorem iE (s:Str) (z:Z):(bX s z).2.e=z.e:=by unfold bX;split<;>rfl
theorem zJ {L:List Tk}{z:Z}(h:ZA L z) {s:Str}(hb:(aN s z).e=0):(aN s z).R.length<z.R.length:=by
 unfold aN at hb ⊢;split
 ·rename_i hm;exact iK h hm
 ·rename_i hm;rw[ζ hm] at hb;unfold bN at hb;split at hb
  ·cases hb
  ·rename_i hc;exact absurd hb hc
theorem aT {s:Str}{z:Z}(hb:(aN s z).e=0):z.e=0:=by
 unfold aN at hb;split at hb
 ·rw[iE] at hb;exact hb
 ·unfold bN at hb;split at hb
  ·assumption
  ·exact hb
theorem cX {e p:Int}(he:¬e=0) {z:Z}(hb:(bN e p z).e=0):False:=by
 unfold bN at hb;split at hb
 ·exact he hb
 ·rename_i h;exact h hb
theorem aP4 {s:Str}{z:Z}(he:z.e=0) (h:isZ s z=true):aN s z=tlZ z:=by
 have hm:bX s z=(true,tlZ z):=by unfold bX;rw[ξ ⟨he,h⟩];rfl
 unfold aN;rw[hm];exact ξ rfl
theorem vS {L:List Tk}{z:Z}(h:ZA L z):(tlZ z).R.length<z.R.length:=by
 have:=h.lp;show z.R.tail.length<_;rw[length_tail];omega
def aY4 (L:List Tk) (f:Nat):Prop:=∀o z,ZA L z→ZA L (aZ f o z).2∧ptB (aZ f o z).1.1∧((aZ f o z).1.2=true→(aZ f o z).2.e=0→(aZ f o z).2.R.length<z.R.length)∧Ze z (aZ f o z).2
def aZu (L:List Tk) (f:Nat):Prop:=∀o z,ZA L z→ZA L (gJ f o z).2∧ptB (gJ f o z).1∧((gJ f o z).2.e=0→(gJ f o z).2.R.length<z.R.length)∧Ze z (gJ f o z).2
def aY7 (L:List Tk) (f:Nat):Prop:=∀o out z,ZA L z→wI out→(z.e=0→out.length+z.R.length≤4001)→out.length≤4002→ZA L (eA f o out z).2∧wI (eA f o out z).1∧(eA f o out z).1.length≤4002∧Ze z (eA f o out z).2
theorem bD {s:Str}{z:Z}(h:¬z.e=0):aN s z=z:=by
 have hm:bX s z=(false,z):=by unfold bX;rw[ζ (fun k=>h k.1)]
 unfold aN;rw[hm];rw[ζ π];unfold bN;rw[ζ h]
theorem aEc:ptB zPt:=⟨Ae _,trivial⟩
theorem aH4 {k:Int}(h:0<k∧k<4):¬k=6:=by omega
theorem mI (L:List Tk):∀f,aY4 L f∧aZu L f∧aY7 L f:=by
 intro f
 induction f with
 | zero=>
  refine⟨fun o z h=>?_,fun o z h=>?_,fun o out z h hb hl q=>?_⟩
  ·rw[aZ];exact⟨h,aEc,fun e=>Bool.noConfusion e,Ze.refl z⟩
  ·rw[gJ];exact⟨h.fail _ _,aEc,fun e=>(cX (by decide) e).elim,Ze.fail _ _ _⟩
  ·rw[eA];exact⟨h,hb,q,Ze.refl z⟩
 | succ f O=>
  obtain⟨r,M,u⟩:=O;refine⟨fun o z h=>?_,fun o z h=>?_,fun o out z h hb hl q=>?_⟩
  ·rw[aZ];split
   ·exact⟨h,aEc,fun e=>Bool.noConfusion e,Ze.refl z⟩
   rename_i he;split
   ·rename_i A;have:=vS h;exact⟨h.tlp (aH4 A),⟨Ae _,trivial⟩,fun _ _=>this,Cp this⟩
   split
   ·rename_i hm;exact⟨h.may _,⟨Ae _,trivial⟩,fun _ _=>iK h hm,Ze.may _ _⟩
   split
   ·exact⟨h,aEc,fun e=>Bool.noConfusion e,Ze.refl z⟩
   split
   ·exact⟨h.fail _ _,aEc,fun e=>Bool.noConfusion e,Ze.fail _ _ _⟩
   ·obtain⟨g1,g2,g3,g4⟩:=M (o+1) (aN cW z) (h.need _);refine⟨g1.need _,g2,fun _ e=>?_,((Ze.need cW z).trans g4).trans (Ze.need _ _)⟩;have U:=zJ g1 e;have a2:(gJ f (o+1) (aN cW z)).2.R.length≤z.R.length:=(Ze.need cW z).trans g4;exact A4 U a2
  ·rw[gJ];obtain⟨g1,g2,g3,g4⟩:=r o z h;split
   ·exact⟨g1.fail _ _,aEc,fun e=>(cX (by decide) e).elim,g4.trans (Ze.fail _ _ _)⟩
   rename_i hs;have hs:(aZ f o z).1.2=true:=by simpa using hs
   split
   ·rename_i A;have ht:=vS h;obtain⟨B,E,I,J⟩:=u o [] (tlZ z) (h.tlp (by rw[A.1];decide)) trivial (fun _=>by have:=h.len;rw[length_nil];omega) (Ae _);have y:(eA f o [] (tlZ z)).2.R.length≤(tlZ z).R.length:=J;exact⟨B,⟨I,E⟩,fun _=>Bu y ht,Cp (Bu y ht)⟩
   ·exact⟨g1,g2,g3 hs,g4⟩
  ·rw[eA];split
   ·rename_i he;obtain⟨g1,g2,g3,g4⟩:=r o z h;split
    ·exact⟨g1,hb,q,g4⟩
    rename_i hs;have hs:(aZ f o z).1.2=true:=by simpa using hs
    have hl:=hl he;have Y:=h.lp;have hle:(out++[(aZ f o z).1.1]).length=out.length+1:=by rw[ψ];rfl
    obtain⟨B,E,I,J⟩:=u o (out++[(aZ f o z).1.1]) (aZ f o z).2 g1 (pY hb g2) (fun e=>by have:=g3 hs e;omega) (by omega);exact⟨B,E,I,g4.trans J⟩
   ·exact⟨h,hb,q,Ze.refl z⟩
def aZi:List C:=[.int .i64 0,.int .i64 0,.int .i64 0,.str [],.nl,.int .i64 0,.int .i64 0,.str [],.nl,.nl]
theorem iO {e p:Int}{z:Z}(h:¬z.e=0):bN e p z=z:=by unfold bN;rw[ζ h]
mutual
inductive Ex where
 | mk (form pl n:Int) (name:Str) (kids:List Ex) (pats:List Pt) (binds:List Bd) (sig:Sch)
inductive Bd where
 | mk (name:Str) (pl:Int) (has:Bool) (sig:Sch) (body:Ex)
end
def Ex.form:Ex→Int | .mk f _ _ _ _ _ _ _=>f
def Ex.pl:Ex→Int | .mk _ p _ _ _ _ _ _=>p
def Ex.n:Ex→Int | .mk _ _ n _ _ _ _ _=>n
def Ex.name:Ex→Str | .mk _ _ _ s _ _ _ _=>s
def Ex.kids:Ex→List Ex | .mk _ _ _ _ l _ _ _=>l
def Ex.pats:Ex→List Pt | .mk _ _ _ _ _ l _ _=>l
def Ex.binds:Ex→List Bd | .mk _ _ _ _ _ _ l _=>l
def Ex.sig:Ex→Sch | .mk _ _ _ _ _ _ _ s=>s
def Bd.name:Bd→Str | .mk s _ _ _ _=>s
def Bd.pl:Bd→Int | .mk _ p _ _ _=>p
def Bd.has:Bd→Bool | .mk _ _ h _ _=>h
def Bd.sig:Bd→Sch | .mk _ _ _ s _=>s
def Bd.body:Bd→Ex | .mk _ _ _ _ e=>e
mutual
def uP:Ex→List (List C)
 | .mk _ _ _ _ l _ _ _=>xI l
def aEs:Ex→List (List C)
 | .mk _ _ _ _ _ _ l _=>kE l
def xI:List Ex→List (List C)
 | []=>[]
 | e::l=>[.int .i64 e.form,.int .i64 e.pl,.int .i64 e.n,.str e.name,.sl 15 (uP e),.sl 10 (e.pats.map cF),.sl 33 (aEs e),.sl 1 (e.sig.vars.map aR),.sl 1 [],.sl 5 (e.sig.preds.map aQ),.int .i64 e.sig.ty.form,.int .i64 e.sig.ty.n,.str e.sig.ty.name,.sl 4 (eI e.sig.ty),.sl 4 []]::xI l
def aCp:Bd→List C
 | .mk _ _ _ _ e=>[.int .i64 e.form,.int .i64 e.pl,.int .i64 e.n,.str e.name,.sl 15 (uP e),.sl 10 (e.pats.map cF),.sl 33 (aEs e),.sl 1 (e.sig.vars.map aR),.sl 1 [],.sl 5 (e.sig.preds.map aQ),.int .i64 e.sig.ty.form,.int .i64 e.sig.ty.n,.str e.sig.ty.name,.sl 4 (eI e.sig.ty),.sl 4 []]
def kE:List Bd→List (List C)
 | []=>[]
 | b::l=>([.str b.name,.int .i64 b.pl,.bool b.has,.sl 1 (b.sig.vars.map aR),.sl 1 [],.sl 5 (b.sig.preds.map aQ),.int .i64 b.sig.ty.form,.int .i64 b.sig.ty.n,.str b.sig.ty.name,.sl 4 (eI b.sig.ty)]++(aCp b++[.sl 1 [],.sl 1 [],.sl 5 [],.int .i64 0,.int .i64 0,.str [],.sl 4 [],.int .i64 0]))::kE l
end
def cY (e:Ex):List C:=[.int .i64 e.form,.int .i64 e.pl,.int .i64 e.n,.str e.name,.sl 15 (uP e),.sl 10 (e.pats.map cF),.sl 33 (aEs e),.sl 1 (e.sig.vars.map aR),.sl 1 [],.sl 5 (e.sig.preds.map aQ),.int .i64 e.sig.ty.form,.int .i64 e.sig.ty.n,.str e.sig.ty.name,.sl 4 (eI e.sig.ty),.sl 4 []]
def bL (b:Bd):List C:=[.str b.name,.int .i64 b.pl,.bool b.has,.sl 1 (b.sig.vars.map aR),.sl 1 [],.sl 5 (b.sig.preds.map aQ),.int .i64 b.sig.ty.form,.int .i64 b.sig.ty.n,.str b.sig.ty.name,.sl 4 (eI b.sig.ty),
 .int .i64 b.body.form,.int .i64 b.body.pl,.int .i64 b.body.n,.str b.body.name,.sl 15 (uP b.body),.sl 10 (b.body.pats.map cF),.sl 33 (aEs b.body),.sl 1 (b.body.sig.vars.map aR),.sl 1 [],.sl 5 (b.body.sig.preds.map aQ),.int .i64 b.body.sig.ty.form,.int .i64 b.body.sig.ty.n,.str b.body.sig.ty.name,.sl 4 (eI b.body.sig.ty),.sl 4 [],
 .sl 1 [],.sl 1 [],.sl 5 [],.int .i64 0,.int .i64 0,.str [],.sl 4 [],.int .i64 0]
theorem sX:∀l:List Ex,xI l=l.map cY
 | []=>by simp[xI]
 | e::l=>by rw[xI,sX l];rfl
theorem jD:∀l:List Bd,kE l=l.map bL
 | []=>by simp[kE]
 | .mk s p h g e::l=>by rw[kE,jD l,aCp];rfl
theorem uO (e:Ex):uP e=e.kids.map cY:=by cases e;rw[uP,sX];rfl
theorem aL5 (e:Ex):aEs e=e.binds.map bL:=by cases e;rw[aEs,jD];rfl
def zEx:Ex:=.mk 0 0 0 [] [] [] [] mT
structure Sg where
 name:Str
 pl:Int
 ty:Sch
def eC (s:Sg):List C:=[.str s.name,.int .i64 s.pl,.sl 1 (s.ty.vars.map aR),.sl 1 [],.sl 5 (s.ty.preds.map aQ),.int .i64 s.ty.ty.form,.int .i64 s.ty.ty.n,.str s.ty.ty.name,.sl 4 (eI s.ty.ty)]
def aFi:Str:=[92]
def aFh:Str:=[108,101,116]
def pN:Str:=[99,97,115,101]
def ofS:Str:=[111,102]
def inS:Str:=[105,110]
def fH:Str:=[58]
def eB:Str:=[123]
def b5:Str:=[125]
def iQ (l:List Tk):List Pt:=l.map fun t=>.mk 2 t.pl 0 t.text []
section
variable (ex:Nat→Z→Ex×Z)
def oK (t:Tk):Ex:=if t.kind=3 then .mk 3 t.pl t.n [] [] [] [] mT else .mk t.kind t.pl 0 t.text [] [] [] mT
def fX (deep:Nat) (z:Z):(Ex×Bool)×Z:=
 if ¬z.e=0 then((zEx,false),z)
 else if 0<(bA z).kind∧(bA z).kind<4 then((oK (bA z),true),tlZ z)
 else if(bX cW z).1=false then((zEx,false),z)
 else(((ex (deep+1) (bX cW z).2).1,true),aN oR (ex (deep+1) (bX cW z).2).2)
def aOx (at':Int) (e a:Ex):Ex:=.mk 4 at' 0 [] [e,a] [] [] mT
def fK (deep:Nat) (at':Int):Nat→Ex→Z→Ex×Z
 | 0,e,z=>(e,z)
 | f+1,e,z=>if z.e=0 then(if(fX ex deep z).1.2=false then(e,(fX ex deep z).2) else fK deep at' f (aOx at' e (fX ex deep z).1.1) (fX ex deep z).2) else(e,z)
def aN8 (at':Int) (l:List Tk) (b:Ex):Ex:=.mk 5 at' 0 [] [b] (iQ l) [] mT
def rW (at':Int) (z:Z):List Tk×Z:=((aU z).1,aN arrow (cB (aU z).1.length 8 at' (if(aU z).1=[] then bN 12 (bA (aU z).2).pl (aU z).2 else(aU z).2)))
def sS (at':Int) (deep:Nat) (z:Z):Ex×Z:=(aN8 at' (rW at' z).1 (ex (deep+1) (rW at' z).2).1,(ex (deep+1) (rW at' z).2).2)
def fW (nm:Tk) (z:Z):List Tk×Z:=((aU z).1,aN eqS (cB (aU z).1.length 8 nm.pl (aU z).2))
def y0 (l:List Tk) (b:Ex):Ex:=match l with
 | []=>b
 | t::l=>aN8 t.pl (t::l) b
def dP (nm:Tk) (deep:Nat) (z:Z):Bd×Z:=(.mk nm.text nm.pl false mT (y0 (fW nm z).1 (ex deep (fW nm z).2).1),(ex deep (fW nm z).2).2)
def aW (sigs:List Sg) (binds:List Bd) (deep:Nat) (z:Z):(List Sg×List Bd)×Z:=
 if(bX fH (aO 1 z).2).1=true then((sigs++[⟨(aO 1 z).1.text,(aO 1 z).1.pl,(bK (bX fH (aO 1 z).2).2).1⟩],binds),(bK (bX fH (aO 1 z).2).2).2)
 else((sigs,binds++[(dP ex (aO 1 z).1 deep (bX fH (aO 1 z).2).2).1]),(dP ex (aO 1 z).1 deep (bX fH (aO 1 z).2).2).2)
def eR (deep:Nat):Nat→Nat→List Sg→List Bd→Z→(List Sg×List Bd)×Z
 | 0,_,sigs,binds,z=>((sigs,binds),z)
 | f+1,n,sigs,binds,z=>if(bB b5 n z).1=true then eR deep f (n+1) (aW ex sigs binds deep (bB b5 n z).2).1.1 (aW ex sigs binds deep (bB b5 n z).2).1.2 (aW ex sigs binds deep (bB b5 n z).2).2 else((sigs,binds),(bB b5 n z).2)
end
def kK (b:Bd) (s:Sch):Bd:=.mk b.name b.pl true s b.body
def dI:List Sg→List Bd→Z→List Bd×Z
 | [],b,z=>(b,z)
 | s::l,b,z=>if z.e=0 then(match b.findIdx? (fun x=>decide (x.name=s.name)) with
   | none=>dI l b (bN 21 s.pl z)
   | some k=>match b[k]? with
    | none=>(b,z)
    | some x=>if x.has=true then dI l b (bN 20 s.pl z) else dI l (b.set k (kK x s.ty)) z)
  else(b,z)
section
variable (ex:Nat→Z→Ex×Z)
def kB (deep:Nat) (z:Z):(List Sg×List Bd)×Z:=eR ex (deep+1) ((aN eB z).R.length+1) 0 [] [] (aN eB z)
def zN (y:(List Sg×List Bd)×Z):List Bd×Z:=dI y.1.1 y.1.2 (aN b5 y.2)
def letE (at':Int) (bs:List Bd) (b:Ex):Ex:=.mk 6 at' 0 [] [b] [] bs mT
def sR (at':Int) (deep:Nat) (z:Z):Ex×Z:=(letE at' (zN (kB ex deep z)).1 (ex (deep+1) (aN inS (zN (kB ex deep z)).2)).1,(ex (deep+1) (aN inS (zN (kB ex deep z)).2)).2)
def eJ (deep:Nat):Nat→Nat→List Pt→List Ex→Z→(List Pt×List Ex)×Z
 | 0,_,ps,ks,z=>((ps,ks),z)
 | f+1,n,ps,ks,z=>if(bB b5 n z).1=true then eJ deep f (n+1) (ps++[(gJ (3*(bB b5 n z).2.R.length+1) 0 (bB b5 n z).2).1]) (ks++[(ex (deep+1) (aN arrow (gJ (3*(bB b5 n z).2.R.length+1) 0 (bB b5 n z).2).2)).1]) (ex (deep+1) (aN arrow (gJ (3*(bB b5 n z).2.R.length+1) 0 (bB b5 n z).2).2)).2
  else((ps,ks),(bB b5 n z).2)
def cJ (deep:Nat) (z:Z):Ex×Z:=((ex (deep+1) z).1,aN eB (aN ofS (ex (deep+1) z).2))
def fI (deep:Nat) (y:Ex×Z):(List Pt×List Ex)×Z:=eJ ex deep (y.2.R.length+1) 0 [] [y.1] y.2
def aRb (at':Int) (ps:List Pt) (ks:List Ex):Ex:=.mk 7 at' 0 [] ks ps [] mT
def hY (at':Int) (deep:Nat) (z:Z):Ex×Z:=(aRb at' (fI ex deep (cJ ex deep z)).1.1 (fI ex deep (cJ ex deep z)).1.2,
 if(fI ex deep (cJ ex deep z)).1.1=[] then bN 12 (bA (fI ex deep (cJ ex deep z)).2).pl (aN b5 (fI ex deep (cJ ex deep z)).2) else aN b5 (fI ex deep (cJ ex deep z)).2)
def aZg (at':Int) (e:Ex) (s:Sch):Ex:=.mk 8 at' 0 [] [e] [] [] s
def sA (at':Int) (y:Ex×Z):Ex×Z:=if(bX fH y.2).1=true then(aZg at' y.1 (bK (bX fH y.2).2).1,(bK (bX fH y.2).2).2) else(y.1,(bX fH y.2).2)
def fA (deep:Nat) (z:Z):Ex×Z:=fK ex deep (bA z).pl (z.R.length+1) (fX ex deep z).1.1 (if(fX ex deep z).1.2=false then bN 12 (bA z).pl (fX ex deep z).2 else(fX ex deep z).2)
def aCk (deep:Nat) (z:Z):Ex×Z:=
 if ¬z.e=0 then(zEx,z)
 else if 40<deep then(zEx,bN 13 (bA z).pl z)
 else if(bX aFi z).1=true then sS ex (bA z).pl deep (bX aFi z).2
 else if(bX aFh z).1=true then sR ex (bA z).pl deep (bX aFh z).2
 else if(bX pN z).1=true then hY ex (bA z).pl deep (bX pN z).2
 else sA (bA z).pl (fA ex deep z)
end
def yL:Nat→Nat→Z→Ex×Z
 | 0=>fun _ z=>(zEx,bN 12 0 z)
 | f+1=>aCk (yL f)
structure SchOk (s:Sch):Prop where
 t:WF s.ty∧tn s.ty≤30000
 p:∀p∈s.preds,WF p.ty∧tn p.ty≤30000
 l:s.preds.length≤4001
 v:s.vars.length≤120060000
theorem SchOk.z:SchOk mT:=⟨⟨⟨rfl,rfl⟩,by unfold mT zTy;rw[tn,tns];decide⟩,fun p hp=>(by cases hp),Ae _,Ae _⟩
mutual
def oE:Ex→Prop
 | .mk f _ _ _ ks ps bs s=>(ks.length≤4002∧ps.length≤4002∧bs.length≤4002)∧SchOk s∧((f=4→ks.length=2)∧(f=5∨f=6∨f=8→ks.length=1)∧(f=7→ks.length=ps.length+1))∧wI ps∧pM ks∧eY bs
def pM:List Ex→Prop
 | []=>True
 | e::l=>oE e∧pM l
def aWy:Bd→Prop
 | .mk _ _ _ s e=>SchOk s∧oE e
def eY:List Bd→Prop
 | []=>True
 | b::l=>aWy b∧eY l
end
theorem rE:∀{l:List Ex}{p:Ex},pM l→oE p→pM (l++[p])
 | [],_,_,h=>⟨h,trivial⟩
 | _::_,_,h,k=>⟨h.1,rE h.2 k⟩
theorem nN:∀{l:List Bd}{p:Bd},eY l→aWy p→eY (l++[p])
 | [],_,_,h=>⟨h,trivial⟩
 | _::_,_,h,k=>⟨h.1,nN h.2 k⟩
theorem jI:∀{l:List Bd},eY l↔∀b∈l,aWy b
 | []=>⟨fun _ b hb=>(by cases hb),fun _=>trivial⟩
 | a::l=>⟨fun h b hb=>by
   rcases Aq.1 hb with rfl | hb
   ·exact h.1
   ·exact jI.1 h.2 b hb,fun h=>⟨h a Bp,jI.2 fun b hb=>h b (Bc _ hb)⟩⟩
theorem oE.z:oE zEx:=⟨⟨Ae _,Ae _,Ae _⟩,.z,⟨fun h=>by omega,fun h=>by omega,fun h=>by omega⟩,trivial,trivial,trivial⟩
theorem aAw:∀l:List Tk,wI (iQ l)
 | []=>trivial
 | _::l=>⟨⟨Ae _,trivial⟩,aAw l⟩
theorem vN (l:List Tk):(iQ l).length=l.length:=η _
theorem gH {L:List Tk}{z:Z}(h:ZA L z) (hwt:wt L≤30000):ZA L (bK z).2∧SchOk (bK z).1∧((bK z).2.e=0→(bK z).2.R.length<z.R.length)∧Ze z (bK z).2:=by
 refine⟨h.scheme,?_⟩;have hw:=h.wt;have hl:=h.len;unfold bK;split
 ·rename_i he;have q:= @qO z.R;cases hs:cG z.R with
  | error e=>
   obtain⟨e,p⟩:=e;exact⟨.z,fun h0=>absurd h0 (q hs),Ze.refl z⟩
  | ok y=>
   obtain⟨s,R'⟩:=y;obtain⟨_,⟨p,h2,E⟩,A,I,r,J,B⟩:=aNk hs;have u:R'.length<z.R.length:=by rw[h2,ψ];omega
   refine⟨⟨⟨A,by show tn s.ty≤_;omega⟩,fun p hp=>⟨(r p hp).1,by have:=(r p hp).2;omega⟩,by show s.preds.length≤_;omega,?_⟩,fun _=>u,Cp u⟩;show s.vars.length≤_;rw[B];unfold aTd;have g1:=aCc (W:=30000) s.preds [] (fun p hp=>by have:=(r p hp).2;omega);have g2:=n9 (tfR s.ty) (gP [] s.preds);have g3:=sD s.ty;have g4:s.preds.length*30000≤4001*30000:=Ax _ (by omega);rw[length_nil] at g1;omega
 ·rename_i he;exact⟨.z,fun h0=>absurd h0 he,Ze.refl z⟩
def ExO (L:List Tk) (ex:Nat→Z→Ex×Z):Prop:=∀deep z,ZA L z→ZA L (ex deep z).2∧oE (ex deep z).1∧((ex deep z).2.e=0→(ex deep z).2.R.length<z.R.length)∧Ze z (ex deep z).2
section
variable {L:List Tk}{ex:Nat→Z→Ex×Z}(hO:ExO L ex) (hwt:wt L≤30000)
include hO
theorem mJ (deep:Nat) {z:Z}(h:ZA L z):ZA L (fX ex deep z).2∧oE (fX ex deep z).1.1∧((fX ex deep z).1.2=true→(fX ex deep z).2.e=0→(fX ex deep z).2.R.length<z.R.length)∧Ze z (fX ex deep z).2:=by
 unfold fX;split
 ·exact⟨h,oE.z,fun e=>Bool.noConfusion e,Ze.refl z⟩
 split
 ·rename_i q;have:=vS h;refine⟨h.tlp (aH4 q),?_,fun _ _=>this,Cp this⟩;unfold oK;split
  ·exact⟨⟨Ae _,Ae _,Ae _⟩,.z,⟨fun h=>by omega,fun h=>by omega,fun h=>by omega⟩,trivial,trivial,trivial⟩
  ·exact⟨⟨Ae _,Ae _,Ae _⟩,.z,⟨fun h=>by omega,fun h=>by omega,fun h=>by omega⟩,trivial,trivial,trivial⟩
 split
 ·exact⟨h,oE.z,fun e=>Bool.noConfusion e,Ze.refl z⟩
 ·obtain⟨g1,g2,g3,g4⟩:=hO (deep+1) _ (h.may cW);have g5:=((Ze.may cW z).trans g4)
  exact⟨g1.need _,g2,fun _ e=>A4 (zJ g1 e) g5,g5.trans (Ze.need _ _)⟩
theorem qE (deep:Nat) (a:Int):∀(f:Nat) (e:Ex) (z:Z),ZA L z→oE e→ZA L (fK ex deep a f e z).2∧oE (fK ex deep a f e z).1∧Ze z (fK ex deep a f e z).2
 | 0,e,z,h,he=>⟨h,he,Ze.refl z⟩
 | f+1,e,z,h,he=>by
  rw[fK];obtain⟨g1,g2,_,g4⟩:=mJ hO deep h;split
  ·split
   ·exact⟨g1,he,g4⟩
   ·obtain⟨q,r,u⟩:=qE deep a f (aOx a e (fX ex deep z).1.1) _ g1 ⟨⟨show 2≤4002 by decide,Ae _,Ae _⟩,.z,⟨fun _=>rfl,fun h=>by omega,fun h=>by omega⟩,trivial,⟨he,g2,trivial⟩,trivial⟩;exact⟨q,r,g4.trans u⟩
  ·exact⟨h,he,Ze.refl z⟩
omit hO in
theorem fE {z:Z}(h:ZA L z):(aU z).1.length≤4001:=by
 unfold aU;split
 ·have:=oN rV z.R;have:=h.len;dsimp only;omega
 ·exact Ae _
omit hO in
theorem aH3 {a:Int}{l:List Tk}{b:Ex}(hl:l.length≤4001) (hb:oE b):oE (aN8 a l b):=⟨⟨show 1≤4002 by decide,by rw[vN];omega,Ae _⟩,.z,⟨fun h=>by omega,fun _=>rfl,fun h=>by omega⟩,aAw l,⟨hb,trivial⟩,trivial⟩
omit hO in
theorem aH2 (a:Int) {z:Z}(h:ZA L z):ZA L (rW a z).2∧(rW a z).1.length≤4001∧Ze z (rW a z).2:=by
 unfold rW;refine⟨?_,fE h,?_⟩
 ·refine ZA.need (ZA.long ?_ _ _ _) _;split
  ·exact h.words.fail _ _
  ·exact h.words
 ·refine Ze.trans ?_ ((Ze.long _ _ _ _).trans (Ze.need _ _));split
  ·exact(Ze.words z).trans (Ze.fail _ _ _)
  ·exact Ze.words z
theorem aQd (a:Int) (deep:Nat) {z:Z}(h:ZA L z):ZA L (sS ex a deep z).2∧oE (sS ex a deep z).1∧((sS ex a deep z).2.e=0→(sS ex a deep z).2.R.length<z.R.length)∧Ze z (sS ex a deep z).2:=by
 obtain⟨h1,h2,q⟩:=aH2 a h;obtain⟨g1,g2,g3,g4⟩:=hO (deep+1) _ h1;exact⟨g1,aH3 h2 g2,fun e=>A4 (g3 e) q,q.trans g4⟩
omit hO in
theorem aDb (q:Tk) {z:Z}(h:ZA L z):ZA L (fW q z).2∧(fW q z).1.length≤4001∧Ze z (fW q z).2:=
 ⟨(h.words.long _ _ _).need _,fE h,(Ze.words z).trans ((Ze.long _ _ _ _).trans (Ze.need _ _))⟩
theorem qD (q:Tk) (deep:Nat) {z:Z}(h:ZA L z):ZA L (dP ex q deep z).2∧aWy (dP ex q deep z).1∧((dP ex q deep z).2.e=0→(dP ex q deep z).2.R.length<z.R.length)∧Ze z (dP ex q deep z).2:=by
 obtain⟨h1,h2,r⟩:=aDb q h;obtain⟨g1,g2,g3,g4⟩:=hO deep _ h1;refine⟨g1,⟨.z,?_⟩,fun e=>A4 (g3 e) r,r.trans g4⟩;unfold y0;split
 ·exact g2
 ·rename_i t l hl;rw[hl] at h2;exact aH3 h2 g2
end
def gQ (l:List Sg):Prop:=∀s∈l,SchOk s.ty
theorem aGd {l:List Sg}{s:Sg}(h:gQ l) (k:SchOk s.ty):gQ (l++[s]):=fun x hx=>by
 rcases A2.1 hx with hx | hx
 ·exact h x hx
 ·rw[Ar.1 hx];exact k
theorem j0 {s:Str}{n:Nat}{z:Z}(h:(bB s n z).1=true):(bB s n z).2.e=0∧n+1≤60:=by
 unfold bB at h ⊢;split
 ·rename_i hc;rw[ξ hc] at h;cases h
 ·rename_i hc;rw[ζ hc] at h;have h:=ω h;refine⟨h,?_⟩;unfold cB at h;split at h
  ·exact(cX (by decide) h).elim
  ·omega
theorem Ze.semi (z:Z):Ze z (cV z):=by
 unfold cV;split
 ·exact l8 _ _
 ·exact Ze.refl z
theorem Ze.more (s:Str) (n:Nat) (z:Z):Ze z (bB s n z).2:=by
 have h1:Ze z (moreA s n z):=by
  unfold moreA;split
  ·exact Ze.fail _ _ z
  ·exact Ze.refl z
 unfold bB;split
 ·exact h1.trans (Ze.semi _)
 ·exact h1.trans ((Ze.semi _).trans (Ze.long _ _ _ _))
theorem xE {b:List Bd}{p:Bd→Bool}{k:Nat}(h:b.findIdx? p=some k):k<b.length:=by
 rw[List.findIdx?_eq_some_iff_getElem] at h;exact h.1
theorem iI {L:List Tk}:∀(l:List Sg) (b:List Bd) (z:Z),ZA L z→gQ l→eY b→ZA L (dI l b z).2∧eY (dI l b z).1∧(dI l b z).1.length=b.length∧Ze z (dI l b z).2
 | [],b,z,h,_,hb=>⟨h,hb,rfl,Ze.refl z⟩
 | s::l,b,z,h,hs,hb=>by
  have hl:gQ l:=fun x hx=>hs x (Bc _ hx)
  rw[dI];split
  ·split
   ·obtain⟨g1,g2,g3,g4⟩:=iI l b (bN 21 s.pl z) (h.fail _ _) hl hb;exact⟨g1,g2,g3,(Ze.fail _ _ _).trans g4⟩
   ·rename_i k r;split
    ·exact⟨h,hb,rfl,Ze.refl z⟩
    ·rename_i x hx;split
     ·obtain⟨g1,g2,g3,g4⟩:=iI l b (bN 20 s.pl z) (h.fail _ _) hl hb;exact⟨g1,g2,g3,(Ze.fail _ _ _).trans g4⟩
     ·have q:eY (b.set k (kK x s.ty)):=jI.2 fun y hy=>by
       rcases List.mem_or_eq_of_mem_set hy with hy | rfl
       ·exact jI.1 hb y hy
       ·have:=jI.1 hb x (Aa hx);cases x with
        | mk n p hh sg e=>exact⟨hs s Bp,this.2⟩
      obtain⟨g1,g2,g3,g4⟩:=iI l (b.set k (kK x s.ty)) z h hl q;exact⟨g1,g2,by rw[g3,length_set],g4⟩
  ·exact⟨h,hb,rfl,Ze.refl z⟩
section
variable {L:List Tk}{ex:Nat→Z→Ex×Z}(hO:ExO L ex) (hwt:wt L≤30000)
include hO hwt
theorem lO (sigs:List Sg) (binds:List Bd) (deep:Nat) {z:Z}(h:ZA L z) (hs:gQ sigs) (hb:eY binds):ZA L (aW ex sigs binds deep z).2∧gQ (aW ex sigs binds deep z).1.1∧eY (aW ex sigs binds deep z).1.2∧
  (aW ex sigs binds deep z).1.1.length≤sigs.length+1∧(aW ex sigs binds deep z).1.2.length≤binds.length+1∧((aW ex sigs binds deep z).2.e=0→(aW ex sigs binds deep z).2.R.length<z.R.length)∧Ze z (aW ex sigs binds deep z).2:=by
 have h1:=(h.word (k:=1) (by decide)).may fH;have q:=(Ze.word 1 z).trans (Ze.may fH _);unfold aW;split
 ·obtain⟨g1,g2,g3,g4⟩:=gH h1 hwt;exact⟨g1,aGd hs g2,hb,by rw[ψ,Bi];exact le_refl _,Nat.le_succ _,fun e=>A4 (g3 e) q,q.trans g4⟩
 ·obtain⟨g1,g2,g3,g4⟩:=qD hO (aO 1 z).1 deep h1;exact⟨g1,hs,nN hb g2,Nat.le_succ _,by rw[ψ,Bi];exact le_refl _,fun e=>A4 (g3 e) q,q.trans g4⟩
theorem uF (deep:Nat):∀(f n:Nat) (sigs:List Sg) (binds:List Bd) (z:Z),ZA L z→gQ sigs→eY binds→n≤60→sigs.length≤n→binds.length≤n→ZA L (eR ex deep f n sigs binds z).2∧gQ (eR ex deep f n sigs binds z).1.1∧eY (eR ex deep f n sigs binds z).1.2∧
  (eR ex deep f n sigs binds z).1.1.length≤60∧(eR ex deep f n sigs binds z).1.2.length≤60∧Ze z (eR ex deep f n sigs binds z).2
 | 0,n,sigs,binds,z,h,hs,hb,hn,h1,h2=>by rw[eR];exact⟨h,hs,hb,by dsimp only;omega,by dsimp only;omega,Ze.refl z⟩
 | f+1,n,sigs,binds,z,h,hs,hb,hn,h1,h2=>by
  rw[eR];split
  ·rename_i hm;obtain⟨_,q⟩:=j0 hm;obtain⟨g1,g2,g3,g4,g5,_,g6⟩:=lO hO hwt sigs binds deep (h.more b5 n) hs hb;obtain⟨r,u,y,A,B,E⟩:=uF deep f (n+1) _ _ _ g1 g2 g3 q (by omega) (by omega);exact⟨r,u,y,A,B,((Ze.more b5 n z).trans g6).trans E⟩
  ·exact⟨h.more _ _,hs,hb,by dsimp only;omega,by dsimp only;omega,Ze.more _ _ _⟩
theorem aQb (a:Int) (deep:Nat) {z:Z}(h:ZA L z):ZA L (sR ex a deep z).2∧oE (sR ex a deep z).1∧((sR ex a deep z).2.e=0→(sR ex a deep z).2.R.length<z.R.length)∧Ze z (sR ex a deep z).2:=by
 obtain⟨g1,g2,g3,g4,g5,g6⟩:=uF hO hwt (deep+1) ((aN eB z).R.length+1) 0 [] [] _ (h.need eB) (fun s hs=>by cases hs) trivial (by decide) (le_refl _) (le_refl _);obtain⟨r,u,y,A⟩:=iI (kB ex deep z).1.1 (kB ex deep z).1.2 (aN b5 (kB ex deep z).2) (g1.need _) g2 g3;have q:=((((Ze.need eB z).trans g6).trans (Ze.need b5 _)).trans A).trans (Ze.need inS _);obtain⟨m1,m2,m3,m4⟩:=hO (deep+1) _ (r.need inS);have B:(zN (kB ex deep z)).1.length=(kB ex deep z).1.2.length:=y;have E:(kB ex deep z).1.2.length≤60:=g5;exact⟨m1,⟨⟨show 1≤4002 by decide,Ae _,by omega⟩,.z,⟨fun h=>by omega,fun _=>rfl,fun h=>by omega⟩,trivial,⟨m2,trivial⟩,u⟩,fun e=>A4 (m3 e) q,q.trans m4⟩
omit hwt in
theorem aDo (deep:Nat):∀(f n:Nat) (ps:List Pt) (ks:List Ex) (z:Z),ZA L z→wI ps→pM ks→n≤60→ps.length=n→ks.length=n+1→ZA L (eJ ex deep f n ps ks z).2∧wI (eJ ex deep f n ps ks z).1.1∧pM (eJ ex deep f n ps ks z).1.2∧
  (eJ ex deep f n ps ks z).1.1.length≤60∧(eJ ex deep f n ps ks z).1.2.length=(eJ ex deep f n ps ks z).1.1.length+1∧Ze z (eJ ex deep f n ps ks z).2
 | 0,n,ps,ks,z,h,hp,q,hn,h1,h2=>by rw[eJ];exact⟨h,hp,q,by dsimp only;omega,by dsimp only;omega,Ze.refl z⟩
 | f+1,n,ps,ks,z,h,hp,q,hn,h1,h2=>by
  rw[eJ];split
  ·rename_i hm;obtain⟨_,r⟩:=j0 hm;obtain⟨g1,g2,_,g4⟩:=(mI L (3*(bB b5 n z).2.R.length+1)).2.1 0 _ (h.more b5 n);obtain⟨m1,m2,_,m4⟩:=hO (deep+1) _ (g1.need arrow);obtain⟨u,y,A,B,E,I⟩:=aDo deep f (n+1) (ps++[(gJ (3*(bB b5 n z).2.R.length+1) 0 (bB b5 n z).2).1]) (ks++[(ex (deep+1) (aN arrow (gJ (3*(bB b5 n z).2.R.length+1) 0 (bB b5 n z).2).2)).1]) _ m1 (pY hp g2) (rE q m2) r (by rw[ψ,h1];rfl) (by rw[ψ,h2];rfl);exact⟨u,y,A,B,E,((((Ze.more b5 n z).trans g4).trans (Ze.need _ _)).trans m4).trans I⟩
  ·exact⟨h.more _ _,hp,q,by dsimp only;omega,by dsimp only;omega,Ze.more _ _ _⟩
omit hwt in
theorem aL7 (a:Int) (deep:Nat) {z:Z}(h:ZA L z):ZA L (hY ex a deep z).2∧oE (hY ex a deep z).1∧((hY ex a deep z).2.e=0→(hY ex a deep z).2.R.length<z.R.length)∧Ze z (hY ex a deep z).2:=by
 obtain⟨m1,m2,m3,m4⟩:=hO (deep+1) z h;have h1:ZA L (cJ ex deep z).2:=(m1.need ofS).need eB;have r:Ze z (cJ ex deep z).2:=(m4.trans (Ze.need ofS _)).trans (Ze.need eB _);obtain⟨g1,g2,g3,g4,g5,g6⟩:=aDo hO deep ((cJ ex deep z).2.R.length+1) 0 [] [(cJ ex deep z).1] _ h1 trivial ⟨m2,trivial⟩ (by decide) rfl rfl;have g1:ZA L (fI ex deep (cJ ex deep z)).2:=g1;have g6:Ze (cJ ex deep z).2 (fI ex deep (cJ ex deep z)).2:=g6;have A:(fI ex deep (cJ ex deep z)).1.1.length≤60:=g4;have u:(fI ex deep (cJ ex deep z)).1.2.length=(fI ex deep (cJ ex deep z)).1.1.length+1:=g5;have hex:oE (hY ex a deep z).1:=⟨⟨by omega,by omega,Ae _⟩,.z,⟨fun h=>by omega,fun h=>by omega,fun _=>u⟩,g2,g3,trivial⟩
 have h2:=g1.need b5;have y:(aN b5 (fI ex deep (cJ ex deep z)).2).e=0→(aN b5 (fI ex deep (cJ ex deep z)).2).R.length<z.R.length:=fun e=>A4 (zJ g1 e) (r.trans g6)
 have q:Ze z (aN b5 (fI ex deep (cJ ex deep z)).2):=(r.trans g6).trans (Ze.need _ _);unfold hY at hex ⊢;dsimp only at hex ⊢;split
 ·exact⟨h2.fail _ _,hex,fun e=>(cX (by decide) e).elim,q.trans (Ze.fail _ _ _)⟩
 ·exact⟨h2,hex,y,q⟩
omit hO in
theorem aSe (a:Int) {y:Ex×Z}(h:ZA L y.2) (he:oE y.1):ZA L (sA a y).2∧oE (sA a y).1∧Ze y.2 (sA a y).2:=by
 unfold sA;split
 ·obtain⟨g1,g2,_,g4⟩:=gH (h.may fH) hwt;exact⟨g1,⟨⟨show 1≤4002 by decide,Ae _,Ae _⟩,g2,⟨fun h=>by omega,fun _=>rfl,fun h=>by omega⟩,trivial,⟨he,trivial⟩,trivial⟩,(Ze.may fH _).trans g4⟩
 ·exact⟨h.may fH,he,Ze.may fH _⟩
omit hwt in
theorem wL (deep:Nat) {z:Z}(h:ZA L z):ZA L (fA ex deep z).2∧oE (fA ex deep z).1∧Ze z (fA ex deep z).2:=by
 obtain⟨g1,g2,g3,g4⟩:=mJ hO deep h;unfold fA;split
 ·obtain⟨q,r,u⟩:=qE hO deep (bA z).pl (z.R.length+1) _ _ (g1.fail 12 (bA z).pl) g2;exact⟨q,r,(g4.trans (Ze.fail _ _ _)).trans u⟩
 ·obtain⟨q,r,u⟩:=qE hO deep (bA z).pl (z.R.length+1) _ _ g1 g2;exact⟨q,r,g4.trans u⟩
end
theorem aSd {ex:Nat→Z→Ex×Z}{deep:Nat}{a:Int}{f:Nat}{e:Ex}{z:Z}(h:(fK ex deep a f e z).2.e=0):z.e=0:=by
 cases f with
 | zero=>exact h
 | succ f=>
  rw[fK] at h;split at h
  ·assumption
  ·exact h
theorem aWb {a:Int}{y:Ex×Z}(h:(sA a y).2.e=0):y.2.e=0:=by
 unfold sA at h;split at h
 ·unfold bK at h;split at h
  ·rename_i he;rwa [iE] at he
  ·rwa [iE] at h
 ·rwa [iE] at h
theorem aQt {L:List Tk}{ex:Nat→Z→Ex×Z}(hO:ExO L ex) (hwt:wt L≤30000):ExO L (aCk ex):=by
 intro deep z h;unfold aCk;split
 ·rename_i he;exact⟨h,oE.z,fun e=>absurd e he,Ze.refl z⟩
 split
 ·exact⟨h.fail _ _,oE.z,fun e=>(cX (by decide) e).elim,Ze.fail _ _ _⟩
 split
 ·obtain⟨g1,g2,g3,g4⟩:=aQd hO (bA z).pl deep (h.may aFi);have l:=Ze.may aFi z;exact⟨g1,g2,fun e=>A4 (g3 e) l,l.trans g4⟩
 split
 ·obtain⟨g1,g2,g3,g4⟩:=aQb hO hwt (bA z).pl deep (h.may aFh);have l:=Ze.may aFh z;exact⟨g1,g2,fun e=>A4 (g3 e) l,l.trans g4⟩
 split
 ·obtain⟨g1,g2,g3,g4⟩:=aL7 hO (bA z).pl deep (h.may pN);have l:=Ze.may pN z;exact⟨g1,g2,fun e=>A4 (g3 e) l,l.trans g4⟩
 ·obtain⟨g1,g2,g3⟩:=wL hO deep h;obtain⟨y,A,q⟩:=aSe hwt (bA z).pl g1 g2;refine⟨y,A,fun e=>?_,g3.trans q⟩;have u:=aWb e;obtain⟨B,E,I,M⟩:=mJ hO deep h;unfold fA at u q ⊢;have r:=aSd u;split at r
  ·exact(cX (by decide) r).elim
  ·rename_i hs;have hs:(fX ex deep z).1.2=true:=by simpa using hs
   rw[ζ (by rw[hs];exact fun k=>Bool.noConfusion k)] at q ⊢;obtain⟨_,_,J⟩:=qE hO deep (bA z).pl (z.R.length+1) _ _ B E;exact Bu (J.trans q) (I hs r)
theorem mM {L:List Tk}(hwt:wt L≤30000):∀f,ExO L (yL f)
 | 0=>fun deep z h=>⟨h.fail _ _,oE.z,fun e=>(cX (by decide) e).elim,Ze.fail _ _ _⟩
 | f+1=>aQt (mM hwt f) hwt
def aZj:List C:=[.int .i64 0,.int .i64 0,.int .i64 0,.str [],.nl,.nl,.nl,.nl,.nl,.nl,.int .i64 0,.int .i64 0,.str [],.nl,.nl]
section
variable {L:List Tk}{ex:Nat→Z→Ex×Z}{N:Nat}(hO:ExO L ex)
include hO
end
def sgA (l:List Sg) (f:Nat):AObj:=.arr 100 9 (l.map eC) f
def bdA (l:List Bd) (f:Nat):AObj:=.arr 109 33 (l.map bL) f
def hsV (id n:Nat):V:=.one (.hs id 0 n n)
section
variable {L:List Tk}{ex:Nat→Z→Ex×Z}{N:Nat} (hwt:wt L≤30000)
include hwt
end
def aKf (p:Bd→Bool) (b:List Bd) (m:Nat):Int:=match (b.drop m).findIdx? p with
 | none=> -1
 | some d=>((m+d:Nat):Int)
theorem aLz (p:Bd→Bool) (b:List Bd):aKf p b b.length= -1:=by unfold aKf;rw[Cq];rfl
theorem aIg (p:Bd→Bool) {b:List Bd}{m:Nat}{x:Bd}(h:b[m]?=some x):aKf p b m=if p x=true then(m:Int) else aKf p b (m+1):=by
 obtain⟨h1,h2⟩:=Af.1 h;have q:=Bf h1;rw[h2] at q;unfold aKf;rw[q,List.findIdx?_cons];by_cases hp:p x=true
 ·rw[ξ hp,ξ hp];rfl
 ·rw[ζ hp,ζ hp];cases (b.drop (m+1)).findIdx? p with
  | none=>rfl
  | some d=>simp;omega
theorem oZ {s:Str}{z:Z}(hb:(bX s z).1=false):(bX s z).2=z:=by
 unfold bX at hb ⊢;split
 ·rename_i hc;rw[ξ hc] at hb;cases hb
 ·rfl
section
variable {L:List Tk}{ex:Nat→Z→Ex×Z}{N:Nat}(hO:ExO L ex) (hwt:wt L≤30000)
include hO hwt
end
structure Cl where
 name:Str
 pl:Int
 var:Str
 supers:List Str
 methods:List Sg
structure In where
 cls:Str
 pl:Int
 con:Str
 vars:List Str
 preds:List Prd
 binds:List Bd
structure Pg where
 datas:List Dt
 classes:List Cl
 insts:List In
 binds:List Bd
def iT (c:Cl):List C:=[.str c.name,.int .i64 c.pl,.str c.var,.sl 1 [],.sl 1 (c.supers.map aR),.sl 9 (c.methods.map eC)]
def jC (x:In):List C:=[.str x.cls,.int .i64 x.pl,.str x.con,.sl 1 (x.vars.map aR),.sl 5 (x.preds.map aQ),.sl 33 (x.binds.map bL)]
def rG (p:Pg):List C:=[.sl 5 (p.datas.map iG),.sl 6 (p.classes.map iT),.sl 6 (p.insts.map jC),.sl 33 (p.binds.map bL)]
def zPg:Pg:=⟨[],[],[],[]⟩
def fV:Str:=[100,97,116,97]
def fY:Str:=[99,108,97,115,115]
def lW:Str:=[105,110,115,116,97,110,99,101]
def bP (v:Str) (a:Int):List Prd→List Str→Z→List Str×Z
 | [],out,z=>(out,z)
 | p::l,out,z=>if z.e=0 then bP v a l (out++[p.cls]) (if p.ty.form=2∧p.ty.name=v then z else bN 12 a z) else(out,z)
def rU (cls v:Str) (s:Sch):Sch:=⟨v::s.vars.filter (fun x=>!decide (x=v)),⟨cls,.mk 2 0 v []⟩::s.preds,s.ty⟩
def fS (cls v:Str) (z:Z):Sg×Z:=(⟨(aO 1 z).1.text,(aO 1 z).1.pl,rU cls v (bK (aN fH (aO 1 z).2)).1⟩,(bK (aN fH (aO 1 z).2)).2)
def dK (cls v:Str) (a:Int):Nat→Nat→List Sg→Z→List Sg×Z
 | 0,_,out,z=>(out,z)
 | f+1,n,out,z=>if(bB b5 n z).1=true then dK cls v a f (n+1) (out++[(fS cls v (bB b5 n z).2).1]) (cB (out++[(fS cls v (bB b5 n z).2).1]).length 16 a (fS cls v (bB b5 n z).2).2) else(out,(bB b5 n z).2)
def aX (z:Z):List Prd×Tk×Tk×Z:=((bE z).1,(aO 2 (bE z).2).1,(aO 1 (aO 2 (bE z).2).2).1,(aO 1 (aO 2 (bE z).2).2).2)
def cO (y:List Prd×Tk×Tk×Z):List Str×Z:=((bP y.2.2.1.text y.2.1.pl y.1 [] y.2.2.2).1,aN eB (bP y.2.2.1.text y.2.1.pl y.1 [] y.2.2.2).2)
def iL (y:List Prd×Tk×Tk×Z) (w:List Str×Z):List Sg×Z:=dK y.2.1.text y.2.2.1.text y.2.1.pl (w.2.R.length+1) 0 [] w.2
def eE (z:Z):Cl×Z:=(⟨(aX z).2.1.text,(aX z).2.1.pl,(aX z).2.2.1.text,(cO (aX z)).1,(iL (aX z) (cO (aX z))).1⟩,aN b5 (iL (aX z) (cO (aX z))).2)
def dL (a:Int):List Prd→Z→Z
 | [],z=>z
 | p::l,z=>dL a l (if z.e=0∧¬p.ty.form=2 then bN 12 a z else z)
def bO (z:Z):List Prd×Tk×Bool×Tk×Z:=
 ((bE z).1,(aO 2 (bE z).2).1,(bX cW (aO 2 (bE z).2).2).1,(aO 2 (bX cW (aO 2 (bE z).2).2).2).1,(aO 2 (bX cW (aO 2 (bE z).2).2).2).2)
def instV (b:Bool) (z:Z):List Str×Z:=if b=true then((aU z).1.map (·.text),aN oR (aU z).2) else([],z)
def iF (y:List Prd×Tk×Bool×Tk×Z) (w:List Str×Z):Z:=aN eB (dL y.2.1.pl y.1 (if w.2.e=0 then cB w.1.length 8 y.2.1.pl w.2 else w.2))
section
variable (ex:Nat→Z→Ex×Z)
def cE:Nat→Nat→List Bd→Z→List Bd×Z
 | 0,_,out,z=>(out,z)
 | f+1,n,out,z=>if(bB b5 n z).1=true then cE f (n+1) (out++[(dP ex (aO 1 (bB b5 n z).2).1 0 (aO 1 (bB b5 n z).2).2).1]) (dP ex (aO 1 (bB b5 n z).2).1 0 (aO 1 (bB b5 n z).2).2).2 else(out,(bB b5 n z).2)
def oB (z:Z):List Bd×Z:=cE ex (z.R.length+1) 0 [] z
def iS (z:Z):In×Z:=
 (⟨(bO z).2.1.text,(bO z).2.1.pl,(bO z).2.2.2.1.text,(instV (bO z).2.2.1 (bO z).2.2.2.2).1,(bO z).1,(oB ex (iF (bO z) (instV (bO z).2.2.1 (bO z).2.2.2.2))).1⟩,
  aN b5 (oB ex (iF (bO z) (instV (bO z).2.2.1 (bO z).2.2.2.2))).2)
def eD (p:Pg) (sigs:List Sg) (z:Z):(Pg×List Sg)×Z:=
 if(bX fV z).1=true then((⟨p.datas++[(jE (bX fV z).2).1],p.classes,p.insts,p.binds⟩,sigs),(jE (bX fV z).2).2)
 else if(bX fY z).1=true then((⟨p.datas,p.classes++[(eE (bX fY z).2).1],p.insts,p.binds⟩,sigs),(eE (bX fY z).2).2)
 else if(bX lW z).1=true then((⟨p.datas,p.classes,p.insts++[(iS ex (bX lW z).2).1],p.binds⟩,sigs),(iS ex (bX lW z).2).2)
 else((⟨p.datas,p.classes,p.insts,(aW ex sigs p.binds 0 z).1.2⟩,(aW ex sigs p.binds 0 z).1.1),(aW ex sigs p.binds 0 z).2)
def dR:Nat→Nat→Pg→List Sg→Z→(Pg×List Sg)×Z
 | 0,_,p,sigs,z=>((p,sigs),z)
 | f+1,n,p,sigs,z=>if(bB [] n z).1=true then dR f (n+1) (eD ex p sigs (bB [] n z).2).1.1 (eD ex p sigs (bB [] n z).2).1.2 (eD ex p sigs (bB [] n z).2).2 else((p,sigs),(bB [] n z).2)
def pZ (y:(Pg×List Sg)×Z):Pg×Z:=(⟨y.1.1.datas,y.1.1.classes,y.1.1.insts,(dI y.1.2 y.1.1.binds y.2).1⟩,(dI y.1.2 y.1.1.binds y.2).2)
def dY (z:Z):Pg×Z:=pZ (dR ex (z.R.length+1) 0 zPg [] z)
end
def oF (z:Z):Z:=if z.e=0∧¬(bA z).kind=6 then bN 12 (bA z).pl z else z
def sgO (s:Sg):Prop:=WF s.ty.ty∧tn s.ty.ty≤30000∧(∀p∈s.ty.preds,WF p.ty∧tn p.ty≤30000)∧s.ty.preds.length≤4002∧s.ty.vars.length≤120060001
structure ClOk (c:Cl):Prop where
 s:c.supers.length≤4001
 m:c.methods.length≤60∧∀m∈c.methods,sgO m
structure InOk (x:In):Prop where
 v:x.vars.length≤4001
 p:x.preds.length≤4001∧∀p∈x.preds,WF p.ty∧tn p.ty≤30000
 b:x.binds.length≤60∧eY x.binds
structure DtOk (d:Dt):Prop where
 v:d.vars.length≤4001
 c:d.cons.length≤4002∧∀c∈d.cons,c.fields.length≤4002∧∀x∈c.fields,WF x∧tn x≤30000
theorem nX {L:List Tk}(v:Str) (a:Int):∀(l:List Prd) (out:List Str) (z:Z),ZA L z→ZA L (bP v a l out z).2∧(bP v a l out z).1.length≤out.length+l.length∧Ze z (bP v a l out z).2
 | [],out,z,h=>⟨h,le_refl _,Ze.refl z⟩
 | p::l,out,z,h=>by
  rw[bP];split
  ·have h1:ZA L (if p.ty.form=2∧p.ty.name=v then z else bN 12 a z)∧Ze z (if p.ty.form=2∧p.ty.name=v then z else bN 12 a z):=by
    split
    ·exact⟨h,Ze.refl z⟩
    ·exact⟨h.fail _ _,Ze.fail _ _ z⟩
   obtain⟨g1,g2,g3⟩:=nX v a l (out++[p.cls]) _ h1.1;exact⟨g1,by rw[ψ,Bi] at g2;rw[κ];omega,h1.2.trans g3⟩
  ·exact⟨h,by rw[κ];dsimp only;omega,Ze.refl z⟩
theorem rA {L:List Tk}(a:Int):∀(l:List Prd) (z:Z),ZA L z→ZA L (dL a l z)∧Ze z (dL a l z)
 | [],z,h=>⟨h,Ze.refl z⟩
 | p::l,z,h=>by
  rw[dL];have h1:ZA L (if z.e=0∧¬p.ty.form=2 then bN 12 a z else z)∧Ze z (if z.e=0∧¬p.ty.form=2 then bN 12 a z else z):=by
   split
   ·exact⟨h.fail _ _,Ze.fail _ _ z⟩
   ·exact⟨h,Ze.refl z⟩
  obtain⟨g1,g2⟩:=rA a l _ h1.1;exact⟨g1,h1.2.trans g2⟩
theorem n3 {L:List Tk}{z:Z}(h:ZA L z) (hwt:wt L≤30000):ZA L (bE z).2∧((bE z).1.length≤4001∧∀p∈(bE z).1,WF p.ty∧tn p.ty≤30000)∧Ze z (bE z).2:=by
 refine⟨h.preds,?_⟩;have hw:=h.wt;have hl:=h.len;unfold bE;split
 ·cases hs:cH z.R with
  | error e=>obtain⟨e,p⟩:=e;exact⟨⟨Ae _,fun p hp=>(by cases hp)⟩,Ze.refl z⟩
  | ok y=>
   obtain⟨s,R'⟩:=y;obtain⟨_,⟨p,h2,_⟩,q,r⟩:=n0 hs;refine⟨⟨by show s.length≤_;omega,fun p hp=>⟨(q p hp).1,by have:=(q p hp).2;omega⟩⟩,?_⟩;show R'.length≤_;rw[h2,ψ];omega
 ·exact⟨⟨Ae _,fun p hp=>(by cases hp)⟩,Ze.refl z⟩
theorem aFs {L:List Tk}{z:Z}(h:ZA L z) (hwt:wt L≤30000) (k:Int):(aO k z).1.text.length≤29994:=by
 have hw:=h.wt;obtain⟨R,e,p⟩:=z;obtain⟨t,R,rfl⟩:=h.e.ne;unfold aO;split
 ·show t.text.length≤_;have hw:wt (t::R)≤wt L:=hw;rw[c9] at hw;omega
 ·exact Ae _
theorem aLo (cls v:Str) {s:Sch}(h:SchOk s) (q:v.length≤29994) (t:Str) (a:Int):sgO ⟨t,a,rU cls v s⟩:=by
 refine⟨h.t.1,h.t.2,fun p hp=>?_,?_,?_⟩
 ·rcases Aq.1 hp with rfl | hp
  ·exact⟨⟨rfl,rfl⟩,by show tn (.mk 2 0 v [])≤_;rw[tn,tns];omega⟩
  ·exact h.p p hp
 ·show(_::s.preds).length≤_;rw[κ];have:=h.l;omega
 ·show(v::s.vars.filter _).length≤_;rw[κ];have:=List.length_filter_le (fun x=>!decide (x=v)) s.vars;have:=h.v;omega
theorem wS {L:List Tk}(hwt:wt L≤30000) (cls v:Str) (q:v.length≤29994) (a:Int):∀(f n:Nat) (out:List Sg) (z:Z),ZA L z→n≤60→out.length=n→(∀m∈out,sgO m)→ZA L (dK cls v a f n out z).2∧((dK cls v a f n out z).1.length≤60∧∀m∈(dK cls v a f n out z).1,sgO m)∧Ze z (dK cls v a f n out z).2
 | 0,n,out,z,h,hn,hl,ho=>by rw[dK];exact⟨h,⟨by dsimp only;omega,ho⟩,Ze.refl z⟩
 | f+1,n,out,z,h,hn,hl,ho=>by
  rw[dK];split
  ·rename_i hm;obtain⟨_,r⟩:=j0 hm;have h1:=h.more b5 n;obtain⟨g1,g2,_,g4⟩:=gH ((h1.word (k:=1) (by decide)).need fH) hwt;have u:∀m∈out++[(fS cls v (bB b5 n z).2).1],sgO m:=fun m hm=>by
    rcases A2.1 hm with hm | hm
    ·exact ho m hm
    ·rw[Ar.1 hm];exact aLo cls v g2 q _ _
   have y:(out++[(fS cls v (bB b5 n z).2).1]).length=n+1:=by rw[ψ,hl];rfl
   obtain⟨A,B,E⟩:=wS hwt cls v q a f (n+1) _ (cB (out++[(fS cls v (bB b5 n z).2).1]).length 16 a (fS cls v (bB b5 n z).2).2) (ZA.long g1 _ _ _) r y u;exact⟨A,B,((((Ze.more b5 n z).trans (Ze.word 1 _)).trans (Ze.need fH _)).trans g4).trans ((Ze.long _ _ _ _).trans E)⟩
  ·exact⟨h.more _ _,⟨by dsimp only;omega,ho⟩,Ze.more _ _ _⟩
theorem xO {L:List Tk}{z:Z}(h:ZA L z) (hwt:wt L≤30000):ZA L (eE z).2∧ClOk (eE z).1∧Ze z (eE z).2:=by
 obtain⟨g1,g2,g3⟩:=n3 h hwt;have h2:=g1.word (k:=2) (by decide);have r:=h2.word (k:=1) (by decide);have u:=aFs h2 hwt 1;obtain⟨y,A,B⟩:=nX (aO 1 (aO 2 (bE z).2).2).1.text (aO 2 (bE z).2).1.pl (bE z).1 [] _ r;obtain⟨m1,m2,m3⟩:=wS hwt (aX z).2.1.text (aX z).2.2.1.text u (aX z).2.1.pl ((cO (aX z)).2.R.length+1) 0 [] _ (y.need eB) (Ae _) rfl (fun m hm=>by cases hm);refine⟨m1.need _,⟨?_,m2⟩,(((g3.trans (Ze.word 2 _)).trans (Ze.word 1 _)).trans B).trans ((Ze.need eB _).trans (m3.trans (Ze.need b5 _)))⟩;show(bP _ _ _ _ _).1.length≤_;have q:(bP (aO 1 (aO 2 (bE z).2).2).1.text (aO 2 (bE z).2).1.pl (bE z).1 [] (aO 1 (aO 2 (bE z).2).2).2).1.length≤0+(bE z).1.length:=A;exact le_trans q (by omega)
theorem aB7 {L:List Tk}(b:Bool) {z:Z}(h:ZA L z):ZA L (instV b z).2∧(instV b z).1.length≤4001∧Ze z (instV b z).2:=by
 unfold instV;split
 ·exact⟨h.words.need _,by rw[η];exact fE h,(Ze.words z).trans (Ze.need _ _)⟩
 ·exact⟨h,Ae _,Ze.refl z⟩
theorem aLv {L:List Tk}(y:List Prd×Tk×Bool×Tk×Z) (w:List Str×Z) (h:ZA L w.2):ZA L (iF y w)∧Ze w.2 (iF y w):=by
 have h1:ZA L (if w.2.e=0 then cB w.1.length 8 y.2.1.pl w.2 else w.2)∧Ze w.2 (if w.2.e=0 then cB w.1.length 8 y.2.1.pl w.2 else w.2):=by
  split
  ·exact⟨h.long _ _ _,Ze.long _ _ _ _⟩
  ·exact⟨h,Ze.refl _⟩
 obtain⟨g1,g2⟩:=rA y.2.1.pl y.1 _ h1.1;exact⟨g1.need _,(h1.2.trans g2).trans (Ze.need _ _)⟩
section
variable {L:List Tk}{ex:Nat→Z→Ex×Z}(hO:ExO L ex) (hwt:wt L≤30000)
include hO
theorem sT:∀(f n:Nat) (out:List Bd) (z:Z),ZA L z→n≤60→out.length=n→eY out→ZA L (cE ex f n out z).2∧((cE ex f n out z).1.length≤60∧eY (cE ex f n out z).1)∧Ze z (cE ex f n out z).2
 | 0,n,out,z,h,hn,hl,ho=>by rw[cE];exact⟨h,⟨by dsimp only;omega,ho⟩,Ze.refl z⟩
 | f+1,n,out,z,h,hn,hl,ho=>by
  rw[cE];split
  ·rename_i hm;obtain⟨_,q⟩:=j0 hm;obtain⟨g1,g2,_,g4⟩:=qD hO (aO 1 (bB b5 n z).2).1 0 ((h.more b5 n).word (k:=1) (by decide));obtain⟨r,u,y⟩:=sT f (n+1) _ _ g1 q (by rw[ψ,hl];rfl) (nN ho g2);exact⟨r,u,(((Ze.more b5 n z).trans (Ze.word 1 _)).trans g4).trans y⟩
  ·exact⟨h.more _ _,⟨by dsimp only;omega,ho⟩,Ze.more _ _ _⟩
include hwt
theorem aB6 {z:Z}(h:ZA L z):ZA L (iS ex z).2∧InOk (iS ex z).1∧Ze z (iS ex z).2:=by
 obtain⟨g1,g2,g3⟩:=n3 h hwt;have h2:=((g1.word (k:=2) (by decide)).may cW).word (k:=2) (by decide);have q:=((g3.trans (Ze.word 2 _)).trans (Ze.may cW _)).trans (Ze.word 2 _);obtain⟨r,u,y⟩:=aB7 (bO z).2.2.1 h2;obtain⟨m1,m2⟩:=aLv (bO z) (instV (bO z).2.2.1 (bO z).2.2.2.2) r;obtain⟨A,B,E⟩:=sT hO ((iF (bO z) (instV (bO z).2.2.1 (bO z).2.2.2.2)).R.length+1) 0 [] _ m1 (Ae _) rfl trivial;exact⟨A.need _,⟨u,g2,B⟩,(q.trans y).trans (m2.trans (E.trans (Ze.need _ _)))⟩
end
def aY8:List C:=[.str [],.int .i64 0,.str [],.nl,.nl,.nl]
section
variable {L:List Tk}{ex:Nat→Z→Ex×Z}{N:Nat}(hO:ExO L ex) (hwt:wt L≤30000)
include hO hwt
end
def aVc (c:Cn):Prop:=c.fields.length≤4002∧∀x∈c.fields,WF x∧tn x≤30000
theorem aQ5 {L:List Tk}{z:Z}(h:ZA L z) (hwt:wt L≤30000):ZA L (jF z).2∧aVc (jF z).1∧Ze z (jF z).2:=by
 have h1:=h.word (k:=2) (by decide);have hl:=h1.len;obtain⟨g1,g2,g3,g4⟩:=sU ((aO 2 z).2.R.length+1) [] _ h1 (fun x hx=>by cases hx) (by rw[length_nil];omega);exact⟨g1.long _ _ _,⟨g4,fun x hx=>⟨(g2 x hx).1,by have:=(g2 x hx).2;omega⟩⟩,((Ze.word 2 z).trans g3).trans (Ze.long _ _ _ _)⟩
theorem aCx {L:List Tk}(hwt:wt L≤30000) (a:Int):∀(f:Nat) (out:List Cn) (z:Z),ZA L z→out.length+z.R.length≤4002→(∀c∈out,aVc c)→ZA L (fO f a out z).2∧((fO f a out z).1.length≤4002∧∀c∈(fO f a out z).1,aVc c)∧Ze z (fO f a out z).2
 | 0,out,z,h,hl,ho=>by rw[fO];exact⟨h,⟨by dsimp only;omega,ho⟩,Ze.refl z⟩
 | f+1,out,z,h,hl,ho=>by
  rw[fO];obtain⟨g1,g2,g3⟩:=aQ5 h hwt;have h2:=g1.long (out++[(jF z).1]).length 16 a;have r:=g3.trans (Ze.long (out++[(jF z).1]).length 16 a _);have hle:(out++[(jF z).1]).length=out.length+1:=by rw[ψ];rfl
  have q:∀c∈out++[(jF z).1],aVc c:=fun c hc=>by
   rcases A2.1 hc with hc | hc
   ·exact ho c hc
   ·rw[Ar.1 hc];exact g2
  have B:=h.lp;split
  ·rename_i hm;have E:=iK h2 hm;have I:(cB (out++[(jF z).1]).length 16 a (jF z).2).R.length≤z.R.length:=r;obtain⟨u,y,A⟩:=aCx hwt a f _ _ (h2.may vL) (by omega) q;exact⟨u,y,(r.trans (Ze.may _ _)).trans A⟩
  ·exact⟨h2.may vL,⟨by dsimp only;omega,q⟩,r.trans (Ze.may _ _)⟩
theorem aCw {L:List Tk}{z:Z}(h:ZA L z) (hwt:wt L≤30000):ZA L (jE z).2∧DtOk (jE z).1∧Ze z (jE z).2:=by
 have h1:=h.word (k:=2) (by decide);have q:=fE h1;have h2:ZA L (dD z).2.2:=(h1.words.long _ _ _).need _;have r:Ze z (dD z).2.2:=((Ze.word 2 z).trans (Ze.words _)).trans ((Ze.long _ _ _ _).trans (Ze.need _ _));have hc:ZA L (fN (dD z)).2∧((fN (dD z)).1.length≤4002∧∀c∈(fN (dD z)).1,aVc c)∧Ze (dD z).2.2 (fN (dD z)).2:=by
  unfold fN;split
  ·exact aCx hwt _ _ [] _ h2 (by rw[length_nil];have:=h2.len;omega) (fun c hc=>by cases hc)
  ·exact⟨h2,⟨Ae _,fun c hc=>(by cases hc)⟩,Ze.refl _⟩
 exact⟨hc.1,⟨by show((dD z).2.1.map _).length≤_;rw[η];exact q,hc.2.1⟩,r.trans hc.2.2⟩
structure PgOk (n:Nat) (p:Pg):Prop where
 d:p.datas.length≤n∧∀d∈p.datas,DtOk d
 c:p.classes.length≤n∧∀c∈p.classes,ClOk c
 i:p.insts.length≤n∧∀x∈p.insts,InOk x
 b:p.binds.length≤n∧eY p.binds
theorem aJ4 {α:Type}{l:List α}{x:α}{n:Nat}(h:l.length≤n):(l++[x]).length≤n+1:=by rw[ψ,Bi];omega
theorem aAp {α:Type}{P:α→Prop}{l:List α}{x:α}(h:∀y∈l,P y) (hx:P x):∀y∈l++[x],P y:=fun y hy=>by
 rcases A2.1 hy with hy | hy
 ·exact h y hy
 ·rw[Ar.1 hy];exact hx
section
variable {L:List Tk}{ex:Nat→Z→Ex×Z}(hO:ExO L ex) (hwt:wt L≤30000)
include hO hwt
theorem aCu {n:Nat}{p:Pg}{sigs:List Sg}{z:Z}(h:ZA L z) (hp:PgOk n p) (hs:gQ sigs∧sigs.length≤n):ZA L (eD ex p sigs z).2∧PgOk (n+1) (eD ex p sigs z).1.1∧(gQ (eD ex p sigs z).1.2∧(eD ex p sigs z).1.2.length≤n+1)∧((eD ex p sigs z).2.e=0→(eD ex p sigs z).2.R.length<z.R.length)∧Ze z (eD ex p sigs z).2:=by
 obtain⟨u,hc,hi,hb⟩:=hp;have up:∀{m:Nat},m≤n→m≤n+1:=fun h=>Nat.le_succ_of_le h
 unfold eD;split
 ·rename_i hm;have q:=iK h hm;obtain⟨g1,g2,g3⟩:=aCw (h.may fV) hwt;have r:(jE (bX fV z).2).2.R.length≤(bX fV z).2.R.length:=g3;exact⟨g1,⟨⟨aJ4 u.1,aAp u.2 g2⟩,⟨up hc.1,hc.2⟩,⟨up hi.1,hi.2⟩,⟨up hb.1,hb.2⟩⟩,⟨hs.1,up hs.2⟩,fun _=>Bu r q,Cp (Bu r q)⟩
 split
 ·rename_i hm;have q:=iK h hm;obtain⟨g1,g2,g3⟩:=xO (h.may fY) hwt;have r:(eE (bX fY z).2).2.R.length≤(bX fY z).2.R.length:=g3;exact⟨g1,⟨⟨up u.1,u.2⟩,⟨aJ4 hc.1,aAp hc.2 g2⟩,⟨up hi.1,hi.2⟩,⟨up hb.1,hb.2⟩⟩,⟨hs.1,up hs.2⟩,fun _=>Bu r q,Cp (Bu r q)⟩
 split
 ·rename_i hm;have q:=iK h hm;obtain⟨g1,g2,g3⟩:=aB6 hO hwt (h.may lW);have r:(iS ex (bX lW z).2).2.R.length≤(bX lW z).2.R.length:=g3;exact⟨g1,⟨⟨up u.1,u.2⟩,⟨up hc.1,hc.2⟩,⟨aJ4 hi.1,aAp hi.2 g2⟩,⟨up hb.1,hb.2⟩⟩,⟨hs.1,up hs.2⟩,fun _=>Bu r q,Cp (Bu r q)⟩
 ·obtain⟨g1,g2,g3,g4,g5,g6,g7⟩:=lO hO hwt sigs p.binds 0 h hs.1 hb.2;exact⟨g1,⟨⟨up u.1,u.2⟩,⟨up hc.1,hc.2⟩,⟨up hi.1,hi.2⟩,⟨by show(aW ex sigs p.binds 0 z).1.2.length≤_;omega,g3⟩⟩,⟨g2,by show(aW ex sigs p.binds 0 z).1.1.length≤_;omega⟩,g6,g7⟩
end
section
variable {L:List Tk}{ex:Nat→Z→Ex×Z}{N:Nat}(hO:ExO L ex) (hwt:wt L≤30000)
include hO hwt
end
theorem aIn {t:Tk}{R:List Tk}(h:nT R):nT (t::R):=by
 obtain⟨p,e,rfl,he⟩:=h;exact⟨t::p,e,rfl,he⟩
theorem aHm {c:UInt8}{r:Str}{k:Int}{t:Str}{v:Int}(h:fQ (c::r)=.ok (k,t,v)):(k=4→v=0)∧1≤k∧k≤5:=by
 rw[fQ] at h;split at h
 ·split at h
  ·cases h
  ·cases h;exact⟨fun e=>by omega,by decide,by decide⟩
 split at h
 ·unfold n8 at h;split at h
  ·cases h
  split at h
  ·cases h;exact⟨fun e=>by omega,by decide,by decide⟩
  split at h
  ·cases h;exact⟨fun e=>by omega,by decide,by decide⟩
  ·cases h;exact⟨fun e=>by omega,by decide,by decide⟩
 split at h
 ·cases h
 ·cases h;exact⟨fun _=>rfl,by decide,by decide⟩
structure LOk (L:List Tk) (n:Nat):Prop where
 e:nT L
 w:wt L≤7*n+6
 l:L.length≤n+1
 z:pG L
theorem zL:∀(f a:Nat) (s:Str) (l:List Tk),jA f a s=.ok l→LOk l s.length
 | 0,a,s,l,h=>by
  rw[jA] at h;cases h;refine⟨⟨[],_,rfl,rfl⟩,by rw[c9];show 0+6+0≤_;omega,by simp,fun t ht=>?_⟩;rw[Ar.1 ht];exact fun _=>rfl
 | f+1,a,[],l,h=>by
  rw[jA] at h;cases h;refine⟨⟨[],_,rfl,rfl⟩,by rw[c9];exact le_refl _,by simp,fun t ht=>?_⟩;rw[Ar.1 ht];exact fun _=>rfl
 | f+1,a,c::r,l,h=>by
  rw[jA] at h;split at h
  ·rename_i hb;obtain⟨g1,g2,g3,g4⟩:=zL f _ _ l h;rw[Be] at g2 g3;exact⟨g1,by omega,by omega,g4⟩
  ·cases ho:fQ (c::r) with
   | error e=>rw[ho] at h;cases h
   | ok y=>
    obtain⟨k,t,v⟩:=y;rw[ho] at h;dsimp only at h;cases q:jA f (a+t.length) ((c::r).drop t.length) with
    | error e=>rw[q,uR] at h;cases h
    | ok A=>
     rw[q,uR] at h;cases h;obtain⟨g1,g2,g3,g4⟩:=zL f _ _ A q;obtain⟨E,I⟩:=lK ho;obtain⟨B,J,M⟩:=aHm ho;rw[Be] at g2 g3;refine⟨aIn g1,?_,?_,fun u hu=>?_⟩
     ·rw[c9];show t.length+6+wt A≤_;omega
     ·rw[κ];omega
     ·rcases Aq.1 hu with rfl | hu
      ·exact B
      ·exact g4 u hu
theorem aQa {s:Str}{l:List Tk}(h:lexA s=.ok l):LOk l s.length∧s.length≤4000:=by
 unfold lexA at h;split at h
 ·cases h
 ·exact⟨zL _ _ _ _ h,by omega⟩
theorem uE:∀(f a:Nat) (s:Str) (e p:Int),jA f a s=.error (e,p)→¬e=0
 | 0,a,s,e,p,h=>by rw[jA] at h;cases h
 | f+1,a,[],e,p,h=>by rw[jA] at h;cases h
 | f+1,a,c::r,e,p,h=>by
  rw[jA] at h;split at h
  ·exact uE f _ _ e p h
  ·cases ho:fQ (c::r) with
   | error e'=>
    rw[ho] at h;dsimp only at h;cases h;exact aBt ho
   | ok y=>
    obtain⟨k,t,v⟩:=y;rw[ho] at h;dsimp only at h;cases q:jA f (a+t.length) ((c::r).drop t.length) with
    | error e'=>obtain⟨e',u⟩:=e';rw[q,uR] at h;cases h;exact uE f _ _ e p q
    | ok A=>rw[q,uR] at h;cases h
theorem aB4 {s:Str}{e p:Int}(h:lexA s=.error (e,p)):¬e=0:=by
 unfold lexA at h;split at h
 ·cases h;decide
 ·exact uE _ _ _ _ _ h
def rF:Tk:=⟨6,[],0,0⟩
def bS (s:Str):List Tk×Z:=match lexA s with
 | .ok l=>(l,⟨l,0,0⟩)
 | .error (e,p)=>([rF],⟨[rF],e,p⟩)
theorem lB (s:Str):ZA (bS s).1 (bS s).2∧wt (bS s).1≤30000∧pG (bS s).1∧(bS s).1=(bS s).2.R:=by
 unfold bS;cases h:lexA s with
 | ok l=>
  obtain⟨⟨h1,h2,r,q⟩,u⟩:=aQa h;refine⟨⟨?_,h1,by dsimp only;omega⟩,by dsimp only;omega,q,rfl⟩;show l.drop (l.length-l.length)=l;rw[Ch];rfl
 | error e=>
  obtain⟨e,p⟩:=e;refine⟨⟨rfl,⟨[],rF,rfl,rfl⟩,by show 1≤_;decide⟩,?_,?_,rfl⟩
  ·show wt [rF]≤30000;decide
  ·intro t ht;rw[Ar.1 ht];exact fun _=>rfl
def gC (s:Str):Pg×Z:=if(bS s).2.e=0 then dY (yL (bS s).2.R.length) (bS s).2 else(zPg,(bS s).2)
def cC (s:Str):Pg×Int×Int:=if(oF (gC s).2).e=0 then((gC s).1,(oF (gC s).2).e,(oF (gC s).2).p) else(zPg,(oF (gC s).2).e,(oF (gC s).2).p)
theorem aBh {L:List Tk}{ex:Nat→Z→Ex×Z}(hO:ExO L ex) (hwt:wt L≤30000):∀(f n:Nat) (p:Pg) (sigs:List Sg) (z:Z),ZA L z→PgOk n p→(gQ sigs∧sigs.length≤n)→n≤60→ZA L (dR ex f n p sigs z).2∧PgOk 60 (dR ex f n p sigs z).1.1∧(gQ (dR ex f n p sigs z).1.2∧(dR ex f n p sigs z).1.2.length≤60)
 | 0,n,p,sigs,z,h,hp,hs,hn=>by
  rw[dR];exact⟨h,⟨⟨le_trans hp.d.1 hn,hp.d.2⟩,⟨le_trans hp.c.1 hn,hp.c.2⟩,⟨le_trans hp.i.1 hn,hp.i.2⟩,⟨le_trans hp.b.1 hn,hp.b.2⟩⟩,⟨hs.1,le_trans hs.2 hn⟩⟩
 | f+1,n,p,sigs,z,h,hp,hs,hn=>by
  rw[dR];split
  ·rename_i hm;obtain⟨_,q⟩:=j0 hm;obtain⟨g1,g2,g3,_,_⟩:=aCu hO hwt (h.more [] n) hp hs;exact aBh hO hwt f (n+1) _ _ _ g1 g2 g3 q
  ·exact⟨h.more _ _,⟨⟨le_trans hp.d.1 hn,hp.d.2⟩,⟨le_trans hp.c.1 hn,hp.c.2⟩,⟨le_trans hp.i.1 hn,hp.i.2⟩,⟨le_trans hp.b.1 hn,hp.b.2⟩⟩,⟨hs.1,le_trans hs.2 hn⟩⟩
theorem PgOk.z (n:Nat):PgOk n zPg:=⟨⟨Ae _,fun d q=>(by cases q)⟩,⟨Ae _,fun d q=>(by cases q)⟩,⟨Ae _,fun d q=>(by cases q)⟩,⟨Ae _,trivial⟩⟩
theorem qW {L:List Tk}{ex:Nat→Z→Ex×Z}(hO:ExO L ex) (hwt:wt L≤30000) {z:Z}(h:ZA L z):ZA L (dY ex z).2∧PgOk 60 (dY ex z).1:=by
 obtain⟨g1,g2,g3⟩:=aBh hO hwt (z.R.length+1) 0 zPg [] z h (.z 0) ⟨fun s hs=>(by cases hs),le_refl _⟩ (Ae _);obtain⟨q,r,u,_⟩:=iI (dR ex (z.R.length+1) 0 zPg [] z).1.2 (dR ex (z.R.length+1) 0 zPg [] z).1.1.binds _ g1 g3.1 g2.b.2;exact⟨q,⟨g2.d,g2.c,g2.i,⟨by show(dI _ _ _).1.length≤_;rw[u];exact g2.b.1,r⟩⟩⟩
theorem aWr {α β:Type}(f:α→β) {c d:Prop} [Decidable c] [Decidable d] (h:d↔c) {a b:α}{x y:β}(ha:x=f a) (hb:y=f b):(if d then x else y)=f (if c then a else b):=by
 by_cases hc:c
 ·rw[ξ hc,ξ (h.2 hc)];exact ha
 ·rw[ζ hc,ζ (fun k=>hc (h.1 k))];exact hb
def tk0 (t:Tk):Tk:=⟨t.kind,t.text,t.n,0⟩
theorem k0 (t:Tk):(tk0 t).kind=t.kind:=rfl
theorem p0 (t:Tk):(tk0 t).pl=0:=rfl
def zz0 (z:Z):Z:=⟨z.R.map tk0,z.e,0⟩
theorem iA (z:Z):(zz0 z).e=z.e:=rfl
theorem rT (z:Z):(zz0 z).R.length=z.R.length:=η _
theorem aBv (z:Z):bA (zz0 z)=tk0 (bA z):=by
 obtain⟨R,e,p⟩:=z;cases R<;>rfl
theorem is0 (s:Str) (z:Z):isZ s (zz0 z)=isZ s z:=by unfold isZ;rw[aBv];rfl
theorem lX (e p:Int) (z:Z):bN e 0 (zz0 z)=zz0 (bN e p z):=by
 unfold bN;rw[iA];split<;>rfl
theorem aOb (e p:Int) (z y:Z):bN e (bA (zz0 y)).pl (zz0 z)=zz0 (bN e p z):=by rw[aBv];exact lX e p z
theorem aEi (s:Str) (z:Z):bX s (zz0 z)=((bX s z).1,zz0 (bX s z).2):=by
 unfold bX;rw[is0,iA];split
 ·unfold zz0;rw[List.map_tail]
 ·rfl
theorem jT (s:Str) (z:Z):aN s (zz0 z)=zz0 (aN s z):=by
 unfold aN;rw[aEi];dsimp only;split
 ·rfl
 ·exact aOb _ _ _ _
theorem tL (k:Int) (z:Z):aO k (zz0 z)=(tk0 (aO k z).1,zz0 (aO k z).2):=by
 unfold aO;rw[aBv,iA];show(if z.e=0∧(bA z).kind=k then _ else _)=_;split
 ·unfold zz0;rw[List.map_tail]
 ·show(_,bN 12 0 (zz0 z))=_;rw[lX 12 (bA z).pl];rfl
theorem aAs (z:Z):aU (zz0 z)=((aU z).1.map tk0,zz0 (aU z).2):=by
 unfold aU;rw[iA];split
 ·unfold zz0;rw[List.takeWhile_map,List.dropWhile_map];rfl
 ·rfl
theorem wY (n m:Nat) (a:Int) (z:Z):cB n m 0 (zz0 z)=zz0 (cB n m a z):=by
 unfold cB;split
 ·exact lX _ _ _
 ·rfl
theorem aS9 (s:Str) (z:Z):dX s (zz0 z)=dX s z:=by
 unfold dX;rw[aBv,is0];rfl
theorem aUd (s:Str) (n:Nat) (z:Z):moreA s n (zz0 z)=zz0 (moreA s n z):=by
 unfold moreA;rw[is0,aS9,iA];split
 ·exact aOb _ _ _ _
 ·rfl
theorem aW8 (z:Z):cV (zz0 z)=zz0 (cV z):=by
 unfold cV;rw[iA];split
 ·unfold zz0;rw[List.dropWhile_map];rfl
 ·rfl
theorem aHr (s:Str) (n:Nat) (z:Z):bB s n (zz0 z)=((bB s n z).1,zz0 (bB s n z).2):=by
 unfold bB;rw[aUd,aW8,aS9,iA,aBv];split
 ·rfl
 ·show(decide ((cB (n+1) 60 0 _).e=0),cB (n+1) 60 0 _)=_;rw[wY (n+1) 60 (bA (cV (moreA s n z))).pl];rfl
theorem tl0 (z:Z):tlZ (zz0 z)=zz0 (tlZ z):=by unfold tlZ zz0;rw[List.map_tail]
def er0 {α:Type}:Except PE (α×List Tk)→Except PE (α×List Tk)
 | .error (e,_)=>.error (e,0)
 | .ok (x,R)=>.ok (x,R.map tk0)
theorem aS8:∀r:TR,lV (er0 r)=er0 (lV r)
 | .error _=>rfl
 | .ok (_,[])=>rfl
 | .ok (x,t::R)=>by
  show(if isT (tk0 t) oR=true then _ else _)=er0 (lV (.ok (x,t::R)));rw[lV];show(if isT t oR=true then _ else _)=_;split<;>rfl
theorem aA1:∀f:Nat,(∀o R,cD f o (R.map tk0)=er0 (cD f o R))∧(∀o R,bV f o (R.map tk0)=er0 (bV f o R))∧(∀o x R,gF f o x (R.map tk0)=er0 (gF f o x R))
 | 0=>⟨fun o R=>by rw[cD,cD];rfl,fun o R=>by rw[bV,bV];rfl,fun o x R=>by rw[gF,gF];rfl⟩
 | f+1=>by
  obtain⟨h1,h2,q⟩:=aA1 f;refine⟨fun o R=>?_,fun o R=>?_,fun o x R=>?_⟩
  ·cases R with
   | nil=>rw[Bz,cD];rfl
   | cons t R=>
    rw[An,cD,cD];show(if t.kind=2 then _ else if t.kind=1 then _ else if isT t cW=false then _ else _)=_;split
    ·rfl
    split
    ·rfl
    split
    ·rfl
    split
    ·rfl
    ·rw[h2,aS8]
  ·rw[bV,bV,h1];cases cD f o R with
   | error e=>obtain⟨e,p⟩:=e;rfl
   | ok y=>obtain⟨x,R1⟩:=y;exact q o x R1
  ·cases R with
   | nil=>rw[Bz,gF];rfl
   | cons t R=>
    rw[An,gF,gF];show(if aSu t=true then _ else if isT t arrow=true then _ else _)=_;split
    ·have h:=h1 o (t::R);rw[An] at h;rw[h];cases cD f o (t::R) with
     | error e=>obtain⟨e,p⟩:=e;rfl
     | ok y=>obtain⟨a,R1⟩:=y;exact q o _ R1
    split
    ·rw[h2];cases bV f o R with
     | error e=>obtain⟨e,p⟩:=e;rfl
     | ok y=>obtain⟨a,R1⟩:=y;rfl
    ·rfl
def op0:Option (List Prd×List Tk)→Option (List Prd×List Tk)
 | none=>none
 | some (x,R)=>some (x,R.map tk0)
theorem aNs:∀(f:Nat) (b:Bool) (R:List Tk) (out:List Prd),eT f b (R.map tk0) out=op0 (eT f b R out)
 | 0,b,R,out=>by rw[eT,eT];rfl
 | f+1,b,[],out=>by rw[Bz,eT];rfl
 | f+1,b,t::R,out=>by
  rw[An,eT,eT,η];show(if t.kind=2 then _ else _)=_;split
  ·rw[(aA1 _).1];cases cD (3*R.length) (if b=true then 1 else 0) R with
   | error e=>obtain⟨e,p⟩:=e;rfl
   | ok y=>
    obtain⟨x,R1⟩:=y;cases R1 with
    | nil=>rfl
    | cons u R2=>
     show(if(b&&isT u tA)=true then eT f b (R2.map tk0) _ else _)=op0 (if(b&&isT u tA)=true then _ else _);split
     ·exact aNs f b R2 _
     ·rfl
  ·rfl
theorem aWa (a:Int) (R0:List Tk) (out:List Prd) (R:List Tk):yD 0 (R0.map tk0) out (R.map tk0)=er0 (yD a R0 out R):=by
 cases R with
 | nil=>rfl
 | cons u R=>
  rw[An,yD,yD];show(if isT u darrow=true then _ else _)=_;split
  ·split<;>rfl
  ·rfl
theorem aZs (a:Int) (R0:List Tk) (b:Bool) (out:List Prd) (R:List Tk):brP 0 (R0.map tk0) b out (R.map tk0)=er0 (brP a R0 b out R):=by
 cases R with
 | nil=>rfl
 | cons u R=>
  rw[An,brP,brP];show(if b=true then(if isT u oR=true then _ else _) else _)=_;split
  ·split
   ·exact aWa _ _ _ _
   ·rfl
  ·have:=aWa a R0 out (u::R);rw[An] at this;exact this
theorem aHc (R:List Tk):cH (R.map tk0)=er0 (cH R):=by
 cases R with
 | nil=>rfl
 | cons t R=>
  rw[An,cH,cH];show nW 0 (tk0 t::R.map tk0) (isT t cW) (eT ((tk0 t::R.map tk0).length+1) (isT t cW) (if isT t cW=true then R.map tk0 else tk0 t::R.map tk0) [])=_;rw[show(tk0 t::R.map tk0)=(t::R).map tk0 from rfl,η,←apply_ite (List.map tk0),aNs];cases eT ((t::R).length+1) (isT t cW) (if isT t cW=true then R else t::R) [] with
  | none=>rfl
  | some y=>obtain⟨o,R1⟩:=y;exact aZs _ _ _ _ _
theorem aK0 (R:List Tk):cG (R.map tk0)=er0 (cG R):=by
 unfold cG;rw[aHc];cases cH R with
 | error e=>obtain⟨e,p⟩:=e;rfl
 | ok y=>
  obtain⟨ps,R1⟩:=y;show nZ ps (bV (3*(R1.map tk0).length+2) 0 (R1.map tk0))=er0 (nZ ps (bV (3*R1.length+2) 0 R1));rw[η,(aA1 _).2.1];cases bV (3*R1.length+2) 0 R1 with
  | error e=>obtain⟨e,p⟩:=e;rfl
  | ok y=>obtain⟨x,R2⟩:=y;rfl
theorem yX (z:Z):bK (zz0 z)=((bK z).1,zz0 (bK z).2):=by
 unfold bK;rw[iA];split
 ·rw[show(zz0 z).R=z.R.map tk0 from rfl,aK0];cases cG z.R with
  | error e=>obtain⟨e,p⟩:=e;rfl
  | ok y=>obtain⟨x,R2⟩:=y;rfl
 ·rfl
theorem aNr (z:Z):bE (zz0 z)=((bE z).1,zz0 (bE z).2):=by
 unfold bE;rw[iA];split
 ·rw[show(zz0 z).R=z.R.map tk0 from rfl,aHc];cases cH z.R with
  | error e=>obtain⟨e,p⟩:=e;rfl
  | ok y=>obtain⟨x,R2⟩:=y;rfl
 ·rfl
theorem aY0 (z:Z):dW (zz0 z)=((dW z).1,zz0 (dW z).2):=by
 unfold dW;rw[rT,show(zz0 z).R=z.R.map tk0 from rfl,(aA1 _).1];cases cD (3*z.R.length) 0 z.R with
 | error e=>obtain⟨e,p⟩:=e;rfl
 | ok y=>obtain⟨x,R2⟩:=y;rfl
mutual
def pt0:Pt→Pt
 | .mk f _ n s l=>.mk f 0 n s (oS l)
def oS:List Pt→List Pt
 | []=>[]
 | p::l=>pt0 p::oS l
end
theorem lI:∀l:List Pt,oS l=l.map pt0
 | []=>rfl
 | p::l=>by rw[oS,lI l];rfl
theorem aBf (l m:List Pt):oS (l++m)=oS l++oS m:=by simp only[lI,Ah]
mutual
def ex0:Ex→Ex
 | .mk f _ n s ks ps bs g=>.mk f 0 n s (vI ks) (oS ps) (lY bs) g
def vI:List Ex→List Ex
 | []=>[]
 | e::l=>ex0 e::vI l
def bd0:Bd→Bd
 | .mk s _ h g e=>.mk s 0 h g (ex0 e)
def lY:List Bd→List Bd
 | []=>[]
 | b::l=>bd0 b::lY l
end
theorem aCj:∀l:List Ex,vI l=l.map ex0
 | []=>by rw[vI];rfl
 | p::l=>by rw[vI,aCj l];rfl
theorem jY:∀l:List Bd,lY l=l.map bd0
 | []=>by rw[lY];rfl
 | p::l=>by rw[lY,jY l];rfl
theorem aL1 (l m:List Ex):vI (l++m)=vI l++vI m:=by simp only[aCj,Ah]
theorem aDd (l m:List Bd):lY (l++m)=lY l++lY m:=by simp only[jY,Ah]
theorem aMs (b:Bd):(bd0 b).name=b.name:=by cases b;rw[bd0];rfl
theorem aR6 (b:Bd):(bd0 b).has=b.has:=by cases b;rw[bd0];rfl
def sg0 (s:Sg):Sg:=⟨s.name,0,s.ty⟩
theorem aT7:∀f:Nat,(∀o z,aZ f o (zz0 z)=((pt0 (aZ f o z).1.1,(aZ f o z).1.2),zz0 (aZ f o z).2))∧(∀o z,gJ f o (zz0 z)=(pt0 (gJ f o z).1,zz0 (gJ f o z).2))∧(∀o out z,eA f o (oS out) (zz0 z)=(oS (eA f o out z).1,zz0 (eA f o out z).2))
 | 0=>⟨fun o z=>by rw[aZ,aZ];rfl,fun o z=>by rw[gJ,gJ,lX 12 0];rfl,fun o out z=>by rw[eA,eA]⟩
 | f+1=>by
  obtain⟨h1,h2,r⟩:=aT7 f;refine⟨fun o z=>?_,fun o z=>?_,fun o out z=>?_⟩
  ·rw[aZ,aZ,iA,aBv,aEi,is0,jT,h2,tl0,k0,p0];split
   ·rfl
   split
   ·rfl
   split
   ·rfl
   split
   ·rfl
   split
   ·rw[lX 13 (bA z).pl];rfl
   ·rw[jT]
  ·rw[gJ,gJ,h1,aBv,iA,tl0,k0,p0];split
   ·rw[lX 12 (bA z).pl];rfl
   split
   ·have q:=r o [] (tlZ z);rw[oS] at q;rw[q,pt0];rfl
   ·rfl
  ·rw[eA,eA,h1,iA];dsimp only;split
   ·split
    ·rfl
    ·have q:=r o (out++[(aZ f o z).1.1]) (aZ f o z).2;rw[aBf,oS,oS] at q;exact q
   ·rfl
def Ex0 (ex:Nat→Z→Ex×Z):Prop:=∀deep z,ex deep (zz0 z)=(ex0 (ex deep z).1,zz0 (ex deep z).2)
theorem aS2 (l:List Tk):iQ (l.map tk0)=oS (iQ l):=by
 rw[lI];unfold iQ;rw[map_map,map_map];rfl
theorem aV9 (t:Tk):oK (tk0 t)=ex0 (oK t):=by
 exact aWr ex0 Iff.rfl rfl rfl
theorem aUi (a:Int) (l:List Tk) (b:Ex):aN8 0 (l.map tk0) (ex0 b)=ex0 (aN8 a l b):=by
 unfold aN8;rw[aS2];rfl
theorem aV0 (l:List Tk) (b:Ex):y0 (l.map tk0) (ex0 b)=ex0 (y0 l b):=by
 cases l with
 | nil=>rfl
 | cons t l=>exact aUi t.pl (t::l) b
theorem aPe (b:Bd) (s:Sch):kK (bd0 b) s=bd0 (kK b s):=by
 cases b;rw[bd0];unfold kK;rw[bd0];rfl
theorem aHi:∀(l:List Sg) (b:List Bd) (z:Z),dI (l.map sg0) (lY b) (zz0 z)=(lY (dI l b z).1,zz0 (dI l b z).2)
 | [],b,z=>by rw[Bz,dI,dI]
 | s::l,b,z=>by
  rw[An,dI,dI,iA];split
  ·rw[jY,List.findIdx?_map];have q:((fun x:Bd=>decide (x.name=(sg0 s).name))∘bd0)=fun x:Bd=>decide (x.name=s.name):=by
    funext x;show decide ((bd0 x).name=s.name)=_;rw[aMs]
   rw[q];cases b.findIdx? (fun x=>decide (x.name=s.name)) with
   | none=>
    dsimp only;rw[show(sg0 s).pl=0 from rfl,lX 21 s.pl,←jY];exact aHi l b _
   | some k=>
    dsimp only;rw[List.getElem?_map];cases b[k]? with
    | none=>rw[←jY];rfl
    | some x=>
     dsimp only[Option.map];rw[aR6];split
     ·rw[show(sg0 s).pl=0 from rfl,lX 20 s.pl,←jY];exact aHi l b _
     ·rw[show(sg0 s).ty=s.ty from rfl,aPe,←map_set,←jY];exact aHi l _ _
  ·rfl
section
variable {ex:Nat→Z→Ex×Z}(hx:Ex0 ex)
include hx
theorem aUa (deep:Nat) (z:Z):fX ex deep (zz0 z)=((ex0 (fX ex deep z).1.1,(fX ex deep z).1.2),zz0 (fX ex deep z).2):=by
 unfold fX;rw[iA,aBv,aEi,tl0,k0];dsimp only;rw[hx,jT,aV9];split
 ·rfl
 split
 ·rfl
 split<;>rfl
theorem aOw (deep:Nat) (a:Int):∀(f:Nat) (e:Ex) (z:Z),fK ex deep 0 f (ex0 e) (zz0 z)=(ex0 (fK ex deep a f e z).1,zz0 (fK ex deep a f e z).2)
 | 0,e,z=>by rw[fK,fK]
 | f+1,e,z=>by
  rw[fK,fK,iA,aUa hx];dsimp only;split
  ·split
   ·rfl
   ·exact aOw deep a f (aOx a e (fX ex deep z).1.1) _
  ·rfl
theorem aX6 (a:Int) (deep:Nat) (z:Z):sS ex 0 deep (zz0 z)=(ex0 (sS ex a deep z).1,zz0 (sS ex a deep z).2):=by
 have h:rW 0 (zz0 z)=((rW a z).1.map tk0,zz0 (rW a z).2):=by
  unfold rW;rw[aAs];dsimp only;rw[aBv,η];have q:(if(aU z).1.map tk0=[] then bN 12 (tk0 (bA (aU z).2)).pl (zz0 (aU z).2) else zz0 (aU z).2)=zz0 (if(aU z).1=[] then bN 12 (bA (aU z).2).pl (aU z).2 else(aU z).2):=by
   exact aWr zz0 List.map_eq_nil_iff (lX _ _ _) rfl
  rw[q,wY _ _ a,jT]
 unfold sS;rw[h];dsimp only;rw[hx,aUi a]
theorem aOm (q:Tk) (deep:Nat) (z:Z):dP ex (tk0 q) deep (zz0 z)=(bd0 (dP ex q deep z).1,zz0 (dP ex q deep z).2):=by
 have h:fW (tk0 q) (zz0 z)=((fW q z).1.map tk0,zz0 (fW q z).2):=by
  unfold fW;rw[aAs];dsimp only[tk0];rw[η,wY _ _ q.pl,jT]
 unfold dP;rw[h];dsimp only;rw[hx,aV0,bd0];rfl
theorem aCr (sigs:List Sg) (binds:List Bd) (deep:Nat) (z:Z):aW ex (sigs.map sg0) (lY binds) deep (zz0 z)=(((aW ex sigs binds deep z).1.1.map sg0,lY (aW ex sigs binds deep z).1.2),zz0 (aW ex sigs binds deep z).2):=by
 unfold aW;rw[tL];dsimp only;rw[aEi];dsimp only;rw[yX,aOm hx];split
 ·dsimp only;rw[Ah];rfl
 ·dsimp only;rw[aDd,lY,lY]
theorem aN6 (deep:Nat):∀(f n:Nat) (sigs:List Sg) (binds:List Bd) (z:Z),eR ex deep f n (sigs.map sg0) (lY binds) (zz0 z)=(((eR ex deep f n sigs binds z).1.1.map sg0,lY (eR ex deep f n sigs binds z).1.2),zz0 (eR ex deep f n sigs binds z).2)
 | 0,n,sigs,binds,z=>by rw[eR,eR]
 | f+1,n,sigs,binds,z=>by
  rw[eR,eR,aHr];dsimp only;rw[aCr hx];split
  ·exact aN6 deep f _ _ _ _
  ·rfl
theorem aX4 (a:Int) (deep:Nat) (z:Z):sR ex 0 deep (zz0 z)=(ex0 (sR ex a deep z).1,zz0 (sR ex a deep z).2):=by
 have q:kB ex deep (zz0 z)=(((kB ex deep z).1.1.map sg0,lY (kB ex deep z).1.2),zz0 (kB ex deep z).2):=by
  unfold kB;rw[jT,rT];have:=aN6 hx (deep+1) ((aN eB z).R.length+1) 0 [] [] (aN eB z);rw[lY] at this;exact this
 have hB:zN (((kB ex deep z).1.1.map sg0,lY (kB ex deep z).1.2),zz0 (kB ex deep z).2)=(lY (zN (kB ex deep z)).1,zz0 (zN (kB ex deep z)).2):=by
  unfold zN;dsimp only;rw[jT,aHi]
 unfold sR;rw[q,hB];dsimp only;rw[jT,hx];rfl
theorem aO0 (deep:Nat):∀(f n:Nat) (ps:List Pt) (ks:List Ex) (z:Z),eJ ex deep f n (oS ps) (vI ks) (zz0 z)=((oS (eJ ex deep f n ps ks z).1.1,vI (eJ ex deep f n ps ks z).1.2),zz0 (eJ ex deep f n ps ks z).2)
 | 0,n,ps,ks,z=>by rw[eJ,eJ]
 | f+1,n,ps,ks,z=>by
  rw[eJ,eJ,aHr];dsimp only;rw[rT,(aT7 _).2.1];dsimp only;rw[jT,hx];dsimp only;split
  ·have:=aO0 deep f (n+1) (ps++[(gJ (3*(bB b5 n z).2.R.length+1) 0 (bB b5 n z).2).1]) (ks++[(ex (deep+1) (aN arrow (gJ (3*(bB b5 n z).2.R.length+1) 0 (bB b5 n z).2).2)).1]) (ex (deep+1) (aN arrow (gJ (3*(bB b5 n z).2.R.length+1) 0 (bB b5 n z).2).2)).2;rw[aBf,oS,oS,aL1,vI,vI] at this;exact this
  ·rfl
theorem aVg (a:Int) (deep:Nat) (z:Z):hY ex 0 deep (zz0 z)=(ex0 (hY ex a deep z).1,zz0 (hY ex a deep z).2):=by
 have q:cJ ex deep (zz0 z)=(ex0 (cJ ex deep z).1,zz0 (cJ ex deep z).2):=by
  unfold cJ;rw[hx];dsimp only;rw[jT,jT]
 have hB:fI ex deep (ex0 (cJ ex deep z).1,zz0 (cJ ex deep z).2)=((oS (fI ex deep (cJ ex deep z)).1.1,vI (fI ex deep (cJ ex deep z)).1.2),zz0 (fI ex deep (cJ ex deep z)).2):=by
  unfold fI;dsimp only;rw[rT];have:=aO0 hx deep ((cJ ex deep z).2.R.length+1) 0 [] [(cJ ex deep z).1] (cJ ex deep z).2;rw[oS,vI,vI] at this;exact this
 unfold hY;rw[q,hB];dsimp only;rw[jT,aBv];exact congrArg (Prod.mk _) (aWr zz0 (by rw[lI];exact List.map_eq_nil_iff) (lX _ _ _) rfl)
theorem aP1 (deep:Nat) (z:Z):fA ex deep (zz0 z)=(ex0 (fA ex deep z).1,zz0 (fA ex deep z).2):=by
 unfold fA;rw[aUa hx,aBv,rT];dsimp only[tk0];have q:(if(fX ex deep z).1.2=false then bN 12 0 (zz0 (fX ex deep z).2) else zz0 (fX ex deep z).2)=zz0 (if(fX ex deep z).1.2=false then bN 12 (bA z).pl (fX ex deep z).2 else(fX ex deep z).2):=by
  split
  ·exact lX _ _ _
  ·rfl
 rw[q];exact aOw hx deep _ _ _ _
omit hx in
theorem aY2 (a:Int) (y:Ex×Z):sA 0 (ex0 y.1,zz0 y.2)=(ex0 (sA a y).1,zz0 (sA a y).2):=by
 unfold sA;dsimp only;rw[aEi];dsimp only;rw[yX];split<;>rfl
theorem aYd:Ex0 (aCk ex):=fun deep z=>by
 unfold aCk;rw[iA,aBv,aEi,aEi,aEi,p0];dsimp only;rw[aX6 hx (bA z).pl,aX4 hx (bA z).pl,aVg hx (bA z).pl,aP1 hx,aY2 (bA z).pl];split
 ·rfl
 split
 ·rw[lX 13 (bA z).pl];rfl
 split
 ·rfl
 split
 ·rfl
 split<;>rfl
end
theorem aUx:∀f,Ex0 (yL f)
 | 0=>fun _ z=>by
  show(zEx,bN 12 0 (zz0 z))=_;rw[lX 12 0];rfl
 | f+1=>aYd (aUx f)
def cn0 (c:Cn):Cn:=⟨c.name,0,c.fields⟩
def dt0 (d:Dt):Dt:=⟨d.name,0,d.vars,d.cons.map cn0⟩
def cl0 (c:Cl):Cl:=⟨c.name,0,c.var,c.supers,c.methods.map sg0⟩
def in0 (x:In):In:=⟨x.cls,0,x.con,x.vars,x.preds,lY x.binds⟩
def pg0 (p:Pg):Pg:=⟨p.datas.map dt0,p.classes.map cl0,p.insts.map in0,lY p.binds⟩
theorem aZt (z:Z):aOn (zz0 z)=aOn z:=by unfold aOn;rw[aBv,is0];rfl
theorem aIl:∀(f:Nat) (out:List Ty) (z:Z),bQ f out (zz0 z)=((bQ f out z).1,zz0 (bQ f out z).2)
 | 0,out,z=>by rw[bQ,bQ]
 | f+1,out,z=>by
  rw[bQ,bQ,iA,aZt,aY0];split
  ·exact aIl f _ _
  ·rfl
theorem aZp (z:Z):jF (zz0 z)=(cn0 (jF z).1,zz0 (jF z).2):=by
 unfold jF;rw[tL];dsimp only;rw[rT,aIl];dsimp only[tk0];rw[wY _ _ (aO 2 z).1.pl];rfl
theorem aVb (a:Int):∀(f:Nat) (out:List Cn) (z:Z),fO f 0 (out.map cn0) (zz0 z)=((fO f a out z).1.map cn0,zz0 (fO f a out z).2)
 | 0,out,z=>by rw[fO,fO]
 | f+1,out,z=>by
  have h1:out.map cn0++[cn0 (jF z).1]=(out++[(jF z).1]).map cn0:=by rw[Ah];rfl
  rw[fO,fO,aZp];dsimp only;rw[h1,η,wY _ _ a,aEi];dsimp only;split
  ·exact aVb a f _ _
  ·rfl
theorem aYk (z:Z):jE (zz0 z)=(dt0 (jE z).1,zz0 (jE z).2):=by
 have q:dD (zz0 z)=(tk0 (dD z).1,(dD z).2.1.map tk0,zz0 (dD z).2.2):=by
  unfold dD;rw[tL];dsimp only;rw[aAs];dsimp only[tk0];rw[η,wY _ _ (aO 2 z).1.pl,jT]
 have hC:fN (tk0 (dD z).1,(dD z).2.1.map tk0,zz0 (dD z).2.2)=((fN (dD z)).1.map cn0,zz0 (fN (dD z)).2):=by
  unfold fN;dsimp only;rw[iA,rT];split
  ·exact aVb (dD z).1.pl _ [] _
  ·rfl
 unfold jE;rw[q,hC];dsimp only[tk0,dt0];rw[map_map];rfl
theorem aF6 (v:Str) (a:Int):∀(l:List Prd) (out:List Str) (z:Z),bP v 0 l out (zz0 z)=((bP v a l out z).1,zz0 (bP v a l out z).2)
 | [],out,z=>by rw[bP,bP]
 | p::l,out,z=>by
  have q:(if p.ty.form=2∧p.ty.name=v then zz0 z else bN 12 0 (zz0 z))=zz0 (if p.ty.form=2∧p.ty.name=v then z else bN 12 a z):=by
   split
   ·rfl
   ·exact lX _ _ _
  rw[bP,bP,iA,q];split
  ·exact aF6 v a l _ _
  ·rfl
theorem aX0 (c v:Str) (z:Z):fS c v (zz0 z)=(sg0 (fS c v z).1,zz0 (fS c v z).2):=by
 unfold fS;rw[tL];dsimp only;rw[jT,yX];rfl
theorem aN4 (c v:Str) (a:Int):∀(f n:Nat) (out:List Sg) (z:Z),dK c v 0 f n (out.map sg0) (zz0 z)=((dK c v a f n out z).1.map sg0,zz0 (dK c v a f n out z).2)
 | 0,n,out,z=>by rw[dK,dK]
 | f+1,n,out,z=>by
  have h1:out.map sg0++[sg0 (fS c v (bB b5 n z).2).1]=(out++[(fS c v (bB b5 n z).2).1]).map sg0:=by rw[Ah];rfl
  rw[dK,dK,aHr];dsimp only;rw[aX0];dsimp only;rw[h1,η,wY _ _ a];split
  ·exact aN4 c v a f _ _ _
  ·rfl
theorem aVd (z:Z):eE (zz0 z)=(cl0 (eE z).1,zz0 (eE z).2):=by
 have q:aX (zz0 z)=((aX z).1,tk0 (aX z).2.1,tk0 (aX z).2.2.1,zz0 (aX z).2.2.2):=by
  unfold aX;rw[aNr];dsimp only;rw[tL];dsimp only;rw[tL]
 have hB:cO ((aX z).1,tk0 (aX z).2.1,tk0 (aX z).2.2.1,zz0 (aX z).2.2.2)=((cO (aX z)).1,zz0 (cO (aX z)).2):=by
  unfold cO;dsimp only[tk0];rw[aF6 _ (aX z).2.1.pl];dsimp only;rw[jT]
 have hC:iL ((aX z).1,tk0 (aX z).2.1,tk0 (aX z).2.2.1,zz0 (aX z).2.2.2) ((cO (aX z)).1,zz0 (cO (aX z)).2)=((iL (aX z) (cO (aX z))).1.map sg0,zz0 (iL (aX z) (cO (aX z))).2):=by
  unfold iL;dsimp only[tk0];rw[rT];exact aN4 _ _ (aX z).2.1.pl _ _ [] _
 unfold eE;rw[q,hB,hC];dsimp only;rw[jT];rfl
theorem aOa (a:Int):∀(l:List Prd) (z:Z),dL 0 l (zz0 z)=zz0 (dL a l z)
 | [],z=>by rw[dL,dL]
 | p::l,z=>by
  have q:(if z.e=0∧¬p.ty.form=2 then bN 12 0 (zz0 z) else zz0 z)=zz0 (if z.e=0∧¬p.ty.form=2 then bN 12 a z else z):=by
   split
   ·exact lX _ _ _
   ·rfl
  rw[dL,dL,iA,q];exact aOa a l _
section
variable {ex:Nat→Z→Ex×Z}(hx:Ex0 ex)
include hx
theorem aH8:∀(f n:Nat) (out:List Bd) (z:Z),cE ex f n (lY out) (zz0 z)=(lY (cE ex f n out z).1,zz0 (cE ex f n out z).2)
 | 0,n,out,z=>by rw[cE,cE]
 | f+1,n,out,z=>by
  rw[cE,cE,aHr];dsimp only;rw[tL];dsimp only;rw[aOm hx];dsimp only;split
  ·have:=aH8 f (n+1) (out++[(dP ex (aO 1 (bB b5 n z).2).1 0 (aO 1 (bB b5 n z).2).2).1]) (dP ex (aO 1 (bB b5 n z).2).1 0 (aO 1 (bB b5 n z).2).2).2;rw[aDd,lY,lY] at this;exact this
  ·rfl
omit hx in
theorem aUp (b:Bool) (z:Z):instV b (zz0 z)=((instV b z).1,zz0 (instV b z).2):=by
 unfold instV;split
 ·rw[aAs];dsimp only;rw[jT,map_map];rfl
 ·rfl
theorem aX7 (z:Z):iS ex (zz0 z)=(in0 (iS ex z).1,zz0 (iS ex z).2):=by
 have q:bO (zz0 z)=((bO z).1,tk0 (bO z).2.1,(bO z).2.2.1,tk0 (bO z).2.2.2.1,zz0 (bO z).2.2.2.2):=by
  unfold bO;rw[aNr];dsimp only;rw[tL];dsimp only;rw[aEi];dsimp only;rw[tL]
 have hB:∀(y:List Prd×Tk×Bool×Tk×Z) (w:List Str×Z),iF (y.1,tk0 y.2.1,y.2.2.1,tk0 y.2.2.2.1,zz0 y.2.2.2.2) (w.1,zz0 w.2)=zz0 (iF y w):=fun y w=>by
  unfold iF;dsimp only[tk0];have r:(if(zz0 w.2).e=0 then cB w.1.length 8 0 (zz0 w.2) else zz0 w.2)=zz0 (if w.2.e=0 then cB w.1.length 8 y.2.1.pl w.2 else w.2):=by
   rw[iA];split
   ·exact wY _ _ _ _
   ·rfl
  rw[r,aOa y.2.1.pl,jT]
 have hC:∀z,oB ex (zz0 z)=(lY (oB ex z).1,zz0 (oB ex z).2):=fun z=>by
  unfold oB;rw[rT];have:=aH8 hx (z.R.length+1) 0 [] z;rw[lY] at this;exact this
 unfold iS;rw[q];dsimp only;rw[aUp,hB (bO z) (instV (bO z).2.2.1 (bO z).2.2.2.2),hC];dsimp only;rw[jT];rfl
theorem aYg (p:Pg) (sigs:List Sg) (z:Z):eD ex (pg0 p) (sigs.map sg0) (zz0 z)=((pg0 (eD ex p sigs z).1.1,(eD ex p sigs z).1.2.map sg0),zz0 (eD ex p sigs z).2):=by
 unfold eD;rw[aEi,aEi,aEi];dsimp only;rw[aYk,aVd,aX7 hx];dsimp only;have he:=aCr hx sigs p.binds 0 z;rw[show(pg0 p).binds=lY p.binds from rfl,he];split
 ·dsimp only[pg0];rw[Ah];rfl
 split
 ·dsimp only[pg0];rw[Ah];rfl
 split
 ·dsimp only[pg0];rw[Ah];rfl
 ·rfl
theorem aT2:∀(f n:Nat) (p:Pg) (sigs:List Sg) (z:Z),dR ex f n (pg0 p) (sigs.map sg0) (zz0 z)=((pg0 (dR ex f n p sigs z).1.1,(dR ex f n p sigs z).1.2.map sg0),zz0 (dR ex f n p sigs z).2)
 | 0,n,p,sigs,z=>by rw[dR,dR]
 | f+1,n,p,sigs,z=>by
  rw[dR,dR,aHr];dsimp only;rw[aYg hx];dsimp only;split
  ·exact aT2 f _ _ _ _
  ·rfl
theorem aLj (z:Z):dY ex (zz0 z)=(pg0 (dY ex z).1,zz0 (dY ex z).2):=by
 unfold dY;rw[rT];have:=aT2 hx (z.R.length+1) 0 zPg [] z;rw[show pg0 zPg=zPg from rfl,Bz] at this;rw[this];unfold pZ;dsimp only;rw[show(pg0 (dR ex (z.R.length+1) 0 zPg [] z).1.1).binds=lY (dR ex (z.R.length+1) 0 zPg [] z).1.1.binds from rfl,aHi];rfl
end
theorem aZm (z:Z):oF (zz0 z)=zz0 (oF z):=by
 unfold oF;rw[iA,aBv];exact aWr zz0 Iff.rfl (lX _ _ _) rfl
def yR (L:List Tk):Pg×Z:=((dY (yL L.length) ⟨L,0,0⟩).1,oF (dY (yL L.length) ⟨L,0,0⟩).2)
theorem aS4 (L:List Tk):yR (L.map tk0)=(pg0 (yR L).1,zz0 (yR L).2):=by
 unfold yR;have h:=aLj (aUx L.length) ⟨L,0,0⟩;rw[show zz0 ⟨L,0,0⟩=⟨L.map tk0,0,0⟩ from rfl] at h;rw[η,h,aZm]
theorem wJ {s:Str}{L:List Tk}(h:lexA s=.ok L):cC s=if(yR L).2.e=0 then((yR L).1,(yR L).2.e,(yR L).2.p) else(zPg,(yR L).2.e,(yR L).2.p):=by
 have hb:bS s=(L,⟨L,0,0⟩):=by unfold bS;rw[h]
 unfold cC gC;rw[hb];rfl
def lx0:LE→Option (List Tk)
 | .ok l=>some (l.map tk0)
 | .error _=>none
def Lxs (s:Str) (us:List Tk):Prop:=∀f at',s.length≤f→lx0 (jA f at' s)=some us
def Lx (a:Str) (ts:List Tk):Prop:=∀b us,Lxs b us→Lxs (a++b) (ts++us)
theorem Lx.nil:Lx [] []:=fun _ _ h=>h
theorem Lx.app {a b:Str}{ts us:List Tk}(h:Lx a ts) (k:Lx b us):Lx (a++b) (ts++us):=fun c vs hc=>by
 rw[Aj,Aj];exact h _ _ (k _ _ hc)
theorem Lxs.nil:Lxs [] [rF]:=fun f at' _=>by cases f<;>rfl
theorem Lxs.lexA {s:Str}{us:List Tk}(h:Lxs s us) (hl:s.length≤4000):∃L,lexA s=.ok L∧L.map tk0=us:=by
 unfold Go.Proofs.YtkhgpgihmphfdaaGreatDoor.lexA;rw[ζ (by omega)];have:=h s.length 0 (le_refl _);generalize jA s.length 0 s=w at this ⊢;cases w with
 | error e=>cases this
 | ok L=>exact⟨L,rfl,by injection this⟩
def nY:List Str:=[[40],[41],[123],[125],[59],[44],[92],[124],[58],[95]]
def aQ4 (t:Tk):Option (List Tk)→Option (List Tk)
 | none=>none
 | some l=>some (t::l)
def aEl:Nat→Str→Option (List Tk)
 | _,[]=>some []
 | 0,_=>none
 | f+1,c::r=>
  if blB c.toNat=true then aEl f r
  else if preB [45,45] (c::r)=true then none
  else match fQ (c::r) with
   | .error _=>none
   | .ok (k,t,v)=>if t.length<(c::r).length∨t∈nY then aQ4 ⟨k,t,v,0⟩ (aEl f ((c::r).drop t.length)) else none
theorem uG (p:Nat→Bool) (b:Str):∀s:Str,cN p s<s.length→cN p (s++b)=cN p s
 | [],h=>absurd h (lt_irrefl 0)
 | c::s,h=>by
  rw[Ap,cN,cN];rw[cN,κ] at h;split
  ·rename_i hp;rw[ξ hp] at h;rw[uG p b s (by omega)]
  ·rfl
theorem mV {n:Nat}{s b:Str}(h:n≤s.length):(s++b).take n=s.take n:=Bo h
theorem lJ {x s:Str}(b:Str) (h:x.length≤s.length):preB x (s++b)=preB x s:=by
 unfold preB;rw[mV h,ψ,χ h,χ (by omega)]
theorem aKt:∀x∈yJ,x.length≤2:=by decide
theorem xD {s:Str}(b:Str) (h:2≤s.length):∀l:List Str,(∀x∈l,x.length≤2)→l.find? (fun x=>preB x (s++b))=l.find? (fun x=>preB x s)
 | [],_=>rfl
 | x::l,hl=>by
  have hx:=hl x Bp;rw[List.find?_cons,List.find?_cons,lJ b (by omega),xD b h l fun y hy=>hl y (Bc _ hy)]
theorem mW {s:Str}(b:Str) (h:2≤s.length):oP (s++b)=oP s:=by
 unfold oP;rw[xD b h yJ aKt]
theorem aNg {c:UInt8}{t:Str}(h:oP [c]=t) (hn:¬t=[]):t=[c]:=by
 unfold oP at h;cases q:yJ.find? fun x=>preB x [c] with
 | none=>rw[q] at h;exact absurd h.symm hn
 | some x=>
  rw[q] at h;have:=List.find?_some q;unfold preB at this;rw[Ab] at this;have h1:=ω this.1;have h2:=ω this.2;subst h
  match x,h1,h2,hn with
  | [d],_,h2,_=>exact h2.symm
  | d::e::y,h1,_,_=>exact absurd h1 (by simp)
theorem pU {c:UInt8}(b:Str) (h:[c]∈nY):oP (c::b)=[c]∧preB [45,45] (c::b)=false∧dgB c.toNat=false∧wiB c.toNat 97 122=false∧wiB c.toNat 65 90=false:=by
 unfold nY at h;simp only[Aq,List.cons.injEq,and_true,not_mem_nil,or_false] at h;rcases h with rfl | rfl | rfl | rfl | rfl | rfl | rfl | rfl | rfl | rfl<;>exact⟨by simp[oP,yJ,preB],by simp[preB],by decide,by decide,by decide⟩
theorem aBs {c:UInt8}{r:Str}(b:Str) {k:Int}{t:Str}{v:Int}(h:fQ (c::r)=.ok (k,t,v)) (hs:t.length<(c::r).length∨t∈nY):fQ (c::(r++b))=.ok (k,t,v):=by
 have hlen:=lK h;have A:∀p:Nat→Bool,p c.toNat=true→t=(c::r).take (cN p (c::r))→(dgB c.toNat=true∨wiB c.toNat 97 122=true∨wiB c.toNat 65 90=true)→cN p (c::r)<(c::r).length:=fun p hp ht hc=>by
  have q:=iR p (c::r);have J:t.length=cN p (c::r):=by rw[ht,Ak];omega
  rcases hs with hs | hs
  ·omega
  ·exfalso;have:∃u,t=c::u:=⟨_,by rw[ht,cN,ξ hp,As]⟩
   obtain⟨u,rfl⟩:=this;have hu:u=[]:=by
    unfold nY at hs;simp only[Aq,List.cons.injEq,not_mem_nil,or_false] at hs;rcases hs with h | h | h | h | h | h | h | h | h | h<;>exact h.2
   subst hu;obtain⟨_,_,g1,g2,g3⟩:=pU [] hs;rcases hc with hc | hc | hc
   ·rw[g1] at hc;cases hc
   ·rw[g2] at hc;cases hc
   ·rw[g3] at hc;cases hc
 rw[show c::(r++b)=(c::r)++b from rfl];rw[fQ] at h;rw[show fQ ((c::r)++b)=fQ (c::(r++b)) from rfl,fQ];rw[show c::(r++b)=(c::r)++b from rfl];by_cases y:dgB c.toNat=true
 ·rw[ξ y] at h ⊢;split at h
  ·cases h
  ·rename_i I;injection h with h;injection h with h1 h;injection h with h2 B;have q:=A dgB y h2.symm (.inl y);rw[uG _ b _ q,mV (Cp q),ζ I,B,h2,h1]
 rw[ζ y] at h ⊢;by_cases hn:wiB c.toNat 97 122=true∨wiB c.toNat 65 90=true
 ·rw[ξ hn] at h ⊢;have E:sgB c.toNat=true:=by
   rcases hn with h | h
   ·have:=aGc c.toNat;rw[h] at this;simpa using this
   ·have:=aGb c.toNat;rw[h] at this;simpa using this
  have ht:t=(c::r).take (cN sgB (c::r)):=by
   unfold n8 at h;split at h
   ·cases h
   split at h
   ·cases h;rfl
   split at h
   ·cases h;rfl
   ·cases h;rfl
  have q:=A sgB E ht (.inr hn);unfold n8 at h ⊢;rw[uG _ b _ q,mV (Cp q)];exact h
 rw[ζ hn] at h ⊢;split at h
 ·cases h
 rename_i hy;injection h with h;injection h with h1 h;injection h with h2 B;have hS:oP ((c::r)++b)=t:=by
  rcases hs with hs | hs
  ·rw[mW b (by have:=hlen.1;omega)];exact h2
  ·cases r with
   | nil=>
    have e:=aNg h2 (by rw[←h2];exact hy);rw[e] at hs ⊢;exact(pU b hs).1
   | cons d r=>rw[mW b (by rw[κ,κ];omega)];exact h2
 rw[hS,ζ (by rw[←h2];exact hy),h1,B]
theorem uB (t:Tk) (r:LE):lx0 (uR t r)=aQ4 (tk0 t) (lx0 r):=by cases r<;>rfl
theorem zK:∀(f:Nat) (a:Str) (ts:List Tk),aEl f a=some ts→Lx a ts
 | 0,[],ts,h=>by rw[aEl] at h;cases h;exact Lx.nil
 | 0,c::r,ts,h=>by simp[aEl] at h
 | f+1,[],ts,h=>by rw[aEl] at h;cases h;exact Lx.nil
 | f+1,c::r,ts,h=>by
  intro b us hb g at' O;rw[Ap,κ,ψ] at O;obtain⟨g,rfl⟩:∃k,g=k+1:=⟨g-1,by omega⟩
  rw[aEl] at h;rw[Ap,jA];by_cases q:blB c.toNat=true
  ·rw[ξ q] at h;have hB:eX (c::(r++b))=1:=by unfold eX;exact ξ q
   rw[hB,ξ (by decide)];exact zK f r ts h b us hb g _ (by show(r++b).length≤g;rw[ψ];omega)
  rw[ζ q] at h;split at h
  ·cases h
  rename_i y;cases ho:fQ (c::r) with
  | error e=>rw[ho] at h;cases h
  | ok p=>
   obtain⟨k,t,v⟩:=p;rw[ho] at h;dsimp only at h;split at h
   case isFalse=>cases h
   rename_i hs;have A:=aBs b ho hs;obtain⟨aa,u⟩:=lK ho;have B:preB [45,45] (c::(r++b))=false:=by
    by_cases h2:2≤(c::r).length
    ·rw[show c::(r++b)=(c::r)++b from rfl,lJ (x:=[45,45]) b h2];simpa using y
    ·have U:r=[]:=by
      cases r with
      | nil=>rfl
      | cons d r=>exact absurd (by rw[κ,κ];omega) h2
     subst U;have ht:t∈nY:=by
      rcases hs with hs | hs
      ·rw[κ,length_nil] at hs;omega
      ·exact hs
     have:t=[c]:=by
      have E:t.length=1:=by rw[κ,length_nil] at u;omega
      match t,E,ho with
      | [d],_,ho=>
       rw[fQ] at ho;split at ho
       ·split at ho
        ·cases ho
        ·rename_i Y _;injection ho with ho;injection ho with _ ho;injection ho with ho _;rw[cN,ξ Y,As] at ho;injection ho with ho _;rw[ho]
       split at ho
       ·rename_i hn;have I:sgB c.toNat=true:=by
         rcases hn with h | h
         ·have:=aGc c.toNat;rw[h] at this;simpa using this
         ·have:=aGb c.toNat;rw[h] at this;simpa using this
        have ht:[d]=[c].take (cN sgB [c]):=by
         unfold n8 at ho;split at ho
         ·cases ho
         split at ho
         ·injection ho with ho;injection ho with _ ho;injection ho with ho _;exact ho.symm
         split at ho
         ·injection ho with ho;injection ho with _ ho;injection ho with ho _;exact ho.symm
         ·injection ho with ho;injection ho with _ ho;injection ho with ho _;exact ho.symm
        rw[cN,ξ I,As] at ht;injection ht with ht _;rw[ht]
       split at ho
       ·cases ho
       rename_i hy;injection ho with ho;injection ho with _ ho;injection ho with ho _;exact aNg ho (by simp)
     rw[this] at ht;exact(pU b ht).2.1
   have hB:eX (c::(r++b))=0:=by
    unfold eX;dsimp only;rw[ζ q,ζ (by rw[B];exact π)]
   rw[hB,ζ (lt_irrefl 0),A];dsimp only;rw[uB];have J:(c::(r++b)).drop t.length=(c::r).drop t.length++b:=by
    rw[show c::(r++b)=(c::r)++b from rfl,B1 u]
   rw[J];cases hq:aEl f ((c::r).drop t.length) with
   | none=>rw[hq] at h;cases h
   | some M=>
    rw[hq] at h;injection h with h;subst h;rw[κ] at u;rw[zK f _ M hq b us hb g _ (by rw[ψ,Be,κ];omega)];rfl
def dlm (b:Str):Prop:=b=[]∨∃d b',b=d::b'∧sgB d.toNat=false
def LxD (a:Str) (ts:List Tk):Prop:=∀b us,dlm b→Lxs b us→Lxs (a++b) (ts++us)
theorem Lx.d {a:Str}{ts:List Tk}(h:Lx a ts):LxD a ts:=fun b us _ k=>h b us k
theorem Lx.appD {a b:Str}{ts us:List Tk}(h:Lx a ts) (k:LxD b us):LxD (a++b) (ts++us):=fun c vs q hc=>by
 rw[Aj,Aj];exact h _ _ (k _ _ q hc)
theorem LxD.app {a b:Str}{ts us:List Tk}(h:LxD a ts) (hb:∃d q,b=d::q∧sgB d.toNat=false) (k:Lx b us):Lx (a++b) (ts++us):=fun c vs hc=>by
 obtain⟨d,q,rfl,r⟩:=hb;rw[Aj,Aj];exact h _ _ (.inr ⟨d,q++c,rfl,r⟩) (k _ _ hc)
theorem LxD.appD {a b:Str}{ts us:List Tk}(h:LxD a ts) (hb:∃d q,b=d::q∧sgB d.toNat=false) (k:LxD b us):LxD (a++b) (ts++us):=fun c vs r hc=>by
 obtain⟨d,q,rfl,u⟩:=hb;rw[Aj,Aj];exact h _ _ (.inr ⟨d,q++c,rfl,u⟩) (k _ _ r hc)
theorem LxD.all {a:Str}{ts:List Tk}(h:LxD a ts):Lxs a (ts++[rF]):=by
 have:=h [] _ (.inl rfl) Lxs.nil;rwa [Bm] at this
def pA:Nat→Str→Option (List Tk)
 | _,[]=>some []
 | 0,_=>none
 | f+1,c::r=>
  if blB c.toNat=true then pA f r
  else if preB [45,45] (c::r)=true then none
  else match fQ (c::r) with
   | .error _=>none
   | .ok (k,t,v)=>if t.length<(c::r).length∨t∈nY∨¬k=4 then aQ4 ⟨k,t,v,0⟩ (pA f ((c::r).drop t.length)) else none
theorem nB {p:Nat→Bool}(hp:∀c:UInt8,p c.toNat=true→sgB c.toNat=true) {b:Str}(hb:dlm b):∀s:Str,cN p (s++b)=cN p s
 | []=>by
  rw[Az];rcases hb with rfl | ⟨d,r,rfl,q⟩
  ·rfl
  ·show cN p (d::r)=0;rw[cN,ζ (fun h=>by rw[hp d h] at q;cases q)]
 | c::s=>by rw[Ap,cN,cN,nB hp hb s]
theorem aQv:∀c:UInt8,dgB c.toNat=true→sgB c.toNat=true:=iM (p:=fun c=>dgB c.toNat=true→sgB c.toNat=true) (by decide+kernel)
theorem aP3 (k:Int) (t:Str) (v:Int) (h:fQ [45]=.ok (k,t,v)):False:=by
 have:fQ [45]=.error 10:=by kernel_rfl
 rw[this] at h;cases h
theorem aHn {c:UInt8}{r:Str}{b:Str}{k:Int}{t:Str}{v:Int}(hb:dlm b) (h:fQ (c::r)=.ok (k,t,v)) (hs:t.length<(c::r).length∨t∈nY∨¬k=4):fQ (c::(r++b))=.ok (k,t,v):=by
 by_cases hq:t.length<(c::r).length∨t∈nY
 ·exact aBs b h hq
 have u:¬k=4:=by
  rcases hs with hs | hs | hs
  ·exact absurd (.inl hs) hq
  ·exact absurd (.inr hs) hq
  ·exact hs
 rw[fQ] at h;rw[show fQ (c::(r++b))=_ from fQ.eq_2 c (r++b),show c::(r++b)=(c::r)++b from rfl];by_cases q:dgB c.toNat=true
 ·rw[ξ q] at h ⊢;rw[nB aQv hb,mV (iR _ _)];exact h
 rw[ζ q] at h ⊢;by_cases hn:wiB c.toNat 97 122=true∨wiB c.toNat 65 90=true
 ·rw[ξ hn] at h ⊢;unfold n8 at h ⊢;rw[nB (fun _ h=>h) hb,mV (iR _ _)];exact h
 rw[ζ hn] at h;split at h
 ·cases h
 ·injection h with h;injection h with h _;exact absurd h.symm u
theorem aQ1 {c:UInt8}{r:Str}{k:Int}{t:Str}{v:Int}(h:fQ (c::r)=.ok (k,t,v)) (q:¬preB [45,45] (c::r)=true) (b:Str):preB [45,45] (c::(r++b))=false:=by
 by_cases h2:2≤(c::r).length
 ·rw[show c::(r++b)=(c::r)++b from rfl,lJ (x:=[45,45]) b h2];simpa using q
 ·have u:r=[]:=by
   cases r with
   | nil=>rfl
   | cons d r=>exact absurd (by rw[κ,κ];omega) h2
  subst u;by_cases hc:c=45
  ·subst hc;exact(aP3 k t v h).elim
  ·unfold preB;rw[Bool.and_eq_false_iff];refine .inr (φ fun e=>?_);rw[Az,show([45,45]:Str).length=1+1 from rfl,As] at e;injection e with e _;exact hc e
theorem zM:∀(f:Nat) (a:Str) (ts:List Tk),pA f a=some ts→LxD a ts
 | 0,[],ts,h=>by rw[pA] at h;cases h;exact Lx.nil.d
 | 0,c::r,ts,h=>by simp[pA] at h
 | f+1,[],ts,h=>by rw[pA] at h;cases h;exact Lx.nil.d
 | f+1,c::r,ts,h=>by
  intro b us y hb g at' M;rw[Ap,κ,ψ] at M;obtain⟨g,rfl⟩:∃k,g=k+1:=⟨g-1,by omega⟩
  rw[pA] at h;rw[Ap,jA];by_cases q:blB c.toNat=true
  ·rw[ξ q] at h;have hB:eX (c::(r++b))=1:=by unfold eX;exact ξ q
   rw[hB,ξ (by decide)];exact zM f r ts h b us y hb g _ (by show(r++b).length≤g;rw[ψ];omega)
  rw[ζ q] at h;split at h
  ·cases h
  rename_i A;cases ho:fQ (c::r) with
  | error e=>rw[ho] at h;cases h
  | ok p=>
   obtain⟨k,t,v⟩:=p;rw[ho] at h;dsimp only at h;split at h
   case isFalse=>cases h
   rename_i hs;have B:=aHn y ho hs;obtain⟨O,u⟩:=lK ho;have E:=aQ1 ho A b;have hB:eX (c::(r++b))=0:=by
    unfold eX;dsimp only;rw[ζ q,ζ (by rw[E];exact π)]
   rw[hB,ζ (lt_irrefl 0),B];dsimp only;rw[uB];have I:(c::(r++b)).drop t.length=(c::r).drop t.length++b:=by
    rw[show c::(r++b)=(c::r)++b from rfl,B1 u]
   rw[I];cases hq:pA f ((c::r).drop t.length) with
   | none=>rw[hq] at h;cases h
   | some J=>
    rw[hq] at h;injection h with h;subst h;rw[κ] at u;rw[zM f _ J hq b us y hb g _ (by rw[ψ,Be,κ];omega)];rfl
def LD (s:Str):Prop:=∃ts,LxD s ts
def LQ (s:Str):Prop:=∃ts,Lx s ts
def dlh (s:Str):Prop:=∃d b,s=d::b∧sgB d.toNat=false
theorem LQ.d {s:Str}(h:LQ s):LD s:=by obtain⟨t,h⟩:=h;exact⟨t,h.d⟩
theorem LQ.app {a b:Str}(h:LQ a) (k:LQ b):LQ (a++b):=by obtain⟨t,h⟩:=h;obtain⟨u,k⟩:=k;exact⟨_,h.app k⟩
theorem LQ.appD {a b:Str}(h:LQ a) (k:LD b):LD (a++b):=by obtain⟨t,h⟩:=h;obtain⟨u,k⟩:=k;exact⟨_,h.appD k⟩
theorem LD.app {a b:Str}(h:LD a) (hb:dlh b) (k:LQ b):LQ (a++b):=by obtain⟨t,h⟩:=h;obtain⟨u,k⟩:=k;exact⟨_,h.app hb k⟩
theorem LD.appD {a b:Str}(h:LD a) (hb:dlh b) (k:LD b):LD (a++b):=by obtain⟨t,h⟩:=h;obtain⟨u,k⟩:=k;exact⟨_,h.appD hb k⟩
theorem LQ.of {s:Str}(h:(aEl s.length s).isSome=true):LQ s:=by
 cases e:aEl s.length s with
 | none=>rw[e] at h;cases h
 | some ts=>exact⟨ts,zK _ _ _ e⟩
theorem LD.of {s:Str}(h:(pA s.length s).isSome=true):LD s:=by
 cases e:pA s.length s with
 | none=>rw[e] at h;cases h
 | some ts=>exact⟨ts,zM _ _ _ e⟩
def TX (n:Nat) (l:List Int) (i j:Nat) (s:Str):Prop:=s.length+30*(l.length-j)≤30*(l.length-i)+n∧LD s
def Nx (l:List Int) (i v j:Nat):Prop:=(i<l.length∧j=i+1)∨(j=i∧l.length≤i∧v=0)
theorem Nx.le {l:List Int}{i v j:Nat}(h:Nx l i v j) (hi:i≤l.length):j≤l.length:=by
 rcases h with⟨h1,h2⟩ | ⟨h1,h2,q⟩<;>omega
theorem Nx.pos {l:List Int}{i v j:Nat}(h:Nx l i v j) (q:¬v=0):i<l.length∧j=i+1:=by
 rcases h with h | ⟨_,_,r⟩
 ·exact h
 ·exact absurd r q
theorem TX.le {n:Nat}{l:List Int}{i j:Nat}{s:Str}(h:TX n l i j s):s.length≤30*l.length+n:=by
 have:=h.1;omega
end Go.Proofs.YtkhgpgihmphfdaaGreatDoor
