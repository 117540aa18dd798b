/-
  Texts Rd28 to Rd40 in one.
-/
import Derived.Test.YtkhgpgihmphfdaaGreatDoorM8
open List (drop_eq_getElem_cons drop_eq_nil_of_le drop_length drop_zero length_append length_cons length_map length_nil length_pos_iff length_set length_singleton length_tail length_take map_append map_set mem_append mem_cons mem_cons_of_mem mem_cons_self mem_singleton take_add_one take_length)
open Nat (le_of_lt le_refl le_trans lt_of_le_of_lt lt_of_lt_of_le lt_succ_self mul_le_mul_right zero_le)
namespace Go.Proofs.YtkhgpgihmphfdaaGreatDoor
open Go Go.AM
set_option maxRecDepth 20000
set_option maxHeartbeats 4000000
def dEl:List (Nat×V):=[(0,xP),(2,.one (.vp 2 0)),(3,.one (.vp 3 0)),(5,.one (.vp 5 0)),(7,.one (.vp 7 0)),(8,.one (.vp 8 0))]
def dHl (L:List Tk) (z:Z) (nm:Tk) (vs:List Tk) (out:List Cn) (cn:Tk) (fs:List Ty):List (Nat×AObj):=[(700,zO L z),(2,.var 81 [.c (.str []),.c (.int .i64 0),.c .nl,.c .nl,.c .nl]),(3,.var 131 ((aI nm).map .c)),(5,.var 81 [.c (.str nm.text),.c (.int .i64 nm.pl),.c (.sl 1 ((vs.map (·.text)).map aK)),.c .nl,.hs 502 0 out.length out.length]),(7,.var 131 ((aI cn).map .c)),(8,.var 95 [.c (.str cn.text),.c (.int .i64 cn.pl),.hs 501 0 fs.length fs.length]),(501,.arr 43 4 (fs.map bF) 0),(502,.arr 95 3 (out.map hY) 0)]
theorem aVi {L:List Tk}{z:Z}(h:ZA L z):aW Tryz.prog 77 [xP] [(700,zO L z)] (.pa (cQ (jZ z).1)) [(700,zO L (jZ z).2)]:=by
 have hw:=kH h 2 (by decide);have h1:=h.word (k:=2) (by decide);have U:=Ze.word 2 z;unfold jZ fO;generalize aR 2 z=x1 at hw h1 U ⊢;obtain⟨A,I⟩:=x1;dsimp only at hw h1 U ⊢;have aa:=sM h1;have h2:=h1.words;have l2:=Ze.words I;have ad:(aU I).1.length≤4001:=by
  unfold aU;split
  ·have:=mG qU I.R;have:=h1.len;dsimp only;omega
  ·exact Ab _
 generalize aU I=x2 at aa h2 l2 ad ⊢;obtain⟨vs,z2⟩:=x2;dsimp only at aa h2 l2 ad ⊢;have htx:=aF4 vs ad;have ae:=n5 L z2 vs.length 8 A.pl;have h3:=h2.long vs.length 8 A.pl;have l3:=Ze.long vs.length 8 A.pl z2;generalize c0 vs.length 8 A.pl z2=z3 at ae h3 l3 ⊢;have af:=dL h3 eqS;have h4:=h3.need eqS;have l4:=Ze.need eqS z3;generalize aQ eqS z3=z4 at af h4 l4 ⊢;have hok:=fP L z4;have hvk:(vs.map aI).length=vs.length:=ξ _;refine b9 (n:=96) tok Tryz.func77 rfl rfl rfl ?_;refine sg rfl (sk 1 rfl (kc hw ?_));refine kz 2 rfl (sk 1 rfl (kc aa ?_));refine kz 1 rfl (sk 5 rfl ?_);rw[hvk];refine kc ae ?_;refine az (sk 5 rfl (kc htx ?_));refine kz 3 rfl (sk 1 rfl (kc af ?_));refine az (aA (sk 1 rfl (kc hok ?_)));refine kz 1 rfl (AWp.sub (Sub.ownCell (x:=5) (k:=4) (id:=502) 95 3 rfl rfl rfl) ?_);have hWx:∃W,W=gO (A,vs,z4):=⟨_,rfl⟩
 obtain⟨W,u⟩:=hWx;rw[←u];have hlen4:=h4.len;have ab:((decide (z4.e=0)=true∧W=iT (z4.R.length+1) A.pl [] z4∧z4.R.length<z4.R.length+1∧([]:List Cn).length+z4.R.length≤4001)∨(decide (z4.e=0)=false∧W=(([]:List Cn),z4))):=by
  unfold gO at u;by_cases he:z4.e=0
  ·refine .inl ⟨θ he,?_,by omega,by rw[length_nil];omega⟩;rw[u];exact ζ he
  ·refine .inr ⟨φ he,?_⟩;rw[u];exact η he
 refine aF (aJ (fun q:Bool×List Cn×Z×Nat=>mk [(0,xP),(2,.one (.vp 2 0)),(3,.one (.vp 3 0)),(5,.one (.vp 5 0)),(6,B q.1)] [(700,zO L q.2.2.1),(2,.var 81 [.c (.str []),.c (.int .i64 0),.c .nl,.c .nl,.c .nl]),(3,.var 131 ((aI A).map .c)),(5,.var 81 [.c (.str A.text),.c (.int .i64 A.pl),.c (.sl 1 ((vs.map (·.text)).map aK)),.c .nl,.hs 502 0 q.2.1.length q.2.1.length]),(502,.arr 95 3 (q.2.1.map hY) 0)]) (fun q=>ZA L q.2.2.1∧((q.1=true∧W=iT q.2.2.2 A.pl q.2.1 q.2.2.1∧q.2.2.1.R.length<q.2.2.2∧q.2.1.length+q.2.2.1.R.length≤4001)∨(q.1=false∧W=(q.2.1,q.2.2.1)))) (fun q=>if q.1=true then q.2.2.1.R.length+1 else 0) (decide (z4.e=0),[],z4,z4.R.length+1) ⟨h4,ab⟩ sl ?_);clear ab u hw h1 U aa h2 l2 htx ae h3 l3 af l4 hok;rintro⟨more,out,z0,f⟩ ⟨h,hinv⟩;dsimp only at h hinv ⊢;have hout:(out.map hY).length=out.length:=ξ _;refine aA (sg rfl ?_);rcases hinv with⟨hm,u,hf,hol⟩ | ⟨hm,u⟩
 case inr=>
  subst hm;refine aB rfl (fun hb=>absurd hb (by decide)) (fun _=>aH (AWp.sub (Sub.freeze (id:=502) rfl) ?_));refine sg rfl ?_;rw[u];exact aE (rtC trw)
 subst hm;obtain⟨f,rfl⟩:∃g,f=g+1:=⟨f-1,by omega⟩
 rw[iT] at u;unfold mC at u;have hw:=kH h 2 (by decide);have h1:=h.word (k:=2) (by decide);have U:=Ze.word 2 z0;generalize aR 2 z0=x1 at hw h1 U u;obtain⟨E,I⟩:=x1;dsimp only at hw h1 U u;refine aB rfl (fun _=>aD (aA (aF (sk 1 rfl (kc hw ?_))))) (fun hb=>absurd hb (by decide));refine kz 2 rfl (sg rfl (AWp.sub (Sub.ownCell (x:=8) (k:=2) (id:=501) 43 4 rfl rfl rfl) ?_));have hlen1:=h1.len;have hwtL:wt L≤wt L:=le_refl _;obtain⟨k2,k3,k4,k5⟩:=qX (I.R.length+1) [] I h1 (fun x hx=>by cases hx) (by rw[length_nil];omega);have hFx:∃F,F=cD (I.R.length+1) [] I:=⟨_,rfl⟩
 obtain⟨F,M⟩:=hFx;rw[←M] at k2 k3 k4 k5 u;refine aA (aF (aJ (fun q:List Ty×Z×Nat=>mk dEl (dHl L q.2.1 A vs out E q.1)) (fun q=>ZA L q.2.1∧F=cD q.2.2 q.1 q.2.1∧(q.2.1.e=0→q.2.1.R.length<q.2.2)∧(q.2.1.e=0→q.1.length+q.2.1.R.length≤4001)∧q.1.length≤4002) (fun q=>if q.2.1.e=0 then q.2.1.R.length+1 else 0) ([],I,I.R.length+1) ⟨h1,M,fun _=>by dsimp only;omega,fun _=>by dsimp only;rw[length_nil];omega,Ab _⟩ sl ?_))
 ·clear M hw h1 hlen1;rintro⟨fs,z,g⟩ ⟨h,M,hg,ah,hfl⟩;dsimp only at h M hg ah hfl ⊢;have ac:(fs.map bF).length=fs.length:=ξ _;have ho:=fP L z;have hn:=iA h;have hi:=aMb h cG;refine aA (aA (AWp.cut (mk ((57,B (decide (z.e=0)&&aSb z))::dEl) (dHl L z A vs out E fs)) ?_ ?_))
  ·unfold aSb;by_cases he:z.e=0
   case neg=>
    rw[φ he] at ho ⊢;rw[B6];refine aC mixed (ak 1 [] rfl (kc ho ?_));exact ak 16 [(2,.bv false),(17,.bv false)] rfl (az sl)
   rw[θ he] at ho ⊢;rw[Cd];by_cases h1:(b8 z).kind=1
   ·have d1:decide ((b8 z).kind=1)=true:=θ h1;rw[d1,B7];refine aC mixed (ak 1 [] rfl (kc ho ?_));refine ak 2 [(2,.bv true)] rfl (kcG hn ?_);exact ak 13 [(2,.bv true),(7,.bv true),(12,.bv true),(13,.bv true),(16,.bv true),(17,.bv true)] rfl (az sl)
   have d1:decide ((b8 z).kind=1)=false:=φ h1;rw[d1,A9];by_cases h2:(b8 z).kind=2
   ·have d2:decide ((b8 z).kind=2)=true:=θ h2;rw[d2,B7];refine aC mixed (ak 1 [] rfl (kc ho ?_));refine ak 2 [(2,.bv true)] rfl (kcG hn ?_);refine ak 4 [(2,.bv true),(7,.bv false)] rfl (kcG hn ?_);exact ak 8 [(2,.bv true),(7,.bv false),(12,.bv false),(13,.bv true),(16,.bv true),(17,.bv true)] rfl (az sl)
   ·have d2:decide ((b8 z).kind=2)=false:=φ h2;rw[d2,A9];refine aC mixed (ak 1 [] rfl (kc ho ?_));refine ak 2 [(2,.bv true)] rfl (kcG hn ?_);refine ak 4 [(2,.bv true),(7,.bv false)] rfl (kcG hn ?_);refine ak 5 [(2,.bv true),(7,.bv false),(12,.bv false),(13,.bv false)] rfl (kcG hi ?_);exact ak 2 [(2,.bv true),(13,.bv false),(16,.bv false),(17,.bv true)] rfl (az sl)
  refine aB rfl (fun hb=>?_) (fun hb=>?_)
  ·rw[π] at hb;have he:z.e=0:=κ hb.1;obtain⟨y,ps,w,i,e,p,ha,ht⟩:=aVp h he;obtain⟨g1,g2,g3,g4,g5⟩:=yF h;obtain⟨g,rfl⟩:∃k,g=k+1:=⟨g-1,by have:=hg he;omega⟩
   rw[cD,ζ ⟨he,hb.2⟩] at M;have hlp:=h.lp;have hol3:=ah he;generalize eM z=x at ht g1 g2 g3 g4 g5 M;obtain⟨x,z'⟩:=x;dsimp only at ht g1 g2 g3 g4 g5 M;refine aD (aF (aC mixed (ak 11 [] rfl (kc ha ?_))));refine kc ht ?_;refine ak 5 [(14,.all)] rfl (az ?_);have J:fs.map bF++[bF x]=(fs++[x]).map bF:=by rw[Af];rfl
   have hle:(fs++[x]).length=fs.length+1:=by rw[ψ];rfl
   have g5':z'.R.length≤z.R.length:=g5;have hg:=hg he;refine⟨(fs++[x],z',g),⟨g1,M,fun h0=>by have:=g4 h0;dsimp only;omega,fun h0=>by have:=g4 h0;dsimp only;rw[hle];omega,by dsimp only;rw[hle];omega⟩,?_,?_⟩
   ·dsimp only;rw[ζ he];split
    ·rename_i h0;have:=g4 h0;omega
    ·omega
   ·exact sl (he:=⟨rfl,rfl,rfl,rfl,rfl,rfl,trivial⟩) (hh:=⟨⟨_,rfl,.var rfl⟩,⟨_,rfl,.var rfl⟩,⟨_,rfl,.var rfl⟩,⟨_,rfl,.var rfl⟩,⟨_,rfl,.var rfl⟩,⟨_,rfl,.var (by rw[hle,←ac];rfl)⟩,⟨_,rfl,.arrS J⟩,⟨_,rfl,Go.AM.Ole.arr⟩,trivial⟩)
  ·have hb':¬(z.e=0∧aSb z=true):=fun hh=>by rw[θ hh.1,hh.2] at hb;cases hb
   rw[mX hb'] at M;subst M;dsimp only at u k2 k3 k4 k5;have ai:=n5 L z fs.length 8 E.pl;have h5:=h.long fs.length 8 E.pl;have l5:=Ze.long fs.length 8 E.pl z;generalize c0 fs.length 8 E.pl z=z5 at ai h5 l5 u;have J:out.map hY++[[.str E.text,.int .i64 E.pl,.sl 4 (fs.map bF)]]=(out++[(⟨E.text,E.pl,fs⟩:Cn)]).map hY:=by rw[Af];rfl
   have hle:(out++[(⟨E.text,E.pl,fs⟩:Cn)]).length=out.length+1:=by rw[ψ];rfl
   generalize hO:out++[(⟨E.text,E.pl,fs⟩:Cn)]=O at u J hle;have hl2:=n5 L z5 O.length 16 A.pl;have h6:=h5.long O.length 16 A.pl;have l6:=Ze.long O.length 16 A.pl z5;generalize c0 O.length 16 A.pl z5=Y at hl2 h6 l6 u;have hm:=kD h6 uF;have h7:=h6.may uF;have l7:(bT uF Y).1=true→(bT uF Y).2.R.length<Y.R.length:=fun hb=>by
    unfold bT at hb ⊢;split
    ·have:=h6.lp;show Y.R.tail.length<_;rw[length_tail];omega
    ·rename_i hc;rw[η hc] at hb;cases hb
   generalize bT uF Y=m at hm h7 l7 u;obtain⟨b,z7⟩:=m;dsimp only at hm h7 l7 u;refine aH (AWp.sub (Sub.freeze (id:=501) rfl) ?_);refine AWp.sub (vp 8 [.str E.text,.int .i64 E.pl,.sl 4 (fs.map bF)] (hp:=.c .refl (.c .refl (.hs rfl ac.symm (Go.AM.take_all ac.symm) .nil)))) ?_;rw[←ac] at ai;refine sk 6 rfl (kc ai ?_);refine az (sgh [(3,.all)] rfl (AWp.sub (st2:=mk [(0,xP),(2,.one (.vp 2 0)),(3,.one (.vp 3 0)),(5,.one (.vp 5 0))] [(700,zO L z5),(2,.var 81 [.c (.str []),.c (.int .i64 0),.c .nl,.c .nl,.c .nl]),(3,.var 131 ((aI A).map .c)),(5,.var 81 [.c (.str A.text),.c (.int .i64 A.pl),.c (.sl 1 ((vs.map (·.text)).map aK)),.c .nl,.hs 502 0 O.length O.length]),(502,.arr 95 3 (O.map hY) 0)]) (sl (hh:=⟨⟨_,rfl,.var rfl⟩,⟨_,rfl,.var rfl⟩,⟨_,rfl,.var rfl⟩,⟨_,rfl,.var (by rw[hle,←hout];rfl)⟩,⟨_,rfl,.arrS J⟩,trivial⟩)) ?_));refine aC mixed (ak 6 [] rfl (kc hl2 ?_));refine az (aC mixed (ak 1 [] rfl (kc hm ?_)));refine kz 1 rfl ?_;have l1':I.R.length≤z0.R.length:=U;have l6':Y.R.length≤z0.R.length:=by
    have a1:z.R.length≤I.R.length:=k4;have a2:z5.R.length≤z.R.length:=l5;have a3:Y.R.length≤z5.R.length:=l6;omega
   cases b with
   | true=>
    rw[ζ rfl] at u;have:=l7 rfl;exact⟨(true,O,z7,f),⟨h7,.inl ⟨rfl,u,by dsimp only;omega,by dsimp only;omega⟩⟩,by dsimp only;rw[ζ rfl,ζ rfl];omega,sl⟩
   | false=>
    rw[η (by decide)] at u;exact⟨(false,O,z7,f),⟨h7,.inr ⟨rfl,u⟩⟩,by dsimp only;rw[η (by decide),ζ rfl];omega,sl⟩
inductive Pt where
 | mk (form pl n:Int) (name:Str) (kids:List Pt)
def Pt.form:Pt→Int | .mk f _ _ _ _=>f
def Pt.pl:Pt→Int | .mk _ p _ _ _=>p
def Pt.n:Pt→Int | .mk _ _ n _ _=>n
def Pt.name:Pt→Str | .mk _ _ _ s _=>s
def Pt.kids:Pt→List Pt | .mk _ _ _ _ l=>l
mutual
def jL:Pt→List (List C)
 | .mk _ _ _ _ l=>aA1 l
def aA1:List Pt→List (List C)
 | []=>[]
 | p::l=>[.int .i64 p.form,.int .i64 p.pl,.int .i64 p.n,.str p.name,.sl 10 (jL p),.int .i64 0,.int .i64 0,.str [],.sl 4 [],.sl 4 []]::aA1 l
end
def bL (p:Pt):List C:=[.int .i64 p.form,.int .i64 p.pl,.int .i64 p.n,.str p.name,.sl 10 (jL p),.int .i64 0,.int .i64 0,.str [],.sl 4 [],.sl 4 []]
theorem vL:∀l:List Pt,aA1 l=l.map bL
 | []=>by simp[aA1]
 | p::l=>by rw[aA1,vL l];rfl
theorem iS (p:Pt):jL p=p.kids.map bL:=by cases p;rw[jL,vL];rfl
def zPt:Pt:=.mk 0 0 0 [] []
def aCb:Str:=[95]
def lX (t:Tk):Int:=if t.kind=1 then 2 else if t.kind=2 then 4 else 3
def jC (t:Tk):Str:=if t.kind=3 then [] else t.text
def tlZ (z:Z):Z:=⟨z.R.tail,z.e,z.p⟩
mutual
def bA:Nat→Nat→Z→(Pt×Bool)×Z
 | 0,_,z=>((zPt,false),z)
 | f+1,o,z=>
  if ¬z.e=0 then((zPt,false),z)
  else if 0<(b8 z).kind∧(b8 z).kind<4 then((.mk (lX (b8 z)) (b8 z).pl (b8 z).n (jC (b8 z)) [],true),tlZ z)
  else if(bT aCb z).1=true then((.mk 1 (b8 z).pl 0 [] [],true),(bT aCb z).2)
  else if isZ cG z=false then((zPt,false),z)
  else if 40≤o then((zPt,false),bV 13 (b8 z).pl z)
  else(((iO f (o+1) (aQ cG z)).1,true),aQ nY (iO f (o+1) (aQ cG z)).2)
def iO:Nat→Nat→Z→Pt×Z
 | 0,_,z=>(zPt,bV 12 0 z)
 | f+1,o,z=>
  if(bA f o z).1.2=false then(zPt,bV 12 (b8 z).pl (bA f o z).2)
  else if(b8 z).kind=2∧z.e=0 then(.mk 4 (b8 z).pl (b8 z).n (b8 z).text (fC f o [] (tlZ z)).1,(fC f o [] (tlZ z)).2)
  else(bA f o z).1.1 |>fun p=>(p,(bA f o z).2)
def fC:Nat→Nat→List Pt→Z→List Pt×Z
 | 0,_,out,z=>(out,z)
 | f+1,o,out,z=>
  if z.e=0 then(if(bA f o z).1.2=false then(out,(bA f o z).2) else fC f o (out++[(bA f o z).1.1]) (bA f o z).2)
  else(out,z)
end
mutual
def ptB:Pt→Prop
 | .mk _ _ _ _ l=>l.length≤4002∧zN l
def zN:List Pt→Prop
 | []=>True
 | p::l=>ptB p∧zN l
end
theorem sE:∀{l:List Pt}{p:Pt},zN l→ptB p→zN (l++[p])
 | [],_,_,h=>⟨h,trivial⟩
 | _::_,_,h,k=>⟨h.1,sE h.2 k⟩
theorem ZA.tlp {L:List Tk}{z:Z}(h:ZA L z) (q:¬(b8 z).kind=6):ZA L (tlZ z):=(h.tl q z.e z.p).1
theorem gF {L:List Tk}{z:Z}(h:ZA L z) {s:Str}(hb:(bT s z).1=true):(bT s z).2.R.length<z.R.length:=by
 unfold bT at hb ⊢;split
 ·have:=h.lp;show z.R.tail.length<_;rw[length_tail];omega
 ·rename_i hc;rw[η hc] at hb;cases hb
theorem jW (s:Str) (z:Z):(bT s z).2.e=z.e:=by unfold bT;split<;>rfl
theorem aCn {L:List Tk}{z:Z}(h:ZA L z) {s:Str}(hb:(aQ s z).e=0):(aQ s z).R.length<z.R.length:=by
 unfold aQ at hb ⊢;split
 ·rename_i hm;exact gF h hm
 ·rename_i hm;rw[η hm] at hb;unfold bV at hb;split at hb
  ·cases hb
  ·rename_i hc;exact absurd hb hc
theorem aX {s:Str}{z:Z}(hb:(aQ s z).e=0):z.e=0:=by
 unfold aQ at hb;split at hb
 ·rw[jW] at hb;exact hb
 ·unfold bV at hb;split at hb
  ·assumption
  ·exact hb
theorem cJ {e p:Int}(he:¬e=0) {z:Z}(hb:(bV e p z).e=0):False:=by
 unfold bV at hb;split at hb
 ·exact he hb
 ·rename_i h;exact h hb
theorem aKg {s:Str}{z:Z}(he:z.e=0) (h:isZ s z=true):aQ s z=tlZ z:=by
 have hm:bT s z=(true,tlZ z):=by unfold bT;rw[ζ ⟨he,h⟩];rfl
 unfold aQ;rw[hm];exact ζ rfl
theorem sY {L:List Tk}{z:Z}(h:ZA L z):(tlZ z).R.length<z.R.length:=by
 have:=h.lp;show z.R.tail.length<_;rw[length_tail];omega
def a3e (L:List Tk) (f:Nat):Prop:=∀o z,ZA L z→ZA L (bA f o z).2∧ptB (bA f o z).1.1∧((bA f o z).1.2=true→(bA f o z).2.e=0→(bA f o z).2.R.length<z.R.length)∧Ze z (bA f o z).2
def a4e (L:List Tk) (f:Nat):Prop:=∀o z,ZA L z→ZA L (iO f o z).2∧ptB (iO f o z).1∧((iO f o z).2.e=0→(iO f o z).2.R.length<z.R.length)∧Ze z (iO f o z).2
def a3i (L:List Tk) (f:Nat):Prop:=∀o out z,ZA L z→zN out→(z.e=0→out.length+z.R.length≤4001)→out.length≤4002→ZA L (fC f o out z).2∧zN (fC f o out z).1∧(fC f o out z).1.length≤4002∧Ze z (fC f o out z).2
theorem bK {s:Str}{z:Z}(h:¬z.e=0):aQ s z=z:=by
 have hm:bT s z=(false,z):=by unfold bT;rw[η (fun k=>h k.1)]
 unfold aQ;rw[hm];rw[η χ];unfold bV;rw[η h]
theorem wS:ptB zPt:=⟨Ab _,trivial⟩
theorem xK {k:Int}(h:0<k∧k<4):¬k=6:=by omega
theorem gK (L:List Tk):∀f,a3e L f∧a4e L f∧a3i L f:=by
 intro f
 induction f with
 | zero=>
  refine⟨fun o z h=>?_,fun o z h=>?_,fun o out z h hb hl q=>?_⟩
  ·rw[bA];exact⟨h,wS,fun e=>Bool.noConfusion e,Ze.refl z⟩
  ·rw[iO];exact⟨h.fail _ _,wS,fun e=>(cJ (by decide) e).elim,Ze.fail _ _ _⟩
  ·rw[fC];exact⟨h,hb,q,Ze.refl z⟩
 | succ f U=>
  obtain⟨u,O,y⟩:=U;refine⟨fun o z h=>?_,fun o z h=>?_,fun o out z h hb hl q=>?_⟩
  ·rw[bA];split
   ·exact⟨h,wS,fun e=>Bool.noConfusion e,Ze.refl z⟩
   rename_i he;split
   ·rename_i B;have:=sY h;exact⟨h.tlp (xK B),⟨Ab _,trivial⟩,fun _ _=>this,C6 this⟩
   split
   ·rename_i hm;exact⟨h.may _,⟨Ab _,trivial⟩,fun _ _=>gF h hm,Ze.may _ _⟩
   split
   ·exact⟨h,wS,fun e=>Bool.noConfusion e,Ze.refl z⟩
   split
   ·exact⟨h.fail _ _,wS,fun e=>Bool.noConfusion e,Ze.fail _ _ _⟩
   ·obtain⟨g1,g2,g3,g4⟩:=O (o+1) (aQ cG z) (h.need _);refine⟨g1.need _,g2,fun _ e=>?_,((Ze.need cG z).trans g4).trans (Ze.need _ _)⟩;have Y:=aCn g1 e;have a2:(iO f (o+1) (aQ cG z)).2.R.length≤z.R.length:=(Ze.need cG z).trans g4;exact A8 Y a2
  ·rw[iO];obtain⟨g1,g2,g3,g4⟩:=u o z h;split
   ·exact⟨g1.fail _ _,wS,fun e=>(cJ (by decide) e).elim,g4.trans (Ze.fail _ _ _)⟩
   rename_i hs;have hs:(bA f o z).1.2=true:=by simpa using hs
   split
   ·rename_i B;have ht:=sY h;obtain⟨E,I,J,M⟩:=y o [] (tlZ z) (h.tlp (by rw[B.1];decide)) trivial (fun _=>by have:=h.len;rw[length_nil];omega) (Ab _);have A:(fC f o [] (tlZ z)).2.R.length≤(tlZ z).R.length:=M;exact⟨E,⟨J,I⟩,fun _=>B3 A ht,C6 (B3 A ht)⟩
   ·exact⟨g1,g2,g3 hs,g4⟩
  ·rw[fC];split
   ·rename_i he;obtain⟨g1,g2,g3,g4⟩:=u o z h;split
    ·exact⟨g1,hb,q,g4⟩
    rename_i hs;have hs:(bA f o z).1.2=true:=by simpa using hs
    have hl:=hl he;have aa:=h.lp;have hle:(out++[(bA f o z).1.1]).length=out.length+1:=by rw[ψ];rfl
    obtain⟨E,I,J,M⟩:=y o (out++[(bA f o z).1.1]) (bA f o z).2 g1 (sE hb g2) (fun e=>by have:=g3 hs e;omega) (by omega);exact⟨E,I,J,g4.trans M⟩
   ·exact⟨h,hb,q,Ze.refl z⟩
def aWj:List C:=[.int .i64 0,.int .i64 0,.int .i64 0,.str [],.nl,.int .i64 0,.int .i64 0,.str [],.nl,.nl]
def aWd (L:List Tk) (f:Nat):Prop:=∀(o:Nat) (z:Z),ZA L z→(z.e=0→3*z.R.length≤f)→o≤40→aW Tryz.prog 97 [xP,I .i64 (o:Nat)] [(700,zO L z)] (.tup [.pa (bL (bA f o z).1.1),B (bA f o z).1.2]) [(700,zO L (bA f o z).2)]
def a3g (L:List Tk) (f:Nat):Prop:=∀(o:Nat) (z:Z),ZA L z→(z.e=0→3*z.R.length+1≤f)→o≤40→aW Tryz.prog 47 [xP,I .i64 (o:Nat)] [(700,zO L z)] (.pa (bL (iO f o z).1)) [(700,zO L (iO f o z).2)]
theorem aBc {L:List Tk}{z:Z}(h:ZA L z) (he:z.e=0) (A:0<(b8 z).kind∧(b8 z).kind<4) (o:Nat) (E J u:C) (y:(E=.nl∧J=.nl∧u=.nl)∨(E=.sl 10 []∧J=.sl 4 []∧u=.sl 4 [])):aW Tryz.prog 97 [xP,I .i64 (o:Nat)] [(700,zO L z)] (.tup [.pa [.int .i64 (lX (b8 z)),.int .i64 (b8 z).pl,.int .i64 (b8 z).n,.str (jC (b8 z)),E,.int .i64 0,.int .i64 0,.str [],J,u],B true]) [(700,zO L (tlZ z))]:=by
 have ho:=fP L z;rw[θ he] at ho;have hn:=iA h;obtain⟨_,M⟩:=h.tl (xK A) z.e z.p;have U:=h.l;have O:zO L (tlZ z)=.var 78 [.c (.sl 4 (L.map aI)),.c (.int .i64 ((L.length-z.R.length+1:Nat):Int)),.c (.int .i64 z.e),.c (.int .i64 z.p)]:=by
  unfold zO tlZ;dsimp only;rw[M]
 rw[O];generalize b8 z=t at hn A ⊢;refine b9 (n:=74) tok Tryz.func97 rfl rfl rfl ?_;refine sg rfl (aA (sk 1 rfl (kc ho ?_)));refine kz 1 rfl (aB rfl (fun hb=>absurd hb (by decide)) (fun _=>aD (sk 1 rfl (kc hn ?_))));refine kz 2 rfl ?_;have d1:decide ((0:Int)<t.kind)=true:=θ A.1;have d2:decide (t.kind<(4:Int))=true:=θ A.2;refine aA (sgh [(3,.bv true),(7,.bv true)] rfl (aB rfl (fun _=>?_) (fun hb=>absurd (hb.symm.trans d2) (by decide))));have q:t.kind=1∨t.kind=2∨t.kind=3:=by omega
 unfold zO;refine aA (agN [] rfl ?_);rcases q with q | q | q
 ·unfold lX jC;rw[ζ q,η (by omega)];refine sgh [(3,.row 1 [.int .i64 2]),(16,.row 1 [.str t.text]),(0,.all),(13,.all)] rfl ?_;rcases y with⟨rfl,rfl,rfl⟩ | ⟨rfl,rfl,rfl⟩<;>exact aE sD
 ·unfold lX jC;rw[η (by omega),ζ q,η (by omega)];refine sgh [(3,.row 2 [.int .i64 4]),(16,.row 2 [.str t.text]),(0,.all),(13,.all)] rfl ?_;rcases y with⟨rfl,rfl,rfl⟩ | ⟨rfl,rfl,rfl⟩<;>exact aE sD
 ·unfold lX jC;rw[η (by omega),η (by omega),ζ q];refine sgh [(3,.row 3 [.int .i64 3]),(16,.row 3 [.str []]),(0,.all),(13,.all)] rfl ?_;rcases y with⟨rfl,rfl,rfl⟩ | ⟨rfl,rfl,rfl⟩<;>exact aE sD
theorem oQ {L:List Tk}{z:Z}(he:¬z.e=0) (o:Nat):aW Tryz.prog 97 [xP,I .i64 (o:Nat)] [(700,zO L z)] (.tup [.pa (bL zPt),B false]) [(700,zO L z)]:=by
 have ho:=fP L z;rw[φ he] at ho;refine b9 (n:=74) tok Tryz.func97 rfl rfl rfl ?_;refine sg rfl (aA (sk 1 rfl (kc ho ?_)));exact kz 1 rfl (aB rfl (fun _=>sg rfl (aE sD)) (fun hb=>Bool.noConfusion hb))
theorem gW {e p:Int}{z:Z}(h:¬z.e=0):bV e p z=z:=by unfold bV;rw[η h]
theorem aP0 {L:List Tk}{z:Z}(h:ZA L z) (he:¬z.e=0) (o:Nat):aW Tryz.prog 47 [xP,I .i64 (o:Nat)] [(700,zO L z)] (.pa (bL zPt)) [(700,zO L z)]:=by
 have hn:=iA h;have hs:=oQ (L:=L) he o;have q:=eR L z 12 (b8 z).pl;rw[gW he] at q;refine b9 (n:=47) tok Tryz.func47 rfl rfl rfl ?_;refine sg rfl (sk 1 rfl (kc hn ?_));refine kz 2 rfl (sk 2 rfl (kc hs ?_));refine kz 6 rfl (aA (sg rfl (aB rfl (fun _=>sk 3 rfl (kc q ?_)) (fun hb=>Bool.noConfusion hb))));exact az (sg rfl (aE (rtC trw)))
theorem aL2 (L:List Tk) (f:Nat) (ih:a3g L f):aWd L (f+1):=by
 intro o z h hf ho40;rw[bA];by_cases he:z.e=0
 case neg=>
  rw[ζ he];exact oQ he o
 rw[η (fun k=>k he)];by_cases E:0<(b8 z).kind∧(b8 z).kind<4
 ·rw[ζ E];exact aBc h he E o _ _ _ (.inr ⟨rfl,rfl,rfl⟩)
 rw[η E];have ho:=fP L z;rw[θ he] at ho;have hn:=iA h;have hm:=kD h aCb;have hi:=aMb h cG;have U:=eR L z 13 (b8 z).pl;have Y:=dL h cG;have h1:=h.need cG;have u:isZ cG z=true→aQ cG z=tlZ z:=aKg he;have htl:=sY h;have J:(bT aCb z).1=false→(bT aCb z).2=z:=fun hb=>by
  unfold bT at hb ⊢;split
  ·rename_i hc;rw[ζ hc] at hb;cases hb
  ·rfl
 refine b9 (n:=74) tok Tryz.func97 rfl rfl rfl ?_;refine sg rfl (aA (sk 1 rfl (kc ho ?_)));refine kz 1 rfl (aB rfl (fun hb=>Bool.noConfusion hb) (fun _=>aD (sk 1 rfl (kc hn ?_))));refine kz 2 rfl (aA (aA (AWp.cut (mk [(0,xP),(1,I .i64 (o:Nat)),(4,.one (.vp 4 0)),(6,.one (.vp 6 0)),(21,B false)] [(700,zO L z),(4,.var 51 (aWj.map .c)),(6,.var 131 ((aI (b8 z)).map .c))]) ?_ ?_)))
 ·by_cases k0:0<(b8 z).kind
  ·have d2:decide ((b8 z).kind<(4:Int))=false:=φ (fun k=>E ⟨k0,k⟩);have d1:decide ((0:Int)<(b8 z).kind)=true:=θ k0;refine ag [(3,.bv true),(7,.bv true)] rfl ?_;rw[d2];exact sl
  ·have d1:decide ((0:Int)<(b8 z).kind)=false:=φ k0;exact ag [(3,.bv false),(7,.bv false)] rfl sl
 refine aB rfl (fun hb=>Bool.noConfusion hb) (fun _=>aD (aA (sk 1 rfl (kc hm ?_))));refine az ?_;generalize bT aCb z=m at J hm ⊢;obtain⟨b,A⟩:=m;cases b with
 | true=>
  rw[ζ rfl];exact aB rfl (fun _=>sg rfl (aE sD)) (fun hb=>Bool.noConfusion hb)
 | false=>
 have aa:A=z:=J rfl;subst aa;rw[η χ];refine aB rfl (fun hb=>Bool.noConfusion hb) (fun _=>aD (aA (sk 1 rfl (kc hi ?_))));refine kz 1 rfl ?_;generalize isZ cG A=b at u ⊢;cases b with
 | false=>
  rw[ζ rfl];exact aB rfl (fun _=>sg rfl (aE sD)) (fun hb=>Bool.noConfusion hb)
 | true=>
 have u:=u rfl;rw[η (by decide)];refine aB rfl (fun hb=>Bool.noConfusion hb) (fun _=>aD (aA (sg rfl (aB rfl (fun hb=>?_) (fun hb=>?_)))))
 ·rw[ζ (by have:=κ hb;omega)];refine sk 3 rfl (kc U ?_);exact az (sg rfl (aE sD))
 have M:¬40≤o:=by have:=Ac hb;omega
 rw[η M];have hp:=ih (o+1) (aQ cG A) h1 (fun _=>by rw[u];have:=hf he;omega) (by omega);obtain⟨g1,_⟩:=(gK L f).2.1 (o+1) (aQ cG A) h1;generalize iO f (o+1) (aQ cG A)=y at hp g1 ⊢;obtain⟨q,z2⟩:=y;dsimp only at hp g1 ⊢;have O:=dL g1 nY;refine aD (sk 1 rfl (kc Y ?_));refine az (aA (aC mixed (akN 3 [] rfl (kc hp ?_))));refine akN 2 [] rfl (az (sk 1 rfl (kc O ?_)));exact az (sg rfl (aE sD))
theorem aZu (L:List Tk) (f:Nat) (ihS:∀g,g≤f→aWd L g):a3g L (f+1):=by
 intro o z h hf O;have hn:=iA h;have hs:=ihS f (le_refl _) o z h (fun he=>by have:=hf he;omega) O;obtain⟨g1,_,g3,g4⟩:=(gK L f).1 o z h;rw[iO];by_cases hk:(b8 z).kind=2∧z.e=0
 ·obtain⟨h2,he⟩:=hk;obtain⟨f,rfl⟩:∃g,f=g+1:=⟨f-1,by have:=hf he;have:=h.lp;omega⟩
  have hst:bA (f+1) o z=((.mk (lX (b8 z)) (b8 z).pl (b8 z).n (jC (b8 z)) [],true),tlZ z):=by
   rw[bA,η (fun k=>k he),ζ (by omega)]
  rw[hst];rw[η (show ¬(true=false) from fun k=>Bool.noConfusion k),ζ ⟨h2,he⟩];have M:=aBc h he (by omega) o .nl .nl .nl (.inl ⟨rfl,rfl,rfl⟩);have e4:lX (b8 z)=4:=by unfold lX;rw[η (by omega),ζ h2]
  have e5:jC (b8 z)=(b8 z).text:=by unfold jC;rw[η (by omega)]
  rw[e4,e5] at M;have h1:=h.tlp (by rw[h2];decide);have htl:=sY h;have hlen:=h.len;have u:∃W,W=fC (f+1) o [] (tlZ z):=⟨_,rfl⟩
  obtain⟨W,u⟩:=u;rw[←u];generalize b8 z=t at hn h2 M ⊢;refine b9 (n:=47) tok Tryz.func47 rfl rfl rfl ?_;refine sg rfl (sk 1 rfl (kc hn ?_));refine kz 2 rfl (sk 2 rfl (kc M ?_));refine kz 6 rfl (aA (sg rfl (aB rfl (fun hb=>Bool.noConfusion hb) (fun _=>aD (AWp.sub (Sub.ownCell (x:=6) (k:=4) (id:=501) 51 10 rfl rfl rfl) ?_)))));refine aA (aF (aJ (fun q:List Pt×Z×Nat=>mk [(0,xP),(1,I .i64 (o:Nat)),(4,.one (.vp 4 0)),(5,.one (.vp 5 0)),(6,.one (.vp 6 0))] [(700,zO L q.2.1),(4,.var 51 (aWj.map .c)),(5,.var 131 ((aI t).map .c)),(6,.var 51 [.c (.int .i64 4),.c (.int .i64 t.pl),.c (.int .i64 t.n),.c (.str t.text),.hs 501 0 q.1.length q.1.length,.c (.int .i64 0),.c (.int .i64 0),.c (.str []),.c .nl,.c .nl]),(501,.arr 51 10 (q.1.map bL) 0)]) (fun q=>ZA L q.2.1∧W=fC q.2.2 o q.1 q.2.1∧q.2.2≤f+1∧(q.2.1.e=0→3*q.2.1.R.length+1≤q.2.2)∧(q.2.1.e=0→q.1.length+q.2.1.R.length≤4001)∧q.1.length≤4002) (fun q=>if q.2.1.e=0 then q.2.1.R.length+1 else 0) ([],tlZ z,f+1) ⟨h1,u,le_refl _,fun _=>by have:=hf he;dsimp only;omega,fun _=>by dsimp only;rw[length_nil];omega,Ab _⟩ sl ?_));clear u hs M hst e4 e5 g1 g3 g4 htl h1;rintro⟨out,E,g⟩ ⟨h',u,hgf,U,Y,hol2⟩;dsimp only at h' u hgf U Y hol2 ⊢;have hout:(out.map bL).length=out.length:=ξ _;have d2:decide (t.kind=2)=true:=θ h2;have ho:=fP L E;by_cases A:E.e=0
  case neg=>
   rw[φ A] at ho;have e0:fC g o out E=(out,E):=by
    cases g with
    | zero=>rfl
    | succ g=>rw[fC,η A]
   rw[e0] at u;refine aA (sk 1 rfl (kc ho ?_));refine ak 5 [(2,.bv false),(6,.bv false)] rfl (az (aB rfl (fun hb=>Bool.noConfusion hb) (fun _=>aH (AWp.sub (Sub.freeze (id:=501) rfl) ?_))));refine sg rfl ?_;rw[u];unfold bL;rw[iS (Pt.mk _ _ _ _ _)];exact aE (rtC trw (hc:=.agg (.c .refl (.c .refl (.c .refl (.c .refl (.hs rfl hout.symm (Go.AM.take_all hout.symm) (.c .refl (.c .refl (.c .refl (.c .nl (.c .nl .nil))))))))))))
  rw[θ A] at ho;obtain⟨g,rfl⟩:∃k,g=k+1:=⟨g-1,by have:=U A;omega⟩
  rw[fC,ζ A] at u;have hs:=ihS g (by omega) o E h' (fun _=>by have:=U A;omega) O;obtain⟨g1,_,g3,g4⟩:=(gK L g).1 o E h';have U:=U A;have Y:=Y A;have hlp:=h'.lp;refine aA (sk 1 rfl (kc ho ?_));refine ak 5 [(2,.bv true),(6,.bv true)] rfl (az (aB rfl (fun _=>?_) (fun hb=>absurd (hb.symm.trans d2) Bool.noConfusion)));generalize bA g o E=y at hs g1 g3 g4 u;obtain⟨⟨q,b⟩,z2⟩:=y;dsimp only at hs g1 g3 g4 u;refine aD (aF (sk 2 rfl (kc hs ?_)));refine kz 6 rfl (aA (sg rfl ?_));cases b with
  | false=>
   rw[ζ rfl] at u;refine aB rfl (fun _=>aH (AWp.sub (Sub.freeze (id:=501) rfl) ?_)) (fun hb=>Bool.noConfusion hb);refine sg rfl ?_;rw[u];unfold bL;rw[iS (Pt.mk _ _ _ _ _)];exact aE (rtC trw (hc:=.agg (.c .refl (.c .refl (.c .refl (.c .refl (.hs rfl hout.symm (Go.AM.take_all hout.symm) (.c .refl (.c .refl (.c .refl (.c .nl (.c .nl .nil))))))))))))
  | true=>
   rw[η (show ¬(true=false) from fun k=>Bool.noConfusion k)] at u;have hrows:out.map bL++[bL q]=(out++[q]).map bL:=by rw[Af];rfl
   have hle:(out++[q]).length=out.length+1:=by rw[ψ];rfl
   have g4':z2.R.length≤E.R.length:=g4;refine aB rfl (fun hb=>Bool.noConfusion hb) (fun _=>aD (ag [(3,.all)] rfl ⟨(out++[q],z2,g),⟨g1,u,by dsimp only;omega,fun h0=>by have:=g3 rfl h0;dsimp only;omega,fun h0=>by have:=g3 rfl h0;dsimp only;rw[hle];omega,by dsimp only;rw[hle];omega⟩,?_,?_⟩))
   ·dsimp only;rw[ζ A];split
    ·rename_i h0;have:=g3 rfl h0;omega
    ·omega
   ·exact sl (he:=⟨rfl,rfl,rfl,rfl,rfl,trivial⟩) (hh:=⟨⟨_,rfl,.var rfl⟩,⟨_,rfl,.var rfl⟩,⟨_,rfl,.var rfl⟩,⟨_,rfl,.var (by rw[hle,←hout];rfl)⟩,⟨_,rfl,.arrS hrows⟩,trivial⟩)
 rw[η hk];have J:¬z.e=0→(bA f o z).1.2=false:=fun he=>by
  cases f with
  | zero=>rfl
  | succ f=>rw[bA,ζ he]
 generalize bA f o z=y at hs g1 g3 g4 J ⊢;obtain⟨⟨q,b⟩,z1⟩:=y;dsimp only at hs g1 g3 g4 J ⊢;have hfl:=eR L z1 12 (b8 z).pl;have ho:=fP L z1;refine b9 (n:=47) tok Tryz.func47 rfl rfl rfl ?_;refine sg rfl (sk 1 rfl (kc hn ?_));refine kz 2 rfl (sk 2 rfl (kc hs ?_));refine kz 6 rfl (aA (sg rfl ?_));cases b with
 | false=>
  rw[ζ rfl];refine aB rfl (fun _=>sk 3 rfl (kc hfl ?_)) (fun hb=>Bool.noConfusion hb);exact az (sg rfl (aE (rtC trw)))
 | true=>
  rw[η (show ¬(true=false) from fun k=>Bool.noConfusion k)];have he:z.e=0:=by
   by_cases he:z.e=0
   ·exact he
   ·exact Bool.noConfusion (J he)
  have h2:¬(b8 z).kind=2:=fun h2=>hk ⟨h2,he⟩
  have d2:decide ((b8 z).kind=2)=false:=φ h2;refine aB rfl (fun hb=>Bool.noConfusion hb) (fun _=>aD (aA (aF (aJ (fun _:Unit=>mk [(0,xP),(4,.one (.vp 4 0)),(5,.one (.vp 5 0)),(6,.one (.vp 6 0))] [(700,zO L z1),(4,.var 51 (aWj.map .c)),(5,.var 131 ((aI (b8 z)).map .c)),(6,.var 51 ((bL q).map .c))]) (fun _=>True) (fun _=>0) () trivial sl ?_))));intro _ _;refine aA (aA (AWp.cut (mk [(4,.one (.vp 4 0)),(6,.one (.vp 6 0)),(31,B false)] [(700,zO L z1),(4,.var 51 (aWj.map .c)),(6,.var 51 ((bL q).map .c))]) ?_ ?_))
  ·by_cases h1:z1.e=0
   ·rw[θ h1] at ho;refine aC mixed (ak 1 [] rfl (kc ho ?_));refine ak 5 [(2,.bv true),(6,.bv true)] rfl (az ?_);rw[d2];exact sl
   ·rw[φ h1] at ho;refine aC mixed (ak 1 [] rfl (kc ho ?_));exact ak 5 [(2,.bv false),(6,.bv false)] rfl (az sl)
  exact aB rfl (fun hb=>Bool.noConfusion hb) (fun _=>aH (sg rfl (aE (rtC trw))))
theorem aX9 (L:List Tk):∀f,(∀g,g≤f→aWd L g)∧∀g,g≤f→a3g L g:=by
 intro f
 induction f with
 | zero=>
  refine⟨fun g u o z h y ho=>?_,fun g u o z h y ho=>?_⟩
  ·have h0:¬z.e=0:=fun he=>by have:=y he;have:=h.lp;omega
   obtain rfl:g=0:=by omega
   rw[bA];exact oQ h0 o
  ·have h0:¬z.e=0:=fun he=>by have:=y he;omega
   obtain rfl:g=0:=by omega
   rw[iO];dsimp only;rw[gW h0];exact aP0 h h0 o
 | succ f q=>
  refine⟨fun g u=>?_,fun g u=>?_⟩
  ·by_cases h:g≤f
   ·exact q.1 g h
   ·rw[show g=f+1 by omega];exact aL2 L f (q.2 f (le_refl _))
  ·by_cases h:g≤f
   ·exact q.2 g h
   ·rw[show g=f+1 by omega];exact aZu L f q.1
mutual
inductive Ex where
 | mk (form pl n:Int) (name:Str) (kids:List Ex) (pats:List Pt) (binds:List Bd) (sig:Sch)
inductive Bd where
 | mk (name:Str) (pl:Int) (has:Bool) (sig:Sch) (body:Ex)
end
def Ex.form:Ex→Int | .mk f _ _ _ _ _ _ _=>f
def Ex.pl:Ex→Int | .mk _ p _ _ _ _ _ _=>p
def Ex.n:Ex→Int | .mk _ _ n _ _ _ _ _=>n
def Ex.name:Ex→Str | .mk _ _ _ s _ _ _ _=>s
def Ex.kids:Ex→List Ex | .mk _ _ _ _ l _ _ _=>l
def Ex.pats:Ex→List Pt | .mk _ _ _ _ _ l _ _=>l
def Ex.binds:Ex→List Bd | .mk _ _ _ _ _ _ l _=>l
def Ex.sig:Ex→Sch | .mk _ _ _ _ _ _ _ s=>s
def Bd.name:Bd→Str | .mk s _ _ _ _=>s
def Bd.pl:Bd→Int | .mk _ p _ _ _=>p
def Bd.has:Bd→Bool | .mk _ _ h _ _=>h
def Bd.sig:Bd→Sch | .mk _ _ _ s _=>s
def Bd.body:Bd→Ex | .mk _ _ _ _ e=>e
mutual
def rZ:Ex→List (List C)
 | .mk _ _ _ _ l _ _ _=>aA2 l
def aHv:Ex→List (List C)
 | .mk _ _ _ _ _ _ l _=>i6 l
def aA2:List Ex→List (List C)
 | []=>[]
 | e::l=>[.int .i64 e.form,.int .i64 e.pl,.int .i64 e.n,.str e.name,.sl 15 (rZ e),.sl 10 (e.pats.map bL),.sl 33 (aHv e),.sl 1 (e.sig.vars.map aK),.sl 1 [],.sl 5 (e.sig.preds.map aM),.int .i64 e.sig.ty.form,.int .i64 e.sig.ty.n,.str e.sig.ty.name,.sl 4 (dK e.sig.ty),.sl 4 []]::aA2 l
def aFm:Bd→List C
 | .mk _ _ _ _ e=>[.int .i64 e.form,.int .i64 e.pl,.int .i64 e.n,.str e.name,.sl 15 (rZ e),.sl 10 (e.pats.map bL),.sl 33 (aHv e),.sl 1 (e.sig.vars.map aK),.sl 1 [],.sl 5 (e.sig.preds.map aM),.int .i64 e.sig.ty.form,.int .i64 e.sig.ty.n,.str e.sig.ty.name,.sl 4 (dK e.sig.ty),.sl 4 []]
def i6:List Bd→List (List C)
 | []=>[]
 | b::l=>([.str b.name,.int .i64 b.pl,.bool b.has,.sl 1 (b.sig.vars.map aK),.sl 1 [],.sl 5 (b.sig.preds.map aM),.int .i64 b.sig.ty.form,.int .i64 b.sig.ty.n,.str b.sig.ty.name,.sl 4 (dK b.sig.ty)]++(aFm b++[.sl 1 [],.sl 1 [],.sl 5 [],.int .i64 0,.int .i64 0,.str [],.sl 4 [],.int .i64 0]))::i6 l
end
def bR (e:Ex):List C:=[.int .i64 e.form,.int .i64 e.pl,.int .i64 e.n,.str e.name,.sl 15 (rZ e),.sl 10 (e.pats.map bL),.sl 33 (aHv e),.sl 1 (e.sig.vars.map aK),.sl 1 [],.sl 5 (e.sig.preds.map aM),.int .i64 e.sig.ty.form,.int .i64 e.sig.ty.n,.str e.sig.ty.name,.sl 4 (dK e.sig.ty),.sl 4 []]
def aY (b:Bd):List C:=[.str b.name,.int .i64 b.pl,.bool b.has,.sl 1 (b.sig.vars.map aK),.sl 1 [],.sl 5 (b.sig.preds.map aM),.int .i64 b.sig.ty.form,.int .i64 b.sig.ty.n,.str b.sig.ty.name,.sl 4 (dK b.sig.ty),
 .int .i64 b.body.form,.int .i64 b.body.pl,.int .i64 b.body.n,.str b.body.name,.sl 15 (rZ b.body),.sl 10 (b.body.pats.map bL),.sl 33 (aHv b.body),.sl 1 (b.body.sig.vars.map aK),.sl 1 [],.sl 5 (b.body.sig.preds.map aM),.int .i64 b.body.sig.ty.form,.int .i64 b.body.sig.ty.n,.str b.body.sig.ty.name,.sl 4 (dK b.body.sig.ty),.sl 4 [],
 .sl 1 [],.sl 1 [],.sl 5 [],.int .i64 0,.int .i64 0,.str [],.sl 4 [],.int .i64 0]
theorem vM:∀l:List Ex,aA2 l=l.map bR
 | []=>by simp[aA2]
 | e::l=>by rw[aA2,vM l];rfl
theorem fJ:∀l:List Bd,i6 l=l.map aY
 | []=>by simp[i6]
 | .mk s p h g e::l=>by rw[i6,fJ l,aFm];rfl
theorem nL (e:Ex):rZ e=e.kids.map bR:=by cases e;rw[rZ,vM];rfl
theorem aFl (e:Ex):aHv e=e.binds.map aY:=by cases e;rw[aHv,fJ];rfl
def zEx:Ex:=.mk 0 0 0 [] [] [] [] oW
structure Sg where
 name:Str
 pl:Int
 ty:Sch
def c6 (s:Sg):List C:=[.str s.name,.int .i64 s.pl,.sl 1 (s.ty.vars.map aK),.sl 1 [],.sl 5 (s.ty.preds.map aM),.int .i64 s.ty.ty.form,.int .i64 s.ty.ty.n,.str s.ty.ty.name,.sl 4 (dK s.ty.ty)]
def aAm:Str:=[92]
def aAj:Str:=[108,101,116]
def n3:Str:=[99,97,115,101]
def ofS:Str:=[111,102]
def inS:Str:=[105,110]
def eT:Str:=[58]
def dH:Str:=[123]
def b5:Str:=[125]
def iB (l:List Tk):List Pt:=l.map fun t=>.mk 2 t.pl 0 t.text []
section
variable (ex:Nat→Z→Ex×Z)
def r7 (t:Tk):Ex:=if t.kind=3 then .mk 3 t.pl t.n [] [] [] [] oW else .mk t.kind t.pl 0 t.text [] [] [] oW
def iV (deep:Nat) (z:Z):(Ex×Bool)×Z:=
 if ¬z.e=0 then((zEx,false),z)
 else if 0<(b8 z).kind∧(b8 z).kind<4 then((r7 (b8 z),true),tlZ z)
 else if(bT cG z).1=false then((zEx,false),z)
 else(((ex (deep+1) (bT cG z).2).1,true),aQ nY (ex (deep+1) (bT cG z).2).2)
def aQw (at':Int) (e a:Ex):Ex:=.mk 4 at' 0 [] [e,a] [] [] oW
def fZ (deep:Nat) (at':Int):Nat→Ex→Z→Ex×Z
 | 0,e,z=>(e,z)
 | f+1,e,z=>if z.e=0 then(if(iV ex deep z).1.2=false then(e,(iV ex deep z).2) else fZ deep at' f (aQw at' e (iV ex deep z).1.1) (iV ex deep z).2) else(e,z)
def aYk (at':Int) (l:List Tk) (b:Ex):Ex:=.mk 5 at' 0 [] [b] (iB l) [] oW
def uM (at':Int) (z:Z):List Tk×Z:=((aU z).1,aQ arrow (c0 (aU z).1.length 8 at' (if(aU z).1=[] then bV 12 (b8 (aU z).2).pl (aU z).2 else(aU z).2)))
def uS (at':Int) (deep:Nat) (z:Z):Ex×Z:=(aYk at' (uM at' z).1 (ex (deep+1) (uM at' z).2).1,(ex (deep+1) (uM at' z).2).2)
def gR (nm:Tk) (z:Z):List Tk×Z:=((aU z).1,aQ eqS (c0 (aU z).1.length 8 nm.pl (aU z).2))
def aBn (l:List Tk) (b:Ex):Ex:=match l with
 | []=>b
 | t::l=>aYk t.pl (t::l) b
def dP (nm:Tk) (deep:Nat) (z:Z):Bd×Z:=(.mk nm.text nm.pl false oW (aBn (gR nm z).1 (ex deep (gR nm z).2).1),(ex deep (gR nm z).2).2)
def aV (sigs:List Sg) (binds:List Bd) (deep:Nat) (z:Z):(List Sg×List Bd)×Z:=
 if(bT eT (aR 1 z).2).1=true then((sigs++[⟨(aR 1 z).1.text,(aR 1 z).1.pl,(bM (bT eT (aR 1 z).2).2).1⟩],binds),(bM (bT eT (aR 1 z).2).2).2)
 else((sigs,binds++[(dP ex (aR 1 z).1 deep (bT eT (aR 1 z).2).2).1]),(dP ex (aR 1 z).1 deep (bT eT (aR 1 z).2).2).2)
def fW (deep:Nat):Nat→Nat→List Sg→List Bd→Z→(List Sg×List Bd)×Z
 | 0,_,sigs,binds,z=>((sigs,binds),z)
 | f+1,n,sigs,binds,z=>if(b6 b5 n z).1=true then fW deep f (n+1) (aV ex sigs binds deep (b6 b5 n z).2).1.1 (aV ex sigs binds deep (b6 b5 n z).2).1.2 (aV ex sigs binds deep (b6 b5 n z).2).2 else((sigs,binds),(b6 b5 n z).2)
end
def lV (b:Bd) (s:Sch):Bd:=.mk b.name b.pl true s b.body
def dG:List Sg→List Bd→Z→List Bd×Z
 | [],b,z=>(b,z)
 | s::l,b,z=>if z.e=0 then(match b.findIdx? (fun x=>decide (x.name=s.name)) with
   | none=>dG l b (bV 21 s.pl z)
   | some k=>match b[k]? with
    | none=>(b,z)
    | some x=>if x.has=true then dG l b (bV 20 s.pl z) else dG l (b.set k (lV x s.ty)) z)
  else(b,z)
section
variable (ex:Nat→Z→Ex×Z)
def mW (deep:Nat) (z:Z):(List Sg×List Bd)×Z:=fW ex (deep+1) ((aQ dH z).R.length+1) 0 [] [] (aQ dH z)
def aE1 (y:(List Sg×List Bd)×Z):List Bd×Z:=dG y.1.1 y.1.2 (aQ b5 y.2)
def letE (at':Int) (bs:List Bd) (b:Ex):Ex:=.mk 6 at' 0 [] [b] [] bs oW
def uR (at':Int) (deep:Nat) (z:Z):Ex×Z:=(letE at' (aE1 (mW ex deep z)).1 (ex (deep+1) (aQ inS (aE1 (mW ex deep z)).2)).1,(ex (deep+1) (aQ inS (aE1 (mW ex deep z)).2)).2)
def fQ (deep:Nat):Nat→Nat→List Pt→List Ex→Z→(List Pt×List Ex)×Z
 | 0,_,ps,ks,z=>((ps,ks),z)
 | f+1,n,ps,ks,z=>if(b6 b5 n z).1=true then fQ deep f (n+1) (ps++[(iO (3*(b6 b5 n z).2.R.length+1) 0 (b6 b5 n z).2).1]) (ks++[(ex (deep+1) (aQ arrow (iO (3*(b6 b5 n z).2.R.length+1) 0 (b6 b5 n z).2).2)).1]) (ex (deep+1) (aQ arrow (iO (3*(b6 b5 n z).2.R.length+1) 0 (b6 b5 n z).2).2)).2
  else((ps,ks),(b6 b5 n z).2)
def dE (deep:Nat) (z:Z):Ex×Z:=((ex (deep+1) z).1,aQ dH (aQ ofS (ex (deep+1) z).2))
def i7 (deep:Nat) (y:Ex×Z):(List Pt×List Ex)×Z:=fQ ex deep (y.2.R.length+1) 0 [] [y.1] y.2
def aPq (at':Int) (ps:List Pt) (ks:List Ex):Ex:=.mk 7 at' 0 [] ks ps [] oW
def iH (at':Int) (deep:Nat) (z:Z):Ex×Z:=(aPq at' (i7 ex deep (dE ex deep z)).1.1 (i7 ex deep (dE ex deep z)).1.2,
 if(i7 ex deep (dE ex deep z)).1.1=[] then bV 12 (b8 (i7 ex deep (dE ex deep z)).2).pl (aQ b5 (i7 ex deep (dE ex deep z)).2) else aQ b5 (i7 ex deep (dE ex deep z)).2)
def a3v (at':Int) (e:Ex) (s:Sch):Ex:=.mk 8 at' 0 [] [e] [] [] s
def uN (at':Int) (y:Ex×Z):Ex×Z:=if(bT eT y.2).1=true then(a3v at' y.1 (bM (bT eT y.2).2).1,(bM (bT eT y.2).2).2) else(y.1,(bT eT y.2).2)
def gC (deep:Nat) (z:Z):Ex×Z:=fZ ex deep (b8 z).pl (z.R.length+1) (iV ex deep z).1.1 (if(iV ex deep z).1.2=false then bV 12 (b8 z).pl (iV ex deep z).2 else(iV ex deep z).2)
def aAx (deep:Nat) (z:Z):Ex×Z:=
 if ¬z.e=0 then(zEx,z)
 else if 40<deep then(zEx,bV 13 (b8 z).pl z)
 else if(bT aAm z).1=true then uS ex (b8 z).pl deep (bT aAm z).2
 else if(bT aAj z).1=true then uR ex (b8 z).pl deep (bT aAj z).2
 else if(bT n3 z).1=true then iH ex (b8 z).pl deep (bT n3 z).2
 else uN (b8 z).pl (gC ex deep z)
end
def yP:Nat→Nat→Z→Ex×Z
 | 0=>fun _ z=>(zEx,bV 12 0 z)
 | f+1=>aAx (yP f)
structure SchOk (s:Sch):Prop where
 t:WF s.ty∧tn s.ty≤30000
 p:∀p∈s.preds,WF p.ty∧tn p.ty≤30000
 l:s.preds.length≤4001
 v:s.vars.length≤120060000
theorem SchOk.z:SchOk oW:=⟨⟨⟨rfl,rfl⟩,by unfold oW zTy;rw[tn,tns];decide⟩,fun p hp=>(by cases hp),Ab _,Ab _⟩
mutual
def oN:Ex→Prop
 | .mk f _ _ _ ks ps bs s=>(ks.length≤4002∧ps.length≤4002∧bs.length≤4002)∧SchOk s∧((f=4→ks.length=2)∧(f=5∨f=6∨f=8→ks.length=1)∧(f=7→ks.length=ps.length+1))∧zN ps∧rY ks∧eY bs
def rY:List Ex→Prop
 | []=>True
 | e::l=>oN e∧rY l
def a1a:Bd→Prop
 | .mk _ _ _ s e=>SchOk s∧oN e
def eY:List Bd→Prop
 | []=>True
 | b::l=>a1a b∧eY l
end
theorem tY:∀{l:List Ex}{p:Ex},rY l→oN p→rY (l++[p])
 | [],_,_,h=>⟨h,trivial⟩
 | _::_,_,h,k=>⟨h.1,tY h.2 k⟩
theorem pY:∀{l:List Bd}{p:Bd},eY l→a1a p→eY (l++[p])
 | [],_,_,h=>⟨h,trivial⟩
 | _::_,_,h,k=>⟨h.1,pY h.2 k⟩
theorem jP:∀{l:List Bd},eY l↔∀b∈l,a1a b
 | []=>⟨fun _ b hb=>(by cases hb),fun _=>trivial⟩
 | a::l=>⟨fun h b hb=>by
   rcases Aq.1 hb with rfl | hb
   ·exact h.1
   ·exact jP.1 h.2 b hb,fun h=>⟨h a Bt,jP.2 fun b hb=>h b (Bf _ hb)⟩⟩
theorem oN.z:oN zEx:=⟨⟨Ab _,Ab _,Ab _⟩,.z,⟨fun h=>by omega,fun h=>by omega,fun h=>by omega⟩,trivial,trivial,trivial⟩
theorem aDv:∀l:List Tk,zN (iB l)
 | []=>trivial
 | _::l=>⟨⟨Ab _,trivial⟩,aDv l⟩
theorem sU (l:List Tk):(iB l).length=l.length:=ξ _
theorem gJ {L:List Tk}{z:Z}(h:ZA L z) (hwt:wt L≤30000):ZA L (bM z).2∧SchOk (bM z).1∧((bM z).2.e=0→(bM z).2.R.length<z.R.length)∧Ze z (bM z).2:=by
 refine⟨h.scheme,?_⟩;have hw:=h.wt;have hl:=h.len;unfold bM;split
 ·rename_i he;have q:= @qN z.R;cases hs:cT z.R with
  | error e=>
   obtain⟨e,p⟩:=e;exact⟨.z,fun h0=>absurd h0 (q hs),Ze.refl z⟩
  | ok y=>
   obtain⟨s,R'⟩:=y;obtain⟨_,⟨p,h2,I⟩,B,J,u,M,E⟩:=aRa hs;have A:R'.length<z.R.length:=by rw[h2,ψ];omega
   refine⟨⟨⟨B,by show tn s.ty≤_;omega⟩,fun p hp=>⟨(u p hp).1,by have:=(u p hp).2;omega⟩,by show s.preds.length≤_;omega,?_⟩,fun _=>A,C6 A⟩;show s.vars.length≤_;rw[E];unfold aWm;have g1:=aAp (W:=30000) s.preds [] (fun p hp=>by have:=(u p hp).2;omega);have g2:=lN (tfR s.ty) (gP [] s.preds);have g3:=oY s.ty;have g4:s.preds.length*30000≤4001*30000:=A2 _ (by omega);rw[length_nil] at g1;omega
 ·rename_i he;exact⟨.z,fun h0=>absurd h0 he,Ze.refl z⟩
def ExO (L:List Tk) (ex:Nat→Z→Ex×Z):Prop:=∀deep z,ZA L z→ZA L (ex deep z).2∧oN (ex deep z).1∧((ex deep z).2.e=0→(ex deep z).2.R.length<z.R.length)∧Ze z (ex deep z).2
section
variable {L:List Tk}{ex:Nat→Z→Ex×Z}(hO:ExO L ex) (hwt:wt L≤30000)
include hO
theorem lL (deep:Nat) {z:Z}(h:ZA L z):ZA L (iV ex deep z).2∧oN (iV ex deep z).1.1∧((iV ex deep z).1.2=true→(iV ex deep z).2.e=0→(iV ex deep z).2.R.length<z.R.length)∧Ze z (iV ex deep z).2:=by
 unfold iV;split
 ·exact⟨h,oN.z,fun e=>Bool.noConfusion e,Ze.refl z⟩
 split
 ·rename_i q;have:=sY h;refine⟨h.tlp (xK q),?_,fun _ _=>this,C6 this⟩;unfold r7;split
  ·exact⟨⟨Ab _,Ab _,Ab _⟩,.z,⟨fun h=>by omega,fun h=>by omega,fun h=>by omega⟩,trivial,trivial,trivial⟩
  ·exact⟨⟨Ab _,Ab _,Ab _⟩,.z,⟨fun h=>by omega,fun h=>by omega,fun h=>by omega⟩,trivial,trivial,trivial⟩
 split
 ·exact⟨h,oN.z,fun e=>Bool.noConfusion e,Ze.refl z⟩
 ·obtain⟨g1,g2,g3,g4⟩:=hO (deep+1) _ (h.may cG);have g5:=((Ze.may cG z).trans g4)
  exact⟨g1.need _,g2,fun _ e=>A8 (aCn g1 e) g5,g5.trans (Ze.need _ _)⟩
theorem sQ (deep:Nat) (a:Int):∀(f:Nat) (e:Ex) (z:Z),ZA L z→oN e→ZA L (fZ ex deep a f e z).2∧oN (fZ ex deep a f e z).1∧Ze z (fZ ex deep a f e z).2
 | 0,e,z,h,he=>⟨h,he,Ze.refl z⟩
 | f+1,e,z,h,he=>by
  rw[fZ];obtain⟨g1,g2,_,g4⟩:=lL hO deep h;split
  ·split
   ·exact⟨g1,he,g4⟩
   ·obtain⟨q,u,y⟩:=sQ deep a f (aQw a e (iV ex deep z).1.1) _ g1 ⟨⟨show 2≤4002 by decide,Ab _,Ab _⟩,.z,⟨fun _=>rfl,fun h=>by omega,fun h=>by omega⟩,trivial,⟨he,g2,trivial⟩,trivial⟩;exact⟨q,u,g4.trans y⟩
  ·exact⟨h,he,Ze.refl z⟩
omit hO in
theorem fE {z:Z}(h:ZA L z):(aU z).1.length≤4001:=by
 unfold aU;split
 ·have:=mG qU z.R;have:=h.len;dsimp only;omega
 ·exact Ab _
omit hO in
theorem aKt {a:Int}{l:List Tk}{b:Ex}(hl:l.length≤4001) (hb:oN b):oN (aYk a l b):=⟨⟨show 1≤4002 by decide,by rw[sU];omega,Ab _⟩,.z,⟨fun h=>by omega,fun _=>rfl,fun h=>by omega⟩,aDv l,⟨hb,trivial⟩,trivial⟩
omit hO in
theorem aCs (a:Int) {z:Z}(h:ZA L z):ZA L (uM a z).2∧(uM a z).1.length≤4001∧Ze z (uM a z).2:=by
 unfold uM;refine⟨?_,fE h,?_⟩
 ·refine ZA.need (ZA.long ?_ _ _ _) _;split
  ·exact h.words.fail _ _
  ·exact h.words
 ·refine Ze.trans ?_ ((Ze.long _ _ _ _).trans (Ze.need _ _));split
  ·exact(Ze.words z).trans (Ze.fail _ _ _)
  ·exact Ze.words z
theorem aT2 (a:Int) (deep:Nat) {z:Z}(h:ZA L z):ZA L (uS ex a deep z).2∧oN (uS ex a deep z).1∧((uS ex a deep z).2.e=0→(uS ex a deep z).2.R.length<z.R.length)∧Ze z (uS ex a deep z).2:=by
 obtain⟨h1,h2,q⟩:=aCs a h;obtain⟨g1,g2,g3,g4⟩:=hO (deep+1) _ h1;exact⟨g1,aKt h2 g2,fun e=>A8 (g3 e) q,q.trans g4⟩
omit hO in
theorem y7 (q:Tk) {z:Z}(h:ZA L z):ZA L (gR q z).2∧(gR q z).1.length≤4001∧Ze z (gR q z).2:=
 ⟨(h.words.long _ _ _).need _,fE h,(Ze.words z).trans ((Ze.long _ _ _ _).trans (Ze.need _ _))⟩
theorem pX (q:Tk) (deep:Nat) {z:Z}(h:ZA L z):ZA L (dP ex q deep z).2∧a1a (dP ex q deep z).1∧((dP ex q deep z).2.e=0→(dP ex q deep z).2.R.length<z.R.length)∧Ze z (dP ex q deep z).2:=by
 obtain⟨h1,h2,u⟩:=y7 q h;obtain⟨g1,g2,g3,g4⟩:=hO deep _ h1;refine⟨g1,⟨.z,?_⟩,fun e=>A8 (g3 e) u,u.trans g4⟩;unfold aBn;split
 ·exact g2
 ·rename_i t l hl;rw[hl] at h2;exact aKt h2 g2
end
def gY (l:List Sg):Prop:=∀s∈l,SchOk s.ty
theorem aJc {l:List Sg}{s:Sg}(h:gY l) (k:SchOk s.ty):gY (l++[s]):=fun x hx=>by
 rcases A4.1 hx with hx | hx
 ·exact h x hx
 ·rw[Am.1 hx];exact k
theorem eH {s:Str}{n:Nat}{z:Z}(h:(b6 s n z).1=true):(b6 s n z).2.e=0∧n+1≤60:=by
 unfold b6 at h ⊢;split
 ·rename_i hc;rw[ζ hc] at h;cases h
 ·rename_i hc;rw[η hc] at h;have h:=κ h;refine⟨h,?_⟩;unfold c0 at h;split at h
  ·exact(cJ (by decide) h).elim
  ·omega
theorem Ze.semi (z:Z):Ze z (dC z):=by
 unfold dC;split
 ·exact mZ _ _
 ·exact Ze.refl z
theorem Ze.more (s:Str) (n:Nat) (z:Z):Ze z (b6 s n z).2:=by
 have h1:Ze z (moreA s n z):=by
  unfold moreA;split
  ·exact Ze.fail _ _ z
  ·exact Ze.refl z
 unfold b6;split
 ·exact h1.trans (Ze.semi _)
 ·exact h1.trans ((Ze.semi _).trans (Ze.long _ _ _ _))
theorem rH {b:List Bd}{p:Bd→Bool}{k:Nat}(h:b.findIdx? p=some k):k<b.length:=by
 rw[List.findIdx?_eq_some_iff_getElem] at h;exact h.1
theorem gV {L:List Tk}:∀(l:List Sg) (b:List Bd) (z:Z),ZA L z→gY l→eY b→ZA L (dG l b z).2∧eY (dG l b z).1∧(dG l b z).1.length=b.length∧Ze z (dG l b z).2
 | [],b,z,h,_,hb=>⟨h,hb,rfl,Ze.refl z⟩
 | s::l,b,z,h,hs,hb=>by
  have hl:gY l:=fun x hx=>hs x (Bf _ hx)
  rw[dG];split
  ·split
   ·obtain⟨g1,g2,g3,g4⟩:=gV l b (bV 21 s.pl z) (h.fail _ _) hl hb;exact⟨g1,g2,g3,(Ze.fail _ _ _).trans g4⟩
   ·rename_i k u;split
    ·exact⟨h,hb,rfl,Ze.refl z⟩
    ·rename_i x hx;split
     ·obtain⟨g1,g2,g3,g4⟩:=gV l b (bV 20 s.pl z) (h.fail _ _) hl hb;exact⟨g1,g2,g3,(Ze.fail _ _ _).trans g4⟩
     ·have q:eY (b.set k (lV x s.ty)):=jP.2 fun y hy=>by
       rcases List.mem_or_eq_of_mem_set hy with hy | rfl
       ·exact jP.1 hb y hy
       ·have:=jP.1 hb x (ε hx);cases x with
        | mk n p hh sg e=>exact⟨hs s Bt,this.2⟩
      obtain⟨g1,g2,g3,g4⟩:=gV l (b.set k (lV x s.ty)) z h hl q;exact⟨g1,g2,by rw[g3,C3],g4⟩
  ·exact⟨h,hb,rfl,Ze.refl z⟩
section
variable {L:List Tk}{ex:Nat→Z→Ex×Z}(hO:ExO L ex) (hwt:wt L≤30000)
include hO hwt
theorem kV (sigs:List Sg) (binds:List Bd) (deep:Nat) {z:Z}(h:ZA L z) (hs:gY sigs) (hb:eY binds):ZA L (aV ex sigs binds deep z).2∧gY (aV ex sigs binds deep z).1.1∧eY (aV ex sigs binds deep z).1.2∧
  (aV ex sigs binds deep z).1.1.length≤sigs.length+1∧(aV ex sigs binds deep z).1.2.length≤binds.length+1∧((aV ex sigs binds deep z).2.e=0→(aV ex sigs binds deep z).2.R.length<z.R.length)∧Ze z (aV ex sigs binds deep z).2:=by
 have h1:=(h.word (k:=1) (by decide)).may eT;have q:=(Ze.word 1 z).trans (Ze.may eT _);unfold aV;split
 ·obtain⟨g1,g2,g3,g4⟩:=gJ h1 hwt;exact⟨g1,aJc hs g2,hb,by rw[ψ,Bm];exact le_refl _,Nat.le_succ _,fun e=>A8 (g3 e) q,q.trans g4⟩
 ·obtain⟨g1,g2,g3,g4⟩:=pX hO (aR 1 z).1 deep h1;exact⟨g1,hs,pY hb g2,Nat.le_succ _,by rw[ψ,Bm];exact le_refl _,fun e=>A8 (g3 e) q,q.trans g4⟩
theorem xG (deep:Nat):∀(f n:Nat) (sigs:List Sg) (binds:List Bd) (z:Z),ZA L z→gY sigs→eY binds→n≤60→sigs.length≤n→binds.length≤n→ZA L (fW ex deep f n sigs binds z).2∧gY (fW ex deep f n sigs binds z).1.1∧eY (fW ex deep f n sigs binds z).1.2∧
  (fW ex deep f n sigs binds z).1.1.length≤60∧(fW ex deep f n sigs binds z).1.2.length≤60∧Ze z (fW ex deep f n sigs binds z).2
 | 0,n,sigs,binds,z,h,hs,hb,hn,h1,h2=>by rw[fW];exact⟨h,hs,hb,by dsimp only;omega,by dsimp only;omega,Ze.refl z⟩
 | f+1,n,sigs,binds,z,h,hs,hb,hn,h1,h2=>by
  rw[fW];split
  ·rename_i hm;obtain⟨_,q⟩:=eH hm;obtain⟨g1,g2,g3,g4,g5,_,g6⟩:=kV hO hwt sigs binds deep (h.more b5 n) hs hb;obtain⟨u,y,A,B,E,I⟩:=xG deep f (n+1) _ _ _ g1 g2 g3 q (by omega) (by omega);exact⟨u,y,A,B,E,((Ze.more b5 n z).trans g6).trans I⟩
  ·exact⟨h.more _ _,hs,hb,by dsimp only;omega,by dsimp only;omega,Ze.more _ _ _⟩
theorem aT0 (a:Int) (deep:Nat) {z:Z}(h:ZA L z):ZA L (uR ex a deep z).2∧oN (uR ex a deep z).1∧((uR ex a deep z).2.e=0→(uR ex a deep z).2.R.length<z.R.length)∧Ze z (uR ex a deep z).2:=by
 obtain⟨g1,g2,g3,g4,g5,g6⟩:=xG hO hwt (deep+1) ((aQ dH z).R.length+1) 0 [] [] _ (h.need dH) (fun s hs=>by cases hs) trivial (by decide) (le_refl _) (le_refl _);obtain⟨u,y,A,B⟩:=gV (mW ex deep z).1.1 (mW ex deep z).1.2 (aQ b5 (mW ex deep z).2) (g1.need _) g2 g3;have q:=((((Ze.need dH z).trans g6).trans (Ze.need b5 _)).trans B).trans (Ze.need inS _);obtain⟨m1,m2,m3,m4⟩:=hO (deep+1) _ (u.need inS);have E:(aE1 (mW ex deep z)).1.length=(mW ex deep z).1.2.length:=A;have I:(mW ex deep z).1.2.length≤60:=g5;exact⟨m1,⟨⟨show 1≤4002 by decide,Ab _,by omega⟩,.z,⟨fun h=>by omega,fun _=>rfl,fun h=>by omega⟩,trivial,⟨m2,trivial⟩,y⟩,fun e=>A8 (m3 e) q,q.trans m4⟩
omit hwt in
theorem aGo (deep:Nat):∀(f n:Nat) (ps:List Pt) (ks:List Ex) (z:Z),ZA L z→zN ps→rY ks→n≤60→ps.length=n→ks.length=n+1→ZA L (fQ ex deep f n ps ks z).2∧zN (fQ ex deep f n ps ks z).1.1∧rY (fQ ex deep f n ps ks z).1.2∧
  (fQ ex deep f n ps ks z).1.1.length≤60∧(fQ ex deep f n ps ks z).1.2.length=(fQ ex deep f n ps ks z).1.1.length+1∧Ze z (fQ ex deep f n ps ks z).2
 | 0,n,ps,ks,z,h,hp,q,hn,h1,h2=>by rw[fQ];exact⟨h,hp,q,by dsimp only;omega,by dsimp only;omega,Ze.refl z⟩
 | f+1,n,ps,ks,z,h,hp,q,hn,h1,h2=>by
  rw[fQ];split
  ·rename_i hm;obtain⟨_,u⟩:=eH hm;obtain⟨g1,g2,_,g4⟩:=(gK L (3*(b6 b5 n z).2.R.length+1)).2.1 0 _ (h.more b5 n);obtain⟨m1,m2,_,m4⟩:=hO (deep+1) _ (g1.need arrow);obtain⟨y,A,B,E,I,J⟩:=aGo deep f (n+1) (ps++[(iO (3*(b6 b5 n z).2.R.length+1) 0 (b6 b5 n z).2).1]) (ks++[(ex (deep+1) (aQ arrow (iO (3*(b6 b5 n z).2.R.length+1) 0 (b6 b5 n z).2).2)).1]) _ m1 (sE hp g2) (tY q m2) u (by rw[ψ,h1];rfl) (by rw[ψ,h2];rfl);exact⟨y,A,B,E,I,((((Ze.more b5 n z).trans g4).trans (Ze.need _ _)).trans m4).trans J⟩
  ·exact⟨h.more _ _,hp,q,by dsimp only;omega,by dsimp only;omega,Ze.more _ _ _⟩
omit hwt in
theorem aPp (a:Int) (deep:Nat) {z:Z}(h:ZA L z):ZA L (iH ex a deep z).2∧oN (iH ex a deep z).1∧((iH ex a deep z).2.e=0→(iH ex a deep z).2.R.length<z.R.length)∧Ze z (iH ex a deep z).2:=by
 obtain⟨m1,m2,m3,m4⟩:=hO (deep+1) z h;have h1:ZA L (dE ex deep z).2:=(m1.need ofS).need dH;have u:Ze z (dE ex deep z).2:=(m4.trans (Ze.need ofS _)).trans (Ze.need dH _);obtain⟨g1,g2,g3,g4,g5,g6⟩:=aGo hO deep ((dE ex deep z).2.R.length+1) 0 [] [(dE ex deep z).1] _ h1 trivial ⟨m2,trivial⟩ (by decide) rfl rfl;have g1:ZA L (i7 ex deep (dE ex deep z)).2:=g1;have g6:Ze (dE ex deep z).2 (i7 ex deep (dE ex deep z)).2:=g6;have B:(i7 ex deep (dE ex deep z)).1.1.length≤60:=g4;have y:(i7 ex deep (dE ex deep z)).1.2.length=(i7 ex deep (dE ex deep z)).1.1.length+1:=g5;have hex:oN (iH ex a deep z).1:=⟨⟨by omega,by omega,Ab _⟩,.z,⟨fun h=>by omega,fun h=>by omega,fun _=>y⟩,g2,g3,trivial⟩
 have h2:=g1.need b5;have A:(aQ b5 (i7 ex deep (dE ex deep z)).2).e=0→(aQ b5 (i7 ex deep (dE ex deep z)).2).R.length<z.R.length:=fun e=>A8 (aCn g1 e) (u.trans g6)
 have q:Ze z (aQ b5 (i7 ex deep (dE ex deep z)).2):=(u.trans g6).trans (Ze.need _ _);unfold iH at hex ⊢;dsimp only at hex ⊢;split
 ·exact⟨h2.fail _ _,hex,fun e=>(cJ (by decide) e).elim,q.trans (Ze.fail _ _ _)⟩
 ·exact⟨h2,hex,A,q⟩
omit hO in
theorem aWb (a:Int) {y:Ex×Z}(h:ZA L y.2) (he:oN y.1):ZA L (uN a y).2∧oN (uN a y).1∧Ze y.2 (uN a y).2:=by
 unfold uN;split
 ·obtain⟨g1,g2,_,g4⟩:=gJ (h.may eT) hwt;exact⟨g1,⟨⟨show 1≤4002 by decide,Ab _,Ab _⟩,g2,⟨fun h=>by omega,fun _=>rfl,fun h=>by omega⟩,trivial,⟨he,trivial⟩,trivial⟩,(Ze.may eT _).trans g4⟩
 ·exact⟨h.may eT,he,Ze.may eT _⟩
omit hwt in
theorem zR (deep:Nat) {z:Z}(h:ZA L z):ZA L (gC ex deep z).2∧oN (gC ex deep z).1∧Ze z (gC ex deep z).2:=by
 obtain⟨g1,g2,g3,g4⟩:=lL hO deep h;unfold gC;split
 ·obtain⟨q,u,y⟩:=sQ hO deep (b8 z).pl (z.R.length+1) _ _ (g1.fail 12 (b8 z).pl) g2;exact⟨q,u,(g4.trans (Ze.fail _ _ _)).trans y⟩
 ·obtain⟨q,u,y⟩:=sQ hO deep (b8 z).pl (z.R.length+1) _ _ g1 g2;exact⟨q,u,g4.trans y⟩
end
theorem aWa {ex:Nat→Z→Ex×Z}{deep:Nat}{a:Int}{f:Nat}{e:Ex}{z:Z}(h:(fZ ex deep a f e z).2.e=0):z.e=0:=by
 cases f with
 | zero=>exact h
 | succ f=>
  rw[fZ] at h;split at h
  ·assumption
  ·exact h
theorem a0q {a:Int}{y:Ex×Z}(h:(uN a y).2.e=0):y.2.e=0:=by
 unfold uN at h;split at h
 ·unfold bM at h;split at h
  ·rename_i he;rwa [jW] at he
  ·rwa [jW] at h
 ·rwa [jW] at h
theorem aUh {L:List Tk}{ex:Nat→Z→Ex×Z}(hO:ExO L ex) (hwt:wt L≤30000):ExO L (aAx ex):=by
 intro deep z h;unfold aAx;split
 ·rename_i he;exact⟨h,oN.z,fun e=>absurd e he,Ze.refl z⟩
 split
 ·exact⟨h.fail _ _,oN.z,fun e=>(cJ (by decide) e).elim,Ze.fail _ _ _⟩
 split
 ·obtain⟨g1,g2,g3,g4⟩:=aT2 hO (b8 z).pl deep (h.may aAm);have l:=Ze.may aAm z;exact⟨g1,g2,fun e=>A8 (g3 e) l,l.trans g4⟩
 split
 ·obtain⟨g1,g2,g3,g4⟩:=aT0 hO hwt (b8 z).pl deep (h.may aAj);have l:=Ze.may aAj z;exact⟨g1,g2,fun e=>A8 (g3 e) l,l.trans g4⟩
 split
 ·obtain⟨g1,g2,g3,g4⟩:=aPp hO (b8 z).pl deep (h.may n3);have l:=Ze.may n3 z;exact⟨g1,g2,fun e=>A8 (g3 e) l,l.trans g4⟩
 ·obtain⟨g1,g2,g3⟩:=zR hO deep h;obtain⟨A,B,q⟩:=aWb hwt (b8 z).pl g1 g2;refine⟨A,B,fun e=>?_,g3.trans q⟩;have y:=a0q e;obtain⟨E,I,J,O⟩:=lL hO deep h;unfold gC at y q ⊢;have u:=aWa y;split at u
  ·exact(cJ (by decide) u).elim
  ·rename_i hs;have hs:(iV ex deep z).1.2=true:=by simpa using hs
   rw[η (by rw[hs];exact fun k=>Bool.noConfusion k)] at q ⊢;obtain⟨_,_,M⟩:=sQ hO deep (b8 z).pl (z.R.length+1) _ _ E I;exact B3 (M.trans q) (J hs u)
theorem iG {L:List Tk}(hwt:wt L≤30000):∀f,ExO L (yP f)
 | 0=>fun deep z h=>⟨h.fail _ _,oN.z,fun e=>(cJ (by decide) e).elim,Ze.fail _ _ _⟩
 | f+1=>aUh (iG hwt f) hwt
def aNs:List C:=[.int .i64 0,.int .i64 0,.int .i64 0,.str [],.nl,.nl,.nl,.nl,.nl,.nl,.int .i64 0,.int .i64 0,.str [],.nl,.nl]
theorem aFz (l:List Tk) (hl:l.length≤4001):aW Tryz.prog 142 [.one (.c (.sl 4 (l.map aI)))] [] (.one (.c (.sl 10 ((iB l).map bL)))) []:=by
 have u:(l.map aI).length=l.length:=ξ _;refine b9 (n:=26) tok Tryz.func142 rfl rfl rfl ?_;refine sg rfl (sg rfl (AWp.sub (Sub.own (t:=3) (id:=500) 51 10 rfl rfl) ?_));refine aA (sg rfl (aF (aJ (fun i:Nat=>mk [(0,.one (.c (.sl 4 (l.map aI)))),(3,.one (.hs 500 0 i i)),(4,I .i64 (i:Nat))] [(500,.arr 51 10 ((iB (l.take i)).map bL) 0)]) (fun i=>i≤l.length) (fun i=>l.length-i) 0 (Ab _) sl ?_)));intro i hi;have q:((iB (l.take i)).map bL).length=i:=by rw[ξ,sU,Ai];omega
 refine aA (sg rfl (aB rfl (fun hb=>?_) (fun hb=>?_)))
 ·have y:=ltD hb u;obtain⟨t,ht⟩:=aG y;have E:=aP aI ht;have A:(iB (l.take (i+1))).map bL=(iB (l.take i)).map bL++[bL (.mk 2 t.pl 0 t.text [])]:=by
   unfold iB;rw[Bh,ht,Af,Af];rfl
  exact aD (aA (aF (ag [(3,.row i (aI t)),(8,.row i (aI t)),(12,.all)] rfl (agN [] rfl ⟨i+1,y,by dsimp only;omega,sl (he:=⟨rfl,Go.AM.hs_ren (congrArg (· +1) q) (congrArg (· +1) q),rfl,trivial⟩) (hh:=⟨⟨_,rfl,.arrS A.symm⟩,trivial⟩)⟩))))
 ·have B:=geD hb u hi;subst B;rw[Al] at q ⊢;refine aH (AWp.sub (Sub.freeze (id:=500) rfl) ?_);exact sg rfl (aE (rtH (hsz:=q.symm) (hlen:=q.symm)))
def ExS (L:List Tk) (ex:Nat→Z→Ex×Z) (N:Nat):Prop:=∀(deep:Nat) (z:Z),ZA L z→z.R.length≤N→deep≤41→aW Tryz.prog 46 [xP,I .i64 (deep:Nat)] [(700,zO L z)] (.pa (bR (ex deep z).1)) [(700,zO L (ex deep z).2)]
section
variable {L:List Tk}{ex:Nat→Z→Ex×Z}{N:Nat}(hO:ExO L ex) (hS:ExS L ex N)
include hO hS
theorem aR4 (deep:Nat) {z:Z}(h:ZA L z) (hN:z.R.length≤N+1) (hd:deep≤40):aW Tryz.prog 95 [xP,I .i64 (deep:Nat)] [(700,zO L z)] (.tup [.pa (bR (iV ex deep z).1.1),B (iV ex deep z).1.2]) [(700,zO L (iV ex deep z).2)]:=by
 have ho:=fP L z;unfold iV;by_cases he:z.e=0
 case neg=>
  rw[ζ he];rw[φ he] at ho;refine b9 (n:=56) tok Tryz.func95 rfl rfl rfl ?_;refine sg rfl (aA (sk 1 rfl (kc ho ?_)));exact kz 1 rfl (aB rfl (fun _=>sg rfl (aE sD)) (fun hb=>Bool.noConfusion hb))
 rw[η (fun k=>k he)];rw[θ he] at ho;have hn:=iA h;have hm:=kD h cG;have aa:=h.l;refine b9 (n:=56) tok Tryz.func95 rfl rfl rfl ?_;refine sg rfl (aA (sk 1 rfl (kc ho ?_)));refine kz 1 rfl (aB rfl (fun hb=>Bool.noConfusion hb) (fun _=>aD (sk 1 rfl (kc hn ?_))));refine kz 2 rfl ?_;by_cases q:0<(b8 z).kind∧(b8 z).kind<4
 ·rw[ζ q];obtain⟨_,M⟩:=h.tl (xK q) z.e z.p;have Y:zO L (tlZ z)=.var 78 [.c (.sl 4 (L.map aI)),.c (.int .i64 ((L.length-z.R.length+1:Nat):Int)),.c (.int .i64 z.e),.c (.int .i64 z.p)]:=by
   unfold zO tlZ;dsimp only;rw[M]
  rw[Y];have d1:decide ((0:Int)<(b8 z).kind)=true:=θ q.1;have d2:decide ((b8 z).kind<(4:Int))=true:=θ q.2;refine aA (sgh [(3,.bv true),(7,.bv true)] rfl (aB rfl (fun _=>?_) (fun hb=>absurd (hb.symm.trans d2) Bool.noConfusion)));unfold zO r7;refine aA (agN [] rfl (aA (sg rfl (aB rfl (fun hb=>?_) (fun hb=>?_)))))
  ·rw[ζ (κ hb)];exact sg rfl (aE sD)
  ·rw[η (Ac hb)];exact aD (sg rfl (aE sD))
 rw[η q];refine aA (aA (AWp.cut (mk [(0,xP),(1,I .i64 (deep:Nat)),(4,.one (.vp 4 0)),(21,B false)] [(700,zO L z),(4,.var 47 (aNs.map .c))]) ?_ ?_))
 ·by_cases k0:0<(b8 z).kind
  ·have d2:decide ((b8 z).kind<(4:Int))=false:=φ (fun k=>q ⟨k0,k⟩);have d1:decide ((0:Int)<(b8 z).kind)=true:=θ k0;refine ag [(3,.bv true),(7,.bv true)] rfl ?_;rw[d2];exact sl
  ·have d1:decide ((0:Int)<(b8 z).kind)=false:=φ k0;exact ag [(3,.bv false),(7,.bv false)] rfl sl
 refine aB rfl (fun hb=>Bool.noConfusion hb) (fun _=>aD ?_);have u:=gF (s:=cG) h;have h1:=h.may cG;have J:(bT cG z).1=false→(bT cG z).2=z:=fun hb=>by
  unfold bT at hb ⊢;split
  ·rename_i hc;rw[ζ hc] at hb;cases hb
  ·rfl
 generalize bT cG z=m at hm u h1 J ⊢;obtain⟨b,A⟩:=m;refine aA (sk 1 rfl (kc hm ?_));refine kz 1 rfl ?_;cases b with
 | false=>
  have O:A=z:=J rfl;subst O;rw[ζ rfl];exact aB rfl (fun _=>sg rfl (aE sD)) (fun hb=>Bool.noConfusion hb)
 | true=>
  rw[η (show ¬(true=false) from fun k=>Bool.noConfusion k)];have u:A.R.length<z.R.length:=u rfl;dsimp only at h1 ⊢;have E:=hS (deep+1) A h1 (by omega) (by omega);obtain⟨g1,_⟩:=hO (deep+1) A h1;generalize ex (deep+1) A=y at E g1 ⊢;obtain⟨e,z2⟩:=y;dsimp only at E g1 ⊢;have U:=dL g1 nY;refine aB rfl (fun hb=>Bool.noConfusion hb) (fun _=>aD (aA (aC mixed (akN 3 [] rfl (kc E ?_)))));refine kz 2 rfl (sk 1 rfl (kc U ?_));exact az (sg rfl (aE sD))
end
section
variable {L:List Tk}{ex:Nat→Z→Ex×Z}{N:Nat}(hS:ExS L ex N)
include hS
theorem aZ1 (a:Int) (deep:Nat) {z:Z}(h:ZA L z) (hN:z.R.length≤N) (hd:deep≤40):aW Tryz.prog 92 [xP,I .i64 a,I .i64 (deep:Nat)] [(700,zO L z)] (.pa (bR (uS ex a deep z).1)) [(700,zO L (uS ex a deep z).2)]:=by
 obtain⟨g1,g2,g3⟩:=aCs a h;have q:=hS (deep+1) (uM a z).2 g1 (le_trans g3 hN) (by omega);unfold uS;generalize hy:ex (deep+1) (uM a z).2=y at q ⊢;obtain⟨b,z6⟩:=y;dsimp only at q ⊢;unfold uM at q g2 ⊢;dsimp only at q g2 ⊢;have A:=sM h;have h1:=h.words;generalize aU z=w at q g2 A h1 ⊢;obtain⟨l,B⟩:=w;dsimp only at q g2 A h1 ⊢;have hn:=iA h1;have M:=eR L B 12 (b8 B).pl;have O:(l.map aI).length=l.length:=ξ _;have hv:=aFz l g2;refine b9 (n:=34) tok Tryz.func92 rfl rfl rfl ?_;refine sg rfl (sk 1 rfl (kc A ?_));refine kz 1 rfl ?_;have J:∃z2,z2=(if l=[] then bV 12 (b8 B).pl B else B)∧ZA L z2:=⟨_,rfl,by split<;>first | exact h1.fail _ _ | exact h1⟩
 obtain⟨z2,u,h2⟩:=J;rw[←u] at q;have E:=n5 L z2 l.length 8 a;have U:=h2.long l.length 8 a;refine aA (AWp.cut (mk [(0,xP),(1,I .i64 a),(2,I .i64 (deep:Nat)),(6,.one (.vp 6 0)),(7,.one (.c (.sl 4 (l.map aI))))] [(700,zO L z2),(6,.var 47 (aNs.map .c))]) ?_ ?_)
 ·refine sg rfl ?_;by_cases hl:l=[]
  ·rw[ζ hl] at u;subst hl u;refine aB rfl (fun _=>aC mixed (ak 2 [] rfl (kc hn ?_))) (fun hb=>Bool.noConfusion hb);refine ak 1 [] rfl (kc M ?_);exact az sl
  ·rw[η hl] at u;subst u;have d0:decide (((l.map aI).length:Int)=0)=false:=φ (by have:=Cg.2 hl;omega);exact aB rfl (fun hb=>absurd (hb.symm.trans d0) Bool.noConfusion) (fun _=>aD sl)
 generalize c0 l.length 8 a z2=z3 at E U q;have Y:=dL U arrow;refine sk 4 rfl ?_;rw[O];refine kc E ?_;refine az (sk 1 rfl (kc Y ?_));refine az (sk 2 rfl (kc hv ?_));refine akN 3 [] rfl (kc q ?_);exact ak 3 [(7,.all)] rfl (az (aE (rtC trw)))
theorem aMg (u:Tk) (deep:Nat) {z:Z}(h:ZA L z) (hN:z.R.length≤N) (U:deep≤41):aW Tryz.prog 139 [xP,tkV u,I .i64 (deep:Nat)] [(700,zO L z)] (.pa (aY (dP ex u deep z).1)) [(700,zO L (dP ex u deep z).2)]:=by
 obtain⟨g1,g2,g3⟩:=y7 u h;have q:=hS deep (gR u z).2 g1 (le_trans g3 hN) U;unfold dP;generalize hy:ex deep (gR u z).2=y at q ⊢;obtain⟨b,Y⟩:=y;dsimp only at q ⊢;unfold gR at q g2 ⊢;dsimp only at q g2 ⊢;have A:=sM h;have h1:=h.words;generalize aU z=w at q g2 A h1 ⊢;obtain⟨l,J⟩:=w;dsimp only at q g2 A h1 ⊢;have B:(l.map aI).length=l.length:=ξ _;have hv:=aFz l g2;have E:=n5 L J l.length 8 u.pl;have M:=h1.long l.length 8 u.pl;generalize c0 l.length 8 u.pl J=z3 at E M q;have O:=dL M eqS;refine b9 (n:=40) tok Tryz.func139 rfl rfl rfl ?_;refine sg rfl (sk 1 rfl (kc A ?_));refine kz 1 rfl (sk 5 rfl ?_);rw[B];refine kc E ?_;refine az (sk 1 rfl (kc O ?_));refine az (sk 2 rfl (kc q ?_));refine kz 2 rfl (aA (sg rfl ?_));cases l with
 | nil=>
  exact aB rfl (fun hb=>Bool.noConfusion hb) (fun _=>aD (sg rfl (aE (rtC trw))))
 | cons t l=>
  have d0:decide ((0:Int)<(((t::l).map aI).length:Int))=true:=θ (by rw[B,ω];omega);have ht:((t::l).map aI)[0]?=some (aI t):=rfl;refine aB rfl (fun _=>aC mixed (ak 5 [(1,.row 0 (aI t))] rfl (kc hv ?_))) (fun hb=>absurd (hb.symm.trans d0) Bool.noConfusion);exact ak 4 [(7,.all)] rfl (az (sg rfl (aE (rtC trw))))
end
def sgA (l:List Sg) (f:Nat):AObj:=.arr 100 9 (l.map c6) f
def bdA (l:List Bd) (f:Nat):AObj:=.arr 109 33 (l.map aY) f
def hsV (id n:Nat):V:=.one (.hs id 0 n n)
section
variable {L:List Tk}{ex:Nat→Z→Ex×Z}{N:Nat}(hS:ExS L ex N) (hwt:wt L≤30000)
include hS hwt
theorem aBi (sigs:List Sg) (binds:List Bd) (deep:Nat) {z:Z}(h:ZA L z) (hN:z.R.length≤N) (hd:deep≤41) (h1:sigs.length≤4001) (h2:binds.length≤4001):
  aW Tryz.prog 80 [xP,hsV 510 sigs.length,hsV 511 binds.length,I .i64 (deep:Nat)] [(700,zO L z),(510,sgA sigs 0),(511,bdA binds 0)]
   (.tup [hsV 510 (aV ex sigs binds deep z).1.1.length,hsV 511 (aV ex sigs binds deep z).1.2.length]) [(700,zO L (aV ex sigs binds deep z).2),(510,sgA (aV ex sigs binds deep z).1.1 0),(511,bdA (aV ex sigs binds deep z).1.2 0)]:=by
 have hw:=kH h 1 (by decide);have g1:=h.word (k:=1) (by decide);have O:=Ze.word 1 z;have J:(sigs.map c6).length=sigs.length:=ξ _;have M:(binds.map aY).length=binds.length:=ξ _;unfold aV;generalize aR 1 z=w at hw g1 O ⊢;obtain⟨u,Y⟩:=w;dsimp only at hw g1 O ⊢;have hm:=kD g1 eT;have g2:=g1.may eT;have U:=Ze.may eT Y;generalize bT eT Y=m at hm g2 U ⊢;obtain⟨b,z2⟩:=m;dsimp only at hm g2 U ⊢;refine b9 (n:=34) tok Tryz.func80 rfl rfl rfl ?_;refine sg rfl (sk 1 rfl (kc hw ?_));refine kz 2 rfl (aA (sk 1 rfl (kc hm ?_)));refine az ?_;cases b with
 | true=>
  rw[ζ rfl];have A:=u6 g2 hwt;generalize bM z2=y at A ⊢;obtain⟨s,z3⟩:=y;dsimp only at A ⊢;have q:sigs.map c6++[c6 ⟨u.text,u.pl,s⟩]=(sigs++[(⟨u.text,u.pl,s⟩:Sg)]).map c6:=by rw[Af];rfl
  have hle:(sigs++[(⟨u.text,u.pl,s⟩:Sg)]).length=sigs.length+1:=by rw[ψ];rfl
  generalize sigs++[(⟨u.text,u.pl,s⟩:Sg)]=S at q hle ⊢;refine aB rfl (fun _=>sk 6 rfl (kc A ?_)) (fun hb=>Bool.noConfusion hb);refine ak 6 [(8,.all)] rfl (az (AWp.sub (st2:=mk [(8,hsV 510 S.length),(9,hsV 511 binds.length)] [(700,zO L z3),(510,sgA S 0),(511,bdA binds 0)]) (sl (he:=⟨Go.AM.hs_ren (by rw[hle,←J];rfl) (by rw[hle,←J];rfl),rfl,trivial⟩) (hh:=⟨⟨_,rfl,.var rfl⟩,⟨_,rfl,.arrS q⟩,⟨_,rfl,Go.AM.Ole.arr⟩,trivial⟩)) ?_));exact aE a3m
 | false=>
  rw[η χ];have B:=aMg hS u deep g2 (le_trans (O.trans U) hN) hd;generalize dP ex u deep z2=y at B ⊢;obtain⟨E,z3⟩:=y;dsimp only at B ⊢;have q:binds.map aY++[aY E]=(binds++[E]).map aY:=by rw[Af];rfl
  have hle:(binds++[E]).length=binds.length+1:=by rw[ψ];rfl
  generalize binds++[E]=S at q hle ⊢;refine aB rfl (fun hb=>Bool.noConfusion hb) (fun _=>aD (sk 5 rfl (kc B ?_)));refine ak 4 [(6,.all)] rfl (az (AWp.sub (st2:=mk [(8,hsV 510 sigs.length),(9,hsV 511 S.length)] [(700,zO L z3),(510,sgA sigs 0),(511,bdA S 0)]) (sl (he:=⟨rfl,Go.AM.hs_ren (by rw[hle,←M];rfl) (by rw[hle,←M];rfl),trivial⟩) (hh:=⟨⟨_,rfl,.var rfl⟩,⟨_,rfl,Go.AM.Ole.arr⟩,⟨_,rfl,.arrS q⟩,trivial⟩)) ?_));exact aE a3m
end
def aHs (p:Bd→Bool) (b:List Bd) (m:Nat):Int:=match (b.drop m).findIdx? p with
 | none=> -1
 | some d=>((m+d:Nat):Int)
theorem aFb (p:Bd→Bool) (b:List Bd):aHs p b b.length= -1:=by unfold aHs;rw[Ch];rfl
theorem aAq (p:Bd→Bool) {b:List Bd}{m:Nat}{x:Bd}(h:b[m]?=some x):aHs p b m=if p x=true then(m:Int) else aHs p b (m+1):=by
 obtain⟨h1,h2⟩:=Ah.1 h;have q:=Az h1;rw[h2] at q;unfold aHs;rw[q,List.findIdx?_cons];by_cases hp:p x=true
 ·rw[ζ hp,ζ hp];rfl
 ·rw[η hp,η hp];cases (b.drop (m+1)).findIdx? p with
  | none=>rfl
  | some d=>simp;omega
theorem aL7 {L:List Tk}(sigs:List Sg) (binds:List Bd) {z:Z}(h:ZA L z) (h1:sigs.length≤4001) (h2:binds.length≤4001):
  aW Tryz.prog 81 [xP,.one (.c (.sl 9 (sigs.map c6))),hsV 511 binds.length] [(700,zO L z),(511,bdA binds 0)] (hsV 511 binds.length) [(700,zO L (dG sigs binds z).2),(511,bdA (dG sigs binds z).1 0)]:=by
 have hsl:(sigs.map c6).length=sigs.length:=ξ _;have u:∃W,W=dG sigs binds z:=⟨_,rfl⟩
 obtain⟨W,u⟩:=u;rw[←u];refine b9 (n:=74) tok Tryz.func81 rfl rfl rfl ?_;refine sg rfl (aA (sg rfl (aF (aJ (fun q:Nat×List Bd×Z=>mk [(0,xP),(1,.one (.c (.sl 9 (sigs.map c6)))),(2,hsV 511 binds.length),(7,I .i64 (q.1:Nat))] [(700,zO L q.2.2),(511,bdA q.2.1 0)]) (fun q=>q.1≤sigs.length∧ZA L q.2.2∧q.2.1.length=binds.length∧W=dG (sigs.drop q.1) q.2.1 q.2.2) (fun q=>sigs.length-q.1) (0,binds,z) ⟨Ab _,h,rfl,u⟩ sl ?_))));clear u h;rintro⟨i,b,z⟩ ⟨hi,h,y,u⟩;dsimp only at hi h y u ⊢;have hbe:(b.map aY).length=b.length:=ξ _;have ho:=fP L z;by_cases A:i<sigs.length
 case neg=>
  have d0:decide ((i:Int)<((sigs.map c6).length:Int))=false:=φ (by omega);rw[drop_eq_nil_of_le (by omega),dG] at u;refine aA (sgh [(4,.bv false),(7,.bv false)] rfl (aB rfl (fun hb=>Bool.noConfusion hb) (fun _=>aH (sg rfl ?_))));rw[u];exact aE rtT
 have d0:decide ((i:Int)<((sigs.map c6).length:Int))=true:=θ (by omega);obtain⟨s,hs⟩:=aG A;have hs':=aP c6 hs;have M:sigs.drop i=s::sigs.drop (i+1):=by
  obtain⟨k1,k2⟩:=Ah.1 hs;rw[←k2];exact Az k1
 rw[M,dG] at u;by_cases he:z.e=0
 case neg=>
  rw[η he] at u;rw[φ he] at ho;refine aA (skh 6 [(4,.bv true)] rfl (kcG ho ?_));refine ak 1 [(4,.bv true),(7,.bv true)] rfl (az (aB rfl (fun hb=>Bool.noConfusion hb) (fun _=>aH (sg rfl ?_))));rw[u];exact aE rtT
 rw[ζ he] at u;rw[θ he] at ho;refine aA (skh 6 [(4,.bv true)] rfl (kcG ho ?_));refine ak 1 [(4,.bv true),(7,.bv true)] rfl (az (aB rfl (fun _=>aD (aA (aF (sg rfl (aA (sg rfl (aF (aJ (fun m:Nat=>mk [(0,xP),(1,.one (.c (.sl 9 (sigs.map c6)))),(2,hsV 511 binds.length),(7,I .i64 (i:Nat)),(8,I .i64 (aHs (fun x=>decide (x.name=s.name)) b m)),(9,I .i64 ((m:Int)-1))] [(700,zO L z),(511,bdA b 0)]) (fun m=>m≤b.length) (fun m=>m) b.length (le_refl _) (sl (he:=⟨rfl,rfl,rfl,rfl,Go.AM.int_eq (aFb _ b).symm,Go.AM.int_eq (by rw[y]),trivial⟩)) ?_)))))))) (fun hb=>Bool.noConfusion hb)));intro m hm;refine aA (sg rfl (aB rfl (fun hb=>?_) (fun hb=>?_)))
 ·have hm1:1≤m:=by have:=κ hb;omega
  obtain⟨m,rfl⟩:∃k,m=k+1:=⟨m-1,by omega⟩
  obtain⟨x,hx⟩:=aG (l:=b) (k:=m) (by omega);have O:=aP aY hx;have B:=aAq (fun x=>decide (x.name=s.name)) hx;have U:(((m+1:Nat):Int)-1)=(m:Int):=by omega
  rw[U];refine aD (aA (aF (sgh [(4,.row m (aY x)),(7,.row i (c6 s))] rfl (aB rfl (fun hb=>?_) (fun hb=>?_)))))
  ·have hb:decide (x.name=s.name)=true:=hb;rw[ζ hb] at B;exact ag [] rfl (ag [] rfl ⟨m,by omega,Bv _,sl (he:=⟨rfl,rfl,rfl,rfl,Go.AM.int_eq B.symm,rfl,trivial⟩)⟩)
  ·have hb:decide (x.name=s.name)=false:=hb;rw[η (by rw[hb];exact χ)] at B;exact aD (ag [] rfl ⟨m,by omega,Bv _,sl (he:=⟨rfl,rfl,rfl,rfl,Go.AM.int_eq B.symm,rfl,trivial⟩)⟩)
 have Y:m=0:=by have:=Ac hb;omega
 subst Y;have aa:aHs (fun x=>decide (x.name=s.name)) b 0=match b.findIdx? (fun x=>decide (x.name=s.name)) with | none=> -1 | some d=>(d:Int):=by
  unfold aHs;rw[B8];cases b.findIdx? _ with
  | none=>rfl
  | some d=>simp
 rw[aa];refine aH ?_;cases J:b.findIdx? (fun x=>decide (x.name=s.name)) with
 | none=>
  rw[J] at u;dsimp only at u ⊢;have E:=eR L z 21 s.pl;refine aA (sg rfl (aB rfl (fun _=>skh 6 [(3,.row i (c6 s))] rfl (kc E ?_)) (fun hb=>Bool.noConfusion hb)));exact az (aH (agN [] rfl ⟨(i+1,b,bV 21 s.pl z),⟨A,h.fail _ _,y,u⟩,by dsimp only;omega,sl⟩))
 | some k=>
  rw[J] at u;dsimp only at u ⊢;have hk:=rH J;obtain⟨x,hx⟩:=aG hk;have O:=aP aY hx;rw[hx] at u;dsimp only at u;have dk:decide ((k:Int)<0)=false:=φ (by omega);refine aA (sg rfl (aB rfl (fun hb=>absurd (hb.symm.trans dk) Bool.noConfusion) (fun _=>aD (aA (sgh [(4,.row k (aY x))] rfl (aB rfl (fun hb=>?_) (fun hb=>?_)))))))
  ·have hb:x.has=true:=hb;rw[ζ hb] at u;have E:=eR L z 20 s.pl;refine skh 6 [(3,.row i (c6 s))] rfl (kc E ?_);exact az (aH (agN [] rfl ⟨(i+1,b,bV 20 s.pl z),⟨A,h.fail _ _,y,u⟩,by dsimp only;omega,sl⟩))
  ·have hb:x.has=false:=hb;rw[η (by rw[hb];exact χ)] at u;refine aD ?_;have hs1:(b.map aY).set k (aY (.mk x.name x.pl true x.sig x.body))=(b.set k (.mk x.name x.pl true x.sig x.body)).map aY:=by rw[map_set]
   have hs2:((b.set k (.mk x.name x.pl true x.sig x.body)).map aY).set k (aY (lV x s.ty))=(b.set k (lV x s.ty)).map aY:=by rw[←map_set,List.set_set]
   have hx2:((b.set k (.mk x.name x.pl true x.sig x.body)).map aY)[k]?=some (aY (.mk x.name x.pl true x.sig x.body)):=by rw[Br,List.getElem?_set_self hk];rfl
   have hl2:((b.set k (.mk x.name x.pl true x.sig x.body)).map aY).length=b.length:=by rw[ξ,C3]
   refine sgh [(4,.row k (aY x))] rfl (AWp.sub (st2:=mk [(0,xP),(1,.one (.c (.sl 9 (sigs.map c6)))),(2,hsV 511 binds.length),(7,I .i64 (i:Nat)),(8,I .i64 (k:Nat))] [(700,zO L z),(511,bdA (b.set k (.mk x.name x.pl true x.sig x.body)) 0)]) (sl (hh:=⟨⟨_,rfl,.var rfl⟩,⟨_,rfl,.arrS hs1⟩,trivial⟩)) ?_);exact ag [(4,.row i (c6 s)),(9,.row k (aY (.mk x.name x.pl true x.sig x.body)))] rfl (agN [] rfl ⟨(i+1,b.set k (lV x s.ty),z),⟨A,h,by dsimp only;rw[C3,y],u⟩,by dsimp only;omega,sl (hh:=⟨⟨_,rfl,.var rfl⟩,⟨_,rfl,.arrS hs2⟩,trivial⟩)⟩)
theorem dJ {s:Str}{n:Nat}{z:Z}(h:¬z.e=0):b6 s n z=(false,z):=by
 have h1:moreA s n z=z:=by unfold moreA;rw[η (fun k=>h k.2.1)]
 have h2:dC z=z:=by unfold dC;rw[η h]
 unfold b6;rw[h1,h2,ζ (.inl h)]
section
variable {L:List Tk}{ex:Nat→Z→Ex×Z}{N:Nat}(hO:ExO L ex) (hS:ExS L ex N) (hwt:wt L≤30000)
include hO hS hwt
theorem aZy (a:Int) (deep:Nat) {z:Z}(h:ZA L z) (hN:z.R.length≤N) (hd:deep≤40):aW Tryz.prog 93 [xP,I .i64 a,I .i64 (deep:Nat)] [(700,zO L z)] (.pa (bR (uR ex a deep z).1)) [(700,zO L (uR ex a deep z).2)]:=by
 have J:=dL h dH;have h1:=h.need dH;have l1:=Ze.need dH z;have hWx:∃W,W=mW ex deep z:=⟨_,rfl⟩
 obtain⟨W,A⟩:=hWx;unfold uR;rw[←A];unfold mW at A;generalize aQ dH z=z1 at J h1 l1 A;have l1':z1.R.length≤z.R.length:=l1;refine b9 (n:=42) tok Tryz.func93 rfl rfl rfl ?_;refine sg rfl (sg rfl (sg rfl (AWp.sub (Sub.own (t:=7) (id:=510) 100 9 rfl rfl) ?_)));refine AWp.sub (Sub.own (t:=8) (id:=511) 109 33 rfl rfl) ?_;refine sk 1 rfl (kc J ?_);refine az (aA (sg rfl (aF (aJ (fun q:(List Sg×List Bd)×Z×Nat×Nat=>mk [(0,xP),(1,I .i64 a),(2,I .i64 (deep:Nat)),(6,.one (.vp 6 0)),(7,hsV 510 q.1.1.length),(8,hsV 511 q.1.2.length),(9,I .i64 (q.2.2.1:Nat))] [(700,zO L q.2.1),(6,.var 47 (aNs.map .c)),(510,sgA q.1.1 0),(511,bdA q.1.2 0)]) (fun q=>ZA L q.2.1∧gY q.1.1∧eY q.1.2∧q.2.1.R.length≤z1.R.length∧(q.2.1.e=0→q.2.1.R.length<q.2.2.2)∧q.2.2.1≤60∧q.1.1.length≤q.2.2.1∧q.1.2.length≤q.2.2.1∧W=fW ex (deep+1) q.2.2.2 q.2.2.1 q.1.1 q.1.2 q.2.1) (fun q=>if q.2.1.e=0 then q.2.1.R.length+1 else 0) (([],[]),z1,0,z1.R.length+1) ⟨h1,fun s hs=>(by cases hs),trivial,le_refl _,fun _=>Bv _,Ab _,le_refl _,le_refl _,A⟩ sl ?_))));clear A J h;rintro⟨⟨sigs,binds⟩,z2,n,f⟩ ⟨h,hs,hb,hR,hf,hn,hsl,hbl,A⟩;dsimp only at h hs hb hR hf hn hsl hbl A ⊢;have hm:=u7 h b5 n (by omega);have M:= @eH b5 n z2;have B:=h.more b5 n;have E:=Ze.more b5 n z2;have u:W=if(b6 b5 n z2).1=true then fW ex (deep+1) (f-1) (n+1) (aV ex sigs binds (deep+1) (b6 b5 n z2).2).1.1 (aV ex sigs binds (deep+1) (b6 b5 n z2).2).1.2 (aV ex sigs binds (deep+1) (b6 b5 n z2).2).2 else((sigs,binds),(b6 b5 n z2).2):=by
  by_cases he:z2.e=0
  ·obtain⟨f,rfl⟩:∃g,f=g+1:=⟨f-1,by have:=hf he;omega⟩
   rw[fW] at A;exact A
  ·rw[dJ he];rw[η χ];rw[A];cases f with
   | zero=>rfl
   | succ f=>rw[fW,dJ he,η χ]
 have O:(b6 b5 n z2).1=true→z2.e=0:=fun e=>by
  by_cases he:z2.e=0
  ·exact he
  ·rw[dJ he] at e;cases e
 clear A;generalize b6 b5 n z2=m at hm M B E u O;obtain⟨b,z3⟩:=m;dsimp only at hm M B E u O;have E:z3.R.length≤z2.R.length:=E;refine aA (sk 2 rfl (kc hm ?_));refine az ?_;cases b with
 | true=>
  rw[ζ rfl] at u;obtain⟨e3,hn60⟩:=M rfl;have he2:=O rfl;have hf:=hf he2;have U:=aBi hS hwt sigs binds (deep+1) B (by omega) (by omega) (by omega) (by omega);obtain⟨k1,k2,k3,k4,k5,k6,k7⟩:=kV hO hwt sigs binds (deep+1) B hs hb;generalize aV ex sigs binds (deep+1) z3=y at U k1 k2 k3 k4 k5 k6 k7 u;obtain⟨⟨S,Bs⟩,z4⟩:=y;dsimp only at U k1 k2 k3 k4 k5 k6 k7 u;have k7:z4.R.length≤z3.R.length:=k7;refine aB rfl (fun _=>aD (aA (aF (aC mixed (akN 5 [] rfl (kc U ?_)))))) (fun hb=>Bool.noConfusion hb);refine kz 5 rfl (agN [] rfl ⟨((S,Bs),z4,n+1,f-1),⟨k1,k2,k3,by dsimp only;omega,fun h0=>by have:=k6 h0;dsimp only;omega,hn60,by dsimp only;omega,by dsimp only;omega,u⟩,?_,sl⟩);dsimp only;rw[ζ he2];split
  ·rename_i h0;have:=k6 h0;omega
  ·omega
 | false=>
  rw[η χ] at u;subst u;have Y:=dL B b5;have h5:=B.need b5;have l5:=Ze.need b5 z3;unfold aE1;dsimp only;generalize aQ b5 z3=z5 at Y h5 l5 ⊢;have aa:=aL7 sigs binds h5 (by omega) (by omega);obtain⟨p1,p2,p3,p4⟩:=gV sigs binds z5 h5 hs hb;generalize dG sigs binds z5=y at aa p1 p2 p3 p4 ⊢;obtain⟨Bs,z6⟩:=y;dsimp only at aa p1 p2 p3 p4 ⊢;have ab:=dL p1 inS;have h7:=p1.need inS;have l7:=Ze.need inS z6;generalize aQ inS z6=z7 at ab h7 l7 ⊢;have l5':z5.R.length≤z3.R.length:=l5;have p4':z6.R.length≤z5.R.length:=p4;have l7':z7.R.length≤z6.R.length:=l7;have hex:=hS (deep+1) z7 h7 (by omega) (by omega);generalize ex (deep+1) z7=y at hex ⊢;obtain⟨e,z8⟩:=y;dsimp only at hex ⊢;have hBl:binds.length=(Bs.map aY).length:=by rw[ξ,p3]
  refine aB rfl (fun hb=>Bool.noConfusion hb) (fun _=>aH (sk 1 rfl (kc Y ?_)));refine az (AWp.sub (Sub.freeze (id:=510) rfl) ?_);refine sk 3 rfl (kc aa ?_);refine kz 1 rfl (sk 1 rfl (kc ab ?_));refine az (AWp.sub (Sub.freeze (id:=511) rfl) ?_);refine aA (aC mixed (akN 5 [] rfl (kc hex ?_)));refine ak 3 [(6,.all)] rfl (az ?_);unfold bR;rw[aFl];exact aE (rtC trw (hc:=.agg (.c .refl (.c .refl (.c .refl (.c .refl (.c .refl (.c .nl (.hs rfl hBl (Go.AM.take_all hBl) (.c .nl (.c .nl (.c .nl (.c .refl (.c .refl (.c .refl (.c .nl (.c .nl .nil)))))))))))))))))
end
section
variable {L:List Tk}{ex:Nat→Z→Ex×Z}{N:Nat}(hO:ExO L ex) (hS:ExS L ex N)
include hO hS
theorem aVk (a:Int) (deep:Nat) {z:Z}(h:ZA L z) (hN:z.R.length≤N) (hd:deep≤40):aW Tryz.prog 94 [xP,I .i64 a,I .i64 (deep:Nat)] [(700,zO L z)] (.pa (bR (iH ex a deep z).1)) [(700,zO L (iH ex a deep z).2)]:=by
 have aa:=hS (deep+1) z h hN (by omega);obtain⟨g0,_,_,m0⟩:=hO (deep+1) z h;have hWx:∃W,W=i7 ex deep (dE ex deep z):=⟨_,rfl⟩
 obtain⟨W,A⟩:=hWx;unfold iH;rw[←A];unfold i7 dE at A;generalize ex (deep+1) z=y at aa g0 m0 A;obtain⟨e0,z0⟩:=y;dsimp only at aa g0 m0 A;have M:=dL g0 ofS;have h1:=g0.need ofS;have l1:=Ze.need ofS z0;generalize aQ ofS z0=z1 at M h1 l1 A;have O:=dL h1 dH;have h2:=h1.need dH;have l2:=Ze.need dH z1;generalize aQ dH z1=z2 at O h2 l2 A;have hz2:z2.R.length≤z.R.length:=(m0.trans l1).trans l2;refine b9 (n:=57) tok Tryz.func94 rfl rfl rfl ?_;refine sg rfl (aA (aC mixed (akN 4 [] rfl (kc aa ?_))));refine ak 4 [(5,.id 501)] rfl (az (AWp.sub (Sub.ownCell (x:=7) (k:=5) (id:=502) 51 10 rfl rfl rfl) ?_));refine sk 1 rfl (kc M ?_);refine az (sk 1 rfl (kc O ?_));refine az (aA (sg rfl (aF (aJ (fun q:(List Pt×List Ex)×Z×Nat×Nat=>mk [(0,xP),(2,I .i64 (deep:Nat)),(6,.one (.vp 6 0)),(7,.one (.vp 7 0)),(8,I .i64 (q.2.2.1:Nat))] [(700,zO L q.2.1),(6,.var 47 (aNs.map .c)),(7,.var 47 [.c (.int .i64 7),.c (.int .i64 a),.c (.int .i64 0),.c (.str []),.hs 501 0 q.1.2.length q.1.2.length,.hs 502 0 q.1.1.length q.1.1.length,.c .nl,.c .nl,.c .nl,.c .nl,.c (.int .i64 0),.c (.int .i64 0),.c (.str []),.c .nl,.c .nl]),(501,.arr 47 15 (q.1.2.map bR) 0),(502,.arr 51 10 (q.1.1.map bL) 0)]) (fun q=>ZA L q.2.1∧q.2.1.R.length≤z2.R.length∧(q.2.1.e=0→q.2.1.R.length<q.2.2.2)∧q.2.2.1≤60∧q.1.1.length=q.2.2.1∧q.1.2.length=q.2.2.1+1∧W=fQ ex deep q.2.2.2 q.2.2.1 q.1.1 q.1.2 q.2.1) (fun q=>if q.2.1.e=0 then q.2.1.R.length+1 else 0) (([],[e0]),z2,0,z2.R.length+1) ⟨h2,le_refl _,fun _=>Bv _,Ab _,rfl,rfl,A⟩ sl ?_))));clear A M O h1 h l1 l2;rintro⟨⟨ps,ks⟩,z3,n,f⟩ ⟨h,hR,hf,hn,hpl,hkl,A⟩;dsimp only at h hR hf hn hpl hkl A ⊢;have ab:(ps.map bL).length=ps.length:=ξ _;have ac:(ks.map bR).length=ks.length:=ξ _;have hm:=u7 h b5 n (by omega);have ad:= @eH b5 n z3;have B:=h.more b5 n;have U:=Ze.more b5 n z3;have u:W=if(b6 b5 n z3).1=true then fQ ex deep (f-1) (n+1) (ps++[(iO (3*(b6 b5 n z3).2.R.length+1) 0 (b6 b5 n z3).2).1]) (ks++[(ex (deep+1) (aQ arrow (iO (3*(b6 b5 n z3).2.R.length+1) 0 (b6 b5 n z3).2).2)).1]) (ex (deep+1) (aQ arrow (iO (3*(b6 b5 n z3).2.R.length+1) 0 (b6 b5 n z3).2).2)).2 else((ps,ks),(b6 b5 n z3).2):=by
  by_cases he:z3.e=0
  ·obtain⟨f,rfl⟩:∃g,f=g+1:=⟨f-1,by have:=hf he;omega⟩
   rw[fQ] at A;exact A
  ·rw[dJ he];rw[η χ];rw[A];cases f with
   | zero=>rfl
   | succ f=>rw[fQ,dJ he,η χ]
 have ae:(b6 b5 n z3).1=true→z3.e=0:=fun e=>by
  by_cases he:z3.e=0
  ·exact he
  ·rw[dJ he] at e;cases e
 clear A;generalize b6 b5 n z3=m at hm ad B U u ae;obtain⟨b,z4⟩:=m;dsimp only at hm ad B U u ae;have U:z4.R.length≤z3.R.length:=U;refine aA (sk 2 rfl (kc hm ?_));refine az ?_;cases b with
 | true=>
  rw[ζ rfl] at u;obtain⟨e3,hn60⟩:=ad rfl;have he2:=ae rfl;have hf:=hf he2;have hp:=(aX9 L (3*z4.R.length+1)).2 _ (le_refl _) 0 z4 B (fun _=>le_refl _) (by decide);obtain⟨p1,_,p3,p4⟩:=(gK L (3*z4.R.length+1)).2.1 0 z4 B;generalize iO (3*z4.R.length+1) 0 z4=y at hp p1 p3 p4 u;obtain⟨p,z5⟩:=y;dsimp only at hp p1 p3 p4 u;have p4:z5.R.length≤z4.R.length:=p4;have hnd:=dL p1 arrow;have h6:=p1.need arrow;have l6:=Ze.need arrow z5;have k6:=aX (s:=arrow) (z:=z5);generalize aQ arrow z5=J at hnd h6 l6 k6 u;have l6:J.R.length≤z5.R.length:=l6;have hex:=hS (deep+1) J h6 (by omega) (by omega);obtain⟨x1,_,x3,x4⟩:=hO (deep+1) J h6;generalize ex (deep+1) J=y at hex x1 x3 x4 u;obtain⟨e,z7⟩:=y;dsimp only at hex x1 x3 x4 u;have x4:z7.R.length≤J.R.length:=x4;have hr1:ps.map bL++[bL p]=(ps++[p]).map bL:=by rw[Af];rfl
  have hr2:ks.map bR++[bR e]=(ks++[e]).map bR:=by rw[Af];rfl
  have hl1:(ps++[p]).length=ps.length+1:=by rw[ψ];rfl
  have hl2:(ks++[e]).length=ks.length+1:=by rw[ψ];rfl
  generalize ps++[p]=P at hr1 hl1 u;generalize ks++[e]=K at hr2 hl2 u;refine aB rfl (fun _=>aD (aA (aF (sk 3 rfl (kc hp ?_))))) (fun hb=>Bool.noConfusion hb);refine ak 4 [(4,.all)] rfl (az (sk 1 rfl (kc hnd ?_)));refine az (aC mixed (akN 5 [] rfl (kc hex ?_)));refine ak 4 [(6,.all)] rfl (az (agN [] rfl ⟨((P,K),z7,n+1,f-1),⟨x1,by dsimp only;omega,fun h0=>by have:=x3 h0;dsimp only;omega,hn60,by dsimp only;omega,by dsimp only;omega,u⟩,?_,?_⟩))
  ·dsimp only;rw[ζ he2];split
   ·rename_i h0;have:=x3 h0;omega
   ·omega
  ·exact sl (hh:=⟨⟨_,rfl,.var rfl⟩,⟨_,rfl,.var rfl⟩,⟨_,rfl,.var (by rw[hl1,hl2,←ab,←ac];rfl)⟩,⟨_,rfl,.arrS hr2⟩,⟨_,rfl,.arrS hr1⟩,trivial⟩)
 | false=>
  rw[η χ] at u;subst u;dsimp only;have hnow:=iA B;have af:=dL B b5;have h5:=B.need b5;generalize hz5:aQ b5 z4=z5 at af h5 ⊢;have hfl:=eR L z5 12 (b8 z4).pl;have E:∃J,J=(if ps=[] then bV 12 (b8 z4).pl z5 else z5):=⟨_,rfl⟩
  obtain⟨J,E⟩:=E;rw[←E];refine aB rfl (fun hb=>Bool.noConfusion hb) (fun _=>aH (sk 1 rfl (kc hnow ?_)));refine kz 2 rfl (sk 1 rfl (kc af ?_));refine az (aA (AWp.cut (mk [(0,xP),(6,.one (.vp 6 0)),(7,.one (.vp 7 0))] [(700,zO L J),(6,.var 47 (aNs.map .c)),(7,.var 47 [.c (.int .i64 7),.c (.int .i64 a),.c (.int .i64 0),.c (.str []),.hs 501 0 ks.length ks.length,.hs 502 0 ps.length ps.length,.c .nl,.c .nl,.c .nl,.c .nl,.c (.int .i64 0),.c (.int .i64 0),.c (.str []),.c .nl,.c .nl]),(501,.arr 47 15 (ks.map bR) 0),(502,.arr 51 10 (ps.map bL) 0)]) ?_ ?_))
  ·refine sg rfl ?_;by_cases Y:ps=[]
   ·rw[ζ Y] at E;subst Y E;refine aB rfl (fun _=>aC mixed (ak 2 [] rfl (kc hfl ?_))) (fun hb=>Bool.noConfusion hb);exact az sl
   ·rw[η Y] at E;subst E;have d0:decide ((ps.length:Int)=0)=false:=φ (by have:=Cg.2 Y;omega);exact aB rfl (fun hb=>absurd (hb.symm.trans d0) Bool.noConfusion) (fun _=>aD sl)
  refine AWp.sub (Sub.freeze (id:=501) rfl) ?_;refine AWp.sub (Sub.freeze (id:=502) rfl) ?_;refine sg rfl ?_;unfold bR aPq;rw[nL];exact aE (rtC trw (hc:=.agg (.c .refl (.c .refl (.c .refl (.c .refl (.hs rfl ac.symm (Go.AM.take_all ac.symm) (.hs rfl ab.symm (Go.AM.take_all ab.symm) (.c .nl (.c .nl (.c .nl (.c .nl (.c .refl (.c .refl (.c .refl (.c .nl (.c .nl .nil)))))))))))))))))
end
theorem kB {s:Str}{z:Z}(hb:(bT s z).1=false):(bT s z).2=z:=by
 unfold bT at hb ⊢;split
 ·rename_i hc;rw[ζ hc] at hb;cases hb
 ·rfl
section
variable {L:List Tk}{ex:Nat→Z→Ex×Z}{N:Nat}(hO:ExO L ex) (hS:ExS L ex N) (hwt:wt L≤30000)
include hO hS hwt
theorem aZ5 (deep:Nat) {z:Z}(h:ZA L z) (hN:z.R.length≤N+1) (hd:deep≤41):aW Tryz.prog 46 [xP,I .i64 (deep:Nat)] [(700,zO L z)] (.pa (bR (aAx ex deep z).1)) [(700,zO L (aAx ex deep z).2)]:=by
 have hn:=iA h;have ho:=fP L z;unfold aAx;refine b9 (n:=82) tok Tryz.func46 rfl rfl rfl ?_;refine sg rfl (sk 1 rfl (kc hn ?_));refine kz 2 rfl (aA (sk 1 rfl (kc ho ?_)));refine kz 1 rfl ?_;by_cases he:z.e=0
 case neg=>
  rw[ζ he];have d0:(!decide (z.e=0))=true:=by rw[φ he];rfl
  exact aB rfl (fun _=>sg rfl (aE (rtC trw))) (fun hb=>absurd (hb.symm.trans d0) Bool.noConfusion)
 rw[η (fun k=>k he)];have d0:(!decide (z.e=0))=false:=by rw[θ he];rfl
 refine aB rfl (fun hb=>absurd (hb.symm.trans d0) Bool.noConfusion) (fun _=>aD (aA (sg rfl (aB rfl (fun hb=>?_) (fun hb=>?_)))))
 ·rw[ζ (by have:=κ hb;omega)];have hfl:=eR L z 13 (b8 z).pl;refine sk 3 rfl (kc hfl ?_);exact az (sg rfl (aE (rtC trw)))
 have hd40:¬40<deep:=by have:=Ac hb;omega
 rw[η hd40];refine aD ?_;have u:=kD h aAm;have A:=gF (s:=aAm) h;have B:=h.may aAm;have E:= @kB aAm z;have M:=fun e=>aZ1 hS (b8 z).pl deep B (by have:=A e;omega) (by omega)
 generalize bT aAm z=m at u A B E M ⊢;obtain⟨b,z1⟩:=m;dsimp only at u A B E M ⊢;refine aA (sk 1 rfl (kc u ?_));refine az ?_;cases b with
 | true=>
  rw[ζ rfl];have M:=M rfl;refine aB rfl (fun _=>sk 4 rfl (kc M ?_)) (fun hb=>Bool.noConfusion hb);exact kz 1 rfl (aE (rtC trw))
 | false=>
 obtain rfl:=E rfl;rw[η χ];clear u A B M E;refine aB rfl (fun hb=>Bool.noConfusion hb) (fun _=>aD ?_);have u:=kD h aAj;have A:=gF (s:=aAj) h;have B:=h.may aAj;have E:= @kB aAj z1;have O:=fun e=>aZy hO hS hwt (b8 z1).pl deep B (by have:=A e;omega) (by omega)
 generalize bT aAj z1=m at u A B E O ⊢;obtain⟨b,z2⟩:=m;dsimp only at u A B E O ⊢;refine aA (sk 1 rfl (kc u ?_));refine az ?_;cases b with
 | true=>
  rw[ζ rfl];have O:=O rfl;refine aB rfl (fun _=>sk 4 rfl (kc O ?_)) (fun hb=>Bool.noConfusion hb);exact kz 1 rfl (aE (rtC trw))
 | false=>
 obtain rfl:=E rfl;rw[η χ];clear u A B O E;refine aB rfl (fun hb=>Bool.noConfusion hb) (fun _=>aD ?_);have u:=kD h n3;have A:=gF (s:=n3) h;have B:=h.may n3;have E:= @kB n3 z2;have hcs:=fun e=>aVk hO hS (b8 z2).pl deep B (by have:=A e;omega) (by omega)
 generalize bT n3 z2=m at u A B E hcs ⊢;obtain⟨b,z3⟩:=m;dsimp only at u A B E hcs ⊢;refine aA (sk 1 rfl (kc u ?_));refine az ?_;cases b with
 | true=>
  rw[ζ rfl];have hcs:=hcs rfl;refine aB rfl (fun _=>sk 4 rfl (kc hcs ?_)) (fun hb=>Bool.noConfusion hb);exact kz 1 rfl (aE (rtC trw))
 | false=>
 obtain rfl:=E rfl;rw[η χ];clear u A B hcs E;refine aB rfl (fun hb=>Bool.noConfusion hb) (fun _=>aD ?_);have U:=aR4 hO hS deep h hN (by omega);obtain⟨o1,_,o3,o4⟩:=lL hO deep h;have hlz:=h.lp;generalize hT:b8 z3=t at hn ⊢;unfold gC;rw[hT];generalize iV ex deep z3=y at U o1 o3 o4 ⊢;obtain⟨⟨e0,b0⟩,z4⟩:=y;dsimp only at U o1 o3 o4 ⊢;have o4:z4.R.length≤z3.R.length:=o4;refine sk 2 rfl (kc U ?_);refine kz 6 rfl ?_;have Y:∃z5,z5=(if b0=false then bV 12 t.pl z4 else z4)∧ZA L z5∧z5.R.length≤z3.R.length∧(z5.e=0→z5.R.length<z3.R.length):=by
  refine⟨_,rfl,?_⟩;split
  ·exact⟨o1.fail _ _,by rw[qY];exact o4,fun e=>(cJ (by decide) e).elim⟩
  ·rename_i hb;exact⟨o1,o4,fun e=>o3 (by simpa using hb) e⟩
 obtain⟨z5,Y,h5,l5,l5'⟩:=Y;rw[←Y];have hfl:=eR L z4 12 t.pl;refine aA (AWp.cut (mk [(0,xP),(1,I .i64 (deep:Nat)),(4,.one (.vp 4 0)),(5,.one (.vp 5 0)),(6,.one (.vp 6 0))] [(700,zO L z5),(4,.var 47 (aNs.map .c)),(5,.var 131 ((aI t).map .c)),(6,.var 47 ((bR e0).map .c))]) ?_ ?_)
 ·refine sg rfl ?_;cases b0 with
  | false=>
   rw[ζ rfl] at Y;subst Y;refine aB rfl (fun _=>aC mixed (ak 3 [] rfl (kc hfl ?_))) (fun hb=>Bool.noConfusion hb);exact az sl
  | true=>
   rw[η (show ¬(true=false) from fun k=>Bool.noConfusion k)] at Y;subst Y;exact aB rfl (fun hb=>Bool.noConfusion hb) (fun _=>aD sl)
 have hWx:∃W,W=fZ ex deep t.pl (z3.R.length+1) e0 z5:=⟨_,rfl⟩
 obtain⟨W,J⟩:=hWx;rw[←J];clear U o1 o3 o4 hfl Y;refine aA (aF (aJ (fun q:Ex×Z×Nat=>mk [(0,xP),(1,I .i64 (deep:Nat)),(4,.one (.vp 4 0)),(5,.one (.vp 5 0)),(6,.one (.vp 6 0))] [(700,zO L q.2.1),(4,.var 47 (aNs.map .c)),(5,.var 131 ((aI t).map .c)),(6,.var 47 ((bR q.1).map .c))]) (fun q=>ZA L q.2.1∧q.2.1.R.length≤z3.R.length∧(q.2.1.e=0→q.2.1.R.length<q.2.2)∧W=fZ ex deep t.pl q.2.2 q.1 q.2.1) (fun q=>if q.2.1.e=0 then q.2.1.R.length+1 else 0) (e0,z5,z3.R.length+1) ⟨h5,l5,fun _=>by dsimp only;omega,J⟩ sl ?_));clear J h5 l5 l5';rintro⟨e,z6,f⟩ ⟨h6,l6,hf,J⟩;dsimp only at h6 l6 hf J ⊢;have ho6:=fP L z6;have hend:∀(z7:Z) (st:St),ZA L z7→Sub (keys [(700,zO L z3)]) (mk [(0,xP),(4,.one (.vp 4 0)),(5,.one (.vp 5 0)),(6,.one (.vp 6 0))] [(700,zO L z7),(4,.var 47 (aNs.map .c)),(5,.var 131 ((aI t).map .c)),(6,.var 47 ((bR e).map .c))]) st→W=(e,z7)→
   AWp none Tryz.prog 82 (keys [(700,zO L z3)]) (kJ (kJ (kJ (kJ (kJ (kJ (kJ (kJ (kJ (kJ (Tryz.f46.body.getD .skip))))))))))) st (fun ex' st'=>(ex'=.normal∨ex'=.ret)∧Fin tr.flat Tryz.f46 st' [(700,zO L z3)] (.pa (bR (uN t.pl W).1)) [(700,zO L (uN t.pl W).2)]):=fun z7 st h7 hst hw=>by
  refine AWp.sub hst ?_;subst hw;have hm:=kD h7 eT;have g2:=h7.may eT;unfold uN;dsimp only;generalize bT eT z7=m at hm g2 ⊢;obtain⟨b,z8⟩:=m;dsimp only at hm g2 ⊢;refine aA (sk 1 rfl (kc hm ?_));refine az ?_;cases b with
  | true=>
   rw[ζ rfl];have hsc:=u6 g2 hwt;generalize bM z8=y at hsc ⊢;obtain⟨s,z9⟩:=y;dsimp only at hsc ⊢;refine aB rfl (fun _=>skh 5 [(3,.all)] rfl (kc hsc ?_)) (fun hb=>Bool.noConfusion hb);exact kz 2 rfl (aE (rtC trw))
  | false=>
   rw[η χ];exact aB rfl (fun hb=>Bool.noConfusion hb) (fun _=>aD (sg rfl (aE (rtC trw))))
 refine aA (sk 1 rfl (kc ho6 ?_));refine az ?_;by_cases he6:z6.e=0
 case neg=>
  have e0:fZ ex deep t.pl f e z6=(e,z6):=by
   cases f with
   | zero=>rfl
   | succ f=>rw[fZ,η he6]
  rw[e0] at J;have d0:decide (z6.e=0)=false:=φ he6;exact aB rfl (fun hb=>absurd (hb.symm.trans d0) Bool.noConfusion) (fun _=>aH (hend z6 _ h6 sl J))
 have d0:decide (z6.e=0)=true:=θ he6;have hf:=hf he6;obtain⟨f,rfl⟩:∃g,f=g+1:=⟨f-1,by omega⟩
 rw[fZ,ζ he6] at J;have U:=aR4 hO hS deep h6 (by omega) (by omega);obtain⟨o1,_,o3,o4⟩:=lL hO deep h6;generalize iV ex deep z6=y at U o1 o3 o4 J;obtain⟨⟨a,b⟩,z7⟩:=y;dsimp only at U o1 o3 o4 J;have o4:z7.R.length≤z6.R.length:=o4;refine aB rfl (fun _=>aD (aF (sk 2 rfl (kc U ?_)))) (fun hb=>absurd (hb.symm.trans d0) Bool.noConfusion);refine kz 6 rfl (aA (sg rfl ?_));cases b with
 | false=>
  rw[ζ rfl] at J;exact aB rfl (fun _=>aH (hend z7 _ o1 sl J)) (fun hb=>Bool.noConfusion hb)
 | true=>
  rw[η (show ¬(true=false) from fun k=>Bool.noConfusion k)] at J;refine aB rfl (fun hb=>Bool.noConfusion hb) (fun _=>aD (ag [(4,.all)] rfl ⟨(aQw t.pl e a,z7,f),⟨o1,by dsimp only;omega,fun h0=>by have:=o3 rfl h0;dsimp only;omega,J⟩,?_,Sub.trans ?_ (vp 6 (bR (aQw t.pl e a)))⟩))
  rotate_left
  ·exact sl
  dsimp only;rw[ζ he6];split
  ·rename_i h0;have:=o3 rfl h0;omega
  ·omega
end
theorem aUf {L:List Tk}(hwt:wt L≤30000):∀f,ExS L (yP f) f
 | 0=>fun deep z h hN _=>by have:=h.lp;omega
 | f+1=>fun deep z h hN q=>aZ5 (iG hwt f) (aUf hwt f) hwt deep h hN q
end Go.Proofs.YtkhgpgihmphfdaaGreatDoor
