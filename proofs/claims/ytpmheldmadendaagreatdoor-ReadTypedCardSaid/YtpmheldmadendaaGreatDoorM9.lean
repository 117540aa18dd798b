/-
  Texts Rd28 to Rd40 in one.
-/
import Derived.Test.YtpmheldmadendaaGreatDoorM8
open List (drop_eq_getElem_cons drop_eq_nil_of_le drop_length drop_zero length_append length_cons length_map length_nil length_pos_iff length_set length_singleton length_tail length_take map_append map_set mem_append mem_cons mem_cons_of_mem mem_cons_self mem_or_eq_of_mem_set mem_singleton take_add_one take_length)
open Nat (le_of_lt le_refl le_trans lt_of_le_of_lt lt_of_lt_of_le lt_succ_self mul_le_mul_right zero_le)
namespace Go.Proofs.YtpmheldmadendaaGreatDoor
open Go Go.AM
set_option maxRecDepth 20000
set_option maxHeartbeats 4000000
def dEl:List (Nat×V):=[(0,xP),(2,.one (.vp 2 0)),(3,.one (.vp 3 0)),(5,.one (.vp 5 0)),(7,.one (.vp 7 0)),(8,.one (.vp 8 0))]
def dHl (L:List Tk) (z:Z) (nm:Tk) (vs:List Tk) (out:List Cn) (cn:Tk) (fs:List Ty):List (Nat×AObj):=[(700,zO L z),(2,.var 81 [.c (.str []),.c (.int .i64 0),.c .nl,.c .nl,.c .nl]),(3,.var 152 ((aG nm).map .c)),(5,.var 81 [.c (.str nm.text),.c (.int .i64 nm.pl),.c (.sl 1 ((vs.map (·.text)).map b7)),.c .nl,.hs 502 0 out.length out.length]),(7,.var 152 ((aG cn).map .c)),(8,.var 84 [.c (.str cn.text),.c (.int .i64 cn.pl),.hs 501 0 fs.length fs.length]),(501,.arr 47 4 (fs.map bR) 0),(502,.arr 84 3 (out.map gI) 0)]
theorem aSk {L:List Tk}{z:Z}(h:ZA L z):b9 Tryz.prog 95 [xP] [(700,zO L z)] (.pa (gV (jL z).1)) [(700,zO L (jL z).2)]:=by
 have hw:=jD h 2 (by decide);have h1:=h.word (k:=2) (by decide);have M:=Ze.word 2 z;unfold jL fO;generalize aS 2 z=x1 at hw h1 M ⊢;obtain⟨nm,E⟩:=x1;dsimp only at hw h1 M ⊢;have Y:=qI h1;have h2:=h1.words;have l2:=Ze.words E;have ac:(aU E).1.length≤4001:=by
  unfold aU;split
  ·have:=kV rG E.R;have:=h1.len;dsimp only;omega
  ·exact ε _
 generalize aU E=x2 at Y h2 l2 ac ⊢;obtain⟨vs,z2⟩:=x2;dsimp only at Y h2 l2 ac ⊢;have htx:=aC9 vs ac;have ad:=lR L z2 vs.length 8 nm.pl;have h3:=h2.long vs.length 8 nm.pl;have l3:=Ze.long vs.length 8 nm.pl z2;generalize c8 vs.length 8 nm.pl z2=z3 at ad h3 l3 ⊢;have ae:=dF h3 eqS;have h4:=h3.need eqS;have l4:=Ze.need eqS z3;generalize aQ eqS z3=z4 at ae h4 l4 ⊢;have hok:=fP L z4;have hvk:(vs.map aG).length=vs.length:=η _;refine bP (n:=96) tok Tryz.func95 rfl rfl rfl ?_;refine sg rfl (sk 1 rfl (kc hw ?_));refine kz 2 rfl (sk 1 rfl (kc Y ?_));refine kz 1 rfl (sk 5 rfl ?_);rw[hvk];refine kc ad ?_;refine az (sk 5 rfl (kc htx ?_));refine kz 3 rfl (sk 1 rfl (kc ae ?_));refine az (aA (sk 1 rfl (kc hok ?_)));refine kz 1 rfl (AWp.sub (Sub.ownCell (x:=5) (k:=4) (id:=502) 84 3 rfl rfl rfl) ?_);have hWx:∃W,W=jC (nm,vs,z4):=⟨_,rfl⟩
 obtain⟨W,r⟩:=hWx;rw[←r];have hlen4:=h4.len;have aa:((decide (z4.e=0)=true∧W=gX (z4.R.length+1) nm.pl [] z4∧z4.R.length<z4.R.length+1∧([]:List Cn).length+z4.R.length≤4001)∨(decide (z4.e=0)=false∧W=(([]:List Cn),z4))):=by
  unfold jC at r;by_cases he:z4.e=0
  ·refine .inl ⟨φ he,?_,by omega,by rw[length_nil];omega⟩;rw[r];exact ζ he
  ·refine .inr ⟨ψ he,?_⟩;rw[r];exact ξ he
 refine aF (aK (fun q:Bool×List Cn×Z×Nat=>mk [(0,xP),(2,.one (.vp 2 0)),(3,.one (.vp 3 0)),(5,.one (.vp 5 0)),(6,B q.1)] [(700,zO L q.2.2.1),(2,.var 81 [.c (.str []),.c (.int .i64 0),.c .nl,.c .nl,.c .nl]),(3,.var 152 ((aG nm).map .c)),(5,.var 81 [.c (.str nm.text),.c (.int .i64 nm.pl),.c (.sl 1 ((vs.map (·.text)).map b7)),.c .nl,.hs 502 0 q.2.1.length q.2.1.length]),(502,.arr 84 3 (q.2.1.map gI) 0)]) (fun q=>ZA L q.2.2.1∧((q.1=true∧W=gX q.2.2.2 nm.pl q.2.1 q.2.2.1∧q.2.2.1.R.length<q.2.2.2∧q.2.1.length+q.2.2.1.R.length≤4001)∨(q.1=false∧W=(q.2.1,q.2.2.1)))) (fun q=>if q.1=true then q.2.2.1.R.length+1 else 0) (decide (z4.e=0),[],z4,z4.R.length+1) ⟨h4,aa⟩ sl ?_);clear aa r hw h1 M Y h2 l2 htx ad h3 l3 ae l4 hok;rintro⟨more,out,z0,f⟩ ⟨h,hinv⟩;dsimp only at h hinv ⊢;have hout:(out.map gI).length=out.length:=η _;refine aA (sg rfl ?_);rcases hinv with⟨hm,r,hf,hol⟩ | ⟨hm,r⟩
 case inr=>
  subst hm;refine aB rfl (fun hb=>absurd hb (by decide)) (fun _=>aH (AWp.sub (Sub.freeze (id:=502) rfl) ?_));refine sg rfl ?_;rw[r];exact aE (rtC trw)
 subst hm;obtain⟨f,rfl⟩:∃g,f=g+1:=⟨f-1,by omega⟩
 rw[gX] at r;unfold pK at r;have hw:=jD h 2 (by decide);have h1:=h.word (k:=2) (by decide);have M:=Ze.word 2 z0;generalize aS 2 z0=x1 at hw h1 M r;obtain⟨u,E⟩:=x1;dsimp only at hw h1 M r;refine aB rfl (fun _=>aD (aA (aF (sk 1 rfl (kc hw ?_))))) (fun hb=>absurd hb (by decide));refine kz 2 rfl (sg rfl (AWp.sub (Sub.ownCell (x:=8) (k:=2) (id:=501) 47 4 rfl rfl rfl) ?_));have hlen1:=h1.len;have hwtL:wt L≤wt L:=le_refl _;obtain⟨k2,k3,k4,k5⟩:=oZ (E.R.length+1) [] E h1 (fun x hx=>by cases hx) (by rw[length_nil];omega);have hFx:∃F,F=bZ (E.R.length+1) [] E:=⟨_,rfl⟩
 obtain⟨F,J⟩:=hFx;rw[←J] at k2 k3 k4 k5 r;refine aA (aF (aK (fun q:List Ty×Z×Nat=>mk dEl (dHl L q.2.1 nm vs out u q.1)) (fun q=>ZA L q.2.1∧F=bZ q.2.2 q.1 q.2.1∧(q.2.1.e=0→q.2.1.R.length<q.2.2)∧(q.2.1.e=0→q.1.length+q.2.1.R.length≤4001)∧q.1.length≤4002) (fun q=>if q.2.1.e=0 then q.2.1.R.length+1 else 0) ([],E,E.R.length+1) ⟨h1,J,fun _=>by dsimp only;omega,fun _=>by dsimp only;rw[length_nil];omega,ε _⟩ sl ?_))
 ·clear J hw h1 hlen1;rintro⟨fs,z,g⟩ ⟨h,J,hg,af,hfl⟩;dsimp only at h J hg af hfl ⊢;have ab:(fs.map bR).length=fs.length:=η _;have ho:=fP L z;have hn:=fZ h;have hi:=aJs h bI;refine aA (aA (AWp.cut (mk ((57,B (decide (z.e=0)&&aJ2 z))::dEl) (dHl L z nm vs out u fs)) ?_ ?_))
  ·unfold aJ2;by_cases he:z.e=0
   case neg=>
    rw[ψ he] at ho ⊢;rw[B3];refine aC mixed (ak 1 [] rfl (kc ho ?_));exact ak 16 [(2,.bv false),(17,.bv false)] rfl (az sl)
   rw[φ he] at ho ⊢;rw[B8];by_cases h1:(b6 z).kind=1
   ·have d1:decide ((b6 z).kind=1)=true:=φ h1;rw[d1,B4];refine aC mixed (ak 1 [] rfl (kc ho ?_));refine ak 2 [(2,.bv true)] rfl (kcG hn ?_);exact ak 13 [(2,.bv true),(7,.bv true),(12,.bv true),(13,.bv true),(16,.bv true),(17,.bv true)] rfl (az sl)
   have d1:decide ((b6 z).kind=1)=false:=ψ h1;rw[d1,A9];by_cases h2:(b6 z).kind=2
   ·have d2:decide ((b6 z).kind=2)=true:=φ h2;rw[d2,B4];refine aC mixed (ak 1 [] rfl (kc ho ?_));refine ak 2 [(2,.bv true)] rfl (kcG hn ?_);refine ak 4 [(2,.bv true),(7,.bv false)] rfl (kcG hn ?_);exact ak 8 [(2,.bv true),(7,.bv false),(12,.bv false),(13,.bv true),(16,.bv true),(17,.bv true)] rfl (az sl)
   ·have d2:decide ((b6 z).kind=2)=false:=ψ h2;rw[d2,A9];refine aC mixed (ak 1 [] rfl (kc ho ?_));refine ak 2 [(2,.bv true)] rfl (kcG hn ?_);refine ak 4 [(2,.bv true),(7,.bv false)] rfl (kcG hn ?_);refine ak 5 [(2,.bv true),(7,.bv false),(12,.bv false),(13,.bv false)] rfl (kcG hi ?_);exact ak 2 [(2,.bv true),(13,.bv false),(16,.bv false),(17,.bv true)] rfl (az sl)
  refine aB rfl (fun hb=>?_) (fun hb=>?_)
  ·rw[π] at hb;have he:z.e=0:=κ hb.1;obtain⟨y,ps,w,i,e,p,ha,ht⟩:=aSq h he;obtain⟨g1,g2,g3,g4,g5⟩:=vB h;obtain⟨g,rfl⟩:∃k,g=k+1:=⟨g-1,by have:=hg he;omega⟩
   rw[bZ,ζ ⟨he,hb.2⟩] at J;have hlp:=h.lp;have hol3:=af he;generalize eK z=x at ht g1 g2 g3 g4 g5 J;obtain⟨x,z'⟩:=x;dsimp only at ht g1 g2 g3 g4 g5 J;refine aD (aF (aC mixed (ak 11 [] rfl (kc ha ?_))));refine kc ht ?_;refine ak 5 [(14,.all)] rfl (az ?_);have I:fs.map bR++[bR x]=(fs++[x]).map bR:=by rw[Al];rfl
   have hle:(fs++[x]).length=fs.length+1:=by rw[θ];rfl
   have g5':z'.R.length≤z.R.length:=g5;have hg:=hg he;refine⟨(fs++[x],z',g),⟨g1,J,fun h0=>by have:=g4 h0;dsimp only;omega,fun h0=>by have:=g4 h0;dsimp only;rw[hle];omega,by dsimp only;rw[hle];omega⟩,?_,?_⟩
   ·dsimp only;rw[ζ he];split
    ·rename_i h0;have:=g4 h0;omega
    ·omega
   ·exact sl (he:=⟨rfl,rfl,rfl,rfl,rfl,rfl,trivial⟩) (hh:=⟨⟨_,rfl,.var rfl⟩,⟨_,rfl,.var rfl⟩,⟨_,rfl,.var rfl⟩,⟨_,rfl,.var rfl⟩,⟨_,rfl,.var rfl⟩,⟨_,rfl,.var (by rw[hle,←ab];rfl)⟩,⟨_,rfl,.arrS I⟩,⟨_,rfl,Go.AM.Ole.arr⟩,trivial⟩)
  ·have hb':¬(z.e=0∧aJ2 z=true):=fun hh=>by rw[φ hh.1,hh.2] at hb;cases hb
   rw[lL hb'] at J;subst J;dsimp only at r k2 k3 k4 k5;have ah:=lR L z fs.length 8 u.pl;have h5:=h.long fs.length 8 u.pl;have l5:=Ze.long fs.length 8 u.pl z;generalize c8 fs.length 8 u.pl z=z5 at ah h5 l5 r;have I:out.map gI++[[.str u.text,.int .i64 u.pl,.sl 4 (fs.map bR)]]=(out++[(⟨u.text,u.pl,fs⟩:Cn)]).map gI:=by rw[Al];rfl
   have hle:(out++[(⟨u.text,u.pl,fs⟩:Cn)]).length=out.length+1:=by rw[θ];rfl
   generalize hO:out++[(⟨u.text,u.pl,fs⟩:Cn)]=O at r I hle;have hl2:=lR L z5 O.length 16 nm.pl;have h6:=h5.long O.length 16 nm.pl;have l6:=Ze.long O.length 16 nm.pl z5;generalize c8 O.length 16 nm.pl z5=U at hl2 h6 l6 r;have hm:=j7 h6 vO;have h7:=h6.may vO;have l7:(bT vO U).1=true→(bT vO U).2.R.length<U.R.length:=fun hb=>by
    unfold bT at hb ⊢;split
    ·have:=h6.lp;show U.R.tail.length<_;rw[length_tail];omega
    ·rename_i hc;rw[ξ hc] at hb;cases hb
   generalize bT vO U=m at hm h7 l7 r;obtain⟨b,z7⟩:=m;dsimp only at hm h7 l7 r;refine aH (AWp.sub (Sub.freeze (id:=501) rfl) ?_);refine AWp.sub (vp 8 [.str u.text,.int .i64 u.pl,.sl 4 (fs.map bR)] (hp:=.c .refl (.c .refl (.hs rfl ab.symm (Go.AM.take_all ab.symm) .nil)))) ?_;rw[←ab] at ah;refine sk 6 rfl (kc ah ?_);refine az (sgh [(3,.all)] rfl (AWp.sub (st2:=mk [(0,xP),(2,.one (.vp 2 0)),(3,.one (.vp 3 0)),(5,.one (.vp 5 0))] [(700,zO L z5),(2,.var 81 [.c (.str []),.c (.int .i64 0),.c .nl,.c .nl,.c .nl]),(3,.var 152 ((aG nm).map .c)),(5,.var 81 [.c (.str nm.text),.c (.int .i64 nm.pl),.c (.sl 1 ((vs.map (·.text)).map b7)),.c .nl,.hs 502 0 O.length O.length]),(502,.arr 84 3 (O.map gI) 0)]) (sl (hh:=⟨⟨_,rfl,.var rfl⟩,⟨_,rfl,.var rfl⟩,⟨_,rfl,.var rfl⟩,⟨_,rfl,.var (by rw[hle,←hout];rfl)⟩,⟨_,rfl,.arrS I⟩,trivial⟩)) ?_));refine aC mixed (ak 6 [] rfl (kc hl2 ?_));refine az (aC mixed (ak 1 [] rfl (kc hm ?_)));refine kz 1 rfl ?_;have l1':E.R.length≤z0.R.length:=M;have l6':U.R.length≤z0.R.length:=by
    have a1:z.R.length≤E.R.length:=k4;have a2:z5.R.length≤z.R.length:=l5;have a3:U.R.length≤z5.R.length:=l6;omega
   cases b with
   | true=>
    rw[ζ rfl] at r;have:=l7 rfl;exact⟨(true,O,z7,f),⟨h7,.inl ⟨rfl,r,by dsimp only;omega,by dsimp only;omega⟩⟩,by dsimp only;rw[ζ rfl,ζ rfl];omega,sl⟩
   | false=>
    rw[ξ (by decide)] at r;exact⟨(false,O,z7,f),⟨h7,.inr ⟨rfl,r⟩⟩,by dsimp only;rw[ξ (by decide),ζ rfl];omega,sl⟩
inductive Pt where
 | mk (form pl n:Int) (name:Str) (kids:List Pt)
def Pt.form:Pt→Int | .mk f _ _ _ _=>f
def Pt.pl:Pt→Int | .mk _ p _ _ _=>p
def Pt.n:Pt→Int | .mk _ _ n _ _=>n
def Pt.name:Pt→Str | .mk _ _ _ s _=>s
def Pt.kids:Pt→List Pt | .mk _ _ _ _ l=>l
mutual
def kP:Pt→List (List C)
 | .mk _ _ _ _ l=>xO l
def xO:List Pt→List (List C)
 | []=>[]
 | p::l=>[.int .i64 p.form,.int .i64 p.pl,.int .i64 p.n,.str p.name,.sl 10 (kP p),.int .i64 0,.int .i64 0,.str [],.sl 4 [],.sl 4 []]::xO l
end
def bL (p:Pt):List C:=[.int .i64 p.form,.int .i64 p.pl,.int .i64 p.n,.str p.name,.sl 10 (kP p),.int .i64 0,.int .i64 0,.str [],.sl 4 [],.sl 4 []]
theorem tA:∀l:List Pt,xO l=l.map bL
 | []=>by simp[xO]
 | p::l=>by rw[xO,tA l];rfl
theorem j6 (p:Pt):kP p=p.kids.map bL:=by cases p;rw[kP,tA];rfl
def zPt:Pt:=.mk 0 0 0 [] []
def aFr:Str:=[95]
def kI (t:Tk):Int:=if t.kind=1 then 2 else if t.kind=2 then 4 else 3
def kH (t:Tk):Str:=if t.kind=3 then [] else t.text
def tlZ (z:Z):Z:=⟨z.R.tail,z.e,z.p⟩
mutual
def bA:Nat→Nat→Z→(Pt×Bool)×Z
 | 0,_,z=>((zPt,false),z)
 | f+1,o,z=>
  if ¬z.e=0 then((zPt,false),z)
  else if 0<(b6 z).kind∧(b6 z).kind<4 then((.mk (kI (b6 z)) (b6 z).pl (b6 z).n (kH (b6 z)) [],true),tlZ z)
  else if(bT aFr z).1=true then((.mk 1 (b6 z).pl 0 [] [],true),(bT aFr z).2)
  else if isZ bI z=false then((zPt,false),z)
  else if 40≤o then((zPt,false),bS 13 (b6 z).pl z)
  else(((gD f (o+1) (aQ bI z)).1,true),aQ c6 (gD f (o+1) (aQ bI z)).2)
def gD:Nat→Nat→Z→Pt×Z
 | 0,_,z=>(zPt,bS 12 0 z)
 | f+1,o,z=>
  if(bA f o z).1.2=false then(zPt,bS 12 (b6 z).pl (bA f o z).2)
  else if(b6 z).kind=2∧z.e=0 then(.mk 4 (b6 z).pl (b6 z).n (b6 z).text (eU f o [] (tlZ z)).1,(eU f o [] (tlZ z)).2)
  else(bA f o z).1.1 |>fun p=>(p,(bA f o z).2)
def eU:Nat→Nat→List Pt→Z→List Pt×Z
 | 0,_,out,z=>(out,z)
 | f+1,o,out,z=>
  if z.e=0 then(if(bA f o z).1.2=false then(out,(bA f o z).2) else eU f o (out++[(bA f o z).1.1]) (bA f o z).2)
  else(out,z)
end
mutual
def ptB:Pt→Prop
 | .mk _ _ _ _ l=>l.length≤4002∧wJ l
def wJ:List Pt→Prop
 | []=>True
 | p::l=>ptB p∧wJ l
end
theorem qC:∀{l:List Pt}{p:Pt},wJ l→ptB p→wJ (l++[p])
 | [],_,_,h=>⟨h,trivial⟩
 | _::_,_,h,k=>⟨h.1,qC h.2 k⟩
theorem ZA.tlp {L:List Tk}{z:Z}(h:ZA L z) (q:¬(b6 z).kind=6):ZA L (tlZ z):=(h.tl q z.e z.p).1
theorem fG {L:List Tk}{z:Z}(h:ZA L z) {s:Str}(hb:(bT s z).1=true):(bT s z).2.R.length<z.R.length:=by
 unfold bT at hb ⊢;split
 ·have:=h.lp;show z.R.tail.length<_;rw[length_tail];omega
 ·rename_i hc;rw[ξ hc] at hb;cases hb
theorem iW (s:Str) (z:Z):(bT s z).2.e=z.e:=by unfold bT;split<;>rfl
theorem zT {L:List Tk}{z:Z}(h:ZA L z) {s:Str}(hb:(aQ s z).e=0):(aQ s z).R.length<z.R.length:=by
 unfold aQ at hb ⊢;split
 ·rename_i hm;exact fG h hm
 ·rename_i hm;rw[ξ hm] at hb;unfold bS at hb;split at hb
  ·cases hb
  ·rename_i hc;exact absurd hb hc
theorem aX {s:Str}{z:Z}(hb:(aQ s z).e=0):z.e=0:=by
 unfold aQ at hb;split at hb
 ·rw[iW] at hb;exact hb
 ·unfold bS at hb;split at hb
  ·assumption
  ·exact hb
theorem gH {e p:Int}(he:¬e=0) {z:Z}(hb:(bS e p z).e=0):False:=by
 unfold bS at hb;split at hb
 ·exact he hb
 ·rename_i h;exact h hb
theorem aHz {s:Str}{z:Z}(he:z.e=0) (h:isZ s z=true):aQ s z=tlZ z:=by
 have hm:bT s z=(true,tlZ z):=by unfold bT;rw[ζ ⟨he,h⟩];rfl
 unfold aQ;rw[hm];exact ζ rfl
theorem qS {L:List Tk}{z:Z}(h:ZA L z):(tlZ z).R.length<z.R.length:=by
 have:=h.lp;show z.R.tail.length<_;rw[length_tail];omega
def aZ0 (L:List Tk) (f:Nat):Prop:=∀o z,ZA L z→ZA L (bA f o z).2∧ptB (bA f o z).1.1∧((bA f o z).1.2=true→(bA f o z).2.e=0→(bA f o z).2.R.length<z.R.length)∧Ze z (bA f o z).2
def a3f (L:List Tk) (f:Nat):Prop:=∀o z,ZA L z→ZA L (gD f o z).2∧ptB (gD f o z).1∧((gD f o z).2.e=0→(gD f o z).2.R.length<z.R.length)∧Ze z (gD f o z).2
def aZ4 (L:List Tk) (f:Nat):Prop:=∀o out z,ZA L z→wJ out→(z.e=0→out.length+z.R.length≤4001)→out.length≤4002→ZA L (eU f o out z).2∧wJ (eU f o out z).1∧(eU f o out z).1.length≤4002∧Ze z (eU f o out z).2
theorem bJ {s:Str}{z:Z}(h:¬z.e=0):aQ s z=z:=by
 have hm:bT s z=(false,z):=by unfold bT;rw[ξ (fun k=>h k.1)]
 unfold aQ;rw[hm];rw[ξ ω];unfold bS;rw[ξ h]
theorem aEi:ptB zPt:=⟨ε _,trivial⟩
theorem uK {k:Int}(h:0<k∧k<4):¬k=6:=by omega
theorem jW (L:List Tk):∀f,aZ0 L f∧a3f L f∧aZ4 L f:=by
 intro f
 induction f with
 | zero=>
  refine⟨fun o z h=>?_,fun o z h=>?_,fun o out z h hb hl q=>?_⟩
  ·rw[bA];exact⟨h,aEi,fun e=>Bool.noConfusion e,Ze.refl z⟩
  ·rw[gD];exact⟨h.fail _ _,aEi,fun e=>(gH (by decide) e).elim,Ze.fail _ _ _⟩
  ·rw[eU];exact⟨h,hb,q,Ze.refl z⟩
 | succ f U=>
  obtain⟨r,O,u⟩:=U;refine⟨fun o z h=>?_,fun o z h=>?_,fun o out z h hb hl q=>?_⟩
  ·rw[bA];split
   ·exact⟨h,aEi,fun e=>Bool.noConfusion e,Ze.refl z⟩
   rename_i he;split
   ·rename_i B;have:=qS h;exact⟨h.tlp (uK B),⟨ε _,trivial⟩,fun _ _=>this,Dc this⟩
   split
   ·rename_i hm;exact⟨h.may _,⟨ε _,trivial⟩,fun _ _=>fG h hm,Ze.may _ _⟩
   split
   ·exact⟨h,aEi,fun e=>Bool.noConfusion e,Ze.refl z⟩
   split
   ·exact⟨h.fail _ _,aEi,fun e=>Bool.noConfusion e,Ze.fail _ _ _⟩
   ·obtain⟨g1,g2,g3,g4⟩:=O (o+1) (aQ bI z) (h.need _);refine⟨g1.need _,g2,fun _ e=>?_,((Ze.need bI z).trans g4).trans (Ze.need _ _)⟩;have Y:=zT g1 e;have a2:(gD f (o+1) (aQ bI z)).2.R.length≤z.R.length:=(Ze.need bI z).trans g4;exact A7 Y a2
  ·rw[gD];obtain⟨g1,g2,g3,g4⟩:=r o z h;split
   ·exact⟨g1.fail _ _,aEi,fun e=>(gH (by decide) e).elim,g4.trans (Ze.fail _ _ _)⟩
   rename_i hs;have hs:(bA f o z).1.2=true:=by simpa using hs
   split
   ·rename_i B;have ht:=qS h;obtain⟨E,I,J,M⟩:=u o [] (tlZ z) (h.tlp (by rw[B.1];decide)) trivial (fun _=>by have:=h.len;rw[length_nil];omega) (ε _);have y:(eU f o [] (tlZ z)).2.R.length≤(tlZ z).R.length:=M;exact⟨E,⟨J,I⟩,fun _=>Bz y ht,Dc (Bz y ht)⟩
   ·exact⟨g1,g2,g3 hs,g4⟩
  ·rw[eU];split
   ·rename_i he;obtain⟨g1,g2,g3,g4⟩:=r o z h;split
    ·exact⟨g1,hb,q,g4⟩
    rename_i hs;have hs:(bA f o z).1.2=true:=by simpa using hs
    have hl:=hl he;have aa:=h.lp;have hle:(out++[(bA f o z).1.1]).length=out.length+1:=by rw[θ];rfl
    obtain⟨E,I,J,M⟩:=u o (out++[(bA f o z).1.1]) (bA f o z).2 g1 (qC hb g2) (fun e=>by have:=g3 hs e;omega) (by omega);exact⟨E,I,J,g4.trans M⟩
   ·exact⟨h,hb,q,Ze.refl z⟩
def aT2:List C:=[.int .i64 0,.int .i64 0,.int .i64 0,.str [],.nl,.int .i64 0,.int .i64 0,.str [],.nl,.nl]
def aTb (L:List Tk) (f:Nat):Prop:=∀(o:Nat) (z:Z),ZA L z→(z.e=0→3*z.R.length≤f)→o≤40→b9 Tryz.prog 105 [xP,I .i64 (o:Nat)] [(700,zO L z)] (.tup [.pa (bL (bA f o z).1.1),B (bA f o z).1.2]) [(700,zO L (bA f o z).2)]
def aZ2 (L:List Tk) (f:Nat):Prop:=∀(o:Nat) (z:Z),ZA L z→(z.e=0→3*z.R.length+1≤f)→o≤40→b9 Tryz.prog 51 [xP,I .i64 (o:Nat)] [(700,zO L z)] (.pa (bL (gD f o z).1)) [(700,zO L (gD f o z).2)]
theorem xX {L:List Tk}{z:Z}(h:ZA L z) (he:z.e=0) (y:0<(b6 z).kind∧(b6 z).kind<4) (o:Nat) (E J r:C) (u:(E=.nl∧J=.nl∧r=.nl)∨(E=.sl 10 []∧J=.sl 4 []∧r=.sl 4 [])):b9 Tryz.prog 105 [xP,I .i64 (o:Nat)] [(700,zO L z)] (.tup [.pa [.int .i64 (kI (b6 z)),.int .i64 (b6 z).pl,.int .i64 (b6 z).n,.str (kH (b6 z)),E,.int .i64 0,.int .i64 0,.str [],J,r],B true]) [(700,zO L (tlZ z))]:=by
 have ho:=fP L z;rw[φ he] at ho;have hn:=fZ h;obtain⟨_,M⟩:=h.tl (uK y) z.e z.p;have U:=h.l;have O:zO L (tlZ z)=.var 78 [.c (.sl 4 (L.map aG)),.c (.int .i64 ((L.length-z.R.length+1:Nat):Int)),.c (.int .i64 z.e),.c (.int .i64 z.p)]:=by
  unfold zO tlZ;dsimp only;rw[M]
 rw[O];generalize b6 z=t at hn y ⊢;refine bP (n:=74) tok Tryz.func105 rfl rfl rfl ?_;refine sg rfl (aA (sk 1 rfl (kc ho ?_)));refine kz 1 rfl (aB rfl (fun hb=>absurd hb (by decide)) (fun _=>aD (sk 1 rfl (kc hn ?_))));refine kz 2 rfl ?_;have d1:decide ((0:Int)<t.kind)=true:=φ y.1;have d2:decide (t.kind<(4:Int))=true:=φ y.2;refine aA (sgh [(3,.bv true),(7,.bv true)] rfl (aB rfl (fun _=>?_) (fun hb=>absurd (hb.symm.trans d2) (by decide))));have q:t.kind=1∨t.kind=2∨t.kind=3:=by omega
 unfold zO;refine aA (agN [] rfl ?_);rcases q with q | q | q
 ·unfold kI kH;rw[ζ q,ξ (by omega)];refine sgh [(3,.row 1 [.int .i64 2]),(16,.row 1 [.str t.text]),(0,.all),(13,.all)] rfl ?_;rcases u with⟨rfl,rfl,rfl⟩ | ⟨rfl,rfl,rfl⟩<;>exact aE q9
 ·unfold kI kH;rw[ξ (by omega),ζ q,ξ (by omega)];refine sgh [(3,.row 2 [.int .i64 4]),(16,.row 2 [.str t.text]),(0,.all),(13,.all)] rfl ?_;rcases u with⟨rfl,rfl,rfl⟩ | ⟨rfl,rfl,rfl⟩<;>exact aE q9
 ·unfold kI kH;rw[ξ (by omega),ξ (by omega),ζ q];refine sgh [(3,.row 3 [.int .i64 3]),(16,.row 3 [.str []]),(0,.all),(13,.all)] rfl ?_;rcases u with⟨rfl,rfl,rfl⟩ | ⟨rfl,rfl,rfl⟩<;>exact aE q9
theorem nC {L:List Tk}{z:Z}(he:¬z.e=0) (o:Nat):b9 Tryz.prog 105 [xP,I .i64 (o:Nat)] [(700,zO L z)] (.tup [.pa (bL zPt),B false]) [(700,zO L z)]:=by
 have ho:=fP L z;rw[ψ he] at ho;refine bP (n:=74) tok Tryz.func105 rfl rfl rfl ?_;refine sg rfl (aA (sk 1 rfl (kc ho ?_)));exact kz 1 rfl (aB rfl (fun _=>sg rfl (aE q9)) (fun hb=>Bool.noConfusion hb))
theorem fW {e p:Int}{z:Z}(h:¬z.e=0):bS e p z=z:=by unfold bS;rw[ξ h]
theorem aNj {L:List Tk}{z:Z}(h:ZA L z) (he:¬z.e=0) (o:Nat):b9 Tryz.prog 51 [xP,I .i64 (o:Nat)] [(700,zO L z)] (.pa (bL zPt)) [(700,zO L z)]:=by
 have hn:=fZ h;have hs:=nC (L:=L) he o;have q:=eB L z 12 (b6 z).pl;rw[fW he] at q;refine bP (n:=47) tok Tryz.func51 rfl rfl rfl ?_;refine sg rfl (sk 1 rfl (kc hn ?_));refine kz 2 rfl (sk 2 rfl (kc hs ?_));refine kz 6 rfl (aA (sg rfl (aB rfl (fun _=>sk 3 rfl (kc q ?_)) (fun hb=>Bool.noConfusion hb))));exact az (sg rfl (aE (rtC trw)))
theorem aJh (L:List Tk) (f:Nat) (ih:aZ2 L f):aTb L (f+1):=by
 intro o z h hf ho40;rw[bA];by_cases he:z.e=0
 case neg=>
  rw[ζ he];exact nC he o
 rw[ξ (fun k=>k he)];by_cases E:0<(b6 z).kind∧(b6 z).kind<4
 ·rw[ζ E];exact xX h he E o _ _ _ (.inr ⟨rfl,rfl,rfl⟩)
 rw[ξ E];have ho:=fP L z;rw[φ he] at ho;have hn:=fZ h;have hm:=j7 h aFr;have hi:=aJs h bI;have U:=eB L z 13 (b6 z).pl;have Y:=dF h bI;have h1:=h.need bI;have r:isZ bI z=true→aQ bI z=tlZ z:=aHz he;have htl:=qS h;have J:(bT aFr z).1=false→(bT aFr z).2=z:=fun hb=>by
  unfold bT at hb ⊢;split
  ·rename_i hc;rw[ζ hc] at hb;cases hb
  ·rfl
 refine bP (n:=74) tok Tryz.func105 rfl rfl rfl ?_;refine sg rfl (aA (sk 1 rfl (kc ho ?_)));refine kz 1 rfl (aB rfl (fun hb=>Bool.noConfusion hb) (fun _=>aD (sk 1 rfl (kc hn ?_))));refine kz 2 rfl (aA (aA (AWp.cut (mk [(0,xP),(1,I .i64 (o:Nat)),(4,.one (.vp 4 0)),(6,.one (.vp 6 0)),(21,B false)] [(700,zO L z),(4,.var 49 (aT2.map .c)),(6,.var 152 ((aG (b6 z)).map .c))]) ?_ ?_)))
 ·by_cases k0:0<(b6 z).kind
  ·have d2:decide ((b6 z).kind<(4:Int))=false:=ψ (fun k=>E ⟨k0,k⟩);have d1:decide ((0:Int)<(b6 z).kind)=true:=φ k0;refine ag [(3,.bv true),(7,.bv true)] rfl ?_;rw[d2];exact sl
  ·have d1:decide ((0:Int)<(b6 z).kind)=false:=ψ k0;exact ag [(3,.bv false),(7,.bv false)] rfl sl
 refine aB rfl (fun hb=>Bool.noConfusion hb) (fun _=>aD (aA (sk 1 rfl (kc hm ?_))));refine az ?_;generalize bT aFr z=m at J hm ⊢;obtain⟨b,u⟩:=m;cases b with
 | true=>
  rw[ζ rfl];exact aB rfl (fun _=>sg rfl (aE q9)) (fun hb=>Bool.noConfusion hb)
 | false=>
 have aa:u=z:=J rfl;subst aa;rw[ξ ω];refine aB rfl (fun hb=>Bool.noConfusion hb) (fun _=>aD (aA (sk 1 rfl (kc hi ?_))));refine kz 1 rfl ?_;generalize isZ bI u=b at r ⊢;cases b with
 | false=>
  rw[ζ rfl];exact aB rfl (fun _=>sg rfl (aE q9)) (fun hb=>Bool.noConfusion hb)
 | true=>
 have r:=r rfl;rw[ξ (by decide)];refine aB rfl (fun hb=>Bool.noConfusion hb) (fun _=>aD (aA (sg rfl (aB rfl (fun hb=>?_) (fun hb=>?_)))))
 ·rw[ζ (by have:=κ hb;omega)];refine sk 3 rfl (kc U ?_);exact az (sg rfl (aE q9))
 have M:¬40≤o:=by have:=Af hb;omega
 rw[ξ M];have hp:=ih (o+1) (aQ bI u) h1 (fun _=>by rw[r];have:=hf he;omega) (by omega);obtain⟨g1,_⟩:=(jW L f).2.1 (o+1) (aQ bI u) h1;generalize gD f (o+1) (aQ bI u)=y at hp g1 ⊢;obtain⟨q,z2⟩:=y;dsimp only at hp g1 ⊢;have O:=dF g1 c6;refine aD (sk 1 rfl (kc Y ?_));refine az (aA (aC mixed (akN 3 [] rfl (kc hp ?_))));refine akN 2 [] rfl (az (sk 1 rfl (kc O ?_)));exact az (sg rfl (aE q9))
theorem aWo (L:List Tk) (f:Nat) (ihS:∀g,g≤f→aTb L g):aZ2 L (f+1):=by
 intro o z h hf O;have hn:=fZ h;have hs:=ihS f (le_refl _) o z h (fun he=>by have:=hf he;omega) O;obtain⟨g1,_,g3,g4⟩:=(jW L f).1 o z h;rw[gD];by_cases hk:(b6 z).kind=2∧z.e=0
 ·obtain⟨h2,he⟩:=hk;obtain⟨f,rfl⟩:∃g,f=g+1:=⟨f-1,by have:=hf he;have:=h.lp;omega⟩
  have hst:bA (f+1) o z=((.mk (kI (b6 z)) (b6 z).pl (b6 z).n (kH (b6 z)) [],true),tlZ z):=by
   rw[bA,ξ (fun k=>k he),ζ (by omega)]
  rw[hst];rw[ξ (show ¬(true=false) from fun k=>Bool.noConfusion k),ζ ⟨h2,he⟩];have M:=xX h he (by omega) o .nl .nl .nl (.inl ⟨rfl,rfl,rfl⟩);have e4:kI (b6 z)=4:=by unfold kI;rw[ξ (by omega),ζ h2]
  have e5:kH (b6 z)=(b6 z).text:=by unfold kH;rw[ξ (by omega)]
  rw[e4,e5] at M;have h1:=h.tlp (by rw[h2];decide);have htl:=qS h;have hlen:=h.len;have r:∃W,W=eU (f+1) o [] (tlZ z):=⟨_,rfl⟩
  obtain⟨W,r⟩:=r;rw[←r];generalize b6 z=t at hn h2 M ⊢;refine bP (n:=47) tok Tryz.func51 rfl rfl rfl ?_;refine sg rfl (sk 1 rfl (kc hn ?_));refine kz 2 rfl (sk 2 rfl (kc M ?_));refine kz 6 rfl (aA (sg rfl (aB rfl (fun hb=>Bool.noConfusion hb) (fun _=>aD (AWp.sub (Sub.ownCell (x:=6) (k:=4) (id:=501) 49 10 rfl rfl rfl) ?_)))));refine aA (aF (aK (fun q:List Pt×Z×Nat=>mk [(0,xP),(1,I .i64 (o:Nat)),(4,.one (.vp 4 0)),(5,.one (.vp 5 0)),(6,.one (.vp 6 0))] [(700,zO L q.2.1),(4,.var 49 (aT2.map .c)),(5,.var 152 ((aG t).map .c)),(6,.var 49 [.c (.int .i64 4),.c (.int .i64 t.pl),.c (.int .i64 t.n),.c (.str t.text),.hs 501 0 q.1.length q.1.length,.c (.int .i64 0),.c (.int .i64 0),.c (.str []),.c .nl,.c .nl]),(501,.arr 49 10 (q.1.map bL) 0)]) (fun q=>ZA L q.2.1∧W=eU q.2.2 o q.1 q.2.1∧q.2.2≤f+1∧(q.2.1.e=0→3*q.2.1.R.length+1≤q.2.2)∧(q.2.1.e=0→q.1.length+q.2.1.R.length≤4001)∧q.1.length≤4002) (fun q=>if q.2.1.e=0 then q.2.1.R.length+1 else 0) ([],tlZ z,f+1) ⟨h1,r,le_refl _,fun _=>by have:=hf he;dsimp only;omega,fun _=>by dsimp only;rw[length_nil];omega,ε _⟩ sl ?_));clear r hs M hst e4 e5 g1 g3 g4 htl h1;rintro⟨out,E,g⟩ ⟨h',r,hgf,U,Y,hol2⟩;dsimp only at h' r hgf U Y hol2 ⊢;have hout:(out.map bL).length=out.length:=η _;have d2:decide (t.kind=2)=true:=φ h2;have ho:=fP L E;by_cases u:E.e=0
  case neg=>
   rw[ψ u] at ho;have e0:eU g o out E=(out,E):=by
    cases g with
    | zero=>rfl
    | succ g=>rw[eU,ξ u]
   rw[e0] at r;refine aA (sk 1 rfl (kc ho ?_));refine ak 5 [(2,.bv false),(6,.bv false)] rfl (az (aB rfl (fun hb=>Bool.noConfusion hb) (fun _=>aH (AWp.sub (Sub.freeze (id:=501) rfl) ?_))));refine sg rfl ?_;rw[r];unfold bL;rw[j6 (Pt.mk _ _ _ _ _)];exact aE (rtC trw (hc:=.agg (.c .refl (.c .refl (.c .refl (.c .refl (.hs rfl hout.symm (Go.AM.take_all hout.symm) (.c .refl (.c .refl (.c .refl (.c .nl (.c .nl .nil))))))))))))
  rw[φ u] at ho;obtain⟨g,rfl⟩:∃k,g=k+1:=⟨g-1,by have:=U u;omega⟩
  rw[eU,ζ u] at r;have hs:=ihS g (by omega) o E h' (fun _=>by have:=U u;omega) O;obtain⟨g1,_,g3,g4⟩:=(jW L g).1 o E h';have U:=U u;have Y:=Y u;have hlp:=h'.lp;refine aA (sk 1 rfl (kc ho ?_));refine ak 5 [(2,.bv true),(6,.bv true)] rfl (az (aB rfl (fun _=>?_) (fun hb=>absurd (hb.symm.trans d2) Bool.noConfusion)));generalize bA g o E=y at hs g1 g3 g4 r;obtain⟨⟨q,b⟩,z2⟩:=y;dsimp only at hs g1 g3 g4 r;refine aD (aF (sk 2 rfl (kc hs ?_)));refine kz 6 rfl (aA (sg rfl ?_));cases b with
  | false=>
   rw[ζ rfl] at r;refine aB rfl (fun _=>aH (AWp.sub (Sub.freeze (id:=501) rfl) ?_)) (fun hb=>Bool.noConfusion hb);refine sg rfl ?_;rw[r];unfold bL;rw[j6 (Pt.mk _ _ _ _ _)];exact aE (rtC trw (hc:=.agg (.c .refl (.c .refl (.c .refl (.c .refl (.hs rfl hout.symm (Go.AM.take_all hout.symm) (.c .refl (.c .refl (.c .refl (.c .nl (.c .nl .nil))))))))))))
  | true=>
   rw[ξ (show ¬(true=false) from fun k=>Bool.noConfusion k)] at r;have hrows:out.map bL++[bL q]=(out++[q]).map bL:=by rw[Al];rfl
   have hle:(out++[q]).length=out.length+1:=by rw[θ];rfl
   have g4':z2.R.length≤E.R.length:=g4;refine aB rfl (fun hb=>Bool.noConfusion hb) (fun _=>aD (ag [(3,.all)] rfl ⟨(out++[q],z2,g),⟨g1,r,by dsimp only;omega,fun h0=>by have:=g3 rfl h0;dsimp only;omega,fun h0=>by have:=g3 rfl h0;dsimp only;rw[hle];omega,by dsimp only;rw[hle];omega⟩,?_,?_⟩))
   ·dsimp only;rw[ζ u];split
    ·rename_i h0;have:=g3 rfl h0;omega
    ·omega
   ·exact sl (he:=⟨rfl,rfl,rfl,rfl,rfl,trivial⟩) (hh:=⟨⟨_,rfl,.var rfl⟩,⟨_,rfl,.var rfl⟩,⟨_,rfl,.var rfl⟩,⟨_,rfl,.var (by rw[hle,←hout];rfl)⟩,⟨_,rfl,.arrS hrows⟩,trivial⟩)
 rw[ξ hk];have J:¬z.e=0→(bA f o z).1.2=false:=fun he=>by
  cases f with
  | zero=>rfl
  | succ f=>rw[bA,ζ he]
 generalize bA f o z=y at hs g1 g3 g4 J ⊢;obtain⟨⟨q,b⟩,z1⟩:=y;dsimp only at hs g1 g3 g4 J ⊢;have hfl:=eB L z1 12 (b6 z).pl;have ho:=fP L z1;refine bP (n:=47) tok Tryz.func51 rfl rfl rfl ?_;refine sg rfl (sk 1 rfl (kc hn ?_));refine kz 2 rfl (sk 2 rfl (kc hs ?_));refine kz 6 rfl (aA (sg rfl ?_));cases b with
 | false=>
  rw[ζ rfl];refine aB rfl (fun _=>sk 3 rfl (kc hfl ?_)) (fun hb=>Bool.noConfusion hb);exact az (sg rfl (aE (rtC trw)))
 | true=>
  rw[ξ (show ¬(true=false) from fun k=>Bool.noConfusion k)];have he:z.e=0:=by
   by_cases he:z.e=0
   ·exact he
   ·exact Bool.noConfusion (J he)
  have h2:¬(b6 z).kind=2:=fun h2=>hk ⟨h2,he⟩
  have d2:decide ((b6 z).kind=2)=false:=ψ h2;refine aB rfl (fun hb=>Bool.noConfusion hb) (fun _=>aD (aA (aF (aK (fun _:Unit=>mk [(0,xP),(4,.one (.vp 4 0)),(5,.one (.vp 5 0)),(6,.one (.vp 6 0))] [(700,zO L z1),(4,.var 49 (aT2.map .c)),(5,.var 152 ((aG (b6 z)).map .c)),(6,.var 49 ((bL q).map .c))]) (fun _=>True) (fun _=>0) () trivial sl ?_))));intro _ _;refine aA (aA (AWp.cut (mk [(4,.one (.vp 4 0)),(6,.one (.vp 6 0)),(31,B false)] [(700,zO L z1),(4,.var 49 (aT2.map .c)),(6,.var 49 ((bL q).map .c))]) ?_ ?_))
  ·by_cases h1:z1.e=0
   ·rw[φ h1] at ho;refine aC mixed (ak 1 [] rfl (kc ho ?_));refine ak 5 [(2,.bv true),(6,.bv true)] rfl (az ?_);rw[d2];exact sl
   ·rw[ψ h1] at ho;refine aC mixed (ak 1 [] rfl (kc ho ?_));exact ak 5 [(2,.bv false),(6,.bv false)] rfl (az sl)
  exact aB rfl (fun hb=>Bool.noConfusion hb) (fun _=>aH (sg rfl (aE (rtC trw))))
theorem aY9 (L:List Tk):∀f,(∀g,g≤f→aTb L g)∧∀g,g≤f→aZ2 L g:=by
 intro f
 induction f with
 | zero=>
  refine⟨fun g r o z h u ho=>?_,fun g r o z h u ho=>?_⟩
  ·have h0:¬z.e=0:=fun he=>by have:=u he;have:=h.lp;omega
   obtain rfl:g=0:=by omega
   rw[bA];exact nC h0 o
  ·have h0:¬z.e=0:=fun he=>by have:=u he;omega
   obtain rfl:g=0:=by omega
   rw[gD];dsimp only;rw[fW h0];exact aNj h h0 o
 | succ f q=>
  refine⟨fun g r=>?_,fun g r=>?_⟩
  ·by_cases h:g≤f
   ·exact q.1 g h
   ·rw[show g=f+1 by omega];exact aJh L f (q.2 f (le_refl _))
  ·by_cases h:g≤f
   ·exact q.2 g h
   ·rw[show g=f+1 by omega];exact aWo L f q.1
mutual
inductive Ex where
 | mk (form pl n:Int) (name:Str) (kids:List Ex) (pats:List Pt) (binds:List Bd) (sig:Sch)
inductive Bd where
 | mk (name:Str) (pl:Int) (has:Bool) (sig:Sch) (body:Ex)
end
def Ex.form:Ex→Int | .mk f _ _ _ _ _ _ _=>f
def Ex.pl:Ex→Int | .mk _ p _ _ _ _ _ _=>p
def Ex.n:Ex→Int | .mk _ _ n _ _ _ _ _=>n
def Ex.name:Ex→Str | .mk _ _ _ s _ _ _ _=>s
def Ex.kids:Ex→List Ex | .mk _ _ _ _ l _ _ _=>l
def Ex.pats:Ex→List Pt | .mk _ _ _ _ _ l _ _=>l
def Ex.binds:Ex→List Bd | .mk _ _ _ _ _ _ l _=>l
def Ex.sig:Ex→Sch | .mk _ _ _ _ _ _ _ s=>s
def Bd.name:Bd→Str | .mk s _ _ _ _=>s
def Bd.pl:Bd→Int | .mk _ p _ _ _=>p
def Bd.has:Bd→Bool | .mk _ _ h _ _=>h
def Bd.sig:Bd→Sch | .mk _ _ _ s _=>s
def Bd.body:Bd→Ex | .mk _ _ _ _ e=>e
mutual
def pU:Ex→List (List C)
 | .mk _ _ _ _ l _ _ _=>xQ l
def aE2:Ex→List (List C)
 | .mk _ _ _ _ _ _ l _=>fB l
def xQ:List Ex→List (List C)
 | []=>[]
 | e::l=>[.int .i64 e.form,.int .i64 e.pl,.int .i64 e.n,.str e.name,.sl 15 (pU e),.sl 10 (e.pats.map bL),.sl 33 (aE2 e),.sl 1 (e.sig.vars.map b7),.sl 1 [],.sl 5 (e.sig.preds.map aN),.int .i64 e.sig.ty.form,.int .i64 e.sig.ty.n,.str e.sig.ty.name,.sl 4 (dC e.sig.ty),.sl 4 []]::xQ l
def aCw:Bd→List C
 | .mk _ _ _ _ e=>[.int .i64 e.form,.int .i64 e.pl,.int .i64 e.n,.str e.name,.sl 15 (pU e),.sl 10 (e.pats.map bL),.sl 33 (aE2 e),.sl 1 (e.sig.vars.map b7),.sl 1 [],.sl 5 (e.sig.preds.map aN),.int .i64 e.sig.ty.form,.int .i64 e.sig.ty.n,.str e.sig.ty.name,.sl 4 (dC e.sig.ty),.sl 4 []]
def fB:List Bd→List (List C)
 | []=>[]
 | b::l=>([.str b.name,.int .i64 b.pl,.bool b.has,.sl 1 (b.sig.vars.map b7),.sl 1 [],.sl 5 (b.sig.preds.map aN),.int .i64 b.sig.ty.form,.int .i64 b.sig.ty.n,.str b.sig.ty.name,.sl 4 (dC b.sig.ty)]++(aCw b++[.sl 1 [],.sl 1 [],.sl 5 [],.int .i64 0,.int .i64 0,.str [],.sl 4 [],.int .i64 0]))::fB l
end
def bU (e:Ex):List C:=[.int .i64 e.form,.int .i64 e.pl,.int .i64 e.n,.str e.name,.sl 15 (pU e),.sl 10 (e.pats.map bL),.sl 33 (aE2 e),.sl 1 (e.sig.vars.map b7),.sl 1 [],.sl 5 (e.sig.preds.map aN),.int .i64 e.sig.ty.form,.int .i64 e.sig.ty.n,.str e.sig.ty.name,.sl 4 (dC e.sig.ty),.sl 4 []]
def b8 (b:Bd):List C:=[.str b.name,.int .i64 b.pl,.bool b.has,.sl 1 (b.sig.vars.map b7),.sl 1 [],.sl 5 (b.sig.preds.map aN),.int .i64 b.sig.ty.form,.int .i64 b.sig.ty.n,.str b.sig.ty.name,.sl 4 (dC b.sig.ty),
 .int .i64 b.body.form,.int .i64 b.body.pl,.int .i64 b.body.n,.str b.body.name,.sl 15 (pU b.body),.sl 10 (b.body.pats.map bL),.sl 33 (aE2 b.body),.sl 1 (b.body.sig.vars.map b7),.sl 1 [],.sl 5 (b.body.sig.preds.map aN),.int .i64 b.body.sig.ty.form,.int .i64 b.body.sig.ty.n,.str b.body.sig.ty.name,.sl 4 (dC b.body.sig.ty),.sl 4 [],
 .sl 1 [],.sl 1 [],.sl 5 [],.int .i64 0,.int .i64 0,.str [],.sl 4 [],.int .i64 0]
theorem tB:∀l:List Ex,xQ l=l.map bU
 | []=>by simp[xQ]
 | e::l=>by rw[xQ,tB l];rfl
theorem fN:∀l:List Bd,fB l=l.map b8
 | []=>by simp[fB]
 | .mk s p h g e::l=>by rw[fB,fN l,aCw];rfl
theorem mG (e:Ex):pU e=e.kids.map bU:=by cases e;rw[pU,tB];rfl
theorem aCv (e:Ex):aE2 e=e.binds.map b8:=by cases e;rw[aE2,fN];rfl
def zEx:Ex:=.mk 0 0 0 [] [] [] [] lX
structure Sg where
 name:Str
 pl:Int
 ty:Sch
def cI (s:Sg):List C:=[.str s.name,.int .i64 s.pl,.sl 1 (s.ty.vars.map b7),.sl 1 [],.sl 5 (s.ty.preds.map aN),.int .i64 s.ty.ty.form,.int .i64 s.ty.ty.n,.str s.ty.ty.name,.sl 4 (dC s.ty.ty)]
def sX:Str:=[92]
def sD:Str:=[108,101,116]
def fE:Str:=[99,97,115,101]
def ofS:Str:=[111,102]
def inS:Str:=[105,110]
def dR:Str:=[58]
def cY:Str:=[123]
def aV:Str:=[125]
def kM (l:List Tk):List Pt:=l.map fun t=>.mk 2 t.pl 0 t.text []
section
variable (ex:Nat→Z→Ex×Z)
def pB (t:Tk):Ex:=if t.kind=3 then .mk 3 t.pl t.n [] [] [] [] lX else .mk t.kind t.pl 0 t.text [] [] [] lX
def fT (deep:Nat) (z:Z):(Ex×Bool)×Z:=
 if ¬z.e=0 then((zEx,false),z)
 else if 0<(b6 z).kind∧(b6 z).kind<4 then((pB (b6 z),true),tlZ z)
 else if(bT bI z).1=false then((zEx,false),z)
 else(((ex (deep+1) (bT bI z).2).1,true),aQ c6 (ex (deep+1) (bT bI z).2).2)
def aP5 (at':Int) (e a:Ex):Ex:=.mk 4 at' 0 [] [e,a] [] [] lX
def dX (deep:Nat) (at':Int):Nat→Ex→Z→Ex×Z
 | 0,e,z=>(e,z)
 | f+1,e,z=>if z.e=0 then(if(fT ex deep z).1.2=false then(e,(fT ex deep z).2) else dX deep at' f (aP5 at' e (fT ex deep z).1.1) (fT ex deep z).2) else(e,z)
def aRg (at':Int) (l:List Tk) (b:Ex):Ex:=.mk 5 at' 0 [] [b] (kM l) [] lX
def sE (at':Int) (z:Z):List Tk×Z:=((aU z).1,aQ arrow (c8 (aU z).1.length 8 at' (if(aU z).1=[] then bS 12 (b6 (aU z).2).pl (aU z).2 else(aU z).2)))
def sW (at':Int) (deep:Nat) (z:Z):Ex×Z:=(aRg at' (sE at' z).1 (ex (deep+1) (sE at' z).2).1,(ex (deep+1) (sE at' z).2).2)
def iO (nm:Tk) (z:Z):List Tk×Z:=((aU z).1,aQ eqS (c8 (aU z).1.length 8 nm.pl (aU z).2))
def yA (l:List Tk) (b:Ex):Ex:=match l with
 | []=>b
 | t::l=>aRg t.pl (t::l) b
def cP (nm:Tk) (deep:Nat) (z:Z):Bd×Z:=(.mk nm.text nm.pl false lX (yA (iO nm z).1 (ex deep (iO nm z).2).1),(ex deep (iO nm z).2).2)
def aY (sigs:List Sg) (binds:List Bd) (deep:Nat) (z:Z):(List Sg×List Bd)×Z:=
 if(bT dR (aS 1 z).2).1=true then((sigs++[⟨(aS 1 z).1.text,(aS 1 z).1.pl,(bK (bT dR (aS 1 z).2).2).1⟩],binds),(bK (bT dR (aS 1 z).2).2).2)
 else((sigs,binds++[(cP ex (aS 1 z).1 deep (bT dR (aS 1 z).2).2).1]),(cP ex (aS 1 z).1 deep (bT dR (aS 1 z).2).2).2)
def eT (deep:Nat):Nat→Nat→List Sg→List Bd→Z→(List Sg×List Bd)×Z
 | 0,_,sigs,binds,z=>((sigs,binds),z)
 | f+1,n,sigs,binds,z=>if(aW aV n z).1=true then eT deep f (n+1) (aY ex sigs binds deep (aW aV n z).2).1.1 (aY ex sigs binds deep (aW aV n z).2).1.2 (aY ex sigs binds deep (aW aV n z).2).2 else((sigs,binds),(aW aV n z).2)
end
def i7 (b:Bd) (s:Sch):Bd:=.mk b.name b.pl true s b.body
def cF:List Sg→List Bd→Z→List Bd×Z
 | [],b,z=>(b,z)
 | s::l,b,z=>if z.e=0 then(match b.findIdx? (fun x=>decide (x.name=s.name)) with
   | none=>cF l b (bS 21 s.pl z)
   | some k=>match b[k]? with
    | none=>(b,z)
    | some x=>if x.has=true then cF l b (bS 20 s.pl z) else cF l (b.set k (i7 x s.ty)) z)
  else(b,z)
section
variable (ex:Nat→Z→Ex×Z)
def qH (deep:Nat) (z:Z):(List Sg×List Bd)×Z:=eT ex (deep+1) ((aQ cY z).R.length+1) 0 [] [] (aQ cY z)
def aFv (y:(List Sg×List Bd)×Z):List Bd×Z:=cF y.1.1 y.1.2 (aQ aV y.2)
def letE (at':Int) (bs:List Bd) (b:Ex):Ex:=.mk 6 at' 0 [] [b] [] bs lX
def sV (at':Int) (deep:Nat) (z:Z):Ex×Z:=(letE at' (aFv (qH ex deep z)).1 (ex (deep+1) (aQ inS (aFv (qH ex deep z)).2)).1,(ex (deep+1) (aQ inS (aFv (qH ex deep z)).2)).2)
def eW (deep:Nat):Nat→Nat→List Pt→List Ex→Z→(List Pt×List Ex)×Z
 | 0,_,ps,ks,z=>((ps,ks),z)
 | f+1,n,ps,ks,z=>if(aW aV n z).1=true then eW deep f (n+1) (ps++[(gD (3*(aW aV n z).2.R.length+1) 0 (aW aV n z).2).1]) (ks++[(ex (deep+1) (aQ arrow (gD (3*(aW aV n z).2.R.length+1) 0 (aW aV n z).2).2)).1]) (ex (deep+1) (aQ arrow (gD (3*(aW aV n z).2.R.length+1) 0 (aW aV n z).2).2)).2
  else((ps,ks),(aW aV n z).2)
def dP (deep:Nat) (z:Z):Ex×Z:=((ex (deep+1) z).1,aQ cY (aQ ofS (ex (deep+1) z).2))
def gJ (deep:Nat) (y:Ex×Z):(List Pt×List Ex)×Z:=eW ex deep (y.2.R.length+1) 0 [] [y.1] y.2
def aM9 (at':Int) (ps:List Pt) (ks:List Ex):Ex:=.mk 7 at' 0 [] ks ps [] lX
def iL (at':Int) (deep:Nat) (z:Z):Ex×Z:=(aM9 at' (gJ ex deep (dP ex deep z)).1.1 (gJ ex deep (dP ex deep z)).1.2,
 if(gJ ex deep (dP ex deep z)).1.1=[] then bS 12 (b6 (gJ ex deep (dP ex deep z)).2).pl (aQ aV (gJ ex deep (dP ex deep z)).2) else aQ aV (gJ ex deep (dP ex deep z)).2)
def a0h (at':Int) (e:Ex) (s:Sch):Ex:=.mk 8 at' 0 [] [e] [] [] s
def s8 (at':Int) (y:Ex×Z):Ex×Z:=if(bT dR y.2).1=true then(a0h at' y.1 (bK (bT dR y.2).2).1,(bK (bT dR y.2).2).2) else(y.1,(bT dR y.2).2)
def eP (deep:Nat) (z:Z):Ex×Z:=dX ex deep (b6 z).pl (z.R.length+1) (fT ex deep z).1.1 (if(fT ex deep z).1.2=false then bS 12 (b6 z).pl (fT ex deep z).2 else(fT ex deep z).2)
def rN (deep:Nat) (z:Z):Ex×Z:=
 if ¬z.e=0 then(zEx,z)
 else if 40<deep then(zEx,bS 13 (b6 z).pl z)
 else if(bT sX z).1=true then sW ex (b6 z).pl deep (bT sX z).2
 else if(bT sD z).1=true then sV ex (b6 z).pl deep (bT sD z).2
 else if(bT fE z).1=true then iL ex (b6 z).pl deep (bT fE z).2
 else s8 (b6 z).pl (eP ex deep z)
end
def fV:Nat→Nat→Z→Ex×Z
 | 0=>fun _ z=>(zEx,bS 12 0 z)
 | f+1=>rN (fV f)
structure SchOk (s:Sch):Prop where
 t:WF s.ty∧tn s.ty≤30000
 p:∀p∈s.preds,WF p.ty∧tn p.ty≤30000
 l:s.preds.length≤4001
 v:s.vars.length≤120060000
theorem SchOk.z:SchOk lX:=⟨⟨⟨rfl,rfl⟩,by unfold lX zTy;rw[tn,tns];decide⟩,fun p hp=>(by cases hp),ε _,ε _⟩
mutual
def oJ:Ex→Prop
 | .mk f _ _ _ ks ps bs s=>(ks.length≤4002∧ps.length≤4002∧bs.length≤4002)∧SchOk s∧((f=4→ks.length=2)∧(f=5∨f=6∨f=8→ks.length=1)∧(f=7→ks.length=ps.length+1))∧wJ ps∧pT ks∧eV bs
def pT:List Ex→Prop
 | []=>True
 | e::l=>oJ e∧pT l
def aYa:Bd→Prop
 | .mk _ _ _ s e=>SchOk s∧oJ e
def eV:List Bd→Prop
 | []=>True
 | b::l=>aYa b∧eV l
end
theorem rR:∀{l:List Ex}{p:Ex},pT l→oJ p→pT (l++[p])
 | [],_,_,h=>⟨h,trivial⟩
 | _::_,_,h,k=>⟨h.1,rR h.2 k⟩
theorem oB:∀{l:List Bd}{p:Bd},eV l→aYa p→eV (l++[p])
 | [],_,_,h=>⟨h,trivial⟩
 | _::_,_,h,k=>⟨h.1,oB h.2 k⟩
theorem iP:∀{l:List Bd},eV l↔∀b∈l,aYa b
 | []=>⟨fun _ b hb=>(by cases hb),fun _=>trivial⟩
 | a::l=>⟨fun h b hb=>by
   rcases Au.1 hb with rfl | hb
   ·exact h.1
   ·exact iP.1 h.2 b hb,fun h=>⟨h a Ba,iP.2 fun b hb=>h b (A1 _ hb)⟩⟩
theorem oJ.z:oJ zEx:=⟨⟨ε _,ε _,ε _⟩,.z,⟨fun h=>by omega,fun h=>by omega,fun h=>by omega⟩,trivial,trivial,trivial⟩
theorem aA9:∀l:List Tk,wJ (kM l)
 | []=>trivial
 | _::l=>⟨⟨ε _,trivial⟩,aA9 l⟩
theorem qP (l:List Tk):(kM l).length=l.length:=η _
theorem gY {L:List Tk}{z:Z}(h:ZA L z) (hwt:wt L≤30000):ZA L (bK z).2∧SchOk (bK z).1∧((bK z).2.e=0→(bK z).2.R.length<z.R.length)∧Ze z (bK z).2:=by
 refine⟨h.scheme,?_⟩;have hw:=h.wt;have hl:=h.len;unfold bK;split
 ·rename_i he;have q:= @qV z.R;cases hs:cH z.R with
  | error e=>
   obtain⟨e,p⟩:=e;exact⟨.z,fun h0=>absurd h0 (q hs),Ze.refl z⟩
  | ok y=>
   obtain⟨s,R'⟩:=y;obtain⟨_,⟨p,h2,I⟩,B,J,r,M,E⟩:=aOv hs;have u:R'.length<z.R.length:=by rw[h2,θ];omega
   refine⟨⟨⟨B,by show tn s.ty≤_;omega⟩,fun p hp=>⟨(r p hp).1,by have:=(r p hp).2;omega⟩,by show s.preds.length≤_;omega,?_⟩,fun _=>u,Dc u⟩;show s.vars.length≤_;rw[E];unfold aTl;have g1:=xD (W:=30000) s.preds [] (fun p hp=>by have:=(r p hp).2;omega);have g2:=jZ (tfR s.ty) (gP [] s.preds);have g3:=nJ s.ty;have g4:s.preds.length*30000≤4001*30000:=A0 _ (by omega);rw[length_nil] at g1;omega
 ·rename_i he;exact⟨.z,fun h0=>absurd h0 he,Ze.refl z⟩
def ExO (L:List Tk) (ex:Nat→Z→Ex×Z):Prop:=∀deep z,ZA L z→ZA L (ex deep z).2∧oJ (ex deep z).1∧((ex deep z).2.e=0→(ex deep z).2.R.length<z.R.length)∧Ze z (ex deep z).2
section
variable {L:List Tk}{ex:Nat→Z→Ex×Z}(hO:ExO L ex) (hwt:wt L≤30000)
include hO
theorem n9 (deep:Nat) {z:Z}(h:ZA L z):ZA L (fT ex deep z).2∧oJ (fT ex deep z).1.1∧((fT ex deep z).1.2=true→(fT ex deep z).2.e=0→(fT ex deep z).2.R.length<z.R.length)∧Ze z (fT ex deep z).2:=by
 unfold fT;split
 ·exact⟨h,oJ.z,fun e=>Bool.noConfusion e,Ze.refl z⟩
 split
 ·rename_i q;have:=qS h;refine⟨h.tlp (uK q),?_,fun _ _=>this,Dc this⟩;unfold pB;split
  ·exact⟨⟨ε _,ε _,ε _⟩,.z,⟨fun h=>by omega,fun h=>by omega,fun h=>by omega⟩,trivial,trivial,trivial⟩
  ·exact⟨⟨ε _,ε _,ε _⟩,.z,⟨fun h=>by omega,fun h=>by omega,fun h=>by omega⟩,trivial,trivial,trivial⟩
 split
 ·exact⟨h,oJ.z,fun e=>Bool.noConfusion e,Ze.refl z⟩
 ·obtain⟨g1,g2,g3,g4⟩:=hO (deep+1) _ (h.may bI);have g5:=((Ze.may bI z).trans g4)
  exact⟨g1.need _,g2,fun _ e=>A7 (zT g1 e) g5,g5.trans (Ze.need _ _)⟩
theorem qL (deep:Nat) (a:Int):∀(f:Nat) (e:Ex) (z:Z),ZA L z→oJ e→ZA L (dX ex deep a f e z).2∧oJ (dX ex deep a f e z).1∧Ze z (dX ex deep a f e z).2
 | 0,e,z,h,he=>⟨h,he,Ze.refl z⟩
 | f+1,e,z,h,he=>by
  rw[dX];obtain⟨g1,g2,_,g4⟩:=n9 hO deep h;split
  ·split
   ·exact⟨g1,he,g4⟩
   ·obtain⟨q,r,u⟩:=qL deep a f (aP5 a e (fT ex deep z).1.1) _ g1 ⟨⟨show 2≤4002 by decide,ε _,ε _⟩,.z,⟨fun _=>rfl,fun h=>by omega,fun h=>by omega⟩,trivial,⟨he,g2,trivial⟩,trivial⟩;exact⟨q,r,g4.trans u⟩
  ·exact⟨h,he,Ze.refl z⟩
omit hO in
theorem eM {z:Z}(h:ZA L z):(aU z).1.length≤4001:=by
 unfold aU;split
 ·have:=kV rG z.R;have:=h.len;dsimp only;omega
 ·exact ε _
omit hO in
theorem aIf {a:Int}{l:List Tk}{b:Ex}(hl:l.length≤4001) (hb:oJ b):oJ (aRg a l b):=⟨⟨show 1≤4002 by decide,by rw[qP];omega,ε _⟩,.z,⟨fun h=>by omega,fun _=>rfl,fun h=>by omega⟩,aA9 l,⟨hb,trivial⟩,trivial⟩
omit hO in
theorem zV (a:Int) {z:Z}(h:ZA L z):ZA L (sE a z).2∧(sE a z).1.length≤4001∧Ze z (sE a z).2:=by
 unfold sE;refine⟨?_,eM h,?_⟩
 ·refine ZA.need (ZA.long ?_ _ _ _) _;split
  ·exact h.words.fail _ _
  ·exact h.words
 ·refine Ze.trans ?_ ((Ze.long _ _ _ _).trans (Ze.need _ _));split
  ·exact(Ze.words z).trans (Ze.fail _ _ _)
  ·exact Ze.words z
theorem aRf (a:Int) (deep:Nat) {z:Z}(h:ZA L z):ZA L (sW ex a deep z).2∧oJ (sW ex a deep z).1∧((sW ex a deep z).2.e=0→(sW ex a deep z).2.R.length<z.R.length)∧Ze z (sW ex a deep z).2:=by
 obtain⟨h1,h2,q⟩:=zV a h;obtain⟨g1,g2,g3,g4⟩:=hO (deep+1) _ h1;exact⟨g1,aIf h2 g2,fun e=>A7 (g3 e) q,q.trans g4⟩
omit hO in
theorem v7 (nm:Tk) {z:Z}(h:ZA L z):ZA L (iO nm z).2∧(iO nm z).1.length≤4001∧Ze z (iO nm z).2:=
 ⟨(h.words.long _ _ _).need _,eM h,(Ze.words z).trans ((Ze.long _ _ _ _).trans (Ze.need _ _))⟩
theorem qK (nm:Tk) (deep:Nat) {z:Z}(h:ZA L z):ZA L (cP ex nm deep z).2∧aYa (cP ex nm deep z).1∧((cP ex nm deep z).2.e=0→(cP ex nm deep z).2.R.length<z.R.length)∧Ze z (cP ex nm deep z).2:=by
 obtain⟨h1,h2,q⟩:=v7 nm h;obtain⟨g1,g2,g3,g4⟩:=hO deep _ h1;refine⟨g1,⟨.z,?_⟩,fun e=>A7 (g3 e) q,q.trans g4⟩;unfold yA;split
 ·exact g2
 ·rename_i t l hl;rw[hl] at h2;exact aIf h2 g2
end
def fX (l:List Sg):Prop:=∀s∈l,SchOk s.ty
theorem aGk {l:List Sg}{s:Sg}(h:fX l) (k:SchOk s.ty):fX (l++[s]):=fun x hx=>by
 rcases Bk.1 hx with hx | hx
 ·exact h x hx
 ·rw[A2.1 hx];exact k
theorem dU {s:Str}{n:Nat}{z:Z}(h:(aW s n z).1=true):(aW s n z).2.e=0∧n+1≤60:=by
 unfold aW at h ⊢;split
 ·rename_i hc;rw[ζ hc] at h;cases h
 ·rename_i hc;rw[ξ hc] at h;have h:=κ h;refine⟨h,?_⟩;unfold c8 at h;split at h
  ·exact(gH (by decide) h).elim
  ·omega
theorem Ze.semi (z:Z):Ze z (cL z):=by
 unfold cL;split
 ·exact lO _ _
 ·exact Ze.refl z
theorem Ze.more (s:Str) (n:Nat) (z:Z):Ze z (aW s n z).2:=by
 have h1:Ze z (moreA s n z):=by
  unfold moreA;split
  ·exact Ze.fail _ _ z
  ·exact Ze.refl z
 unfold aW;split
 ·exact h1.trans (Ze.semi _)
 ·exact h1.trans ((Ze.semi _).trans (Ze.long _ _ _ _))
theorem pJ {b:List Bd}{p:Bd→Bool}{k:Nat}(h:b.findIdx? p=some k):k<b.length:=by
 rw[Cs] at h;exact h.1
theorem gS {L:List Tk}:∀(l:List Sg) (b:List Bd) (z:Z),ZA L z→fX l→eV b→ZA L (cF l b z).2∧eV (cF l b z).1∧(cF l b z).1.length=b.length∧Ze z (cF l b z).2
 | [],b,z,h,_,hb=>⟨h,hb,rfl,Ze.refl z⟩
 | s::l,b,z,h,hs,hb=>by
  have hl:fX l:=fun x hx=>hs x (A1 _ hx)
  rw[cF];split
  ·split
   ·obtain⟨g1,g2,g3,g4⟩:=gS l b (bS 21 s.pl z) (h.fail _ _) hl hb;exact⟨g1,g2,g3,(Ze.fail _ _ _).trans g4⟩
   ·rename_i k r;split
    ·exact⟨h,hb,rfl,Ze.refl z⟩
    ·rename_i x hx;split
     ·obtain⟨g1,g2,g3,g4⟩:=gS l b (bS 20 s.pl z) (h.fail _ _) hl hb;exact⟨g1,g2,g3,(Ze.fail _ _ _).trans g4⟩
     ·have q:eV (b.set k (i7 x s.ty)):=iP.2 fun y hy=>by
       rcases mem_or_eq_of_mem_set hy with hy | rfl
       ·exact iP.1 hb y hy
       ·have:=iP.1 hb x (τ hx);cases x with
        | mk n p hh sg e=>exact⟨hs s Ba,this.2⟩
      obtain⟨g1,g2,g3,g4⟩:=gS l (b.set k (i7 x s.ty)) z h hl q;exact⟨g1,g2,by rw[g3,Cx],g4⟩
  ·exact⟨h,hb,rfl,Ze.refl z⟩
section
variable {L:List Tk}{ex:Nat→Z→Ex×Z}(hO:ExO L ex) (hwt:wt L≤30000)
include hO hwt
theorem mH (sigs:List Sg) (binds:List Bd) (deep:Nat) {z:Z}(h:ZA L z) (hs:fX sigs) (hb:eV binds):ZA L (aY ex sigs binds deep z).2∧fX (aY ex sigs binds deep z).1.1∧eV (aY ex sigs binds deep z).1.2∧
  (aY ex sigs binds deep z).1.1.length≤sigs.length+1∧(aY ex sigs binds deep z).1.2.length≤binds.length+1∧((aY ex sigs binds deep z).2.e=0→(aY ex sigs binds deep z).2.R.length<z.R.length)∧Ze z (aY ex sigs binds deep z).2:=by
 have h1:=(h.word (k:=1) (by decide)).may dR;have q:=(Ze.word 1 z).trans (Ze.may dR _);unfold aY;split
 ·obtain⟨g1,g2,g3,g4⟩:=gY h1 hwt;exact⟨g1,aGk hs g2,hb,by rw[θ,Bl];exact le_refl _,Nat.le_succ _,fun e=>A7 (g3 e) q,q.trans g4⟩
 ·obtain⟨g1,g2,g3,g4⟩:=qK hO (aS 1 z).1 deep h1;exact⟨g1,hs,oB hb g2,Nat.le_succ _,by rw[θ,Bl];exact le_refl _,fun e=>A7 (g3 e) q,q.trans g4⟩
theorem aCg (deep:Nat):∀(f n:Nat) (sigs:List Sg) (binds:List Bd) (z:Z),ZA L z→fX sigs→eV binds→n≤60→sigs.length≤n→binds.length≤n→ZA L (eT ex deep f n sigs binds z).2∧fX (eT ex deep f n sigs binds z).1.1∧eV (eT ex deep f n sigs binds z).1.2∧
  (eT ex deep f n sigs binds z).1.1.length≤60∧(eT ex deep f n sigs binds z).1.2.length≤60∧Ze z (eT ex deep f n sigs binds z).2
 | 0,n,sigs,binds,z,h,hs,hb,hn,h1,h2=>by rw[eT];exact⟨h,hs,hb,by dsimp only;omega,by dsimp only;omega,Ze.refl z⟩
 | f+1,n,sigs,binds,z,h,hs,hb,hn,h1,h2=>by
  rw[eT];split
  ·rename_i hm;obtain⟨_,q⟩:=dU hm;obtain⟨g1,g2,g3,g4,g5,_,g6⟩:=mH hO hwt sigs binds deep (h.more aV n) hs hb;obtain⟨r,u,y,B,E,I⟩:=aCg deep f (n+1) _ _ _ g1 g2 g3 q (by omega) (by omega);exact⟨r,u,y,B,E,((Ze.more aV n z).trans g6).trans I⟩
  ·exact⟨h.more _ _,hs,hb,by dsimp only;omega,by dsimp only;omega,Ze.more _ _ _⟩
theorem aRe (a:Int) (deep:Nat) {z:Z}(h:ZA L z):ZA L (sV ex a deep z).2∧oJ (sV ex a deep z).1∧((sV ex a deep z).2.e=0→(sV ex a deep z).2.R.length<z.R.length)∧Ze z (sV ex a deep z).2:=by
 obtain⟨g1,g2,g3,g4,g5,g6⟩:=aCg hO hwt (deep+1) ((aQ cY z).R.length+1) 0 [] [] _ (h.need cY) (fun s hs=>by cases hs) trivial (by decide) (le_refl _) (le_refl _);obtain⟨r,u,y,B⟩:=gS (qH ex deep z).1.1 (qH ex deep z).1.2 (aQ aV (qH ex deep z).2) (g1.need _) g2 g3;have q:=((((Ze.need cY z).trans g6).trans (Ze.need aV _)).trans B).trans (Ze.need inS _);obtain⟨m1,m2,m3,m4⟩:=hO (deep+1) _ (r.need inS);have E:(aFv (qH ex deep z)).1.length=(qH ex deep z).1.2.length:=y;have I:(qH ex deep z).1.2.length≤60:=g5;exact⟨m1,⟨⟨show 1≤4002 by decide,ε _,by omega⟩,.z,⟨fun h=>by omega,fun _=>rfl,fun h=>by omega⟩,trivial,⟨m2,trivial⟩,u⟩,fun e=>A7 (m3 e) q,q.trans m4⟩
omit hwt in
theorem aDu (deep:Nat):∀(f n:Nat) (ps:List Pt) (ks:List Ex) (z:Z),ZA L z→wJ ps→pT ks→n≤60→ps.length=n→ks.length=n+1→ZA L (eW ex deep f n ps ks z).2∧wJ (eW ex deep f n ps ks z).1.1∧pT (eW ex deep f n ps ks z).1.2∧
  (eW ex deep f n ps ks z).1.1.length≤60∧(eW ex deep f n ps ks z).1.2.length=(eW ex deep f n ps ks z).1.1.length+1∧Ze z (eW ex deep f n ps ks z).2
 | 0,n,ps,ks,z,h,hp,q,hn,h1,h2=>by rw[eW];exact⟨h,hp,q,by dsimp only;omega,by dsimp only;omega,Ze.refl z⟩
 | f+1,n,ps,ks,z,h,hp,q,hn,h1,h2=>by
  rw[eW];split
  ·rename_i hm;obtain⟨_,r⟩:=dU hm;obtain⟨g1,g2,_,g4⟩:=(jW L (3*(aW aV n z).2.R.length+1)).2.1 0 _ (h.more aV n);obtain⟨m1,m2,_,m4⟩:=hO (deep+1) _ (g1.need arrow);obtain⟨u,y,B,E,I,J⟩:=aDu deep f (n+1) (ps++[(gD (3*(aW aV n z).2.R.length+1) 0 (aW aV n z).2).1]) (ks++[(ex (deep+1) (aQ arrow (gD (3*(aW aV n z).2.R.length+1) 0 (aW aV n z).2).2)).1]) _ m1 (qC hp g2) (rR q m2) r (by rw[θ,h1];rfl) (by rw[θ,h2];rfl);exact⟨u,y,B,E,I,((((Ze.more aV n z).trans g4).trans (Ze.need _ _)).trans m4).trans J⟩
  ·exact⟨h.more _ _,hp,q,by dsimp only;omega,by dsimp only;omega,Ze.more _ _ _⟩
omit hwt in
theorem aM8 (a:Int) (deep:Nat) {z:Z}(h:ZA L z):ZA L (iL ex a deep z).2∧oJ (iL ex a deep z).1∧((iL ex a deep z).2.e=0→(iL ex a deep z).2.R.length<z.R.length)∧Ze z (iL ex a deep z).2:=by
 obtain⟨m1,m2,m3,m4⟩:=hO (deep+1) z h;have h1:ZA L (dP ex deep z).2:=(m1.need ofS).need cY;have r:Ze z (dP ex deep z).2:=(m4.trans (Ze.need ofS _)).trans (Ze.need cY _);obtain⟨g1,g2,g3,g4,g5,g6⟩:=aDu hO deep ((dP ex deep z).2.R.length+1) 0 [] [(dP ex deep z).1] _ h1 trivial ⟨m2,trivial⟩ (by decide) rfl rfl;have g1:ZA L (gJ ex deep (dP ex deep z)).2:=g1;have g6:Ze (dP ex deep z).2 (gJ ex deep (dP ex deep z)).2:=g6;have B:(gJ ex deep (dP ex deep z)).1.1.length≤60:=g4;have u:(gJ ex deep (dP ex deep z)).1.2.length=(gJ ex deep (dP ex deep z)).1.1.length+1:=g5;have hex:oJ (iL ex a deep z).1:=⟨⟨by omega,by omega,ε _⟩,.z,⟨fun h=>by omega,fun h=>by omega,fun _=>u⟩,g2,g3,trivial⟩
 have h2:=g1.need aV;have y:(aQ aV (gJ ex deep (dP ex deep z)).2).e=0→(aQ aV (gJ ex deep (dP ex deep z)).2).R.length<z.R.length:=fun e=>A7 (zT g1 e) (r.trans g6)
 have q:Ze z (aQ aV (gJ ex deep (dP ex deep z)).2):=(r.trans g6).trans (Ze.need _ _);unfold iL at hex ⊢;dsimp only at hex ⊢;split
 ·exact⟨h2.fail _ _,hex,fun e=>(gH (by decide) e).elim,q.trans (Ze.fail _ _ _)⟩
 ·exact⟨h2,hex,y,q⟩
omit hO in
theorem aTa (a:Int) {y:Ex×Z}(h:ZA L y.2) (he:oJ y.1):ZA L (s8 a y).2∧oJ (s8 a y).1∧Ze y.2 (s8 a y).2:=by
 unfold s8;split
 ·obtain⟨g1,g2,_,g4⟩:=gY (h.may dR) hwt;exact⟨g1,⟨⟨show 1≤4002 by decide,ε _,ε _⟩,g2,⟨fun h=>by omega,fun _=>rfl,fun h=>by omega⟩,trivial,⟨he,trivial⟩,trivial⟩,(Ze.may dR _).trans g4⟩
 ·exact⟨h.may dR,he,Ze.may dR _⟩
omit hwt in
theorem aHm (deep:Nat) {z:Z}(h:ZA L z):ZA L (eP ex deep z).2∧oJ (eP ex deep z).1∧Ze z (eP ex deep z).2:=by
 obtain⟨g1,g2,g3,g4⟩:=n9 hO deep h;unfold eP;split
 ·obtain⟨q,r,u⟩:=qL hO deep (b6 z).pl (z.R.length+1) _ _ (g1.fail 12 (b6 z).pl) g2;exact⟨q,r,(g4.trans (Ze.fail _ _ _)).trans u⟩
 ·obtain⟨q,r,u⟩:=qL hO deep (b6 z).pl (z.R.length+1) _ _ g1 g2;exact⟨q,r,g4.trans u⟩
end
theorem aS9 {ex:Nat→Z→Ex×Z}{deep:Nat}{a:Int}{f:Nat}{e:Ex}{z:Z}(h:(dX ex deep a f e z).2.e=0):z.e=0:=by
 cases f with
 | zero=>exact h
 | succ f=>
  rw[dX] at h;split at h
  ·assumption
  ·exact h
theorem aXk {a:Int}{y:Ex×Z}(h:(s8 a y).2.e=0):y.2.e=0:=by
 unfold s8 at h;split at h
 ·unfold bK at h;split at h
  ·rename_i he;rwa [iW] at he
  ·rwa [iW] at h
 ·rwa [iW] at h
theorem aRq {L:List Tk}{ex:Nat→Z→Ex×Z}(hO:ExO L ex) (hwt:wt L≤30000):ExO L (rN ex):=by
 intro deep z h;unfold rN;split
 ·rename_i he;exact⟨h,oJ.z,fun e=>absurd e he,Ze.refl z⟩
 split
 ·exact⟨h.fail _ _,oJ.z,fun e=>(gH (by decide) e).elim,Ze.fail _ _ _⟩
 split
 ·obtain⟨g1,g2,g3,g4⟩:=aRf hO (b6 z).pl deep (h.may sX);have l:=Ze.may sX z;exact⟨g1,g2,fun e=>A7 (g3 e) l,l.trans g4⟩
 split
 ·obtain⟨g1,g2,g3,g4⟩:=aRe hO hwt (b6 z).pl deep (h.may sD);have l:=Ze.may sD z;exact⟨g1,g2,fun e=>A7 (g3 e) l,l.trans g4⟩
 split
 ·obtain⟨g1,g2,g3,g4⟩:=aM8 hO (b6 z).pl deep (h.may fE);have l:=Ze.may fE z;exact⟨g1,g2,fun e=>A7 (g3 e) l,l.trans g4⟩
 ·obtain⟨g1,g2,g3⟩:=aHm hO deep h;obtain⟨y,B,q⟩:=aTa hwt (b6 z).pl g1 g2;refine⟨y,B,fun e=>?_,g3.trans q⟩;have u:=aXk e;obtain⟨E,I,J,O⟩:=n9 hO deep h;unfold eP at u q ⊢;have r:=aS9 u;split at r
  ·exact(gH (by decide) r).elim
  ·rename_i hs;have hs:(fT ex deep z).1.2=true:=by simpa using hs
   rw[ξ (by rw[hs];exact fun k=>Bool.noConfusion k)] at q ⊢;obtain⟨_,_,M⟩:=qL hO deep (b6 z).pl (z.R.length+1) _ _ E I;exact Bz (M.trans q) (J hs r)
theorem lM {L:List Tk}(hwt:wt L≤30000):∀f,ExO L (fV f)
 | 0=>fun deep z h=>⟨h.fail _ _,oJ.z,fun e=>(gH (by decide) e).elim,Ze.fail _ _ _⟩
 | f+1=>aRq (lM hwt f) hwt
def aK4:List C:=[.int .i64 0,.int .i64 0,.int .i64 0,.str [],.nl,.nl,.nl,.nl,.nl,.nl,.int .i64 0,.int .i64 0,.str [],.nl,.nl]
theorem aC4 (l:List Tk) (hl:l.length≤4001):b9 Tryz.prog 168 [.one (.c (.sl 4 (l.map aG)))] [] (.one (.c (.sl 10 ((kM l).map bL)))) []:=by
 have r:(l.map aG).length=l.length:=η _;refine bP (n:=26) tok Tryz.func168 rfl rfl rfl ?_;refine sg rfl (sg rfl (AWp.sub (Sub.own (t:=3) (id:=500) 49 10 rfl rfl) ?_));refine aA (sg rfl (aF (aK (fun i:Nat=>mk [(0,.one (.c (.sl 4 (l.map aG)))),(3,.one (.hs 500 0 i i)),(4,I .i64 (i:Nat))] [(500,.arr 49 10 ((kM (l.take i)).map bL) 0)]) (fun i=>i≤l.length) (fun i=>l.length-i) 0 (ε _) sl ?_)));intro i hi;have q:((kM (l.take i)).map bL).length=i:=by rw[η,qP,An];omega
 refine aA (sg rfl (aB rfl (fun hb=>?_) (fun hb=>?_)))
 ·have u:=ltD hb r;obtain⟨t,ht⟩:=aL u;have E:=aT aG ht;have y:(kM (l.take (i+1))).map bL=(kM (l.take i)).map bL++[bL (.mk 2 t.pl 0 t.text [])]:=by
   unfold kM;rw[Bf,ht,Al,Al];rfl
  exact aD (aA (aF (ag [(3,.row i (aG t)),(8,.row i (aG t)),(12,.all)] rfl (agN [] rfl ⟨i+1,u,by dsimp only;omega,sl (he:=⟨rfl,Go.AM.hs_ren (congrArg (· +1) q) (congrArg (· +1) q),rfl,trivial⟩) (hh:=⟨⟨_,rfl,.arrS y.symm⟩,trivial⟩)⟩))))
 ·have B:=geD hb r hi;subst B;rw[Ax] at q ⊢;refine aH (AWp.sub (Sub.freeze (id:=500) rfl) ?_);exact sg rfl (aE (rtH (hsz:=q.symm) (hlen:=q.symm)))
def ExS (L:List Tk) (ex:Nat→Z→Ex×Z) (N:Nat):Prop:=∀(deep:Nat) (z:Z),ZA L z→z.R.length≤N→deep≤41→b9 Tryz.prog 67 [xP,I .i64 (deep:Nat)] [(700,zO L z)] (.pa (bU (ex deep z).1)) [(700,zO L (ex deep z).2)]
section
variable {L:List Tk}{ex:Nat→Z→Ex×Z}{N:Nat}(hO:ExO L ex) (hS:ExS L ex N)
include hO hS
theorem aPr (deep:Nat) {z:Z}(h:ZA L z) (hN:z.R.length≤N+1) (hd:deep≤40):b9 Tryz.prog 121 [xP,I .i64 (deep:Nat)] [(700,zO L z)] (.tup [.pa (bU (fT ex deep z).1.1),B (fT ex deep z).1.2]) [(700,zO L (fT ex deep z).2)]:=by
 have ho:=fP L z;unfold fT;by_cases he:z.e=0
 case neg=>
  rw[ζ he];rw[ψ he] at ho;refine bP (n:=56) tok Tryz.func121 rfl rfl rfl ?_;refine sg rfl (aA (sk 1 rfl (kc ho ?_)));exact kz 1 rfl (aB rfl (fun _=>sg rfl (aE q9)) (fun hb=>Bool.noConfusion hb))
 rw[ξ (fun k=>k he)];rw[φ he] at ho;have hn:=fZ h;have hm:=j7 h bI;have aa:=h.l;refine bP (n:=56) tok Tryz.func121 rfl rfl rfl ?_;refine sg rfl (aA (sk 1 rfl (kc ho ?_)));refine kz 1 rfl (aB rfl (fun hb=>Bool.noConfusion hb) (fun _=>aD (sk 1 rfl (kc hn ?_))));refine kz 2 rfl ?_;by_cases q:0<(b6 z).kind∧(b6 z).kind<4
 ·rw[ζ q];obtain⟨_,M⟩:=h.tl (uK q) z.e z.p;have Y:zO L (tlZ z)=.var 78 [.c (.sl 4 (L.map aG)),.c (.int .i64 ((L.length-z.R.length+1:Nat):Int)),.c (.int .i64 z.e),.c (.int .i64 z.p)]:=by
   unfold zO tlZ;dsimp only;rw[M]
  rw[Y];have d1:decide ((0:Int)<(b6 z).kind)=true:=φ q.1;have d2:decide ((b6 z).kind<(4:Int))=true:=φ q.2;refine aA (sgh [(3,.bv true),(7,.bv true)] rfl (aB rfl (fun _=>?_) (fun hb=>absurd (hb.symm.trans d2) Bool.noConfusion)));unfold zO pB;refine aA (agN [] rfl (aA (sg rfl (aB rfl (fun hb=>?_) (fun hb=>?_)))))
  ·rw[ζ (κ hb)];exact sg rfl (aE q9)
  ·rw[ξ (Af hb)];exact aD (sg rfl (aE q9))
 rw[ξ q];refine aA (aA (AWp.cut (mk [(0,xP),(1,I .i64 (deep:Nat)),(4,.one (.vp 4 0)),(21,B false)] [(700,zO L z),(4,.var 61 (aK4.map .c))]) ?_ ?_))
 ·by_cases k0:0<(b6 z).kind
  ·have d2:decide ((b6 z).kind<(4:Int))=false:=ψ (fun k=>q ⟨k0,k⟩);have d1:decide ((0:Int)<(b6 z).kind)=true:=φ k0;refine ag [(3,.bv true),(7,.bv true)] rfl ?_;rw[d2];exact sl
  ·have d1:decide ((0:Int)<(b6 z).kind)=false:=ψ k0;exact ag [(3,.bv false),(7,.bv false)] rfl sl
 refine aB rfl (fun hb=>Bool.noConfusion hb) (fun _=>aD ?_);have r:=fG (s:=bI) h;have h1:=h.may bI;have J:(bT bI z).1=false→(bT bI z).2=z:=fun hb=>by
  unfold bT at hb ⊢;split
  ·rename_i hc;rw[ζ hc] at hb;cases hb
  ·rfl
 generalize bT bI z=m at hm r h1 J ⊢;obtain⟨b,u⟩:=m;refine aA (sk 1 rfl (kc hm ?_));refine kz 1 rfl ?_;cases b with
 | false=>
  have O:u=z:=J rfl;subst O;rw[ζ rfl];exact aB rfl (fun _=>sg rfl (aE q9)) (fun hb=>Bool.noConfusion hb)
 | true=>
  rw[ξ (show ¬(true=false) from fun k=>Bool.noConfusion k)];have r:u.R.length<z.R.length:=r rfl;dsimp only at h1 ⊢;have E:=hS (deep+1) u h1 (by omega) (by omega);obtain⟨g1,_⟩:=hO (deep+1) u h1;generalize ex (deep+1) u=y at E g1 ⊢;obtain⟨e,z2⟩:=y;dsimp only at E g1 ⊢;have U:=dF g1 c6;refine aB rfl (fun hb=>Bool.noConfusion hb) (fun _=>aD (aA (aC mixed (akN 3 [] rfl (kc E ?_)))));refine kz 2 rfl (sk 1 rfl (kc U ?_));exact az (sg rfl (aE q9))
end
section
variable {L:List Tk}{ex:Nat→Z→Ex×Z}{N:Nat}(hS:ExS L ex N)
include hS
theorem aWv (a:Int) (deep:Nat) {z:Z}(h:ZA L z) (hN:z.R.length≤N) (hd:deep≤40):b9 Tryz.prog 118 [xP,I .i64 a,I .i64 (deep:Nat)] [(700,zO L z)] (.pa (bU (sW ex a deep z).1)) [(700,zO L (sW ex a deep z).2)]:=by
 obtain⟨g1,g2,g3⟩:=zV a h;have q:=hS (deep+1) (sE a z).2 g1 (le_trans g3 hN) (by omega);unfold sW;generalize hy:ex (deep+1) (sE a z).2=y at q ⊢;obtain⟨b,z6⟩:=y;dsimp only at q ⊢;unfold sE at q g2 ⊢;dsimp only at q g2 ⊢;have u:=qI h;have h1:=h.words;generalize aU z=w at q g2 u h1 ⊢;obtain⟨l,B⟩:=w;dsimp only at q g2 u h1 ⊢;have hn:=fZ h1;have M:=eB L B 12 (b6 B).pl;have O:(l.map aG).length=l.length:=η _;have hv:=aC4 l g2;refine bP (n:=34) tok Tryz.func118 rfl rfl rfl ?_;refine sg rfl (sk 1 rfl (kc u ?_));refine kz 1 rfl ?_;have J:∃z2,z2=(if l=[] then bS 12 (b6 B).pl B else B)∧ZA L z2:=⟨_,rfl,by split<;>first | exact h1.fail _ _ | exact h1⟩
 obtain⟨z2,r,h2⟩:=J;rw[←r] at q;have E:=lR L z2 l.length 8 a;have U:=h2.long l.length 8 a;refine aA (AWp.cut (mk [(0,xP),(1,I .i64 a),(2,I .i64 (deep:Nat)),(6,.one (.vp 6 0)),(7,.one (.c (.sl 4 (l.map aG))))] [(700,zO L z2),(6,.var 61 (aK4.map .c))]) ?_ ?_)
 ·refine sg rfl ?_;by_cases hl:l=[]
  ·rw[ζ hl] at r;subst hl r;refine aB rfl (fun _=>aC mixed (ak 2 [] rfl (kc hn ?_))) (fun hb=>Bool.noConfusion hb);refine ak 1 [] rfl (kc M ?_);exact az sl
  ·rw[ξ hl] at r;subst r;have d0:decide (((l.map aG).length:Int)=0)=false:=ψ (by have:=C6.2 hl;omega);exact aB rfl (fun hb=>absurd (hb.symm.trans d0) Bool.noConfusion) (fun _=>aD sl)
 generalize c8 l.length 8 a z2=z3 at E U q;have Y:=dF U arrow;refine sk 4 rfl ?_;rw[O];refine kc E ?_;refine az (sk 1 rfl (kc Y ?_));refine az (sk 2 rfl (kc hv ?_));refine akN 3 [] rfl (kc q ?_);exact ak 3 [(7,.all)] rfl (az (aE (rtC trw)))
theorem aJw (nm:Tk) (deep:Nat) {z:Z}(h:ZA L z) (O:z.R.length≤N) (hd:deep≤41):b9 Tryz.prog 163 [xP,tkV nm,I .i64 (deep:Nat)] [(700,zO L z)] (.pa (b8 (cP ex nm deep z).1)) [(700,zO L (cP ex nm deep z).2)]:=by
 obtain⟨g1,g2,g3⟩:=v7 nm h;have q:=hS deep (iO nm z).2 g1 (le_trans g3 O) hd;unfold cP;generalize hy:ex deep (iO nm z).2=y at q ⊢;obtain⟨b,U⟩:=y;dsimp only at q ⊢;unfold iO at q g2 ⊢;dsimp only at q g2 ⊢;have r:=qI h;have h1:=h.words;generalize aU z=w at q g2 r h1 ⊢;obtain⟨l,E⟩:=w;dsimp only at q g2 r h1 ⊢;have u:(l.map aG).length=l.length:=η _;have hv:=aC4 l g2;have B:=lR L E l.length 8 nm.pl;have J:=h1.long l.length 8 nm.pl;generalize c8 l.length 8 nm.pl E=z3 at B J q;have M:=dF J eqS;refine bP (n:=40) tok Tryz.func163 rfl rfl rfl ?_;refine sg rfl (sk 1 rfl (kc r ?_));refine kz 1 rfl (sk 5 rfl ?_);rw[u];refine kc B ?_;refine az (sk 1 rfl (kc M ?_));refine az (sk 2 rfl (kc q ?_));refine kz 2 rfl (aA (sg rfl ?_));cases l with
 | nil=>
  exact aB rfl (fun hb=>Bool.noConfusion hb) (fun _=>aD (sg rfl (aE (rtC trw))))
 | cons t l=>
  have d0:decide ((0:Int)<(((t::l).map aG).length:Int))=true:=φ (by rw[u,χ];omega);have ht:((t::l).map aG)[0]?=some (aG t):=rfl;refine aB rfl (fun _=>aC mixed (ak 5 [(1,.row 0 (aG t))] rfl (kc hv ?_))) (fun hb=>absurd (hb.symm.trans d0) Bool.noConfusion);exact ak 4 [(7,.all)] rfl (az (sg rfl (aE (rtC trw))))
end
def sgA (l:List Sg) (f:Nat):AObj:=.arr 92 9 (l.map cI) f
def bdA (l:List Bd) (f:Nat):AObj:=.arr 99 33 (l.map b8) f
def hsV (id n:Nat):V:=.one (.hs id 0 n n)
section
variable {L:List Tk}{ex:Nat→Z→Ex×Z}{N:Nat}(hS:ExS L ex N) (hwt:wt L≤30000)
include hS hwt
theorem y6 (sigs:List Sg) (binds:List Bd) (deep:Nat) {z:Z}(h:ZA L z) (Y:z.R.length≤N) (hd:deep≤41) (h1:sigs.length≤4001) (h2:binds.length≤4001):
  b9 Tryz.prog 98 [xP,hsV 510 sigs.length,hsV 511 binds.length,I .i64 (deep:Nat)] [(700,zO L z),(510,sgA sigs 0),(511,bdA binds 0)]
   (.tup [hsV 510 (aY ex sigs binds deep z).1.1.length,hsV 511 (aY ex sigs binds deep z).1.2.length]) [(700,zO L (aY ex sigs binds deep z).2),(510,sgA (aY ex sigs binds deep z).1.1 0),(511,bdA (aY ex sigs binds deep z).1.2 0)]:=by
 have hw:=jD h 1 (by decide);have g1:=h.word (k:=1) (by decide);have M:=Ze.word 1 z;have E:(sigs.map cI).length=sigs.length:=η _;have J:(binds.map b8).length=binds.length:=η _;unfold aY;generalize aS 1 z=w at hw g1 M ⊢;obtain⟨nm,U⟩:=w;dsimp only at hw g1 M ⊢;have hm:=j7 g1 dR;have g2:=g1.may dR;have O:=Ze.may dR U;generalize bT dR U=m at hm g2 O ⊢;obtain⟨b,z2⟩:=m;dsimp only at hm g2 O ⊢;refine bP (n:=34) tok Tryz.func98 rfl rfl rfl ?_;refine sg rfl (sk 1 rfl (kc hw ?_));refine kz 2 rfl (aA (sk 1 rfl (kc hm ?_)));refine az ?_;cases b with
 | true=>
  rw[ζ rfl];have r:=rV g2 hwt;generalize bK z2=y at r ⊢;obtain⟨s,z3⟩:=y;dsimp only at r ⊢;have q:sigs.map cI++[cI ⟨nm.text,nm.pl,s⟩]=(sigs++[(⟨nm.text,nm.pl,s⟩:Sg)]).map cI:=by rw[Al];rfl
  have hle:(sigs++[(⟨nm.text,nm.pl,s⟩:Sg)]).length=sigs.length+1:=by rw[θ];rfl
  generalize sigs++[(⟨nm.text,nm.pl,s⟩:Sg)]=S at q hle ⊢;refine aB rfl (fun _=>sk 6 rfl (kc r ?_)) (fun hb=>Bool.noConfusion hb);refine ak 6 [(8,.all)] rfl (az (AWp.sub (st2:=mk [(8,hsV 510 S.length),(9,hsV 511 binds.length)] [(700,zO L z3),(510,sgA S 0),(511,bdA binds 0)]) (sl (he:=⟨Go.AM.hs_ren (by rw[hle,←E];rfl) (by rw[hle,←E];rfl),rfl,trivial⟩) (hh:=⟨⟨_,rfl,.var rfl⟩,⟨_,rfl,.arrS q⟩,⟨_,rfl,Go.AM.Ole.arr⟩,trivial⟩)) ?_));exact aE aZ9
 | false=>
  rw[ξ ω];have u:=aJw hS nm deep g2 (le_trans (M.trans O) Y) hd;generalize cP ex nm deep z2=y at u ⊢;obtain⟨B,z3⟩:=y;dsimp only at u ⊢;have q:binds.map b8++[b8 B]=(binds++[B]).map b8:=by rw[Al];rfl
  have hle:(binds++[B]).length=binds.length+1:=by rw[θ];rfl
  generalize binds++[B]=S at q hle ⊢;refine aB rfl (fun hb=>Bool.noConfusion hb) (fun _=>aD (sk 5 rfl (kc u ?_)));refine ak 4 [(6,.all)] rfl (az (AWp.sub (st2:=mk [(8,hsV 510 sigs.length),(9,hsV 511 S.length)] [(700,zO L z3),(510,sgA sigs 0),(511,bdA S 0)]) (sl (he:=⟨rfl,Go.AM.hs_ren (by rw[hle,←J];rfl) (by rw[hle,←J];rfl),trivial⟩) (hh:=⟨⟨_,rfl,.var rfl⟩,⟨_,rfl,Go.AM.Ole.arr⟩,⟨_,rfl,.arrS q⟩,trivial⟩)) ?_));exact aE aZ9
end
def aEz (p:Bd→Bool) (b:List Bd) (m:Nat):Int:=match (b.drop m).findIdx? p with
 | none=> -1
 | some d=>((m+d:Nat):Int)
theorem aCo (p:Bd→Bool) (b:List Bd):aEz p b b.length= -1:=by unfold aEz;rw[Cc];rfl
theorem xE (p:Bd→Bool) {b:List Bd}{m:Nat}{x:Bd}(h:b[m]?=some x):aEz p b m=if p x=true then(m:Int) else aEz p b (m+1):=by
 obtain⟨h1,h2⟩:=Ai.1 h;have hd:=Ay h1;rw[h2] at hd;unfold aEz;rw[hd,List.findIdx?_cons];by_cases hp:p x=true
 ·rw[ζ hp,ζ hp];rfl
 ·rw[ξ hp,ξ hp];cases (b.drop (m+1)).findIdx? p with
  | none=>rfl
  | some d=>simp;omega
theorem aJn {L:List Tk}(sigs:List Sg) (binds:List Bd) {z:Z}(h:ZA L z) (h1:sigs.length≤4001) (h2:binds.length≤4001):
  b9 Tryz.prog 99 [xP,.one (.c (.sl 9 (sigs.map cI))),hsV 511 binds.length] [(700,zO L z),(511,bdA binds 0)] (hsV 511 binds.length) [(700,zO L (cF sigs binds z).2),(511,bdA (cF sigs binds z).1 0)]:=by
 have hsl:(sigs.map cI).length=sigs.length:=η _;have r:∃W,W=cF sigs binds z:=⟨_,rfl⟩
 obtain⟨W,r⟩:=r;rw[←r];refine bP (n:=74) tok Tryz.func99 rfl rfl rfl ?_;refine sg rfl (aA (sg rfl (aF (aK (fun q:Nat×List Bd×Z=>mk [(0,xP),(1,.one (.c (.sl 9 (sigs.map cI)))),(2,hsV 511 binds.length),(7,I .i64 (q.1:Nat))] [(700,zO L q.2.2),(511,bdA q.2.1 0)]) (fun q=>q.1≤sigs.length∧ZA L q.2.2∧q.2.1.length=binds.length∧W=cF (sigs.drop q.1) q.2.1 q.2.2) (fun q=>sigs.length-q.1) (0,binds,z) ⟨ε _,h,rfl,r⟩ sl ?_))));clear r h;rintro⟨i,b,z⟩ ⟨hi,h,u,r⟩;dsimp only at hi h u r ⊢;have hbe:(b.map b8).length=b.length:=η _;have ho:=fP L z;by_cases y:i<sigs.length
 case neg=>
  have d0:decide ((i:Int)<((sigs.map cI).length:Int))=false:=ψ (by omega);rw[drop_eq_nil_of_le (by omega),cF] at r;refine aA (sgh [(4,.bv false),(7,.bv false)] rfl (aB rfl (fun hb=>Bool.noConfusion hb) (fun _=>aH (sg rfl ?_))));rw[r];exact aE rtT
 have d0:decide ((i:Int)<((sigs.map cI).length:Int))=true:=φ (by omega);obtain⟨s,hs⟩:=aL y;have hs':=aT cI hs;have M:sigs.drop i=s::sigs.drop (i+1):=by
  obtain⟨k1,k2⟩:=Ai.1 hs;rw[←k2];exact Ay k1
 rw[M,cF] at r;by_cases he:z.e=0
 case neg=>
  rw[ξ he] at r;rw[ψ he] at ho;refine aA (skh 6 [(4,.bv true)] rfl (kcG ho ?_));refine ak 1 [(4,.bv true),(7,.bv true)] rfl (az (aB rfl (fun hb=>Bool.noConfusion hb) (fun _=>aH (sg rfl ?_))));rw[r];exact aE rtT
 rw[ζ he] at r;rw[φ he] at ho;refine aA (skh 6 [(4,.bv true)] rfl (kcG ho ?_));refine ak 1 [(4,.bv true),(7,.bv true)] rfl (az (aB rfl (fun _=>aD (aA (aF (sg rfl (aA (sg rfl (aF (aK (fun m:Nat=>mk [(0,xP),(1,.one (.c (.sl 9 (sigs.map cI)))),(2,hsV 511 binds.length),(7,I .i64 (i:Nat)),(8,I .i64 (aEz (fun x=>decide (x.name=s.name)) b m)),(9,I .i64 ((m:Int)-1))] [(700,zO L z),(511,bdA b 0)]) (fun m=>m≤b.length) (fun m=>m) b.length (le_refl _) (sl (he:=⟨rfl,rfl,rfl,rfl,Go.AM.int_eq (aCo _ b).symm,Go.AM.int_eq (by rw[u]),trivial⟩)) ?_)))))))) (fun hb=>Bool.noConfusion hb)));intro m hm;refine aA (sg rfl (aB rfl (fun hb=>?_) (fun hb=>?_)))
 ·have hm1:1≤m:=by have:=κ hb;omega
  obtain⟨m,rfl⟩:∃k,m=k+1:=⟨m-1,by omega⟩
  obtain⟨x,hx⟩:=aL (l:=b) (k:=m) (by omega);have O:=aT b8 hx;have B:=xE (fun x=>decide (x.name=s.name)) hx;have U:(((m+1:Nat):Int)-1)=(m:Int):=by omega
  rw[U];refine aD (aA (aF (sgh [(4,.row m (b8 x)),(7,.row i (cI s))] rfl (aB rfl (fun hb=>?_) (fun hb=>?_)))))
  ·have hb:decide (x.name=s.name)=true:=hb;rw[ζ hb] at B;exact ag [] rfl (ag [] rfl ⟨m,by omega,Bt _,sl (he:=⟨rfl,rfl,rfl,rfl,Go.AM.int_eq B.symm,rfl,trivial⟩)⟩)
  ·have hb:decide (x.name=s.name)=false:=hb;rw[ξ (by rw[hb];exact ω)] at B;exact aD (ag [] rfl ⟨m,by omega,Bt _,sl (he:=⟨rfl,rfl,rfl,rfl,Go.AM.int_eq B.symm,rfl,trivial⟩)⟩)
 have Y:m=0:=by have:=Af hb;omega
 subst Y;have aa:aEz (fun x=>decide (x.name=s.name)) b 0=match b.findIdx? (fun x=>decide (x.name=s.name)) with | none=> -1 | some d=>(d:Int):=by
  unfold aEz;rw[B5];cases b.findIdx? _ with
  | none=>rfl
  | some d=>simp
 rw[aa];refine aH ?_;cases J:b.findIdx? (fun x=>decide (x.name=s.name)) with
 | none=>
  rw[J] at r;dsimp only at r ⊢;have E:=eB L z 21 s.pl;refine aA (sg rfl (aB rfl (fun _=>skh 6 [(3,.row i (cI s))] rfl (kc E ?_)) (fun hb=>Bool.noConfusion hb)));exact az (aH (agN [] rfl ⟨(i+1,b,bS 21 s.pl z),⟨y,h.fail _ _,u,r⟩,by dsimp only;omega,sl⟩))
 | some k=>
  rw[J] at r;dsimp only at r ⊢;have hk:=pJ J;obtain⟨x,hx⟩:=aL hk;have O:=aT b8 hx;rw[hx] at r;dsimp only at r;have dk:decide ((k:Int)<0)=false:=ψ (by omega);refine aA (sg rfl (aB rfl (fun hb=>absurd (hb.symm.trans dk) Bool.noConfusion) (fun _=>aD (aA (sgh [(4,.row k (b8 x))] rfl (aB rfl (fun hb=>?_) (fun hb=>?_)))))))
  ·have hb:x.has=true:=hb;rw[ζ hb] at r;have E:=eB L z 20 s.pl;refine skh 6 [(3,.row i (cI s))] rfl (kc E ?_);exact az (aH (agN [] rfl ⟨(i+1,b,bS 20 s.pl z),⟨y,h.fail _ _,u,r⟩,by dsimp only;omega,sl⟩))
  ·have hb:x.has=false:=hb;rw[ξ (by rw[hb];exact ω)] at r;refine aD ?_;have hs1:(b.map b8).set k (b8 (.mk x.name x.pl true x.sig x.body))=(b.set k (.mk x.name x.pl true x.sig x.body)).map b8:=by rw[map_set]
   have hs2:((b.set k (.mk x.name x.pl true x.sig x.body)).map b8).set k (b8 (i7 x s.ty))=(b.set k (i7 x s.ty)).map b8:=by rw[←map_set,List.set_set]
   have hx2:((b.set k (.mk x.name x.pl true x.sig x.body)).map b8)[k]?=some (b8 (.mk x.name x.pl true x.sig x.body)):=by rw[By,List.getElem?_set_self hk];rfl
   have hl2:((b.set k (.mk x.name x.pl true x.sig x.body)).map b8).length=b.length:=by rw[η,Cx]
   refine sgh [(4,.row k (b8 x))] rfl (AWp.sub (st2:=mk [(0,xP),(1,.one (.c (.sl 9 (sigs.map cI)))),(2,hsV 511 binds.length),(7,I .i64 (i:Nat)),(8,I .i64 (k:Nat))] [(700,zO L z),(511,bdA (b.set k (.mk x.name x.pl true x.sig x.body)) 0)]) (sl (hh:=⟨⟨_,rfl,.var rfl⟩,⟨_,rfl,.arrS hs1⟩,trivial⟩)) ?_);exact ag [(4,.row i (cI s)),(9,.row k (b8 (.mk x.name x.pl true x.sig x.body)))] rfl (agN [] rfl ⟨(i+1,b.set k (i7 x s.ty),z),⟨y,h,by dsimp only;rw[Cx,u],r⟩,by dsimp only;omega,sl (hh:=⟨⟨_,rfl,.var rfl⟩,⟨_,rfl,.arrS hs2⟩,trivial⟩)⟩)
theorem dD {s:Str}{n:Nat}{z:Z}(h:¬z.e=0):aW s n z=(false,z):=by
 have h1:moreA s n z=z:=by unfold moreA;rw[ξ (fun k=>h k.2.1)]
 have h2:cL z=z:=by unfold cL;rw[ξ h]
 unfold aW;rw[h1,h2,ζ (.inl h)]
section
variable {L:List Tk}{ex:Nat→Z→Ex×Z}{N:Nat}(hO:ExO L ex) (hS:ExS L ex N) (hwt:wt L≤30000)
include hO hS hwt
theorem aWs (a:Int) (deep:Nat) {z:Z}(h:ZA L z) (hN:z.R.length≤N) (hd:deep≤40):b9 Tryz.prog 119 [xP,I .i64 a,I .i64 (deep:Nat)] [(700,zO L z)] (.pa (bU (sV ex a deep z).1)) [(700,zO L (sV ex a deep z).2)]:=by
 have J:=dF h cY;have h1:=h.need cY;have l1:=Ze.need cY z;have hWx:∃W,W=qH ex deep z:=⟨_,rfl⟩
 obtain⟨W,u⟩:=hWx;unfold sV;rw[←u];unfold qH at u;generalize aQ cY z=z1 at J h1 l1 u;have l1':z1.R.length≤z.R.length:=l1;refine bP (n:=42) tok Tryz.func119 rfl rfl rfl ?_;refine sg rfl (sg rfl (sg rfl (AWp.sub (Sub.own (t:=7) (id:=510) 92 9 rfl rfl) ?_)));refine AWp.sub (Sub.own (t:=8) (id:=511) 99 33 rfl rfl) ?_;refine sk 1 rfl (kc J ?_);refine az (aA (sg rfl (aF (aK (fun q:(List Sg×List Bd)×Z×Nat×Nat=>mk [(0,xP),(1,I .i64 a),(2,I .i64 (deep:Nat)),(6,.one (.vp 6 0)),(7,hsV 510 q.1.1.length),(8,hsV 511 q.1.2.length),(9,I .i64 (q.2.2.1:Nat))] [(700,zO L q.2.1),(6,.var 61 (aK4.map .c)),(510,sgA q.1.1 0),(511,bdA q.1.2 0)]) (fun q=>ZA L q.2.1∧fX q.1.1∧eV q.1.2∧q.2.1.R.length≤z1.R.length∧(q.2.1.e=0→q.2.1.R.length<q.2.2.2)∧q.2.2.1≤60∧q.1.1.length≤q.2.2.1∧q.1.2.length≤q.2.2.1∧W=eT ex (deep+1) q.2.2.2 q.2.2.1 q.1.1 q.1.2 q.2.1) (fun q=>if q.2.1.e=0 then q.2.1.R.length+1 else 0) (([],[]),z1,0,z1.R.length+1) ⟨h1,fun s hs=>(by cases hs),trivial,le_refl _,fun _=>Bt _,ε _,le_refl _,le_refl _,u⟩ sl ?_))));clear u J h;rintro⟨⟨sigs,binds⟩,z2,n,f⟩ ⟨h,hs,hb,hR,hf,hn,hsl,hbl,u⟩;dsimp only at h hs hb hR hf hn hsl hbl u ⊢;have hm:=rX h aV n (by omega);have M:= @dU aV n z2;have B:=h.more aV n;have E:=Ze.more aV n z2;have r:W=if(aW aV n z2).1=true then eT ex (deep+1) (f-1) (n+1) (aY ex sigs binds (deep+1) (aW aV n z2).2).1.1 (aY ex sigs binds (deep+1) (aW aV n z2).2).1.2 (aY ex sigs binds (deep+1) (aW aV n z2).2).2 else((sigs,binds),(aW aV n z2).2):=by
  by_cases he:z2.e=0
  ·obtain⟨f,rfl⟩:∃g,f=g+1:=⟨f-1,by have:=hf he;omega⟩
   rw[eT] at u;exact u
  ·rw[dD he];rw[ξ ω];rw[u];cases f with
   | zero=>rfl
   | succ f=>rw[eT,dD he,ξ ω]
 have O:(aW aV n z2).1=true→z2.e=0:=fun e=>by
  by_cases he:z2.e=0
  ·exact he
  ·rw[dD he] at e;cases e
 clear u;generalize aW aV n z2=m at hm M B E r O;obtain⟨b,z3⟩:=m;dsimp only at hm M B E r O;have E:z3.R.length≤z2.R.length:=E;refine aA (sk 2 rfl (kc hm ?_));refine az ?_;cases b with
 | true=>
  rw[ζ rfl] at r;obtain⟨e3,hn60⟩:=M rfl;have he2:=O rfl;have hf:=hf he2;have U:=y6 hS hwt sigs binds (deep+1) B (by omega) (by omega) (by omega) (by omega);obtain⟨k1,k2,k3,k4,k5,k6,k7⟩:=mH hO hwt sigs binds (deep+1) B hs hb;generalize aY ex sigs binds (deep+1) z3=y at U k1 k2 k3 k4 k5 k6 k7 r;obtain⟨⟨S,Bs⟩,z4⟩:=y;dsimp only at U k1 k2 k3 k4 k5 k6 k7 r;have k7:z4.R.length≤z3.R.length:=k7;refine aB rfl (fun _=>aD (aA (aF (aC mixed (akN 5 [] rfl (kc U ?_)))))) (fun hb=>Bool.noConfusion hb);refine kz 5 rfl (agN [] rfl ⟨((S,Bs),z4,n+1,f-1),⟨k1,k2,k3,by dsimp only;omega,fun h0=>by have:=k6 h0;dsimp only;omega,hn60,by dsimp only;omega,by dsimp only;omega,r⟩,?_,sl⟩);dsimp only;rw[ζ he2];split
  ·rename_i h0;have:=k6 h0;omega
  ·omega
 | false=>
  rw[ξ ω] at r;subst r;have Y:=dF B aV;have h5:=B.need aV;have l5:=Ze.need aV z3;unfold aFv;dsimp only;generalize aQ aV z3=z5 at Y h5 l5 ⊢;have aa:=aJn sigs binds h5 (by omega) (by omega);obtain⟨p1,p2,p3,p4⟩:=gS sigs binds z5 h5 hs hb;generalize cF sigs binds z5=y at aa p1 p2 p3 p4 ⊢;obtain⟨Bs,z6⟩:=y;dsimp only at aa p1 p2 p3 p4 ⊢;have ab:=dF p1 inS;have h7:=p1.need inS;have l7:=Ze.need inS z6;generalize aQ inS z6=z7 at ab h7 l7 ⊢;have l5':z5.R.length≤z3.R.length:=l5;have p4':z6.R.length≤z5.R.length:=p4;have l7':z7.R.length≤z6.R.length:=l7;have hex:=hS (deep+1) z7 h7 (by omega) (by omega);generalize ex (deep+1) z7=y at hex ⊢;obtain⟨e,z8⟩:=y;dsimp only at hex ⊢;have hBl:binds.length=(Bs.map b8).length:=by rw[η,p3]
  refine aB rfl (fun hb=>Bool.noConfusion hb) (fun _=>aH (sk 1 rfl (kc Y ?_)));refine az (AWp.sub (Sub.freeze (id:=510) rfl) ?_);refine sk 3 rfl (kc aa ?_);refine kz 1 rfl (sk 1 rfl (kc ab ?_));refine az (AWp.sub (Sub.freeze (id:=511) rfl) ?_);refine aA (aC mixed (akN 5 [] rfl (kc hex ?_)));refine ak 3 [(6,.all)] rfl (az ?_);unfold bU;rw[aCv];exact aE (rtC trw (hc:=.agg (.c .refl (.c .refl (.c .refl (.c .refl (.c .refl (.c .nl (.hs rfl hBl (Go.AM.take_all hBl) (.c .nl (.c .nl (.c .nl (.c .refl (.c .refl (.c .refl (.c .nl (.c .nl .nil)))))))))))))))))
end
section
variable {L:List Tk}{ex:Nat→Z→Ex×Z}{N:Nat}(hO:ExO L ex) (hS:ExS L ex N)
include hO hS
theorem aSm (a:Int) (deep:Nat) {z:Z}(h:ZA L z) (hN:z.R.length≤N) (hd:deep≤40):b9 Tryz.prog 120 [xP,I .i64 a,I .i64 (deep:Nat)] [(700,zO L z)] (.pa (bU (iL ex a deep z).1)) [(700,zO L (iL ex a deep z).2)]:=by
 have aa:=hS (deep+1) z h hN (by omega);obtain⟨g0,_,_,m0⟩:=hO (deep+1) z h;have hWx:∃W,W=gJ ex deep (dP ex deep z):=⟨_,rfl⟩
 obtain⟨W,u⟩:=hWx;unfold iL;rw[←u];unfold gJ dP at u;generalize ex (deep+1) z=y at aa g0 m0 u;obtain⟨e0,z0⟩:=y;dsimp only at aa g0 m0 u;have M:=dF g0 ofS;have h1:=g0.need ofS;have l1:=Ze.need ofS z0;generalize aQ ofS z0=z1 at M h1 l1 u;have O:=dF h1 cY;have h2:=h1.need cY;have l2:=Ze.need cY z1;generalize aQ cY z1=z2 at O h2 l2 u;have hz2:z2.R.length≤z.R.length:=(m0.trans l1).trans l2;refine bP (n:=57) tok Tryz.func120 rfl rfl rfl ?_;refine sg rfl (aA (aC mixed (akN 4 [] rfl (kc aa ?_))));refine ak 4 [(5,.id 501)] rfl (az (AWp.sub (Sub.ownCell (x:=7) (k:=5) (id:=502) 49 10 rfl rfl rfl) ?_));refine sk 1 rfl (kc M ?_);refine az (sk 1 rfl (kc O ?_));refine az (aA (sg rfl (aF (aK (fun q:(List Pt×List Ex)×Z×Nat×Nat=>mk [(0,xP),(2,I .i64 (deep:Nat)),(6,.one (.vp 6 0)),(7,.one (.vp 7 0)),(8,I .i64 (q.2.2.1:Nat))] [(700,zO L q.2.1),(6,.var 61 (aK4.map .c)),(7,.var 61 [.c (.int .i64 7),.c (.int .i64 a),.c (.int .i64 0),.c (.str []),.hs 501 0 q.1.2.length q.1.2.length,.hs 502 0 q.1.1.length q.1.1.length,.c .nl,.c .nl,.c .nl,.c .nl,.c (.int .i64 0),.c (.int .i64 0),.c (.str []),.c .nl,.c .nl]),(501,.arr 61 15 (q.1.2.map bU) 0),(502,.arr 49 10 (q.1.1.map bL) 0)]) (fun q=>ZA L q.2.1∧q.2.1.R.length≤z2.R.length∧(q.2.1.e=0→q.2.1.R.length<q.2.2.2)∧q.2.2.1≤60∧q.1.1.length=q.2.2.1∧q.1.2.length=q.2.2.1+1∧W=eW ex deep q.2.2.2 q.2.2.1 q.1.1 q.1.2 q.2.1) (fun q=>if q.2.1.e=0 then q.2.1.R.length+1 else 0) (([],[e0]),z2,0,z2.R.length+1) ⟨h2,le_refl _,fun _=>Bt _,ε _,rfl,rfl,u⟩ sl ?_))));clear u M O h1 h l1 l2;rintro⟨⟨ps,ks⟩,z3,n,f⟩ ⟨h,hR,hf,hn,hpl,hkl,u⟩;dsimp only at h hR hf hn hpl hkl u ⊢;have ab:(ps.map bL).length=ps.length:=η _;have ac:(ks.map bU).length=ks.length:=η _;have hm:=rX h aV n (by omega);have ad:= @dU aV n z3;have B:=h.more aV n;have U:=Ze.more aV n z3;have r:W=if(aW aV n z3).1=true then eW ex deep (f-1) (n+1) (ps++[(gD (3*(aW aV n z3).2.R.length+1) 0 (aW aV n z3).2).1]) (ks++[(ex (deep+1) (aQ arrow (gD (3*(aW aV n z3).2.R.length+1) 0 (aW aV n z3).2).2)).1]) (ex (deep+1) (aQ arrow (gD (3*(aW aV n z3).2.R.length+1) 0 (aW aV n z3).2).2)).2 else((ps,ks),(aW aV n z3).2):=by
  by_cases he:z3.e=0
  ·obtain⟨f,rfl⟩:∃g,f=g+1:=⟨f-1,by have:=hf he;omega⟩
   rw[eW] at u;exact u
  ·rw[dD he];rw[ξ ω];rw[u];cases f with
   | zero=>rfl
   | succ f=>rw[eW,dD he,ξ ω]
 have ae:(aW aV n z3).1=true→z3.e=0:=fun e=>by
  by_cases he:z3.e=0
  ·exact he
  ·rw[dD he] at e;cases e
 clear u;generalize aW aV n z3=m at hm ad B U r ae;obtain⟨b,z4⟩:=m;dsimp only at hm ad B U r ae;have U:z4.R.length≤z3.R.length:=U;refine aA (sk 2 rfl (kc hm ?_));refine az ?_;cases b with
 | true=>
  rw[ζ rfl] at r;obtain⟨e3,hn60⟩:=ad rfl;have he2:=ae rfl;have hf:=hf he2;have hp:=(aY9 L (3*z4.R.length+1)).2 _ (le_refl _) 0 z4 B (fun _=>le_refl _) (by decide);obtain⟨p1,_,p3,p4⟩:=(jW L (3*z4.R.length+1)).2.1 0 z4 B;generalize gD (3*z4.R.length+1) 0 z4=y at hp p1 p3 p4 r;obtain⟨p,z5⟩:=y;dsimp only at hp p1 p3 p4 r;have p4:z5.R.length≤z4.R.length:=p4;have hnd:=dF p1 arrow;have h6:=p1.need arrow;have l6:=Ze.need arrow z5;have k6:=aX (s:=arrow) (z:=z5);generalize aQ arrow z5=J at hnd h6 l6 k6 r;have l6:J.R.length≤z5.R.length:=l6;have hex:=hS (deep+1) J h6 (by omega) (by omega);obtain⟨x1,_,x3,x4⟩:=hO (deep+1) J h6;generalize ex (deep+1) J=y at hex x1 x3 x4 r;obtain⟨e,z7⟩:=y;dsimp only at hex x1 x3 x4 r;have x4:z7.R.length≤J.R.length:=x4;have hr1:ps.map bL++[bL p]=(ps++[p]).map bL:=by rw[Al];rfl
  have hr2:ks.map bU++[bU e]=(ks++[e]).map bU:=by rw[Al];rfl
  have hl1:(ps++[p]).length=ps.length+1:=by rw[θ];rfl
  have hl2:(ks++[e]).length=ks.length+1:=by rw[θ];rfl
  generalize ps++[p]=P at hr1 hl1 r;generalize ks++[e]=K at hr2 hl2 r;refine aB rfl (fun _=>aD (aA (aF (sk 3 rfl (kc hp ?_))))) (fun hb=>Bool.noConfusion hb);refine ak 4 [(4,.all)] rfl (az (sk 1 rfl (kc hnd ?_)));refine az (aC mixed (akN 5 [] rfl (kc hex ?_)));refine ak 4 [(6,.all)] rfl (az (agN [] rfl ⟨((P,K),z7,n+1,f-1),⟨x1,by dsimp only;omega,fun h0=>by have:=x3 h0;dsimp only;omega,hn60,by dsimp only;omega,by dsimp only;omega,r⟩,?_,?_⟩))
  ·dsimp only;rw[ζ he2];split
   ·rename_i h0;have:=x3 h0;omega
   ·omega
  ·exact sl (hh:=⟨⟨_,rfl,.var rfl⟩,⟨_,rfl,.var rfl⟩,⟨_,rfl,.var (by rw[hl1,hl2,←ab,←ac];rfl)⟩,⟨_,rfl,.arrS hr2⟩,⟨_,rfl,.arrS hr1⟩,trivial⟩)
 | false=>
  rw[ξ ω] at r;subst r;dsimp only;have hnow:=fZ B;have af:=dF B aV;have h5:=B.need aV;generalize hz5:aQ aV z4=z5 at af h5 ⊢;have hfl:=eB L z5 12 (b6 z4).pl;have E:∃J,J=(if ps=[] then bS 12 (b6 z4).pl z5 else z5):=⟨_,rfl⟩
  obtain⟨J,E⟩:=E;rw[←E];refine aB rfl (fun hb=>Bool.noConfusion hb) (fun _=>aH (sk 1 rfl (kc hnow ?_)));refine kz 2 rfl (sk 1 rfl (kc af ?_));refine az (aA (AWp.cut (mk [(0,xP),(6,.one (.vp 6 0)),(7,.one (.vp 7 0))] [(700,zO L J),(6,.var 61 (aK4.map .c)),(7,.var 61 [.c (.int .i64 7),.c (.int .i64 a),.c (.int .i64 0),.c (.str []),.hs 501 0 ks.length ks.length,.hs 502 0 ps.length ps.length,.c .nl,.c .nl,.c .nl,.c .nl,.c (.int .i64 0),.c (.int .i64 0),.c (.str []),.c .nl,.c .nl]),(501,.arr 61 15 (ks.map bU) 0),(502,.arr 49 10 (ps.map bL) 0)]) ?_ ?_))
  ·refine sg rfl ?_;by_cases Y:ps=[]
   ·rw[ζ Y] at E;subst Y E;refine aB rfl (fun _=>aC mixed (ak 2 [] rfl (kc hfl ?_))) (fun hb=>Bool.noConfusion hb);exact az sl
   ·rw[ξ Y] at E;subst E;have d0:decide ((ps.length:Int)=0)=false:=ψ (by have:=C6.2 Y;omega);exact aB rfl (fun hb=>absurd (hb.symm.trans d0) Bool.noConfusion) (fun _=>aD sl)
  refine AWp.sub (Sub.freeze (id:=501) rfl) ?_;refine AWp.sub (Sub.freeze (id:=502) rfl) ?_;refine sg rfl ?_;unfold bU aM9;rw[mG];exact aE (rtC trw (hc:=.agg (.c .refl (.c .refl (.c .refl (.c .refl (.hs rfl ac.symm (Go.AM.take_all ac.symm) (.hs rfl ab.symm (Go.AM.take_all ab.symm) (.c .nl (.c .nl (.c .nl (.c .nl (.c .refl (.c .refl (.c .refl (.c .nl (.c .nl .nil)))))))))))))))))
end
theorem j5 {s:Str}{z:Z}(hb:(bT s z).1=false):(bT s z).2=z:=by
 unfold bT at hb ⊢;split
 ·rename_i hc;rw[ζ hc] at hb;cases hb
 ·rfl
section
variable {L:List Tk}{ex:Nat→Z→Ex×Z}{N:Nat}(hO:ExO L ex) (hS:ExS L ex N) (hwt:wt L≤30000)
include hO hS hwt
theorem aW0 (deep:Nat) {z:Z}(h:ZA L z) (hN:z.R.length≤N+1) (hd:deep≤41):b9 Tryz.prog 67 [xP,I .i64 (deep:Nat)] [(700,zO L z)] (.pa (bU (rN ex deep z).1)) [(700,zO L (rN ex deep z).2)]:=by
 have hn:=fZ h;have ho:=fP L z;unfold rN;refine bP (n:=82) tok Tryz.func67 rfl rfl rfl ?_;refine sg rfl (sk 1 rfl (kc hn ?_));refine kz 2 rfl (aA (sk 1 rfl (kc ho ?_)));refine kz 1 rfl ?_;by_cases he:z.e=0
 case neg=>
  rw[ζ he];have d0:(!decide (z.e=0))=true:=by rw[ψ he];rfl
  exact aB rfl (fun _=>sg rfl (aE (rtC trw))) (fun hb=>absurd (hb.symm.trans d0) Bool.noConfusion)
 rw[ξ (fun k=>k he)];have d0:(!decide (z.e=0))=false:=by rw[φ he];rfl
 refine aB rfl (fun hb=>absurd (hb.symm.trans d0) Bool.noConfusion) (fun _=>aD (aA (sg rfl (aB rfl (fun hb=>?_) (fun hb=>?_)))))
 ·rw[ζ (by have:=κ hb;omega)];have hfl:=eB L z 13 (b6 z).pl;refine sk 3 rfl (kc hfl ?_);exact az (sg rfl (aE (rtC trw)))
 have hd40:¬40<deep:=by have:=Af hb;omega
 rw[ξ hd40];refine aD ?_;have r:=j7 h sX;have u:=fG (s:=sX) h;have B:=h.may sX;have E:= @j5 sX z;have M:=fun e=>aWv hS (b6 z).pl deep B (by have:=u e;omega) (by omega)
 generalize bT sX z=m at r u B E M ⊢;obtain⟨b,z1⟩:=m;dsimp only at r u B E M ⊢;refine aA (sk 1 rfl (kc r ?_));refine az ?_;cases b with
 | true=>
  rw[ζ rfl];have M:=M rfl;refine aB rfl (fun _=>sk 4 rfl (kc M ?_)) (fun hb=>Bool.noConfusion hb);exact kz 1 rfl (aE (rtC trw))
 | false=>
 obtain rfl:=E rfl;rw[ξ ω];clear r u B M E;refine aB rfl (fun hb=>Bool.noConfusion hb) (fun _=>aD ?_);have r:=j7 h sD;have u:=fG (s:=sD) h;have B:=h.may sD;have E:= @j5 sD z1;have O:=fun e=>aWs hO hS hwt (b6 z1).pl deep B (by have:=u e;omega) (by omega)
 generalize bT sD z1=m at r u B E O ⊢;obtain⟨b,z2⟩:=m;dsimp only at r u B E O ⊢;refine aA (sk 1 rfl (kc r ?_));refine az ?_;cases b with
 | true=>
  rw[ζ rfl];have O:=O rfl;refine aB rfl (fun _=>sk 4 rfl (kc O ?_)) (fun hb=>Bool.noConfusion hb);exact kz 1 rfl (aE (rtC trw))
 | false=>
 obtain rfl:=E rfl;rw[ξ ω];clear r u B O E;refine aB rfl (fun hb=>Bool.noConfusion hb) (fun _=>aD ?_);have r:=j7 h fE;have u:=fG (s:=fE) h;have B:=h.may fE;have E:= @j5 fE z2;have hcs:=fun e=>aSm hO hS (b6 z2).pl deep B (by have:=u e;omega) (by omega)
 generalize bT fE z2=m at r u B E hcs ⊢;obtain⟨b,z3⟩:=m;dsimp only at r u B E hcs ⊢;refine aA (sk 1 rfl (kc r ?_));refine az ?_;cases b with
 | true=>
  rw[ζ rfl];have hcs:=hcs rfl;refine aB rfl (fun _=>sk 4 rfl (kc hcs ?_)) (fun hb=>Bool.noConfusion hb);exact kz 1 rfl (aE (rtC trw))
 | false=>
 obtain rfl:=E rfl;rw[ξ ω];clear r u B hcs E;refine aB rfl (fun hb=>Bool.noConfusion hb) (fun _=>aD ?_);have U:=aPr hO hS deep h hN (by omega);obtain⟨o1,_,o3,o4⟩:=n9 hO deep h;have hlz:=h.lp;generalize hT:b6 z3=t at hn ⊢;unfold eP;rw[hT];generalize fT ex deep z3=y at U o1 o3 o4 ⊢;obtain⟨⟨e0,b0⟩,z4⟩:=y;dsimp only at U o1 o3 o4 ⊢;have o4:z4.R.length≤z3.R.length:=o4;refine sk 2 rfl (kc U ?_);refine kz 6 rfl ?_;have Y:∃z5,z5=(if b0=false then bS 12 t.pl z4 else z4)∧ZA L z5∧z5.R.length≤z3.R.length∧(z5.e=0→z5.R.length<z3.R.length):=by
  refine⟨_,rfl,?_⟩;split
  ·exact⟨o1.fail _ _,by rw[aAf];exact o4,fun e=>(gH (by decide) e).elim⟩
  ·rename_i hb;exact⟨o1,o4,fun e=>o3 (by simpa using hb) e⟩
 obtain⟨z5,Y,h5,l5,l5'⟩:=Y;rw[←Y];have hfl:=eB L z4 12 t.pl;refine aA (AWp.cut (mk [(0,xP),(1,I .i64 (deep:Nat)),(4,.one (.vp 4 0)),(5,.one (.vp 5 0)),(6,.one (.vp 6 0))] [(700,zO L z5),(4,.var 61 (aK4.map .c)),(5,.var 152 ((aG t).map .c)),(6,.var 61 ((bU e0).map .c))]) ?_ ?_)
 ·refine sg rfl ?_;cases b0 with
  | false=>
   rw[ζ rfl] at Y;subst Y;refine aB rfl (fun _=>aC mixed (ak 3 [] rfl (kc hfl ?_))) (fun hb=>Bool.noConfusion hb);exact az sl
  | true=>
   rw[ξ (show ¬(true=false) from fun k=>Bool.noConfusion k)] at Y;subst Y;exact aB rfl (fun hb=>Bool.noConfusion hb) (fun _=>aD sl)
 have hWx:∃W,W=dX ex deep t.pl (z3.R.length+1) e0 z5:=⟨_,rfl⟩
 obtain⟨W,J⟩:=hWx;rw[←J];clear U o1 o3 o4 hfl Y;refine aA (aF (aK (fun q:Ex×Z×Nat=>mk [(0,xP),(1,I .i64 (deep:Nat)),(4,.one (.vp 4 0)),(5,.one (.vp 5 0)),(6,.one (.vp 6 0))] [(700,zO L q.2.1),(4,.var 61 (aK4.map .c)),(5,.var 152 ((aG t).map .c)),(6,.var 61 ((bU q.1).map .c))]) (fun q=>ZA L q.2.1∧q.2.1.R.length≤z3.R.length∧(q.2.1.e=0→q.2.1.R.length<q.2.2)∧W=dX ex deep t.pl q.2.2 q.1 q.2.1) (fun q=>if q.2.1.e=0 then q.2.1.R.length+1 else 0) (e0,z5,z3.R.length+1) ⟨h5,l5,fun _=>by dsimp only;omega,J⟩ sl ?_));clear J h5 l5 l5';rintro⟨e,z6,f⟩ ⟨h6,l6,hf,J⟩;dsimp only at h6 l6 hf J ⊢;have ho6:=fP L z6;have hend:∀(z7:Z) (st:St),ZA L z7→Sub (keys [(700,zO L z3)]) (mk [(0,xP),(4,.one (.vp 4 0)),(5,.one (.vp 5 0)),(6,.one (.vp 6 0))] [(700,zO L z7),(4,.var 61 (aK4.map .c)),(5,.var 152 ((aG t).map .c)),(6,.var 61 ((bU e).map .c))]) st→W=(e,z7)→
   AWp none Tryz.prog 82 (keys [(700,zO L z3)]) (jF (jF (jF (jF (jF (jF (jF (jF (jF (jF (Tryz.f67.body.getD .skip))))))))))) st (fun ex' st'=>(ex'=.normal∨ex'=.ret)∧Fin tr.flat Tryz.f67 st' [(700,zO L z3)] (.pa (bU (s8 t.pl W).1)) [(700,zO L (s8 t.pl W).2)]):=fun z7 st h7 hst hw=>by
  refine AWp.sub hst ?_;subst hw;have hm:=j7 h7 dR;have g2:=h7.may dR;unfold s8;dsimp only;generalize bT dR z7=m at hm g2 ⊢;obtain⟨b,z8⟩:=m;dsimp only at hm g2 ⊢;refine aA (sk 1 rfl (kc hm ?_));refine az ?_;cases b with
  | true=>
   rw[ζ rfl];have hsc:=rV g2 hwt;generalize bK z8=y at hsc ⊢;obtain⟨s,z9⟩:=y;dsimp only at hsc ⊢;refine aB rfl (fun _=>skh 5 [(3,.all)] rfl (kc hsc ?_)) (fun hb=>Bool.noConfusion hb);exact kz 2 rfl (aE (rtC trw))
  | false=>
   rw[ξ ω];exact aB rfl (fun hb=>Bool.noConfusion hb) (fun _=>aD (sg rfl (aE (rtC trw))))
 refine aA (sk 1 rfl (kc ho6 ?_));refine az ?_;by_cases he6:z6.e=0
 case neg=>
  have e0:dX ex deep t.pl f e z6=(e,z6):=by
   cases f with
   | zero=>rfl
   | succ f=>rw[dX,ξ he6]
  rw[e0] at J;have d0:decide (z6.e=0)=false:=ψ he6;exact aB rfl (fun hb=>absurd (hb.symm.trans d0) Bool.noConfusion) (fun _=>aH (hend z6 _ h6 sl J))
 have d0:decide (z6.e=0)=true:=φ he6;have hf:=hf he6;obtain⟨f,rfl⟩:∃g,f=g+1:=⟨f-1,by omega⟩
 rw[dX,ζ he6] at J;have U:=aPr hO hS deep h6 (by omega) (by omega);obtain⟨o1,_,o3,o4⟩:=n9 hO deep h6;generalize fT ex deep z6=y at U o1 o3 o4 J;obtain⟨⟨a,b⟩,z7⟩:=y;dsimp only at U o1 o3 o4 J;have o4:z7.R.length≤z6.R.length:=o4;refine aB rfl (fun _=>aD (aF (sk 2 rfl (kc U ?_)))) (fun hb=>absurd (hb.symm.trans d0) Bool.noConfusion);refine kz 6 rfl (aA (sg rfl ?_));cases b with
 | false=>
  rw[ζ rfl] at J;exact aB rfl (fun _=>aH (hend z7 _ o1 sl J)) (fun hb=>Bool.noConfusion hb)
 | true=>
  rw[ξ (show ¬(true=false) from fun k=>Bool.noConfusion k)] at J;refine aB rfl (fun hb=>Bool.noConfusion hb) (fun _=>aD (ag [(4,.all)] rfl ⟨(aP5 t.pl e a,z7,f),⟨o1,by dsimp only;omega,fun h0=>by have:=o3 rfl h0;dsimp only;omega,J⟩,?_,Sub.trans ?_ (vp 6 (bU (aP5 t.pl e a)))⟩))
  rotate_left
  ·exact sl
  dsimp only;rw[ζ he6];split
  ·rename_i h0;have:=o3 rfl h0;omega
  ·omega
end
theorem aV5 {L:List Tk}(hwt:wt L≤30000):∀f,ExS L (fV f) f
 | 0=>fun deep z h q _=>by have:=h.lp;omega
 | f+1=>fun deep z h q hd=>aW0 (lM hwt f) (aV5 hwt f) hwt deep h q hd
end Go.Proofs.YtpmheldmadendaaGreatDoor
