/-
  Texts Rd30 to Rd44 in one.
-/
import Derived.Test.YtkhgpgihmphfdaaGreatM8
open List (drop_eq_getElem_cons drop_eq_nil_of_le drop_length drop_zero length_append length_cons length_map length_nil length_pos_iff length_set length_singleton length_take map_append map_set mem_append mem_cons mem_cons_of_mem mem_cons_self mem_singleton take_add_one take_length)
open Nat (le_of_lt le_refl le_trans lt_of_le_of_lt lt_of_lt_of_le lt_succ_self mul_le_mul_right zero_le)
namespace Go.Proofs.YtkhgpgihmphfdaaGreat
open Go Go.AM
set_option maxRecDepth 20000
set_option maxHeartbeats 4000000
def aQ5:List C:=[.int .i64 0,.int .i64 0,.int .i64 0,.str [],.nl,.int .i64 0,.int .i64 0,.str [],.nl,.nl]
def aQ0 (L:List Tk) (f:Nat):Prop:=∀(o:Nat) (z:Z),ZA L z→(z.e=0→3*z.R.length≤f)→o≤40→aU Tryz.prog 47 [xP,I .i64 (o:Nat)] [(700,zO L z)] (.tup [.pa (bK (b8 f o z).1.1),B (b8 f o z).1.2]) [(700,zO L (b8 f o z).2)]
def aWr (L:List Tk) (f:Nat):Prop:=∀(o:Nat) (z:Z),ZA L z→(z.e=0→3*z.R.length+1≤f)→o≤40→aU Tryz.prog 25 [xP,I .i64 (o:Nat)] [(700,zO L z)] (.pa (bK (fS f o z).1)) [(700,zO L (fS f o z).2)]
theorem wC {L:List Tk}{z:Z}(h:ZA L z) (he:z.e=0) (y:0<(b4 z).kind∧(b4 z).kind<4) (o:Nat) (A E q:C) (u:(A=.nl∧E=.nl∧q=.nl)∨(A=.sl 10 []∧E=.sl 4 []∧q=.sl 4 [])):aU Tryz.prog 47 [xP,I .i64 (o:Nat)] [(700,zO L z)] (.tup [.pa [.int .i64 (jD (b4 z)),.int .i64 (b4 z).pl,.int .i64 (b4 z).n,.str (gI (b4 z)),A,.int .i64 0,.int .i64 0,.str [],E,q],B true]) [(700,zO L (tlZ z))]:=by
 have ho:=gZ L z;rw[φ he] at ho;have hn:=fU h;obtain⟨_,J⟩:=h.tl (sV y) z.e z.p;have O:=h.l;have M:zO L (tlZ z)=.var 60 [.c (.sl 4 (L.map aI)),.c (.int .i64 ((L.length-z.R.length+1:Nat):Int)),.c (.int .i64 z.e),.c (.int .i64 z.p)]:=by
  unfold zO tlZ;dsimp only;rw[J]
 rw[M];generalize b4 z=t at hn y ⊢;refine bC (n:=74) tok Tryz.func47 rfl rfl rfl ?_;refine sg rfl (aA (sk 1 rfl (kc ho ?_)));refine kz 1 rfl (aB rfl (fun hb=>absurd hb (by decide)) (fun _=>aD (sk 1 rfl (kc hn ?_))));refine kz 2 rfl ?_;have d1:decide ((0:Int)<t.kind)=true:=φ y.1;have d2:decide (t.kind<(4:Int))=true:=φ y.2;refine aA (sgh [(3,.bv true),(7,.bv true)] rfl (aB rfl (fun _=>?_) (fun hb=>absurd (hb.symm.trans d2) (by decide))));have g:t.kind=1∨t.kind=2∨t.kind=3:=by omega
 unfold zO;refine aA (agN [] rfl ?_);rcases g with g | g | g
 ·unfold jD gI;rw[θ g,ξ (by omega)];refine sgh [(3,.row 1 [.int .i64 2]),(16,.row 1 [.str t.text]),(0,.all),(13,.all)] rfl ?_;rcases u with⟨rfl,rfl,rfl⟩ | ⟨rfl,rfl,rfl⟩<;>exact aF oH
 ·unfold jD gI;rw[ξ (by omega),θ g,ξ (by omega)];refine sgh [(3,.row 2 [.int .i64 4]),(16,.row 2 [.str t.text]),(0,.all),(13,.all)] rfl ?_;rcases u with⟨rfl,rfl,rfl⟩ | ⟨rfl,rfl,rfl⟩<;>exact aF oH
 ·unfold jD gI;rw[ξ (by omega),ξ (by omega),θ g];refine sgh [(3,.row 3 [.int .i64 3]),(16,.row 3 [.str []]),(0,.all),(13,.all)] rfl ?_;rcases u with⟨rfl,rfl,rfl⟩ | ⟨rfl,rfl,rfl⟩<;>exact aF oH
theorem lQ {L:List Tk}{z:Z}(he:¬z.e=0) (o:Nat):aU Tryz.prog 47 [xP,I .i64 (o:Nat)] [(700,zO L z)] (.tup [.pa (bK zPt),B false]) [(700,zO L z)]:=by
 have ho:=gZ L z;rw[ψ he] at ho;refine bC (n:=74) tok Tryz.func47 rfl rfl rfl ?_;refine sg rfl (aA (sk 1 rfl (kc ho ?_)));exact kz 1 rfl (aB rfl (fun _=>sg rfl (aF oH)) (fun hb=>Bool.noConfusion hb))
theorem fF {e p:Int}{z:Z}(h:¬z.e=0):bS e p z=z:=by unfold bS;rw[ξ h]
theorem aKy {L:List Tk}{z:Z}(h:ZA L z) (he:¬z.e=0) (o:Nat):aU Tryz.prog 25 [xP,I .i64 (o:Nat)] [(700,zO L z)] (.pa (bK zPt)) [(700,zO L z)]:=by
 have hn:=fU h;have hs:=lQ (L:=L) he o;have g:=eL L z 12 (b4 z).pl;rw[fF he] at g;refine bC (n:=47) tok Tryz.func25 rfl rfl rfl ?_;refine sg rfl (sk 1 rfl (kc hn ?_));refine kz 2 rfl (sk 2 rfl (kc hs ?_));refine kz 6 rfl (aA (sg rfl (aB rfl (fun _=>sk 3 rfl (kc g ?_)) (fun hb=>Bool.noConfusion hb))));exact az (sg rfl (aF (rtC trw)))
theorem aG3 (L:List Tk) (f:Nat) (ih:aWr L f):aQ0 L (f+1):=by
 intro o z h hf ho40;rw[b8];by_cases he:z.e=0
 case neg=>
  rw[θ he];exact lQ he o
 rw[ξ (fun k=>k he)];by_cases A:0<(b4 z).kind∧(b4 z).kind<4
 ·rw[θ A];exact wC h he A o _ _ _ (.inr ⟨rfl,rfl,rfl⟩)
 rw[ξ A];have ho:=gZ L z;rw[φ he] at ho;have hn:=fU h;have hm:=mP h xG;have hi:=aK1 h cE;have U:=eL L z 13 (b4 z).pl;have Y:=fR h cE;have h1:=h.need cE;have g:isZ cE z=true→aQ cE z=tlZ z:=aFn he;have htl:=oX h;have E:(bQ xG z).1=false→(bQ xG z).2=z:=fun hb=>by
  unfold bQ at hb ⊢;split
  ·rename_i hc;rw[θ hc] at hb;cases hb
  ·rfl
 refine bC (n:=74) tok Tryz.func47 rfl rfl rfl ?_;refine sg rfl (aA (sk 1 rfl (kc ho ?_)));refine kz 1 rfl (aB rfl (fun hb=>Bool.noConfusion hb) (fun _=>aD (sk 1 rfl (kc hn ?_))));refine kz 2 rfl (aA (aA (AWp.cut (mk [(0,xP),(1,I .i64 (o:Nat)),(4,.one (.vp 4 0)),(6,.one (.vp 6 0)),(21,B false)] [(700,zO L z),(4,.var 43 (aQ5.map .c)),(6,.var 85 ((aI (b4 z)).map .c))]) ?_ ?_)))
 ·by_cases k0:0<(b4 z).kind
  ·have d2:decide ((b4 z).kind<(4:Int))=false:=ψ (fun k=>A ⟨k0,k⟩);have d1:decide ((0:Int)<(b4 z).kind)=true:=φ k0;refine ag [(3,.bv true),(7,.bv true)] rfl ?_;rw[d2];exact sl
  ·have d1:decide ((0:Int)<(b4 z).kind)=false:=ψ k0;exact ag [(3,.bv false),(7,.bv false)] rfl sl
 refine aB rfl (fun hb=>Bool.noConfusion hb) (fun _=>aD (aA (sk 1 rfl (kc hm ?_))));refine az ?_;generalize bQ xG z=m at E hm ⊢;obtain⟨b,u⟩:=m;cases b with
 | true=>
  rw[θ rfl];exact aB rfl (fun _=>sg rfl (aF oH)) (fun hb=>Bool.noConfusion hb)
 | false=>
 have aa:u=z:=E rfl;subst aa;rw[ξ ω];refine aB rfl (fun hb=>Bool.noConfusion hb) (fun _=>aD (aA (sk 1 rfl (kc hi ?_))));refine kz 1 rfl ?_;generalize isZ cE u=b at g ⊢;cases b with
 | false=>
  rw[θ rfl];exact aB rfl (fun _=>sg rfl (aF oH)) (fun hb=>Bool.noConfusion hb)
 | true=>
 have g:=g rfl;rw[ξ (by decide)];refine aB rfl (fun hb=>Bool.noConfusion hb) (fun _=>aD (aA (sg rfl (aB rfl (fun hb=>?_) (fun hb=>?_)))))
 ·rw[θ (by have:=χ hb;omega)];refine sk 3 rfl (kc U ?_);exact az (sg rfl (aF oH))
 have J:¬40≤o:=by have:=Ad hb;omega
 rw[ξ J];have hp:=ih (o+1) (aQ cE u) h1 (fun _=>by rw[g];have:=hf he;omega) (by omega);obtain⟨M,_⟩:=(eV L f).2.1 (o+1) (aQ cE u) h1;generalize fS f (o+1) (aQ cE u)=y at hp M ⊢;obtain⟨q,z2⟩:=y;dsimp only at hp M ⊢;have O:=fR M lZ;refine aD (sk 1 rfl (kc Y ?_));refine az (aA (aC mixed (akN 3 [] rfl (kc hp ?_))));refine akN 2 [] rfl (az (sk 1 rfl (kc O ?_)));exact az (sg rfl (aF oH))
theorem aTk (L:List Tk) (f:Nat) (ihS:∀g,g≤f→aQ0 L g):aWr L (f+1):=by
 intro o z h hf aa;have hn:=fU h;have hs:=ihS f (le_refl _) o z h (fun he=>by have:=hf he;omega) aa;obtain⟨M,_,E,O⟩:=(eV L f).1 o z h;rw[fS];by_cases hk:(b4 z).kind=2∧z.e=0
 ·obtain⟨h2,he⟩:=hk;obtain⟨f,rfl⟩:∃g,f=g+1:=⟨f-1,by have:=hf he;have:=h.lp;omega⟩
  have hst:b8 (f+1) o z=((.mk (jD (b4 z)) (b4 z).pl (b4 z).n (gI (b4 z)) [],true),tlZ z):=by
   rw[b8,ξ (fun k=>k he),θ (by omega)]
  rw[hst];rw[ξ (show ¬(true=false) from fun k=>Bool.noConfusion k),θ ⟨h2,he⟩];have Y:=wC h he (by omega) o .nl .nl .nl (.inl ⟨rfl,rfl,rfl⟩);have e4:jD (b4 z)=4:=by unfold jD;rw[ξ (by omega),θ h2]
  have e5:gI (b4 z)=(b4 z).text:=by unfold gI;rw[ξ (by omega)]
  rw[e4,e5] at Y;have h1:=h.tlp (by rw[h2];decide);have htl:=oX h;have hlen:=h.len;have u:∃W,W=dY (f+1) o [] (tlZ z):=⟨_,rfl⟩
  obtain⟨W,u⟩:=u;rw[←u];generalize b4 z=t at hn h2 Y ⊢;refine bC (n:=47) tok Tryz.func25 rfl rfl rfl ?_;refine sg rfl (sk 1 rfl (kc hn ?_));refine kz 2 rfl (sk 2 rfl (kc Y ?_));refine kz 6 rfl (aA (sg rfl (aB rfl (fun hb=>Bool.noConfusion hb) (fun _=>aD (AWp.sub (Sub.ownCell (x:=6) (k:=4) (id:=501) 43 10 rfl rfl rfl) ?_)))));refine aA (aE (aL (fun q:List Pt×Z×Nat=>mk [(0,xP),(1,I .i64 (o:Nat)),(4,.one (.vp 4 0)),(5,.one (.vp 5 0)),(6,.one (.vp 6 0))] [(700,zO L q.2.1),(4,.var 43 (aQ5.map .c)),(5,.var 85 ((aI t).map .c)),(6,.var 43 [.c (.int .i64 4),.c (.int .i64 t.pl),.c (.int .i64 t.n),.c (.str t.text),.hs 501 0 q.1.length q.1.length,.c (.int .i64 0),.c (.int .i64 0),.c (.str []),.c .nl,.c .nl]),(501,.arr 43 10 (q.1.map bK) 0)]) (fun q=>ZA L q.2.1∧W=dY q.2.2 o q.1 q.2.1∧q.2.2≤f+1∧(q.2.1.e=0→3*q.2.1.R.length+1≤q.2.2)∧(q.2.1.e=0→q.1.length+q.2.1.R.length≤4001)∧q.1.length≤4002) (fun q=>if q.2.1.e=0 then q.2.1.R.length+1 else 0) ([],tlZ z,f+1) ⟨h1,u,le_refl _,fun _=>by have:=hf he;dsimp only;omega,fun _=>by dsimp only;rw[length_nil];omega,Ac _⟩ sl ?_));clear u hs Y hst e4 e5 M E O htl h1;rintro⟨out,J,g⟩ ⟨h',u,hgf,hg,hol,hol2⟩;dsimp only at h' u hgf hg hol hol2 ⊢;have hout:(out.map bK).length=out.length:=κ _;have d2:decide (t.kind=2)=true:=φ h2;have ho:=gZ L J;by_cases A:J.e=0
  case neg=>
   rw[ψ A] at ho;have e0:dY g o out J=(out,J):=by
    cases g with
    | zero=>rfl
    | succ g=>rw[dY,ξ A]
   rw[e0] at u;refine aA (sk 1 rfl (kc ho ?_));refine ak 5 [(2,.bv false),(6,.bv false)] rfl (az (aB rfl (fun hb=>Bool.noConfusion hb) (fun _=>aG (AWp.sub (Sub.freeze (id:=501) rfl) ?_))));refine sg rfl ?_;rw[u];unfold bK;rw[j4 (Pt.mk _ _ _ _ _)];exact aF (rtC trw (hc:=.agg (.c .refl (.c .refl (.c .refl (.c .refl (.hs rfl hout.symm (Go.AM.take_all hout.symm) (.c .refl (.c .refl (.c .refl (.c .nl (.c .nl .nil))))))))))))
  rw[φ A] at ho;obtain⟨g,rfl⟩:∃k,g=k+1:=⟨g-1,by have:=hg A;omega⟩
  rw[dY,θ A] at u;have hs:=ihS g (by omega) o J h' (fun _=>by have:=hg A;omega) aa;obtain⟨M,_,E,O⟩:=(eV L g).1 o J h';have hg:=hg A;have hol:=hol A;have hlp:=h'.lp;refine aA (sk 1 rfl (kc ho ?_));refine ak 5 [(2,.bv true),(6,.bv true)] rfl (az (aB rfl (fun _=>?_) (fun hb=>absurd (hb.symm.trans d2) Bool.noConfusion)));generalize b8 g o J=y at hs M E O u;obtain⟨⟨q,b⟩,z2⟩:=y;dsimp only at hs M E O u;refine aD (aE (sk 2 rfl (kc hs ?_)));refine kz 6 rfl (aA (sg rfl ?_));cases b with
  | false=>
   rw[θ rfl] at u;refine aB rfl (fun _=>aG (AWp.sub (Sub.freeze (id:=501) rfl) ?_)) (fun hb=>Bool.noConfusion hb);refine sg rfl ?_;rw[u];unfold bK;rw[j4 (Pt.mk _ _ _ _ _)];exact aF (rtC trw (hc:=.agg (.c .refl (.c .refl (.c .refl (.c .refl (.hs rfl hout.symm (Go.AM.take_all hout.symm) (.c .refl (.c .refl (.c .refl (.c .nl (.c .nl .nil))))))))))))
  | true=>
   rw[ξ (show ¬(true=false) from fun k=>Bool.noConfusion k)] at u;have hrows:out.map bK++[bK q]=(out++[q]).map bK:=by rw[Ai];rfl
   have hle:(out++[q]).length=out.length+1:=by rw[ζ];rfl
   have g4':z2.R.length≤J.R.length:=O;refine aB rfl (fun hb=>Bool.noConfusion hb) (fun _=>aD (ag [(3,.all)] rfl ⟨(out++[q],z2,g),⟨M,u,by dsimp only;omega,fun h0=>by have:=E rfl h0;dsimp only;omega,fun h0=>by have:=E rfl h0;dsimp only;rw[hle];omega,by dsimp only;rw[hle];omega⟩,?_,?_⟩))
   ·dsimp only;rw[θ A];split
    ·rename_i h0;have:=E rfl h0;omega
    ·omega
   ·exact sl (he:=⟨rfl,rfl,rfl,rfl,rfl,trivial⟩) (hh:=⟨⟨_,rfl,.var rfl⟩,⟨_,rfl,.var rfl⟩,⟨_,rfl,.var rfl⟩,⟨_,rfl,.var (by rw[hle,←hout];rfl)⟩,⟨_,rfl,.arrS hrows⟩,trivial⟩)
 rw[ξ hk];have U:¬z.e=0→(b8 f o z).1.2=false:=fun he=>by
  cases f with
  | zero=>rfl
  | succ f=>rw[b8,θ he]
 generalize b8 f o z=y at hs M E O U ⊢;obtain⟨⟨q,b⟩,z1⟩:=y;dsimp only at hs M E O U ⊢;have hfl:=eL L z1 12 (b4 z).pl;have ho:=gZ L z1;refine bC (n:=47) tok Tryz.func25 rfl rfl rfl ?_;refine sg rfl (sk 1 rfl (kc hn ?_));refine kz 2 rfl (sk 2 rfl (kc hs ?_));refine kz 6 rfl (aA (sg rfl ?_));cases b with
 | false=>
  rw[θ rfl];refine aB rfl (fun _=>sk 3 rfl (kc hfl ?_)) (fun hb=>Bool.noConfusion hb);exact az (sg rfl (aF (rtC trw)))
 | true=>
  rw[ξ (show ¬(true=false) from fun k=>Bool.noConfusion k)];have he:z.e=0:=by
   by_cases he:z.e=0
   ·exact he
   ·exact Bool.noConfusion (U he)
  have h2:¬(b4 z).kind=2:=fun h2=>hk ⟨h2,he⟩
  have d2:decide ((b4 z).kind=2)=false:=ψ h2;refine aB rfl (fun hb=>Bool.noConfusion hb) (fun _=>aD (aA (aE (aL (fun _:Unit=>mk [(0,xP),(4,.one (.vp 4 0)),(5,.one (.vp 5 0)),(6,.one (.vp 6 0))] [(700,zO L z1),(4,.var 43 (aQ5.map .c)),(5,.var 85 ((aI (b4 z)).map .c)),(6,.var 43 ((bK q).map .c))]) (fun _=>True) (fun _=>0) () trivial sl ?_))));intro _ _;refine aA (aA (AWp.cut (mk [(4,.one (.vp 4 0)),(6,.one (.vp 6 0)),(31,B false)] [(700,zO L z1),(4,.var 43 (aQ5.map .c)),(6,.var 43 ((bK q).map .c))]) ?_ ?_))
  ·by_cases h1:z1.e=0
   ·rw[φ h1] at ho;refine aC mixed (ak 1 [] rfl (kc ho ?_));refine ak 5 [(2,.bv true),(6,.bv true)] rfl (az ?_);rw[d2];exact sl
   ·rw[ψ h1] at ho;refine aC mixed (ak 1 [] rfl (kc ho ?_));exact ak 5 [(2,.bv false),(6,.bv false)] rfl (az sl)
  exact aB rfl (fun hb=>Bool.noConfusion hb) (fun _=>aG (sg rfl (aF (rtC trw))))
theorem aSf (L:List Tk):∀f,(∀g,g≤f→aQ0 L g)∧∀g,g≤f→aWr L g:=by
 intro f
 induction f with
 | zero=>
  refine⟨fun g u o z h y ho=>?_,fun g u o z h y ho=>?_⟩
  ·have h0:¬z.e=0:=fun he=>by have:=y he;have:=h.lp;omega
   obtain rfl:g=0:=by omega
   rw[b8];exact lQ h0 o
  ·have h0:¬z.e=0:=fun he=>by have:=y he;omega
   obtain rfl:g=0:=by omega
   rw[fS];dsimp only;rw[fF h0];exact aKy h h0 o
 | succ f q=>
  refine⟨fun g u=>?_,fun g u=>?_⟩
  ·by_cases h:g≤f
   ·exact q.1 g h
   ·rw[show g=f+1 by omega];exact aG3 L f (q.2 f (le_refl _))
  ·by_cases h:g≤f
   ·exact q.2 g h
   ·rw[show g=f+1 by omega];exact aTk L f q.1
mutual
inductive Ex where
 | mk (form pl n:Int) (name:Str) (kids:List Ex) (pats:List Pt) (binds:List Bd) (sig:Sch)
inductive Bd where
 | mk (name:Str) (pl:Int) (has:Bool) (sig:Sch) (body:Ex)
end
def Ex.form:Ex→Int | .mk f _ _ _ _ _ _ _=>f
def Ex.pl:Ex→Int | .mk _ p _ _ _ _ _ _=>p
def Ex.n:Ex→Int | .mk _ _ n _ _ _ _ _=>n
def Ex.name:Ex→Str | .mk _ _ _ s _ _ _ _=>s
def Ex.kids:Ex→List Ex | .mk _ _ _ _ l _ _ _=>l
def Ex.pats:Ex→List Pt | .mk _ _ _ _ _ l _ _=>l
def Ex.binds:Ex→List Bd | .mk _ _ _ _ _ _ l _=>l
def Ex.sig:Ex→Sch | .mk _ _ _ _ _ _ _ s=>s
def Bd.name:Bd→Str | .mk s _ _ _ _=>s
def Bd.pl:Bd→Int | .mk _ p _ _ _=>p
def Bd.has:Bd→Bool | .mk _ _ h _ _=>h
def Bd.sig:Bd→Sch | .mk _ _ _ s _=>s
def Bd.body:Bd→Ex | .mk _ _ _ _ e=>e
mutual
def j5:Ex→List (List C)
 | .mk _ _ _ _ l _ _ _=>vV l
def aC3:Ex→List (List C)
 | .mk _ _ _ _ _ _ l _=>cN l
def vV:List Ex→List (List C)
 | []=>[]
 | e::l=>[.int .i64 e.form,.int .i64 e.pl,.int .i64 e.n,.str e.name,.sl 15 (j5 e),.sl 10 (e.pats.map bK),.sl 33 (aC3 e),.sl 1 (e.sig.vars.map aR),.sl 1 [],.sl 5 (e.sig.preds.map aS),.int .i64 e.sig.ty.form,.int .i64 e.sig.ty.n,.str e.sig.ty.name,.sl 4 (dG e.sig.ty),.sl 4 []]::vV l
def aA3:Bd→List C
 | .mk _ _ _ _ e=>[.int .i64 e.form,.int .i64 e.pl,.int .i64 e.n,.str e.name,.sl 15 (j5 e),.sl 10 (e.pats.map bK),.sl 33 (aC3 e),.sl 1 (e.sig.vars.map aR),.sl 1 [],.sl 5 (e.sig.preds.map aS),.int .i64 e.sig.ty.form,.int .i64 e.sig.ty.n,.str e.sig.ty.name,.sl 4 (dG e.sig.ty),.sl 4 []]
def cN:List Bd→List (List C)
 | []=>[]
 | b::l=>([.str b.name,.int .i64 b.pl,.bool b.has,.sl 1 (b.sig.vars.map aR),.sl 1 [],.sl 5 (b.sig.preds.map aS),.int .i64 b.sig.ty.form,.int .i64 b.sig.ty.n,.str b.sig.ty.name,.sl 4 (dG b.sig.ty)]++(aA3 b++[.sl 1 [],.sl 1 [],.sl 5 [],.int .i64 0,.int .i64 0,.str [],.sl 4 [],.int .i64 0]))::cN l
end
def bD (e:Ex):List C:=[.int .i64 e.form,.int .i64 e.pl,.int .i64 e.n,.str e.name,.sl 15 (j5 e),.sl 10 (e.pats.map bK),.sl 33 (aC3 e),.sl 1 (e.sig.vars.map aR),.sl 1 [],.sl 5 (e.sig.preds.map aS),.int .i64 e.sig.ty.form,.int .i64 e.sig.ty.n,.str e.sig.ty.name,.sl 4 (dG e.sig.ty),.sl 4 []]
def b6 (b:Bd):List C:=[.str b.name,.int .i64 b.pl,.bool b.has,.sl 1 (b.sig.vars.map aR),.sl 1 [],.sl 5 (b.sig.preds.map aS),.int .i64 b.sig.ty.form,.int .i64 b.sig.ty.n,.str b.sig.ty.name,.sl 4 (dG b.sig.ty),
 .int .i64 b.body.form,.int .i64 b.body.pl,.int .i64 b.body.n,.str b.body.name,.sl 15 (j5 b.body),.sl 10 (b.body.pats.map bK),.sl 33 (aC3 b.body),.sl 1 (b.body.sig.vars.map aR),.sl 1 [],.sl 5 (b.body.sig.preds.map aS),.int .i64 b.body.sig.ty.form,.int .i64 b.body.sig.ty.n,.str b.body.sig.ty.name,.sl 4 (dG b.body.sig.ty),.sl 4 [],
 .sl 1 [],.sl 1 [],.sl 5 [],.int .i64 0,.int .i64 0,.str [],.sl 4 [],.int .i64 0]
theorem rH:∀l:List Ex,vV l=l.map bD
 | []=>by simp[vV]
 | e::l=>by rw[vV,rH l];rfl
theorem cR:∀l:List Bd,cN l=l.map b6
 | []=>by simp[cN]
 | .mk s p h g e::l=>by rw[cN,cR l,aA3];rfl
theorem i6 (e:Ex):j5 e=e.kids.map bD:=by cases e;rw[j5,rH];rfl
theorem aA2 (e:Ex):aC3 e=e.binds.map b6:=by cases e;rw[aC3,cR];rfl
def zEx:Ex:=.mk 0 0 0 [] [] [] [] jP
structure Sg where
 name:Str
 pl:Int
 ty:Sch
def cX (s:Sg):List C:=[.str s.name,.int .i64 s.pl,.sl 1 (s.ty.vars.map aR),.sl 1 [],.sl 5 (s.ty.preds.map aS),.int .i64 s.ty.ty.form,.int .i64 s.ty.ty.n,.str s.ty.ty.name,.sl 4 (dG s.ty.ty)]
def vH:Str:=[92]
def vG:Str:=[108,101,116]
def kI:Str:=[99,97,115,101]
def ofS:Str:=[111,102]
def inS:Str:=[105,110]
def eQ:Str:=[58]
def dS:Str:=[123]
def bB:Str:=[125]
def fW (l:List Tk):List Pt:=l.map fun t=>.mk 2 t.pl 0 t.text []
section
variable (ex:Nat→Z→Ex×Z)
def nM (t:Tk):Ex:=if t.kind=3 then .mk 3 t.pl t.n [] [] [] [] jP else .mk t.kind t.pl 0 t.text [] [] [] jP
def gU (deep:Nat) (z:Z):(Ex×Bool)×Z:=
 if ¬z.e=0 then((zEx,false),z)
 else if 0<(b4 z).kind∧(b4 z).kind<4 then((nM (b4 z),true),tlZ z)
 else if(bQ cE z).1=false then((zEx,false),z)
 else(((ex (deep+1) (bQ cE z).2).1,true),aQ lZ (ex (deep+1) (bQ cE z).2).2)
def aL2 (at':Int) (e a:Ex):Ex:=.mk 4 at' 0 [] [e,a] [] [] jP
def fB (deep:Nat) (at':Int):Nat→Ex→Z→Ex×Z
 | 0,e,z=>(e,z)
 | f+1,e,z=>if z.e=0 then(if(gU ex deep z).1.2=false then(e,(gU ex deep z).2) else fB deep at' f (aL2 at' e (gU ex deep z).1.1) (gU ex deep z).2) else(e,z)
def aSo (at':Int) (l:List Tk) (b:Ex):Ex:=.mk 5 at' 0 [] [b] (fW l) [] jP
def rC (at':Int) (z:Z):List Tk×Z:=((aZ z).1,aQ arrow (cK (aZ z).1.length 8 at' (if(aZ z).1=[] then bS 12 (b4 (aZ z).2).pl (aZ z).2 else(aZ z).2)))
def rB (at':Int) (deep:Nat) (z:Z):Ex×Z:=(aSo at' (rC at' z).1 (ex (deep+1) (rC at' z).2).1,(ex (deep+1) (rC at' z).2).2)
def fJ (nm:Tk) (z:Z):List Tk×Z:=((aZ z).1,aQ eqS (cK (aZ z).1.length 8 nm.pl (aZ z).2))
def wK (l:List Tk) (b:Ex):Ex:=match l with
 | []=>b
 | t::l=>aSo t.pl (t::l) b
def dR (nm:Tk) (deep:Nat) (z:Z):Bd×Z:=(.mk nm.text nm.pl false jP (wK (fJ nm z).1 (ex deep (fJ nm z).2).1),(ex deep (fJ nm z).2).2)
def aT (sigs:List Sg) (binds:List Bd) (deep:Nat) (z:Z):(List Sg×List Bd)×Z:=
 if(bQ eQ (b5 1 z).2).1=true then((sigs++[⟨(b5 1 z).1.text,(b5 1 z).1.pl,(bO (bQ eQ (b5 1 z).2).2).1⟩],binds),(bO (bQ eQ (b5 1 z).2).2).2)
 else((sigs,binds++[(dR ex (b5 1 z).1 deep (bQ eQ (b5 1 z).2).2).1]),(dR ex (b5 1 z).1 deep (bQ eQ (b5 1 z).2).2).2)
def eP (deep:Nat):Nat→Nat→List Sg→List Bd→Z→(List Sg×List Bd)×Z
 | 0,_,sigs,binds,z=>((sigs,binds),z)
 | f+1,n,sigs,binds,z=>if(bJ bB n z).1=true then eP deep f (n+1) (aT ex sigs binds deep (bJ bB n z).2).1.1 (aT ex sigs binds deep (bJ bB n z).2).1.2 (aT ex sigs binds deep (bJ bB n z).2).2 else((sigs,binds),(bJ bB n z).2)
end
def jB (b:Bd) (s:Sch):Bd:=.mk b.name b.pl true s b.body
def cS:List Sg→List Bd→Z→List Bd×Z
 | [],b,z=>(b,z)
 | s::l,b,z=>if z.e=0 then(match b.findIdx? (fun x=>decide (x.name=s.name)) with
   | none=>cS l b (bS 21 s.pl z)
   | some k=>match b[k]? with
    | none=>(b,z)
    | some x=>if x.has=true then cS l b (bS 20 s.pl z) else cS l (b.set k (jB x s.ty)) z)
  else(b,z)
section
variable (ex:Nat→Z→Ex×Z)
def lC (deep:Nat) (z:Z):(List Sg×List Bd)×Z:=eP ex (deep+1) ((aQ dS z).R.length+1) 0 [] [] (aQ dS z)
def aCu (y:(List Sg×List Bd)×Z):List Bd×Z:=cS y.1.1 y.1.2 (aQ bB y.2)
def letE (at':Int) (bs:List Bd) (b:Ex):Ex:=.mk 6 at' 0 [] [b] [] bs jP
def rA (at':Int) (deep:Nat) (z:Z):Ex×Z:=(letE at' (aCu (lC ex deep z)).1 (ex (deep+1) (aQ inS (aCu (lC ex deep z)).2)).1,(ex (deep+1) (aQ inS (aCu (lC ex deep z)).2)).2)
def eO (deep:Nat):Nat→Nat→List Pt→List Ex→Z→(List Pt×List Ex)×Z
 | 0,_,ps,ks,z=>((ps,ks),z)
 | f+1,n,ps,ks,z=>if(bJ bB n z).1=true then eO deep f (n+1) (ps++[(fS (3*(bJ bB n z).2.R.length+1) 0 (bJ bB n z).2).1]) (ks++[(ex (deep+1) (aQ arrow (fS (3*(bJ bB n z).2.R.length+1) 0 (bJ bB n z).2).2)).1]) (ex (deep+1) (aQ arrow (fS (3*(bJ bB n z).2.R.length+1) 0 (bJ bB n z).2).2)).2
  else((ps,ks),(bJ bB n z).2)
def cT (deep:Nat) (z:Z):Ex×Z:=((ex (deep+1) z).1,aQ dS (aQ ofS (ex (deep+1) z).2))
def fQ (deep:Nat) (y:Ex×Z):(List Pt×List Ex)×Z:=eO ex deep (y.2.R.length+1) 0 [] [y.1] y.2
def aKn (at':Int) (ps:List Pt) (ks:List Ex):Ex:=.mk 7 at' 0 [] ks ps [] jP
def gQ (at':Int) (deep:Nat) (z:Z):Ex×Z:=(aKn at' (fQ ex deep (cT ex deep z)).1.1 (fQ ex deep (cT ex deep z)).1.2,
 if(fQ ex deep (cT ex deep z)).1.1=[] then bS 12 (b4 (fQ ex deep (cT ex deep z)).2).pl (aQ bB (fQ ex deep (cT ex deep z)).2) else aQ bB (fQ ex deep (cT ex deep z)).2)
def aW3 (at':Int) (e:Ex) (s:Sch):Ex:=.mk 8 at' 0 [] [e] [] [] s
def qG (at':Int) (y:Ex×Z):Ex×Z:=if(bQ eQ y.2).1=true then(aW3 at' y.1 (bO (bQ eQ y.2).2).1,(bO (bQ eQ y.2).2).2) else(y.1,(bQ eQ y.2).2)
def fG (deep:Nat) (z:Z):Ex×Z:=fB ex deep (b4 z).pl (z.R.length+1) (gU ex deep z).1.1 (if(gU ex deep z).1.2=false then bS 12 (b4 z).pl (gU ex deep z).2 else(gU ex deep z).2)
def vR (deep:Nat) (z:Z):Ex×Z:=
 if ¬z.e=0 then(zEx,z)
 else if 40<deep then(zEx,bS 13 (b4 z).pl z)
 else if(bQ vH z).1=true then rB ex (b4 z).pl deep (bQ vH z).2
 else if(bQ vG z).1=true then rA ex (b4 z).pl deep (bQ vG z).2
 else if(bQ kI z).1=true then gQ ex (b4 z).pl deep (bQ kI z).2
 else qG (b4 z).pl (fG ex deep z)
end
def aC2:Nat→Nat→Z→Ex×Z
 | 0=>fun _ z=>(zEx,bS 12 0 z)
 | f+1=>vR (aC2 f)
structure SchOk (s:Sch):Prop where
 t:WF s.ty∧tn s.ty≤30000
 p:∀p∈s.preds,WF p.ty∧tn p.ty≤30000
 l:s.preds.length≤4001
 v:s.vars.length≤120060000
theorem SchOk.z:SchOk jP:=⟨⟨⟨rfl,rfl⟩,by unfold jP zTy;rw[tn,tns];decide⟩,fun p hp=>(by cases hp),Ac _,Ac _⟩
mutual
def jL:Ex→Prop
 | .mk f _ _ _ ks ps bs s=>(ks.length≤4002∧ps.length≤4002∧bs.length≤4002)∧SchOk s∧((f=4→ks.length=2)∧(f=5∨f=6∨f=8→ks.length=1)∧(f=7→ks.length=ps.length+1))∧x8 ps∧oD ks∧fA bs
def oD:List Ex→Prop
 | []=>True
 | e::l=>jL e∧oD l
def aU3:Bd→Prop
 | .mk _ _ _ s e=>SchOk s∧jL e
def fA:List Bd→Prop
 | []=>True
 | b::l=>aU3 b∧fA l
end
theorem pV:∀{l:List Ex}{p:Ex},oD l→jL p→oD (l++[p])
 | [],_,_,h=>⟨h,trivial⟩
 | _::_,_,h,k=>⟨h.1,pV h.2 k⟩
theorem mR:∀{l:List Bd}{p:Bd},fA l→aU3 p→fA (l++[p])
 | [],_,_,h=>⟨h,trivial⟩
 | _::_,_,h,k=>⟨h.1,mR h.2 k⟩
theorem fL:∀{l:List Bd},fA l↔∀b∈l,aU3 b
 | []=>⟨fun _ b hb=>(by cases hb),fun _=>trivial⟩
 | a::l=>⟨fun h b hb=>by
   rcases Ar.1 hb with rfl | hb
   ·exact h.1
   ·exact fL.1 h.2 b hb,fun h=>⟨h a B1,fL.2 fun b hb=>h b (Bj _ hb)⟩⟩
theorem jL.z:jL zEx:=⟨⟨Ac _,Ac _,Ac _⟩,.z,⟨fun h=>by omega,fun h=>by omega,fun h=>by omega⟩,trivial,trivial,trivial⟩
theorem zD:∀l:List Tk,x8 (fW l)
 | []=>trivial
 | _::l=>⟨⟨Ac _,trivial⟩,zD l⟩
theorem oT (l:List Tk):(fW l).length=l.length:=κ _
theorem gC {L:List Tk}{z:Z}(h:ZA L z) (hwt:wt L≤30000):ZA L (bO z).2∧SchOk (bO z).1∧((bO z).2.e=0→(bO z).2.R.length<z.R.length)∧Ze z (bO z).2:=by
 refine⟨h.scheme,?_⟩;have hw:=h.wt;have hl:=h.len;unfold bO;split
 ·rename_i he;have g:= @n7 z.R;cases hs:cI z.R with
  | error e=>
   obtain⟨e,p⟩:=e;exact⟨.z,fun h0=>absurd h0 (g hs),Ze.refl z⟩
  | ok y=>
   obtain⟨s,R'⟩:=y;obtain⟨_,⟨p,h2,I⟩,A,J,q,M,B⟩:=aMj hs;have u:R'.length<z.R.length:=by rw[h2,ζ];omega
   refine⟨⟨⟨A,by show tn s.ty≤_;omega⟩,fun p hp=>⟨(q p hp).1,by have:=(q p hp).2;omega⟩,by show s.preds.length≤_;omega,?_⟩,fun _=>u,Ct u⟩;show s.vars.length≤_;rw[B];unfold aQ8;have E:=vK (W:=30000) s.preds [] (fun p hp=>by have:=(q p hp).2;omega);have O:=iV (tfR s.ty) (gP [] s.preds);have U:=lW s.ty;have Y:s.preds.length*30000≤4001*30000:=Au _ (by omega);rw[length_nil] at E;omega
 ·rename_i he;exact⟨.z,fun h0=>absurd h0 he,Ze.refl z⟩
def ExO (L:List Tk) (ex:Nat→Z→Ex×Z):Prop:=∀deep z,ZA L z→ZA L (ex deep z).2∧jL (ex deep z).1∧((ex deep z).2.e=0→(ex deep z).2.R.length<z.R.length)∧Ze z (ex deep z).2
section
variable {L:List Tk}{ex:Nat→Z→Ex×Z}(hO:ExO L ex) (hwt:wt L≤30000)
include hO
theorem iT (deep:Nat) {z:Z}(h:ZA L z):ZA L (gU ex deep z).2∧jL (gU ex deep z).1.1∧((gU ex deep z).1.2=true→(gU ex deep z).2.e=0→(gU ex deep z).2.R.length<z.R.length)∧Ze z (gU ex deep z).2:=by
 unfold gU;split
 ·exact⟨h,jL.z,fun e=>Bool.noConfusion e,Ze.refl z⟩
 split
 ·rename_i u;have:=oX h;refine⟨h.tlp (sV u),?_,fun _ _=>this,Ct this⟩;unfold nM;split
  ·exact⟨⟨Ac _,Ac _,Ac _⟩,.z,⟨fun h=>by omega,fun h=>by omega,fun h=>by omega⟩,trivial,trivial,trivial⟩
  ·exact⟨⟨Ac _,Ac _,Ac _⟩,.z,⟨fun h=>by omega,fun h=>by omega,fun h=>by omega⟩,trivial,trivial,trivial⟩
 split
 ·exact⟨h,jL.z,fun e=>Bool.noConfusion e,Ze.refl z⟩
 ·obtain⟨g,y,B,A⟩:=hO (deep+1) _ (h.may cE);have q:=((Ze.may cE z).trans A)
  exact⟨g.need _,y,fun _ e=>A6 (xU g e) q,q.trans (Ze.need _ _)⟩
theorem oP (deep:Nat) (a:Int):∀(f:Nat) (e:Ex) (z:Z),ZA L z→jL e→ZA L (fB ex deep a f e z).2∧jL (fB ex deep a f e z).1∧Ze z (fB ex deep a f e z).2
 | 0,e,z,h,he=>⟨h,he,Ze.refl z⟩
 | f+1,e,z,h,he=>by
  rw[fB];obtain⟨g,u,_,q⟩:=iT hO deep h;split
  ·split
   ·exact⟨g,he,q⟩
   ·obtain⟨y,A,B⟩:=oP deep a f (aL2 a e (gU ex deep z).1.1) _ g ⟨⟨show 2≤4002 by decide,Ac _,Ac _⟩,.z,⟨fun _=>rfl,fun h=>by omega,fun h=>by omega⟩,trivial,⟨he,u,trivial⟩,trivial⟩;exact⟨y,A,q.trans B⟩
  ·exact⟨h,he,Ze.refl z⟩
omit hO in
theorem eU {z:Z}(h:ZA L z):(aZ z).1.length≤4001:=by
 unfold aZ;split
 ·have:=nR qN z.R;have:=h.len;dsimp only;omega
 ·exact Ac _
omit hO in
theorem aFx {a:Int}{l:List Tk}{b:Ex}(hl:l.length≤4001) (hb:jL b):jL (aSo a l b):=⟨⟨show 1≤4002 by decide,by rw[oT];omega,Ac _⟩,.z,⟨fun h=>by omega,fun _=>rfl,fun h=>by omega⟩,zD l,⟨hb,trivial⟩,trivial⟩
omit hO in
theorem y1 (a:Int) {z:Z}(h:ZA L z):ZA L (rC a z).2∧(rC a z).1.length≤4001∧Ze z (rC a z).2:=by
 unfold rC;refine⟨?_,eU h,?_⟩
 ·refine ZA.need (ZA.long ?_ _ _ _) _;split
  ·exact h.words.fail _ _
  ·exact h.words
 ·refine Ze.trans ?_ ((Ze.long _ _ _ _).trans (Ze.need _ _));split
  ·exact(Ze.words z).trans (Ze.fail _ _ _)
  ·exact Ze.words z
theorem aO2 (a:Int) (deep:Nat) {z:Z}(h:ZA L z):ZA L (rB ex a deep z).2∧jL (rB ex a deep z).1∧((rB ex a deep z).2.e=0→(rB ex a deep z).2.R.length<z.R.length)∧Ze z (rB ex a deep z).2:=by
 obtain⟨h1,h2,g⟩:=y1 a h;obtain⟨q,u,y,A⟩:=hO (deep+1) _ h1;exact⟨q,aFx h2 u,fun e=>A6 (y e) g,g.trans A⟩
omit hO in
theorem tR (g:Tk) {z:Z}(h:ZA L z):ZA L (fJ g z).2∧(fJ g z).1.length≤4001∧Ze z (fJ g z).2:=
 ⟨(h.words.long _ _ _).need _,eU h,(Ze.words z).trans ((Ze.long _ _ _ _).trans (Ze.need _ _))⟩
theorem tQ (g:Tk) (deep:Nat) {z:Z}(h:ZA L z):ZA L (dR ex g deep z).2∧aU3 (dR ex g deep z).1∧((dR ex g deep z).2.e=0→(dR ex g deep z).2.R.length<z.R.length)∧Ze z (dR ex g deep z).2:=by
 obtain⟨h1,h2,q⟩:=tR g h;obtain⟨y,u,A,B⟩:=hO deep _ h1;refine⟨y,⟨.z,?_⟩,fun e=>A6 (A e) q,q.trans B⟩;unfold wK;split
 ·exact u
 ·rename_i t l hl;rw[hl] at h2;exact aFx h2 u
end
def fX (l:List Sg):Prop:=∀s∈l,SchOk s.ty
theorem aEk {l:List Sg}{s:Sg}(h:fX l) (k:SchOk s.ty):fX (l++[s]):=fun x hx=>by
 rcases Ba.1 hx with hx | hx
 ·exact h x hx
 ·rw[As.1 hx];exact k
theorem fH {s:Str}{n:Nat}{z:Z}(h:(bJ s n z).1=true):(bJ s n z).2.e=0∧n+1≤60:=by
 unfold bJ at h ⊢;split
 ·rename_i hc;rw[θ hc] at h;cases h
 ·rename_i hc;rw[ξ hc] at h;have h:=χ h;refine⟨h,?_⟩;unfold cK at h;split at h
  ·exact(cW (by decide) h).elim
  ·omega
theorem Ze.semi (z:Z):Ze z (cO z):=by
 unfold cO;split
 ·exact kG _ _
 ·exact Ze.refl z
theorem Ze.more (s:Str) (n:Nat) (z:Z):Ze z (bJ s n z).2:=by
 have h1:Ze z (moreA s n z):=by
  unfold moreA;split
  ·exact Ze.fail _ _ z
  ·exact Ze.refl z
 unfold bJ;split
 ·exact h1.trans (Ze.semi _)
 ·exact h1.trans ((Ze.semi _).trans (Ze.long _ _ _ _))
theorem nV {b:List Bd}{p:Bd→Bool}{k:Nat}(h:b.findIdx? p=some k):k<b.length:=by
 rw[List.findIdx?_eq_some_iff_getElem] at h;exact h.1
theorem fY {L:List Tk}:∀(l:List Sg) (b:List Bd) (z:Z),ZA L z→fX l→fA b→ZA L (cS l b z).2∧fA (cS l b z).1∧(cS l b z).1.length=b.length∧Ze z (cS l b z).2
 | [],b,z,h,_,hb=>⟨h,hb,rfl,Ze.refl z⟩
 | s::l,b,z,h,hs,hb=>by
  have hl:fX l:=fun x hx=>hs x (Bj _ hx)
  rw[cS];split
  ·split
   ·obtain⟨g,q,u,A⟩:=fY l b (bS 21 s.pl z) (h.fail _ _) hl hb;exact⟨g,q,u,(Ze.fail _ _ _).trans A⟩
   ·rename_i k E;split
    ·exact⟨h,hb,rfl,Ze.refl z⟩
    ·rename_i x hx;split
     ·obtain⟨g,q,u,A⟩:=fY l b (bS 20 s.pl z) (h.fail _ _) hl hb;exact⟨g,q,u,(Ze.fail _ _ _).trans A⟩
     ·have B:fA (b.set k (jB x s.ty)):=fL.2 fun y hy=>by
       rcases List.mem_or_eq_of_mem_set hy with hy | rfl
       ·exact fL.1 hb y hy
       ·have:=fL.1 hb x (Af hx);cases x with
        | mk n p hh sg e=>exact⟨hs s B1,this.2⟩
      obtain⟨g,q,u,A⟩:=fY l (b.set k (jB x s.ty)) z h hl B;exact⟨g,q,by rw[u,length_set],A⟩
  ·exact⟨h,hb,rfl,Ze.refl z⟩
section
variable {L:List Tk}{ex:Nat→Z→Ex×Z}(hO:ExO L ex) (hwt:wt L≤30000)
include hO hwt
theorem iG (sigs:List Sg) (binds:List Bd) (deep:Nat) {z:Z}(h:ZA L z) (hs:fX sigs) (hb:fA binds):ZA L (aT ex sigs binds deep z).2∧fX (aT ex sigs binds deep z).1.1∧fA (aT ex sigs binds deep z).1.2∧
  (aT ex sigs binds deep z).1.1.length≤sigs.length+1∧(aT ex sigs binds deep z).1.2.length≤binds.length+1∧((aT ex sigs binds deep z).2.e=0→(aT ex sigs binds deep z).2.R.length<z.R.length)∧Ze z (aT ex sigs binds deep z).2:=by
 have h1:=(h.word (k:=1) (by decide)).may eQ;have g:=(Ze.word 1 z).trans (Ze.may eQ _);unfold aT;split
 ·obtain⟨q,u,y,A⟩:=gC h1 hwt;exact⟨q,aEk hs u,hb,by rw[ζ,Bg];exact le_refl _,Nat.le_succ _,fun e=>A6 (y e) g,g.trans A⟩
 ·obtain⟨q,u,y,A⟩:=tQ hO (b5 1 z).1 deep h1;exact⟨q,hs,mR hb u,Nat.le_succ _,by rw[ζ,Bg];exact le_refl _,fun e=>A6 (y e) g,g.trans A⟩
theorem sS (deep:Nat):∀(f n:Nat) (sigs:List Sg) (binds:List Bd) (z:Z),ZA L z→fX sigs→fA binds→n≤60→sigs.length≤n→binds.length≤n→ZA L (eP ex deep f n sigs binds z).2∧fX (eP ex deep f n sigs binds z).1.1∧fA (eP ex deep f n sigs binds z).1.2∧
  (eP ex deep f n sigs binds z).1.1.length≤60∧(eP ex deep f n sigs binds z).1.2.length≤60∧Ze z (eP ex deep f n sigs binds z).2
 | 0,n,sigs,binds,z,h,hs,hb,hn,h1,h2=>by rw[eP];exact⟨h,hs,hb,by dsimp only;omega,by dsimp only;omega,Ze.refl z⟩
 | f+1,n,sigs,binds,z,h,hs,hb,hn,h1,h2=>by
  rw[eP];split
  ·rename_i hm;obtain⟨_,g⟩:=fH hm;obtain⟨q,u,y,U,Y,_,A⟩:=iG hO hwt sigs binds deep (h.more bB n) hs hb;obtain⟨B,E,I,J,M,O⟩:=sS deep f (n+1) _ _ _ q u y g (by omega) (by omega);exact⟨B,E,I,J,M,((Ze.more bB n z).trans A).trans O⟩
  ·exact⟨h.more _ _,hs,hb,by dsimp only;omega,by dsimp only;omega,Ze.more _ _ _⟩
theorem aO0 (a:Int) (deep:Nat) {z:Z}(h:ZA L z):ZA L (rA ex a deep z).2∧jL (rA ex a deep z).1∧((rA ex a deep z).2.e=0→(rA ex a deep z).2.R.length<z.R.length)∧Ze z (rA ex a deep z).2:=by
 obtain⟨q,u,y,g4,A,B⟩:=sS hO hwt (deep+1) ((aQ dS z).R.length+1) 0 [] [] _ (h.need dS) (fun s hs=>by cases hs) trivial (by decide) (le_refl _) (le_refl _);obtain⟨E,I,J,M⟩:=fY (lC ex deep z).1.1 (lC ex deep z).1.2 (aQ bB (lC ex deep z).2) (q.need _) u y;have g:=((((Ze.need dS z).trans B).trans (Ze.need bB _)).trans M).trans (Ze.need inS _);obtain⟨O,U,Y,m4⟩:=hO (deep+1) _ (E.need inS);have k3':(aCu (lC ex deep z)).1.length=(lC ex deep z).1.2.length:=J;have g5':(lC ex deep z).1.2.length≤60:=A;exact⟨O,⟨⟨show 1≤4002 by decide,Ac _,by omega⟩,.z,⟨fun h=>by omega,fun _=>rfl,fun h=>by omega⟩,trivial,⟨U,trivial⟩,I⟩,fun e=>A6 (Y e) g,g.trans m4⟩
omit hwt in
theorem aBz (deep:Nat):∀(f n:Nat) (ps:List Pt) (ks:List Ex) (z:Z),ZA L z→x8 ps→oD ks→n≤60→ps.length=n→ks.length=n+1→ZA L (eO ex deep f n ps ks z).2∧x8 (eO ex deep f n ps ks z).1.1∧oD (eO ex deep f n ps ks z).1.2∧
  (eO ex deep f n ps ks z).1.1.length≤60∧(eO ex deep f n ps ks z).1.2.length=(eO ex deep f n ps ks z).1.1.length+1∧Ze z (eO ex deep f n ps ks z).2
 | 0,n,ps,ks,z,h,hp,g,hn,h1,h2=>by rw[eO];exact⟨h,hp,g,by dsimp only;omega,by dsimp only;omega,Ze.refl z⟩
 | f+1,n,ps,ks,z,h,hp,g,hn,h1,h2=>by
  rw[eO];split
  ·rename_i hm;obtain⟨_,q⟩:=fH hm;obtain⟨u,y,_,A⟩:=(eV L (3*(bJ bB n z).2.R.length+1)).2.1 0 _ (h.more bB n);obtain⟨B,E,_,I⟩:=hO (deep+1) _ (u.need arrow);obtain⟨J,M,O,U,Y,k6⟩:=aBz deep f (n+1) (ps++[(fS (3*(bJ bB n z).2.R.length+1) 0 (bJ bB n z).2).1]) (ks++[(ex (deep+1) (aQ arrow (fS (3*(bJ bB n z).2.R.length+1) 0 (bJ bB n z).2).2)).1]) _ B (oI hp y) (pV g E) q (by rw[ζ,h1];rfl) (by rw[ζ,h2];rfl);exact⟨J,M,O,U,Y,((((Ze.more bB n z).trans A).trans (Ze.need _ _)).trans I).trans k6⟩
  ·exact⟨h.more _ _,hp,g,by dsimp only;omega,by dsimp only;omega,Ze.more _ _ _⟩
omit hwt in
theorem aKm (a:Int) (deep:Nat) {z:Z}(h:ZA L z):ZA L (gQ ex a deep z).2∧jL (gQ ex a deep z).1∧((gQ ex a deep z).2.e=0→(gQ ex a deep z).2.R.length<z.R.length)∧Ze z (gQ ex a deep z).2:=by
 obtain⟨E,I,m3,J⟩:=hO (deep+1) z h;have h1:ZA L (cT ex deep z).2:=(E.need ofS).need dS;have y:Ze z (cT ex deep z).2:=(J.trans (Ze.need ofS _)).trans (Ze.need dS _);obtain⟨g,M,O,U,Y,q⟩:=aBz hO deep ((cT ex deep z).2.R.length+1) 0 [] [(cT ex deep z).1] _ h1 trivial ⟨I,trivial⟩ (by decide) rfl rfl;have g:ZA L (fQ ex deep (cT ex deep z)).2:=g;have q:Ze (cT ex deep z).2 (fQ ex deep (cT ex deep z)).2:=q;have aa:(fQ ex deep (cT ex deep z)).1.1.length≤60:=U;have A:(fQ ex deep (cT ex deep z)).1.2.length=(fQ ex deep (cT ex deep z)).1.1.length+1:=Y;have hex:jL (gQ ex a deep z).1:=⟨⟨by omega,by omega,Ac _⟩,.z,⟨fun h=>by omega,fun h=>by omega,fun _=>A⟩,M,O,trivial⟩
 have h2:=g.need bB;have B:(aQ bB (fQ ex deep (cT ex deep z)).2).e=0→(aQ bB (fQ ex deep (cT ex deep z)).2).R.length<z.R.length:=fun e=>A6 (xU g e) (y.trans q)
 have u:Ze z (aQ bB (fQ ex deep (cT ex deep z)).2):=(y.trans q).trans (Ze.need _ _);unfold gQ at hex ⊢;dsimp only at hex ⊢;split
 ·exact⟨h2.fail _ _,hex,fun e=>(cW (by decide) e).elim,u.trans (Ze.fail _ _ _)⟩
 ·exact⟨h2,hex,B,u⟩
omit hO in
theorem aQx (a:Int) {y:Ex×Z}(h:ZA L y.2) (he:jL y.1):ZA L (qG a y).2∧jL (qG a y).1∧Ze y.2 (qG a y).2:=by
 unfold qG;split
 ·obtain⟨g,q,_,u⟩:=gC (h.may eQ) hwt;exact⟨g,⟨⟨show 1≤4002 by decide,Ac _,Ac _⟩,q,⟨fun h=>by omega,fun _=>rfl,fun h=>by omega⟩,trivial,⟨he,trivial⟩,trivial⟩,(Ze.may eQ _).trans u⟩
 ·exact⟨h.may eQ,he,Ze.may eQ _⟩
omit hwt in
theorem uZ (deep:Nat) {z:Z}(h:ZA L z):ZA L (fG ex deep z).2∧jL (fG ex deep z).1∧Ze z (fG ex deep z).2:=by
 obtain⟨y,A,E,B⟩:=iT hO deep h;unfold fG;split
 ·obtain⟨g,q,u⟩:=oP hO deep (b4 z).pl (z.R.length+1) _ _ (y.fail 12 (b4 z).pl) A;exact⟨g,q,(B.trans (Ze.fail _ _ _)).trans u⟩
 ·obtain⟨g,q,u⟩:=oP hO deep (b4 z).pl (z.R.length+1) _ _ y A;exact⟨g,q,B.trans u⟩
end
theorem aQw {ex:Nat→Z→Ex×Z}{deep:Nat}{a:Int}{f:Nat}{e:Ex}{z:Z}(h:(fB ex deep a f e z).2.e=0):z.e=0:=by
 cases f with
 | zero=>exact h
 | succ f=>
  rw[fB] at h;split at h
  ·assumption
  ·exact h
theorem aUn {a:Int}{y:Ex×Z}(h:(qG a y).2.e=0):y.2.e=0:=by
 unfold qG at h;split at h
 ·unfold bO at h;split at h
  ·rename_i he;rwa [gX] at he
  ·rwa [gX] at h
 ·rwa [gX] at h
theorem aPe {L:List Tk}{ex:Nat→Z→Ex×Z}(hO:ExO L ex) (hwt:wt L≤30000):ExO L (vR ex):=by
 intro deep z h;unfold vR;split
 ·rename_i he;exact⟨h,jL.z,fun e=>absurd e he,Ze.refl z⟩
 split
 ·exact⟨h.fail _ _,jL.z,fun e=>(cW (by decide) e).elim,Ze.fail _ _ _⟩
 split
 ·obtain⟨g,q,u,y⟩:=aO2 hO (b4 z).pl deep (h.may vH);have l:=Ze.may vH z;exact⟨g,q,fun e=>A6 (u e) l,l.trans y⟩
 split
 ·obtain⟨g,q,u,y⟩:=aO0 hO hwt (b4 z).pl deep (h.may vG);have l:=Ze.may vG z;exact⟨g,q,fun e=>A6 (u e) l,l.trans y⟩
 split
 ·obtain⟨g,q,u,y⟩:=aKm hO (b4 z).pl deep (h.may kI);have l:=Ze.may kI z;exact⟨g,q,fun e=>A6 (u e) l,l.trans y⟩
 ·obtain⟨g,q,u⟩:=uZ hO deep h;obtain⟨I,J,A⟩:=aQx hwt (b4 z).pl g q;refine⟨I,J,fun e=>?_,u.trans A⟩;have E:=aUn e;obtain⟨M,O,U,o4⟩:=iT hO deep h;unfold fG at E A ⊢;have B:=aQw E;split at B
  ·exact(cW (by decide) B).elim
  ·rename_i hs;have hs:(gU ex deep z).1.2=true:=by simpa using hs
   rw[ξ (by rw[hs];exact fun k=>Bool.noConfusion k)] at A ⊢;obtain⟨_,_,Y⟩:=oP hO deep (b4 z).pl (z.R.length+1) _ _ M O;exact Bt (Y.trans A) (U hs B)
theorem kE {L:List Tk}(hwt:wt L≤30000):∀f,ExO L (aC2 f)
 | 0=>fun deep z h=>⟨h.fail _ _,jL.z,fun e=>(cW (by decide) e).elim,Ze.fail _ _ _⟩
 | f+1=>aPe (kE hwt f) hwt
def aIv:List C:=[.int .i64 0,.int .i64 0,.int .i64 0,.str [],.nl,.nl,.nl,.nl,.nl,.nl,.int .i64 0,.int .i64 0,.str [],.nl,.nl]
theorem aBb (l:List Tk) (hl:l.length≤4001):aU Tryz.prog 80 [.one (.c (.sl 4 (l.map aI)))] [] (.one (.c (.sl 10 ((fW l).map bK)))) []:=by
 have q:(l.map aI).length=l.length:=κ _;refine bC (n:=26) tok Tryz.func80 rfl rfl rfl ?_;refine sg rfl (sg rfl (AWp.sub (Sub.own (t:=3) (id:=500) 43 10 rfl rfl) ?_));refine aA (sg rfl (aE (aL (fun i:Nat=>mk [(0,.one (.c (.sl 4 (l.map aI)))),(3,.one (.hs 500 0 i i)),(4,I .i64 (i:Nat))] [(500,.arr 43 10 ((fW (l.take i)).map bK) 0)]) (fun i=>i≤l.length) (fun i=>l.length-i) 0 (Ac _) sl ?_)));intro i hi;have g:((fW (l.take i)).map bK).length=i:=by rw[κ,oT,Aj];omega
 refine aA (sg rfl (aB rfl (fun hb=>?_) (fun hb=>?_)))
 ·have u:=ltD hb q;obtain⟨t,y⟩:=aM u;have E:=b9 aI y;have A:(fW (l.take (i+1))).map bK=(fW (l.take i)).map bK++[bK (.mk 2 t.pl 0 t.text [])]:=by
   unfold fW;rw[Be,y,Ai,Ai];rfl
  exact aD (aA (aE (ag [(3,.row i (aI t)),(8,.row i (aI t)),(12,.all)] rfl (agN [] rfl ⟨i+1,u,by dsimp only;omega,sl (he:=⟨rfl,Go.AM.hs_ren (congrArg (· +1) g) (congrArg (· +1) g),rfl,trivial⟩) (hh:=⟨⟨_,rfl,.arrS A.symm⟩,trivial⟩)⟩))))
 ·have B:=geD hb q hi;subst B;rw[Ao] at g ⊢;refine aG (AWp.sub (Sub.freeze (id:=500) rfl) ?_);exact sg rfl (aF (rtH (hsz:=g.symm) (hlen:=g.symm)))
def ExS (L:List Tk) (ex:Nat→Z→Ex×Z) (N:Nat):Prop:=∀(deep:Nat) (z:Z),ZA L z→z.R.length≤N→deep≤41→aU Tryz.prog 20 [xP,I .i64 (deep:Nat)] [(700,zO L z)] (.pa (bD (ex deep z).1)) [(700,zO L (ex deep z).2)]
section
variable {L:List Tk}{ex:Nat→Z→Ex×Z}{N:Nat}(hO:ExO L ex) (hS:ExS L ex N)
include hO hS
theorem aM7 (deep:Nat) {z:Z}(h:ZA L z) (hN:z.R.length≤N+1) (hd:deep≤40):aU Tryz.prog 42 [xP,I .i64 (deep:Nat)] [(700,zO L z)] (.tup [.pa (bD (gU ex deep z).1.1),B (gU ex deep z).1.2]) [(700,zO L (gU ex deep z).2)]:=by
 have ho:=gZ L z;unfold gU;by_cases he:z.e=0
 case neg=>
  rw[θ he];rw[ψ he] at ho;refine bC (n:=56) tok Tryz.func42 rfl rfl rfl ?_;refine sg rfl (aA (sk 1 rfl (kc ho ?_)));exact kz 1 rfl (aB rfl (fun _=>sg rfl (aF oH)) (fun hb=>Bool.noConfusion hb))
 rw[ξ (fun k=>k he)];rw[φ he] at ho;have hn:=fU h;have hm:=mP h cE;have aa:=h.l;refine bC (n:=56) tok Tryz.func42 rfl rfl rfl ?_;refine sg rfl (aA (sk 1 rfl (kc ho ?_)));refine kz 1 rfl (aB rfl (fun hb=>Bool.noConfusion hb) (fun _=>aD (sk 1 rfl (kc hn ?_))));refine kz 2 rfl ?_;by_cases g:0<(b4 z).kind∧(b4 z).kind<4
 ·rw[θ g];obtain⟨_,M⟩:=h.tl (sV g) z.e z.p;have Y:zO L (tlZ z)=.var 60 [.c (.sl 4 (L.map aI)),.c (.int .i64 ((L.length-z.R.length+1:Nat):Int)),.c (.int .i64 z.e),.c (.int .i64 z.p)]:=by
   unfold zO tlZ;dsimp only;rw[M]
  rw[Y];have d1:decide ((0:Int)<(b4 z).kind)=true:=φ g.1;have d2:decide ((b4 z).kind<(4:Int))=true:=φ g.2;refine aA (sgh [(3,.bv true),(7,.bv true)] rfl (aB rfl (fun _=>?_) (fun hb=>absurd (hb.symm.trans d2) Bool.noConfusion)));unfold zO nM;refine aA (agN [] rfl (aA (sg rfl (aB rfl (fun hb=>?_) (fun hb=>?_)))))
  ·rw[θ (χ hb)];exact sg rfl (aF oH)
  ·rw[ξ (Ad hb)];exact aD (sg rfl (aF oH))
 rw[ξ g];refine aA (aA (AWp.cut (mk [(0,xP),(1,I .i64 (deep:Nat)),(4,.one (.vp 4 0)),(21,B false)] [(700,zO L z),(4,.var 35 (aIv.map .c))]) ?_ ?_))
 ·by_cases k0:0<(b4 z).kind
  ·have d2:decide ((b4 z).kind<(4:Int))=false:=ψ (fun k=>g ⟨k0,k⟩);have d1:decide ((0:Int)<(b4 z).kind)=true:=φ k0;refine ag [(3,.bv true),(7,.bv true)] rfl ?_;rw[d2];exact sl
  ·have d1:decide ((0:Int)<(b4 z).kind)=false:=ψ k0;exact ag [(3,.bv false),(7,.bv false)] rfl sl
 refine aB rfl (fun hb=>Bool.noConfusion hb) (fun _=>aD ?_);have q:=eS (s:=cE) h;have h1:=h.may cE;have E:(bQ cE z).1=false→(bQ cE z).2=z:=fun hb=>by
  unfold bQ at hb ⊢;split
  ·rename_i hc;rw[θ hc] at hb;cases hb
  ·rfl
 generalize bQ cE z=m at hm q h1 E ⊢;obtain⟨b,u⟩:=m;refine aA (sk 1 rfl (kc hm ?_));refine kz 1 rfl ?_;cases b with
 | false=>
  have O:u=z:=E rfl;subst O;rw[θ rfl];exact aB rfl (fun _=>sg rfl (aF oH)) (fun hb=>Bool.noConfusion hb)
 | true=>
  rw[ξ (show ¬(true=false) from fun k=>Bool.noConfusion k)];have q:u.R.length<z.R.length:=q rfl;dsimp only at h1 ⊢;have A:=hS (deep+1) u h1 (by omega) (by omega);obtain⟨J,_⟩:=hO (deep+1) u h1;generalize ex (deep+1) u=y at A J ⊢;obtain⟨e,z2⟩:=y;dsimp only at A J ⊢;have U:=fR J lZ;refine aB rfl (fun hb=>Bool.noConfusion hb) (fun _=>aD (aA (aC mixed (akN 3 [] rfl (kc A ?_)))));refine kz 2 rfl (sk 1 rfl (kc U ?_));exact az (sg rfl (aF oH))
end
section
variable {L:List Tk}{ex:Nat→Z→Ex×Z}{N:Nat}(hS:ExS L ex N)
include hS
theorem aTs (a:Int) (deep:Nat) {z:Z}(h:ZA L z) (hN:z.R.length≤N) (hd:deep≤40):aU Tryz.prog 39 [xP,I .i64 a,I .i64 (deep:Nat)] [(700,zO L z)] (.pa (bD (rB ex a deep z).1)) [(700,zO L (rB ex a deep z).2)]:=by
 obtain⟨g1,A,g3⟩:=y1 a h;have g:=hS (deep+1) (rC a z).2 g1 (le_trans g3 hN) (by omega);unfold rB;generalize hy:ex (deep+1) (rC a z).2=y at g ⊢;obtain⟨b,z6⟩:=y;dsimp only at g ⊢;unfold rC at g A ⊢;dsimp only at g A ⊢;have B:=aA9 h;have h1:=h.words;generalize aZ z=w at g A B h1 ⊢;obtain⟨l,E⟩:=w;dsimp only at g A B h1 ⊢;have hn:=fU h1;have O:=eL L E 12 (b4 E).pl;have U:(l.map aI).length=l.length:=κ _;have hv:=aBb l A;refine bC (n:=34) tok Tryz.func39 rfl rfl rfl ?_;refine sg rfl (sk 1 rfl (kc B ?_));refine kz 1 rfl ?_;have M:∃u,u=(if l=[] then bS 12 (b4 E).pl E else E)∧ZA L u:=⟨_,rfl,by split<;>first | exact h1.fail _ _ | exact h1⟩
 obtain⟨u,q,h2⟩:=M;rw[←q] at g;have J:=yL L u l.length 8 a;have Y:=h2.long l.length 8 a;refine aA (AWp.cut (mk [(0,xP),(1,I .i64 a),(2,I .i64 (deep:Nat)),(6,.one (.vp 6 0)),(7,.one (.c (.sl 4 (l.map aI))))] [(700,zO L u),(6,.var 35 (aIv.map .c))]) ?_ ?_)
 ·refine sg rfl ?_;by_cases hl:l=[]
  ·rw[θ hl] at q;subst hl q;refine aB rfl (fun _=>aC mixed (ak 2 [] rfl (kc hn ?_))) (fun hb=>Bool.noConfusion hb);refine ak 1 [] rfl (kc O ?_);exact az sl
  ·rw[ξ hl] at q;subst q;have d0:decide (((l.map aI).length:Int)=0)=false:=ψ (by have:=length_pos_iff.2 hl;omega);exact aB rfl (fun hb=>absurd (hb.symm.trans d0) Bool.noConfusion) (fun _=>aD sl)
 generalize cK l.length 8 a u=z3 at J Y g;have aa:=fR Y arrow;refine sk 4 rfl ?_;rw[U];refine kc J ?_;refine az (sk 1 rfl (kc aa ?_));refine az (sk 2 rfl (kc hv ?_));refine akN 3 [] rfl (kc g ?_);exact ak 3 [(7,.all)] rfl (az (aF (rtC trw)))
theorem aQc (q:Tk) (deep:Nat) {z:Z}(h:ZA L z) (hN:z.R.length≤N) (U:deep≤41):aU Tryz.prog 124 [xP,tkV q,I .i64 (deep:Nat)] [(700,zO L z)] (.pa (b6 (dR ex q deep z).1)) [(700,zO L (dR ex q deep z).2)]:=by
 obtain⟨Y,u,g3⟩:=tR q h;have g:=hS deep (fJ q z).2 Y (le_trans g3 hN) U;unfold dR;generalize hy:ex deep (fJ q z).2=y at g ⊢;obtain⟨b,z6⟩:=y;dsimp only at g ⊢;unfold fJ at g u ⊢;dsimp only at g u ⊢;have A:=aA9 h;have h1:=h.words;generalize aZ z=w at g u A h1 ⊢;obtain⟨l,J⟩:=w;dsimp only at g u A h1 ⊢;have B:(l.map aI).length=l.length:=κ _;have hv:=aBb l u;have E:=yL L J l.length 8 q.pl;have M:=h1.long l.length 8 q.pl;generalize cK l.length 8 q.pl J=z3 at E M g;have O:=fR M eqS;refine bC (n:=40) tok Tryz.func124 rfl rfl rfl ?_;refine sg rfl (sk 1 rfl (kc A ?_));refine kz 1 rfl (sk 5 rfl ?_);rw[B];refine kc E ?_;refine az (sk 1 rfl (kc O ?_));refine az (sk 2 rfl (kc g ?_));refine kz 2 rfl (aA (sg rfl ?_));cases l with
 | nil=>
  exact aB rfl (fun hb=>Bool.noConfusion hb) (fun _=>aD (sg rfl (aF (rtC trw))))
 | cons t l=>
  have d0:decide ((0:Int)<(((t::l).map aI).length:Int))=true:=φ (by rw[B,Aa];omega);have ht:((t::l).map aI)[0]?=some (aI t):=rfl;refine aB rfl (fun _=>aC mixed (ak 5 [(1,.row 0 (aI t))] rfl (kc hv ?_))) (fun hb=>absurd (hb.symm.trans d0) Bool.noConfusion);exact ak 4 [(7,.all)] rfl (az (sg rfl (aF (rtC trw))))
end
def sgA (l:List Sg) (f:Nat):AObj:=.arr 121 9 (l.map cX) f
def bdA (l:List Bd) (f:Nat):AObj:=.arr 103 33 (l.map b6) f
def hsV (id n:Nat):V:=.one (.hs id 0 n n)
section
variable {L:List Tk}{ex:Nat→Z→Ex×Z}{N:Nat}(hS:ExS L ex N) (hwt:wt L≤30000)
include hS hwt
theorem aHd (sigs:List Sg) (binds:List Bd) (deep:Nat) {z:Z}(h:ZA L z) (hN:z.R.length≤N) (hd:deep≤41) (h1:sigs.length≤4001) (h2:binds.length≤4001):
  aU Tryz.prog 82 [xP,hsV 510 sigs.length,hsV 511 binds.length,I .i64 (deep:Nat)] [(700,zO L z),(510,sgA sigs 0),(511,bdA binds 0)]
   (.tup [hsV 510 (aT ex sigs binds deep z).1.1.length,hsV 511 (aT ex sigs binds deep z).1.2.length]) [(700,zO L (aT ex sigs binds deep z).2),(510,sgA (aT ex sigs binds deep z).1.1 0),(511,bdA (aT ex sigs binds deep z).1.2 0)]:=by
 have hw:=aGs h 1 (by decide);have B:=h.word (k:=1) (by decide);have U:=Ze.word 1 z;have M:(sigs.map cX).length=sigs.length:=κ _;have O:(binds.map b6).length=binds.length:=κ _;unfold aT;generalize b5 1 z=w at hw B U ⊢;obtain⟨q,z1⟩:=w;dsimp only at hw B U ⊢;have hm:=mP B eQ;have E:=B.may eQ;have Y:=Ze.may eQ z1;generalize bQ eQ z1=m at hm E Y ⊢;obtain⟨b,z2⟩:=m;dsimp only at hm E Y ⊢;refine bC (n:=34) tok Tryz.func82 rfl rfl rfl ?_;refine sg rfl (sk 1 rfl (kc hw ?_));refine kz 2 rfl (aA (sk 1 rfl (kc hm ?_)));refine az ?_;cases b with
 | true=>
  rw[θ rfl];have u:=wD E hwt;generalize bO z2=y at u ⊢;obtain⟨s,z3⟩:=y;dsimp only at u ⊢;have g:sigs.map cX++[cX ⟨q.text,q.pl,s⟩]=(sigs++[(⟨q.text,q.pl,s⟩:Sg)]).map cX:=by rw[Ai];rfl
  have hle:(sigs++[(⟨q.text,q.pl,s⟩:Sg)]).length=sigs.length+1:=by rw[ζ];rfl
  generalize sigs++[(⟨q.text,q.pl,s⟩:Sg)]=S at g hle ⊢;refine aB rfl (fun _=>sk 6 rfl (kc u ?_)) (fun hb=>Bool.noConfusion hb);refine ak 6 [(8,.all)] rfl (az (AWp.sub (st2:=mk [(8,hsV 510 S.length),(9,hsV 511 binds.length)] [(700,zO L z3),(510,sgA S 0),(511,bdA binds 0)]) (sl (he:=⟨Go.AM.hs_ren (by rw[hle,←M];rfl) (by rw[hle,←M];rfl),rfl,trivial⟩) (hh:=⟨⟨_,rfl,.var rfl⟩,⟨_,rfl,.arrS g⟩,⟨_,rfl,Go.AM.Ole.arr⟩,trivial⟩)) ?_));exact aF aWw
 | false=>
  rw[ξ ω];have A:=aQc hS q deep E (le_trans (U.trans Y) hN) hd;generalize dR ex q deep z2=y at A ⊢;obtain⟨J,z3⟩:=y;dsimp only at A ⊢;have g:binds.map b6++[b6 J]=(binds++[J]).map b6:=by rw[Ai];rfl
  have hle:(binds++[J]).length=binds.length+1:=by rw[ζ];rfl
  generalize binds++[J]=S at g hle ⊢;refine aB rfl (fun hb=>Bool.noConfusion hb) (fun _=>aD (sk 5 rfl (kc A ?_)));refine ak 4 [(6,.all)] rfl (az (AWp.sub (st2:=mk [(8,hsV 510 sigs.length),(9,hsV 511 S.length)] [(700,zO L z3),(510,sgA sigs 0),(511,bdA S 0)]) (sl (he:=⟨rfl,Go.AM.hs_ren (by rw[hle,←O];rfl) (by rw[hle,←O];rfl),trivial⟩) (hh:=⟨⟨_,rfl,.var rfl⟩,⟨_,rfl,Go.AM.Ole.arr⟩,⟨_,rfl,.arrS g⟩,trivial⟩)) ?_));exact aF aWw
end
def aCz (p:Bd→Bool) (b:List Bd) (m:Nat):Int:=match (b.drop m).findIdx? p with
 | none=> -1
 | some d=>((m+d:Nat):Int)
theorem aAu (p:Bd→Bool) (b:List Bd):aCz p b b.length= -1:=by unfold aCz;rw[Cp];rfl
theorem vL (p:Bd→Bool) {b:List Bd}{m:Nat}{x:Bd}(h:b[m]?=some x):aCz p b m=if p x=true then(m:Int) else aCz p b (m+1):=by
 obtain⟨h1,h2⟩:=Ag.1 h;have g:=A5 h1;rw[h2] at g;unfold aCz;rw[g,List.findIdx?_cons];by_cases hp:p x=true
 ·rw[θ hp,θ hp];rfl
 ·rw[ξ hp,ξ hp];cases (b.drop (m+1)).findIdx? p with
  | none=>rfl
  | some d=>simp;omega
theorem aPr {L:List Tk}(sigs:List Sg) (binds:List Bd) {z:Z}(h:ZA L z) (h1:sigs.length≤4001) (h2:binds.length≤4001):
  aU Tryz.prog 83 [xP,.one (.c (.sl 9 (sigs.map cX))),hsV 511 binds.length] [(700,zO L z),(511,bdA binds 0)] (hsV 511 binds.length) [(700,zO L (cS sigs binds z).2),(511,bdA (cS sigs binds z).1 0)]:=by
 have hsl:(sigs.map cX).length=sigs.length:=κ _;have g:∃W,W=cS sigs binds z:=⟨_,rfl⟩
 obtain⟨W,g⟩:=g;rw[←g];refine bC (n:=74) tok Tryz.func83 rfl rfl rfl ?_;refine sg rfl (aA (sg rfl (aE (aL (fun q:Nat×List Bd×Z=>mk [(0,xP),(1,.one (.c (.sl 9 (sigs.map cX)))),(2,hsV 511 binds.length),(7,I .i64 (q.1:Nat))] [(700,zO L q.2.2),(511,bdA q.2.1 0)]) (fun q=>q.1≤sigs.length∧ZA L q.2.2∧q.2.1.length=binds.length∧W=cS (sigs.drop q.1) q.2.1 q.2.2) (fun q=>sigs.length-q.1) (0,binds,z) ⟨Ac _,h,rfl,g⟩ sl ?_))));clear g h;rintro⟨i,b,z⟩ ⟨hi,h,u,g⟩;dsimp only at hi h u g ⊢;have hbe:(b.map b6).length=b.length:=κ _;have ho:=gZ L z;by_cases y:i<sigs.length
 case neg=>
  have d0:decide ((i:Int)<((sigs.map cX).length:Int))=false:=ψ (by omega);rw[drop_eq_nil_of_le (by omega),cS] at g;refine aA (sgh [(4,.bv false),(7,.bv false)] rfl (aB rfl (fun hb=>Bool.noConfusion hb) (fun _=>aG (sg rfl ?_))));rw[g];exact aF rtT
 have d0:decide ((i:Int)<((sigs.map cX).length:Int))=true:=φ (by omega);obtain⟨s,hs⟩:=aM y;have hs':=b9 cX hs;have J:sigs.drop i=s::sigs.drop (i+1):=by
  obtain⟨k1,k2⟩:=Ag.1 hs;rw[←k2];exact A5 k1
 rw[J,cS] at g;by_cases he:z.e=0
 case neg=>
  rw[ξ he] at g;rw[ψ he] at ho;refine aA (skh 6 [(4,.bv true)] rfl (kcG ho ?_));refine ak 1 [(4,.bv true),(7,.bv true)] rfl (az (aB rfl (fun hb=>Bool.noConfusion hb) (fun _=>aG (sg rfl ?_))));rw[g];exact aF rtT
 rw[θ he] at g;rw[φ he] at ho;refine aA (skh 6 [(4,.bv true)] rfl (kcG ho ?_));refine ak 1 [(4,.bv true),(7,.bv true)] rfl (az (aB rfl (fun _=>aD (aA (aE (sg rfl (aA (sg rfl (aE (aL (fun m:Nat=>mk [(0,xP),(1,.one (.c (.sl 9 (sigs.map cX)))),(2,hsV 511 binds.length),(7,I .i64 (i:Nat)),(8,I .i64 (aCz (fun x=>decide (x.name=s.name)) b m)),(9,I .i64 ((m:Int)-1))] [(700,zO L z),(511,bdA b 0)]) (fun m=>m≤b.length) (fun m=>m) b.length (le_refl _) (sl (he:=⟨rfl,rfl,rfl,rfl,Go.AM.int_eq (aAu _ b).symm,Go.AM.int_eq (by rw[u]),trivial⟩)) ?_)))))))) (fun hb=>Bool.noConfusion hb)));intro m hm;refine aA (sg rfl (aB rfl (fun hb=>?_) (fun hb=>?_)))
 ·have hm1:1≤m:=by have:=χ hb;omega
  obtain⟨m,rfl⟩:∃k,m=k+1:=⟨m-1,by omega⟩
  obtain⟨x,hx⟩:=aM (l:=b) (k:=m) (by omega);have M:=b9 b6 hx;have A:=vL (fun x=>decide (x.name=s.name)) hx;have O:(((m+1:Nat):Int)-1)=(m:Int):=by omega
  rw[O];refine aD (aA (aE (sgh [(4,.row m (b6 x)),(7,.row i (cX s))] rfl (aB rfl (fun hb=>?_) (fun hb=>?_)))))
  ·have hb:decide (x.name=s.name)=true:=hb;rw[θ hb] at A;exact ag [] rfl (ag [] rfl ⟨m,by omega,B2 _,sl (he:=⟨rfl,rfl,rfl,rfl,Go.AM.int_eq A.symm,rfl,trivial⟩)⟩)
  ·have hb:decide (x.name=s.name)=false:=hb;rw[ξ (by rw[hb];exact ω)] at A;exact aD (ag [] rfl ⟨m,by omega,B2 _,sl (he:=⟨rfl,rfl,rfl,rfl,Go.AM.int_eq A.symm,rfl,trivial⟩)⟩)
 have U:m=0:=by have:=Ad hb;omega
 subst U;have Y:aCz (fun x=>decide (x.name=s.name)) b 0=match b.findIdx? (fun x=>decide (x.name=s.name)) with | none=> -1 | some d=>(d:Int):=by
  unfold aCz;rw[Bv];cases b.findIdx? _ with
  | none=>rfl
  | some d=>simp
 rw[Y];refine aG ?_;cases E:b.findIdx? (fun x=>decide (x.name=s.name)) with
 | none=>
  rw[E] at g;dsimp only at g ⊢;have B:=eL L z 21 s.pl;refine aA (sg rfl (aB rfl (fun _=>skh 6 [(3,.row i (cX s))] rfl (kc B ?_)) (fun hb=>Bool.noConfusion hb)));exact az (aG (agN [] rfl ⟨(i+1,b,bS 21 s.pl z),⟨y,h.fail _ _,u,g⟩,by dsimp only;omega,sl⟩))
 | some k=>
  rw[E] at g;dsimp only at g ⊢;have hk:=nV E;obtain⟨x,hx⟩:=aM hk;have M:=b9 b6 hx;rw[hx] at g;dsimp only at g;have dk:decide ((k:Int)<0)=false:=ψ (by omega);refine aA (sg rfl (aB rfl (fun hb=>absurd (hb.symm.trans dk) Bool.noConfusion) (fun _=>aD (aA (sgh [(4,.row k (b6 x))] rfl (aB rfl (fun hb=>?_) (fun hb=>?_)))))))
  ·have hb:x.has=true:=hb;rw[θ hb] at g;have B:=eL L z 20 s.pl;refine skh 6 [(3,.row i (cX s))] rfl (kc B ?_);exact az (aG (agN [] rfl ⟨(i+1,b,bS 20 s.pl z),⟨y,h.fail _ _,u,g⟩,by dsimp only;omega,sl⟩))
  ·have hb:x.has=false:=hb;rw[ξ (by rw[hb];exact ω)] at g;refine aD ?_;have hs1:(b.map b6).set k (b6 (.mk x.name x.pl true x.sig x.body))=(b.set k (.mk x.name x.pl true x.sig x.body)).map b6:=by rw[map_set]
   have hs2:((b.set k (.mk x.name x.pl true x.sig x.body)).map b6).set k (b6 (jB x s.ty))=(b.set k (jB x s.ty)).map b6:=by rw[←map_set,List.set_set]
   have hx2:((b.set k (.mk x.name x.pl true x.sig x.body)).map b6)[k]?=some (b6 (.mk x.name x.pl true x.sig x.body)):=by rw[List.getElem?_map,List.getElem?_set_self hk];rfl
   have hl2:((b.set k (.mk x.name x.pl true x.sig x.body)).map b6).length=b.length:=by rw[κ,length_set]
   refine sgh [(4,.row k (b6 x))] rfl (AWp.sub (st2:=mk [(0,xP),(1,.one (.c (.sl 9 (sigs.map cX)))),(2,hsV 511 binds.length),(7,I .i64 (i:Nat)),(8,I .i64 (k:Nat))] [(700,zO L z),(511,bdA (b.set k (.mk x.name x.pl true x.sig x.body)) 0)]) (sl (hh:=⟨⟨_,rfl,.var rfl⟩,⟨_,rfl,.arrS hs1⟩,trivial⟩)) ?_);exact ag [(4,.row i (cX s)),(9,.row k (b6 (.mk x.name x.pl true x.sig x.body)))] rfl (agN [] rfl ⟨(i+1,b.set k (jB x s.ty),z),⟨y,h,by dsimp only;rw[length_set,u],g⟩,by dsimp only;omega,sl (hh:=⟨⟨_,rfl,.var rfl⟩,⟨_,rfl,.arrS hs2⟩,trivial⟩)⟩)
theorem kT {s:Str}{n:Nat}{z:Z}(h:¬z.e=0):bJ s n z=(false,z):=by
 have h1:moreA s n z=z:=by unfold moreA;rw[ξ (fun k=>h k.2.1)]
 have h2:cO z=z:=by unfold cO;rw[ξ h]
 unfold bJ;rw[h1,h2,θ (.inl h)]
section
variable {L:List Tk}{ex:Nat→Z→Ex×Z}{N:Nat}(hO:ExO L ex) (hS:ExS L ex N) (hwt:wt L≤30000)
include hO hS hwt
theorem aTp (a:Int) (deep:Nat) {z:Z}(h:ZA L z) (hN:z.R.length≤N) (hd:deep≤40):aU Tryz.prog 40 [xP,I .i64 a,I .i64 (deep:Nat)] [(700,zO L z)] (.pa (bD (rA ex a deep z).1)) [(700,zO L (rA ex a deep z).2)]:=by
 have M:=fR h dS;have h1:=h.need dS;have l1:=Ze.need dS z;have hWx:∃W,W=lC ex deep z:=⟨_,rfl⟩
 obtain⟨W,B⟩:=hWx;unfold rA;rw[←B];unfold lC at B;generalize aQ dS z=z1 at M h1 l1 B;have l1':z1.R.length≤z.R.length:=l1;refine bC (n:=42) tok Tryz.func40 rfl rfl rfl ?_;refine sg rfl (sg rfl (sg rfl (AWp.sub (Sub.own (t:=7) (id:=510) 121 9 rfl rfl) ?_)));refine AWp.sub (Sub.own (t:=8) (id:=511) 103 33 rfl rfl) ?_;refine sk 1 rfl (kc M ?_);refine az (aA (sg rfl (aE (aL (fun q:(List Sg×List Bd)×Z×Nat×Nat=>mk [(0,xP),(1,I .i64 a),(2,I .i64 (deep:Nat)),(6,.one (.vp 6 0)),(7,hsV 510 q.1.1.length),(8,hsV 511 q.1.2.length),(9,I .i64 (q.2.2.1:Nat))] [(700,zO L q.2.1),(6,.var 35 (aIv.map .c)),(510,sgA q.1.1 0),(511,bdA q.1.2 0)]) (fun q=>ZA L q.2.1∧fX q.1.1∧fA q.1.2∧q.2.1.R.length≤z1.R.length∧(q.2.1.e=0→q.2.1.R.length<q.2.2.2)∧q.2.2.1≤60∧q.1.1.length≤q.2.2.1∧q.1.2.length≤q.2.2.1∧W=eP ex (deep+1) q.2.2.2 q.2.2.1 q.1.1 q.1.2 q.2.1) (fun q=>if q.2.1.e=0 then q.2.1.R.length+1 else 0) (([],[]),z1,0,z1.R.length+1) ⟨h1,fun s hs=>(by cases hs),trivial,le_refl _,fun _=>B2 _,Ac _,le_refl _,le_refl _,B⟩ sl ?_))));clear B M h;rintro⟨⟨sigs,binds⟩,u,n,f⟩ ⟨h,hs,hb,hR,hf,hn,hsl,hbl,B⟩;dsimp only at h hs hb hR hf hn hsl hbl B ⊢;have hm:=aHa h bB n (by omega);have O:= @fH bB n u;have E:=h.more bB n;have J:=Ze.more bB n u;have A:W=if(bJ bB n u).1=true then eP ex (deep+1) (f-1) (n+1) (aT ex sigs binds (deep+1) (bJ bB n u).2).1.1 (aT ex sigs binds (deep+1) (bJ bB n u).2).1.2 (aT ex sigs binds (deep+1) (bJ bB n u).2).2 else((sigs,binds),(bJ bB n u).2):=by
  by_cases he:u.e=0
  ·obtain⟨f,rfl⟩:∃g,f=g+1:=⟨f-1,by have:=hf he;omega⟩
   rw[eP] at B;exact B
  ·rw[kT he];rw[ξ ω];rw[B];cases f with
   | zero=>rfl
   | succ f=>rw[eP,kT he,ξ ω]
 have U:(bJ bB n u).1=true→u.e=0:=fun e=>by
  by_cases he:u.e=0
  ·exact he
  ·rw[kT he] at e;cases e
 clear B;generalize bJ bB n u=m at hm O E J A U;obtain⟨b,z3⟩:=m;dsimp only at hm O E J A U;have J:z3.R.length≤u.R.length:=J;refine aA (sk 2 rfl (kc hm ?_));refine az ?_;cases b with
 | true=>
  rw[θ rfl] at A;obtain⟨e3,hn60⟩:=O rfl;have he2:=U rfl;have hf:=hf he2;have Y:=aHd hS hwt sigs binds (deep+1) E (by omega) (by omega) (by omega) (by omega);obtain⟨k1,k2,k3,k4,k5,k6,k7⟩:=iG hO hwt sigs binds (deep+1) E hs hb;generalize aT ex sigs binds (deep+1) z3=y at Y k1 k2 k3 k4 k5 k6 k7 A;obtain⟨⟨S,Bs⟩,z4⟩:=y;dsimp only at Y k1 k2 k3 k4 k5 k6 k7 A;have k7:z4.R.length≤z3.R.length:=k7;refine aB rfl (fun _=>aD (aA (aE (aC mixed (akN 5 [] rfl (kc Y ?_)))))) (fun hb=>Bool.noConfusion hb);refine kz 5 rfl (agN [] rfl ⟨((S,Bs),z4,n+1,f-1),⟨k1,k2,k3,by dsimp only;omega,fun h0=>by have:=k6 h0;dsimp only;omega,hn60,by dsimp only;omega,by dsimp only;omega,A⟩,?_,sl⟩);dsimp only;rw[θ he2];split
  ·rename_i h0;have:=k6 h0;omega
  ·omega
 | false=>
  rw[ξ ω] at A;subst A;have aa:=fR E bB;have h5:=E.need bB;have l5:=Ze.need bB z3;unfold aCu;dsimp only;generalize aQ bB z3=z5 at aa h5 l5 ⊢;have ab:=aPr sigs binds h5 (by omega) (by omega);obtain⟨p1,p2,p3,p4⟩:=fY sigs binds z5 h5 hs hb;generalize cS sigs binds z5=y at ab p1 p2 p3 p4 ⊢;obtain⟨Bs,z6⟩:=y;dsimp only at ab p1 p2 p3 p4 ⊢;have ac:=fR p1 inS;have h7:=p1.need inS;have l7:=Ze.need inS z6;generalize aQ inS z6=z7 at ac h7 l7 ⊢;have l5':z5.R.length≤z3.R.length:=l5;have p4':z6.R.length≤z5.R.length:=p4;have l7':z7.R.length≤z6.R.length:=l7;have hex:=hS (deep+1) z7 h7 (by omega) (by omega);generalize ex (deep+1) z7=y at hex ⊢;obtain⟨e,z8⟩:=y;dsimp only at hex ⊢;have hBl:binds.length=(Bs.map b6).length:=by rw[κ,p3]
  refine aB rfl (fun hb=>Bool.noConfusion hb) (fun _=>aG (sk 1 rfl (kc aa ?_)));refine az (AWp.sub (Sub.freeze (id:=510) rfl) ?_);refine sk 3 rfl (kc ab ?_);refine kz 1 rfl (sk 1 rfl (kc ac ?_));refine az (AWp.sub (Sub.freeze (id:=511) rfl) ?_);refine aA (aC mixed (akN 5 [] rfl (kc hex ?_)));refine ak 3 [(6,.all)] rfl (az ?_);unfold bD;rw[aA2];exact aF (rtC trw (hc:=.agg (.c .refl (.c .refl (.c .refl (.c .refl (.c .refl (.c .nl (.hs rfl hBl (Go.AM.take_all hBl) (.c .nl (.c .nl (.c .nl (.c .refl (.c .refl (.c .refl (.c .nl (.c .nl .nil)))))))))))))))))
end
section
variable {L:List Tk}{ex:Nat→Z→Ex×Z}{N:Nat}(hO:ExO L ex) (hS:ExS L ex N)
include hO hS
theorem aP8 (a:Int) (deep:Nat) {z:Z}(h:ZA L z) (hN:z.R.length≤N) (hd:deep≤40):aU Tryz.prog 41 [xP,I .i64 a,I .i64 (deep:Nat)] [(700,zO L z)] (.pa (bD (gQ ex a deep z).1)) [(700,zO L (gQ ex a deep z).2)]:=by
 have ab:=hS (deep+1) z h hN (by omega);obtain⟨g0,_,_,m0⟩:=hO (deep+1) z h;have hWx:∃W,W=fQ ex deep (cT ex deep z):=⟨_,rfl⟩
 obtain⟨W,A⟩:=hWx;unfold gQ;rw[←A];unfold fQ cT at A;generalize ex (deep+1) z=y at ab g0 m0 A;obtain⟨e0,z0⟩:=y;dsimp only at ab g0 m0 A;have O:=fR g0 ofS;have h1:=g0.need ofS;have l1:=Ze.need ofS z0;generalize aQ ofS z0=z1 at O h1 l1 A;have U:=fR h1 dS;have h2:=h1.need dS;have l2:=Ze.need dS z1;generalize aQ dS z1=z2 at U h2 l2 A;have hz2:z2.R.length≤z.R.length:=(m0.trans l1).trans l2;refine bC (n:=57) tok Tryz.func41 rfl rfl rfl ?_;refine sg rfl (aA (aC mixed (akN 4 [] rfl (kc ab ?_))));refine ak 4 [(5,.id 501)] rfl (az (AWp.sub (Sub.ownCell (x:=7) (k:=5) (id:=502) 43 10 rfl rfl rfl) ?_));refine sk 1 rfl (kc O ?_);refine az (sk 1 rfl (kc U ?_));refine az (aA (sg rfl (aE (aL (fun q:(List Pt×List Ex)×Z×Nat×Nat=>mk [(0,xP),(2,I .i64 (deep:Nat)),(6,.one (.vp 6 0)),(7,.one (.vp 7 0)),(8,I .i64 (q.2.2.1:Nat))] [(700,zO L q.2.1),(6,.var 35 (aIv.map .c)),(7,.var 35 [.c (.int .i64 7),.c (.int .i64 a),.c (.int .i64 0),.c (.str []),.hs 501 0 q.1.2.length q.1.2.length,.hs 502 0 q.1.1.length q.1.1.length,.c .nl,.c .nl,.c .nl,.c .nl,.c (.int .i64 0),.c (.int .i64 0),.c (.str []),.c .nl,.c .nl]),(501,.arr 35 15 (q.1.2.map bD) 0),(502,.arr 43 10 (q.1.1.map bK) 0)]) (fun q=>ZA L q.2.1∧q.2.1.R.length≤z2.R.length∧(q.2.1.e=0→q.2.1.R.length<q.2.2.2)∧q.2.2.1≤60∧q.1.1.length=q.2.2.1∧q.1.2.length=q.2.2.1+1∧W=eO ex deep q.2.2.2 q.2.2.1 q.1.1 q.1.2 q.2.1) (fun q=>if q.2.1.e=0 then q.2.1.R.length+1 else 0) (([],[e0]),z2,0,z2.R.length+1) ⟨h2,le_refl _,fun _=>B2 _,Ac _,rfl,rfl,A⟩ sl ?_))));clear A O U h1 h l1 l2;rintro⟨⟨ps,ks⟩,z3,n,f⟩ ⟨h,hR,hf,hn,hpl,hkl,A⟩;dsimp only at h hR hf hn hpl hkl A ⊢;have ac:(ps.map bK).length=ps.length:=κ _;have ad:(ks.map bD).length=ks.length:=κ _;have hm:=aHa h bB n (by omega);have ae:= @fH bB n z3;have B:=h.more bB n;have Y:=Ze.more bB n z3;have u:W=if(bJ bB n z3).1=true then eO ex deep (f-1) (n+1) (ps++[(fS (3*(bJ bB n z3).2.R.length+1) 0 (bJ bB n z3).2).1]) (ks++[(ex (deep+1) (aQ arrow (fS (3*(bJ bB n z3).2.R.length+1) 0 (bJ bB n z3).2).2)).1]) (ex (deep+1) (aQ arrow (fS (3*(bJ bB n z3).2.R.length+1) 0 (bJ bB n z3).2).2)).2 else((ps,ks),(bJ bB n z3).2):=by
  by_cases he:z3.e=0
  ·obtain⟨f,rfl⟩:∃g,f=g+1:=⟨f-1,by have:=hf he;omega⟩
   rw[eO] at A;exact A
  ·rw[kT he];rw[ξ ω];rw[A];cases f with
   | zero=>rfl
   | succ f=>rw[eO,kT he,ξ ω]
 have af:(bJ bB n z3).1=true→z3.e=0:=fun e=>by
  by_cases he:z3.e=0
  ·exact he
  ·rw[kT he] at e;cases e
 clear A;generalize bJ bB n z3=m at hm ae B Y u af;obtain⟨b,z4⟩:=m;dsimp only at hm ae B Y u af;have Y:z4.R.length≤z3.R.length:=Y;refine aA (sk 2 rfl (kc hm ?_));refine az ?_;cases b with
 | true=>
  rw[θ rfl] at u;obtain⟨e3,hn60⟩:=ae rfl;have he2:=af rfl;have hf:=hf he2;have hp:=(aSf L (3*z4.R.length+1)).2 _ (le_refl _) 0 z4 B (fun _=>le_refl _) (by decide);obtain⟨p1,_,p3,p4⟩:=(eV L (3*z4.R.length+1)).2.1 0 z4 B;generalize fS (3*z4.R.length+1) 0 z4=y at hp p1 p3 p4 u;obtain⟨p,J⟩:=y;dsimp only at hp p1 p3 p4 u;have p4:J.R.length≤z4.R.length:=p4;have hnd:=fR p1 arrow;have h6:=p1.need arrow;have l6:=Ze.need arrow J;have k6:=aW (s:=arrow) (z:=J);generalize aQ arrow J=M at hnd h6 l6 k6 u;have l6:M.R.length≤J.R.length:=l6;have hex:=hS (deep+1) M h6 (by omega) (by omega);obtain⟨x1,_,x3,x4⟩:=hO (deep+1) M h6;generalize ex (deep+1) M=y at hex x1 x3 x4 u;obtain⟨e,z7⟩:=y;dsimp only at hex x1 x3 x4 u;have x4:z7.R.length≤M.R.length:=x4;have hr1:ps.map bK++[bK p]=(ps++[p]).map bK:=by rw[Ai];rfl
  have hr2:ks.map bD++[bD e]=(ks++[e]).map bD:=by rw[Ai];rfl
  have hl1:(ps++[p]).length=ps.length+1:=by rw[ζ];rfl
  have hl2:(ks++[e]).length=ks.length+1:=by rw[ζ];rfl
  generalize ps++[p]=P at hr1 hl1 u;generalize ks++[e]=K at hr2 hl2 u;refine aB rfl (fun _=>aD (aA (aE (sk 3 rfl (kc hp ?_))))) (fun hb=>Bool.noConfusion hb);refine ak 4 [(4,.all)] rfl (az (sk 1 rfl (kc hnd ?_)));refine az (aC mixed (akN 5 [] rfl (kc hex ?_)));refine ak 4 [(6,.all)] rfl (az (agN [] rfl ⟨((P,K),z7,n+1,f-1),⟨x1,by dsimp only;omega,fun h0=>by have:=x3 h0;dsimp only;omega,hn60,by dsimp only;omega,by dsimp only;omega,u⟩,?_,?_⟩))
  ·dsimp only;rw[θ he2];split
   ·rename_i h0;have:=x3 h0;omega
   ·omega
  ·exact sl (hh:=⟨⟨_,rfl,.var rfl⟩,⟨_,rfl,.var rfl⟩,⟨_,rfl,.var (by rw[hl1,hl2,←ac,←ad];rfl)⟩,⟨_,rfl,.arrS hr2⟩,⟨_,rfl,.arrS hr1⟩,trivial⟩)
 | false=>
  rw[ξ ω] at u;subst u;dsimp only;have hnow:=fU B;have ah:=fR B bB;have h5:=B.need bB;generalize hz5:aQ bB z4=J at ah h5 ⊢;have hfl:=eL L J 12 (b4 z4).pl;have E:∃M,M=(if ps=[] then bS 12 (b4 z4).pl J else J):=⟨_,rfl⟩
  obtain⟨M,E⟩:=E;rw[←E];refine aB rfl (fun hb=>Bool.noConfusion hb) (fun _=>aG (sk 1 rfl (kc hnow ?_)));refine kz 2 rfl (sk 1 rfl (kc ah ?_));refine az (aA (AWp.cut (mk [(0,xP),(6,.one (.vp 6 0)),(7,.one (.vp 7 0))] [(700,zO L M),(6,.var 35 (aIv.map .c)),(7,.var 35 [.c (.int .i64 7),.c (.int .i64 a),.c (.int .i64 0),.c (.str []),.hs 501 0 ks.length ks.length,.hs 502 0 ps.length ps.length,.c .nl,.c .nl,.c .nl,.c .nl,.c (.int .i64 0),.c (.int .i64 0),.c (.str []),.c .nl,.c .nl]),(501,.arr 35 15 (ks.map bD) 0),(502,.arr 43 10 (ps.map bK) 0)]) ?_ ?_))
  ·refine sg rfl ?_;by_cases aa:ps=[]
   ·rw[θ aa] at E;subst aa E;refine aB rfl (fun _=>aC mixed (ak 2 [] rfl (kc hfl ?_))) (fun hb=>Bool.noConfusion hb);exact az sl
   ·rw[ξ aa] at E;subst E;have d0:decide ((ps.length:Int)=0)=false:=ψ (by have:=length_pos_iff.2 aa;omega);exact aB rfl (fun hb=>absurd (hb.symm.trans d0) Bool.noConfusion) (fun _=>aD sl)
  refine AWp.sub (Sub.freeze (id:=501) rfl) ?_;refine AWp.sub (Sub.freeze (id:=502) rfl) ?_;refine sg rfl ?_;unfold bD aKn;rw[i6];exact aF (rtC trw (hc:=.agg (.c .refl (.c .refl (.c .refl (.c .refl (.hs rfl ad.symm (Go.AM.take_all ad.symm) (.hs rfl ac.symm (Go.AM.take_all ac.symm) (.c .nl (.c .nl (.c .nl (.c .nl (.c .refl (.c .refl (.c .refl (.c .nl (.c .nl .nil)))))))))))))))))
end
theorem kB {s:Str}{z:Z}(hb:(bQ s z).1=false):(bQ s z).2=z:=by
 unfold bQ at hb ⊢;split
 ·rename_i hc;rw[θ hc] at hb;cases hb
 ·rfl
section
variable {L:List Tk}{ex:Nat→Z→Ex×Z}{N:Nat}(hO:ExO L ex) (hS:ExS L ex N) (hwt:wt L≤30000)
include hO hS hwt
theorem aT0 (deep:Nat) {z:Z}(h:ZA L z) (hN:z.R.length≤N+1) (hd:deep≤41):aU Tryz.prog 20 [xP,I .i64 (deep:Nat)] [(700,zO L z)] (.pa (bD (vR ex deep z).1)) [(700,zO L (vR ex deep z).2)]:=by
 have hn:=fU h;have ho:=gZ L z;unfold vR;refine bC (n:=82) tok Tryz.func20 rfl rfl rfl ?_;refine sg rfl (sk 1 rfl (kc hn ?_));refine kz 2 rfl (aA (sk 1 rfl (kc ho ?_)));refine kz 1 rfl ?_;by_cases he:z.e=0
 case neg=>
  rw[θ he];have d0:(!decide (z.e=0))=true:=by rw[ψ he];rfl
  exact aB rfl (fun _=>sg rfl (aF (rtC trw))) (fun hb=>absurd (hb.symm.trans d0) Bool.noConfusion)
 rw[ξ (fun k=>k he)];have d0:(!decide (z.e=0))=false:=by rw[φ he];rfl
 refine aB rfl (fun hb=>absurd (hb.symm.trans d0) Bool.noConfusion) (fun _=>aD (aA (sg rfl (aB rfl (fun hb=>?_) (fun hb=>?_)))))
 ·rw[θ (by have:=χ hb;omega)];have hfl:=eL L z 13 (b4 z).pl;refine sk 3 rfl (kc hfl ?_);exact az (sg rfl (aF (rtC trw)))
 have hd40:¬40<deep:=by have:=Ad hb;omega
 rw[ξ hd40];refine aD ?_;have u:=mP h vH;have A:=eS (s:=vH) h;have B:=h.may vH;have E:= @kB vH z;have M:=fun e=>aTs hS (b4 z).pl deep B (by have:=A e;omega) (by omega)
 generalize bQ vH z=m at u A B E M ⊢;obtain⟨b,z1⟩:=m;dsimp only at u A B E M ⊢;refine aA (sk 1 rfl (kc u ?_));refine az ?_;cases b with
 | true=>
  rw[θ rfl];have M:=M rfl;refine aB rfl (fun _=>sk 4 rfl (kc M ?_)) (fun hb=>Bool.noConfusion hb);exact kz 1 rfl (aF (rtC trw))
 | false=>
 obtain rfl:=E rfl;rw[ξ ω];clear u A B M E;refine aB rfl (fun hb=>Bool.noConfusion hb) (fun _=>aD ?_);have u:=mP h vG;have A:=eS (s:=vG) h;have B:=h.may vG;have E:= @kB vG z1;have O:=fun e=>aTp hO hS hwt (b4 z1).pl deep B (by have:=A e;omega) (by omega)
 generalize bQ vG z1=m at u A B E O ⊢;obtain⟨b,z2⟩:=m;dsimp only at u A B E O ⊢;refine aA (sk 1 rfl (kc u ?_));refine az ?_;cases b with
 | true=>
  rw[θ rfl];have O:=O rfl;refine aB rfl (fun _=>sk 4 rfl (kc O ?_)) (fun hb=>Bool.noConfusion hb);exact kz 1 rfl (aF (rtC trw))
 | false=>
 obtain rfl:=E rfl;rw[ξ ω];clear u A B O E;refine aB rfl (fun hb=>Bool.noConfusion hb) (fun _=>aD ?_);have u:=mP h kI;have A:=eS (s:=kI) h;have B:=h.may kI;have E:= @kB kI z2;have hcs:=fun e=>aP8 hO hS (b4 z2).pl deep B (by have:=A e;omega) (by omega)
 generalize bQ kI z2=m at u A B E hcs ⊢;obtain⟨b,z3⟩:=m;dsimp only at u A B E hcs ⊢;refine aA (sk 1 rfl (kc u ?_));refine az ?_;cases b with
 | true=>
  rw[θ rfl];have hcs:=hcs rfl;refine aB rfl (fun _=>sk 4 rfl (kc hcs ?_)) (fun hb=>Bool.noConfusion hb);exact kz 1 rfl (aF (rtC trw))
 | false=>
 obtain rfl:=E rfl;rw[ξ ω];clear u A B hcs E;refine aB rfl (fun hb=>Bool.noConfusion hb) (fun _=>aD ?_);have U:=aM7 hO hS deep h hN (by omega);obtain⟨o1,_,o3,o4⟩:=iT hO deep h;have hlz:=h.lp;generalize hT:b4 z3=t at hn ⊢;unfold fG;rw[hT];generalize gU ex deep z3=y at U o1 o3 o4 ⊢;obtain⟨⟨e0,b0⟩,z4⟩:=y;dsimp only at U o1 o3 o4 ⊢;have o4:z4.R.length≤z3.R.length:=o4;refine sk 2 rfl (kc U ?_);refine kz 6 rfl ?_;have Y:∃z5,z5=(if b0=false then bS 12 t.pl z4 else z4)∧ZA L z5∧z5.R.length≤z3.R.length∧(z5.e=0→z5.R.length<z3.R.length):=by
  refine⟨_,rfl,?_⟩;split
  ·exact⟨o1.fail _ _,by rw[nJ];exact o4,fun e=>(cW (by decide) e).elim⟩
  ·rename_i hb;exact⟨o1,o4,fun e=>o3 (by simpa using hb) e⟩
 obtain⟨z5,Y,h5,l5,l5'⟩:=Y;rw[←Y];have hfl:=eL L z4 12 t.pl;refine aA (AWp.cut (mk [(0,xP),(1,I .i64 (deep:Nat)),(4,.one (.vp 4 0)),(5,.one (.vp 5 0)),(6,.one (.vp 6 0))] [(700,zO L z5),(4,.var 35 (aIv.map .c)),(5,.var 85 ((aI t).map .c)),(6,.var 35 ((bD e0).map .c))]) ?_ ?_)
 ·refine sg rfl ?_;cases b0 with
  | false=>
   rw[θ rfl] at Y;subst Y;refine aB rfl (fun _=>aC mixed (ak 3 [] rfl (kc hfl ?_))) (fun hb=>Bool.noConfusion hb);exact az sl
  | true=>
   rw[ξ (show ¬(true=false) from fun k=>Bool.noConfusion k)] at Y;subst Y;exact aB rfl (fun hb=>Bool.noConfusion hb) (fun _=>aD sl)
 have hWx:∃W,W=fB ex deep t.pl (z3.R.length+1) e0 z5:=⟨_,rfl⟩
 obtain⟨W,J⟩:=hWx;rw[←J];clear U o1 o3 o4 hfl Y;refine aA (aE (aL (fun q:Ex×Z×Nat=>mk [(0,xP),(1,I .i64 (deep:Nat)),(4,.one (.vp 4 0)),(5,.one (.vp 5 0)),(6,.one (.vp 6 0))] [(700,zO L q.2.1),(4,.var 35 (aIv.map .c)),(5,.var 85 ((aI t).map .c)),(6,.var 35 ((bD q.1).map .c))]) (fun q=>ZA L q.2.1∧q.2.1.R.length≤z3.R.length∧(q.2.1.e=0→q.2.1.R.length<q.2.2)∧W=fB ex deep t.pl q.2.2 q.1 q.2.1) (fun q=>if q.2.1.e=0 then q.2.1.R.length+1 else 0) (e0,z5,z3.R.length+1) ⟨h5,l5,fun _=>by dsimp only;omega,J⟩ sl ?_));clear J h5 l5 l5';rintro⟨e,z6,f⟩ ⟨h6,l6,hf,J⟩;dsimp only at h6 l6 hf J ⊢;have ho6:=gZ L z6;have hend:∀(z7:Z) (st:St),ZA L z7→Sub (keys [(700,zO L z3)]) (mk [(0,xP),(4,.one (.vp 4 0)),(5,.one (.vp 5 0)),(6,.one (.vp 6 0))] [(700,zO L z7),(4,.var 35 (aIv.map .c)),(5,.var 85 ((aI t).map .c)),(6,.var 35 ((bD e).map .c))]) st→W=(e,z7)→
   AWp none Tryz.prog 82 (keys [(700,zO L z3)]) (jN (jN (jN (jN (jN (jN (jN (jN (jN (jN (Tryz.f20.body.getD .skip))))))))))) st (fun ex' st'=>(ex'=.normal∨ex'=.ret)∧Fin tr.flat Tryz.f20 st' [(700,zO L z3)] (.pa (bD (qG t.pl W).1)) [(700,zO L (qG t.pl W).2)]):=fun z7 st h7 hst hw=>by
  refine AWp.sub hst ?_;subst hw;have hm:=mP h7 eQ;have g2:=h7.may eQ;unfold qG;dsimp only;generalize bQ eQ z7=m at hm g2 ⊢;obtain⟨b,z8⟩:=m;dsimp only at hm g2 ⊢;refine aA (sk 1 rfl (kc hm ?_));refine az ?_;cases b with
  | true=>
   rw[θ rfl];have hsc:=wD g2 hwt;generalize bO z8=y at hsc ⊢;obtain⟨s,z9⟩:=y;dsimp only at hsc ⊢;refine aB rfl (fun _=>skh 5 [(3,.all)] rfl (kc hsc ?_)) (fun hb=>Bool.noConfusion hb);exact kz 2 rfl (aF (rtC trw))
  | false=>
   rw[ξ ω];exact aB rfl (fun hb=>Bool.noConfusion hb) (fun _=>aD (sg rfl (aF (rtC trw))))
 refine aA (sk 1 rfl (kc ho6 ?_));refine az ?_;by_cases he6:z6.e=0
 case neg=>
  have e0:fB ex deep t.pl f e z6=(e,z6):=by
   cases f with
   | zero=>rfl
   | succ f=>rw[fB,ξ he6]
  rw[e0] at J;have d0:decide (z6.e=0)=false:=ψ he6;exact aB rfl (fun hb=>absurd (hb.symm.trans d0) Bool.noConfusion) (fun _=>aG (hend z6 _ h6 sl J))
 have d0:decide (z6.e=0)=true:=φ he6;have hf:=hf he6;obtain⟨f,rfl⟩:∃g,f=g+1:=⟨f-1,by omega⟩
 rw[fB,θ he6] at J;have U:=aM7 hO hS deep h6 (by omega) (by omega);obtain⟨o1,_,o3,o4⟩:=iT hO deep h6;generalize gU ex deep z6=y at U o1 o3 o4 J;obtain⟨⟨a,b⟩,z7⟩:=y;dsimp only at U o1 o3 o4 J;have o4:z7.R.length≤z6.R.length:=o4;refine aB rfl (fun _=>aD (aE (sk 2 rfl (kc U ?_)))) (fun hb=>absurd (hb.symm.trans d0) Bool.noConfusion);refine kz 6 rfl (aA (sg rfl ?_));cases b with
 | false=>
  rw[θ rfl] at J;exact aB rfl (fun _=>aG (hend z7 _ o1 sl J)) (fun hb=>Bool.noConfusion hb)
 | true=>
  rw[ξ (show ¬(true=false) from fun k=>Bool.noConfusion k)] at J;refine aB rfl (fun hb=>Bool.noConfusion hb) (fun _=>aD (ag [(4,.all)] rfl ⟨(aL2 t.pl e a,z7,f),⟨o1,by dsimp only;omega,fun h0=>by have:=o3 rfl h0;dsimp only;omega,J⟩,?_,Sub.trans ?_ (vp 6 (bD (aL2 t.pl e a)))⟩))
  rotate_left
  ·exact sl
  dsimp only;rw[θ he6];split
  ·rename_i h0;have:=o3 rfl h0;omega
  ·omega
end
theorem aS3 {L:List Tk}(hwt:wt L≤30000):∀f,ExS L (aC2 f) f
 | 0=>fun deep z h hN _=>by have:=h.lp;omega
 | f+1=>fun deep z h hN g=>aT0 (kE hwt f) (aS3 hwt f) hwt deep h hN g
structure Cl where
 name:Str
 pl:Int
 var:Str
 supers:List Str
 methods:List Sg
structure In where
 cls:Str
 pl:Int
 con:Str
 vars:List Str
 preds:List Prd
 binds:List Bd
structure Pg where
 datas:List Dt
 classes:List Cl
 insts:List In
 binds:List Bd
def qP (c:Cl):List C:=[.str c.name,.int .i64 c.pl,.str c.var,.sl 1 [],.sl 1 (c.supers.map aR),.sl 9 (c.methods.map cX)]
def tC (x:In):List C:=[.str x.cls,.int .i64 x.pl,.str x.con,.sl 1 (x.vars.map aR),.sl 5 (x.preds.map aS),.sl 33 (x.binds.map b6)]
def mI (p:Pg):List C:=[.sl 5 (p.datas.map tD),.sl 6 (p.classes.map qP),.sl 6 (p.insts.map tC),.sl 33 (p.binds.map b6)]
def zPg:Pg:=⟨[],[],[],[]⟩
def nL:Str:=[100,97,116,97]
def iI:Str:=[99,108,97,115,115]
def nG:Str:=[105,110,115,116,97,110,99,101]
def dI (v:Str) (a:Int):List Prd→List Str→Z→List Str×Z
 | [],out,z=>(out,z)
 | p::l,out,z=>if z.e=0 then dI v a l (out++[p.cls]) (if p.ty.form=2∧p.ty.name=v then z else bS 12 a z) else(out,z)
def qL (cls v:Str) (s:Sch):Sch:=⟨v::s.vars.filter (fun x=>!decide (x=v)),⟨cls,.mk 2 0 v []⟩::s.preds,s.ty⟩
def oB (cls v:Str) (z:Z):Sg×Z:=(⟨(b5 1 z).1.text,(b5 1 z).1.pl,qL cls v (bO (aQ eQ (b5 1 z).2)).1⟩,(bO (aQ eQ (b5 1 z).2)).2)
def jG (cls v:Str) (a:Int):Nat→Nat→List Sg→Z→List Sg×Z
 | 0,_,out,z=>(out,z)
 | f+1,n,out,z=>if(bJ bB n z).1=true then jG cls v a f (n+1) (out++[(oB cls v (bJ bB n z).2).1]) (cK (out++[(oB cls v (bJ bB n z).2).1]).length 16 a (oB cls v (bJ bB n z).2).2) else(out,(bJ bB n z).2)
def iJ (z:Z):List Prd×Tk×Tk×Z:=((bT z).1,(b5 2 (bT z).2).1,(b5 1 (b5 2 (bT z).2).2).1,(b5 1 (b5 2 (bT z).2).2).2)
def nZ (y:List Prd×Tk×Tk×Z):List Str×Z:=((dI y.2.2.1.text y.2.1.pl y.1 [] y.2.2.2).1,aQ dS (dI y.2.2.1.text y.2.1.pl y.1 [] y.2.2.2).2)
def vY (y:List Prd×Tk×Tk×Z) (w:List Str×Z):List Sg×Z:=jG y.2.1.text y.2.2.1.text y.2.1.pl (w.2.R.length+1) 0 [] w.2
def iH (z:Z):Cl×Z:=(⟨(iJ z).2.1.text,(iJ z).2.1.pl,(iJ z).2.2.1.text,(nZ (iJ z)).1,(vY (iJ z) (nZ (iJ z))).1⟩,aQ bB (vY (iJ z) (nZ (iJ z))).2)
def i5 (a:Int):List Prd→Z→Z
 | [],z=>z
 | p::l,z=>i5 a l (if z.e=0∧¬p.ty.form=2 then bS 12 a z else z)
def gY (z:Z):List Prd×Tk×Bool×Tk×Z:=
 ((bT z).1,(b5 2 (bT z).2).1,(bQ cE (b5 2 (bT z).2).2).1,(b5 2 (bQ cE (b5 2 (bT z).2).2).2).1,(b5 2 (bQ cE (b5 2 (bT z).2).2).2).2)
def instV (b:Bool) (z:Z):List Str×Z:=if b=true then((aZ z).1.map (·.text),aQ lZ (aZ z).2) else([],z)
def vI (y:List Prd×Tk×Bool×Tk×Z) (w:List Str×Z):Z:=aQ dS (i5 y.2.1.pl y.1 (if w.2.e=0 then cK w.1.length 8 y.2.1.pl w.2 else w.2))
section
variable (ex:Nat→Z→Ex×Z)
def fP:Nat→Nat→List Bd→Z→List Bd×Z
 | 0,_,out,z=>(out,z)
 | f+1,n,out,z=>if(bJ bB n z).1=true then fP f (n+1) (out++[(dR ex (b5 1 (bJ bB n z).2).1 0 (b5 1 (bJ bB n z).2).2).1]) (dR ex (b5 1 (bJ bB n z).2).1 0 (b5 1 (bJ bB n z).2).2).2 else(out,(bJ bB n z).2)
def aFy (z:Z):List Bd×Z:=fP ex (z.R.length+1) 0 [] z
def pQ (z:Z):In×Z:=
 (⟨(gY z).2.1.text,(gY z).2.1.pl,(gY z).2.2.2.1.text,(instV (gY z).2.2.1 (gY z).2.2.2.2).1,(gY z).1,(aFy ex (vI (gY z) (instV (gY z).2.2.1 (gY z).2.2.2.2))).1⟩,
  aQ bB (aFy ex (vI (gY z) (instV (gY z).2.2.1 (gY z).2.2.2.2))).2)
def jM (p:Pg) (sigs:List Sg) (z:Z):(Pg×List Sg)×Z:=
 if(bQ nL z).1=true then((⟨p.datas++[(oE (bQ nL z).2).1],p.classes,p.insts,p.binds⟩,sigs),(oE (bQ nL z).2).2)
 else if(bQ iI z).1=true then((⟨p.datas,p.classes++[(iH (bQ iI z).2).1],p.insts,p.binds⟩,sigs),(iH (bQ iI z).2).2)
 else if(bQ nG z).1=true then((⟨p.datas,p.classes,p.insts++[(pQ ex (bQ nG z).2).1],p.binds⟩,sigs),(pQ ex (bQ nG z).2).2)
 else((⟨p.datas,p.classes,p.insts,(aT ex sigs p.binds 0 z).1.2⟩,(aT ex sigs p.binds 0 z).1.1),(aT ex sigs p.binds 0 z).2)
def m9:Nat→Nat→Pg→List Sg→Z→(Pg×List Sg)×Z
 | 0,_,p,sigs,z=>((p,sigs),z)
 | f+1,n,p,sigs,z=>if(bJ [] n z).1=true then m9 f (n+1) (jM ex p sigs (bJ [] n z).2).1.1 (jM ex p sigs (bJ [] n z).2).1.2 (jM ex p sigs (bJ [] n z).2).2 else((p,sigs),(bJ [] n z).2)
def zY (y:(Pg×List Sg)×Z):Pg×Z:=(⟨y.1.1.datas,y.1.1.classes,y.1.1.insts,(cS y.1.2 y.1.1.binds y.2).1⟩,(cS y.1.2 y.1.1.binds y.2).2)
def kO (z:Z):Pg×Z:=zY (m9 ex (z.R.length+1) 0 zPg [] z)
end
def iZ (z:Z):Z:=if z.e=0∧¬(b4 z).kind=6 then bS 12 (b4 z).pl z else z
def sgO (s:Sg):Prop:=WF s.ty.ty∧tn s.ty.ty≤30000∧(∀p∈s.ty.preds,WF p.ty∧tn p.ty≤30000)∧s.ty.preds.length≤4002∧s.ty.vars.length≤120060001
structure ClOk (c:Cl):Prop where
 s:c.supers.length≤4001
 m:c.methods.length≤60∧∀m∈c.methods,sgO m
structure InOk (x:In):Prop where
 v:x.vars.length≤4001
 p:x.preds.length≤4001∧∀p∈x.preds,WF p.ty∧tn p.ty≤30000
 b:x.binds.length≤60∧fA x.binds
structure DtOk (d:Dt):Prop where
 v:d.vars.length≤4001
 c:d.cons.length≤4002∧∀c∈d.cons,c.fields.length≤4002∧∀x∈c.fields,WF x∧tn x≤30000
theorem qX {L:List Tk}(v:Str) (a:Int):∀(l:List Prd) (out:List Str) (z:Z),ZA L z→ZA L (dI v a l out z).2∧(dI v a l out z).1.length≤out.length+l.length∧Ze z (dI v a l out z).2
 | [],out,z,h=>⟨h,le_refl _,Ze.refl z⟩
 | p::l,out,z,h=>by
  rw[dI];split
  ·have h1:ZA L (if p.ty.form=2∧p.ty.name=v then z else bS 12 a z)∧Ze z (if p.ty.form=2∧p.ty.name=v then z else bS 12 a z):=by
    split
    ·exact⟨h,Ze.refl z⟩
    ·exact⟨h.fail _ _,Ze.fail _ _ z⟩
   obtain⟨g,q,u⟩:=qX v a l (out++[p.cls]) _ h1.1;exact⟨g,by rw[ζ,Bg] at q;rw[Aa];omega,h1.2.trans u⟩
  ·exact⟨h,by rw[Aa];dsimp only;omega,Ze.refl z⟩
theorem vM {L:List Tk}(a:Int):∀(l:List Prd) (z:Z),ZA L z→ZA L (i5 a l z)∧Ze z (i5 a l z)
 | [],z,h=>⟨h,Ze.refl z⟩
 | p::l,z,h=>by
  rw[i5];have h1:ZA L (if z.e=0∧¬p.ty.form=2 then bS 12 a z else z)∧Ze z (if z.e=0∧¬p.ty.form=2 then bS 12 a z else z):=by
   split
   ·exact⟨h.fail _ _,Ze.fail _ _ z⟩
   ·exact⟨h,Ze.refl z⟩
  obtain⟨g,q⟩:=vM a l _ h1.1;exact⟨g,h1.2.trans q⟩
theorem mB {L:List Tk}{z:Z}(h:ZA L z) (hwt:wt L≤30000):ZA L (bT z).2∧((bT z).1.length≤4001∧∀p∈(bT z).1,WF p.ty∧tn p.ty≤30000)∧Ze z (bT z).2:=by
 refine⟨h.preds,?_⟩;have hw:=h.wt;have hl:=h.len;unfold bT;split
 ·cases hs:cU z.R with
  | error e=>obtain⟨e,p⟩:=e;exact⟨⟨Ac _,fun p hp=>(by cases hp)⟩,Ze.refl z⟩
  | ok y=>
   obtain⟨s,R'⟩:=y;obtain⟨_,⟨p,h2,_⟩,g,q⟩:=kP hs;refine⟨⟨by show s.length≤_;omega,fun p hp=>⟨(g p hp).1,by have:=(g p hp).2;omega⟩⟩,?_⟩;show R'.length≤_;rw[h2,ζ];omega
 ·exact⟨⟨Ac _,fun p hp=>(by cases hp)⟩,Ze.refl z⟩
theorem aD3 {L:List Tk}{z:Z}(h:ZA L z) (hwt:wt L≤30000) (k:Int):(b5 k z).1.text.length≤29994:=by
 have hw:=h.wt;obtain⟨R,e,p⟩:=z;obtain⟨t,R,rfl⟩:=h.e.ne;unfold b5;split
 ·show t.text.length≤_;have hw:wt (t::R)≤wt L:=hw;rw[cB] at hw;omega
 ·exact Ac _
theorem aJz (cls v:Str) {s:Sch}(h:SchOk s) (g:v.length≤29994) (t:Str) (a:Int):sgO ⟨t,a,qL cls v s⟩:=by
 refine⟨h.t.1,h.t.2,fun p hp=>?_,?_,?_⟩
 ·rcases Ar.1 hp with rfl | hp
  ·exact⟨⟨rfl,rfl⟩,by show tn (.mk 2 0 v [])≤_;rw[tn,tns];omega⟩
  ·exact h.p p hp
 ·show(_::s.preds).length≤_;rw[Aa];have:=h.l;omega
 ·show(v::s.vars.filter _).length≤_;rw[Aa];have:=List.length_filter_le (fun x=>!decide (x=v)) s.vars;have:=h.v;omega
theorem vA {L:List Tk}(hwt:wt L≤30000) (cls v:Str) (g:v.length≤29994) (a:Int):∀(f n:Nat) (out:List Sg) (z:Z),ZA L z→n≤60→out.length=n→(∀m∈out,sgO m)→ZA L (jG cls v a f n out z).2∧((jG cls v a f n out z).1.length≤60∧∀m∈(jG cls v a f n out z).1,sgO m)∧Ze z (jG cls v a f n out z).2
 | 0,n,out,z,h,hn,hl,ho=>by rw[jG];exact⟨h,⟨by dsimp only;omega,ho⟩,Ze.refl z⟩
 | f+1,n,out,z,h,hn,hl,ho=>by
  rw[jG];split
  ·rename_i hm;obtain⟨_,q⟩:=fH hm;have h1:=h.more bB n;obtain⟨A,B,_,E⟩:=gC ((h1.word (k:=1) (by decide)).need eQ) hwt;have u:∀m∈out++[(oB cls v (bJ bB n z).2).1],sgO m:=fun m hm=>by
    rcases Ba.1 hm with hm | hm
    ·exact ho m hm
    ·rw[As.1 hm];exact aJz cls v B g _ _
   have y:(out++[(oB cls v (bJ bB n z).2).1]).length=n+1:=by rw[ζ,hl];rfl
   obtain⟨I,J,M⟩:=vA hwt cls v g a f (n+1) _ (cK (out++[(oB cls v (bJ bB n z).2).1]).length 16 a (oB cls v (bJ bB n z).2).2) (ZA.long A _ _ _) q y u;exact⟨I,J,((((Ze.more bB n z).trans (Ze.word 1 _)).trans (Ze.need eQ _)).trans E).trans ((Ze.long _ _ _ _).trans M)⟩
  ·exact⟨h.more _ _,⟨by dsimp only;omega,ho⟩,Ze.more _ _ _⟩
theorem aGp {L:List Tk}{z:Z}(h:ZA L z) (hwt:wt L≤30000):ZA L (iH z).2∧ClOk (iH z).1∧Ze z (iH z).2:=by
 obtain⟨q,U,u⟩:=mB h hwt;have h2:=q.word (k:=2) (by decide);have y:=h2.word (k:=1) (by decide);have A:=aD3 h2 hwt 1;obtain⟨B,E,I⟩:=qX (b5 1 (b5 2 (bT z).2).2).1.text (b5 2 (bT z).2).1.pl (bT z).1 [] _ y;obtain⟨J,M,O⟩:=vA hwt (iJ z).2.1.text (iJ z).2.2.1.text A (iJ z).2.1.pl ((nZ (iJ z)).2.R.length+1) 0 [] _ (B.need dS) (Ac _) rfl (fun m hm=>by cases hm);refine⟨J.need _,⟨?_,M⟩,(((u.trans (Ze.word 2 _)).trans (Ze.word 1 _)).trans I).trans ((Ze.need dS _).trans (O.trans (Ze.need bB _)))⟩;show(dI _ _ _ _ _).1.length≤_;have g:(dI (b5 1 (b5 2 (bT z).2).2).1.text (b5 2 (bT z).2).1.pl (bT z).1 [] (b5 1 (b5 2 (bT z).2).2).2).1.length≤0+(bT z).1.length:=E;exact le_trans g (by omega)
theorem aAo {L:List Tk}(b:Bool) {z:Z}(h:ZA L z):ZA L (instV b z).2∧(instV b z).1.length≤4001∧Ze z (instV b z).2:=by
 unfold instV;split
 ·exact⟨h.words.need _,by rw[κ];exact eU h,(Ze.words z).trans (Ze.need _ _)⟩
 ·exact⟨h,Ac _,Ze.refl z⟩
theorem aJ8 {L:List Tk}(y:List Prd×Tk×Bool×Tk×Z) (w:List Str×Z) (h:ZA L w.2):ZA L (vI y w)∧Ze w.2 (vI y w):=by
 have h1:ZA L (if w.2.e=0 then cK w.1.length 8 y.2.1.pl w.2 else w.2)∧Ze w.2 (if w.2.e=0 then cK w.1.length 8 y.2.1.pl w.2 else w.2):=by
  split
  ·exact⟨h.long _ _ _,Ze.long _ _ _ _⟩
  ·exact⟨h,Ze.refl _⟩
 obtain⟨g,q⟩:=vM y.2.1.pl y.1 _ h1.1;exact⟨g.need _,(h1.2.trans q).trans (Ze.need _ _)⟩
section
variable {L:List Tk}{ex:Nat→Z→Ex×Z}(hO:ExO L ex) (hwt:wt L≤30000)
include hO
theorem rD:∀(f n:Nat) (out:List Bd) (z:Z),ZA L z→n≤60→out.length=n→fA out→ZA L (fP ex f n out z).2∧((fP ex f n out z).1.length≤60∧fA (fP ex f n out z).1)∧Ze z (fP ex f n out z).2
 | 0,n,out,z,h,hn,hl,ho=>by rw[fP];exact⟨h,⟨by dsimp only;omega,ho⟩,Ze.refl z⟩
 | f+1,n,out,z,h,hn,hl,ho=>by
  rw[fP];split
  ·rename_i hm;obtain⟨_,g⟩:=fH hm;obtain⟨q,u,_,y⟩:=tQ hO (b5 1 (bJ bB n z).2).1 0 ((h.more bB n).word (k:=1) (by decide));obtain⟨A,B,E⟩:=rD f (n+1) _ _ q g (by rw[ζ,hl];rfl) (mR ho u);exact⟨A,B,(((Ze.more bB n z).trans (Ze.word 1 _)).trans y).trans E⟩
  ·exact⟨h.more _ _,⟨by dsimp only;omega,ho⟩,Ze.more _ _ _⟩
include hwt
theorem aJ7 {z:Z}(h:ZA L z):ZA L (pQ ex z).2∧InOk (pQ ex z).1∧Ze z (pQ ex z).2:=by
 obtain⟨g,q,u⟩:=mB h hwt;have h2:=((g.word (k:=2) (by decide)).may cE).word (k:=2) (by decide);have y:=((u.trans (Ze.word 2 _)).trans (Ze.may cE _)).trans (Ze.word 2 _);obtain⟨A,B,E⟩:=aAo (gY z).2.2.1 h2;obtain⟨I,J⟩:=aJ8 (gY z) (instV (gY z).2.2.1 (gY z).2.2.2.2) A;obtain⟨M,O,U⟩:=rD hO ((vI (gY z) (instV (gY z).2.2.1 (gY z).2.2.2.2)).R.length+1) 0 [] _ I (Ac _) rfl trivial;exact⟨M.need _,⟨B,q,O⟩,(y.trans E).trans (J.trans (U.trans (Ze.need _ _)))⟩
end
def aWv:List C:=[.str [],.int .i64 0,.str [],.nl,.nl,.nl]
section
variable {L:List Tk}{ex:Nat→Z→Ex×Z}{N:Nat}(hO:ExO L ex) (hS:ExS L ex N) (hwt:wt L≤30000)
include hO hS hwt
end
def aTb (c:Cn):Prop:=c.fields.length≤4002∧∀x∈c.fields,WF x∧tn x≤30000
theorem aPl {L:List Tk}{z:Z}(h:ZA L z) (hwt:wt L≤30000):ZA L (tG z).2∧aTb (tG z).1∧Ze z (tG z).2:=by
 have h1:=h.word (k:=2) (by decide);have hl:=h1.len;obtain⟨q,g,u,y⟩:=rE ((b5 2 z).2.R.length+1) [] _ h1 (fun x hx=>by cases hx) (by rw[length_nil];omega);exact⟨q.long _ _ _,⟨y,fun x hx=>⟨(g x hx).1,by have:=(g x hx).2;omega⟩⟩,((Ze.word 2 z).trans u).trans (Ze.long _ _ _ _)⟩
theorem aA7 {L:List Tk}(hwt:wt L≤30000) (a:Int):∀(f:Nat) (out:List Cn) (z:Z),ZA L z→out.length+z.R.length≤4002→(∀c∈out,aTb c)→ZA L (mK f a out z).2∧((mK f a out z).1.length≤4002∧∀c∈(mK f a out z).1,aTb c)∧Ze z (mK f a out z).2
 | 0,out,z,h,hl,ho=>by rw[mK];exact⟨h,⟨by dsimp only;omega,ho⟩,Ze.refl z⟩
 | f+1,out,z,h,hl,ho=>by
  rw[mK];obtain⟨u,y,A⟩:=aPl h hwt;have h2:=u.long (out++[(tG z).1]).length 16 a;have q:=A.trans (Ze.long (out++[(tG z).1]).length 16 a _);have hle:(out++[(tG z).1]).length=out.length+1:=by rw[ζ];rfl
  have g:∀c∈out++[(tG z).1],aTb c:=fun c hc=>by
   rcases Ba.1 hc with hc | hc
   ·exact ho c hc
   ·rw[As.1 hc];exact y
  have J:=h.lp;split
  ·rename_i hm;have M:=eS h2 hm;have O:(cK (out++[(tG z).1]).length 16 a (tG z).2).R.length≤z.R.length:=q;obtain⟨B,E,I⟩:=aA7 hwt a f _ _ (h2.may aDg) (by omega) g;exact⟨B,E,(q.trans (Ze.may _ _)).trans I⟩
  ·exact⟨h2.may aDg,⟨by dsimp only;omega,g⟩,q.trans (Ze.may _ _)⟩
theorem aKk {L:List Tk}{z:Z}(h:ZA L z) (hwt:wt L≤30000):ZA L (oE z).2∧DtOk (oE z).1∧Ze z (oE z).2:=by
 have h1:=h.word (k:=2) (by decide);have g:=eU h1;have h2:ZA L (lO z).2.2:=(h1.words.long _ _ _).need _;have q:Ze z (lO z).2.2:=((Ze.word 2 z).trans (Ze.words _)).trans ((Ze.long _ _ _ _).trans (Ze.need _ _));have hc:ZA L (lP (lO z)).2∧((lP (lO z)).1.length≤4002∧∀c∈(lP (lO z)).1,aTb c)∧Ze (lO z).2.2 (lP (lO z)).2:=by
  unfold lP;split
  ·exact aA7 hwt _ _ [] _ h2 (by rw[length_nil];have:=h2.len;omega) (fun c hc=>by cases hc)
  ·exact⟨h2,⟨Ac _,fun c hc=>(by cases hc)⟩,Ze.refl _⟩
 exact⟨hc.1,⟨by show((lO z).2.1.map _).length≤_;rw[κ];exact g,hc.2.1⟩,q.trans hc.2.2⟩
structure PgOk (n:Nat) (p:Pg):Prop where
 d:p.datas.length≤n∧∀d∈p.datas,DtOk d
 c:p.classes.length≤n∧∀c∈p.classes,ClOk c
 i:p.insts.length≤n∧∀x∈p.insts,InOk x
 b:p.binds.length≤n∧fA p.binds
theorem aIf {α:Type}{l:List α}{x:α}{n:Nat}(h:l.length≤n):(l++[x]).length≤n+1:=by rw[ζ,Bg];omega
theorem yX {α:Type}{P:α→Prop}{l:List α}{x:α}(h:∀y∈l,P y) (hx:P x):∀y∈l++[x],P y:=fun y hy=>by
 rcases Ba.1 hy with hy | hy
 ·exact h y hy
 ·rw[As.1 hy];exact hx
section
variable {L:List Tk}{ex:Nat→Z→Ex×Z}(hO:ExO L ex) (hwt:wt L≤30000)
include hO hwt
theorem aA6 {n:Nat}{p:Pg}{sigs:List Sg}{z:Z}(h:ZA L z) (hp:PgOk n p) (hs:fX sigs∧sigs.length≤n):ZA L (jM ex p sigs z).2∧PgOk (n+1) (jM ex p sigs z).1.1∧(fX (jM ex p sigs z).1.2∧(jM ex p sigs z).1.2.length≤n+1)∧((jM ex p sigs z).2.e=0→(jM ex p sigs z).2.R.length<z.R.length)∧Ze z (jM ex p sigs z).2:=by
 obtain⟨u,hc,hi,hb⟩:=hp;have up:∀{m:Nat},m≤n→m≤n+1:=fun h=>Nat.le_succ_of_le h
 unfold jM;split
 ·rename_i hm;have g:=eS h hm;obtain⟨y,A,B⟩:=aKk (h.may nL) hwt;have q:(oE (bQ nL z).2).2.R.length≤(bQ nL z).2.R.length:=B;exact⟨y,⟨⟨aIf u.1,yX u.2 A⟩,⟨up hc.1,hc.2⟩,⟨up hi.1,hi.2⟩,⟨up hb.1,hb.2⟩⟩,⟨hs.1,up hs.2⟩,fun _=>Bt q g,Ct (Bt q g)⟩
 split
 ·rename_i hm;have g:=eS h hm;obtain⟨y,A,B⟩:=aGp (h.may iI) hwt;have q:(iH (bQ iI z).2).2.R.length≤(bQ iI z).2.R.length:=B;exact⟨y,⟨⟨up u.1,u.2⟩,⟨aIf hc.1,yX hc.2 A⟩,⟨up hi.1,hi.2⟩,⟨up hb.1,hb.2⟩⟩,⟨hs.1,up hs.2⟩,fun _=>Bt q g,Ct (Bt q g)⟩
 split
 ·rename_i hm;have g:=eS h hm;obtain⟨y,A,B⟩:=aJ7 hO hwt (h.may nG);have q:(pQ ex (bQ nG z).2).2.R.length≤(bQ nG z).2.R.length:=B;exact⟨y,⟨⟨up u.1,u.2⟩,⟨up hc.1,hc.2⟩,⟨aIf hi.1,yX hi.2 A⟩,⟨up hb.1,hb.2⟩⟩,⟨hs.1,up hs.2⟩,fun _=>Bt q g,Ct (Bt q g)⟩
 ·obtain⟨y,A,B,J,M,E,I⟩:=iG hO hwt sigs p.binds 0 h hs.1 hb.2;exact⟨y,⟨⟨up u.1,u.2⟩,⟨up hc.1,hc.2⟩,⟨up hi.1,hi.2⟩,⟨by show(aT ex sigs p.binds 0 z).1.2.length≤_;omega,B⟩⟩,⟨A,by show(aT ex sigs p.binds 0 z).1.1.length≤_;omega⟩,E,I⟩
end
section
variable {L:List Tk}{ex:Nat→Z→Ex×Z}{N:Nat}(hO:ExO L ex) (hS:ExS L ex N) (hwt:wt L≤30000)
include hO hS hwt
end
end Go.Proofs.YtkhgpgihmphfdaaGreat
