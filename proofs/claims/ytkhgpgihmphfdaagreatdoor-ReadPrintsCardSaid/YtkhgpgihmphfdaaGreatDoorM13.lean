/-
  Texts Rd70 to Rw3 in one.
-/
import Derived.Test.YtkhgpgihmphfdaaGreatDoorM12
import Derived.Shelf.Strings.OnBuilder
import Derived.Shelf.Strconv.Itoa3
import Derived.Lib.LaidTab
open List (append_assoc append_nil cons_append drop_eq_getElem_cons drop_length length_append length_cons length_map length_nil length_pos_iff length_take map_append map_cons map_nil mem_append mem_cons mem_cons_of_mem mem_cons_self mem_singleton nil_append sum_append sum_cons take_length take_nil take_succ_cons take_zero)
open Nat (add_zero le_refl le_trans lt_of_lt_of_le lt_succ_self mul_one succ_pos zero_le)
namespace Go.Proofs.YtkhgpgihmphfdaaGreatDoor
open Go Go.AM
set_option maxRecDepth 20000
set_option maxHeartbeats 4000000
theorem xA (q v:Tk):∀(f n:Nat) (out:List Sg) (z:Z),eO q.text v.text q.pl f n out z=lpZ b5 (clS q v) f n out z
 | 0,_,_,_=>rfl
 | f+1,n,out,z=>by
  rw[eO,lpZ];split
  ·exact xA q v f _ _ _
  ·rfl
theorem vP {v:Str}{a:Int}{l:List Prd}{out:List Str}{z:Z}(h:¬z.e=0):(bX v a l out z).2=z:=by
 cases l with
 | nil=>rfl
 | cons p l=>rw[bX,η h]
theorem oU {y:List Prd×Tk×Tk×Z}(h:¬y.2.2.2.e=0):aQ b5 (kC y (eP y)).2=y.2.2.2:=by
 have h1:(eP y).2=y.2.2.2:=by unfold eP;dsimp only;rw[vP h];exact bK h
 unfold kC;rw[xA,iL (by rw[h1];exact h),h1];exact bK h
theorem aU7 (E v:Tk) (sup:List Str) {step:(List Sg)→Z→(List Sg)×Z}{Inv:Nat→(List Sg)→Prop}{L:List Tk}{N:Nat}
  (hone:∀n s z,Inv n s→n<60→ZA L z→z.e=0→z.R.length≤N→bH Tryz.prog 159 ([]++[R.vp 1 0,R.c (.pt (aI v)),R.vp 6 0,R.c (.pt (aI E))].map V.one) ((600,rO L z)::aHq E v sup s) (iP L (.tup []) (step s z).2 (aHq E v sup (step s z).1)))
  (hst:∀n s z,Inv n s→n<60→ZA L z→z.e=0→ZA L (step s z).2∧Inv (n+1) (step s z).1∧((step s z).2.e=0→(step s z).2.R.length<z.R.length)∧Ze z (step s z).2)
  {z:Z} (h:ZA L z) (he:z.e=0) (hN:z.R.length≤N) {s:(List Sg)} (hI:Inv 0 s):
  bH Tryz.prog 113 [rP,.one (.clo 194 [R.vp 2 0]),.one (.clo 159 [R.vp 1 0,R.c (.pt (aI v)),R.vp 6 0,R.c (.pt (aI E))])] ((600,rO L z)::(2,pR)::aHq E v sup s) (iP L (.tup []) (lpZ b5 step (z.R.length+1) 0 s z).2 ((2,pR)::aHq E v sup (lpZ b5 step (z.R.length+1) 0 s z).1)):=by
 have u:∃W,W=lpZ b5 step (z.R.length+1) 0 s z:=⟨_,rfl⟩
 obtain⟨W,u⟩:=u;rw[←u];refine pI (n:=35) tok Tryz.func113 rfl rfl rfl rfl ?_;refine sg rfl (aF (aJ (fun q:Nat×(List Sg)×Z×Nat=>mk [(0,rP),(1,.one (.clo 194 [R.vp 2 0])),(2,.one (.clo 159 [R.vp 1 0,R.c (.pt (aI v)),R.vp 6 0,R.c (.pt (aI E))])),(6,I .i64 (q.1:Nat))] ((600,rO L q.2.2.1)::(2,pR)::aHq E v sup q.2.1)) (fun q=>Inv q.1 q.2.1∧q.1≤60∧ZA L q.2.2.1∧q.2.2.1.e=0∧q.2.2.1.R.length≤N∧q.2.2.1.R.length<q.2.2.2∧moreA b5 q.1 q.2.2.1=q.2.2.1∧W=lpZ b5 step q.2.2.2 q.1 q.2.1 q.2.2.1) (fun q=>q.2.2.1.R.length) (0,s,z,z.R.length+1) ⟨hI,Ab _,h,he,hN,Bv _,tO _ _,u⟩ sl ?_));clear u h he hN hI;rintro⟨n,s,z,f⟩ ⟨hI,hn,h,he,hN,hf,hA,u⟩;dsimp only at hI hn h he hN hf hA u;refine aF (aA (aF (aJ (fun y:Z=>mk [(0,rP),(1,.one (.clo 194 [R.vp 2 0])),(2,.one (.clo 159 [R.vp 1 0,R.c (.pt (aI v)),R.vp 6 0,R.c (.pt (aI E))])),(6,I .i64 (n:Nat))] ((600,rO L y)::(2,pR)::aHq E v sup s)) (fun y=>ZA L y∧y.e=0∧dC z=dC y∧y.R.length≤z.R.length) (fun y=>y.R.length) z ⟨h,he,rfl,le_refl _⟩ sl ?_)));rintro y ⟨h2,B,e2,hle2⟩

 have hm:=gH h2 B cM;obtain⟨m1,m2,m3⟩:=nK h2;have U:=h2.may cM;have he3:=(jW cM y).trans B;generalize bT cM y=m at hm m1 m2 m3 U he3;obtain⟨b,z3⟩:=m;dsimp only at m1 m2 m3 U he3;refine aA (sk 1 rfl (kc hm ?_));refine az (aB rfl (fun hb=>?_) (fun hb=>?_))
 ·have hb:b=true:=hb;have:=m3 hb;exact aD (aF (aD ⟨z3,⟨U,he3,e2.trans m1.symm,by omega⟩,m3 hb,sl⟩))
 have hb:b=false:=hb;obtain⟨g1,g2⟩:=m2 hb;subst g1;have e3:dC z=z3:=e2.trans g2;clear m1 m2 m3 U e2 hm;have hf0:∃g,f=g+1:=⟨f-1,by omega⟩
 obtain⟨f,rfl⟩:=hf0;rw[lpZ] at u;unfold b6 at u;rw[hA,e3] at u;have hs3:=rM h2;have hn3:=eQ h2;refine aH (aA (sk 1 rfl (kv (args:=[]) hs3 ?_)));refine az (aB rfl (fun hb=>?_) (fun hb=>?_))
 ·have hb:eD b5 z3=true:=hb;rw[ζ (show ¬z3.e=0∨eD b5 z3=true from .inr hb)] at u;rw[η χ] at u;rw[u,bC B];exact aE rtN
 have hb:eD b5 z3=false:=hb;have hnb:¬(¬z3.e=0∨eD b5 z3=true):=fun k=>k.elim (fun k=>k B) fun k=>by rw[hb] at k;cases k
 rw[η hnb] at u;refine aD ?_;by_cases hn60:n<60
 case neg=>
  have d:decide (((n:Nat):Int)<60)=false:=φ (by omega);rw[iE (by omega) B] at u;dsimp only at u;rw[φ cS,η χ] at u;rw[u,aL cS];have hmn:=bO 2 (b8 z3).pl;refine sk 5 rfl (kc hn3 ?_);refine ak 1 [] rfl ?_;rw[d];exact kp hmn
 have d:decide (((n:Nat):Int)<60)=true:=θ (by omega);rw[iD (by omega),θ B,ζ rfl] at u;have hmo:=bN 2 (b8 z3).pl;refine sk 5 rfl (kc hn3 ?_);refine ak 1 [] rfl ?_;rw[d];refine kc hmo ?_;refine az ?_;have ho:=hone n s z3 hI hn60 h2 B (by omega);obtain⟨J,k2,k3,_⟩:=hst n s z3 hI hn60 h2 B;generalize step s z3=y at ho J k2 k3 u;obtain⟨s4,z4⟩:=y;dsimp only at ho J k2 k3 u;by_cases A:z4.e=0
 case neg=>
  have hp:=bH.err ho A;rw[iL A] at u;rw[u,aL A];exact sk 1 rfl (kpv (args:=[]) hp)
 have ho:=bH.ok ho A;have k3:=k3 A;refine sk 1 rfl (kv (args:=[]) ho ?_);refine az (aA (agN [] rfl ?_));have hlp:=J.lp;have M:=oB J cM;have hn4:=eQ J;have Y:=rM J;have hmo4:=bN 12 (b8 z4).pl;cases aa:isZ cM z4 with
 | true=>
  rw[aa] at M;have O:moreA b5 (n+1) z4=z4:=η fun k=>by rw[aa] at k;cases k.2.2.1
  refine aC mixed (ak 1 [] rfl (kc M ?_));refine ak 7 [(2,.bv true),(5,.bv true)] rfl (kc hn4 ?_);refine ak 1 [(2,.bv true),(5,.bv true)] rfl (kc hmo4 ?_);exact az ⟨(n+1,s4,z4,f),⟨k2,by omega,J,A,by dsimp only;omega,by dsimp only;omega,O,u⟩,by dsimp only;omega,sl⟩
 | false=>
  rw[aa] at M;cases ab:eD b5 z4 with
  | true=>
   rw[ab] at Y;have O:moreA b5 (n+1) z4=z4:=η fun k=>by rw[ab] at k;cases k.2.2.2
   refine aC mixed (ak 1 [] rfl (kc M ?_));refine ak 2 [(2,.bv false)] rfl (kvG (args:=[]) Y ?_);refine ak 4 [(2,.bv false),(5,.bv false)] rfl (kc hn4 ?_);refine ak 1 [(2,.bv false),(5,.bv false)] rfl (kc hmo4 ?_);exact az ⟨(n+1,s4,z4,f),⟨k2,by omega,J,A,by dsimp only;omega,by dsimp only;omega,O,u⟩,by dsimp only;omega,sl⟩
  | false=>
   rw[ab] at Y;have hmn4:=bO 12 (b8 z4).pl;have O:moreA b5 (n+1) z4=⟨z4.R,12,(b8 z4).pl⟩:=(ζ ⟨succ_pos n,A,aa,ab⟩).trans (ζ A);have h12:¬(12:Int)=0:=by decide
   have hWb:W.2=⟨z4.R,12,(b8 z4).pl⟩:=by
    obtain⟨f,rfl⟩:∃g,f=g+1:=⟨f-1,by omega⟩
    rw[lpZ] at u;unfold b6 at u;rw[O,nP h12,ζ (show ¬(Z.mk z4.R 12 (b8 z4).pl).e=0∨_ from .inl h12),η χ] at u;rw[u]
   rw[hWb,aL h12];refine aC mixed (ak 1 [] rfl (kc M ?_));refine ak 2 [(2,.bv false)] rfl (kvG (args:=[]) Y ?_);refine ak 4 [(2,.bv false),(5,.bv false)] rfl (kc hn4 ?_);refine ak 1 [(2,.bv false),(5,.bv false)] rfl (kpD (.tup []) [] hmn4 ?_);exact az trivial
theorem aP9 (B v:Tk) (sup:List Str) {step:(List Sg)→Z→(List Sg)×Z}{Inv:Nat→(List Sg)→Prop}{L:List Tk}{N:Nat}
  (M:∀n s z,Inv n s→n<60→ZA L z→z.e=0→z.R.length≤N→bH Tryz.prog 159 ([]++[R.vp 1 0,R.c (.pt (aI v)),R.vp 6 0,R.c (.pt (aI B))].map V.one) ((600,rO L z)::aHq B v sup s) (iP L (.tup []) (step s z).2 (aHq B v sup (step s z).1)))
  (J:∀n s z,Inv n s→n<60→ZA L z→z.e=0→ZA L (step s z).2∧Inv (n+1) (step s z).1∧((step s z).2.e=0→(step s z).2.R.length<z.R.length)∧Ze z (step s z).2)
  {z:Z} (h:ZA L z) (he:z.e=0) (hN:z.R.length≤N) {s:(List Sg)} (O:Inv 0 s):
  bH Tryz.prog 158 [rP,.one (.clo 159 [R.vp 1 0,R.c (.pt (aI v)),R.vp 6 0,R.c (.pt (aI B))])] ((600,rO L z)::aHq B v sup s) (iP L (.tup []) (yQ step s z).2 (aHq B v sup (yQ step s z).1)):=by
 have q:=dM h he dH;have h1:=h.need dH;have U:=Ze.need dH z;unfold yQ;generalize aQ dH z=I at q h1 U ⊢;have Y:I.R.length≤z.R.length:=U;refine pI (n:=12) tok Tryz.func158 rfl rfl rfl rfl ?_;refine sg rfl ?_;by_cases u:I.e=0
 case neg=>
  have hp:=bH.err q u;rw[iL u];dsimp only;rw[bK u,aL u];exact sk 1 rfl (kp hp)
 have q:=bH.ok q u;refine sk 1 rfl (kc q ?_);refine az ?_;have y:=aU7 B v sup (step:=step) (Inv:=Inv) (L:=L) (N:=N) M J h1 u (by omega) O;have hok:=(xC (sh:=b5) J (I.R.length+1) 0 s I (Ab _) O h1).1
 generalize lpZ b5 step (I.R.length+1) 0 s I=W at y hok ⊢;obtain⟨s2,z2⟩:=W;dsimp only at y hok ⊢;by_cases A:z2.e=0
 case neg=>
  have hp:=bH.err y A;rw[bK A,aL A];exact sk 3 rfl (kp hp)
 have y:=bH.ok y A;refine sk 3 rfl (kc y ?_);refine az ?_;have q:=dM hok A b5;generalize aQ b5 z2=z3 at q ⊢;by_cases E:z3.e=0
 case neg=>
  have hp:=bH.err q E;rw[aL E];exact aC mixed (ak 1 [] rfl (kp hp))
 have q:=bH.ok q E;rw[bC E];refine aC mixed (ak 1 [] rfl (kc q ?_));exact az rtN
def a4d (L:List Tk) (z:Z) (nm v:Tk) (sup:List Str):List (Nat×AObj):=[(600,rO L z),(1,pR),(2,.var 87 [.c (.str []),.c (.int .i64 0),.c (.str []),.c .nl,.c .nl,.c .nl]),(4,.var 62 ((aI nm).map .c)),(5,.var 62 ((aI v).map .c)),(6,.var 87 [.c (.str nm.text),.c (.int .i64 nm.pl),.c (.str v.text),.c .nl,.hs 531 0 sup.length sup.length,.c .nl]),(531,svA (sup.map aK) 0)]
theorem aP7 {L:List Tk}(hZ:rN L) (hwt:wt L≤30000) {z:Z}(h:ZA L z) (he:z.e=0):bH Tryz.prog 118 [rP] [(600,rO L z)] (iP L (.pa (cX (eW z).1)) (eW z).2 []):=by
 unfold eW;have hA:bP z=((bD z).1,(aR 2 (bD z).2).1,(aR 1 (aR 2 (bD z).2).2).1,(aR 1 (aR 2 (bD z).2).2).2):=rfl;rw[hA];have hp:=aBf h he hZ;obtain⟨h1,ac,l1⟩:=kQ h hwt;generalize bD z=y at hp h1 ac l1 ⊢;obtain⟨ps,z1⟩:=y;dsimp only at hp h1 ac l1 ⊢;refine pI (n:=55) tok Tryz.func118 rfl rfl rfl rfl ?_;refine sg rfl ?_;by_cases E:z1.e=0
 case neg=>
  have hp:=bH.err hp E;have O:(aR 1 (aR 2 z1).2).2=z1:=by rw[nO E];exact nO E
  rw[oU (by dsimp only;rw[O];exact E)];dsimp only;rw[O,aL E];exact sk 1 rfl (kp hp)
 have hp:=bH.ok hp E;refine sk 1 rfl (kc hp ?_);refine kz 1 rfl ?_;have hw:=jN h1 E 2 (by decide);have h2:=h1.word (k:=2) (by decide);generalize aR 2 z1=y at hw h2 ⊢;obtain⟨u,z2⟩:=y;dsimp only at hw h2 ⊢;by_cases M:z2.e=0
 case neg=>
  have hp:=bH.err hw M;have O:(aR 1 z2).2=z2:=nO M;rw[oU (by dsimp only;rw[O];exact M)];dsimp only;rw[O,aL M];exact sk 1 rfl (kp hp)
 have hw:=bH.ok hw M;refine sk 1 rfl (kc hw ?_);refine kz 2 rfl ?_;have hw:=jN h2 M 1 (by decide);have h3:=h2.word (k:=1) (by decide);generalize aR 1 z2=y at hw h3 ⊢;obtain⟨v,z3⟩:=y;dsimp only at hw h3 ⊢;by_cases J:z3.e=0
 case neg=>
  have hp:=bH.err hw J;rw[oU (by exact J)];dsimp only;rw[aL J];exact sk 1 rfl (kp hp)
 have hw:=bH.ok hw J;refine sk 1 rfl (kc hw ?_);refine kz 2 rfl (sg rfl ?_);have hpk:(ps.map aM).length=ps.length:=ξ _;have A:∃F,F=bX v.text u.pl ps [] z3:=⟨_,rfl⟩
 obtain⟨F,A⟩:=A;have hB:eP (ps,u,v,z3)=(F.1,aQ dH F.2):=by rw[A];rfl
 rw[hB];have hC:∀w:List Str×Z,kC (ps,u,v,z3) w=lpZ b5 (clS u v) (w.2.R.length+1) 0 [] w.2:=fun w=>xA u v _ _ _ _
 rw[hC];dsimp only;refine aA (sg rfl (AWp.sub (Sub.ownCell (x:=6) (k:=4) (id:=531) 9 1 rfl rfl rfl) ?_));refine aF (aJ (fun q:Nat×List Str=>mk [(1,.one (.vp 1 0)),(2,.one (.vp 2 0)),(4,.one (.vp 4 0)),(5,.one (.vp 5 0)),(6,.one (.vp 6 0)),(22,.one (.c (.sl 5 (ps.map aM)))),(23,I .i64 ((ps.map aM).length:Nat)),(24,I .i64 (q.1:Nat))] (a4d L z3 u v q.2)) (fun q=>q.1≤ps.length∧q.2.length=q.1∧F=bX v.text u.pl (ps.drop q.1) q.2 z3) (fun q=>ps.length-q.1) (0,[]) ⟨Ab _,rfl,A⟩ sl ?_);clear A hB hC hw hp hA;rintro⟨i,sup⟩ ⟨hi,hsl,A⟩;dsimp only at hi hsl A ⊢;have ad:(sup.map aK).length=sup.length:=ξ _;refine sg rfl (aA (aB rfl (fun hb=>?_) (fun hb=>?_)))
 ·have hlt:=ltD hb hpk;obtain⟨p,hpi⟩:=aG hlt;have hpi':=aP aM hpi;have hds:ps.drop i=p::ps.drop (i+1):=by
   obtain⟨k1,k2⟩:=Ah.1 hpi;rw[←k2];exact Az k1
  rw[hds,bX,ζ J] at A;refine aD (aA (aF (sgh [(0,.row i (aM p))] rfl ?_)));have ae:¬(p.ty.form=2∧p.ty.name=v.text)→aQ b5 (lpZ b5 (clS u v) ((aQ dH F.2).R.length+1) 0 [] (aQ dH F.2)).2=⟨z3.R,12,u.pl⟩:=fun hn=>by
   have h12:¬(12:Int)=0:=by decide
   have O:F.2=⟨z3.R,12,u.pl⟩:=by
    rw[η hn] at A;unfold bV at A;rw[ζ J] at A;rw[A,vP h12]
   have U:¬(Z.mk z3.R 12 u.pl).e=0:=h12;rw[O,bK U,iL U];exact bK U
  have hmn:=bO 12 u.pl;by_cases Y:p.ty.form=2
  case neg=>
   have d:decide (p.ty.form=2)=false:=φ Y;rw[ae (fun k=>Y k.1),aL (show ¬(12:Int)=0 by decide)];exact skh 14 [(4,.bv false),(11,.bv false)] rfl (kp hmn)
  have d:decide (p.ty.form=2)=true:=θ Y;by_cases aa:p.ty.name=v.text
  case neg=>
   have d2:decide (p.ty.name=v.text)=false:=φ aa;rw[ae (fun k=>aa k.2),aL (show ¬(12:Int)=0 by decide)];refine skh 14 [(4,.bv true),(11,.bv true)] rfl ?_;rw[d2];exact kp hmn
  have d2:decide (p.ty.name=v.text)=true:=θ aa;have hmo:=bN 12 u.pl;rw[ζ ⟨Y,aa⟩] at A;refine skh 14 [(4,.bv true),(11,.bv true)] rfl ?_;rw[d2];refine kc hmo ?_;refine az ?_;have hrows:sup.map aK++[[.str p.cls]]=(sup++[p.cls]).map aK:=by rw[Af];rfl
  have hle:(sup++[p.cls]).length=sup.length+1:=by rw[ψ];rfl
  have hpl1:=ac.1;exact ag [(4,.all)] rfl (agN [] rfl ⟨(i+1,sup++[p.cls]),⟨hlt,by dsimp only;rw[hle,hsl],A⟩,by dsimp only;omega,sl (hh:=⟨⟨_,rfl,.var rfl⟩,⟨_,rfl,.var rfl⟩,⟨_,rfl,.var rfl⟩,⟨_,rfl,.var rfl⟩,⟨_,rfl,.var rfl⟩,⟨_,rfl,.var (by rw[hle,←ad];rfl)⟩,⟨_,rfl,.arrS hrows⟩,trivial⟩)⟩)
 have hge:=geD hb hpk hi;rw[hge,Ch,bX] at A;subst A;dsimp only;refine aH (AWp.sub (Sub.freeze (id:=531) rfl) ?_);refine AWp.sub (vp 6 [.str u.text,.int .i64 u.pl,.str v.text,.nl,.sl 1 (sup.map aK),.nl] (hp:=.c .refl (.c .refl (.c .refl (.c .refl (.hs rfl ad.symm (Go.AM.take_all ad.symm) (.c .refl .nil))))))) ?_;refine AWp.sub (Sub.ownCell (x:=6) (k:=5) (id:=530) 100 9 rfl rfl rfl) ?_;refine AWp.sub (Sub.fvar (id:=4) (l:=aI u) rfl (by simp[keys])) ?_;refine AWp.sub (Sub.fvar (id:=5) (l:=aI v) rfl (by simp[keys])) ?_;have hst:∀(n:Nat) (s:List Sg) (z:Z),s.length=n→n<60→ZA L z→z.e=0→ZA L (clS u v s z).2∧(clS u v s z).1.length=n+1∧((clS u v s z).2.e=0→(clS u v s z).2.R.length<z.R.length)∧Ze z (clS u v s z).2:=fun n s z hI hn h he=>by
  have k1:=(h.word (k:=1) (by decide)).need eT;obtain⟨g1,_,g3,g4⟩:=gJ k1 hwt;have l1:(aR 1 z).2.R.length≤z.R.length:=Ze.word 1 z;have l2:(aQ eT (aR 1 z).2).R.length≤(aR 1 z).2.R.length:=Ze.need _ _;have g4':(bM (aQ eT (aR 1 z).2)).2.R.length≤(aQ eT (aR 1 z).2).R.length:=g4;unfold clS jG;dsimp only;refine⟨g1.long _ _ _,by rw[ψ,hI];rfl,fun h0=>?_,(((Ze.word 1 z).trans (Ze.need _ _)).trans g4).trans (Ze.long _ _ _ _)⟩;by_cases hs:(bM (aQ eT (aR 1 z).2)).2.e=0
  ·have:=g3 hs;have l3:=Ze.long (s++[(⟨(aR 1 z).1.text,(aR 1 z).1.pl,tP u.text v.text (bM (aQ eT (aR 1 z).2)).1⟩:Sg)]).length 16 u.pl (bM (aQ eT (aR 1 z).2)).2;unfold Ze at l3;omega
  ·rw[eZ hs] at h0;exact absurd h0 hs
 have hI0:([]:List Sg).length=0:=rfl;have B:=aP9 u v sup (step:=clS u v) (Inv:=fun n s=>s.length=n) (L:=L) (N:=z3.R.length) (fun n s z hI hn h he hN=>aZ9 hZ hwt u v sup s h he (by omega)) hst h3 J (le_refl _) (s:=[]) hI0;unfold yQ at B;dsimp only at B;generalize aQ dH z3=z7 at B ⊢;generalize lpZ b5 (clS u v) (z7.R.length+1) 0 [] z7=W at B ⊢;obtain⟨ms,zB⟩:=W;dsimp only at B ⊢;have hmk:(ms.map c6).length=ms.length:=ξ _;generalize aQ b5 zB=z8 at B ⊢;by_cases ab:z8.e=0
 case neg=>
  have hp:=bH.err B ab;rw[aL ab];exact sk 2 rfl (kp hp)
 have B:=bH.ok B ab;rw[bC ab];refine sk 2 rfl (kc B ?_);refine az (AWp.sub (Sub.freeze (id:=530) rfl) ?_);exact sg rfl (aE (rtC trw (hc:=.agg (.c .refl (.c .refl (.c .refl (.c .nl (.c .refl (.hs rfl hmk.symm (Go.AM.take_all hmk.symm) .nil)))))))))
theorem uW (s:Str) (q:aW Tryz.prog 20 [Go.AM.T s] [] (aIl (pG s)) []):aW Tryz.prog 22 [Go.AM.T s] [] (.tup [.pa (oP (dR s).1),atV (dR s).2.1 (if(dR s).2.1=0 then 0 else(dR s).2.2)]) []:=by
 obtain⟨y,hwt,hZ,u⟩:=eL s;exact aH6 a0i s q fun z h he _=>aP7 hZ hwt h he
def Kq (z z':Z):Prop:=z'.e=0→z.e=0∧z'.p=z.p
theorem Kq.refl (z:Z):Kq z z:=fun h=>⟨h,rfl⟩
theorem Kq.trans {a b c:Z}(h:Kq a b) (k:Kq b c):Kq a c:=fun e=>by
 obtain⟨q,u⟩:=k e;obtain⟨y,A⟩:=h q;exact⟨y,u.trans A⟩
theorem Kq.fail {e p:Int}(he:¬e=0) (z:Z):Kq z (bV e p z):=fun h=>(cJ he h).elim
theorem Kq.may (s:Str) (z:Z):Kq z (bT s z).2:=by
 unfold Kq bT;split
 ·exact fun h=>⟨h,rfl⟩
 ·exact fun h=>⟨h,rfl⟩
theorem Kq.need (s:Str) (z:Z):Kq z (aQ s z):=by
 unfold aQ;split
 ·exact Kq.may s z
 ·exact Kq.fail (by decide) z
theorem Kq.word (k:Int) (z:Z):Kq z (aR k z).2:=by
 unfold aR;split
 ·exact fun h=>⟨h,rfl⟩
 ·exact Kq.fail (by decide) z
theorem Kq.words (z:Z):Kq z (aU z).2:=by
 unfold aU;split
 ·exact fun h=>⟨h,rfl⟩
 ·exact Kq.refl z
theorem Kq.long (n m:Nat) (a:Int) (z:Z):Kq z (c0 n m a z):=by
 unfold c0;split
 ·exact Kq.fail (by decide) z
 ·exact Kq.refl z
theorem Kq.semi (z:Z):Kq z (dC z):=by
 unfold dC;split
 ·exact fun h=>⟨h,rfl⟩
 ·exact Kq.refl z
theorem Kq.mA (s:Str) (n:Nat) (z:Z):Kq z (moreA s n z):=by
 unfold moreA;split
 ·exact Kq.fail (by decide) z
 ·exact Kq.refl z
theorem Kq.more (s:Str) (n:Nat) (z:Z):Kq z (b6 s n z).2:=by
 unfold b6;split
 ·exact(Kq.mA s n z).trans (Kq.semi _)
 ·exact((Kq.mA s n z).trans (Kq.semi _)).trans (Kq.long _ _ _ _)
theorem Kq.scheme (z:Z):Kq z (bM z).2:=by
 unfold bM;split
 ·cases h:cT z.R with
  | error e=>obtain⟨e,p⟩:=e;exact fun h0=>absurd h0 (qN h)
  | ok y=>exact fun h=>⟨h,rfl⟩
 ·exact Kq.refl z
theorem Kq.preds (z:Z):Kq z (bD z).2:=by
 unfold bD;split
 ·cases h:cV z.R with
  | error e=>obtain⟨e,p⟩:=e;exact fun h0=>absurd h0 (hD h)
  | ok y=>exact fun h=>⟨h,rfl⟩
 ·exact Kq.refl z
theorem Kq.atom (z:Z):Kq z (eM z).2:=by
 unfold eM;cases h:cU (3*z.R.length) 0 z.R with
 | error e=>obtain⟨e,p⟩:=e;exact fun h0=>absurd h0 (eN _ 0 z.R e p h)
 | ok y=>exact fun h=>⟨h,rfl⟩
theorem Kq.fields:∀(f:Nat) (out:List Ty) (z:Z),Kq z (cD f out z).2
 | 0,_,z=>Kq.refl z
 | f+1,out,z=>by
  rw[cD];split
  ·exact(Kq.atom z).trans (Kq.fields f _ _)
  ·exact Kq.refl z
theorem Kq.con (z:Z):Kq z (mC z).2:=((Kq.word 2 z).trans (Kq.fields _ _ _)).trans (Kq.long _ _ _ _)
theorem Kq.cons:∀(f:Nat) (a:Int) (out:List Cn) (z:Z),Kq z (iT f a out z).2
 | 0,_,_,z=>Kq.refl z
 | f+1,a,out,z=>by
  rw[iT];split
  ·exact(((Kq.con z).trans (Kq.long _ _ _ _)).trans (Kq.may _ _)).trans (Kq.cons f a _ _)
  ·exact((Kq.con z).trans (Kq.long _ _ _ _)).trans (Kq.may _ _)
theorem Kq.data (z:Z):Kq z (jZ z).2:=by
 have h1:Kq z (fO z).2.2:=(((Kq.word 2 z).trans (Kq.words _)).trans (Kq.long _ _ _ _)).trans (Kq.need _ _);unfold jZ gO;dsimp only;split
 ·exact h1.trans (Kq.cons _ _ _ _)
 ·exact h1
theorem Kq.tl (z:Z):Kq z (tlZ z):=fun h=>⟨h,rfl⟩
theorem aCt:∀f:Nat,(∀o z,Kq z (bA f o z).2)∧(∀o z,Kq z (iO f o z).2)∧(∀o out z,Kq z (fC f o out z).2)
 | 0=>⟨fun o z=>by rw[bA];exact Kq.refl z,fun o z=>by rw[iO];exact Kq.fail (by decide) z,fun o out z=>by rw[fC];exact Kq.refl z⟩
 | f+1=>by
  obtain⟨h1,h2,q⟩:=aCt f;refine⟨fun o z=>?_,fun o z=>?_,fun o out z=>?_⟩
  ·rw[bA];split
   ·exact Kq.refl z
   split
   ·exact Kq.tl z
   split
   ·exact Kq.may _ z
   split
   ·exact Kq.refl z
   split
   ·exact Kq.fail (by decide) z
   ·exact((Kq.need _ z).trans (h2 _ _)).trans (Kq.need _ _)
  ·rw[iO];split
   ·exact(h1 _ _).trans (Kq.fail (by decide) _)
   split
   ·exact(Kq.tl z).trans (q _ _ _)
   ·exact h1 _ _
  ·rw[fC];split
   ·split
    ·exact h1 _ _
    ·exact(h1 _ _).trans (q _ _ _)
   ·exact Kq.refl z
theorem Kq.pair:∀(l:List Sg) (b:List Bd) (z:Z),Kq z (dG l b z).2:=fun l b z h=>by
 have h1:=jD h;rw[h1] at h ⊢;exact⟨h,rfl⟩
def aDr (ex:Nat→Z→Ex×Z):Prop:=∀deep z,Kq z (ex deep z).2
section
variable {ex:Nat→Z→Ex×Z}(hx:aDr ex)
include hx
theorem Kq.one (deep:Nat) (z:Z):Kq z (iV ex deep z).2:=by
 unfold iV;split
 ·exact Kq.refl z
 split
 ·exact Kq.tl z
 split
 ·exact Kq.refl z
 ·exact((Kq.may _ z).trans (hx _ _)).trans (Kq.need _ _)
theorem Kq.apps (deep:Nat) (a:Int):∀(f:Nat) (e:Ex) (z:Z),Kq z (fZ ex deep a f e z).2
 | 0,_,z=>Kq.refl z
 | f+1,e,z=>by
  rw[fZ];split
  ·split
   ·exact Kq.one hx deep z
   ·exact(Kq.one hx deep z).trans (Kq.apps deep a f _ _)
  ·exact Kq.refl z
theorem Kq.lam (a:Int) (deep:Nat) (z:Z):Kq z (uS ex a deep z).2:=by
 have h0:Kq z (if(aU z).1=[] then bV 12 (b8 (aU z).2).pl (aU z).2 else(aU z).2):=by
  split
  ·exact(Kq.words z).trans (Kq.fail (by decide) _)
  ·exact Kq.words z
 exact((h0.trans (Kq.long _ _ _ _)).trans (Kq.need _ _)).trans (hx _ _)
theorem Kq.bind (q:Tk) (deep:Nat) (z:Z):Kq z (dP ex q deep z).2:=(((Kq.words z).trans (Kq.long _ _ _ _)).trans (Kq.need _ _)).trans (hx _ _)
theorem Kq.either (sigs:List Sg) (binds:List Bd) (deep:Nat) (z:Z):Kq z (aV ex sigs binds deep z).2:=by
 unfold aV;split
 ·exact((Kq.word _ z).trans (Kq.may _ _)).trans (Kq.scheme _)
 ·exact((Kq.word _ z).trans (Kq.may _ _)).trans (Kq.bind hx _ _ _)
theorem Kq.lets (deep:Nat):∀(f n:Nat) (sigs:List Sg) (binds:List Bd) (z:Z),Kq z (fW ex deep f n sigs binds z).2
 | 0,_,_,_,z=>Kq.refl z
 | f+1,n,sigs,binds,z=>by
  rw[fW];split
  ·exact((Kq.more _ _ z).trans (Kq.either hx _ _ _ _)).trans (Kq.lets deep f _ _ _ _)
  ·exact Kq.more _ _ z
theorem Kq.let' (a:Int) (deep:Nat) (z:Z):Kq z (uR ex a deep z).2:=
 (((((Kq.need _ z).trans (Kq.lets hx _ _ _ _ _ _)).trans (Kq.need _ _)).trans (Kq.pair _ _ _)).trans (Kq.need _ _)).trans (hx _ _)
theorem Kq.alts (deep:Nat):∀(f n:Nat) (ps:List Pt) (ks:List Ex) (z:Z),Kq z (fQ ex deep f n ps ks z).2
 | 0,_,_,_,z=>Kq.refl z
 | f+1,n,ps,ks,z=>by
  rw[fQ];split
  ·exact((((Kq.more _ _ z).trans ((aCt _).2.1 _ _)).trans (Kq.need _ _)).trans (hx _ _)).trans (Kq.alts deep f _ _ _ _)
  ·exact Kq.more _ _ z
theorem Kq.case' (a:Int) (deep:Nat) (z:Z):Kq z (iH ex a deep z).2:=by
 have h1:Kq z (i7 ex deep (dE ex deep z)).2:=(((hx _ z).trans (Kq.need _ _)).trans (Kq.need _ _)).trans (Kq.alts hx _ _ _ _ _ _);unfold iH;dsimp only;split
 ·exact(h1.trans (Kq.need _ _)).trans (Kq.fail (by decide) _)
 ·exact h1.trans (Kq.need _ _)
omit hx in
theorem Kq.ann (a:Int) (y:Ex×Z):Kq y.2 (uN a y).2:=by
 unfold uN;split
 ·exact(Kq.may _ _).trans (Kq.scheme _)
 ·exact Kq.may _ _
theorem Kq.plain (deep:Nat) (z:Z):Kq z (gC ex deep z).2:=by
 unfold gC;refine Kq.trans ?_ (Kq.apps hx _ _ _ _ _);split
 ·exact(Kq.one hx deep z).trans (Kq.fail (by decide) _)
 ·exact Kq.one hx deep z
theorem aT5:aDr (aAx ex):=fun deep z=>by
 unfold aAx;split
 ·exact Kq.refl z
 split
 ·exact Kq.fail (by decide) z
 split
 ·exact(Kq.may _ z).trans (Kq.lam hx _ _ _)
 split
 ·exact(Kq.may _ z).trans (Kq.let' hx _ _ _)
 split
 ·exact(Kq.may _ z).trans (Kq.case' hx _ _ _)
 ·exact(Kq.plain hx deep z).trans (Kq.ann _ _)
end
theorem oL:∀f,aDr (yP f)
 | 0=>fun _ z=>Kq.fail (by decide) z
 | f+1=>aT5 (oL f)
theorem Kq.supers (v:Str) (a:Int):∀(l:List Prd) (out:List Str) (z:Z),Kq z (bX v a l out z).2
 | [],_,z=>Kq.refl z
 | p::l,out,z=>by
  rw[bX];split
  ·refine Kq.trans ?_ (Kq.supers v a l _ _);split
   ·exact Kq.refl z
   ·exact Kq.fail (by decide) z
  ·exact Kq.refl z
theorem Kq.meths (c v:Str) (a:Int):∀(f n:Nat) (out:List Sg) (z:Z),Kq z (eO c v a f n out z).2
 | 0,_,_,z=>Kq.refl z
 | f+1,n,out,z=>by
  rw[eO];split
  ·exact(((((Kq.more _ _ z).trans (Kq.word _ _)).trans (Kq.need _ _)).trans (Kq.scheme _)).trans (Kq.long _ _ _ _)).trans (Kq.meths c v a f _ _ _)
  ·exact Kq.more _ _ z
theorem Kq.cls (z:Z):Kq z (eW z).2:=
 ((((((Kq.preds z).trans (Kq.word _ _)).trans (Kq.word _ _)).trans (Kq.supers _ _ _ _ _)).trans (Kq.need _ _)).trans (Kq.meths _ _ _ _ _ _ _)).trans (Kq.need _ _)
theorem Kq.forms (a:Int):∀(l:List Prd) (z:Z),Kq z (eI a l z)
 | [],z=>Kq.refl z
 | p::l,z=>by
  rw[eI];refine Kq.trans ?_ (Kq.forms a l _);split
  ·exact Kq.fail (by decide) z
  ·exact Kq.refl z
theorem Kq.ibinds {ex:Nat→Z→Ex×Z}(hx:aDr ex):∀(f n:Nat) (out:List Bd) (z:Z),Kq z (cL ex f n out z).2
 | 0,_,_,z=>Kq.refl z
 | f+1,n,out,z=>by
  rw[cL];split
  ·exact(((Kq.more _ _ z).trans (Kq.word _ _)).trans (Kq.bind hx _ _ _)).trans (Kq.ibinds hx f _ _ _)
  ·exact Kq.more _ _ z
theorem Kq.instV (b:Bool) (z:Z):Kq z (instV b z).2:=by
 cases b with
 | true=>exact(Kq.words z).trans (Kq.need _ _)
 | false=>exact Kq.refl z
theorem Kq.inst {ex:Nat→Z→Ex×Z}(hx:aDr ex) (z:Z):Kq z (kG ex z).2:=by
 have h1:Kq z (c9 z).2.2.2.2:=(((Kq.preds z).trans (Kq.word _ _)).trans (Kq.may _ _)).trans (Kq.word _ _);have h2:=h1.trans (Kq.instV (c9 z).2.2.1 _);refine Kq.trans ?_ (Kq.need _ _);refine Kq.trans ?_ (Kq.ibinds hx _ _ _ _);refine Kq.trans ?_ (Kq.need _ _);refine Kq.trans ?_ (Kq.forms _ _ _);split
 ·exact h2.trans (Kq.long _ _ _ _)
 ·exact h2
theorem Kq.decl {ex:Nat→Z→Ex×Z}(hx:aDr ex) (p:Pg) (sigs:List Sg) (z:Z):Kq z (cY ex p sigs z).2:=by
 unfold cY;split
 ·exact(Kq.may _ z).trans (Kq.data _)
 split
 ·exact(Kq.may _ z).trans (Kq.cls _)
 split
 ·exact(Kq.may _ z).trans (Kq.inst hx _)
 ·exact Kq.either hx _ _ _ z
theorem Kq.prog {ex:Nat→Z→Ex×Z}(hx:aDr ex):∀(f n:Nat) (p:Pg) (sigs:List Sg) (z:Z),Kq z (eA ex f n p sigs z).2
 | 0,_,_,_,z=>Kq.refl z
 | f+1,n,p,sigs,z=>by
  rw[eA];split
  ·exact((Kq.more _ _ z).trans (Kq.decl hx _ _ _)).trans (Kq.prog hx f _ _ _ _)
  ·exact Kq.more _ _ z
theorem Kq.endz (z:Z):Kq z (kZ z):=by
 unfold kZ;split
 ·exact Kq.fail (by decide) z
 ·exact Kq.refl z
theorem aTk (s:Str) (h:(dR s).2.1=0):(dR s).2.2=0:=by
 have hb:(bB s).2.p=0∨¬(bB s).2.e=0:=by
  unfold bB;have q:= @xF s;generalize pG s=w at q ⊢;cases w with
  | ok l=>exact .inl rfl
  | error e=>obtain⟨e,p⟩:=e;exact .inr (q rfl)
 have u:Kq (bB s).2 (kZ (gZ s).2):=by
  refine Kq.trans ?_ (Kq.endz _);unfold gZ;split
  ·exact(Kq.prog (oL _) _ _ _ _ _).trans (Kq.pair _ _ _)
  ·exact Kq.refl _
 have y:(dR s).2.1=(kZ (gZ s).2).e:=by unfold dR;split<;>rfl
 have A:(dR s).2.2=(kZ (gZ s).2).p:=by unfold dR;split<;>rfl
 rw[y] at h;obtain⟨B,E⟩:=u h;rw[A,E];rcases hb with hb | hb
 ·exact hb
 ·exact absurd B hb
theorem uV (s:Str) (q:aW Tryz.prog 20 [Go.AM.T s] [] (aIl (pG s)) []):aW Tryz.prog 22 [Go.AM.T s] [] (.tup [.pa (oP (dR s).1),atV (dR s).2.1 (dR s).2.2]) []:=by
 have h:=uW s q;by_cases he:(dR s).2.1=0
 ·rw[ζ he] at h;rw[aTk s he];exact h
 ·rw[η he] at h;exact h
def wL (s:Str):Pt×Z:=if(bB s).2.e=0 then iO (3*(bB s).2.R.length+1) 0 (bB s).2 else(zPt,(bB s).2)
def aNk (s:Str):Pt×Int×Int:=if(kZ (wL s).2).e=0 then((wL s).1,(kZ (wL s).2).e,(kZ (wL s).2).p) else(zPt,(kZ (wL s).2).e,(kZ (wL s).2).p)
theorem a0c (s:Str):aW Tryz.prog 13 [Go.AM.T s] [] (.tup [.pa (bL (aNk s).1),atV (aNk s).2.1 (aNk s).2.2]) []:=by
 have B:=y5 s;obtain⟨E,hwt,_,Y⟩:=eL s;have u:=(aX9 (bB s).1 (3*(bB s).2.R.length+1)).2 _ (le_refl _) 0 _ E (fun _=>le_refl _) (by decide);obtain⟨I,_⟩:=(gK (bB s).1 (3*(bB s).2.R.length+1)).2.1 0 _ E;unfold aNk wL;generalize bB s=U at B E hwt u I ⊢;obtain⟨L,z⟩:=U;dsimp only at B E hwt u I ⊢;have ho:=fP L z;refine b9 (n:=28) tok Tryz.func13 rfl rfl rfl ?_;refine sg rfl (sk 1 rfl (kc B ?_));refine kz 1 rfl (sg rfl ?_);have q:∃y,y=(if z.e=0 then iO (3*z.R.length+1) 0 z else(zPt,z))∧ZA L y.2:=⟨_,rfl,by split<;>first | exact I | exact E⟩
 obtain⟨⟨p,M⟩,q,h1⟩:=q;rw[←q];dsimp only at h1 ⊢;refine aA (AWp.cut (mk [(2,.one (.vp 2 0)),(3,.one (.vp 3 0)),(4,xP),(5,.one (.vp 5 0))] [(700,zO L M),(2,.var 51 (aWj.map .c)),(3,.var 33 [.c (.int .i64 0),.c (.int .i64 0)]),(5,.var 51 ((bL p).map .c))]) ?_ ?_)
 ·refine sk 1 rfl (kc ho ?_);refine az ?_;by_cases he:z.e=0
  ·rw[ζ he] at q;have d:decide (z.e=0)=true:=θ he;rw[←q] at u;refine aB rfl (fun _=>aC mixed (ak 1 [] rfl (kc u ?_))) (fun hb=>absurd (hb.symm.trans d) Bool.noConfusion);exact kz 1 rfl sl
  ·rw[η he] at q;have d:decide (z.e=0)=false:=φ he;obtain⟨rfl,rfl⟩:=Prod.mk.inj q;refine aB rfl (fun hb=>absurd (hb.symm.trans d) Bool.noConfusion) (fun _=>aD (Sub.trans ?_ (vp 5 (bL zPt))));exact sl
 have J:=aMc h1;have h2:=h1.endz;generalize kZ M=z2 at J h2 ⊢;have O:=fP L z2;refine sk 1 rfl (kc J ?_);refine az (aA (sk 1 rfl (kc O ?_)));refine kz 1 rfl ?_;by_cases A:z2.e=0
 ·rw[ζ A];have d:(!decide (z2.e=0))=false:=by rw[θ A];rfl
  exact aB rfl (fun hb=>absurd (hb.symm.trans d) Bool.noConfusion) (fun _=>aD (sg rfl (aE wI)))
 ·rw[η A];have d:(!decide (z2.e=0))=true:=by rw[φ A];rfl
  exact aB rfl (fun _=>sg rfl (aE wI)) (fun hb=>absurd (hb.symm.trans d) Bool.noConfusion)
theorem aTq (s:Str):ptB (aNk s).1:=by
 obtain⟨q,_⟩:=eL s;have h2:=((gK (bB s).1 (3*(bB s).2.R.length+1)).2.1 0 _ q).2.1
 unfold aNk wL;split
 ·split
  ·exact h2
  ·exact wS
 ·split
  ·exact wS
  ·exact wS
inductive PT:Ty→Prop where
 | leaf (f:Int) (s:Str) (h:f=0∨f=2∨f=3):PT (.mk f 0 s [])
 | app {a b:Ty} (ha:PT a) (hb:PT b):PT (dQ a b)
def fnP:Ty→Option (Ty×Ty)
 | .mk f _ _ [.mk g _ _ [.mk h _ s _,a],b]=>if f=4∧g=4∧h=3∧s=arrow then some (a,b) else none
 | _=>none
def brk (b:Bool) (s:Str):Str:=if b=true then [40]++s++[41] else s
def arrS:Str:=[32,45,62,32]
def pC:Nat→Int→Ty→Str
 | 0,_,_=>[]
 | k+1,how,t=>match fnP t with
  | some (a,b)=>brk (!decide (how=0)) (pC k 1 a++arrS++pC k 0 b)
  | none=>if t.form=3∧t.name=arrow then brk true t.name
   else match t with
    | .mk f _ s [a,b]=>if f=4 then brk (decide (how=3)) (pC k 2 a++[32]++pC k 3 b) else s
    | .mk _ _ s _=>s
mutual
def tyW:Ty→Nat
 | .mk _ _ s a=>s.length+8+aIj a
def aIj:List Ty→Nat
 | []=>0
 | t::l=>tyW t+aIj l
end
theorem jA (a b:Ty):tyW (dQ a b)=8+(tyW a+tyW b):=by unfold dQ;rw[tyW,aIj,aIj,aIj];simp
theorem bS (b:Bool) (s:Str):(brk b s).length≤s.length+2:=by
 unfold brk;split
 ·rw[ψ,ψ,ω,ω,length_nil];omega
 ·omega
theorem PT.cases {t:Ty}(h:PT t):(∃a b,t=nB a b∧PT a∧PT b)∨(fnP t=none∧((∃f s,t=.mk f 0 s []∧(f=0∨f=2∨f=3))∨∃a b,t=dQ a b∧PT a∧PT b)):=by
 cases h with
 | leaf f s u=>exact .inr ⟨rfl,.inl ⟨f,s,rfl,u⟩⟩
 | @app a b ha hb=>
  cases ha with
  | leaf g s q=>exact .inr ⟨rfl,.inr ⟨_,_,rfl,.leaf g s q,hb⟩⟩
  | @app x y hx hy=>
   cases hx with
   | leaf g s q=>
    by_cases hc:g=3∧s=arrow
    ·obtain⟨rfl,rfl⟩:=hc;exact .inl ⟨y,b,rfl,hy,hb⟩
    ·refine .inr ⟨?_,.inr ⟨_,_,rfl,.app (.leaf g s q) hy,hb⟩⟩;show(if(4:Int)=4∧(4:Int)=4∧g=3∧s=arrow then some (y,b) else none)=none;rw[η (fun k=>hc ⟨k.2.2.1,k.2.2.2⟩)]
   | app hu hv=>exact .inr ⟨rfl,.inr ⟨_,_,rfl,.app (.app hu hv) hy,hb⟩⟩
theorem oH (k:Nat) (q:Int) (a b:Ty):pC (k+1) q (nB a b)=brk (!decide (q=0)) (pC k 1 a++arrS++pC k 0 b):=rfl
theorem lJ (k:Nat) (q f:Int) (s:Str) (u:f=0∨f=2∨f=3):pC (k+1) q (.mk f 0 s [])=brk (decide (f=3)&&decide (s=arrow)) s:=by
 show(if f=3∧s=arrow then brk true s else s)=_;by_cases hc:f=3∧s=arrow
 ·rw[ζ hc,θ hc.1,θ hc.2];rfl
 ·rw[η hc];have:(decide (f=3)&&decide (s=arrow))=false:=by
   rw[←Cb,π];exact fun k=>hc ⟨κ k.1,κ k.2⟩
  rw[this];rcases u with rfl | rfl | rfl<;>rfl
theorem oI (k:Nat) (q:Int) {a b:Ty}(h:fnP (dQ a b)=none):pC (k+1) q (dQ a b)=brk (decide (q=3)) (pC k 2 a++[32]++pC k 3 b):=by
 rw[pC.eq_def];dsimp only;rw[h];rfl
theorem lI:∀(k:Nat) (q:Int) (t:Ty),PT t→(pC k q t).length≤tyW t
 | 0,_,_,_=>Ab _
 | k+1,q,t,h=>by
  rcases h.cases with⟨a,b,rfl,ha,hb⟩ | ⟨hn,⟨f,s,rfl,u⟩ | ⟨a,b,rfl,ha,hb⟩⟩
  ·rw[oH];have h1:=bS (!decide (q=0)) (pC k 1 a++arrS++pC k 0 b);have h2:=lI k 1 a ha;have y:=lI k 0 b hb;unfold nB;rw[jA,jA];rw[ψ,ψ,show arrS.length=4 from rfl] at h1;omega
  ·rw[lJ k q f s u,tyW,aIj];have:=bS (decide (f=3)&&decide (s=arrow)) s;omega
  ·rw[oI k q hn,jA];have h1:=bS (decide (q=3)) (pC k 2 a++[32]++pC k 3 b);have h2:=lI k 2 a ha;have y:=lI k 3 b hb;rw[ψ,ψ,ω,length_nil] at h1;omega
theorem aLz (a b:Ty):aW Tryz.prog 188 [tyV (nB a b)] [] (.tup [tyV a,tyV b,B true]) []:=by
 refine b9 (n:=47) tok Tryz.func188 rfl rfl rfl ?_;exact sg rfl (aA (sgh [(3,.bv false),(6,.row 0 (bF (dQ (.mk 3 0 arrow []) a))),(10,.bv false)] rfl (aB rfl nofun (fun _=>aD (sgh [(2,.row 0 (bF (dQ (.mk 3 0 arrow []) a))),(5,.row 0 (bF (.mk 3 0 arrow [])))] rfl (aA (sgh [(3,.bv false),(7,.bv false)] rfl (aB rfl (fun hb=>absurd hb (by decide)) (fun _=>aD (sgh [(2,.row 0 (bF (dQ (.mk 3 0 arrow []) a))),(5,.row 1 (bF a)),(9,.row 1 (bF b))] rfl (aE ⟨.inr rfl,⟨_,_,.cell rfl (tg rfl) rfl rfl rfl (.cell rfl (tg rfl) rfl rfl rfl (.tmp rfl .nil)),.cons .refl (.cons .refl (.cons .refl .nil)),rfl⟩,trivial,rfl⟩)))))))))))
theorem zcv {h:cF}:Conv h [] (.pa [.int .i64 0,.int .i64 0,.str [],.nl]) (tyV zTy):=by
 apply Go.AM.Conv.pa
 repeat (first | exact .nil | apply Go.AM.PureL.c .refl | apply Go.AM.PureL.c .nl)
theorem aLy {t:Ty}(h:PT t) (hn:fnP t=none):aW Tryz.prog 188 [tyV t] [] (.tup [tyV zTy,tyV zTy,B false]) []:=by
 refine b9 (n:=47) tok Tryz.func188 rfl rfl rfl ?_;refine sg rfl ?_;cases h with
 | leaf f s E=>
  have d:(!decide (f=4))=true:=by rw[φ (by omega)];rfl
  exact aA (sgh [(3,.bv true),(10,.bv true)] rfl (aB rfl (fun _=>sg rfl (aE ⟨.inr rfl,⟨_,_,.cell rfl (tg rfl) rfl rfl rfl (.cell rfl (tg rfl) rfl rfl rfl (.tmp rfl .nil)),.cons zcv (.cons zcv (.cons .refl .nil)),rfl⟩,trivial,rfl⟩)) (fun hb=>Bool.noConfusion hb)))
 | @app a b ha hb=>
  cases ha with
  | leaf g s u=>
   have d:(!decide (g=4))=true:=by rw[φ (by omega)];rfl
   exact aA (sgh [(3,.bv false),(6,.row 0 (bF (.mk g 0 s []))),(10,.bv false)] rfl (aB rfl (fun _=>sg rfl (aE ⟨.inr rfl,⟨_,_,.cell rfl (tg rfl) rfl rfl rfl (.cell rfl (tg rfl) rfl rfl rfl (.tmp rfl .nil)),.cons zcv (.cons zcv (.cons .refl .nil)),rfl⟩,trivial,rfl⟩)) (fun hb=>Bool.noConfusion (hb.symm.trans d))))
  | @app x y hx hy=>
   refine aA (sgh [(3,.bv false),(6,.row 0 (bF (dQ x y))),(10,.bv false)] rfl (aB rfl nofun (fun _=>aD (sgh [(2,.row 0 (bF (dQ x y))),(5,.row 0 (bF x))] rfl ?_))));by_cases q:x.form=3
   ·have d3:(!decide (x.form=3))=false:=by rw[θ q];rfl
    have hs:¬x.name=arrow:=fun e=>by
     cases hx with
     | leaf g s u=>
      have:fnP (dQ (dQ (.mk g 0 s []) y) b)=some (y,b):=by
       show(if(4:Int)=4∧(4:Int)=4∧g=3∧s=arrow then some (y,b) else none)=_;rw[ζ ⟨rfl,rfl,q,e⟩]
      rw[this] at hn;cases hn
     | app=>exact absurd (show(4:Int)=3 from q) (by decide)
    have A:(!decide (x.name=arrow))=true:=by rw[φ hs];rfl
    exact aA (sgh [(3,.bv false),(7,.bv false)] rfl (aB rfl (fun _=>sg rfl (aE ⟨.inr rfl,⟨_,_,.cell rfl (tg rfl) rfl rfl rfl (.cell rfl (tg rfl) rfl rfl rfl (.tmp rfl .nil)),.cons zcv (.cons zcv (.cons .refl .nil)),rfl⟩,trivial,rfl⟩)) (fun hb=>Bool.noConfusion (hb.symm.trans A))))
   ·have d3:(!decide (x.form=3))=true:=by rw[φ q];rfl
    exact aA (sgh [(3,.bv true),(7,.bv true)] rfl (aB rfl (fun _=>sg rfl (aE ⟨.inr rfl,⟨_,_,.cell rfl (tg rfl) rfl rfl rfl (.cell rfl (tg rfl) rfl rfl rfl (.tmp rfl .nil)),.cons zcv (.cons zcv (.cons .refl .nil)),rfl⟩,trivial,rfl⟩)) (fun hb=>Bool.noConfusion hb)))
theorem aH3 {b:Bool}(h:b=false):aW Tryz.prog 189 [B b] [] (I .i64 0) []:=by
 subst h;refine b9 (n:=4) tok Tryz.func189 rfl rfl rfl ?_;exact sg rfl (aA (sg rfl (aB rfl nofun (fun _=>aD (sg rfl (aE rtT))))))
theorem PT.form {t:Ty}(h:PT t):t.form=0∨t.form=2∨t.form=3∨t.form=4:=by
 cases h with
 | leaf f s q=>rcases q with h | h | h<;>simp[Ty.form,h]
 | app=>exact .inr (.inr (.inr rfl))
def a1o:Code→Code | .seq _ b=>b | c=>c
theorem pQ:∀(k:Nat) (q:Int) (t:Ty),PT t→tn t≤k→tyW t≤1000000000→aW Tryz.prog 145 [tyV t,I .i64 q] [] (Go.AM.T (pC k q t)) []
 | 0,_,t,_,h,_=>by have:=v8 t;omega
 | k+1,q,t,hP,y,A=>by
  have hM:3000000000≤maxLen:=by decide
  have u:∀(s:Str) (b:Bool),s.length≤2000000000→AWp none Tryz.prog 89 (keys ([]:List (Nat×AObj))) (a1o (a1o (a1o (Tryz.f145.body.getD .skip)))) (mk [(5,Go.AM.T s),(6,B b)] []) (fun ex st=>(ex=.normal∨ex=.ret)∧Fin tr.flat Tryz.f145 st [] (Go.AM.T (brk b s)) []):=fun s b hs=>by
   refine aA (sg rfl ?_);cases b with
   | true=>
    exact aB rfl (fun _=>sg rfl (aE rtT)) nofun
   | false=>
    exact aB rfl nofun (fun _=>aD (sg rfl (aE rtT)))
  refine b9 (n:=89) tok Tryz.func145 rfl rfl rfl ?_;refine sg rfl (sg rfl ?_);rcases hP.cases with⟨a,b,rfl,ha,hb⟩ | ⟨hn,M⟩
  ·have hp:=aLz a b;have O:=lI k 1 a ha;have U:=lI k 0 b hb;unfold nB at y A;rw[jA,jA] at A;unfold dQ at y;rw[tn,tns,tns,tns,tn,tns,tns,tns] at y;have E:=pQ k 1 a ha (by omega) (by omega);have J:=pQ k 0 b hb (by omega) (by omega);have Y:=aH3 (show decide (b.form=5)=false from φ (by have:=hb.form;omega));rw[oH];refine aA (AWp.cut (mk [(5,Go.AM.T (pC k 1 a++arrS++pC k 0 b)),(6,B (!decide (q=0)))] []) ?_ ?_)
   ·refine sk 1 rfl (kc hp ?_);refine kz 9 rfl (aF (sg rfl (aB rfl (fun _=>?_) nofun)));have h4:arrS.length=4:=rfl;refine aC mixed (ak 1 [] rfl (kc E ?_));refine ak 5 [] rfl (kc Y ?_);refine ak 1 [] rfl (kc J ?_);exact kz 5 rfl sl
   ·exact u _ _ (by rw[ψ,ψ,show arrS.length=4 from rfl];omega)
  ·have hp:=aLy hP hn;rcases M with⟨f,s,rfl,hf⟩ | ⟨a,b,rfl,ha,hb⟩
   ·have d1:decide (f=1)=false:=φ (by omega);have d5:decide (f=5)=false:=φ (by omega);have d4:decide (f=4)=false:=φ (by omega);rw[tyW,aIj] at A;rw[lJ k q f s hf];refine aA (AWp.cut (mk [(5,Go.AM.T s),(6,B (decide (f=3)&&decide (s=arrow)))] []) ?_ ?_)
    ·refine sk 1 rfl (kc hp ?_);refine kz 9 rfl (aF (sg rfl (aB rfl nofun (fun _=>sg rfl (aB rfl (fun hb=>absurd (hb.symm.trans d1) Bool.noConfusion) (fun _=>?_))))));by_cases h3:f=3
     ·have d3:decide (f=3)=true:=θ h3;rw[d3,Cd];refine sgh [(3,.bv true),(7,.bv true)] rfl (aB rfl (fun hb=>?_) (fun hb=>?_))
      ·refine ag [] rfl ?_;rw[show decide (s=arrow)=true from hb];exact sl
      ·refine sg rfl (aB rfl (fun hb=>absurd (hb.symm.trans d5) Bool.noConfusion) (fun _=>sg rfl (aB rfl (fun hb=>absurd (hb.symm.trans d4) Bool.noConfusion) (fun _=>aD ?_))));rw[show decide (s=arrow)=false from hb];exact sl
     ·have d3:decide (f=3)=false:=φ h3;rw[d3,B6];exact sgh [(3,.bv false),(7,.bv false)] rfl (aB rfl nofun (fun _=>sg rfl (aB rfl (fun hb=>absurd (hb.symm.trans d5) Bool.noConfusion) (fun _=>sg rfl (aB rfl (fun hb=>absurd (hb.symm.trans d4) Bool.noConfusion) (fun _=>aD sl))))))
    ·exact u _ _ (by omega)
   ·have O:=lI k 2 a ha;have U:=lI k 3 b hb;rw[jA] at A;unfold dQ at y;rw[tn,tns,tns,tns] at y;have E:=pQ k 2 a ha (by omega) (by omega);have J:=pQ k 3 b hb (by omega) (by omega);rw[oI k q hn];refine aA (AWp.cut (mk [(5,Go.AM.T (pC k 2 a++[32]++pC k 3 b)),(6,B (decide (q=3)))] []) ?_ ?_)
    ·refine sk 1 rfl (kc hp ?_);refine kz 9 rfl (aF (sg rfl (aB rfl nofun (fun _=>sg rfl (aB rfl nofun (fun _=>sgh [(3,.bv false),(7,.bv false)] rfl (aB rfl nofun (fun _=>sg rfl (aB rfl nofun (fun _=>sg rfl (aB rfl (fun _=>aC mixed (ak 4 [(2,.row 0 (bF a))] rfl (kc E ?_))) nofun)))))))))));refine ak 5 [(8,.row 1 (bF b))] rfl (kc J ?_);exact kz 5 rfl sl
    ·exact u _ _ (by rw[ψ,ψ,ω,length_nil];omega)
def prT (t:Ty):Str:=pC (tn t) 0 t
theorem aF5 (t:Ty) (hP:PT t) (q:tyW t≤1000000000):aW Tryz.prog 99 [tyV t] [] (Go.AM.T (prT t)) []:=by
 have h:=pQ (tn t) 0 t hP (le_refl _) q;refine b9 (n:=5) tok Tryz.func99 rfl rfl rfl ?_;refine sg rfl (sk 1 rfl (kc h ?_));exact kz 1 rfl (aE rtT)
end Go.Proofs.YtkhgpgihmphfdaaGreatDoor
namespace Go.Proofs.YtkhgpgihmphfdaaGreatDoor
open Go Go.AM Go.Shelf
set_option maxRecDepth 100000
def jr:Ren:=⟨fun f=>if f=156 then 37 else if f=165 then 87 else if f=166 then 88 else if f=169 then 89 else if f=240 then 140 else if f=241 then 141 else if f=276 then 180 else if f=277 then 181 else f,fun t=>if t=0 then 0 else if t=3 then 3 else if t=4 then 4 else if t=5 then 5 else if t=9 then 9 else if t=20 then 20 else if t=31 then 24 else if t=37 then 144 else if t=70 then 143 else if t=72 then 146 else if t=75 then 149 else if t=76 then 150 else if t=80 then 152 else if t=127 then 193 else if t=164 then 216 else t,fun g=>if g=1 then 0 else g⟩
theorem jl:Lays.n156 Tryz.prog jr where
 mixed:=mixed
 f156:=by kernel_rfl
 f165:=by kernel_rfl
 f166:=by kernel_rfl
 f169:=by kernel_rfl
 f240:=by kernel_rfl
 f241:=by kernel_rfl
 f276:=by kernel_rfl
 f277:=by kernel_rfl
 t0:=by kernel_rfl
 a0:=fun w=>by kernel_rfl
 z0:=fun w=>by kernel_rfl
 v0:=fun w=>by kernel_rfl
 t3:=by kernel_rfl
 a3:=fun w=>by kernel_rfl
 z3:=fun w=>by kernel_rfl
 v3:=fun w=>by kernel_rfl
 t4:=by kernel_rfl
 a4:=fun w=>by kernel_rfl
 z4:=fun w=>by kernel_rfl
 v4:=fun w=>by kernel_rfl
 t9:=by kernel_rfl
 a9:=fun w=>by kernel_rfl
 z9:=fun w=>by kernel_rfl
 v9:=fun w=>by kernel_rfl
 t20:=by kernel_rfl
 a20:=fun w=>by kernel_rfl
 z20:=fun w=>by kernel_rfl
 v20:=fun w=>by kernel_rfl
 t31:=by kernel_rfl
 a31:=fun w=>by kernel_rfl
 z31:=fun w=>by kernel_rfl
 v31:=fun w=>by kernel_rfl
 t37:=by kernel_rfl
 a37:=fun w=>by kernel_rfl
 z37:=fun w=>by kernel_rfl
 v37:=fun w=>by kernel_rfl
 t70:=by kernel_rfl
 a70:=fun w=>by kernel_rfl
 z70:=fun w=>by kernel_rfl
 v70:=fun w=>by kernel_rfl
 t72:=by kernel_rfl
 a72:=fun w=>by kernel_rfl
 z72:=fun w=>by kernel_rfl
 v72:=fun w=>by kernel_rfl
 t75:=by kernel_rfl
 a75:=fun w=>by kernel_rfl
 z75:=fun w=>by kernel_rfl
 v75:=fun w=>by kernel_rfl
 t76:=by kernel_rfl
 a76:=fun w=>by kernel_rfl
 z76:=fun w=>by kernel_rfl
 v76:=fun w=>by kernel_rfl
 t127:=by kernel_rfl
 a127:=fun w=>by kernel_rfl
 z127:=fun w=>by kernel_rfl
 v127:=fun w=>by kernel_rfl
 t164:=by kernel_rfl
 a164:=fun w=>by kernel_rfl
 z164:=fun w=>by kernel_rfl
 v164:=fun w=>by kernel_rfl
theorem jx:Builder.Extra Tryz.prog jr where
 sizeBuilder:=by kernel_rfl
 liesBuilder:=by kernel_rfl
 t5:=by kernel_rfl
 a5:=fun w=>by kernel_rfl
 z5:=fun w=>by kernel_rfl
 v5:=fun w=>by kernel_rfl
 infoByte:=by kernel_rfl
 cellsByte:=by kernel_rfl
 sizeByte:=by kernel_rfl
 neB5:=by decide
end Go.Proofs.YtkhgpgihmphfdaaGreatDoor
namespace Go.AM
open Go
theorem Inv.below {G:Ctx}{S:Sto}{μ:Mu}{H:cF}{w w':World}(h:Inv G S μ H w) (k:Go.RowKit.Below w.heap.size w w'):Inv G S μ H w':=by
 have hold:∀b:Nat,b<w.heap.size→w'.heap[b]?=w.heap[b]?:=k.block;obtain⟨h1,h2,q,u,y,A,B,E,I⟩:=h;refine⟨⟨fun b o v e=>?_,fun b mk e=>?_⟩,fun id o e=>(h2 id o e).evolve (Evolve.refl _ _ _) rfl fun b c hm=>⟨hold b ((h2 id o e).lt hm),fun _=>rfl,rfl⟩,q,u,?_,A,B,E,I⟩
 ·obtain⟨vs,t,J,g1,g2⟩:=h1.1 b o v e;exact⟨vs,t,J,by rw[hold b (cA g1)];exact g1,g2⟩
 ·have g:=h1.2 b mk e;obtain⟨_,g2⟩:=MK.holds_some g;rw[hold b (cA g2)];exact g
 ·obtain⟨f1,f2,f3,f4,f5,f6⟩:=y;exact⟨k.os.trans f1,k.tape.trans f2,k.output.trans f3,le_trans f4 k.size,fun b hb M=>by rw[hold b (A8 hb f4)];exact f5 b hb M,f6⟩
end Go.AM
namespace Go.Proofs.YtkhgpgihmphfdaaGreatDoor
open Go Go.AM Go.Shelf
set_option maxRecDepth 20000
theorem aAc (l:List Str):(l.map fun s=>(⟨⟨s⟩⟩:ByteArray)).map (·.data.toList)=l:=by
 rw[List.map_map];exact List.map_id l
theorem u9 (l:List Str) (sep:Str) (hl:l.length≤140737488355328) (hj:(Lib.join l sep).length≤140737488355328):aW Tryz.prog 37 [bU l,Go.AM.T sep] [] (Go.AM.T (Lib.join l sep)) []:=by
 intro S μ w vals J hv;simp only[bU,b7,aS,aZ,Rep] at hv;obtain⟨v1,af,rfl,⟨a,len,cap,rfl,hlen,ac,ae,E,I,b,o,hb,q⟩,v2,ag,rfl,rfl,rfl⟩:=hv;rw[ξ] at hlen;have u:∀(e:Ending) (w':World),(e=.returned (.string ⟨(Lib.join l sep).toArray⟩)∧Go.RowKit.Below w.heap.size w w')→∃S' μ' v,e=.returned v∧Inv ⟨w,S,kI μ (Go.AM.look []),μ,Go.AM.look []⟩ S' μ' (Go.AM.look []) w'∧aS S' μ' (Go.AM.look []) (Go.AM.T (Lib.join l sep)) v:=by
  rintro e w' ⟨rfl,U⟩;refine⟨S,μ,_,rfl,J.below U,?_⟩;simp only[aS,aZ,Rep]
 cases l with
 | nil=>
  rw[length_nil] at hlen;subst hlen;refine Calls.mono (Any.strings_Join_none jl jx a cap ⟨⟨sep⟩⟩ w) ?_;rintro e w' ⟨rfl,rfl⟩;exact u _ _ ⟨rfl,Go.RowKit.Below.refl _ _⟩
 | cons x r=>
  have ah:0<len:=by rw[hlen,ω];omega
  cases a with
  | none=>have:=(E rfl).1;omega
  | some M=>
   obtain⟨h1,h2⟩:=hb M rfl;have Y:=I M rfl (by omega);obtain⟨O,ao,ai⟩:=M;dsimp only at h1 h2 Y;subst h1 h2 Y;have A:∀(j:Nat) y,((x::r).map fun s=>(⟨⟨s⟩⟩:ByteArray))[j]?=some y→w.cell? ⟨O,ao+j,none⟩=some (.string y):=fun j y hj=>by
    rw[Br] at hj;cases hx:(x::r)[j]? with
    | none=>rw[hx] at hj;cases hj
    | some s=>
     rw[hx] at hj;injection hj with hj;subst hj;obtain⟨_,vs,B,hc⟩:=q.get j (aK s) (aP aK hx);simp only[aK,bZ,Rep] at B;obtain⟨v,vs',rfl,rfl,rfl⟩:=B;have:=J.holds.cell (hc 0 _ rfl);rwa [mul_one,Ct] at this
   have aa:O<w.heap.size:=by
    obtain⟨_,vs,B,hc⟩:=q.get 0 (aK x) rfl;simp only[aK,bZ,Rep] at B;obtain⟨v,vs',rfl,rfl,rfl⟩:=B;obtain⟨_,_,_,g,_⟩:=J.holds.1 _ _ _ (hc 0 _ rfl);exact cA g
   have:=Any.strings_Join jl jx O ao cap ((x::r).map fun s=>(⟨⟨s⟩⟩:ByteArray)) ⟨⟨sep⟩⟩ w A aa (by rw[ξ];exact hl) (by rw[ξ];omega) (by rw[aAc];exact hj);rw[aAc,ξ] at this;rw[hlen];exact Calls.mono this fun e w' h=>u e w' h
end Go.Proofs.YtkhgpgihmphfdaaGreatDoor
namespace Go.Proofs.YtkhgpgihmphfdaaGreatDoor
open Go Go.AM Go.Shelf
set_option maxRecDepth 100000
def ir:Ren:=⟨fun f=>if f=129 then 206 else if f=171 then 49 else if f=243 then 98 else if f=246 then 144 else if f=283 then 184 else if f=284 then 185 else if f=285 then 186 else if f=286 then 187 else if f=317 then 205 else if f=318 then 207 else if f=319 then 208 else if f=320 then 209 else if f=337 then 224 else if f=338 then 225 else f,fun t=>if t=0 then 0 else if t=2 then 2 else if t=3 then 3 else if t=4 then 4 else if t=5 then 5 else if t=9 then 9 else if t=20 then 20 else if t=37 then 144 else if t=46 then 246 else if t=51 then 243 else if t=53 then 222 else if t=171 then 221 else if t=173 then 225 else if t=212 then 242 else if t=213 then 244 else if t=232 then 258 else if t=233 then 259 else t,fun g=>if g=17 then 1 else if g=18 then 2 else if g=19 then 3 else g⟩
theorem il:LaysM.n171 Tryz.prog ir where
 mixed:=mixed
 f129:=by kernel_rfl
 f171:=by kernel_rfl
 f243:=by kernel_rfl
 f246:=by kernel_rfl
 f283:=by kernel_rfl
 f284:=by kernel_rfl
 f285:=by kernel_rfl
 f286:=by kernel_rfl
 f317:=by kernel_rfl
 f318:=by kernel_rfl
 f319:=by kernel_rfl
 f320:=by kernel_rfl
 f337:=by kernel_rfl
 f338:=by kernel_rfl
 t0:=by kernel_rfl
 a0:=fun w=>by kernel_rfl
 z0:=fun w=>by kernel_rfl
 v0:=fun w=>by kernel_rfl
 t2:=by kernel_rfl
 a2:=fun w=>by kernel_rfl
 z2:=fun w=>by kernel_rfl
 v2:=fun w=>by kernel_rfl
 t3:=by kernel_rfl
 a3:=fun w=>by kernel_rfl
 z3:=fun w=>by kernel_rfl
 v3:=fun w=>by kernel_rfl
 t4:=by kernel_rfl
 a4:=fun w=>by kernel_rfl
 z4:=fun w=>by kernel_rfl
 v4:=fun w=>by kernel_rfl
 t5:=by kernel_rfl
 a5:=fun w=>by kernel_rfl
 z5:=fun w=>by kernel_rfl
 v5:=fun w=>by kernel_rfl
 t9:=by kernel_rfl
 a9:=fun w=>by kernel_rfl
 z9:=fun w=>by kernel_rfl
 v9:=fun w=>by kernel_rfl
 t20:=by kernel_rfl
 a20:=fun w=>by kernel_rfl
 z20:=fun w=>by kernel_rfl
 v20:=fun w=>by kernel_rfl
 t37:=by kernel_rfl
 a37:=fun w=>by kernel_rfl
 z37:=fun w=>by kernel_rfl
 v37:=fun w=>by kernel_rfl
 t46:=by kernel_rfl
 a46:=fun w=>by kernel_rfl
 z46:=fun w=>by kernel_rfl
 v46:=fun w=>by kernel_rfl
 t51:=by kernel_rfl
 a51:=fun w=>by kernel_rfl
 z51:=fun w=>by kernel_rfl
 v51:=fun w=>by kernel_rfl
 t53:=by kernel_rfl
 a53:=fun w=>by kernel_rfl
 z53:=fun w=>by kernel_rfl
 v53:=fun w=>by kernel_rfl
 t171:=by kernel_rfl
 a171:=fun w=>by kernel_rfl
 z171:=fun w=>by kernel_rfl
 v171:=fun w=>by kernel_rfl
 t173:=by kernel_rfl
 a173:=fun w=>by kernel_rfl
 z173:=fun w=>by kernel_rfl
 v173:=fun w=>by kernel_rfl
 t212:=by kernel_rfl
 a212:=fun w=>by kernel_rfl
 z212:=fun w=>by kernel_rfl
 v212:=fun w=>by kernel_rfl
 t213:=by kernel_rfl
 a213:=fun w=>by kernel_rfl
 z213:=fun w=>by kernel_rfl
 t232:=by kernel_rfl
 a232:=fun w=>by kernel_rfl
 z232:=fun w=>by kernel_rfl
 v232:=fun w=>by kernel_rfl
 t233:=by kernel_rfl
 a233:=fun w=>by kernel_rfl
 z233:=fun w=>by kernel_rfl
 v233:=fun w=>by kernel_rfl
 g17:=by kernel_rfl
 g18:=by kernel_rfl
 g19:=by kernel_rfl
 i0:=by kernel_rfl
 i2:=by kernel_rfl
 i3:=by kernel_rfl
 i4:=by kernel_rfl
 i5:=by kernel_rfl
 i9:=by kernel_rfl
 i20:=by kernel_rfl
 i37:=by kernel_rfl
 i46:=by kernel_rfl
 i51:=by kernel_rfl
 i53:=by kernel_rfl
 i171:=by kernel_rfl
 i173:=by kernel_rfl
 i212:=by kernel_rfl
 i232:=by kernel_rfl
 i233:=by kernel_rfl
 m17:=by kernel_rfl
 m18:=by kernel_rfl
 m19:=by kernel_rfl
end Go.Proofs.YtkhgpgihmphfdaaGreatDoor
namespace Go.AM
open Go
theorem Inv.grown {G:Ctx}{S:Sto}{μ:Mu}{H:cF}{w:World}(h:Inv G S μ H w) (k:Nat) (os:Array Obj):Inv G S μ H (Sort.grow (w.drewN k) os):=by
 have hold:∀b:Nat,b<w.heap.size→(Sort.grow (w.drewN k) os).heap[b]?=w.heap[b]?:=fun b hb=>by
  show(w.heap++os)[b]?=w.heap[b]?;exact B4 hb
 have hsz:w.heap.size≤(Sort.grow (w.drewN k) os).heap.size:=by
  show w.heap.size≤(w.heap++os).size;rw[Array.size_append];omega
 obtain⟨h1,h2,q,u,y,A,B,E,I⟩:=h;refine⟨⟨fun b o v e=>?_,fun b mk e=>?_⟩,fun id o e=>(h2 id o e).evolve (Evolve.refl _ _ _) rfl fun b c hm=>⟨hold b ((h2 id o e).lt hm),fun _=>rfl,rfl⟩,q,u,?_,A,B,E,I⟩
 ·obtain⟨vs,t,J,g1,g2⟩:=h1.1 b o v e;exact⟨vs,t,J,by rw[hold b (cA g1)];exact g1,g2⟩
 ·have g:=h1.2 b mk e;obtain⟨_,g2⟩:=MK.holds_some g;rw[hold b (cA g2)];exact g
 ·obtain⟨f1,f2,f3,f4,f5,f6⟩:=y;exact⟨f1,f2,f3,le_trans f4 hsz,fun b hb M=>by rw[hold b (A8 hb f4)];exact f5 b hb M,f6⟩
end Go.AM
namespace Go.Proofs.YtkhgpgihmphfdaaGreatDoor
open Go Go.AM
set_option maxRecDepth 20000
theorem aVc (k:Nat) (h:k<1000000000000000000):aW Tryz.prog 49 [I .i64 (k:Int)] [] (Go.AM.T (Lib.decDigits k)) []:=by
 intro S μ w vals u hv;simp only [b7, aS, aZ, Rep] at hv;obtain ⟨v1, y, rfl, rfl, rfl⟩ := hv;have q : Lib.TabIs Tryz.prog w "internal/strconv.uint64pow10" .u64 Lib.pow10Tab := by
  obtain ⟨h1, t, A, h2⟩ := u.frame.tabAt _ rfl;unfold Lib.TabIs World.var?;rw [show Tryz.prog.globalNamed "internal/strconv.uint64pow10" = aN5 by kernel_rfl];simp only [aN5, Ck, h2];rfl
 refine Calls.mono (Any.strconv_Itoa il (k:Int) (by omega) (by omega) w q) ?_;rintro e w' ⟨rfl,j,os,rfl⟩;refine⟨S,μ,_,rfl,u.grown j os,?_⟩;rw[Lib.itoa_nonneg];simp only[aS,aZ,Rep]
end Go.Proofs.YtkhgpgihmphfdaaGreatDoor
namespace Go.Proofs.YtkhgpgihmphfdaaGreatDoor
open Go Go.AM
set_option maxRecDepth 20000
theorem aLj (n:Nat) (h:n≤600000000000):(Lib.decDigits n).length≤20:=by
 rw[Lib.decDigits_length];by_cases h0:n=0
 ·subst h0;decide+kernel
 ·have:=Lib.numDigits_eq n (by omega) (by omega);split at this<;>omega
set_option maxHeartbeats 4000000
theorem fL (s:Str) (b:Bool) (h:s.length≤2000000000):aW Tryz.prog 50 [Go.AM.T s,B b] [] (Go.AM.T (brk b s)) []:=by
 have q:3000000000≤maxLen:=by decide
 refine b9 (n:=10) tok Tryz.func50 rfl rfl rfl ?_;refine sg rfl (aA (sg rfl ?_));cases b with
 | true=>
  exact aB rfl (fun _=>sg rfl (aE rtT)) nofun
 | false=>
  exact aB rfl nofun (fun _=>aD (sg rfl (aE rtT)))
def cO (t:Ty):Str:=brk (decide (t.form=4)) (prT t)
def fB (p:Prd):Str:=p.cls++[32]++cO p.ty
def aB6:Str:=[44,32]
def a3r:Str:=[32,61,62,32]
def uU (l:List Prd):Str:=if l=[] then [] else brk (decide (1<l.length)) (Lib.join (l.map fB) aB6)++a3r
def nE (s:Sch):Str:=uU s.preds++prT s.ty
def aB4 (p:Prd):Nat:=p.cls.length+8+tyW p.ty
def cP (l:List Prd):Nat:=(l.map aB4).sum
def rR (s:Sch):Nat:=cP s.preds+8+tyW s.ty
structure SchP (s:Sch):Prop where
 t:PT s.ty
 p:∀p∈s.preds,PT p.ty
 l:s.preds.length≤100000
theorem mQ {t:Ty}(h:PT t):(prT t).length≤tyW t:=lI _ _ t h
theorem nD {t:Ty}(h:PT t):(cO t).length≤tyW t+2:=by
 have h1:=bS (decide (t.form=4)) (prT t);have h2:=mQ h;unfold cO;omega
theorem pred_le {p:Prd}(h:PT p.ty):(fB p).length≤aB4 p:=by
 have h1:=nD h;unfold fB aB4;rw[ψ,ψ,ω,length_nil];omega
theorem join_le (sep:Str):∀l:List Str,(Lib.join l sep).length≤(l.map (fun s:Str=>s.length)).sum+sep.length*l.length
 | []=>Ab _
 | x::r=>by
  have e:Lib.lens (x::r)=((x::r).map (fun s:Str=>s.length)).sum:=rfl;have q:(Lib.join (x::r) sep).length=sep.length*r.length+Lib.lens (x::r):=Lib.join_length x r sep;rw[q,e,ω,Nat.mul_add];omega
theorem aI6 {α:Type}(f g:α→Nat):∀l:List α,(∀x∈l,f x≤g x)→(l.map f).sum≤(l.map g).sum
 | [],_=>le_refl _
 | x::l,h=>by
  rw[Ar,Ar,Bx,Bx];have:=h x Bt;have:=aI6 f g l fun y hy=>h y (Bf _ hy)
  omega
theorem aCo {α:Type}(g:α→Nat):∀{l:List α}{x:α},x∈l→g x≤(l.map g).sum
 | y::l,x,h=>by
  rw[Ar,Bx];rcases Aq.1 h with rfl | h
  ·omega
  ·have:=aCo g h;omega
theorem aKp {α:Type}(g:α→Nat) (k:Nat):∀{l:List α},(∀x∈l,k≤g x)→k*l.length≤(l.map g).sum
 | [],_=>le_refl _
 | y::l,h=>by
  rw[Ar,Bx,ω,Nat.mul_add];have:=h y Bt;have:=aKp g k (l:=l) fun z q=>h z (Bf _ q)
  omega
theorem sK {l:List Prd}(h:∀p∈l,PT p.ty):(Lib.join (l.map fB) aB6).length≤2*cP l:=by
 have h1:=join_le aB6 (l.map fB);rw[List.map_map,ξ,show aB6.length=2 from rfl] at h1;have h2:(l.map ((fun s:Str=>s.length)∘fB)).sum≤(l.map aB4).sum:=aI6 (fun p=>(fB p).length) aB4 l fun p hp=>pred_le (h p hp)
 have q:=aKp aB4 2 (l:=l) fun p _=>by unfold aB4;omega
 unfold cP;omega
theorem oA {l:List Prd}(h:∀p∈l,PT p.ty):(uU l).length≤2*cP l+6:=by
 have h1:=sK h;have h2:=bS (decide (1<l.length)) (Lib.join (l.map fB) aB6);unfold uU;split
 ·exact Ab _
 ·rw[ψ,show a3r.length=4 from rfl];omega
theorem rA {s:Sch}(h:SchP s):(nE s).length≤2*rR s:=by
 have h1:=oA h.p;have h2:=mQ h.t;unfold nE rR;rw[ψ];omega
theorem aF6 {t:Ty}(h:PT t) (q:tyW t≤1000000000):aW Tryz.prog 84 [tyV t] [] (Go.AM.T (cO t)) []:=by
 have h1:=mQ h;have hp:=aF5 t h q;have hb:=fL (prT t) (decide (t.form=4)) (by omega);refine b9 (n:=9) tok Tryz.func84 rfl rfl rfl ?_;refine sg rfl (sk 1 rfl (kc hp ?_));refine ak 3 [] rfl (kc hb ?_);exact kz 1 rfl (aE rtT)
theorem r3 (l:List Prd) (h:∀p∈l,PT p.ty) (hl:l.length≤100000) (hW:cP l≤400000000):aW Tryz.prog 86 [.one (.c (.sl 5 (l.map aM)))] [] (Go.AM.T (uU l)) []:=by
 have hM:3000000000≤maxLen:=by decide
 have J:(l.map aM).length=l.length:=ξ _;refine b9 (n:=33) tok Tryz.func86 rfl rfl rfl ?_;refine sg rfl (sg rfl (AWp.sub (Sub.own (t:=3) (id:=500) 9 1 rfl rfl) ?_));refine aA (sg rfl (aF (aJ (fun i:Nat=>mk [(3,.one (.hs 500 0 (l.take i).length (l.take i).length)),(6,.one (.c (.sl 5 (l.map aM)))),(7,I .i64 ((l.map aM).length:Nat)),(8,I .i64 (i:Nat))] [(500,.arr 9 1 (((l.take i).map fB).map aK) 0)]) (fun i=>i≤l.length) (fun i=>l.length-i) 0 (Ab _) sl ?_)));intro i hi;have hti:(l.take i).length=i:=by rw[Ai];omega
 refine sg rfl (aA (aB rfl (fun hb=>?_) (fun hb=>?_)))
 ·have u:=ltD hb J;obtain⟨p,hp⟩:=aG u;have hp':=aP aM hp;have hm:=ε hp;have M:aB4 p≤cP l:=aCo aB4 hm;rw[show aB4 p=p.cls.length+8+tyW p.ty from rfl] at M;have O:=aF6 (h p hm) (by omega);have hsl:=nD (h p hm);have y:(((l.take i).map fB).map aK).length=(l.take i).length:=by rw[ξ,ξ]
  have A:l.take (i+1)=l.take i++[p]:=bQ hp;have B:(l.take (i+1)).length=(l.take i).length+1:=by rw[A,ψ];rfl
  have E:(((l.take i).map fB).map aK)++[[.str (p.cls++[32]++cO p.ty)]]=((l.take (i+1)).map fB).map aK:=by rw[A,Af,Af];rfl
  refine aD (aA (aF (sgh [(0,.row i (aM p))] rfl (aC mixed (ak 6 [] rfl (kc O ?_))))));exact ak 2 [(8,.all)] rfl (kz 2 rfl (agN [] rfl ⟨i+1,u,by dsimp only;omega,sl (he:=⟨Go.AM.hs_ren (by rw[B,←y];rfl) (by rw[B,←y];rfl),rfl,rfl,rfl,trivial⟩) (hh:=⟨⟨_,rfl,.arrS E⟩,trivial⟩)⟩))
 ·have U:=geD hb J hi;subst U;refine aH ?_;rw[Al];have hjl:=sK h;have Y:((l.map fB).map aK).length=l.length:=by rw[ξ,ξ]
  have hj:=u9 (l.map fB) aB6 (by rw[ξ];omega) (by omega);have aa:=fL (Lib.join (l.map fB) aB6) (decide ((1:Int)<((((l.map fB).map aK).length:Nat):Int))) (by omega);have hbl:=bS (decide ((1:Int)<((((l.map fB).map aK).length:Nat):Int))) (Lib.join (l.map fB) aB6);refine AWp.sub (Sub.freeze (id:=500) rfl) ?_;refine AWp.sub (st2:=mk [(3,bU (l.map fB))] []) ?_ ?_
  ·refine Sub.trans ?_ (cv 3 ((l.map fB).map aK));exact sl
  refine aA (sg rfl ?_);unfold uU;by_cases q:l=[]
  ·have d:decide (((((l.map fB).map aK).length:Nat):Int)=0)=true:=θ (by rw[q];rfl);rw[ζ q];exact aB rfl (fun _=>sg rfl (aE rtT)) (fun hb=>Bool.noConfusion (hb.symm.trans d))
  ·have ab:0<l.length:=Cg.2 q;have d:decide (((((l.map fB).map aK).length:Nat):Int)=0)=false:=φ (by omega);have e1:decide (1<l.length)=decide ((1:Int)<((((l.map fB).map aK).length:Nat):Int)):=by
    rw[Y];by_cases h1:1<l.length
    ·rw[θ h1,θ (by omega)]
    ·rw[φ h1,φ (by omega)]
   rw[η q,e1];refine aB rfl (fun hb=>Bool.noConfusion (hb.symm.trans d)) (fun _=>aD (sk 1 rfl (kc hj ?_)));refine ak 3 [] rfl (kc aa ?_);exact kz 2 rfl (aE rtT)
theorem qZ {s:Sch}(h:SchP s) (q:rR s≤400000000):aW Tryz.prog 54 [.pa (kU s)] [] (Go.AM.T (nE s)) []:=by
 have u:3000000000≤maxLen:=by decide
 unfold rR at q;have h1:=r3 s.preds h.p h.l (by omega);have h2:=aF5 s.ty h.t (by omega);have y:=oA h.p;have A:=mQ h.t;refine b9 (n:=10) tok Tryz.func54 rfl rfl rfl ?_;refine sg rfl (sk 2 rfl (kc h1 ?_));refine ak 2 [] rfl (kc h2 ?_);exact kz 2 rfl (aE rtT)
def s6 (l:List Str):Str:=if l=[] then [123,32,125] else [123,32]++Lib.join l [32,59,32]++[32,125]
theorem sO (l:List Str) (hl:l.length≤1000000) (A:(Lib.join l [32,59,32]).length≤2000000000):aW Tryz.prog 53 [bU l] [] (Go.AM.T (s6 l)) []:=by
 unfold s6;have B:3000000000≤maxLen:=by decide
 have u:(l.map aK).length=l.length:=ξ _;have hj:=u9 l [32,59,32] (by omega) (by omega);refine b9 (n:=10) tok Tryz.func53 rfl rfl rfl ?_;refine sg rfl (aA (sg rfl ?_));rw[u];by_cases q:l=[]
 ·have d:decide ((l.length:Int)=0)=true:=θ (by rw[q];rfl);rw[ζ q];exact aB rfl (fun _=>sg rfl (aE rtT)) (fun hb=>Bool.noConfusion (hb.symm.trans d))
 ·have y:0<l.length:=Cg.2 q;have d:decide ((l.length:Int)=0)=false:=φ (by omega);rw[η q];refine aB rfl (fun hb=>Bool.noConfusion (hb.symm.trans d)) (fun _=>aD (sk 1 rfl (kc hj ?_)));exact kz 3 rfl (aE rtT)
theorem aIy (a b:Ty):tyW (nB a b)=26+tyW a+tyW b:=by
 unfold nB;rw[jA,jA];have:tyW (.mk 3 0 arrow [])=10:=by rw[tyW,aIj];rfl
 rw[this];omega
theorem aX5 {a b:Ty}(ha:PT a) (hb:PT b):PT (nB a b):=.app (.app (.leaf 3 arrow (.inr (.inr rfl))) ha) hb
mutual
theorem aB0:∀(f o:Nat) (R:List Tk) (x:Ty) (R':List Tk),cU f o R=.ok (x,R')→PT x∧tyW x+16+8*wt R'≤8*wt R
 | 0,_,_,_,_,h=>by rw[cU] at h;cases h
 | _+1,_,[],_,_,h=>by rw[cU] at h;cases h
 | f+1,o,t::R,x,R',h=>by
  rw[cU] at h;rw[cK];by_cases h2:t.kind=2
  ·rw[ζ h2] at h;cases h;refine⟨.leaf 3 _ (.inr (.inr rfl)),?_⟩;unfold aSy;rw[tyW,aIj];omega
  rw[η h2] at h;by_cases h1:t.kind=1
  ·rw[ζ h1] at h;cases h;refine⟨.leaf 2 _ (.inr (.inl rfl)),?_⟩;unfold aSw;rw[tyW,aIj];omega
  rw[η h1] at h;split at h
  ·cases h
  split at h
  ·cases h
  cases hw:cI f (o+1) R with
  | error e=>rw[hw,p0] at h;cases h
  | ok y=>
   obtain⟨y,R1⟩:=y;rw[hw] at h;obtain⟨g1,g2⟩:=aB9 f (o+1) R y R1 hw;cases R1 with
   | nil=>rw[p0] at h;cases h
   | cons u R2=>
    rw[p0] at h;split at h
    ·cases h;rw[cK] at g2;exact⟨g1,by omega⟩
    ·cases h
theorem aB9:∀(f o:Nat) (R:List Tk) (x:Ty) (R':List Tk),cI f o R=.ok (x,R')→PT x∧tyW x+16+8*wt R'≤8*wt R
 | 0,_,_,_,_,h=>by rw[cI] at h;cases h
 | f+1,o,R,x,R',h=>by
  rw[cI] at h;cases ha:cU f o R with
  | error e=>rw[ha] at h;cases h
  | ok y=>
   obtain⟨y,R1⟩:=y;rw[ha] at h;obtain⟨g1,g2⟩:=aB0 f o R y R1 ha;obtain⟨q,A⟩:=aSj f o y R1 x R' g1 h;exact⟨q,by omega⟩
theorem aSj:∀(f o:Nat) (y:Ty) (R:List Tk) (x:Ty) (R':List Tk),PT y→kY f o y R=.ok (x,R')→PT x∧tyW x+8*wt R'≤tyW y+8*wt R
 | 0,_,_,_,_,_,_,h=>by rw[kY] at h;cases h
 | _+1,_,_,[],_,_,_,h=>by rw[kY] at h;cases h
 | f+1,o,y,t::R,x,R',hy,h=>by
  rw[kY] at h;split at h
  ·cases ha:cU f o (t::R) with
   | error e=>rw[ha] at h;cases h
   | ok a=>
    obtain⟨a,R1⟩:=a;rw[ha] at h;obtain⟨g1,g2⟩:=aB0 f o (t::R) a R1 ha;obtain⟨q,A⟩:=aSj f o (dQ y a) R1 x R' (.app hy g1) h;rw[jA] at A;exact⟨q,by omega⟩
  split at h
  ·cases ha:cI f o R with
   | error e=>rw[ha] at h;cases h
   | ok a=>
    obtain⟨a,R1⟩:=a;rw[ha] at h;cases h;obtain⟨g1,g2⟩:=aB9 f o R a R' ha;rw[aIy,cK];exact⟨aX5 hy g1,by omega⟩
  ·cases h;exact⟨hy,le_refl _⟩
end
theorem zQ (l m:List Prd):cP (l++m)=cP l+cP m:=by unfold cP;rw[Af,sum_append]
theorem aJ6 (p:Prd):cP [p]=aB4 p:=by unfold cP;rw[Ar,Ca,Bx,List.sum_nil];rfl
theorem aJ5:∀(f:Nat) (b:Bool) (R:List Tk) (out A:List Prd) (R':List Tk),(∀p∈out,PT p.ty)→jV f b R out=some (A,R')→(∀p∈A,PT p.ty)∧cP A+8*wt R'≤cP out+8*wt R
 | 0,_,_,_,_,_,_,h=>by rw[jV] at h;cases h
 | _+1,_,[],_,_,_,_,h=>by rw[jV] at h;cases h
 | f+1,b,t::R,out,A,R',ho,h=>by
  rw[jV] at h;by_cases h2:t.kind=2
  ·rw[ζ h2] at h;have hok:=aB0 (3*R.length) (if b=true then 1 else 0) R;generalize cU (3*R.length) (if b=true then 1 else 0) R=w at hok h;cases w with
   | error e=>cases h
   | ok y=>
    obtain⟨x,R1⟩:=y;obtain⟨g1,g2⟩:=hok x R1 rfl;have B:∀q∈out++[(⟨t.text,x⟩:Prd)],PT q.ty:=fun q hq=>by
     rcases A4.1 hq with hq | hq
     ·exact ho q hq
     ·rw[Am.1 hq];exact g1
    have I:cP (out++[(⟨t.text,x⟩:Prd)])=cP out+(t.text.length+8+tyW x):=by rw[zQ,aJ6];rfl
    rw[cK];cases R1 with
    | nil=>cases h
    | cons u R2=>
     dsimp only at h;rw[cK] at g2;split at h
     ·obtain⟨E,J⟩:=aJ5 f b R2 (out++[⟨t.text,x⟩]) A R' B h;exact⟨E,by omega⟩
     ·cases h;exact⟨B,by rw[cK];omega⟩
  ·rw[η h2] at h;cases h
theorem aCk {R:List Tk}{out:List Prd}{R':List Tk}(h:cV R=.ok (out,R')):(∀p∈out,PT p.ty)∧cP out+8*wt R'≤8*wt R:=by
 have q:∀R:List Tk,(∀p∈([]:List Prd),PT p.ty)∧cP []+8*wt R≤8*wt R:=fun R=>⟨fun p hp=>by(cases hp),by show 0+_≤_;omega⟩
 have A:∀(a:Int) (R0 R1:List Tk) (o:List Prd),(∀p∈o,PT p.ty)→cP o+8*wt R1≤8*wt R0→aDo a R0 o R1=.ok (out,R')→(∀p∈out,PT p.ty)∧cP out+8*wt R'≤8*wt R0:=fun a R0 R1 o ho hw h=>by
  cases R1 with
  | nil=>rw[aDo] at h;cases h;exact q _
  | cons u R=>
   rw[aDo] at h;rw[cK] at hw;split at h
   ·split at h
    ·cases h
    ·cases h;exact⟨ho,by omega⟩
   ·cases h;exact q _
 cases R with
 | nil=>rw[cV] at h;cases h;exact q _
 | cons t R=>
  rw[cV] at h;have hw:wt (if isT t cG=true then R else t::R)≤wt (t::R):=by
   rw[cK];split
   ·omega
   ·rw[cK];omega
  cases hp:jV ((t::R).length+1) (isT t cG) (if isT t cG=true then R else t::R) [] with
  | none=>rw[hp,mE] at h;cases h;exact q _
  | some y=>
   obtain⟨o,R1⟩:=y;rw[hp,mE] at h;obtain⟨g1,g2⟩:=aJ5 _ _ _ _ _ _ (fun p hp=>by(cases hp)) hp;have g2:cP o+8*wt R1≤8*wt (t::R):=by rw[show cP []=0 from rfl] at g2;omega
   cases R1 with
   | nil=>rw[brP] at h;cases h;exact q _
   | cons u R2=>
    rw[brP] at h;split at h
    ·split at h
     ·rw[cK] at g2;exact A _ _ _ _ g1 (by omega) h
     ·cases h;exact q _
    ·exact A _ _ _ _ g1 g2 h
theorem aD7 {R:List Tk}{s:Sch}{R':List Tk}(h:cT R=.ok (s,R')):(PT s.ty∧∀p∈s.preds,PT p.ty)∧rR s+8*wt R'≤8*wt R:=by
 unfold cT at h;cases hp:cV R with
 | error e=>rw[hp,qP] at h;cases h
 | ok y=>
  obtain⟨ps,R1⟩:=y;rw[hp,qP] at h;obtain⟨g1,g2⟩:=aCk hp;cases hw:cI (3*R1.length+2) 0 R1 with
  | error e=>rw[hw,qO] at h;cases h
  | ok y=>
   obtain⟨x,R2⟩:=y;rw[hw,qO] at h;cases h;obtain⟨q,u⟩:=aB9 _ _ _ _ _ hw;refine⟨⟨q,g1⟩,?_⟩;show cP ps+8+tyW x+_≤_;omega
mutual
def psz:Pt→Nat
 | .mk _ _ _ _ l=>a00 l+1
def a00:List Pt→Nat
 | []=>0
 | p::l=>psz p+a00 l
end
theorem aCj:∀{l:List Pt}{p:Pt},p∈l→psz p≤a00 l
 | [],p,h=>by cases h
 | a::l,p,h=>by
  rw[a00];rcases Aq.1 h with rfl | h
  ·omega
  ·have:=aCj h;omega
theorem nG:∀{l:List Pt},zN l→∀p∈l,ptB p
 | a::l,h,p,hp=>by
  rcases Aq.1 hp with rfl | hp
  ·exact h.1
  ·exact nG h.2 p hp
def aZf (n:Int):Str:=Lib.decDigits n.toNat
def uQ (n:Int):Prop:=0≤n∧n≤2147483647
theorem aFt {n:Int}(h:uQ n):(aZf n).length≤20:=aLj _ (by have:=h.2;omega)
theorem aMa {n:Int}(h:uQ n):aW Tryz.prog 49 [I .i64 n] [] (Go.AM.T (aZf n)) []:=by
 have:=aVc n.toNat (by have:=h.2;omega);rwa [Int.toNat_of_nonneg h.1] at this
mutual
def ptW:Pt→Nat
 | .mk _ _ _ s l=>s.length+24+jR l
def jR:List Pt→Nat
 | []=>0
 | p::l=>ptW p+jR l
end
mutual
def prP:Pt→Str
 | .mk f _ n s l=>if f=1 then [95] else if f=3 then aZf n else s++rU l
def rU:List Pt→Str
 | []=>[]
 | p::l=>[32]++brk (decide (0<p.kids.length)) (prP p)++rU l
end
mutual
def aJ9:Pt→Prop
 | .mk _ _ n _ l=>uQ n∧lK l
def lK:List Pt→Prop
 | []=>True
 | p::l=>aJ9 p∧lK l
end
theorem eF:∀{l:List Pt},lK l→∀p∈l,aJ9 p
 | a::l,h,p,hp=>by
  rcases Aq.1 hp with rfl | hp
  ·exact h.1
  ·exact eF h.2 p hp
theorem lH:∀{l:List Pt}{p:Pt},p∈l→ptW p≤jR l
 | a::l,p,h=>by
  rw[jR];rcases Aq.1 h with rfl | h
  ·omega
  ·have:=lH h;omega
theorem mO:∀(l:List Pt) (i:Nat),jR (l.take i)≤jR l
 | [],i=>by rw[take_nil];exact le_refl _
 | p::l,0=>Ab _
 | p::l,i+1=>by
  rw[A3,jR,jR];have:=mO l i;omega
theorem kS:∀(l:List Pt) (i:Nat),lK l→lK (l.take i)
 | [],i,_=>by rw[take_nil];trivial
 | p::l,0,_=>trivial
 | p::l,i+1,h=>⟨h.1,kS l i h.2⟩
mutual
theorem tJ:∀p:Pt,aJ9 p→(prP p).length+3≤ptW p
 | .mk f pl n s l,h=>by
  have h1:=tI l h.2;have h2:=aFt h.1;rw[prP,ptW];split
  ·show 1+3≤_;omega
  split
  ·omega
  ·rw[ψ];omega
theorem tI:∀l:List Pt,lK l→(rU l).length≤jR l
 | [],_=>le_refl _
 | p::l,h=>by
  have h1:=tJ p h.1;have h2:=tI l h.2;have q:=bS (decide (0<p.kids.length)) (prP p);rw[rU,jR,ψ,ψ,ω,length_nil];omega
end
theorem wX:∀(l m:List Pt),rU (l++m)=rU l++rU m
 | [],m=>rfl
 | p::l,m=>by rw[As,rU,rU,wX l m];simp
theorem lR:∀(k:Nat) (p:Pt),psz p≤k→aJ9 p→ptB p→ptW p≤1000000000→aW Tryz.prog 17 [.pa (bL p)] [] (Go.AM.T (prP p)) []
 | 0,p,h,_,_,_=>by cases p;rw[psz] at h;omega
 | k+1,p,h,hP,hB,Y=>by
  obtain⟨f,pl,n,s,l⟩:=p;rw[psz] at h;have hM:3000000000≤maxLen:=by decide
  have ac:=hB.1;have u:(jL (.mk f pl n s l)).length=l.length:=by rw[iS,ξ];rfl
  have hi:=aMa hP.1;rw[ptW] at Y;rw[prP];refine b9 (n:=36) tok Tryz.func17 rfl rfl rfl ?_;refine sg rfl (aA (sg rfl (aF (sg rfl ?_))));by_cases h1:f=1
  ·have d1:decide (f=1)=true:=θ h1;rw[ζ h1];exact aB rfl (fun _=>sg rfl (aE rtT)) (fun hb=>Bool.noConfusion (hb.symm.trans d1))
  have d1:decide (f=1)=false:=φ h1;rw[η h1];refine aB rfl (fun hb=>Bool.noConfusion (hb.symm.trans d1)) (fun _=>sg rfl ?_);by_cases q:f=3
  ·have d3:decide (f=3)=true:=θ q;rw[ζ q];refine aB rfl (fun _=>sk 2 rfl (kc hi ?_)) (fun hb=>Bool.noConfusion (hb.symm.trans d3));exact kz 1 rfl (aE rtT)
  have d3:decide (f=3)=false:=φ q;rw[η q];refine aB rfl (fun hb=>Bool.noConfusion (hb.symm.trans d3)) (fun _=>aD (sg rfl (aA (sg rfl (aF (aJ (fun i:Nat=>mk [(3,Go.AM.T (s++rU (l.take i))),(18,.one (.c (.sl 10 (jL (.mk f pl n s l))))),(19,I .i64 ((jL (.mk f pl n s l)).length:Nat)),(20,I .i64 (i:Nat))] []) (fun i=>i≤l.length) (fun i=>l.length-i) 0 (Ab _) (sl (he:=⟨by rw[Bl,rU,Ay];rfl,rfl,rfl,rfl,trivial⟩)) ?_))))));intro i B;have ad:=mO l i;have ae:=tI (l.take i) (kS l i hP.2);refine sg rfl (aA (aB rfl (fun hb=>?_) (fun hb=>?_)))
  ·have y:=ltD hb u;obtain⟨x,hx⟩:=aG y;have af:(jL (.mk f pl n s l))[i]?=some (bL x):=by rw[iS];exact aP bL hx
   have hm:=ε hx;have ah:=lH hm;have hc:=lR k x (by have:=aCj hm;omega) (eF hP.2 x hm) (nG hB.2 x hm) (by omega);have ai:=tJ x (eF hP.2 x hm);have E:(jL x).length=x.kids.length:=by rw[iS,ξ]
   have J:=fL (prP x) (decide ((0:Int)<((jL x).length:Nat))) (by omega);have aj:=bS (decide ((0:Int)<((jL x).length:Nat))) (prP x);have M:decide (0<x.kids.length)=decide ((0:Int)<((jL x).length:Nat)):=by
    rw[E];by_cases h0:0<x.kids.length
    ·rw[θ h0,θ (by omega)]
    ·rw[φ h0,φ (by omega)]
   have O:l.take (i+1)=l.take i++[x]:=bQ hx;have A:s++rU (l.take i)++([32]++brk (decide ((0:Int)<((jL x).length:Nat))) (prP x))=s++rU (l.take (i+1)):=by
    rw[O,wX,rU,rU,M];simp
   have aa:=mO l (i+1);have ab:=tI (l.take (i+1)) (kS l (i+1) hP.2);have hlen:(s++rU (l.take i)++([32]++brk (decide ((0:Int)<((jL x).length:Nat))) (prP x))).length≤2000000000:=by rw[A,ψ];omega
   clear hlen M;generalize brk (decide ((0:Int)<((jL x).length:Nat))) (prP x)=B0 at *;refine aD (aA (aF (sgh [(0,.row i (bL x))] rfl (aC mixed (ak 2 [] rfl (kc hc ?_))))));refine ak 4 [] rfl (kc J ?_);exact kz 3 rfl (agN [] rfl ⟨i+1,y,by dsimp only;omega,sl (he:=⟨by rw[←A];rfl,rfl,rfl,rfl,trivial⟩)⟩)
  ·have U:=geD hb u B;subst U;rw[Al];exact aH (sg rfl (aE rtT))
mutual
def esz:Ex→Nat
 | .mk _ _ _ _ ks _ bs _=>sL ks+aNn bs+1
def sL:List Ex→Nat
 | []=>0
 | e::l=>esz e+sL l
def bsz:Bd→Nat
 | .mk _ _ _ _ e=>esz e+1
def aNn:List Bd→Nat
 | []=>0
 | b::l=>bsz b+aNn l
end
theorem aC4:∀{l:List Ex}{p:Ex},p∈l→esz p≤sL l
 | [],p,h=>by cases h
 | a::l,p,h=>by
  rw[sL];rcases Aq.1 h with rfl | h
  ·omega
  ·have:=aC4 h;omega
theorem aDg:∀{l:List Bd}{p:Bd},p∈l→bsz p≤aNn l
 | [],p,h=>by cases h
 | a::l,p,h=>by
  rw[aNn];rcases Aq.1 h with rfl | h
  ·omega
  ·have:=aDg h;omega
theorem tX:∀{l:List Ex},rY l→∀p∈l,oN p
 | a::l,h,p,hp=>by
  rcases Aq.1 hp with rfl | hp
  ·exact h.1
  ·exact tX h.2 p hp
def nT:Str:=[32,58,32]
def eqP:Str:=[32,61,32]
def aWw:Str:=[108,101,116,32]
def inP:Str:=[32,105,110,32]
def aWy:Str:=[99,97,115,101,32]
def ofP:Str:=[32,111,102,32]
def aO9:Str:=[92,32]
def opn (f:Int):Bool:=decide (f=5) || (decide (f=6) || (decide (f=7) || decide (f=8)))
def aKx:List (Int×Str)→Str
 | []=>[]
 | x::_=>x.2
def a3u:List (Int×Str)→Str
 | a::b::_=>brk (opn a.1) a.2++[32]++brk (opn b.1 || decide (b.1=4)) b.2
 | _=>[]
def a3c:List (Int×Str)→Str
 | []=>[]
 | a::_=>brk (opn a.1) a.2
def iI:List Pt→List (Int×Str)→List Str
 | p::ps,x::xs=>(prP p++arrS++x.2)::iI ps xs
 | _,_=>[]
mutual
def prE:Ex→Str
 | .mk f _ n s ks ps bs g=>
  if f=3 then aZf n
  else if f=4 then a3u (eC ks)
  else if f=5 then aO9++Lib.join (ps.map prP) [32]++arrS++aKx (eC ks)
  else if f=6 then aWw++s6 (dT bs)++inP++aKx (eC ks)
  else if f=7 then aWy++aKx (eC ks)++ofP++s6 (iI ps (eC ks).tail)
  else if f=8 then a3c (eC ks)++nT++nE g
  else s
def eC:List Ex→List (Int×Str)
 | []=>[]
 | e::l=>(e.form,prE e)::eC l
def prB:Bd→List Str
 | .mk s _ h g e=>(if h=true then [s++nT++nE g] else [])++[s++eqP++prE e]
def dT:List Bd→List Str
 | []=>[]
 | b::l=>prB b++dT l
end
mutual
def exP:Ex→Prop
 | .mk _ _ n _ ks ps bs g=>uQ n∧lK ps∧SchP g∧aPg ks∧qH bs
def aPg:List Ex→Prop
 | []=>True
 | e::l=>exP e∧aPg l
def bdP:Bd→Prop
 | .mk _ _ _ g e=>SchP g∧exP e
def qH:List Bd→Prop
 | []=>True
 | b::l=>bdP b∧qH l
end
mutual
def exW:Ex→Nat
 | .mk _ _ _ s ks ps bs g=>s.length+64+jR ps+iR ks+jS bs+2*rR g
def iR:List Ex→Nat
 | []=>0
 | e::l=>exW e+iR l
def bdW:Bd→Nat
 | .mk s _ _ g e=>2*s.length+32+2*rR g+exW e
def jS:List Bd→Nat
 | []=>0
 | b::l=>bdW b+jS l
end
theorem pM:∀{l:List Ex},aPg l→∀p∈l,exP p
 | a::l,h,p,hp=>by
  rcases Aq.1 hp with rfl | hp
  ·exact h.1
  ·exact pM h.2 p hp
theorem yB:∀{l:List Bd},qH l→∀p∈l,bdP p
 | a::l,h,p,hp=>by
  rcases Aq.1 hp with rfl | hp
  ·exact h.1
  ·exact yB h.2 p hp
theorem xR:∀{l:List Ex}{p:Ex},p∈l→exW p≤iR l
 | a::l,p,h=>by
  rw[iR];rcases Aq.1 h with rfl | h
  ·omega
  ·have:=xR h;omega
theorem y8:∀{l:List Bd}{p:Bd},p∈l→bdW p≤jS l
 | a::l,p,h=>by
  rw[jS];rcases Aq.1 h with rfl | h
  ·omega
  ·have:=y8 h;omega
theorem aEg:∀l:List Pt,jR l=(l.map ptW).sum
 | []=>rfl
 | p::l=>by rw[jR,Ar,Bx,aEg l]
theorem pD {l:List Pt}(h:lK l):(Lib.join (l.map prP) [32]).length≤jR l:=by
 have h1:=join_le [32] (l.map prP);rw[List.map_map,ξ,show([32]:Str).length=1 from rfl] at h1;have h2:=aI6 (fun p=>(prP p).length+3) ptW l fun p hp=>tJ p (eF h p hp)
 have u:(l.map fun p=>(prP p).length+3).sum=(l.map ((fun s:Str=>s.length)∘prP)).sum+3*l.length:=by
  clear h h1 h2
  induction l with
  | nil=>rfl
  | cons p l q=>
   rw[Ar,Ar,Bx,Bx,q,ω];show(prP p).length+3+_=(prP p).length+_+_;omega
 rw[aEg];omega
theorem uE (l:List Str):(s6 l).length≤(l.map (fun s:Str=>s.length)).sum+3*l.length+4:=by
 have h:=join_le [32,59,32] l;rw[show([32,59,32]:Str).length=3 from rfl] at h;unfold s6;split
 ·show 3≤_;omega
 ·rw[ψ,ψ,show([123,32]:Str).length=2 from rfl,show([32,125]:Str).length=2 from rfl];omega
def kW (l:List (Int×Str)):Nat:=(l.map fun x=>x.2.length+8).sum
theorem aUd (l:List (Int×Str)):(aKx l).length≤kW l:=by
 cases l with
 | nil=>exact Ab _
 | cons x l=>unfold kW;rw[Ar,Bx];show x.2.length≤_;omega
theorem aGp:∀(ps:List Pt) (xs:List (Int×Str)),lK ps→((iI ps xs).map (fun s:Str=>s.length)).sum+3*(iI ps xs).length≤jR ps+kW xs
 | [],xs,_=>by cases xs<;>exact Ab _
 | p::ps,[],_=>Ab _
 | p::ps,x::xs,h=>by
  have h1:=aGp ps xs h.2;have h2:=tJ p h.1;rw[iI,Ar,Bx,ω,jR];unfold kW at h1 ⊢;rw[Ar,Bx,ψ,ψ,show arrS.length=4 from rfl];omega
mutual
theorem fH:∀e:Ex,exP e→(prE e).length+8≤exW e
 | .mk f pl n s ks ps q g,h=>by
  obtain⟨hn,hp,u,y,hb⟩:=h;have h1:=wZ ks y;have h2:=tK q hb;have A:=pD hp;have B:=rA u;have E:=aFt hn;have I:=uE (dT q);have J:=uE (iI ps (eC ks).tail);have M:=aGp ps (eC ks).tail hp;have O:=aUd (eC ks);rw[prE,exW];split
  ·omega
  split
  ·clear h2 A B E I J M O;generalize eC ks=l at h1;unfold kW at h1
   match l,h1 with
   | [],_=>show 0+8≤_;omega
   | [_],_=>show 0+8≤_;omega
   | a::b::l,h1=>
    have U:=bS (opn a.1) a.2;have Y:=bS (opn b.1 || decide (b.1=4)) b.2;rw[Ar,Ar,Bx,Bx] at h1;rw[a3u,ψ,ψ,ω,length_nil];omega
  split
  ·rw[ψ,ψ,ψ,show aO9.length=2 from rfl,show arrS.length=4 from rfl];omega
  split
  ·rw[ψ,ψ,ψ,show aWw.length=4 from rfl,show inP.length=4 from rfl];omega
  split
  ·have ht:kW (eC ks).tail+(aKx (eC ks)).length≤kW (eC ks):=by
    cases eC ks with
    | nil=>exact le_refl _
    | cons x l=>unfold kW;rw[Ar,Bx];show _+x.2.length≤_;rw[List.tail_cons];omega
   rw[ψ,ψ,ψ,show aWy.length=5 from rfl,show ofP.length=4 from rfl];omega
  split
  ·have ha:(a3c (eC ks)).length≤kW (eC ks)+2:=by
    cases eC ks with
    | nil=>exact Ab _
    | cons x l=>
     have:=bS (opn x.1) x.2;unfold kW;rw[Ar,Bx,a3c];omega
   rw[ψ,ψ,show nT.length=3 from rfl];omega
  ·omega
theorem wZ:∀l:List Ex,aPg l→kW (eC l)≤iR l
 | [],_=>le_refl _
 | e::l,h=>by
  have h1:=fH e h.1;have h2:=wZ l h.2;rw[eC,iR];unfold kW at h2 ⊢;rw[Ar,Bx];dsimp only;omega
theorem aX8:∀b:Bd,bdP b→((prB b).map (fun s:Str=>s.length)).sum+3*(prB b).length≤bdW b
 | .mk s pl h g e,hb=>by
  have h1:=fH e hb.2;have h2:=rA hb.1;rw[prB,bdW];cases h with
  | true=>
   rw[ζ rfl];simp only[As,Av,Ar,Ca,Bx,List.sum_nil,ω,length_nil,ψ,show nT.length=3 from rfl,show eqP.length=3 from rfl];omega
  | false=>
   rw[η χ];simp only[Av,Ar,Ca,Bx,List.sum_nil,ω,length_nil,ψ,show eqP.length=3 from rfl];omega
theorem tK:∀l:List Bd,qH l→((dT l).map (fun s:Str=>s.length)).sum+3*(dT l).length≤jS l
 | [],_=>le_refl _
 | b::l,h=>by
  have h1:=aX8 b h.1;have h2:=tK l h.2;rw[dT,jS,Af,sum_append,ψ];omega
end
theorem x6:∀(l m:List Bd),dT (l++m)=dT l++dT m
 | [],m=>by rw[dT];rfl
 | b::l,m=>by rw[As,dT,dT,x6 l m,Aj]
abbrev mu (z:Z):Nat:=40*wt z.R
theorem yY {R:List Tk}(h:¬R=[]):240+40*(R.headD zTk).text.length+40*wt R.tail≤40*wt R:=by
 cases R with
 | nil=>exact absurd rfl h
 | cons t R=>rw[cK];show 240+40*t.text.length+40*wt R≤_;omega
theorem aI4 (R:List Tk):40*wt R.tail≤40*wt R:=by
 cases R with
 | nil=>exact le_refl _
 | cons t R=>rw[cK];show 40*wt R≤_;omega
theorem aYr {s:Str}{z:Z}(h:isZ s z=true):¬z.R=[]:=fun q=>by
 unfold isZ b8 at h;rw[q] at h;unfold isK at h;rw[π] at h;exact Bool.noConfusion h.1
theorem oJ (s:Str) (z:Z):mu (bT s z).2≤mu z∧((bT s z).1=true→240+mu (bT s z).2≤mu z):=by
 unfold bT;split
 ·rename_i h;have:=yY (aYr h.2);exact⟨aI4 _,fun _=>by show 240+40*wt z.R.tail≤40*wt z.R;omega⟩
 ·exact⟨le_refl _,fun h=>Bool.noConfusion h⟩
theorem fV {s:Str}{z:Z}(h:(aQ s z).e=0):240+mu (aQ s z)≤mu z:=by
 unfold aQ at h ⊢;split at h
 ·rename_i hm;rw[ζ hm];exact(oJ s z).2 hm
 ·exact(cJ (by decide) h).elim
theorem nU {k:Int}(q:¬k=0) {z:Z}(h:(aR k z).2.e=0):240+40*(aR k z).1.text.length+mu (aR k z).2≤mu z:=by
 unfold aR at h ⊢;split at h
 ·rename_i hc;rw[ζ hc];refine yY fun u=>?_
  have:=hc.2;unfold b8 at this;rw[u] at this;exact q this.symm
 ·exact(cJ (by decide) h).elim
theorem aIo (a b:List Tk):wt (a++b)=wt a+wt b:=by unfold wt;rw[Af,sum_append]
theorem aQ4:∀l:List Tk,jR (iB l)+200*l.length≤40*wt l
 | []=>Ab _
 | t::l=>by
  have:=aQ4 l;show t.text.length+24+0+jR (iB l)+200*(l.length+1)≤_;rw[cK];omega
theorem aIq (z:Z):jR (iB (aU z).1)+200*(aU z).1.length+mu (aU z).2≤mu z:=by
 unfold aU;split
 ·have h1:=aQ4 (z.R.takeWhile qU);have h2:=aIo (z.R.takeWhile qU) (z.R.dropWhile qU);rw[List.takeWhile_append_dropWhile] at h2;show jR (iB (z.R.takeWhile qU))+200*(z.R.takeWhile qU).length+40*wt (z.R.dropWhile qU)≤40*wt z.R;omega
 ·show 0+0+mu z≤mu z;omega
theorem rF (n m:Nat) (a:Int) (z:Z):mu (c0 n m a z)=mu z:=by
 unfold c0;split
 ·unfold mu;rw[qY]
 ·rfl
theorem zZ (s:Str) (n:Nat) (z:Z):mu (b6 s n z).2≤mu z:=by
 have q:mu (moreA s n z)=mu z:=by
  unfold moreA;split
  ·unfold mu;rw[qY]
  ·rfl
 have hS:∀z:Z,mu (dC z)≤mu z:=fun z=>by
  unfold dC;split
  ·have h2:=aIo (z.R.takeWhile (isK cM)) (z.R.dropWhile (isK cM));rw[List.takeWhile_append_dropWhile] at h2;show 40*wt (z.R.dropWhile (isK cM))≤40*wt z.R;omega
  ·exact le_refl _
 have:=hS (moreA s n z);unfold b6;split
 ·show mu (dC (moreA s n z))≤_;omega
 ·show mu (c0 _ _ _ _)≤_;rw[rF];omega
theorem wE {z:Z}(h:(bM z).2.e=0):5*rR (bM z).1+mu (bM z).2≤mu z:=by
 unfold bM at h ⊢;split at h
 ·rename_i he;rw[ζ he];cases hs:cT z.R with
  | error e=>obtain⟨e,p⟩:=e;rw[hs] at h;exact absurd h (qN hs)
  | ok y=>
   obtain⟨s,R'⟩:=y;have:=(aD7 hs).2
   show 5*rR s+40*wt R'≤40*wt z.R;omega
 ·rename_i he;exact absurd h he
theorem mI:SchP oW:=⟨.leaf 0 [] (.inl rfl),fun p hp=>(by cases hp),Ab _⟩
theorem aRb:rR oW=16:=by kernel_rfl
theorem wF {L:List Tk}{z:Z}(u:ZA L z) (hwt:wt L≤30000):SchP (bM z).1:=by
 have q:=(gJ u hwt).2.1.l;unfold bM at q ⊢;split
 ·rename_i he;rw[ζ he] at q;cases hs:cT z.R with
  | error e=>exact mI
  | ok y=>
   obtain⟨s,R'⟩:=y;rw[hs] at q;obtain⟨⟨g1,g2⟩,_⟩:=aD7 hs;exact⟨g1,g2,le_trans q (by decide)⟩
 ·exact mI
def aWf (L:List Tk):Prop:=∀t∈L,uQ t.n
theorem dI:uQ 0:=⟨Int.le_refl _,by decide⟩
theorem aYo:∀(s:Str) (k:Int),(∀c∈s,dgB c.toNat=true)→0≤k→0≤kR s k
 | [],_,_,h=>h
 | c::s,k,hs,h=>by
  rw[kR];have hc:=hs c (.head _);unfold dgB at hc;have hc:=κ hc;split
  ·exact aYo s _ (fun c hc=>hs c (.tail _ hc)) (by omega)
  ·exact h
theorem yX (p:Nat→Bool):∀s:Str,∀c∈s.take (cN p s),p c.toNat=true
 | [],c,h=>by rw[cN,Bl] at h;cases h
 | a::s,c,h=>by
  rw[cN] at h;split at h
  ·rename_i ha;rw[A3] at h;rcases Aq.1 h with rfl | h
   ·exact ha
   ·exact yX p s c h
  ·rw[Bl] at h;cases h
theorem aTs {c:UInt8}{r:Str}{k:Int}{t:Str}{v:Int}(h:jE (c::r)=.ok (k,t,v)):uQ v:=by
 rw[jE] at h;split at h
 ·split at h
  ·cases h
  ·rename_i q;injection h with h;injection h with _ h;injection h with _ h;rw[←h];exact⟨aYo _ _ (yX dgB _) (Int.le_refl _),by omega⟩
 split at h
 ·unfold pE at h;split at h
  ·cases h
  split at h
  ·cases h;exact dI
  split at h
  ·cases h;exact dI
  ·cases h;exact dI
 split at h
 ·cases h
 ·cases h;exact dI
theorem pF:∀(f a:Nat) (s:Str) (l:List Tk),mD f a s=.ok l→aWf l
 | 0,a,s,l,h=>by
  rw[mD] at h;cases h;intro t ht;rw[Am.1 ht];exact dI
 | f+1,a,[],l,h=>by
  rw[mD] at h;cases h;intro t ht;rw[Am.1 ht];exact dI
 | f+1,a,c::r,l,h=>by
  rw[mD] at h;split at h
  ·exact pF f _ _ l h
  ·cases ho:jE (c::r) with
   | error e=>rw[ho] at h;cases h
   | ok p=>
    obtain⟨k,t,v⟩:=p;rw[ho] at h;dsimp only at h;cases hq:mD f (a+t.length) ((c::r).drop t.length) with
    | error e=>rw[hq] at h;cases h
    | ok L'=>
     rw[hq] at h;have h:(⟨k,t,v,(a:Int)⟩:Tk)::L'=l:=by injection h
     subst h;intro x hx;rcases Aq.1 hx with rfl | hx
     ·exact aTs ho
     ·exact pF f _ _ L' hq x hx
theorem tL:∀{l:List Pt}{p:Pt},lK l→aJ9 p→lK (l++[p])
 | [],_,_,h=>⟨h,trivial⟩
 | _::_,_,h,k=>⟨h.1,tL h.2 k⟩
theorem wR:∀(l:List Pt) (p:Pt),jR (l++[p])=jR l+ptW p
 | [],p=>by rw[Av,jR,jR,jR];omega
 | a::l,p=>by rw[As,jR,jR,wR l p];omega
theorem yR:aJ9 zPt∧ptW zPt=24:=⟨⟨dI,trivial⟩,by unfold zPt;rw[ptW,jR];rfl⟩
theorem aKa {L:List Tk}(hN:aWf L):∀f:Nat,(∀o z,ZA L z→aJ9 (bA f o z).1.1∧((bA f o z).1.2=true→(bA f o z).2.e=0→ptW (bA f o z).1.1+mu (bA f o z).2≤mu z)∧((bA f o z).2.e=0→mu (bA f o z).2≤mu z))∧(∀o z,ZA L z→aJ9 (iO f o z).1∧((iO f o z).2.e=0→ptW (iO f o z).1+mu (iO f o z).2≤mu z))∧(∀o out z,ZA L z→lK out→lK (fC f o out z).1∧((fC f o out z).2.e=0→jR (fC f o out z).1+mu (fC f o out z).2≤jR out+mu z))
 | 0=>by
  refine⟨fun o z _=>?_,fun o z _=>?_,fun o out z _ ho=>?_⟩
  ·rw[bA];exact⟨yR.1,fun h=>Bool.noConfusion h,fun _=>le_refl _⟩
  ·rw[iO];exact⟨yR.1,fun h=>(cJ (by decide) h).elim⟩
  ·rw[fC];exact⟨ho,fun _=>le_refl _⟩
 | f+1=>by
  obtain⟨h1,h2,J⟩:=aKa hN f;obtain⟨k1,U,Y⟩:=aCt f;refine⟨fun o z q=>?_,fun o z q=>?_,fun o out z q ho=>?_⟩
  ·rw[bA];split
   ·exact⟨yR.1,fun h=>Bool.noConfusion h,fun _=>le_refl _⟩
   split
   ·rename_i u;have y:¬z.R=[]:=fun A=>by unfold b8 at u;rw[A] at u;exact absurd u.1 (by decide)
    have hw:=yY y;have hm:=hN _ q.mem;refine⟨⟨hm,trivial⟩,fun _ _=>?_,fun _=>aI4 _⟩;have hl:(jC (b8 z)).length≤(b8 z).text.length:=by
     unfold jC;split
     ·exact Ab _
     ·exact le_refl _
    show(jC (b8 z)).length+24+0+40*wt z.R.tail≤40*wt z.R;have:(b8 z).text.length=(z.R.headD zTk).text.length:=rfl;omega
   split
   ·rename_i hm;have:=(oJ aCb z).2 hm;refine⟨⟨dI,trivial⟩,fun _ _=>?_,fun _=>(oJ aCb z).1⟩;show 0+24+0+mu (bT aCb z).2≤mu z;omega
   split
   ·exact⟨yR.1,fun h=>Bool.noConfusion h,fun _=>le_refl _⟩
   split
   ·exact⟨yR.1,fun h=>Bool.noConfusion h,fun h=>(cJ (by decide) h).elim⟩
   ·obtain⟨g1,g2⟩:=h2 (o+1) _ (q.need cG);have key:(aQ nY (iO f (o+1) (aQ cG z)).2).e=0→ptW (iO f (o+1) (aQ cG z)).1+mu (aQ nY (iO f (o+1) (aQ cG z)).2)≤mu z:=fun h=>by
     have B:=(Kq.need nY _ h).1
     have M:=(U (o+1) _ B).1
     have O:=fV h;have w2:=g2 B;have w3:=fV M;omega
    exact⟨g1,fun _ h=>key h,fun h=>by have:=key h;dsimp only;omega⟩
  ·rw[iO];obtain⟨g1,g2,g3⟩:=h1 o z q;split
   ·exact⟨yR.1,fun h=>(cJ (by decide) h).elim⟩
   rename_i hb;have hb:(bA f o z).1.2=true:=by simpa using hb
   split
   ·rename_i u;have y:¬z.R=[]:=fun A=>by unfold b8 at u;rw[A] at u;exact absurd u.1 (by decide)
    have hw:=yY y;have hm:=hN _ q.mem;obtain⟨E,I⟩:=J o [] (tlZ z) (q.tlp (by rw[u.1];decide)) trivial;refine⟨⟨hm,E⟩,fun h=>?_⟩;have q3:=I h;show(b8 z).text.length+24+jR (fC f o [] (tlZ z)).1+mu (fC f o [] (tlZ z)).2≤mu z;have B:(b8 z).text.length=(z.R.headD zTk).text.length:=rfl;have M:mu (tlZ z)=40*wt z.R.tail:=rfl;have e3:mu z=40*wt z.R:=rfl;rw[show jR []=0 from rfl] at q3;omega
   ·exact⟨g1,fun h=>g2 hb h⟩
  ·rw[fC];obtain⟨g1,g2,g3⟩:=h1 o z q;split
   ·split
    ·exact⟨ho,fun h=>by have:=g3 h;dsimp only;omega⟩
    ·rename_i hb;have hb:(bA f o z).1.2=true:=by simpa using hb
     obtain⟨E,I⟩:=J o (out++[(bA f o z).1.1]) (bA f o z).2 ((gK L f).1 o z q).1 (tL ho g1);refine⟨E,fun h=>?_⟩;have O:=I h;have w2:=g2 hb (Y o _ _ h).1;rw[wR] at O;omega
   ·exact⟨ho,fun _=>le_refl _⟩
theorem aFk:∀{l:List Ex}{p:Ex},aPg l→exP p→aPg (l++[p])
 | [],_,_,h=>⟨h,trivial⟩
 | _::_,_,h,k=>⟨h.1,aFk h.2 k⟩
theorem yC:∀{l:List Bd}{p:Bd},qH l→bdP p→qH (l++[p])
 | [],_,_,h=>⟨h,trivial⟩
 | _::_,_,h,k=>⟨h.1,yC h.2 k⟩
theorem aFh:∀(l:List Ex) (p:Ex),iR (l++[p])=iR l+exW p
 | [],p=>by rw[Av,iR,iR,iR];omega
 | a::l,p=>by rw[As,iR,iR,aFh l p];omega
theorem y9:∀(l:List Bd) (p:Bd),jS (l++[p])=jS l+bdW p
 | [],p=>by rw[Av,jS,jS,jS];omega
 | a::l,p=>by rw[As,jS,jS,y9 l p];omega
theorem aCa:∀l:List Tk,lK (iB l)
 | []=>trivial
 | _::l=>⟨⟨dI,trivial⟩,aCa l⟩
theorem aGt:exP zEx:=⟨dI,trivial,mI,trivial,trivial⟩
def uK:List Sg→Nat
 | []=>0
 | s::l=>2*rR s.ty+uK l
theorem aD6:∀(l:List Sg) (s:Sg),uK (l++[s])=uK l+2*rR s.ty
 | [],p=>by simp only[Av,uK];omega
 | a::l,p=>by rw[As,uK,uK,aD6 l p];omega
def aGz (l:List Sg):Prop:=∀s∈l,SchP s.ty
theorem aOa {l:List Sg}{s:Sg}(h:aGz l) (k:SchP s.ty):aGz (l++[s]):=fun x hx=>by
 rcases A4.1 hx with hx | hx
 ·exact h x hx
 ·rw[Am.1 hx];exact k
theorem vH (f a n:Int) (s:Str) (ks:List Ex) (ps:List Pt) (q:List Bd):exW (.mk f a n s ks ps q oW)=s.length+96+jR ps+iR ks+jS q:=by rw[exW,aRb];omega
theorem zU:∀(l:List Sg) (b:List Bd) (z:Z),aGz l→qH b→qH (dG l b z).1∧jS (dG l b z).1≤jS b+uK l
 | [],b,z,_,hb=>by rw[dG];exact⟨hb,by rw[uK];exact le_refl _⟩
 | s::l,b,z,hs,hb=>by
  have hl:aGz l:=fun x hx=>hs x (.tail _ hx)
  rw[dG,uK];split
  ·split
   ·obtain⟨g1,g2⟩:=zU l b (bV 21 s.pl z) hl hb;exact⟨g1,by omega⟩
   ·rename_i k _;split
    ·exact⟨hb,by dsimp only;omega⟩
    ·rename_i x hx;split
     ·obtain⟨g1,g2⟩:=zU l b (bV 20 s.pl z) hl hb;exact⟨g1,by omega⟩
     ·have q:∀(b:List Bd) (k:Nat) (x:Bd),b[k]?=some x→qH b→qH (b.set k (lV x s.ty))∧jS (b.set k (lV x s.ty))≤jS b+2*rR s.ty:=fun b=>by
       induction b with
       | nil=>intro k x hx;cases hx
       | cons a b y=>
        intro k x hx hb;cases k with
        | zero=>
         injection hx with hx;subst hx;cases a with
         | mk u pl h g e=>
          refine⟨⟨⟨hs s (.head _),hb.1.2⟩,hb.2⟩,?_⟩;show(2*u.length+32+2*rR s.ty+exW e)+jS b≤(2*u.length+32+2*rR g+exW e)+jS b+2*rR s.ty;omega
        | succ k=>
         obtain⟨g1,g2⟩:=y k x hx hb.2;refine⟨⟨hb.1,g1⟩,?_⟩;rw[List.set_cons_succ,jS,jS];omega
      obtain⟨A,B⟩:=q b k x hx hb;obtain⟨g1,g2⟩:=zU l _ z hl A;exact⟨g1,by omega⟩
  ·exact⟨hb,by dsimp only;omega⟩
def a0v (ex:Nat→Z→Ex×Z) (L:List Tk):Prop:=∀deep z,ZA L z→exP (ex deep z).1∧((ex deep z).2.e=0→96+exW (ex deep z).1+mu (ex deep z).2≤mu z)
section
variable {L:List Tk}{ex:Nat→Z→Ex×Z}(hO:ExO L ex) (hx:aDr ex) (hP:a0v ex L) (hN:aWf L) (hwt:wt L≤30000)
include hP hN
theorem aYc (deep:Nat) {z:Z}(h:ZA L z):exP (iV ex deep z).1.1∧((iV ex deep z).1.2=true→(iV ex deep z).2.e=0→96+exW (iV ex deep z).1.1+mu (iV ex deep z).2≤mu z)∧((iV ex deep z).1.2=false→mu (iV ex deep z).2≤mu z):=by
 unfold iV;split
 ·exact⟨aGt,fun h=>Bool.noConfusion h,fun _=>le_refl _⟩
 split
 ·rename_i q;have u:¬z.R=[]:=fun y=>by unfold b8 at q;rw[y] at q;exact absurd q.1 (by decide)
  have hw:=yY u;have hm:=hN _ h.mem;refine⟨?_,fun _ _=>?_,fun h=>Bool.noConfusion h⟩
  ·unfold r7;split
   ·exact⟨hm,trivial,mI,trivial,trivial⟩
   ·exact⟨dI,trivial,mI,trivial,trivial⟩
  ·have A:exW (r7 (b8 z))≤(z.R.headD zTk).text.length+96:=by
    unfold r7;split
    ·rw[vH];show 0+96+0+0+0≤_;omega
    ·rw[vH];show(z.R.headD zTk).text.length+96+0+0+0≤_;omega
   show 96+exW (r7 (b8 z))+40*wt z.R.tail≤40*wt z.R;omega
 split
 ·exact⟨aGt,fun h=>Bool.noConfusion h,fun _=>le_refl _⟩
 ·obtain⟨g1,g2⟩:=hP (deep+1) _ (h.may cG);refine⟨g1,fun _ he=>?_,fun h=>Bool.noConfusion h⟩;have B:=fV he;have E:=g2 (Kq.need nY _ he).1;have I:=(oJ cG z).1
  dsimp only;omega
include hO hx
theorem aM8 (deep:Nat) (a:Int):∀(f:Nat) (e:Ex) (z:Z),ZA L z→exP e→exP (fZ ex deep a f e z).1∧((fZ ex deep a f e z).2.e=0→exW (fZ ex deep a f e z).1+mu (fZ ex deep a f e z).2≤exW e+mu z)
 | 0,e,z,_,he=>⟨he,fun _=>le_refl _⟩
 | f+1,e,z,h,he=>by
  rw[fZ];obtain⟨g1,g2,g3⟩:=aYc hP hN deep h;split
  ·split
   ·rename_i hb;exact⟨he,fun _=>by have:=g3 hb;dsimp only;omega⟩
   ·rename_i hb;have hb:(iV ex deep z).1.2=true:=by simpa using hb
    obtain⟨q,u⟩:=aM8 deep a f (aQw a e (iV ex deep z).1.1) _ (lL hO deep h).1 ⟨dI,trivial,mI,⟨he,g1,trivial⟩,trivial⟩;refine⟨q,fun h0=>?_⟩;have y:=u h0;have A:=g2 hb (Kq.apps hx deep a f _ _ h0).1;have B:exW (aQw a e (iV ex deep z).1.1)=96+exW e+exW (iV ex deep z).1.1:=by
     unfold aQw;rw[vH,iR,iR,iR];show 0+96+0+_+0=_;omega
    omega
  ·exact⟨he,fun _=>le_refl _⟩
omit hO hx hP hN in
theorem aRv (a:Int) (l:List Tk) (b:Ex):exW (aYk a l b)=96+jR (iB l)+exW b:=by
 unfold aYk;rw[vH,iR,iR];show 0+96+_+_+0=_;omega
omit hO hx hP hN in
theorem aV1 (l:List Tk) (b:Ex):exW (aBn l b)≤96+jR (iB l)+exW b:=by
 unfold aBn;split
 ·omega
 ·exact Nat.le_of_eq (aRv _ _ _)
omit hO hx hP hN in
theorem aV2 {l:List Tk}{b:Ex}(h:exP b):exP (aBn l b):=by
 unfold aBn;split
 ·exact h
 ·exact⟨dI,aCa _,mI,⟨h,trivial⟩,trivial⟩
omit hO hx hP hN in
theorem aT4 {a:Int}{z:Z}(h:ZA L z):ZA L (uM a z).2:=by
 unfold uM;refine ZA.need (ZA.long ?_ _ _ _) _;split
 ·exact h.words.fail _ _
 ·exact h.words
omit hO hN in
theorem a2g (a:Int) (deep:Nat) {z:Z}(h:ZA L z):exP (uS ex a deep z).1∧((uS ex a deep z).2.e=0→96+exW (uS ex a deep z).1+mu (uS ex a deep z).2≤mu z):=by
 obtain⟨g1,g2⟩:=hP (deep+1) _ (aT4 (a:=a) h);unfold uS;refine⟨⟨dI,aCa _,mI,⟨g1,trivial⟩,trivial⟩,fun h0=>?_⟩;have u:=g2 h0;have q:=(hx _ _ h0).1
 have y:jR (iB (uM a z).1)+240+mu (uM a z).2≤mu z:=by
  unfold uM at q ⊢;have v1:=fV q;rw[rF] at v1;have v2:=aIq z;have v3:mu (if(aU z).1=[] then bV 12 (b8 (aU z).2).pl (aU z).2 else(aU z).2)=mu (aU z).2:=by
   split
   ·unfold mu;rw[qY]
   ·rfl
  dsimp only;omega
 dsimp only;rw[aRv];omega
omit hO hN in
theorem aR9 (q:Tk) (deep:Nat) {z:Z}(h:ZA L z):bdP (dP ex q deep z).1∧((dP ex q deep z).2.e=0→bdW (dP ex q deep z).1+mu (dP ex q deep z).2≤2*q.text.length+mu z):=by
 have y:ZA L (gR q z).2:=by
  unfold gR;exact ZA.need (ZA.long h.words _ _ _) _
 obtain⟨g1,g2⟩:=hP deep _ y;unfold dP;refine⟨⟨mI,aV2 g1⟩,fun h0=>?_⟩;have A:=g2 h0;have u:=(hx _ _ h0).1
 have B:jR (iB (gR q z).1)+240+mu (gR q z).2≤mu z:=by
  unfold gR at u ⊢;have v1:=fV u;rw[rF] at v1;have v2:=aIq z;dsimp only;omega
 have E:=aV1 (gR q z).1 (ex deep (gR q z).2).1;dsimp only at A ⊢;rw[bdW,aRb];omega
omit hO hN in
include hwt in
theorem aFn (sigs:List Sg) (binds:List Bd) (deep:Nat) {z:Z}(h:ZA L z) (hs:aGz sigs) (hb:qH binds):(aGz (aV ex sigs binds deep z).1.1∧qH (aV ex sigs binds deep z).1.2)∧((aV ex sigs binds deep z).2.e=0→uK (aV ex sigs binds deep z).1.1+jS (aV ex sigs binds deep z).1.2+mu (aV ex sigs binds deep z).2≤uK sigs+jS binds+mu z):=by
 have u:=h.word (k:=1) (by decide);have q:=u.may eT;have hm:=oJ eT (aR 1 z).2;unfold aV;split
 ·refine⟨⟨aOa hs (wF q hwt),hb⟩,fun h0=>?_⟩;have y:=wE h0;have A:=nU (k:=1) (by decide) (Kq.may eT _ (Kq.scheme _ h0).1).1;dsimp only;rw[aD6];dsimp only;omega
 ·obtain⟨g1,g2⟩:=aR9 hx hP (aR 1 z).1 deep q;refine⟨⟨hs,yC hb g1⟩,fun h0=>?_⟩;have y:=g2 h0;have A:=nU (k:=1) (by decide) (Kq.may eT _ (Kq.bind hx _ _ _ h0).1).1;dsimp only;rw[y9];omega
end
end Go.Proofs.YtkhgpgihmphfdaaGreatDoor
