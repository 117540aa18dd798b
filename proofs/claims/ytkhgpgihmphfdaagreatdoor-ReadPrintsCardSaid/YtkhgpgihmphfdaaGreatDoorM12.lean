/-
  Texts Rd60 to Rd69 in one.
-/
import Derived.Test.YtkhgpgihmphfdaaGreatDoorM11
import Derived.RecoverIn
import Derived.WideLaws
open List (all_eq_true append_assoc append_nil cons_append drop_append_of_le_length drop_drop drop_eq_getElem_cons drop_length drop_take drop_zero filter_append filter_cons filter_eq_self flatten_append flatten_cons length_append length_cons length_drop length_filter_le length_map length_nil length_range length_replicate length_set length_take map_append map_cons map_nil map_set map_take map_toArray mem_append mem_cons mem_cons_of_mem mem_cons_self mem_map mem_of_mem_take mem_singleton nil_append not_mem_nil range'_succ range_eq_range' replicate_succ take_add_one take_append_drop take_left' take_length take_of_length_le take_succ_cons take_take)
open Nat (add_zero eq_of_beq_eq_true le_of_ble_eq_true le_refl le_trans lt_succ_self mul_le_mul_right mul_one sub_self sub_zero succ_pos zero_add zero_le zero_mul)
namespace Go.Proofs.YtkhgpgihmphfdaaGreatDoor
open Go Go.AM
set_option maxRecDepth 20000
set_option maxHeartbeats 4000000
def uT (ex:Nat→Z→Ex×Z) (s:Pg×List Sg) (z:Z):(Pg×List Sg)×Z:=cY ex s.1 s.2 z
theorem aJ3 (ex:Nat→Z→Ex×Z):∀(f n:Nat) (p:Pg) (sigs:List Sg) (z:Z),eA ex f n p sigs z=lpZ [] (uT ex) f n (p,sigs) z
 | 0,_,_,_,_=>rfl
 | f+1,n,p,sigs,z=>by
  rw[eA,lpZ];split
  ·exact aJ3 ex f _ _ _ _
  ·rfl
theorem aR3 {L:List Tk}{z:Z}(h:ZA L z):aW Tryz.prog 114 ([]++[R.vp 1 0].map V.one) [(600,rO L z),(1,pR)] (B (eD [] z)) [(600,rO L z),(1,pR)]:=by
 have hn:=eQ h;have e:eD [] z=decide ((b8 z).kind=6):=ζ rfl;rw[e];refine b9 (n:=8) tok Tryz.func114 rfl rfl rfl ?_;refine sg rfl (sk 3 rfl (kc hn ?_));exact kz 3 rfl (aE rtT)
def aWg (L:List Tk) (N:Nat):Prop:=∀z,ZA L z→z.e=0→z.R.length≤N→bH Tryz.prog 118 [rP] [(600,rO L z)] (iP L (.pa (cX (eW z).1)) (eW z).2 [])
theorem aU9 {step:(Pg×List Sg)→Z→(Pg×List Sg)×Z}{Inv:Nat→(Pg×List Sg)→Prop}{L:List Tk}{N:Nat}
  (hone:∀n s z,Inv n s→n<60→ZA L z→z.e=0→z.R.length≤N→bH Tryz.prog 115 ([]++[R.vp 1 0,R.vp 3 0,R.vp 4 0].map V.one) ((600,rO L z)::(1,pR)::aKy s.1 s.2) (iP L (.tup []) (step s z).2 ((1,pR)::aKy (step s z).1.1 (step s z).1.2)))
  (hst:∀n s z,Inv n s→n<60→ZA L z→z.e=0→ZA L (step s z).2∧Inv (n+1) (step s z).1∧((step s z).2.e=0→(step s z).2.R.length<z.R.length)∧Ze z (step s z).2)
  {z:Z} (h:ZA L z) (he:z.e=0) (hN:z.R.length≤N) {s:(Pg×List Sg)} (hI:Inv 0 s):
  bH Tryz.prog 113 [rP,.one (.clo 114 [R.vp 1 0]),.one (.clo 115 [R.vp 1 0,R.vp 3 0,R.vp 4 0])] ((600,rO L z)::(1,pR)::aKy s.1 s.2) (iP L (.tup []) (lpZ [] step (z.R.length+1) 0 s z).2 ((1,pR)::aKy (lpZ [] step (z.R.length+1) 0 s z).1.1 (lpZ [] step (z.R.length+1) 0 s z).1.2)):=by
 have u:∃W,W=lpZ [] step (z.R.length+1) 0 s z:=⟨_,rfl⟩
 obtain⟨W,u⟩:=u;rw[←u];refine pI (n:=35) tok Tryz.func113 rfl rfl rfl rfl ?_;refine sg rfl (aF (aJ (fun q:Nat×(Pg×List Sg)×Z×Nat=>mk [(0,rP),(1,.one (.clo 114 [R.vp 1 0])),(2,.one (.clo 115 [R.vp 1 0,R.vp 3 0,R.vp 4 0])),(6,I .i64 (q.1:Nat))] ((600,rO L q.2.2.1)::(1,pR)::aKy q.2.1.1 q.2.1.2)) (fun q=>Inv q.1 q.2.1∧q.1≤60∧ZA L q.2.2.1∧q.2.2.1.e=0∧q.2.2.1.R.length≤N∧q.2.2.1.R.length<q.2.2.2∧moreA [] q.1 q.2.2.1=q.2.2.1∧W=lpZ [] step q.2.2.2 q.1 q.2.1 q.2.2.1) (fun q=>q.2.2.1.R.length) (0,s,z,z.R.length+1) ⟨hI,Ab _,h,he,hN,Bv _,tO _ _,u⟩ sl ?_));clear u h he hN hI;rintro⟨n,s,z,f⟩ ⟨hI,hn,h,he,hN,hf,hA,u⟩;dsimp only at hI hn h he hN hf hA u;refine aF (aA (aF (aJ (fun y:Z=>mk [(0,rP),(1,.one (.clo 114 [R.vp 1 0])),(2,.one (.clo 115 [R.vp 1 0,R.vp 3 0,R.vp 4 0])),(6,I .i64 (n:Nat))] ((600,rO L y)::(1,pR)::aKy s.1 s.2)) (fun y=>ZA L y∧y.e=0∧dC z=dC y∧y.R.length≤z.R.length) (fun y=>y.R.length) z ⟨h,he,rfl,le_refl _⟩ sl ?_)));rintro y ⟨h2,B,e2,hle2⟩

 have hm:=gH h2 B cM;obtain⟨m1,m2,m3⟩:=nK h2;have O:=h2.may cM;have he3:=(jW cM y).trans B;generalize bT cM y=m at hm m1 m2 m3 O he3;obtain⟨b,z3⟩:=m;dsimp only at m1 m2 m3 O he3;refine aA (sk 1 rfl (kc hm ?_));refine az (aB rfl (fun hb=>?_) (fun hb=>?_))
 ·have hb:b=true:=hb;have:=m3 hb;exact aD (aF (aD ⟨z3,⟨O,he3,e2.trans m1.symm,by omega⟩,m3 hb,sl⟩))
 have hb:b=false:=hb;obtain⟨g1,g2⟩:=m2 hb;subst g1;have e3:dC z=z3:=e2.trans g2;clear m1 m2 m3 O e2 hm;have hf0:∃g,f=g+1:=⟨f-1,by omega⟩
 obtain⟨f,rfl⟩:=hf0;rw[lpZ] at u;unfold b6 at u;rw[hA,e3] at u;have hs3:=aR3 h2;have hn3:=eQ h2;refine aH (aA (sk 1 rfl (kv (args:=[]) hs3 ?_)));refine az (aB rfl (fun hb=>?_) (fun hb=>?_))
 ·have hb:eD [] z3=true:=hb;rw[ζ (show ¬z3.e=0∨eD [] z3=true from .inr hb)] at u;rw[η χ] at u;rw[u,bC B];exact aE rtN
 have hb:eD [] z3=false:=hb;have hnb:¬(¬z3.e=0∨eD [] z3=true):=fun k=>k.elim (fun k=>k B) fun k=>by rw[hb] at k;cases k
 rw[η hnb] at u;refine aD ?_;by_cases hn60:n<60
 case neg=>
  have d:decide (((n:Nat):Int)<60)=false:=φ (by omega);rw[iE (by omega) B] at u;dsimp only at u;rw[φ cS,η χ] at u;rw[u,aL cS];have hmn:=bO 2 (b8 z3).pl;refine sk 5 rfl (kc hn3 ?_);refine ak 1 [] rfl ?_;rw[d];exact kp hmn
 have d:decide (((n:Nat):Int)<60)=true:=θ (by omega);rw[iD (by omega),θ B,ζ rfl] at u;have hmo:=bN 2 (b8 z3).pl;refine sk 5 rfl (kc hn3 ?_);refine ak 1 [] rfl ?_;rw[d];refine kc hmo ?_;refine az ?_;have ho:=hone n s z3 hI hn60 h2 B (by omega);obtain⟨E,k2,k3,_⟩:=hst n s z3 hI hn60 h2 B;generalize step s z3=y at ho E k2 k3 u;obtain⟨s4,z4⟩:=y;dsimp only at ho E k2 k3 u;by_cases A:z4.e=0
 case neg=>
  have hp:=bH.err ho A;rw[iL A] at u;rw[u,aL A];exact sk 1 rfl (kpv (args:=[]) hp)
 have ho:=bH.ok ho A;have k3:=k3 A;refine sk 1 rfl (kv (args:=[]) ho ?_);refine az (aA (agN [] rfl ?_));have hlp:=E.lp;have J:=oB E cM;have hn4:=eQ E;have U:=aR3 E;have hmo4:=bN 12 (b8 z4).pl;cases Y:isZ cM z4 with
 | true=>
  rw[Y] at J;have M:moreA [] (n+1) z4=z4:=η fun k=>by rw[Y] at k;cases k.2.2.1
  refine aC mixed (ak 1 [] rfl (kc J ?_));refine ak 7 [(2,.bv true),(5,.bv true)] rfl (kc hn4 ?_);refine ak 1 [(2,.bv true),(5,.bv true)] rfl (kc hmo4 ?_);exact az ⟨(n+1,s4,z4,f),⟨k2,by omega,E,A,by dsimp only;omega,by dsimp only;omega,M,u⟩,by dsimp only;omega,sl⟩
 | false=>
  rw[Y] at J;cases aa:eD [] z4 with
  | true=>
   rw[aa] at U;have M:moreA [] (n+1) z4=z4:=η fun k=>by rw[aa] at k;cases k.2.2.2
   refine aC mixed (ak 1 [] rfl (kc J ?_));refine ak 2 [(2,.bv false)] rfl (kvG (args:=[]) U ?_);refine ak 4 [(2,.bv false),(5,.bv false)] rfl (kc hn4 ?_);refine ak 1 [(2,.bv false),(5,.bv false)] rfl (kc hmo4 ?_);exact az ⟨(n+1,s4,z4,f),⟨k2,by omega,E,A,by dsimp only;omega,by dsimp only;omega,M,u⟩,by dsimp only;omega,sl⟩
  | false=>
   rw[aa] at U;have hmn4:=bO 12 (b8 z4).pl;have M:moreA [] (n+1) z4=⟨z4.R,12,(b8 z4).pl⟩:=(ζ ⟨succ_pos n,A,Y,aa⟩).trans (ζ A);have h12:¬(12:Int)=0:=by decide
   have hWb:W.2=⟨z4.R,12,(b8 z4).pl⟩:=by
    obtain⟨f,rfl⟩:∃g,f=g+1:=⟨f-1,by omega⟩
    rw[lpZ] at u;unfold b6 at u;rw[M,nP h12,ζ (show ¬(Z.mk z4.R 12 (b8 z4).pl).e=0∨_ from .inl h12),η χ] at u;rw[u]
   rw[hWb,aL h12];refine aC mixed (ak 1 [] rfl (kc J ?_));refine ak 2 [(2,.bv false)] rfl (kvG (args:=[]) U ?_);refine ak 4 [(2,.bv false),(5,.bv false)] rfl (kc hn4 ?_);refine ak 1 [(2,.bv false),(5,.bv false)] rfl (kpD (.tup []) [] hmn4 ?_);exact az trivial
section
variable {L:List Tk}{ex:Nat→Z→Ex×Z}{N:Nat}(hB:yJ ex) (hS:aSp L ex N) (hX:aB3) (hO:ExO L ex) (hZ:rN L) (hwt:wt L≤30000) (hC:aWg L N)
include hB hS hX hO hZ hwt hC
theorem aZt (n:Nat) (p:Pg) (sigs:List Sg) {z:Z}(h:ZA L z) (he:z.e=0) (hN:z.R.length≤N) (hn:n<60) (hp:PgOk n p) (hs:gY sigs∧sigs.length≤n):
  bH Tryz.prog 115 ([]++[R.vp 1 0,R.vp 3 0,R.vp 4 0].map V.one) ((600,rO L z)::(1,pR)::aKy p sigs) (iP L (.tup []) (cY ex p sigs z).2 ((1,pR)::aKy (cY ex p sigs z).1.1 (cY ex p sigs z).1.2)):=by
 obtain⟨Y,aa,ab,J⟩:=hp;have M:(p.datas.map cQ).length=p.datas.length:=ξ _;have O:(p.classes.map cX).length=p.classes.length:=ξ _;have U:(p.insts.map dD).length=p.insts.length:=ξ _;refine pI (n:=36) tok Tryz.func115 rfl rfl rfl rfl ?_;unfold cY;have hm:=gH h he eV;have hl:=gF (s:=eV) h;have ha:=h.may eV;have A:= @kB eV z;have hx:=(jW eV z).trans he;have q:=fun(_:(bT eV z).2.R.length≤N)=>aVj ha hx hZ
 generalize bT eV z=m at hm hl ha A hx q ⊢;obtain⟨b,I⟩:=m;dsimp only at hm hl ha A hx q ⊢;refine aF (sk 1 rfl (kc hm ?_));refine kz 1 rfl ?_;cases b with
 | true=>
  rw[ζ rfl];have q:=q (by have:=hl rfl;omega);generalize jZ I=y at q ⊢;obtain⟨e,z2⟩:=y;dsimp only at q ⊢;refine aB rfl (fun _=>?_) (fun hb=>Bool.noConfusion hb);by_cases u:z2.e=0
  case neg=>
   have hp:=bH.err q u;rw[aL u];refine aC mixed (ak 3 [] rfl (kpD (.pa (cQ ⟨[],0,[],[]⟩)) [(600,rO L I)] hp ?_));exact ak 4 [(4,.all)] rfl (az trivial)
  have q:=bH.ok q u;rw[bC u];have B:p.datas.map cQ++[cQ e]=(p.datas++[e]).map cQ:=by rw[Af];rfl
  have hle:(p.datas++[e]).length=p.datas.length+1:=by rw[ψ];rfl
  refine aC mixed (ak 3 [] rfl (kc q ?_));refine ak 4 [(4,.all)] rfl (az ?_);generalize p.datas++[e]=S at B hle ⊢;exact rtN (ho:=⟨⟨_,rfl,.var rfl⟩,⟨_,rfl,.var rfl⟩,⟨_,rfl,.var rfl⟩,⟨_,rfl,.var (by rw[hle,←M];rfl)⟩,⟨_,rfl,Go.AM.Ole.arr⟩,⟨_,rfl,Go.AM.Ole.arr⟩,⟨_,rfl,.arrS B⟩,⟨_,rfl,Go.AM.Ole.arr⟩,⟨_,rfl,Go.AM.Ole.arr⟩,trivial⟩)
 | false=>
 obtain rfl:=A rfl;rw[η χ];clear hm hl ha A hx q;refine aB rfl (fun hb=>Bool.noConfusion hb) (fun _=>?_);have hm:=gH h he fK;have hl:=gF (s:=fK) h;have ha:=h.may fK;have A:= @kB fK I;have hx:=(jW fK I).trans he;have q:=fun(k:(bT fK I).2.R.length≤N)=>hC _ ha hx k
 generalize bT fK I=m at hm hl ha A hx q ⊢;obtain⟨b,z2⟩:=m;dsimp only at hm hl ha A hx q ⊢;refine sk 1 rfl (kc hm ?_);refine kz 1 rfl ?_;cases b with
 | true=>
  rw[ζ rfl];have q:=q (by have:=hl rfl;omega);generalize eW z2=y at q ⊢;obtain⟨e,z3⟩:=y;dsimp only at q ⊢;refine aB rfl (fun _=>?_) (fun hb=>Bool.noConfusion hb);by_cases u:z3.e=0
  case neg=>
   have hp:=bH.err q u;rw[aL u];refine aC mixed (ak 3 [] rfl (kpD (.pa (cX ⟨[],0,[],[],[]⟩)) [(600,rO L z2)] hp ?_));exact ak 4 [(4,.all)] rfl (az trivial)
  have q:=bH.ok q u;rw[bC u];have B:p.classes.map cX++[cX e]=(p.classes++[e]).map cX:=by rw[Af];rfl
  have hle:(p.classes++[e]).length=p.classes.length+1:=by rw[ψ];rfl
  refine aC mixed (ak 3 [] rfl (kc q ?_));refine ak 4 [(4,.all)] rfl (az ?_);generalize p.classes++[e]=S at B hle ⊢;exact rtN (ho:=⟨⟨_,rfl,.var rfl⟩,⟨_,rfl,.var rfl⟩,⟨_,rfl,.var rfl⟩,⟨_,rfl,.var (by rw[hle,←O];rfl)⟩,⟨_,rfl,Go.AM.Ole.arr⟩,⟨_,rfl,Go.AM.Ole.arr⟩,⟨_,rfl,Go.AM.Ole.arr⟩,⟨_,rfl,.arrS B⟩,⟨_,rfl,Go.AM.Ole.arr⟩,trivial⟩)
 | false=>
 obtain rfl:=A rfl;rw[η χ];clear hm hl ha A hx q;refine aB rfl (fun hb=>Bool.noConfusion hb) (fun _=>?_);have hm:=gH h he jX;have hl:=gF (s:=jX) h;have ha:=h.may jX;have A:= @kB jX z2;have hx:=(jW jX z2).trans he;have q:=fun(k:(bT jX z2).2.R.length≤N)=>aVe hB hS hX hO hZ hwt ha hx k
 generalize bT jX z2=m at hm hl ha A hx q ⊢;obtain⟨b,z3⟩:=m;dsimp only at hm hl ha A hx q ⊢;refine sk 1 rfl (kc hm ?_);refine kz 1 rfl ?_;cases b with
 | true=>
  rw[ζ rfl];have q:=q (by have:=hl rfl;omega);generalize kG ex z3=y at q ⊢;obtain⟨e,z4⟩:=y;dsimp only at q ⊢;refine aB rfl (fun _=>?_) (fun hb=>Bool.noConfusion hb);by_cases u:z4.e=0
  case neg=>
   have hp:=bH.err q u;rw[aL u];refine aC mixed (ak 3 [] rfl (kpD (.pa (dD ⟨[],0,[],[],[],[]⟩)) [(600,rO L z3)] hp ?_));exact ak 4 [(4,.all)] rfl (az trivial)
  have q:=bH.ok q u;rw[bC u];have B:p.insts.map dD++[dD e]=(p.insts++[e]).map dD:=by rw[Af];rfl
  have hle:(p.insts++[e]).length=p.insts.length+1:=by rw[ψ];rfl
  refine aC mixed (ak 3 [] rfl (kc q ?_));refine ak 4 [(4,.all)] rfl (az ?_);generalize p.insts++[e]=S at B hle ⊢;exact rtN (ho:=⟨⟨_,rfl,.var rfl⟩,⟨_,rfl,.var rfl⟩,⟨_,rfl,.var rfl⟩,⟨_,rfl,.var (by rw[hle,←U];rfl)⟩,⟨_,rfl,Go.AM.Ole.arr⟩,⟨_,rfl,Go.AM.Ole.arr⟩,⟨_,rfl,Go.AM.Ole.arr⟩,⟨_,rfl,Go.AM.Ole.arr⟩,⟨_,rfl,.arrS B⟩,trivial⟩)
 | false=>
 obtain rfl:=A rfl;rw[η χ];clear hm hl ha A hx q;refine aB rfl (fun hb=>Bool.noConfusion hb) (fun _=>?_);have E:=aZq hB hS hZ hwt p sigs 0 h he hN (by omega) (by have:=hs.2;omega) (by have:=J.1;omega);generalize aV ex sigs p.binds 0 z3=y at E ⊢;obtain⟨⟨S,Bs⟩,z4⟩:=y;dsimp only at E ⊢;by_cases u:z4.e=0
 case neg=>
  have hp:=bH.err E u;rw[aL u];exact aC mixed (ak 2 [] rfl (kp hp))
 have E:=bH.ok E u;rw[bC u];refine aC mixed (ak 2 [] rfl (kc E ?_));exact az rtN
theorem aH2 {z:Z}(h:ZA L z) (he:z.e=0) (hN:z.R.length≤N):bH Tryz.prog 65 [rP] [(600,rO L z)] (iP L (.pa (oP (fT ex z).1)) (fT ex z).2 []):=by
 have M:∀(n:Nat) (s:Pg×List Sg) (z:Z),(PgOk n s.1∧gY s.2∧s.2.length≤n)→n<60→ZA L z→z.e=0→ZA L (uT ex s z).2∧(PgOk (n+1) (uT ex s z).1.1∧gY (uT ex s z).1.2∧(uT ex s z).1.2.length≤n+1)∧((uT ex s z).2.e=0→(uT ex s z).2.R.length<z.R.length)∧Ze z (uT ex s z).2:=fun n s z I hn h he=>by
  obtain⟨a,b,c,d,e⟩:=xU hO hwt h I.1 I.2;exact⟨a,⟨b,c⟩,d,e⟩
 have O:PgOk 0 zPg∧gY ([]:List Sg)∧([]:List Sg).length≤0:=⟨⟨⟨le_refl _,fun d E=>(by cases E)⟩,⟨le_refl _,fun d E=>(by cases E)⟩,⟨le_refl _,fun d E=>(by cases E)⟩,⟨le_refl _,trivial⟩⟩,fun d E=>(by cases E),le_refl _⟩
 have u:=aU9 (step:=uT ex) (Inv:=fun n s=>PgOk n s.1∧gY s.2∧s.2.length≤n) (L:=L) (N:=N) (fun n s z I hn h he hN=>aZt hB hS hX hO hZ hwt hC n s.1 s.2 h he hN hn I.1 I.2) M h he hN (s:=(zPg,[])) O;have hok:=xC (sh:=[]) (Inv:=fun n (s:Pg×List Sg)=>PgOk n s.1∧gY s.2∧s.2.length≤n) M (z.R.length+1) 0 (zPg,[]) z (Ab _) O h;unfold fT;rw[aJ3];unfold sF;generalize lpZ [] (uT ex) (z.R.length+1) 0 (zPg,[]) z=W at u hok ⊢;obtain⟨⟨p,sigs⟩,z2⟩:=W;dsimp only at u hok ⊢;obtain⟨g1,⟨m,hm60,hp,hs,hsl⟩,_⟩:=hok;refine pI (n:=15) tok Tryz.func65 rfl rfl rfl rfl ?_;refine sg rfl (sg rfl (sg rfl (AWp.sub (Sub.ownCell (x:=3) (k:=0) (id:=512) 81 5 rfl rfl rfl) ?_)));refine AWp.sub (Sub.ownCell (x:=3) (k:=1) (id:=513) 87 6 rfl rfl rfl) ?_;refine AWp.sub (Sub.ownCell (x:=3) (k:=2) (id:=514) 90 6 rfl rfl rfl) ?_;refine AWp.sub (Sub.ownCell (x:=3) (k:=3) (id:=511) 109 33 rfl rfl rfl) ?_;refine AWp.sub (Sub.ownCell (x:=4) (k:=0) (id:=510) 100 9 rfl rfl rfl) ?_;by_cases A:z2.e=0
 case neg=>
  have hp:=bH.err u A;rw[pZ A,aL A];exact sk 3 rfl (kp hp)
 have u:=bH.ok u A;refine sk 3 rfl (kc u ?_);refine az ?_;have hsk:sigs.length≤m:=hsl;have q:=aL8 sigs p.binds A (by omega) (by have:p.binds.length≤m:=hp.b.1;omega);obtain⟨p1,p2,p3,p4⟩:=gV sigs p.binds z2 g1 hs hp.b.2;have J:= @jD sigs p.binds z2;generalize dG sigs p.binds z2=y at q p1 p2 p3 p4 J ⊢;obtain⟨Bs,z6⟩:=y;dsimp only at q p1 p2 p3 p4 J ⊢;unfold aWt at q;dsimp only at q;refine AWp.sub (Sub.freeze (id:=510) rfl) ?_;by_cases B:z6.e=0
 case neg=>
  rw[η B] at q;have hpx:aGs _ _ _ _ _:=q;rw[aL B];exact sk 3 rfl (kp hpx)
 rw[ζ B] at q;have q:aW _ _ _ _ _ _:=q;obtain rfl:=J B;rw[bC B];have U:p.datas.length=(p.datas.map cQ).length:=(ξ _).symm;have Y:p.classes.length=(p.classes.map cX).length:=(ξ _).symm;have aa:p.insts.length=(p.insts.map dD).length:=(ξ _).symm;have ab:p.binds.length=(Bs.map aY).length:=by rw[ξ,p3]
 refine sk 3 rfl (kc q ?_);refine kz 2 rfl (AWp.sub (Sub.freeze (id:=511) rfl) ?_);refine AWp.sub (Sub.freeze (id:=512) rfl) ?_;refine AWp.sub (Sub.freeze (id:=513) rfl) ?_;refine AWp.sub (Sub.freeze (id:=514) rfl) ?_;exact sg rfl (aE (rtC trw (hc:=.agg (.hs rfl U (Go.AM.take_all U) (.hs rfl Y (Go.AM.take_all Y) (.hs rfl aa (Go.AM.take_all aa) (.hs rfl ab (Go.AM.take_all ab) .nil)))))))
end
end Go.Proofs.YtkhgpgihmphfdaaGreatDoor
namespace Go.AM
open Go
def tW (a:Act) (D:List Deferred):Act:=⟨a.tmps,a.defers++D⟩
theorem aC3 (a:Act) (D:List Deferred) (d:Option Nat) (v:Value):(tW a D).put d v=tW (a.put d v) D:=by cases d<;>rfl
theorem aFg (a:Act) (D:List Deferred):(tW a D).eval=a.eval:=by funext x;cases x<;>rfl
section
variable {F:Fence}{m:Nat}{P:Program}{o:Oper}{a:Act}{w:World}{K K':Act→World→Prop}{Q Q':Exit→Act→World→Prop}{D:List Deferred}
theorem aNw (q:∀a w,K a w→K' (tW a D) w) (hq:∀e a w,Q e a w→Q' e (tW a D) w) {r:Result Next}(h:o.uponIn F m P a K Q r):o.uponIn F m P (tW a D) K' Q' r:=by
 have hl:LetsOut Q→LetsOut Q':=fun⟨a,w,h⟩=>⟨_,w,hq _ a w h⟩
 have hp:∀d v w,K (a.put d v) w→K' ((tW a D).put d v) w:=fun d v w h=>by rw[aC3];exact q _ _ h
 cases r with
 | ok x w'=>
  cases x<;>simp only[Oper.uponIn] at h ⊢<;>
   first
    | exact hp _ _ _ h
    | exact⟨h.1,CallsIn.mono h.2 (fun e u he=>by cases e<;>first | exact hp _ _ _ he | exact hq _ _ _ he | exact hl he)⟩
    | exact⟨h.1,RowsIn.mono h.2 (fun _ _ he=>hp _ _ _ he)⟩
    | exact⟨h.1,RoundIn.mono h.2 (fun e u he=>by cases e<;>first | exact hp _ _ _ he | exact hq _ _ _ he | exact hl he)⟩
    | (have:=q _ _ h;rw[←aC3] at this;exact this)
    | exact h
 | halt x w'=>cases x<;>simp only[Oper.uponIn] at h ⊢<;>first | exact hq _ _ _ h | exact h
theorem aNu (q:∀a w,K a w→K' (tW a D) w) (hq:∀e a w,Q e a w→Q' e (tW a D) w) (h:o.wpIn F m P a w K Q):o.wpIn F m P (tW a D) w K' Q':=by
 unfold Oper.wpIn at h ⊢;rw[aFg];exact⟨h.1,aNw q hq h.2⟩
theorem aDs {ops:Array Oper}{i:Nat}(q:∀a w,K a w→K' (tW a D) w) (hq:∀e a w,Q e a w→Q' e (tW a D) w) (h:wpOpIn F m P ops Q i K a w):wpOpIn F m P ops Q' i K' (tW a D) w:=by
 unfold wpOpIn at h ⊢;cases ho:ops[i]? with
 | none=>rw[ho] at h;exact q _ _ h
 | some o=>
  rw[ho] at h;dsimp only at h ⊢;rw[show(tW a D).tmps=a.tmps from rfl,aFg];split
  ·rename_i hw;rw[ζ hw] at h;exact aNu q hq h
  ·rename_i hw;rw[η hw] at h;exact⟨h.1,by rw[aC3];exact q _ _ h.2⟩
end
section
variable {P:Program}{n:Nat}{ops:Array Oper}{D:List Deferred}{Q':Exit→Act→World→Prop}
end
theorem aI9 {n:Nat}{args:List V}{hin:List (Nat×AObj)}{S:Sto}{μ:Mu}{w:World}{vals:List Value}{k:Nat}(hk:k=n) (hle:Nat.ble args.length n=true) (I:Inv ⟨w,S,kI μ (look hin),μ,look hin⟩ S μ (look hin) w) (hv:b7 S μ (look hin) args vals):
  Sim ⟨w,S,kI μ (look hin),μ,look hin⟩ n S μ (mk (aB7 0 args) hin) ⟨(⟨vals⟩:Array Value)++Array.replicate (k-(⟨vals⟩:Array Value).size) undef,[]⟩ w:=by
 have E:=b7.length hv;have J:=Ap hle;refine⟨I,by simp;omega,rfl,fun t v ht=>?_⟩;have key:∀(l:List V) (us:List Value) (k:Nat),b7 S μ (look hin) l us→look (aB7 k l) t=some v→∃j,t=k+j∧∃u,us[j]?=some u∧aS S μ (look hin) v u:=by
  intro l
  induction l with
  | nil=>intro us k _ h;simp[aB7,look] at h
  | cons x l M=>
   intro us k q hl;simp only[b7] at q;obtain⟨u,y,rfl,h1,h2⟩:=q;simp only[aB7,look] at hl;split at hl
   ·rename_i A;cases hl;exact⟨0,by rw[τ A];rfl,u,rfl,h1⟩
   ·obtain⟨j,B,O,U,Y⟩:=M y (k+1) h2 hl;exact⟨j+1,by omega,O,by simpa using U,Y⟩
 obtain⟨j,h1,u,h2,B⟩:=key args vals 0 hv ht;rw[Bk] at h1;subst h1;have hj:t<vals.length:=(Ah.1 h2).1
 have:((⟨vals⟩:Array Value)++Array.replicate (k-(⟨vals⟩:Array Value).size) undef).getD t undef=u:=by
  rw[Ag,B4 (by simpa using hj)];simp[h2]
 show aS S μ (look hin) v (((⟨vals⟩:Array Value)++Array.replicate (k-(⟨vals⟩:Array Value).size) undef).getD t undef);rw[this];exact B
theorem aK7 {P:Program}{T:TT}{fn:Func}{n:Nat}{S S':Sto}{μ μ':Mu}{w w':World}{hin hout:List (Nat×AObj)}{res:V}{st:St}{a:Act}(O:Tok P T) (hs:Sim ⟨w,S,kI μ (look hin),μ,look hin⟩ n S' μ' st a w') (U:Fin T fn st hin res hout):
  ∃v,(results fn a.tmps).run P w'=.ok v w'∧Inv ⟨w,S,kI μ (look hin),μ,look hin⟩ S' μ' (look hout) w'∧aS S' μ' (look hout) res v:=by
 obtain⟨⟨vs,vs',Y,hc,I⟩,y,hok⟩:=U;simp only[π] at hok;obtain⟨⟨⟨⟨⟨k1,k2⟩,k3⟩,k4⟩,k5⟩,k6⟩:=hok;obtain⟨us,h1,h2⟩:=tB O hs Y;refine⟨_,h1,?_⟩;have q:=hc.rel hs.inv.obj h2;have A:∀i∈keys hout,Good st.h (look hout) (fun i=>i) i:=by
  intro i hi;obtain⟨o',B⟩:=cW hi;obtain⟨o,g1,g2⟩:=y.mem _ (bE B);exact⟨o,o',g1,B,g2⟩
 have J:aS S' μ' st.h res (aIz us):=by
  rw[←I]
  match vs',us,q with
  | [],us,q=>simp only[b7] at q;subst q;simp[aNy,aIz,aS,b7]
  | [v],us,q=>
   simp only[b7] at q;obtain⟨u,M,rfl,h5,rfl⟩:=q;exact h5
  | v::v'::l,us,q=>
   have E:=q;simp only[b7] at E;obtain⟨u,M,rfl,_,u',us'',rfl,_,_⟩:=E;simp only[aNy,aIz,aS];exact⟨_,rfl,q⟩
 refine⟨hs.inv.keep y k2 fun id o ho=>bY k4 id (C7.2 ⟨_,bE (show look hin id=some o from ho),rfl⟩),?_⟩;have:=aS.ren (H:=st.h) (H':=look hout) (σ:=fun i=>i) res _ (fun i hi=>A i (bY k1 i hi)) (by rw[V.ren_id];exact J);exact this
def sS (draw:Bool) (P:Program) (ops:Array Oper) (Q:Exit→Act→World→Prop) (a:Act) (w:World):Prop:=
 match draw with
 | true=>wpAnyIn (Wd none) 0 P .any ops Q ops.size (Array.replicate ops.size false) a { w with drawn:=w.drawn+1 }
 | false=>wpOpsIn (Wd none) 0 P ops Q (List.range ops.size) a w
theorem sS.wp {draw:Bool}{P:Program}{ops:Array Oper}{Q:Exit→Act→World→Prop}{a:Act}{w:World}{id:Nat}(hm:P.follows .mixedOrders=true) (h:sS draw P ops Q a w):(Code.region id ops draw).wpIn (Wd none) 0 P Q a w:=by
 cases draw with
 | true=>exact wpIn_region_any hm h
 | false=>exact wpIn_region h
section
variable {P:Program}{ops:Array Oper}{Q Q':Exit→Act→World→Prop}{D:List Deferred}(hq:∀e a w,Q e a w→Q' e (tW a D) w)
include hq
theorem aNb {md:Region.Mode}:∀(fuel:Nat) (listed:Array Bool) (a:Act) (w:World),wpAnyIn (Wd none) 0 P md ops Q fuel listed a w→wpAnyIn (Wd none) 0 P md ops Q' fuel listed (tW a D) w
 | 0,_,_,_,h=>⟨h.1,hq _ _ _ h.2⟩
 | fuel+1,_,_,_,h=>⟨fun k=>hq _ _ _ (h.1 k),fun i hi=>aDs (fun a w=>aNb fuel _ a w) hq (h.2 i hi)⟩
theorem aKb:∀(l:List Nat) (a:Act) (w:World),wpOpsIn (Wd none) 0 P ops Q l a w→wpOpsIn (Wd none) 0 P ops Q' l (tW a D) w
 | [],a,w,h=>hq _ _ _ h
 | i::l,a,w,h=>by
  rw[By] at h ⊢;exact aDs (fun a w=>aKb l a w) hq h
theorem sS.ext {draw:Bool}{a:Act}{w:World}(h:sS draw P ops Q a w):sS draw P ops Q' (tW a D) w:=by
 cases draw with
 | true=>exact aNb hq _ _ _ _ h
 | false=>exact aKb hq _ _ _ h
end
section
variable {P:Program}{n:Nat}{ops:Array Oper}{Q':Exit→Act→World→Prop}{G:Ctx}{S:Sto}{μ:Mu}{st st':St}{a:Act}{w:World}{xs:REs}{draw:Bool}
theorem aEn (B:Run P n ops 0 st xs st') (hlen:Nat.beq xs.length ops.size=true) (u:(!draw || (dA (preds ops) xs []&&eJ ops))=true)
  (J:∀S' μ' A w',Sim G n S' μ' st' A w'→Q' .normal A w') (hs:Sim G n S μ st a w):sS draw P ops Q' a w:=by
 have q:=τ hlen;cases draw with
 | true=>
  simp only[Bool.not_true,A9,π] at u;refine aJf (G:=G) B q u.1 u.2 J ops.size _ (by simp) ?_ ?_ S μ a _ ?_ none
  ·have:((List.range ops.size).filter fun i=>!(Array.replicate ops.size false).getD i false)=List.range ops.size:=by
    apply filter_eq_self.2;intro i hi;simp at hi;simp[hi]
   rw[this,length_range]
  ·intro i o ho hl;simp[A7] at hl;split at hl<;>simp at hl
  ·have M:∀(E:REs) (k:Nat) (s:St),cH (fun j=>(Array.replicate ops.size false).getD j false) k E s=s:=by
    intro E
    induction E with
    | nil=>intro k s;rfl
    | cons y E I=>
     intro k s;have O:(Array.replicate ops.size false).getD k false=false:=by
      simp[A7];split<;>rfl
     simp only[cH,O,Bq];exact I _ _
   rw[M];exact⟨hs.inv.same rfl rfl rfl rfl,hs.size,hs.defers,hs.env⟩
 | false=>
  have key:∀(k:Nat) (st st':St) (xs:REs),Run P n ops k st xs st'→k+xs.length=ops.size→(∀S' μ' A w',Sim G n S' μ' st' A w'→Q' .normal A w')→∀S μ a w,Sim G n S μ st a w→wpOpsIn (Wd none) 0 P ops Q' (List.range' k xs.length) a w:=by
   intro k st st' xs B
   induction B with
   | nil=>intro _ hq S μ a w hs;exact hq S μ a w hs
   | @cons k st rd f xs st' U _ I=>
    intro hl hq S μ a w hs;simp only[ω,range'_succ,By];exact U st (gS.refl _ _) G S μ a w _ Q' hs (fun S1 Y a1 w1 s1=>I (by simp at hl;omega) hq S1 Y a1 w1 s1) none
  have:=key 0 st st' xs B (by omega) J S μ a w hs;show wpOpsIn _ _ _ _ _ (List.range ops.size) _ _;rwa [range_eq_range',←q]
theorem aKc {v:Value}{p:Nat}(u:RunP v p P n ops 0 st xs st') (hp:p<xs.length) (hle:xs.length≤ops.size) (q:draw=true→xs.length=ops.size∧(dA (preds ops) xs []&&eJ ops)=true)
  (hQ:∀S' μ' e h a' w',Sim G n S' μ' ⟨e,h,st.d⟩ a' w'→Q' (pan v) a' w') (hs:Sim G n S μ st a w):sS draw P ops Q' a w:=by
 cases draw with
 | true=>
  obtain⟨A,q⟩:=q rfl;rw[π] at q;refine aD9 (G:=G) u A q.1 q.2 (by omega) hQ ops.size _ (by simp) ?_ ?_ ?_ S μ a _ ?_ none
  ·have:((List.range ops.size).filter fun i=>!(Array.replicate ops.size false).getD i false)=List.range ops.size:=by
    apply filter_eq_self.2;intro i hi;simp at hi;simp[hi]
   rw[this,length_range]
  ·intro i o ho hl;simp[A7] at hl;split at hl<;>simp at hl
  ·simp[A7];split<;>rfl
  ·have hz:∀(B:REs) (k:Nat) (s:St),cH (fun j=>(Array.replicate ops.size false).getD j false) k B s=s:=by
    intro B
    induction B with
    | nil=>intro k s;rfl
    | cons y B I=>
     intro k s;have hf:(Array.replicate ops.size false).getD k false=false:=by
      simp[A7];split<;>rfl
     simp only[cH,hf,Bq];exact I _ _
   rw[hz];exact⟨hs.inv.same rfl rfl rfl rfl,hs.size,hs.defers,hs.env⟩
 | false=>
  have key:∀(k:Nat) (s E:St) (xs:REs) (m:Nat),RunP v p P n ops k s xs E→k≤p→p<k+xs.length→k+xs.length≤m→s.d=st.d→∀S μ a w,Sim G n S μ s a w→wpOpsIn (Wd none) 0 P ops Q' (List.range' k (m-k)) a w:=by
   intro k s E xs m u
   induction u with
   | nil=>intro h1 h2;simp at h2;omega
   | @cons k s rd f xs E hne J _ I=>
    intro h1 h2 M O S μ a w hs;simp only[ω] at h2 M;rw[show m-k=(m-(k+1))+1 by omega];simp only[range'_succ,By];exact J s (gS.refl _ _) G S μ a w _ Q' hs (fun S1 U Y w1 s1=>I (by omega) (by omega) (by omega) O S1 U Y w1 s1) none
   | @pan s rd f xs E J _ _=>
    intro h1 h2 M O S μ a w hs;simp only[ω] at h2 M;rw[show m-p=(m-(p+1))+1 by omega];simp only[range'_succ,By];exact J s (gS.refl _ _) G S μ a w _ Q' hs (fun S1 U e1 h1 Y w1 s1=>hQ S1 U e1 h1 Y w1 (by rw[←O];exact s1)) none
  have:=key 0 st st' xs ops.size u (by omega) (by omega) (by omega) rfl S μ a w hs;show wpOpsIn _ _ _ _ _ (List.range ops.size) _ _;rwa [range_eq_range',←sub_zero ops.size]
end
def aDq (P:Program) (o:Oper):Prop:=∀ρ w x w',(execOp ρ o).run P w=.ok x w'→(∃v,x=.value v)∨x=.skip
section
variable {P:Program}{w:World}
theorem a1p {s:Sem Value}{x:Next}{w':World}(h:(do pure (Next.value (←s)):Sem Next).run P w=.ok x w'):∃v,x=.value v:=by
 simp only[Aa] at h;cases hs:s.run P w with
 | ok v q=>
  rw[hs] at h;simp only[δ,Ad] at h;cases h;exact⟨v,rfl⟩
 | halt y q=>rw[hs] at h;simp[Result.andThen] at h
theorem a1q {s:Sem Unit}{x:Next}{w':World}(h:(do s;pure Next.skip:Sem Next).run P w=.ok x w'):x=.skip:=by
 simp only[Aa] at h;cases hs:s.run P w with
 | ok v q=>
  rw[hs] at h;simp only[δ,Ad] at h;cases h;rfl
 | halt y q=>rw[hs] at h;simp[Result.andThen] at h
end
def isVal:Op→Bool
 | .move _ | .assign _ | .alloc _ | .load .. | .store .. | .fieldAddr .. | .extract ..=>true
 | _=>false
theorem aPa {P:Program}{o:Oper}(h:isVal o.op=true):aDq P o:=by
 intro ρ w x w' q;cases ho:o.op<;>rw[ho] at h<;>first | cases h | skip
 all_goals simp only[execOp,ho] at q
 all_goals first | exact .inl (a1p q) | exact .inr (a1q q) | (simp only[Ad] at q;cases q;exact .inl ⟨_,rfl⟩) | skip
section
variable {m:Nat}{P:Program}{ops:Array Oper}{Q:Exit→Act→List Frame→World→Prop}{i:Nat}{rest:List Nat}{a:Act}{cs cs':List Frame}{w w':World}{o:Oper}
theorem aJe (ho:ops[i]?=some o) (q:o.guard=none) (u:(execOp a.eval o).run P w=.ok .recover w) (hc:recoverD cs=none) (h:wpOpsSIn (Wd none) m P ops Q rest (a.put o.dst .nilIface) cs w):wpOpsSIn (Wd none) m P ops Q (i::rest) a cs w:=by
 unfold wpOpsSIn;simp only[ho];refine⟨fun _ _=>trivial,?_⟩;rw[ζ (by simp[Region.wanted,q]),u];dsimp only;rw[hc];exact h
theorem aG1 {v:Value}(ho:ops[i]?=some o) (q:o.guard=none) (u:(execOp a.eval o).run P w=.ok .recover w) (hc:recoverD cs=some (v,cs')) (h:wpOpsSIn (Wd none) m P ops Q rest (a.put o.dst v) cs' w):wpOpsSIn (Wd none) m P ops Q (i::rest) a cs w:=by
 unfold wpOpsSIn;simp only[ho];refine⟨fun _ _=>trivial,?_⟩;rw[ζ (by simp[Region.wanted,q]),u];dsimp only;rw[hc];exact h
theorem aJd {v:Value}(ho:ops[i]?=some o) (q:o.guard=none) (u:(execOp a.eval o).run P w=.ok (.value v) w') (h:wpOpsSIn (Wd none) m P ops Q rest (a.put o.dst v) cs w'):wpOpsSIn (Wd none) m P ops Q (i::rest) a cs w:=by
 unfold wpOpsSIn;simp only[ho];refine⟨fun _ _=>trivial,?_⟩;rw[ζ (by simp[Region.wanted,q]),u];exact h
theorem aXh {d:Nat}{v:Value}(h:d<a.tmps.size):(a.put (some d) v).eval (.tmp d)=v:=by
 show((a.put (some d) v).tmps).getD d undef=v;show(a.tmps.setIfInBounds d v).getD d undef=v;rw[aE8 _ _ _ _ h,ζ rfl]
theorem aYb (hv:∀o,ops[i]?=some o→aDq P o) (h:wpOpIn (Wd none) 0 P ops (fun e a w=>Q e a cs w) i (fun a w=>wpOpsSIn (Wd none) m P ops Q rest a cs w) a w):wpOpsSIn (Wd none) m P ops Q (i::rest) a cs w:=by
 unfold wpOpIn at h;unfold wpOpsSIn;cases ho:ops[i]? with
 | none=>rw[ho] at h;exact h
 | some o=>
  rw[ho] at h;dsimp only at h ⊢;split
  ·rename_i hw;rw[ζ hw] at h;refine⟨h.1,?_⟩;have h2:=h.2;rw[show(Wd none).round=none from rfl,Oper.semAt_none] at h2;cases q:(execOp a.eval o).run P w with
   | ok x w'=>
    rw[q] at h2;rcases hv o ho _ _ _ _ q with⟨v,rfl⟩ | rfl
    ·exact h2
    ·exact h2
   | halt y w'=>
    rw[q] at h2;cases y<;>first | exact h2 | exact h2.elim
  ·rename_i hw;rw[η hw] at h;exact h
theorem aEo {n:Nat}{G:Ctx}(u:∀(i:Nat) (o:Oper),ops[i]?=some o→aDq P o∨i=0∨i=1) {k:Nat}{st st':St}{xs:REs}(A:Run P n ops k st xs st') (q:2≤k∨∀(i:Nat) (o:Oper),ops[i]?=some o→aDq P o):
  (∀S' μ' y w',Sim G n S' μ' st' y w'→Q .normal y cs w')→∀S μ a w,Sim G n S μ st a w→wpOpsSIn (Wd none) m P ops Q (List.range' k xs.length) a cs w:=by
 induction A with
 | nil=>intro hq S μ a w hs;exact hq S μ a w hs
 | @cons k st rd f xs st' B _ E=>
  intro hq S μ a w hs;rw[ω,range'_succ];refine aYb (fun o ho=>?_) (B st (gS.refl _ _) G S μ a w _ _ hs (fun S1 I J M s1=>E (q.imp (fun h=>by omega) id) hq S1 I J M s1) none);rcases q with q | q
  ·rcases u k o ho with h | h | h
   ·exact h
   ·omega
   ·omega
  ·exact q k o ho
theorem a1s {n:Nat}{G:Ctx}{S:Sto}{μ:Mu}{st:St}{id:Nat}(hs:Sim G n S μ st a w) (hv:∀(i:Nat) (o:Oper),ops[i]?=some o→aDq P o) (h:kK (fun _=>False) P n ops false 0 st [] (fun st'=>∀S' μ' q w',Sim G n S' μ' st' q w'→Q .normal q cs w')):(Code.region id ops false).wpSIn (Wd none) m P Q a cs w:=by
 rcases h with⟨xs,st',h1,h2,y,u⟩ | ⟨v,p,xs,st',h0,_⟩
 case inr=>exact h0.elim
 have hl:=τ h2;rw[Bk] at hl;refine wpSIn_region ?_;rw[range_eq_range',←hl];exact aEo (fun i o ho=>.inl (hv i o ho)) h1 (.inr hv) u S μ a w hs
theorem aXj {n:Nat}{G:Ctx}{S:Sto}{μ:Mu}{st:St}(hs:Sim G n S μ st a w) (hv:∀(i:Nat) (o:Oper),ops[i]?=some o→aDq P o∨i=0∨i=1) (h:kK (fun _=>False) P n ops false 2 st [] (fun st'=>∀S' μ' q w',Sim G n S' μ' st' q w'→Q .normal q cs w')):wpOpsSIn (Wd none) m P ops Q (List.range' 2 (ops.size-2)) a cs w:=by
 rcases h with⟨xs,st',h1,h2,y,u⟩ | ⟨v,p,xs,st',h0,_⟩
 case inr=>exact h0.elim
 have hl:=τ h2;rw[←hl,Nat.add_sub_cancel_left];exact aEo hv h1 (.inl (le_refl 2)) u S μ a w hs
def aSu (k:Nat) (ops:Array Oper):Bool:=(ops.toList.drop k).all fun o=>isVal o.op
theorem kL {k:Nat}(h:aSu k ops=true) (i:Nat) (o:Oper) (ho:ops[i]?=some o) (hi:k≤i):aDq P o:=by
 refine aPa ((A5.1 h) o ?_);refine ε (i:=i-k) ?_;rw[Ao,show k+(i-k)=i by omega];simpa using ho
end
end Go.AM
namespace Go.Proofs.YtkhgpgihmphfdaaGreatDoor
open Go Go.AM
set_option maxRecDepth 20000
set_option maxHeartbeats 4000000
def atO (e p:Int):AObj:=.var 33 [.c (.int .i64 e),.c (.int .i64 p)]
theorem aIf (e p:Int) (w:World):(Instr.typeAssert (vS e p) 20 163 true).run Tryz.prog w=.ok (.tuple #[.agg #[.int .i64 e,.int .i64 p],.bool true]) w:=by kernel_rfl
theorem aM7 (w:World):(Instr.typeAssert .nilIface 20 163 true).run Tryz.prog w=.ok (.tuple #[.agg #[.int .i64 0,.int .i64 0],.bool false]) w:=by kernel_rfl
theorem aZp (b:Bool) (e p:Int) (m:Nat) {S:Sto}{μ:Mu}{w:World}{vals:List Value}(hI:Go.AM.Inv ⟨w,S,kI μ (Go.AM.look [(4,atO 0 0)]),μ,Go.AM.look [(4,atO 0 0)]⟩ S μ (Go.AM.look [(4,atO 0 0)]) w) (hv:b7 S μ (Go.AM.look [(4,atO 0 0)]) [.one (.vp 4 0)] vals) (u J:FrameMode)
  (hu:∀(A:Frame) (cs:List Frame),A.mode=u→(b=true∧recoverD (A::cs)=some (vS e p,{ A with mode:=J }::cs))∨(b=false∧recoverD (A::cs)=none∧J=u∧e=0∧p=0)):
  CallsDIn (Wd none) m Tryz.prog 110 ⟨vals⟩ u w (fun en u' w'=>(∃v,en=.returned v)∧u'=J∧∃S' μ',Go.AM.Inv ⟨w,S,kI μ (Go.AM.look [(4,atO 0 0)]),μ,Go.AM.look [(4,atO 0 0)]⟩ S' μ' (Go.AM.look [(4,atO e p)]) w'):=by
 refine callsDIn_of_wpSIn Tryz.func110 rfl trivial (fun A cs hc=>?_);have q:=aI9 (n:=11) (k:=(Tryz.f110).ntmps) rfl rfl hI hv;generalize hG:(⟨w,S,kI μ (Go.AM.look [(4,atO 0 0)]),μ,Go.AM.look [(4,atO 0 0)]⟩:Ctx)=G at q ⊢;generalize ha:(⟨(⟨vals⟩:Array Value)++Array.replicate ((Tryz.f110).ntmps-(⟨vals⟩:Array Value).size) undef,[]⟩:Act)=a at q;have M:∀(x y:Int) (S':Sto) (μ':Mu) (Y:Act) (w':World) (st:St) (cs':List Frame),Sim G 11 S' μ' st Y w'→st.d=[]→st.h 4=some (atO x y)→cs'={ A with mode:=J }::cs→x=e→y=p→bodyPostS Tryz.prog Tryz.f110 A cs (fun en u' w'=>(∃v,en=.returned v)∧u'=J∧∃S' μ',Go.AM.Inv G S' μ' (Go.AM.look [(4,atO e p)]) w') .normal Y cs' w':=by
  intro x y S' μ' Y w' st cs' hs hd h4 hcs hx hy;subst hx hy;have hd':Y.defers=[]:=by have:=hs.defers;rw[hd] at this;exact this
  subst hG;obtain⟨v,g1,g2,g3⟩:=aK7 (fn:=Tryz.f110) (res:=.tup []) (hout:=[(4,atO x y)]) tok hs ⟨⟨[],[],.nil,.nil,rfl⟩,⟨⟨_,h4,.var rfl⟩,trivial⟩,rfl⟩;exact⟨hd',J,hcs,v,g1,⟨_,rfl⟩,rfl,_,_,g2⟩
 refine wpSIn_seq (wpSIn_region ?_);show wpOpsSIn _ _ _ _ _ (0::1::List.range' 2 6) _ _ _;rcases hu A cs hc with⟨rfl,hr⟩ | ⟨rfl,hr,rfl,rfl,rfl⟩
 ·refine aG1 rfl rfl rfl hr ?_;have E:=q.put q.inv (Evolve.refl _ _ _) (d:=4) (by decide) (v:=vS e p) (x:=none) (fun y hy=>by cases hy);refine aJd (w':=w) rfl rfl (v:=.tuple #[.agg #[.int .i64 e,.int .i64 p],.bool true]) ?_ ?_
  ·show(do pure (Next.value (←Instr.typeAssert ((a.put (some 4) (vS e p)).eval (.tmp 4)) 20 163 true)):Sem Next).run Tryz.prog w=_;rw[aXh (by rw[q.size];decide),Aa,aIf];rfl
  have O:=E.put E.inv (Evolve.refl _ _ _) (d:=5) (by decide) (v:=.tuple #[.agg #[.int .i64 e,.int .i64 p],.bool true]) (x:=some (.tup [.pa [.int .i64 e,.int .i64 p],B true])) (fun y hy=>by
   cases hy;simp only[aS,b7,bZ,Rep,aZ]
   exact⟨_,rfl,_,_,rfl,⟨_,rfl,_,_,rfl,rfl,_,_,rfl,rfl,rfl⟩,_,_,rfl,rfl,rfl⟩)
  refine aXj O (fun i o ho=>?_) ?_
  ·by_cases hi:2≤i
   ·exact .inl (kL (k:=2) (by rfl) i o ho hi)
   ·exact .inr (by omega)
  refine kz 6 rfl ?_;intro S3 μ3 a3 w3 U;refine wpSIn_seq (a1s U (fun i o ho=>kL (k:=0) (by rfl) i o ho (Ab _)) ?_);refine kz 1 rfl ?_;intro S4 μ4 a4 w4 I;have hb:=I.env 8 _ rfl;simp only[aS,aZ,Rep] at hb;refine wpSIn_cond (t:=true) hb ?_;refine a1s I (fun i o ho=>kL (k:=0) (by rfl) i o ho (Ab _)) ?_;refine kz 3 rfl ?_;intro S5 μ5 a5 w5 hs5;exact M e p S5 μ5 a5 w5 _ _ hs5 rfl rfl rfl rfl rfl
 ·refine aJe rfl rfl rfl hr ?_;have E:=q.put q.inv (Evolve.refl _ _ _) (d:=4) (by decide) (v:=.nilIface) (x:=none) (fun y hy=>by cases hy);refine aJd (w':=w) rfl rfl (v:=.tuple #[.agg #[.int .i64 0,.int .i64 0],.bool false]) ?_ ?_
  ·show(do pure (Next.value (←Instr.typeAssert ((a.put (some 4) .nilIface).eval (.tmp 4)) 20 163 true)):Sem Next).run Tryz.prog w=_;rw[aXh (by rw[q.size];decide),Aa,aM7];rfl
  have O:=E.put E.inv (Evolve.refl _ _ _) (d:=5) (by decide) (v:=.tuple #[.agg #[.int .i64 0,.int .i64 0],.bool false]) (x:=some (.tup [.pa [.int .i64 0,.int .i64 0],B false])) (fun y hy=>by
   cases hy;simp only[aS,b7,bZ,Rep,aZ]
   exact⟨_,rfl,_,_,rfl,⟨_,rfl,_,_,rfl,rfl,_,_,rfl,rfl,rfl⟩,_,_,rfl,rfl,rfl⟩)
  refine aXj O (fun i o ho=>?_) ?_
  ·by_cases hi:2≤i
   ·exact .inl (kL (k:=2) (by rfl) i o ho hi)
   ·exact .inr (by omega)
  refine kz 6 rfl ?_;intro S3 μ3 a3 w3 U;refine wpSIn_seq (a1s U (fun i o ho=>kL (k:=0) (by rfl) i o ho (Ab _)) ?_);refine kz 1 rfl ?_;intro S4 μ4 a4 w4 I;have hb:=I.env 8 _ rfl;simp only[aS,aZ,Rep] at hb;refine wpSIn_cond (t:=false) hb ?_;refine wpSIn_of_wpIn rfl (wpIn_skip ?_);exact M 0 0 S4 μ4 a4 w4 _ _ I rfl rfl (by rw[←hc]) rfl rfl
end Go.Proofs.YtkhgpgihmphfdaaGreatDoor
namespace Go.AM
open Go
section
variable {P:Program}{ops:Array Oper}{Q:Exit→Act→World→Prop}{d:Nat}{x:Value}
def Kp (d:Nat) (x:Value) (a:Act):Prop:=a.tmps.getD d undef=x
theorem Kp.put {a:Act}(h:Kp d x a) {t:Option Nat}(ht:t≠some d) (v:Value):Kp d x (a.put t v):=by
 cases t with
 | none=>exact h
 | some t=>
  show(a.tmps.setIfInBounds t v).getD d undef=x;rw[Ag,Ba,η (fun e=>ht (by rw[e])),←Ag];exact h
theorem aSv {o:Oper}{a:Act}(h0:Kp d x a) (ht:o.dst≠some d) {K K':Act→World→Prop}(q:∀a w,Kp d x a→K a w→K' a w) {r:Result Next}(h:o.uponIn (Wd none) 0 P a K Q r) (u:¬LetsOut Q):
  o.uponIn (Wd none) 0 P a K' (fun e a w=>Q e a w∧Kp d x a) r:=by
 cases r with
 | ok y w'=>
  cases y<;>simp only[Oper.uponIn] at h ⊢<;>
   first
    | exact q _ _ (h0.put ht _) h
    | exact⟨h.1,CallsIn.mono h.2 (fun e A he=>by cases e<;>first | exact q _ _ (h0.put ht _) he | exact⟨he,h0⟩ | exact(u he).elim)⟩
    | exact⟨h.1,RowsIn.mono h.2 (fun _ _ he=>q _ _ (h0.put ht _) he)⟩
    | exact⟨h.1,RoundIn.mono h.2 (fun e A he=>by cases e<;>first | exact q _ _ (h0.put ht _) he | exact⟨he,h0⟩ | exact(u he).elim)⟩
    | (refine q _ _ (Kp.put ?_ ht _) h;unfold Kp at h0 ⊢;exact h0)
    | exact h
 | halt y w'=>cases y<;>simp only[Oper.uponIn] at h ⊢<;>first | exact⟨h,h0⟩ | exact h
theorem aIp {i:Nat}{a:Act}{w:World}(h0:Kp d x a) (ht:∀o∈ops.toList,o.dst≠some d) {K K':Act→World→Prop}(q:∀a w,Kp d x a→K a w→K' a w) (u:¬LetsOut Q) (h:wpOpIn (Wd none) 0 P ops Q i K a w):
  wpOpIn (Wd none) 0 P ops (fun e a w=>Q e a w∧Kp d x a) i K' a w:=by
 unfold wpOpIn at h ⊢;cases ho:ops[i]? with
 | none=>rw[ho] at h;exact q _ _ h0 h
 | some o=>
  have hm:=ht o (by
   obtain⟨h1,h2⟩:=Cp.1 ho;rw[←h2]
   exact Array.getElem_mem_toList h1)
  rw[ho] at h;dsimp only at h ⊢;split
  ·rename_i hw;rw[ζ hw] at h;unfold Oper.wpIn at h ⊢;exact⟨h.1,aSv h0 hm q h.2 u⟩
  ·rename_i hw;rw[η hw] at h;exact⟨h.1,q _ _ (h0.put hm _) h.2⟩
theorem aSl (ht:∀o∈ops.toList,o.dst≠some d) (q:¬LetsOut Q) {md:Region.Mode}:∀(fuel:Nat) (listed:Array Bool) (a:Act) (w:World),Kp d x a→wpAnyIn (Wd none) 0 P md ops Q fuel listed a w→wpAnyIn (Wd none) 0 P md ops (fun e a w=>Q e a w∧Kp d x a) fuel listed a w
 | 0,_,_,_,h0,h=>⟨h.1,h.2,h0⟩
 | fuel+1,_,_,_,h0,h=>⟨fun k=>⟨h.1 k,h0⟩,fun i hi=>aIp h0 ht (fun a w h0 h=>aSl ht q fuel _ a w h0 h) q (h.2 i hi)⟩
theorem aRl (ht:∀o∈ops.toList,o.dst≠some d) (q:¬LetsOut Q):∀(l:List Nat) (a:Act) (w:World),Kp d x a→wpOpsIn (Wd none) 0 P ops Q l a w→wpOpsIn (Wd none) 0 P ops (fun e a w=>Q e a w∧Kp d x a) l a w
 | [],a,w,h0,h=>⟨h,h0⟩
 | i::l,a,w,h0,h=>by
  rw[By] at h ⊢;exact aIp h0 ht (fun a w h0 h=>aRl ht q l a w h0 h) q h
theorem sS.kp {draw:Bool}{a:Act}{w:World}(ht:(ops.toList.all fun o=>o.dst !=some d)=true) (u:¬LetsOut Q) (h0:Kp d x a) (h:sS draw P ops Q a w):sS draw P ops (fun e a w=>Q e a w∧Kp d x a) a w:=by
 have q:∀o∈ops.toList,o.dst≠some d:=fun o ho e=>by
  have:=(A5.1 ht) o ho;rw[e] at this;simp at this
 cases draw with
 | true=>exact aSl q u _ _ _ _ h0 h
 | false=>exact aRl q u _ _ _ h0 h
end
section
variable {P:Program}{n:Nat}{ops:Array Oper}{G:Ctx}{S:Sto}{μ:Mu}{st:St}{a:Act}{w:World}{draw:Bool}{v:Value}
theorem a3n (q:List (Nat×AObj)) (J:List (Nat×V)) (hs:Sim G n S μ st a w) (U:st.d=[]) (Y:iM (fun p=>st.e p.1=some p.2) J) (aa:(J.all fun p=>subset p.2.refs (keys q))=true)
  (ab:iM (fun p=>st.h p.1=some p.2) q) (hc:subset (iN q) (q.map (·.1))=true) (M:(q.all fun p=>p.2.live)=true) (hok:(q.all fun p=>oC p.2)=true)
  (h:kK (fun v'=>v'=v) P n ops draw 0 (mk J q) [] (fun _=>False)):
  sS draw P ops (fun e A w'=>e=pan v∧A.defers=[]∧A.tmps.size=n∧∃S' B hout,(∀id o,look hout id=some o→∃o',look q id=some o')∧Inv G S' B (jT st.h (outs hout)) w'∧Evolve S μ st.h S' B (jT st.h (outs hout))) a w:=by
 have hh:∀id o,look q id=some o→st.h id=some o∧o≠ .dead:=by
  intro id o ho;have hm:=bE ho;refine⟨ab.mem _ hm,?_⟩;have:=(A5.1 M) _ hm;rintro rfl;simp[AObj.live] at this
 have hI:=hs.inv.hand hh hc;have O:∀i∈keys q,Good st.h (look q) (fun i=>i) i:=by
  intro i hi;obtain⟨o,ho⟩:=cW hi;obtain⟨h1,h2⟩:=hh i o ho;exact⟨o,o,h1,ho,.refl_id h2⟩
 have hs2:Sim ⟨w,S,kI μ (look q),μ,look q⟩ n S μ (mk J q) a w:=by
  refine⟨hI,hs.size,by have:=hs.defers;rw[U] at this;exact this,fun t v ht=>?_⟩;have hm:=bE (show look J t=some v from ht);have h1:=hs.env t v (Y.mem _ hm);have hr:=(A5.1 aa) _ hm;have:=aS.ren (H:=st.h) (H':=look q) (σ:=fun i=>i) v _ (fun i hi=>O i (bY hr i hi)) (by rw[V.ren_id];exact h1);exact this
 have hout:∀S' μ' e h' A w',Sim ⟨w,S,kI μ (look q),μ,look q⟩ n S' μ' ⟨e,h',[]⟩ A w'→A.defers=[]∧A.tmps.size=n∧∃S' B hout,(∀id o,look hout id=some o→∃o',look q id=some o')∧Inv G S' B (jT st.h (outs hout)) w'∧Evolve S μ st.h S' B (jT st.h (outs hout)):=by
  intro S' μ' e h' A w' u;have E:=u.inv.evo;have hbl:∀id x,(∃o',look q id=some o')→h' id=some x→oC x=true:=fun id x ⟨o',ho⟩ hx=>by
   obtain⟨o2,g1,g2⟩:=E.obj id o' ho;have g1:h' id=some o2:=g1;rw[hx] at g1;cases g1;exact aI7 g2 ((A5.1 hok) _ (bE ho))
  have hI':Inv ⟨w,S,kI μ (look q),μ,look q⟩ S' μ' (look (zG q h')) w':=by
   refine⟨u.inv.holds,fun id o ho=>?_,fun i j o o' b c c' hi hj hm hm'=>?_,fun i o b c hi hm=>?_,u.inv.frame,u.inv.sle,u.inv.sto,⟨E.le,fun id o ho=>?_⟩,u.inv.fre⟩
   ·obtain⟨h1,x,h2,rfl⟩:=dU ho;exact(u.inv.obj id x h2).blur (hbl id x h1 h2)
   ·obtain⟨_,x,h2,_⟩:=dU hi;obtain⟨_,y,I,_⟩:=dU hj;exact u.inv.inj i j x y b c c' h2 I hm hm'
   ·obtain⟨_,x,h2,_⟩:=dU hi;exact u.inv.own i x b c h2 hm
   ·obtain⟨o2,g1,g2⟩:=E.obj id o ho;refine⟨blur o2,tC ho g1,?_⟩;exact AObj.succ_trans g2 (aBo (p:=True) trivial) fun e _=>e
  obtain⟨B,q1,q2,q3,q4⟩:=hs.inv.back (fun id o ho=>(hh id o ho).1) (fun id o ho=>.inl (dU ho).1) hI';exact⟨u.defers,u.size,S',B,zG q h',fun id o ho=>(dU ho).1,q2,q3⟩
 rcases h with⟨xs,st',h1,h2,h4,I⟩ | ⟨v',p,xs,st',h0,h1,h2,I,h4,h5⟩
 ·exact I.elim
 ·subst h0;rw[Bk] at I h4 h5;exact aKc h1 I h4 (fun U=>h5 U) (fun S' μ' e h A w' s=>⟨rfl,hout S' μ' e h A w' s⟩) hs2
theorem aZn {o:Oper}{good:List (Nat×AObj)→Prop}{K:Act→World→Prop}{Q:Exit→Act→World→Prop}{f:FuncId}{x:Operand}{caps:List R}{xs:Array Operand}{ts:Array TypeId}{ids:List Nat}{args:List V}(hin:List (Nat×AObj)) (hb:jO P f) (ho:o.op=.call { callee:=.value x,args:=xs,argTypes:=ts })
  (hx:opv st x=some (.one (.clo f caps)))
  (Y:∀S μ w vals,Inv ⟨w,S,kI μ (look hin),μ,look hin⟩ S μ (look hin) w→b7 S μ (look hin) (args++caps.map V.one) vals→Calls P f ⟨vals⟩ w fun e w'=>∃S' μ' hout,e=.panicked [{ v:=v,recovered:=false }]∧(∀id o,look hout id=some o→∃o',look hin id=some o')∧good hout∧Inv ⟨w,S,kI μ (look hin),μ,look hin⟩ S' μ' (look hout) w')
  (ha:ArgsV st ids xs.toList args) (B:iM (fun p=>st.h p.1=some p.2) hin) (hok:gG (args++caps.map V.one) hin=true) (hs:Sim G n S μ st a w)
  (hQ:∀S' y hout w',good hout→Inv G S' y (jT st.h (outs hout)) w'→Evolve S μ st.h S' y (jT st.h (outs hout))→Q (pan v) a w'):o.wpIn (Wd none) 0 P a w K Q:=by
 have hv:=aO hs hx fun t ht=>rfl
 simp only[aS,aZ] at hv;obtain⟨vs,h1,h2⟩:=hv;have hr:(execOp a.eval o).run P w=.ok (.enter f ⟨xs.toList.map a.eval++vs⟩) w:=by
  simp only[execOp,ho,resolve,h1,Deferred.ofValue,Aa,Ad,δ,invoke,fF hb];congr 2;apply Array.ext';simp
 have J:∀(l:List V) (us:List Value) (rs:List R) (vs:List Value),b7 S μ st.h l us→aT S μ st.h rs vs→b7 S μ st.h (l++rs.map V.one) (us++vs):=by
  intro l
  induction l with
  | nil=>
   intro us rs vs h k;simp only[b7] at h;subst h;simp only[Av]
   induction rs generalizing vs with
   | nil=>simp only[aT] at k;subst k;simp[b7]
   | cons r rs E=>
    simp only[aT] at k;obtain⟨v,vs',rfl,q,u⟩:=k;simp only[Ar,b7];exact⟨v,vs',rfl,by simpa [aS] using q,E vs' u⟩
  | cons x l E=>
   intro us rs vs h k;simp only[b7] at h;obtain⟨v,vs',rfl,q,u⟩:=h;simp only[As,b7];exact⟨v,_,rfl,q,E vs' rs vs u k⟩
 have M:=J _ _ _ _ (ha.rel hs (fun t ht=>rfl) fun i h=>rfl) h2;simp only[gG,π] at hok;obtain⟨⟨q,u⟩,k3⟩:=hok;have hh:∀id o,look hin id=some o→st.h id=some o∧o≠ .dead:=by
  intro id o ho;have hm:=bE ho;refine⟨B.mem _ hm,?_⟩;have:=(A5.1 k3) _ hm;rintro rfl;simp[AObj.live] at this
 have hI:=hs.inv.hand hh u;have A:∀i∈keys hin,Good st.h (look hin) (fun i=>i) i:=by
  intro i hi;obtain⟨o,ho⟩:=cW hi;obtain⟨h1,h2⟩:=hh i o ho;exact⟨o,o,h1,ho,.refl_id h2⟩
 have O:b7 S μ (look hin) (args++caps.map V.one) (xs.toList.map a.eval++vs):=by
  have:=b7.ren (H:=st.h) (H':=look hin) (σ:=fun i=>i) (args++caps.map V.one) _ (fun i hi=>A i (bY q i hi)) (by rw[V.renL_id];exact M);exact this
 have hc:=Y S μ w _ hI O;refine lB hr ?_;refine hc.mono fun e w' ⟨S',μ',hout,he,I,hg,U⟩=>?_
 subst he;obtain⟨y,q1,q2,q3,q4⟩:=hs.inv.back (fun id o ho=>(hh id o ho).1) (fun id o ho=>.inl (I id o ho)) U;exact hQ S' y hout w' hg q2 q3
theorem a0y {id:Nat}{D:List Deferred}{d:Nat}{x:Value}{Q':Exit→Act→World→Prop}(hm:P.follows .mixedOrders=true) (hs:Sim G n S μ st a w) (h0:Kp d x a) (ht:(ops.toList.all fun o=>o.dst !=some d)=true)
  (h:kK (fun _=>False) P n ops draw 0 st [] (fun st'=>∀S' μ' q w',Kp d x q→Sim G n S' μ' st' q w'→Q' .normal (tW q D) w')):(Code.region id ops draw).wpIn (Wd none) 0 P Q' (tW a D) w:=by
 rcases h with⟨xs,st',h1,h2,u,y⟩ | ⟨v,p,xs,st',h0,_⟩
 case inr=>exact h0.elim
 rw[Bk] at h2;refine sS.wp hm (sS.ext (Q:=fun e a w=>(e=.normal∧∃S' μ',Sim G n S' μ' st' a w)∧Kp d x a) ?_ (sS.kp ht ?_ h0 (aEn h1 h2 u (fun S' μ' q w' s=>⟨rfl,S',μ',s⟩) hs)))
 ·rintro e a w ⟨⟨rfl,S',μ',s⟩,A⟩;exact y S' μ' a w A s
 ·rintro⟨a,w,h,_⟩;cases h
theorem a1t {id:Nat}{Q':Exit→Act→World→Prop}(hm:P.follows .mixedOrders=true) (hs:Sim G n S μ st a w)
  (h:kK (fun _=>False) P n ops draw 0 st [] (fun st'=>∀S' μ' q w',Sim G n S' μ' st' q w'→Q' .normal q w')):(Code.region id ops draw).wpIn (Wd none) 0 P Q' a w:=by
 rcases h with⟨xs,st',h1,h2,u,y⟩ | ⟨v,p,xs,st',h0,_⟩
 case inr=>exact h0.elim
 rw[Bk] at h2;exact sS.wp hm (aEn h1 h2 u y hs)
end
end Go.AM
namespace Go.Proofs.YtkhgpgihmphfdaaGreatDoor
open Go Go.AM
set_option maxRecDepth 20000
set_option maxHeartbeats 4000000
def lA:AObj:=.var 30 [.c .nl,.c .nl,.c .nl,.c .nl]
def pgO (p:Pg):AObj:=.var 30 ((oP p).map .c)
theorem a0b {L:List Tk}{z q:Z}{p:Pg}(h:aW Tryz.prog 65 [rP] [(600,rO L z)] (.pa (oP p)) [(600,rO L q)]):aW Tryz.prog 64 ([rP]++[R.vp 9 0].map V.one) [(600,rO L z),(9,lA)] (.tup []) [(600,rO L q),(9,pgO p)]:=by
 refine b9 (n:=5) tok Tryz.func64 rfl rfl rfl ?_;refine aC mixed (ak 1 [] rfl (kc h ?_));exact kz 1 rfl rtN
theorem aVu {L:List Tk}{z:Z}{v:Value}(h:aGs Tryz.prog 65 [rP] [(600,rO L z)] v) (S:Sto) (μ:Mu) (w:World) (vals:List Value) (E:Go.AM.Inv ⟨w,S,kI μ (Go.AM.look [(600,rO L z),(9,lA)]),μ,Go.AM.look [(600,rO L z),(9,lA)]⟩ S μ (Go.AM.look [(600,rO L z),(9,lA)]) w)
  (hv:b7 S μ (Go.AM.look [(600,rO L z),(9,lA)]) ([rP]++[R.vp 9 0].map V.one) vals):Calls Tryz.prog 64 ⟨vals⟩ w fun e w'=>∃S' μ' hout,e=.panicked [{ v:=v,recovered:=false }]∧(∀id o,Go.AM.look hout id=some o→∃o',Go.AM.look [(600,rO L z),(9,lA)] id=some o')∧(∃x,hout=[(600,x),(9,lA)])∧Go.AM.Inv ⟨w,S,kI μ (Go.AM.look [(600,rO L z),(9,lA)]),μ,Go.AM.look [(600,rO L z),(9,lA)]⟩ S' μ' (Go.AM.look hout) w':=by
 refine(Go.AM.Wd.calls (ro:=none) (n:=0)).1 (callsIn_of_wp_defers Tryz.func64 rfl trivial ?_);have y:=aI9 (n:=5) (k:=(Tryz.f64).ntmps) rfl rfl E hv;refine wpIn_mono (sS.wp mixed (a3n (v:=v) [(600,rO L z)] [(0,rP)] y rfl ⟨rfl,trivial⟩ rfl ⟨rfl,trivial⟩ rfl rfl rfl ?_)) ?_
 ·exact ak 1 [] rfl (kp h (hq:=rfl))
 rintro e A w' ⟨rfl,I,_,S',J,hout,B,q,M⟩;show LeavesIn _ _ _ _ A.tmps _ A.defers (.panicking _) w';rw[I];have O:Go.AM.look hout 9=none:=by
  cases hl:Go.AM.look hout 9 with
  | none=>rfl
  | some o=>obtain⟨o',ho⟩:=B 9 o hl;cases ho
 have hx:∃x,jT (mk (aB7 0 ([rP]++[R.vp 9 0].map V.one)) [(600,rO L z),(9,lA)]).h (outs hout)=Go.AM.look [(600,x),(9,lA)]:=by
  refine⟨(Go.AM.look hout 600).getD (rO L z),funext fun id=>?_⟩;rw[iZ];by_cases u:id=600
  ·subst u;cases hl:Go.AM.look hout 600 with
   | none=>rfl
   | some o=>rfl
  ·have hn:Go.AM.look hout id=none:=by
    cases hl:Go.AM.look hout id with
    | none=>rfl
    | some o=>
     obtain⟨o',ho⟩:=B id o hl;simp[Go.AM.look] at ho;exact absurd ho.1 u
   rw[hn];show Go.AM.look [(600,rO L z),(9,lA)] id=_;simp[Go.AM.look,u]
 obtain⟨x,hx⟩:=hx;rw[hx] at q;refine⟨S',J,[(600,x),(9,lA)],rfl,fun id o ho=>?_,⟨x,rfl⟩,q⟩;have hm:=bE ho;rcases Aq.1 hm with hm | hm
 ·obtain⟨rfl,rfl⟩:=Prod.mk.inj hm;exact⟨_,rfl⟩
 ·obtain⟨rfl,rfl⟩:=Prod.mk.inj (Am.1 hm);exact⟨_,rfl⟩
theorem aCd {w0:World}{S0 S:Sto}{μ0 μ:Mu}{st:St}{a:Act}{w:World}{u:Value}(q:AObj) (b:Bool) (e p:Int) (A B:FrameMode) (hok:(subset (atV e p).refs (keys [(9,q)])&&subset (iN [(9,q)]) (keys [(9,q)])&&Go.AM.distinct (keys [(9,q)])&&subset (keys [(9,lA)]) (keys [(9,q)])&&([(9,lA)].all fun p=>p.2.plain)&&([(9,q)].all fun p=>p.2.plain))=true)
  (hs:Sim ⟨w0,S0,kI μ0 (Go.AM.look [(9,lA)]),μ0,Go.AM.look [(9,lA)]⟩ 38 S μ st a w) (hd:st.d=[]) (J:st.e 4=some (.one (.vp 4 0))) (Y:st.e 17=some (.one (.clo 110 [.vp 4 0]))) (aa:st.h 4=some (atO 0 0)) (ab:st.h 9=some q) (ac:Ole (fun i=>i) q q)
  (hk:Kp 17 (.func (.func 110) #[] ⟨[u]⟩) a)
  (hu:∀(E:Frame) (cs:List Frame),E.mode=A→(b=true∧recoverD (E::cs)=some (vS e p,{ E with mode:=B }::cs))∨(b=false∧recoverD (E::cs)=none∧B=A∧e=0∧p=0)) (M:A≠ .run) (O:settle B=.returning):
  LeavesIn (Wd none) 0 Tryz.prog Tryz.f63 a.tmps (fun en w'=>∃S' μ' v,en=.returned v∧Go.AM.Inv ⟨w0,S0,kI μ0 (Go.AM.look [(9,lA)]),μ0,Go.AM.look [(9,lA)]⟩ S' μ' (Go.AM.look [(9,q)]) w'∧aS S' μ' (Go.AM.look [(9,q)]) (atV e p) v) (tW a [{ target:=.fn (.func 110) ⟨[u]⟩,args:= #[] }]).defers A w:=by
 have hda:a.defers=[]:=by have:=hs.defers;rw[hd] at this;exact this
 show LeavesIn _ _ _ _ _ _ (a.defers++_) _ _;rw[hda,Av];have hh:∀id o,Go.AM.look [(4,atO 0 0)] id=some o→st.h id=some o∧o≠ .dead:=by
  intro id o ho;obtain⟨rfl,rfl⟩:=Prod.mk.inj (Am.1 (bE ho));exact⟨aa,fun k=>by cases k⟩
 have hI:=hs.inv.hand hh rfl;have I:∀i∈keys [(4,atO 0 0)],Go.AM.Good st.h (Go.AM.look [(4,atO 0 0)]) (fun i=>i) i:=by
  intro i hi;obtain⟨o,ho⟩:=cW hi;obtain⟨h1,h2⟩:=hh i o ho;exact⟨o,o,h1,ho,.refl_id h2⟩
 have y:=hs.env 17 _ Y;have hk':a.tmps.getD 17 undef=.func (.func 110) #[] ⟨[u]⟩:=hk;rw[hk'] at y;have hvu:b7 S μ st.h [.one (.vp 4 0)] [u]:=by
  simp only[aS,aZ,aT] at y;obtain⟨vs,h1,v,vs',h2,h3,J⟩:=y;subst J h2;cases h1;simp only[b7,aS];exact⟨_,_,rfl,h3,rfl⟩
 have U:b7 S μ (Go.AM.look [(4,atO 0 0)]) [.one (.vp 4 0)] [u]:=by
  have:=b7.ren (H:=st.h) (H':=Go.AM.look [(4,atO 0 0)]) (σ:=fun i=>i) [.one (.vp 4 0)] [u] (fun i hi=>I i (by simpa [V.refsL,V.refs,R.refs,keys] using hi)) (by rw[V.renL_id];exact hvu);exact this
 have hb1:jO Tryz.prog 110:=aMm (by kernel_rfl);have hi:(invoke (.fn (.func 110) ⟨[u]⟩) #[]).run Tryz.prog w=.ok (.enter 110 ⟨[u]⟩) w:=by
  simp only[invoke];rw[fF hb1];simp
 refine leavesIn_cons M (fun h=>by simp[Go.AM.Wd] at h) hi (fun _ _=>trivial) (CallsDIn.mono (aZp b e p _ hI U A B hu) ?_);rintro en u' w' ⟨⟨v,rfl⟩,rfl,S',μ',hI6⟩;dsimp only;rw[O];obtain⟨μ2,q1,q2,q3,q4⟩:=hs.inv.back (hin:=[(4,atO 0 0)]) (hout:=[(4,atO e p)]) (fun id o ho=>(hh id o ho).1) (fun id o ho=>.inl (by obtain⟨rfl,_⟩:=Prod.mk.inj (Am.1 (bE ho));exact⟨_,rfl⟩)) hI6;have hs6:Sim ⟨w0,S0,kI μ0 (Go.AM.look [(9,lA)]),μ0,Go.AM.look [(9,lA)]⟩ 38 S' μ2 ⟨st.e,jT st.h (outs [(4,atO e p)]),st.d⟩ a w':=⟨q2,hs.size,hs.defers.evolve q3,fun t v e=>aS.evolve q3 v _ (hs.env t v e)⟩
 have g4:jT st.h (outs [(4,atO e p)]) 4=some (atO e p):=by rw[iZ];rfl
 have g9:jT st.h (outs [(4,atO e p)]) 9=some q:=by rw[iZ];exact ab
 have hf:Fin tr.flat Tryz.f63 ⟨st.e,jT st.h (outs [(4,atO e p)]),st.d⟩ [(9,lA)] (atV e p) [(9,q)]:=(rtC (fn:=Tryz.f63) (st:=⟨st.e,jT st.h (outs [(4,atO e p)]),st.d⟩) (hin:=[(9,lA)]) (hout:=[(9,q)]) (res:=atV e p) trw (ha:=J) (hh:=g4) (ho:=⟨⟨_,g9,ac⟩,trivial⟩) (hok:=hok)).2
 obtain⟨v2,k1,k2,k3⟩:=aK7 (fn:=Tryz.f63) tok hs6 hf;exact⟨v2,k1,_,_,_,rfl,k2,k3⟩
section
variable {m:Nat}{P:Program}{ops:Array Oper}{Q:Exit→Act→World→Prop}{i:Nat}{a:Act}{w:World}{o:Oper}{K:Act→World→Prop}
theorem aS1 {x:Operand}{ts:Array TypeId}{f:FuncId}{caps:Array Value}(ho:ops[i]?=some o) (u:o.guard=none) (q:o.op=.defer { callee:=.value x,args:= #[],argTypes:=ts }) (y:o.dst=none) (hx:a.eval x=.func (.func f) #[] caps)
  (A:K ⟨a.tmps,{ target:=.fn (.func f) caps,args:= #[] }::a.defers⟩ w):wpOpIn (Go.AM.Wd none) m P ops Q i K a w:=by
 unfold wpOpIn;simp only[ho];rw[ζ (by simp[Region.wanted,u])];refine⟨fun _ _=>trivial,?_⟩;have B:(o.semAt none a.eval).run P w=.ok (.defer { target:=.fn (.func f) caps,args:= #[] }) w:=by
  rw[Oper.semAt_none];simp[execOp,q,resolve,hx,Deferred.ofValue]
 show o.uponIn (Go.AM.Wd none) m P a K Q ((o.semAt none a.eval).run P w);rw[B,Oper.uponIn_defer,y];exact A
theorem aHi (ho:ops[i]?=some o) (q:o.guard=none) (h:o.wpIn (Go.AM.Wd none) m P a w K Q):wpOpIn (Go.AM.Wd none) m P ops Q i K a w:=by
 unfold wpOpIn;simp only[ho];rw[ζ (by simp[Region.wanted,q])];exact h
end
theorem aH0 (s:Str) (l:List Tk) (I:aW Tryz.prog 20 [Go.AM.T s] [] (.tup [.one (.c (.sl 4 (l.map aI))),atV 0 0]) []) (pg:Pg) (q:Z) (hA:ZA l q) (B:bH Tryz.prog 65 [rP] [(600,rO l ⟨l,0,0⟩)] (iP l (.pa (oP pg)) q [])):
  aW Tryz.prog 63 [Go.AM.T s,.one (.clo 64 [.vp 9 0])] [(9,lA)] (atV (kZ q).e (if(kZ q).e=0 then 0 else(kZ q).p)) [(9,if q.e=0 then pgO pg else lA)]:=by
 have er:rO l ⟨l,0,0⟩=.var 168 [.c (.sl 4 (l.map aI)),.c (.int .i64 0)]:=by unfold rO;dsimp only;rw[Cq];rfl
 unfold atV at I;intro S μ w vals hI hv;refine(Go.AM.Wd.calls (ro:=none) (n:=0)).1 (callsIn_of_wp_defers Tryz.func63 rfl trivial ?_);have hs0:=aI9 (n:=38) (k:=(Tryz.f63).ntmps) rfl rfl hI hv;refine C5 (a1t mixed hs0 ?_);refine ak 1 [(0,.id 4)] rfl (az ?_);intro S1 μ1 a1 w1 hs1;refine C5 (a1t mixed hs1 ?_);refine ak 1 [] rfl (kc I ?_);refine kz 6 rfl ?_;intro S2 J a2 w2 hs2;refine C5 (C5 (a1t mixed hs2 ?_));refine kz 3 rfl ?_;intro S3 μ3 a3 w3 hs3;have hb:=hs3.env 15 _ rfl;simp only[aS,aZ,Rep] at hb;refine wpIn_cond (t:=false) hb ?_;refine wpIn_skip ?_;refine C5 (wpIn_region ?_);show wpOpsIn _ _ _ _ _ [0,1] _ _;rw[By];refine(g_ rfl rfl (vD (l:=[.vp 4 0]) rfl rfl (kE rfl) rfl)) _ (gS.refl _ _) _ S3 μ3 a3 w3 _ _ hs3 (fun S4 μ4 a4 w4 M=>?_) none;rw[By];have hd4:a4.defers=[]:=M.defers;have hv4:=M.env 17 _ rfl;simp only[aS,aZ,aT] at hv4;obtain⟨vs,hv5,u,vs',rfl,_,rfl⟩:=hv4;have hk4:Kp 17 (.func (.func 110) #[] ⟨[u]⟩) a4:=hv5;refine aS1 rfl rfl rfl rfl hv5 ?_;have he:(⟨a4.tmps,({ target:=.fn (.func 110) ⟨[u]⟩,args:= #[] }:Deferred)::a4.defers⟩:Act)=tW a4 [{ target:=.fn (.func 110) ⟨[u]⟩,args:= #[] }]:=by unfold tW;rw[hd4];rfl
 rw[he];refine C5 (a0y mixed M hk4 rfl ?_);refine ak 5 [(3,.id 600)] rfl (az ?_);intro S5 μ5 a5 w5 hk5 hs5;by_cases y:q.e=0
 case neg=>
  have hp:=bH.err B y;have O:kZ q=q:=η fun k=>y k.1
  rw[O,η y,η y];refine C5 (sS.wp (draw:=false) mixed (sS.ext (Q:=fun e a w'=>(e=pan (vS q.e q.p)∧∃S' μ' st',Sim ⟨w,S,kI μ (Go.AM.look [(9,lA)]),μ,Go.AM.look [(9,lA)]⟩ 38 S' μ' st' a w'∧st'.d=[]∧st'.e 4=some (.one (.vp 4 0))∧st'.e 17=some (.one (.clo 110 [.vp 4 0]))∧st'.h 4=some (atO 0 0)∧st'.h 9=some lA)∧Kp 17 (.func (.func 110) #[] ⟨[u]⟩) a) ?_ (sS.kp rfl ?_ hk5 ?_)))
  ·rintro e a w' ⟨⟨rfl,S',μ',st',hs',U,h4,h17,hh4,hh9⟩,E⟩;exact aCd lA true q.e q.p (.panicking [{ v:=vS q.e q.p,recovered:=false }]) (.panicking [{ v:=vS q.e q.p,recovered:=true }]) rfl hs' U h4 h17 hh4 hh9 (.var rfl) E (fun c₀ cs hc=>.inl ⟨rfl,by simp only[recoverD,hc]⟩) (fun k=>by cases k) rfl
  ·rintro⟨a,w,h,_⟩;cases h
  unfold sS;dsimp only;show wpOpsIn _ _ _ _ _ [0,1,2] _ _;rw[By];refine(g_ rfl rfl (aJn rfl rfl (kE rfl) rfl)) _ (gS.refl _ _) _ S5 μ5 a5 w5 _ _ hs5 (fun S6 μ6 Y w6 A=>?_) none;rw[By];refine(g_ rfl rfl (aJn rfl rfl (kE rfl) rfl)) _ (gS.refl _ _) _ S6 μ6 Y w6 _ _ A (fun S7 μ7 a7 w7 hs7=>?_) none;rw[By];rw[er] at hp;refine aHi rfl rfl (aZn (v:=vS q.e q.p) (good:=fun hout=>∃x,hout=[(600,x),(9,lA)]) (args:=[rP]) (caps:=[.vp 9 0]) (f:=64) [(600,rO l ⟨l,0,0⟩),(9,lA)] (aMm (by kernel_rfl)) rfl rfl (fun S μ w vals hI hv=>aVu (by rw[er];exact hp) S μ w vals hI hv) (.cons rfl .refl .nil) ⟨by rw[er];rfl,rfl,trivial⟩ rfl hs7 ?_);rintro S' μ8 hout w' ⟨x,rfl⟩ hI8 hE;exact⟨rfl,S',μ8,⟨_,_,_⟩,⟨hI8,hs7.size,hs7.defers.evolve hE,fun t v e=>aS.evolve hE v _ (hs7.env t v e)⟩,rfl,rfl,rfl,rfl,rfl⟩
 have B:=bH.ok B y;rw[ζ y];have hP1:=a0b B;rw[er] at hP1;refine C5 (a0y mixed hs5 hk5 rfl ?_);refine ak 2 [] rfl (kv (args:=[rP]) hP1 ?_);refine az ?_;intro S6 μ6 Y w6 hk6 A;have hn:=eQ hA;by_cases E:(b8 q).kind=6
 case neg=>
  have O:kZ q=⟨q.R,12,(b8 q).pl⟩:=(ζ ⟨y,E⟩).trans (ζ y);have h12:¬(12:Int)=0:=by decide
  rw[O];dsimp only;rw[η h12];have d:decide ((b8 q).kind=6)=false:=φ E;have hmn:=bO 12 (b8 q).pl;refine C5 (sS.wp mixed (sS.ext (Q:=fun e a w'=>((e=pan (vS 12 (b8 q).pl)∧a.defers=[]∧a.tmps.size=38∧∃S' J hout,(∀id o,Go.AM.look hout id=some o→∃o',Go.AM.look [(600,rO l q)] id=some o')∧Go.AM.Inv ⟨w,S,kI μ (Go.AM.look [(9,lA)]),μ,Go.AM.look [(9,lA)]⟩ S' J (jT _ (outs hout)) w'∧Evolve S6 μ6 _ S' J (jT _ (outs hout)))∧Kp 4 (Y.tmps.getD 4 undef) a)∧Kp 17 (.func (.func 110) #[] ⟨[u]⟩) a) ?_ (sS.kp rfl ?_ hk6 (sS.kp rfl ?_ rfl (a3n (v:=vS 12 (b8 q).pl) [(600,rO l q)] [(7,rP)] A rfl ⟨rfl,trivial⟩ rfl ⟨rfl,trivial⟩ rfl rfl rfl ?_)))))
  ·rintro e a' w' ⟨⟨⟨rfl,U,hsz,S',J,hout,hkeys,hI',hE⟩,hk4'⟩,hk17⟩;have hno:∀id,id≠600→Go.AM.look hout id=none:=fun id h6=>by
    cases hl:Go.AM.look hout id with
    | none=>rfl
    | some o=>
     obtain⟨o',ho⟩:=hkeys id o hl;simp[Go.AM.look] at ho;exact absurd ho.1 h6
   have hs7:Sim ⟨w,S,kI μ (Go.AM.look [(9,lA)]),μ,Go.AM.look [(9,lA)]⟩ 38 S' J ⟨Go.AM.look [(4,.one (.vp 4 0)),(17,.one (.clo 110 [.vp 4 0]))],_,[]⟩ a' w':=⟨hI',hsz,U,fun t v ht=>by
    have hm:=bE ht;rcases Aq.1 hm with hm | hm
    ·obtain⟨rfl,rfl⟩:=Prod.mk.inj hm;have h1:a'.tmps.getD 4 undef=Y.tmps.getD 4 undef:=hk4';rw[h1];exact aS.evolve hE _ _ (A.env 4 _ rfl)
    ·obtain⟨rfl,rfl⟩:=Prod.mk.inj (Am.1 hm);have h1:a'.tmps.getD 17 undef=Y.tmps.getD 17 undef:=Eq.trans hk17 (Eq.symm hk6);rw[h1]
     exact aS.evolve hE _ _ (A.env 17 _ rfl)⟩
   exact aCd (pgO pg) true 12 (b8 q).pl (.panicking [{ v:=vS 12 (b8 q).pl,recovered:=false }]) (.panicking [{ v:=vS 12 (b8 q).pl,recovered:=true }]) rfl hs7 rfl rfl rfl ((iZ _ hout 4).trans (by rw[hno 4 (by decide)];rfl)) ((iZ _ hout 9).trans (by rw[hno 9 (by decide)];rfl)) (.var rfl) hk17 (fun c₀ cs hc=>.inl ⟨rfl,by simp only[recoverD,hc]⟩) (fun k=>by cases k) rfl
  ·rintro⟨a,w,h,_⟩;cases h.1
  ·rintro⟨a,w,h,_⟩;cases h
  refine ak 3 [] rfl (kc hn ?_);refine ak 5 [] rfl (kc hn ?_);refine ak 1 [] rfl ?_;rw[d];refine kpD (.tup []) [] hmn ?_ (hq:=rfl);exact az trivial
 have O:kZ q=q:=η fun k=>k.2 E
 rw[O,ζ y,y];have d:decide ((b8 q).kind=6)=true:=θ E;have hmo:=bN 12 (b8 q).pl;refine C5 (a0y mixed A hk6 rfl ?_);refine ak 3 [] rfl (kc hn ?_);refine ak 5 [] rfl (kc hn ?_);refine ak 1 [] rfl ?_;rw[d];refine kc hmo ?_;refine az ?_;intro S7 μ7 a7 w7 hk7 hs7;refine C5 (a0y mixed hs7 hk7 rfl ?_);refine kz 2 rfl ?_;intro S8 μ8 a8 w8 hk8 hs8;refine wpIn_ret ?_;exact aCd (pgO pg) false 0 0 .returning .returning rfl hs8 rfl rfl rfl rfl rfl (.var rfl) hk8 (fun c₀ cs hc=>.inr ⟨rfl,by simp only[recoverD,hc],rfl,rfl,rfl⟩) (fun k=>by cases k) rfl
theorem aC7 (s:Str) (e p:Int) (u:¬e=0) (q:aW Tryz.prog 20 [Go.AM.T s] [] (.tup [.one (.c .nl),atV e p]) []):
  aW Tryz.prog 63 [Go.AM.T s,.one (.clo 64 [.vp 9 0])] [(9,lA)] (atV e p) [(9,lA)]:=by
 unfold atV at q ⊢;have d0:(!decide (e=0))=true:=by rw[φ u];rfl
 refine b9 (n:=38) tok Tryz.func63 rfl rfl rfl ?_;refine sgh [(0,.id 4)] rfl (sk 1 rfl (kc q ?_));exact kz 6 rfl (aA (sg rfl (aB rfl (fun _=>sg rfl (aE (rtC trw))) (fun hb=>absurd (hb.symm.trans d0) Bool.noConfusion))))
theorem aPu (hX:aB3) (s:Str) (q:aW Tryz.prog 20 [Go.AM.T s] [] (aIl (pG s)) []) (hC:aWg (bB s).1 (bB s).2.R.length):
  aW Tryz.prog 63 [Go.AM.T s,.one (.clo 64 [.vp 9 0])] [(9,lA)] (atV (kZ (gZ s).2).e (if(kZ (gZ s).2).e=0 then 0 else(kZ (gZ s).2).p)) [(9,if(gZ s).2.e=0 then pgO (gZ s).1 else lA)]:=by
 obtain⟨u,hwt,hZ,y⟩:=eL s;have A:= @xF s;have B:∀l,pG s=.ok l→aQ3 l:=fun l h=>by
  unfold pG at h;split at h
  ·cases h
  ·exact xD _ _ _ _ h
 unfold gZ;unfold bB at u hwt hZ y hC ⊢;generalize pG s=w at q u hwt hZ y hC A B ⊢;cases w with
 | error e=>
  obtain⟨e,p⟩:=e;have he:¬e=0:=A rfl;have I:kZ ⟨[aAy],e,p⟩=⟨[aAy],e,p⟩:=η fun k=>he k.1
  dsimp only;rw[η he];dsimp only;rw[I];dsimp only;rw[η he,η he];exact aC7 s e p he q
 | ok l=>
  dsimp only at u hwt hZ y hC ⊢;rw[ζ rfl];have E:=aH2 (xQ l.length) (aUg hwt hZ (B l rfl) l.length) hX (iG hwt l.length) hZ hwt hC u rfl (le_refl _);obtain⟨g1,_⟩:=oG (iG hwt l.length) hwt u;exact aH0 s l q _ _ g1 E
theorem aH6 (hX:aB3) (s:Str) (u:aW Tryz.prog 20 [Go.AM.T s] [] (aIl (pG s)) []) (hC:aWg (bB s).1 (bB s).2.R.length):
  aW Tryz.prog 22 [Go.AM.T s] [] (.tup [.pa (oP (dR s).1),atV (dR s).2.1 (if(dR s).2.1=0 then 0 else(dR s).2.2)]) []:=by
 have hs:=aPu hX s u hC;have q:(kZ (gZ s).2).e=0→(gZ s).2.e=0:=fun h=>by
  unfold kZ at h;split at h
  ·rename_i hc;exact hc.1
  ·exact h
 unfold dR;generalize (gZ s).1=y at hs ⊢;generalize A:(kZ (gZ s).2)=z at hs q ⊢;unfold atV at hs ⊢;by_cases he:z.e=0
 ·rw[ζ he,ζ (q he)] at hs;rw[ζ he];dsimp only;rw[ζ he];have d0:(!decide (z.e=0))=false:=by rw[θ he];rfl
  refine b9 (n:=16) tok Tryz.func22 rfl rfl rfl ?_;refine sg rfl (sgh [(0,.id 9)] rfl (sk 2 rfl (kc hs ?_)));exact kz 2 rfl (aA (sg rfl (aB rfl (fun hb=>absurd (hb.symm.trans d0) Bool.noConfusion) (fun _=>aD (sg rfl (aE wI))))))
 ·rw[η he] at hs;rw[η he];dsimp only;rw[η he];have d0:(!decide (z.e=0))=true:=by rw[φ he];rfl
  by_cases h1:(gZ s).2.e=0
  ·rw[ζ h1] at hs;refine b9 (n:=16) tok Tryz.func22 rfl rfl rfl ?_;refine sg rfl (sgh [(0,.id 9)] rfl (sk 2 rfl (kc hs ?_)));exact kz 2 rfl (aA (sg rfl (aB rfl (fun _=>sg rfl (aE wI)) (fun hb=>absurd (hb.symm.trans d0) Bool.noConfusion))))
  ·rw[η h1] at hs;refine b9 (n:=16) tok Tryz.func22 rfl rfl rfl ?_;refine sg rfl (sgh [(0,.id 9)] rfl (sk 2 rfl (kc hs ?_)));exact kz 2 rfl (aA (sg rfl (aB rfl (fun _=>sg rfl (aE wI)) (fun hb=>absurd (hb.symm.trans d0) Bool.noConfusion))))
def bxL:List Tk:=[⟨4,eqS,0,0⟩,⟨1,[120],0,0⟩,aAy]
theorem a0i:aB3:=by
 have q:ZA bxL ⟨bxL,0,0⟩:=⟨rfl,⟨[⟨4,eqS,0,0⟩,⟨1,[120],0,0⟩],aAy,rfl,rfl⟩,by decide⟩
 have hwt:wt bxL≤30000:=by decide
 have hN:aQ3 bxL:=fun t ht=>by
  intro _;simp only[bxL,Aq,not_mem_nil,or_false] at ht;rcases ht with rfl | rfl | rfl<;>rfl
 have hZ:rN bxL:=fun t ht u=>hN t ht (by rw[u];decide)
 have hb:=y4 (xQ 3) (aUg hwt hZ hN 3) ⟨1,[120],0,0⟩ 0 q rfl (by decide) (by decide);have he:(dP (yP 3) ⟨1,[120],0,0⟩ 0 ⟨bxL,0,0⟩).2.e=0:=by decide
 have hb:=bH.ok hb he;exact⟨bxL,⟨bxL,0,0⟩,_,⟨1,[120],0,0⟩,_,hb⟩
end Go.Proofs.YtkhgpgihmphfdaaGreatDoor
namespace Go.AM
open Go
section
variable {P:Program}{n:Nat}{o:Oper}{st:St}{d:Nat}{T:TT}
theorem a1g {rd:Rd}{id:Nat}{ao q:AObj}(J:o.dst=none) (hid:st.h id=some ao) (B:id∈rd.h) (y:ao.succ True q)
  (h:∀st',gS rd st st'→st'.h id=some ao→∀G S μ a w,Sim G n S μ st' a w→∃v w' A b c,(execOp a.eval o).run P w=.ok (.value v) w'∧μ id=some (b,c)∧WChg w w' b A∧
   mB S (upd μ id (some (b,c))) (upd st'.h id (some q)) w' id q∧(∀o v,S.cell b o=some v→∃vs t M,A=.cells vs t M∧vs[o]?=some v)∧(∀m,S.mapo b=some m→w.heap.size≤b)):
  Step P n o st rd ⟨none,[(id,some q)]⟩:=by
 intro st' ha G S μ a w K Q hs O;have u:st'.h id=some ao:=by rw[ha.2 id B,hid]
 obtain⟨v,w',A,b,c,U,hm,hw,hO,hS,E⟩:=h st' ha u G S μ a w hs;refine fun ro=>fS U ?_
 rw[J];have I:=jJ (S:=S) (μ:=μ) u hm y;have hi:=hs.inv.chg (id:=id) (cap:=c) (ao:=q) hw (.inr ⟨ao,c,u,hm⟩) I hO hS E;refine O S (upd μ id (some (b,c))) _ _ ?_;have:=hs.put_none hi I v;unfold Eff.apply;rw[cE];exact this
theorem wH (w:World) (t e ty:TypeId) (z:Value) (ht:P.underlying t=some (.slice e)) (hv:∀w,(zeroValue e).run P w=.ok z w) (E:z.cells= #[z]) (h1:z.oneCell'=true) (b off l c:Nat) (hn:0<l) (vs:List Value) (y:TypeId) (I:w.heap[b]?=some (.cells ⟨vs⟩ y (0,0))) (u:off+l≤vs.length):
  (Builtin.clear_ #[t] ty #[.slice (some ⟨b,off,none⟩) l c]).run P w=.ok (.tuple #[]) (w.setRow b ⟨vs.take off++List.replicate l z++vs.drop (off+l)⟩):=by
 have A:(Builtin.zeroCells z.cells l).toList=List.replicate l z:=by
  rw[E];simp[Builtin.zeroCells];apply List.ext_getElem
  ·simp
  ·intro i h1 h2;simp[Nat.mod_one]
 have q:=run_storeCells_at (P:=P) b off y (List.replicate l z) 0 ⟨vs⟩ w I (by simpa using u) (by intro v B;rw[List.eq_of_mem_replicate B];exact h1);simp only[Ct,C1] at q;obtain⟨m,rfl⟩:∃m,l=m+1:=⟨l-1,by omega⟩
 simp[Builtin.clear_,Ak ht,hv,A,q]
theorem a1r {elems:List (List C)}(h:∀r∈elems,r.length=1):elems.flatten.length=elems.length:=by
 induction elems with
 | nil=>rfl
 | cons r l q=>
  rw[Bj,ψ,q (fun r u=>h r (Bf _ u)),h r Bt,ω];omega
theorem aHt {elems:List (List C)}(h:∀r∈elems,r.length=1) (k:Nat):(elems.take k).flatten=elems.flatten.take k:=by
 induction elems generalizing k with
 | nil=>simp
 | cons r l u=>
  cases k with
  | zero=>simp
  | succ k=>
   have q:=h r Bt;rw[A3,Bj,Bj,u (fun r q=>h r (Bf _ q)),List.take_append,q,Nat.add_sub_cancel,Au (l:=r) (i:=k+1) (by omega)]
theorem aAt (c:C):∀l:Nat,(List.replicate l [c]).flatten=List.replicate l c
 | 0=>rfl
 | l+1=>by rw[replicate_succ,Bj,aAt c l,replicate_succ];rfl
theorem aEd {S:Sto}{c:C}{z:Value}(h:Rep S c z):∀l:Nat,bZ S (List.replicate l c) (List.replicate l z)
 | 0=>by rw[List.replicate_zero,bZ];rfl
 | l+1=>by rw[replicate_succ,replicate_succ,bZ];exact⟨_,_,rfl,h,aEd h l⟩
theorem aJx {t e:TypeId}{x:Operand}{te id off len sz:Nat}{elems:List (List C)}{z:Value}{zc:C}(ho:o.op=.call { callee:=.builtin .clear,args:= #[x],argTypes:= #[t] }) (hd:o.dst=none) (hu:P.underlying t=some (.slice e)) (hzero:∀w,(zeroValue e).run P w=.ok z w) (hz:z.cells= #[z]) (U:z.oneCell'=true) (I:∀S,Rep S zc z)
  (hx:(opv st x=some (.one (.tl id off len sz)))∨(opv st x=some (.one (.hs id off len sz))∧off=0)) (hh:st.h id=some (.arr te 1 elems 0)) (hsz:sz=elems.length) (hlen:0<len) (hol:off+len=sz):Step P n o st ⟨opr x,[id]⟩ ⟨none,[(id,some (.arr te 1 (elems.take off++List.replicate len [zc]) 0))]⟩:=by
 have B:(elems.take off++List.replicate len [zc]).length=elems.length:=by rw[ψ,Ai,C1];omega
 refine a1g hd hh (by simp) ⟨rfl,by rw[B];exact le_refl _,fun _=>trivial⟩ fun st' ha u G S μ a w hs=>?_
 obtain⟨b,base,cap,c,y,A⟩:∃b base cap c,μ id=some (b,base,cap)∧(elems.length≤cap→a.eval x=.slice (some ⟨b,base+off,none⟩) len c):=by
  rcases hx with hx | ⟨hx,h0⟩
  ·have hv:=aO hs hx ha.1;simp only[aS,aZ] at hv;obtain⟨_,hv | ⟨Y,aa,elems',ab,h1,h2,J⟩⟩:=hv
   ·rw[u] at hv;cases hv
   rw[u] at h1;cases h1;obtain⟨h4,b,base,cap,y,h6,E⟩:=J hsz;refine⟨b,base,cap,cap-off,y,fun hc=>?_⟩;rw[E,η (by omega),mul_one]
  ·have hv:=aO hs hx ha.1;simp only[aS,aZ] at hv;obtain⟨_,hv | ⟨Y,aa,elems',ab,h1,h2,J⟩⟩:=hv
   ·rw[u] at hv;cases hv
   rw[u] at h1;cases h1;obtain⟨h4,⟨y,h6,E⟩ | ⟨b,base,cap,y,E⟩⟩:=J hsz
   ·subst h6;rw[length_nil] at hsz;omega
   ·exact⟨b,base,cap,cap-off,y,fun hc=>by rw[E,mul_one]⟩
 obtain⟨g0,vs,g1,g2,g3,g4,g5,g6,g7⟩:=(hs.inv.obj id _ u).arr y;have A:=A g3;rw[mul_one] at g2 g5;have M:=wH (P:=P) w t e o.type z hu hzero hz U b (base+off) len c hlen vs te g1 (by omega);have hW:=WChg.setRow w b ⟨vs⟩ ⟨vs.take (base+off)++List.replicate len z++vs.drop (base+off+len)⟩ te (0,0) g1;have hfl:=a1r g0;have hrl:=g5.length;refine⟨.tuple #[],_,_,b,(base,cap),?_,y,hW,⟨?_,.inr ⟨b,base,cap,_,aN _ _ _,hW.new,?_,by rw[B];exact g3,g4,?_,g6,by rw[B];exact g7.1,fun e=>by cases e⟩⟩,fun o v e=>?_,fun m e=>gL g4.2 m e⟩
 ·simp only[execOp,ho,resolve,map_toArray,Ar,Ca,A,Aa,Ad,δ,invoke,builtin,M]
 ·intro q hq;rcases A4.1 hq with hq | hq
  ·exact g0 q (Bb hq)
  ·rw[List.eq_of_mem_replicate hq];rfl
 ·simp only[ψ,Ai,Bi,C1];omega
 ·rw[B,mul_one,Cy,aHt g0,aAt];have e2:((vs.take (base+off)++List.replicate len z++vs.drop (base+off+len)).drop base).take elems.length=((vs.drop base).take elems.length).take off++List.replicate len z:=by
   have hA:(vs.take (base+off)++List.replicate len z++vs.drop (base+off+len)).drop base=(vs.drop base).take off++List.replicate len z++vs.drop (base+off+len):=by
    rw[Aj,Bp (by rw[Ai];omega),drop_take,show base+off-base=off by omega,Aj]
   rw[hA,take_left' (by rw[ψ,Ai,Bi,C1];omega),take_take,show min off elems.length=off by omega]
  show bZ S _ (((vs.take (base+off)++List.replicate len z++vs.drop (base+off+len)).drop base).take elems.length);rw[e2];exact(g5.take off).append (aEd (I S) len)
 ·by_cases hb:base≤o
  ·rw[g6 rfl o hb] at e;cases e
  ·obtain⟨vs0,t0,fr0,q1,O⟩:=hs.inv.holds.1 b o v e;rw[g1] at q1;cases q1;refine⟨_,_,_,rfl,?_⟩;simp only[Cr] at O ⊢;have hlt:o<vs.length:=(Ah.1 O).1
   rw[Aj,Bc (by simp;omega),An,ζ (by omega)];exact O
theorem aS5 {t e:TypeId}{i A:TI}{x y:Operand}{te es id len sz:Nat}{kk:IntKind}{elems:List (List C)}{fz:Nat}(U:Tok P T) (ho:o.op=.slice t x (some y) none none) (Y:o.dst=some d) (B:d<n) (hi:T[t]?=some (some i)) (hk:i.k=.sl e) (E:T[e]?=some (some A)) (_:A.size=es)
  (hx:opv st x=some (.one (.hs id 0 len sz))) (hh:st.h id=some (.arr te es elems fz)) (hsz:sz=elems.length) (hlen:1≤len) (hls:len≤sz) (hy:opv st y=some (I kk ((0:Nat):Int))):Step P n o st ⟨opr x++opr y,[id]⟩ ⟨some (d,some (.one (.hs id 0 len sz))),[]⟩:=by
 refine Step.value Y B fun st' ha G S μ a w hs=>?_
 have hv:=aO hs hx fun t ht=>ha.1 t (by simp[ht])
 have J:=eG (aO hs hy fun t ht=>ha.1 t (by simp[ht]));have u:st'.h id=some (.arr te es elems fz):=by rw[ha.2 id (by simp),hh]
 have M:=hv;simp only[aS,aZ] at hv;obtain⟨_,hv | ⟨te',es',elems',fz',h1,h2,h3⟩⟩:=hv
 ·rw[u] at hv;cases hv
 rw[u] at h1;cases h1;obtain⟨h4,⟨h5,q,h7⟩ | ⟨b,base,cap,h5,q⟩⟩:=h3 hsz
 ·subst q;simp at hsz;omega
 rw[zero_mul,Ct,sub_zero] at q;refine⟨a.eval x,?_,M⟩;have O:=aD8 (P:=P) U hi hk E w (some ⟨b,base,none⟩) len cap 0 kk (Ab _);simp only[execOp,ho,B9,Option.map_none,q,J,Aa,Ad] at O ⊢;rw[O];by_cases hc:cap=0
 ·simp[hc]
 ·simp[hc,Addr.add_mid]
end
end Go.AM
namespace Go.Proofs.YtkhgpgihmphfdaaGreatDoor
open Go Go.AM
set_option maxRecDepth 20000
set_option maxHeartbeats 4000000
theorem aMf (s:Str) (t:Tk):aW Tryz.prog 162 ([Go.AM.T s]++[R.c (.pt (aI t))].map V.one) [] (B (decide (s=t.text))) []:=by
 refine b9 (n:=8) tok Tryz.func162 rfl rfl rfl ?_;exact sg rfl (sg rfl (aE rtT))
def aPd (v:Str) (l:List Str) (m:Nat):Int:=match (l.drop m).findIdx? (fun s=>decide (s=v)) with
 | none=> -1
 | some d=>((m+d:Nat):Int)
theorem aPc (v:Str) (l:List Str):aPd v l l.length= -1:=by unfold aPd;rw[Ch];rfl
theorem aK2 (v:Str) {l:List Str}{m:Nat}{s:Str}(h:l[m]?=some s):aPd v l m=if s=v then(m:Int) else aPd v l (m+1):=by
 obtain⟨h1,h2⟩:=Ah.1 h;have q:=Az h1;rw[h2] at q;unfold aPd;rw[q,List.findIdx?_cons];by_cases hp:s=v
 ·rw[ζ (θ hp),ζ hp];rfl
 ·rw[η (by rw[φ hp];exact χ),η hp];cases (l.drop (m+1)).findIdx? _ with
  | none=>rfl
  | some d=>simp;omega
def svA (l:List (List C)) (f:Nat):AObj:=.arr 9 1 l f
theorem aZ3 (l:List Str) (hl:l.length≤1000000000) (t:Tk):aW Tryz.prog 196 [hsV 710 l.length,.one (.clo 162 [.c (.pt (aI t))])] [(710,svA (l.map aK) 0)] (I .i64 (aPd t.text l 0)) [(710,svA (l.map aK) 0)]:=by
 have B:(l.map aK).length=l.length:=ξ _;refine b9 (n:=19) tok Tryz.func196 rfl rfl rfl ?_;refine sg rfl (aA (sg rfl (aF (aJ (fun i:Nat=>mk [(0,hsV 710 l.length),(1,.one (.clo 162 [.c (.pt (aI t))])),(7,I .i64 (l.length:Int)),(8,I .i64 i)] [(710,svA (l.map aK) 0)]) (fun i=>i≤l.length∧aPd t.text l 0=aPd t.text l i) (fun i=>l.length-i) 0 ⟨Ab _,rfl⟩ sl ?_))));intro i ⟨hi,hid⟩;refine sg rfl (aA (aB rfl (fun hb=>?_) (fun hb=>?_)))
 ·have q:i<l.length:=by have:=κ hb;omega
  obtain⟨x,u⟩:=aG q;have A:=aP aK u;have hc:=aMf x t;rw[aK2 _ u] at hid;refine aD (aA (aF (sg rfl (skh 5 [(4,.row i (aK x))] rfl (kv (args:=[Go.AM.T x]) hc ?_)))));refine az (aB rfl (fun hb=>?_) (fun hb=>?_))
  ·rw[ζ (κ hb)] at hid;rw[hid];exact sg rfl (aE rtT)
  ·rw[η (Ac hb)] at hid;exact aD (ag [] rfl ⟨i+1,⟨q,hid⟩,by dsimp only;omega,sl⟩)
 have y:i=l.length:=by have:=Ac hb;omega
 subst y;rw[aPc] at hid;rw[hid];exact aH (sg rfl (aE rtT))
def dl (v:Str) (l:List Str):List Str:=l.filter (fun s=>!decide (s=v))
theorem a2m (v:Str) (l:List Str):(dl v l).length≤l.length:=Co _ _
theorem aLi {v:Str}{l:List Str}(h:∀s∈l,¬s=v):dl v l=l:=filter_eq_self.2 fun s hs=>by rw[φ (h s hs)];rfl
theorem aLh {v:Str}{l:List Str}{i:Nat}{x:Str}(h:l[i]?=some x):dl v (l.take (i+1))=if x=v then dl v (l.take i) else dl v (l.take i)++[x]:=by
 unfold dl;rw[Bh,h,filter_append];by_cases hx:x=v
 ·rw[ζ hx];show _++List.filter _ [x]=_;rw[Ce,η (by rw[θ hx];decide)];simp
 ·rw[η hx];show _++List.filter _ [x]=_;rw[Ce,ζ (by rw[φ hx];rfl)];rfl
def aIm (v:Str) (l:List Str):List (List C):=(dl v l).map aK++List.replicate (l.length-(dl v l).length) [.str []]
theorem aMe (l:List Str) (hl:l.length≤1000000000) (t:Tk):aW Tryz.prog 161 [hsV 710 l.length,.one (.clo 162 [.c (.pt (aI t))])] [(710,svA (l.map aK) 0)] (.one (.c (.sl 1 ((dl t.text l).map aK)))) [(710,svA (aIm t.text l) 2)]:=by
 have ab:(l.map aK).length=l.length:=ξ _;have B:=aZ3 l hl t;unfold aPd at B;rw[B8] at B;refine b9 (n:=42) tok Tryz.func161 rfl rfl rfl ?_;refine sg rfl (sk 2 rfl (kc B ?_));refine kz 1 rfl ?_;cases hf:l.findIdx? (fun s=>decide (s=t.text)) with
 | none=>
  have ac:∀s∈l,¬s=t.text:=fun s hs he=>by
   have:=(List.findIdx?_eq_none_iff.1 hf) s hs;rw[θ he] at this;cases this
  have e1:aIm t.text l=l.map aK:=by
   unfold aIm;rw[aLi ac,Cq,List.replicate_zero,Ay]
  rw[e1,aLi ac];dsimp only;refine aA (sg rfl (aB rfl (fun _=>AWp.sub (Sub.freeze (id:=710) rfl) ?_) (fun hb=>Bool.noConfusion hb)));exact sg rfl (aE (rtH (hsz:=ab.symm) (hlen:=ab.symm)))
 | some d=>
 obtain⟨M,ad,ae⟩:=List.findIdx?_eq_some_iff_getElem.1 hf;have af:l[d]?=some t.text:=by rw[List.getElem?_eq_getElem M,κ ad]
 have ah:dl t.text (l.take d)=l.take d:=aLi fun s hs he=>by
  obtain⟨j,hj1,ai⟩:=List.mem_iff_getElem.1 hs;rw[Ai] at hj1;rw[List.getElem_take] at ai;exact ae j (by omega) (by rw[ai];exact θ he)
 have O:dl t.text (l.take (d+1))=l.take d:=by rw[aLh af,ζ rfl,ah]
 dsimp only;rw[Bk];have dn:decide (((d:Nat):Int)= -1)=false:=φ (by omega);refine aA (sg rfl (aB rfl (fun hb=>absurd (hb.symm.trans dn) Bool.noConfusion) (fun _=>aD (aA (aA (agN [] rfl (aF (aJ (fun q:List Str×Nat×Nat=>mk [(0,hsV 710 l.length),(1,.one (.clo 162 [.c (.pt (aI t))])),(5,I .i64 (q.2.1:Nat)),(6,I .i64 (q.2.2:Nat))] [(710,svA (q.1.map aK) 0)]) (fun q=>q.1.length=l.length∧q.2.1<q.2.2∧q.2.2≤l.length∧q.1.take q.2.1=dl t.text (l.take q.2.2)∧q.1.drop q.2.2=l.drop q.2.2) (fun q=>l.length-q.2.2) (l,d,d+1) ⟨rfl,by dsimp only;omega,M,O.symm,rfl⟩ sl ?_))))))));clear B O ah af M ad ae hf dn;rintro⟨R,k,i⟩ ⟨A,hki,hi,ht,U⟩;dsimp only at A hki hi ht U ⊢;have E:(R.map aK).length=R.length:=ξ _;refine aA (sg rfl (aB rfl (fun hb=>?_) (fun hb=>?_)))
 ·have Y:i<l.length:=by have:=κ hb;omega
  obtain⟨x,hx⟩:=aG Y;have hRx:R[i]?=some x:=by
   have h1:(R.drop i)[0]?=(l.drop i)[0]?:=by rw[U]
   rw[Ao,Ao,Ct] at h1;rw[h1,hx]
  obtain⟨y,hy⟩:=aG (l:=R) (k:=k) (by omega);have hRx':=aP aK hRx;have hy':=aP aK hy;have hc:=aMf x t;have J:=aLh (v:=t.text) hx;have aa:R.drop (i+1)=l.drop (i+1):=by
   rw[←Cx,←Cx,U]
  refine aD (aA (aF (sgh [(3,.row i (aK x))] rfl (sk 2 rfl (kv (args:=[Go.AM.T x]) hc ?_)))));refine kz 1 rfl (aB rfl (fun hb=>?_) (fun hb=>?_))
  ·have hne:¬x=t.text:=fun e=>by rw[θ e] at hb;cases hb
   rw[η hne] at J;have hs1:(R.map aK).set k (aK x)=(R.set k x).map aK:=by rw[map_set]
   refine sgh [(4,.row k (aK y))] rfl (agN [] rfl (agN [] rfl ⟨(R.set k x,k+1,i+1),⟨by dsimp only;rw[C3,A],by dsimp only;omega,Y,?_,?_⟩,by dsimp only;omega,sl (hh:=⟨⟨_,rfl,.arrS hs1⟩,trivial⟩)⟩))
   ·dsimp only;rw[J,←ht,Bh,List.getElem?_set_self (by omega),List.take_set_of_le (by omega)];rfl
   ·dsimp only;rw[List.drop_set_of_lt (by omega),aa]
  ·have he:x=t.text:=by
    by_cases he:x=t.text
    ·exact he
    ·rw[φ he] at hb;cases hb
   rw[ζ he] at J;exact aD (agN [] rfl ⟨(R,k,i+1),⟨A,by dsimp only;omega,Y,by dsimp only;rw[J,ht],aa⟩,by dsimp only;omega,sl⟩)
 have hge:i=l.length:=by have:=Ac hb;omega
 subst hge;rw[Al] at ht;have hk:(dl t.text l).length=k:=by rw[←ht,Ai];omega
 have u:(R.map aK).take k++List.replicate (l.length-k) [.str []]=aIm t.text l:=by
  unfold aIm;rw[hk,←ht,map_take]
 have htk:(aIm t.text l).take k=(dl t.text l).map aK:=by
  unfold aIm;rw[take_left' (by rw[ξ,hk])]
 have aj:(aIm t.text l).length=l.length:=by
  unfold aIm;rw[ψ,ξ,C1,hk];omega
 refine aH (aA (AWp.cut (mk [(0,hsV 710 l.length),(5,I .i64 (k:Nat))] [(710,svA (aIm t.text l) 0)]) ?_ ?_))
 ·refine aC mixed (ak 2 [] rfl ?_);by_cases h0:k=0
  ·subst h0;refine k_ (g_ rfl rfl (aS5 tok rfl rfl (kE rfl) (tg rfl) rfl (tg rfl) rfl rfl (by omega) (by omega) rfl (hh:=rfl) (hsz:=by rw[E,A]))) ?_;refine k_ (g_ rfl rfl (aJx (e:=9) (z:=.string ⟨#[]⟩) (zc:=.str []) rfl rfl (by kernel_rfl) (fun w=>by kernel_rfl) rfl rfl (fun S=>by rw[Rep]) (.inr ⟨rfl,rfl⟩) rfl (by rw[E,A]) (by omega) (by omega))) ?_;refine az ?_;rw[sub_zero] at u;exact sl (hh:=⟨⟨_,rfl,.arrS u⟩,trivial⟩)
  ·refine k_ (g_ rfl rfl (aXk k tok rfl rfl (kE rfl) (tg rfl) rfl (tg rfl) rfl rfl (hh:=rfl) (hsz:=by rw[E,A]) (hlen:=rfl) (hy:=rfl) (hl:=⟨by omega,by omega⟩))) ?_;refine k_ (g_ rfl rfl (aJx (e:=9) (z:=.string ⟨#[]⟩) (zc:=.str []) rfl rfl (by kernel_rfl) (fun w=>by kernel_rfl) rfl rfl (fun S=>by rw[Rep]) (.inl rfl) rfl (by rw[E,A]) (by omega) (by omega))) ?_;exact az (sl (hh:=⟨⟨_,rfl,.arrS u⟩,trivial⟩))
 have hkd:k≤(aIm t.text l).length:=by omega
 refine AWp.sub (Sub.freeze (id:=710) rfl) ?_;refine AWp.sub (cv 0 (aIm t.text l) (h1:=aj.symm) (h2:=aj.symm)) ?_;refine sg rfl ?_;rw[htk];exact aE rtT
def hs7 (l:List Str):V:=.one (.hs 710 0 l.length l.length)
def sv7 (l:List Str):AObj:=.arr 9 1 (l.map aK) 0
theorem aP2 (l:List Str) (s:Str) (h:l.length≤600000000000):aW Tryz.prog 148 [.one (.hs 710 0 l.length l.length),Go.AM.T s] [(710,.arr 9 1 (l.map aK) 0)] (I .i64 (aC2 s l 0)) [(710,.arr 9 1 (l.map aK) 0)]:=by
 refine b9 (n:=19) tok Tryz.func148 rfl rfl rfl ?_;refine sg rfl (aA (sg rfl ?_));have A:(l.map aK).length=l.length:=ξ _;refine aF (aJ (fun i:Nat=>mk [(0,.one (.hs 710 0 l.length l.length)),(1,Go.AM.T s),(7,I .i64 (l.length:Int)),(8,I .i64 i)] [(710,.arr 9 1 (l.map aK) 0)]) (fun i=>i≤l.length∧aC2 s l 0=aC2 s (l.drop i) i) (fun i=>l.length-i) 0 ⟨Ab _,rfl⟩ sl ?_);intro i ⟨hi,he⟩;refine sg rfl (aA (aB rfl (fun hb=>?_) (fun hb=>?_)))
 ·have q:i<l.length:=by have:=κ hb;omega
  obtain⟨x,hx⟩:=aG q;have B:=aP aK hx;have y:l.drop i=x::l.drop (i+1):=by rw[Az q,(Ah.1 hx).2]
  rw[y,aC2] at he;refine aD (aA (aF (sg rfl (sgh [(4,.row i (aK x))] rfl (aB rfl (fun hb=>?_) (fun hb=>?_))))))
  ·have hs:s=x:=κ hb;rw[ζ hs] at he;rw[he];exact sg rfl (aE rtT)
  ·have hs:¬s=x:=Ac hb;rw[η hs] at he;exact aD (ag [] rfl ⟨i+1,⟨q,he⟩,by dsimp only;omega,sl⟩)
 ·have u:i=l.length:=by have:=Ac hb;omega
  subst u;rw[Ch,aC2] at he;rw[he];exact aH (sg rfl (aE rtT))
theorem aDe (l:List Str) (s:Str) (h:l.length≤600000000000):aW Tryz.prog 107 [.one (.hs 710 0 l.length l.length),Go.AM.T s] [(710,.arr 9 1 (l.map aK) 0)] (B (decide (s∈l))) [(710,.arr 9 1 (l.map aK) 0)]:=by
 have hi:=aP2 l s h;refine b9 (n:=9) tok Tryz.func107 rfl rfl rfl ?_;refine sg rfl (sk 2 rfl (kc hi ?_));refine kz 2 rfl ?_;rw[←xO s l 0 (by omega)];exact aE rtT
def aWn (s:Sch):List AM.R:=[.hs 710 0 s.vars.length s.vars.length,.c .nl,.c (.sl 5 (s.preds.map aM)),.c (.int .i64 s.ty.form),.c (.int .i64 s.ty.n),.c (.str s.ty.name),.c (.sl 4 (dK s.ty))]
theorem aH4 (L:List Tk) (hZ:rN L) (R:List Tk) (i:Nat) (U:At L i R) (hwt:wt L≤30000) {s:Sch}{R':List Tk}(hok:cT R=.ok (s,R')):aW Tryz.prog 195 [qK L,I .i64 (i:Nat)] [] (.tup [.ma (aWn s),I .i64 ((L.length-R'.length:Nat):Int),atV 0 0]) [(710,svA (s.vars.map aK) 0)]:=by
 have hp:=y6 L hZ R i U;have ac:= @nH R;have am:= @hD R;unfold cT at hok;refine b9 (n:=74) tok Tryz.func195 rfl rfl rfl ?_;refine sg rfl (sk 2 rfl (kc hp ?_));generalize cV R=w at ac am hok ⊢;cases w with
 | error e=>
  obtain⟨e,p⟩:=e;rw[qP] at hok;cases hok
 | ok y=>
 obtain⟨ps,R1⟩:=y;obtain⟨k1,⟨q,k2,_⟩,k3,k4⟩:=ac rfl;obtain⟨ad,hn1⟩:=U.to k2 (k1 U.e);rw[qP] at hok;rw[qT,hn1];generalize i+q.length=j at ad;have hty:=aFy L hZ R1 j ad;have ae:=gT (3*R1.length+2) 0 R1;have hte:=eU (3*R1.length+2) 0 R1;have Y:wt R≤30000:=by
  have:L=L.take i++R:=by rw[←U.d,C2]
  rw[this] at hwt;exact le_trans oX hwt
 have hwtR1:wt R1≤30000:=by rw[k2] at Y;exact le_trans oX Y
 have hRl:=U.lt;have hLl:=U.l;unfold atV;refine kz 8 rfl (aA (sg rfl (aB rfl (fun hb=>absurd hb (by decide)) (fun _=>aD (sk 2 rfl (kc hty ?_))))));generalize cI (3*R1.length+2) 0 R1=w at ae hte hok ⊢;cases w with
 | error e=>
  obtain⟨e,p⟩:=e;rw[qO] at hok;cases hok
 | ok y=>
 obtain⟨x,R2⟩:=y;obtain⟨hT,hTn⟩:=ae x R2 rfl;rw[qO] at hok;cases hok;rw[lU];unfold aWn;unfold atV;dsimp only;generalize ((L.length-R'.length:Nat):Int)=m;refine kz 8 rfl (aA (sg rfl (aB rfl (fun hb=>absurd hb (by decide)) (fun _=>aD (sg rfl ?_)))));have hsv:aWm ps x=gP [] (ps++[(⟨[],x⟩:Prd)]):=by rw[aCy];rfl
 rw[hsv];have E:∀p∈ps++[(⟨[],x⟩:Prd)],WF p.ty∧tn p.ty≤30000:=fun p hp=>by
  rcases A4.1 hp with hp | hp
  ·exact⟨(k3 p hp).1,by have:=(k3 p hp).2;omega⟩
  ·rw[Am.1 hp];exact⟨hT.w,by show tn x≤30000;omega⟩
 have hcl:=pV (ps.map aM) (by rw[ξ];omega);have hkl:(ps.map aM).length=ps.length:=ξ _;have O:ps.map aM++[[.str [],.int .i64 x.form,.int .i64 x.n,.str x.name,.sl 4 (dK x)]]=(ps++[(⟨[],x⟩:Prd)]).map aM:=by rw[Af];rfl
 have af:(ps++[(⟨[],x⟩:Prd)]).length=ps.length+1:=by rw[ψ];rfl
 generalize ps++[(⟨[],x⟩:Prd)]=u at E O af ⊢;have hqe:(u.map aM).length=u.length:=ξ _;refine aA (sk 1 rfl (kc hcl ?_));refine ak 6 [(4,.all),(5,.fz)] rfl (az (AWp.sub (Sub.own (t:=10) (id:=710) 9 1 rfl rfl) ?_));have B:∀r:List C,(ps.map aM).length+[r].length=u.length:=fun r=>by rw[hkl,af];rfl
 refine aF (aJ (fun k:Nat=>mk [(1,I .i64 m),(4,.one (.vp 4 0)),(6,.one (.vp 6 0)),(7,.one (.c (.sl 5 (ps.map aM)))),(9,.one (.vp 9 0)),(10,hs7 (gP [] (u.take k))),(44,.one (.hs 720 0 u.length u.length)),(45,I .i64 (u.length:Nat)),(46,I .i64 (k:Nat))] [(4,.var 45 aNr),(6,.var 33 [.c (.int .i64 0),.c (.int .i64 0)]),(9,.var 43 ((bF x).map .c)),(710,sv7 (gP [] (u.take k))),(720,.arr 98 5 (u.map aM) 2)]) (fun k=>k≤u.length) (fun k=>u.length-k) 0 (Ab _) (sl (he:=⟨rfl,rfl,rfl,rfl,rfl,rfl,Go.AM.hs_ren (B _) (B _),Go.AM.int_eq (congrArg Int.ofNat (B _)),rfl,trivial⟩) (hh:=⟨⟨_,rfl,.var rfl⟩,⟨_,rfl,.var rfl⟩,⟨_,rfl,.var rfl⟩,⟨_,rfl,.arrS rfl⟩,⟨_,rfl,.arrS O⟩,trivial⟩)) ?_);intro k hk;have hgl:(gP [] (u.take k)).length≤4002*30000:=by
  have h1:=aAp (W:=30000) (u.take k) [] (fun p hp=>(E p (Bb hp)).2);rw[Ai,length_nil] at h1;have:min k u.length*30000≤4002*30000:=A2 _ (by omega);omega
 refine sg rfl (aA (aB rfl (fun hb=>?_) (fun hb=>?_)))
 ·have ah:k<u.length:=by have:=κ hb;omega
  obtain⟨p,hp⟩:=aG ah;have hp':=aP aM hp;have hpm:=E p (ε hp);have ai:=aF3 p.ty (by have:=aYx p.ty;omega);have htf:=oY p.ty;have aa:=aCx hp;generalize gP [] (u.take k)=o at hgl aa ⊢;generalize tfR p.ty=l at ai htf aa ⊢;have aj:(l.map aK).length=l.length:=ξ _;refine aD (aA (aF (sgh [(1,.row k (aM p))] rfl (sk 2 rfl (kc ai ?_)))));refine kz 2 rfl (aF (aJ (fun j:Nat=>mk [(1,I .i64 m),(4,.one (.vp 4 0)),(6,.one (.vp 6 0)),(7,.one (.c (.sl 5 (ps.map aM)))),(9,.one (.vp 9 0)),(10,hs7 (fR o (l.take j))),(44,.one (.hs 720 0 u.length u.length)),(45,I .i64 (u.length:Nat)),(46,I .i64 (k:Nat)),(52,bU l),(53,I .i64 ((l.map aK).length:Nat)),(54,I .i64 (j:Nat))] [(4,.var 45 aNr),(6,.var 33 [.c (.int .i64 0),.c (.int .i64 0)]),(9,.var 43 ((bF x).map .c)),(710,sv7 (fR o (l.take j))),(720,.arr 98 5 (u.map aM) 2)]) (fun j=>j≤l.length) (fun j=>l.length-j) 0 (Ab _) sl ?_));intro j hj;refine sg rfl (aA (aB rfl (fun hb=>?_) (fun hb=>?_)))
  ·have J:=ltD hb aj;obtain⟨s,hs⟩:=aG J;have hs':=aP aK hs;have A:fR o (l.take (j+1))=qF (fR o (l.take j)) s:=by rw[Bh,hs,sH];rfl
   have hml:(fR o (l.take j)).length≤1000000000:=by
    have:=lN (l.take j) o;rw[Ai] at this;omega
   have al:=aDe (fR o (l.take j)) s (by omega);generalize fR o (l.take j)=M at A hml al ⊢;have hml':(M.map aK).length=M.length:=ξ _;refine aD (aA (aF (sgh [(0,.row j (aK s))] rfl (sk 2 rfl (kc al ?_)))));refine kz 1 rfl (aB rfl (fun hb=>?_) (fun hb=>?_))
   ·have hm:¬s∈M:=fun h=>by rw[θ h] at hb;cases hb
    unfold qF at A;rw[η hm] at A;refine ag [(2,.all)] rfl (ag [] rfl ⟨j+1,J,by dsimp only;omega,?_⟩);dsimp only;rw[A];exact sl
   ·have hm:s∈M:=by
     by_cases h:s∈M
     ·exact h
     ·rw[φ h] at hb;cases hb
    unfold qF at A;rw[ζ hm] at A;refine aD (ag [] rfl ⟨j+1,J,by dsimp only;omega,?_⟩);dsimp only;rw[A];exact sl
  ·have ab:=geD hb aj hj;subst ab;rw[Al];refine aH (ag [] rfl ⟨k+1,ah,by dsimp only;omega,?_⟩);dsimp only;rw[aa];exact sl
 ·have ab:k=u.length:=by have:=Ac hb;omega
  subst ab;rw[Al];exact aH (sg rfl (aE lF))
theorem aPs (s:Str):aW Tryz.prog 85 [Go.AM.T s] [] (tyV (.mk 2 0 s [])) []:=by
 refine b9 (n:=5) tok Tryz.func85 rfl rfl rfl ?_;exact sg rfl (sg rfl (aE (rtC trw)))
theorem aC8 {L:List Tk}{z:Z}(h:ZA L z) (hZ:rN L) (hwt:wt L≤30000) {s:Sch}{R':List Tk}(hok:cT z.R=.ok (s,R')):aW Tryz.prog 160 [rP] [(600,rO L z)] (.ma (aWn s)) [(600,rO L ⟨R',z.e,z.p⟩),(710,sv7 s.vars)]:=by
 have q:=aH4 L hZ z.R _ h hwt hok;have hm:=bN 0 0;unfold atV aWn at q;unfold aWn;refine b9 (n:=35) tok Tryz.func160 rfl rfl rfl ?_;refine sg rfl (sk 10 rfl (kc q ?_));refine kz 9 rfl (sk 7 rfl (kc hm ?_));exact az (sg rfl (sg rfl (aE (rtC trw))))
def aHq (nm v:Tk) (sup:List Str) (ms:List Sg):List (Nat×AObj):=[(1,pR),(6,.var 87 [.c (.str nm.text),.c (.int .i64 nm.pl),.c (.str v.text),.c .nl,.c (.sl 1 (sup.map aK)),.hs 530 0 ms.length ms.length]),(530,.arr 100 9 (ms.map c6) 0)]
def clS (nm v:Tk) (s:List Sg) (z:Z):List Sg×Z:=(s++[(jG nm.text v.text z).1],c0 (s++[(jG nm.text v.text z).1]).length 16 nm.pl (jG nm.text v.text z).2)
theorem aZ9 {L:List Tk}(hZ:rN L) (hwt:wt L≤30000) (q v:Tk) (sup:List Str) (ms:List Sg) {z:Z}(h:ZA L z) (he:z.e=0) (h2:ms.length≤4001):
  bH Tryz.prog 159 ([]++[R.vp 1 0,R.c (.pt (aI v)),R.vp 6 0,R.c (.pt (aI q))].map V.one) ((600,rO L z)::aHq q v sup ms) (iP L (.tup []) (clS q v ms z).2 (aHq q v sup (clS q v ms z).1)):=by
 have hmk:(ms.map c6).length=ms.length:=ξ _;unfold clS jG;dsimp only;have hw:=jN h he 1 (by decide);have g1:=h.word (k:=1) (by decide);generalize aR 1 z=w at hw g1 ⊢;obtain⟨B,z1⟩:=w;dsimp only at hw g1 ⊢;refine pI (n:=50) tok Tryz.func159 rfl rfl rfl rfl ?_;by_cases A:z1.e=0
 case neg=>
  have hp:=bH.err hw A;rw[bK A,vQ A];dsimp only;rw[eZ A,aL A];exact sk 1 rfl (kp hp)
 have hw:=bH.ok hw A;refine sk 1 rfl (kc hw ?_);refine ak 2 [(2,.id 41)] rfl (az ?_);have E:=dM g1 A eT;have g2:=g1.need eT;generalize aQ eT z1=z2 at E g2 ⊢;by_cases u:z2.e=0
 case neg=>
  have hp:=bH.err E u;rw[vQ u];dsimp only;rw[eZ u,aL u];exact sk 1 rfl (kp hp)
 have E:=bH.ok E u;refine sk 1 rfl (kc E ?_);refine az ?_;have I:=nM g2 u hZ hwt;have O:= @aC8 L z2 g2 hZ hwt;have J:=gJ g2 hwt;unfold bM at I J ⊢;rw[ζ u] at I J;simp only[ζ u];cases U:cT z2.R with
 | error e=>
  obtain⟨e,p⟩:=e;rw[U] at I;have aa:=qN U;dsimp only[aXg] at I ⊢;have hp:=bH.err (z:=⟨z2.R,e,p⟩) I aa;rw[eZ (show ¬(Z.mk z2.R e p).e=0 from aa),aL (show ¬(Z.mk z2.R e p).e=0 from aa)];exact sk 1 rfl (kp hp)
 | ok y=>
 obtain⟨s,R'⟩:=y;rw[U] at J;have O:=O U;dsimp only[aXg] at J ⊢;obtain⟨k1,k2,_,_⟩:=J;unfold aWn sv7 at O;have ab:=aMe s.vars (by have:=k2.v;omega) v;unfold svA at ab;have htv:aW Tryz.prog 85 [Go.AM.T v.text] [] (.pa [.int .i64 2,.int .i64 0,.str v.text,.sl 4 []]) []:=aPs v.text;have hq1:((dl v.text s.vars).map aK).length=(dl v.text s.vars).length:=ξ _;have hq2:=a2m v.text s.vars;have hq3:=k2.v;have hq4:(s.preds.map aM).length=s.preds.length:=ξ _;have hq5:=k2.l;refine sk 1 rfl (kc O ?_);refine ak 2 [(2,.id 42)] rfl (az (skh 6 [(2,.id 540)] rfl (kc ab ?_)));refine kz 3 rfl (sk 4 rfl (kc htv ?_));refine ak 7 [(6,.id 541)] rfl (az (AWp.sub (Sub.freeze (id:=540) rfl) ?_));refine AWp.sub (Sub.freeze (id:=541) rfl) ?_;have hv1:[[C.str v.text]]++(dl v.text s.vars).map aK=(tP q.text v.text s).vars.map aK:=rfl;have hv2:[[C.str q.text,.int .i64 2,.int .i64 0,.str v.text,.sl 4 []]]++s.preds.map aM=(tP q.text v.text s).preds.map aM:=rfl;refine AWp.sub (vp 42 (kU (tP q.text v.text s)) (hp:=.hs rfl (by rw[ψ]) (hv1.symm.trans (Go.AM.take_all (by rw[ψ]))) (.c .nl (.hs rfl (by rw[ψ]) (hv2.symm.trans (Go.AM.take_all (by rw[ψ]))) (.c .refl (.c .refl (.c .refl (.c .refl .nil)))))))) ?_;have Y:ms.map c6++[c6 ⟨B.text,B.pl,tP q.text v.text s⟩]=(ms++[(⟨B.text,B.pl,tP q.text v.text s⟩:Sg)]).map c6:=by rw[Af];rfl
 have hle:(ms++[(⟨B.text,B.pl,tP q.text v.text s⟩:Sg)]).length=ms.length+1:=by rw[ψ];rfl
 refine sgh [(8,.all)] rfl ?_;generalize ms++[(⟨B.text,B.pl,tP q.text v.text s⟩:Sg)]=M at Y hle ⊢;refine AWp.sub (st2:=mk [(0,.one (.vp 1 0)),(1,.one (.c (.pt (aI v)))),(2,.one (.vp 6 0)),(3,.one (.c (.pt (aI q))))] ((600,rO L ⟨R',z2.e,z2.p⟩)::aHq q v sup M)) (sl (hh:=⟨⟨_,rfl,.var rfl⟩,⟨_,rfl,.var rfl⟩,⟨_,rfl,.var (by rw[hle,←hmk];rfl)⟩,⟨_,rfl,.arrS Y⟩,trivial⟩)) ?_;by_cases hM:M.length≤16
 case neg=>
  have d:decide (((M.length:Nat):Int)≤16)=false:=φ (by omega);have hm:=bO 2 q.pl;rw[iE hM (show(Z.mk R' z2.e z2.p).e=0 from u),aL cS];refine aC mixed (ak 6 [] rfl ?_);rw[d];exact kp hm
 have d:decide (((M.length:Nat):Int)≤16)=true:=θ (by omega);have hm:=bN 2 q.pl;rw[iD hM,bC (show(Z.mk R' z2.e z2.p).e=0 from u)];refine aC mixed (ak 6 [] rfl ?_);rw[d];refine kc hm ?_;exact az rtN
end Go.Proofs.YtkhgpgihmphfdaaGreatDoor
