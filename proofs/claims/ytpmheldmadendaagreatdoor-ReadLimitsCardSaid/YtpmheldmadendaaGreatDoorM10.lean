/-
  Texts Rd37 to Rd45 in one.
-/
import Derived.Test.YtpmheldmadendaaGreatDoorM9
open List (cons_append drop_eq_getElem_cons drop_eq_nil_of_le drop_length drop_zero length_append length_cons length_drop length_map length_nil length_pos_iff length_set length_singleton length_take map_append map_cons map_set mem_append mem_cons mem_cons_of_mem mem_cons_self mem_singleton sum_cons take_add_one take_length)
open Nat (le_of_lt le_refl le_trans lt_of_le_of_lt lt_succ_self sub_self zero_le)
namespace Go.Proofs.YtpmheldmadendaaGreatDoor
open Go Go.AM
set_option maxRecDepth 20000
set_option maxHeartbeats 4000000
def aB5 (p:Bd→Bool) (b:List Bd) (m:Nat):Int:=match (b.drop m).findIdx? p with
 | none=> -1
 | some d=>((m+d:Nat):Int)
theorem zR (p:Bd→Bool) (b:List Bd):aB5 p b b.length= -1:=by unfold aB5;rw[Ci];rfl
theorem uP (p:Bd→Bool) {b:List Bd}{m:Nat}{x:Bd}(h:b[m]?=some x):aB5 p b m=if p x=true then(m:Int) else aB5 p b (m+1):=by
 obtain⟨h1,h2⟩:=Af.1 h;have c:=Aw h1;rw[h2] at c;unfold aB5;rw[c,List.findIdx?_cons];by_cases hp:p x=true
 ·rw[θ hp,θ hp];rfl
 ·rw[ξ hp,ξ hp];cases (b.drop (m+1)).findIdx? p with
  | none=>rfl
  | some d=>simp;omega
theorem aF0 {L:List Tk}(sigs:List Sg) (binds:List Bd) {z:Z}(h:ZA L z) (h1:sigs.length≤4001) (h2:binds.length≤4001):
  b8 Tryz.prog 99 [xP,.one (.c (.sl 9 (sigs.map c6))),hsV 511 binds.length] [(700,zO L z),(511,bdA binds 0)] (hsV 511 binds.length) [(700,zO L (dF sigs binds z).2),(511,bdA (dF sigs binds z).1 0)]:=by
 have hsl:(sigs.map c6).length=sigs.length:=η _;have j:∃W,W=dF sigs binds z:=⟨_,rfl⟩
 obtain⟨W,j⟩:=j;rw[←j];refine bM (n:=74) tok Tryz.func99 rfl rfl rfl ?_;refine sg rfl (aA (sg rfl (aF (aK (fun q:Nat×List Bd×Z=>mk [(0,xP),(1,.one (.c (.sl 9 (sigs.map c6)))),(2,hsV 511 binds.length),(7,I .i64 (q.1:Nat))] [(700,zO L q.2.2),(511,bdA q.2.1 0)]) (fun q=>q.1≤sigs.length∧ZA L q.2.2∧q.2.1.length=binds.length∧W=dF (sigs.drop q.1) q.2.1 q.2.2) (fun q=>sigs.length-q.1) (0,binds,z) ⟨Ac _,h,rfl,j⟩ sl ?_))));clear j h;rintro⟨i,b,z⟩ ⟨hi,h,r,j⟩;dsimp only at hi h r j ⊢;have hbe:(b.map aW).length=b.length:=η _;have ho:=eO L z;by_cases u:i<sigs.length
 case neg=>
  have d0:decide ((i:Int)<((sigs.map c6).length:Int))=false:=ψ (by omega);rw[drop_eq_nil_of_le (by omega),dF] at j;refine aA (sgh [(4,.bv false),(7,.bv false)] rfl (aB rfl (fun hb=>Bool.noConfusion hb) (fun _=>aH (sg rfl ?_))));rw[j];exact aE rtT
 have d0:decide ((i:Int)<((sigs.map c6).length:Int))=true:=φ (by omega);obtain⟨s,hs⟩:=aN u;have hs':=aY c6 hs;have E:sigs.drop i=s::sigs.drop (i+1):=by
  obtain⟨k1,k2⟩:=Af.1 hs;rw[←k2];exact Aw k1
 rw[E,dF] at j;by_cases he:z.e=0
 case neg=>
  rw[ξ he] at j;rw[ψ he] at ho;refine aA (skh 6 [(4,.bv true)] rfl (kcG ho ?_));refine ak 1 [(4,.bv true),(7,.bv true)] rfl (az (aB rfl (fun hb=>Bool.noConfusion hb) (fun _=>aH (sg rfl ?_))));rw[j];exact aE rtT
 rw[θ he] at j;rw[φ he] at ho;refine aA (skh 6 [(4,.bv true)] rfl (kcG ho ?_));refine ak 1 [(4,.bv true),(7,.bv true)] rfl (az (aB rfl (fun _=>aD (aA (aF (sg rfl (aA (sg rfl (aF (aK (fun m:Nat=>mk [(0,xP),(1,.one (.c (.sl 9 (sigs.map c6)))),(2,hsV 511 binds.length),(7,I .i64 (i:Nat)),(8,I .i64 (aB5 (fun x=>decide (x.name=s.name)) b m)),(9,I .i64 ((m:Int)-1))] [(700,zO L z),(511,bdA b 0)]) (fun m=>m≤b.length) (fun m=>m) b.length (le_refl _) (sl (he:=⟨rfl,rfl,rfl,rfl,Go.AM.int_eq (zR _ b).symm,Go.AM.int_eq (by rw[r]),trivial⟩)) ?_)))))))) (fun hb=>Bool.noConfusion hb)));intro m hm;refine aA (sg rfl (aB rfl (fun hb=>?_) (fun hb=>?_)))
 ·have hm1:1≤m:=by have:=χ hb;omega
  obtain⟨m,rfl⟩:∃k,m=k+1:=⟨m-1,by omega⟩
  obtain⟨x,hx⟩:=aN (l:=b) (k:=m) (by omega);have J:=aY aW hx;have y:=uP (fun x=>decide (x.name=s.name)) hx;have M:(((m+1:Nat):Int)-1)=(m:Int):=by omega
  rw[M];refine aD (aA (aF (sgh [(4,.row m (aW x)),(7,.row i (c6 s))] rfl (aB rfl (fun hb=>?_) (fun hb=>?_)))))
  ·have hb:decide (x.name=s.name)=true:=hb;rw[θ hb] at y;exact ag [] rfl (ag [] rfl ⟨m,by omega,Bk _,sl (he:=⟨rfl,rfl,rfl,rfl,Go.AM.int_eq y.symm,rfl,trivial⟩)⟩)
  ·have hb:decide (x.name=s.name)=false:=hb;rw[ξ (by rw[hb];exact ω)] at y;exact aD (ag [] rfl ⟨m,by omega,Bk _,sl (he:=⟨rfl,rfl,rfl,rfl,Go.AM.int_eq y.symm,rfl,trivial⟩)⟩)
 have O:m=0:=by have:=Ad hb;omega
 subst O;have U:aB5 (fun x=>decide (x.name=s.name)) b 0=match b.findIdx? (fun x=>decide (x.name=s.name)) with | none=> -1 | some d=>(d:Int):=by
  unfold aB5;rw[B5];cases b.findIdx? _ with
  | none=>rfl
  | some d=>simp
 rw[U];refine aH ?_;cases B:b.findIdx? (fun x=>decide (x.name=s.name)) with
 | none=>
  rw[B] at j;dsimp only at j ⊢;have A:=dI L z 21 s.pl;refine aA (sg rfl (aB rfl (fun _=>skh 6 [(3,.row i (c6 s))] rfl (kc A ?_)) (fun hb=>Bool.noConfusion hb)));exact az (aH (agN [] rfl ⟨(i+1,b,bS 21 s.pl z),⟨u,h.fail _ _,r,j⟩,by dsimp only;omega,sl⟩))
 | some k=>
  rw[B] at j;dsimp only at j ⊢;have Y:=nU B;obtain⟨x,hx⟩:=aN Y;have J:=aY aW hx;rw[hx] at j;dsimp only at j;have dk:decide ((k:Int)<0)=false:=ψ (by omega);refine aA (sg rfl (aB rfl (fun hb=>absurd (hb.symm.trans dk) Bool.noConfusion) (fun _=>aD (aA (sgh [(4,.row k (aW x))] rfl (aB rfl (fun hb=>?_) (fun hb=>?_)))))))
  ·have hb:x.has=true:=hb;rw[θ hb] at j;have A:=dI L z 20 s.pl;refine skh 6 [(3,.row i (c6 s))] rfl (kc A ?_);exact az (aH (agN [] rfl ⟨(i+1,b,bS 20 s.pl z),⟨u,h.fail _ _,r,j⟩,by dsimp only;omega,sl⟩))
  ·have hb:x.has=false:=hb;rw[ξ (by rw[hb];exact ω)] at j;refine aD ?_;have aa:(b.map aW).set k (aW (.mk x.name x.pl true x.sig x.body))=(b.set k (.mk x.name x.pl true x.sig x.body)).map aW:=by rw[map_set]
   have ab:((b.set k (.mk x.name x.pl true x.sig x.body)).map aW).set k (aW (lZ x s.ty))=(b.set k (lZ x s.ty)).map aW:=by rw[←map_set,List.set_set]
   have hx2:((b.set k (.mk x.name x.pl true x.sig x.body)).map aW)[k]?=some (aW (.mk x.name x.pl true x.sig x.body)):=by rw[List.getElem?_map,List.getElem?_set_self Y];rfl
   have hl2:((b.set k (.mk x.name x.pl true x.sig x.body)).map aW).length=b.length:=by rw[η,length_set]
   refine sgh [(4,.row k (aW x))] rfl (AWp.sub (st2:=mk [(0,xP),(1,.one (.c (.sl 9 (sigs.map c6)))),(2,hsV 511 binds.length),(7,I .i64 (i:Nat)),(8,I .i64 (k:Nat))] [(700,zO L z),(511,bdA (b.set k (.mk x.name x.pl true x.sig x.body)) 0)]) (sl (hh:=⟨⟨_,rfl,.var rfl⟩,⟨_,rfl,.arrS aa⟩,trivial⟩)) ?_);exact ag [(4,.row i (c6 s)),(9,.row k (aW (.mk x.name x.pl true x.sig x.body)))] rfl (agN [] rfl ⟨(i+1,b.set k (lZ x s.ty),z),⟨u,h,by dsimp only;rw[length_set,r],j⟩,by dsimp only;omega,sl (hh:=⟨⟨_,rfl,.var rfl⟩,⟨_,rfl,.arrS ab⟩,trivial⟩)⟩)
theorem cO {s:Str}{n:Nat}{z:Z}(h:¬z.e=0):b5 s n z=(false,z):=by
 have h1:moreA s n z=z:=by unfold moreA;rw[ξ (fun k=>h k.2.1)]
 have h2:cN z=z:=by unfold cN;rw[ξ h]
 unfold b5;rw[h1,h2,θ (.inl h)]
section
variable {L:List Tk}{ex:Nat→Z→Ex×Z}{N:Nat}(hO:ExO L ex) (hS:ExS L ex N) (hwt:wt L≤30000)
include hO hS hwt
theorem aQd (a:Int) (deep:Nat) {z:Z}(h:ZA L z) (hN:z.R.length≤N) (hd:deep≤40):b8 Tryz.prog 119 [xP,I .i64 a,I .i64 (deep:Nat)] [(700,zO L z)] (.pa (bN (zG ex a deep z).1)) [(700,zO L (zG ex a deep z).2)]:=by
 have B:=cP h dG;have h1:=h.need dG;have l1:=Ze.need dG z;have hWx:∃W,W=aC2 ex deep z:=⟨_,rfl⟩
 obtain⟨W,r⟩:=hWx;unfold zG;rw[←r];unfold aC2 at r;generalize aQ dG z=z1 at B h1 l1 r;have l1':z1.R.length≤z.R.length:=l1;refine bM (n:=42) tok Tryz.func119 rfl rfl rfl ?_;refine sg rfl (sg rfl (sg rfl (AWp.sub (Sub.own (t:=7) (id:=510) 92 9 rfl rfl) ?_)));refine AWp.sub (Sub.own (t:=8) (id:=511) 99 33 rfl rfl) ?_;refine sk 1 rfl (kc B ?_);refine az (aA (sg rfl (aF (aK (fun q:(List Sg×List Bd)×Z×Nat×Nat=>mk [(0,xP),(1,I .i64 a),(2,I .i64 (deep:Nat)),(6,.one (.vp 6 0)),(7,hsV 510 q.1.1.length),(8,hsV 511 q.1.2.length),(9,I .i64 (q.2.2.1:Nat))] [(700,zO L q.2.1),(6,.var 61 (aHj.map .c)),(510,sgA q.1.1 0),(511,bdA q.1.2 0)]) (fun q=>ZA L q.2.1∧eW q.1.1∧dZ q.1.2∧q.2.1.R.length≤z1.R.length∧(q.2.1.e=0→q.2.1.R.length<q.2.2.2)∧q.2.2.1≤60∧q.1.1.length≤q.2.2.1∧q.1.2.length≤q.2.2.1∧W=j8 ex (deep+1) q.2.2.2 q.2.2.1 q.1.1 q.1.2 q.2.1) (fun q=>if q.2.1.e=0 then q.2.1.R.length+1 else 0) (([],[]),z1,0,z1.R.length+1) ⟨h1,fun s hs=>(by cases hs),trivial,le_refl _,fun _=>Bk _,Ac _,le_refl _,le_refl _,r⟩ sl ?_))));clear r B h;rintro⟨⟨sigs,binds⟩,z2,n,f⟩ ⟨h,hs,hb,hR,hf,hn,hsl,hbl,r⟩;dsimp only at h hs hb hR hf hn hsl hbl r ⊢;have hm:=qJ h b6 n (by omega);have E:= @dC b6 n z2;have u:=h.more b6 n;have A:=Ze.more b6 n z2;have j:W=if(b5 b6 n z2).1=true then j8 ex (deep+1) (f-1) (n+1) (aZ ex sigs binds (deep+1) (b5 b6 n z2).2).1.1 (aZ ex sigs binds (deep+1) (b5 b6 n z2).2).1.2 (aZ ex sigs binds (deep+1) (b5 b6 n z2).2).2 else((sigs,binds),(b5 b6 n z2).2):=by
  by_cases he:z2.e=0
  ·obtain⟨f,rfl⟩:∃g,f=g+1:=⟨f-1,by have:=hf he;omega⟩
   rw[j8] at r;exact r
  ·rw[cO he];rw[ξ ω];rw[r];cases f with
   | zero=>rfl
   | succ f=>rw[j8,cO he,ξ ω]
 have J:(b5 b6 n z2).1=true→z2.e=0:=fun e=>by
  by_cases he:z2.e=0
  ·exact he
  ·rw[cO he] at e;cases e
 clear r;generalize b5 b6 n z2=m at hm E u A j J;obtain⟨b,z3⟩:=m;dsimp only at hm E u A j J;have A:z3.R.length≤z2.R.length:=A;refine aA (sk 2 rfl (kc hm ?_));refine az ?_;cases b with
 | true=>
  rw[θ rfl] at j;obtain⟨e3,hn60⟩:=E rfl;have he2:=J rfl;have hf:=hf he2;have M:=vJ hS hwt sigs binds (deep+1) u (by omega) (by omega) (by omega) (by omega);obtain⟨k1,k2,k3,k4,k5,k6,k7⟩:=kL hO hwt sigs binds (deep+1) u hs hb;generalize aZ ex sigs binds (deep+1) z3=y at M k1 k2 k3 k4 k5 k6 k7 j;obtain⟨⟨S,Bs⟩,z4⟩:=y;dsimp only at M k1 k2 k3 k4 k5 k6 k7 j;have k7:z4.R.length≤z3.R.length:=k7;refine aB rfl (fun _=>aD (aA (aF (aC mixed (akN 5 [] rfl (kc M ?_)))))) (fun hb=>Bool.noConfusion hb);refine kz 5 rfl (agN [] rfl ⟨((S,Bs),z4,n+1,f-1),⟨k1,k2,k3,by dsimp only;omega,fun h0=>by have:=k6 h0;dsimp only;omega,hn60,by dsimp only;omega,by dsimp only;omega,j⟩,?_,sl⟩);dsimp only;rw[θ he2];split
  ·rename_i h0;have:=k6 h0;omega
  ·omega
 | false=>
  rw[ξ ω] at j;subst j;have O:=cP u b6;have h5:=u.need b6;have l5:=Ze.need b6 z3;unfold aN9;dsimp only;generalize aQ b6 z3=z5 at O h5 l5 ⊢;have U:=aF0 sigs binds h5 (by omega) (by omega);obtain⟨p1,p2,p3,p4⟩:=fK sigs binds z5 h5 hs hb;generalize dF sigs binds z5=y at U p1 p2 p3 p4 ⊢;obtain⟨Bs,z6⟩:=y;dsimp only at U p1 p2 p3 p4 ⊢;have Y:=cP p1 inS;have h7:=p1.need inS;have l7:=Ze.need inS z6;generalize aQ inS z6=z7 at Y h7 l7 ⊢;have l5':z5.R.length≤z3.R.length:=l5;have p4':z6.R.length≤z5.R.length:=p4;have l7':z7.R.length≤z6.R.length:=l7;have hex:=hS (deep+1) z7 h7 (by omega) (by omega);generalize ex (deep+1) z7=y at hex ⊢;obtain⟨e,z8⟩:=y;dsimp only at hex ⊢;have hBl:binds.length=(Bs.map aW).length:=by rw[η,p3]
  refine aB rfl (fun hb=>Bool.noConfusion hb) (fun _=>aH (sk 1 rfl (kc O ?_)));refine az (AWp.sub (Sub.freeze (id:=510) rfl) ?_);refine sk 3 rfl (kc U ?_);refine kz 1 rfl (sk 1 rfl (kc Y ?_));refine az (AWp.sub (Sub.freeze (id:=511) rfl) ?_);refine aA (aC mixed (akN 5 [] rfl (kc hex ?_)));refine ak 3 [(6,.all)] rfl (az ?_);unfold bN;rw[zY];exact aE (rtC trw (hc:=.agg (.c .refl (.c .refl (.c .refl (.c .refl (.c .refl (.c .nl (.hs rfl hBl (Go.AM.take_all hBl) (.c .nl (.c .nl (.c .nl (.c .refl (.c .refl (.c .refl (.c .nl (.c .nl .nil)))))))))))))))))
end
section
variable {L:List Tk}{ex:Nat→Z→Ex×Z}{N:Nat}(hO:ExO L ex) (hS:ExS L ex N)
include hO hS
theorem aM5 (a:Int) (deep:Nat) {z:Z}(h:ZA L z) (hN:z.R.length≤N) (hd:deep≤40):b8 Tryz.prog 120 [xP,I .i64 a,I .i64 (deep:Nat)] [(700,zO L z)] (.pa (bN (jX ex a deep z).1)) [(700,zO L (jX ex a deep z).2)]:=by
 have U:=hS (deep+1) z h hN (by omega);obtain⟨g0,_,_,m0⟩:=hO (deep+1) z h;have hWx:∃W,W=jA ex deep (gJ ex deep z):=⟨_,rfl⟩
 obtain⟨W,r⟩:=hWx;unfold jX;rw[←r];unfold jA gJ at r;generalize ex (deep+1) z=y at U g0 m0 r;obtain⟨e0,z0⟩:=y;dsimp only at U g0 m0 r;have E:=cP g0 ofS;have h1:=g0.need ofS;have l1:=Ze.need ofS z0;generalize aQ ofS z0=z1 at E h1 l1 r;have J:=cP h1 dG;have h2:=h1.need dG;have l2:=Ze.need dG z1;generalize aQ dG z1=z2 at J h2 l2 r;have hz2:z2.R.length≤z.R.length:=(m0.trans l1).trans l2;refine bM (n:=57) tok Tryz.func120 rfl rfl rfl ?_;refine sg rfl (aA (aC mixed (akN 4 [] rfl (kc U ?_))));refine ak 4 [(5,.id 501)] rfl (az (AWp.sub (Sub.ownCell (x:=7) (k:=5) (id:=502) 49 10 rfl rfl rfl) ?_));refine sk 1 rfl (kc E ?_);refine az (sk 1 rfl (kc J ?_));refine az (aA (sg rfl (aF (aK (fun q:(List Pt×List Ex)×Z×Nat×Nat=>mk [(0,xP),(2,I .i64 (deep:Nat)),(6,.one (.vp 6 0)),(7,.one (.vp 7 0)),(8,I .i64 (q.2.2.1:Nat))] [(700,zO L q.2.1),(6,.var 61 (aHj.map .c)),(7,.var 61 [.c (.int .i64 7),.c (.int .i64 a),.c (.int .i64 0),.c (.str []),.hs 501 0 q.1.2.length q.1.2.length,.hs 502 0 q.1.1.length q.1.1.length,.c .nl,.c .nl,.c .nl,.c .nl,.c (.int .i64 0),.c (.int .i64 0),.c (.str []),.c .nl,.c .nl]),(501,.arr 61 15 (q.1.2.map bN) 0),(502,.arr 49 10 (q.1.1.map bG) 0)]) (fun q=>ZA L q.2.1∧q.2.1.R.length≤z2.R.length∧(q.2.1.e=0→q.2.1.R.length<q.2.2.2)∧q.2.2.1≤60∧q.1.1.length=q.2.2.1∧q.1.2.length=q.2.2.1+1∧W=iY ex deep q.2.2.2 q.2.2.1 q.1.1 q.1.2 q.2.1) (fun q=>if q.2.1.e=0 then q.2.1.R.length+1 else 0) (([],[e0]),z2,0,z2.R.length+1) ⟨h2,le_refl _,fun _=>Bk _,Ac _,rfl,rfl,r⟩ sl ?_))));clear r E J h1 h l1 l2;rintro⟨⟨ps,ks⟩,z3,n,f⟩ ⟨h,hR,hf,hn,hpl,hkl,r⟩;dsimp only at h hR hf hn hpl hkl r ⊢;have Y:(ps.map bG).length=ps.length:=η _;have aa:(ks.map bN).length=ks.length:=η _;have hm:=qJ h b6 n (by omega);have ab:= @dC b6 n z3;have u:=h.more b6 n;have M:=Ze.more b6 n z3;have j:W=if(b5 b6 n z3).1=true then iY ex deep (f-1) (n+1) (ps++[(j3 (3*(b5 b6 n z3).2.R.length+1) 0 (b5 b6 n z3).2).1]) (ks++[(ex (deep+1) (aQ arrow (j3 (3*(b5 b6 n z3).2.R.length+1) 0 (b5 b6 n z3).2).2)).1]) (ex (deep+1) (aQ arrow (j3 (3*(b5 b6 n z3).2.R.length+1) 0 (b5 b6 n z3).2).2)).2 else((ps,ks),(b5 b6 n z3).2):=by
  by_cases he:z3.e=0
  ·obtain⟨f,rfl⟩:∃g,f=g+1:=⟨f-1,by have:=hf he;omega⟩
   rw[iY] at r;exact r
  ·rw[cO he];rw[ξ ω];rw[r];cases f with
   | zero=>rfl
   | succ f=>rw[iY,cO he,ξ ω]
 have ac:(b5 b6 n z3).1=true→z3.e=0:=fun e=>by
  by_cases he:z3.e=0
  ·exact he
  ·rw[cO he] at e;cases e
 clear r;generalize b5 b6 n z3=m at hm ab u M j ac;obtain⟨b,z4⟩:=m;dsimp only at hm ab u M j ac;have M:z4.R.length≤z3.R.length:=M;refine aA (sk 2 rfl (kc hm ?_));refine az ?_;cases b with
 | true=>
  rw[θ rfl] at j;obtain⟨e3,hn60⟩:=ab rfl;have he2:=ac rfl;have hf:=hf he2;have hp:=(aSg L (3*z4.R.length+1)).2 _ (le_refl _) 0 z4 u (fun _=>le_refl _) (by decide);obtain⟨p1,_,p3,p4⟩:=(iP L (3*z4.R.length+1)).2.1 0 z4 u;generalize j3 (3*z4.R.length+1) 0 z4=y at hp p1 p3 p4 j;obtain⟨p,z5⟩:=y;dsimp only at hp p1 p3 p4 j;have p4:z5.R.length≤z4.R.length:=p4;have hnd:=cP p1 arrow;have h6:=p1.need arrow;have l6:=Ze.need arrow z5;have k6:=aS (s:=arrow) (z:=z5);generalize aQ arrow z5=B at hnd h6 l6 k6 j;have l6:B.R.length≤z5.R.length:=l6;have hex:=hS (deep+1) B h6 (by omega) (by omega);obtain⟨x1,_,x3,x4⟩:=hO (deep+1) B h6;generalize ex (deep+1) B=y at hex x1 x3 x4 j;obtain⟨e,z7⟩:=y;dsimp only at hex x1 x3 x4 j;have x4:z7.R.length≤B.R.length:=x4;have hr1:ps.map bG++[bG p]=(ps++[p]).map bG:=by rw[Ai];rfl
  have hr2:ks.map bN++[bN e]=(ks++[e]).map bN:=by rw[Ai];rfl
  have hl1:(ps++[p]).length=ps.length+1:=by rw[ζ];rfl
  have hl2:(ks++[e]).length=ks.length+1:=by rw[ζ];rfl
  generalize ps++[p]=P at hr1 hl1 j;generalize ks++[e]=K at hr2 hl2 j;refine aB rfl (fun _=>aD (aA (aF (sk 3 rfl (kc hp ?_))))) (fun hb=>Bool.noConfusion hb);refine ak 4 [(4,.all)] rfl (az (sk 1 rfl (kc hnd ?_)));refine az (aC mixed (akN 5 [] rfl (kc hex ?_)));refine ak 4 [(6,.all)] rfl (az (agN [] rfl ⟨((P,K),z7,n+1,f-1),⟨x1,by dsimp only;omega,fun h0=>by have:=x3 h0;dsimp only;omega,hn60,by dsimp only;omega,by dsimp only;omega,j⟩,?_,?_⟩))
  ·dsimp only;rw[θ he2];split
   ·rename_i h0;have:=x3 h0;omega
   ·omega
  ·exact sl (hh:=⟨⟨_,rfl,.var rfl⟩,⟨_,rfl,.var rfl⟩,⟨_,rfl,.var (by rw[hl1,hl2,←Y,←aa];rfl)⟩,⟨_,rfl,.arrS hr2⟩,⟨_,rfl,.arrS hr1⟩,trivial⟩)
 | false=>
  rw[ξ ω] at j;subst j;dsimp only;have hnow:=fA u;have ad:=cP u b6;have h5:=u.need b6;generalize hz5:aQ b6 z4=z5 at ad h5 ⊢;have hfl:=dI L z5 12 (aX z4).pl;have A:∃B,B=(if ps=[] then bS 12 (aX z4).pl z5 else z5):=⟨_,rfl⟩
  obtain⟨B,A⟩:=A;rw[←A];refine aB rfl (fun hb=>Bool.noConfusion hb) (fun _=>aH (sk 1 rfl (kc hnow ?_)));refine kz 2 rfl (sk 1 rfl (kc ad ?_));refine az (aA (AWp.cut (mk [(0,xP),(6,.one (.vp 6 0)),(7,.one (.vp 7 0))] [(700,zO L B),(6,.var 61 (aHj.map .c)),(7,.var 61 [.c (.int .i64 7),.c (.int .i64 a),.c (.int .i64 0),.c (.str []),.hs 501 0 ks.length ks.length,.hs 502 0 ps.length ps.length,.c .nl,.c .nl,.c .nl,.c .nl,.c (.int .i64 0),.c (.int .i64 0),.c (.str []),.c .nl,.c .nl]),(501,.arr 61 15 (ks.map bN) 0),(502,.arr 49 10 (ps.map bG) 0)]) ?_ ?_))
  ·refine sg rfl ?_;by_cases O:ps=[]
   ·rw[θ O] at A;subst O A;refine aB rfl (fun _=>aC mixed (ak 2 [] rfl (kc hfl ?_))) (fun hb=>Bool.noConfusion hb);exact az sl
   ·rw[ξ O] at A;subst A;have d0:decide ((ps.length:Int)=0)=false:=ψ (by have:=Cp.2 O;omega);exact aB rfl (fun hb=>absurd (hb.symm.trans d0) Bool.noConfusion) (fun _=>aD sl)
  refine AWp.sub (Sub.freeze (id:=501) rfl) ?_;refine AWp.sub (Sub.freeze (id:=502) rfl) ?_;refine sg rfl ?_;unfold bN aMo;rw[kK];exact aE (rtC trw (hc:=.agg (.c .refl (.c .refl (.c .refl (.c .refl (.hs rfl aa.symm (Go.AM.take_all aa.symm) (.hs rfl Y.symm (Go.AM.take_all Y.symm) (.c .nl (.c .nl (.c .nl (.c .nl (.c .refl (.c .refl (.c .refl (.c .nl (.c .nl .nil)))))))))))))))))
end
theorem gU {s:Str}{z:Z}(hb:(bP s z).1=false):(bP s z).2=z:=by
 unfold bP at hb ⊢;split
 ·rename_i hc;rw[θ hc] at hb;cases hb
 ·rfl
section
variable {L:List Tk}{ex:Nat→Z→Ex×Z}{N:Nat}(hO:ExO L ex) (hS:ExS L ex N) (hwt:wt L≤30000)
include hO hS hwt
theorem aQk (deep:Nat) {z:Z}(h:ZA L z) (hN:z.R.length≤N+1) (hd:deep≤41):b8 Tryz.prog 67 [xP,I .i64 (deep:Nat)] [(700,zO L z)] (.pa (bN (aB8 ex deep z).1)) [(700,zO L (aB8 ex deep z).2)]:=by
 have hn:=fA h;have ho:=eO L z;unfold aB8;refine bM (n:=82) tok Tryz.func67 rfl rfl rfl ?_;refine sg rfl (sk 1 rfl (kc hn ?_));refine kz 2 rfl (aA (sk 1 rfl (kc ho ?_)));refine kz 1 rfl ?_;by_cases he:z.e=0
 case neg=>
  rw[θ he];have d0:(!decide (z.e=0))=true:=by rw[ψ he];rfl
  exact aB rfl (fun _=>sg rfl (aE (rtC trw))) (fun hb=>absurd (hb.symm.trans d0) Bool.noConfusion)
 rw[ξ (fun k=>k he)];have d0:(!decide (z.e=0))=false:=by rw[φ he];rfl
 refine aB rfl (fun hb=>absurd (hb.symm.trans d0) Bool.noConfusion) (fun _=>aD (aA (sg rfl (aB rfl (fun hb=>?_) (fun hb=>?_)))))
 ·rw[θ (by have:=χ hb;omega)];have hfl:=dI L z 13 (aX z).pl;refine sk 3 rfl (kc hfl ?_);exact az (sg rfl (aE (rtC trw)))
 have hd40:¬40<deep:=by have:=Ad hb;omega
 rw[ξ hd40];refine aD ?_;have j:=gX h wZ;have r:=eG (s:=wZ) h;have u:=h.may wZ;have A:= @gU wZ z;have E:=fun e=>aQg hS (aX z).pl deep u (by have:=r e;omega) (by omega)
 generalize bP wZ z=m at j r u A E ⊢;obtain⟨b,z1⟩:=m;dsimp only at j r u A E ⊢;refine aA (sk 1 rfl (kc j ?_));refine az ?_;cases b with
 | true=>
  rw[θ rfl];have E:=E rfl;refine aB rfl (fun _=>sk 4 rfl (kc E ?_)) (fun hb=>Bool.noConfusion hb);exact kz 1 rfl (aE (rtC trw))
 | false=>
 obtain rfl:=A rfl;rw[ξ ω];clear j r u E A;refine aB rfl (fun hb=>Bool.noConfusion hb) (fun _=>aD ?_);have j:=gX h wY;have r:=eG (s:=wY) h;have u:=h.may wY;have A:= @gU wY z1;have J:=fun e=>aQd hO hS hwt (aX z1).pl deep u (by have:=r e;omega) (by omega)
 generalize bP wY z1=m at j r u A J ⊢;obtain⟨b,z2⟩:=m;dsimp only at j r u A J ⊢;refine aA (sk 1 rfl (kc j ?_));refine az ?_;cases b with
 | true=>
  rw[θ rfl];have J:=J rfl;refine aB rfl (fun _=>sk 4 rfl (kc J ?_)) (fun hb=>Bool.noConfusion hb);exact kz 1 rfl (aE (rtC trw))
 | false=>
 obtain rfl:=A rfl;rw[ξ ω];clear j r u J A;refine aB rfl (fun hb=>Bool.noConfusion hb) (fun _=>aD ?_);have j:=gX h lS;have r:=eG (s:=lS) h;have u:=h.may lS;have A:= @gU lS z2;have aa:=fun e=>aM5 hO hS (aX z2).pl deep u (by have:=r e;omega) (by omega)
 generalize bP lS z2=m at j r u A aa ⊢;obtain⟨b,z3⟩:=m;dsimp only at j r u A aa ⊢;refine aA (sk 1 rfl (kc j ?_));refine az ?_;cases b with
 | true=>
  rw[θ rfl];have aa:=aa rfl;refine aB rfl (fun _=>sk 4 rfl (kc aa ?_)) (fun hb=>Bool.noConfusion hb);exact kz 1 rfl (aE (rtC trw))
 | false=>
 obtain rfl:=A rfl;rw[ξ ω];clear j r u aa A;refine aB rfl (fun hb=>Bool.noConfusion hb) (fun _=>aD ?_);have M:=aKx hO hS deep h hN (by omega);obtain⟨Y,_,o3,U⟩:=lN hO deep h;have hlz:=h.lp;generalize hT:aX z3=t at hn ⊢;unfold lC;rw[hT];generalize lO ex deep z3=y at M Y o3 U ⊢;obtain⟨⟨e0,b0⟩,z4⟩:=y;dsimp only at M Y o3 U ⊢;have U:z4.R.length≤z3.R.length:=U;refine sk 2 rfl (kc M ?_);refine kz 6 rfl ?_;have O:∃z5,z5=(if b0=false then bS 12 t.pl z4 else z4)∧ZA L z5∧z5.R.length≤z3.R.length∧(z5.e=0→z5.R.length<z3.R.length):=by
  refine⟨_,rfl,?_⟩;split
  ·exact⟨Y.fail _ _,by rw[xG];exact U,fun e=>(gF (by decide) e).elim⟩
  ·rename_i hb;exact⟨Y,U,fun e=>o3 (by simpa using hb) e⟩
 obtain⟨z5,O,h5,l5,l5'⟩:=O;rw[←O];have hfl:=dI L z4 12 t.pl;refine aA (AWp.cut (mk [(0,xP),(1,I .i64 (deep:Nat)),(4,.one (.vp 4 0)),(5,.one (.vp 5 0)),(6,.one (.vp 6 0))] [(700,zO L z5),(4,.var 61 (aHj.map .c)),(5,.var 152 ((aG t).map .c)),(6,.var 61 ((bN e0).map .c))]) ?_ ?_)
 ·refine sg rfl ?_;cases b0 with
  | false=>
   rw[θ rfl] at O;subst O;refine aB rfl (fun _=>aC mixed (ak 3 [] rfl (kc hfl ?_))) (fun hb=>Bool.noConfusion hb);exact az sl
  | true=>
   rw[ξ (show ¬(true=false) from fun k=>Bool.noConfusion k)] at O;subst O;exact aB rfl (fun hb=>Bool.noConfusion hb) (fun _=>aD sl)
 have hWx:∃W,W=iH ex deep t.pl (z3.R.length+1) e0 z5:=⟨_,rfl⟩
 obtain⟨W,B⟩:=hWx;rw[←B];clear M Y o3 U hfl O;refine aA (aF (aK (fun q:Ex×Z×Nat=>mk [(0,xP),(1,I .i64 (deep:Nat)),(4,.one (.vp 4 0)),(5,.one (.vp 5 0)),(6,.one (.vp 6 0))] [(700,zO L q.2.1),(4,.var 61 (aHj.map .c)),(5,.var 152 ((aG t).map .c)),(6,.var 61 ((bN q.1).map .c))]) (fun q=>ZA L q.2.1∧q.2.1.R.length≤z3.R.length∧(q.2.1.e=0→q.2.1.R.length<q.2.2)∧W=iH ex deep t.pl q.2.2 q.1 q.2.1) (fun q=>if q.2.1.e=0 then q.2.1.R.length+1 else 0) (e0,z5,z3.R.length+1) ⟨h5,l5,fun _=>by dsimp only;omega,B⟩ sl ?_));clear B h5 l5 l5';rintro⟨e,z6,f⟩ ⟨h6,l6,hf,B⟩;dsimp only at h6 l6 hf B ⊢;have ho6:=eO L z6;have hend:∀(z7:Z) (st:St),ZA L z7→Sub (keys [(700,zO L z3)]) (mk [(0,xP),(4,.one (.vp 4 0)),(5,.one (.vp 5 0)),(6,.one (.vp 6 0))] [(700,zO L z7),(4,.var 61 (aHj.map .c)),(5,.var 152 ((aG t).map .c)),(6,.var 61 ((bN e).map .c))]) st→W=(e,z7)→
   AWp none Tryz.prog 82 (keys [(700,zO L z3)]) (hJ (hJ (hJ (hJ (hJ (hJ (hJ (hJ (hJ (hJ (Tryz.f67.body.getD .skip))))))))))) st (fun ex' st'=>(ex'=.normal∨ex'=.ret)∧Fin tr.flat Tryz.f67 st' [(700,zO L z3)] (.pa (bN (y2 t.pl W).1)) [(700,zO L (y2 t.pl W).2)]):=fun z7 st h7 hst hw=>by
  refine AWp.sub hst ?_;subst hw;have hm:=gX h7 eU;have g2:=h7.may eU;unfold y2;dsimp only;generalize bP eU z7=m at hm g2 ⊢;obtain⟨b,z8⟩:=m;dsimp only at hm g2 ⊢;refine aA (sk 1 rfl (kc hm ?_));refine az ?_;cases b with
  | true=>
   rw[θ rfl];have hsc:=qH g2 hwt;generalize bO z8=y at hsc ⊢;obtain⟨s,z9⟩:=y;dsimp only at hsc ⊢;refine aB rfl (fun _=>skh 5 [(3,.all)] rfl (kc hsc ?_)) (fun hb=>Bool.noConfusion hb);exact kz 2 rfl (aE (rtC trw))
  | false=>
   rw[ξ ω];exact aB rfl (fun hb=>Bool.noConfusion hb) (fun _=>aD (sg rfl (aE (rtC trw))))
 refine aA (sk 1 rfl (kc ho6 ?_));refine az ?_;by_cases ab:z6.e=0
 case neg=>
  have e0:iH ex deep t.pl f e z6=(e,z6):=by
   cases f with
   | zero=>rfl
   | succ f=>rw[iH,ξ ab]
  rw[e0] at B;have d0:decide (z6.e=0)=false:=ψ ab;exact aB rfl (fun hb=>absurd (hb.symm.trans d0) Bool.noConfusion) (fun _=>aH (hend z6 _ h6 sl B))
 have d0:decide (z6.e=0)=true:=φ ab;have hf:=hf ab;obtain⟨f,rfl⟩:∃g,f=g+1:=⟨f-1,by omega⟩
 rw[iH,θ ab] at B;have M:=aKx hO hS deep h6 (by omega) (by omega);obtain⟨Y,_,o3,U⟩:=lN hO deep h6;generalize lO ex deep z6=y at M Y o3 U B;obtain⟨⟨a,b⟩,z7⟩:=y;dsimp only at M Y o3 U B;have U:z7.R.length≤z6.R.length:=U;refine aB rfl (fun _=>aD (aF (sk 2 rfl (kc M ?_)))) (fun hb=>absurd (hb.symm.trans d0) Bool.noConfusion);refine kz 6 rfl (aA (sg rfl ?_));cases b with
 | false=>
  rw[θ rfl] at B;exact aB rfl (fun _=>aH (hend z7 _ Y sl B)) (fun hb=>Bool.noConfusion hb)
 | true=>
  rw[ξ (show ¬(true=false) from fun k=>Bool.noConfusion k)] at B;refine aB rfl (fun hb=>Bool.noConfusion hb) (fun _=>aD (ag [(4,.all)] rfl ⟨(aOe t.pl e a,z7,f),⟨Y,by dsimp only;omega,fun h0=>by have:=o3 rfl h0;dsimp only;omega,B⟩,?_,Sub.trans ?_ (vp 6 (bN (aOe t.pl e a)))⟩))
  rotate_left
  ·exact sl
  dsimp only;rw[θ ab];split
  ·rename_i h0;have:=o3 rfl h0;omega
  ·omega
end
theorem aPv {L:List Tk}(hwt:wt L≤30000):∀f,ExS L (aHf f) f
 | 0=>fun deep z h c _=>by have:=h.lp;omega
 | f+1=>fun deep z h c j=>aQk (jR hwt f) (aPv hwt f) hwt deep h c j
structure Cl where
 name:Str
 pl:Int
 var:Str
 supers:List Str
 methods:List Sg
structure In where
 cls:Str
 pl:Int
 con:Str
 vars:List Str
 preds:List Prd
 binds:List Bd
structure Pg where
 datas:List Dt
 classes:List Cl
 insts:List In
 binds:List Bd
def fN (c:Cl):List C:=[.str c.name,.int .i64 c.pl,.str c.var,.sl 1 [],.sl 1 (c.supers.map bE),.sl 9 (c.methods.map c6)]
def iD (x:In):List C:=[.str x.cls,.int .i64 x.pl,.str x.con,.sl 1 (x.vars.map bE),.sl 5 (x.preds.map aM),.sl 33 (x.binds.map aW)]
def mI (p:Pg):List C:=[.sl 5 (p.datas.map fM),.sl 6 (p.classes.map fN),.sl 6 (p.insts.map iD),.sl 33 (p.binds.map aW)]
def zPg:Pg:=⟨[],[],[],[]⟩
def jT:Str:=[100,97,116,97]
def eZ:Str:=[99,108,97,115,115]
def iV:Str:=[105,110,115,116,97,110,99,101]
def c9 (v:Str) (a:Int):List Prd→List Str→Z→List Str×Z
 | [],out,z=>(out,z)
 | p::l,out,z=>if z.e=0 then c9 v a l (out++[p.cls]) (if p.ty.form=2∧p.ty.name=v then z else bS 12 a z) else(out,z)
def pT (cls v:Str) (s:Sch):Sch:=⟨v::s.vars.filter (fun x=>!decide (x=v)),⟨cls,.mk 2 0 v []⟩::s.preds,s.ty⟩
def kS (cls v:Str) (z:Z):Sg×Z:=(⟨(aR 1 z).1.text,(aR 1 z).1.pl,pT cls v (bO (aQ eU (aR 1 z).2)).1⟩,(bO (aQ eU (aR 1 z).2)).2)
def eX (cls v:Str) (a:Int):Nat→Nat→List Sg→Z→List Sg×Z
 | 0,_,out,z=>(out,z)
 | f+1,n,out,z=>if(b5 b6 n z).1=true then eX cls v a f (n+1) (out++[(kS cls v (b5 b6 n z).2).1]) (c7 (out++[(kS cls v (b5 b6 n z).2).1]).length 16 a (kS cls v (b5 b6 n z).2).2) else(out,(b5 b6 n z).2)
def gW (z:Z):List Prd×Tk×Tk×Z:=((bK z).1,(aR 2 (bK z).2).1,(aR 1 (aR 2 (bK z).2).2).1,(aR 1 (aR 2 (bK z).2).2).2)
def mL (y:List Prd×Tk×Tk×Z):List Str×Z:=((c9 y.2.2.1.text y.2.1.pl y.1 [] y.2.2.2).1,aQ dG (c9 y.2.2.1.text y.2.1.pl y.1 [] y.2.2.2).2)
def mK (y:List Prd×Tk×Tk×Z) (w:List Str×Z):List Sg×Z:=eX y.2.1.text y.2.2.1.text y.2.1.pl (w.2.R.length+1) 0 [] w.2
def eY (z:Z):Cl×Z:=(⟨(gW z).2.1.text,(gW z).2.1.pl,(gW z).2.2.1.text,(mL (gW z)).1,(mK (gW z) (mL (gW z))).1⟩,aQ b6 (mK (gW z) (mL (gW z))).2)
def eC (a:Int):List Prd→Z→Z
 | [],z=>z
 | p::l,z=>eC a l (if z.e=0∧¬p.ty.form=2 then bS 12 a z else z)
def gD (z:Z):List Prd×Tk×Bool×Tk×Z:=
 ((bK z).1,(aR 2 (bK z).2).1,(bP c8 (aR 2 (bK z).2).2).1,(aR 2 (bP c8 (aR 2 (bK z).2).2).2).1,(aR 2 (bP c8 (aR 2 (bK z).2).2).2).2)
def instV (b:Bool) (z:Z):List Str×Z:=if b=true then((aV z).1.map (·.text),aQ nE (aV z).2) else([],z)
def pY (y:List Prd×Tk×Bool×Tk×Z) (w:List Str×Z):Z:=aQ dG (eC y.2.1.pl y.1 (if w.2.e=0 then c7 w.1.length 8 y.2.1.pl w.2 else w.2))
section
variable (ex:Nat→Z→Ex×Z)
def dD:Nat→Nat→List Bd→Z→List Bd×Z
 | 0,_,out,z=>(out,z)
 | f+1,n,out,z=>if(b5 b6 n z).1=true then dD f (n+1) (out++[(dL ex (aR 1 (b5 b6 n z).2).1 0 (aR 1 (b5 b6 n z).2).2).1]) (dL ex (aR 1 (b5 b6 n z).2).1 0 (aR 1 (b5 b6 n z).2).2).2 else(out,(b5 b6 n z).2)
def x7 (z:Z):List Bd×Z:=dD ex (z.R.length+1) 0 [] z
def lQ (z:Z):In×Z:=
 (⟨(gD z).2.1.text,(gD z).2.1.pl,(gD z).2.2.2.1.text,(instV (gD z).2.2.1 (gD z).2.2.2.2).1,(gD z).1,(x7 ex (pY (gD z) (instV (gD z).2.2.1 (gD z).2.2.2.2))).1⟩,
  aQ b6 (x7 ex (pY (gD z) (instV (gD z).2.2.1 (gD z).2.2.2.2))).2)
def eE (p:Pg) (sigs:List Sg) (z:Z):(Pg×List Sg)×Z:=
 if(bP jT z).1=true then((⟨p.datas++[(kT (bP jT z).2).1],p.classes,p.insts,p.binds⟩,sigs),(kT (bP jT z).2).2)
 else if(bP eZ z).1=true then((⟨p.datas,p.classes++[(eY (bP eZ z).2).1],p.insts,p.binds⟩,sigs),(eY (bP eZ z).2).2)
 else if(bP iV z).1=true then((⟨p.datas,p.classes,p.insts++[(lQ ex (bP iV z).2).1],p.binds⟩,sigs),(lQ ex (bP iV z).2).2)
 else((⟨p.datas,p.classes,p.insts,(aZ ex sigs p.binds 0 z).1.2⟩,(aZ ex sigs p.binds 0 z).1.1),(aZ ex sigs p.binds 0 z).2)
def iB:Nat→Nat→Pg→List Sg→Z→(Pg×List Sg)×Z
 | 0,_,p,sigs,z=>((p,sigs),z)
 | f+1,n,p,sigs,z=>if(b5 [] n z).1=true then iB f (n+1) (eE ex p sigs (b5 [] n z).2).1.1 (eE ex p sigs (b5 [] n z).2).1.2 (eE ex p sigs (b5 [] n z).2).2 else((p,sigs),(b5 [] n z).2)
def rX (y:(Pg×List Sg)×Z):Pg×Z:=(⟨y.1.1.datas,y.1.1.classes,y.1.1.insts,(dF y.1.2 y.1.1.binds y.2).1⟩,(dF y.1.2 y.1.1.binds y.2).2)
def eT (z:Z):Pg×Z:=rX (iB ex (z.R.length+1) 0 zPg [] z)
end
def n8 (z:Z):Z:=if z.e=0∧¬(aX z).kind=6 then bS 12 (aX z).pl z else z
def sgO (s:Sg):Prop:=WF s.ty.ty∧tn s.ty.ty≤30000∧(∀p∈s.ty.preds,WF p.ty∧tn p.ty≤30000)∧s.ty.preds.length≤4002∧s.ty.vars.length≤120060001
structure ClOk (c:Cl):Prop where
 s:c.supers.length≤4001
 m:c.methods.length≤60∧∀m∈c.methods,sgO m
structure InOk (x:In):Prop where
 v:x.vars.length≤4001
 p:x.preds.length≤4001∧∀p∈x.preds,WF p.ty∧tn p.ty≤30000
 b:x.binds.length≤60∧dZ x.binds
structure DtOk (d:Dt):Prop where
 v:d.vars.length≤4001
 c:d.cons.length≤4002∧∀c∈d.cons,c.fields.length≤4002∧∀x∈c.fields,WF x∧tn x≤30000
theorem nC {L:List Tk}(v:Str) (a:Int):∀(l:List Prd) (out:List Str) (z:Z),ZA L z→ZA L (c9 v a l out z).2∧(c9 v a l out z).1.length≤out.length+l.length∧Ze z (c9 v a l out z).2
 | [],out,z,h=>⟨h,le_refl _,Ze.refl z⟩
 | p::l,out,z,h=>by
  rw[c9];split
  ·have h1:ZA L (if p.ty.form=2∧p.ty.name=v then z else bS 12 a z)∧Ze z (if p.ty.form=2∧p.ty.name=v then z else bS 12 a z):=by
    split
    ·exact⟨h,Ze.refl z⟩
    ·exact⟨h.fail _ _,Ze.fail _ _ z⟩
   obtain⟨g1,g2,g3⟩:=nC v a l (out++[p.cls]) _ h1.1;exact⟨g1,by rw[ζ,Bc] at g2;rw[ε];omega,h1.2.trans g3⟩
  ·exact⟨h,by rw[ε];dsimp only;omega,Ze.refl z⟩
theorem q9 {L:List Tk}(a:Int):∀(l:List Prd) (z:Z),ZA L z→ZA L (eC a l z)∧Ze z (eC a l z)
 | [],z,h=>⟨h,Ze.refl z⟩
 | p::l,z,h=>by
  rw[eC];have h1:ZA L (if z.e=0∧¬p.ty.form=2 then bS 12 a z else z)∧Ze z (if z.e=0∧¬p.ty.form=2 then bS 12 a z else z):=by
   split
   ·exact⟨h.fail _ _,Ze.fail _ _ z⟩
   ·exact⟨h,Ze.refl z⟩
  obtain⟨g1,g2⟩:=q9 a l _ h1.1;exact⟨g1,h1.2.trans g2⟩
theorem iC {L:List Tk}{z:Z}(h:ZA L z) (hwt:wt L≤30000):ZA L (bK z).2∧((bK z).1.length≤4001∧∀p∈(bK z).1,WF p.ty∧tn p.ty≤30000)∧Ze z (bK z).2:=by
 refine⟨h.preds,?_⟩;have hw:=h.wt;have hl:=h.len;unfold bK;split
 ·cases hs:dA z.R with
  | error e=>obtain⟨e,p⟩:=e;exact⟨⟨Ac _,fun p hp=>(by cases hp)⟩,Ze.refl z⟩
  | ok y=>
   obtain⟨s,R'⟩:=y;obtain⟨_,⟨p,h2,_⟩,c,j⟩:=kG hs;refine⟨⟨by show s.length≤_;omega,fun p hp=>⟨(c p hp).1,by have:=(c p hp).2;omega⟩⟩,?_⟩;show R'.length≤_;rw[h2,ζ];omega
 ·exact⟨⟨Ac _,fun p hp=>(by cases hp)⟩,Ze.refl z⟩
theorem tM {L:List Tk}{z:Z}(h:ZA L z) (hwt:wt L≤30000) (k:Int):(aR k z).1.text.length≤29994:=by
 have hw:=h.wt;obtain⟨R,e,p⟩:=z;obtain⟨t,R,rfl⟩:=h.e.ne;unfold aR;split
 ·show t.text.length≤_;have hw:wt (t::R)≤wt L:=hw;rw[fR] at hw;omega
 ·exact Ac _
theorem aIj (cls v:Str) {s:Sch}(h:SchOk s) (c:v.length≤29994) (t:Str) (a:Int):sgO ⟨t,a,pT cls v s⟩:=by
 refine⟨h.t.1,h.t.2,fun p hp=>?_,?_,?_⟩
 ·rcases Ap.1 hp with rfl | hp
  ·exact⟨⟨rfl,rfl⟩,by show tn (.mk 2 0 v [])≤_;rw[tn,tns];omega⟩
  ·exact h.p p hp
 ·show(_::s.preds).length≤_;rw[ε];have:=h.l;omega
 ·show(v::s.vars.filter _).length≤_;rw[ε];have:=List.length_filter_le (fun x=>!decide (x=v)) s.vars;have:=h.v;omega
theorem uE {L:List Tk}(hwt:wt L≤30000) (cls v:Str) (c:v.length≤29994) (a:Int):∀(f n:Nat) (out:List Sg) (z:Z),ZA L z→n≤60→out.length=n→(∀m∈out,sgO m)→ZA L (eX cls v a f n out z).2∧((eX cls v a f n out z).1.length≤60∧∀m∈(eX cls v a f n out z).1,sgO m)∧Ze z (eX cls v a f n out z).2
 | 0,n,out,z,h,hn,hl,ho=>by rw[eX];exact⟨h,⟨by dsimp only;omega,ho⟩,Ze.refl z⟩
 | f+1,n,out,z,h,hn,hl,ho=>by
  rw[eX];split
  ·rename_i hm;obtain⟨_,j⟩:=dC hm;have h1:=h.more b6 n;obtain⟨g1,g2,_,g4⟩:=fO ((h1.word (k:=1) (by decide)).need eU) hwt;have q:∀m∈out++[(kS cls v (b5 b6 n z).2).1],sgO m:=fun m hm=>by
    rcases Bi.1 hm with hm | hm
    ·exact ho m hm
    ·rw[A4.1 hm];exact aIj cls v g2 c _ _
   have r:(out++[(kS cls v (b5 b6 n z).2).1]).length=n+1:=by rw[ζ,hl];rfl
   obtain⟨u,y,A⟩:=uE hwt cls v c a f (n+1) _ (c7 (out++[(kS cls v (b5 b6 n z).2).1]).length 16 a (kS cls v (b5 b6 n z).2).2) (ZA.long g1 _ _ _) j r q;exact⟨u,y,((((Ze.more b6 n z).trans (Ze.word 1 _)).trans (Ze.need eU _)).trans g4).trans ((Ze.long _ _ _ _).trans A)⟩
  ·exact⟨h.more _ _,⟨by dsimp only;omega,ho⟩,Ze.more _ _ _⟩
theorem aFm {L:List Tk}{z:Z}(h:ZA L z) (hwt:wt L≤30000):ZA L (eY z).2∧ClOk (eY z).1∧Ze z (eY z).2:=by
 obtain⟨g1,g2,g3⟩:=iC h hwt;have h2:=g1.word (k:=2) (by decide);have j:=h2.word (k:=1) (by decide);have q:=tM h2 hwt 1;obtain⟨r,u,y⟩:=nC (aR 1 (aR 2 (bK z).2).2).1.text (aR 2 (bK z).2).1.pl (bK z).1 [] _ j;obtain⟨m1,m2,m3⟩:=uE hwt (gW z).2.1.text (gW z).2.2.1.text q (gW z).2.1.pl ((mL (gW z)).2.R.length+1) 0 [] _ (r.need dG) (Ac _) rfl (fun m hm=>by cases hm);refine⟨m1.need _,⟨?_,m2⟩,(((g3.trans (Ze.word 2 _)).trans (Ze.word 1 _)).trans y).trans ((Ze.need dG _).trans (m3.trans (Ze.need b6 _)))⟩;show(c9 _ _ _ _ _).1.length≤_;have c:(c9 (aR 1 (aR 2 (bK z).2).2).1.text (aR 2 (bK z).2).1.pl (bK z).1 [] (aR 1 (aR 2 (bK z).2).2).2).1.length≤0+(bK z).1.length:=u;exact le_trans c (by omega)
theorem sG {L:List Tk}(b:Bool) {z:Z}(h:ZA L z):ZA L (instV b z).2∧(instV b z).1.length≤4001∧Ze z (instV b z).2:=by
 unfold instV;split
 ·exact⟨h.words.need _,by rw[η];exact dT h,(Ze.words z).trans (Ze.need _ _)⟩
 ·exact⟨h,Ac _,Ze.refl z⟩
theorem zJ {L:List Tk}(y:List Prd×Tk×Bool×Tk×Z) (w:List Str×Z) (h:ZA L w.2):ZA L (pY y w)∧Ze w.2 (pY y w):=by
 have h1:ZA L (if w.2.e=0 then c7 w.1.length 8 y.2.1.pl w.2 else w.2)∧Ze w.2 (if w.2.e=0 then c7 w.1.length 8 y.2.1.pl w.2 else w.2):=by
  split
  ·exact⟨h.long _ _ _,Ze.long _ _ _ _⟩
  ·exact⟨h,Ze.refl _⟩
 obtain⟨g1,g2⟩:=q9 y.2.1.pl y.1 _ h1.1;exact⟨g1.need _,(h1.2.trans g2).trans (Ze.need _ _)⟩
section
variable {L:List Tk}{ex:Nat→Z→Ex×Z}(hO:ExO L ex) (hwt:wt L≤30000)
include hO
theorem r5:∀(f n:Nat) (out:List Bd) (z:Z),ZA L z→n≤60→out.length=n→dZ out→ZA L (dD ex f n out z).2∧((dD ex f n out z).1.length≤60∧dZ (dD ex f n out z).1)∧Ze z (dD ex f n out z).2
 | 0,n,out,z,h,hn,hl,ho=>by rw[dD];exact⟨h,⟨by dsimp only;omega,ho⟩,Ze.refl z⟩
 | f+1,n,out,z,h,hn,hl,ho=>by
  rw[dD];split
  ·rename_i hm;obtain⟨_,c⟩:=dC hm;obtain⟨g1,g2,_,g4⟩:=oR hO (aR 1 (b5 b6 n z).2).1 0 ((h.more b6 n).word (k:=1) (by decide));obtain⟨j,q,r⟩:=r5 f (n+1) _ _ g1 c (by rw[ζ,hl];rfl) (mT ho g2);exact⟨j,q,(((Ze.more b6 n z).trans (Ze.word 1 _)).trans g4).trans r⟩
  ·exact⟨h.more _ _,⟨by dsimp only;omega,ho⟩,Ze.more _ _ _⟩
include hwt
theorem aIq {z:Z}(h:ZA L z):ZA L (lQ ex z).2∧InOk (lQ ex z).1∧Ze z (lQ ex z).2:=by
 obtain⟨g1,g2,g3⟩:=iC h hwt;have h2:=((g1.word (k:=2) (by decide)).may c8).word (k:=2) (by decide);have c:=((g3.trans (Ze.word 2 _)).trans (Ze.may c8 _)).trans (Ze.word 2 _);obtain⟨j,q,r⟩:=sG (gD z).2.2.1 h2;obtain⟨m1,m2⟩:=zJ (gD z) (instV (gD z).2.2.1 (gD z).2.2.2.2) j;obtain⟨u,y,A⟩:=r5 hO ((pY (gD z) (instV (gD z).2.2.1 (gD z).2.2.2.2)).R.length+1) 0 [] _ m1 (Ac _) rfl trivial;exact⟨u.need _,⟨q,g2,y⟩,(c.trans r).trans (m2.trans (A.trans (Ze.need _ _)))⟩
end
def aLd:List C:=[.str [],.int .i64 0,.str [],.nl,.nl,.nl]
section
variable {L:List Tk}{ex:Nat→Z→Ex×Z}{N:Nat}(hO:ExO L ex) (hS:ExS L ex N) (hwt:wt L≤30000)
include hO hS hwt
theorem aMz {z:Z}(h:ZA L z) (hN:z.R.length≤N):b8 Tryz.prog 97 [xP] [(700,zO L z)] (.pa (iD (lQ ex z).1)) [(700,zO L (lQ ex z).2)]:=by
 unfold lQ;have hC:∀y,x7 ex y=dD ex (y.R.length+1) 0 [] y:=fun _=>rfl
 have hV:∀b y,instV b y=if b=true then((aV y).1.map (·.text),aQ nE (aV y).2) else([],y):=fun _ _=>rfl
 have hB:∀y w,pY y w=aQ dG (eC y.2.1.pl y.1 (if w.2.e=0 then c7 w.1.length 8 y.2.1.pl w.2 else w.2)):=fun _ _=>rfl
 have hA:gD z=((bK z).1,(aR 2 (bK z).2).1,(bP c8 (aR 2 (bK z).2).2).1,(aR 2 (bP c8 (aR 2 (bK z).2).2).2).1,(aR 2 (bP c8 (aR 2 (bK z).2).2).2).2):=rfl;rw[hA];have hp:=aAn h;obtain⟨h1,hpl,l1⟩:=iC h hwt;generalize bK z=y at hp h1 hpl l1 ⊢;obtain⟨ps,z1⟩:=y;dsimp only at hp h1 hpl l1 ⊢;have hw:=gZ h1 2 (by decide);have h2:=h1.word (k:=2) (by decide);have l2:=l1.trans (Ze.word 2 z1);generalize aR 2 z1=y at hw h2 l2 ⊢;obtain⟨j,z2⟩:=y;dsimp only at hw h2 l2 ⊢;have hm:=gX h2 c8;have h3:=h2.may c8;have l3:=l2.trans (Ze.may c8 z2);generalize bP c8 z2=y at hm h3 l3 ⊢;obtain⟨br,z3⟩:=y;dsimp only at hm h3 l3 ⊢;have hw2:=gZ h3 2 (by decide);have h4:=h3.word (k:=2) (by decide);have l4:=l3.trans (Ze.word 2 z3);generalize aR 2 z3=y at hw2 h4 l4 ⊢;obtain⟨Y,z4⟩:=y;dsimp only at hw2 h4 l4 ⊢;obtain⟨J,hvl,l5⟩:=sG br h4;have A:=hV br z4;generalize instV br z4=y at J hvl l5 A ⊢;obtain⟨vs,z5⟩:=y;dsimp only at J hvl l5 ⊢;have hBz:=hB (ps,j,br,Y,z4) (vs,z5);obtain⟨h9,l9⟩:=zJ (ps,j,br,Y,z4) (vs,z5) J;have l9:(pY (ps,j,br,Y,z4) (vs,z5)).R.length≤z.R.length:=(l4.trans l5).trans l9;dsimp only at hBz;generalize pY (ps,j,br,Y,z4) (vs,z5)=z9 at hBz h9 l9 ⊢;have hvk:(vs.map bE).length=vs.length:=η _;have hpk:(ps.map aM).length=ps.length:=η _;refine bM (n:=81) tok Tryz.func97 rfl rfl rfl ?_;refine sg rfl (sk 1 rfl (kc hp ?_));refine kz 1 rfl (sk 1 rfl (kc hw ?_));refine kz 2 rfl (sg rfl (sk 1 rfl (kc hm ?_)));refine kz 1 rfl (sk 1 rfl (kc hw2 ?_));refine kz 3 rfl (aA (AWp.cut (mk [(0,xP),(2,.one (.vp 2 0)),(3,.one (.c (.sl 5 (ps.map aM)))),(4,.one (.vp 4 0)),(5,.one (.vp 5 0))] [(700,zO L z5),(2,.var 95 (aLd.map .c)),(4,.var 152 ((aG j).map .c)),(5,.var 95 [.c (.str j.text),.c (.int .i64 j.pl),.c (.str Y.text),.c (.sl 1 (vs.map bE)),.c (.sl 5 (ps.map aM)),.c .nl])]) ?_ ?_))
 ·refine sg rfl ?_;cases br with
  | true=>
   rw[θ rfl] at A;have hws:=oN h4;have g1:=h4.words;have hwl:=dT h4;generalize aV z4=y at hws g1 hwl A;obtain⟨l,z45⟩:=y;dsimp only at hws g1 hwl A;have htx:=aAk l hwl;have hnd:=cP g1 nE;obtain⟨rfl,rfl⟩:=Prod.mk.inj A;refine aB rfl (fun _=>sk 1 rfl (kc hws ?_)) (fun hb=>Bool.noConfusion hb);refine kc htx ?_;refine kz 2 rfl (aC mixed (ak 1 [] rfl (kc hnd ?_)));exact az sl
  | false=>
   rw[ξ ω] at A;obtain⟨rfl,rfl⟩:=Prod.mk.inj A;refine aB rfl (fun hb=>Bool.noConfusion hb) (fun _=>aD (Sub.trans ?_ (vp 5 [.str j.text,.int .i64 j.pl,.str Y.text,.sl 1 [],.sl 5 (ps.map aM),.nl])));exact sl
 have u:∃M,M=(if z5.e=0 then c7 vs.length 8 j.pl z5 else z5):=⟨_,rfl⟩
 obtain⟨M,u⟩:=u;rw[←u] at hBz;have h6:ZA L M:=by
  rw[u];split
  ·exact J.long _ _ _
  ·exact J
 refine aA (AWp.cut (mk [(0,xP),(2,.one (.vp 2 0)),(3,.one (.c (.sl 5 (ps.map aM)))),(4,.one (.vp 4 0)),(5,.one (.vp 5 0))] [(700,zO L M),(2,.var 95 (aLd.map .c)),(4,.var 152 ((aG j).map .c)),(5,.var 95 [.c (.str j.text),.c (.int .i64 j.pl),.c (.str Y.text),.c (.sl 1 (vs.map bE)),.c (.sl 5 (ps.map aM)),.c .nl])]) ?_ ?_)
 ·have ho:=eO L z5;refine sk 1 rfl (kc ho ?_);refine az ?_;by_cases he:z5.e=0
  ·rw[θ he] at u;subst u;have d0:decide (z5.e=0)=true:=φ he;have hlg:=jY L z5 vs.length 8 j.pl;refine aB rfl (fun _=>aC mixed (ak 6 [] rfl ?_)) (fun hb=>absurd (hb.symm.trans d0) Bool.noConfusion);rw[hvk];refine kc hlg ?_;exact az sl
  ·rw[ξ he] at u;subst u;have d0:decide (M.e=0)=false:=ψ he;exact aB rfl (fun hb=>absurd (hb.symm.trans d0) Bool.noConfusion) (fun _=>aD sl)
 have hzf:∃zf,zf=eC j.pl ps M:=⟨_,rfl⟩
 obtain⟨zf,hzf⟩:=hzf;rw[←hzf] at hBz;have hf:=(q9 j.pl ps M h6).1
 rw[←hzf] at hf;clear hw h2 hm h3 hw2 h4 J A u;refine aA (sg rfl (aF (aK (fun q:Nat×Z=>mk [(0,xP),(2,.one (.vp 2 0)),(3,.one (.c (.sl 5 (ps.map aM)))),(4,.one (.vp 4 0)),(5,.one (.vp 5 0)),(7,I .i64 (q.1:Nat))] [(700,zO L q.2),(2,.var 95 (aLd.map .c)),(4,.var 152 ((aG j).map .c)),(5,.var 95 [.c (.str j.text),.c (.int .i64 j.pl),.c (.str Y.text),.c (.sl 1 (vs.map bE)),.c (.sl 5 (ps.map aM)),.c .nl])]) (fun q=>q.1≤ps.length∧ZA L q.2∧zf=eC j.pl (ps.drop q.1) q.2) (fun q=>ps.length-q.1) (0,M) ⟨Ac _,h6,hzf⟩ sl ?_)));clear hzf h6;rintro⟨i,z7⟩ ⟨hi,h7,U⟩;dsimp only at hi h7 U ⊢;refine aA (sg rfl (aB rfl (fun hb=>?_) (fun hb=>?_)))
 ·have hlt:=ltD hb hpk;obtain⟨p,hp⟩:=aN hlt;have hp':=aY aM hp;have hds:ps.drop i=p::ps.drop (i+1):=by
   obtain⟨k1,k2⟩:=Af.1 hp;rw[←k2];exact Aw k1
  rw[hds,eC] at U;have ho:=eO L z7;have hfl:=dI L z7 12 j.pl;have E:∃z8,z8=(if z7.e=0∧¬p.ty.form=2 then bS 12 j.pl z7 else z7):=⟨_,rfl⟩
  obtain⟨z8,E⟩:=E;rw[←E] at U;have h8:ZA L z8:=by
   rw[E];split
   ·exact h7.fail _ _
   ·exact h7
  refine aD (aA (aF (aA (AWp.cut (mk [(0,xP),(2,.one (.vp 2 0)),(3,.one (.c (.sl 5 (ps.map aM)))),(4,.one (.vp 4 0)),(5,.one (.vp 5 0)),(7,I .i64 (i:Nat)),(57,B (decide (z7.e=0)&& !decide (p.ty.form=2)))] [(700,zO L z7),(2,.var 95 (aLd.map .c)),(4,.var 152 ((aG j).map .c)),(5,.var 95 [.c (.str j.text),.c (.int .i64 j.pl),.c (.str Y.text),.c (.sl 1 (vs.map bE)),.c (.sl 5 (ps.map aM)),.c .nl])]) ?_ ?_))))
  ·by_cases he:z7.e=0
   ·rw[φ he] at ho ⊢;rw[Bz];refine aC mixed (ak 1 [] rfl (kc ho ?_));exact ak 9 [(2,.bv true),(5,.row i (aM p)),(10,.bv true)] rfl (az sl)
   ·rw[ψ he] at ho ⊢;rw[Bw];refine aC mixed (ak 1 [] rfl (kc ho ?_));exact ak 9 [(2,.bv false),(10,.bv false)] rfl (az sl)
  refine aB rfl (fun hb=>?_) (fun hb=>?_)
  ·rw[τ,Be] at hb;rw[θ ⟨χ hb.1,Ad hb.2⟩] at E;subst E;refine aC mixed (ak 3 [] rfl (kc hfl ?_));exact az (agN [] rfl ⟨(i+1,bS 12 j.pl z7),⟨hlt,h8,U⟩,by dsimp only;omega,sl⟩)
  ·have hb':¬(z7.e=0∧¬p.ty.form=2):=fun hh=>by
    rw[φ hh.1,ψ hh.2] at hb;cases hb
   rw[ξ hb'] at E;subst E;exact aD (agN [] rfl ⟨(i+1,z8),⟨hlt,h8,U⟩,by dsimp only;omega,sl⟩)
 have hge:=geD hb hpk hi;subst hge;rw[Ci,eC] at U;subst U;clear h7 hi hb;have hnd:=cP hf dG;rw[←hBz] at hnd;have hWx:∃W,W=x7 ex z9:=⟨_,rfl⟩
 obtain⟨W,hW⟩:=hWx;rw[←hW];rw[hC] at hW;refine aH (AWp.sub (Sub.ownCell (x:=5) (k:=5) (id:=503) 99 33 rfl rfl rfl) ?_);refine sk 1 rfl (kc hnd ?_);refine az (aA (sg rfl (aF (aK (fun q:List Bd×Z×Nat×Nat=>mk [(0,xP),(2,.one (.vp 2 0)),(5,.one (.vp 5 0)),(8,I .i64 (q.2.2.1:Nat))] [(700,zO L q.2.1),(2,.var 95 (aLd.map .c)),(5,.var 95 [.c (.str j.text),.c (.int .i64 j.pl),.c (.str Y.text),.c (.sl 1 (vs.map bE)),.c (.sl 5 (ps.map aM)),.hs 503 0 q.1.length q.1.length]),(503,bdA q.1 0)]) (fun q=>ZA L q.2.1∧q.2.1.R.length≤z9.R.length∧(q.2.1.e=0→q.2.1.R.length<q.2.2.2)∧q.2.2.1≤60∧q.1.length=q.2.2.1∧W=dD ex q.2.2.2 q.2.2.1 q.1 q.2.1) (fun q=>if q.2.1.e=0 then q.2.1.R.length+1 else 0) ([],z9,0,z9.R.length+1) ⟨h9,le_refl _,fun _=>Bk _,Ac _,rfl,hW⟩ sl ?_))));clear hW hnd hf hBz h9;rintro⟨out,z3,n,f⟩ ⟨h,hR,hf,hn,hol,hW⟩;dsimp only at h hR hf hn hol hW ⊢;have hoe:(out.map aW).length=out.length:=η _;have hm:=qJ h b6 n (by omega);have hmt:= @dC b6 n z3;have hm2:=h.more b6 n;have hm3:=Ze.more b6 n z3;have r:W=if(b5 b6 n z3).1=true then dD ex (f-1) (n+1) (out++[(dL ex (aR 1 (b5 b6 n z3).2).1 0 (aR 1 (b5 b6 n z3).2).2).1]) (dL ex (aR 1 (b5 b6 n z3).2).1 0 (aR 1 (b5 b6 n z3).2).2).2 else(out,(b5 b6 n z3).2):=by
  by_cases he:z3.e=0
  ·obtain⟨f,rfl⟩:∃g,f=g+1:=⟨f-1,by have:=hf he;omega⟩
   rw[dD] at hW;exact hW
  ·rw[cO he];rw[ξ ω];rw[hW];cases f with
   | zero=>rfl
   | succ f=>rw[dD,cO he,ξ ω]
 have hme:(b5 b6 n z3).1=true→z3.e=0:=fun e=>by
  by_cases he:z3.e=0
  ·exact he
  ·rw[cO he] at e;cases e
 clear hW;generalize b5 b6 n z3=m at hm hmt hm2 hm3 r hme;obtain⟨b,z4⟩:=m;dsimp only at hm hmt hm2 hm3 r hme;have hm3:z4.R.length≤z3.R.length:=hm3;refine aA (sk 2 rfl (kc hm ?_));refine az ?_;cases b with
 | true=>
  rw[θ rfl] at r;obtain⟨e3,hn60⟩:=hmt rfl;have he2:=hme rfl;have hf:=hf he2;have hw:=gZ hm2 1 (by decide);have J:=hm2.word (k:=1) (by decide);have l5:=Ze.word 1 z4;generalize aR 1 z4=y at hw J l5 r;obtain⟨w,z5⟩:=y;dsimp only at hw J l5 r;have l5:z5.R.length≤z4.R.length:=l5;have hbd:=aF9 hS w 0 J (by omega) (by decide);obtain⟨b1,_,b3,b4⟩:=oR hO w 0 J;generalize dL ex w 0 z5=y at hbd b1 b3 b4 r;obtain⟨bd,M⟩:=y;dsimp only at hbd b1 b3 b4 r;have b4:M.R.length≤z5.R.length:=b4;have hr1:out.map aW++[aW bd]=(out++[bd]).map aW:=by rw[Ai];rfl
  have hl1:(out++[bd]).length=out.length+1:=by rw[ζ];rfl
  generalize out++[bd]=O at hr1 hl1 r;refine aB rfl (fun _=>aD (aA (aF (aC mixed (ak 4 [] rfl (kc hw ?_)))))) (fun hb=>Bool.noConfusion hb);refine kc hbd ?_;refine ak 4 [(6,.all)] rfl (az (agN [] rfl ⟨(O,M,n+1,f-1),⟨b1,by dsimp only;omega,fun h0=>by have:=b3 h0;dsimp only;omega,hn60,by dsimp only;omega,r⟩,?_,?_⟩))
  ·dsimp only;rw[θ he2];split
   ·rename_i h0;have:=b3 h0;omega
   ·omega
  ·exact sl (hh:=⟨⟨_,rfl,.var rfl⟩,⟨_,rfl,.var rfl⟩,⟨_,rfl,.var (by rw[hl1,←hoe];rfl)⟩,⟨_,rfl,.arrS hr1⟩,trivial⟩)
 | false=>
  rw[ξ ω] at r;subst r;dsimp only;have hnd3:=cP hm2 b6;refine aB rfl (fun hb=>Bool.noConfusion hb) (fun _=>aH (sk 1 rfl (kc hnd3 ?_)));refine az (AWp.sub (Sub.freeze (id:=503) rfl) ?_);exact sg rfl (aE (rtC trw (hc:=.agg (.c .refl (.c .refl (.c .refl (.c .refl (.c .refl (.hs rfl hoe.symm (Go.AM.take_all hoe.symm) .nil)))))))))
end
def aQ7:List C:=[.str [],.int .i64 0,.str [],.nl,.nl,.nl]
def tH (v:Str) (l:List Str):List Str:=l.filter (fun x=>!decide (x=v))
theorem aFd {v:Str}{l:List Str}{j:Nat}{x:Str}(h:l[j]?=some x):tH v (l.take (j+1))=if x=v then tH v (l.take j) else tH v (l.take j)++[x]:=by
 unfold tH;rw[A7,h,List.filter_append];by_cases hx:x=v
 ·rw[θ hx];simp[hx]
 ·rw[ξ hx];simp[hx]
def clH (L:List Tk) (z:Z) (nm vt:Tk) (sup:List Str) (out:List Sg):List (Nat×AObj):=[(700,zO L z),(2,.var 90 (aQ7.map .c)),(4,.var 152 ((aG nm).map .c)),(5,.var 152 ((aG vt).map .c)),(6,.var 90 [.c (.str nm.text),.c (.int .i64 nm.pl),.c (.str vt.text),.c .nl,.hs 504 0 sup.length sup.length,.hs 505 0 out.length out.length]),(504,.arr 9 1 (sup.map bE) 0),(505,sgA out 0)]
def clM (m:Tk) (s:Sch) (vs:List Str) (ps:List Prd):List (Nat×AObj):=[(9,.var 152 ((aG m).map .c)),(10,.var 59 ((eH s).map .c)),(11,.var 59 [.hs 506 0 vs.length vs.length,.c .nl,.hs 507 0 ps.length ps.length,.c (.int .i64 s.ty.form),.c (.int .i64 s.ty.n),.c (.str s.ty.name),.c (.sl 4 (cK s.ty))]),(506,.arr 9 1 (vs.map bE) 0),(507,.arr 113 5 (ps.map aM) 0)]
section
variable {L:List Tk}(hwt:wt L≤30000)
include hwt
theorem aJg {z:Z}(h:ZA L z):b8 Tryz.prog 96 [xP] [(700,zO L z)] (.pa (fN (eY z).1)) [(700,zO L (eY z).2)]:=by
 unfold eY;have hB:∀y,mL y=((c9 y.2.2.1.text y.2.1.pl y.1 [] y.2.2.2).1,aQ dG (c9 y.2.2.1.text y.2.1.pl y.1 [] y.2.2.2).2):=fun _=>rfl
 have hC:∀y w,mK y w=eX y.2.1.text y.2.2.1.text y.2.1.pl (w.2.R.length+1) 0 [] w.2:=fun _ _=>rfl
 have hA:gW z=((bK z).1,(aR 2 (bK z).2).1,(aR 1 (aR 2 (bK z).2).2).1,(aR 1 (aR 2 (bK z).2).2).2):=rfl;rw[hA];have hp:=aAn h;obtain⟨h1,hpl,l1⟩:=iC h hwt;generalize bK z=y at hp h1 hpl l1 ⊢;obtain⟨ps,z1⟩:=y;dsimp only at hp h1 hpl l1 ⊢;have hw:=gZ h1 2 (by decide);have h2:=h1.word (k:=2) (by decide);generalize aR 2 z1=y at hw h2 ⊢;obtain⟨u,z2⟩:=y;dsimp only at hw h2 ⊢;have hw2:=gZ h2 1 (by decide);have h3:=h2.word (k:=1) (by decide);have hvl:=tM h2 hwt 1;generalize aR 1 z2=y at hw2 h3 hvl ⊢;obtain⟨r,z3⟩:=y;dsimp only at hw2 h3 hvl ⊢;have hBz:=hB (ps,u,r,z3);dsimp only at hBz;obtain⟨s1,s2,s3⟩:=nC r.text u.pl ps [] z3 h3;have hSx:∃Sx,Sx=c9 r.text u.pl ps [] z3:=⟨_,rfl⟩
 obtain⟨Sx,hSx⟩:=hSx;rw[←hSx] at hBz s1 s2 s3;rw[hBz];rw[length_nil] at s2;obtain⟨sup,z4⟩:=Sx;dsimp only at s1 s2 s3 ⊢;have hpk:(ps.map aM).length=ps.length:=η _;refine bM (n:=146) tok Tryz.func96 rfl rfl rfl ?_;refine sg rfl (sk 1 rfl (kc hp ?_));refine kz 1 rfl (sk 1 rfl (kc hw ?_));refine kz 2 rfl (sk 1 rfl (kc hw2 ?_));refine kz 2 rfl (sg rfl (AWp.sub (Sub.ownCell (x:=6) (k:=4) (id:=504) 9 1 rfl rfl rfl) ?_));refine aA (sg rfl (aF (aK (fun q:Nat×List Str×Z=>mk [(0,xP),(2,.one (.vp 2 0)),(3,.one (.c (.sl 5 (ps.map aM)))),(4,.one (.vp 4 0)),(5,.one (.vp 5 0)),(6,.one (.vp 6 0)),(7,I .i64 (q.1:Nat))] [(700,zO L q.2.2),(2,.var 90 (aQ7.map .c)),(4,.var 152 ((aG u).map .c)),(5,.var 152 ((aG r).map .c)),(6,.var 90 [.c (.str u.text),.c (.int .i64 u.pl),.c (.str r.text),.c .nl,.hs 504 0 q.2.1.length q.2.1.length,.c .nl]),(504,.arr 9 1 (q.2.1.map bE) 0)]) (fun q=>q.1≤ps.length∧ZA L q.2.2∧q.2.1.length≤q.1∧(sup,z4)=c9 r.text u.pl (ps.drop q.1) q.2.1 q.2.2) (fun q=>ps.length-q.1) (0,[],z3) ⟨Ac _,h3,le_refl _,hSx⟩ sl ?_)));clear hSx hp hw hw2 h2 h3;rintro⟨i,out,z5⟩ ⟨hi,h5,hol,B⟩;dsimp only at hi h5 hol B ⊢;have hoe:(out.map bE).length=out.length:=η _;have ho:=eO L z5;have hend:∀st,Sub (keys [(700,zO L z)]) (mk [(0,xP),(2,.one (.vp 2 0)),(4,.one (.vp 4 0)),(5,.one (.vp 5 0)),(6,.one (.vp 6 0))] [(700,zO L z4),(2,.var 90 (aQ7.map .c)),(4,.var 152 ((aG u).map .c)),(5,.var 152 ((aG r).map .c)),(6,.var 90 [.c (.str u.text),.c (.int .i64 u.pl),.c (.str r.text),.c .nl,.hs 504 0 sup.length sup.length,.c .nl]),(504,.arr 9 1 (sup.map bE) 0)]) st→
   AWp none Tryz.prog 146 (keys [(700,zO L z)]) (hJ (hJ (hJ (hJ (hJ (hJ (Tryz.f96.body.getD .skip))))))) st (fun ex' st'=>(ex'=.normal∨ex'=.ret)∧Fin tr.flat Tryz.f96 st' [(700,zO L z)] (.pa (fN ⟨u.text,u.pl,r.text,sup,(mK (ps,u,r,z3) (sup,aQ dG z4)).1⟩)) [(700,zO L (aQ b6 (mK (ps,u,r,z3) (sup,aQ dG z4)).2))]):=by
  intro st M;refine AWp.sub M ?_;have hnd:=cP s1 dG;have h9:=s1.need dG;generalize aQ dG z4=z9 at hnd h9 ⊢;have hWx:∃W,W=mK (ps,u,r,z3) (sup,z9):=⟨_,rfl⟩
  obtain⟨W,Y⟩:=hWx;rw[←Y];rw[hC] at Y;dsimp only at Y;refine AWp.sub (Sub.ownCell (x:=6) (k:=5) (id:=505) 92 9 rfl rfl rfl) ?_;refine sk 1 rfl (kc hnd ?_);refine az (aA (sg rfl (aF (aK (fun q:List Sg×Z×Nat×Nat=>mk [(0,xP),(2,.one (.vp 2 0)),(4,.one (.vp 4 0)),(5,.one (.vp 5 0)),(6,.one (.vp 6 0)),(8,I .i64 (q.2.2.1:Nat))] (clH L q.2.1 u r sup q.1)) (fun q=>ZA L q.2.1∧q.2.1.R.length≤z9.R.length∧(q.2.1.e=0→q.2.1.R.length<q.2.2.2)∧q.2.2.1≤60∧q.1.length=q.2.2.1∧W=eX u.text r.text u.pl q.2.2.2 q.2.2.1 q.1 q.2.1) (fun q=>if q.2.1.e=0 then q.2.1.R.length+1 else 0) ([],z9,0,z9.R.length+1) ⟨h9,le_refl _,fun _=>Bk _,Ac _,rfl,Y⟩ sl ?_))));clear Y hnd h9 ho h5 B hoe hol hi out z5 i M;rintro⟨out,z5,n,f⟩ ⟨h,hR,hf,hn,hol,Y⟩;dsimp only at h hR hf hn hol Y ⊢;have hoe:(out.map c6).length=out.length:=η _;have hse:(sup.map bE).length=sup.length:=η _;have hm:=qJ h b6 n (by omega);have hmt:= @dC b6 n z5;have hm2:=h.more b6 n;have hm3:=Ze.more b6 n z5;have A:W=if(b5 b6 n z5).1=true then eX u.text r.text u.pl (f-1) (n+1) (out++[(kS u.text r.text (b5 b6 n z5).2).1]) (c7 (out++[(kS u.text r.text (b5 b6 n z5).2).1]).length 16 u.pl (kS u.text r.text (b5 b6 n z5).2).2) else(out,(b5 b6 n z5).2):=by
   by_cases he:z5.e=0
   ·obtain⟨f,rfl⟩:∃g,f=g+1:=⟨f-1,by have:=hf he;omega⟩
    rw[eX] at Y;exact Y
   ·rw[cO he];rw[ξ ω];rw[Y];cases f with
    | zero=>rfl
    | succ f=>rw[eX,cO he,ξ ω]
  have hme:(b5 b6 n z5).1=true→z5.e=0:=fun e=>by
   by_cases he:z5.e=0
   ·exact he
   ·rw[cO he] at e;cases e
  clear Y;generalize b5 b6 n z5=m at hm hmt hm2 hm3 A hme;obtain⟨b,z6⟩:=m;dsimp only at hm hmt hm2 hm3 A hme;have hm3:z6.R.length≤z5.R.length:=hm3;refine aA (sk 2 rfl (kc hm ?_));refine az ?_;cases b with
  | true=>
   rw[θ rfl] at A;obtain⟨e3,hn60⟩:=hmt rfl;have he2:=hme rfl;have hf:=hf he2;unfold kS at A;have hw:=gZ hm2 1 (by decide);have h7:=hm2.word (k:=1) (by decide);have l7:=Ze.word 1 z6;generalize aR 1 z6=y at hw h7 l7 A;obtain⟨mt,z7⟩:=y;dsimp only at hw h7 l7 A;have l7:z7.R.length≤z6.R.length:=l7;have hnd:=cP h7 eU;have h8:=h7.need eU;have l8:=Ze.need eU z7;generalize aQ eU z7=z8 at hnd h8 l8 A;have l8:z8.R.length≤z7.R.length:=l8;have hsc:=qH h8 hwt;obtain⟨h10,hso,c3,c4⟩:=fO h8 hwt;generalize bO z8=y at hsc h10 hso c3 c4 A;obtain⟨s,E⟩:=y;dsimp only at hsc h10 hso c3 c4 A;have c4:E.R.length≤z8.R.length:=c4;have hsv:=hso.v;have hsl:=hso.l;have hpe:(s.preds.map aM).length=s.preds.length:=η _;have hve:(s.vars.map bE).length=s.vars.length:=η _;refine aB rfl (fun _=>aD (aA (aF (sk 1 rfl (kc hw ?_))))) (fun hb=>Bool.noConfusion hb);refine kz 2 rfl (sk 1 rfl (kc hnd ?_));refine az (sk 1 rfl (kc hsc ?_));refine kz 2 rfl (sgh [(2,.id 506),(9,.id 507)] rfl (aA (sg rfl (aF (aK (fun j:Nat=>mk [(0,xP),(2,.one (.vp 2 0)),(4,.one (.vp 4 0)),(5,.one (.vp 5 0)),(6,.one (.vp 6 0)),(8,I .i64 (n:Nat)),(9,.one (.vp 9 0)),(10,.one (.vp 10 0)),(11,.one (.vp 11 0)),(12,I .i64 (j:Nat))] (clH L E u r sup out++clM mt s (r.text::tH r.text (s.vars.take j)) [⟨u.text,.mk 2 0 r.text []⟩])) (fun j=>j≤s.vars.length) (fun j=>s.vars.length-j) 0 (Ac _) sl ?_)))));intro j hj;have hfl:=List.length_filter_le (fun x=>!decide (x=r.text)) (s.vars.take j);rw[Am] at hfl;have hfl:(tH r.text (s.vars.take j)).length≤120060000:=by show(List.filter _ _).length≤_;omega
   refine aA (sg rfl (aB rfl (fun hb=>?_) (fun hb=>?_)))
   ·have hlt:=ltD hb hve;obtain⟨x,hx⟩:=aN hlt;have hx':=aY bE hx;have M:=aFd (v:=r.text) hx;have hfe:((r.text::tH r.text (s.vars.take j)).map bE).length=(r.text::tH r.text (s.vars.take j)).length:=η _;have hcl:(r.text::tH r.text (s.vars.take j)).length=(tH r.text (s.vars.take j)).length+1:=rfl;refine aD (aA (aF (sgh [(3,.row j (bE x))] rfl ?_)));by_cases hxv:x=r.text
    ·have d1:(!decide (x=r.text))=false:=by rw[φ hxv];rfl
     rw[θ hxv] at M;refine aB rfl (fun hb=>absurd (hb.symm.trans d1) Bool.noConfusion) (fun _=>aD (agN [] rfl ⟨j+1,hlt,by dsimp only;omega,?_⟩));dsimp only;rw[M];exact sl
    ·have d1:(!decide (x=r.text))=true:=by rw[ψ hxv];rfl
     rw[ξ hxv] at M;have U:(r.text::tH r.text (s.vars.take j)).map bE++[[.str x]]=(r.text::tH r.text (s.vars.take (j+1))).map bE:=by rw[M,←Bl,Ai];rfl
     have hle:(r.text::tH r.text (s.vars.take (j+1))).length=((r.text::tH r.text (s.vars.take j)).map bE).length+1:=by rw[hfe,M,←Bl,ζ];rfl
     exact aB rfl (fun _=>ag [(5,.row j (bE x)),(7,.all)] rfl (agN [] rfl ⟨j+1,hlt,by dsimp only;omega,sl (hh:=⟨⟨_,rfl,.var rfl⟩,⟨_,rfl,.var rfl⟩,⟨_,rfl,.var rfl⟩,⟨_,rfl,.var rfl⟩,⟨_,rfl,.var rfl⟩,⟨_,rfl,Go.AM.Ole.arr⟩,⟨_,rfl,Go.AM.Ole.arr⟩,⟨_,rfl,.var rfl⟩,⟨_,rfl,.var rfl⟩,⟨_,rfl,.var (by rw[hle,hfe];rfl)⟩,⟨_,rfl,.arrS U⟩,⟨_,rfl,Go.AM.Ole.arr⟩,trivial⟩)⟩)) (fun hb=>absurd (hb.symm.trans d1) Bool.noConfusion)
   ·have hge:=geD hb hve hj;subst hge;rw[Aq] at hfl ⊢;have hfe:((r.text::tH r.text s.vars).map bE).length=(r.text::tH r.text s.vars).length:=η _;have hmS:(⟨mt.text,mt.pl,pT u.text r.text s⟩:Sg)=⟨mt.text,mt.pl,⟨r.text::tH r.text s.vars,⟨u.text,.mk 2 0 r.text []⟩::s.preds,s.ty⟩⟩:=rfl;rw[hmS] at A;generalize r.text::tH r.text s.vars=V at hfe A ⊢;have hP1:([(⟨u.text,.mk 2 0 r.text []⟩:Prd)].map aM)++s.preds.map aM=((⟨u.text,.mk 2 0 r.text []⟩:Prd)::s.preds).map aM:=rfl;have hP2:((⟨u.text,.mk 2 0 r.text []⟩:Prd)::s.preds).length=1+(s.preds.map aM).length:=by rw[hpe,ε];omega
    have hPe:(((⟨u.text,.mk 2 0 r.text []⟩:Prd)::s.preds).map aM).length=((⟨u.text,.mk 2 0 r.text []⟩:Prd)::s.preds).length:=η _;refine aH (sg rfl (AWp.sub (st2:=mk [(0,xP),(2,.one (.vp 2 0)),(4,.one (.vp 4 0)),(5,.one (.vp 5 0)),(6,.one (.vp 6 0)),(8,I .i64 (n:Nat)),(9,.one (.vp 9 0)),(10,.one (.vp 10 0)),(11,.one (.vp 11 0))] (clH L E u r sup out++clM mt s V (⟨u.text,.mk 2 0 r.text []⟩::s.preds))) (sl (hh:=⟨⟨_,rfl,.var rfl⟩,⟨_,rfl,.var rfl⟩,⟨_,rfl,.var rfl⟩,⟨_,rfl,.var rfl⟩,⟨_,rfl,.var rfl⟩,⟨_,rfl,Go.AM.Ole.arr⟩,⟨_,rfl,Go.AM.Ole.arr⟩,⟨_,rfl,.var rfl⟩,⟨_,rfl,.var rfl⟩,⟨_,rfl,.var (by rw[hP2];rfl)⟩,⟨_,rfl,Go.AM.Ole.arr⟩,⟨_,rfl,.arrS hP1⟩,trivial⟩)) ?_));generalize (⟨u.text,.mk 2 0 r.text []⟩:Prd)::s.preds=P at hPe A ⊢;refine AWp.sub (Sub.freeze (id:=506) rfl) ?_;refine AWp.sub (Sub.freeze (id:=507) rfl) ?_;refine AWp.sub (vp 11 (eH ⟨V,P,s.ty⟩) (hp:=.hs rfl hfe.symm (Go.AM.take_all hfe.symm) (.c .nl (.hs rfl hPe.symm (Go.AM.take_all hPe.symm) (.c .refl (.c .refl (.c .refl (.c .refl .nil)))))))) ?_;have hr1:out.map c6++[c6 ⟨mt.text,mt.pl,⟨V,P,s.ty⟩⟩]=(out++[(⟨mt.text,mt.pl,⟨V,P,s.ty⟩⟩:Sg)]).map c6:=by rw[Ai];rfl
    have hl1:(out++[(⟨mt.text,mt.pl,⟨V,P,s.ty⟩⟩:Sg)]).length=out.length+1:=by rw[ζ];rfl
    generalize out++[(⟨mt.text,mt.pl,⟨V,P,s.ty⟩⟩:Sg)]=O at hr1 hl1 A;have hlg:=jY L E O.length 16 u.pl;have h11:=h10.long O.length 16 u.pl;have l11:=Ze.long O.length 16 u.pl E;have c3':(c7 O.length 16 u.pl E).e=0→E.e=0:=fun e=>by
     unfold c7 at e;split at e
     ·exact(gF (by decide) e).elim
     ·exact e
    generalize c7 O.length 16 u.pl E=z11 at hlg h11 l11 c3' A;have l11:z11.R.length≤E.R.length:=l11;refine sgh [(8,.all)] rfl (AWp.sub (st2:=mk [(0,xP),(2,.one (.vp 2 0)),(4,.one (.vp 4 0)),(5,.one (.vp 5 0)),(6,.one (.vp 6 0)),(8,I .i64 (n:Nat))] (clH L E u r sup O)) (sl (hh:=⟨⟨_,rfl,.var rfl⟩,⟨_,rfl,.var rfl⟩,⟨_,rfl,.var rfl⟩,⟨_,rfl,.var rfl⟩,⟨_,rfl,.var (by rw[hl1,←hoe];rfl)⟩,⟨_,rfl,Go.AM.Ole.arr⟩,⟨_,rfl,.arrS hr1⟩,trivial⟩)) ?_);refine aC mixed (ak 6 [] rfl (kc hlg ?_));refine az (agN [] rfl ⟨(O,z11,n+1,f-1),⟨h11,by dsimp only;omega,fun h0=>by have:=c3 (c3' h0);dsimp only;omega,hn60,by dsimp only;omega,A⟩,?_,sl⟩);dsimp only;rw[θ he2];split
    ·rename_i h0;have:=c3 (c3' h0);omega
    ·omega
  | false=>
   rw[ξ ω] at A;subst A;dsimp only;have hnd3:=cP hm2 b6;refine aB rfl (fun hb=>Bool.noConfusion hb) (fun _=>aH (sk 1 rfl (kc hnd3 ?_)));refine az (AWp.sub (Sub.freeze (id:=504) rfl) ?_);refine AWp.sub (Sub.freeze (id:=505) rfl) ?_;exact sg rfl (aE (rtC trw (hc:=.agg (.c .refl (.c .refl (.c .refl (.c .nl (.hs rfl hse.symm (Go.AM.take_all hse.symm) (.hs rfl hoe.symm (Go.AM.take_all hoe.symm) .nil)))))))))
 by_cases hlt:i<ps.length
 case neg=>
  have d0:decide ((i:Int)<((ps.map aM).length:Int))=false:=ψ (by omega);rw[drop_eq_nil_of_le (by omega),c9] at B;obtain⟨rfl,rfl⟩:=Prod.mk.inj B;exact aA (sgh [(4,.bv false),(7,.bv false)] rfl (aB rfl (fun hb=>Bool.noConfusion hb) (fun _=>aH (hend _ sl))))
 have d0:decide ((i:Int)<((ps.map aM).length:Int))=true:=φ (by omega);obtain⟨p,hp⟩:=aN hlt;have hp':=aY aM hp;have hds:ps.drop i=p::ps.drop (i+1):=by
  obtain⟨k1,k2⟩:=Af.1 hp;rw[←k2];exact Aw k1
 rw[hds,c9] at B;by_cases he:z5.e=0
 case neg=>
  rw[ξ he] at B;obtain⟨rfl,rfl⟩:=Prod.mk.inj B;rw[ψ he] at ho;refine aA (skh 6 [(4,.bv true)] rfl (kcG ho ?_));exact ak 1 [(4,.bv true),(7,.bv true)] rfl (az (aB rfl (fun hb=>Bool.noConfusion hb) (fun _=>aH (hend _ sl))))
 rw[θ he] at B;rw[φ he] at ho;refine aA (skh 6 [(4,.bv true)] rfl (kcG ho ?_));refine ak 1 [(4,.bv true),(7,.bv true)] rfl (az (aB rfl (fun _=>aD ?_) (fun hb=>Bool.noConfusion hb)));have J:∃z6,z6=(if p.ty.form=2∧p.ty.name=r.text then z5 else bS 12 u.pl z5)∧ZA L z6:=⟨_,rfl,by split<;>first | exact h5 | exact h5.fail _ _⟩
 obtain⟨z6,J,h6⟩:=J;rw[←J] at B;have hfl:=dI L z5 12 u.pl;have U:out.map bE++[[.str p.cls]]=(out++[p.cls]).map bE:=by rw[Ai];rfl
 have hle:(out++[p.cls]).length=out.length+1:=by rw[ζ];rfl
 generalize out++[p.cls]=O at B U hle;refine aA (aF (aA (AWp.cut (mk [(0,xP),(2,.one (.vp 2 0)),(3,.one (.c (.sl 5 (ps.map aM)))),(4,.one (.vp 4 0)),(5,.one (.vp 5 0)),(6,.one (.vp 6 0)),(7,I .i64 (i:Nat))] [(700,zO L z6),(2,.var 90 (aQ7.map .c)),(4,.var 152 ((aG u).map .c)),(5,.var 152 ((aG r).map .c)),(6,.var 90 [.c (.str u.text),.c (.int .i64 u.pl),.c (.str r.text),.c .nl,.hs 504 0 out.length out.length,.c .nl]),(504,.arr 9 1 (out.map bE) 0)]) ?_ ?_)))
 ·by_cases hf:p.ty.form=2
  ·have d1:(!decide (p.ty.form=2))=false:=by rw[φ hf];rfl
   refine sgh [(2,.row i (aM p)),(7,.bv false),(10,.row i (aM p)),(17,.bv false)] rfl ?_;by_cases hnm:p.ty.name=r.text
   ·rw[θ ⟨hf,hnm⟩] at J;subst J;have d2:(!decide (p.ty.name=r.text))=false:=by rw[φ hnm];rfl
    exact aB rfl (fun hb=>absurd (hb.symm.trans d2) Bool.noConfusion) (fun _=>aD sl)
   ·rw[ξ (fun k=>hnm k.2)] at J;subst J;have d2:(!decide (p.ty.name=r.text))=true:=by rw[ψ hnm];rfl
    refine aB rfl (fun _=>aC mixed (ak 3 [] rfl (kc hfl ?_))) (fun hb=>absurd (hb.symm.trans d2) Bool.noConfusion);exact az sl
  ·have d1:(!decide (p.ty.form=2))=true:=by rw[ψ hf];rfl
   rw[ξ (fun k=>hf k.1)] at J;subst J;refine sgh [(2,.row i (aM p)),(7,.bv true),(17,.bv true)] rfl (aB rfl (fun _=>aC mixed (ak 3 [] rfl (kc hfl ?_))) (fun hb=>Bool.noConfusion hb));exact az sl
 exact ag [(4,.row i (aM p)),(7,.all)] rfl (agN [] rfl ⟨(i+1,O,z6),⟨hlt,h6,by dsimp only;omega,B⟩,by dsimp only;omega,sl (hh:=⟨⟨_,rfl,.var rfl⟩,⟨_,rfl,.var rfl⟩,⟨_,rfl,.var rfl⟩,⟨_,rfl,.var rfl⟩,⟨_,rfl,.var (by rw[hle,←hoe];rfl)⟩,⟨_,rfl,.arrS U⟩,trivial⟩)⟩)
end
def aP1 (c:Cn):Prop:=c.fields.length≤4002∧∀x∈c.fields,WF x∧tn x≤30000
theorem aMl {L:List Tk}{z:Z}(h:ZA L z) (hwt:wt L≤30000):ZA L (rA z).2∧aP1 (rA z).1∧Ze z (rA z).2:=by
 have h1:=h.word (k:=2) (by decide);have hl:=h1.len;obtain⟨g1,g2,g3,g4⟩:=nM ((aR 2 z).2.R.length+1) [] _ h1 (fun x hx=>by cases hx) (by rw[length_nil];omega);exact⟨g1.long _ _ _,⟨g4,fun x hx=>⟨(g2 x hx).1,by have:=(g2 x hx).2;omega⟩⟩,((Ze.word 2 z).trans g3).trans (Ze.long _ _ _ _)⟩
theorem aAc {L:List Tk}(hwt:wt L≤30000) (a:Int):∀(f:Nat) (out:List Cn) (z:Z),ZA L z→out.length+z.R.length≤4002→(∀c∈out,aP1 c)→ZA L (jV f a out z).2∧((jV f a out z).1.length≤4002∧∀c∈(jV f a out z).1,aP1 c)∧Ze z (jV f a out z).2
 | 0,out,z,h,hl,ho=>by rw[jV];exact⟨h,⟨by dsimp only;omega,ho⟩,Ze.refl z⟩
 | f+1,out,z,h,hl,ho=>by
  rw[jV];obtain⟨g1,g2,g3⟩:=aMl h hwt;have h2:=g1.long (out++[(rA z).1]).length 16 a;have q:=g3.trans (Ze.long (out++[(rA z).1]).length 16 a _);have hle:(out++[(rA z).1]).length=out.length+1:=by rw[ζ];rfl
  have j:∀c∈out++[(rA z).1],aP1 c:=fun c hc=>by
   rcases Bi.1 hc with hc | hc
   ·exact ho c hc
   ·rw[A4.1 hc];exact g2
  have A:=h.lp;split
  ·rename_i hm;have B:=eG h2 hm;have E:(c7 (out++[(rA z).1]).length 16 a (rA z).2).R.length≤z.R.length:=q;obtain⟨r,u,y⟩:=aAc hwt a f _ _ (h2.may tK) (by omega) j;exact⟨r,u,(q.trans (Ze.may _ _)).trans y⟩
  ·exact⟨h2.may tK,⟨by dsimp only;omega,j⟩,q.trans (Ze.may _ _)⟩
theorem aIy {L:List Tk}{z:Z}(h:ZA L z) (hwt:wt L≤30000):ZA L (kT z).2∧DtOk (kT z).1∧Ze z (kT z).2:=by
 have h1:=h.word (k:=2) (by decide);have j:=dT h1;have h2:ZA L (kU z).2.2:=(h1.words.long _ _ _).need _;have q:Ze z (kU z).2.2:=((Ze.word 2 z).trans (Ze.words _)).trans ((Ze.long _ _ _ _).trans (Ze.need _ _));have hc:ZA L (jU (kU z)).2∧((jU (kU z)).1.length≤4002∧∀c∈(jU (kU z)).1,aP1 c)∧Ze (kU z).2.2 (jU (kU z)).2:=by
  unfold jU;split
  ·exact aAc hwt _ _ [] _ h2 (by rw[length_nil];have:=h2.len;omega) (fun c hc=>by cases hc)
  ·exact⟨h2,⟨Ac _,fun c hc=>(by cases hc)⟩,Ze.refl _⟩
 exact⟨hc.1,⟨by show((kU z).2.1.map _).length≤_;rw[η];exact j,hc.2.1⟩,q.trans hc.2.2⟩
structure PgOk (n:Nat) (p:Pg):Prop where
 d:p.datas.length≤n∧∀d∈p.datas,DtOk d
 c:p.classes.length≤n∧∀c∈p.classes,ClOk c
 i:p.insts.length≤n∧∀x∈p.insts,InOk x
 b:p.binds.length≤n∧dZ p.binds
theorem aG1 {α:Type}{l:List α}{x:α}{n:Nat}(h:l.length≤n):(l++[x]).length≤n+1:=by rw[ζ,Bc];omega
theorem y3 {α:Type}{P:α→Prop}{l:List α}{x:α}(h:∀y∈l,P y) (hx:P x):∀y∈l++[x],P y:=fun y hy=>by
 rcases Bi.1 hy with hy | hy
 ·exact h y hy
 ·rw[A4.1 hy];exact hx
section
variable {L:List Tk}{ex:Nat→Z→Ex×Z}(hO:ExO L ex) (hwt:wt L≤30000)
include hO hwt
theorem sN {n:Nat}{p:Pg}{sigs:List Sg}{z:Z}(h:ZA L z) (hp:PgOk n p) (hs:eW sigs∧sigs.length≤n):ZA L (eE ex p sigs z).2∧PgOk (n+1) (eE ex p sigs z).1.1∧(eW (eE ex p sigs z).1.2∧(eE ex p sigs z).1.2.length≤n+1)∧((eE ex p sigs z).2.e=0→(eE ex p sigs z).2.R.length<z.R.length)∧Ze z (eE ex p sigs z).2:=by
 obtain⟨q,hc,hi,hb⟩:=hp;have up:∀{m:Nat},m≤n→m≤n+1:=fun h=>Nat.le_succ_of_le h
 unfold eE;split
 ·rename_i hm;have c:=eG h hm;obtain⟨g1,g2,g3⟩:=aIy (h.may jT) hwt;have j:(kT (bP jT z).2).2.R.length≤(bP jT z).2.R.length:=g3;exact⟨g1,⟨⟨aG1 q.1,y3 q.2 g2⟩,⟨up hc.1,hc.2⟩,⟨up hi.1,hi.2⟩,⟨up hb.1,hb.2⟩⟩,⟨hs.1,up hs.2⟩,fun _=>Bt j c,le_of_lt (Bt j c)⟩
 split
 ·rename_i hm;have c:=eG h hm;obtain⟨g1,g2,g3⟩:=aFm (h.may eZ) hwt;have j:(eY (bP eZ z).2).2.R.length≤(bP eZ z).2.R.length:=g3;exact⟨g1,⟨⟨up q.1,q.2⟩,⟨aG1 hc.1,y3 hc.2 g2⟩,⟨up hi.1,hi.2⟩,⟨up hb.1,hb.2⟩⟩,⟨hs.1,up hs.2⟩,fun _=>Bt j c,le_of_lt (Bt j c)⟩
 split
 ·rename_i hm;have c:=eG h hm;obtain⟨g1,g2,g3⟩:=aIq hO hwt (h.may iV);have j:(lQ ex (bP iV z).2).2.R.length≤(bP iV z).2.R.length:=g3;exact⟨g1,⟨⟨up q.1,q.2⟩,⟨up hc.1,hc.2⟩,⟨aG1 hi.1,y3 hi.2 g2⟩,⟨up hb.1,hb.2⟩⟩,⟨hs.1,up hs.2⟩,fun _=>Bt j c,le_of_lt (Bt j c)⟩
 ·obtain⟨g1,g2,g3,g4,g5,g6,g7⟩:=kL hO hwt sigs p.binds 0 h hs.1 hb.2;exact⟨g1,⟨⟨up q.1,q.2⟩,⟨up hc.1,hc.2⟩,⟨up hi.1,hi.2⟩,⟨by show(aZ ex sigs p.binds 0 z).1.2.length≤_;omega,g3⟩⟩,⟨g2,by show(aZ ex sigs p.binds 0 z).1.1.length≤_;omega⟩,g6,g7⟩
end
def aS2:List C:=[.nl,.nl,.nl,.nl]
def pgH (L:List Tk) (z:Z) (p:Pg) (sigs:List Sg):List (Nat×AObj):=[(700,zO L z),(2,.var 29 (aS2.map .c)),(3,.var 29 [.hs 520 0 p.datas.length p.datas.length,.hs 521 0 p.classes.length p.classes.length,.hs 522 0 p.insts.length p.insts.length,.hs 511 0 p.binds.length p.binds.length]),(510,sgA sigs 0),(511,bdA p.binds 0),(520,.arr 81 5 (p.datas.map fM) 0),(521,.arr 90 6 (p.classes.map fN) 0),(522,.arr 95 6 (p.insts.map iD) 0)]
section
variable {L:List Tk}{ex:Nat→Z→Ex×Z}{N:Nat}(hO:ExO L ex) (hS:ExS L ex N) (hwt:wt L≤30000)
include hO hS hwt
theorem aCg {z:Z}(h:ZA L z) (hN:z.R.length≤N):b8 Tryz.prog 40 [xP] [(700,zO L z)] (.pa (mI (eT ex z).1)) [(700,zO L (eT ex z).2)]:=by
 have hWx:∃W,W=iB ex (z.R.length+1) 0 zPg [] z:=⟨_,rfl⟩
 obtain⟨W,O⟩:=hWx;unfold eT;rw[←O];refine bM (n:=54) tok Tryz.func40 rfl rfl rfl ?_;refine sg rfl (sg rfl (sg rfl (AWp.sub (Sub.own (t:=4) (id:=510) 92 9 rfl rfl) ?_)));refine AWp.sub (Sub.ownCell (x:=3) (k:=0) (id:=520) 81 5 rfl rfl rfl) ?_;refine AWp.sub (Sub.ownCell (x:=3) (k:=1) (id:=521) 90 6 rfl rfl rfl) ?_;refine AWp.sub (Sub.ownCell (x:=3) (k:=2) (id:=522) 95 6 rfl rfl rfl) ?_;refine AWp.sub (Sub.ownCell (x:=3) (k:=3) (id:=511) 99 33 rfl rfl rfl) ?_;refine aA (sg rfl (aF (aK (fun q:(Pg×List Sg)×Z×Nat×Nat=>mk [(0,xP),(2,.one (.vp 2 0)),(3,.one (.vp 3 0)),(4,hsV 510 q.1.2.length),(5,I .i64 (q.2.2.1:Nat))] (pgH L q.2.1 q.1.1 q.1.2)) (fun q=>ZA L q.2.1∧PgOk q.2.2.1 q.1.1∧(eW q.1.2∧q.1.2.length≤q.2.2.1)∧q.2.1.R.length≤z.R.length∧(q.2.1.e=0→q.2.1.R.length<q.2.2.2)∧q.2.2.1≤60∧W=iB ex q.2.2.2 q.2.2.1 q.1.1 q.1.2 q.2.1) (fun q=>if q.2.1.e=0 then q.2.1.R.length+1 else 0) ((zPg,[]),z,0,z.R.length+1) ⟨h,⟨⟨le_refl _,fun d Y=>(by cases Y)⟩,⟨le_refl _,fun d Y=>(by cases Y)⟩,⟨le_refl _,fun d Y=>(by cases Y)⟩,⟨le_refl _,trivial⟩⟩,⟨fun d Y=>(by cases Y),le_refl _⟩,le_refl _,fun _=>Bk _,Ac _,O⟩ sl ?_)));clear O h;rintro⟨⟨p,sigs⟩,z3,n,f⟩ ⟨h,hp,hs,hR,hf,hn,O⟩;dsimp only at h hp hs hR hf hn O ⊢;have ab:(p.datas.map fM).length=p.datas.length:=η _;have ac:(p.classes.map fN).length=p.classes.length:=η _;have ad:(p.insts.map iD).length=p.insts.length:=η _;have hbe:(p.binds.map aW).length=p.binds.length:=η _;have hdl:=hp.d.1;have hcl:=hp.c.1;have hil:=hp.i.1;have hbl:=hp.b.1;have hsl:=hs.2;have hm:=qJ h [] n (by omega);have ae:= @dC [] n z3;have A:=h.more [] n;have aa:=Ze.more [] n z3;have M:W=if(b5 [] n z3).1=true then iB ex (f-1) (n+1) (eE ex p sigs (b5 [] n z3).2).1.1 (eE ex p sigs (b5 [] n z3).2).1.2 (eE ex p sigs (b5 [] n z3).2).2 else((p,sigs),(b5 [] n z3).2):=by
  by_cases he:z3.e=0
  ·obtain⟨f,rfl⟩:∃g,f=g+1:=⟨f-1,by have:=hf he;omega⟩
   rw[iB] at O;exact O
  ·rw[cO he];rw[ξ ω];rw[O];cases f with
   | zero=>rfl
   | succ f=>rw[iB,cO he,ξ ω]
 have af:(b5 [] n z3).1=true→z3.e=0:=fun e=>by
  by_cases he:z3.e=0
  ·exact he
  ·rw[cO he] at e;cases e
 clear O;generalize b5 [] n z3=m at hm ae A aa M af;obtain⟨b,z4⟩:=m;dsimp only at hm ae A aa M af;have aa:z4.R.length≤z3.R.length:=aa;refine aA (sk 2 rfl (kc hm ?_));refine az ?_;cases b with
 | true=>
  rw[θ rfl] at M;obtain⟨e3,hn60⟩:=ae rfl;have he2:=af rfl;have hf:=hf he2;obtain⟨D1,D2,D3,D4,D5⟩:=sN hO hwt A hp hs;have j:∀st,Sub (keys [(700,zO L z)]) (mk [(0,xP),(2,.one (.vp 2 0)),(3,.one (.vp 3 0)),(4,hsV 510 (eE ex p sigs z4).1.2.length),(5,I .i64 ((n+1:Nat):Int))] (pgH L (eE ex p sigs z4).2 (eE ex p sigs z4).1.1 (eE ex p sigs z4).1.2)) st→∃q:(Pg×List Sg)×Z×Nat×Nat,(ZA L q.2.1∧PgOk q.2.2.1 q.1.1∧(eW q.1.2∧q.1.2.length≤q.2.2.1)∧q.2.1.R.length≤z.R.length∧(q.2.1.e=0→q.2.1.R.length<q.2.2.2)∧q.2.2.1≤60∧W=iB ex q.2.2.2 q.2.2.1 q.1.1 q.1.2 q.2.1)∧(if q.2.1.e=0 then q.2.1.R.length+1 else 0)<(if z3.e=0 then z3.R.length+1 else 0)∧Sub (keys [(700,zO L z)]) (mk [(0,xP),(2,.one (.vp 2 0)),(3,.one (.vp 3 0)),(4,hsV 510 q.1.2.length),(5,I .i64 (q.2.2.1:Nat))] (pgH L q.2.1 q.1.1 q.1.2)) st:=fun st hst=>by
   have D5':(eE ex p sigs z4).2.R.length≤z4.R.length:=D5;refine⟨((eE ex p sigs z4).1,(eE ex p sigs z4).2,n+1,f-1),⟨D1,D2,D3,by dsimp only;omega,fun h0=>by have:=D4 h0;dsimp only;omega,hn60,M⟩,?_,hst⟩;dsimp only;rw[θ he2];split
   ·rename_i h0;have:=D4 h0;omega
   ·omega
  clear D1 D2 D3 D4 D5 M;unfold eE at j;refine aB rfl (fun _=>aD ?_) (fun hb=>Bool.noConfusion hb);have ha:=A.may jT;have r:= @gU jT z4;have u:=gX A jT;generalize bP jT z4=m at ha r u j;obtain⟨b,z5⟩:=m;dsimp only at ha r u j;refine aA (aF (aA (sk 1 rfl (kc u ?_))));refine az ?_;cases b with
  | true=>
   rw[θ rfl] at j;have B:=aM3 ha;generalize kT z5=y at B j;obtain⟨d,U⟩:=y;dsimp only at B j;have E:p.datas.map fM++[fM d]=(p.datas++[d]).map fM:=by rw[Ai];rfl
   have J:(p.datas++[d]).length=p.datas.length+1:=by rw[ζ];rfl
   generalize p.datas++[d]=D at E J j;refine aB rfl (fun _=>sk 3 rfl (kc B ?_)) (fun hb=>Bool.noConfusion hb);exact ak 4 [(4,.all)] rfl (az (aH (agN [] rfl (j _ (sl (hh:=⟨⟨_,rfl,.var rfl⟩,⟨_,rfl,.var rfl⟩,⟨_,rfl,.var (by rw[J,←ab];rfl)⟩,⟨_,rfl,Go.AM.Ole.arr⟩,⟨_,rfl,Go.AM.Ole.arr⟩,⟨_,rfl,.arrS E⟩,⟨_,rfl,Go.AM.Ole.arr⟩,⟨_,rfl,Go.AM.Ole.arr⟩,trivial⟩))))))
  | false=>
  obtain rfl:=r rfl;rw[ξ ω] at j;refine aB rfl (fun hb=>Bool.noConfusion hb) (fun _=>aD ?_);clear ha u r;have ha:=A.may eZ;have r:= @gU eZ z5;have u:=gX A eZ;generalize bP eZ z5=m at ha r u j;obtain⟨b,U⟩:=m;dsimp only at ha r u j;refine aA (sk 1 rfl (kc u ?_));refine az ?_;cases b with
  | true=>
   rw[θ rfl] at j;have B:=aJg hwt ha;generalize eY U=y at B j;obtain⟨d,z7⟩:=y;dsimp only at B j;have E:p.classes.map fN++[fN d]=(p.classes++[d]).map fN:=by rw[Ai];rfl
   have J:(p.classes++[d]).length=p.classes.length+1:=by rw[ζ];rfl
   generalize p.classes++[d]=D at E J j;refine aB rfl (fun _=>sk 3 rfl (kc B ?_)) (fun hb=>Bool.noConfusion hb);exact ak 4 [(4,.all)] rfl (az (aH (agN [] rfl (j _ (sl (hh:=⟨⟨_,rfl,.var rfl⟩,⟨_,rfl,.var rfl⟩,⟨_,rfl,.var (by rw[J,←ac];rfl)⟩,⟨_,rfl,Go.AM.Ole.arr⟩,⟨_,rfl,Go.AM.Ole.arr⟩,⟨_,rfl,Go.AM.Ole.arr⟩,⟨_,rfl,.arrS E⟩,⟨_,rfl,Go.AM.Ole.arr⟩,trivial⟩))))))
  | false=>
  obtain rfl:=r rfl;rw[ξ ω] at j;refine aB rfl (fun hb=>Bool.noConfusion hb) (fun _=>aD ?_);clear ha u r;have ha:=A.may iV;have r:= @gU iV U;have u:=gX A iV;have lm:(bP iV U).2.R.length≤U.R.length:=Ze.may iV U;generalize bP iV U=m at ha r u lm j;obtain⟨b,z7⟩:=m;dsimp only at ha r u lm j;refine aA (sk 1 rfl (kc u ?_));refine az ?_;cases b with
  | true=>
   rw[θ rfl] at j;have B:=aMz hO hS hwt ha (by omega);generalize lQ ex z7=y at B j;obtain⟨d,z8⟩:=y;dsimp only at B j;have E:p.insts.map iD++[iD d]=(p.insts++[d]).map iD:=by rw[Ai];rfl
   have J:(p.insts++[d]).length=p.insts.length+1:=by rw[ζ];rfl
   generalize p.insts++[d]=D at E J j;refine aB rfl (fun _=>sk 3 rfl (kc B ?_)) (fun hb=>Bool.noConfusion hb);exact ak 4 [(4,.all)] rfl (az (aH (agN [] rfl (j _ (sl (hh:=⟨⟨_,rfl,.var rfl⟩,⟨_,rfl,.var rfl⟩,⟨_,rfl,.var (by rw[J,←ad];rfl)⟩,⟨_,rfl,Go.AM.Ole.arr⟩,⟨_,rfl,Go.AM.Ole.arr⟩,⟨_,rfl,Go.AM.Ole.arr⟩,⟨_,rfl,Go.AM.Ole.arr⟩,⟨_,rfl,.arrS E⟩,trivial⟩))))))
  | false=>
  obtain rfl:=r rfl;rw[ξ ω] at j;refine aB rfl (fun hb=>Bool.noConfusion hb) (fun _=>aD ?_);have ah:=vJ hS hwt sigs p.binds 0 A (by omega) (by decide) (by omega) (by omega);generalize aZ ex sigs p.binds 0 z7=y at ah j;obtain⟨⟨S,Bs⟩,z8⟩:=y;dsimp only at ah j;refine aC mixed (ak 4 [] rfl (kc ah ?_));exact kz 6 rfl (agN [] rfl (j _ sl))
 | false=>
  rw[ξ ω] at M;subst M;unfold rX;dsimp only;have ai:=aF0 sigs p.binds A (by omega) (by omega);obtain⟨p1,p2,p3,p4⟩:=fK sigs p.binds z4 A hs.1 hp.b.2;generalize dF sigs p.binds z4=y at ai p1 p2 p3 p4 ⊢;obtain⟨Bs,U⟩:=y;dsimp only at ai p1 p2 p3 p4 ⊢;have hBl:p.binds.length=(Bs.map aW).length:=by rw[η,p3]
  refine aB rfl (fun hb=>Bool.noConfusion hb) (fun _=>aH (AWp.sub (Sub.freeze (id:=510) rfl) ?_));refine sk 4 rfl (kc ai ?_);refine kz 2 rfl (AWp.sub (Sub.freeze (id:=511) rfl) ?_);refine AWp.sub (Sub.freeze (id:=520) rfl) ?_;refine AWp.sub (Sub.freeze (id:=521) rfl) ?_;refine AWp.sub (Sub.freeze (id:=522) rfl) ?_;exact sg rfl (aE (rtC trw (hc:=.agg (.hs rfl ab.symm (Go.AM.take_all ab.symm) (.hs rfl ac.symm (Go.AM.take_all ac.symm) (.hs rfl ad.symm (Go.AM.take_all ad.symm) (.hs rfl hBl (Go.AM.take_all hBl) .nil)))))))
end
theorem eP (s:Str) (b:Bool) (h:s.length≤2000000000):b8 Tryz.prog 69 [Go.AM.T s,B b] [] (Go.AM.T (brk b s)) []:=by
 have c:3000000000≤maxLen:=by decide
 refine bM (n:=10) tok Tryz.func69 rfl rfl rfl ?_;refine sg rfl (aA (sg rfl ?_));cases b with
 | true=>
  exact aB rfl (fun _=>sg rfl (aE rtT)) nofun
 | false=>
  exact aB rfl nofun (fun _=>aD (sg rfl (aE rtT)))
def tQ (t:Ty):Str:=brk (decide (t.form=4)) (prT t)
def fW (p:Prd):Str:=p.cls++[32]++tQ p.ty
def aKu:Str:=[44,32]
def aS7:Str:=[32,61,62,32]
def aP0 (l:List Prd):Str:=if l=[] then [] else brk (decide (1<l.length)) (Lib.join (l.map fW) aKu)++aS7
def tR (s:Sch):Str:=aP0 s.preds++prT s.ty
def aHd (p:Prd):Nat:=p.cls.length+8+tyW p.ty
def aBt (l:List Prd):Nat:=(l.map aHd).sum
def aNz (s:Sch):Nat:=aBt s.preds+8+tyW s.ty
structure SchP (s:Sch):Prop where
 t:PT s.ty
 p:∀p∈s.preds,PT p.ty
 l:s.preds.length≤100000
theorem yQ {t:Ty}(h:PT t):(prT t).length≤tyW t:=iO _ _ t h
theorem yD {t:Ty}(h:PT t):(tQ t).length≤tyW t+2:=by
 have h1:=dR (decide (t.form=4)) (prT t);have h2:=yQ h;unfold tQ;omega
theorem pred_le {p:Prd}(h:PT p.ty):(fW p).length≤aHd p:=by
 have h1:=yD h;unfold fW aHd;rw[ζ,ζ,ε,length_nil];omega
theorem join_le (sep:Str):∀l:List Str,(Lib.join l sep).length≤(l.map (fun s:Str=>s.length)).sum+sep.length*l.length
 | []=>Ac _
 | x::r=>by
  have e:Lib.lens (x::r)=((x::r).map (fun s:Str=>s.length)).sum:=rfl;have c:(Lib.join (x::r) sep).length=sep.length*r.length+Lib.lens (x::r):=Lib.join_length x r sep;rw[c,e,ε,Nat.mul_add];omega
theorem aDg {α:Type}(f g:α→Nat):∀l:List α,(∀x∈l,f x≤g x)→(l.map f).sum≤(l.map g).sum
 | [],_=>le_refl _
 | x::l,h=>by
  rw[Av,Av,B3,B3];have:=h x Bq;have:=aDg f g l fun y hy=>h y (Ba _ hy)
  omega
theorem aEq {α:Type}(g:α→Nat):∀{l:List α}{x:α},x∈l→g x≤(l.map g).sum
 | y::l,x,h=>by
  rw[Av,B3];rcases Ap.1 h with rfl | h
  ·omega
  ·have:=aEq g h;omega
theorem aEv {α:Type}(g:α→Nat) (k:Nat):∀{l:List α},(∀x∈l,k≤g x)→k*l.length≤(l.map g).sum
 | [],_=>le_refl _
 | y::l,h=>by
  rw[Av,B3,ε,Nat.mul_add];have:=h y Bq;have:=aEv g k (l:=l) fun z c=>h z (Ba _ c)
  omega
theorem zI {l:List Prd}(h:∀p∈l,PT p.ty):(Lib.join (l.map fW) aKu).length≤2*aBt l:=by
 have h1:=join_le aKu (l.map fW);rw[List.map_map,η,show aKu.length=2 from rfl] at h1;have h2:(l.map ((fun s:Str=>s.length)∘fW)).sum≤(l.map aHd).sum:=aDg (fun p=>(fW p).length) aHd l fun p hp=>pred_le (h p hp)
 have c:=aEv aHd 2 (l:=l) fun p _=>by unfold aHd;omega
 unfold aBt;omega
theorem aKt {l:List Prd}(h:∀p∈l,PT p.ty):(aP0 l).length≤2*aBt l+6:=by
 have h1:=zI h;have h2:=dR (decide (1<l.length)) (Lib.join (l.map fW) aKu);unfold aP0;split
 ·exact Ac _
 ·rw[ζ,show aS7.length=4 from rfl];omega
theorem yE {s:Sch}(h:SchP s):(tR s).length≤2*aNz s:=by
 have h1:=aKt h.p;have h2:=yQ h.t;unfold tR aNz;rw[ζ];omega
theorem aI5 {t:Ty}(h:PT t) (c:tyW t≤1000000000):b8 Tryz.prog 110 [tyV t] [] (Go.AM.T (tQ t)) []:=by
 have h1:=yQ h;have hp:=aAm t h c;have hb:=eP (prT t) (decide (t.form=4)) (by omega);refine bM (n:=9) tok Tryz.func110 rfl rfl rfl ?_;refine sg rfl (sk 1 rfl (kc hp ?_));refine ak 3 [] rfl (kc hb ?_);exact kz 1 rfl (aE rtT)
theorem aCi (l:List Prd) (h:∀p∈l,PT p.ty) (hl:l.length≤100000) (hW:aBt l≤400000000):b8 Tryz.prog 112 [.one (.c (.sl 5 (l.map aM)))] [] (Go.AM.T (aP0 l)) []:=by
 have hM:3000000000≤maxLen:=by decide
 have B:(l.map aM).length=l.length:=η _;refine bM (n:=33) tok Tryz.func112 rfl rfl rfl ?_;refine sg rfl (sg rfl (AWp.sub (Sub.own (t:=3) (id:=500) 9 1 rfl rfl) ?_));refine aA (sg rfl (aF (aK (fun i:Nat=>mk [(3,.one (.hs 500 0 (l.take i).length (l.take i).length)),(6,.one (.c (.sl 5 (l.map aM)))),(7,I .i64 ((l.map aM).length:Nat)),(8,I .i64 (i:Nat))] [(500,.arr 9 1 (((l.take i).map fW).map bE) 0)]) (fun i=>i≤l.length) (fun i=>l.length-i) 0 (Ac _) sl ?_)));intro i hi;have hti:(l.take i).length=i:=by rw[Am];omega
 refine sg rfl (aA (aB rfl (fun hb=>?_) (fun hb=>?_)))
 ·have q:=ltD hb B;obtain⟨p,hp⟩:=aN q;have hp':=aY aM hp;have hm:=Ag hp;have E:aHd p≤aBt l:=aEq aHd hm;rw[show aHd p=p.cls.length+8+tyW p.ty from rfl] at E;have J:=aI5 (h p hm) (by omega);have hsl:=yD (h p hm);have r:(((l.take i).map fW).map bE).length=(l.take i).length:=by rw[η,η]
  have u:l.take (i+1)=l.take i++[p]:=i7 hp;have y:(l.take (i+1)).length=(l.take i).length+1:=by rw[u,ζ];rfl
  have A:(((l.take i).map fW).map bE)++[[.str (p.cls++[32]++tQ p.ty)]]=((l.take (i+1)).map fW).map bE:=by rw[u,Ai,Ai];rfl
  refine aD (aA (aF (sgh [(0,.row i (aM p))] rfl (aC mixed (ak 6 [] rfl (kc J ?_))))));exact ak 2 [(8,.all)] rfl (kz 2 rfl (agN [] rfl ⟨i+1,q,by dsimp only;omega,sl (he:=⟨Go.AM.hs_ren (by rw[y,←r];rfl) (by rw[y,←r];rfl),rfl,rfl,rfl,trivial⟩) (hh:=⟨⟨_,rfl,.arrS A⟩,trivial⟩)⟩))
 ·have M:=geD hb B hi;subst M;refine aH ?_;rw[Aq];have hjl:=zI h;have O:((l.map fW).map bE).length=l.length:=by rw[η,η]
  have Y:=aF3 (l.map fW) aKu (by rw[η];omega) (by omega);have U:=eP (Lib.join (l.map fW) aKu) (decide ((1:Int)<((((l.map fW).map bE).length:Nat):Int))) (by omega);have hbl:=dR (decide ((1:Int)<((((l.map fW).map bE).length:Nat):Int))) (Lib.join (l.map fW) aKu);refine AWp.sub (Sub.freeze (id:=500) rfl) ?_;refine AWp.sub (st2:=mk [(3,cM (l.map fW))] []) ?_ ?_
  ·refine Sub.trans ?_ (cv 3 ((l.map fW).map bE));exact sl
  refine aA (sg rfl ?_);unfold aP0;by_cases j:l=[]
  ·have d:decide (((((l.map fW).map bE).length:Nat):Int)=0)=true:=φ (by rw[j];rfl);rw[θ j];exact aB rfl (fun _=>sg rfl (aE rtT)) (fun hb=>Bool.noConfusion (hb.symm.trans d))
  ·have aa:0<l.length:=Cp.2 j;have d:decide (((((l.map fW).map bE).length:Nat):Int)=0)=false:=ψ (by omega);have e1:decide (1<l.length)=decide ((1:Int)<((((l.map fW).map bE).length:Nat):Int)):=by
    rw[O];by_cases h1:1<l.length
    ·rw[φ h1,φ (by omega)]
    ·rw[ψ h1,ψ (by omega)]
   rw[ξ j,e1];refine aB rfl (fun hb=>Bool.noConfusion (hb.symm.trans d)) (fun _=>aD (sk 1 rfl (kc Y ?_)));refine ak 3 [] rfl (kc U ?_);exact kz 2 rfl (aE rtT)
theorem rB {s:Sch}(h:SchP s) (c:aNz s≤400000000):b8 Tryz.prog 73 [.pa (eH s)] [] (Go.AM.T (tR s)) []:=by
 have j:3000000000≤maxLen:=by decide
 unfold aNz at c;have h1:=aCi s.preds h.p h.l (by omega);have h2:=aAm s.ty h.t (by omega);have q:=aKt h.p;have r:=yQ h.t;refine bM (n:=10) tok Tryz.func73 rfl rfl rfl ?_;refine sg rfl (sk 2 rfl (kc h1 ?_));refine ak 2 [] rfl (kc h2 ?_);exact kz 2 rfl (aE rtT)
def aJv (l:List Str):Str:=if l=[] then [123,32,125] else [123,32]++Lib.join l [32,59,32]++[32,125]
theorem aAq (l:List Str) (hl:l.length≤1000000) (u:(Lib.join l [32,59,32]).length≤2000000000):b8 Tryz.prog 72 [cM l] [] (Go.AM.T (aJv l)) []:=by
 unfold aJv;have y:3000000000≤maxLen:=by decide
 have j:(l.map bE).length=l.length:=η _;have q:=aF3 l [32,59,32] (by omega) (by omega);refine bM (n:=10) tok Tryz.func72 rfl rfl rfl ?_;refine sg rfl (aA (sg rfl ?_));rw[j];by_cases c:l=[]
 ·have d:decide ((l.length:Int)=0)=true:=φ (by rw[c];rfl);rw[θ c];exact aB rfl (fun _=>sg rfl (aE rtT)) (fun hb=>Bool.noConfusion (hb.symm.trans d))
 ·have r:0<l.length:=Cp.2 c;have d:decide ((l.length:Int)=0)=false:=ψ (by omega);rw[ξ c];refine aB rfl (fun hb=>Bool.noConfusion (hb.symm.trans d)) (fun _=>aD (sk 1 rfl (kc q ?_)));exact kz 3 rfl (aE rtT)
theorem aFe {t:Tk}{R:List Tk}(h:mZ R):mZ (t::R):=by
 obtain⟨p,e,rfl,he⟩:=h;exact⟨t::p,e,rfl,he⟩
theorem aEj {c:UInt8}{r:Str}{k:Int}{t:Str}{v:Int}(h:o8 (c::r)=.ok (k,t,v)):(k=4→v=0)∧1≤k∧k≤5:=by
 rw[o8] at h;split at h
 ·split at h
  ·cases h
  ·cases h;exact⟨fun e=>by omega,by decide,by decide⟩
 split at h
 ·unfold s9 at h;split at h
  ·cases h
  split at h
  ·cases h;exact⟨fun e=>by omega,by decide,by decide⟩
  split at h
  ·cases h;exact⟨fun e=>by omega,by decide,by decide⟩
  ·cases h;exact⟨fun e=>by omega,by decide,by decide⟩
 split at h
 ·cases h
 ·cases h;exact⟨fun _=>rfl,by decide,by decide⟩
structure LOk (L:List Tk) (n:Nat):Prop where
 e:mZ L
 w:wt L≤7*n+6
 l:L.length≤n+1
 z:o5 L
theorem wW:∀(f a:Nat) (s:Str) (l:List Tk),n6 f a s=.ok l→LOk l s.length
 | 0,a,s,l,h=>by
  rw[n6] at h;cases h;refine⟨⟨[],_,rfl,rfl⟩,by rw[fR];show 0+6+0≤_;omega,by simp,fun t ht=>?_⟩;rw[A4.1 ht];exact fun _=>rfl
 | f+1,a,[],l,h=>by
  rw[n6] at h;cases h;refine⟨⟨[],_,rfl,rfl⟩,by rw[fR];exact le_refl _,by simp,fun t ht=>?_⟩;rw[A4.1 ht];exact fun _=>rfl
 | f+1,a,c::r,l,h=>by
  rw[n6] at h;split at h
  ·rename_i hb;obtain⟨g1,g2,g3,g4⟩:=wW f _ _ l h;rw[Bg] at g2 g3;exact⟨g1,by omega,by omega,g4⟩
  ·cases ho:o8 (c::r) with
   | error e=>rw[ho] at h;cases h
   | ok y=>
    obtain⟨k,t,v⟩:=y;rw[ho] at h;dsimp only at h;cases j:n6 f (a+t.length) ((c::r).drop t.length) with
    | error e=>rw[j,v7] at h;cases h
    | ok q=>
     rw[j,v7] at h;cases h;obtain⟨g1,g2,g3,g4⟩:=wW f _ _ q j;obtain⟨B,E⟩:=s7 ho;obtain⟨A,I,J⟩:=aEj ho;rw[Bg] at g2 g3;refine⟨aFe g1,?_,?_,fun u hu=>?_⟩
     ·rw[fR];show t.length+6+wt q≤_;omega
     ·rw[ε];omega
     ·rcases Ap.1 hu with rfl | hu
      ·exact A
      ·exact g4 u hu
theorem aL7 {s:Str}{l:List Tk}(h:oB s=.ok l):LOk l s.length∧s.length≤4000:=by
 unfold oB at h;split at h
 ·cases h
 ·exact⟨wW _ _ _ _ h,by omega⟩
theorem sD:∀(f a:Nat) (s:Str) (e p:Int),n6 f a s=.error (e,p)→¬e=0
 | 0,a,s,e,p,h=>by rw[n6] at h;cases h
 | f+1,a,[],e,p,h=>by rw[n6] at h;cases h
 | f+1,a,c::r,e,p,h=>by
  rw[n6] at h;split at h
  ·exact sD f _ _ e p h
  ·cases ho:o8 (c::r) with
   | error e'=>
    rw[ho] at h;dsimp only at h;cases h;exact s8 ho
   | ok y=>
    obtain⟨k,t,v⟩:=y;rw[ho] at h;dsimp only at h;cases j:n6 f (a+t.length) ((c::r).drop t.length) with
    | error e'=>obtain⟨e',q⟩:=e';rw[j,v7] at h;cases h;exact sD f _ _ e p j
    | ok u=>rw[j,v7] at h;cases h
theorem sE {s:Str}{e p:Int}(h:oB s=.error (e,p)):¬e=0:=by
 unfold oB at h;split at h
 ·cases h;decide
 ·exact sD _ _ _ _ _ h
def uU:Tk:=⟨6,[],0,0⟩
def cL (s:Str):List Tk×Z:=match oB s with
 | .ok l=>(l,⟨l,0,0⟩)
 | .error (e,p)=>([uU],⟨[uU],e,p⟩)
theorem mS (s:Str):ZA (cL s).1 (cL s).2∧wt (cL s).1≤30000∧o5 (cL s).1∧(cL s).1=(cL s).2.R:=by
 unfold cL;cases h:oB s with
 | ok l=>
  obtain⟨⟨h1,h2,j,c⟩,q⟩:=aL7 h;refine⟨⟨?_,h1,by dsimp only;omega⟩,by dsimp only;omega,c,rfl⟩;show l.drop (l.length-l.length)=l;rw[Cb];rfl
 | error e=>
  obtain⟨e,p⟩:=e;refine⟨⟨rfl,⟨[],uU,rfl,rfl⟩,by show 1≤_;decide⟩,?_,?_,rfl⟩
  ·show wt [uU]≤30000;decide
  ·intro t ht;rw[A4.1 ht];exact fun _=>rfl
theorem aJm (s:Str):b8 Tryz.prog 38 [Go.AM.T s] [] xP [(700,zO (cL s).1 (cL s).2)]:=by
 have q:=aQs s;unfold cL;have j:= @sE s;generalize oB s=w at q j ⊢;refine bM (n:=21) tok Tryz.func38 rfl rfl rfl ?_;refine sg rfl (sk 1 rfl (kc q ?_));cases w with
 | ok l=>
  unfold aC1 atV;refine kz 6 rfl (aA (sg rfl (aB rfl (fun hb=>Bool.noConfusion hb) (fun _=>aD (sgh [(2,.id 700)] rfl ?_)))));have e:zO l ⟨l,0,0⟩=.var 78 [.c (.sl 4 (l.map aG)),.c (.int .i64 0),.c (.int .i64 0),.c (.int .i64 0)]:=by unfold zO;dsimp only;rw[Cb];rfl
  dsimp only;rw[e];exact aE rtT
 | error e=>
  obtain⟨e,p⟩:=e;have he:=j rfl;have d0:(!decide (e=0))=true:=by rw[ψ he];rfl
  unfold aC1 atV;exact kz 6 rfl (aA (sg rfl (aB rfl (fun _=>sgh [(1,.all),(4,.id 700)] rfl (aE rtT)) (fun hb=>absurd (hb.symm.trans d0) Bool.noConfusion))))
end Go.Proofs.YtpmheldmadendaaGreatDoor
