/-
  Texts Ly19 to Lx4 in one.
-/
import Derived.Test.YtglfogjcijokpaaGreatDoorM13
open List (append_assoc append_nil filter_cons flatMap_append flatMap_cons flatMap_nil foldl_append foldl_cons length_append length_cons length_eq_one_iff length_eq_zero_iff length_map length_nil map_cons map_nil mem_append mem_cons mem_cons_of_mem mem_cons_self mem_of_mem_drop mem_of_mem_take mem_singleton sum_nil take_add_one take_succ_cons take_zero)
open Nat (le_refl mul_add sub_self zero_le)
namespace Go.Proofs.YtglfogjcijokpaaGreatDoor
open Go Go.AM
set_option maxRecDepth 20000
set_option maxHeartbeats 4000000
theorem a1l:UOk zTy:=⟨by decide,by unfold zTy;rw[fvm];decide⟩
noncomputable def qO (bd:List Bind) (c:Core):CE:=if shC c=true then(zC,21) else if(dR bd (m30 c) c).2=0 then((dR bd (m30 c) c).1,0) else(zC,(dR bd (m30 c) c).2)
theorem aTi (J:dA 540000000000) {D M X:Nat}(I:M+D≤700000) {c:Core}(hc:CG D M X c) (N:¬([]:Str)∈tyR c):aQ Tryz.prog 32 [.pa (aC c),Go.AM.T [],tyV zTy] [] (.pa (aC c)) []:=by
 have h:=(aDj J I (m30 c) c (le_refl _) hc [] zTy a1l).imp;rwa [aX2 (m30 c) c (le_refl _) hc.q N] at h
section
variable {n:Nat}{U:List Str}
theorem aNs (I:dA 540000000000) (hn:n≤299) (J:U.length≤480000) (hz:¬([]:Str)∈U) {m:Mod}(N:BI U m.binds) {c:Core}(hc:ST n U c):
  aQ Tryz.prog 10 [.pa (lJ m),.pa (aC c)] [] (fD (qO m.binds c)) []:=by
 have hcs:=cV c;have O:=hc.sz;have W:=y3 403 c hc.q (by omega);have Y:=aTj I hn J N (m30 c) c (le_refl _) hc;have hok:=wJ I hn J N (m30 c) c (le_refl _) hc;unfold qO;generalize dR m.binds (m30 c) c=p at *;refine bM (n:=25) tok Tryz.func10 rfl rfl rfl ?_;refine sg rfl (a8 (sk 1 rfl (kc W ?_)));refine az ?_;cases hs:shC c with
 | true=>
  rw[ξ rfl];exact aA rfl (fun _=>sg rfl (aF (jX trw))) nofun
 | false=>
  rw[φ A5];refine aA rfl nofun (fun _=>aD (sk 3 rfl (kc Y ?_)));refine kz 6 rfl ?_;obtain⟨r,e⟩:=p;dsimp only at hok ⊢;by_cases he:e=0
  ·subst he;have Z:=hok rfl;have aa:=aTi I (by decide) (Z.cg (n:=n+1) (by omega) O J) (fun h=>hz (Z.ty _ h));rw[ξ rfl];refine a8 (sg rfl (aA rfl (fun hb=>absurd hb (by decide)) (fun _=>aD (sk 2 rfl (kc aa ?_)))));exact kz 2 rfl (aF (jX trw))
  ·rw[φ he];exact a8 (sg rfl (aA rfl (fun _=>sg rfl (aF (jX trw))) (fun hb=>absurd hb (by simp[he]))))
def whV (w:Core×Nat×Int):V:=.tup [.pa (aC w.1),I .i64 w.2.1,I .i64 w.2.2]
end
structure SG (m:Mod) (n:Nat) (U:List Str) (c:Core):Prop where
 q:dD (QL 403) c
 sz:bE c≤570000000000
 sh:shC c=true→ST n U c
 st:shC c=false→aQ Tryz.prog 31 [.pa (lJ m),.pa (aC c)] [] (fD (dR m.binds (m30 c) c)) []
 ok:shC c=false→(dR m.binds (m30 c) c).2=0→LC (dR m.binds (m30 c) c).1∧dJ (dR m.binds (m30 c) c).1≤9000000000000000000∧(dJ (dR m.binds (m30 c) c).1≤6000→ST (n+1) U (dR m.binds (m30 c) c).1)
section
variable {n:Nat}{U:List Str}
theorem SG.of (I:dA 540000000000) (hn:n≤299) (J:U.length≤480000) {m:Mod}(N:BI U m.binds) {c:Core}(hc:ST n U c):SG m n U c:=by
 have Y:=cV c;have O:=hc.sz;refine⟨hc.q,by omega,fun _=>hc,fun _=>aTj I hn J N (m30 c) c (le_refl _) hc,fun _ h=>?_⟩;have W:=wJ I hn J N (m30 c) c (le_refl _) hc h;have Z:=W.big O;have aa:=cV (dR m.binds (m30 c) c).1;have h3:=size_le (dR m.binds (m30 c) c).1;have ab:Big=250000000000:=rfl;exact⟨LC.of _ _ (le_refl _) (by omega),by omega,W.st⟩
theorem a0r (Z:dA 540000000000) (hU:U.length≤480000) (hz:¬([]:Str)∈U) {m:Mod}(hB:BI U m.binds) (F:Nat) (hn:n+F≤299) {c:Core}(hc:SG m n U c):
  aQ Tryz.prog 38 [.pa (lJ m),.pa (aC c),I .i64 F] [] (whV (jH m.binds F 0 c)) []:=by
 refine bM (n:=43) tok Tryz.func38 rfl rfl rfl ?_;refine sg rfl (sg rfl (aB (aK (fun p:Nat×Core=>mk [(2,I .i64 F),(3,.one (.vp 3 0)),(4,.one (.vp 4 0)),(6,.one (.vp 6 0)),(9,I .i64 p.1)] [(3,.var 27 ((lJ m).map .c)),(4,.var 34 (b8 p.2)),(6,.var 34 bR)]) (fun p=>p.1≤F∧SG m (n+p.1) U p.2∧jH m.binds F 0 c=jH m.binds (F-p.1) p.1 p.2) (fun p=>F-p.1) (0,c) ⟨Aj _,hc,rfl⟩ sl ?_)));rintro⟨j,x⟩ ⟨hj,hx,hw⟩;dsimp only at hj hx hw ⊢;have hsh:=y3 403 x hx.q hx.sz;refine a8 (aB (a8 (sk 1 rfl (kc hsh ?_))));refine az ?_;cases hs:shC x with
 | true=>
  have O:=hx.sh hs;have e:jH m.binds F 0 c=(x,j,0):=by
   rw[hw];cases F-j with
   | zero=>rw[jH,ξ hs]
   | succ k=>rw[jH,ξ hs]
  have hzz:=aTi Z (by decide) (O.cg (by omega) hU) (fun h=>hz (O.ty _ h));rw[e];refine aA rfl (fun _=>sk 2 rfl (kc hzz ?_)) nofun;exact kz 4 rfl (aF (a09 trw))
 | false=>
  have W:¬shC x=true:=by rw[hs];exact A5
  refine aA rfl nofun (fun _=>aD (a8 (sg rfl (aA rfl (fun hb=>?_) (fun hb=>?_)))))
  ·have J:j=F:=by have:=ψ hb;omega
   have e:jH m.binds F 0 c=(zC,0,3):=by rw[hw,J,sub_self,jH,φ (by rw[←J] at *;exact W)]
   rw[e];exact sg rfl (aF (a09 trw))
  have J:j<F:=by have:=χ hb;omega
  obtain⟨k,hk⟩:∃k,F-j=k+1:=⟨F-j-1,by omega⟩
  have hst:=hx.st hs;have hok:=hx.ok hs;rw[hk,jH,φ W] at hw;generalize dR m.binds (m30 x) x=p at *;obtain⟨r,e⟩:=p;dsimp only at hok hw ⊢;refine aD (sk 3 rfl (kc hst ?_));refine kz 6 rfl ?_;by_cases he:e=0
  ·subst he;have Y:=hok rfl;have hze:=aNd (bE r) r (le_refl _) Y.1 Y.2.1;rw[ξ rfl] at hw;refine a8 (sgh [(2,.bv true),(4,.pc (I .i64 (dJ r:Nat))),(6,.bv true)] rfl ?_);by_cases N:6000<dJ r
   ·rw[ξ N] at hw;rw[hw];exact aA rfl (fun _=>ag [] rfl (a8 (sg rfl (aA rfl (fun _=>sg rfl (aF (a09 trw))) (fun hb=>absurd hb (by decide)))))) (fun hb=>absurd hb (by simp;omega))
   ·rw[φ N] at hw;exact aA rfl (fun hb=>absurd hb (by simp;omega)) (fun _=>aD (a8 (sg rfl (aA rfl (fun hb=>by simp at hb) (fun _=>aD (ag [] rfl (ag [] rfl ⟨(j+1,r),⟨J,SG.of Z (by omega) hU hB (Y.2.2 (by omega)),by rw[hw];congr 1;omega⟩,by dsimp only;omega,sl⟩)))))))
  ·rw[φ he] at hw;rw[hw];have hd:decide (e=0)=false:=Am he;exact a8 (sgh [(2,.bv false),(6,.bv false)] rfl (aA rfl nofun (fun _=>aD (a8 (sg rfl (aA rfl (fun _=>sg rfl (aF (a09 trw))) (fun hb=>absurd hb (by simp[he]))))))))
end
theorem aSc {n B:Int}(h1: -(10*B)<n) (h2:n<10*B): -B<n.tdiv 10∧n.tdiv 10<B:=by
 rcases Int.le_total 0 n with h | h
 ·rw[Int.tdiv_eq_ediv_of_nonneg h];omega
 ·obtain⟨m,rfl⟩:∃m,n= -m:=⟨-n,by omega⟩
  rw[Int.neg_tdiv,Int.tdiv_eq_ediv_of_nonneg (by omega)];omega
theorem aXn (n:Int): -10<n.tmod 10∧n.tmod 10<10:=by
 rcases Int.le_total 0 n with h | h
 ·rw[Int.tmod_eq_emod_of_nonneg h];omega
 ·obtain⟨m,rfl⟩:∃m,n= -m:=⟨-n,by omega⟩
  rw[Int.neg_tmod,Int.tmod_eq_emod_of_nonneg (by omega)];omega
theorem aQt {n:Int}(h:i64 n):i64 (n.tdiv 10):=by
 have:=aSc (n:=n) (B:=922337203685477581) (by unfold i64 at h;omega) (by unfold i64 at h;omega);unfold i64;omega
theorem aZy (k:Nat) (J:∀n:Int,-((10:Int)^k)<n→n<(10:Int)^k→i64 n→k≤30→1≤k→∃s:Str,s.length≤k+1∧aQ Tryz.prog 67 [I .i64 n] [] (Go.AM.T s) []) (n:Int) (h1: -((10:Int)^(k+1))<n) (h2:n<(10:Int)^(k+1)) (hn:i64 n) (hk:k+1≤30):
  ∃s:Str,s.length≤k+2∧aQ Tryz.prog 67 [I .i64 n] [] (Go.AM.T s) []:=by
 obtain⟨r1,r2⟩:=aXn n;have N:=aQt hn;have hM:1000000000≤maxLen:=by decide
 obtain⟨r',q,hr0⟩:∃r':Int,(r'=if n.tmod 10<0 then 0-n.tmod 10 else n.tmod 10)∧0≤r'∧r'<10:=⟨_,rfl,by split<;>omega⟩
 obtain⟨d,hd⟩:∃d:UInt8,d=UInt8.ofNat (IntKind.u8.wrap (48+r')).toNat:=⟨_,rfl⟩
 by_cases O: -10<n∧n<10
 ·refine⟨if n<0 then [45,d] else [d],by split<;>simp,?_⟩;refine bM (n:=32) tok Tryz.func67 rfl rfl rfl ?_;refine sg rfl (sk 1 rfl (kw (op:=.rem) (a:=n) (b:=10) (n.tmod 10) rfl ?_));refine kz 1 rfl (a8 (sg rfl (AWp.cut (mk [(0,I .i64 n),(3,I .i64 r')] []) ?_ ?_)))
  ·refine aA rfl (fun hb=>?_) (fun hb=>?_)
   ·have hb:n.tmod 10<0:=ψ hb;rw[ξ hb] at q;subst q;exact ag [] rfl sl
   ·have hb:¬n.tmod 10<0:=χ hb;rw[φ hb] at q;subst q;exact aD sl
  refine sg rfl (AWp.sub (st2:=mk [(0,I .i64 n),(4,Go.AM.T [d])] []) (sl (he:=⟨rfl,by rw[hd];rfl,trivial⟩)) ?_);refine a8 (a8 (agF 3 [] rfl rfl rfl (aA rfl (fun _=>a8 (sg rfl ?_)) (fun hb=>by simp at hb;omega))));by_cases h0:n<0
  ·rw[ξ h0];exact aA rfl (fun _=>sg rfl (aF rtT)) (fun hb=>absurd h0 (χ hb))
  ·rw[φ h0];exact aA rfl (fun hb=>absurd (ψ hb) h0) (fun _=>aD (sg rfl (aF rtT)))
 ·have W:1≤k:=by
   cases k with
   | zero=>simp at h1 h2;omega
   | succ k=>omega
  have Y:(10:Int)^(k+1)=10*(10:Int)^k:=by rw[Int.pow_succ,Int.mul_comm]
  rw[Y] at h1 h2;obtain⟨Z,q2⟩:=aSc h1 h2;obtain⟨s,hs,hc⟩:=J (n.tdiv 10) Z q2 N (by omega) W;refine⟨s++[d],by rw[τ];simp;omega,?_⟩;refine bM (n:=32) tok Tryz.func67 rfl rfl rfl ?_;refine sg rfl (sk 1 rfl (kw (op:=.rem) (a:=n) (b:=10) (n.tmod 10) rfl ?_));refine kz 1 rfl (a8 (sg rfl (AWp.cut (mk [(0,I .i64 n),(3,I .i64 r')] []) ?_ ?_)))
  ·refine aA rfl (fun hb=>?_) (fun hb=>?_)
   ·have hb:n.tmod 10<0:=ψ hb;rw[ξ hb] at q;subst q;exact ag [] rfl sl
   ·have hb:¬n.tmod 10<0:=χ hb;rw[φ hb] at q;subst q;exact aD sl
  refine sg rfl (AWp.sub (st2:=mk [(0,I .i64 n),(4,Go.AM.T [d])] []) (sl (he:=⟨rfl,by rw[hd];rfl,trivial⟩)) ?_);refine a8 (a8 (agF 3 [] rfl rfl rfl (aA rfl (fun hb=>by simp at hb;exact absurd ⟨hb.1,hb.2⟩ O) (fun _=>aD (sk 1 rfl (kw (op:=.quo) (a:=n) (b:=10) (n.tdiv 10) (by show(if(10:Int)=0 then none else some (IntKind.i64.wrap (n.tdiv 10)))=some (n.tdiv 10);rw[φ (by decide),Ca _ N]) ?_))))));refine kc hc ?_;exact kz 3 rfl (aF (rtT (hc:=.refl)))
theorem aZz:∀(k:Nat) (n:Int),-((10:Int)^k)<n→n<(10:Int)^k→i64 n→k≤30→1≤k→∃s:Str,s.length≤k+1∧aQ Tryz.prog 67 [I .i64 n] [] (Go.AM.T s) []
 | 0,n,_,_,_,_,h=>absurd h (by decide)
 | k+1,n,h1,h2,h3,h4,_=>aZy k (fun n=>aZz k n) n h1 h2 h3 h4
theorem aMw (n:Int) (h:i64 n):∃s:Str,s.length≤21∧aQ Tryz.prog 67 [I .i64 n] [] (Go.AM.T s) []:=by
 have J:(10:Int)^20=100000000000000000000:=rfl;have q:=h;unfold i64 at q;exact aZz 20 n (by omega) (by omega) h (by omega) (by omega)
inductive KC:Core→Prop
 | mk {f n:Int} {s:Str} {ks:List Core} (h1:¬f=1) (h5:¬f=5) (h7:¬f=7) (hf:i64 f) (hn:i64 n) (hk:∀x∈ks,KC x):KC (.mk f n s zTy ks [] [])
theorem aM0 {ks:List Core}:∀i,dS (ks.take i)≤dS ks:=by
 induction ks with
 | nil=>intro i;simp
 | cons c l q=>
  intro i;cases i with
  | zero=>rw[Cb,dS];omega
  | succ i=>rw[Ar,dS,dS];have:=q i;omega
theorem aAk {S:Core→Str}{K:Nat}:∀{l:List Core},(∀x∈l,(S x).length≤K*bE x)→(l.flatMap S).length≤K*dS l
 | [],_=>by simp
 | c::l,h=>by
  rw[Cj,τ,dS,Cz];have:=h c η;have:=aAk (l:=l) fun x hx=>h x (ω _ hx)
  omega
theorem a3u:∀(k:Nat) (c:Core),bE c≤k→KC c→bE c≤1000000→∃s:Str,s.length≤100*bE c∧aQ Tryz.prog 81 [.pa (aC c),bI [],bI []] [] (Go.AM.T s) []:=by
 intro k
 induction k with
 | zero=>intro c h;have:=cD c;omega
 | succ k Z=>
 intro c h hc hsz;obtain⟨h1,h5,h7,hf,hn,O⟩:=hc;rename_i f n nm ks;have hM:1000000000≤maxLen:=by decide
 have hcs:bE (.mk f n nm zTy ks [] [])=1+nm.length+dS ks:=by rw[bE,iD,iF];rfl
 obtain⟨S1,l1,c1⟩:=aMw f hf;obtain⟨S2,l2,c2⟩:=aMw n hn;have J:∀x:Core,∃s:Str,x∈ks→s.length≤100*bE x∧aQ Tryz.prog 81 [.pa (aC x),bI [],bI []] [] (Go.AM.T s) []:=fun x=>by
  by_cases hx:x∈ks
  ·have:=mI hx;obtain⟨s,g1,g2⟩:=Z x (by omega) (O x hx) (by omega);exact⟨s,fun _=>⟨g1,g2⟩⟩
  ·exact⟨[],fun h=>absurd h hx⟩
 obtain⟨S,hS⟩:=Classical.axiomOfChoice J;have q:∀i,((ks.take i).flatMap S).length≤100*dS ks:=fun i=>by
  have:=aAk (S:=S) (K:=100) (l:=ks.take i) fun x hx=>(hS x (Bx hx)).1
  have:=aM0 (ks:=ks) i;omega
 have N:(aR ks).length=ks.length:=by rw[bA,θ]
 have hkc:ks.length≤dS ks:=by
  clear J hS q N hcs hsz O h Z
  induction ks with
  | nil=>simp
  | cons c l Z=>rw[dS,Ak];have:=cD c;omega
 refine⟨([40]++S1++[32]++S2++[32])++nm++(ks.take ks.length).flatMap S++[41],?_,?_⟩
 ·have:=q ks.length;simp only[τ,Ak,length_nil];omega
 have hl0:([40]++S1++[32]++S2++[32]:Str).length≤50:=by simp only[τ,Ak,length_nil];omega
 refine bM (n:=200) tok Tryz.func81 rfl rfl rfl ?_;refine sg rfl (sk 2 rfl (kc c1 ?_));refine ak 4 [] rfl ?_ (hc:=by repeat (first | exact trivial | refine⟨by first | rfl | (simp;omega),?_⟩));refine kc c2 ?_;refine ak 3 [] rfl ?_ (hc:=by repeat (first | exact trivial | refine⟨by first | rfl | (simp;omega),?_⟩));refine az ?_;generalize hpre:([40]++S1++[32]++S2++[32]:Str)=pre at *;have hd5:(!decide (f=5))=true:=by simp[h5]
 refine a8 (sg rfl (aA rfl (fun hb=>absurd (ψ hb) h1) (fun _=>aD (a8 (sgh [(3,.bv true),(7,.bv true)] rfl (aA rfl (fun _=>ag [] rfl (a8 (sg rfl (aA rfl (fun hb=>absurd hb (by simp[Core.ty,zTy,Ty.form])) (fun _=>aD (sg rfl (AWp.sub (Sub.own (t:=8) (id:=720) 9 1 rfl rfl) ?_)))))) (hc:=⟨by show pre.length+nm.length≤maxLen;omega,trivial⟩)) (fun hb=>absurd hb (by simp[Core.form,h7]))))))));refine sgh [(2,.all)] rfl (sg rfl (AWp.sub (Sub.own (t:=9) (id:=721) 9 1 rfl rfl) ?_));refine sgh [(2,.all)] rfl (a8 (sg rfl (aA rfl (fun hb=>absurd (ψ hb) h5) (fun _=>aD (a8 (sg rfl (aA rfl (fun hb=>absurd (ψ hb) h7) (fun _=>aD (AWp.sub (Sub.freeze (id:=720) rfl) (AWp.sub (Sub.freeze (id:=721) rfl) (AWp.sub (cv 8 []) (AWp.sub (cv 9 []) ?_))))))))))));refine a8 (sg rfl (aB (aK (fun _:Unit=>mk [(3,.one (.vp 3 0)),(7,Go.AM.T (pre++nm)),(8,bI []),(9,bI []),(10,I .i64 0)] [(3,.var 34 (b8 (.mk f n nm zTy ks [] [])))]) (fun _=>True) (fun _=>0) () trivial sl ?_)));intro _ _;refine a8 (sg rfl (aA rfl (fun hb=>by simp[nD,aU] at hb) (fun _=>aL (a8 (sg rfl (aB (aK (fun i:Nat=>mk [(3,.one (.vp 3 0)),(7,Go.AM.T (pre++nm++(ks.take i).flatMap S)),(8,bI []),(9,bI []),(11,I .i64 i)] [(3,.var 34 (b8 (.mk f n nm zTy ks [] [])))]) (fun i=>i≤ks.length) (fun i=>ks.length-i) 0 (Aj _) (sl (he:=⟨rfl,by rw[Cb,C4,A8];rfl,rfl,rfl,rfl,trivial⟩)) ?_)))))));intro i hi;refine a8 (sg rfl (aA rfl (fun hb=>?_) (fun hb=>?_)))
 ·have W:i<ks.length:=ltD hb N;obtain⟨x,hx⟩:=aJ W;have Y:=Ab hx;have hx':(aR ks)[i]?=some (aC x):=by rw[bA];exact bO aC hx
  obtain⟨g1,g2⟩:=hS x Y;have hst:(ks.take (i+1)).flatMap S=(ks.take i).flatMap S++S x:=by rw[Bi,hx,flatMap_append];simp
  have h3:=q i;have h4:=mI Y;refine aD (a8 (aB (aE mixed (ak 8 [(4,.row i (aC x))] rfl (kc g2 ?_)))));refine kz 2 rfl (ag [] rfl ⟨i+1,W,by dsimp only;omega,sl (he:=⟨rfl,by rw[hst,←A0];rfl,rfl,rfl,rfl,trivial⟩)⟩) (hc:=⟨by simp only[τ];omega,trivial⟩)
 have hge:=geD hb N hi;subst hge;have h3:=q ks.length;refine aL (a8 (sg rfl (aB (aK (fun _:Unit=>mk [(3,.one (.vp 3 0)),(7,Go.AM.T (pre++nm++(ks.take ks.length).flatMap S)),(12,I .i64 0)] [(3,.var 34 (b8 (.mk f n nm zTy ks [] [])))]) (fun _=>True) (fun _=>0) () trivial sl ?_))));intro _ _;refine a8 (sg rfl (aA rfl (fun hb=>by simp[nD,aU] at hb) (fun _=>aL (a8 (sg rfl (aB (aK (fun _:Unit=>mk [(3,.one (.vp 3 0)),(7,Go.AM.T (pre++nm++(ks.take ks.length).flatMap S)),(13,I .i64 0)] [(3,.var 34 (b8 (.mk f n nm zTy ks [] [])))]) (fun _=>True) (fun _=>0) () trivial sl ?_)))))));intro _ _;exact a8 (sg rfl (aA rfl (fun hb=>by simp[iJ,c9] at hb) (fun _=>aL (sg rfl (aF (rtT (hc:=.refl))) (hc:=⟨by simp only[τ,Ak,length_nil];omega,trivial⟩)))))
theorem aRg {c:Core}(hc:KC c) (q:bE c≤1000000):aQ Tryz.prog 39 [.pa (aC c),.pa (aC c)] [] (B true) []:=by
 obtain⟨s,_,hs⟩:=a3u _ c (le_refl _) hc q;refine bM (n:=10) tok Tryz.func39 rfl rfl rfl ?_;refine sg rfl (sk 1 rfl (kc hs ?_));refine ak 1 [] rfl (kc hs ?_);refine kz 2 rfl ?_;have e:decide (s=s)=true:=Ah rfl;exact aF (rtT (hv:=by show some (B (decide (s=s)))=some (B true);rw[e]))
def a3a (s:Str) (t:Ty) (c:Core):Core:=.mk 5 0 s t [c] [] []
def aQ7 (f a:Core):Core:=.mk 4 0 [] zTy [f,a] [] []
def xVC:Core:=.mk 1 0 [120] zTy [] [] []
theorem aWg (s:Str) (t:Ty) (c:Core) (h1:aQ Tryz.prog 80 [tyV t] [] (tyV t) []) (h2:aQ Tryz.prog 74 [.pa (aC c)] [] (.pa (aC c)) []):aQ Tryz.prog 37 [Go.AM.T s,tyV t,.pa (aC c)] [] (.pa (aC (a3a s t c))) []:=by
 refine bM (n:=14) tok Tryz.func37 rfl rfl rfl ?_;exact sg rfl (sgh [(2,.pc (tyV t)),(4,.pc (.pa (aC c))),(5,.all)] rfl (aF (rtC trw)))
theorem aWi (c a:Core) (h2:aQ Tryz.prog 74 [.pa (aC c)] [] (.pa (aC c)) []) (h1:aQ Tryz.prog 74 [.pa (aC a)] [] (.pa (aC a)) []):aQ Tryz.prog 36 [.pa (aC c),.one (.c (.sl 10 [aC a]))] [] (.pa (aC (aQ7 c a))) []:=by
 refine bM (n:=23) tok Tryz.func36 rfl rfl rfl ?_;refine sg rfl (sgh [(1,.pc (.pa (aC c)))] rfl (a8 (sg rfl (aB (aK (fun i:Nat=>mk [(4,.one (.vp 4 0)),(5,.one (.vp 5 0)),(10,.one (.c (.sl 10 [aC a]))),(11,I .i64 1),(12,I .i64 i)] [(4,.var 34 bR),(5,.var 34 (b8 (if i=0 then c else aQ7 c a)))]) (fun i=>i≤1) (fun i=>1-i) 0 (Aj _) sl ?_)))));intro i hi;refine sg rfl (a8 (aA rfl (fun hb=>?_) (fun hb=>?_)))
 ·have q:i=0:=by
   have:(i:Int)<1:=ψ hb;omega
  subst q;rw[ξ rfl];exact aD (a8 (aB (sgh [(0,.row 0 (aC a))] rfl (ag [(2,.pc (.pa (aC a))),(3,.all)] rfl (ag [] rfl ⟨1,le_refl _,by dsimp only;omega,Sub.trans sl (vp 5 (aC (aQ7 c a)))⟩)))))
 have J:i=1:=by
  have:¬(i:Int)<1:=χ hb;omega
 subst J;rw[φ (by omega)];exact aL (sg rfl (aF (rtC trw)))
def wO:Core:=.mk 10 0 aUz zTy [gN 2,gN 3] [] []
def yR (x:Core):Core:=.mk 10 0 aBo zTy [x,x] [] []
def aW6:Core:=a3a [120] fM (yR xVC)
def aL4:Core:=aQ7 aW6 wO
theorem aPm (k:Nat) (b:Core):eQ (k+2) (yR xVC) [120] b=yR b:=by
 have hx:eQ (k+1) xVC [120] b=b:=by rw[eQ];exact ξ ⟨rfl,rfl⟩
 have hp:dN (eQ (k+1)) [120] b [] [xVC,xVC]=([],[b,b]):=by
  unfold dN;rw[ξ ⟨by simp[xVC,pfR],by simp⟩];simp[mF,hx]
 rw[eQ,φ (by rintro⟨h,_⟩;cases h),φ (by rintro⟨h,_⟩;cases h),yR,tS];have h0:gvN 10 aBo []=[]:=rfl;simp[zNm,zKs,zBs,h0,hp];rfl
def m0:Mod:=⟨[],[]⟩
theorem aS6 (n:Nat):ST n [] aL4:=by
 have q:dD (QL 403) xVC:=aDy rfl (by decide) (by decide) (by decide);have I:∀i,dD (QL 403) (gN i):=fun i=>aDy rfl (by decide) (by decide) (by decide)
 have J:dD (QL 403) (yR xVC):=aY.2 ⟨⟨rfl,fun h=>(by cases h),rfl,by simp,by decide,fun h=>(by cases h),by simp,by simp⟩,fun x hx=>by
  have:x=xVC:=by simpa using hx
  rw[this];exact q,by simp,by simp⟩
 have N:dD (QL 403) wO:=aY.2 ⟨⟨rfl,fun h=>(by cases h),rfl,by simp,by decide,fun h=>(by cases h),by simp,by simp⟩,fun x hx=>by
  have:x=gN 2∨x=gN 3:=by simpa using hx
  rcases this with rfl | rfl<;>exact I _,by simp,by simp⟩
 have O:dD (QL 403) aW6:=aY.2 ⟨⟨rfl,fun h=>(by cases h),rfl,by simp,by decide,fun _=>(by unfold nh;decide),by simp,by simp⟩,fun x hx=>by
  have:x=yR xVC:=by simpa using hx
  rw[this];exact J,by simp,by simp⟩
 refine⟨aY.2 ⟨⟨rfl,fun h=>(by cases h),rfl,by simp,by decide,fun h=>(by cases h),by simp,by simp⟩,fun x hx=>?_,by simp,by simp⟩,fun E _=>?_,fun x hx=>?_,by decide,by decide⟩
 ·have:x=aW6∨x=wO:=by simpa using hx
  rcases this with rfl | rfl
  ·exact O
  ·exact N
 ·have e:cw jS E aL4 r0=0:=by rfl
  rw[e];omega
 ·have e:tyR aL4=[]:=by rfl
  rw[e] at hx;cases hx
theorem aVa:m30 aL4=248:=by decide
theorem aF7:dR [] (m30 aL4) aL4=(yR wO,0):=by
 rw[aVa];show dR [] (247+1) (.mk 4 0 [] zTy [aW6,wO] [] [])=_;rw[gT,φ (by decide),ξ (by decide),ξ ⟨rfl,rfl⟩];show(eQ (m30 (yR xVC)) (yR xVC) [120] wO,(0:Int))=_;rw[show m30 (yR xVC)=91+2 by decide,aPm]
theorem aL3:qO [] aL4=(yR wO,0):=by
 unfold qO;rw[aF7];rfl
theorem aZf:dR [] (m30 (yR wO)) (yR wO)=(.mk 10 0 aBo zTy [gN 6,wO] [] [],0):=by kernel_rfl
theorem aZe:dR [] (m30 (.mk 10 0 aBo zTy [gN 6,wO] [] [])) (.mk 10 0 aBo zTy [gN 6,wO] [] [])=(.mk 10 0 aBo zTy [gN 6,gN 6] [] [],0):=by kernel_rfl
theorem aZd:dR [] (m30 (.mk 10 0 aBo zTy [gN 6,gN 6] [] [])) (.mk 10 0 aBo zTy [gN 6,gN 6] [] [])=(gN 12,0):=by kernel_rfl
theorem aQr:jH [] 10 0 aL4=(gN 12,4,0):=by
 show jH [] (9+1) 0 aL4=_;rw[jH,φ (by decide),aF7,ξ rfl,φ (by decide)];show jH [] (8+1) 1 (yR wO)=_;rw[jH,φ (by decide),aZf,ξ rfl,φ (by decide)];show jH [] (7+1) 2 (.mk 10 0 aBo zTy [gN 6,wO] [] [])=_;rw[jH,φ (by decide),aZe,ξ rfl,φ (by decide)];show jH [] (6+1) 3 (.mk 10 0 aBo zTy [gN 6,gN 6] [] [])=_;rw[jH,φ (by decide),aZd,ξ rfl,φ (by decide)];show jH [] (5+1) 4 (gN 12)=_;rw[jH,ξ (by decide)]
theorem aZg:KC (yR wO):=by
 have hi:∀i,i64 i→KC (gN i):=fun i h=>.mk (by decide) (by decide) (by decide) (by unfold i64;omega) h (by simp)
 have hs:KC wO:=.mk (by decide) (by decide) (by decide) (by unfold i64;omega) (by unfold i64;omega) (fun x hx=>by
  have:x=gN 2∨x=gN 3:=by simpa using hx
  rcases this with rfl | rfl<;>exact hi _ (by unfold i64;omega))
 exact .mk (by decide) (by decide) (by decide) (by unfold i64;omega) (by unfold i64;omega) (fun x hx=>by
  have:x=wO:=by simpa using hx
  rw[this];exact hs)
theorem aNj:aQ Tryz.prog 11 [] [] (B true) []:=by
 have I:dA 540000000000:=fun k hk=>aNl k (by omega)
 have J:BI [] m0.binds:=⟨by decide,fun b hb=>by cases hb⟩
 have h1:=pP [73,110,116];have h2:=sY [120];have h3:=aNq 2;have h4:=aNq 3;have N:aQ Tryz.prog 80 [tyV fM] [] (tyV fM) []:=aM6 I fM rfl (by decide);have q:aQ Tryz.prog 80 [tyV zTy] [] (tyV zTy) []:=aM6 I zTy rfl (by decide);have O:allT TyG aL4:=by
  have v:TyG zTy∧True∧True∧True:=⟨q,trivial,trivial,trivial⟩
  exact⟨q,⟨⟨N,⟨⟨q,⟨v,v,trivial⟩,trivial,trivial⟩,trivial⟩,trivial,trivial⟩,⟨q,⟨v,v,trivial⟩,trivial,trivial⟩,trivial⟩,trivial,trivial⟩
 have h5:=aWg [120] fM (yR xVC) N (aGv _ _ (le_refl _) (by decide) O.2.1.1.2.1.1);have h6:=aWi aW6 wO (aGv _ _ (le_refl _) (by decide) O.2.1.1) (aGv _ _ (le_refl _) (by decide) O.2.1.2.1);have h7:=aNs I (n:=0) (U:=[]) (by omega) (by decide) (by simp) J (m:=m0) (aS6 0);rw[show m0.binds=[] from rfl,aL3] at h7;have Y:=a0r I (n:=0) (U:=[]) (by decide) (by simp) J (m:=m0) 10 (by omega) (SG.of I (by omega) (by decide) J (aS6 0));rw[show m0.binds=[] from rfl,aQr] at Y;have W:ST 0 [] (gN 3):=(aDw (n:=0) (U:=[]) (w:=0) rfl (by decide) (by decide) (by decide)).st (by decide);have Z:=aNs I (n:=0) (U:=[]) (by omega) (by decide) (by simp) J (m:=m0) W;rw[show qO m0.binds (gN 3)=(zC,21) from rfl] at Z;have aa:=aRg aZg (by decide);refine bM (n:=75) tok Tryz.func11 rfl rfl rfl ?_;exact sg rfl (sgh [(0,.pc (tyV fM))] rfl (sgh [(0,.pc (.pa (aC xVC)))] rfl (sgh [(2,.all)] rfl (sgh [(0,.pc (.pa (aC (gN 2)))),(1,.pc (.pa (aC (gN 3)))),(2,.all)] rfl (sgh [(2,.pc (.pa (aC aW6))),(4,.all),(5,.pc (.pa (aC aL4)))] rfl (sgh [(2,.pc (fD (yR wO,0)))] rfl (sgh [(2,.pc (whV (gN 12,4,0)))] rfl (sgh [(1,.pc (.pa (aC (gN 3)))),(2,.pc (fD (zC,21)))] rfl (sgh [(2,.bv true),(6,.all),(8,.pc (B true)),(9,.bv true),(10,.bv true),(13,.bv true),(14,.bv true),(17,.bv true),(18,.bv true),(22,.bv true),(23,.bv true),(26,.bv true)] rfl (aF rtT))))))))))
structure TM (V:List Str) (k:Nat) (t:Ty):Prop where
 wf:wfS t=true
 w:∀E ρ,(∀x,ρ x≤E)→tW jS t ρ≤k+E
 v:∀x∈tfR t,x∈V
structure MW (V:List Str) (c:Core):Prop where
 q:dD (QL 403) c
 w:∀E ρ,(∀x,ρ x≤E)→cw jS E c ρ≤3+E
 v:∀x∈tyR c,x∈V
section
variable {V:List Str}{k:Nat}
theorem TM.var {s:Str}(h:s∈V):TM V k (.mk 2 0 s []):=⟨rfl,fun E ρ q=>by rw[tW,ξ rfl];have:=q s;omega,fun x hx=>by
 have:tfR (.mk 2 0 s [])=[s]:=by rw[tfR,ξ rfl]
 rw[this] at hx;rw[ζ.1 hx];exact h⟩
theorem TM.con {s:Str}:TM V k (.mk 3 0 s []):=⟨rfl,fun E ρ q=>by
 have:tW jS (.mk 3 0 s []) ρ=0:=by rw[tW,φ (by decide),φ (by decide),tWs];rfl
 omega,fun x hx=>by
 obtain⟨u,hu,_⟩:=qB (by decide) hx
 cases hu⟩
theorem TM.z:TM V k zTy:=⟨rfl,fun E ρ q=>by
 have:tW jS zTy ρ=0:=by unfold zTy;rw[tW,φ (by decide),φ (by decide),tWs];rfl
 omega,fun x hx=>by
 have:tfR zTy=[]:=rfl
 rw[this] at hx;cases hx⟩
theorem TM.app {a b:Ty}(ha:TM V k a) (hb:TM V k b):TM V k (.mk 4 0 [] [a,b]):=⟨by rw[wfS,wC,wC,wC,ha.wf,hb.wf];rfl,fun E ρ q=>by
 have h1:=ha.w E ρ q;have h2:=hb.w E ρ q;have:tW jS (.mk 4 0 [] [a,b]) ρ=max (tW jS a ρ) (max (tW jS b ρ) 0):=by rw[tW,φ (by decide),φ (by decide),tWs,tWs,tWs];rfl
 omega,fun x hx=>by
 obtain⟨u,hu,I,_⟩:=qB (by decide) hx;have:u=a∨u=b:=by simpa using hu
 rcases this with rfl | rfl
 ·exact ha.v x I
 ·exact hb.v x I⟩
theorem qU {f n:Int}{s:Str}{t:Ty}{ks:List Core}{bs:List Bind}{al:List Alt}(N:QL 403 f s t ks.length (bs.map bhd) (al.map ahd)) (ht:TM V 3 t) (hk:∀x∈ks,MW V x) (hb:∀b∈bs,TM V 3 b.ty∧MW V b.body) (ha:∀a∈al,MW V a.body):MW V (.mk f n s t ks bs al):=by
 refine⟨aY.2 ⟨N,fun x hx=>(hk x hx).q,fun x hx=>(hb x hx).2.q,fun x hx=>(ha x hx).q⟩,fun E ρ I=>fX.2 ⟨by rw[dK];omega,ht.w E ρ I,fun x hx=>(hk x hx).w E _ fun y=>?_,fun x hx=>⟨(hb x hx).1.w E ρ I,(hb x hx).2.w E ρ I⟩,fun x hx=>(ha x hx).w E ρ I⟩,fun x hx=>?_⟩
 ·split
  ·unfold fY;split
   ·exact le_refl _
   ·exact I y
  ·exact I y
 ·rcases bC.1 hx with h | ⟨y,J,h,_⟩ | ⟨y,J,h | h⟩ | ⟨y,J,h⟩
  ·exact ht.v x h
  ·exact(hk y J).v x h
  ·exact(hb y J).1.v x h
  ·exact(hb y J).2.v x h
  ·exact(ha y J).v x h
theorem aO7 {s:Str}(h:s.length≤30):w30 s=30:=by unfold w30;omega
theorem gH {f:Int}{s:Str}{t:Ty}{nk:Nat}(hf:okF f nk 0 0=true) (h7:f=7→t=zTy∧¬s=[]) (ht:wfS t=true) (hs:s.length≤30) (h5:f=5→nh s):QL 403 f s t nk [] []:=
 ⟨hf,h7,ht,by simp,by unfold lw;rw[aO7 hs];decide,h5,by simp,by simp⟩
theorem ST.of {c:Core}(h:MW V c) (ht:tlC c≤6000) (hs:m30 c≤3500000) (n:Nat):ST n V c:=
 ⟨h.q,fun E _=>h.w E r0 fun _=>Aj _,h.v,ht,hs⟩
end
theorem aKx:∀s∈aP6,s.length≤30:=by decide
section
variable {Γ:Env}{x s y:Str}{u w:Ty}
theorem rZ (h:¬x=s):rmE (upd Γ s u) x=upd (rmE Γ x) s u:=by
 funext z;simp only[rmE,upd];by_cases e:z=x
 ·rw[ξ e,φ (fun e'=>h (e.symm.trans e')),ξ e]
 ·rw[φ e,φ e]
theorem aD7:upd (rmE Γ s) s u=upd Γ s u:=by
 funext z;simp only[rmE,upd];by_cases e:z=s
 ·rw[ξ e,ξ e]
 ·rw[φ e,φ e,φ e]
theorem aBt (h:x=s∨x=y):upd (upd (rmE Γ x) s u) y w=upd (upd Γ s u) y w:=by
 funext z;simp only[rmE,upd];by_cases e:z=y
 ·rw[ξ e,ξ e]
 ·rw[φ e,φ e];by_cases q:z=s
  ·rw[ξ q,ξ q]
  ·rw[φ q,φ q,φ];rcases h with h | h
   ·rw[h];exact q
   ·rw[h];exact e
theorem aCo (h1:¬x=s) (h2:¬x=y):rmE (upd (upd Γ s u) y w) x=upd (upd (rmE Γ x) s u) y w:=by rw[rZ h2,rZ h1]
theorem aBu (h1:¬x=s) (h2:¬x=y):upd (upd Γ s u) y w x=Γ x:=by rw[aS h2,aS h1]
end
section
variable {x:Str}{b:Core}
theorem aUy (n:Int):nS (gN n) x b=gN n:=by unfold gN;rw[k7 (by decide)];simp[gvN]
theorem x6 (s:Str):nS (tO s) x b=tO s:=by unfold tO;rw[k7 (by decide)];simp[gvN]
theorem uZ {f n:Int}{s:Str}{t:Ty}{k:Core}(h1:¬f=1) (h5:¬f=5):nS (.mk f n s t [k] [] []) x b=.mk f n s t [nS k x b] [] []:=by rw[k7 h1];simp[gvN,h5]
theorem aLi {f n:Int}{s:Str}{t:Ty}{k l:Core}(h1:¬f=1) (h5:¬f=5):nS (.mk f n s t [k,l] [] []) x b=.mk f n s t [nS k x b,nS l x b] [] []:=by rw[k7 h1];simp[gvN,h5]
theorem aSy {n:Int}{s:Str}{t:Ty}{k:Core}:nS (.mk 5 n s t [k] [] []) x b=.mk 5 n s t [if x=s then k else nS k x b] [] []:=by
 rw[k7 (by decide)];by_cases e:x=s
 ·simp[gvN,e]
 ·simp[gvN,e]
theorem aY3 {n:Int}{s z:Str}{t u:Ty}{k l:Core}:nS (.mk 8 n s t [k] [.mk z u l] []) x b=.mk 8 n s t [if x=z then k else nS k x b] [.mk z u (if x=z then l else nS l x b)] []:=by
 rw[k7 (by decide)];by_cases e:x=z
 ·simp[gvN,e,Bind.name]
 ·simp[gvN,e,Bind.name,nSB,Bind.ty,Bind.body]
theorem sG {n:Int}{s:Str}{t:Ty}{k:Core}{al:List Alt}:nS (.mk 9 n s t [k] [] al) x b=.mk 9 n s t [nS k x b] [] (al.map (nSA x b)):=by
 rw[k7 (by decide)];simp[gvN]
theorem qE {f n:Int}{s:Str}{v:List Str}{c:Core}:nSA x b (.mk f n s v c)=.mk f n s v (if x∈v then c else nS c x b):=rfl
end
theorem WT.put {V:List Str}{Γ:Env}{c:Core}{t:Ty}(h:WT V Γ c t):∀{x:Str}{b:Core},(∀u,Γ x=some u→WT [] e0 b u)→WT V (rmE Γ x) (nS c x b) t:=by
 induction h with
 | @var V Γ s t h=>
  intro x b hb;unfold vC;rw[nS,ξ rfl];by_cases e:s=x
  ·rw[ξ e];exact(hb t (by rw[←e];exact h)).closed
  ·rw[φ e];exact .var (by unfold rmE;rw[φ e];exact h)
 | int=>intro x b hb;rw[aUy];exact .int
 | bool=>intro x b hb;unfold aB1;rw[x6];exact .bool
 | nil h=>intro x b hb;rw[uZ (by decide) (by decide),x6];exact .nil h
 | cons h=>intro x b hb;rw[uZ (by decide) (by decide),x6];exact .cons h
 | pair h1 h2=>intro x b hb;rw[uZ (by decide) (by decide),uZ (by decide) (by decide),x6];exact .pair h1 h2
 | app _ _ q I=>intro x b hb;rw[aLi (by decide) (by decide)];exact .app (q hb) (I hb)
 | @lam V Γ s c u t hu h ih=>
  intro x b hb;rw[aSy];by_cases e:x=s
  ·subst e;rw[ξ rfl];exact .lam hu (by rw[aD7];exact h)
  ·rw[φ e];refine .lam hu ?_;rw[←rZ e];exact ih fun N J=>hb N (by rw[aS e] at J;exact J)
 | @tt V W Γ Δ s p c u t h1 h2 h3 h4 h5 h6 ih=>
  intro x b hb;rw[uZ (by decide) (by decide),uZ (by decide) (by decide),aSy];have hΔ:∀z w,rmE Δ x z=some w→rmE Γ x z=some w∧TW W w:=fun z w hz=>by
   unfold rmE at hz ⊢;by_cases e:z=x
   ·rw[ξ e] at hz;cases hz
   ·rw[φ e] at hz ⊢;exact h2 z w hz
  by_cases e:x=p
  ·subst e;rw[ξ rfl];exact .tt h1 hΔ h3 h4 h5 (by rw[aD7];exact h6)
  ·rw[φ e];refine .tt h1 hΔ h3 h4 h5 ?_;rw[←rZ e];exact ih fun N J=>hb N (by rw[aS e] at J;exact(h2 x N J).1)
 | @lt V Γ s c d u t hu h1 h2 q I=>
  intro x b hb;rw[aY3];by_cases e:x=s
  ·subst e;rw[ξ rfl,ξ rfl];exact .lt hu (by rw[aD7];exact h1) (by rw[aD7];exact h2)
  ·rw[φ e,φ e];have hb':∀N,upd Γ s u x=some N→WT [] e0 b N:=fun N J=>hb N (by rw[aS e] at J;exact J)
   refine .lt hu ?_ ?_
   ·rw[←rZ e];exact q hb'
   ·rw[←rZ e];exact I hb'
 | cbool ht _ _ _ q I Y=>
  intro x b hb;rw[sG,Al,Al,Bn,qE,qE,φ (by simp),φ (by simp)];exact .cbool ht (q hb) (I hb) (Y hb)
 | cint ht _ _ _ q I Y=>
  intro x b hb;rw[sG,Al,Al,Bn,qE,qE,φ (by simp),φ (by simp)];exact .cint ht (q hb) (I hb) (Y hb)
 | @cl1 V Γ y z c a u t O ht h1 h2 q I=>
  intro x b hb;rw[sG,Al,Bn,qE];by_cases e:x∈[y,z]
  ·rw[ξ e];exact .cl1 O ht (q hb) (by rw[aBt (by simpa using e)];exact h2)
  ·rw[φ e];have Z:¬x=y:=fun h=>e (by rw[h];simp)
   have e2:¬x=z:=fun h=>e (by rw[h];simp)
   refine .cl1 O ht (q hb) ?_;rw[←aCo Z e2];exact I fun N J=>hb N (by rw[aBu Z e2] at J;exact J)
 | @cl2 V Γ y z c a d u t O ht h1 h2 h3 q I Y=>
  intro x b hb;rw[sG,Al,Al,Bn,qE,qE,φ (show ¬x∈([]:List Str) by simp)];by_cases e:x∈[y,z]
  ·rw[ξ e];exact .cl2 O ht (q hb) (by rw[aBt (by simpa using e)];exact h2) (Y hb)
  ·rw[φ e];have Z:¬x=y:=fun h=>e (by rw[h];simp)
   have e2:¬x=z:=fun h=>e (by rw[h];simp)
   refine .cl2 O ht (q hb) ?_ (Y hb);rw[←aCo Z e2];exact I fun N J=>hb N (by rw[aBu Z e2] at J;exact J)
 | @cp V Γ y z c a u w t O ht h1 h2 q I=>
  intro x b hb;rw[sG,Al,Bn,qE];by_cases e:x∈[y,z]
  ·rw[ξ e];exact .cp O ht (q hb) (by rw[aBt (by simpa using e)];exact h2)
  ·rw[φ e];have Z:¬x=y:=fun h=>e (by rw[h];simp)
   have e2:¬x=z:=fun h=>e (by rw[h];simp)
   refine .cp O ht (q hb) ?_;rw[←aCo Z e2];exact I fun N J=>hb N (by rw[aBu Z e2] at J;exact J)
 | pint hs _ _ q I=>intro x b hb;rw[aLi (by decide) (by decide)];exact .pint hs (q hb) (I hb)
 | pbool hs _ _ q I=>intro x b hb;rw[aLi (by decide) (by decide)];exact .pbool hs (q hb) (I hb)
 | fail ht=>
  intro x b hb;rw[k7 (by decide)];simp only[gvN,Bn,A8,ite_self];exact .fail ht
section
variable {a:Str}{u0:Ty}
theorem mQ {Γ:Env}{s:Str}{u:Ty}:tsE (upd Γ s u) a u0=upd (tsE Γ a u0) s (bP u [(a,u0)]):=by
 funext z;unfold tsE upd;by_cases e:z=s
 ·rw[ξ e,ξ e];rfl
 ·rw[φ e,φ e]
theorem jM {f n:Int}{s:Str}{t:Ty}{ks:List Core}{al:List Alt}(h7:¬f=7):nT (.mk f n s t ks [] al) a u0=.mk f n s (bP t [(a,u0)]) (ks.map fun x=>nT x a u0) [] (al.map fun b=>.mk b.form b.n b.name b.vars (nT b.body a u0)):=by
 rw[aLe fun e=>h7 e.1,fQ];rfl
theorem aY2 {n:Int}{s:Str}{t:Ty}{ks:List Core}(h7:¬s=a):nT (.mk 7 n s t ks [] []) a u0=.mk 7 n s (bP t [(a,u0)]) (ks.map fun x=>nT x a u0) [] []:=by
 rw[aLe fun e=>h7 e.2,fQ];rfl
theorem x4 (s:Str):nT (tO s) a u0=tO s:=by unfold tO;rw[jM (by decide),j5];rfl
theorem aUx (n:Int):nT (gN n) a u0=gN n:=by unfold gN;rw[jM (by decide),j5];rfl
theorem WT.tput {V:List Str}{Γ:Env}{c:Core}{t:Ty}(h:WT V Γ c t) (J:TW [] u0):WT (rmV V a) (tsE Γ a u0) (nT c a u0) (bP t [(a,u0)]):=by
 induction h with
 | @var V Γ s t h=>
  unfold vC;rw[jM (by decide),j5];exact .var (by unfold tsE;rw[h];rfl)
 | int=>rw[aUx,uB];exact .int
 | bool=>unfold aB1;rw[x4,rO];exact .bool
 | nil h=>rw[jM (by decide),Al,Bn,x4,pZ];exact .nil (h.sub J)
 | cons h=>rw[jM (by decide),Al,Bn,x4,mR,mR,pZ];exact .cons (h.sub J)
 | pair h1 h2=>
  rw[jM (by decide),Al,Bn,jM (by decide),Al,Bn,x4,mR,mR,aPc];exact .pair (h1.sub J) (h2.sub J)
 | app _ _ q I=>
  rw[mR] at q;rw[jM (by decide),j5];exact .app q I
 | lam hu _ O=>
  rw[mQ] at O;rw[jM (by decide),mR];exact .lam (hu.sub J) O
 | @tt V W Γ Δ s p c u t h1 h2 h3 h4 h5 Y O=>
  rw[jM (by decide),mR,Al,Bn];by_cases e:s=a
  ·subst e;rw[nT,ξ ⟨rfl,rfl⟩,h4.id h3];refine .tt (fun x hx=>pB.2 ⟨h1 x hx,fun e=>h3 (by rw[←e];exact hx)⟩) (fun x w hx=>⟨?_,(h2 x w hx).2⟩) h3 h4 (h5.sub J) Y;unfold tsE;rw[(h2 x w hx).1];show some (bP w [(s,u0)])=some w;rw[(h2 x w hx).2.id h3]
  ·have e':¬a=s:=fun h=>e h.symm
   rw[aY2 e,j5,Al,Bn,jM (by decide),pY,φ e',Al,Bn];rw[mQ,pY,φ e',show rmV (s::W) a=s::rmV W a by unfold rmV;rw[Ck,ξ (by simpa using e)]] at O;refine .tt (fun x hx=>pB.2 ⟨h1 x (pB.1 hx).1,(pB.1 hx).2⟩) (fun x w hx=>?_) (fun hs=>h3 (pB.1 hs).1) (h4.sub J) (h5.sub J) O;unfold tsE at hx ⊢;cases hd:Δ x with
   | none=>rw[hd] at hx;cases hx
   | some w0=>
    rw[hd] at hx;cases hx;rw[(h2 x w0 hd).1];exact⟨rfl,(h2 x w0 hd).2.sub J⟩
 | lt hu _ _ q I=>
  rw[mQ] at q I;rw[aLe (fun e=>absurd e.1 (by decide)),fQ,j5];exact .lt (hu.sub J) q I
 | cbool ht _ _ _ q I N=>rw[rO] at q;rw[jM (by decide)];exact .cbool (ht.sub J) q I N
 | cint ht _ _ _ q I N=>rw[uB] at q;rw[jM (by decide)];exact .cint (ht.sub J) q I N
 | cl1 hxy ht _ _ q I=>rw[pZ] at q;rw[mQ,mQ,pZ] at I;rw[jM (by decide)];exact .cl1 hxy (ht.sub J) q I
 | cl2 hxy ht _ _ _ q I N=>rw[pZ] at q;rw[mQ,mQ,pZ] at I;rw[jM (by decide)];exact .cl2 hxy (ht.sub J) q I N
 | cp hxy ht _ _ q I=>rw[aPc] at q;rw[mQ,mQ] at I;rw[jM (by decide)];exact .cp hxy (ht.sub J) q I
 | pint hs _ _ q I=>rw[uB] at q I ⊢;rw[jM (by decide),j5];exact .pint hs q I
 | pbool hs _ _ q I=>rw[uB] at q I;rw[rO,jM (by decide),j5];exact .pbool hs q I
 | fail ht=>rw[jM (by decide)];exact .fail (ht.sub J)
end
theorem lX {a b c d:Ty}(h:bT a b=bT c d):a=c∧b=d:=by
 simpa [bT,tapp] using h
theorem aB9 {a b:Ty}(h:tLs a=tLs b):a=b:=by simpa [tLs] using h
theorem aB8 {a b c d:Ty}(h:tPr a b=tPr c d):a=c∧b=d:=by simpa [tPr] using h
theorem jB {a b:Ty}:¬bT a b=eU:=by simp[bT,tapp,eU]
theorem gC {a b:Ty}:¬bT a b=fM:=by simp[bT,tapp,fM]
theorem fF {a b c:Ty}:¬bT a b=tLs c:=by simp[bT,tapp,tLs]
theorem oC {a b c d:Ty}:¬bT a b=tPr c d:=by simp[bT,tapp,tPr,arrow]
theorem vD {a c d:Ty}:¬tLs a=tPr c d:=by simp[tLs,tPr]
theorem nZ {a:Ty}:¬tLs a=eU:=by simp[tLs,eU]
theorem n6 {a:Ty}:¬tLs a=fM:=by simp[tLs,fM]
theorem aCv {a b:Ty}:¬tPr a b=eU:=by simp[tPr,eU]
theorem aFh {a b:Ty}:¬tPr a b=fM:=by simp[tPr,fM]
theorem yC:¬eU=fM:=by simp[eU,fM]
inductive CN (V:List Str) (Γ:Env) (s:Str) (l:List Core) (t:Ty):Prop
 | b (v:Bool) (hs:s=(aB1 v).name) (hl:l=[]) (ht:t=eU)
 | n (u:Ty) (hs:s=[78]) (hl:l=[]) (ht:t=tLs u)
 | c0 (u:Ty) (hs:s=[67]) (hl:l=[]) (ht:t=bT u (bT (tLs u) (tLs u)))
 | c1 (u:Ty) (a:Core) (hs:s=[67]) (hl:l=[a]) (ht:t=bT (tLs u) (tLs u)) (ha:WT V Γ a u)
 | c2 (u:Ty) (a b:Core) (hs:s=[67]) (hl:l=[a,b]) (ht:t=tLs u) (ha:WT V Γ a u) (hb:WT V Γ b (tLs u))
 | p0 (u w:Ty) (hs:s=[80]) (hl:l=[]) (ht:t=bT u (bT w (tPr u w)))
 | p1 (u w:Ty) (a:Core) (hs:s=[80]) (hl:l=[a]) (ht:t=bT w (tPr u w)) (ha:WT V Γ a u)
 | p2 (u w:Ty) (a b:Core) (hs:s=[80]) (hl:l=[a,b]) (ht:t=tPr u w) (ha:WT V Γ a u) (hb:WT V Γ b w)
theorem qF (s:Str):gvC (tO s)=some (s,[]):=by unfold tO;rw[gvC,ξ rfl]
theorem aMa {f a:Core}:gvC (.mk 4 0 [] zTy [f,a] [] [])=(gvC f).map fun p=>(p.1,p.2++[a]):=by rw[gvC,φ (by decide),ξ rfl,gvH];rfl
theorem k9 {n:Int}{s:Str}{t:Ty}{k:Core}{bs:List Bind}{al:List Alt}:gvC (.mk 6 n s t [k] bs al)=gvC k:=by rw[gvC,φ (by decide),φ (by decide),ξ rfl,gvH]
theorem fE {f n:Int}{s:Str}{t:Ty}{ks:List Core}{bs:List Bind}{al:List Alt}(h2:¬f=2) (h4:¬f=4) (q:¬f=6):gvC (.mk f n s t ks bs al)=none:=by rw[gvC,φ h2,φ h4,φ q]
theorem WT.cn {V:List Str}{Γ:Env}{c:Core}{t:Ty}(h:WT V Γ c t):∀{s:Str}{l:List Core},gvC c=some (s,l)→CN V Γ s l t:=by
 induction h with
 | var h=>intro s l q;unfold vC at q;rw[fE (by decide) (by decide) (by decide)] at q;cases q
 | int=>intro s l q;unfold gN at q;rw[fE (by decide) (by decide) (by decide)] at q;cases q
 | @bool V Γ v=>intro s l q;unfold aB1 at q;rw[qF] at q;cases q;exact .b v rfl rfl rfl
 | nil h=>intro s l q;rw[k9,qF] at q;cases q;exact .n _ rfl rfl rfl
 | cons h=>intro s l q;rw[k9,qF] at q;cases q;exact .c0 _ rfl rfl rfl
 | pair h1 h2=>intro s l q;rw[k9,k9,qF] at q;cases q;exact .p0 _ _ rfl rfl rfl
 | @app V Γ f a u t hf ha O _=>
  intro s l q;rw[aMa] at q;obtain⟨⟨s',l'⟩,Y,Z⟩:=B5.1 q;cases Z;cases O Y with
  | b v hs hl ht=>exact absurd ht jB
  | n u hs hl ht=>exact absurd ht fF
  | c0 J hs hl ht=>
   obtain⟨rfl,rfl⟩:=lX ht;exact .c1 _ a hs (by rw[show l'=[] from hl];rfl) rfl ha
  | c1 J N hs hl ht I=>
   obtain⟨rfl,rfl⟩:=lX ht;exact .c2 J N a hs (by rw[show l'=[N] from hl];rfl) rfl I ha
  | c2 J N b' hs hl ht I W=>exact absurd ht fF
  | p0 J w' hs hl ht=>
   obtain⟨rfl,rfl⟩:=lX ht;exact .p1 _ w' a hs (by rw[show l'=[] from hl];rfl) rfl ha
  | p1 J w' N hs hl ht I=>
   obtain⟨rfl,rfl⟩:=lX ht;exact .p2 J _ N a hs (by rw[show l'=[N] from hl];rfl) rfl I ha
  | p2 J w' N b' hs hl ht I W=>exact absurd ht oC
 | lam hu _ _=>intro s l q;rw[fE (by decide) (by decide) (by decide)] at q;cases q
 | tt h1 h2 h3 h4 h5 h6 _=>intro s l q;rw[k9,fE (by decide) (by decide) (by decide)] at q;cases q
 | lt hu _ _ _ _=>intro s l q;rw[fE (by decide) (by decide) (by decide)] at q;cases q
 | cbool ht _ _ _ _ _ _=>intro s l q;rw[fE (by decide) (by decide) (by decide)] at q;cases q
 | cint ht _ _ _ _ _ _=>intro s l q;rw[fE (by decide) (by decide) (by decide)] at q;cases q
 | cl1 hxy ht _ _ _ _=>intro s l q;rw[fE (by decide) (by decide) (by decide)] at q;cases q
 | cl2 hxy ht _ _ _ _ _ _=>intro s l q;rw[fE (by decide) (by decide) (by decide)] at q;cases q
 | cp hxy ht _ _ _ _=>intro s l q;rw[fE (by decide) (by decide) (by decide)] at q;cases q
 | pint hs _ _ _ _=>intro s l q;rw[fE (by decide) (by decide) (by decide)] at q;cases q
 | pbool hs _ _ _ _=>intro s l q;rw[fE (by decide) (by decide) (by decide)] at q;cases q
 | fail ht=>intro s l q;rw[fE (by decide) (by decide) (by decide)] at q;cases q
theorem aSi {c:Core}:shC c=true↔c.form=5∨c.form=7∨c.form=3∨∃s l,gvC c=some (s,l):=by
 unfold shC;simp only[Bool.or_eq_true,decide_eq_true_eq,Option.isSome_iff_exists,Prod.exists]
theorem aJ2 {c:Core}:shC c=false↔¬c.form=5∧¬c.form=7∧¬c.form=3∧gvC c=none:=by
 rw[←Bool.not_eq_true,aSi];cases q:gvC c with
 | none=>simp
 | some p=>obtain⟨s,l⟩:=p;simp
theorem WT.form5 {V:List Str}{Γ:Env}{c:Core}{t:Ty}(h:WT V Γ c t) (h5:c.form=5):∃s b u t',c=.mk 5 0 s u [b] [] []∧TW V u∧WT V (upd Γ s u) b t'∧t=bT u t':=by
 cases h with
 | lam hu hb=>exact⟨_,_,_,_,rfl,hu,hb,rfl⟩
 | _=>exact absurd h5 (by simp[vC,gN,aB1,tO,Core.form])
theorem WT.form7 {V:List Str}{Γ:Env}{c:Core}{t:Ty}(h:WT V Γ c t):¬c.form=7:=by
 intro h7;cases h with
 | _=>exact absurd h7 (by simp[vC,gN,aB1,tO,Core.form])
theorem WT.form3 {V:List Str}{Γ:Env}{c:Core}{t:Ty}(h:WT V Γ c t) (h3:c.form=3):∃n,c=gN n∧t=fM:=by
 cases h with
 | int=>exact⟨_,rfl,rfl⟩
 | _=>exact absurd h3 (by simp[vC,aB1,tO,Core.form])
theorem WT.shown {V:List Str}{Γ:Env}{c:Core}{t:Ty}(h:WT V Γ c t) (hs:shC c=true):(∃a b,t=bT a b)∨(t=fM∧∃n,c=gN n)∨∃s l,gvC c=some (s,l)∧CN V Γ s l t:=by
 rcases aSi.1 hs with h5 | h7 | h3 | ⟨s,l,q⟩
 ·obtain⟨_,_,u,t',_,_,_,e⟩:=h.form5 h5;exact .inl ⟨u,t',e⟩
 ·exact absurd h7 h.form7
 ·obtain⟨n,I,J⟩:=h.form3 h3;exact .inr (.inl ⟨J,n,I⟩)
 ·exact .inr (.inr ⟨s,l,q,h.cn q⟩)
mutual
theorem a3b {q:Loc}:∀c:Core,dD q c→∀(s:Str) (l:List Core),gvC c=some (s,l)→∀x∈l,dD q x
 | .mk f n s t ks bs al,N,nm,l,I=>by
  obtain⟨_,g1,_,_⟩:=aY.1 N;rw[gvC] at I;by_cases h2:f=2
  ·rw[ξ h2] at I;cases I;exact fun x hx=>by cases hx
  rw[φ h2] at I;by_cases h4:f=4
  ·rw[ξ h4] at I;obtain⟨⟨nm',l'⟩,O,W⟩:=B5.1 I;cases W;intro x hx;rcases δ.1 hx with hx | hx
   ·exact aZl ks g1 _ _ O x hx
   ·exact g1 x (C1 hx)
  rw[φ h4] at I;by_cases J:f=6
  ·rw[ξ J] at I;exact aZl ks g1 _ _ I
  ·rw[φ J] at I;cases I
theorem aZl {q:Loc}:∀l:List Core,(∀x∈l,dD q x)→∀(s:Str) (m:List Core),gvH l=some (s,m)→∀x∈m,dD q x
 | [],_,_,_,I=>by rw[gvH] at I;cases I
 | c::l,h,s,m,I=>by rw[gvH] at I;exact a3b c (h c η) s m I
end
theorem aZh {i:Int}{s:Str}{t:Ty}{ks:List Core}{bs:List Bind}{al:List Alt}(h:dD (QL 403) (.mk 8 i s t ks bs al)) {b:Bind}(hb:b∈bs):dD (QL 403) (kN bs b):=by
 obtain⟨⟨g1,g2,g3,g4,g5,g6,g7,g8⟩,_,q,_⟩:=aY.1 h;have I:w30 ([]:Str)=30:=rfl;unfold kN;refine aY.2 ⟨⟨by simp[okF],fun e=>absurd e (by decide),rfl,g4,?_,fun e=>absurd e (by decide),g7,by simp⟩,by simpa using q b hb,q,by simp⟩;unfold lw at g5 ⊢;rw[I];have:=kP s;simp only[Bn,sum_nil];omega
def tA:Nat→Core→Bool
 | 0,_=>false
 | k+1,c=>
  if c.form=4 then(if(c.kids.headD zC).form=5 then false else tA k (c.kids.headD zC))
  else if c.form=6 then(if(c.kids.headD zC).form=7 then true else tA k (c.kids.headD zC))
  else if c.form=9 then(if shC (c.kids.headD zC)=true then false else tA k (c.kids.headD zC))
  else if c.form=10 then(if ¬shC (c.kids.headD zC)=true then tA k (c.kids.headD zC) else if ¬shC (c.kids.getD 1 zC)=true then tA k (c.kids.getD 1 zC) else false)
  else false
theorem aPi {k:Nat}{f n:Int}{s:Str}{t:Ty}{ks:List Core}{bs:List Bind}{al:List Alt}:tA (k+1) (.mk f n s t ks bs al)=
  if f=4 then(if(ks.headD zC).form=5 then false else tA k (ks.headD zC))
  else if f=6 then(if(ks.headD zC).form=7 then true else tA k (ks.headD zC))
  else if f=9 then(if shC (ks.headD zC)=true then false else tA k (ks.headD zC))
  else if f=10 then(if ¬shC (ks.headD zC)=true then tA k (ks.headD zC) else if ¬shC (ks.getD 1 zC)=true then tA k (ks.getD 1 zC) else false)
  else false:=by rw[tA];rfl
theorem aJu {f n:Int}{s:Str}{t:Ty}{ks:List Core}{bs:List Bind}{al:List Alt}(h4:¬f=4) (I:¬f=6) (J:¬f=9) (q:¬f=10):∀k,tA k (.mk f n s t ks bs al)=false
 | 0=>by rw[tA]
 | k+1=>by rw[aPi,φ h4,φ I,φ J,φ q]
theorem aJv {f a:Core}{k:Nat}:tA (k+1) (.mk 4 0 [] zTy [f,a] [] [])=if f.form=5 then false else tA k f:=by rw[aPi,ξ rfl];rfl
theorem aCb {t:Ty}{c:Core}{al:List Alt}{k:Nat}:tA (k+1) (.mk 9 0 [] t [c] [] al)=if shC c=true then false else tA k c:=by
 rw[aPi,φ (show ¬((9:Int)=4) by decide),φ (show ¬((9:Int)=6) by decide),ξ rfl];rfl
theorem rS {s:Str}{a b:Core}{k:Nat}:tA (k+1) (.mk 10 0 s zTy [a,b] [] [])=if ¬shC a=true then tA k a else if ¬shC b=true then tA k b else false:=by
 rw[aPi,φ (show ¬((10:Int)=4) by decide),φ (show ¬((10:Int)=6) by decide),φ (show ¬((10:Int)=9) by decide),ξ rfl];rfl
theorem aUa {f n:Int}{s:Str}{t:Ty}{ks:List Core}{bs:List Bind}{al:List Alt}(h5:¬f=5) (h7:¬f=7) (h3:¬f=3) (q:gvC (.mk f n s t ks bs al)=none):shC (.mk f n s t ks bs al)=false:=aJ2.2 ⟨h5,h7,h3,q⟩
def aIp (t:Ty) (k:Nat) (c:Core) (p:CE):Prop:=
 (p.2=0∧WT [] e0 p.1 t∧(tA k c=true→(p.1.form=5∨shC p.1=false)∧∀k',tA k' p.1=false))∨p.2=52∨p.2=53
theorem aIp.kid {t u:Ty}{k:Nat}{c x:Core}{p:CE}{j:Nat}(hx:c.kids[j]?=some x) (hs:shC x=false) (hp:aIp u k x p) (st:Core→CE) (q:st x=p)
  (hw:∀r,WT [] e0 r u→WT [] e0 (aE4 c j r) t) (ht:∀k',tA k' c=true→tA (k'-1) x=true∧0<k')
  (hn:∀r,WT [] e0 r u→r.form=5∨shC r=false→(∀k',tA k' r=false)→((aE4 c j r).form=5∨shC (aE4 c j r)=false)∧∀k',tA k' (aE4 c j r)=false):aIp t (k+1) c (yL st c j):=by
 unfold yL;rw[hx];dsimp only;unfold aL7;rw[hs,φ A5,q];rcases hp with⟨h1,h2,h3⟩ | h
 ·rw[ξ h1];refine .inl ⟨rfl,hw _ h2,fun h=>?_⟩;obtain⟨g1,g2⟩:=h3 (ht _ h).1;exact hn _ h2 g1 g2
 ·have h0:¬p.2=0:=by omega
  rw[φ h0];exact .inr h
theorem aJ8 {s:Str}{u:Ty}:rmE (upd e0 s u) s=e0:=by
 funext z;simp only[rmE,upd,e0];split<;>rfl
theorem a2a {s:Str}{u t:Ty}{b a:Core}(hb:WT [] (upd e0 s u) b t) (ha:WT [] e0 a u):WT [] e0 (nS b s a) t:=by
 have h:=hb.put (x:=s) (b:=a) fun I q=>by
  unfold upd at q;rw[ξ rfl] at q;cases q;exact ha
 rwa [aJ8] at h
theorem a3o {x y:Str}{u w t:Ty}{d a b:Core}(hxy:¬x=y) (hd:WT [] (upd (upd e0 x u) y w) d t) (ha:WT [] e0 a u) (hb:WT [] e0 b w):WT [] e0 (fS d ([x,y].zip [a,b])) t:=by
 have h:=hd.put (x:=x) (b:=a) fun I q=>by
  rw[aS hxy] at q;unfold upd at q;rw[ξ rfl] at q;cases q;exact ha
 rw[rZ hxy,aJ8] at h;exact a2a h hb
theorem aMo {V:List Str}{Γ:Env}{c:Core}{t:Ty}(h:WT V Γ c t) (q:∀x,¬Γ x=none→nh x):∀x∈pfR c,nh x:=fun x hx=>q x (h.free x hx)
theorem a1h {c:Core}{t:Ty}(h:WT [] e0 c t) (q:dD (QL 403) c):dD (QL 403) c∧pfR c=[]∧tyR c=[]:=⟨q,h.pf,h.ty⟩
theorem aUq (c:Core):wX c [] []=c:=by
 unfold wX;have:nW (gJ c []) ([]:List Str).length=[]:=Bl.1 (nV _ _);rw[this];rfl
theorem z7 {c:Core}(h:WT [] e0 c fM) (hs:shC c=true):∃n,c=gN n:=by
 rcases h.shown hs with⟨_,_,e⟩ | ⟨_,h⟩ | ⟨s,l,I,q⟩
 ·exact absurd e.symm gC
 ·exact h
 ·cases q with
  | b v _ _ e=>exact absurd e.symm yC
  | n u _ _ e=>exact absurd e.symm n6
  | c0 u _ _ e=>exact absurd e.symm gC
  | c1 u a _ _ e _=>exact absurd e.symm gC
  | c2 u a b _ _ e _ _=>exact absurd e.symm n6
  | p0 u w _ _ e=>exact absurd e.symm gC
  | p1 u w a _ _ e _=>exact absurd e.symm gC
  | p2 u w a b _ _ e _ _=>exact absurd e.symm aFh
theorem zR {t:Ty}{k:Nat}(bd:List Bind) (Y:∀(c:Core) (t:Ty),m30 c≤k→WT [] e0 c t→dD (QL 403) c→shC c=false→aIp t k c (dR bd k c)) {s:Str}{a b:Core}(ha:WT [] e0 a fM) (hb:WT [] e0 b fM)
  (Z:m30 a≤k) (aa:m30 b≤k) (ab:dD (QL 403) a) (ac:dD (QL 403) b) (hw:∀x y,WT [] e0 x fM→WT [] e0 y fM→WT [] e0 (.mk 10 0 s zTy [x,y] [] []) t)
  (hp:∀m n,((iS s m n).2=0∧WT [] e0 (iS s m n).1 t)∨(iS s m n).2=53):aIp t (k+1) (.mk 10 0 s zTy [a,b] [] []) (dR bd (k+1) (.mk 10 0 s zTy [a,b] [] [])):=by
 have nf:∀{r:Core},WT [] e0 r fM→r.form=5∨shC r=false→shC r=false:=fun N g=>g.resolve_left fun h5=>by
  obtain⟨_,_,_,_,_,_,_,e⟩:=N.form5 h5;exact gC e.symm
 have W:∀x y:Core,shC (.mk 10 0 s zTy [x,y] [] [])=false:=fun x y=>aUa (by decide) (by decide) (by decide) (fE (by decide) (by decide) (by decide))
 rw[gT,φ (by decide),φ (by decide),φ (by decide),φ (by decide),ξ rfl];show aIp t (k+1) _ (if ¬shC a=true then _ else if ¬shC b=true then _ else if a.form=3∧b.form=3 then iS s a.n b.n else _);cases I:shC a with
 | false=>
  rw[ξ (by decide)];refine aIp.kid (u:=fM) (x:=a) rfl I (Y a fM Z ha ab I) _ rfl (fun r N=>hw r b N hb) (fun k' q=>?_) (fun r O g1 g2=>⟨.inr (W r b),fun k'=>?_⟩)
  ·cases k' with
   | zero=>rw[tA] at q;cases q
   | succ k'=>rw[rS,I,ξ (by decide)] at q;exact⟨q,by omega⟩
  ·cases k' with
   | zero=>rw[tA]
   | succ k'=>show tA (k'+1) (.mk 10 0 s zTy [r,b] [] [])=false;rw[rS,nf O g1,ξ (by decide)];exact g2 k'
 | true=>
  rw[φ (by decide)];cases J:shC b with
  | false=>
   rw[ξ (by decide)];refine aIp.kid (u:=fM) (x:=b) rfl J (Y b fM aa hb ac J) _ rfl (fun r N=>hw a r ha N) (fun k' q=>?_) (fun r O g1 g2=>⟨.inr (W a r),fun k'=>?_⟩)
   ·cases k' with
    | zero=>rw[tA] at q;cases q
    | succ k'=>rw[rS,I,φ (by decide),J,ξ (by decide)] at q;exact⟨q,by omega⟩
   ·cases k' with
    | zero=>rw[tA]
    | succ k'=>show tA (k'+1) (.mk 10 0 s zTy [a,r] [] [])=false;rw[rS,I,φ (by decide),nf O g1,ξ (by decide)];exact g2 k'
  | true=>
   rw[φ (by decide)];obtain⟨m,rfl⟩:=z7 ha I;obtain⟨n,rfl⟩:=z7 hb J;rw[ξ ⟨rfl,rfl⟩];rcases hp m n with⟨h1,h2⟩ | h
   ·refine .inl ⟨h1,h2,fun h=>?_⟩;rw[rS,I,J,φ (by decide),φ (by decide)] at h;cases h
   ·exact .inr (.inr h)
theorem aP5 {s:Str}(hs:s∈opI) (m n:Int):((iS s m n).2=0∧WT [] e0 (iS s m n).1 fM)∨(iS s m n).2=53:=by
 unfold iS;have h:s=aBo∨s=aW5∨s=aUz∨s=aO0:=by simpa [opI] using hs
 rcases h with rfl | rfl | rfl | rfl
 ·exact .inl ⟨rfl,.int⟩
 ·exact .inl ⟨rfl,.int⟩
 ·exact .inl ⟨rfl,.int⟩
 ·rw[φ (by decide),φ (by decide),φ (by decide),ξ rfl];by_cases h:n=0
  ·rw[ξ h];exact .inr rfl
  ·rw[φ h];exact .inl ⟨rfl,.int⟩
theorem aKw {s:Str}(hs:s∈opB) (m n:Int):((iS s m n).2=0∧WT [] e0 (iS s m n).1 eU)∨(iS s m n).2=53:=by
 unfold iS;have h:s=nEq∨s=nLt:=by simpa [opB] using hs
 rcases h with rfl | rfl
 ·exact .inl ⟨rfl,.bool⟩
 ·exact .inl ⟨rfl,.bool⟩
theorem aT8 (bd:List Bind):∀(k:Nat) (c:Core) (t:Ty),m30 c≤k→WT [] e0 c t→dD (QL 403) c→shC c=false→aIp t k c (dR bd k c):=by
 intro k
 induction k with
 | zero=>intro c t h;have:=eY c;omega
 | succ k ih=>
 intro c t h hw hq hs;obtain⟨q2,q4⟩:(∀x∈c.kids,dD (QL 403) x)∧∀x∈c.alts,dD (QL 403) x.body:=by cases c;exact⟨(aY.1 hq).2.1,(aY.1 hq).2.2.2⟩
 have hm:∀x∈c.kids,m30 x≤k:=fun x hx=>by
  obtain⟨f,n,s,t,ks,bs,al⟩:=c;have:=fL (l:=ks) hx;rw[m30] at h;omega
 obtain⟨n5,n7,n3,ng⟩:=aJ2.1 hs;have aa:∀(u:Ty) (x:Core) (al:List Alt),c=.mk 9 0 [] t [x] [] al→WT [] e0 x u→(∀a b,¬u=bT a b)→(∀r,WT [] e0 r u→WT [] e0 (.mk 9 0 [] t [r] [] al) t)→shC x=false→aIp t (k+1) c (dR bd (k+1) c):=fun u x al hc hx hnf hr q=>by
  subst hc;rw[gT,φ (by decide),φ (by decide),φ (by decide),ξ rfl];show aIp t (k+1) _ (if shC x=true then _ else _);rw[φ (by rw[q];decide)];refine aIp.kid (u:=u) (x:=x) rfl q (ih x u (hm x η) hx (q2 x η) q) _ rfl hr (fun k' N=>?_) (fun r hwr g1 g2=>?_)
  ·cases k' with
   | zero=>rw[tA] at N;cases N
   | succ k'=>rw[aCb,φ (by rw[q];decide)] at N;exact⟨N,by omega⟩
  ·have hsr:shC r=false:=g1.resolve_left fun h5=>by
    obtain⟨_,_,_,_,_,_,_,e⟩:=hwr.form5 h5;exact hnf _ _ e
   refine⟨.inr (aUa (by decide) (by decide) (by decide) (fE (by decide) (by decide) (by decide))),fun k'=>?_⟩;cases k' with
   | zero=>rw[tA]
   | succ k'=>show tA (k'+1) (.mk 9 0 [] t [r] [] al)=false;rw[aCb,φ (by rw[hsr];decide)];exact g2 k'
 have hnA:∀(x:Core) (al:List Alt),c=.mk 9 0 [] t [x] [] al→shC x=true→∀k',¬tA k' c=true:=fun x al hc q k' N=>by
  subst hc;cases k' with
  | zero=>rw[tA] at N;cases N
  | succ k'=>rw[aCb,ξ q] at N;cases N
 have hsh:∀(x:Core) (al:List Alt),c=.mk 9 0 [] t [x] [] al→shC x=true→dR bd (k+1) c=match al.findSome? fun a=>j6 a x with | some r=>(r,0) | none=>(zC,52):=fun x al hc q=>by
  subst hc;rw[gT,φ (by decide),φ (by decide),φ (by decide),ξ rfl];show(if shC x=true then _ else _)=_;rw[ξ q];rfl
 have tk1:∀(n:Int) (s:Str) (v:List Str) (d x:Core) (s1:Str) (l1:List Core),gvC x=some (s1,l1)→j6 (.mk 1 n s v d) x=if s1=s∧l1.length=v.length then some (wX d v l1) else none:=fun n s v d x s1 l1 O=>by
  show(if(1:Int)=3 then some d else if(1:Int)=2 then(if x.form=3∧x.n=n then some d else none) else match gvC x with | some (s',l)=>if s'=s∧l.length=v.length then some (wX d v l) else none | none=>none)=_;rw[φ (show ¬((1:Int)=3) by decide),φ (show ¬((1:Int)=2) by decide),O]
 have hput:∀(x y:Str) (u w:Ty) (d a b I:Core) (s:Str),¬x=y→WT [] (upd (upd e0 x u) y w) d t→dD (QL 403) d→nh x→nh y→dD (QL 403) I→gvC I=some (s,[a,b])→WT [] e0 a u→WT [] e0 b w→WT [] e0 (wX d [x,y] [a,b]) t:=fun x y u w d a b I s hxy hd hdq hnx hny hsq O ha hb=>by
  have hl:=a3b I hsq _ _ O
  rw[aKu (X:=403) (by decide) d [x,y] [a,b] rfl (by simp) (fun z Y=>by
   rcases Ai.1 Y with rfl | Y
   ·exact hnx
   ·rw[ζ.1 Y];exact hny) hdq (aMo hd fun z Y=>by
    by_cases e1:z=y
    ·rw[e1];exact hny
    ·by_cases e2:z=x
     ·rw[e2];exact hnx
     ·rw[aS e1,aS e2] at Y;exact absurd rfl Y) fun z Y=>by
    rcases Ai.1 Y with rfl | Y
    ·exact a1h ha (hl _ η)
    ·rw[ζ.1 Y];exact a1h hb (hl _ (ω _ η))]
  exact a3o hxy hd ha hb
 cases hw with
 | var h=>cases h
 | int=>exact absurd rfl n3
 | bool=>unfold aB1 at ng;rw[qF] at ng;cases ng
 | nil h=>rw[k9,qF] at ng;cases ng
 | cons h=>rw[k9,qF] at ng;cases ng
 | pair h1 h2=>rw[k9,k9,qF] at ng;cases ng
 | lam hu hb=>exact absurd rfl n5
 | fail ht=>
  rw[gT,φ (by decide),φ (by decide),φ (by decide),φ (by decide),φ (by decide),ξ rfl];exact .inr (.inl rfl)
 | @app _ _ f a u _ hf ha=>
  rw[gT,φ (by decide),ξ (.inl rfl)];by_cases h5:f.form=5
  ·obtain⟨s,b,u',t',rfl,hu,hb,e⟩:=hf.form5 h5;obtain⟨rfl,rfl⟩:=lX e;rw[ξ ⟨rfl,rfl⟩];refine .inl ⟨rfl,?_,fun h=>?_⟩
   ·show WT [] e0 (eQ (m30 b) b s a) t;have hqb:dD (QL 403) b:=(aY.1 (q2 _ η)).2.1 b η;rw[aCd (X:=403) (by rw[ha.pf];simp) ha.ty (m30 b) b (le_refl _) hqb];exact a2a hb ha
   ·rw[aJv,ξ (show(Core.mk 5 0 s u [b] [] []).form=5 from rfl)] at h;cases h
  ·rw[φ fun h=>h5 h.2,φ fun h=>absurd h.1 (by decide)]
   have hsf:shC f=false:=aJ2.2 ⟨h5,hf.form7,fun h3=>(by obtain⟨_,_,e⟩:=hf.form3 h3;exact gC e),by
    rw[aMa] at ng;cases O:gvC f with
    | none=>rfl
    | some p=>rw[O] at ng;cases ng⟩
   refine aIp.kid (u:=bT u t) (x:=f) rfl hsf (ih f _ (hm f η) hf (q2 f η) hsf) _ rfl (fun r hr=>WT.app hr ha) (fun k' N=>?_) (fun r hwr g1 g2=>?_)
   ·cases k' with
    | zero=>rw[tA] at N;cases N
    | succ k'=>rw[aJv,φ h5] at N;exact⟨N,by omega⟩
   ·have hgr:gvC r=none:=by
     rcases g1 with h | h
     ·obtain⟨_,_,_,_,rfl,_⟩:=hwr.form5 h;exact fE (by decide) (by decide) (by decide)
     ·exact(aJ2.1 h).2.2.2
    refine⟨.inr (aUa (by decide) (by decide) (by decide) ?_),fun k'=>?_⟩
    ·show gvC (.mk 4 0 [] zTy [r,a] [] [])=none;rw[aMa,hgr];rfl
    ·cases k' with
     | zero=>rw[tA]
     | succ k'=>
      show tA (k'+1) (.mk 4 0 [] zTy [r,a] [] [])=false;rw[aJv];split
      ·rfl
      ·exact g2 k'
 | @tt _ W _ Δ s p b u t' h1 h2 h3 h4 h5 h6=>
  have hW:W=[]:=aFp h1;subst hW;have hΔ:Δ=e0:=by
   funext z;cases hd:Δ z with
   | none=>rfl
   | some w=>have:=(h2 z w hd).1;cases this
  subst hΔ;rw[gT,φ (by decide),ξ (.inr rfl),φ (fun h=>absurd h.1 (by decide)),ξ ⟨rfl,rfl⟩];have hql:dD (QL 403) (.mk 5 0 p (vT s) [b] [] []):=(aY.1 (q2 _ η)).2.1 _ η;have e1:sTR (m30 (.mk 5 0 p (vT s) [b] [] [])) (.mk 5 0 p (vT s) [b] [] []) s u=.mk 5 0 p u [nT b s u] [] []:=by
   rw[aX1 (X:=403) h5.closed _ _ (le_refl _) hql,jM (by decide),pY,ξ rfl];rfl
  refine .inl ⟨rfl,?_,fun _=>?_⟩
  ·show WT [] e0 (sTR (m30 (.mk 5 0 p (vT s) [b] [] [])) (.mk 5 0 p (vT s) [b] [] []) s u) (bT u t');rw[e1];have h7:=h6.tput (a:=s) (u0:=u) h5;rw[mQ,pY,ξ rfl,h4.id h3,show rmV [s] s=[] by simp[rmV],show tsE e0 s u=e0 from rfl] at h7;exact .lam h5 h7
  ·show((sTR (m30 (.mk 5 0 p (vT s) [b] [] [])) (.mk 5 0 p (vT s) [b] [] []) s u).form=5∨_)∧∀k',tA k' (sTR (m30 (.mk 5 0 p (vT s) [b] [] [])) (.mk 5 0 p (vT s) [b] [] []) s u)=false;rw[e1];exact⟨.inl rfl,aJu (by decide) (by decide) (by decide) (by decide)⟩
 | @lt _ _ s b d u _ hu hb hc=>
  rw[gT,φ (by decide),φ (by decide),ξ rfl];refine .inl ⟨rfl,?_,fun h=>by rw[aJu (by decide) (by decide) (by decide) (by decide)] at h;cases h⟩;show WT [] e0 (wX d [s] [kN [.mk s u b] (.mk s u b)]) t;have hl:WT [] e0 (kN [.mk s u b] (.mk s u b)) u:=.lt hu hb hb;have hns:nh s:=(aIo hq).1 s (by simp[gvN,Bind.name])
  rw[aKu (X:=403) (by decide) d [s] [kN [.mk s u b] (.mk s u b)] rfl (by simp) (fun z Y=>by rw[ζ.1 Y];exact hns) (q2 d η) (aMo hc fun z Y=>by
   by_cases e:z=s
   ·rw[e];exact hns
   ·rw[aS e] at Y;exact absurd rfl Y) fun z Y=>by rw[ζ.1 Y];exact a1h hl (aZh hq η)]
  exact a2a hc hl
 | @cbool _ _ x a b _ ht hx ha hb=>
  cases q:shC x with
  | false=>exact aa eU x _ rfl hx (fun _ _ e=>jB e.symm) (fun r hr=>.cbool ht hr ha hb) q
  | true=>
   rw[hsh x _ rfl q];rcases hx.shown q with⟨_,_,e⟩ | ⟨e,_⟩ | ⟨s,l,O,ab⟩
   ·exact absurd e.symm jB
   ·exact absurd e yC
   ·cases ab with
    | b v J Z _=>
     subst J Z;rw[Bm,tk1 _ _ _ _ _ _ _ O,Bm,tk1 _ _ _ _ _ _ _ O];cases v with
     | true=>exact .inl ⟨rfl,by rw[ξ ⟨rfl,rfl⟩];rw[aUq];exact ha,fun h=>absurd h (hnA x _ rfl q _)⟩
     | false=>exact .inl ⟨rfl,by rw[φ (by decide),ξ ⟨rfl,rfl⟩];rw[aUq];exact hb,fun h=>absurd h (hnA x _ rfl q _)⟩
    | n u _ _ e=>exact absurd e.symm nZ
    | c0 u _ _ e=>exact absurd e.symm jB
    | c1 u a _ _ e _=>exact absurd e.symm jB
    | c2 u a b _ _ e _ _=>exact absurd e.symm nZ
    | p0 u w _ _ e=>exact absurd e.symm jB
    | p1 u w a _ _ e _=>exact absurd e.symm jB
    | p2 u w a b _ _ e _ _=>exact absurd e.symm aCv
 | @cint _ _ m x a b _ ht hx ha hb=>
  cases q:shC x with
  | false=>exact aa fM x _ rfl hx (fun _ _ e=>gC e.symm) (fun r hr=>.cint ht hr ha hb) q
  | true=>
   rw[hsh x _ rfl q];rcases hx.shown q with⟨_,_,e⟩ | ⟨_,n,rfl⟩ | ⟨s,l,O,ab⟩
   ·exact absurd e.symm gC
   ·have e1:j6 (.mk 2 m [] [] a) (gN n)=if n=m then some a else none:=by
     show(if(2:Int)=3 then some a else if(2:Int)=2 then(if(3:Int)=3∧n=m then some a else none) else _)=_;rw[φ (show ¬((2:Int)=3) by decide),ξ rfl];by_cases e:n=m
     ·rw[ξ e,ξ ⟨rfl,e⟩]
     ·rw[φ e,φ fun h=>e h.2]
    have e2:j6 (.mk 3 0 [] [] b) (gN n)=some b:=by show(if(3:Int)=3 then some b else _)=_;rw[ξ rfl]
    rw[Bm,e1,Bm,e2];by_cases e:n=m
    ·rw[ξ e];exact .inl ⟨rfl,ha,fun h=>absurd h (hnA _ _ rfl q _)⟩
    ·rw[φ e];exact .inl ⟨rfl,hb,fun h=>absurd h (hnA _ _ rfl q _)⟩
   ·cases ab with
    | b v _ _ e=>exact absurd e.symm yC
    | n u _ _ e=>exact absurd e.symm n6
    | c0 u _ _ e=>exact absurd e.symm gC
    | c1 u a _ _ e _=>exact absurd e.symm gC
    | c2 u a b _ _ e _ _=>exact absurd e.symm n6
    | p0 u w _ _ e=>exact absurd e.symm gC
    | p1 u w a _ _ e _=>exact absurd e.symm gC
    | p2 u w a b _ _ e _ _=>exact absurd e.symm aFh
 | @cl1 _ _ x y I d u _ hxy ht hx hd=>
  have hv:=(aIo hq).2 _ η;cases q:shC I with
  | false=>exact aa (tLs u) I _ rfl hx (fun _ _ e=>fF e.symm) (fun r hr=>.cl1 hxy ht hr hd) q
  | true=>
   rw[hsh I _ rfl q];rcases hx.shown q with⟨_,_,e⟩ | ⟨e,_⟩ | ⟨s,l,O,ab⟩
   ·exact absurd e.symm fF
   ·exact absurd e n6
   ·cases ab with
    | b v _ _ e=>exact absurd e nZ
    | n u J Z e=>
     subst J Z;rw[Bm,tk1 _ _ _ _ _ _ _ O,φ (fun h=>by cases h.2)];exact .inr (.inl rfl)
    | c0 u _ _ e=>exact absurd e.symm fF
    | c1 u a _ _ e _=>exact absurd e.symm fF
    | c2 u' a b J Z e ha hb=>
     subst J Z;have e:=aB9 e;subst e;rw[Bm,tk1 _ _ _ _ _ _ _ O,ξ ⟨rfl,rfl⟩];exact .inl ⟨rfl,hput x y _ _ d a b I _ hxy hd (q4 _ η) (hv x (by simp[Alt.vars])) (hv y (by simp[Alt.vars])) (q2 I η) O ha hb,fun h=>absurd h (hnA I _ rfl q _)⟩
    | p0 u w _ _ e=>exact absurd e.symm fF
    | p1 u w a _ _ e _=>exact absurd e.symm fF
    | p2 u w a b _ _ e _ _=>exact absurd e vD
 | @cl2 _ _ x y I d d2 u _ hxy ht hx hd hd2=>
  have hv:=(aIo hq).2 _ η;cases q:shC I with
  | false=>exact aa (tLs u) I _ rfl hx (fun _ _ e=>fF e.symm) (fun r hr=>.cl2 hxy ht hr hd hd2) q
  | true=>
   rw[hsh I _ rfl q];rcases hx.shown q with⟨_,_,e⟩ | ⟨e,_⟩ | ⟨s,l,O,ab⟩
   ·exact absurd e.symm fF
   ·exact absurd e n6
   ·cases ab with
    | b v _ _ e=>exact absurd e nZ
    | n u J Z e=>
     subst J Z;rw[Bm,tk1 _ _ _ _ _ _ _ O,φ (fun h=>by cases h.2),Bm,tk1 _ _ _ _ _ _ _ O,ξ ⟨rfl,rfl⟩];exact .inl ⟨rfl,by rw[aUq];exact hd2,fun h=>absurd h (hnA I _ rfl q _)⟩
    | c0 u _ _ e=>exact absurd e.symm fF
    | c1 u a _ _ e _=>exact absurd e.symm fF
    | c2 u' a b J Z e ha hb=>
     subst J Z;have e:=aB9 e;subst e;rw[Bm,tk1 _ _ _ _ _ _ _ O,ξ ⟨rfl,rfl⟩];exact .inl ⟨rfl,hput x y _ _ d a b I _ hxy hd (q4 _ η) (hv x (by simp[Alt.vars])) (hv y (by simp[Alt.vars])) (q2 I η) O ha hb,fun h=>absurd h (hnA I _ rfl q _)⟩
    | p0 u w _ _ e=>exact absurd e.symm fF
    | p1 u w a _ _ e _=>exact absurd e.symm fF
    | p2 u w a b _ _ e _ _=>exact absurd e vD
 | @cp _ _ x y I d u w _ hxy ht hx hd=>
  have hv:=(aIo hq).2 _ η;cases q:shC I with
  | false=>exact aa (tPr u w) I _ rfl hx (fun _ _ e=>oC e.symm) (fun r hr=>.cp hxy ht hr hd) q
  | true=>
   rw[hsh I _ rfl q];rcases hx.shown q with⟨_,_,e⟩ | ⟨e,_⟩ | ⟨s,l,O,ab⟩
   ·exact absurd e.symm oC
   ·exact absurd e aFh
   ·cases ab with
    | b v _ _ e=>exact absurd e aCv
    | n u _ _ e=>exact absurd e.symm vD
    | c0 u _ _ e=>exact absurd e.symm oC
    | c1 u a _ _ e _=>exact absurd e.symm oC
    | c2 u a b _ _ e _ _=>exact absurd e.symm vD
    | p0 u w _ _ e=>exact absurd e.symm oC
    | p1 u w a _ _ e _=>exact absurd e.symm oC
    | p2 u' w' a b J Z e ha hb=>
     subst J Z;obtain⟨e1,e2⟩:=aB8 e;subst e1 e2;rw[Bm,tk1 _ _ _ _ _ _ _ O,ξ ⟨rfl,rfl⟩];exact .inl ⟨rfl,hput x y _ _ d a b I _ hxy hd (q4 _ η) (hv x (by simp[Alt.vars])) (hv y (by simp[Alt.vars])) (q2 I η) O ha hb,fun h=>absurd h (hnA I _ rfl q _)⟩
 | @pint _ _ s a b J ha hb=>exact zR bd ih ha hb (hm a η) (hm b (ω _ η)) (q2 a η) (q2 b (ω _ η)) (fun _ _ h1 h2=>.pint J h1 h2) (aP5 J)
 | @pbool _ _ s a b J ha hb=>exact zR bd ih ha hb (hm a η) (hm b (ω _ η)) (q2 a η) (q2 b (ω _ η)) (fun _ _ h1 h2=>.pbool J h1 h2) (aKw J)
inductive GC:Nat→Core→Prop
 | var {s:Str} (h:s∈nm6):GC 4 (.mk 1 0 s zTy [] [] [])
 | con {s:Str} (h:s.length≤8):GC 9 (.mk 2 0 s zTy [] [] [])
 | int {n:Int} (h: -100≤n∧n≤100):GC 1 (.mk 3 n [] zTy [] [] [])
 | app {m n:Nat} {a b:Core} (ha:GC m a) (hb:GC n b):GC (m+n+1) (.mk 4 0 [] zTy [a,b] [] [])
 | lam {m k:Nat} {s:Str} {t:Ty} {a:Core} (h:s∈nm6) (ht:GT k t) (hk:k≤100) (ha:GC m a):GC (m+4) (.mk 5 0 s t [a] [] [])
 | tapp {m k:Nat} {t:Ty} {a:Core} (ht:GT k t) (hk:k≤100) (ha:GC m a):GC (m+1) (.mk 6 0 [] t [a] [] [])
 | tlam {m:Nat} {s:Str} {a:Core} (h:s∈tvN) (ha:GC m a):GC (m+20) (.mk 7 0 s zTy [a] [] [])
 | lt {m n k:Nat} {s:Str} {t:Ty} {a b:Core} (h:s∈nm6) (ht:GT k t) (hk:k≤100) (ha:GC m a) (hb:GC n b):GC (m+n+5) (.mk 8 0 [] zTy [a] [.mk s t b] [])
 | case1 {m n k:Nat} {t:Ty} {a b:Core} {f i:Int} {s:Str} {vs:List Str} (ht:GT k t) (hk:k≤100) (ha:GC m a) (hb:GC n b) (h1:1≤f∧f≤3) (h2: -100≤i∧i≤100) (h3:s.length≤8) (h4:∀x∈vs,x∈nm6) (h5:vs.length≤2):GC (m+n+20) (.mk 9 0 [] t [a] [] [.mk f i s vs b])
 | case2 {m n o k:Nat} {t:Ty} {a b c:Core} {f i:Int} {s:Str} {vs:List Str} {f' i':Int} {s':Str} {vs':List Str} (ht:GT k t) (hk:k≤100) (ha:GC m a) (hb:GC n b) (hc:GC o c) (h1:1≤f∧f≤3) (h2: -100≤i∧i≤100) (h3:s.length≤8) (h4:∀x∈vs,x∈nm6) (h5:vs.length≤2) (h1':1≤f'∧f'≤3) (h2': -100≤i'∧i'≤100) (h3':s'.length≤8) (h4':∀x∈vs',x∈nm6) (h5':vs'.length≤2):GC (m+n+o+40) (.mk 9 0 [] t [a] [] [.mk f i s vs b,.mk f' i' s' vs' c])
 | prim {m n:Nat} {s:Str} {a b:Core} (h:s∈aP6) (ha:GC m a) (hb:GC n b):GC (m+n+5) (.mk 10 0 s zTy [a,b] [] [])
 | fail {k:Nat} {t:Ty} (ht:GT k t) (hk:k≤100):GC 1 (.mk 11 0 [] t [] [] [])
def aGk (l:List (Str×Ty)):Env:=l.foldl (fun Γ p=>if p.1=[] then Γ else upd Γ p.1 p.2) e0
theorem aAn (l:List (Str×Ty)) (s:Str) (t:Ty):aGk (l++[(s,t)])=if s=[] then aGk l else upd (aGk l) s t:=by
 unfold aGk;rw[Bu];rfl
theorem aQ3 (l:List (Str×Ty)) (t:Ty):aGk (l++[([],t)])=aGk l:=by rw[aAn,ξ rfl]
theorem aAo (l:List (Str×Ty)) {s:Str}(hs:s∈nm6) (t:Ty):aGk (l++[(s,t)])=upd (aGk l) s t:=by
 rw[aAn,φ];rintro rfl;exact absurd hs (by decide)
theorem aAm:∀(l:List (Str×Ty)) (Γ:Env) (x:Str) (w:Ty),l.foldl (fun Γ p=>if p.1=[] then Γ else upd Γ p.1 p.2) Γ x=some w→Γ x=some w∨∃p∈l,p.2=w
 | [],Γ,x,w,h=>.inl h
 | p::l,Γ,x,w,h=>by
  rcases aAm l _ x w h with h | ⟨q,I,e⟩
  ·have h:(if p.1=[] then Γ else upd Γ p.1 p.2) x=some w:=h;by_cases e:p.1=[]
   ·rw[ξ e] at h;exact .inl h
   ·rw[φ e] at h;unfold upd at h;split at h
    ·exact .inr ⟨p,η,Option.some.inj h⟩
    ·exact .inl h
  ·exact .inr ⟨q,ω _ I,e⟩
theorem aVs:∀(l:List (Str×Ty)) (Γ:Env) (k:Nat) (x:Str×Ty),l[k]?=some x→¬x.1=[]→(∀(j:Nat) (y:Str×Ty),k<j→l[j]?=some y→¬y.1=x.1)→l.foldl (fun Γ p=>if p.1=[] then Γ else upd Γ p.1 p.2) Γ x.1=some x.2:=by
 intro l
 induction l with
 | nil=>intro Γ k x h;simp at h
 | cons p l Z=>
  intro Γ k x h hx J;rw[Cr];cases k with
  | succ k=>exact Z _ k x (by simpa using h) hx fun j y aa I=>J (j+1) y (by omega) (by simpa using I)
  | zero=>
   have e:p=x:=by simpa using h
   subst e;rw[φ hx];have N:∀(m:List (Str×Ty)) (Γ:Env),(∀y∈m,¬y.1=p.1)→m.foldl (fun Γ p=>if p.1=[] then Γ else upd Γ p.1 p.2) Γ p.1=Γ p.1:=by
    intro m
    induction m with
    | nil=>intro Γ _;rfl
    | cons q m O=>
     intro Γ W;rw[Cr,O _ fun y I=>W y (ω _ I)];split
     ·rfl
     ·exact aS fun e=>W q η e.symm
   rw[N l _ fun y I=>by
    obtain⟨j,Y,e⟩:=List.getElem_of_mem I
    exact J (j+1) y (by omega) (by rw[Bh,List.getElem?_eq_getElem Y,e])]
   unfold upd;rw[ξ rfl]
structure GCW (v:Gv) (m:Nat) (c:Core) (t:Ty):Prop where
 g:GC m c
 w:WT v.vars (aGk v.l) c t
theorem GCW.less {v:Gv}{u t:Ty}{m:Nat}{c:Core}(h:GCW (dF v [] u) m c t):GCW v m c t:=⟨h.g,by have:=h.w;unfold dF at this;rwa [aQ3] at this⟩
theorem GCW.in {v:Gv}{s:Str}{u t:Ty}{m:Nat}{c:Core}(hs:s∈nm6) (h:GCW (dF v s u) m c t):WT v.vars (upd (aGk v.l) s u) c t:=by have:=h.w;unfold dF at this;rwa [aAo _ hs] at this
theorem GCW.in2 {v:Gv}{s s':Str}{u q t:Ty}{m:Nat}{c:Core}(hs:s∈nm6) (I:s'∈nm6) (h:GCW (dF (dF v s u) s' q) m c t):WT v.vars (upd (upd (aGk v.l) s u) s' q) c t:=by
 have:=h.in I;unfold dF at this;rwa [aAo _ hs] at this
structure Gok (v:Gv):Prop where
 all:∀x∈v.l,(x.1=[]∨x.1∈nm6)∧∃k,k≤100∧GTW v.vars k x.2
 vars:Sh8 v.vars
 d0:0≤v.deep
 len:(v.l.length:Int)≤v.deep
 vlen:(v.vars.length:Int)≤v.deep+1
theorem Gok.more {v:Gv}(h:Gok v) {s:Str}{t:Ty}{k:Nat}(hs:s=[]∨s∈nm6) (ht:GTW v.vars k t) (hk:k≤100):Gok (dF v s t):=by
 obtain⟨h1,h2,h3,h4,h5⟩:=h;refine⟨fun x hx=>?_,h2,by show 0≤v.deep+1;omega,?_,by show(v.vars.length:Int)≤v.deep+1+1;omega⟩
 ·rcases δ.1 hx with hx | hx
  ·exact h1 x hx
  ·rw[ζ.1 hx];exact⟨hs,k,hk,ht⟩
 ·show((v.l++[(s,t)]).length:Int)≤v.deep+1;rw[τ];simp only[Be,List.length_nil];omega
theorem Gok.env {v:Gv}(h:Gok v) {x:Str}{w:Ty}(hx:aGk v.l x=some w):TW v.vars w:=by
 rcases aAm v.l e0 x w hx with q | ⟨p,hp,e⟩
 ·cases q
 ·obtain⟨_,_,_,g⟩:=h.all p hp;rw[←e];exact g.w
def aJf (L:List (Str×Ty)) (f g:Nat→Bool):Nat→List Int→Option Str×List Int
 | 0,l=>(none,l)
 | k+1,l=>if ¬(L[k]?.getD ([],zTy)).1=[]∧f k=true∧g k=true then(if 0<(tV l 3).1 then(some (L[k]?.getD ([],zTy)).1,(tV l 3).2) else aJf L f g k (tV l 3).2) else aJf L f g k l
theorem aB0 (L:List (Str×Ty)) (f g:Nat→Bool):∀(k:Nat) (l:List Int),k≤L.length→Ok l→Ok (aJf L f g k l).2∧∀s,(aJf L f g k l).1=some s→¬s=[]∧∃(j:Nat) (x:Str×Ty),L[j]?=some x∧x.1=s∧f j=true∧g j=true
 | 0,l,_,h=>⟨h,fun s hs=>by simp[aJf] at hs⟩
 | k+1,l,hk,h=>by
  rw[aJf];split
  ·rename_i hc;split
   ·refine⟨r9 h 3,fun s hs=>?_⟩;simp only[Option.some.injEq] at hs;subst hs;obtain⟨x,hx⟩:=aJ (l:=L) (k:=k) (by omega);rw[hx] at hc ⊢;exact⟨hc.1,k,x,hx,rfl,hc.2⟩
   ·exact aB0 L f g k _ (by omega) (r9 h 3)
  ·exact aB0 L f g k _ (by omega) h
def vRt (v:Gv):List R:=(xV v).map R.c
def tR (t:Ty):List R:=(aO t).map R.c
def bb (f:Int) (s a:Str):Bool:=bif decide (f=3) then decide (s=a) else false
theorem iA {f:Int}{s a:Str}(h:bb f s a=true):f=3∧s=a:=by
 unfold bb at h;by_cases h1:f=3
 ·by_cases h2:s=a
  ·exact⟨h1,h2⟩
  ·simp[h2] at h
 ·simp[h1] at h
theorem aG1 {f:Int}{s a:Str}{n k:Nat}(h:(bif decide (f=3) then bif decide (s=a) then decide ((n:Int)=(k:Int)) else false else bif false then decide ((n:Int)=(k:Int)) else false)=true):bb f s a=true∧n=k:=by
 unfold bb;by_cases h1:f=3
 ·by_cases h2:s=a
  ·simp[h1,h2] at h ⊢;omega
  ·simp[h2] at h
 ·simp[h1] at h
section
variable {V:List Str}{t hd:Ty}{L:List Ty}
theorem TW.of_fn {a b:Ty}(h:TW V (bT a b)):TW V a∧TW V b:=by
 generalize e:bT a b=t at h;cases h with
 | var h=>cases e
 | int=>exact absurd e gC
 | bool=>exact absurd e jB
 | lst h=>exact absurd e fF
 | pr h1 h2=>exact absurd e oC
 | fn h1 h2=>obtain⟨rfl,rfl⟩:=lX e;exact⟨h1,h2⟩
theorem TW.sp (h:TW V t) (hs:spR t=(hd,L)):(∃s,t=.mk 2 0 s []∧hd=.mk 2 0 s []∧L=[])∨(t=fM∧hd=fM∧L=[])∨(t=eU∧hd=eU∧L=[])∨(∃a,t=tLs a∧TW V a∧hd=.mk 3 0 [76] []∧L=[a])∨
  (∃a b,t=tPr a b∧TW V a∧TW V b∧hd=.mk 3 0 [80] []∧L=[a,b])∨∃a b,t=bT a b∧hd=.mk 3 0 arrow []∧L=[a,b]:=by
 cases h with
 | @var s h=>rw[aSh] at hs;cases hs;exact .inl ⟨s,rfl,rfl,rfl⟩
 | int=>unfold fM at hs;rw[jK] at hs;cases hs;exact .inr (.inl ⟨rfl,rfl,rfl⟩)
 | bool=>unfold eU at hs;rw[jK] at hs;cases hs;exact .inr (.inr (.inl ⟨rfl,rfl,rfl⟩))
 | @lst a h=>unfold tLs at hs;rw[kG,jK] at hs;cases hs;exact .inr (.inr (.inr (.inl ⟨a,rfl,h,rfl,rfl⟩)))
 | @pr a b h1 h2=>unfold tPr at hs;rw[kG,kG,jK] at hs;cases hs;exact .inr (.inr (.inr (.inr (.inl ⟨a,b,rfl,h1,h2,rfl,rfl⟩))))
 | @fn a b h1 h2=>unfold bT tapp at hs;rw[kG,kG,jK] at hs;cases hs;exact .inr (.inr (.inr (.inr (.inr ⟨a,b,rfl,rfl,rfl⟩))))
theorem TW.sp_int (h:TW V t) (hs:spR t=(hd,L)) (hh:hd.form=3∧hd.name=[73,110,116]):t=fM:=by
 rcases h.sp hs with⟨s,_,rfl,_⟩ | ⟨h,_⟩ | ⟨_,rfl,_⟩ | ⟨a,_,_,rfl,_⟩ | ⟨a,b,_,_,_,rfl,_⟩ | ⟨a,b,_,rfl,_⟩
 ·exact absurd hh.1 (by simp[Ty.form])
 ·exact h
 ·exact absurd hh.2 (by simp[eU,Ty.name])
 ·exact absurd hh.2 (by simp[Ty.name])
 ·exact absurd hh.2 (by simp[Ty.name])
 ·exact absurd hh.2 (by simp[Ty.name,arrow])
theorem TW.sp_bool (h:TW V t) (hs:spR t=(hd,L)) (hh:hd.form=3∧hd.name=[66,111,111,108]):t=eU:=by
 rcases h.sp hs with⟨s,_,rfl,_⟩ | ⟨_,rfl,_⟩ | ⟨h,_⟩ | ⟨a,_,_,rfl,_⟩ | ⟨a,b,_,_,_,rfl,_⟩ | ⟨a,b,_,rfl,_⟩
 ·exact absurd hh.1 (by simp[Ty.form])
 ·exact absurd hh.2 (by simp[fM,Ty.name])
 ·exact h
 ·exact absurd hh.2 (by simp[Ty.name])
 ·exact absurd hh.2 (by simp[Ty.name])
 ·exact absurd hh.2 (by simp[Ty.name,arrow])
theorem TW.sp_lst {x:Ty}(h:TW V t) (hs:spR t=(hd,[x])) (hh:hd.form=3∧hd.name=[76]):t=tLs x∧TW V x:=by
 rcases h.sp hs with⟨s,_,_,e⟩ | ⟨_,_,e⟩ | ⟨_,_,e⟩ | ⟨a,h1,h2,rfl,e⟩ | ⟨a,b,_,_,_,rfl,e⟩ | ⟨a,b,_,rfl,e⟩
 ·cases e
 ·cases e
 ·cases e
 ·cases e;exact⟨h1,h2⟩
 ·cases e
 ·cases e
theorem TW.sp_pr {x y:Ty}(h:TW V t) (hs:spR t=(hd,[x,y])) (hh:hd.form=3∧hd.name=[80]):t=tPr x y∧TW V x∧TW V y:=by
 rcases h.sp hs with⟨s,_,_,e⟩ | ⟨_,_,e⟩ | ⟨_,_,e⟩ | ⟨a,h1,h2,rfl,e⟩ | ⟨a,b,h1,h2,h3,rfl,e⟩ | ⟨a,b,_,rfl,e⟩
 ·cases e
 ·cases e
 ·cases e
 ·cases e
 ·cases e;exact⟨h1,h2,h3⟩
 ·exact absurd hh.2 (by simp[Ty.name,arrow])
end
def yK (n:Nat) (t:Ty):Prop:=∀(v:Gv) (l:List Int) (left:Int),Gok v→TW v.vars t→v.deep+n≤200→Ok l→
 ∃(c:Core) (l':List Int) (m:Nat),GCW v m c t∧m≤20*n∧Ok l'∧aQ Tryz.prog 51 [.one (.vp 700 0),.pa (xV v),tyV t] (mO l left) (.pa (aC c)) (mO l' left)
def a29:Code→Code | .seq _ b=>b | c=>c
noncomputable def a2e:Code:=a29 (a29 (Tryz.f51.body.getD .skip))
theorem iW (v:Gv) (t:Ty) (l:List Int) (left:Int) (f g:Nat→Bool) (out:Option Str×List Int) (hl:Ok l) (hL:v.l.length≤200) (hf:∀k x,v.l[k]?=some x→aQ Tryz.prog 9 [tyV x.2,tyV t] [] (B (f k)) [])
  (ab:∀k,k<v.l.length→aQ Tryz.prog 108 [.one (.c (.sl 5 (v.l.map sS))),I .i64 k] [] (B (g k)) []) (hout:aJf v.l f g v.l.length l=out) {res:V} {hout':List (Nat×AObj)}
  (ac:∀s Y,out=(some s,Y)→res=.pa (aC (.mk 1 0 s zTy [] [] []))∧hout'=mO Y left)
  (ad:∀Y,out=(none,Y)→AWp none Tryz.prog 166 (keys (mO l left)) a2e (mk [(0,.one (.vp 700 0)),(4,.one (.vp 4 0)),(5,.one (.vp 5 0)),(6,.one (.vp 6 0))] ([(4,.var 67 (vRt v)),(5,.var 30 (tR t)),(6,.var 34 bR)]++mO Y left)) (fun ex st=>(ex=.normal∨ex=.ret)∧Fin tr.flat Tryz.f51 st (mO l left) res hout')):
  aQ Tryz.prog 51 [.one (.vp 700 0),.pa (xV v),tyV t] (mO l left) res hout':=by
 have ae:(v.l.map sS).length=v.l.length:=θ _;refine bM (n:=166) tok Tryz.func51 rfl rfl rfl ?_;refine sg rfl (a8 (sg rfl (aB (aK (fun x:Nat×List Int=>mk [(0,.one (.vp 700 0)),(4,.one (.vp 4 0)),(5,.one (.vp 5 0)),(6,.one (.vp 6 0)),(7,I .i64 ((x.1:Int)-1))] ([(4,.var 67 (vRt v)),(5,.var 30 (tR t)),(6,.var 34 [.c (.int .i64 0),.c (.int .i64 0),.c (.str []),.c (.int .i64 0),.c (.int .i64 0),.c (.str []),.c .nl,.c .nl,.c .nl,.c .nl])]++mO x.2 left)) (fun x=>x.1≤v.l.length∧Ok x.2∧aJf v.l f g x.1 x.2=out) (fun x=>x.1) (v.l.length,l) ⟨le_refl _,hl,hout⟩ (sl (he:=⟨rfl,rfl,rfl,rfl,by rw[←ae];rfl,trivial⟩)) ?_))));rintro⟨k,W⟩ ⟨hk,J,q⟩;dsimp only at hk J q ⊢;refine a8 (sg rfl (aA rfl (fun hb=>?_) (fun hb=>?_)))
 ·have aa:0<k:=by have:=ψ hb;omega
  obtain⟨k,rfl⟩:∃j,k=j+1:=⟨k-1,by omega⟩
  obtain⟨⟨xs,O⟩,hx⟩:=aJ (l:=v.l) (k:=k) (by omega);have aj:=bO sS hx;have ah:((k+1:Nat):Int)-1=(k:Int):=by omega
  rw[ah];rw[aJf,hx] at q;dsimp only[Option.getD] at q;have N:=hf k _ hx;have hc2:=ab k (by omega);have ai:=aNi W left 3 (by decide) J;dsimp only at N;refine aD (a8 (aB (a8 ?_)));by_cases h1:xs=[]
  ·rw[φ (fun h=>h.1 h1)] at q;have h1':(!decide (xs=[]))=false:=by rw[Ah h1];rfl
   exact ag [(3,.row k (sS (xs,O))),(7,.bv false),(16,.bv false)] rfl (aA rfl nofun (fun _=>aD (ag [] rfl ⟨(k,W),⟨by dsimp only;omega,J,q⟩,by dsimp only;omega,sl⟩)))
  have h1':(!decide (xs=[]))=true:=by rw[Am h1];rfl
  cases h2:f k with
  | false=>
   rw[φ (fun h=>by rw[h2] at h;cases h.2.1)] at q;rw[h2] at N;refine aE mixed (ak 15 [(3,.row k (sS (xs,O))),(7,.bv true),(11,.row k (sS (xs,O)))] rfl (kcG N ?_ (hw:=h1')));exact ak 12 [(16,.bv true)] rfl (az (aA rfl nofun (fun _=>aD (ag [] rfl ⟨(k,W),⟨by dsimp only;omega,J,q⟩,by dsimp only;omega,sl⟩))))
  | true=>
  rw[h2] at N;cases h3:g k with
  | false=>
   rw[φ (fun h=>by rw[h3] at h;cases h.2.2)] at q;rw[h3] at hc2;refine aE mixed (ak 15 [(3,.row k (sS (xs,O))),(7,.bv true),(11,.row k (sS (xs,O)))] rfl (kcG N ?_ (hw:=h1')));refine ak 5 [(16,.bv true)] rfl (kcG hc2 ?_);exact kz 6 rfl (aA rfl nofun (fun _=>aD (ag [] rfl ⟨(k,W),⟨by dsimp only;omega,J,q⟩,by dsimp only;omega,sl⟩)))
  | true=>
  rw[ξ ⟨h1,h2,h3⟩] at q;rw[h3] at hc2;refine aE mixed (ak 15 [(3,.row k (sS (xs,O))),(7,.bv true),(11,.row k (sS (xs,O)))] rfl (kcG N ?_ (hw:=h1')));refine ak 5 [(16,.bv true)] rfl (kcG hc2 ?_);refine ak 3 [] rfl (kcG ai ?_);refine kz 2 rfl (aA rfl (fun hb=>?_) (fun hb=>?_))
  ·have Z:0<(tV W 3).1:=ψ hb;rw[ξ Z] at q;obtain⟨s1,Y⟩:=out;simp only[Prod.mk.injEq] at q;obtain⟨rfl,rfl⟩:=q;obtain⟨rfl,rfl⟩:=ac _ _ rfl;exact sgh [(3,.row k (sS (xs,O)))] rfl (aF (rtC trw))
  ·have Z:¬0<(tV W 3).1:=χ hb;rw[φ Z] at q;exact aD (ag [] rfl ⟨(k,_),⟨by dsimp only;omega,r9 J 3,q⟩,by dsimp only;omega,sl⟩)
 have aa:k=0:=by have:=χ hb;omega
 subst aa;rw[aJf] at q;exact aL (AWp.sub sl (ad W q.symm))
theorem aL5 (n:Nat) (t:Ty) (O:GT n t) (hn:n≤100) (ih:∀(k:Nat) (u:Ty),k<n→GT k u→yK k u):yK n t:=by
 intro v l left hv hw hd hl;have hL:v.l.length≤200:=by have:=hv.len;omega
 have hS:∀k:Nat,∃b:Bool,∀x,v.l[k]?=some x→(b=true→x.2=t)∧aQ Tryz.prog 9 [tyV x.2,tyV t] [] (B b) []:=fun k=>by
  cases hx:v.l[k]? with
  | none=>exact⟨false,fun x h=>by cases h⟩
  | some x=>
   obtain⟨_,k',hk',hx'⟩:=hv.all x (Ab hx);obtain⟨r,hr0,hr⟩:=aZx hx'.g O (by omega) (by omega);exact⟨r,fun y hy=>by cases hy;exact⟨fun h=>hr0 h v.vars v.vars hv.vars hv.vars hx'.w hw,hr⟩⟩
 have hH:∀k:Nat,∃b:Bool,k<v.l.length→(b=true→∀(j:Nat) (x y:Str×Ty),v.l[k]?=some x→k<j→v.l[j]?=some y→¬y.1=x.1)∧aQ Tryz.prog 108 [.one (.c (.sl 5 (v.l.map sS))),I .i64 k] [] (B b) []:=fun k=>by
  by_cases hk:k<v.l.length
  ·obtain⟨r,hr⟩:=aVw v.l k hk (by omega);exact⟨r,fun _=>hr⟩
  ·exact⟨false,fun h=>absurd h hk⟩
 obtain⟨f,hf'⟩:=Classical.axiomOfChoice hS;obtain⟨g,hgh'⟩:=Classical.axiomOfChoice hH;have hf:=fun k x h=>(hf' k x h).2
 have J:=fun k h=>(hgh' k h).2
 obtain⟨hok,W⟩:=aB0 v.l f g v.l.length l (le_refl _) hl;have hkl:(v.l.map sS).length=v.l.length:=θ _;generalize hout:aJf v.l f g v.l.length l=out at hok W;obtain⟨so,Y⟩:=out;cases so with
 | some s=>
  obtain⟨hs0,j,x,Z,hxs,hfj,hgj⟩:=W s rfl;have hx:=Ab Z;have aa:s∈nm6:=by
   rcases(hv.all x hx).1 with h | h
   ·rw[hxs] at h;exact absurd h hs0
   ·rw[hxs] at h;exact h
  have hwt:WT v.vars (aGk v.l) (vC s) t:=by
   refine .var ?_;have e1:=(hf' j x Z).1 hfj;have e2:=aVs v.l e0 j x Z (by rw[hxs];exact hs0) fun i y hi hy=>(hgh' j (Aa.1 Z).1).1 hgj i x y Z hi hy
   rw[hxs,e1] at e2;exact e2
  refine⟨.mk 1 0 s zTy [] [] [],Y,4,⟨.var aa,hwt⟩,by cases O<;>omega,hok,?_⟩;exact iW v t l left f g _ hl hL hf J hout (fun s' l' e=>by cases e;exact⟨rfl,rfl⟩) (fun l' e=>by cases e)
 | none=>
  clear W hS hH;have hok:Ok Y:=hok;rcases vJ O with⟨m1,m2,a,b,ga,gb,hnm,rfl,cF⟩ | cF
  ·obtain⟨s,l2,hs,N,cN⟩:=aGl Y left v hok;have aa:s∈nm6:=δ.2 (.inl hs);obtain⟨wa,wb⟩:=hw.of_fn;obtain⟨c,l3,m,gc,hm,hl3,cL⟩:=ih m2 b (by omega) gb (dF v s a) l2 left (hv.more (.inr aa) ⟨ga,wa⟩ (by omega)) wb (by show v.deep+1+(m2:Int)≤200;omega) N;have cM:=y7 v s a (by omega) ⟨hv.d0,by omega⟩;refine⟨.mk 5 0 s a [c] [] [],l3,m+4,⟨.lam aa ga (by omega) gc.g,.lam wa (gc.in aa)⟩,by omega,hl3,?_⟩;refine iW v (bT a b) l left f g _ hl hL hf J hout (fun s' l' e=>by cases e) (fun l' e=>?_);cases e;refine a8 (sk 1 rfl (kc cF ?_));refine az (aA rfl (fun _=>sk 2 rfl (kc cN ?_)) nofun);refine kz 1 rfl (skh 18 [(3,.row 0 (aO (tapp (.mk 3 0 arrow []) a))),(6,.row 1 (aO a)),(13,.row 0 (aO (tapp (.mk 3 0 arrow []) a))),(16,.row 1 (aO a))] rfl (kc cM ?_));refine ak 4 [(21,.row 1 (aO b))] rfl (kc cL ?_);exact ak 3 [(24,.all)] rfl (az (aF (rtC trw)))
  obtain⟨q,L,⟨hLg,hsp⟩,hLn,cS⟩:=aMu O (by omega);by_cases hI:bb q.form q.name [73,110,116]=true
  ·obtain⟨i,l2,hi,N,cN⟩:=jE Y left 7 (by decide) hok;refine⟨.mk 3 ((i:Int)-2) [] zTy [] [] [],l2,1,⟨.int (by omega),by rw[hw.sp_int hsp (iA hI)];exact .int⟩,by cases O<;>omega,N,?_⟩;refine iW v t l left f g _ hl hL hf J hout (fun s' l' e=>by cases e) (fun l' e=>?_);cases e;refine a8 (sk 1 rfl (kc cF ?_));refine az (aA rfl nofun (fun _=>aD (sk 1 rfl (kc cS ?_))));refine kz 6 rfl (a8 (aB (a8 (agF 4 [] rfl rfl rfl (aA rfl (fun _=>sk 1 rfl (kc cN ?_)) (fun hb=>by have:=hI.symm.trans hb;cases this))))));refine ak 3 [] rfl ?_ (hc:=by repeat (first | exact trivial | refine⟨by first | rfl | omega | (simp;omega) | (unfold Ty.name;simp;omega) | (simp;done),?_⟩));exact az (aF (rtC trw))
  by_cases hB:bb q.form q.name [66,111,111,108]=true
  ·obtain⟨i,l2,hi,N,cN⟩:=jE Y left 2 (by decide) hok;have hi:i<2:=by omega
   obtain⟨s,hs⟩:∃s,([[70,97,108,115,101],[84,114,117,101]]:List Str)[i]?=some s:=aJ (by simpa using hi);have hs':=bO bL hs;have hs8:s.length≤8:=by
    have:i=0∨i=1:=by omega
    rcases this with rfl | rfl<;>(simp at hs;subst hs;decide)
   have hwt:WT v.vars (aGk v.l) (.mk 2 0 s zTy [] [] []) t:=by
    rw[hw.sp_bool hsp (iA hB)];have:i=0∨i=1:=by omega
    rcases this with rfl | rfl
    ·have e:s=[70,97,108,115,101]:=by simpa using hs.symm
     rw[e];exact .bool (b:=false)
    ·have e:s=[84,114,117,101]:=by simpa using hs.symm
     rw[e];exact .bool (b:=true)
   refine⟨.mk 2 0 s zTy [] [] [],l2,9,⟨.con hs8,hwt⟩,by cases O<;>omega,N,?_⟩;refine iW v t l left f g _ hl hL hf J hout (fun s' l' e=>by cases e) (fun l' e=>?_);cases e;refine a8 (sk 1 rfl (kc cF ?_));refine az (aA rfl nofun (fun _=>aD (sk 1 rfl (kc cS ?_))));refine kz 6 rfl (a8 (aB (a8 (agF 4 [] rfl rfl rfl (aA rfl (fun hb=>absurd hb hI) (fun _=>a8 (agF 4 [] rfl rfl rfl (aA rfl (fun _=>sk 2 rfl (kc cN ?_)) (fun hb=>by have:=hB.symm.trans hb;cases this)))))))));exact ak 4 [(3,.row i []),(4,.row i (bL s))] rfl (az (aF (rtC trw)))
  by_cases hX:bb q.form q.name [76]=true∧L.length=1
  ·obtain⟨x,rfl⟩:∃x,L=[x]:=Bt.1 hX.2;obtain⟨k,_,gx,_,hk⟩:=hLg;have cG:=oQ [78] [x] (by simp);refine⟨.mk 6 0 [] x [.mk 2 0 [78] zTy [] [] []] [] [],Y,9+1,⟨.tapp gx (by omega) (.con (by decide)),by obtain⟨e,wx⟩:=hw.sp_lst hsp (iA hX.1);rw[e];exact .nil wx⟩,by cases O<;>omega,hok,?_⟩;refine iW v t l left f g _ hl hL hf J hout (fun s' l' e=>by cases e) (fun l' e=>?_);cases e;refine a8 (sk 1 rfl (kc cF ?_));refine az (aA rfl nofun (fun _=>aD (sk 1 rfl (kc cS ?_))));refine kz 6 rfl (a8 (aB (a8 (agF 4 [] rfl rfl rfl (aA rfl (fun hb=>absurd hb hI) (fun _=>a8 (agF 4 [] rfl rfl rfl (aA rfl (fun hb=>absurd hb hB) (fun _=>a8 (agF 4 [] rfl rfl rfl (aA rfl (fun _=>?_) (fun hb=>?_))))))))))))
   ·refine sk 1 rfl (kc cG ?_);exact kz 1 rfl (aF (rtC trw))
   ·exfalso;obtain⟨h3,h4⟩:=iA hX.1;simp[h3,h4] at hb
  by_cases hP:bb q.form q.name [80]=true∧L.length=2
  ·obtain⟨x,y,rfl⟩:∃x y,L=[x,y]:=by
    match L,hP.2 with
    | [x,y],_=>exact⟨x,y,rfl⟩
   obtain⟨k1,m1,gx,⟨k2,m2,gy,_,hk2⟩,hk1⟩:=hLg;have cG:=oQ [80] [x,y] (by simp);obtain⟨et,wx,wy⟩:=hw.sp_pr hsp (iA hP.1);obtain⟨c1,l2,w1,gc1,hw1,N,cL1⟩:=ih k1 x (by omega) gx v Y left hv wx (by omega) hok;obtain⟨c2,l3,w2,gc2,hw2,hl3,cL2⟩:=ih k2 y (by omega) gy v l2 left hv wy (by omega) N;have cA1:=gG (iB [80] [x,y]) c1;have cA2:=gG (.mk 4 0 [] zTy [iB [80] [x,y],c1] [] []) c2;refine⟨.mk 4 0 [] zTy [.mk 4 0 [] zTy [iB [80] [x,y],c1] [] [],c2] [] [],l3,(9+1+1)+w1+1+w2+1,⟨.app (.app (.tapp gy (by omega) (.tapp gx (by omega) (.con (by decide)))) gc1.g) gc2.g,by rw[et];exact .app (.app (.pair wx wy) gc1.w) gc2.w⟩,by omega,hl3,?_⟩;refine iW v t l left f g _ hl hL hf J hout (fun s' l' e=>by cases e) (fun l' e=>?_);cases e;refine a8 (sk 1 rfl (kc cF ?_));refine az (aA rfl nofun (fun _=>aD (sk 1 rfl (kc cS ?_))));refine kz 6 rfl (a8 (aB (a8 (agF 4 [] rfl rfl rfl (aA rfl (fun hb=>absurd hb hI) (fun _=>a8 (agF 4 [] rfl rfl rfl (aA rfl (fun hb=>absurd hb hB) (fun _=>a8 (agF 4 [] rfl rfl rfl (aA rfl (fun hb=>?_) (fun _=>?_))))))))))))
   ·exfalso;simp at hb
   refine a8 (agF 4 [] rfl rfl rfl (aA rfl (fun _=>?_) (fun hb=>?_)))
   ·refine sk 1 rfl (kc cG ?_);refine ak 5 [(5,.row 0 []),(6,.row 0 (aO x))] rfl (kc cL1 ?_);refine kc cA1 ?_;refine ak 5 [(12,.row 1 []),(13,.row 1 (aO y))] rfl (kc cL2 ?_);refine kc cA2 ?_;exact kz 1 rfl (aF (rtC trw))
   ·exfalso;obtain⟨h3,h4⟩:=iA hP.1;simp[h3,h4] at hb
  ·refine⟨.mk 11 0 [] t [] [] [],Y,1,⟨.fail O hn,.fail hw⟩,by cases O<;>omega,hok,?_⟩;refine iW v t l left f g _ hl hL hf J hout (fun s' l' e=>by cases e) (fun l' e=>?_);cases e;refine a8 (sk 1 rfl (kc cF ?_));refine az (aA rfl nofun (fun _=>aD (sk 1 rfl (kc cS ?_))));refine kz 6 rfl (a8 (aB (a8 (agF 4 [] rfl rfl rfl (aA rfl (fun hb=>absurd hb hI) (fun _=>a8 (agF 4 [] rfl rfl rfl (aA rfl (fun hb=>absurd hb hB) (fun _=>a8 (agF 4 [] rfl rfl rfl (aA rfl (fun hb=>?_) (fun _=>?_))))))))))))
   ·exfalso;exact hX (aG1 hb)
   refine a8 (agF 4 [] rfl rfl rfl (aA rfl (fun hb=>?_) (fun _=>?_)))
   ·exfalso;exact hP (aG1 hb)
   exact aD (sg rfl (aF (rtC trw)))
theorem aGm:∀(N n:Nat) (t:Ty),n≤N→GT n t→n≤100→yK n t
 | 0,n,t,h,q,_=>by cases q<;>omega
 | N+1,n,t,h,q,hn=>aL5 n t q hn fun k u hk hu=>aGm N k u (by omega) hu (by omega)
end Go.Proofs.YtglfogjcijokpaaGreatDoor
