/-
  A program, an expression and a pattern are printed as the document says: the law, its row and its card.
-/
import Derived.Test.YtkhgpgihmphfdaaGreatDoorM16
import Derived.Test.YtkhgpgihmphfdaaGreatDoorCards
import Derived.Test.YtkhgpgihmphfdaaGreatDoorTie
import Derived.ProofKit
import Derived.Lib.LaidTab
import Derived.Stop.LaidErr
import Derived.OpenShut
import Derived.LaidMore
import Derived.Lay
import Derived.SevenTiedAt
import Derived.Stop.Joined
open List (all_eq_true append_nil cons_append length_append length_cons length_map length_nil length_take map_append mem_append mem_of_mem_take mem_singleton take_of_length_le)
open Nat (le_refl zero_add zero_le)
namespace Go.Proofs.YtkhgpgihmphfdaaGreatDoor
open Go Go.AM
set_option maxRecDepth 20000
set_option maxHeartbeats 1000000
def a2t:List Str:=[[],[],[69,32,97,32,61,62,32],[40,69,32,97,44,32,79,32,98,41,32,61,62,32],[70,32,97,32,61,62,32]]
theorem aUr:∀s∈a2t,s.length≤14∧(aHn s.length s).isSome=true:=by decide+kernel
theorem aY7 (l:List Int) (hl:oD l) (y:l.length≤1000) (i:Nat) (hi:i≤l.length):∃(s:Str) (j:Nat),(s.length≤14∧LQ s∧l.length-j≤l.length-i)∧j≤l.length∧aW Tryz.prog 69 [tkP] [(750,tkO l i)] (Go.AM.T s) [(750,tkO l j)]:=by
 obtain⟨v,j,hv,hx,hc⟩:=cR l hl y i hi 5 (by decide) (by decide);obtain⟨s,hs⟩:=aG (l:=a2t) (k:=v) hv;have A:=aP aK hs;obtain⟨q,u⟩:=aUr s (ε hs);have B:(a2t.map aK).length=5:=rfl;refine⟨s,j,⟨q,LQ.of u,by rcases hx with⟨_,_⟩ | ⟨_,_,_⟩<;>omega⟩,hx.le hi,?_⟩;refine b9 (n:=8) tok Tryz.func69 rfl rfl rfl ?_;refine sg rfl (skh 2 [(0,.all)] rfl (kc hc ?_));exact ak 3 [(3,.row v (aK s))] rfl (az (aE rtT))
def nz:List Int→Nat
 | []=>0
 | x::l=>(if x=0 then 0 else 1)+nz l
theorem aRn:∀l m:List Int,nz (l++m)=nz l+nz m
 | [],m=>(Bk _).symm
 | x::l,m=>by rw[As,nz,nz,aRn l m];omega
inductive SmT (l:List Int):Nat→List Int→Nat→List Int→Nat→Prop
 | z (A:List Int) (i:Nat):SmT l 0 A i A i
 | s {n:Nat} {A:List Int} {i w j:Nat} {A':List Int} {j':Nat} (hc:aW Tryz.prog 25 [tkP,I .i64 ((40:Nat):Int)] [(750,tkO l i)] (I .i64 (w:Nat)) [(750,tkO l j)]) (k:SmT l n (A++[(w:Int)]) j A' j'):SmT l (n+1) A i A' j'
theorem SmT.ex {l:List Int}(hl:oD l) (y:l.length≤1000):∀(n:Nat) (A:List Int) (i:Nat),i≤l.length→(∀x∈A,0≤x∧x<40)→∃(A':List Int) (j:Nat),SmT l n A i A' j∧A'.length=A.length+n∧(∀x∈A',0≤x∧x<40)∧j≤l.length∧nz A'+(l.length-j)≤nz A+(l.length-i)
 | 0,A,i,hi,q=>⟨A,i,.z A i,rfl,q,hi,le_refl _⟩
 | n+1,A,i,hi,q=>by
  obtain⟨w,j,hw,hx,hc⟩:=cR l hl y i hi 40 (by decide) (by decide);have hj:=hx.le hi
  obtain⟨A',j',h1,h2,B,E,u⟩:=SmT.ex hl y n (A++[(w:Int)]) j hj (fun x hx=>by
   rcases A4.1 hx with hx | hx
   ·exact q x hx
   ·rw[Am.1 hx];omega)
  exact⟨A',j',.s hc h1,by rw[h2,ψ];show A.length+1+n=_;omega,B,E,by
   rw[aRn,show nz [(w:Int)]=(if(w:Int)=0 then 0 else 1)+0 from rfl] at u;rcases hx with⟨_,_⟩ | ⟨_,_,h⟩
   ·split at u<;>omega
   ·rw[ζ (by omega)] at u;omega⟩
theorem aY5 (l:List Int) (hl:oD l) (hL:l.length≤1000) (i:Nat) (hi:i≤l.length):∃(A:List Int) (j:Nat),A.length=6∧(∀x∈A,0≤x∧x<40)∧(j≤l.length∧nz A+(l.length-j)≤l.length-i)∧aW Tryz.prog 68 [tkP] [(750,tkO l i)] (.one (.c (.sl 1 (A.map fY)))) [(750,tkO l j)]:=by
 obtain⟨A1,B,q,E,J,M,O⟩:=SmT.ex hl hL 6 [] i hi (fun x hx=>by cases hx);refine⟨A1,B,E,J,⟨M,by rw[show nz []=0 from rfl] at O;omega⟩,?_⟩;refine b9 (n:=15) tok Tryz.func68 rfl rfl rfl ?_;refine sg rfl (sg rfl (AWp.sub (Sub.own (t:=3) (id:=500) 3 1 rfl rfl) ?_));refine aA (sg rfl (aF (aJ (fun x:Nat×List Int×Nat=>mk [(0,tkP),(3,.one (.hs 500 0 (x.2.1.map fY).length (x.2.1.map fY).length)),(4,I .i64 (x.1:Nat))] [(500,.arr 3 1 (x.2.1.map fY) 0),(750,tkO l x.2.2)]) (fun x=>x.1≤6∧x.2.1.length=x.1∧SmT l (6-x.1) x.2.1 x.2.2 A1 B) (fun x=>6-x.1) (0,[],i) ⟨Ab _,rfl,q⟩ sl ?_)));rintro⟨n,A,i⟩ ⟨hn,y,q⟩;dsimp only at hn y q ⊢;have hkA:(A.map fY).length=A.length:=ξ _;refine aA (sg rfl (aB rfl (fun hb=>?_) (fun hb=>?_)))
 ·have U:n<6:=by have:=κ hb;omega
  obtain⟨m,hm⟩:∃m,6-n=m+1:=⟨5-n,by omega⟩
  rw[hm] at q;have Y:m=6-(n+1):=by omega
  cases q with
  | @s _ _ _ w j _ _ hc q=>
  rw[Y] at q;have u:(A.map fY)++[[.int .i64 (w:Int)]]=(A++[(w:Int)]).map fY:=by rw[Af];rfl
  have hle:((A++[(w:Int)]).map fY).length=(A.map fY).length+1:=by rw[←u,ψ];rfl
  refine aD (aA (aF (aC mixed (ak 2 [] rfl (kc hc ?_)))));exact ak 3 [(3,.all)] rfl (az (agN [] rfl ⟨(n+1,A++[(w:Int)],j),⟨U,by dsimp only;rw[ψ,y];rfl,q⟩,by dsimp only;omega,sl (he:=⟨rfl,Go.AM.hs_ren (by rw[hle];rfl) (by rw[hle];rfl),rfl,trivial⟩) (hh:=⟨⟨_,rfl,.arrS u⟩,⟨_,rfl,Go.AM.Ole.var rfl⟩,trivial⟩)⟩))
 have aa:n=6:=by have:=Ac hb;omega
 subst aa;have hz:A=A1∧i=B:=by
  rw[show 6-6=0 from rfl] at q;cases q;exact⟨rfl,rfl⟩
 obtain⟨rfl,rfl⟩:=hz;refine aH (AWp.sub (Sub.freeze (id:=500) rfl) ?_);refine AWp.sub (st2:=mk [(3,.one (.c (.sl 1 (A.map fY))))] [(750,tkO l i)]) ?_ ?_
 ·refine Sub.trans ?_ (cv 3 (A.map fY));exact sl
 exact sg rfl (aE rtT)
def gvL:List Str:=[[97],[98],[99],[120],[109]]
def gcL:List Str:=[[73,110,116],[66,111,111,108],[76],[80],[70],[45,62],[70,117,110]]
inductive GL:Ty→Prop
 | v (s:Str) (h:s∈gvL):GL (.mk 2 0 s [])
 | c (s:Str) (h:s∈gcL):GL (.mk 3 0 s [])
 | app {a b:Ty} (ha:GL a) (hb:GL b):GL (dQ a b)
inductive BT:Ty→Prop
 | v (s:Str) (h:s∈aN0):BT (.mk 2 0 s [])
 | m (n:Int) (h:0≤n∧n≤40):BT (.mk 1 n [] [])
 | c (s:Str) (h:s∈aN3):BT (.mk 3 0 s [])
 | app {a b:Ty} (ha:BT a) (hb:BT b):BT (dQ a b)
mutual
def dn:Ty→Nat
 | .mk _ _ _ []=>4
 | .mk _ _ _ (a::l)=>5+dns (a::l)
def dns:List Ty→Nat
 | []=>0
 | a::l=>dn a+dns l
end
theorem eK (f n:Int) (s:Str):dn (.mk f n s [])=4:=by rw[dn]
theorem rJ (a b:Ty):dn (dQ a b)=5+dn a+dn b:=by unfold dQ;rw[dn,dns,dns,dns];omega
theorem aA5 (a b:Ty):dn (nB a b)=14+dn a+dn b:=by unfold nB;rw[rJ,rJ,eK];omega
theorem GL.pt {t:Ty}(h:GL t):PT t:=by
 induction h with
 | v s h=>exact .leaf 2 s (.inr (.inl rfl))
 | c s h=>exact .leaf 3 s (.inr (.inr rfl))
 | app _ _ q u=>exact .app q u
theorem aD1 {a b c d:Ty}(h:dQ a b=dQ c d):a=c∧b=d:=by
 unfold dQ at h;injection h with _ _ _ h;injection h with h1 h;injection h with h2 _;exact⟨h1,h2⟩
theorem GL.two {a b:Ty}(h:GL (dQ a b)):GL a∧GL b:=by
 generalize hx:dQ a b=x at h;cases h with
 | v s h=>unfold dQ at hx;injection hx with h _;cases h
 | c s h=>unfold dQ at hx;injection hx with h _;cases h
 | app ha hb=>obtain⟨rfl,rfl⟩:=aD1 hx;exact⟨ha,hb⟩
theorem LD.brk {s:Str}(h:LD s) (b:Bool):LD (brk b s):=by
 cases b
 ·exact h
 ·exact(((LQ.of rfl).appD h).app ⟨_,_,rfl,rfl⟩ (LQ.of rfl)).d
theorem aYv:∀s∈gvL,s.length≤4∧(rG s.length s).isSome=true:=by decide+kernel
theorem aYw:∀s∈gcL,(brk (decide (s=arrow)) s).length≤4∧(rG (brk (decide (s=arrow)) s).length (brk (decide (s=arrow)) s)).isSome=true:=by decide+kernel
theorem GL.pr:∀(k:Nat) (t:Ty),dn t≤k→GL t→LD (prT t)∧(prT t).length≤dn t
 | 0,t,h,_=>by
  cases t with
  | mk f n s l=>cases l with
   | nil=>rw[dn] at h;omega
   | cons a l=>rw[dn] at h;omega
 | k+1,t,h,E=>by
  cases E with
  | v s hs=>
   obtain⟨h1,h2⟩:=aYv s hs;rw[tH (.inr (.inl rfl)),show(decide ((2:Int)=3)&&decide (s=arrow))=false from rfl,eK];exact⟨LD.of h2,h1⟩
  | c s hs=>
   obtain⟨h1,h2⟩:=aYw s hs;rw[tH (.inr (.inr rfl)),show(decide ((3:Int)=3)&&decide (s=arrow))=decide (s=arrow) from rfl,eK];exact⟨LD.of h2,h1⟩
  | @app a b ha hb=>
   rcases(GL.app ha hb).pt.cases with⟨x,y,e,hx,hy⟩ | ⟨hn,_⟩
   ·unfold nB at e;obtain⟨rfl,rfl⟩:=aD1 e;have A:=ha.two.2;have I:dn (dQ (dQ (.mk 3 0 arrow []) x) b)=14+dn x+dn b:=aA5 x b;rw[I] at h ⊢;obtain⟨q,J⟩:=GL.pr k x (by omega) A;obtain⟨u,M⟩:=GL.pr k b (by omega) hb;rw[show dQ (dQ (.mk 3 0 arrow []) x) b=nB x b from rfl,aEj hx hy];have B:=bS (qG x) (prT x);refine⟨((q.brk _).app ⟨_,_,rfl,rfl⟩ (LQ.of rfl)).appD u,?_⟩;rw[ψ,ψ];show _+4+_≤_;omega
   ·rw[rJ] at h ⊢;obtain⟨q,J⟩:=GL.pr k a (by omega) ha;obtain⟨u,M⟩:=GL.pr k b (by omega) hb;rw[aEk hn ha.pt hb.pt];have B:=bS (qG a) (prT a);have O:=bS (decide (b.form=4)) (prT b);refine⟨((q.brk _).app ⟨_,_,rfl,rfl⟩ (LQ.of rfl)).appD (u.brk _),?_⟩;rw[ψ,ψ];show _+1+_≤_;omega
theorem GL.w {t:Ty}(h:GL t):tyW t≤8*dn t:=by
 have hv:∀s∈gvL,s.length≤4:=by decide
 have hc:∀s∈gcL,s.length≤4:=by decide
 induction h with
 | v s h=>have:=hv s h;rw[eK,tyW,aIj];omega
 | c s h=>have:=hc s h;rw[eK,tyW,aIj];omega
 | app _ _ q u=>rw[rJ,jA];omega
theorem aQu:eB 0 40=0:=by decide
theorem uD:∀(d:Nat) (l:List Int),BT (cC d l).1∧dn (cC d l).1+18*nz (cC d l).2≤4+18*nz l
 | 0,[]=>by
  rw[cC];exact⟨.c _ (by decide),by show dn (.mk 3 0 _ [])+_≤_;rw[eK];exact le_refl _⟩
 | d+1,[]=>by
  rw[cC];exact⟨.c _ (by decide),by show dn (.mk 3 0 _ [])+_≤_;rw[eK];exact le_refl _⟩
 | 0,x::l=>by
  have hn:=dY x (k:=40) (by omega);have y:nz l≤nz (x::l):=by rw[nz];omega
  rw[cC];split
  ·exact⟨.v _ (sG (by decide)),by show dn (.mk _ _ _ [])+18*nz l≤_;rw[eK];omega⟩
  split
  ·exact⟨.m _ (by omega),by show dn (.mk _ _ _ [])+18*nz l≤_;rw[eK];omega⟩
  ·exact⟨.c _ (sG (by decide)),by show dn (.mk _ _ _ [])+18*nz l≤_;rw[eK];omega⟩
 | d+1,x::l=>by
  have hn:=dY x (k:=40) (by omega);have y:nz l≤nz (x::l):=by rw[nz];omega
  obtain⟨h1,h2⟩:=uD d l;obtain⟨u,B⟩:=uD d (cC d l).2;rw[cC];split
  ·exact⟨.v _ (sG (by decide)),by show dn (.mk _ _ _ [])+18*nz l≤_;rw[eK];omega⟩
  rename_i q;have A:nz (x::l)=1+nz l:=by
   rw[nz,η (fun k=>by subst k;rw[aQu] at q;exact q (by decide))]
  split
  ·exact⟨.m _ (by omega),by show dn (.mk _ _ _ [])+18*nz l≤_;rw[eK];omega⟩
  split
  ·exact⟨.c _ (sG (by decide)),by show dn (.mk _ _ _ [])+18*nz l≤_;rw[eK];omega⟩
  split
  ·exact⟨.app (.app (.c _ (by decide)) h1) u,by dsimp only;rw[aA5];omega⟩
  ·exact⟨.app h1 u,by dsimp only;rw[rJ];omega⟩
theorem aDf {t:Ty}(h:BT t):aW Tryz.prog 90 [tyV t] [] (B (qG t)) []:=by
 have leaf:∀(f n:Int) (s:Str),¬f=4→aW Tryz.prog 90 [tyV (.mk f n s [])] [] (B false) []:=fun f n s q=>by
  have d1:(!decide (f=4))=true:=by rw[φ q];rfl
  refine b9 (n:=28) tok Tryz.func90 rfl rfl rfl ?_;exact sg rfl (aA (sg rfl (aB rfl (fun _=>sg rfl (aE rtT)) (fun hb=>Bool.noConfusion (hb.symm.trans d1)))))
 have rW:∀(f n:Int) (s:Str) (b:Ty),¬f=4→aW Tryz.prog 90 [tyV (dQ (.mk f n s []) b)] [] (B false) []:=fun f n s b q=>by
  have d1:(!decide (f=4))=true:=by rw[φ q];rfl
  refine b9 (n:=28) tok Tryz.func90 rfl rfl rfl ?_;exact sg rfl (aA (sg rfl (aB rfl (fun hb=>Bool.noConfusion hb) (fun _=>aD (aA (sgh [(2,.row 0 (bF (.mk f n s [])))] rfl (aB rfl (fun _=>sg rfl (aE rtT)) (fun hb=>Bool.noConfusion (hb.symm.trans d1)))))))))
 cases h with
 | v s h=>exact leaf 2 0 s (by decide)
 | m n h=>exact leaf 1 n [] (by decide)
 | c s h=>exact leaf 3 0 s (by decide)
 | @app a b ha hb=>
  cases ha with
  | v s h=>exact rW 2 0 s b (by decide)
  | m n h=>exact rW 1 n [] b (by decide)
  | c s h=>exact rW 3 0 s b (by decide)
  | @app x y hx hy=>
   rw[aKu];refine b9 (n:=28) tok Tryz.func90 rfl rfl rfl ?_;refine sg rfl (aA (sg rfl (aB rfl (fun hb=>Bool.noConfusion hb) (fun _=>aD (aA (sgh [(2,.row 0 (bF (dQ x y)))] rfl (aB rfl (fun hb=>Bool.noConfusion hb) (fun _=>aD (sgh [(2,.row 0 (bF (dQ x y))),(5,.row 0 (bF x))] rfl ?_)))))))));cases u:decide (x.form=3)
   ·exact sgh [(3,.bv false),(7,.bv false)] rfl (aE rtT)
   ·exact sgh [(3,.bv true),(7,.bv true)] rfl (aE rtT)
theorem BT.fn {a b:Ty}(ha:BT a) (h:qG (dQ a b)=true):∃x,BT x∧a=dQ (.mk 3 0 arrow []) x:=by
 cases ha with
 | v s _=>cases h
 | m n _=>cases h
 | c s _=>cases h
 | @app x y hx hy=>
  rw[aKu,π] at h;have h1:=κ h.1;have h2:=κ h.2;cases hx with
  | v s _=>exact absurd h1 (show ¬(2:Int)=3 by decide)
  | m n _=>exact absurd h1 (show ¬(1:Int)=3 by decide)
  | c s _=>
   have h2:s=arrow:=h2;subst h2;exact⟨y,hy,rfl⟩
  | app _ _=>exact absurd h1 (show ¬(4:Int)=3 by decide)
theorem aW9:∀s∈aN0,s∈gvL:=by decide
theorem aXe:∀s∈aN3,s∈gcL:=by decide
theorem aA4:∀(k:Nat) (t:Ty),dn t≤k→BT t→∃g,GL g∧dn g≤dn t∧aW Tryz.prog 122 [tyV t] [] (tyV g) []
 | 0,t,h,_=>by
  cases t with
  | mk f n s l=>cases l with
   | nil=>rw[dn] at h;omega
   | cons a l=>rw[dn] at h;omega
 | k+1,t,h,hB=>by
  have q:=aDf hB;cases hB with
  | v s hs=>
   refine⟨.mk 2 0 s [],.v s (aW9 s hs),le_refl _,?_⟩;rw[show qG (Ty.mk 2 0 s [])=false from rfl] at q;refine b9 (n:=48) tok Tryz.func122 rfl rfl rfl ?_;refine sg rfl (sk 1 rfl (kc q ?_));exact kz 1 rfl (aA (sg rfl (aB rfl (fun hb=>Bool.noConfusion hb) (fun _=>aD (aA (sg rfl (aF (sg rfl (aB rfl (fun hb=>Bool.noConfusion hb) (fun _=>sg rfl (aB rfl (fun hb=>Bool.noConfusion hb) (fun _=>sg rfl (aB rfl (fun hb=>Bool.noConfusion hb) (fun _=>aD (sg rfl (aE (rtC trw)))))))))))))))))
  | m n hn=>
   refine⟨.mk 2 0 [109] [],.v _ (by decide),by rw[eK,eK];exact le_refl _,?_⟩;rw[show qG (Ty.mk 1 n [] [])=false from rfl] at q;refine b9 (n:=48) tok Tryz.func122 rfl rfl rfl ?_;refine sg rfl (sk 1 rfl (kc q ?_));exact kz 1 rfl (aA (sg rfl (aB rfl (fun hb=>Bool.noConfusion hb) (fun _=>aD (aA (sg rfl (aF (sg rfl (aB rfl (fun _=>sg rfl (aE ⟨.inr rfl,⟨_,_,.cell rfl (tg rfl) rfl rfl rfl .nil,.cons (.pa (.c .refl (.c .refl (.c .refl (.c .nl .nil))))) .nil,rfl⟩,trivial,rfl⟩)) (fun hb=>Bool.noConfusion hb))))))))))
  | c s hs=>
   rw[show qG (Ty.mk 3 0 s [])=false from rfl] at q;by_cases E:s=arrow
   ·subst E;refine⟨.mk 3 0 [70,117,110] [],.c _ (by decide),by rw[eK,eK];exact le_refl _,?_⟩;refine b9 (n:=48) tok Tryz.func122 rfl rfl rfl ?_;refine sg rfl (sk 1 rfl (kc q ?_));exact kz 1 rfl (aA (sg rfl (aB rfl (fun hb=>Bool.noConfusion hb) (fun _=>aD (aA (sg rfl (aF (sg rfl (aB rfl (fun hb=>Bool.noConfusion hb) (fun _=>sg rfl (aB rfl (fun _=>aA (sg rfl (aB rfl (fun _=>sg rfl (aE ⟨.inr rfl,⟨_,_,.cell rfl (tg rfl) rfl rfl rfl .nil,.cons (.pa (.c .refl (.c .refl (.c .refl (.c .nl .nil))))) .nil,rfl⟩,trivial,rfl⟩)) (fun hb=>Bool.noConfusion hb)))) (fun hb=>Bool.noConfusion hb))))))))))))
   ·refine⟨.mk 3 0 s [],.c s (aXe s hs),le_refl _,?_⟩;have I:decide (s=[45,62])=false:=φ E;refine b9 (n:=48) tok Tryz.func122 rfl rfl rfl ?_;refine sg rfl (sk 1 rfl (kc q ?_));exact kz 1 rfl (aA (sg rfl (aB rfl (fun hb=>Bool.noConfusion hb) (fun _=>aD (aA (sg rfl (aF (sg rfl (aB rfl (fun hb=>Bool.noConfusion hb) (fun _=>sg rfl (aB rfl (fun _=>aA (sg rfl (aB rfl (fun hb=>Bool.noConfusion (hb.symm.trans I)) (fun _=>aD (sg rfl (aE (rtC trw))))))) (fun hb=>Bool.noConfusion hb))))))))))))
  | @app a b ha hb=>
   cases hv:qG (dQ a b)
   ·rw[hv] at q;rw[rJ] at h;obtain⟨g1,u,J,y⟩:=aA4 k a (by omega) ha;obtain⟨g2,A,M,B⟩:=aA4 k b (by omega) hb;refine⟨dQ g1 g2,.app u A,by rw[rJ,rJ];omega,?_⟩;refine b9 (n:=48) tok Tryz.func122 rfl rfl rfl ?_;refine sg rfl (sk 1 rfl (kc q ?_));refine kz 1 rfl (aA (sg rfl (aB rfl (fun hb=>Bool.noConfusion hb) (fun _=>aD (aA (sg rfl (aF (sg rfl (aB rfl (fun hb=>Bool.noConfusion hb) (fun _=>sg rfl (aB rfl (fun hb=>Bool.noConfusion hb) (fun _=>sg rfl (aB rfl (fun _=>skh 4 [(2,.row 0 (bF a))] rfl (kc y ?_)) (fun hb=>Bool.noConfusion hb))))))))))))));refine ak 4 [(7,.row 1 (bF b))] rfl (kc B ?_);exact ak 3 [(10,.all)] rfl (az (aE (rtC trw)))
   ·obtain⟨x,hx,rfl⟩:=ha.fn hv;rw[hv] at q;have h:dn (nB x b)≤k+1:=h;rw[aA5] at h;obtain⟨g1,u,J,y⟩:=aA4 k x (by omega) hx;obtain⟨g2,A,M,B⟩:=aA4 k b (by omega) hb;have O:=aVh g1 g2;refine⟨nB g1 g2,.app (.app (.c _ (by decide)) u) A,by rw[aA5];show _≤dn (nB x b);rw[aA5];omega,?_⟩;refine b9 (n:=48) tok Tryz.func122 rfl rfl rfl ?_;refine sg rfl (sk 1 rfl (kc q ?_));refine kz 1 rfl (aA (sg rfl (aB rfl (fun _=>skh 7 [(2,.row 0 (bF (dQ (.mk 3 0 arrow []) x))),(5,.row 1 (bF x))] rfl (kc y ?_)) (fun hb=>Bool.noConfusion hb))));refine ak 4 [(10,.row 1 (bF b))] rfl (kc B ?_);refine kc O ?_;exact kz 1 rfl (aE (rtC trw))
theorem aZa (l:List Int) (hl:oD l) (q:Fits l) (h:l.length≤24):∃g,GL g∧dn g≤4+18*nz l∧aW Tryz.prog 67 [rX l] [] (tyV g) []:=by
 have hp:=aU2 l hl q;rw[Au h] at hp;obtain⟨u,A⟩:=uD 5 l;obtain⟨g,g1,g2,y⟩:=aA4 _ _ (le_refl _) u;refine⟨g,g1,by omega,?_⟩;refine b9 (n:=6) tok Tryz.func67 rfl rfl rfl ?_;refine sg rfl (sk 1 rfl (kc hp ?_));refine kc y ?_;exact kz 1 rfl (aE (rtC trw))
def dlB:Str→Bool
 | []=>false
 | d::_=>!sgB d.toNat
theorem dlh.of {s:Str}(h:dlB s=true):dlh s:=by
 cases s with
 | nil=>cases h
 | cons d b=>exact⟨d,b,rfl,by simpa [dlB] using h⟩
def a2r:List Str:=[[76,32,97],[80,32,97,32,98],[75],[81,32,102,32,97,32,97]]
theorem aUn:∀s∈a2r,s.length≤7∧(rG s.length s).isSome=true:=by decide+kernel
def a2q:List Str:=[[78],[75],[67]]
theorem aUm:∀s∈a2q,s.length≤1∧(rG s.length s).isSome=true:=by decide+kernel
def a2p:List Str:=[[],[32,124,32,78],[32,124,32,67,32,97,32,40,76,32,97,41]]
theorem aUl:∀s∈a2p,s.length≤12∧(rG s.length s).isSome=true:=by decide+kernel
def a2x:List Str:=[[],[69,32,97,32,61,62,32],[40,69,32,97,44,32,79,32,97,41,32,61,62,32]]
theorem aUz:∀s∈a2x,s.length≤14∧(aHn s.length s).isSome=true:=by decide+kernel
def aZk:List Str:=[[69],[79],[70]]
theorem aLt:∀s∈aZk,s.length≤1∧(rG s.length s).isSome=true:=by decide+kernel
def a2w:List Str:=[[115,97,109,101],[116,111,112],[109,97,112]]
theorem aUy:∀s∈a2w,s.length≤4∧(rG s.length s).isSome=true:=by decide+kernel
def a2k:List Str:=[[],[69,32,97,32,61,62,32],[40,69,32,97,44,32,79,32,98,41,32,61,62,32]]
theorem aUa:∀s∈a2k,s.length≤14∧(aHn s.length s).isSome=true:=by decide+kernel
def a2j:List Str:=[[32,73,110,116],[32,40,76,32,97,41],[32,76],[32,40,80,32,97,32,98,41]]
theorem aT9:∀s∈a2j,s.length≤8∧(rG s.length s).isSome=true∧dlB s=true:=by decide+kernel
def a2i:List Str:=[[115,97,109,101],[116,111,112]]
theorem aT8:∀s∈a2i,s.length≤4∧(rG s.length s).isSome=true:=by decide+kernel
def a1m:List Str:=[[102],[120]]
theorem aS0:∀s∈a1m,s.length≤1∧(rG s.length s).isSome=true:=by decide+kernel
def a27:List Str:=[[102],[120],[103,32,97,32,98],[109,97,105,110]]
theorem aV3:∀s∈a27,s.length≤5∧(rG s.length s).isSome=true:=by decide+kernel
theorem aY6 (l:List Int) (hl:oD l) (y:l.length≤1000) (i:Nat) (hi:i≤l.length):∃(s:Str) (j:Nat),TX 35 l i j s∧j≤l.length∧aW Tryz.prog 26 [tkP] [(750,tkO l i)] (Go.AM.T s) [(750,tkO l j)]:=by
 have hM:1000000000≤maxLen:=by decide
 obtain⟨A,ja,hA6,hA4,⟨hja,hnz⟩,hcs⟩:=aY5 l hl y i hi;have hAn:oD A:=fun x hx=>by have:=hA4 x hx;unfold i64;omega
 have hAf:Fits A:=by unfold Fits;omega
 obtain⟨g,hg,hgd,hcg⟩:=aZa A hAn hAf (by omega);obtain⟨hKd,hKl⟩:=GL.pr _ g (le_refl _) hg;have hgw:=hg.w;have hnz6:nz A≤6:=by
  have:∀l:List Int,nz l≤l.length:=fun l=>by
   induction l with
   | nil=>exact le_refl _
   | cons x l ih=>rw[nz,ω];split<;>omega
  have:=this A;omega
 have hcp:=pU (tn g) g hg.pt (le_refl _) (by omega);generalize prT g=K at hKd hKl hcp;obtain⟨v,j,hv,hx,hc⟩:=cR l hl y ja hja 8 (by decide) (by decide);have hj:=hx.le hja;have hxj:l.length-j≤l.length-ja:=by rcases hx with⟨_,_⟩ | ⟨_,_,_⟩<;>omega
 by_cases h0:v=0
 ·subst h0;obtain⟨w2,Y,hw2,M,aa⟩:=cR l hl y j hj 4 (by decide) (by decide);have O:=M.le hj;have hxl2:l.length-Y≤l.length-j:=by rcases M with⟨_,_⟩ | ⟨_,_,_⟩<;>omega
  obtain⟨t2,U⟩:=aG (l:=a2r) (k:=w2) hw2;have ht2':=aP aK U;obtain⟨htl2,q⟩:=aUn t2 (ε U);have q:=LD.of q;have hkw2:(a2r.map aK).length=4:=rfl;obtain⟨w4,j4,hw4,hx4,hcn4⟩:=cR l hl y Y O 3 (by decide) (by decide);have hj4:=hx4.le O;have hxl4:l.length-j4≤l.length-Y:=by rcases hx4 with⟨_,_⟩ | ⟨_,_,_⟩<;>omega
  obtain⟨t4,ht4⟩:=aG (l:=a2q) (k:=w4) hw4;have ht4':=aP aK ht4;obtain⟨htl4,B⟩:=aUm t4 (ε ht4);have B:=LD.of B;have hkw4:(a2q.map aK).length=3:=rfl;obtain⟨w8,j8,hw8,hx8,hcn8⟩:=cR l hl y j4 hj4 3 (by decide) (by decide);have hj8:=hx8.le hj4;have hxl8:l.length-j8≤l.length-j4:=by rcases hx8 with⟨_,_⟩ | ⟨_,_,_⟩<;>omega
  obtain⟨t8,ht8⟩:=aG (l:=a2p) (k:=w8) hw8;have ht8':=aP aK ht8;obtain⟨htl8,htd8⟩:=aUl t8 (ε ht8);have htd8:=LD.of htd8;have hkw8:(a2p.map aK).length=3:=rfl;refine⟨[100,97,116,97,32]++t2++[32,61,32]++t4++[32,40]++K++[41]++t8,j8,⟨by simp only[ψ,ω,length_nil];omega,((((((((LQ.of rfl).appD q).app ⟨_,_,rfl,rfl⟩ (LQ.of rfl)).appD B).app ⟨_,_,rfl,rfl⟩ (LQ.of rfl)).appD hKd).app ⟨_,_,rfl,rfl⟩ (LQ.of rfl)).appD htd8)⟩,hj8,?_⟩;refine b9 (n:=117) tok Tryz.func26 rfl rfl rfl ?_;refine sg rfl (sk 1 rfl (kc hcs ?_));refine kc hcg ?_;refine kc hcp ?_;refine kz 1 rfl (aA (sk 1 rfl (kc hc ?_)));refine az (aF (sg rfl (aB rfl (fun _=>aA (aC mixed (akN 2 [(0,.all)] rfl (kc aa ?_)))) (fun hb=>Bool.noConfusion hb))));refine akN 6 [(3,.row w2 (aK t2)),(7,.all)] rfl (kc hcn4 ?_);refine akN 9 [(10,.row w4 (aK t4)),(17,.all)] rfl (kc hcn8 ?_);exact akN 4 [(20,.row w8 (aK t8))] rfl (az (aE rtT))
 by_cases h1:v=1
 ·subst h1;obtain⟨w2,Y,hw2,M,aa⟩:=cR l hl y j hj 3 (by decide) (by decide);have O:=M.le hj;have hxl2:l.length-Y≤l.length-j:=by rcases M with⟨_,_⟩ | ⟨_,_,_⟩<;>omega
  obtain⟨t2,U⟩:=aG (l:=a2x) (k:=w2) hw2;have ht2':=aP aK U;obtain⟨htl2,q⟩:=aUz t2 (ε U);have q:=LQ.of q;have hkw2:(a2x.map aK).length=3:=rfl;obtain⟨w3,j3,hw3,hx3,E⟩:=cR l hl y Y O 3 (by decide) (by decide);have J:=hx3.le O;have hxl3:l.length-j3≤l.length-Y:=by rcases hx3 with⟨_,_⟩ | ⟨_,_,_⟩<;>omega
  obtain⟨t3,ht3⟩:=aG (l:=aZk) (k:=w3) hw3;have ht3':=aP aK ht3;obtain⟨htl3,u⟩:=aLt t3 (ε ht3);have u:=LD.of u;have hkw3:(aZk.map aK).length=3:=rfl;obtain⟨w5,j5,hw5,hx5,hcn5⟩:=cR l hl y j3 J 3 (by decide) (by decide);have hj5:=hx5.le J;have hxl5:l.length-j5≤l.length-j3:=by rcases hx5 with⟨_,_⟩ | ⟨_,_,_⟩<;>omega
  obtain⟨t5,ht5⟩:=aG (l:=a2w) (k:=w5) hw5;have ht5':=aP aK ht5;obtain⟨htl5,htd5⟩:=aUy t5 (ε ht5);have htd5:=LD.of htd5;have hkw5:(a2w.map aK).length=3:=rfl;obtain⟨t7,j7,⟨htl7,htd7,hxl7⟩,hj7,hcn7⟩:=aY7 l hl y j5 hj5;have hp:=hx.pos (by omega);refine⟨[99,108,97,115,115,32]++t2++t3++[32,97,32,123,32]++t5++[32,58,32]++t7++K++[32,125],j7,⟨by simp only[ψ,ω,length_nil];omega,(((((((((LQ.of rfl).app q).appD u).app ⟨_,_,rfl,rfl⟩ (LQ.of rfl)).appD htd5).app ⟨_,_,rfl,rfl⟩ (LQ.of rfl)).app htd7).appD hKd).app ⟨_,_,rfl,rfl⟩ (LQ.of rfl)).d⟩,hj7,?_⟩;refine b9 (n:=117) tok Tryz.func26 rfl rfl rfl ?_;refine sg rfl (sk 1 rfl (kc hcs ?_));refine kc hcg ?_;refine kc hcp ?_;refine kz 1 rfl (aA (sk 1 rfl (kc hc ?_)));refine az (aF (sg rfl (aB rfl (fun hb=>Bool.noConfusion hb) (fun _=>sg rfl (aB rfl (fun _=>aA (aC mixed (akN 2 [(0,.all)] rfl (kc aa ?_)))) (fun hb=>Bool.noConfusion hb))))));refine akN 5 [(3,.row w2 (aK t2)),(6,.all)] rfl (kc E ?_);refine akN 6 [(9,.row w3 (aK t3)),(13,.all)] rfl (kc hcn5 ?_);refine akN 5 [(16,.row w5 (aK t5))] rfl (kc hcn7 ?_);exact akN 5 [] rfl (az (aE rtT))
 by_cases h2:v=2
 ·subst h2;obtain⟨w2,Y,hw2,M,aa⟩:=cR l hl y j hj 3 (by decide) (by decide);have O:=M.le hj;have hxl2:l.length-Y≤l.length-j:=by rcases M with⟨_,_⟩ | ⟨_,_,_⟩<;>omega
  obtain⟨t2,U⟩:=aG (l:=a2k) (k:=w2) hw2;have ht2':=aP aK U;obtain⟨htl2,q⟩:=aUa t2 (ε U);have q:=LQ.of q;have hkw2:(a2k.map aK).length=3:=rfl;obtain⟨w3,j3,hw3,hx3,E⟩:=cR l hl y Y O 3 (by decide) (by decide);have J:=hx3.le O;have hxl3:l.length-j3≤l.length-Y:=by rcases hx3 with⟨_,_⟩ | ⟨_,_,_⟩<;>omega
  obtain⟨t3,ht3⟩:=aG (l:=aZk) (k:=w3) hw3;have ht3':=aP aK ht3;obtain⟨htl3,u⟩:=aLt t3 (ε ht3);have u:=LD.of u;have hkw3:(aZk.map aK).length=3:=rfl;obtain⟨w4,j4,hw4,hx4,hcn4⟩:=cR l hl y j3 J 4 (by decide) (by decide);have hj4:=hx4.le J;have hxl4:l.length-j4≤l.length-j3:=by rcases hx4 with⟨_,_⟩ | ⟨_,_,_⟩<;>omega
  obtain⟨t4,ht4⟩:=aG (l:=a2j) (k:=w4) hw4;have ht4':=aP aK ht4;obtain⟨htl4,B,hte4⟩:=aT9 t4 (ε ht4);have B:=LD.of B;have hkw4:(a2j.map aK).length=4:=rfl;obtain⟨w6,j6,hw6,hx6,hcn6⟩:=cR l hl y j4 hj4 2 (by decide) (by decide);have hj6:=hx6.le hj4;have hxl6:l.length-j6≤l.length-j4:=by rcases hx6 with⟨_,_⟩ | ⟨_,_,_⟩<;>omega
  obtain⟨t6,ht6⟩:=aG (l:=a2i) (k:=w6) hw6;have ht6':=aP aK ht6;obtain⟨htl6,htd6⟩:=aT8 t6 (ε ht6);have htd6:=LD.of htd6;have hkw6:(a2i.map aK).length=2:=rfl;obtain⟨t8,j8,htw8,hj8,hcn8⟩:=aFq l hl y 3 j6 2 hj6 rfl;have htl8:=htw8.1;have htm8:=htw8.le;have hp:=hx.pos (by omega);refine⟨[105,110,115,116,97,110,99,101,32]++t2++t3++t4++[32,123,32]++t6++[32,61,32]++t8++[32,125],j8,⟨by simp only[ψ,ω,length_nil];omega,(((((((((LQ.of rfl).app q).appD u).appD (dlh.of hte4) B).app ⟨_,_,rfl,rfl⟩ (LQ.of rfl)).appD htd6).app ⟨_,_,rfl,rfl⟩ (LQ.of rfl)).appD htw8.2).app ⟨_,_,rfl,rfl⟩ (LQ.of rfl)).d⟩,hj8,?_⟩;refine b9 (n:=117) tok Tryz.func26 rfl rfl rfl ?_;refine sg rfl (sk 1 rfl (kc hcs ?_));refine kc hcg ?_;refine kc hcp ?_;refine kz 1 rfl (aA (sk 1 rfl (kc hc ?_)));refine az (aF (sg rfl (aB rfl (fun hb=>Bool.noConfusion hb) (fun _=>sg rfl (aB rfl (fun hb=>Bool.noConfusion hb) (fun _=>sg rfl (aB rfl (fun _=>aA (aC mixed (akN 2 [(0,.all)] rfl (kc aa ?_)))) (fun hb=>Bool.noConfusion hb))))))));refine akN 5 [(3,.row w2 (aK t2)),(6,.all)] rfl (kc E ?_);refine akN 5 [(9,.row w3 (aK t3)),(12,.all)] rfl (kc hcn4 ?_);refine akN 6 [(15,.row w4 (aK t4)),(19,.all)] rfl (kc hcn6 ?_);refine akN 5 [(22,.row w6 (aK t6))] rfl (kc hcn8 ?_);exact akN 3 [] rfl (az (aE rtT))
 by_cases h3:v=3
 ·subst h3;obtain⟨w1,j1,hw1,hx1,hcn1⟩:=cR l hl y j hj 2 (by decide) (by decide);have hj1:=hx1.le hj;have hxl1:l.length-j1≤l.length-j:=by rcases hx1 with⟨_,_⟩ | ⟨_,_,_⟩<;>omega
  obtain⟨t1,ht1⟩:=aG (l:=a1m) (k:=w1) hw1;have ht1':=aP aK ht1;obtain⟨htl1,I⟩:=aS0 t1 (ε ht1);have I:=LD.of I;have hkw1:(a1m.map aK).length=2:=rfl;obtain⟨t3,j3,⟨htl3,u,hxl3⟩,J,E⟩:=aY7 l hl y j1 hj1;have hp:=hx.pos (by omega);refine⟨t1++[32,58,32]++t3++K,j3,⟨by simp only[ψ,ω,length_nil];omega,(((I.app ⟨_,_,rfl,rfl⟩ (LQ.of rfl)).app u).appD hKd)⟩,J,?_⟩;refine b9 (n:=117) tok Tryz.func26 rfl rfl rfl ?_;refine sg rfl (sk 1 rfl (kc hcs ?_));refine kc hcg ?_;refine kc hcp ?_;refine kz 1 rfl (aA (sk 1 rfl (kc hc ?_)));refine az (aF (sg rfl (aB rfl (fun hb=>Bool.noConfusion hb) (fun _=>sg rfl (aB rfl (fun hb=>Bool.noConfusion hb) (fun _=>sg rfl (aB rfl (fun hb=>Bool.noConfusion hb) (fun _=>sg rfl (aB rfl (fun _=>aA (aC mixed (akN 2 [(0,.all)] rfl (kc hcn1 ?_)))) (fun hb=>Bool.noConfusion hb))))))))));refine akN 4 [(3,.row w1 (aK t1))] rfl (kc E ?_);exact akN 4 [] rfl (az (aE rtT))
 have d0:decide ((v:Int)=0)=false:=φ (by omega);have d1:decide ((v:Int)=1)=false:=φ (by omega);have d2:decide ((v:Int)=2)=false:=φ (by omega);have d3:decide ((v:Int)=3)=false:=φ (by omega);obtain⟨w1,j1,hw1,hx1,hcn1⟩:=cR l hl y j hj 4 (by decide) (by decide);have hj1:=hx1.le hj;have hxl1:l.length-j1≤l.length-j:=by rcases hx1 with⟨_,_⟩ | ⟨_,_,_⟩<;>omega
 obtain⟨t1,ht1⟩:=aG (l:=a27) (k:=w1) hw1;have ht1':=aP aK ht1;obtain⟨htl1,I⟩:=aV3 t1 (ε ht1);have I:=LD.of I;have hkw1:(a27.map aK).length=4:=rfl;obtain⟨t3,j3,htw3,J,E⟩:=aFq l hl y 4 j1 1 hj1 rfl;have htl3:=htw3.1;have htm3:=htw3.le;have hp:=hx.pos (by omega);refine⟨t1++[32,61,32]++t3,j3,⟨by simp only[ψ,ω,length_nil];omega,((I.app ⟨_,_,rfl,rfl⟩ (LQ.of rfl)).appD htw3.2)⟩,J,?_⟩;refine b9 (n:=117) tok Tryz.func26 rfl rfl rfl ?_;refine sg rfl (sk 1 rfl (kc hcs ?_));refine kc hcg ?_;refine kc hcp ?_;refine kz 1 rfl (aA (sk 1 rfl (kc hc ?_)));refine az (aF (sg rfl (aB rfl (fun hb=>Bool.noConfusion (hb.symm.trans d0)) (fun _=>sg rfl (aB rfl (fun hb=>Bool.noConfusion (hb.symm.trans d1)) (fun _=>sg rfl (aB rfl (fun hb=>Bool.noConfusion (hb.symm.trans d2)) (fun _=>sg rfl (aB rfl (fun hb=>Bool.noConfusion (hb.symm.trans d3)) (fun _=>aD (aA (aC mixed (akN 2 [(0,.all)] rfl (kc hcn1 ?_))))))))))))));refine akN 4 [(3,.row w1 (aK t1))] rfl (kc E ?_);exact akN 2 [] rfl (az (aE rtT))
theorem LD.join:∀l:List Str,(∀s∈l,LD s)→LD (Lib.join l [32,59,10])
 | [],_=>LD.of rfl
 | [a],h=>by rw[join_one];exact h a (.head _)
 | a::b::l,h=>by
  rw[pH];exact((h a (.head _)).app ⟨_,_,rfl,rfl⟩ (LQ.of rfl)).appD (LD.join (b::l) fun x hx=>h x (.tail _ hx))
inductive MkT (l:List Int):Nat→List Str→Nat→List Str→Nat→Prop
 | z (A:List Str) (i:Nat):MkT l 0 A i A i
 | s {n:Nat} {A:List Str} {i j:Nat} {s:Str} {A':List Str} {j':Nat} (hs:s.length≤40000) (hc:aW Tryz.prog 26 [tkP] [(750,tkO l i)] (Go.AM.T s) [(750,tkO l j)]) (k:MkT l n (A++[s]) j A' j'):MkT l (n+1) A i A' j'
theorem MkT.ex {l:List Int}(hl:oD l) (u:l.length≤1000):∀(n:Nat) (A:List Str) (i:Nat),i≤l.length→(∀s∈A,LD s)→∃(A':List Str) (j:Nat),MkT l n A i A' j∧A'.length=A.length+n∧(∀s∈A',LD s)∧kN A'+30*(l.length-j)≤kN A+30*(l.length-i)+38*n
 | 0,A,i,_,q=>⟨A,i,.z A i,rfl,q,le_refl _⟩
 | n+1,A,i,hi,q=>by
  obtain⟨s,j,hs,hj,hc⟩:=aY6 l hl u i hi;have E:=hs.1;have I:=hs.le
  obtain⟨A',j',h1,h2,y,B⟩:=MkT.ex hl u n (A++[s]) j hj (fun x hx=>by
   rcases A4.1 hx with hx | hx
   ·exact q x hx
   ·rw[Am.1 hx];exact hs.2)
  rw[gU,show kN [s]=s.length+3+0 from rfl] at B;exact⟨A',j',.s (by omega) hc h1,by rw[h2,ψ];show A.length+1+n=_;omega,y,by omega⟩
theorem MkT.zero {l:List Int}{A A':List Str}{i j:Nat}(k:MkT l 0 A i A' j):A=A'∧i=j:=by cases k;exact⟨rfl,rfl⟩
theorem aY9 (l:List Int) (hl:oD l) (hf:Fits l):∃s:Str,s.length≤4000∧LD s∧aW Tryz.prog 5 [.one (.c (.sl 1 (l.map fY)))] [] (Go.AM.T s) []:=by
 have hM:3000000000≤maxLen:=by decide
 have ho:=a0d l 120 hf (by decide);have u:oD (l.take 120):=fun x hx=>hl x (Bb hx)
 have B:(l.take 120).length≤120:=by rw[Ai];omega
 generalize l.take 120=L at ho u B;obtain⟨v,E,hv,J,M⟩:=rI L u (by omega) 0 (Ab _) 7 (by decide) (by decide);obtain⟨A1,j2,q,O,U,Y⟩:=MkT.ex u (by omega) (v+1) [] E J (fun x hx=>by cases hx);rw[show kN []=0 from rfl] at Y;rw[length_nil] at O;have aa:=aC9 A1 (by omega);have hjl:=dF (sep:=[32,59,10]) (by decide) A1;refine⟨Lib.join A1 [32,59,10],by omega,LD.join A1 U,?_⟩;refine b9 (n:=21) tok Tryz.func5 rfl rfl rfl ?_;refine sg rfl (sk 1 rfl (kc ho ?_));refine kz 1 rfl (sg rfl (AWp.sub (Sub.own (t:=4) (id:=500) 9 1 rfl rfl) ?_));refine aA (sk 1 rfl (kc M ?_));refine kz 1 rfl (aF (aJ (fun x:Nat×List Str×Nat=>mk [(3,tkP),(4,.one (.hs 500 0 (x.2.1.map aK).length (x.2.1.map aK).length)),(5,I .i64 ((x.1:Nat)-1:Int))] [(500,.arr 9 1 (x.2.1.map aK) 0),(750,tkO L x.2.2)]) (fun x=>x.1≤7∧x.1+x.2.1.length≤40∧MkT L x.1 x.2.1 x.2.2 A1 j2) (fun x=>x.1) (v+1,[],E) ⟨by dsimp only;omega,by dsimp only;rw[length_nil];omega,q⟩ (sl (he:=⟨rfl,rfl,by rw[show((v+1:Nat):Int)-1=(v:Nat) by omega];rfl,trivial⟩)) ?_));rintro⟨n,A,i⟩ ⟨hn,ab,q⟩;dsimp only at hn ab q ⊢;have hkA:(A.map aK).length=A.length:=ξ _;refine aA (sg rfl (aB rfl (fun hb=>?_) (fun hb=>?_)))
 ·have h0:0<n:=by have:=κ hb;omega
  obtain⟨n,rfl⟩:∃m,n=m+1:=⟨n-1,by omega⟩
  cases q with
  | @s _ _ _ j s _ _ hs hc q=>
  have y:(A.map aK)++[[.str s]]=(A++[s]).map aK:=by rw[Af];rfl
  have hle:((A++[s]).map aK).length=(A.map aK).length+1:=by rw[←y,ψ];rfl
  refine aD (aA (aF (aC mixed (ak 2 [] rfl (kc hc ?_)))));exact ak 3 [(3,.all)] rfl (az (ag [] rfl ⟨(n,A++[s],j),⟨by dsimp only;omega,by dsimp only;rw[ψ];show n+(A.length+1)≤40;omega,q⟩,by dsimp only;omega,sl (he:=⟨rfl,Go.AM.hs_ren (by rw[hle];rfl) (by rw[hle];rfl),by rw[show((n:Nat):Int)-1=((n+1:Nat):Int)-1-1 by omega];rfl,trivial⟩) (hh:=⟨⟨_,rfl,.arrS y⟩,⟨_,rfl,Go.AM.Ole.var rfl⟩,trivial⟩)⟩))
 have ac:n=0:=by have:=Ac hb;omega
 subst ac;obtain⟨rfl,rfl⟩:=q.zero;refine aH (AWp.sub (Sub.freeze (id:=500) rfl) ?_);refine AWp.sub (st2:=mk [(4,bU A)] [(750,tkO L i)]) ?_ ?_
 ·refine Sub.trans ?_ (cv 4 (A.map aK));exact sl
 refine sk 1 rfl (kc aa ?_);exact kz 1 rfl (aE rtT)
end Go.Proofs.YtkhgpgihmphfdaaGreatDoor
namespace Go.AM
open Go
section
variable {P:Program}{T:TT}{n:Nat}{o:Oper}{st:St}{d:Nat}
theorem aS8 {q ty:TypeId}{i:TI}{fs:List (Nat×TypeId)}{x y:Operand}{u A:List C}(M:Tok P T) (hq:aNq P q) (ho:o.op=.binOp .neq q x y ty) (U:o.dst=some d) (O:d<n) (hi:T[q]?=some (some i)) (Y:i.k=.st fs)
  (hx:opv st x=some (.pa u)) (hy:opv st y=some (.pa A)) (hs:scalars T 0 fs u A=true):Step P n o st ⟨opr x++opr y,[]⟩ ⟨some (d,some (B (!aNm u A))),[]⟩:=by
 refine Step.value U O fun _ ha _ S μ ac w E=>?_
 have h1:=aO E hx (dB ha).1;have h2:=aO E hy (dB ha).2;simp only[aS] at h1 h2;obtain⟨us,h1,h3⟩:=h1;obtain⟨vs,h2,h4⟩:=h2;obtain⟨fields,hu,J⟩:=(M.get hi).struct Y;unfold aNq aNq.check at hq;simp only[hu,π,Bn] at hq;obtain⟨⟨q1,q2⟩,q3⟩:=hq;have I:P.fieldsOf q=fields:=by simp[Program.fieldsOf,hu]
 have hn : ∀ f ∈ fields.toList, f.name ≠ "_" := fun f J => by
  have:=(A5.1 q1) f J;simpa using this
 refine⟨.bool (!aNm u A),aCe ho h1 h2 ?_ rfl ?_,by simp[aS,aZ,Rep]⟩
 ·have hp:(program:Sem Program).run P w=.ok P w:=rfl;simp only[eqGuard];simp[hp,q3]
 ·rw[run_equalIn_struct w 9999 q _ _ (by rw[I,hu]) q2,I];exact rB M ⟨us⟩ ⟨vs⟩ 9998 w fields.toList 0 u A (by rw[←J];exact hs) hn (by simpa using h3) (by simpa using h4)
end
end Go.AM
namespace Go.Proofs.YtkhgpgihmphfdaaGreatDoor
open Go Go.AM
set_option maxRecDepth 20000
set_option maxHeartbeats 4000000
def a2d:Str:=[102,32,120,32,61,32,103,32,40,120,32,58,32,73,110,116,41]
def a30:Str:=[92,32,120,32,45,62,32,103,32,40,120,32,58,32,73,110,116,41]
def aWv:Ex:=.mk 5 2 0 [] [.mk 4 6 0 [] [.mk 1 6 0 [103] [] [] [] oW,.mk 8 9 0 [] [.mk 1 9 0 [120] [] [] [] oW] [] [] ⟨[],[],.mk 3 0 [73,110,116] []⟩] [] [] oW] [.mk 2 2 0 [120] []] [] oW
def a3p:Bd:=.mk [102] 0 false oW aWv
theorem aYi:dR a2d=(⟨[],[],[],[a3p]⟩,0,0):=by kernel_rfl
theorem aYh:prE aWv=a30:=by kernel_rfl
theorem aWu (n:Int) (h:n=0):uQ n:=by unfold uQ;omega
theorem SchP.z:SchP oW:=⟨.leaf 0 [] (.inl rfl),fun p hp=>(by cases hp),Ab _⟩
theorem aYj:exP aWv∧oN aWv∧exW aWv≤400000000:=by
 have hs:SchP ⟨[],[],.mk 3 0 [73,110,116] []⟩:=⟨.leaf 3 _ (.inr (.inr rfl)),fun p hp=>(by cases hp),Ab _⟩
 have ho:SchOk ⟨[],[],.mk 3 0 [73,110,116] []⟩:=⟨⟨⟨rfl,rfl⟩,by rw[tn,tns];decide⟩,fun p hp=>(by cases hp),Ab _,Ab _⟩
 refine⟨⟨aWu _ rfl,⟨⟨aWu _ rfl,trivial⟩,trivial⟩,.z,⟨⟨aWu _ rfl,trivial,.z,⟨⟨aWu _ rfl,trivial,.z,trivial,trivial⟩,⟨aWu _ rfl,trivial,hs,⟨⟨aWu _ rfl,trivial,.z,trivial,trivial⟩,trivial⟩,trivial⟩,trivial⟩,trivial⟩,trivial⟩,trivial⟩,?_,by decide⟩;have ar:∀(f:Int) (a b:Nat),(f=1)→(f=4→a=2)∧(f=5∨f=6∨f=8→a=1)∧(f=7→a=b):=fun f a b h=>⟨fun k=>by omega,fun k=>by omega,fun k=>by omega⟩
 exact⟨⟨by decide,by decide,by decide⟩,.z,⟨fun h=>by omega,fun _=>rfl,fun h=>by omega⟩,⟨⟨Ab _,trivial⟩,trivial⟩,⟨⟨⟨by decide,by decide,by decide⟩,.z,⟨fun _=>rfl,fun h=>by omega,fun h=>by omega⟩,trivial,⟨⟨⟨Ab _,Ab _,Ab _⟩,.z,ar 1 _ _ rfl,trivial,trivial,trivial⟩,⟨⟨by decide,by decide,by decide⟩,ho,⟨fun h=>by omega,fun _=>rfl,fun h=>by omega⟩,trivial,⟨⟨⟨Ab _,Ab _,Ab _⟩,.z,ar 1 _ _ rfl,trivial,trivial,trivial⟩,trivial⟩,trivial⟩,trivial⟩,trivial⟩,trivial⟩,trivial⟩
theorem aU4:aW Tryz.prog 19 [] [] (B true) []:=by
 have hp:=uV a2d (a0f a2d);rw[aYi] at hp;obtain⟨q,u,y⟩:=aYj;have he:=uB aWv q u y;rw[aYh] at he;refine b9 (n:=36) tok Tryz.func19 rfl rfl rfl ?_;refine sg rfl (aA (aC mixed (kc hp ?_)));refine kz 7 rfl (aA (sk 2 rfl (k_ (g_ rfl rfl (aS8 tok (by unfold aNq;kernel_rfl) rfl rfl (by decide) (tg rfl) rfl rfl rfl rfl)) ?_)));refine ak 6 [(3,.bv false),(8,.bv false)] rfl (az (aB rfl nofun (fun _=>aD (sgh [(2,.row 0 (aY a3p))] rfl (skh 11 [(3,.bv true),(8,.bv true),(9,.bv true)] rfl (kcG he ?_))))));exact ak 3 [(9,.bv true),(13,.bv true)] rfl (az (aE rtT))
theorem aEi (s:Str):PgOk 60 (dR s).1:=by
 obtain⟨q,hwt,_,_⟩:=eL s;obtain⟨_,h2⟩:=oG (iG hwt (bB s).2.R.length) hwt q;unfold dR gZ;split
 ·split
  ·exact h2
  ·exact .z 60
 ·split
  ·exact .z 60
  ·exact .z 60
theorem aH7 (s:Str):aW Tryz.prog 9 [.pa (oP (dR s).1)] [] (Go.AM.T (aWs (dR s).1)) []:=aVt _ (wT s).1 (aEi s) (wT s).2
theorem aDa (s:Str):aW Tryz.prog 10 [.pa (oP (dR s).1)] [] (Go.AM.T (aWs (dR s).1)) []:=aPx _ (wT s).1 (aEi s) (aTl s) (aTm s) (wT s).2
theorem aBj (l:List Int) (hl:oD l) (q:Fits l):aW Tryz.prog 3 [.one (.c (.sl 1 (l.map fY)))] [] (B true) []:=by
 have hM:3000000000≤maxLen:=by decide
 obtain⟨s1,_,_,h1⟩:=aY9 l hl q;obtain⟨s2,h2⟩:=aPm l hl q;obtain⟨s3,h3⟩:=aY8 l hl q;obtain⟨Y,_,h4⟩:=aLg l hl q;obtain⟨O,_,h5⟩:=aLf l hl q;have hE:=a0h Y;have hP:=a0c O;obtain⟨e1,e2,e3,e4⟩:=aY3 Y;obtain⟨p1,p2⟩:=aYa O;have p3:=aTq O;have u:=uB _ e1 e2 (by omega);have A:=aDb _ e1 e2 e3 (by omega);have J:=lR _ _ (le_refl _) p1 p3 (by omega);have M:=oS _ _ (le_refl _) p1 p3 (by omega);clear e1 e2 e3 e4 p1 p2 p3;generalize aNl Y=E at hE u A;generalize aNk O=P at hP J M;obtain⟨e,ee,ep⟩:=E;obtain⟨p,pe,pp⟩:=P;dsimp only at hE u A hP J M;have hv:=aU4;refine b9 (n:=62) tok Tryz.func3 rfl rfl rfl ?_;refine sg rfl (sk 1 rfl (kc h1 ?_));refine ak 1 [] rfl (kc h2 ?_);refine ak 1 [] rfl (kc h3 ?_);refine ak 2 [(6,.all)] rfl (az ?_);have hx:∃L:List Str,L=[s1,s2,s3]∧L.length=3:=⟨_,rfl,rfl⟩
 obtain⟨L,hL,hL3⟩:=hx;refine AWp.sub (st2:=mk [(0,.one (.c (.sl 1 (l.map fY)))),(3,bU L)] []) (sl (he:=⟨rfl,by rw[hL];rfl,trivial⟩)) ?_;clear hL;have hkL:(L.map aK).length=L.length:=ξ _;refine aA (sg rfl (aF (aJ (fun i:Nat=>mk [(0,.one (.c (.sl 1 (l.map fY)))),(3,bU L),(4,I .i64 (i:Nat))] []) (fun i=>i≤3) (fun i=>3-i) 0 (Ab _) sl ?_)));intro i hi;refine aA (sg rfl (aB rfl (fun hb=>?_) (fun hb=>?_)))
 ·have hlt:i<3:=by have:=κ hb;omega
  obtain⟨s,hs⟩:=aG (l:=L) (k:=i) (by omega);have hs':=aP aK hs;have hr:=aH5 s;have ha:=aH7 s;have U:=aDa s;generalize dR s=y at *;obtain⟨pg,e,p⟩:=y;dsimp only at hr ha U;have dn:(!decide (aWs pg=aWs pg))=false:=by rw[θ rfl];rfl
  refine aD (aA (aF (skh 4 [(2,.row i (aK s))] rfl (kc hr ?_))));refine kz 7 rfl (sk 1 rfl (kc ha ?_));refine ak 1 [] rfl (kc U ?_);exact kz 1 rfl (aB rfl (fun hb=>Bool.noConfusion (hb.symm.trans dn)) (fun _=>aD (agN [] rfl ⟨i+1,by omega,by dsimp only;omega,sl⟩)))
 refine aH ?_;have de:decide (prE e=prE e)=true:=θ rfl;have dp:decide (prP p=prP p)=true:=θ rfl;refine sk 1 rfl (kc h4 ?_);refine kc hE ?_;refine kz 7 rfl (sk 1 rfl (kc h5 ?_));refine kc hP ?_;refine kz 7 rfl (sk 1 rfl (kc u ?_));refine ak 1 [] rfl (kc A ?_);refine ak 3 [(5,.bv true)] rfl (kcG J ?_);refine ak 1 [(5,.bv true)] rfl (kcG M ?_);refine ak 3 [(5,.bv true),(11,.bv true),(12,.bv true)] rfl (kcG hv ?_);exact ak 2 [(12,.bv true),(14,.bv true)] rfl (az (aE rtT))
end Go.Proofs.YtkhgpgihmphfdaaGreatDoor
namespace Go.Proofs.YtkhgpgihmphfdaaGreatDoor
open Go Go.ChangeShapes Go.WideShapes Go.ChangeAt Go.RowKit Go.AM
theorem Tryz.own:ownKnob Tryz.prog.godebug=none:=by kernel_rfl
theorem Tryz.laidOut:laidOutB Tryz.prog=true:=by kernel_rfl
theorem aN4:Rows.laid_internal_strconv_uint64pow10 (H:=Unit)=Lib.tabData .u64 Lib.pow10Tab:=by kernel_rfl
theorem aXf {W:World}(h:laidMetH Tryz.prog Rows.readPrintsRow.laid W):aQ0 W:=by
 rw [MakeChecks.laidMetH_plain _ _ _ (by kernel_rfl)] at h;have q := laidMet.tail (laidMet.tail h);rw [aN4] at q;have ht := Lib.tabIs_of_head (g := 1) (t := 242) (e := 222) (n := 20) (by kernel_rfl) (by kernel_rfl) (by kernel_rfl) (by kernel_rfl) (by kernel_rfl) (by kernel_rfl) q;intro g u;cases u;unfold Lib.TabIs World.var? at ht;rw [show Tryz.prog.globalNamed "internal/strconv.uint64pow10" = some 1 by kernel_rfl] at ht;simp only [Ck] at ht;split at ht
 ·rename_i cs t y hq;simp only[Option.some.injEq] at ht;subst ht;exact⟨cA hq,t,y,hq⟩
 ·cases ht
set_option maxRecDepth 100000 in
theorem qS (os:Os) (started:os.Started) (H:Type) (enc:TypeId×Value→H):
  ReturnsInHanded {} Tryz.checked os 3 .any (fun w args=>(Rows.readPrintsSpec.pre enc Tryz.prog Tryz.f3 Rows.readPrintsRow.domain false w args∧laidMetH Tryz.prog Rows.readPrintsRow.laid w)∧sizedMet enc Tryz.prog Tryz.f3 (OpenSpec.ofChange Rows.readPrintsSpec) false w args)
   (Rows.readPrintsSpec.post enc Tryz.prog Tryz.f3 false true false false):=by
 refine returnsInHanded_of_change_and (C:=Tryz.checked) (X:=fun w _=>laidMetH Tryz.prog Rows.readPrintsRow.laid w) (fun _ _ _ hh h=>h.of_heap hh) Tryz.own started (by kernel_rfl) Tryz.func3
  (ChangeSpec.witness_shaped (enc:=enc) (C:=Tryz.checked) (os:=os) (X:=fun w _=>laidMetH Tryz.prog Rows.readPrintsRow.laid w) false (World.laidAll Tryz.prog os Rows.readPrintsRow.laid) #[.slice none 0 0] 8 (World.laidAll_os _ _ _)
   (World.shaped_of_ZipB (by kernel_rfl) (by kernel_rfl)) (by kernel_rfl) (by kernel_rfl) (by kernel_rfl)
   (by rw[MakeChecks.laidMetH_plain _ _ _ (by kernel_rfl)];exact laidMet_laidAll _ (by kernel_rfl) (by kernel_rfl))) ?_
 intro W base args ds gs before u O hcnd hwt hL _
 have y:∀(j:Nat) t v,Tryz.f3.params[j]?=some t→args[j]?=some v→Value.okWide Tryz.prog W .any base t v:=u
 have A:=O
 obtain⟨p,q,E,hV,rfl,hfz,hnd⟩:=O
 have U:DataW.TrodAll enc Tryz.prog W 0 (fun _=>true) true Tryz.f3.params.toList args.toList ds p:=E
 rw[Tryz.params3] at U y
 obtain⟨v0,d0,rfl,rfl,h0⟩:=trodAll_one U
 obtain⟨rfl,rfl⟩:=trodVars_none hV
 obtain⟨Y,B,aa,xl0,yl0,ab⟩:=aHh Tryz.underlying22 Tryz.underlying3 (by kernel_rfl) (y 0 22 v0 rfl rfl) h0
 clear E u
 simp only[Ay] at A
 have J:∀x∈p,x.block<W.heap.size:=fun x hx=>by simpa using A.lt x (hx)
 have M:(DataW.weightsEach Tryz.prog (Tryz.f3.params.toList++Rows.readPrintsSpec.plain.varTypes Tryz.prog) ([d0]++[])).all (· ≤reachBytes)=true:=hwt
 have ac:Fits Y:=by
  unfold Fits
  rcases ab with⟨_,hd⟩ | ⟨rfl,hd⟩
  ·rw[hd];simp
  ·have:=sized_slice M (j:=0) (t:=22) (e:=3) rfl rfl Tryz.underlying22
   rw[show Tryz.prog.bytesOf 3=8 by kernel_rfl] at this
   have hb:=reachBytes_lt
   omega
 refine(aKw (aBj Y aa ac) W (vals:=[v0]) ⟨_,_,rfl,B,rfl⟩ (ht:=aXf hL)).mono fun e W' ⟨v,S,μ,he,I,hv⟩=>?_
 subst he
 rw[aV0 hv]
 have hp0:=Below.trod Tryz.laidOut (by kernel_rfl) (κ (by kernel_rfl)) h0 I J
 exact⟨_,rfl,⟨_,_,_,[],_,[],A,trodAll_mk1 (shut_bool Tryz.underlying4 true),trodAll_mk1 hp0,rfl,I.frame _,fun h=>by cases h⟩⟩
theorem rT:Rows.ReadPrintsSaid:=
 OpenClaim.holds_of_wide 3 Tryz.f3 rfl rfl rfl rfl rfl rfl rfl ⟨rfl,rfl,rfl,rfl,rfl⟩ rfl rfl rfl rfl rfl (by kernel_rfl) Tryz.func3 (by kernel_rfl)
  (κ (by kernel_rfl)) (by unfold Func.isWrapper;first | (rw[ζ (by decide+kernel)];kernel_rfl) | (rw[η (by decide+kernel)];exact⟨rfl,rfl⟩))
  (fun os started H enc _=>qS os started H enc)
theorem readPrints_card_holds:Rows.ReadPrintsCardSaid:=
 Claim7.holds_tied_plain_at .later [] [.data, .data, .data] true (true, "cd3349e141e5a75caf813c49d4eb07cfe558215011ea3d90000988d0b3c3d7d9") true rT (fun _ h => by cases h) (by kernel_rfl) (fun _ h => by cases h) readPrints_row_tie rfl ⟨rfl, rfl⟩ (by kernel_rfl) rfl
  (fun f fn A y=>by
   obtain rfl : f = 3 := Option.some.inj ((show Tryz.prog.funcNamed "fugue/fuguelaw06.ReadPrints" = some 3 by kernel_rfl).symm.trans A) |>.symm;obtain rfl : fn = Tryz.f3 := (Option.some.inj (Tryz.func3.symm.trans y)).symm
   exact⟨by kernel_rfl,fun j t ht=>by
    rw[Tryz.params3] at ht;have hm:t∈[22]:=by
     have:=Array.mem_of_getElem? ht;simp at this;simp
     first | omega | (rcases this with h | h | h<;>simp[h])
    have q:([22].all fun u=>!Tryz.prog.wantsStandIn u)=true:=by kernel_rfl
    exact(show Tryz.prog.wantsStandIn t=false by simpa using A5.1 q t hm)⟩)
  (by kernel_rfl)
end Go.Proofs.YtkhgpgihmphfdaaGreatDoor
