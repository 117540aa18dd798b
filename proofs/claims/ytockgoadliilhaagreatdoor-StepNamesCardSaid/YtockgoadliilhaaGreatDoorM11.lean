/-
  Texts Lr7 to Ly7 in one.
-/
import Derived.Test.YtockgoadliilhaaGreatDoorM10
open List (append_nil drop_left eq_nil_of_length_eq_zero flatMap_append flatMap_cons flatMap_nil length_append length_cons length_drop length_eq_one_iff length_map length_nil length_set length_take map_append map_congr_left map_cons map_map map_nil map_set mem_append mem_cons mem_cons_of_mem mem_cons_self mem_flatMap mem_map mem_of_mem_drop mem_of_mem_take mem_singleton nil_append nodup_nil not_mem_nil sum_cons sum_nil take_append_drop take_left take_length take_of_length_le)
open Nat (add_mul add_zero le_add_left le_max_left le_max_right le_mul_of_pos_right le_of_eq le_of_not_lt le_refl le_trans lt_of_le_of_lt min_eq_left mul_le_mul_right mul_one zero_add zero_le)
namespace Go.Proofs.YtockgoadliilhaaGreatDoor
open Go Go.AM
set_option maxRecDepth 20000
set_option maxHeartbeats 4000000
theorem aAd {l l':List Str}(h:∀x,x∈l↔x∈l'):dT l=dT l':=by
 refine Nat.le_antisymm (le_of_not_lt fun q=>?_) (le_of_not_lt fun q=>?_)
 ·exact gU l' ((h _).1 (jZ l q))
 ·exact gU l ((h _).2 (jZ l' q))
theorem aAc {l l':List Str}(h:∀x,x∈l↔x∈l'):aZ l=aZ l':=by unfold aZ;rw[aAd h]
theorem p9 {sb:Core→Str→Core→Core}{far:List Str}:∀(ns:List Str) (a:List Str) (q:List Core) (t t':List Str),(∀x,x∈t↔x∈t')→(jN sb far ns (a,q,t)).1=(jN sb far ns (a,q,t')).1∧(jN sb far ns (a,q,t)).2.1=(jN sb far ns (a,q,t')).2.1
 | [],_,_,_,_,_=>⟨rfl,rfl⟩
 | n::ns,a,q,t,t',h=>by
  show(jN sb far ns (dS sb far (a,q,t) n)).1=(jN sb far ns (dS sb far (a,q,t') n)).1∧(jN sb far ns (dS sb far (a,q,t) n)).2.1=(jN sb far ns (dS sb far (a,q,t') n)).2.1;unfold dS;by_cases hn:n∈far
  ·rw[ξ hn,ξ hn];dsimp only;rw[aAc h];exact p9 ns _ _ _ _ fun x=>by rw[χ,χ,h x]
  ·rw[φ hn,φ hn];dsimp only;exact p9 ns _ _ _ _ h
noncomputable def rS (sb:Core→Str→Core→Core) (b:Core) (ns:List Str) (ps:List Core) (i:Nat):List Str×List Core×List Str:=jN sb (pfR b) (ns.take i) ([],ps,ps.flatMap pfR++pfR b++ns)
structure RdOk (sb:Core→Str→Core→Core) (P:Core→Prop) (s:Str) (b:Core) (ps:List Core):Prop where
 in_:∀p∈ps,P p
 free:∀p∈ps,aU Tryz.prog 83 [.pa (aB p)] [] (aY (pfR p)) []
 far:aU Tryz.prog 83 [.pa (aB b)] [] (aY (pfR b)) []
 ren:∀p n z,P p→z.length≤30→P (sb p n (vC z))
 subz:∀p n z,P p→z.length≤30→aU Tryz.prog 33 [.pa (aB p),Go.AM.T n,.pa (aB (vC z))] [] (.pa (aB (sb p n (vC z)))) []
 subb:∀p,P p→aU Tryz.prog 33 [.pa (aB p),Go.AM.T s,.pa (aB b)] [] (.pa (aB (sb p s b))) []
section
variable {sb:Core→Str→Core→Core}{b:Core}{ns:List Str}{ps:List Core}{i:Nat}{n:Str}
theorem aTv:rS sb b ns ps 0=([],ps,ps.flatMap pfR++pfR b++ns):=rfl
theorem aJ1 (h:ns[i]?=some n):rS sb b ns ps (i+1)=dS sb (pfR b) (rS sb b ns ps i) n:=aAb h
theorem aJ2 (hi:i≤ns.length):(rS sb b ns ps i).1.length=i∧(rS sb b ns ps i).2.1.length=ps.length∧(rS sb b ns ps i).2.2.length≤(ps.flatMap pfR).length+(pfR b).length+ns.length+i:=by
 obtain⟨h1,h2,h3⟩:=qV (sb:=sb) (far:=pfR b) (ns:=ns.take i) (st:=([],ps,ps.flatMap pfR++pfR b++ns));rw[Au,B5 hi] at h1 h3;rw[ω,ω] at h3;exact⟨by unfold rS;simpa using h1,h2,h3⟩
theorem a1a {P:Core→Prop}{s:Str}(h:RdOk sb P s b ps) (hl:(ps.flatMap pfR).length+2*ns.length+(pfR b).length≤540000000000):∀{i:Nat},i≤ns.length→∀p∈(rS sb b ns ps i).2.1,P p
 | 0,_=>h.in_
 | i+1,hi=>by
  obtain⟨n,hn⟩:=aJ (show i<ns.length by omega);have q:=a1a h hl (i:=i) (by omega);obtain⟨_,_,g3⟩:=aJ2 (sb:=sb) (b:=b) (ps:=ps) (show i≤ns.length by omega);rw[aJ1 hn];intro p hp;unfold dS at hp;split at hp
  ·obtain⟨J,I,rfl⟩:=Ad.1 hp;exact h.ren _ _ _ (q J I) (jO _ (by omega))
  ·exact q p hp
theorem aXl {s:Str}(h:zA s ns ps):bX sb s b ns ps=((rS sb b ns ps ns.length).1,(rS sb b ns ps ns.length).2.1.map fun p=>sb p s b):=by
 unfold bX rS;rw[ξ h,An];obtain⟨h1,h2⟩:=p9 (sb:=sb) (far:=pfR b) ns [] ps (ps.flatMap pfR++ns++pfR b) (ps.flatMap pfR++pfR b++ns) fun x=>by simp only[χ];exact or_right_comm
 rw[h1,h2]
end
theorem aUx (z:Str):aU Tryz.prog 118 [Go.AM.T z] [] (.pa (aB (vC z))) []:=by
 refine bO (n:=5) tok Tryz.func118 rfl rfl rfl ?_;exact sg rfl (sg rfl (aI (rtC trw)))
def iF (l:List Core):V:=.one (.c (.sl 10 (aM l)))
theorem aAu {sb:Core→Str→Core→Core}{P:Core→Prop}{s:Str}{b:Core}{ns:List Str}{ps:List Core}(ho:RdOk sb P s b ps) (hl:(ps.flatMap pfR).length+2*ns.length+(pfR b).length≤540000000000) (hpl:ps.length≤500000000000):
  aU Tryz.prog 82 [aY ns,iF ps,Go.AM.T s,.pa (aB b)] [] (.tup [aY (bX sb s b ns ps).1,iF (bX sb s b ns ps).2]) []:=by
 have hkP:(aM ps).length=ps.length:=by rw[aR,θ]
 have hkN:(ns.map bD).length=ns.length:=θ _;have hfl:∀i,((ps.take i).flatMap pfR).length≤(ps.flatMap pfR).length:=fun i=>by
  conv=>rhs;rw[←take_append_drop i ps]
  rw[Cl,ω];omega
 refine bO (n:=128) tok Tryz.func82 rfl rfl rfl ?_;refine sg rfl (sg rfl (AWp.sub (Sub.own (t:=10) (id:=600) 9 1 rfl rfl) (AWp.sub (Sub.freeze (id:=600) rfl) ?_)));refine sg rfl (a8 (sg rfl (aC ?_)))
 refine aL (fun i:Nat=>mk [(0,aY ns),(1,iF ps),(2,Go.AM.T s),(7,.one (.vp 7 0)),(10,.one (.hs 600 0 ((ps.take i).flatMap pfR).length ((ps.take i).flatMap pfR).length)),(11,B (decide (s∈(ps.take i).flatMap pfR))),(12,I .i64 i)]
  [(7,.var 37 (bA b)),(600,.arr 9 1 (((ps.take i).flatMap pfR).map bD) 2)]) (fun i=>i≤ps.length) (fun i=>ps.length-i) 0 (Aj _) sl ?_
 intro i hi;refine a8 (sg rfl (aA rfl (fun hb=>?_) (fun hb=>?_)))
 ·have O:=ltD hb hkP;obtain⟨p,hp⟩:=aJ O;have hp':=dG hp;have hpm:=η hp;have hfp:=ho.free p hpm;have N:(ps.take (i+1)).flatMap pfR=(ps.take i).flatMap pfR++pfR p:=by rw[dY hp,Cl];simp
  have hl1:=hfl (i+1);rw[N,ω] at hl1;have hq1:(((ps.take i).flatMap pfR).map bD).length=((ps.take i).flatMap pfR).length:=θ _;have hq2:((pfR p).map bD).length=(pfR p).length:=θ _;have hct:=kH (pfR p) s (by unfold Fits;omega);have Z:decide (s∈(ps.take (i+1)).flatMap pfR)=(decide (s∈(ps.take i).flatMap pfR) || decide (s∈pfR p)):=by rw[N];simp
  generalize (ps.take i).flatMap pfR=q at N Z hl1 hq1 ⊢;generalize pfR p=fp at hfp N Z hl1 hq2 hct ⊢;refine aD (a8 (aC (sgh [(2,.row i (aB p)),(4,.pc (aY fp))] rfl (sg rfl (AWp.sub (Sub.freeze (id:=600) rfl) ?_)))));by_cases hin:s∈q
  ·have e1:decide (s∈q)=true:=Ak hin;rw[e1,Bool.true_or] at Z;refine ag [(1,.bv true),(5,.bv true)] rfl (ag [] rfl ⟨i+1,O,by dsimp only;omega,?_⟩);dsimp only;rw[Z,N];exact sl
  ·have e1:decide (s∈q)=false:=Al hin;rw[e1,Bool.false_or] at Z;refine aE mixed (ak 4 [(1,.bv false)] rfl (kcG hct ?_ (hw:=e1)));refine ak 2 [(5,.bv false)] rfl (az (ag [] rfl ⟨i+1,O,by dsimp only;omega,?_⟩));dsimp only;rw[Z,N];exact sl
 have W:=geD hb hkP hi;subst W;rw[An];have hcn:=kH ns s (by unfold Fits;omega);have hq1:((ps.flatMap pfR).map bD).length=(ps.flatMap pfR).length:=θ _;have hq2:((pfR b).map bD).length=(pfR b).length:=θ _;have hfar:=ho.far;refine aO (a8 (a8 (agF 3 [(5,.pc (B (decide (s∈ns))))] rfl rfl rfl (aA rfl (fun hb=>?_) (fun hb=>?_)))))
 ·have hno:¬zA s ns ps:=fun h=>by
   unfold zA at h;simp[h.1,h.2] at hb
  have e:bX sb s b ns ps=(ns,ps):=by unfold bX;rw[φ hno]
  rw[e];exact sg rfl (aI ⟨.inr rfl,⟨_,_,.tmp rfl (.tmp rfl .nil),.cons .refl (.cons .refl .nil),rfl⟩,trivial,rfl⟩)
 have hyes:zA s ns ps:=by
  unfold zA;by_cases h1:s∈ps.flatMap pfR
  ·by_cases h2:s∈ns
   ·exfalso;simp[h1,h2] at hb
   ·exact⟨h1,h2⟩
  ·exfalso;simp[h1] at hb
 rw[aXl hyes];dsimp only;refine aD (sgh [(1,.pc (aY (pfR b)))] rfl (sg rfl (AWp.sub (Sub.freeze (id:=600) rfl) ?_)));refine sg rfl (AWp.sub (Sub.freeze (id:=600) rfl) ?_) (hc:=⟨by rw[ω];omega,⟨rfl,rfl⟩,ω.symm,trivial⟩);refine sg rfl (AWp.sub (Sub.own (t:=15) (id:=601) 9 1 rfl rfl) (AWp.sub (Sub.freeze (id:=601) rfl) ?_));refine a8 (sg rfl (aC ?_))
 refine aL (fun i:Nat=>mk [(0,aY ns),(1,iF (rS sb b ns ps i).2.1),(2,Go.AM.T s),(7,.one (.vp 7 0)),(10,.one (.hs 600 0 (rS sb b ns ps i).2.2.length (rS sb b ns ps i).2.2.length)),(14,aY (pfR b)),(15,.one (.hs 601 0 (rS sb b ns ps i).1.length (rS sb b ns ps i).1.length)),(16,I .i64 i)]
  [(7,.var 37 (bA b)),(600,.arr 9 1 ((rS sb b ns ps i).2.2.map bD) 2),(601,.arr 9 1 ((rS sb b ns ps i).1.map bD) 2)]) (fun i=>i≤ns.length) (fun i=>ns.length-i) 0 (Aj _) ?_ ?_
 ·rw[aTv];dsimp only;exact sl (he:=⟨rfl,rfl,rfl,rfl,Go.AM.hs_ren (by simp only[ω,θ]) (by simp only[ω,θ]),rfl,rfl,rfl,trivial⟩) (hh:=⟨⟨_,rfl,.var rfl⟩,⟨_,rfl,.arrS (by simp only[Ar])⟩,⟨_,rfl,.arrS rfl⟩,trivial⟩)
 intro i hi;obtain⟨g1,g2,g3⟩:=aJ2 (sb:=sb) (b:=b) (ps:=ps) hi;have aa:=a1a ho hl hi;refine a8 (sg rfl (aA rfl (fun hb=>?_) (fun hb=>?_)))
 ·have O:=ltD hb hkN;obtain⟨n,hn⟩:=aJ O;have hn':=bM bD hn;have N:=aJ1 (sb:=sb) (b:=b) (ps:=ps) hn;generalize rS sb b ns ps i=st at g1 g2 g3 aa N ⊢;obtain⟨out,J,all⟩:=st;dsimp only at g1 g2 g3 aa N ⊢;have hk1:(out.map bD).length=out.length:=θ _;have hk2:(all.map bD).length=all.length:=θ _;have ab:(aM J).length=J.length:=by rw[aR,θ]
  have hcf:=kH (pfR b) n (by unfold Fits;omega);refine aD (a8 (aC ?_));by_cases hf:n∈pfR b
  ·rw[Ak hf] at hcf;have N:rS sb b ns ps (i+1)=(out++[aZ all],J.map (fun p=>sb p n (vC (aZ all))),all++[aZ all]):=by rw[N];unfold dS;rw[ξ hf]
   have hFr:=sX all (by omega);have hz30:(aZ all).length≤30:=jO _ (by omega);generalize aZ all=z at N hFr hz30;have hvz:=aUx z;refine a8 (sgh [(3,.row i (bD n)),(5,.pc (B true))] rfl (aA rfl nofun (fun _=>aD (sgh [(1,.pc (Go.AM.T z))] rfl (sgh [(2,.all)] rfl (AWp.sub (Sub.freeze (id:=600) rfl) ?_))))));refine sgh [(2,.all)] rfl (AWp.sub (Sub.freeze (id:=601) rfl) ?_);refine sg rfl (AWp.sub (Sub.own (t:=18) (id:=602) 37 10 rfl rfl) ?_);refine a8 (sg rfl (aC ?_))
   refine aL (fun j:Nat=>mk [(0,aY ns),(1,iF J),(2,Go.AM.T s),(7,.one (.vp 7 0)),(10,.one (.hs 600 0 (all++[z]).length (all++[z]).length)),(14,aY (pfR b)),(15,.one (.hs 601 0 (out++[z]).length (out++[z]).length)),(16,I .i64 i),(17,Go.AM.T z),(18,.one (.hs 602 0 j j)),(19,I .i64 j)]
    [(7,.var 37 (bA b)),(600,.arr 9 1 ((all++[z]).map bD) 2),(601,.arr 9 1 ((out++[z]).map bD) 2),(602,.arr 37 10 ((J.take j).map fun p=>aB (sb p n (vC z))) 0)]) (fun j=>j≤J.length) (fun j=>J.length-j) 0 (Aj _) ?_ ?_
   ·exact sl (he:=⟨rfl,rfl,rfl,rfl,Go.AM.hs_ren (by simp) (by simp),rfl,Go.AM.hs_ren (by simp) (by simp),rfl,rfl,rfl,rfl,trivial⟩) (hh:=⟨⟨_,rfl,.var rfl⟩,⟨_,rfl,.arrS (by simp;rfl)⟩,⟨_,rfl,.arrS (by simp;rfl)⟩,⟨_,rfl,.arrS rfl⟩,trivial⟩)
   intro j hj;refine a8 (sg rfl (aA rfl (fun hb=>?_) (fun hb=>?_)))
   ·have Y:=ltD hb ab;obtain⟨p,hp⟩:=aJ Y;have hp':=dG hp;have hsz:=ho.subz p n z (aa p (η hp)) hz30;have hrows:=eC (fun p=>aB (sb p n (vC z))) hp;exact aD (a8 (aC (ag [(3,.row j (aB p)),(7,.row i (bD n)),(10,.pc (.pa (aB (vC z)))),(11,.pc (.pa (aB (sb p n (vC z))))),(12,.all)] rfl (ag [] rfl ⟨j+1,Y,by dsimp only;omega,sl⟩))))
   have W:=geD hb ab hj;subst W;have hrw:(J.take J.length).map (fun p=>aB (sb p n (vC z)))=aM (J.map fun p=>sb p n (vC z)):=by rw[An,aR,A1];rfl
   rw[hrw];have hrl:J.length=(aM (J.map fun p=>sb p n (vC z))).length:=by rw[aR,θ,θ]
   refine aO (AWp.sub (Sub.freeze (id:=602) rfl) ?_);refine ag [] rfl (ag [] rfl ⟨i+1,O,by dsimp only;omega,?_⟩);dsimp only;rw[N];refine Sub.trans ?_ (cv 1 (aM (J.map fun p=>sb p n (vC z))));exact sl
  ·rw[Al hf] at hcf;have N:rS sb b ns ps (i+1)=(out++[n],J,all):=by rw[N];unfold dS;rw[φ hf]
   refine a8 (sgh [(3,.row i (bD n)),(5,.pc (B false))] rfl (aA rfl (fun _=>sgh [(3,.row i (bD n)),(5,.all)] rfl (AWp.sub (Sub.freeze (id:=601) rfl) ?_)) nofun));refine aO (ag [] rfl ⟨i+1,O,by dsimp only;omega,?_⟩);dsimp only;rw[N];exact sl
 have W:=geD hb hkN hi;subst W;generalize rS sb b ns ps ns.length=st at g1 g2 g3 aa ⊢;obtain⟨out,J,all⟩:=st;dsimp only at g1 g2 g3 aa ⊢;have ab:(aM J).length=J.length:=by rw[aR,θ]
 refine aO (sg rfl (AWp.sub (Sub.own (t:=20) (id:=603) 37 10 rfl rfl) ?_));refine a8 (sg rfl (aC ?_))
 refine aL (fun j:Nat=>mk [(1,iF J),(2,Go.AM.T s),(7,.one (.vp 7 0)),(15,.one (.hs 601 0 out.length out.length)),(20,.one (.hs 603 0 j j)),(21,I .i64 j)]
  [(7,.var 37 (bA b)),(601,.arr 9 1 (out.map bD) 2),(603,.arr 37 10 ((J.take j).map fun p=>aB (sb p s b)) 0)]) (fun j=>j≤J.length) (fun j=>J.length-j) 0 (Aj _) sl ?_
 intro j hj;refine a8 (sg rfl (aA rfl (fun hb=>?_) (fun hb=>?_)))
 ·have Y:=ltD hb ab;obtain⟨p,hp⟩:=aJ Y;have hp':=dG hp;have hsz:=ho.subb p (aa p (η hp));have hrows:=eC (fun p=>aB (sb p s b)) hp;exact aD (a8 (aC (ag [(3,.row j (aB p)),(7,.pc (.pa (aB (sb p s b)))),(8,.all)] rfl (ag [] rfl ⟨j+1,Y,by dsimp only;omega,sl⟩))))
 have W:=geD hb ab hj;subst W;have hrw:(J.take J.length).map (fun p=>aB (sb p s b))=aM (J.map fun p=>sb p s b):=by rw[An,aR,A1];rfl
 rw[hrw];have hrl:J.length=(aM (J.map fun p=>sb p s b)).length:=by rw[aR,θ,θ]
 have hol:out.length=(out.map bD).length:=(θ _).symm;refine aO (AWp.sub (Sub.freeze (id:=603) rfl) ?_);exact sg rfl (aI ⟨.inr rfl,⟨_,_,.tmp rfl (.tmp rfl .nil),.cons (.one (.hs rfl hol (take_all hol) .nil)) (.cons (.one (.hs rfl hrl (take_all hrl) .nil)) .nil),rfl⟩,trivial,rfl⟩)
theorem aHs {D M X:Nat}(q:M+D≤700000) {c:Core}(hc:CG D M X c):aU Tryz.prog 84 [.pa (aB c)] [] (rV (tyR c)) [(900,rO (tyR c))]:=by
 have key:∀(k:Nat) (c:Core),m30 c≤k→aGq D M X c:=by
  intro k
  induction k with
  | zero=>intro c h;have:=dF c;omega
  | succ k I=>intro c h;exact aAm q c fun x hx=>I x (by omega)
 have J:Big=250000000000:=rfl;have h0:=key _ c (le_refl _) hc [] [] (tyR c) (by have:=hc.sz;simp;omega) (by have:=hc.sz;have:=hc.sc;omega) nodup_nil (fun x hx=>by cases hx) (fun x hx=>hx);rw[show inG []=fun _=>false from by funext x;simp[inG],sC (aS8 c)] at h0;have h1:=aU.nilArg (pre:=[.pa (aB c),aY []]) (post:=[]) (hin:=[]) h0 rfl;refine bO (n:=5) tok Tryz.func84 rfl rfl rfl ?_;refine sg rfl (sk 1 rfl (kc h1 ?_));exact kz 1 rfl (aI rtT)
section
variable {s:Str}{b:Core}{n:Int}{nm:Str}{t:Ty}
theorem aU9 (q:aU Tryz.prog 81 [.pa (aB (.mk 1 n nm t [] [] []))] [] (B false) []):aU Tryz.prog 33 [.pa (aB (.mk 1 n nm t [] [] [])),Go.AM.T s,.pa (aB b)] [] (.pa (aB (if nm=s then b else .mk 1 n nm t [] [] []))) []:=by
 refine bO (n:=228) tok Tryz.func33 rfl rfl rfl ?_;refine sg rfl (a8 (sgh [(1,.pc (B false))] rfl (aA rfl nofun (fun _=>aD (a8 (sg rfl (aC (sg rfl (aA rfl (fun _=>a8 (sg rfl (aA rfl (fun hb=>?_) (fun hb=>?_)))) nofun)))))))))
 ·have h:nm=s:=ψ hb;rw[ξ h];exact sg rfl (aI (rtC trw))
 ·have h:¬nm=s:=δ hb;rw[φ h];exact aD (sg rfl (aI (rtC trw)))
theorem aU8 {q:Str}{kid I:Core}(J:aU Tryz.prog 81 [.pa (aB (.mk 5 n nm t [kid] [] []))] [] (B false) []) (hg:aU Tryz.prog 82 [aY [nm],iF [kid],Go.AM.T s,.pa (aB b)] [] (.tup [aY [q],iF [I]]) []):
  aU Tryz.prog 33 [.pa (aB (.mk 5 n nm t [kid] [] [])),Go.AM.T s,.pa (aB b)] [] (.pa (aB (.mk 5 n q t [I] [] []))) []:=by
 refine bO (n:=228) tok Tryz.func33 rfl rfl rfl ?_;refine sg rfl (a8 (sgh [(1,.pc (B false))] rfl (aA rfl nofun (fun _=>aD (a8 (sg rfl (aC (sg rfl (aA rfl nofun (fun _=>sg rfl (aA rfl (fun _=>skh 7 [(2,.all)] rfl (kc hg ?_)) nofun)))))))))));exact kz 5 rfl (sgh [(1,.row 0 (bD q))] rfl (sg rfl (sg rfl (aI (rtC trw)))))
theorem aP8 {kid:Core}(q:aU Tryz.prog 81 [.pa (aB (.mk 7 n nm t [kid] [] []))] [] (B false) []) (I:aU Tryz.prog 83 [.pa (aB (.mk 7 n nm t [kid] [] []))] [] (aY (pfR (.mk 7 n nm t [kid] [] []))) [])
  (hl:(pfR (.mk 7 n nm t [kid] [] [])).length≤900000000000) (hs:¬s∈pfR (.mk 7 n nm t [kid] [] [])):aU Tryz.prog 33 [.pa (aB (.mk 7 n nm t [kid] [] [])),Go.AM.T s,.pa (aB b)] [] (.pa (aB (.mk 7 n nm t [kid] [] []))) []:=by
 have hc:=kH (pfR (.mk 7 n nm t [kid] [] [])) s (by unfold Fits;omega);rw[Al hs] at hc;refine bO (n:=228) tok Tryz.func33 rfl rfl rfl ?_;exact sg rfl (a8 (sgh [(1,.pc (B false))] rfl (aA rfl nofun (fun _=>aD (a8 (sg rfl (aC (sg rfl (aA rfl nofun (fun _=>sg rfl (aA rfl nofun (fun _=>sg rfl (aA rfl (fun _=>a8 (sgh [(1,.pc (aY (pfR (.mk 7 n nm t [kid] [] [])))),(3,.pc (B false))] rfl (aA rfl (fun _=>sg rfl (aI (rtC trw))) nofun))) nofun)))))))))))))
theorem aGa {kid I r:Core}{nm1:Str}{q J:List Str}(hfw:aU Tryz.prog 81 [.pa (aB (.mk 7 n nm t [kid] [] []))] [] (B false) []) (hfr:aU Tryz.prog 83 [.pa (aB (.mk 7 n nm t [kid] [] []))] [] (aY (pfR (.mk 7 n nm t [kid] [] []))) [])
  (hl:(pfR (.mk 7 n nm t [kid] [] [])).length≤900000000000) (hs:s∈pfR (.mk 7 n nm t [kid] [] [])) (hb1:aU Tryz.prog 84 [.pa (aB b)] [] (aY q) []) (Z:aU Tryz.prog 84 [.pa (aB b)] [] (rV q) [(900,rO q)])
  (hk:aU Tryz.prog 84 [.pa (aB kid)] [] (aY J) []) (hfb:q.length≤700000) (hfk:J.length≤700000)
  (hy:nm∈q→nm1=aZ (q++J)∧aU Tryz.prog 34 [.pa (aB kid),Go.AM.T nm,tyV (vT nm1)] [] (.pa (aB I)) []) (hn:¬nm∈q→nm1=nm∧I=kid)
  (hr:aU Tryz.prog 33 [.pa (aB I),Go.AM.T s,.pa (aB b)] [] (.pa (aB r)) []):aU Tryz.prog 33 [.pa (aB (.mk 7 n nm t [kid] [] [])),Go.AM.T s,.pa (aB b)] [] (.pa (aB (.mk 7 n nm1 t [r] [] []))) []:=by
 have hc:=kH (pfR (.mk 7 n nm t [kid] [] [])) s (by unfold Fits;omega);rw[Ak hs] at hc;have W:=kH q nm (by unfold Fits;omega);refine bO (n:=228) tok Tryz.func33 rfl rfl rfl ?_;refine sg rfl (a8 (sgh [(1,.pc (B false))] rfl (aA rfl nofun (fun _=>aD (a8 (sg rfl (aC (sg rfl (aA rfl nofun (fun _=>sg rfl (aA rfl nofun (fun _=>sg rfl (aA rfl (fun _=>a8 (sgh [(1,.pc (aY (pfR (.mk 7 n nm t [kid] [] [])))),(3,.pc (B true))] rfl (aA rfl nofun (fun _=>aD (sgh [(2,.row 0 (aB kid))] rfl ?_))))) nofun)))))))))))));by_cases N:nm∈q
 ·obtain⟨hz,aa⟩:=hy N;have O:=sX (q++J) (by rw[ω];omega);rw[←hz] at O;have Y:aU Tryz.prog 85 [.one (.c (.sl 1 (q.map bD++J.map bD)))] [] (Go.AM.T nm1) []:=by
   have e1:aY (q++J)=.one (.c (.sl 1 (q.map bD++J.map bD))):=by unfold aY;rw[Ar]
   rw[e1] at O;exact O
  rw[Ak N] at W;refine a8 (sgh [(1,.pc (aY q)),(4,.pc (B true))] rfl (aA rfl (fun _=>sk 1 rfl (kc Z ?_)) nofun));refine ak 1 [] rfl (kc hk ?_);refine ak 1 [(4,.fz)] rfl (kc Y ?_);refine kz 1 rfl (sk 5 rfl (kc aa ?_));exact kz 1 rfl (ag [] rfl (sgh [(3,.pc (.pa (aB r))),(4,.all)] rfl (sg rfl (aI (rtC trw)))))
 ·obtain⟨rfl,rfl⟩:=hn N;rw[Al N] at W;exact a8 (sgh [(1,.pc (aY q)),(4,.pc (B false))] rfl (aA rfl nofun (fun _=>aD (sgh [(3,.pc (.pa (aB r))),(4,.all)] rfl (sg rfl (aI (rtC trw)))))))
theorem aU7 {kid J:Core}{bs:List Bind}{ns':List Str}{q:List Core}(hfw:aU Tryz.prog 81 [.pa (aB (.mk 8 n nm t [kid] bs []))] [] (B false) [])
  (hg:aU Tryz.prog 82 [aY (bs.map Bind.name),iF (kid::bs.map Bind.body),Go.AM.T s,.pa (aB b)] [] (.tup [aY ns',iF (J::q)]) []) (h1:ns'.length=bs.length) (h2:q.length=bs.length) (hbl:bs.length≤500000000000):
  aU Tryz.prog 33 [.pa (aB (.mk 8 n nm t [kid] bs [])),Go.AM.T s,.pa (aB b)] [] (.pa (aB (.mk 8 n nm t [J] (mkB (bs.map Bind.ty) ns' q) []))) []:=by
 have O:(aS bs).length=bs.length:=by rw[bI,θ]
 refine bO (n:=228) tok Tryz.func33 rfl rfl rfl ?_;refine sg rfl (a8 (sgh [(1,.pc (B false))] rfl (aA rfl nofun (fun _=>aD (a8 (sg rfl (aC (sg rfl (aA rfl nofun (fun _=>sg rfl (aA rfl nofun (fun _=>sg rfl (aA rfl nofun (fun _=>sg rfl (aA rfl (fun _=>sg rfl (AWp.sub (Sub.own (t:=11) (id:=600) 9 1 rfl rfl) ?_)) nofun)))))))))))))));refine sg rfl (AWp.sub (Sub.own (t:=12) (id:=601) 37 10 rfl rfl) ?_);refine sgh [(3,.row 0 (aB kid)),(5,.all)] rfl (a8 (sg rfl (aC ?_)))
 refine aL (fun i:Nat=>mk [(1,Go.AM.T s),(3,.one (.vp 3 0)),(5,.one (.vp 5 0)),(6,.one (.vp 6 0)),(11,.one (.hs 600 0 i i)),(12,.one (.hs 601 0 (i+1) (i+1))),(13,I .i64 i)]
  [(3,.var 37 (bA (.mk 8 n nm t [kid] bs []))),(5,.var 37 (bA b)),(6,.var 37 bL),(600,.arr 9 1 ((bs.take i).map fun b=>bD b.name) 0),(601,.arr 37 10 (aB kid::(bs.take i).map fun b=>aB b.body) 0)]) (fun i=>i≤bs.length) (fun i=>bs.length-i) 0 (Aj _) sl ?_
 intro i hi;refine a8 (sg rfl (aA rfl (fun hb=>?_) (fun hb=>?_)))
 ·have N:i<bs.length:=ltD hb O;obtain⟨x,hx⟩:=aJ N;have hx':=bT hx;have hr1:=eC (fun b:Bind=>bD b.name) hx;have W:=eC (fun b:Bind=>aB b.body) hx;have hr3:aB kid::(bs.take i).map (fun b=>aB b.body)++[aB x.body]=aB kid::(bs.take (i+1)).map (fun b=>aB b.body):=by rw[←W];rfl
  obtain⟨Z,xt,xc⟩:=x;exact aD (a8 (aC (sgh [(4,.row i (bB (.mk Z xt xc))),(7,.all)] rfl (ag [(4,.row i (bB (.mk Z xt xc))),(7,.all)] rfl (ag [] rfl ⟨i+1,N,by dsimp only;omega,sl⟩)))))
 have Y:i=bs.length:=geD hb O hi;subst Y;rw[An];have hr1:(bs.map fun b=>bD b.name)=(bs.map Bind.name).map bD:=by rw[A1];rfl
 have W:(aB kid::bs.map fun b=>aB b.body)=aM (kid::bs.map Bind.body):=by rw[aR,Am,A1];rfl
 rw[hr1,W];have hl1:bs.length=((bs.map Bind.name).map bD).length:=by simp
 have hl2:bs.length+1=(aM (kid::bs.map Bind.body)).length:=by rw[aR];simp
 refine aO (AWp.sub (Sub.freeze (id:=600) rfl) (AWp.sub (cv 11 ((bs.map Bind.name).map bD)) ?_));refine AWp.sub (Sub.freeze (id:=601) rfl) (AWp.sub (cv 12 (aM (kid::bs.map Bind.body))) ?_);refine sk 4 rfl (kc hg ?_);refine kz 5 rfl (sg rfl (AWp.sub (Sub.own (t:=16) (id:=602) 58 15 rfl rfl) ?_));refine a8 (sg rfl (aC ?_));have hBl:(mkB (bs.map Bind.ty) ns' q).length=bs.length:=by rw[oY (by rw[θ];exact h1) (by rw[θ];exact h2),θ]
 refine aL (fun i:Nat=>mk [(3,.one (.vp 3 0)),(6,.one (.vp 6 0)),(14,aY ns'),(15,iF (J::q)),(16,.one (.hs 602 0 i i)),(17,I .i64 i)]
  [(3,.var 37 (bA (.mk 8 n nm t [kid] bs []))),(6,.var 37 bL),(602,.arr 58 15 (((mkB (bs.map Bind.ty) ns' q).take i).map bB) 0)]) (fun i=>i≤bs.length) (fun i=>bs.length-i) 0 (Aj _) sl ?_
 intro i hi;refine a8 (sg rfl (aA rfl (fun hb=>?_) (fun hb=>?_)))
 ·have N:i<bs.length:=ltD hb O;obtain⟨x,hx⟩:=aJ N;obtain⟨m,hm⟩:=aJ (show i<ns'.length by omega);obtain⟨p,hp⟩:=aJ (show i<q.length by omega);have hx':=bT hx;have hm':=bM bD hm;have hp':(aM (J::q))[i+1]?=some (aB p):=dG (l:=J::q) (by rw[Bj];exact hp);have hat:=sB (show(bs.map Bind.ty)[i]?=some x.ty by rw[Az,hx];rfl) hm hp;have hr:=eC bB hat;obtain⟨Z,xt,xc⟩:=x;dsimp only[Bind.ty] at hr;exact aD (a8 (aC (ag [(3,.row i (bD m)),(8,.row i (bB (.mk Z xt xc))),(14,.row (i+1) (aB p)),(17,.all)] rfl (ag [] rfl ⟨i+1,N,by dsimp only;omega,sl⟩))))
 have Y:i=bs.length:=geD hb O hi;subst Y;have hrw:((mkB (bs.map Bind.ty) ns' q).take bs.length).map bB=aS (mkB (bs.map Bind.ty) ns' q):=by rw[←hBl,An,bI]
 rw[hrw];have hl3:bs.length=(aS (mkB (bs.map Bind.ty) ns' q)).length:=by rw[bI,θ,hBl]
 refine aO (AWp.sub (Sub.freeze (id:=602) rfl) ?_);exact sgh [(1,.row 0 (aB J)),(3,.all)] rfl (sg rfl (sg rfl (aI (rtC trw))))
end
noncomputable def aHq:Core→List Str→Core
 | .mk f n nm t ks bs al,far=>if nm∈far then .mk f n (aZ (far++ks.flatMap tyR)) t (ks.map fun x=>sTR (m30 x) x nm (vT (aZ (far++ks.flatMap tyR)))) bs al else .mk f n nm t ks bs al
open Classical in
noncomputable def cB:Nat→Core→Str→Core→Core
 | 0,c,_,_=>c
 | k+1,c,s,b=>if c.form=1∧c.name=s then b else oM (cB k) s b (if c.form=7∧s∈pfR c then aHq c (tyR b) else c)
structure RX (X:Nat) (b p r:Core):Prop where
 q:cE (QL X) r
 cw:∀(A:Alg) (E:Nat) (ρ:Str→Nat),cw A E r ρ≤max (cw A E p ρ) (cw A E b ρ)
 ty:∀x∈tyR r,x∈tyR p∨x∈tyR b
 tl:tlC r≤tlC p+tlC b
structure R0 (p q:Core):Prop where
 cw:∀(A:Alg) (E:Nat) (ρ:Str→Nat),cw A E q ρ≤cw A E p ρ
 ty:∀x∈tyR q,x∈tyR p
 tl:tlC q≤tlC p
 sz:m30 q≤m30 p
theorem R0.refl (p:Core):R0 p p:=⟨fun _ _ _=>le_refl _,fun _ h=>h,le_refl _,le_refl _⟩
theorem R0.trans {p q r:Core}(h:R0 p q) (k:R0 q r):R0 p r:=⟨fun A E ρ=>le_trans (k.cw A E ρ) (h.cw A E ρ),fun x hx=>h.ty x (k.ty x hx),le_trans k.tl h.tl,le_trans k.sz h.sz⟩
theorem R0.rx {X:Nat}{b p q r:Core}(h:R0 p q) (k:RX X b q r):RX X b p r:=
 ⟨k.q,fun A E ρ=>le_trans (k.cw A E ρ) (by have:=h.cw A E ρ;omega),fun x hx=>(k.ty x hx).imp (h.ty x) id,by have:=k.tl;have:=h.tl;omega⟩
theorem R0.cg {D M X:Nat}{p q:Core}(h:R0 p q) (hp:CG D M X p) (I:cE (QL X) q):CG D M X q:=
 ⟨I,le_trans (h.cw fD 0 r0) hp.dep,by have:=hp.sc;have:=h.tl;have:=dD (a:=tyR p) h.ty;omega,le_trans h.sz hp.sz⟩
structure TB (X:Nat) (c:Core) (s:Str) (b r:Core):Prop where
 imp:aU Tryz.prog 106 [.pa (aB c),Go.AM.T s,.pa (aB b)] [] (.pa (aB r)) []
 rx:RX X b c r
 sz:∀B,1≤B→m30 b≤31*B→m30 r≤m30 c*B
theorem aN9 {z:Str}:tyR (vC z)=[]:=rfl
theorem aOc {z:Str}:tlC (vC z)=0:=rfl
theorem aYs {A:Alg}{E:Nat}{ρ:Str→Nat}{z:Str}:cw A E (vC z) ρ=A.k:=by
 refine Nat.le_antisymm (fG.2 ⟨le_refl _,?_,fun x hx=>(by cases hx),fun x hx=>(by cases hx),fun x hx=>(by cases hx)⟩) (a1e _)
 exact le_of_eq (iP (tn zTy) zTy (le_refl _) fun x hx=>by
  have:tfR zTy=[]:=rfl
  rw[this] at hx;cases hx)
theorem TB.r0 {X:Nat}{c:Core}{s z:Str}{r:Core}(q:z.length≤30) (h:TB X c s (vC z) r):R0 c r:=
 ⟨fun A E ρ=>by have:=h.rx.cw A E ρ;rw[aYs] at this;have:=a1e (A:=A) (E:=E) (ρ:=ρ) c;omega,
  fun x hx=>(h.rx.ty x hx).resolve_right (by rw[aN9];exact not_mem_nil),by have:=h.rx.tl;rw[aOc] at this;omega,
  by have:=h.sz 1 (le_refl _) (by rw[aRv q];exact le_refl _);rwa [mul_one] at this⟩
theorem CG.vC {D M X:Nat}{z:Str}(q:z.length≤30) (I:31≤X):CG D M X (vC z):=by
 refine⟨aT.2 ⟨⟨rfl,fun h=>by omega,rfl,fun p hp=>(by cases hp),?_,fun h=>by omega,fun p hp=>(by cases hp),fun p hp=>(by cases hp)⟩,fun x hx=>(by cases hx),fun x hx=>(by cases hx),fun x hx=>(by cases hx)⟩,?_,?_,?_⟩
 ·show lw z [] []≤X;unfold lw w30;simp only[Bs,sum_nil];omega
 ·rw[aYs];exact Aj _
 ·rw[aN9,aOc];exact Aj _
 ·rw[aRv q];decide
section
variable {sb:Core→Str→Core→Core}{P:Core→Prop}{X:Nat}{s:Str}{b:Core}
theorem rR {ns:List Str}{ps:List Core}(Y:∀p∈ps,P p) (J:∀p,P p→cE (QL X) p) (Z:∀p n z,P p→z.length≤30→P (sb p n (vC z))∧R0 p (sb p n (vC z))) (hs:∀p,P p→RX X b p (sb p s b))
  (hl:(ps.flatMap pfR).length+2*ns.length+(pfR b).length≤540000000000):A2 (RX X b) ps (bX sb s b ns ps).2∧A2 NR ns (bX sb s b ns ps).1:=by
 obtain⟨⟨I,h1,h2⟩,h3⟩:=aEt (sb:=sb) (Rel:=fun p q=>P p→(P q∧R0 p q)) (fun p h=>⟨h,R0.refl p⟩)
  (fun p q r N O h=>by
   obtain⟨a1,a2⟩:=N h;obtain⟨b1,b2⟩:=O a1
   exact⟨b1,a2.trans b2⟩) (s:=s) (b:=b) (ns:=ns) (ps:=ps) (fun p n z W h=>Z p n z h W) hl
 have key:∀{ps I:List Core},A2 (fun p q=>P p→(P q∧R0 p q)) ps I→(∀p∈ps,P p)→A2 (RX X b) ps I∧A2 (RX X b) ps (I.map fun p=>sb p s b):=by
  intro ps I h
  induction h with
  | nil=>intro _;exact⟨.nil,.nil⟩
  | cons r _ ih=>
   intro hp;obtain⟨i1,i2⟩:=ih fun p h=>hp p (κ _ h)
   obtain⟨g1,g2⟩:=r (hp _ ζ);exact⟨.cons ⟨J _ g1,fun A E ρ=>le_trans (g2.cw A E ρ) (C2 ..),fun x hx=>.inl (g2.ty x hx),le_trans g2.tl (Nat.le_add_right _ _)⟩ i1,.cons (g2.rx (hs _ g1)) i2⟩
 obtain⟨k1,k2⟩:=key h1 Y;refine⟨?_,h3⟩;rcases h2 with h2 | h2
 ·rw[h2];exact k1
 ·rw[h2];exact k2
end
mutual
theorem mD:∀c:Core,allT (fun _=>True) c
 | .mk f n s t ks bs al=>⟨trivial,vM ks,vN bs,vO al⟩
theorem vM:∀l:List Core,aBd (fun _=>True) l
 | []=>trivial
 | c::l=>⟨mD c,vM l⟩
theorem vN:∀l:List Bind,aBe (fun _=>True) l
 | []=>trivial
 | .mk s t c::l=>⟨trivial,mD c,vN l⟩
theorem vO:∀l:List Alt,aBg (fun _=>True) l
 | []=>trivial
 | .mk f n s v c::l=>⟨mD c,vO l⟩
end
theorem nX:∀{ts:List Ty}{ns:List Str}{ps:List Core},ns.length=ts.length→ps.length=ts.length→(mkB ts ns ps).map Bind.name=ns
 | [],[],_,_,_=>by unfold mkB;rfl
 | t::ts,n::ns,p::ps,h1,h2=>by
  simp only[Ag] at h1 h2;rw[mkB,Am,nX (ts:=ts) (by omega) (by omega)];rfl
section
variable {sb:Core→Str→Core→Core}{X:Nat}{s:Str}{b:Core}{f n:Int}{nm:Str}{t:Ty}{ks:List Core}{bs:List Bind}{al:List Alt}
theorem aVq (h7:f≠7) (hq:cE (QL X) (.mk f n nm t ks bs al)) (hg:A2 (RX X b) (ks++bs.map Bind.body) (bX sb s b (gvN f nm bs) (ks++bs.map Bind.body)).2) (hn:A2 NR (gvN f nm bs) (bX sb s b (gvN f nm bs) (ks++bs.map Bind.body)).1)
  (ha:∀a∈al,A2 (RX X b) [a.body] (bX sb s b a.vars [a.body]).2∧A2 NR a.vars (bX sb s b a.vars [a.body]).1):RX X b (.mk f n nm t ks bs al) (oM sb s b (.mk f n nm t ks bs al)):=by
 obtain⟨⟨q1,q2,q3,q4,q5,q6,q7,q8⟩,qk,qb,qa⟩:=aT.1 hq;have O:∀a∈al,RX X b a.body (jL sb s b a).body∧A2 NR a.vars (jL sb s b a).vars∧(jL sb s b a).name=a.name:=fun a ha'=>by
  obtain⟨g1,g2⟩:=ha a ha';refine⟨?_,g2,rfl⟩;show RX X b a.body ((bX sb s b a.vars [a.body]).2.headD a.body);cases hx:(bX sb s b a.vars [a.body]).2 with
  | nil=>rw[hx] at g1;cases g1
  | cons y l'=>
   rw[hx] at g1;cases g1 with
   | cons h _=>exact h
 have Y:f=5→bs=[]:=fun h5=>(cO hq (.inl h5)).2.1
 rw[oM];unfold zNm zKs zBs;generalize bX sb s b (gvN f nm bs) (ks++bs.map Bind.body)=r at hg hn ⊢;obtain⟨J,N⟩:=r;dsimp only at *;have Z:A2 (RX X b) ks (N.take ks.length):=by
  have:=hg.take ks.length;rwa [take_left] at this
 have hB:A2 (RX X b) (bs.map Bind.body) (N.drop ks.length):=by
  have:=hg.drop ks.length;rwa [drop_left] at this
 have aa:(N.drop ks.length).length=bs.length:=by rw[hB.length,θ]
 have W:∀x∈mkB (bs.map Bind.ty) J (N.drop ks.length),∃y∈bs,RX X b y.body x.body:=fun x hx=>by
  obtain⟨p,hp,h⟩:=hB.mem x.body (oX hx).1;obtain⟨y,hy,rfl⟩:=Ad.1 hp;exact⟨y,hy,h⟩
 have ab:∀x∈mkB (bs.map Bind.ty) J (N.drop ks.length),∃y∈bs,y.ty=x.ty:=fun x hx=>Ad.1 (oX hx).2
 have I:=hn.length;have hbn:((mkB (bs.map Bind.ty) J (N.drop ks.length)).map fun x=>1+w30 x.name).sum≤(bs.map fun x=>1+w30 x.name).sum∧(mkB (bs.map Bind.ty) J (N.drop ks.length)).length=bs.length:=by
  by_cases h5:f=5
  ·have:=Y h5;subst this;show((mkB [] J _).map _).sum≤_∧(mkB [] J _).length=_;unfold mkB;exact⟨le_refl _,rfl⟩
  ·unfold gvN at hn I;rw[φ h5,Bd] at hn I;rw[θ] at I;have e1:∀l:List Bind,(l.map fun x=>1+w30 x.name)=(l.map Bind.name).map fun v=>1+w30 v:=fun l=>by rw[A1];rfl
   rw[e1,e1,nX (by rw[θ];exact I) (by rw[θ];exact aa)];exact⟨aEc hn,by rw[oY (by rw[θ];exact I) (by rw[θ];exact aa),θ]⟩
 have hbh:∀x∈mkB (bs.map Bind.ty) J (N.drop ks.length),nh x.name:=fun x hx=>by
  by_cases h5:f=5
  ·have:=Y h5;subst this;have hx:x∈mkB [] J (N.drop ks.length):=hx;unfold mkB at hx;cases hx
  ·have ac:=hn;unfold gvN at ac I;rw[φ h5,Bd] at ac I;rw[θ] at I;have ad:x.name∈(mkB (bs.map Bind.ty) J (N.drop ks.length)).map Bind.name:=Ad.2 ⟨x,hx,rfl⟩;rw[nX (by rw[θ];exact I) (by rw[θ];exact aa)] at ad;obtain⟨v,hv,hr⟩:=ac.mem _ ad;obtain⟨y,hy,rfl⟩:=Ad.1 hv;exact hr.nh (q7 (bhd y) (Ad.2 ⟨y,hy,rfl⟩))
 have hnm:w30 (if f=5 then J.headD nm else nm)≤w30 nm:=by
  split
  ·rename_i hf;unfold gvN at hn;rw[ξ hf] at hn;cases hn with
   | cons h _=>exact h.w
  ·exact le_refl _
 refine⟨aT.2 ⟨⟨?_,fun h=>absurd h h7,q3,fun p hp=>?_,?_,fun h5=>?_,fun p hp=>?_,fun p hp v hv=>?_⟩,fun x hx=>?_,fun x hx=>?_,fun x hx=>?_⟩,fun A E ρ=>?_,fun x hx=>?_,?_⟩
 ·rw[θ,θ,θ,hbn.2,Z.length];rw[θ,θ] at q1;exact q1
 ·obtain⟨x,hx,rfl⟩:=Ad.1 hp;obtain⟨y,hy,e⟩:=ab x hx;have:=q4 (bhd y) (Ad.2 ⟨y,hy,rfl⟩);show wfS x.ty=true;rw[←e];exact this
 ·refine le_trans ?_ q5;unfold lw;rw[A1,A1,A1,A1,A1];have ea:(al.map (((fun p:Str×List Str=>1+w30 p.1+(p.2.map fun v=>1+w30 v).sum)∘ahd)∘jL sb s b)).sum≤(al.map ((fun p:Str×List Str=>1+w30 p.1+(p.2.map fun v=>1+w30 v).sum)∘ahd)).sum:=by
   clear ha q1 q5 hq qa q8
   induction al with
   | nil=>exact le_refl _
   | cons a l ih=>
    have h1:=ih fun x hx=>O x (κ _ hx)
    obtain⟨_,h2,h3⟩:=O a ζ;have h2:=aEc h2;simp only[Am,Cd,Function.comp,ahd] at h1 ⊢;rw[h3];omega
  have eb:=hbn.1;have ec:∀l:List Bind,(l.map ((fun p:Str×Ty=>1+w30 p.1)∘bhd)).sum=(l.map fun x=>1+w30 x.name).sum:=fun l=>rfl
  rw[ec,ec];omega
 ·rw[ξ h5];unfold gvN at hn;rw[ξ h5] at hn;cases hn with
  | cons h _=>exact h.nh (q6 h5)
 ·obtain⟨x,hx,rfl⟩:=Ad.1 hp;exact hbh x hx
 ·obtain⟨a,ha',rfl⟩:=Ad.1 hp;obtain⟨a0,ae,rfl⟩:=Ad.1 ha';obtain⟨w,hw,hr⟩:=(O a0 ae).2.1.mem v hv;exact hr.nh (q8 (ahd a0) (Ad.2 ⟨a0,ae,rfl⟩) w hw)
 ·obtain⟨p,_,h⟩:=Z.mem x hx;exact h.q
 ·obtain⟨y,_,h⟩:=W x hx;exact h.q
 ·obtain⟨a,ha',rfl⟩:=Ad.1 hx;exact(O a ha').1.q
 ·obtain⟨c0,c1,c2,c3,c4⟩:=fG.1 (le_refl (cw A E (.mk f n nm t ks bs al) ρ));rw[φ h7] at c2;generalize cw A E (.mk f n nm t ks bs al) ρ=K at *;refine fG.2 ⟨by omega,by omega,fun x hx=>?_,fun x hx=>⟨?_,?_⟩,fun x hx=>?_⟩
  ·obtain⟨p,hp,h⟩:=Z.mem x hx;rw[φ h7];have h1:=h.cw A E ρ;have h2:=c2 p hp;omega
  ·obtain⟨y,hy,e⟩:=ab x hx;rw[←e];have:=(c3 y hy).1
   omega
  ·obtain⟨y,hy,h⟩:=W x hx;have h1:=h.cw A E ρ;have h2:=(c3 y hy).2
   omega
  ·obtain⟨a,ha',rfl⟩:=Ad.1 hx;have h1:=(O a ha').1.cw A E ρ;have h2:=c4 a ha';omega
 ·rcases bK.1 hx with h | ⟨y,hy,h,_⟩ | ⟨y,hy,h⟩ | ⟨y,hy,h⟩
  ·exact .inl (bK.2 (.inl h))
  ·obtain⟨p,hp,g⟩:=Z.mem y hy;exact(g.ty x h).imp (fun h=>bK.2 (.inr (.inl ⟨p,hp,h,.inl h7⟩))) id
  ·rcases h with h | h
   ·obtain⟨z,hz,e⟩:=ab y hy;exact .inl (bK.2 (.inr (.inr (.inl ⟨z,hz,.inl (by rw[e];exact h)⟩))))
   ·obtain⟨z,hz,g⟩:=W y hy;exact(g.ty x h).imp (fun h=>bK.2 (.inr (.inr (.inl ⟨z,hz,.inr h⟩)))) id
  ·obtain⟨a,ha',rfl⟩:=Ad.1 hy;exact((O a ha').1.ty x h).imp (fun h=>bK.2 (.inr (.inr (.inr ⟨a,ha',h⟩)))) id
 ·obtain⟨d1,d2,d3⟩:=kW (f:=f) (n:=n) (s:=nm) (t:=t) (ks:=ks) (bs:=bs) (al:=al);rw[φ h7] at d1;generalize tlC (.mk f n nm t ks bs al)=K at *;have:=(yK (K:=K+tlC b) (f:=f) (n:=n) (s:=(if f=5 then J.headD nm else nm)) (t:=t) (ks:=N.take ks.length) (bs:=mkB (bs.map Bind.ty) J (N.drop ks.length)) (al:=al.map (jL sb s b))).2 ⟨fun x hx=>?_,fun x hx=>?_,fun x hx=>?_⟩
  ·rwa [φ h7,Be] at this
  ·obtain⟨p,hp,h⟩:=Z.mem x hx;have:=h.tl;have:=d1 p hp;omega
  ·obtain⟨y,hy,h⟩:=W x hx;have:=h.tl;have:=d2 y hy;omega
  ·obtain⟨a,ha',rfl⟩:=Ad.1 hx;have:=(O a ha').1.tl;have:=d3 a ha';omega
end
theorem sS (hI:cQ 540000000000) {D M X:Nat}(ag:M+D≤700000) (hX:31≤X):∀(k:Nat) (c:Core),m30 c≤k→CG D M X c→∀(s:Str) (b:Core),CG D M X b→TB X c s b (cB k c s b):=by
 intro k
 induction k with
 | zero=>intro c h;have:=dF c;omega
 | succ k ih=>
 intro c h hc s b hb;have hTG:=hc.tyG hI ag;have hTGb:=hb.tyG hI ag;have hcs:=bV c;have hbs:=bV b;have hsz:=hc.sz;have hszb:=hb.sz;have hBig:Big=250000000000:=rfl;have hpfb:=j0 b;have hpfc:=j0 c;have ah:=pF (b7 c) c (le_refl _) (by omega);have hfreeb:=pF (b7 b) b (le_refl _) (by omega);obtain⟨hbty,hbtl⟩:=hb.types ag;have hm31:=dF c;have hb31:=dF b;obtain⟨f,n,nm,t,ks,bs,al⟩:=c;have hq:=hc.q;rw[cB];by_cases hv:f=1∧nm=s
 ·rw[ξ (show(Core.mk f n nm t ks bs al).form=1∧(Core.mk f n nm t ks bs al).name=s from hv)];exact⟨aMj f n nm t ks bs al s b hv (by omega) hTGb,⟨hb.q,fun A E ρ=>Cy ..,fun x hx=>.inr hx,le_add_left _ _⟩,fun B _ hb'=>le_trans hb' (Ay _ hm31)⟩
 rw[φ (show ¬((Core.mk f n nm t ks bs al).form=1∧(Core.mk f n nm t ks bs al).name=s) from hv)]
 let P:Core→Prop:=fun x=>m30 x<m30 (.mk f n nm t ks bs al)∧CG D M X x
 have Z:∀p,P p→∀n' b',CG D M X b'→TB X p n' b' (cB k p n' b'):=fun p hp n' b' hb'=>ih p (by have:=hp.1;omega) hp.2 n' b' hb'
 have hz:∀p m z,P p→z.length≤30→P (cB k p m (vC z))∧R0 p (cB k p m (vC z)):=fun p m z hp O=>by
  have h1:=Z p hp m (vC z) (CG.vC O hX);have h2:=h1.r0 O;exact⟨⟨Cu h2.sz hp.1,h2.cg hp.2 h1.rx.q⟩,h2⟩
 have hfree:∀p,P p→aU Tryz.prog 125 [.pa (aB p)] [] (aY (pfR p)) []:=fun p hp=>pF (b7 p) p (le_refl _) (by have:=bV p;have:=hp.1;omega)
 have hok:∀ps,(∀p∈ps,P p)→PutOk (cB k) P s b ps:=fun ps hps=>⟨hps,fun p hp=>hfree p (hps p hp),hfreeb,fun p m z hp O=>(hz p m z hp O).1,fun p m z hp O=>(Z p hp m (vC z) (CG.vC O hX)).imp,fun p hp=>(Z p hp s b hb).imp,hI⟩
 have hPq:∀p,P p→cE (QL X) p:=fun p hp=>hp.2.q
 have hS:∀p,P p→RX X b p (cB k p s b):=fun p hp=>(Z p hp s b hb).rx
 have hSB:∀B,1≤B→m30 b≤31*B→∀p,P p→wfC (cB k p s b)=true∧allT (fun _=>True) (cB k p s b)∧m30 (cB k p s b)≤m30 p*B:=fun B Y ab p hp=>by
  have h1:=Z p hp s b hb;exact⟨aBk _ h1.rx.q,mD _,h1.sz B Y ab⟩
 have hPQ:∀p,P p→wfC p=true∧allT (fun _=>True) p:=fun p hp=>⟨aBk _ hp.2.q,mD _⟩
 have hzs:∀p m z,P p→z.length≤30→P (cB k p m (vC z))∧m30 (cB k p m (vC z))≤m30 p:=fun p m z hp O=>⟨(hz p m z hp O).1,(hz p m z hp O).2.sz⟩
 by_cases h7:f=7
 ·subst h7;obtain⟨⟨kid,rfl⟩,rfl,rfl⟩:=cO hq (.inr (.inr rfl));obtain⟨g1,g2,g3⟩:=hc.kid (x:=kid) ζ;rw[ξ rfl] at g2;obtain⟨q1,_⟩:=aT.1 hq;have hnmn:¬nm=[]:=(q1.2.1 rfl).2
  obtain rfl:t=zTy:=(q1.2.1 rfl).1
  have hz0:tfR zTy=[]:=rfl;have aa:∀ac,gvN 7 ac []=[]:=fun ac=>by unfold gvN;rw[φ (by decide)];rfl
  have easm:∀ac I,oM (cB k) s b (.mk 7 n ac zTy [I] [] [])=.mk 7 n ac zTy ((bX (cB k) s b [] [I]).2.take 1) [] []:=fun ac I=>by
   rw[oM];unfold zNm zKs zBs;rw[aa,φ (by decide)];rfl
  have hpk:P kid:=⟨g3,g1⟩
  have hpfk:pfR (.mk 7 n nm zTy [kid] [] [])=pfP [] [] (pfR kid):=by
   rw[pfR,φ (by decide),jK,jK,kD,jD,aa]
  have hmem:∀x,x∈pfR (.mk 7 n nm zTy [kid] [] [])↔x∈pfR kid:=fun x=>by
   rw[hpfk];constructor
   ·intro hx;have key:∀(l o:List Str),x∈pfP [] o l→x∈o∨x∈l:=by
     intro l
     induction l with
     | nil=>intro o h;exact .inl h
     | cons y l ih2=>
      intro o h;rcases ih2 (pfG [] o y) h with h | h
      ·unfold pfG at h;rw[φ (by simp)] at h;rcases x8.1 h with h | h
       ·exact .inl h
       ·exact .inr (by rw[h];exact ζ)
      ·exact .inr (κ _ h)
    rcases key _ _ hx with h | h
    ·cases h
    ·exact h
   ·exact fun hx=>rY hx (by simp)
  have hlk:∀I,P I→(([I]:List Core).flatMap pfR).length+2*(gvN 7 nm []).length+(pfR b).length≤540000000000:=fun I W=>by
   rw[aa];have:=j0 I;have:=W.1;simp only[B9,Cx,A0,length_nil];omega
  by_cases hin:s∈pfR (.mk 7 n nm zTy [kid] [] [])
  ·rw[ξ (show(Core.mk 7 n nm zTy [kid] [] []).form=7∧_ from⟨rfl,hin⟩)];have hink:=(hmem s).1 hin;have hend:∀(nm1:Str) (I:Core),w30 nm1≤w30 nm→P I→m30 I≤m30 kid→tlC I≤tlC kid→(∀x∈tyR I,x=nm1∨x∈tyR kid)→(∀x∈tyR I,x=nm→nm1=nm∨nm∈tyR b)→¬nm1∈tyR b→¬nm1=[]→
     (∀(A:Alg) (E:Nat) (ρ:Str→Nat),cw A E I (fP ρ nm1 E)≤cw A E kid (fP ρ nm E))→
     aU Tryz.prog 75 [.one (.vp 700 0),aY (tyR b)] (gHl 7 n nm zTy [kid] [] []) (.tup []) (gHl 7 n nm1 zTy [I] [] [])→
     TB X (.mk 7 n nm zTy [kid] [] []) s b (oM (cB k) s b (.mk 7 n nm1 zTy [I] [] [])):=fun nm1 I hw W hkm hkt hkx hky hno hn1 hkc himp=>by
    have J:=pE (cB k) P 7 n nm nm1 zTy [kid] [I] [] [] s b (by omega) hTG hv rfl (fun e=>absurd e (by decide)) (fun _=>⟨rfl,rfl,_,ah,by omega,fun _=>⟨_,hbty,himp⟩,fun e=>absurd hin e⟩) (fun e=>absurd rfl e)
     (hok _ fun p hp=>by
      have:p=I:=by simpa using hp
      rw[this];exact W) (fun a ha=>by cases ha) (by
      have h1:=hlk I W;rw[aa] at h1;simp only[Bs,A0,length_nil,Ag] at h1 ⊢;have:=j0 I;have:=W.1;simp only[B9,Cx,A0] at h1 ⊢
      omega) (fun a ha=>by cases ha)
    obtain⟨hA,_⟩:=rR (sb:=cB k) (P:=P) (X:=X) (s:=s) (b:=b) (ns:=[]) (ps:=[I]) (fun p hp=>by rw[Aa.1 hp];exact W) hPq hz hS (by have:=hlk I W;rwa [aa] at this);rw[easm] at J ⊢;have hszB:∀B,1≤B→m30 b≤31*B→m30 (.mk 7 n nm1 zTy ((bX (cB k) s b [] [I]).2.take 1) [] [])≤m30 (.mk 7 n nm zTy [kid] [] [])*B:=fun B Y ab=>by
     have hg:=aCf (sb:=cB k) (P:=P) (T:=fun _=>True) (s:=s) (b:=b) (ns:=[]) (ps:=[I]) Y (fun p hp=>by rw[Aa.1 hp];exact W) hzs hPQ (hSB B Y ab) (by have:=hlk I W;rwa [aa] at this);have hsm:=aFh (hg.sm.take 1);have e:([I]:List Core).take 1=[I]:=rfl;rw[e,cK,cK,Bw] at hsm;rw[m30,m30,fR,iC,cK,cK,Bw,Bw,Bw,A5];have h5:1+w30 nm1≤(1+w30 nm)*B:=le_trans (by omega) (Bg _ Y);have h6:m30 I*B≤m30 kid*B:=Ay _ hkm;omega
    cases hx:(bX (cB k) s b [] [I]).2 with
    | nil=>rw[hx] at hA;cases hA
    | cons y l'=>
     rw[hx] at hA J hszB;cases hA with
     | cons hy _=>
      refine⟨J,⟨aT.2 ⟨⟨rfl,fun _=>⟨rfl,hn1⟩,rfl,fun p hp=>(by cases hp),?_⟩,fun x hx=>?_,fun x hx=>(by cases hx),fun x hx=>(by cases hx)⟩,fun A E ρ=>?_,fun x hx=>?_,?_⟩,hszB⟩
      ·exact⟨le_trans (xC hw rfl rfl) q1.2.2.2.2.1,fun e=>absurd e (by decide),fun p hp=>(by cases hp),fun p hp=>(by cases hp)⟩
      ·have:x=y:=by simpa using hx
       rw[this];exact hy.q
      ·obtain⟨c0,c1,c2,_,_⟩:=fG.1 (le_refl (cw A E (.mk 7 n nm zTy [kid] [] []) ρ));have c2:=c2 kid ζ;rw[ξ rfl] at c2;refine fG.2 ⟨by omega,by omega,fun x hx=>?_,fun x hx=>(by cases hx),fun x hx=>(by cases hx)⟩;have:x=y:=by simpa using hx
       rw[this,ξ rfl];have h1:=hy.cw A E (fP ρ nm1 E);have h2:=hkc A E ρ;have h3:cw A E b (fP ρ nm1 E)=cw A E b ρ:=o8 fun y hy=>by
        unfold fP;rw[φ fun e=>hno (by rw[←e];exact hy)]
       omega
      ·rcases bK.1 hx with h | ⟨z,ai,h,ae⟩ | ⟨z,ai,_⟩ | ⟨z,ai,_⟩
       ·rw[hz0] at h;cases h
       ·have:z=y:=by simpa using ai
        rw[this] at h;have ae:¬x=nm1:=ae.resolve_left (fun e=>e rfl);rcases hy.ty x h with h | h
        ·rcases hkx x h with h' | h'
         ·exact absurd h' ae
         ·by_cases e:x=nm
          ·rcases hky x h e with e2 | e2
           ·exact absurd (e.trans e2.symm) ae
           ·exact .inr (by rw[e];exact e2)
          ·exact .inl (bK.2 (.inr (.inl ⟨kid,ζ,h',.inr e⟩)))
        ·exact .inr h
       ·cases ai
       ·cases ai
      ·have d1:=hy.tl;show tlC (.mk 7 n nm1 zTy [y] [] [])≤tlC (.mk 7 n nm zTy [kid] [] [])+tlC b;rw[tlC,tlC,iJ,iJ,iJ,iJ,qI,pN];omega
   rw[aHq];by_cases ad:nm∈tyR b
   ·rw[ξ ad];have efm:[kid].flatMap tyR=tyR kid:=by simp
    rw[efm,Am,Bs];obtain⟨hkty,hktl⟩:=g1.types ag;have hzo:=mN (tyR b++tyR kid);have hz30:(aZ (tyR b++tyR kid)).length≤30:=jO _ (by rw[ω];omega);have hzn:=xL (tyR b++tyR kid);generalize hze:aZ (tyR b++tyR kid)=z at hzo hz30 hzn;have N:=tQ hI ag (m30 kid) kid (le_refl _) g1 nm (vT z) (UOk.var z);have hkid1:CG D M X (sTR (m30 kid) kid nm (vT z)):=by
     refine⟨N.q,?_,?_,le_trans N.sz g1.sz⟩
     ·have:=N.cw fD 0 r0;have e:tW fD (vT z) r0=0:=rfl;rw[e,yQ] at this;exact le_trans this g1.dep
     ·have h1:=dD (a:=z::tyR kid) (c:=sTR (m30 kid) kid nm (vT z)) fun x hx=>by
       rcases N.ty x hx with h | h
       ·exact κ _ h
       ·rw[yL] at h;rw[Aa.1 h];exact ζ
      rw[Ag] at h1;have h2:=N.tl;omega
    have hcl:=aGd n nm zTy kid (sTR (m30 kid) kid nm (vT z)) (tyR b) (by omega) ad hI hkty (by omega) (by rw[hze];exact N.imp);rw[hze] at hcl;refine hend z _ (yE hz30) ⟨Cu N.sz g3,hkid1⟩ N.sz N.tl (fun x hx=>?_) (fun _ _ _=>.inr ad) (fun h=>hzo (χ.2 (.inl h))) hzn (fun A E ρ=>?_) hcl
    ·rcases N.ty x hx with h | h
     ·exact .inr h
     ·rw[yL] at h;exact .inl (Aa.1 h)
    ·refine le_trans (N.cw A E _) (le_of_eq (o8 fun x hx=>?_));have e:tW A (vT z) (fP ρ z E)=E:=by
      unfold vT;rw[tW,ξ rfl];unfold fP;rw[ξ rfl]
     rw[e];unfold fP;by_cases e1:x=nm
     ·rw[ξ e1,ξ e1]
     ·rw[φ e1,φ e1,φ fun e3=>hzo (by rw[←e3];exact χ.2 (.inr hx))]
   ·rw[φ ad];exact hend nm kid (le_refl _) hpk (le_refl _) (le_refl _) (fun x hx=>.inr hx) (fun _ _ _=>.inl rfl) ad hnmn (fun A E ρ=>le_refl _) (aGe n nm zTy kid (tyR b) (by omega) ad)
  ·rw[φ (show ¬((Core.mk 7 n nm zTy [kid] [] []).form=7∧s∈pfR (Core.mk 7 n nm zTy [kid] [] [])) from fun h=>hin h.2)];have hnk:¬s∈pfR kid:=fun h=>hin ((hmem s).2 h)
   have J:=pE (cB k) P 7 n nm nm zTy [kid] [kid] [] [] s b (by omega) hTG hv rfl (fun e=>absurd e (by decide)) (fun _=>⟨rfl,rfl,_,ah,by omega,fun e=>absurd e hin,fun _=>⟨rfl,rfl⟩⟩) (fun e=>absurd rfl e)
    (hok _ fun p hp=>by
     have:p=kid:=by simpa using hp
     rw[this];exact hpk) (fun a ha=>by cases ha) (by
     have h1:=hlk kid hpk;rw[aa] at h1;simp only[Bs,A0,length_nil,Ag] at h1 ⊢;have:=j0 kid;have:=hpk.1;simp only[B9,Cx,A0] at h1 ⊢
     omega) (fun a ha=>by cases ha)
   have e5:bX (cB k) s b [] [kid]=([],[kid]):=by
    unfold bX;rw[φ];exact fun h=>hnk (by simpa using h.1)
   rw[easm,e5] at J ⊢;have J:aU Tryz.prog 106 [.pa (aB (.mk 7 n nm zTy [kid] [] [])),Go.AM.T s,.pa (aB b)] [] (.pa (aB (.mk 7 n nm zTy [kid] [] []))) []:=J;show TB X (.mk 7 n nm zTy [kid] [] []) s b (.mk 7 n nm zTy [kid] [] []);exact⟨J,⟨hq,fun A E ρ=>C2 ..,fun x hx=>.inl hx,Nat.le_add_right _ _⟩,fun B Y _=>Bg _ Y⟩
 ·rw[φ (show ¬((Core.mk f n nm t ks bs al).form=7∧s∈pfR (Core.mk f n nm t ks bs al)) from fun h=>h7 h.1)];have hP1:∀x∈ks,P x:=fun x hx=>⟨(hc.kid hx).2.2,(hc.kid hx).1⟩
  have hP2:∀x∈bs,P x.body:=fun x hx=>⟨(hc.bind hx).2,(hc.bind hx).1⟩
  have hP3:∀x∈al,P x.body:=fun x hx=>⟨(hc.alt hx).2,(hc.alt hx).1⟩
  have hPs:∀p∈ks++bs.map Bind.body,P p:=fun p hp=>by
   rcases χ.1 hp with hp | hp
   ·exact hP1 p hp
   ·obtain⟨x,hx,rfl⟩:=Ad.1 hp;exact hP2 x hx
  have hm:=hsz;rw[m30] at hm;have hfm:=aFw (ks++bs.map Bind.body);rw[qQ] at hfm;have hbsb:=sE bs;have hksl:=xB ks;have hgv:=aCp (f:=f) (nm:=nm) (bs:=bs);have hla:∀a∈al,(pfR a.body).length+2*a.vars.length+(pfR b).length+1≤540000000000:=fun a ha=>by
   have h1:=i6 ha;have h2:=rG a.vars;have h3:=j0 a.body;omega
  have hM:((ks++bs.map Bind.body).flatMap pfR).length+2*(1+bs.length)+(pfR b).length+(ks.length+bs.length)≤540000000000:=by omega
  have J:=pE (cB k) P f n nm nm t ks ks bs al s b (by omega) hTG hv rfl (fun hf=>cO hq (.inl hf)) (fun e=>absurd e h7) (fun _=>⟨rfl,rfl⟩) (hok _ hPs) (fun a ha=>hok _ fun p hp=>by rw[Aa.1 hp];exact hP3 a ha) hM hla;have hgl:((ks++bs.map Bind.body).flatMap pfR).length+2*(gvN f nm bs).length+(pfR b).length≤540000000000:=by omega
  have hal':∀a∈al,(([a.body]:List Core).flatMap pfR).length+2*a.vars.length+(pfR b).length≤540000000000:=fun a ha=>by
   have:=hla a ha;simp only[B9,Cx,A0];omega
  obtain⟨hA,hN⟩:=rR (sb:=cB k) (P:=P) (X:=X) (s:=s) (b:=b) (ns:=gvN f nm bs) hPs hPq hz hS hgl;have hAa:∀a∈al,A2 (RX X b) [a.body] (bX (cB k) s b a.vars [a.body]).2∧A2 NR a.vars (bX (cB k) s b a.vars [a.body]).1:=fun a ha=>
   rR (sb:=cB k) (P:=P) (X:=X) (s:=s) (b:=b) (fun p hp=>by rw[Aa.1 hp];exact hP3 a ha) hPq hz hS (hal' a ha)
  refine⟨J,aVq h7 hq hA hN hAa,fun B Y ab=>?_⟩;have hg:=aCf (sb:=cB k) (P:=P) (T:=fun _=>True) (s:=s) (b:=b) (ns:=gvN f nm bs) Y hPs hzs hPQ (hSB B Y ab) hgl;have hga:∀a∈al,PK B (fun _=>True) a.vars [a.body] (bX (cB k) s b a.vars [a.body]):=fun a ha=>aCf Y (fun p hp=>by rw[Aa.1 hp];exact hP3 a ha) hzs hPQ (hSB B Y ab) (hal' a ha)
  exact(aNc (n:=n) (nm:=nm) Y hg hga trivial (fun x hx=>trivial) (fun hf=>cO hq hf) (fun hf=>q9 hq hf)).2.2
theorem wT {G:List Str}{x:Str}:∀{l o:List Str},x∈pfP G o l→x∈o∨(x∈l∧¬x∈G)
 | [],o,h=>.inl h
 | y::l,o,h=>by
  rcases wT (l:=l) (o:=pfG G o y) h with h | ⟨h,q⟩
  ·unfold pfG at h;split at h
   ·exact .inl h
   ·rename_i hy;rcases x8.1 h with h | h
    ·exact .inl h
    ·exact .inr ⟨by rw[h];exact ζ,by rw[h];exact hy⟩
  ·exact .inr ⟨κ _ h,q⟩
theorem aEz {G:List Str}{x:Str}:∀{l:List Core}{o:List Str},x∈jK G l o→x∈o∨∃c∈l,x∈pfR c∧¬x∈G
 | [],o,h=>by rw[jK] at h;exact .inl h
 | c::l,o,h=>by
  rw[jK] at h;rcases aEz h with h | ⟨d,hd,h⟩
  ·rcases wT h with h | h
   ·exact .inl h
   ·exact .inr ⟨c,ζ,h⟩
  ·exact .inr ⟨d,κ _ hd,h⟩
theorem aE0 {G:List Str}{x:Str}:∀{l:List Bind}{o:List Str},x∈kD G l o→x∈o∨∃c∈l,x∈pfR c.body∧¬x∈G
 | [],o,h=>by rw[kD] at h;exact .inl h
 | .mk s t c::l,o,h=>by
  rw[kD] at h;rcases aE0 h with h | ⟨d,hd,h⟩
  ·rcases wT h with h | h
   ·exact .inl h
   ·exact .inr ⟨.mk s t c,ζ,h⟩
  ·exact .inr ⟨d,κ _ hd,h⟩
theorem aE1 {x:Str}:∀{l:List Alt}{o:List Str},x∈jD l o→x∈o∨∃a∈l,x∈pfR a.body∧¬x∈a.vars
 | [],o,h=>by rw[jD] at h;exact .inl h
 | .mk f n s v c::l,o,h=>by
  rw[jD] at h;rcases aE1 h with h | ⟨d,hd,h⟩
  ·rcases wT h with h | h
   ·exact .inl h
   ·exact .inr ⟨.mk f n s v c,ζ,h⟩
  ·exact .inr ⟨d,κ _ hd,h⟩
section
variable {f n:Int}{nm:Str}{t:Ty}{ks:List Core}{bs:List Bind}{al:List Alt}{x:Str}
theorem gM (hf:f≠1):x∈pfR (.mk f n nm t ks bs al)↔(∃p∈ks++bs.map Bind.body,x∈pfR p∧¬x∈gvN f nm bs)∨∃a∈al,x∈pfR a.body∧¬x∈a.vars:=by
 constructor
 ·intro h;rw[pfR,φ hf] at h;rcases aE1 h with h | h
  ·rcases aE0 h with h | ⟨b,hb,h⟩
   ·rcases aEz h with h | ⟨c,hc,h⟩
    ·cases h
    ·exact .inl ⟨c,χ.2 (.inl hc),h⟩
   ·exact .inl ⟨b.body,χ.2 (.inr (Ad.2 ⟨b,hb,rfl⟩)),h⟩
  ·exact .inr h
 ·rintro(⟨p,hp,h1,h2⟩ | ⟨a,ha,h1,h2⟩)
  ·rw[pfR,φ hf];refine x3 ?_;rcases χ.1 hp with hp | hp
   ·exact wX (wV hp h1 h2)
   ·obtain⟨b,hb,rfl⟩:=Ad.1 hp;exact wW hb h1 h2
  ·rw[pfR,φ hf];exact wZ ha h1 h2
end
mutual
def mS (σ:Str→Nat):Core→Nat
 | .mk f _ s _ ks bs al=>(if f=1 then σ s else 1+w30 s)+mSs σ ks+mSb σ bs+mSa σ al
def mSs (σ:Str→Nat):List Core→Nat
 | []=>0
 | c::l=>mS σ c+mSs σ l
def mSb (σ:Str→Nat):List Bind→Nat
 | []=>0
 | .mk s _ c::l=>1+w30 s+mS σ c+mSb σ l
def mSa (σ:Str→Nat):List Alt→Nat
 | []=>0
 | .mk _ _ s vs c::l=>1+w30 s+(vs.map fun v=>1+w30 v).sum+mS σ c+mSa σ l
end
mutual
theorem zS {σ:Str→Nat}(h:∀s,1+w30 s≤σ s):∀c:Core,m30 c≤mS σ c
 | .mk f n s t ks bs al=>by
  rw[m30,mS];have:=aK6 h ks;have:=aK8 h bs;have:=aLa h al;have:=h s;split<;>omega
theorem aK6 {σ:Str→Nat}(h:∀s,1+w30 s≤σ s):∀l:List Core,cK l≤mSs σ l
 | []=>le_refl _
 | c::l=>by rw[cK,mSs];have:=zS h c;have:=aK6 h l;omega
theorem aK8 {σ:Str→Nat}(h:∀s,1+w30 s≤σ s):∀l:List Bind,fR l≤mSb σ l
 | []=>le_refl _
 | .mk s t c::l=>by rw[fR,mSb];have:=zS h c;have:=aK8 h l;omega
theorem aLa {σ:Str→Nat}(h:∀s,1+w30 s≤σ s):∀l:List Alt,iC l≤mSa σ l
 | []=>le_refl _
 | .mk f n s v c::l=>by rw[iC,mSa];have:=zS h c;have:=aLa h l;omega
end
mutual
theorem aZq {σ:Str→Nat}{B:Nat}(q:1≤B) (h:∀s,σ s≤(1+w30 s)*B):∀c:Core,mS σ c≤m30 c*B
 | .mk f n s t ks bs al=>by
  rw[m30,mS,A5,A5,A5];have:=aXs q h ks;have:=aXu q h bs;have:=aXv q h al;have:=h s;have:1+w30 s≤(1+w30 s)*B:=Bg _ q;split<;>omega
theorem aXs {σ:Str→Nat}{B:Nat}(q:1≤B) (h:∀s,σ s≤(1+w30 s)*B):∀l:List Core,mSs σ l≤cK l*B
 | []=>by rw[mSs];exact Aj _
 | c::l=>by rw[cK,mSs,A5];have:=aZq q h c;have:=aXs q h l;omega
theorem aXu {σ:Str→Nat}{B:Nat}(q:1≤B) (h:∀s,σ s≤(1+w30 s)*B):∀l:List Bind,mSb σ l≤fR l*B
 | []=>by rw[mSb];exact Aj _
 | .mk s t c::l=>by
  rw[fR,mSb,A5,A5];have:=aZq q h c;have:=aXu q h l;have:1+w30 s≤(1+w30 s)*B:=Bg _ q;omega
theorem aXv {σ:Str→Nat}{B:Nat}(q:1≤B) (h:∀s,σ s≤(1+w30 s)*B):∀l:List Alt,mSa σ l≤iC l*B
 | []=>by rw[mSa];exact Aj _
 | .mk f n s v c::l=>by
  rw[iC,mSa,A5,A5];have:=aZq q h c;have:=aXv q h l;have:1+w30 s+(v.map fun v=>1+w30 v).sum≤(1+w30 s+(v.map fun v=>1+w30 v).sum)*B:=Bg _ q;omega
end
structure Sg (σ:Str→Nat):Prop where
 ge:∀s,1+w30 s≤σ s
 fr:∀l,(aZ l).length≤30→σ (aZ l)≤31
section
variable {σ:Str→Nat}
theorem a0k {z:Str}:mS σ (vC z)=σ z:=by unfold vC;rw[mS,ξ rfl,mSs,mSb,mSa];rfl
theorem aK2 {g:Core→Core}:∀{l:List Core},(∀x∈l,mS σ (g x)≤mS σ x)→mSs σ (l.map g)≤mSs σ l
 | [],_=>le_refl _
 | c::l,h=>by
  rw[Am,mSs,mSs];have:=h c ζ;have:=aK2 (l:=l) fun x hx=>h x (κ _ hx)
  omega
theorem aK3 {ts:Ty→Ty}{g:Core→Core}:∀{l:List Bind},(∀x∈l,mS σ (g x.body)≤mS σ x.body)→mSb σ (l.map fun b=>.mk b.name (ts b.ty) (g b.body))≤mSb σ l
 | [],_=>le_refl _
 | .mk s t c::l,h=>by
  rw[Am,mSb,mSb];have h1:=h _ ζ;have h2:=aK3 (ts:=ts) (l:=l) fun x hx=>h x (κ _ hx)
  simp only[Bind.body,Bind.name] at h1 h2 ⊢;omega
theorem aK4 {g:Core→Core}:∀{l:List Alt},(∀x∈l,mS σ (g x.body)≤mS σ x.body)→mSa σ (l.map fun a=>.mk a.form a.n a.name a.vars (g a.body))≤mSa σ l
 | [],_=>le_refl _
 | .mk f n s vs c::l,h=>by
  rw[Am,mSa,mSa];have h1:=h _ ζ;have h2:=aK4 (l:=l) fun x hx=>h x (κ _ hx)
  simp only[Alt.body,Alt.name,Alt.vars] at h1 h2 ⊢;omega
theorem aRu {ts:Ty→Ty}{sb:Core→Core}{f n:Int}{nm nm1:Str}{t:Ty}{ks ks1:List Core}{bs:List Bind}{al:List Alt}(q:f=1→nm1=nm) (hn:w30 nm1≤w30 nm) (hk:mSs σ ks1≤mSs σ ks)
  (h1:∀x∈ks1,mS σ (sb x)≤mS σ x) (h2:∀b∈bs,mS σ (sb b.body)≤mS σ b.body) (h3:∀a∈al,mS σ (sb a.body)≤mS σ a.body):
  mS σ (gH ts sb (.mk f n nm1 t ks1 bs al))≤mS σ (.mk f n nm t ks bs al):=by
 rw[gH,mS,mS];have:=aK2 h1;have:=aK3 (ts:=ts) h2;have:=aK4 h3;by_cases e:f=1
 ·rw[ξ e,ξ e,q e];omega
 ·rw[φ e,φ e];omega
end
theorem kX:∀(k:Nat) (c:Core) (name:Str) (u:Ty),skT (sTR k c name u)=skT c
 | 0,c,_,_=>rfl
 | k+1,.mk f n nm t ks bs al,name,u=>by
  rw[sTR];split
  ·rfl
  ·split
   ·rename_i h;refine aJd (fun h7=>absurd h.1 h7) ?_ (fun x _=>kX k x name u) (fun b _=>kX k b.body name u) (fun a _=>kX k a.body name u);rw[A1];exact A6 fun x _=>kX k x nm _
   ·exact aJd (fun _=>rfl) rfl (fun x _=>kX k x name u) (fun b _=>kX k b.body name u) (fun a _=>kX k a.body name u)
theorem aRi (k:Nat) (c:Core) (name:Str) (u:Ty):pfR (sTR k c name u)=pfR c:=by rw[←aJ6,kX,aJ6]
theorem aNz (N:cQ 540000000000) {D M X:Nat}(J:M+D≤700000) {kid:Core}(g1:CG D M X kid) (g2:(tyR kid).length+2*tlC kid+1≤M) (k:Nat) (hk:m30 kid≤k) (nm z:Str):CG D M X (sTR k kid nm (vT z)):=by
 have I:=tQ N J k kid hk g1 nm (vT z) (UOk.var z);refine⟨I.q,?_,?_,le_trans I.sz g1.sz⟩
 ·have:=I.cw fD 0 r0;have e:tW fD (vT z) r0=0:=rfl;rw[e,yQ] at this;exact le_trans this g1.dep
 ·have h1:=dD (a:=z::tyR kid) (c:=sTR k kid nm (vT z)) fun x hx=>by
   rcases I.ty x hx with h | h
   ·exact κ _ h
   ·rw[yL] at h;rw[Aa.1 h];exact ζ
  rw[Ag] at h1;have h2:=I.tl;omega
theorem aXw (O:cQ 540000000000) {D M X:Nat}(I:M+D≤700000) {σ:Str→Nat}:∀(k:Nat) (c:Core),m30 c≤k→CG D M X c→∀(name:Str) (u:Ty),UOk u→mS σ (sTR k c name u)≤mS σ c:=by
 intro k
 induction k with
 | zero=>intro c h;have:=dF c;omega
 | succ k J=>
 intro c h hc name u hu;obtain⟨f,n,nm,t,ks,bs,al⟩:=c;rw[sTR];split
 ·exact le_refl _
 ·split
  ·rename_i h7;obtain⟨rfl,ab⟩:=h7;obtain⟨⟨kid,rfl⟩,rfl,rfl⟩:=cO hc.q (.inr (.inr rfl));obtain⟨g1,g2,g3⟩:=hc.kid (x:=kid) ζ;rw[ξ rfl] at g2;obtain⟨_,Z⟩:=g1.types I;have ac:=iL u;have aa:=hu.fv;have W:[kid].flatMap tyR=tyR kid:=by simp
   rw[W,Am,Bs];have N:(aZ (tfR u++tyR kid)).length≤30:=jO _ (by rw[ω];omega);have h1:=J kid (by omega) g1 nm (vT (aZ (tfR u++tyR kid))) (UOk.var _);have Y:=aNz O I g1 g2 k (by omega) nm (aZ (tfR u++tyR kid));have ad:=(tQ O I k kid (by omega) g1 nm (vT (aZ (tfR u++tyR kid))) (UOk.var _)).sz;have h2:=J _ (by omega) Y name u hu;refine aRu (fun e=>absurd e (by decide)) (yE N) (by rw[mSs,mSs,mSs,mSs];omega) (fun x hx=>?_) (fun b hb=>by cases hb) (fun a ha=>by cases ha);rw[Aa.1 hx];exact h2
  ·exact aRu (fun _=>rfl) (le_refl _) (le_refl _) (fun x hx=>J x (by have:=(hc.kid hx).2.2;omega) (hc.kid hx).1 name u hu) (fun x hx=>J x.body (by have:=(hc.bind hx).2;omega) (hc.bind hx).1 name u hu) (fun x hx=>J x.body (by have:=(hc.alt hx).2;omega) (hc.alt hx).1 name u hu)
def Fr (z:Str):Prop:=∃l,z=aZ l
section
variable {sb:Core→Str→Core→Core}{P:Core→Prop}
theorem xI {far:List Str}:∀{ns:List Str}{st:List Str×List Core×List Str},(∀x∈st.1,x∈(jN sb far ns st).1)∧∀n∈ns,n∈(jN sb far ns st).1∨n∈far
 | [],st=>⟨fun _ h=>h,fun n hn=>by cases hn⟩
 | n::ns,st=>by
  obtain⟨h1,h2⟩:=xI (far:=far) (ns:=ns) (st:=dS sb far st n);have e:jN sb far (n::ns) st=jN sb far ns (dS sb far st n):=rfl;rw[e];refine⟨fun x hx=>h1 x ?_,fun m hm=>?_⟩
  ·unfold dS;split<;>exact χ.2 (.inl hx)
  ·rcases Ao.1 hm with rfl | hm
   ·by_cases hf:m∈far
    ·exact .inr hf
    ·refine .inl (h1 m ?_);unfold dS;rw[φ hf];exact χ.2 (.inr (Aa.2 rfl))
   ·exact h2 m hm
structure RN (p:Core) (out:List Str) (q:Core):Prop where
 pf:∀x∈pfR q,x∈pfR p∨x∈out
 ms:∀σ,Sg σ→mS σ q≤mS σ p
theorem aCs {far:List Str}(N:∀p n z,P p→Fr z→z.length≤30→P (sb p n (vC z))∧(∀x∈pfR (sb p n (vC z)),x∈pfR p∨x=z)∧∀σ,Sg σ→mS σ (sb p n (vC z))≤mS σ p):
  ∀{ns:List Str} {st:List Str×List Core×List Str},st.2.2.length+ns.length≤540000000000→(∀p∈st.2.1,P p)→A2 (fun p q=>P q∧RN p (jN sb far ns st).1 q) st.2.1 (jN sb far ns st).2.1
 | [],st,_,I=>by
  show A2 (fun p q=>P q∧RN p st.1 q) st.2.1 st.2.1;have key:∀l:List Core,(∀p∈l,P p)→A2 (fun p q=>P q∧RN p st.1 q) l l:=by
   intro l
   induction l with
   | nil=>intro _;exact .nil
   | cons p l Z=>intro h;exact .cons ⟨h p ζ,fun x hx=>.inl hx,fun _ _=>le_refl _⟩ (Z fun q J=>h q (κ _ J))
  exact key _ I
 | n::ns,st,hl,I=>by
  simp only[Ag] at hl;have hg:=sI (sb:=sb) (far:=far) (st:=st) (n:=n);have e:jN sb far (n::ns) st=jN sb far ns (dS sb far st n):=rfl;rw[e];have hf:(aZ st.2.2).length≤30:=jO _ (by omega);by_cases hn:n∈far
  ·have es:dS sb far st n=(st.1++[aZ st.2.2],st.2.1.map (fun p=>sb p n (vC (aZ st.2.2))),st.2.2++[aZ st.2.2]):=by unfold dS;rw[ξ hn]
   rw[es] at hg ⊢;have W:∀p∈st.2.1.map (fun p=>sb p n (vC (aZ st.2.2))),P p:=fun p hp=>by
    obtain⟨q,J,rfl⟩:=Ad.1 hp;exact(N q n _ (I q J) ⟨_,rfl⟩ hf).1
   have O:=aCs N (far:=far) (ns:=ns) (st:=(st.1++[aZ st.2.2],st.2.1.map (fun p=>sb p n (vC (aZ st.2.2))),st.2.2++[aZ st.2.2])) (by omega) W;have hout:=(xI (sb:=sb) (far:=far) (ns:=ns) (st:=(st.1++[aZ st.2.2],st.2.1.map (fun p=>sb p n (vC (aZ st.2.2))),st.2.2++[aZ st.2.2]))).1 (aZ st.2.2) (χ.2 (.inr (Aa.2 rfl)))
   generalize jN sb far ns (st.1++[aZ st.2.2],st.2.1.map (fun p=>sb p n (vC (aZ st.2.2))),st.2.2++[aZ st.2.2])=r at O hout ⊢;dsimp only at O;have key:∀(l:List Core) (m:List Core),(∀p∈l,P p)→A2 (fun p q=>P q∧RN p r.1 q) (l.map (fun p=>sb p n (vC (aZ st.2.2)))) m→A2 (fun p q=>P q∧RN p r.1 q) l m:=by
    intro l
    induction l with
    | nil=>intro m _ h;cases h;exact .nil
    | cons p l Y=>
     intro m hp h;cases h with
     | cons h1 h2=>
      obtain⟨_,z2,z3⟩:=N p n _ (hp p ζ) ⟨_,rfl⟩ hf;refine .cons ⟨h1.1,fun x hx=>?_,fun σ hσ=>le_trans (h1.2.ms σ hσ) (z3 σ hσ)⟩ (Y _ (fun q J=>hp q (κ _ J)) h2);rcases h1.2.pf x hx with h | h
      ·rcases z2 x h with h | h
       ·exact .inl h
       ·exact .inr (by rw[h];exact hout)
      ·exact .inr h
   exact key _ _ I O
  ·have es:dS sb far st n=(st.1++[n],st.2.1,st.2.2):=by unfold dS;rw[φ hn]
   rw[es] at hg ⊢;exact aCs N (far:=far) (ns:=ns) (st:=(st.1++[n],st.2.1,st.2.2)) (by omega) I
structure RB (s:Str) (b:Core) (ns out:List Str) (p q:Core):Prop where
 pf:∀x∈pfR q,¬x∈out→(x∈pfR p∧¬x=s∧¬x∈ns)∨x∈pfR b
 ms:∀σ,Sg σ→mS σ b≤σ s→mS σ q≤mS σ p
theorem aJ4 {s:Str}{b:Core}{ns:List Str}{ps:List Core}(Z:∀p∈ps,P p)
  (hz:∀p n z,P p→Fr z→z.length≤30→P (sb p n (vC z))∧(∀x∈pfR (sb p n (vC z)),x∈pfR p∨x=z)∧∀σ,Sg σ→mS σ (sb p n (vC z))≤mS σ p)
  (hs:∀p,P p→(∀x∈pfR (sb p s b),(x∈pfR p∧¬x=s)∨x∈pfR b)∧∀σ,Sg σ→mS σ b≤σ s→mS σ (sb p s b)≤mS σ p)
  (hl:(ps.flatMap pfR).length+2*ns.length+(pfR b).length≤540000000000):A2 (RB s b ns (bX sb s b ns ps).1) ps (bX sb s b ns ps).2:=by
 unfold bX;split
 ·rename_i hin;have hg:=aCs hz (far:=pfR b) (ns:=ns) (st:=([],ps,ps.flatMap pfR++ns++pfR b)) (by simp only[ω];omega) Z;have W:=(xI (sb:=sb) (far:=pfR b) (ns:=ns) (st:=([],ps,ps.flatMap pfR++ns++pfR b))).2
  generalize jN sb (pfR b) ns ([],ps,ps.flatMap pfR++ns++pfR b)=r at hg W ⊢;dsimp only at hg ⊢;have key:∀(l m:List Core),A2 (fun p q=>P q∧RN p r.1 q) l m→A2 (RB s b ns r.1) l (m.map fun p=>sb p s b):=by
   intro l m h
   induction h with
   | nil=>exact .nil
   | cons h1 _ J=>
    refine .cons ⟨fun x hx I=>?_,fun σ hσ hb=>le_trans ((hs _ h1.1).2 σ hσ hb) (h1.2.ms σ hσ)⟩ J;rcases(hs _ h1.1).1 x hx with⟨h,Y⟩ | h
    ·rcases h1.2.pf x h with h | h
     ·by_cases N:x∈ns
      ·rcases W x N with O | O
       ·exact absurd O I
       ·exact .inr O
      ·exact .inl ⟨h,Y,N⟩
     ·exact absurd h I
    ·exact .inr h
  exact key _ _ hg
 ·rename_i hin;have key:∀l:List Core,(∀p∈l,p∈ps)→A2 (RB s b ns ns) l l:=by
   intro l
   induction l with
   | nil=>intro _;exact .nil
   | cons p l J=>
    intro h;refine .cons ⟨fun x hx I=>.inl ⟨hx,fun e=>hin ⟨Cb.2 ⟨p,h p ζ,by rw[←e];exact hx⟩,by rw[←e];exact I⟩,I⟩,fun _ _ _=>le_refl _⟩ (J fun q hq=>h q (κ _ hq))
  exact key ps fun p hp=>hp
end
section
variable {σ:Str→Nat}
theorem aXt {l m:List Core}(h:A2 (fun p q=>mS σ q≤mS σ p) l m):mSs σ m≤mSs σ l:=by
 induction h with
 | nil=>exact le_refl _
 | cons r _ I=>rw[mSs,mSs];omega
theorem aRp:∀{ts:List Ty}{ns:List Str}{ps:List Core}{bs:List Bind},A2 (fun(b:Bind) n=>w30 n≤w30 b.name) bs ns→A2 (fun(b:Bind) p=>mS σ p≤mS σ b.body) bs ps→mSb σ (mkB ts ns ps)≤mSb σ bs
 | [],_,_,_,_,_=>by unfold mkB;rw[mSb];exact Aj _
 | t::ts,_,_,_,.nil,.nil=>by unfold mkB;rw[mSb];exact le_refl _
 | t::ts,n::ns,p::ps,.mk s ty c::bs,.cons h1 h2,.cons h3 h4=>by
  unfold mkB;rw[mSb,mSb];have:=aRp (ts:=ts) h2 h4;have h1:w30 n≤w30 s:=h1;have h3:mS σ p≤mS σ c:=h3;omega
end
structure PL (c:Core) (s:Str) (b r:Core):Prop where
 pf:∀x∈pfR r,(x∈pfR c∧¬x=s)∨x∈pfR b
 ms:∀σ,Sg σ→mS σ b≤σ s→mS σ r≤mS σ c
section
variable {sb:Core→Str→Core→Core}{X:Nat}{s:Str}{b:Core}{f n:Int}{nm:Str}{t:Ty}{ks:List Core}{bs:List Bind}{al:List Alt}
theorem aVr (J:f≠1) (hq:cE (QL X) (.mk f n nm t ks bs al)) (hn:A2 NR (gvN f nm bs) (bX sb s b (gvN f nm bs) (ks++bs.map Bind.body)).1)
  (hg:A2 (RB s b (gvN f nm bs) (bX sb s b (gvN f nm bs) (ks++bs.map Bind.body)).1) (ks++bs.map Bind.body) (bX sb s b (gvN f nm bs) (ks++bs.map Bind.body)).2)
  (ha:∀a∈al,A2 NR a.vars (bX sb s b a.vars [a.body]).1∧A2 (RB s b a.vars (bX sb s b a.vars [a.body]).1) [a.body] (bX sb s b a.vars [a.body]).2):PL (.mk f n nm t ks bs al) s b (oM sb s b (.mk f n nm t ks bs al)):=by
 have hA:∀a∈al,RB s b a.vars (jL sb s b a).vars a.body (jL sb s b a).body∧A2 NR a.vars (jL sb s b a).vars:=fun a ha'=>by
  obtain⟨g2,g1⟩:=ha a ha';refine⟨?_,g2⟩;show RB s b a.vars (bX sb s b a.vars [a.body]).1 a.body ((bX sb s b a.vars [a.body]).2.headD a.body);cases hx:(bX sb s b a.vars [a.body]).2 with
  | nil=>rw[hx] at g1;cases g1
  | cons y l'=>
   rw[hx] at g1;cases g1 with
   | cons h _=>exact h
 have W:f=5→bs=[]:=fun h5=>(cO hq (.inl h5)).2.1
 rw[oM];unfold zNm zKs zBs;generalize bX sb s b (gvN f nm bs) (ks++bs.map Bind.body)=r at hg hn ⊢;obtain⟨N,Y⟩:=r;dsimp only at *;have hK:=hg.take ks.length;rw[take_left] at hK;have hB:=hg.drop ks.length;rw[drop_left] at hB;have hBl:(Y.drop ks.length).length=bs.length:=by rw[hB.length,θ]
 have I:=hn.length;have hgv:gvN f (if f=5 then N.headD nm else nm) (mkB (bs.map Bind.ty) N (Y.drop ks.length))=N:=by
  by_cases h5:f=5
  ·have:=W h5;subst this;unfold gvN at hn I ⊢;rw[ξ h5] at hn I;rw[ξ h5,ξ h5]
   match N,I with
   | [y],_=>show [y]++(mkB [] [y] _).map Bind.name=[y];unfold mkB;rfl
  ·unfold gvN at I ⊢;rw[φ h5,Bd] at I;rw[θ] at I;rw[φ h5,Bd,nX (by rw[θ];exact I) (by rw[θ];exact hBl)]
 refine⟨fun x hx=>?_,fun σ hσ hb=>?_⟩
 ·rcases(gM J).1 hx with⟨q,hq',h1,h2⟩ | ⟨a,ha',h1,h2⟩
  ·rw[hgv] at h2;have hqm:q∈Y:=by
    rcases χ.1 hq' with h | h
    ·exact Bl h
    ·obtain⟨y,hy,rfl⟩:=Ad.1 h;exact mem_of_mem_drop (oX hy).1
   obtain⟨p,hp,hr⟩:=hg.mem q hqm;rcases hr.pf x h1 h2 with⟨g1,g2,g3⟩ | h
   ·exact .inl ⟨(gM J).2 (.inl ⟨p,hp,g1,g3⟩),g2⟩
   ·exact .inr h
  ·obtain⟨a0,Z,rfl⟩:=Ad.1 ha';rcases(hA a0 Z).1.pf x h1 h2 with⟨g1,g2,g3⟩ | h
   ·exact .inl ⟨(gM J).2 (.inr ⟨a0,Z,g1,g3⟩),g2⟩
   ·exact .inr h
 ·rw[mS,mS,φ J,φ J];have e1:w30 (if f=5 then N.headD nm else nm)≤w30 nm:=by
   split
   ·rename_i hf;unfold gvN at hn;rw[ξ hf] at hn;cases hn with
    | cons h _=>exact h.w
   ·exact le_refl _
  have e2:mSs σ (Y.take ks.length)≤mSs σ ks:=aXt (A2.mono (fun p q h=>h.ms σ hσ hb) hK);have e3:mSb σ (mkB (bs.map Bind.ty) N (Y.drop ks.length))≤mSb σ bs:=by
   by_cases hf:f=5
   ·have:=W hf;subst this;show mSb σ (mkB [] _ _)≤_;unfold mkB;rw[mSb];exact Aj _
   ·have h4:=hn;unfold gvN at h4;rw[φ hf,Bd] at h4;exact aRp (A2.mapL (A2.mono (fun a b h=>h.w) h4)) (A2.mapL (A2.mono (fun p q h=>h.ms σ hσ hb) hB))
  have e4:mSa σ (al.map (jL sb s b))≤mSa σ al:=by
   clear ha hq
   induction al with
   | nil=>exact le_refl _
   | cons a l ihl=>
    obtain⟨af,an,anm,vs,O⟩:=a;obtain⟨g1,g2⟩:=hA _ ζ;have:=ihl fun x hx=>hA x (κ _ hx)
    have g3:=g1.ms σ hσ hb;have g4:=aEc g2;have e:jL sb s b (Alt.mk af an anm vs O)=.mk af an anm (jL sb s b (Alt.mk af an anm vs O)).vars (jL sb s b (Alt.mk af an anm vs O)).body:=rfl;have g3:mS σ (jL sb s b (Alt.mk af an anm vs O)).body≤mS σ O:=g3;have g4:((jL sb s b (Alt.mk af an anm vs O)).vars.map fun v=>1+w30 v).sum≤(vs.map fun v=>1+w30 v).sum:=g4;rw[Am,e,mSa,mSa];omega
  omega
end
theorem aTd (hI:cQ 540000000000) {D M X:Nat}(J:M+D≤700000) (hX:31≤X):∀(k:Nat) (c:Core),m30 c≤k→CG D M X c→∀(s:Str) (b:Core),CG D M X b→PL c s b (cB k c s b):=by
 intro k
 induction k with
 | zero=>intro c h;have:=dF c;omega
 | succ k ih=>
 intro c h hc s b hb;have hBig:Big=250000000000:=rfl;have hsz:=hc.sz;have hszb:=hb.sz;have hpfb:=j0 b;obtain⟨hbty,hbtl⟩:=hb.types J;obtain⟨f,n,nm,t,ks,bs,al⟩:=c;have hq:=hc.q;rw[cB];by_cases hv:f=1∧nm=s
 ·rw[ξ (show(Core.mk f n nm t ks bs al).form=1∧(Core.mk f n nm t ks bs al).name=s from hv)];obtain⟨rfl,rfl⟩:=hv;refine⟨fun x hx=>.inr hx,fun σ hσ I=>le_trans I ?_⟩;rw[mS,ξ rfl];omega
 rw[φ (show ¬((Core.mk f n nm t ks bs al).form=1∧(Core.mk f n nm t ks bs al).name=s) from hv)]
 let P:Core→Prop:=fun x=>m30 x<m30 (.mk f n nm t ks bs al)∧CG D M X x
 have W:∀p,P p→∀n' b',CG D M X b'→PL p n' b' (cB k p n' b'):=fun p hp n' b' I=>ih p (by have:=hp.1;omega) hp.2 n' b' I
 have O:∀p,P p→∀n' b',CG D M X b'→TB X p n' b' (cB k p n' b'):=fun p hp n' b' I=>sS hI J hX k p (by have:=hp.1;omega) hp.2 n' b' I
 have hz:∀p m z,P p→Fr z→z.length≤30→P (cB k p m (vC z))∧(∀x∈pfR (cB k p m (vC z)),x∈pfR p∨x=z)∧∀σ,Sg σ→mS σ (cB k p m (vC z))≤mS σ p:=fun p m z hp hF N=>by
  have hcg:=CG.vC (D:=D) (M:=M) N hX;have h1:=O p hp m (vC z) hcg;have h2:=h1.r0 N;have h3:=W p hp m (vC z) hcg;refine⟨⟨Cu h2.sz hp.1,h2.cg hp.2 h1.rx.q⟩,fun x hx=>(h3.pf x hx).imp And.left fun h=>?_,fun σ hσ=>h3.ms σ hσ ?_⟩
  ·have:pfR (vC z)=[z]:=rfl;rw[this] at h;exact Aa.1 h
  ·rw[a0k];obtain⟨l,rfl⟩:=hF;have:=hσ.fr l N;have:=hσ.ge m;have:=kT m;omega
 have hzR:∀p m z,P p→z.length≤30→P (cB k p m (vC z))∧R0 p (cB k p m (vC z)):=fun p m z hp N=>by
  have h1:=O p hp m (vC z) (CG.vC N hX);have h2:=h1.r0 N;exact⟨⟨Cu h2.sz hp.1,h2.cg hp.2 h1.rx.q⟩,h2⟩
 have hPq:∀p,P p→cE (QL X) p:=fun p hp=>hp.2.q
 have hSR:∀p,P p→RX X b p (cB k p s b):=fun p hp=>(O p hp s b hb).rx
 have hs:∀p,P p→(∀x∈pfR (cB k p s b),(x∈pfR p∧¬x=s)∨x∈pfR b)∧∀σ,Sg σ→mS σ b≤σ s→mS σ (cB k p s b)≤mS σ p:=fun p hp=>⟨(W p hp s b hb).pf,(W p hp s b hb).ms⟩
 by_cases hf1:f=1
 ·subst hf1;obtain⟨rfl,rfl,rfl⟩:=q9 hq rfl;rw[φ (fun h=>absurd h.1 (by show ¬(1:Int)=7;decide))];have hne:¬nm=s:=fun e=>hv ⟨rfl,e⟩
  have e:oM (cB k) s b (.mk 1 n nm t [] [] [])=.mk 1 n nm t [] [] []:=by
   rw[oM];unfold zNm zKs zBs;rw[φ (by decide)];have:(([]:List Core)++([]:List Bind).map Bind.body)=[]:=rfl;rw[this];have hp:bX (cB k) s b (gvN 1 nm []) []=(gvN 1 nm [],[]):=by
    unfold bX;rw[φ fun h=>by cases h.1]
   rw[hp];rfl
  rw[e]
  exact⟨fun x hx=>.inl ⟨hx,fun e=>hne (by
   have:pfR (.mk 1 n nm t [] [] [])=[nm]:=rfl
   rw[this] at hx;rw[←Aa.1 hx,e])⟩,fun _ _ _=>le_refl _⟩
 have Y:∀nm1 ks1,(f=5→nm1=nm)→cE (QL X) (.mk f n nm1 t ks1 bs al)→(∀x∈ks1,P x)→cK ks1≤cK ks→PL (.mk f n nm1 t ks1 bs al) s b (oM (cB k) s b (.mk f n nm1 t ks1 bs al)):=fun nm1 ks1 _ hq1 hP1 hkm=>by
  have hP2:∀x∈bs,P x.body:=fun x hx=>⟨(hc.bind hx).2,(hc.bind hx).1⟩
  have hP3:∀x∈al,P x.body:=fun x hx=>⟨(hc.alt hx).2,(hc.alt hx).1⟩
  have hPs:∀p∈ks1++bs.map Bind.body,P p:=fun p hp=>by
   rcases χ.1 hp with hp | hp
   ·exact hP1 p hp
   ·obtain⟨x,hx,rfl⟩:=Ad.1 hp;exact hP2 x hx
  have hm:=hsz;rw[m30] at hm;have hfm:=aFw (ks1++bs.map Bind.body);rw[qQ] at hfm;have hbsb:=sE bs;have hgv:=aCp (f:=f) (nm:=nm1) (bs:=bs);have hgl:((ks1++bs.map Bind.body).flatMap pfR).length+2*(gvN f nm1 bs).length+(pfR b).length≤540000000000:=by omega
  have hal':∀a∈al,(([a.body]:List Core).flatMap pfR).length+2*a.vars.length+(pfR b).length≤540000000000:=fun a ha=>by
   have h1:=i6 ha;have h2:=rG a.vars;have h3:=j0 a.body;simp only[B9,Cx,A0];omega
  have hN:=(rR (sb:=cB k) (P:=P) (X:=X) (s:=s) (b:=b) (ns:=gvN f nm1 bs) hPs hPq hzR hSR hgl).2
  have hRB:=aJ4 (sb:=cB k) (P:=P) (s:=s) (b:=b) (ns:=gvN f nm1 bs) hPs hz hs hgl;exact aVr hf1 hq1 hN hRB fun a ha=>⟨(rR (sb:=cB k) (P:=P) (X:=X) (s:=s) (b:=b) (fun p hp=>by rw[Aa.1 hp];exact hP3 a ha) hPq hzR hSR (hal' a ha)).2,aJ4 (sb:=cB k) (P:=P) (s:=s) (b:=b) (fun p hp=>by rw[Aa.1 hp];exact hP3 a ha) hz hs (hal' a ha)⟩
 have hPk:∀x∈ks,P x:=fun x hx=>⟨(hc.kid hx).2.2,(hc.kid hx).1⟩
 by_cases hcl:f=7∧s∈pfR (.mk f n nm t ks bs al)
 ·rw[ξ (show(Core.mk f n nm t ks bs al).form=7∧s∈pfR (Core.mk f n nm t ks bs al) from hcl),aHq];by_cases hnb:nm∈tyR b
  ·rw[ξ hnb];obtain⟨rfl,hin⟩:=hcl;obtain⟨⟨kid,rfl⟩,rfl,rfl⟩:=cO hq (.inr (.inr rfl));obtain⟨g1,g2,g3⟩:=hc.kid (x:=kid) ζ;rw[ξ rfl] at g2;obtain⟨_,hktl⟩:=g1.types J;obtain⟨q1,_⟩:=aT.1 hq;have efm:[kid].flatMap tyR=tyR kid:=by simp
   rw[efm,Am,Bs];have Z:(aZ (tyR b++tyR kid)).length≤30:=jO _ (by rw[ω];omega);have hzn:=xL (tyR b++tyR kid);generalize aZ (tyR b++tyR kid)=z at Z hzn;have hS1:=tQ hI J (m30 kid) kid (le_refl _) g1 nm (vT z) (UOk.var z);have aa:=aNz hI J g1 g2 (m30 kid) (le_refl _) nm z;have hq1:cE (QL X) (.mk 7 n z t [sTR (m30 kid) kid nm (vT z)] [] []):=by
    refine aT.2 ⟨⟨q1.1,fun h=>⟨(q1.2.1 h).1,hzn⟩,q1.2.2.1,fun p hp=>(by cases hp),le_trans (xC (yE Z) rfl rfl) q1.2.2.2.2.1,fun e=>absurd e (by decide),fun p hp=>(by cases hp),fun p hp=>(by cases hp)⟩,fun x hx=>?_,fun x hx=>(by cases hx),fun x hx=>(by cases hx)⟩;rw[Aa.1 hx];exact aa.q
   have hr:=Y z [sTR (m30 kid) kid nm (vT z)] (fun e=>absurd e (by decide)) hq1 (fun x hx=>by rw[Aa.1 hx];exact⟨Cu hS1.sz g3,aa⟩) (by rw[cK,cK,cK,cK];have:=hS1.sz;omega);refine⟨fun x hx=>(hr.pf x hx).imp (fun h=>⟨?_,h.2⟩) id,fun σ hσ I=>le_trans (hr.ms σ hσ I) ?_⟩
   ·rcases(gM (by decide)).1 h.1 with⟨p,hp,h1,h2⟩ | ⟨a,ha,_⟩
    ·have hpe:p=sTR (m30 kid) kid nm (vT z):=by simpa using hp
     rw[hpe,aRi] at h1;exact(gM (by decide)).2 (.inl ⟨kid,by simp,h1,by unfold gvN;rw[φ (by decide)];simp⟩)
    ·cases ha
   ·rw[mS,mS,φ (by decide),φ (by decide),mSs,mSs,mSs,mSs,mSb,mSa];have:=aXw hI J (σ:=σ) (m30 kid) kid (le_refl _) g1 nm (vT z) (UOk.var z);have:=yE (s:=nm) Z;omega
  ·rw[φ hnb];exact Y nm ks (fun _=>rfl) hq hPk (le_refl _)
 ·rw[φ (show ¬((Core.mk f n nm t ks bs al).form=7∧s∈pfR (Core.mk f n nm t ks bs al)) from hcl)];exact Y nm ks (fun _=>rfl) hq hPk (le_refl _)
theorem aU6 {sb:Core→Str→Core→Core}{f n:Int}{nm s:Str}{b:Core}{t:Ty}{ks:List Core}{al:List Alt}(h1:¬f=1) (h5:¬f=5) (h7:¬f=7) (h8:¬f=8) (hfw:aU Tryz.prog 81 [.pa (aB (.mk f n nm t ks [] al))] [] (B false) [])
  (hk:∀x∈ks,aU Tryz.prog 33 [.pa (aB x),Go.AM.T s,.pa (aB b)] [] (.pa (aB (sb x s b))) []) (hkl:ks.length≤500000000000) (hal0:al.length≤500000000000)
  (ha:∀a∈al,aU Tryz.prog 82 [aY a.vars,iF [a.body],Go.AM.T s,.pa (aB b)] [] (.tup [aY (bX sb s b a.vars [a.body]).1,iF (bX sb s b a.vars [a.body]).2]) []):
  aU Tryz.prog 33 [.pa (aB (.mk f n nm t ks [] al)),Go.AM.T s,.pa (aB b)] [] (.pa (aB (.mk f n nm t (ks.map fun x=>sb x s b) [] (al.map (jL sb s b))))) []:=by
 have Y:(aM ks).length=ks.length:=by rw[aR,θ]
 have Z:(bS al).length=al.length:=by rw[bQ,θ]
 refine bO (n:=228) tok Tryz.func33 rfl rfl rfl ?_;refine sg rfl (a8 (sgh [(1,.pc (B false))] rfl (aA rfl nofun (fun _=>aD (a8 (sg rfl (aC (sg rfl (aA rfl (fun hb=>absurd (ψ hb) h1) (fun _=>sg rfl (aA rfl (fun hb=>absurd (ψ hb) h5) (fun _=>sg rfl (aA rfl (fun hb=>absurd (ψ hb) h7) (fun _=>sg rfl (aA rfl (fun hb=>absurd (ψ hb) h8) (fun _=>aD (sg rfl (AWp.sub (Sub.own (t:=18) (id:=500) 37 10 rfl rfl) ?_))))))))))))))))));refine a8 (sg rfl (aC ?_))
 let C0:List R:=[.c (.int .i64 f),.c (.int .i64 n),.c (.str nm),.c (.int .i64 t.form),.c (.int .i64 t.n),.c (.str t.name),.c (.sl 4 (gD t))]
 refine aL (fun i:Nat=>mk [(1,Go.AM.T s),(3,.one (.vp 3 0)),(5,.one (.vp 5 0)),(6,.one (.vp 6 0)),(18,.one (.hs 500 0 i i)),(19,I .i64 i)]
  [(3,.var 37 (C0++[.c (.sl 10 (aM ks)),.c (.sl 15 (aS [])),.c (.sl 14 (bS al))])),(5,.var 37 (bA b)),(6,.var 37 bL),(500,.arr 37 10 ((ks.take i).map fun x=>aB (sb x s b)) 0)]) (fun i=>i≤ks.length) (fun i=>ks.length-i) 0 (Aj _) sl ?_
 intro i hi;refine a8 (sg rfl (aA rfl (fun hb=>?_) (fun hb=>?_)))
 ·have J:i<ks.length:=ltD hb Y;obtain⟨x,N⟩:=aJ J;have hki':=dG N;have he:=hk x (η N);have q:=eC (fun x=>aB (sb x s b)) N;exact aD (a8 (aC (ag [(4,.row i (aB x)),(8,.pc (.pa (aB (sb x s b)))),(9,.all)] rfl (ag [] rfl ⟨i+1,J,by dsimp only;omega,sl⟩))))
 have O:i=ks.length:=geD hb Y hi;subst O;have aa:(ks.take ks.length).map (fun x=>aB (sb x s b))=aM (ks.map fun x=>sb x s b):=by rw[An,aR,A1];rfl
 rw[aa];refine aO (AWp.sub (Sub.freeze (id:=500) rfl) ?_);refine sg rfl (sg rfl (AWp.sub (Sub.own (t:=20) (id:=502) 88 14 rfl rfl) ?_));refine a8 (sg rfl (aC ?_))
 refine aL (fun i:Nat=>mk [(1,Go.AM.T s),(3,.one (.vp 3 0)),(5,.one (.vp 5 0)),(6,.one (.vp 6 0)),(20,.one (.hs 502 0 i i)),(21,I .i64 i)]
  [(3,.var 37 (C0++[.hs 500 0 ks.length ks.length,.c (.sl 15 (aS [])),.c (.sl 14 (bS al))])),(5,.var 37 (bA b)),(6,.var 37 bL),(500,.arr 37 10 (aM (ks.map fun x=>sb x s b)) 2),(502,.arr 88 14 ((al.take i).map fun a=>c7 (jL sb s b a)) 0)]) (fun i=>i≤al.length) (fun i=>al.length-i) 0 (Aj _) sl ?_
 intro j hj;refine a8 (sg rfl (aA rfl (fun hb=>?_) (fun hb=>?_)))
 ·have J:j<al.length:=ltD hb Z;obtain⟨a,W⟩:=aJ J;have hai':=iU W;have ab:=ha a (η W);have q:=eC (fun a:Alt=>c7 (jL sb s b a)) W;obtain⟨g1,g2⟩:=mH (sb:=sb) (s:=s) (b:=b) (ns:=a.vars) (ps:=[a.body]);have ad:jL sb s b a=.mk a.form a.n a.name (bX sb s b a.vars [a.body]).1 ((bX sb s b a.vars [a.body]).2.headD a.body):=rfl;obtain⟨af,an,anm,av,ac⟩:=a;dsimp only[Alt.body,Alt.form,Alt.n,Alt.name,Alt.vars] at *;rw[ad] at q;generalize bX sb s b av [ac]=r at *;obtain⟨o1,o2⟩:=r;dsimp only at *;obtain⟨c',rfl⟩:∃c',o2=[c']:=Bk.1 g2;have q:(al.take j).map (fun a=>c7 (jL sb s b a))++[c7 (.mk af an anm o1 c')]=(al.take (j+1)).map fun a=>c7 (jL sb s b a):=q
  refine aD (a8 (aC (sgh [(3,.row j (c7 (.mk af an anm av ac)))] rfl (skh 7 [(4,.all)] rfl (kc ab ?_)))));exact kz 5 rfl (sg rfl (sgh [(1,.row 0 (aB c'))] rfl (ag [(2,.all)] rfl (ag [] rfl ⟨j+1,J,by dsimp only;omega,sl⟩))))
 have O:j=al.length:=geD hb Z hj;subst O;have hAs:(al.take al.length).map (fun a=>c7 (jL sb s b a))=bS (al.map (jL sb s b)):=by rw[An,bQ,A1];rfl
 rw[hAs];refine aO (AWp.sub (Sub.freeze (id:=502) rfl) ?_);refine sg rfl (sg rfl ?_);have h1:ks.length=(aM (ks.map fun x=>sb x s b)).length:=by rw[aR,θ,θ]
 have h3:al.length=(bS (al.map (jL sb s b))).length:=by rw[bQ,θ,θ]
 exact aI (rtC trw)
theorem aB3 {X:Nat}(j:Nat):∀(c:Core) (s:Str) (b:Core),cE (QL X) c→¬s∈pfR c→cB (j+1) c s b=c
 | .mk f n nm t ks bs al,s,b,hw,hs=>by
  rw[cB,φ (fun h:(Core.mk f n nm t ks bs al).form=7∧s∈pfR (Core.mk f n nm t ks bs al)=>hs h.2)];by_cases h1:f=1
  ·obtain⟨rfl,rfl,rfl⟩:=q9 hw h1;have I:¬nm=s:=fun h=>hs (by rw[pfR,ξ h1,h];exact ζ)
   rw[φ (fun h:(Core.mk f n nm t [] [] []).form=1∧(Core.mk f n nm t [] [] []).name=s=>I h.2),oM];unfold zNm zKs zBs;rw[φ (show ¬f=5 by omega)];have q:bX (cB j) s b (gvN f nm []) ([]++([]:List Bind).map Bind.body)=(gvN f nm [],[]):=by
    unfold bX;rw[φ]
    ·rfl
    ·exact fun h=>by cases h.1
   rw[q];rfl
  ·rw[φ (fun h:(Core.mk f n nm t ks bs al).form=1∧_=>h1 h.1),oM];unfold zNm zKs zBs;have q:bX (cB j) s b (gvN f nm bs) (ks++bs.map Bind.body)=(gvN f nm bs,ks++bs.map Bind.body):=by
    unfold bX;rw[φ];exact fun h=>hs (aT0 h1 h.1 h.2)
   rw[q];have J:al.map (jL (cB j) s b)=al:=by
    conv=>rhs;rw[←List.map_id al]
    refine A6 fun a ha=>?_
    have N:bX (cB j) s b a.vars [a.body]=(a.vars,[a.body]):=by
     unfold bX;rw[φ];exact fun h=>hs (aXn h1 ha (by simpa using h.1) h.2)
    unfold jL;rw[N];cases a;rfl
   rw[J];dsimp only;rw[take_left,drop_left];by_cases h5:f=5
   ·obtain⟨_,rfl,rfl⟩:=cO hw (.inl h5);rw[ξ h5];have:(gvN f nm []).headD nm=nm:=by unfold gvN;rw[ξ h5];rfl
    rw[this];rfl
   ·rw[φ h5];have:gvN f nm bs=bs.map Bind.name:=by unfold gvN;rw[φ h5,Bd]
    rw[this,aFc]
theorem aOj {X k:Nat}{c:Core}{s:Str}{b:Core}(hk:m30 c≤k) (h:cE (QL X) c) (hs:¬s∈pfR c):cB k c s b=c:=by
 obtain⟨j,rfl⟩:∃j,k=j+1:=⟨k-1,by have:=dF c;omega⟩
 exact aB3 j c s b h hs
theorem aYu (hI:cQ 540000000000) {D M X:Nat}(N:M+D≤700000) (hX:31≤X):∀(k:Nat) (c:Core),m30 c≤k→CG D M X c→∀(s:Str) (b:Core),CG D M X b→aU Tryz.prog 33 [.pa (aB c),Go.AM.T s,.pa (aB b)] [] (.pa (aB (cB k c s b))) []:=by
 intro k
 induction k with
 | zero=>intro c h;have:=dF c;omega
 | succ k ih=>
 intro c h hc s b hb;have hcs:=bV c;have hbs:=bV b;have hsz:=hc.sz;have hszb:=hb.sz;have hBig:Big=250000000000:=rfl;have hpfb:=j0 b;have hpfc:=j0 c;have I:=aY6 c;rw[aR8 hc.q] at I;have O:=y3 c hc.q (by omega);have hfreeb:=y3 b hb.q (by omega);obtain⟨hbty,hbtl⟩:=hb.types N;have hm31:=dF c;obtain⟨f,n,nm,t,ks,bs,al⟩:=c;have hq:=hc.q;obtain⟨⟨hok,_⟩,_⟩:=aT.1 hq;rw[θ,θ] at hok
 let P:Core→Prop:=fun x=>m30 x<m30 (.mk f n nm t ks bs al)∧CG D M X x
 have hz:∀p m z,P p→z.length≤30→P (cB k p m (vC z)):=fun p m z hp hzl=>by
  have h1:=sS hI N hX k p (by have:=hp.1;omega) hp.2 m (vC z) (CG.vC hzl hX);have h2:=h1.r0 hzl;exact⟨Cu h2.sz hp.1,h2.cg hp.2 h1.rx.q⟩
 have Z:∀p,P p→∀n' b',CG D M X b'→aU Tryz.prog 33 [.pa (aB p),Go.AM.T n',.pa (aB b')] [] (.pa (aB (cB k p n' b'))) []:=fun p hp n' b' hb'=>ih p (by have:=hp.1;omega) hp.2 n' b' hb'
 have hOk:∀ps,(∀p∈ps,P p)→RdOk (cB k) P s b ps:=fun ps hps=>⟨hps,fun p hp=>y3 p (hps p hp).2.q (by have:=bV p;have:=(hps p hp).1;omega),hfreeb,hz,fun p m z hp hzl=>Z p hp m _ (CG.vC hzl hX),fun p hp=>Z p hp s b hb⟩
 have hm:=hsz;rw[m30] at hm;have hbsb:=sE bs;have hksl:=xB ks;have hla:∀a∈al,(([a.body]:List Core).flatMap pfR).length+2*a.vars.length+(pfR b).length≤540000000000:=fun a ha=>by
  have h1:=i6 ha;have h2:=rG a.vars;have h3:=j0 a.body;simp only[B9,Cx,A0];omega
 rw[cB];by_cases h1:f=1
 ·subst h1;obtain⟨rfl,rfl,rfl⟩:=q9 hq rfl;have h:=aU9 (s:=s) (b:=b) I;by_cases hv:nm=s
  ·rw[ξ hv] at h;rw[ξ (show(Core.mk 1 n nm t [] [] []).form=1∧(Core.mk 1 n nm t [] [] []).name=s from⟨rfl,hv⟩)];exact h
  ·rw[φ hv] at h;have e:=aB3 k (.mk 1 n nm t [] [] []) s b hq (by rw[pfR,ξ rfl];simpa using fun h=>hv h.symm);rw[cB] at e;rw[e];exact h
 rw[φ (show ¬((Core.mk f n nm t ks bs al).form=1∧(Core.mk f n nm t ks bs al).name=s) from fun h=>h1 h.1)];by_cases h7:f=7
 ·subst h7;obtain⟨⟨kid,rfl⟩,rfl,rfl⟩:=cO hq (.inr (.inr rfl));obtain⟨g1,g2,g3⟩:=hc.kid (x:=kid) ζ;rw[ξ rfl] at g2;by_cases hin:s∈pfR (.mk 7 n nm t [kid] [] [])
  ·rw[ξ (show(Core.mk 7 n nm t [kid] [] []).form=7∧_ from⟨rfl,hin⟩),aHq];have J:∀W,gvN 7 W []=[]:=fun W=>by unfold gvN;rw[φ (by decide)];rfl
   have hink:s∈pfR kid:=by
    rw[pfR,φ (by decide),jK,jK,kD,jD,J,aEy,jF] at hin;rcases hin with h | h
    ·cases h
    ·exact h.1
   have easm:∀W k1,s∈pfR k1→oM (cB k) s b (.mk 7 n W t [k1] [] [])=.mk 7 n W t [cB k k1 s b] [] []:=fun W k1 hk1=>by
    rw[oM];unfold zNm zKs zBs;rw[J,φ (by decide)];have e:bX (cB k) s b [] ([k1]++([]:List Bind).map Bind.body)=([],[cB k k1 s b]):=by
     unfold bX;rw[ξ ⟨by simpa using hk1,by simp⟩];rfl
    rw[e];rfl
   have hTk:=sW N g1;have hTl:=g1.sc;have hTb:=sW N hb;have hTbO:=aHs N hb;have efm:[kid].flatMap tyR=tyR kid:=by simp
   by_cases hnb:nm∈tyR b
   ·rw[ξ hnb,efm,Am,Bs];have hz30:(aZ (tyR b++tyR kid)).length≤30:=jO _ (by rw[ω];omega);generalize hze:aZ (tyR b++tyR kid)=z at hz30;have Y:=tQ hI N (m30 kid) kid (le_refl _) g1 nm (vT z) (UOk.var z);have hR1:=aYv hI N (m30 kid) kid (le_refl _) g1 nm (vT z) (UOk.var z) (by show tW fD (.mk 2 0 z []) r0≤_;rw[tW,ξ rfl];exact Aj _);have hkid1:CG D M X (sTR (m30 kid) kid nm (vT z)):=by
     refine⟨Y.q,?_,?_,le_trans Y.sz g1.sz⟩
     ·have:=Y.cw fD 0 r0;have e:tW fD (vT z) r0=0:=rfl;rw[e,yQ] at this;exact le_trans this g1.dep
     ·have h1:=dD (a:=z::tyR kid) (c:=sTR (m30 kid) kid nm (vT z)) fun x hx=>by
       rcases Y.ty x hx with h | h
       ·exact κ _ h
       ·rw[yL] at h;rw[Aa.1 h];exact ζ
      rw[Ag] at h1;have h2:=Y.tl;omega
    have hR2:=ih (sTR (m30 kid) kid nm (vT z)) (by have:=Y.sz;omega) hkid1 s b hb;rw[easm _ _ (by rw[aRi];exact hink)];exact aGa I O (by omega) hin hTb hTbO hTk (by omega) (by omega) (fun _=>⟨hze.symm,hR1⟩) (fun h=>absurd hnb h) hR2
   ·rw[φ hnb,easm _ _ hink];have hR2:=ih kid (by omega) g1 s b hb;exact aGa I O (by omega) hin hTb hTbO hTk (by omega) (by omega) (fun h=>absurd h hnb) (fun _=>⟨rfl,rfl⟩) hR2
  ·have e:=aB3 k (.mk 7 n nm t [kid] [] []) s b hq hin;rw[cB,φ (show ¬((Core.mk 7 n nm t [kid] [] []).form=1∧_) from fun h=>h1 h.1)] at e;rw[e];exact aP8 I O (by omega) hin
 rw[φ (show ¬((Core.mk f n nm t ks bs al).form=7∧s∈pfR (Core.mk f n nm t ks bs al)) from fun h=>h7 h.1)];have hP1:∀x∈ks,P x:=fun x hx=>⟨(hc.kid hx).2.2,(hc.kid hx).1⟩
 have hP2:∀x∈bs,P x.body:=fun x hx=>⟨(hc.bind hx).2,(hc.bind hx).1⟩
 have hP3:∀x∈al,P x.body:=fun x hx=>⟨(hc.alt hx).2,(hc.alt hx).1⟩
 have hPs:∀p∈ks++bs.map Bind.body,P p:=fun p hp=>by
  rcases χ.1 hp with hp | hp
  ·exact hP1 p hp
  ·obtain⟨x,hx,rfl⟩:=Ad.1 hp;exact hP2 x hx
 have hfm:=aFw (ks++bs.map Bind.body);rw[qQ] at hfm;have hgv:=aCp (f:=f) (nm:=nm) (bs:=bs);have hg:=aAu (ns:=gvN f nm bs) (hOk _ hPs) (by omega) (by rw[ω,θ];omega);obtain⟨l1,l2⟩:=mH (sb:=cB k) (s:=s) (b:=b) (ns:=gvN f nm bs) (ps:=ks++bs.map Bind.body);rw[oM];unfold zNm zKs zBs;by_cases h5:f=5
 ·subst h5;obtain⟨⟨kid,rfl⟩,rfl,rfl⟩:=cO hq (.inl rfl);have J:gvN 5 nm []=[nm]:=by unfold gvN;rw[ξ rfl];rfl
  rw[J] at hg l1 l2 ⊢;have hg:aU Tryz.prog 82 [aY [nm],iF [kid],Go.AM.T s,.pa (aB b)] [] (.tup [aY (bX (cB k) s b [nm] ([kid]++([]:List Bind).map Bind.body)).1,iF (bX (cB k) s b [nm] ([kid]++([]:List Bind).map Bind.body)).2]) []:=hg;generalize bX (cB k) s b [nm] ([kid]++([]:List Bind).map Bind.body)=r at *;obtain⟨r1,r2⟩:=r;obtain⟨W,rfl⟩:∃x,r1=[x]:=Bk.1 l1;obtain⟨kid',rfl⟩:∃x,r2=[x]:=Bk.1 (by simpa using l2);exact aU8 I hg
 by_cases h8:f=8
 ·subst h8;unfold okF at hok;rw[φ (by decide),φ (by decide),ξ rfl] at hok;obtain⟨hk1,ha1⟩:=ψ hok;obtain rfl:=A4 ha1;obtain⟨kid,rfl⟩:=Bk.1 hk1;have J:gvN 8 nm bs=bs.map Bind.name:=by unfold gvN;rw[φ (by decide),Bd]
  rw[J] at hg l1 l2 ⊢;have hg:aU Tryz.prog 82 [aY (bs.map Bind.name),iF (kid::bs.map Bind.body),Go.AM.T s,.pa (aB b)] [] (.tup [aY (bX (cB k) s b (bs.map Bind.name) ([kid]++bs.map Bind.body)).1,iF (bX (cB k) s b (bs.map Bind.name) ([kid]++bs.map Bind.body)).2]) []:=hg;generalize bX (cB k) s b (bs.map Bind.name) ([kid]++bs.map Bind.body)=r at *;obtain⟨r1,r2⟩:=r;dsimp only at l1 l2 hg ⊢;rw[θ] at l1;simp only[ω,Ag,length_nil,θ] at l2;cases r2 with
  | nil=>simp at l2;omega
  | cons kid' ps'=>
   have hbl:bs.length≤500000000000:=by omega
   have hp2:ps'.length=bs.length:=by
    simp only[Ag] at l2;omega
   exact aU7 I hg l1 hp2 hbl
 have hbs0:bs=[]:=by
  refine A4 ?_;unfold okF at hok;split at hok
  ·exact(ψ hok).2.1
  ·split at hok
   ·exact(ψ hok).2.1
   ·split at hok
    ·exact(ψ hok).2
    ·exact(ψ hok).2.1
 subst hbs0;have J:gvN f nm []=[]:=by unfold gvN;rw[φ h5];rfl
 rw[J,φ h5];have ek:(bX (cB k) s b [] (ks++([]:List Bind).map Bind.body)).2.take ks.length=ks.map fun x=>cB k x s b:=by
  rw[Bs,A0];unfold bX;by_cases hp:zA s [] ks
  ·rw[ξ hp];show(ks.map fun p=>cB k p s b).take ks.length=_;rw[Bb (by rw[θ];exact le_refl _)]
  ·rw[φ hp];show ks.take ks.length=_;rw[An]
   conv=>lhs;rw[←List.map_id ks]
   refine A6 fun x hx=>?_
   refine(aOj (k:=k) (by have:=(hP1 x hx).1;omega) (hP1 x hx).2.q fun hin=>hp ⟨Cb.2 ⟨x,hx,hin⟩,by simp⟩).symm
 rw[ek];have eb:mkB (([]:List Bind).map Bind.ty) (bX (cB k) s b [] (ks++([]:List Bind).map Bind.body)).1 ((bX (cB k) s b [] (ks++([]:List Bind).map Bind.body)).2.drop ks.length)=[]:=rfl;rw[eb];have hall:=aFk al;exact aU6 h1 h5 h7 h8 I (fun x hx=>Z x (hP1 x hx) s b hb) (by omega) (by omega) fun a ha=>aAu (hOk _ fun p hp=>by rw[Aa.1 hp];exact hP3 a ha) (hla a ha) (by simp)
def uD {α:Type}(L:List α) (i:Nat):List α:=L.reverse.take i++((L.drop i).take (L.length-2*i)++L.reverse.drop (L.length-i))
section
variable {α:Type}{L:List α}{i:Nat}
theorem wM (h:2*i≤L.length) (k:Nat):(uD L i)[k]?=if k<i then L.reverse[k]? else if k<L.length-i then L[k]? else L.reverse[k]?:=by
 have h1:(L.reverse.take i).length=i:=by rw[Au,List.length_reverse];omega
 have h2:((L.drop i).take (L.length-2*i)).length=L.length-2*i:=by rw[Au,Bx];omega
 unfold uD;by_cases hk:k<i
 ·rw[ξ hk,A9 (by omega),List.getElem?_take_of_lt hk]
 ·rw[φ hk,A3 (by omega),h1];by_cases q:k<L.length-i
  ·rw[ξ q,A9 (by omega),List.getElem?_take_of_lt (by omega),Ap];congr 1;omega
  ·rw[φ q,A3 (by omega),h2,Ap];congr 1;omega
theorem aEo (h:2*i≤L.length):(uD L i).length=L.length:=by
 unfold uD;simp only[ω,Au,List.length_reverse,Bx];omega
theorem aJl (h:2*i+1<L.length) {x y:α}(hx:(uD L i)[i]?=some x) (hy:(uD L i)[L.length-1-i]?=some y):((uD L i).set i y).set (L.length-1-i) x=uD L (i+1):=by
 refine Bt fun k=>?_
 have hl:=aEo (L:=L) (i:=i) (by omega);rw[wM (by omega)] at hx hy;rw[φ (by omega),ξ (by omega)] at hx hy;rw[List.getElem?_set,List.getElem?_set,B3,hl,wM (by omega),wM (by omega)];have q:∀j,j<L.length→L.reverse[j]?=L[L.length-1-j]?:=fun j hj=>List.getElem?_reverse hj
 by_cases h1:L.length-1-i=k
 ·subst h1;rw[ξ rfl,ξ (by omega),φ (by omega),φ (by omega),q _ (by omega),←hx];congr 1;omega
 ·rw[φ h1];by_cases h2:i=k
  ·subst h2;rw[ξ rfl,ξ (by omega),ξ (by omega),q _ (by omega),←hy]
  ·rw[φ h2];by_cases h3:k<i
   ·rw[ξ h3,ξ (by omega)]
   ·rw[φ h3,φ (show ¬k<i+1 by omega)];by_cases h4:k<L.length-(i+1)
    ·rw[ξ (by omega),ξ h4]
    ·rw[φ (show ¬k<L.length-i by omega),φ h4]
theorem aOp (h:2*i≤L.length) (h2:L.length≤2*i+1):uD L i=L.reverse:=by
 refine Bt fun k=>?_
 rw[wM h];have q:∀j,j<L.length→L.reverse[j]?=L[L.length-1-j]?:=fun j hj=>List.getElem?_reverse hj
 by_cases h3:k<i
 ·rw[ξ h3]
 ·rw[φ h3];by_cases h4:k<L.length-i
  ·rw[ξ h4,q k (by omega)];congr 1;omega
  ·rw[φ h4]
theorem aJk:uD L 0=L:=by unfold uD;simp
end
theorem aMl (L:List Core) (hL:L.length≤570000000000):aU Tryz.prog 103 [.one (.hs 720 0 L.length L.length)] [(720,.arr 37 10 (L.map aB) 0)] (.tup []) [(720,.arr 37 10 (L.reverse.map aB) 0)]:=by
 have aa:(L.map aB).length=L.length:=θ _;refine bO (n:=28) tok Tryz.func103 rfl rfl rfl ?_;refine sg rfl (aC (aL (fun i:Nat=>mk [(0,.one (.hs 720 0 L.length L.length)),(2,I .i64 i),(3,I .i64 ((L.length:Int)-1-i))] [(720,.arr 37 10 ((uD L i).map aB) 0)]) (fun i=>2*i≤L.length) (fun i=>L.length-i) 0 (Aj _) (sl (he:=⟨rfl,rfl,by show some (I .i64 _)=some (I .i64 _);congr 2;simp,trivial⟩) (hh:=⟨⟨_,rfl,.arrS (by rw[aJk])⟩,trivial⟩)) ?_));intro i hi;have J:=aEo (L:=L) hi;have N:((uD L i).map aB).length=L.length:=by rw[θ,J]
 refine a8 (sg rfl (aA rfl (fun hb=>?_) (fun hb=>?_)))
 ·have ab:(i:Int)<(L.length:Int)-1-i:=ψ hb;obtain⟨x,hx⟩:=aJ (l:=uD L i) (k:=i) (by omega);obtain⟨y,hy⟩:=aJ (l:=uD L i) (k:=L.length-1-i) (by omega);have O:=aJl (by omega) hx hy;have ac:=bM aB hx;have W:=bM aB hy;have Z:(L.length:Int)-1-i=((L.length-1-i:Nat):Int):=by omega
  have Y:i≠L.length-1-i:=by omega
  have hj:L.length-1-i<L.length:=by omega
  have ad:i<L.length:=by omega
  have ae:(((uD L i).map aB).set i (aB y))[L.length-1-i]?=some (aB y):=by rw[List.getElem?_set_ne Y];exact W
  have q:(((uD L i).map aB).set i (aB y)).set (L.length-1-i) (aB x)=(uD L (i+1)).map aB:=by rw[←O,map_set,map_set]
  have ah:(((uD L i).map aB).set i (aB y)).length=L.length:=by rw[B3,N]
  refine aD (AWp.sub (st2:=mk [(0,.one (.hs 720 0 L.length L.length)),(2,I .i64 i),(3,I .i64 ((L.length-1-i:Nat):Int))] [(720,.arr 37 10 ((uD L i).map aB) 0)]) (sl (he:=⟨rfl,rfl,congrArg (fun x=>some (I .i64 x)) Z,trivial⟩)) ?_);generalize L.length-1-i=j at *;refine a8 (aC (ag [(7,.row j (aB y)),(11,.row i (aB x)),(13,.row i (aB x)),(15,.row j (aB y))] rfl (ag [] rfl ⟨i+1,by omega,by dsimp only;omega,sl (he:=⟨rfl,rfl,?_,trivial⟩) (hh:=⟨⟨_,rfl,.arrS q⟩,trivial⟩)⟩)));show some (I .i64 ((j:Int)-1))=some (I .i64 ((L.length:Int)-1-((i+1:Nat):Int)));congr 2;omega
 ·have ai:¬(i:Int)<(L.length:Int)-1-i:=δ hb;rw[aOp hi (by omega)];exact aO ⟨.inl rfl,⟨_,_,.nil,.nil,rfl⟩,⟨⟨_,rfl,.arr⟩,trivial⟩,rfl⟩
end Go.Proofs.YtockgoadliilhaaGreatDoor
