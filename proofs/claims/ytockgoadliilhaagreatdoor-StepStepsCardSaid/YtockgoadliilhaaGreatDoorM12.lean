/-
  Texts Lr7 to Ly7 in one.
-/
import Derived.Test.YtockgoadliilhaaGreatDoorM11
open List (append_nil drop_left eq_nil_of_length_eq_zero flatMap_append flatMap_cons flatMap_nil length_append length_cons length_drop length_eq_one_iff length_map length_nil length_set length_take map_append map_congr_left map_cons map_id map_map map_nil map_set mem_append mem_cons mem_cons_of_mem mem_cons_self mem_flatMap mem_map mem_of_mem_drop mem_of_mem_take mem_singleton nil_append nodup_nil sum_cons sum_nil take_append_drop take_left take_length take_of_length_le)
open Nat (add_mul add_zero le_add_left le_antisymm le_max_left le_max_right le_mul_of_pos_right le_of_eq le_of_not_lt le_refl le_trans lt_of_le_of_lt min_eq_left mul_le_mul_right mul_one zero_add zero_le)
namespace Go.Proofs.YtockgoadliilhaaGreatDoor
open Go Go.AM
set_option maxRecDepth 20000
set_option maxHeartbeats 4000000
theorem aCh {l l':List Str}(h:∀x,x∈l↔x∈l'):eI l=eI l':=by
 refine le_antisymm (le_of_not_lt fun u=>?_) (le_of_not_lt fun u=>?_)
 ·exact fY l' ((h _).1 (iU l u))
 ·exact fY l ((h _).2 (iU l' u))
theorem aCg {l l':List Str}(h:∀x,x∈l↔x∈l'):bA l=bA l':=by unfold bA;rw[aCh h]
theorem rC {sb:Core→Str→Core→Core}{far:List Str}:∀(ns:List Str) (a:List Str) (q:List Core) (t t':List Str),(∀x,x∈t↔x∈t')→(jB sb far ns (a,q,t)).1=(jB sb far ns (a,q,t')).1∧(jB sb far ns (a,q,t)).2.1=(jB sb far ns (a,q,t')).2.1
 | [],_,_,_,_,_=>⟨rfl,rfl⟩
 | n::ns,a,q,t,t',h=>by
  show(jB sb far ns (dS sb far (a,q,t) n)).1=(jB sb far ns (dS sb far (a,q,t') n)).1∧(jB sb far ns (dS sb far (a,q,t) n)).2.1=(jB sb far ns (dS sb far (a,q,t') n)).2.1;unfold dS;by_cases hn:n∈far
  ·rw[ξ hn,ξ hn];dsimp only;rw[aCg h];exact rC ns _ _ _ _ fun x=>by rw[τ,τ,h x]
  ·rw[φ hn,φ hn];dsimp only;exact rC ns _ _ _ _ h
noncomputable def rS (sb:Core→Str→Core→Core) (b:Core) (ns:List Str) (ps:List Core) (i:Nat):List Str×List Core×List Str:=jB sb (pfR b) (ns.take i) ([],ps,ps.flatMap pfR++pfR b++ns)
structure RdOk (sb:Core→Str→Core→Core) (P:Core→Prop) (s:Str) (b:Core) (ps:List Core):Prop where
 in_:∀p∈ps,P p
 free:∀p∈ps,aU Tryz.prog 83 [.pa (aB p)] [] (aV (pfR p)) []
 far:aU Tryz.prog 83 [.pa (aB b)] [] (aV (pfR b)) []
 ren:∀p n z,P p→z.length≤30→P (sb p n (vC z))
 subz:∀p n z,P p→z.length≤30→aU Tryz.prog 33 [.pa (aB p),Go.AM.T n,.pa (aB (vC z))] [] (.pa (aB (sb p n (vC z)))) []
 subb:∀p,P p→aU Tryz.prog 33 [.pa (aB p),Go.AM.T s,.pa (aB b)] [] (.pa (aB (sb p s b))) []
section
variable {sb:Core→Str→Core→Core}{b:Core}{ns:List Str}{ps:List Core}{i:Nat}{n:Str}
theorem aX6:rS sb b ns ps 0=([],ps,ps.flatMap pfR++pfR b++ns):=rfl
theorem aNe (h:ns[i]?=some n):rS sb b ns ps (i+1)=dS sb (pfR b) (rS sb b ns ps i) n:=aCf h
theorem aNf (hi:i≤ns.length):(rS sb b ns ps i).1.length=i∧(rS sb b ns ps i).2.1.length=ps.length∧(rS sb b ns ps i).2.2.length≤(ps.flatMap pfR).length+(pfR b).length+ns.length+i:=by
 obtain⟨h1,h2,h3⟩:=sV (sb:=sb) (far:=pfR b) (ns:=ns.take i) (st:=([],ps,ps.flatMap pfR++pfR b++ns));rw[Ar,Cd hi] at h1 h3;rw[κ,κ] at h3;exact⟨by unfold rS;simpa using h1,h2,h3⟩
theorem a6n {P:Core→Prop}{s:Str}(h:RdOk sb P s b ps) (hl:(ps.flatMap pfR).length+2*ns.length+(pfR b).length≤540000000000):∀{i:Nat},i≤ns.length→∀p∈(rS sb b ns ps i).2.1,P p
 | 0,_=>h.in_
 | i+1,hi=>by
  obtain⟨n,hn⟩:=aJ (show i<ns.length by omega);have u:=a6n h hl (i:=i) (by omega);obtain⟨_,_,g3⟩:=aNf (sb:=sb) (b:=b) (ps:=ps) (show i≤ns.length by omega);rw[aNe hn];intro p hp;unfold dS at hp;split at hp
  ·obtain⟨J,I,rfl⟩:=Af.1 hp;exact h.ren _ _ _ (u J I) (kH _ (by omega))
  ·exact u p hp
theorem a13 {s:Str}(h:sB s ns ps):cE sb s b ns ps=((rS sb b ns ps ns.length).1,(rS sb b ns ps ns.length).2.1.map fun p=>sb p s b):=by
 unfold cE rS;rw[ξ h,Al];obtain⟨h1,h2⟩:=rC (sb:=sb) (far:=pfR b) ns [] ps (ps.flatMap pfR++ns++pfR b) (ps.flatMap pfR++pfR b++ns) fun x=>by simp only[τ];exact or_right_comm
 rw[h1,h2]
end
theorem aZc (z:Str):aU Tryz.prog 118 [Go.AM.T z] [] (.pa (aB (vC z))) []:=by
 refine bQ (n:=5) tok Tryz.func118 rfl rfl rfl ?_;exact sg rfl (sg rfl (aE (rtC trw)))
def iV (l:List Core):V:=.one (.c (.sl 10 (aO l)))
theorem aCy {sb:Core→Str→Core→Core}{P:Core→Prop}{s:Str}{b:Core}{ns:List Str}{ps:List Core}(ho:RdOk sb P s b ps) (hl:(ps.flatMap pfR).length+2*ns.length+(pfR b).length≤540000000000) (hpl:ps.length≤500000000000):
  aU Tryz.prog 82 [aV ns,iV ps,Go.AM.T s,.pa (aB b)] [] (.tup [aV (cE sb s b ns ps).1,iV (cE sb s b ns ps).2]) []:=by
 have hkP:(aO ps).length=ps.length:=by rw[aR,θ]
 have hkN:(ns.map b6).length=ns.length:=θ _;have hfl:∀i,((ps.take i).flatMap pfR).length≤(ps.flatMap pfR).length:=fun i=>by
  conv=>rhs;rw[←take_append_drop i ps]
  rw[Cj,κ];omega
 refine bQ (n:=128) tok Tryz.func82 rfl rfl rfl ?_;refine sg rfl (sg rfl (AWp.sub (Sub.own (t:=10) (id:=600) 9 1 rfl rfl) (AWp.sub (Sub.freeze (id:=600) rfl) ?_)));refine sg rfl (a8 (sg rfl (aC ?_)))
 refine aK (fun i:Nat=>mk [(0,aV ns),(1,iV ps),(2,Go.AM.T s),(7,.one (.vp 7 0)),(10,.one (.hs 600 0 ((ps.take i).flatMap pfR).length ((ps.take i).flatMap pfR).length)),(11,B (decide (s∈(ps.take i).flatMap pfR))),(12,I .i64 i)]
  [(7,.var 37 (aW b)),(600,.arr 9 1 (((ps.take i).flatMap pfR).map b6) 2)]) (fun i=>i≤ps.length) (fun i=>ps.length-i) 0 (Ag _) sl ?_
 intro i hi;refine a8 (sg rfl (aA rfl (fun hb=>?_) (fun hb=>?_)))
 ·have N:=ltD hb hkP;obtain⟨p,hp⟩:=aJ N;have hp':=dB hp;have hpm:=η hp;have hfp:=ho.free p hpm;have J:(ps.take (i+1)).flatMap pfR=(ps.take i).flatMap pfR++pfR p:=by rw[eO hp,Cj];simp
  have hl1:=hfl (i+1);rw[J,κ] at hl1;have hq1:(((ps.take i).flatMap pfR).map b6).length=((ps.take i).flatMap pfR).length:=θ _;have hq2:((pfR p).map b6).length=(pfR p).length:=θ _;have hct:=kX (pfR p) s (by unfold Fits;omega);have Z:decide (s∈(ps.take (i+1)).flatMap pfR)=(decide (s∈(ps.take i).flatMap pfR) || decide (s∈pfR p)):=by rw[J];simp
  generalize (ps.take i).flatMap pfR=q at J Z hl1 hq1 ⊢;generalize pfR p=fp at hfp J Z hl1 hq2 hct ⊢;refine aD (a8 (aC (sgh [(2,.row i (aB p)),(4,.pc (aV fp))] rfl (sg rfl (AWp.sub (Sub.freeze (id:=600) rfl) ?_)))));by_cases hin:s∈q
  ·have e1:decide (s∈q)=true:=Ad hin;rw[e1,Bool.true_or] at Z;refine ag [(1,.bv true),(5,.bv true)] rfl (ag [] rfl ⟨i+1,N,by dsimp only;omega,?_⟩);dsimp only;rw[Z,J];exact sl
  ·have e1:decide (s∈q)=false:=Ae hin;rw[e1,Bool.false_or] at Z;refine aI mixed (ak 4 [(1,.bv false)] rfl (kcG hct ?_ (hw:=e1)));refine ak 2 [(5,.bv false)] rfl (az (ag [] rfl ⟨i+1,N,by dsimp only;omega,?_⟩));dsimp only;rw[Z,J];exact sl
 have O:=geD hb hkP hi;subst O;rw[Al];have hcn:=kX ns s (by unfold Fits;omega);have hq1:((ps.flatMap pfR).map b6).length=(ps.flatMap pfR).length:=θ _;have hq2:((pfR b).map b6).length=(pfR b).length:=θ _;have hfar:=ho.far;refine aL (a8 (a8 (agF 3 [(5,.pc (B (decide (s∈ns))))] rfl rfl rfl (aA rfl (fun hb=>?_) (fun hb=>?_)))))
 ·have hno:¬sB s ns ps:=fun h=>by
   unfold sB at h;simp[h.1,h.2] at hb
  have e:cE sb s b ns ps=(ns,ps):=by unfold cE;rw[φ hno]
  rw[e];exact sg rfl (aE ⟨.inr rfl,⟨_,_,.tmp rfl (.tmp rfl .nil),.cons .refl (.cons .refl .nil),rfl⟩,trivial,rfl⟩)
 have hyes:sB s ns ps:=by
  unfold sB;by_cases h1:s∈ps.flatMap pfR
  ·by_cases h2:s∈ns
   ·exfalso;simp[h1,h2] at hb
   ·exact⟨h1,h2⟩
  ·exfalso;simp[h1] at hb
 rw[a13 hyes];dsimp only;refine aD (sgh [(1,.pc (aV (pfR b)))] rfl (sg rfl (AWp.sub (Sub.freeze (id:=600) rfl) ?_)));refine sg rfl (AWp.sub (Sub.freeze (id:=600) rfl) ?_) (hc:=⟨by rw[κ];omega,⟨rfl,rfl⟩,κ.symm,trivial⟩);refine sg rfl (AWp.sub (Sub.own (t:=15) (id:=601) 9 1 rfl rfl) (AWp.sub (Sub.freeze (id:=601) rfl) ?_));refine a8 (sg rfl (aC ?_))
 refine aK (fun i:Nat=>mk [(0,aV ns),(1,iV (rS sb b ns ps i).2.1),(2,Go.AM.T s),(7,.one (.vp 7 0)),(10,.one (.hs 600 0 (rS sb b ns ps i).2.2.length (rS sb b ns ps i).2.2.length)),(14,aV (pfR b)),(15,.one (.hs 601 0 (rS sb b ns ps i).1.length (rS sb b ns ps i).1.length)),(16,I .i64 i)]
  [(7,.var 37 (aW b)),(600,.arr 9 1 ((rS sb b ns ps i).2.2.map b6) 2),(601,.arr 9 1 ((rS sb b ns ps i).1.map b6) 2)]) (fun i=>i≤ns.length) (fun i=>ns.length-i) 0 (Ag _) ?_ ?_
 ·rw[aX6];dsimp only;exact sl (he:=⟨rfl,rfl,rfl,rfl,Go.AM.hs_ren (by simp only[κ,θ]) (by simp only[κ,θ]),rfl,rfl,rfl,trivial⟩) (hh:=⟨⟨_,rfl,.var rfl⟩,⟨_,rfl,.arrS (by simp only[At])⟩,⟨_,rfl,.arrS rfl⟩,trivial⟩)
 intro i hi;obtain⟨g1,g2,g3⟩:=aNf (sb:=sb) (b:=b) (ps:=ps) hi;have aa:=a6n ho hl hi;refine a8 (sg rfl (aA rfl (fun hb=>?_) (fun hb=>?_)))
 ·have N:=ltD hb hkN;obtain⟨n,hn⟩:=aJ N;have hn':=bW b6 hn;have J:=aNe (sb:=sb) (b:=b) (ps:=ps) hn;generalize rS sb b ns ps i=st at g1 g2 g3 aa J ⊢;obtain⟨out,u,all⟩:=st;dsimp only at g1 g2 g3 aa J ⊢;have hk1:(out.map b6).length=out.length:=θ _;have hk2:(all.map b6).length=all.length:=θ _;have ab:(aO u).length=u.length:=by rw[aR,θ]
  have hcf:=kX (pfR b) n (by unfold Fits;omega);refine aD (a8 (aC ?_));by_cases hf:n∈pfR b
  ·rw[Ad hf] at hcf;have J:rS sb b ns ps (i+1)=(out++[bA all],u.map (fun p=>sb p n (vC (bA all))),all++[bA all]):=by rw[J];unfold dS;rw[ξ hf]
   have hFr:=v8 all (by omega);have hz30:(bA all).length≤30:=kH _ (by omega);generalize bA all=z at J hFr hz30;have hvz:=aZc z;refine a8 (sgh [(3,.row i (b6 n)),(5,.pc (B true))] rfl (aA rfl nofun (fun _=>aD (sgh [(1,.pc (Go.AM.T z))] rfl (sgh [(2,.all)] rfl (AWp.sub (Sub.freeze (id:=600) rfl) ?_))))));refine sgh [(2,.all)] rfl (AWp.sub (Sub.freeze (id:=601) rfl) ?_);refine sg rfl (AWp.sub (Sub.own (t:=18) (id:=602) 37 10 rfl rfl) ?_);refine a8 (sg rfl (aC ?_))
   refine aK (fun j:Nat=>mk [(0,aV ns),(1,iV u),(2,Go.AM.T s),(7,.one (.vp 7 0)),(10,.one (.hs 600 0 (all++[z]).length (all++[z]).length)),(14,aV (pfR b)),(15,.one (.hs 601 0 (out++[z]).length (out++[z]).length)),(16,I .i64 i),(17,Go.AM.T z),(18,.one (.hs 602 0 j j)),(19,I .i64 j)]
    [(7,.var 37 (aW b)),(600,.arr 9 1 ((all++[z]).map b6) 2),(601,.arr 9 1 ((out++[z]).map b6) 2),(602,.arr 37 10 ((u.take j).map fun p=>aB (sb p n (vC z))) 0)]) (fun j=>j≤u.length) (fun j=>u.length-j) 0 (Ag _) ?_ ?_
   ·exact sl (he:=⟨rfl,rfl,rfl,rfl,Go.AM.hs_ren (by simp) (by simp),rfl,Go.AM.hs_ren (by simp) (by simp),rfl,rfl,rfl,rfl,trivial⟩) (hh:=⟨⟨_,rfl,.var rfl⟩,⟨_,rfl,.arrS (by simp;rfl)⟩,⟨_,rfl,.arrS (by simp;rfl)⟩,⟨_,rfl,.arrS rfl⟩,trivial⟩)
   intro j hj;refine a8 (sg rfl (aA rfl (fun hb=>?_) (fun hb=>?_)))
   ·have Y:=ltD hb ab;obtain⟨p,hp⟩:=aJ Y;have hp':=dB hp;have hsz:=ho.subz p n z (aa p (η hp)) hz30;have hrows:=eC (fun p=>aB (sb p n (vC z))) hp;exact aD (a8 (aC (ag [(3,.row j (aB p)),(7,.row i (b6 n)),(10,.pc (.pa (aB (vC z)))),(11,.pc (.pa (aB (sb p n (vC z))))),(12,.all)] rfl (ag [] rfl ⟨j+1,Y,by dsimp only;omega,sl⟩))))
   have O:=geD hb ab hj;subst O;have hrw:(u.take u.length).map (fun p=>aB (sb p n (vC z)))=aO (u.map fun p=>sb p n (vC z)):=by rw[Al,aR,A8];rfl
   rw[hrw];have hrl:u.length=(aO (u.map fun p=>sb p n (vC z))).length:=by rw[aR,θ,θ]
   refine aL (AWp.sub (Sub.freeze (id:=602) rfl) ?_);refine ag [] rfl (ag [] rfl ⟨i+1,N,by dsimp only;omega,?_⟩);dsimp only;rw[J];refine Sub.trans ?_ (cv 1 (aO (u.map fun p=>sb p n (vC z))));exact sl
  ·rw[Ae hf] at hcf;have J:rS sb b ns ps (i+1)=(out++[n],u,all):=by rw[J];unfold dS;rw[φ hf]
   refine a8 (sgh [(3,.row i (b6 n)),(5,.pc (B false))] rfl (aA rfl (fun _=>sgh [(3,.row i (b6 n)),(5,.all)] rfl (AWp.sub (Sub.freeze (id:=601) rfl) ?_)) nofun));refine aL (ag [] rfl ⟨i+1,N,by dsimp only;omega,?_⟩);dsimp only;rw[J];exact sl
 have O:=geD hb hkN hi;subst O;generalize rS sb b ns ps ns.length=st at g1 g2 g3 aa ⊢;obtain⟨out,u,all⟩:=st;dsimp only at g1 g2 g3 aa ⊢;have ab:(aO u).length=u.length:=by rw[aR,θ]
 refine aL (sg rfl (AWp.sub (Sub.own (t:=20) (id:=603) 37 10 rfl rfl) ?_));refine a8 (sg rfl (aC ?_))
 refine aK (fun j:Nat=>mk [(1,iV u),(2,Go.AM.T s),(7,.one (.vp 7 0)),(15,.one (.hs 601 0 out.length out.length)),(20,.one (.hs 603 0 j j)),(21,I .i64 j)]
  [(7,.var 37 (aW b)),(601,.arr 9 1 (out.map b6) 2),(603,.arr 37 10 ((u.take j).map fun p=>aB (sb p s b)) 0)]) (fun j=>j≤u.length) (fun j=>u.length-j) 0 (Ag _) sl ?_
 intro j hj;refine a8 (sg rfl (aA rfl (fun hb=>?_) (fun hb=>?_)))
 ·have Y:=ltD hb ab;obtain⟨p,hp⟩:=aJ Y;have hp':=dB hp;have hsz:=ho.subb p (aa p (η hp));have hrows:=eC (fun p=>aB (sb p s b)) hp;exact aD (a8 (aC (ag [(3,.row j (aB p)),(7,.pc (.pa (aB (sb p s b)))),(8,.all)] rfl (ag [] rfl ⟨j+1,Y,by dsimp only;omega,sl⟩))))
 have O:=geD hb ab hj;subst O;have hrw:(u.take u.length).map (fun p=>aB (sb p s b))=aO (u.map fun p=>sb p s b):=by rw[Al,aR,A8];rfl
 rw[hrw];have hrl:u.length=(aO (u.map fun p=>sb p s b)).length:=by rw[aR,θ,θ]
 have hol:out.length=(out.map b6).length:=(θ _).symm;refine aL (AWp.sub (Sub.freeze (id:=603) rfl) ?_);exact sg rfl (aE ⟨.inr rfl,⟨_,_,.tmp rfl (.tmp rfl .nil),.cons (.one (.hs rfl hol (take_all hol) .nil)) (.cons (.one (.hs rfl hrl (take_all hrl) .nil)) .nil),rfl⟩,trivial,rfl⟩)
theorem aKr {D M X:Nat}(u:M+D≤700000) {c:Core}(hc:CG D M X c):aU Tryz.prog 84 [.pa (aB c)] [] (rV (tyR c)) [(900,rO (tyR c))]:=by
 have key:∀(k:Nat) (c:Core),m30 c≤k→aJj D M X c:=by
  intro k
  induction k with
  | zero=>intro c h;have:=dD c;omega
  | succ k I=>intro c h;exact aCq u c fun x hx=>I x (by omega)
 have J:Big=250000000000:=rfl;have h0:=key _ c (le_refl _) hc [] [] (tyR c) (by have:=hc.sz;simp;omega) (by have:=hc.sz;have:=hc.sc;omega) nodup_nil (fun x hx=>by cases hx) (fun x hx=>hx);rw[show inG []=fun _=>false from by funext x;simp[inG],uI (aXk c)] at h0;have h1:=aU.nilArg (pre:=[.pa (aB c),aV []]) (post:=[]) (hin:=[]) h0 rfl;refine bQ (n:=5) tok Tryz.func84 rfl rfl rfl ?_;refine sg rfl (sk 1 rfl (kc h1 ?_));exact kz 1 rfl (aE rtT)
section
variable {s:Str}{b:Core}{n:Int}{nm:Str}{t:Ty}
theorem aZm (u:aU Tryz.prog 81 [.pa (aB (.mk 1 n nm t [] [] []))] [] (B false) []):aU Tryz.prog 33 [.pa (aB (.mk 1 n nm t [] [] [])),Go.AM.T s,.pa (aB b)] [] (.pa (aB (if nm=s then b else .mk 1 n nm t [] [] []))) []:=by
 refine bQ (n:=228) tok Tryz.func33 rfl rfl rfl ?_;refine sg rfl (a8 (sgh [(1,.pc (B false))] rfl (aA rfl nofun (fun _=>aD (a8 (sg rfl (aC (sg rfl (aA rfl (fun _=>a8 (sg rfl (aA rfl (fun hb=>?_) (fun hb=>?_)))) nofun)))))))))
 ·have h:nm=s:=ψ hb;rw[ξ h];exact sg rfl (aE (rtC trw))
 ·have h:¬nm=s:=χ hb;rw[φ h];exact aD (sg rfl (aE (rtC trw)))
theorem aZl {u:Str}{kid I:Core}(N:aU Tryz.prog 81 [.pa (aB (.mk 5 n nm t [kid] [] []))] [] (B false) []) (J:aU Tryz.prog 82 [aV [nm],iV [kid],Go.AM.T s,.pa (aB b)] [] (.tup [aV [u],iV [I]]) []):
  aU Tryz.prog 33 [.pa (aB (.mk 5 n nm t [kid] [] [])),Go.AM.T s,.pa (aB b)] [] (.pa (aB (.mk 5 n u t [I] [] []))) []:=by
 refine bQ (n:=228) tok Tryz.func33 rfl rfl rfl ?_;refine sg rfl (a8 (sgh [(1,.pc (B false))] rfl (aA rfl nofun (fun _=>aD (a8 (sg rfl (aC (sg rfl (aA rfl nofun (fun _=>sg rfl (aA rfl (fun _=>skh 7 [(2,.all)] rfl (kc J ?_)) nofun)))))))))));exact kz 5 rfl (sgh [(1,.row 0 (b6 u))] rfl (sg rfl (sg rfl (aE (rtC trw)))))
theorem aUe {kid:Core}(u:aU Tryz.prog 81 [.pa (aB (.mk 7 n nm t [kid] [] []))] [] (B false) []) (I:aU Tryz.prog 83 [.pa (aB (.mk 7 n nm t [kid] [] []))] [] (aV (pfR (.mk 7 n nm t [kid] [] []))) [])
  (hl:(pfR (.mk 7 n nm t [kid] [] [])).length≤900000000000) (hs:¬s∈pfR (.mk 7 n nm t [kid] [] [])):aU Tryz.prog 33 [.pa (aB (.mk 7 n nm t [kid] [] [])),Go.AM.T s,.pa (aB b)] [] (.pa (aB (.mk 7 n nm t [kid] [] []))) []:=by
 have hc:=kX (pfR (.mk 7 n nm t [kid] [] [])) s (by unfold Fits;omega);rw[Ae hs] at hc;refine bQ (n:=228) tok Tryz.func33 rfl rfl rfl ?_;exact sg rfl (a8 (sgh [(1,.pc (B false))] rfl (aA rfl nofun (fun _=>aD (a8 (sg rfl (aC (sg rfl (aA rfl nofun (fun _=>sg rfl (aA rfl nofun (fun _=>sg rfl (aA rfl (fun _=>a8 (sgh [(1,.pc (aV (pfR (.mk 7 n nm t [kid] [] [])))),(3,.pc (B false))] rfl (aA rfl (fun _=>sg rfl (aE (rtC trw))) nofun))) nofun)))))))))))))
theorem aIy {kid I r:Core}{nm1:Str}{u J:List Str}(hfw:aU Tryz.prog 81 [.pa (aB (.mk 7 n nm t [kid] [] []))] [] (B false) []) (hfr:aU Tryz.prog 83 [.pa (aB (.mk 7 n nm t [kid] [] []))] [] (aV (pfR (.mk 7 n nm t [kid] [] []))) [])
  (hl:(pfR (.mk 7 n nm t [kid] [] [])).length≤900000000000) (hs:s∈pfR (.mk 7 n nm t [kid] [] [])) (hb1:aU Tryz.prog 84 [.pa (aB b)] [] (aV u) []) (aa:aU Tryz.prog 84 [.pa (aB b)] [] (rV u) [(900,rO u)])
  (hk:aU Tryz.prog 84 [.pa (aB kid)] [] (aV J) []) (hfb:u.length≤700000) (hfk:J.length≤700000)
  (hy:nm∈u→nm1=bA (u++J)∧aU Tryz.prog 34 [.pa (aB kid),Go.AM.T nm,tyV (vT nm1)] [] (.pa (aB I)) []) (hn:¬nm∈u→nm1=nm∧I=kid)
  (hr:aU Tryz.prog 33 [.pa (aB I),Go.AM.T s,.pa (aB b)] [] (.pa (aB r)) []):aU Tryz.prog 33 [.pa (aB (.mk 7 n nm t [kid] [] [])),Go.AM.T s,.pa (aB b)] [] (.pa (aB (.mk 7 n nm1 t [r] [] []))) []:=by
 have hc:=kX (pfR (.mk 7 n nm t [kid] [] [])) s (by unfold Fits;omega);rw[Ad hs] at hc;have Y:=kX u nm (by unfold Fits;omega);refine bQ (n:=228) tok Tryz.func33 rfl rfl rfl ?_;refine sg rfl (a8 (sgh [(1,.pc (B false))] rfl (aA rfl nofun (fun _=>aD (a8 (sg rfl (aC (sg rfl (aA rfl nofun (fun _=>sg rfl (aA rfl nofun (fun _=>sg rfl (aA rfl (fun _=>a8 (sgh [(1,.pc (aV (pfR (.mk 7 n nm t [kid] [] [])))),(3,.pc (B true))] rfl (aA rfl nofun (fun _=>aD (sgh [(2,.row 0 (aB kid))] rfl ?_))))) nofun)))))))))))));by_cases N:nm∈u
 ·obtain⟨hz,ab⟩:=hy N;have O:=v8 (u++J) (by rw[κ];omega);rw[←hz] at O;have Z:aU Tryz.prog 85 [.one (.c (.sl 1 (u.map b6++J.map b6)))] [] (Go.AM.T nm1) []:=by
   have e1:aV (u++J)=.one (.c (.sl 1 (u.map b6++J.map b6))):=by unfold aV;rw[At]
   rw[e1] at O;exact O
  rw[Ad N] at Y;refine a8 (sgh [(1,.pc (aV u)),(4,.pc (B true))] rfl (aA rfl (fun _=>sk 1 rfl (kc aa ?_)) nofun));refine ak 1 [] rfl (kc hk ?_);refine ak 1 [(4,.fz)] rfl (kc Z ?_);refine kz 1 rfl (sk 5 rfl (kc ab ?_));exact kz 1 rfl (ag [] rfl (sgh [(3,.pc (.pa (aB r))),(4,.all)] rfl (sg rfl (aE (rtC trw)))))
 ·obtain⟨rfl,rfl⟩:=hn N;rw[Ae N] at Y;exact a8 (sgh [(1,.pc (aV u)),(4,.pc (B false))] rfl (aA rfl nofun (fun _=>aD (sgh [(3,.pc (.pa (aB r))),(4,.all)] rfl (sg rfl (aE (rtC trw)))))))
theorem aZk {kid N:Core}{bs:List Bind}{J:List Str}{u:List Core}(hfw:aU Tryz.prog 81 [.pa (aB (.mk 8 n nm t [kid] bs []))] [] (B false) [])
  (hg:aU Tryz.prog 82 [aV (bs.map Bind.name),iV (kid::bs.map Bind.body),Go.AM.T s,.pa (aB b)] [] (.tup [aV J,iV (N::u)]) []) (h1:J.length=bs.length) (h2:u.length=bs.length) (hbl:bs.length≤500000000000):
  aU Tryz.prog 33 [.pa (aB (.mk 8 n nm t [kid] bs [])),Go.AM.T s,.pa (aB b)] [] (.pa (aB (.mk 8 n nm t [N] (mkB (bs.map Bind.ty) J u) []))) []:=by
 have Y:(aQ bs).length=bs.length:=by rw[bH,θ]
 refine bQ (n:=228) tok Tryz.func33 rfl rfl rfl ?_;refine sg rfl (a8 (sgh [(1,.pc (B false))] rfl (aA rfl nofun (fun _=>aD (a8 (sg rfl (aC (sg rfl (aA rfl nofun (fun _=>sg rfl (aA rfl nofun (fun _=>sg rfl (aA rfl nofun (fun _=>sg rfl (aA rfl (fun _=>sg rfl (AWp.sub (Sub.own (t:=11) (id:=600) 9 1 rfl rfl) ?_)) nofun)))))))))))))));refine sg rfl (AWp.sub (Sub.own (t:=12) (id:=601) 37 10 rfl rfl) ?_);refine sgh [(3,.row 0 (aB kid)),(5,.all)] rfl (a8 (sg rfl (aC ?_)))
 refine aK (fun i:Nat=>mk [(1,Go.AM.T s),(3,.one (.vp 3 0)),(5,.one (.vp 5 0)),(6,.one (.vp 6 0)),(11,.one (.hs 600 0 i i)),(12,.one (.hs 601 0 (i+1) (i+1))),(13,I .i64 i)]
  [(3,.var 37 (aW (.mk 8 n nm t [kid] bs []))),(5,.var 37 (aW b)),(6,.var 37 bO),(600,.arr 9 1 ((bs.take i).map fun b=>b6 b.name) 0),(601,.arr 37 10 (aB kid::(bs.take i).map fun b=>aB b.body) 0)]) (fun i=>i≤bs.length) (fun i=>bs.length-i) 0 (Ag _) sl ?_
 intro i hi;refine a8 (sg rfl (aA rfl (fun hb=>?_) (fun hb=>?_)))
 ·have O:i<bs.length:=ltD hb Y;obtain⟨x,hx⟩:=aJ O;have hx':=bX hx;have hr1:=eC (fun b:Bind=>b6 b.name) hx;have Z:=eC (fun b:Bind=>aB b.body) hx;have hr3:aB kid::(bs.take i).map (fun b=>aB b.body)++[aB x.body]=aB kid::(bs.take (i+1)).map (fun b=>aB b.body):=by rw[←Z];rfl
  obtain⟨xn,xt,xc⟩:=x;exact aD (a8 (aC (sgh [(4,.row i (b8 (.mk xn xt xc))),(7,.all)] rfl (ag [(4,.row i (b8 (.mk xn xt xc))),(7,.all)] rfl (ag [] rfl ⟨i+1,O,by dsimp only;omega,sl⟩)))))
 have aa:i=bs.length:=geD hb Y hi;subst aa;rw[Al];have hr1:(bs.map fun b=>b6 b.name)=(bs.map Bind.name).map b6:=by rw[A8];rfl
 have Z:(aB kid::bs.map fun b=>aB b.body)=aO (kid::bs.map Bind.body):=by rw[aR,Am,A8];rfl
 rw[hr1,Z];have hl1:bs.length=((bs.map Bind.name).map b6).length:=by simp
 have hl2:bs.length+1=(aO (kid::bs.map Bind.body)).length:=by rw[aR];simp
 refine aL (AWp.sub (Sub.freeze (id:=600) rfl) (AWp.sub (cv 11 ((bs.map Bind.name).map b6)) ?_));refine AWp.sub (Sub.freeze (id:=601) rfl) (AWp.sub (cv 12 (aO (kid::bs.map Bind.body))) ?_);refine sk 4 rfl (kc hg ?_);refine kz 5 rfl (sg rfl (AWp.sub (Sub.own (t:=16) (id:=602) 58 15 rfl rfl) ?_));refine a8 (sg rfl (aC ?_));have hBl:(mkB (bs.map Bind.ty) J u).length=bs.length:=by rw[r9 (by rw[θ];exact h1) (by rw[θ];exact h2),θ]
 refine aK (fun i:Nat=>mk [(3,.one (.vp 3 0)),(6,.one (.vp 6 0)),(14,aV J),(15,iV (N::u)),(16,.one (.hs 602 0 i i)),(17,I .i64 i)]
  [(3,.var 37 (aW (.mk 8 n nm t [kid] bs []))),(6,.var 37 bO),(602,.arr 58 15 (((mkB (bs.map Bind.ty) J u).take i).map b8) 0)]) (fun i=>i≤bs.length) (fun i=>bs.length-i) 0 (Ag _) sl ?_
 intro i hi;refine a8 (sg rfl (aA rfl (fun hb=>?_) (fun hb=>?_)))
 ·have O:i<bs.length:=ltD hb Y;obtain⟨x,hx⟩:=aJ O;obtain⟨m,hm⟩:=aJ (show i<J.length by omega);obtain⟨p,hp⟩:=aJ (show i<u.length by omega);have hx':=bX hx;have hm':=bW b6 hm;have hp':(aO (N::u))[i+1]?=some (aB p):=dB (l:=N::u) (by rw[Bk];exact hp);have hat:=uH (show(bs.map Bind.ty)[i]?=some x.ty by rw[A5,hx];rfl) hm hp;have hr:=eC b8 hat;obtain⟨xn,xt,xc⟩:=x;dsimp only[Bind.ty] at hr;exact aD (a8 (aC (ag [(3,.row i (b6 m)),(8,.row i (b8 (.mk xn xt xc))),(14,.row (i+1) (aB p)),(17,.all)] rfl (ag [] rfl ⟨i+1,O,by dsimp only;omega,sl⟩))))
 have aa:i=bs.length:=geD hb Y hi;subst aa;have hrw:((mkB (bs.map Bind.ty) J u).take bs.length).map b8=aQ (mkB (bs.map Bind.ty) J u):=by rw[←hBl,Al,bH]
 rw[hrw];have hl3:bs.length=(aQ (mkB (bs.map Bind.ty) J u)).length:=by rw[bH,θ,hBl]
 refine aL (AWp.sub (Sub.freeze (id:=602) rfl) ?_);exact sgh [(1,.row 0 (aB N)),(3,.all)] rfl (sg rfl (sg rfl (aE (rtC trw))))
end
noncomputable def aR2:Core→List Str→Core
 | .mk f n nm t ks bs al,far=>if nm∈far then .mk f n (bA (far++ks.flatMap tyR)) t (ks.map fun x=>sTR (m30 x) x nm (vT (bA (far++ks.flatMap tyR)))) bs al else .mk f n nm t ks bs al
open Classical in
noncomputable def dH:Nat→Core→Str→Core→Core
 | 0,c,_,_=>c
 | k+1,c,s,b=>if c.form=1∧c.name=s then b else oL (dH k) s b (if c.form=7∧s∈pfR c then aR2 c (tyR b) else c)
structure RX (X:Nat) (b p r:Core):Prop where
 q:eJ (QL X) r
 cw:∀(A:Alg) (E:Nat) (ρ:Str→Nat),cw A E r ρ≤max (cw A E p ρ) (cw A E b ρ)
 ty:∀x∈tyR r,x∈tyR p∨x∈tyR b
 tl:tlC r≤tlC p+tlC b
structure R0 (p q:Core):Prop where
 cw:∀(A:Alg) (E:Nat) (ρ:Str→Nat),cw A E q ρ≤cw A E p ρ
 ty:∀x∈tyR q,x∈tyR p
 tl:tlC q≤tlC p
 sz:m30 q≤m30 p
theorem R0.refl (p:Core):R0 p p:=⟨fun _ _ _=>le_refl _,fun _ h=>h,le_refl _,le_refl _⟩
theorem R0.trans {p q r:Core}(h:R0 p q) (k:R0 q r):R0 p r:=⟨fun A E ρ=>le_trans (k.cw A E ρ) (h.cw A E ρ),fun x hx=>h.ty x (k.ty x hx),le_trans k.tl h.tl,le_trans k.sz h.sz⟩
theorem R0.rx {X:Nat}{b p q r:Core}(h:R0 p q) (k:RX X b q r):RX X b p r:=
 ⟨k.q,fun A E ρ=>le_trans (k.cw A E ρ) (by have:=h.cw A E ρ;omega),fun x hx=>(k.ty x hx).imp (h.ty x) id,by have:=k.tl;have:=h.tl;omega⟩
theorem R0.cg {D M X:Nat}{p q:Core}(h:R0 p q) (hp:CG D M X p) (u:eJ (QL X) q):CG D M X q:=
 ⟨u,le_trans (h.cw fH 0 r0) hp.dep,by have:=hp.sc;have:=h.tl;have:=dL (a:=tyR p) h.ty;omega,le_trans h.sz hp.sz⟩
structure TB (X:Nat) (c:Core) (s:Str) (b r:Core):Prop where
 imp:aU Tryz.prog 106 [.pa (aB c),Go.AM.T s,.pa (aB b)] [] (.pa (aB r)) []
 rx:RX X b c r
 sz:∀B,1≤B→m30 b≤31*B→m30 r≤m30 c*B
theorem a0u {z:Str}:tyR (vC z)=[]:=rfl
theorem a02 {z:Str}:tlC (vC z)=0:=rfl
theorem a3m {A:Alg}{E:Nat}{ρ:Str→Nat}{z:Str}:cw A E (vC z) ρ=A.k:=by
 refine le_antisymm (dT.2 ⟨le_refl _,?_,fun x hx=>(by cases hx),fun x hx=>(by cases hx),fun x hx=>(by cases hx)⟩) (a6u _)
 exact le_of_eq (j6 (tn zTy) zTy (le_refl _) fun x hx=>by
  have:tfR zTy=[]:=rfl
  rw[this] at hx;cases hx)
theorem TB.r0 {X:Nat}{c:Core}{s z:Str}{r:Core}(u:z.length≤30) (h:TB X c s (vC z) r):R0 c r:=
 ⟨fun A E ρ=>by have:=h.rx.cw A E ρ;rw[a3m] at this;have:=a6u (A:=A) (E:=E) (ρ:=ρ) c;omega,
  fun x hx=>(h.rx.ty x hx).resolve_right (by rw[a0u];exact List.not_mem_nil),by have:=h.rx.tl;rw[a02] at this;omega,
  by have:=h.sz 1 (le_refl _) (by rw[aV5 u];exact le_refl _);rwa [mul_one] at this⟩
theorem CG.vC {D M X:Nat}{z:Str}(u:z.length≤30) (I:31≤X):CG D M X (vC z):=by
 refine⟨bB.2 ⟨⟨rfl,fun h=>by omega,rfl,fun p hp=>(by cases hp),?_,fun h=>by omega,fun p hp=>(by cases hp),fun p hp=>(by cases hp)⟩,fun x hx=>(by cases hx),fun x hx=>(by cases hx),fun x hx=>(by cases hx)⟩,?_,?_,?_⟩
 ·show lw z [] []≤X;unfold lw w30;simp only[Bo,sum_nil];omega
 ·rw[a3m];exact Ag _
 ·rw[a0u,a02];exact Ag _
 ·rw[aV5 u];decide
section
variable {sb:Core→Str→Core→Core}{P:Core→Prop}{X:Nat}{s:Str}{b:Core}
theorem u0 {ns:List Str}{ps:List Core}(Y:∀p∈ps,P p) (I:∀p,P p→eJ (QL X) p) (Z:∀p n z,P p→z.length≤30→P (sb p n (vC z))∧R0 p (sb p n (vC z))) (hs:∀p,P p→RX X b p (sb p s b))
  (hl:(ps.flatMap pfR).length+2*ns.length+(pfR b).length≤540000000000):A2 (RX X b) ps (cE sb s b ns ps).2∧A2 NR ns (cE sb s b ns ps).1:=by
 obtain⟨⟨u,h1,h2⟩,h3⟩:=aHc (sb:=sb) (Rel:=fun p q=>P p→(P q∧R0 p q)) (fun p h=>⟨h,R0.refl p⟩)
  (fun p q r J N h=>by
   obtain⟨a1,a2⟩:=J h;obtain⟨b1,b2⟩:=N a1
   exact⟨b1,a2.trans b2⟩) (s:=s) (b:=b) (ns:=ns) (ps:=ps) (fun p n z O h=>Z p n z h O) hl
 have key:∀{ps u:List Core},A2 (fun p q=>P p→(P q∧R0 p q)) ps u→(∀p∈ps,P p)→A2 (RX X b) ps u∧A2 (RX X b) ps (u.map fun p=>sb p s b):=by
  intro ps u h
  induction h with
  | nil=>intro _;exact⟨.nil,.nil⟩
  | cons r _ ih=>
   intro hp;obtain⟨i1,i2⟩:=ih fun p h=>hp p (ω _ h)
   obtain⟨g1,g2⟩:=r (hp _ ζ);exact⟨.cons ⟨I _ g1,fun A E ρ=>le_trans (g2.cw A E ρ) (C8 ..),fun x hx=>.inl (g2.ty x hx),le_trans g2.tl (Nat.le_add_right _ _)⟩ i1,.cons (g2.rx (hs _ g1)) i2⟩
 obtain⟨k1,k2⟩:=key h1 Y;refine⟨?_,h3⟩;rcases h2 with h2 | h2
 ·rw[h2];exact k1
 ·rw[h2];exact k2
end
mutual
theorem nM:∀c:Core,allT (fun _=>True) c
 | .mk f n s t ks bs al=>⟨trivial,xX ks,xY bs,xZ al⟩
theorem xX:∀l:List Core,aDl (fun _=>True) l
 | []=>trivial
 | c::l=>⟨nM c,xX l⟩
theorem xY:∀l:List Bind,aAo (fun _=>True) l
 | []=>trivial
 | .mk s t c::l=>⟨trivial,nM c,xY l⟩
theorem xZ:∀l:List Alt,aAp (fun _=>True) l
 | []=>trivial
 | .mk f n s v c::l=>⟨nM c,xZ l⟩
end
theorem pN:∀{ts:List Ty}{ns:List Str}{ps:List Core},ns.length=ts.length→ps.length=ts.length→(mkB ts ns ps).map Bind.name=ns
 | [],[],_,_,_=>by unfold mkB;rfl
 | t::ts,n::ns,p::ps,h1,h2=>by
  simp only[Ac] at h1 h2;rw[mkB,Am,pN (ts:=ts) (by omega) (by omega)];rfl
section
variable {sb:Core→Str→Core→Core}{X:Nat}{s:Str}{b:Core}{f n:Int}{nm:Str}{t:Ty}{ks:List Core}{bs:List Bind}{al:List Alt}
theorem aZ4 (h7:f≠7) (hq:eJ (QL X) (.mk f n nm t ks bs al)) (hg:A2 (RX X b) (ks++bs.map Bind.body) (cE sb s b (gvN f nm bs) (ks++bs.map Bind.body)).2) (hn:A2 NR (gvN f nm bs) (cE sb s b (gvN f nm bs) (ks++bs.map Bind.body)).1)
  (ha:∀a∈al,A2 (RX X b) [a.body] (cE sb s b a.vars [a.body]).2∧A2 NR a.vars (cE sb s b a.vars [a.body]).1):RX X b (.mk f n nm t ks bs al) (oL sb s b (.mk f n nm t ks bs al)):=by
 obtain⟨⟨q1,q2,q3,q4,q5,q6,q7,q8⟩,qk,qb,qa⟩:=bB.1 hq;have O:∀a∈al,RX X b a.body (kY sb s b a).body∧A2 NR a.vars (kY sb s b a).vars∧(kY sb s b a).name=a.name:=fun a ha'=>by
  obtain⟨g1,g2⟩:=ha a ha';refine⟨?_,g2,rfl⟩;show RX X b a.body ((cE sb s b a.vars [a.body]).2.headD a.body);cases hx:(cE sb s b a.vars [a.body]).2 with
  | nil=>rw[hx] at g1;cases g1
  | cons y l'=>
   rw[hx] at g1;cases g1 with
   | cons h _=>exact h
 have Z:f=5→bs=[]:=fun h5=>(dR hq (.inl h5)).2.1
 rw[oL];unfold zNm zKs zBs;generalize cE sb s b (gvN f nm bs) (ks++bs.map Bind.body)=r at hg hn ⊢;obtain⟨J,N⟩:=r;dsimp only at *;have hK:A2 (RX X b) ks (N.take ks.length):=by
  have:=hg.take ks.length;rwa [take_left] at this
 have hB:A2 (RX X b) (bs.map Bind.body) (N.drop ks.length):=by
  have:=hg.drop ks.length;rwa [drop_left] at this
 have hBl:(N.drop ks.length).length=bs.length:=by rw[hB.length,θ]
 have Y:∀x∈mkB (bs.map Bind.ty) J (N.drop ks.length),∃y∈bs,RX X b y.body x.body:=fun x hx=>by
  obtain⟨p,hp,h⟩:=hB.mem x.body (lC hx).1;obtain⟨y,u,rfl⟩:=Af.1 hp;exact⟨y,u,h⟩
 have hmT:∀x∈mkB (bs.map Bind.ty) J (N.drop ks.length),∃y∈bs,y.ty=x.ty:=fun x hx=>Af.1 (lC hx).2
 have I:=hn.length;have hbn:((mkB (bs.map Bind.ty) J (N.drop ks.length)).map fun x=>1+w30 x.name).sum≤(bs.map fun x=>1+w30 x.name).sum∧(mkB (bs.map Bind.ty) J (N.drop ks.length)).length=bs.length:=by
  by_cases h5:f=5
  ·have:=Z h5;subst this;show((mkB [] J _).map _).sum≤_∧(mkB [] J _).length=_;unfold mkB;exact⟨le_refl _,rfl⟩
  ·unfold gvN at hn I;rw[φ h5,A0] at hn I;rw[θ] at I;have e1:∀l:List Bind,(l.map fun x=>1+w30 x.name)=(l.map Bind.name).map fun v=>1+w30 v:=fun l=>by rw[A8];rfl
   rw[e1,e1,pN (by rw[θ];exact I) (by rw[θ];exact hBl)];exact⟨aGu hn,by rw[r9 (by rw[θ];exact I) (by rw[θ];exact hBl),θ]⟩
 have hbh:∀x∈mkB (bs.map Bind.ty) J (N.drop ks.length),nh x.name:=fun x hx=>by
  by_cases h5:f=5
  ·have:=Z h5;subst this;have hx:x∈mkB [] J (N.drop ks.length):=hx;unfold mkB at hx;cases hx
  ·have hn2:=hn;unfold gvN at hn2 I;rw[φ h5,A0] at hn2 I;rw[θ] at I;have hxm:x.name∈(mkB (bs.map Bind.ty) J (N.drop ks.length)).map Bind.name:=Af.2 ⟨x,hx,rfl⟩;rw[pN (by rw[θ];exact I) (by rw[θ];exact hBl)] at hxm;obtain⟨v,hv,hr⟩:=hn2.mem _ hxm;obtain⟨y,u,rfl⟩:=Af.1 hv;exact hr.nh (q7 (bhd y) (Af.2 ⟨y,u,rfl⟩))
 have hnm:w30 (if f=5 then J.headD nm else nm)≤w30 nm:=by
  split
  ·rename_i hf;unfold gvN at hn;rw[ξ hf] at hn;cases hn with
   | cons h _=>exact h.w
  ·exact le_refl _
 refine⟨bB.2 ⟨⟨?_,fun h=>absurd h h7,q3,fun p hp=>?_,?_,fun h5=>?_,fun p hp=>?_,fun p hp v hv=>?_⟩,fun x hx=>?_,fun x hx=>?_,fun x hx=>?_⟩,fun A E ρ=>?_,fun x hx=>?_,?_⟩
 ·rw[θ,θ,θ,hbn.2,hK.length];rw[θ,θ] at q1;exact q1
 ·obtain⟨x,hx,rfl⟩:=Af.1 hp;obtain⟨y,u,e⟩:=hmT x hx;have:=q4 (bhd y) (Af.2 ⟨y,u,rfl⟩);show wfS x.ty=true;rw[←e];exact this
 ·refine le_trans ?_ q5;unfold lw;rw[A8,A8,A8,A8,A8];have ea:(al.map (((fun p:Str×List Str=>1+w30 p.1+(p.2.map fun v=>1+w30 v).sum)∘ahd)∘kY sb s b)).sum≤(al.map ((fun p:Str×List Str=>1+w30 p.1+(p.2.map fun v=>1+w30 v).sum)∘ahd)).sum:=by
   clear ha q1 q5 hq qa q8
   induction al with
   | nil=>exact le_refl _
   | cons a l ih=>
    have h1:=ih fun x hx=>O x (ω _ hx)
    obtain⟨_,h2,h3⟩:=O a ζ;have h2:=aGu h2;simp only[Am,Bt,Function.comp,ahd] at h1 ⊢;rw[h3];omega
  have eb:=hbn.1;have ec:∀l:List Bind,(l.map ((fun p:Str×Ty=>1+w30 p.1)∘bhd)).sum=(l.map fun x=>1+w30 x.name).sum:=fun l=>rfl
  rw[ec,ec];omega
 ·rw[ξ h5];unfold gvN at hn;rw[ξ h5] at hn;cases hn with
  | cons h _=>exact h.nh (q6 h5)
 ·obtain⟨x,hx,rfl⟩:=Af.1 hp;exact hbh x hx
 ·obtain⟨a,ha',rfl⟩:=Af.1 hp;obtain⟨a0,ha0,rfl⟩:=Af.1 ha';obtain⟨w,hw,hr⟩:=(O a0 ha0).2.1.mem v hv;exact hr.nh (q8 (ahd a0) (Af.2 ⟨a0,ha0,rfl⟩) w hw)
 ·obtain⟨p,_,h⟩:=hK.mem x hx;exact h.q
 ·obtain⟨y,_,h⟩:=Y x hx;exact h.q
 ·obtain⟨a,ha',rfl⟩:=Af.1 hx;exact(O a ha').1.q
 ·obtain⟨c0,c1,c2,c3,c4⟩:=dT.1 (le_refl (cw A E (.mk f n nm t ks bs al) ρ));rw[φ h7] at c2;generalize cw A E (.mk f n nm t ks bs al) ρ=K at *;refine dT.2 ⟨by omega,by omega,fun x hx=>?_,fun x hx=>⟨?_,?_⟩,fun x hx=>?_⟩
  ·obtain⟨p,hp,h⟩:=hK.mem x hx;rw[φ h7];have h1:=h.cw A E ρ;have h2:=c2 p hp;omega
  ·obtain⟨y,u,e⟩:=hmT x hx;rw[←e];have:=(c3 y u).1
   omega
  ·obtain⟨y,u,h⟩:=Y x hx;have h1:=h.cw A E ρ;have h2:=(c3 y u).2
   omega
  ·obtain⟨a,ha',rfl⟩:=Af.1 hx;have h1:=(O a ha').1.cw A E ρ;have h2:=c4 a ha';omega
 ·rcases bU.1 hx with h | ⟨y,u,h,_⟩ | ⟨y,u,h⟩ | ⟨y,u,h⟩
  ·exact .inl (bU.2 (.inl h))
  ·obtain⟨p,hp,g⟩:=hK.mem y u;exact(g.ty x h).imp (fun h=>bU.2 (.inr (.inl ⟨p,hp,h,.inl h7⟩))) id
  ·rcases h with h | h
   ·obtain⟨z,hz,e⟩:=hmT y u;exact .inl (bU.2 (.inr (.inr (.inl ⟨z,hz,.inl (by rw[e];exact h)⟩))))
   ·obtain⟨z,hz,g⟩:=Y y u;exact(g.ty x h).imp (fun h=>bU.2 (.inr (.inr (.inl ⟨z,hz,.inr h⟩)))) id
  ·obtain⟨a,ha',rfl⟩:=Af.1 u;exact((O a ha').1.ty x h).imp (fun h=>bU.2 (.inr (.inr (.inr ⟨a,ha',h⟩)))) id
 ·obtain⟨d1,d2,d3⟩:=oH (f:=f) (n:=n) (s:=nm) (t:=t) (ks:=ks) (bs:=bs) (al:=al);rw[φ h7] at d1;generalize tlC (.mk f n nm t ks bs al)=K at *;have:=(aA6 (K:=K+tlC b) (f:=f) (n:=n) (s:=(if f=5 then J.headD nm else nm)) (t:=t) (ks:=N.take ks.length) (bs:=mkB (bs.map Bind.ty) J (N.drop ks.length)) (al:=al.map (kY sb s b))).2 ⟨fun x hx=>?_,fun x hx=>?_,fun x hx=>?_⟩
  ·rwa [φ h7,Bc] at this
  ·obtain⟨p,hp,h⟩:=hK.mem x hx;have:=h.tl;have:=d1 p hp;omega
  ·obtain⟨y,u,h⟩:=Y x hx;have:=h.tl;have:=d2 y u;omega
  ·obtain⟨a,ha',rfl⟩:=Af.1 hx;have:=(O a ha').1.tl;have:=d3 a ha';omega
end
theorem uU (hI:dJ 540000000000) {D M X:Nat}(ag:M+D≤700000) (hX:31≤X):∀(k:Nat) (c:Core),m30 c≤k→CG D M X c→∀(s:Str) (b:Core),CG D M X b→TB X c s b (dH k c s b):=by
 intro k
 induction k with
 | zero=>intro c h;have:=dD c;omega
 | succ k ih=>
 intro c h hc s b hb;have hTG:=hc.tyG hI ag;have hTGb:=hb.tyG hI ag;have hcs:=c8 c;have hbs:=c8 b;have hsz:=hc.sz;have hszb:=hb.sz;have hBig:Big=250000000000:=rfl;have hpfb:=jH b;have hpfc:=jH c;have ah:=rJ (aY c) c (le_refl _) (by omega);have hfreeb:=rJ (aY b) b (le_refl _) (by omega);obtain⟨hbty,hbtl⟩:=hb.types ag;have hm31:=dD c;have hb31:=dD b;obtain⟨f,n,nm,t,ks,bs,al⟩:=c;have hq:=hc.q;rw[dH];by_cases hv:f=1∧nm=s
 ·rw[ξ (show(Core.mk f n nm t ks bs al).form=1∧(Core.mk f n nm t ks bs al).name=s from hv)];exact⟨aQg f n nm t ks bs al s b hv (by omega) hTGb,⟨hb.q,fun A E ρ=>C2 ..,fun x hx=>.inr hx,le_add_left _ _⟩,fun B _ hb'=>le_trans hb' (Aw _ hm31)⟩
 rw[φ (show ¬((Core.mk f n nm t ks bs al).form=1∧(Core.mk f n nm t ks bs al).name=s) from hv)]
 let P:Core→Prop:=fun x=>m30 x<m30 (.mk f n nm t ks bs al)∧CG D M X x
 have Z:∀p,P p→∀n' b',CG D M X b'→TB X p n' b' (dH k p n' b'):=fun p hp n' b' hb'=>ih p (by have:=hp.1;omega) hp.2 n' b' hb'
 have hz:∀p m z,P p→z.length≤30→P (dH k p m (vC z))∧R0 p (dH k p m (vC z)):=fun p m z hp N=>by
  have h1:=Z p hp m (vC z) (CG.vC N hX);have h2:=h1.r0 N;exact⟨⟨Cx h2.sz hp.1,h2.cg hp.2 h1.rx.q⟩,h2⟩
 have hfree:∀p,P p→aU Tryz.prog 125 [.pa (aB p)] [] (aV (pfR p)) []:=fun p hp=>rJ (aY p) p (le_refl _) (by have:=c8 p;have:=hp.1;omega)
 have hok:∀ps,(∀p∈ps,P p)→PutOk (dH k) P s b ps:=fun ps hps=>⟨hps,fun p hp=>hfree p (hps p hp),hfreeb,fun p m z hp N=>(hz p m z hp N).1,fun p m z hp N=>(Z p hp m (vC z) (CG.vC N hX)).imp,fun p hp=>(Z p hp s b hb).imp,hI⟩
 have hPq:∀p,P p→eJ (QL X) p:=fun p hp=>hp.2.q
 have hS:∀p,P p→RX X b p (dH k p s b):=fun p hp=>(Z p hp s b hb).rx
 have hSB:∀B,1≤B→m30 b≤31*B→∀p,P p→wfC (dH k p s b)=true∧allT (fun _=>True) (dH k p s b)∧m30 (dH k p s b)≤m30 p*B:=fun B Y ab p hp=>by
  have h1:=Z p hp s b hb;exact⟨aDu _ h1.rx.q,nM _,h1.sz B Y ab⟩
 have hPQ:∀p,P p→wfC p=true∧allT (fun _=>True) p:=fun p hp=>⟨aDu _ hp.2.q,nM _⟩
 have hzs:∀p m z,P p→z.length≤30→P (dH k p m (vC z))∧m30 (dH k p m (vC z))≤m30 p:=fun p m z hp N=>⟨(hz p m z hp N).1,(hz p m z hp N).2.sz⟩
 by_cases h7:f=7
 ·subst h7;obtain⟨⟨kid,rfl⟩,rfl,rfl⟩:=dR hq (.inr (.inr rfl));obtain⟨g1,g2,g3⟩:=hc.kid (x:=kid) ζ;rw[ξ rfl] at g2;obtain⟨q1,_⟩:=bB.1 hq;have hnmn:¬nm=[]:=(q1.2.1 rfl).2
  obtain rfl:t=zTy:=(q1.2.1 rfl).1
  have hz0:tfR zTy=[]:=rfl;have aa:∀ac,gvN 7 ac []=[]:=fun ac=>by unfold gvN;rw[φ (by decide)];rfl
  have easm:∀ac u,oL (dH k) s b (.mk 7 n ac zTy [u] [] [])=.mk 7 n ac zTy ((cE (dH k) s b [] [u]).2.take 1) [] []:=fun ac u=>by
   rw[oL];unfold zNm zKs zBs;rw[aa,φ (by decide)];rfl
  have hpk:P kid:=⟨g3,g1⟩
  have hpfk:pfR (.mk 7 n nm zTy [kid] [] [])=pfP [] [] (pfR kid):=by
   rw[pfR,φ (by decide),jS,jS,kP,jQ,aa]
  have hmem:∀x,x∈pfR (.mk 7 n nm zTy [kid] [] [])↔x∈pfR kid:=fun x=>by
   rw[hpfk];constructor
   ·intro hx;have key:∀(l o:List Str),x∈pfP [] o l→x∈o∨x∈l:=by
     intro l
     induction l with
     | nil=>intro o h;exact .inl h
     | cons y l ih2=>
      intro o h;rcases ih2 (pfG [] o y) h with h | h
      ·unfold pfG at h;rw[φ (by simp)] at h;rcases zE.1 h with h | h
       ·exact .inl h
       ·exact .inr (by rw[h];exact ζ)
      ·exact .inr (ω _ h)
    rcases key _ _ hx with h | h
    ·cases h
    ·exact h
   ·exact fun hx=>uA hx (by simp)
  have hlk:∀u,P u→(([u]:List Core).flatMap pfR).length+2*(gvN 7 nm []).length+(pfR b).length≤540000000000:=fun u O=>by
   rw[aa];have:=jH u;have:=O.1;simp only[Ca,Ck,Ax,length_nil];omega
  by_cases hin:s∈pfR (.mk 7 n nm zTy [kid] [] [])
  ·rw[ξ (show(Core.mk 7 n nm zTy [kid] [] []).form=7∧_ from⟨rfl,hin⟩)];have hink:=(hmem s).1 hin;have hend:∀(nm1:Str) (u:Core),w30 nm1≤w30 nm→P u→m30 u≤m30 kid→tlC u≤tlC kid→(∀x∈tyR u,x=nm1∨x∈tyR kid)→(∀x∈tyR u,x=nm→nm1=nm∨nm∈tyR b)→¬nm1∈tyR b→¬nm1=[]→
     (∀(A:Alg) (E:Nat) (ρ:Str→Nat),cw A E u (fP ρ nm1 E)≤cw A E kid (fP ρ nm E))→
     aU Tryz.prog 75 [.one (.vp 700 0),aV (tyR b)] (gHl 7 n nm zTy [kid] [] []) (.tup []) (gHl 7 n nm1 zTy [u] [] [])→
     TB X (.mk 7 n nm zTy [kid] [] []) s b (oL (dH k) s b (.mk 7 n nm1 zTy [u] [] [])):=fun nm1 u hw O hkm hkt hkx hky hno hn1 hkc himp=>by
    have I:=rI (dH k) P 7 n nm nm1 zTy [kid] [u] [] [] s b (by omega) hTG hv rfl (fun e=>absurd e (by decide)) (fun _=>⟨rfl,rfl,_,ah,by omega,fun _=>⟨_,hbty,himp⟩,fun e=>absurd hin e⟩) (fun e=>absurd rfl e)
     (hok _ fun p hp=>by
      have:p=u:=by simpa using hp
      rw[this];exact O) (fun a ha=>by cases ha) (by
      have h1:=hlk u O;rw[aa] at h1;simp only[Bo,Ax,length_nil,Ac] at h1 ⊢;have:=jH u;have:=O.1;simp only[Ca,Ck,Ax] at h1 ⊢
      omega) (fun a ha=>by cases ha)
    obtain⟨hA,_⟩:=u0 (sb:=dH k) (P:=P) (X:=X) (s:=s) (b:=b) (ns:=[]) (ps:=[u]) (fun p hp=>by rw[ε.1 hp];exact O) hPq hz hS (by have:=hlk u O;rwa [aa] at this);rw[easm] at I ⊢;have hszB:∀B,1≤B→m30 b≤31*B→m30 (.mk 7 n nm1 zTy ((cE (dH k) s b [] [u]).2.take 1) [] [])≤m30 (.mk 7 n nm zTy [kid] [] [])*B:=fun B Y ab=>by
     have hg:=aEv (sb:=dH k) (P:=P) (T:=fun _=>True) (s:=s) (b:=b) (ns:=[]) (ps:=[u]) Y (fun p hp=>by rw[ε.1 hp];exact O) hzs hPQ (hSB B Y ab) (by have:=hlk u O;rwa [aa] at this);have hsm:=aH2 (hg.sm.take 1);have e:([u]:List Core).take 1=[u]:=rfl;rw[e,dA,dA,By] at hsm;rw[m30,m30,fT,gY,dA,dA,By,By,By,A1];have h5:1+w30 nm1≤(1+w30 nm)*B:=le_trans (by omega) (A7 _ Y);have h6:m30 u*B≤m30 kid*B:=Aw _ hkm;omega
    cases hx:(cE (dH k) s b [] [u]).2 with
    | nil=>rw[hx] at hA;cases hA
    | cons y l'=>
     rw[hx] at hA I hszB;cases hA with
     | cons hy _=>
      refine⟨I,⟨bB.2 ⟨⟨rfl,fun _=>⟨rfl,hn1⟩,rfl,fun p hp=>(by cases hp),?_⟩,fun x hx=>?_,fun x hx=>(by cases hx),fun x hx=>(by cases hx)⟩,fun A E ρ=>?_,fun x hx=>?_,?_⟩,hszB⟩
      ·exact⟨le_trans (zI hw rfl rfl) q1.2.2.2.2.1,fun e=>absurd e (by decide),fun p hp=>(by cases hp),fun p hp=>(by cases hp)⟩
      ·have:x=y:=by simpa using hx
       rw[this];exact hy.q
      ·obtain⟨c0,c1,c2,_,_⟩:=dT.1 (le_refl (cw A E (.mk 7 n nm zTy [kid] [] []) ρ));have c2:=c2 kid ζ;rw[ξ rfl] at c2;refine dT.2 ⟨by omega,by omega,fun x hx=>?_,fun x hx=>(by cases hx),fun x hx=>(by cases hx)⟩;have:x=y:=by simpa using hx
       rw[this,ξ rfl];have h1:=hy.cw A E (fP ρ nm1 E);have h2:=hkc A E ρ;have h3:cw A E b (fP ρ nm1 E)=cw A E b ρ:=qB fun y hy=>by
        unfold fP;rw[φ fun e=>hno (by rw[←e];exact hy)]
       omega
      ·rcases bU.1 hx with h | ⟨z,ai,h,ae⟩ | ⟨z,ai,_⟩ | ⟨z,ai,_⟩
       ·rw[hz0] at h;cases h
       ·have:z=y:=by simpa using ai
        rw[this] at h;have ae:¬x=nm1:=ae.resolve_left (fun e=>e rfl);rcases hy.ty x h with h | h
        ·rcases hkx x h with h' | h'
         ·exact absurd h' ae
         ·by_cases e:x=nm
          ·rcases hky x h e with e2 | e2
           ·exact absurd (e.trans e2.symm) ae
           ·exact .inr (by rw[e];exact e2)
          ·exact .inl (bU.2 (.inr (.inl ⟨kid,ζ,h',.inr e⟩)))
        ·exact .inr h
       ·cases ai
       ·cases ai
      ·have d1:=hy.tl;show tlC (.mk 7 n nm1 zTy [y] [] [])≤tlC (.mk 7 n nm zTy [kid] [] [])+tlC b;rw[tlC,tlC,jW,jW,jW,jW,qL,pA];omega
   rw[aR2];by_cases ad:nm∈tyR b
   ·rw[ξ ad];have efm:[kid].flatMap tyR=tyR kid:=by simp
    rw[efm,Am,Bo];obtain⟨hkty,hktl⟩:=g1.types ag;have hzo:=nZ (tyR b++tyR kid);have hz30:(bA (tyR b++tyR kid)).length≤30:=kH _ (by rw[κ];omega);have hzn:=zQ (tyR b++tyR kid);generalize hze:bA (tyR b++tyR kid)=z at hzo hz30 hzn;have J:=vW hI ag (m30 kid) kid (le_refl _) g1 nm (vT z) (UOk.var z);have hkid1:CG D M X (sTR (m30 kid) kid nm (vT z)):=by
     refine⟨J.q,?_,?_,le_trans J.sz g1.sz⟩
     ·have:=J.cw fH 0 r0;have e:tW fH (vT z) r0=0:=rfl;rw[e,yM] at this;exact le_trans this g1.dep
     ·have h1:=dL (a:=z::tyR kid) (c:=sTR (m30 kid) kid nm (vT z)) fun x hx=>by
       rcases J.ty x hx with h | h
       ·exact ω _ h
       ·rw[aA7] at h;rw[ε.1 h];exact ζ
      rw[Ac] at h1;have h2:=J.tl;omega
    have hcl:=aI3 n nm zTy kid (sTR (m30 kid) kid nm (vT z)) (tyR b) (by omega) ad hI hkty (by omega) (by rw[hze];exact J.imp);rw[hze] at hcl;refine hend z _ (aJo hz30) ⟨Cx J.sz g3,hkid1⟩ J.sz J.tl (fun x hx=>?_) (fun _ _ _=>.inr ad) (fun h=>hzo (τ.2 (.inl h))) hzn (fun A E ρ=>?_) hcl
    ·rcases J.ty x hx with h | h
     ·exact .inr h
     ·rw[aA7] at h;exact .inl (ε.1 h)
    ·refine le_trans (J.cw A E _) (le_of_eq (qB fun x hx=>?_));have e:tW A (vT z) (fP ρ z E)=E:=by
      unfold vT;rw[tW,ξ rfl];unfold fP;rw[ξ rfl]
     rw[e];unfold fP;by_cases e1:x=nm
     ·rw[ξ e1,ξ e1]
     ·rw[φ e1,φ e1,φ fun e3=>hzo (by rw[←e3];exact τ.2 (.inr hx))]
   ·rw[φ ad];exact hend nm kid (le_refl _) hpk (le_refl _) (le_refl _) (fun x hx=>.inr hx) (fun _ _ _=>.inl rfl) ad hnmn (fun A E ρ=>le_refl _) (aI4 n nm zTy kid (tyR b) (by omega) ad)
  ·rw[φ (show ¬((Core.mk 7 n nm zTy [kid] [] []).form=7∧s∈pfR (Core.mk 7 n nm zTy [kid] [] [])) from fun h=>hin h.2)];have hnk:¬s∈pfR kid:=fun h=>hin ((hmem s).2 h)
   have I:=rI (dH k) P 7 n nm nm zTy [kid] [kid] [] [] s b (by omega) hTG hv rfl (fun e=>absurd e (by decide)) (fun _=>⟨rfl,rfl,_,ah,by omega,fun e=>absurd e hin,fun _=>⟨rfl,rfl⟩⟩) (fun e=>absurd rfl e)
    (hok _ fun p hp=>by
     have:p=kid:=by simpa using hp
     rw[this];exact hpk) (fun a ha=>by cases ha) (by
     have h1:=hlk kid hpk;rw[aa] at h1;simp only[Bo,Ax,length_nil,Ac] at h1 ⊢;have:=jH kid;have:=hpk.1;simp only[Ca,Ck,Ax] at h1 ⊢
     omega) (fun a ha=>by cases ha)
   have e5:cE (dH k) s b [] [kid]=([],[kid]):=by
    unfold cE;rw[φ];exact fun h=>hnk (by simpa using h.1)
   rw[easm,e5] at I ⊢;have I:aU Tryz.prog 106 [.pa (aB (.mk 7 n nm zTy [kid] [] [])),Go.AM.T s,.pa (aB b)] [] (.pa (aB (.mk 7 n nm zTy [kid] [] []))) []:=I;show TB X (.mk 7 n nm zTy [kid] [] []) s b (.mk 7 n nm zTy [kid] [] []);exact⟨I,⟨hq,fun A E ρ=>C8 ..,fun x hx=>.inl hx,Nat.le_add_right _ _⟩,fun B Y _=>A7 _ Y⟩
 ·rw[φ (show ¬((Core.mk f n nm t ks bs al).form=7∧s∈pfR (Core.mk f n nm t ks bs al)) from fun h=>h7 h.1)];have hP1:∀x∈ks,P x:=fun x hx=>⟨(hc.kid hx).2.2,(hc.kid hx).1⟩
  have hP2:∀x∈bs,P x.body:=fun x hx=>⟨(hc.bind hx).2,(hc.bind hx).1⟩
  have hP3:∀x∈al,P x.body:=fun x hx=>⟨(hc.alt hx).2,(hc.alt hx).1⟩
  have hPs:∀p∈ks++bs.map Bind.body,P p:=fun p hp=>by
   rcases τ.1 hp with hp | hp
   ·exact hP1 p hp
   ·obtain⟨x,hx,rfl⟩:=Af.1 hp;exact hP2 x hx
  have hm:=hsz;rw[m30] at hm;have hfm:=aIj (ks++bs.map Bind.body);rw[sQ] at hfm;have hbsb:=uL bs;have hksl:=zH ks;have hgv:=aE4 (f:=f) (nm:=nm) (bs:=bs);have hla:∀a∈al,(pfR a.body).length+2*a.vars.length+(pfR b).length+1≤540000000000:=fun a ha=>by
   have h1:=fE ha;have h2:=mD a.vars;have h3:=jH a.body;omega
  have hM:((ks++bs.map Bind.body).flatMap pfR).length+2*(1+bs.length)+(pfR b).length+(ks.length+bs.length)≤540000000000:=by omega
  have I:=rI (dH k) P f n nm nm t ks ks bs al s b (by omega) hTG hv rfl (fun hf=>dR hq (.inl hf)) (fun e=>absurd e h7) (fun _=>⟨rfl,rfl⟩) (hok _ hPs) (fun a ha=>hok _ fun p hp=>by rw[ε.1 hp];exact hP3 a ha) hM hla;have hgl:((ks++bs.map Bind.body).flatMap pfR).length+2*(gvN f nm bs).length+(pfR b).length≤540000000000:=by omega
  have hal':∀a∈al,(([a.body]:List Core).flatMap pfR).length+2*a.vars.length+(pfR b).length≤540000000000:=fun a ha=>by
   have:=hla a ha;simp only[Ca,Ck,Ax];omega
  obtain⟨hA,hN⟩:=u0 (sb:=dH k) (P:=P) (X:=X) (s:=s) (b:=b) (ns:=gvN f nm bs) hPs hPq hz hS hgl;have hAa:∀a∈al,A2 (RX X b) [a.body] (cE (dH k) s b a.vars [a.body]).2∧A2 NR a.vars (cE (dH k) s b a.vars [a.body]).1:=fun a ha=>
   u0 (sb:=dH k) (P:=P) (X:=X) (s:=s) (b:=b) (fun p hp=>by rw[ε.1 hp];exact hP3 a ha) hPq hz hS (hal' a ha)
  refine⟨I,aZ4 h7 hq hA hN hAa,fun B Y ab=>?_⟩;have hg:=aEv (sb:=dH k) (P:=P) (T:=fun _=>True) (s:=s) (b:=b) (ns:=gvN f nm bs) Y hPs hzs hPQ (hSB B Y ab) hgl;have hga:∀a∈al,PK B (fun _=>True) a.vars [a.body] (cE (dH k) s b a.vars [a.body]):=fun a ha=>aEv Y (fun p hp=>by rw[ε.1 hp];exact hP3 a ha) hzs hPQ (hSB B Y ab) (hal' a ha)
  exact(aRe (n:=n) (nm:=nm) Y hg hga trivial (fun x hx=>trivial) (fun hf=>dR hq hf) (fun hf=>vM hq hf)).2.2
theorem yU {G:List Str}{x:Str}:∀{l o:List Str},x∈pfP G o l→x∈o∨(x∈l∧¬x∈G)
 | [],o,h=>.inl h
 | y::l,o,h=>by
  rcases yU (l:=l) (o:=pfG G o y) h with h | ⟨h,u⟩
  ·unfold pfG at h;split at h
   ·exact .inl h
   ·rename_i I;rcases zE.1 h with h | h
    ·exact .inl h
    ·exact .inr ⟨by rw[h];exact ζ,by rw[h];exact I⟩
  ·exact .inr ⟨ω _ h,u⟩
theorem aHi {G:List Str}{x:Str}:∀{l:List Core}{o:List Str},x∈jS G l o→x∈o∨∃c∈l,x∈pfR c∧¬x∈G
 | [],o,h=>by rw[jS] at h;exact .inl h
 | c::l,o,h=>by
  rw[jS] at h;rcases aHi h with h | ⟨d,hd,h⟩
  ·rcases yU h with h | h
   ·exact .inl h
   ·exact .inr ⟨c,ζ,h⟩
  ·exact .inr ⟨d,ω _ hd,h⟩
theorem aHj {G:List Str}{x:Str}:∀{l:List Bind}{o:List Str},x∈kP G l o→x∈o∨∃c∈l,x∈pfR c.body∧¬x∈G
 | [],o,h=>by rw[kP] at h;exact .inl h
 | .mk s t c::l,o,h=>by
  rw[kP] at h;rcases aHj h with h | ⟨d,hd,h⟩
  ·rcases yU h with h | h
   ·exact .inl h
   ·exact .inr ⟨.mk s t c,ζ,h⟩
  ·exact .inr ⟨d,ω _ hd,h⟩
theorem aHk {x:Str}:∀{l:List Alt}{o:List Str},x∈jQ l o→x∈o∨∃a∈l,x∈pfR a.body∧¬x∈a.vars
 | [],o,h=>by rw[jQ] at h;exact .inl h
 | .mk f n s v c::l,o,h=>by
  rw[jQ] at h;rcases aHk h with h | ⟨d,hd,h⟩
  ·rcases yU h with h | h
   ·exact .inl h
   ·exact .inr ⟨.mk f n s v c,ζ,h⟩
  ·exact .inr ⟨d,ω _ hd,h⟩
section
variable {f n:Int}{nm:Str}{t:Ty}{ks:List Core}{bs:List Bind}{al:List Alt}{x:Str}
theorem kN (hf:f≠1):x∈pfR (.mk f n nm t ks bs al)↔(∃p∈ks++bs.map Bind.body,x∈pfR p∧¬x∈gvN f nm bs)∨∃a∈al,x∈pfR a.body∧¬x∈a.vars:=by
 constructor
 ·intro h;rw[pfR,φ hf] at h;rcases aHk h with h | h
  ·rcases aHj h with h | ⟨b,hb,h⟩
   ·rcases aHi h with h | ⟨c,hc,h⟩
    ·cases h
    ·exact .inl ⟨c,τ.2 (.inl hc),h⟩
   ·exact .inl ⟨b.body,τ.2 (.inr (Af.2 ⟨b,hb,rfl⟩)),h⟩
  ·exact .inr h
 ·rintro(⟨p,hp,h1,h2⟩ | ⟨a,ha,h1,h2⟩)
  ·rw[pfR,φ hf];refine z7 ?_;rcases τ.1 hp with hp | hp
   ·exact yY (yW hp h1 h2)
   ·obtain⟨b,hb,rfl⟩:=Af.1 hp;exact yX hb h1 h2
  ·rw[pfR,φ hf];exact z6 ha h1 h2
end
mutual
def mS (σ:Str→Nat):Core→Nat
 | .mk f _ s _ ks bs al=>(if f=1 then σ s else 1+w30 s)+mSs σ ks+mSb σ bs+mSa σ al
def mSs (σ:Str→Nat):List Core→Nat
 | []=>0
 | c::l=>mS σ c+mSs σ l
def mSb (σ:Str→Nat):List Bind→Nat
 | []=>0
 | .mk s _ c::l=>1+w30 s+mS σ c+mSb σ l
def mSa (σ:Str→Nat):List Alt→Nat
 | []=>0
 | .mk _ _ s vs c::l=>1+w30 s+(vs.map fun v=>1+w30 v).sum+mS σ c+mSa σ l
end
mutual
theorem aB6 {σ:Str→Nat}(h:∀s,1+w30 s≤σ s):∀c:Core,m30 c≤mS σ c
 | .mk f n s t ks bs al=>by
  rw[m30,mS];have:=aOo h ks;have:=aOp h bs;have:=aOq h al;have:=h s;split<;>omega
theorem aOo {σ:Str→Nat}(h:∀s,1+w30 s≤σ s):∀l:List Core,dA l≤mSs σ l
 | []=>le_refl _
 | c::l=>by rw[dA,mSs];have:=aB6 h c;have:=aOo h l;omega
theorem aOp {σ:Str→Nat}(h:∀s,1+w30 s≤σ s):∀l:List Bind,fT l≤mSb σ l
 | []=>le_refl _
 | .mk s t c::l=>by rw[fT,mSb];have:=aB6 h c;have:=aOp h l;omega
theorem aOq {σ:Str→Nat}(h:∀s,1+w30 s≤σ s):∀l:List Alt,gY l≤mSa σ l
 | []=>le_refl _
 | .mk f n s v c::l=>by rw[gY,mSa];have:=aB6 h c;have:=aOq h l;omega
end
mutual
theorem a4p {σ:Str→Nat}{B:Nat}(u:1≤B) (h:∀s,σ s≤(1+w30 s)*B):∀c:Core,mS σ c≤m30 c*B
 | .mk f n s t ks bs al=>by
  rw[m30,mS,A1,A1,A1];have:=a2f u h ks;have:=a2h u h bs;have:=a2i u h al;have:=h s;have:1+w30 s≤(1+w30 s)*B:=A7 _ u;split<;>omega
theorem a2f {σ:Str→Nat}{B:Nat}(u:1≤B) (h:∀s,σ s≤(1+w30 s)*B):∀l:List Core,mSs σ l≤dA l*B
 | []=>by rw[mSs];exact Ag _
 | c::l=>by rw[dA,mSs,A1];have:=a4p u h c;have:=a2f u h l;omega
theorem a2h {σ:Str→Nat}{B:Nat}(u:1≤B) (h:∀s,σ s≤(1+w30 s)*B):∀l:List Bind,mSb σ l≤fT l*B
 | []=>by rw[mSb];exact Ag _
 | .mk s t c::l=>by
  rw[fT,mSb,A1,A1];have:=a4p u h c;have:=a2h u h l;have:1+w30 s≤(1+w30 s)*B:=A7 _ u;omega
theorem a2i {σ:Str→Nat}{B:Nat}(u:1≤B) (h:∀s,σ s≤(1+w30 s)*B):∀l:List Alt,mSa σ l≤gY l*B
 | []=>by rw[mSa];exact Ag _
 | .mk f n s v c::l=>by
  rw[gY,mSa,A1,A1];have:=a4p u h c;have:=a2i u h l;have:1+w30 s+(v.map fun v=>1+w30 v).sum≤(1+w30 s+(v.map fun v=>1+w30 v).sum)*B:=A7 _ u;omega
end
structure Sg (σ:Str→Nat):Prop where
 ge:∀s,1+w30 s≤σ s
 fr:∀l,(bA l).length≤30→σ (bA l)≤31
section
variable {σ:Str→Nat}
theorem a5n {z:Str}:mS σ (vC z)=σ z:=by unfold vC;rw[mS,ξ rfl,mSs,mSb,mSa];rfl
theorem aOl {g:Core→Core}:∀{l:List Core},(∀x∈l,mS σ (g x)≤mS σ x)→mSs σ (l.map g)≤mSs σ l
 | [],_=>le_refl _
 | c::l,h=>by
  rw[Am,mSs,mSs];have:=h c ζ;have:=aOl (l:=l) fun x hx=>h x (ω _ hx)
  omega
theorem aOm {ts:Ty→Ty}{g:Core→Core}:∀{l:List Bind},(∀x∈l,mS σ (g x.body)≤mS σ x.body)→mSb σ (l.map fun b=>.mk b.name (ts b.ty) (g b.body))≤mSb σ l
 | [],_=>le_refl _
 | .mk s t c::l,h=>by
  rw[Am,mSb,mSb];have h1:=h _ ζ;have h2:=aOm (ts:=ts) (l:=l) fun x hx=>h x (ω _ hx)
  simp only[Bind.body,Bind.name] at h1 h2 ⊢;omega
theorem aOn {g:Core→Core}:∀{l:List Alt},(∀x∈l,mS σ (g x.body)≤mS σ x.body)→mSa σ (l.map fun a=>.mk a.form a.n a.name a.vars (g a.body))≤mSa σ l
 | [],_=>le_refl _
 | .mk f n s vs c::l,h=>by
  rw[Am,mSa,mSa];have h1:=h _ ζ;have h2:=aOn (l:=l) fun x hx=>h x (ω _ hx)
  simp only[Alt.body,Alt.name,Alt.vars] at h1 h2 ⊢;omega
theorem aV4 {ts:Ty→Ty}{sb:Core→Core}{f n:Int}{nm nm1:Str}{t:Ty}{ks ks1:List Core}{bs:List Bind}{al:List Alt}(u:f=1→nm1=nm) (hn:w30 nm1≤w30 nm) (hk:mSs σ ks1≤mSs σ ks)
  (h1:∀x∈ks1,mS σ (sb x)≤mS σ x) (h2:∀b∈bs,mS σ (sb b.body)≤mS σ b.body) (h3:∀a∈al,mS σ (sb a.body)≤mS σ a.body):
  mS σ (gE ts sb (.mk f n nm1 t ks1 bs al))≤mS σ (.mk f n nm t ks bs al):=by
 rw[gE,mS,mS];have:=aOl h1;have:=aOm (ts:=ts) h2;have:=aOn h3;by_cases e:f=1
 ·rw[ξ e,ξ e,u e];omega
 ·rw[φ e,φ e];omega
end
theorem mF:∀(k:Nat) (c:Core) (name:Str) (u:Ty),skT (sTR k c name u)=skT c
 | 0,c,_,_=>rfl
 | k+1,.mk f n nm t ks bs al,name,u=>by
  rw[sTR];split
  ·rfl
  ·split
   ·rename_i h;refine aMj (fun h7=>absurd h.1 h7) ?_ (fun x _=>mF k x name u) (fun b _=>mF k b.body name u) (fun a _=>mF k a.body name u);rw[A8];exact Bf fun x _=>mF k x nm _
   ·exact aMj (fun _=>rfl) rfl (fun x _=>mF k x name u) (fun b _=>mF k b.body name u) (fun a _=>mF k a.body name u)
theorem aNs (k:Nat) (c:Core) (name:Str) (u:Ty):pfR (sTR k c name u)=pfR c:=by rw[←aNr,mF,aNr]
theorem aRz (J:dJ 540000000000) {D M X:Nat}(I:M+D≤700000) {kid:Core}(g1:CG D M X kid) (g2:(tyR kid).length+2*tlC kid+1≤M) (k:Nat) (hk:m30 kid≤k) (nm z:Str):CG D M X (sTR k kid nm (vT z)):=by
 have u:=vW J I k kid hk g1 nm (vT z) (UOk.var z);refine⟨u.q,?_,?_,le_trans u.sz g1.sz⟩
 ·have:=u.cw fH 0 r0;have e:tW fH (vT z) r0=0:=rfl;rw[e,yM] at this;exact le_trans this g1.dep
 ·have h1:=dL (a:=z::tyR kid) (c:=sTR k kid nm (vT z)) fun x hx=>by
   rcases u.ty x hx with h | h
   ·exact ω _ h
   ·rw[aA7] at h;rw[ε.1 h];exact ζ
  rw[Ac] at h1;have h2:=u.tl;omega
theorem a2j (O:dJ 540000000000) {D M X:Nat}(I:M+D≤700000) {σ:Str→Nat}:∀(k:Nat) (c:Core),m30 c≤k→CG D M X c→∀(name:Str) (u:Ty),UOk u→mS σ (sTR k c name u)≤mS σ c:=by
 intro k
 induction k with
 | zero=>intro c h;have:=dD c;omega
 | succ k J=>
 intro c h hc name u hu;obtain⟨f,n,nm,t,ks,bs,al⟩:=c;rw[sTR];split
 ·exact le_refl _
 ·split
  ·rename_i h7;obtain⟨rfl,ac⟩:=h7;obtain⟨⟨kid,rfl⟩,rfl,rfl⟩:=dR hc.q (.inr (.inr rfl));obtain⟨g1,g2,g3⟩:=hc.kid (x:=kid) ζ;rw[ξ rfl] at g2;obtain⟨_,aa⟩:=g1.types I;have ad:=j1 u;have ab:=hu.fv;have Y:[kid].flatMap tyR=tyR kid:=by simp
   rw[Y,Am,Bo];have N:(bA (tfR u++tyR kid)).length≤30:=kH _ (by rw[κ];omega);have h1:=J kid (by omega) g1 nm (vT (bA (tfR u++tyR kid))) (UOk.var _);have Z:=aRz O I g1 g2 k (by omega) nm (bA (tfR u++tyR kid));have ae:=(vW O I k kid (by omega) g1 nm (vT (bA (tfR u++tyR kid))) (UOk.var _)).sz;have h2:=J _ (by omega) Z name u hu;refine aV4 (fun e=>absurd e (by decide)) (aJo N) (by rw[mSs,mSs,mSs,mSs];omega) (fun x hx=>?_) (fun b hb=>by cases hb) (fun a ha=>by cases ha);rw[ε.1 hx];exact h2
  ·exact aV4 (fun _=>rfl) (le_refl _) (le_refl _) (fun x hx=>J x (by have:=(hc.kid hx).2.2;omega) (hc.kid hx).1 name u hu) (fun x hx=>J x.body (by have:=(hc.bind hx).2;omega) (hc.bind hx).1 name u hu) (fun x hx=>J x.body (by have:=(hc.alt hx).2;omega) (hc.alt hx).1 name u hu)
def Fr (z:Str):Prop:=∃l,z=bA l
section
variable {sb:Core→Str→Core→Core}{P:Core→Prop}
theorem zO {far:List Str}:∀{ns:List Str}{st:List Str×List Core×List Str},(∀x∈st.1,x∈(jB sb far ns st).1)∧∀n∈ns,n∈(jB sb far ns st).1∨n∈far
 | [],st=>⟨fun _ h=>h,fun n hn=>by cases hn⟩
 | n::ns,st=>by
  obtain⟨h1,h2⟩:=zO (far:=far) (ns:=ns) (st:=dS sb far st n);have e:jB sb far (n::ns) st=jB sb far ns (dS sb far st n):=rfl;rw[e];refine⟨fun x hx=>h1 x ?_,fun m hm=>?_⟩
  ·unfold dS;split<;>exact τ.2 (.inl hx)
  ·rcases Ap.1 hm with rfl | hm
   ·by_cases hf:m∈far
    ·exact .inr hf
    ·refine .inl (h1 m ?_);unfold dS;rw[φ hf];exact τ.2 (.inr (ε.2 rfl))
   ·exact h2 m hm
structure RN (p:Core) (out:List Str) (q:Core):Prop where
 pf:∀x∈pfR q,x∈pfR p∨x∈out
 ms:∀σ,Sg σ→mS σ q≤mS σ p
theorem aE7 {far:List Str}(J:∀p n z,P p→Fr z→z.length≤30→P (sb p n (vC z))∧(∀x∈pfR (sb p n (vC z)),x∈pfR p∨x=z)∧∀σ,Sg σ→mS σ (sb p n (vC z))≤mS σ p):
  ∀{ns:List Str} {st:List Str×List Core×List Str},st.2.2.length+ns.length≤540000000000→(∀p∈st.2.1,P p)→A2 (fun p q=>P q∧RN p (jB sb far ns st).1 q) st.2.1 (jB sb far ns st).2.1
 | [],st,_,u=>by
  show A2 (fun p q=>P q∧RN p st.1 q) st.2.1 st.2.1;have key:∀l:List Core,(∀p∈l,P p)→A2 (fun p q=>P q∧RN p st.1 q) l l:=by
   intro l
   induction l with
   | nil=>intro _;exact .nil
   | cons p l ih=>intro h;exact .cons ⟨h p ζ,fun x hx=>.inl hx,fun _ _=>le_refl _⟩ (ih fun q I=>h q (ω _ I))
  exact key _ u
 | n::ns,st,hl,u=>by
  simp only[Ac] at hl;have O:=uM (sb:=sb) (far:=far) (st:=st) (n:=n);have e:jB sb far (n::ns) st=jB sb far ns (dS sb far st n):=rfl;rw[e];have hf:(bA st.2.2).length≤30:=kH _ (by omega);by_cases hn:n∈far
  ·have es:dS sb far st n=(st.1++[bA st.2.2],st.2.1.map (fun p=>sb p n (vC (bA st.2.2))),st.2.2++[bA st.2.2]):=by unfold dS;rw[ξ hn]
   rw[es] at O ⊢;have Y:∀p∈st.2.1.map (fun p=>sb p n (vC (bA st.2.2))),P p:=fun p hp=>by
    obtain⟨q,I,rfl⟩:=Af.1 hp;exact(J q n _ (u q I) ⟨_,rfl⟩ hf).1
   have N:=aE7 J (far:=far) (ns:=ns) (st:=(st.1++[bA st.2.2],st.2.1.map (fun p=>sb p n (vC (bA st.2.2))),st.2.2++[bA st.2.2])) (by omega) Y;have hout:=(zO (sb:=sb) (far:=far) (ns:=ns) (st:=(st.1++[bA st.2.2],st.2.1.map (fun p=>sb p n (vC (bA st.2.2))),st.2.2++[bA st.2.2]))).1 (bA st.2.2) (τ.2 (.inr (ε.2 rfl)))
   generalize jB sb far ns (st.1++[bA st.2.2],st.2.1.map (fun p=>sb p n (vC (bA st.2.2))),st.2.2++[bA st.2.2])=r at N hout ⊢;dsimp only at N;have key:∀(l:List Core) (m:List Core),(∀p∈l,P p)→A2 (fun p q=>P q∧RN p r.1 q) (l.map (fun p=>sb p n (vC (bA st.2.2)))) m→A2 (fun p q=>P q∧RN p r.1 q) l m:=by
    intro l
    induction l with
    | nil=>intro m _ h;cases h;exact .nil
    | cons p l Z=>
     intro m hp h;cases h with
     | cons h1 h2=>
      obtain⟨_,z2,z3⟩:=J p n _ (hp p ζ) ⟨_,rfl⟩ hf;refine .cons ⟨h1.1,fun x hx=>?_,fun σ hσ=>le_trans (h1.2.ms σ hσ) (z3 σ hσ)⟩ (Z _ (fun q I=>hp q (ω _ I)) h2);rcases h1.2.pf x hx with h | h
      ·rcases z2 x h with h | h
       ·exact .inl h
       ·exact .inr (by rw[h];exact hout)
      ·exact .inr h
   exact key _ _ u N
  ·have es:dS sb far st n=(st.1++[n],st.2.1,st.2.2):=by unfold dS;rw[φ hn]
   rw[es] at O ⊢;exact aE7 J (far:=far) (ns:=ns) (st:=(st.1++[n],st.2.1,st.2.2)) (by omega) u
structure RB (s:Str) (b:Core) (ns out:List Str) (p q:Core):Prop where
 pf:∀x∈pfR q,¬x∈out→(x∈pfR p∧¬x=s∧¬x∈ns)∨x∈pfR b
 ms:∀σ,Sg σ→mS σ b≤σ s→mS σ q≤mS σ p
theorem aNp {s:Str}{b:Core}{ns:List Str}{ps:List Core}(hP:∀p∈ps,P p)
  (hz:∀p n z,P p→Fr z→z.length≤30→P (sb p n (vC z))∧(∀x∈pfR (sb p n (vC z)),x∈pfR p∨x=z)∧∀σ,Sg σ→mS σ (sb p n (vC z))≤mS σ p)
  (hs:∀p,P p→(∀x∈pfR (sb p s b),(x∈pfR p∧¬x=s)∨x∈pfR b)∧∀σ,Sg σ→mS σ b≤σ s→mS σ (sb p s b)≤mS σ p)
  (hl:(ps.flatMap pfR).length+2*ns.length+(pfR b).length≤540000000000):A2 (RB s b ns (cE sb s b ns ps).1) ps (cE sb s b ns ps).2:=by
 unfold cE;split
 ·rename_i hin;have N:=aE7 hz (far:=pfR b) (ns:=ns) (st:=([],ps,ps.flatMap pfR++ns++pfR b)) (by simp only[κ];omega) hP;have Y:=(zO (sb:=sb) (far:=pfR b) (ns:=ns) (st:=([],ps,ps.flatMap pfR++ns++pfR b))).2
  generalize jB sb (pfR b) ns ([],ps,ps.flatMap pfR++ns++pfR b)=r at N Y ⊢;dsimp only at N ⊢;have key:∀(l m:List Core),A2 (fun p q=>P q∧RN p r.1 q) l m→A2 (RB s b ns r.1) l (m.map fun p=>sb p s b):=by
   intro l m h
   induction h with
   | nil=>exact .nil
   | cons h1 _ I=>
    refine .cons ⟨fun x hx u=>?_,fun σ hσ hb=>le_trans ((hs _ h1.1).2 σ hσ hb) (h1.2.ms σ hσ)⟩ I;rcases(hs _ h1.1).1 x hx with⟨h,Z⟩ | h
    ·rcases h1.2.pf x h with h | h
     ·by_cases J:x∈ns
      ·rcases Y x J with O | O
       ·exact absurd O u
       ·exact .inr O
      ·exact .inl ⟨h,Z,J⟩
     ·exact absurd h u
    ·exact .inr h
  exact key _ _ N
 ·rename_i hin;have key:∀l:List Core,(∀p∈l,p∈ps)→A2 (RB s b ns ns) l l:=by
   intro l
   induction l with
   | nil=>intro _;exact .nil
   | cons p l I=>
    intro h;refine .cons ⟨fun x hx u=>.inl ⟨hx,fun e=>hin ⟨C6.2 ⟨p,h p ζ,by rw[←e];exact hx⟩,by rw[←e];exact u⟩,u⟩,fun _ _ _=>le_refl _⟩ (I fun q hq=>h q (ω _ hq))
  exact key ps fun p hp=>hp
end
section
variable {σ:Str→Nat}
theorem a2g {l m:List Core}(h:A2 (fun p q=>mS σ q≤mS σ p) l m):mSs σ m≤mSs σ l:=by
 induction h with
 | nil=>exact le_refl _
 | cons r _ u=>rw[mSs,mSs];omega
theorem aVz:∀{ts:List Ty}{ns:List Str}{ps:List Core}{bs:List Bind},A2 (fun(b:Bind) n=>w30 n≤w30 b.name) bs ns→A2 (fun(b:Bind) p=>mS σ p≤mS σ b.body) bs ps→mSb σ (mkB ts ns ps)≤mSb σ bs
 | [],_,_,_,_,_=>by unfold mkB;rw[mSb];exact Ag _
 | t::ts,_,_,_,.nil,.nil=>by unfold mkB;rw[mSb];exact le_refl _
 | t::ts,n::ns,p::ps,.mk s ty c::bs,.cons h1 h2,.cons h3 h4=>by
  unfold mkB;rw[mSb,mSb];have:=aVz (ts:=ts) h2 h4;have h1:w30 n≤w30 s:=h1;have h3:mS σ p≤mS σ c:=h3;omega
end
structure PL (c:Core) (s:Str) (b r:Core):Prop where
 pf:∀x∈pfR r,(x∈pfR c∧¬x=s)∨x∈pfR b
 ms:∀σ,Sg σ→mS σ b≤σ s→mS σ r≤mS σ c
section
variable {sb:Core→Str→Core→Core}{X:Nat}{s:Str}{b:Core}{f n:Int}{nm:Str}{t:Ty}{ks:List Core}{bs:List Bind}{al:List Alt}
theorem aZ5 (I:f≠1) (hq:eJ (QL X) (.mk f n nm t ks bs al)) (hn:A2 NR (gvN f nm bs) (cE sb s b (gvN f nm bs) (ks++bs.map Bind.body)).1)
  (Z:A2 (RB s b (gvN f nm bs) (cE sb s b (gvN f nm bs) (ks++bs.map Bind.body)).1) (ks++bs.map Bind.body) (cE sb s b (gvN f nm bs) (ks++bs.map Bind.body)).2)
  (ha:∀a∈al,A2 NR a.vars (cE sb s b a.vars [a.body]).1∧A2 (RB s b a.vars (cE sb s b a.vars [a.body]).1) [a.body] (cE sb s b a.vars [a.body]).2):PL (.mk f n nm t ks bs al) s b (oL sb s b (.mk f n nm t ks bs al)):=by
 have hA:∀a∈al,RB s b a.vars (kY sb s b a).vars a.body (kY sb s b a).body∧A2 NR a.vars (kY sb s b a).vars:=fun a ha'=>by
  obtain⟨g2,g1⟩:=ha a ha';refine⟨?_,g2⟩;show RB s b a.vars (cE sb s b a.vars [a.body]).1 a.body ((cE sb s b a.vars [a.body]).2.headD a.body);cases hx:(cE sb s b a.vars [a.body]).2 with
  | nil=>rw[hx] at g1;cases g1
  | cons y l'=>
   rw[hx] at g1;cases g1 with
   | cons h _=>exact h
 have O:f=5→bs=[]:=fun h5=>(dR hq (.inl h5)).2.1
 rw[oL];unfold zNm zKs zBs;generalize cE sb s b (gvN f nm bs) (ks++bs.map Bind.body)=r at Z hn ⊢;obtain⟨J,Y⟩:=r;dsimp only at *;have hK:=Z.take ks.length;rw[take_left] at hK;have hB:=Z.drop ks.length;rw[drop_left] at hB;have hBl:(Y.drop ks.length).length=bs.length:=by rw[hB.length,θ]
 have u:=hn.length;have hgv:gvN f (if f=5 then J.headD nm else nm) (mkB (bs.map Bind.ty) J (Y.drop ks.length))=J:=by
  by_cases h5:f=5
  ·have:=O h5;subst this;unfold gvN at hn u ⊢;rw[ξ h5] at hn u;rw[ξ h5,ξ h5]
   match J,u with
   | [y],_=>show [y]++(mkB [] [y] _).map Bind.name=[y];unfold mkB;rfl
  ·unfold gvN at u ⊢;rw[φ h5,A0] at u;rw[θ] at u;rw[φ h5,A0,pN (by rw[θ];exact u) (by rw[θ];exact hBl)]
 refine⟨fun x hx=>?_,fun σ hσ hb=>?_⟩
 ·rcases(kN I).1 hx with⟨q,hq',h1,h2⟩ | ⟨a,ha',h1,h2⟩
  ·rw[hgv] at h2;have hqm:q∈Y:=by
    rcases τ.1 hq' with h | h
    ·exact Bb h
    ·obtain⟨y,hy,rfl⟩:=Af.1 h;exact B0 (lC hy).1
   obtain⟨p,hp,hr⟩:=Z.mem q hqm;rcases hr.pf x h1 h2 with⟨g1,g2,g3⟩ | h
   ·exact .inl ⟨(kN I).2 (.inl ⟨p,hp,g1,g3⟩),g2⟩
   ·exact .inr h
  ·obtain⟨a0,aa,rfl⟩:=Af.1 ha';rcases(hA a0 aa).1.pf x h1 h2 with⟨g1,g2,g3⟩ | h
   ·exact .inl ⟨(kN I).2 (.inr ⟨a0,aa,g1,g3⟩),g2⟩
   ·exact .inr h
 ·rw[mS,mS,φ I,φ I];have e1:w30 (if f=5 then J.headD nm else nm)≤w30 nm:=by
   split
   ·rename_i hf;unfold gvN at hn;rw[ξ hf] at hn;cases hn with
    | cons h _=>exact h.w
   ·exact le_refl _
  have e2:mSs σ (Y.take ks.length)≤mSs σ ks:=a2g (A2.mono (fun p q h=>h.ms σ hσ hb) hK);have e3:mSb σ (mkB (bs.map Bind.ty) J (Y.drop ks.length))≤mSb σ bs:=by
   by_cases hf:f=5
   ·have:=O hf;subst this;show mSb σ (mkB [] _ _)≤_;unfold mkB;rw[mSb];exact Ag _
   ·have h4:=hn;unfold gvN at h4;rw[φ hf,A0] at h4;exact aVz (A2.mapL (A2.mono (fun a b h=>h.w) h4)) (A2.mapL (A2.mono (fun p q h=>h.ms σ hσ hb) hB))
  have e4:mSa σ (al.map (kY sb s b))≤mSa σ al:=by
   clear ha hq
   induction al with
   | nil=>exact le_refl _
   | cons a l ihl=>
    obtain⟨af,an,anm,vs,N⟩:=a;obtain⟨g1,g2⟩:=hA _ ζ;have:=ihl fun x hx=>hA x (ω _ hx)
    have g3:=g1.ms σ hσ hb;have g4:=aGu g2;have e:kY sb s b (Alt.mk af an anm vs N)=.mk af an anm (kY sb s b (Alt.mk af an anm vs N)).vars (kY sb s b (Alt.mk af an anm vs N)).body:=rfl;have g3:mS σ (kY sb s b (Alt.mk af an anm vs N)).body≤mS σ N:=g3;have g4:((kY sb s b (Alt.mk af an anm vs N)).vars.map fun v=>1+w30 v).sum≤(vs.map fun v=>1+w30 v).sum:=g4;rw[Am,e,mSa,mSa];omega
  omega
end
theorem yF (hI:dJ 540000000000) {D M X:Nat}(I:M+D≤700000) (hX:31≤X):∀(k:Nat) (c:Core),m30 c≤k→CG D M X c→∀(s:Str) (b:Core),CG D M X b→PL c s b (dH k c s b):=by
 intro k
 induction k with
 | zero=>intro c h;have:=dD c;omega
 | succ k ih=>
 intro c h hc s b hb;have hBig:Big=250000000000:=rfl;have hsz:=hc.sz;have hszb:=hb.sz;have hpfb:=jH b;obtain⟨hbty,hbtl⟩:=hb.types I;obtain⟨f,n,nm,t,ks,bs,al⟩:=c;have hq:=hc.q;rw[dH];by_cases hv:f=1∧nm=s
 ·rw[ξ (show(Core.mk f n nm t ks bs al).form=1∧(Core.mk f n nm t ks bs al).name=s from hv)];obtain⟨rfl,rfl⟩:=hv;refine⟨fun x hx=>.inr hx,fun σ hσ hb'=>le_trans hb' ?_⟩;rw[mS,ξ rfl];omega
 rw[φ (show ¬((Core.mk f n nm t ks bs al).form=1∧(Core.mk f n nm t ks bs al).name=s) from hv)]
 let P:Core→Prop:=fun x=>m30 x<m30 (.mk f n nm t ks bs al)∧CG D M X x
 have Y:∀p,P p→∀N u,CG D M X u→PL p N u (dH k p N u):=fun p hp N u hb'=>ih p (by have:=hp.1;omega) hp.2 N u hb'
 have O:∀p,P p→∀N u,CG D M X u→TB X p N u (dH k p N u):=fun p hp N u hb'=>uU hI I hX k p (by have:=hp.1;omega) hp.2 N u hb'
 have hz:∀p m z,P p→Fr z→z.length≤30→P (dH k p m (vC z))∧(∀x∈pfR (dH k p m (vC z)),x∈pfR p∨x=z)∧∀σ,Sg σ→mS σ (dH k p m (vC z))≤mS σ p:=fun p m z hp hF J=>by
  have hcg:=CG.vC (D:=D) (M:=M) J hX;have h1:=O p hp m (vC z) hcg;have h2:=h1.r0 J;have h3:=Y p hp m (vC z) hcg;refine⟨⟨Cx h2.sz hp.1,h2.cg hp.2 h1.rx.q⟩,fun x hx=>(h3.pf x hx).imp And.left fun h=>?_,fun σ hσ=>h3.ms σ hσ ?_⟩
  ·have:pfR (vC z)=[z]:=rfl;rw[this] at h;exact ε.1 h
  ·rw[a5n];obtain⟨l,rfl⟩:=hF;have:=hσ.fr l J;have:=hσ.ge m;have:=jV m;omega
 have hzR:∀p m z,P p→z.length≤30→P (dH k p m (vC z))∧R0 p (dH k p m (vC z)):=fun p m z hp J=>by
  have h1:=O p hp m (vC z) (CG.vC J hX);have h2:=h1.r0 J;exact⟨⟨Cx h2.sz hp.1,h2.cg hp.2 h1.rx.q⟩,h2⟩
 have hPq:∀p,P p→eJ (QL X) p:=fun p hp=>hp.2.q
 have hSR:∀p,P p→RX X b p (dH k p s b):=fun p hp=>(O p hp s b hb).rx
 have hs:∀p,P p→(∀x∈pfR (dH k p s b),(x∈pfR p∧¬x=s)∨x∈pfR b)∧∀σ,Sg σ→mS σ b≤σ s→mS σ (dH k p s b)≤mS σ p:=fun p hp=>⟨(Y p hp s b hb).pf,(Y p hp s b hb).ms⟩
 by_cases hf1:f=1
 ·subst hf1;obtain⟨rfl,rfl,rfl⟩:=vM hq rfl;rw[φ (fun h=>absurd h.1 (by show ¬(1:Int)=7;decide))];have hne:¬nm=s:=fun e=>hv ⟨rfl,e⟩
  have e:oL (dH k) s b (.mk 1 n nm t [] [] [])=.mk 1 n nm t [] [] []:=by
   rw[oL];unfold zNm zKs zBs;rw[φ (by decide)];have:(([]:List Core)++([]:List Bind).map Bind.body)=[]:=rfl;rw[this];have hp:cE (dH k) s b (gvN 1 nm []) []=(gvN 1 nm [],[]):=by
    unfold cE;rw[φ fun h=>by cases h.1]
   rw[hp];rfl
  rw[e]
  exact⟨fun x hx=>.inl ⟨hx,fun e=>hne (by
   have:pfR (.mk 1 n nm t [] [] [])=[nm]:=rfl
   rw[this] at hx;rw[←ε.1 hx,e])⟩,fun _ _ _=>le_refl _⟩
 have Z:∀nm1 ks1,(f=5→nm1=nm)→eJ (QL X) (.mk f n nm1 t ks1 bs al)→(∀x∈ks1,P x)→dA ks1≤dA ks→PL (.mk f n nm1 t ks1 bs al) s b (oL (dH k) s b (.mk f n nm1 t ks1 bs al)):=fun nm1 ks1 _ hq1 hP1 hkm=>by
  have hP2:∀x∈bs,P x.body:=fun x hx=>⟨(hc.bind hx).2,(hc.bind hx).1⟩
  have hP3:∀x∈al,P x.body:=fun x hx=>⟨(hc.alt hx).2,(hc.alt hx).1⟩
  have hPs:∀p∈ks1++bs.map Bind.body,P p:=fun p hp=>by
   rcases τ.1 hp with hp | hp
   ·exact hP1 p hp
   ·obtain⟨x,hx,rfl⟩:=Af.1 hp;exact hP2 x hx
  have hm:=hsz;rw[m30] at hm;have hfm:=aIj (ks1++bs.map Bind.body);rw[sQ] at hfm;have hbsb:=uL bs;have hgv:=aE4 (f:=f) (nm:=nm1) (bs:=bs);have hgl:((ks1++bs.map Bind.body).flatMap pfR).length+2*(gvN f nm1 bs).length+(pfR b).length≤540000000000:=by omega
  have hal':∀a∈al,(([a.body]:List Core).flatMap pfR).length+2*a.vars.length+(pfR b).length≤540000000000:=fun a ha=>by
   have h1:=fE ha;have h2:=mD a.vars;have h3:=jH a.body;simp only[Ca,Ck,Ax];omega
  have hN:=(u0 (sb:=dH k) (P:=P) (X:=X) (s:=s) (b:=b) (ns:=gvN f nm1 bs) hPs hPq hzR hSR hgl).2
  have hRB:=aNp (sb:=dH k) (P:=P) (s:=s) (b:=b) (ns:=gvN f nm1 bs) hPs hz hs hgl;exact aZ5 hf1 hq1 hN hRB fun a ha=>⟨(u0 (sb:=dH k) (P:=P) (X:=X) (s:=s) (b:=b) (fun p hp=>by rw[ε.1 hp];exact hP3 a ha) hPq hzR hSR (hal' a ha)).2,aNp (sb:=dH k) (P:=P) (s:=s) (b:=b) (fun p hp=>by rw[ε.1 hp];exact hP3 a ha) hz hs (hal' a ha)⟩
 have hPk:∀x∈ks,P x:=fun x hx=>⟨(hc.kid hx).2.2,(hc.kid hx).1⟩
 by_cases hcl:f=7∧s∈pfR (.mk f n nm t ks bs al)
 ·rw[ξ (show(Core.mk f n nm t ks bs al).form=7∧s∈pfR (Core.mk f n nm t ks bs al) from hcl),aR2];by_cases hnb:nm∈tyR b
  ·rw[ξ hnb];obtain⟨rfl,hin⟩:=hcl;obtain⟨⟨kid,rfl⟩,rfl,rfl⟩:=dR hq (.inr (.inr rfl));obtain⟨g1,g2,g3⟩:=hc.kid (x:=kid) ζ;rw[ξ rfl] at g2;obtain⟨_,hktl⟩:=g1.types I;obtain⟨q1,_⟩:=bB.1 hq;have efm:[kid].flatMap tyR=tyR kid:=by simp
   rw[efm,Am,Bo];have aa:(bA (tyR b++tyR kid)).length≤30:=kH _ (by rw[κ];omega);have hzn:=zQ (tyR b++tyR kid);generalize bA (tyR b++tyR kid)=z at aa hzn;have hS1:=vW hI I (m30 kid) kid (le_refl _) g1 nm (vT z) (UOk.var z);have ab:=aRz hI I g1 g2 (m30 kid) (le_refl _) nm z;have hq1:eJ (QL X) (.mk 7 n z t [sTR (m30 kid) kid nm (vT z)] [] []):=by
    refine bB.2 ⟨⟨q1.1,fun h=>⟨(q1.2.1 h).1,hzn⟩,q1.2.2.1,fun p hp=>(by cases hp),le_trans (zI (aJo aa) rfl rfl) q1.2.2.2.2.1,fun e=>absurd e (by decide),fun p hp=>(by cases hp),fun p hp=>(by cases hp)⟩,fun x hx=>?_,fun x hx=>(by cases hx),fun x hx=>(by cases hx)⟩;rw[ε.1 hx];exact ab.q
   have hr:=Z z [sTR (m30 kid) kid nm (vT z)] (fun e=>absurd e (by decide)) hq1 (fun x hx=>by rw[ε.1 hx];exact⟨Cx hS1.sz g3,ab⟩) (by rw[dA,dA,dA,dA];have:=hS1.sz;omega);refine⟨fun x hx=>(hr.pf x hx).imp (fun h=>⟨?_,h.2⟩) id,fun σ hσ hb'=>le_trans (hr.ms σ hσ hb') ?_⟩
   ·rcases(kN (by decide)).1 h.1 with⟨p,hp,h1,h2⟩ | ⟨a,ha,_⟩
    ·have hpe:p=sTR (m30 kid) kid nm (vT z):=by simpa using hp
     rw[hpe,aNs] at h1;exact(kN (by decide)).2 (.inl ⟨kid,by simp,h1,by unfold gvN;rw[φ (by decide)];simp⟩)
    ·cases ha
   ·rw[mS,mS,φ (by decide),φ (by decide),mSs,mSs,mSs,mSs,mSb,mSa];have:=a2j hI I (σ:=σ) (m30 kid) kid (le_refl _) g1 nm (vT z) (UOk.var z);have:=aJo (s:=nm) aa;omega
  ·rw[φ hnb];exact Z nm ks (fun _=>rfl) hq hPk (le_refl _)
 ·rw[φ (show ¬((Core.mk f n nm t ks bs al).form=7∧s∈pfR (Core.mk f n nm t ks bs al)) from hcl)];exact Z nm ks (fun _=>rfl) hq hPk (le_refl _)
theorem aZj {sb:Core→Str→Core→Core}{f n:Int}{nm s:Str}{b:Core}{t:Ty}{ks:List Core}{al:List Alt}(h1:¬f=1) (h5:¬f=5) (h7:¬f=7) (h8:¬f=8) (hfw:aU Tryz.prog 81 [.pa (aB (.mk f n nm t ks [] al))] [] (B false) [])
  (hk:∀x∈ks,aU Tryz.prog 33 [.pa (aB x),Go.AM.T s,.pa (aB b)] [] (.pa (aB (sb x s b))) []) (hkl:ks.length≤500000000000) (hal0:al.length≤500000000000)
  (ha:∀a∈al,aU Tryz.prog 82 [aV a.vars,iV [a.body],Go.AM.T s,.pa (aB b)] [] (.tup [aV (cE sb s b a.vars [a.body]).1,iV (cE sb s b a.vars [a.body]).2]) []):
  aU Tryz.prog 33 [.pa (aB (.mk f n nm t ks [] al)),Go.AM.T s,.pa (aB b)] [] (.pa (aB (.mk f n nm t (ks.map fun x=>sb x s b) [] (al.map (kY sb s b))))) []:=by
 have Z:(aO ks).length=ks.length:=by rw[aR,θ]
 have aa:(bV al).length=al.length:=by rw[bF,θ]
 refine bQ (n:=228) tok Tryz.func33 rfl rfl rfl ?_;refine sg rfl (a8 (sgh [(1,.pc (B false))] rfl (aA rfl nofun (fun _=>aD (a8 (sg rfl (aC (sg rfl (aA rfl (fun hb=>absurd (ψ hb) h1) (fun _=>sg rfl (aA rfl (fun hb=>absurd (ψ hb) h5) (fun _=>sg rfl (aA rfl (fun hb=>absurd (ψ hb) h7) (fun _=>sg rfl (aA rfl (fun hb=>absurd (ψ hb) h8) (fun _=>aD (sg rfl (AWp.sub (Sub.own (t:=18) (id:=500) 37 10 rfl rfl) ?_))))))))))))))))));refine a8 (sg rfl (aC ?_))
 let C0:List R:=[.c (.int .i64 f),.c (.int .i64 n),.c (.str nm),.c (.int .i64 t.form),.c (.int .i64 t.n),.c (.str t.name),.c (.sl 4 (fV t))]
 refine aK (fun i:Nat=>mk [(1,Go.AM.T s),(3,.one (.vp 3 0)),(5,.one (.vp 5 0)),(6,.one (.vp 6 0)),(18,.one (.hs 500 0 i i)),(19,I .i64 i)]
  [(3,.var 37 (C0++[.c (.sl 10 (aO ks)),.c (.sl 15 (aQ [])),.c (.sl 14 (bV al))])),(5,.var 37 (aW b)),(6,.var 37 bO),(500,.arr 37 10 ((ks.take i).map fun x=>aB (sb x s b)) 0)]) (fun i=>i≤ks.length) (fun i=>ks.length-i) 0 (Ag _) sl ?_
 intro i hi;refine a8 (sg rfl (aA rfl (fun hb=>?_) (fun hb=>?_)))
 ·have J:i<ks.length:=ltD hb Z;obtain⟨x,N⟩:=aJ J;have hki':=dB N;have he:=hk x (η N);have u:=eC (fun x=>aB (sb x s b)) N;exact aD (a8 (aC (ag [(4,.row i (aB x)),(8,.pc (.pa (aB (sb x s b)))),(9,.all)] rfl (ag [] rfl ⟨i+1,J,by dsimp only;omega,sl⟩))))
 have O:i=ks.length:=geD hb Z hi;subst O;have ab:(ks.take ks.length).map (fun x=>aB (sb x s b))=aO (ks.map fun x=>sb x s b):=by rw[Al,aR,A8];rfl
 rw[ab];refine aL (AWp.sub (Sub.freeze (id:=500) rfl) ?_);refine sg rfl (sg rfl (AWp.sub (Sub.own (t:=20) (id:=502) 88 14 rfl rfl) ?_));refine a8 (sg rfl (aC ?_))
 refine aK (fun i:Nat=>mk [(1,Go.AM.T s),(3,.one (.vp 3 0)),(5,.one (.vp 5 0)),(6,.one (.vp 6 0)),(20,.one (.hs 502 0 i i)),(21,I .i64 i)]
  [(3,.var 37 (C0++[.hs 500 0 ks.length ks.length,.c (.sl 15 (aQ [])),.c (.sl 14 (bV al))])),(5,.var 37 (aW b)),(6,.var 37 bO),(500,.arr 37 10 (aO (ks.map fun x=>sb x s b)) 2),(502,.arr 88 14 ((al.take i).map fun a=>c7 (kY sb s b a)) 0)]) (fun i=>i≤al.length) (fun i=>al.length-i) 0 (Ag _) sl ?_
 intro j hj;refine a8 (sg rfl (aA rfl (fun hb=>?_) (fun hb=>?_)))
 ·have J:j<al.length:=ltD hb aa;obtain⟨a,Y⟩:=aJ J;have hai':=fZ Y;have ad:=ha a (η Y);have u:=eC (fun a:Alt=>c7 (kY sb s b a)) Y;obtain⟨g1,g2⟩:=nQ (sb:=sb) (s:=s) (b:=b) (ns:=a.vars) (ps:=[a.body]);have ae:kY sb s b a=.mk a.form a.n a.name (cE sb s b a.vars [a.body]).1 ((cE sb s b a.vars [a.body]).2.headD a.body):=rfl;obtain⟨af,an,anm,av,ac⟩:=a;dsimp only[Alt.body,Alt.form,Alt.n,Alt.name,Alt.vars] at *;rw[ae] at u;generalize cE sb s b av [ac]=r at *;obtain⟨o1,o2⟩:=r;dsimp only at *;obtain⟨c',rfl⟩:∃c',o2=[c']:=Bm.1 g2;have u:(al.take j).map (fun a=>c7 (kY sb s b a))++[c7 (.mk af an anm o1 c')]=(al.take (j+1)).map fun a=>c7 (kY sb s b a):=u
  refine aD (a8 (aC (sgh [(3,.row j (c7 (.mk af an anm av ac)))] rfl (skh 7 [(4,.all)] rfl (kc ad ?_)))));exact kz 5 rfl (sg rfl (sgh [(1,.row 0 (aB c'))] rfl (ag [(2,.all)] rfl (ag [] rfl ⟨j+1,J,by dsimp only;omega,sl⟩))))
 have O:j=al.length:=geD hb aa hj;subst O;have hAs:(al.take al.length).map (fun a=>c7 (kY sb s b a))=bV (al.map (kY sb s b)):=by rw[Al,bF,A8];rfl
 rw[hAs];refine aL (AWp.sub (Sub.freeze (id:=502) rfl) ?_);refine sg rfl (sg rfl ?_);have h1:ks.length=(aO (ks.map fun x=>sb x s b)).length:=by rw[aR,θ,θ]
 have h3:al.length=(bV (al.map (kY sb s b))).length:=by rw[bF,θ,θ]
 exact aE (rtC trw)
theorem aEg {X:Nat}(j:Nat):∀(c:Core) (s:Str) (b:Core),eJ (QL X) c→¬s∈pfR c→dH (j+1) c s b=c
 | .mk f n nm t ks bs al,s,b,hw,hs=>by
  rw[dH,φ (fun h:(Core.mk f n nm t ks bs al).form=7∧s∈pfR (Core.mk f n nm t ks bs al)=>hs h.2)];by_cases h1:f=1
  ·obtain⟨rfl,rfl,rfl⟩:=vM hw h1;have I:¬nm=s:=fun h=>hs (by rw[pfR,ξ h1,h];exact ζ)
   rw[φ (fun h:(Core.mk f n nm t [] [] []).form=1∧(Core.mk f n nm t [] [] []).name=s=>I h.2),oL];unfold zNm zKs zBs;rw[φ (show ¬f=5 by omega)];have u:cE (dH j) s b (gvN f nm []) ([]++([]:List Bind).map Bind.body)=(gvN f nm [],[]):=by
    unfold cE;rw[φ]
    ·rfl
    ·exact fun h=>by cases h.1
   rw[u];rfl
  ·rw[φ (fun h:(Core.mk f n nm t ks bs al).form=1∧_=>h1 h.1),oL];unfold zNm zKs zBs;have u:cE (dH j) s b (gvN f nm bs) (ks++bs.map Bind.body)=(gvN f nm bs,ks++bs.map Bind.body):=by
    unfold cE;rw[φ];exact fun h=>hs (aX9 h1 h.1 h.2)
   rw[u];have J:al.map (kY (dH j) s b)=al:=by
    conv=>rhs;rw[←map_id al]
    refine Bf fun a ha=>?_
    have N:cE (dH j) s b a.vars [a.body]=(a.vars,[a.body]):=by
     unfold cE;rw[φ];exact fun h=>hs (a17 h1 ha (by simpa using h.1) h.2)
    unfold kY;rw[N];cases a;rfl
   rw[J];dsimp only;rw[take_left,drop_left];by_cases h5:f=5
   ·obtain⟨_,rfl,rfl⟩:=dR hw (.inl h5);rw[ξ h5];have:(gvN f nm []).headD nm=nm:=by unfold gvN;rw[ξ h5];rfl
    rw[this];rfl
   ·rw[φ h5];have:gvN f nm bs=bs.map Bind.name:=by unfold gvN;rw[φ h5,A0]
    rw[this,aOe]
theorem aSg {X k:Nat}{c:Core}{s:Str}{b:Core}(hk:m30 c≤k) (h:eJ (QL X) c) (hs:¬s∈pfR c):dH k c s b=c:=by
 obtain⟨j,rfl⟩:∃j,k=j+1:=⟨k-1,by have:=dD c;omega⟩
 exact aEg j c s b h hs
theorem aQj (hI:dJ 540000000000) {D M X:Nat}(J:M+D≤700000) (hX:31≤X):∀(k:Nat) (c:Core),m30 c≤k→CG D M X c→∀(s:Str) (b:Core),CG D M X b→aU Tryz.prog 33 [.pa (aB c),Go.AM.T s,.pa (aB b)] [] (.pa (aB (dH k c s b))) []:=by
 intro k
 induction k with
 | zero=>intro c h;have:=dD c;omega
 | succ k ih=>
 intro c h hc s b hb;have hcs:=c8 c;have hbs:=c8 b;have hsz:=hc.sz;have hszb:=hb.sz;have hBig:Big=250000000000:=rfl;have hpfb:=jH b;have hpfc:=jH c;have u:=a34 c;rw[aWk hc.q] at u;have N:=aAj c hc.q (by omega);have hfreeb:=aAj b hb.q (by omega);obtain⟨hbty,hbtl⟩:=hb.types J;have hm31:=dD c;obtain⟨f,n,nm,t,ks,bs,al⟩:=c;have hq:=hc.q;obtain⟨⟨hok,_⟩,_⟩:=bB.1 hq;rw[θ,θ] at hok
 let P:Core→Prop:=fun x=>m30 x<m30 (.mk f n nm t ks bs al)∧CG D M X x
 have hz:∀p m z,P p→z.length≤30→P (dH k p m (vC z)):=fun p m z hp hzl=>by
  have h1:=uU hI J hX k p (by have:=hp.1;omega) hp.2 m (vC z) (CG.vC hzl hX);have h2:=h1.r0 hzl;exact⟨Cx h2.sz hp.1,h2.cg hp.2 h1.rx.q⟩
 have aa:∀p,P p→∀n' b',CG D M X b'→aU Tryz.prog 33 [.pa (aB p),Go.AM.T n',.pa (aB b')] [] (.pa (aB (dH k p n' b'))) []:=fun p hp n' b' hb'=>ih p (by have:=hp.1;omega) hp.2 n' b' hb'
 have hOk:∀ps,(∀p∈ps,P p)→RdOk (dH k) P s b ps:=fun ps hps=>⟨hps,fun p hp=>aAj p (hps p hp).2.q (by have:=c8 p;have:=(hps p hp).1;omega),hfreeb,hz,fun p m z hp hzl=>aa p hp m _ (CG.vC hzl hX),fun p hp=>aa p hp s b hb⟩
 have hm:=hsz;rw[m30] at hm;have hbsb:=uL bs;have hksl:=zH ks;have hla:∀a∈al,(([a.body]:List Core).flatMap pfR).length+2*a.vars.length+(pfR b).length≤540000000000:=fun a ha=>by
  have h1:=fE ha;have h2:=mD a.vars;have h3:=jH a.body;simp only[Ca,Ck,Ax];omega
 rw[dH];by_cases h1:f=1
 ·subst h1;obtain⟨rfl,rfl,rfl⟩:=vM hq rfl;have h:=aZm (s:=s) (b:=b) u;by_cases hv:nm=s
  ·rw[ξ hv] at h;rw[ξ (show(Core.mk 1 n nm t [] [] []).form=1∧(Core.mk 1 n nm t [] [] []).name=s from⟨rfl,hv⟩)];exact h
  ·rw[φ hv] at h;have e:=aEg k (.mk 1 n nm t [] [] []) s b hq (by rw[pfR,ξ rfl];simpa using fun h=>hv h.symm);rw[dH] at e;rw[e];exact h
 rw[φ (show ¬((Core.mk f n nm t ks bs al).form=1∧(Core.mk f n nm t ks bs al).name=s) from fun h=>h1 h.1)];by_cases h7:f=7
 ·subst h7;obtain⟨⟨kid,rfl⟩,rfl,rfl⟩:=dR hq (.inr (.inr rfl));obtain⟨g1,g2,g3⟩:=hc.kid (x:=kid) ζ;rw[ξ rfl] at g2;by_cases hin:s∈pfR (.mk 7 n nm t [kid] [] [])
  ·rw[ξ (show(Core.mk 7 n nm t [kid] [] []).form=7∧_ from⟨rfl,hin⟩),aR2];have I:∀O,gvN 7 O []=[]:=fun O=>by unfold gvN;rw[φ (by decide)];rfl
   have hink:s∈pfR kid:=by
    rw[pfR,φ (by decide),jS,jS,kP,jQ,I,aHh,jZ] at hin;rcases hin with h | h
    ·cases h
    ·exact h.1
   have easm:∀O k1,s∈pfR k1→oL (dH k) s b (.mk 7 n O t [k1] [] [])=.mk 7 n O t [dH k k1 s b] [] []:=fun O k1 hk1=>by
    rw[oL];unfold zNm zKs zBs;rw[I,φ (by decide)];have e:cE (dH k) s b [] ([k1]++([]:List Bind).map Bind.body)=([],[dH k k1 s b]):=by
     unfold cE;rw[ξ ⟨by simpa using hk1,by simp⟩];rfl
    rw[e];rfl
   have hTk:=v7 J g1;have hTl:=g1.sc;have hTb:=v7 J hb;have hTbO:=aKr J hb;have efm:[kid].flatMap tyR=tyR kid:=by simp
   by_cases hnb:nm∈tyR b
   ·rw[ξ hnb,efm,Am,Bo];have hz30:(bA (tyR b++tyR kid)).length≤30:=kH _ (by rw[κ];omega);generalize hze:bA (tyR b++tyR kid)=z at hz30;have Y:=vW hI J (m30 kid) kid (le_refl _) g1 nm (vT z) (UOk.var z);have hR1:=a3o hI J (m30 kid) kid (le_refl _) g1 nm (vT z) (UOk.var z) (by show tW fH (.mk 2 0 z []) r0≤_;rw[tW,ξ rfl];exact Ag _);have hkid1:CG D M X (sTR (m30 kid) kid nm (vT z)):=by
     refine⟨Y.q,?_,?_,le_trans Y.sz g1.sz⟩
     ·have:=Y.cw fH 0 r0;have e:tW fH (vT z) r0=0:=rfl;rw[e,yM] at this;exact le_trans this g1.dep
     ·have h1:=dL (a:=z::tyR kid) (c:=sTR (m30 kid) kid nm (vT z)) fun x hx=>by
       rcases Y.ty x hx with h | h
       ·exact ω _ h
       ·rw[aA7] at h;rw[ε.1 h];exact ζ
      rw[Ac] at h1;have h2:=Y.tl;omega
    have hR2:=ih (sTR (m30 kid) kid nm (vT z)) (by have:=Y.sz;omega) hkid1 s b hb;rw[easm _ _ (by rw[aNs];exact hink)];exact aIy u N (by omega) hin hTb hTbO hTk (by omega) (by omega) (fun _=>⟨hze.symm,hR1⟩) (fun h=>absurd hnb h) hR2
   ·rw[φ hnb,easm _ _ hink];have hR2:=ih kid (by omega) g1 s b hb;exact aIy u N (by omega) hin hTb hTbO hTk (by omega) (by omega) (fun h=>absurd h hnb) (fun _=>⟨rfl,rfl⟩) hR2
  ·have e:=aEg k (.mk 7 n nm t [kid] [] []) s b hq hin;rw[dH,φ (show ¬((Core.mk 7 n nm t [kid] [] []).form=1∧_) from fun h=>h1 h.1)] at e;rw[e];exact aUe u N (by omega) hin
 rw[φ (show ¬((Core.mk f n nm t ks bs al).form=7∧s∈pfR (Core.mk f n nm t ks bs al)) from fun h=>h7 h.1)];have hP1:∀x∈ks,P x:=fun x hx=>⟨(hc.kid hx).2.2,(hc.kid hx).1⟩
 have hP2:∀x∈bs,P x.body:=fun x hx=>⟨(hc.bind hx).2,(hc.bind hx).1⟩
 have hP3:∀x∈al,P x.body:=fun x hx=>⟨(hc.alt hx).2,(hc.alt hx).1⟩
 have hPs:∀p∈ks++bs.map Bind.body,P p:=fun p hp=>by
  rcases τ.1 hp with hp | hp
  ·exact hP1 p hp
  ·obtain⟨x,hx,rfl⟩:=Af.1 hp;exact hP2 x hx
 have hfm:=aIj (ks++bs.map Bind.body);rw[sQ] at hfm;have hgv:=aE4 (f:=f) (nm:=nm) (bs:=bs);have Z:=aCy (ns:=gvN f nm bs) (hOk _ hPs) (by omega) (by rw[κ,θ];omega);obtain⟨l1,l2⟩:=nQ (sb:=dH k) (s:=s) (b:=b) (ns:=gvN f nm bs) (ps:=ks++bs.map Bind.body);rw[oL];unfold zNm zKs zBs;by_cases h5:f=5
 ·subst h5;obtain⟨⟨kid,rfl⟩,rfl,rfl⟩:=dR hq (.inl rfl);have I:gvN 5 nm []=[nm]:=by unfold gvN;rw[ξ rfl];rfl
  rw[I] at Z l1 l2 ⊢;have Z:aU Tryz.prog 82 [aV [nm],iV [kid],Go.AM.T s,.pa (aB b)] [] (.tup [aV (cE (dH k) s b [nm] ([kid]++([]:List Bind).map Bind.body)).1,iV (cE (dH k) s b [nm] ([kid]++([]:List Bind).map Bind.body)).2]) []:=Z;generalize cE (dH k) s b [nm] ([kid]++([]:List Bind).map Bind.body)=r at *;obtain⟨r1,r2⟩:=r;obtain⟨O,rfl⟩:∃x,r1=[x]:=Bm.1 l1;obtain⟨kid',rfl⟩:∃x,r2=[x]:=Bm.1 (by simpa using l2);exact aZl u Z
 by_cases h8:f=8
 ·subst h8;unfold okF at hok;rw[φ (by decide),φ (by decide),ξ rfl] at hok;obtain⟨hk1,ha1⟩:=ψ hok;obtain rfl:=Az ha1;obtain⟨kid,rfl⟩:=Bm.1 hk1;have I:gvN 8 nm bs=bs.map Bind.name:=by unfold gvN;rw[φ (by decide),A0]
  rw[I] at Z l1 l2 ⊢;have Z:aU Tryz.prog 82 [aV (bs.map Bind.name),iV (kid::bs.map Bind.body),Go.AM.T s,.pa (aB b)] [] (.tup [aV (cE (dH k) s b (bs.map Bind.name) ([kid]++bs.map Bind.body)).1,iV (cE (dH k) s b (bs.map Bind.name) ([kid]++bs.map Bind.body)).2]) []:=Z;generalize cE (dH k) s b (bs.map Bind.name) ([kid]++bs.map Bind.body)=r at *;obtain⟨r1,r2⟩:=r;dsimp only at l1 l2 Z ⊢;rw[θ] at l1;simp only[κ,Ac,length_nil,θ] at l2;cases r2 with
  | nil=>simp at l2;omega
  | cons kid' ps'=>
   have hbl:bs.length≤500000000000:=by omega
   have hp2:ps'.length=bs.length:=by
    simp only[Ac] at l2;omega
   exact aZk u Z l1 hp2 hbl
 have hbs0:bs=[]:=by
  refine Az ?_;unfold okF at hok;split at hok
  ·exact(ψ hok).2.1
  ·split at hok
   ·exact(ψ hok).2.1
   ·split at hok
    ·exact(ψ hok).2
    ·exact(ψ hok).2.1
 subst hbs0;have I:gvN f nm []=[]:=by unfold gvN;rw[φ h5];rfl
 rw[I,φ h5];have ek:(cE (dH k) s b [] (ks++([]:List Bind).map Bind.body)).2.take ks.length=ks.map fun x=>dH k x s b:=by
  rw[Bo,Ax];unfold cE;by_cases hp:sB s [] ks
  ·rw[ξ hp];show(ks.map fun p=>dH k p s b).take ks.length=_;rw[Ba (by rw[θ];exact le_refl _)]
  ·rw[φ hp];show ks.take ks.length=_;rw[Al]
   conv=>lhs;rw[←map_id ks]
   refine Bf fun x hx=>?_
   refine(aSg (k:=k) (by have:=(hP1 x hx).1;omega) (hP1 x hx).2.q fun hin=>hp ⟨C6.2 ⟨x,hx,hin⟩,by simp⟩).symm
 rw[ek];have eb:mkB (([]:List Bind).map Bind.ty) (cE (dH k) s b [] (ks++([]:List Bind).map Bind.body)).1 ((cE (dH k) s b [] (ks++([]:List Bind).map Bind.body)).2.drop ks.length)=[]:=rfl;rw[eb];have hall:=aH5 al;exact aZj h1 h5 h7 h8 u (fun x hx=>aa x (hP1 x hx) s b hb) (by omega) (by omega) fun a ha=>aCy (hOk _ fun p hp=>by rw[ε.1 hp];exact hP3 a ha) (hla a ha) (by simp)
def wI {α:Type}(L:List α) (i:Nat):List α:=L.reverse.take i++((L.drop i).take (L.length-2*i)++L.reverse.drop (L.length-i))
section
variable {α:Type}{L:List α}{i:Nat}
theorem yO (h:2*i≤L.length) (k:Nat):(wI L i)[k]?=if k<i then L.reverse[k]? else if k<L.length-i then L[k]? else L.reverse[k]?:=by
 have h1:(L.reverse.take i).length=i:=by rw[Ar,List.length_reverse];omega
 have h2:((L.drop i).take (L.length-2*i)).length=L.length-2*i:=by rw[Ar,B6];omega
 unfold wI;by_cases hk:k<i
 ·rw[ξ hk,Bd (by omega),List.getElem?_take_of_lt hk]
 ·rw[φ hk,A6 (by omega),h1];by_cases u:k<L.length-i
  ·rw[ξ u,Bd (by omega),List.getElem?_take_of_lt (by omega),Ao];congr 1;omega
  ·rw[φ u,A6 (by omega),h2,Ao];congr 1;omega
theorem aG4 (h:2*i≤L.length):(wI L i).length=L.length:=by
 unfold wI;simp only[κ,Ar,List.length_reverse,B6];omega
theorem aMx (h:2*i+1<L.length) {x y:α}(hx:(wI L i)[i]?=some x) (u:(wI L i)[L.length-1-i]?=some y):((wI L i).set i y).set (L.length-1-i) x=wI L (i+1):=by
 refine Bx fun k=>?_
 have hl:=aG4 (L:=L) (i:=i) (by omega);rw[yO (by omega)] at hx u;rw[φ (by omega),ξ (by omega)] at hx u;rw[List.getElem?_set,List.getElem?_set,Cq,hl,yO (by omega),yO (by omega)];have I:∀j,j<L.length→L.reverse[j]?=L[L.length-1-j]?:=fun j hj=>List.getElem?_reverse hj
 by_cases h1:L.length-1-i=k
 ·subst h1;rw[ξ rfl,ξ (by omega),φ (by omega),φ (by omega),I _ (by omega),←hx];congr 1;omega
 ·rw[φ h1];by_cases h2:i=k
  ·subst h2;rw[ξ rfl,ξ (by omega),ξ (by omega),I _ (by omega),←u]
  ·rw[φ h2];by_cases h3:k<i
   ·rw[ξ h3,ξ (by omega)]
   ·rw[φ h3,φ (show ¬k<i+1 by omega)];by_cases h4:k<L.length-(i+1)
    ·rw[ξ (by omega),ξ h4]
    ·rw[φ (show ¬k<L.length-i by omega),φ h4]
theorem aSn (h:2*i≤L.length) (h2:L.length≤2*i+1):wI L i=L.reverse:=by
 refine Bx fun k=>?_
 rw[yO h];have u:∀j,j<L.length→L.reverse[j]?=L[L.length-1-j]?:=fun j hj=>List.getElem?_reverse hj
 by_cases h3:k<i
 ·rw[ξ h3]
 ·rw[φ h3];by_cases h4:k<L.length-i
  ·rw[ξ h4,u k (by omega)];congr 1;omega
  ·rw[φ h4]
theorem aMw:wI L 0=L:=by unfold wI;simp
end
theorem aQk (L:List Core) (hL:L.length≤570000000000):aU Tryz.prog 103 [.one (.hs 720 0 L.length L.length)] [(720,.arr 37 10 (L.map aB) 0)] (.tup []) [(720,.arr 37 10 (L.reverse.map aB) 0)]:=by
 have hkL:(L.map aB).length=L.length:=θ _;refine bQ (n:=28) tok Tryz.func103 rfl rfl rfl ?_;refine sg rfl (aC (aK (fun i:Nat=>mk [(0,.one (.hs 720 0 L.length L.length)),(2,I .i64 i),(3,I .i64 ((L.length:Int)-1-i))] [(720,.arr 37 10 ((wI L i).map aB) 0)]) (fun i=>2*i≤L.length) (fun i=>L.length-i) 0 (Ag _) (sl (he:=⟨rfl,rfl,by show some (I .i64 _)=some (I .i64 _);congr 2;simp,trivial⟩) (hh:=⟨⟨_,rfl,.arrS (by rw[aMw])⟩,trivial⟩)) ?_));intro i hi;have J:=aG4 (L:=L) hi;have N:((wI L i).map aB).length=L.length:=by rw[θ,J]
 refine a8 (sg rfl (aA rfl (fun hb=>?_) (fun hb=>?_)))
 ·have hlt:(i:Int)<(L.length:Int)-1-i:=ψ hb;obtain⟨x,hx⟩:=aJ (l:=wI L i) (k:=i) (by omega);obtain⟨y,O⟩:=aJ (l:=wI L i) (k:=L.length-1-i) (by omega);have Y:=aMx (by omega) hx O;have hx':=bW aB hx;have Z:=bW aB O;have ej:(L.length:Int)-1-i=((L.length-1-i:Nat):Int):=by omega
  have aa:i≠L.length-1-i:=by omega
  have hj:L.length-1-i<L.length:=by omega
  have hil:i<L.length:=by omega
  have hy2:(((wI L i).map aB).set i (aB y))[L.length-1-i]?=some (aB y):=by rw[List.getElem?_set_ne aa];exact Z
  have u:(((wI L i).map aB).set i (aB y)).set (L.length-1-i) (aB x)=(wI L (i+1)).map aB:=by rw[←Y,map_set,map_set]
  have hks:(((wI L i).map aB).set i (aB y)).length=L.length:=by rw[Cq,N]
  refine aD (AWp.sub (st2:=mk [(0,.one (.hs 720 0 L.length L.length)),(2,I .i64 i),(3,I .i64 ((L.length-1-i:Nat):Int))] [(720,.arr 37 10 ((wI L i).map aB) 0)]) (sl (he:=⟨rfl,rfl,congrArg (fun x=>some (I .i64 x)) ej,trivial⟩)) ?_);generalize L.length-1-i=j at *;refine a8 (aC (ag [(7,.row j (aB y)),(11,.row i (aB x)),(13,.row i (aB x)),(15,.row j (aB y))] rfl (ag [] rfl ⟨i+1,by omega,by dsimp only;omega,sl (he:=⟨rfl,rfl,?_,trivial⟩) (hh:=⟨⟨_,rfl,.arrS u⟩,trivial⟩)⟩)));show some (I .i64 ((j:Int)-1))=some (I .i64 ((L.length:Int)-1-((i+1:Nat):Int)));congr 2;omega
 ·have hge:¬(i:Int)<(L.length:Int)-1-i:=χ hb;rw[aSn hi (by omega)];exact aL ⟨.inl rfl,⟨_,_,.nil,.nil,rfl⟩,⟨⟨_,rfl,.arr⟩,trivial⟩,rfl⟩
end Go.Proofs.YtockgoadliilhaaGreatDoor
