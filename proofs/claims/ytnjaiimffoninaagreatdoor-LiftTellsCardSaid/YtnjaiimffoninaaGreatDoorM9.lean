/-
  Texts Lg10 to Ly4 in one.
-/
import Derived.Test.YtnjaiimffoninaaGreatDoorM8
open List (all_eq_true append_assoc append_nil cons_append drop_left filter_cons flatMap_cons flatten_cons foldl_cons length_append length_cons length_drop length_eq_one_iff length_eq_zero_iff length_map length_nil length_set length_take map_cons map_nil map_set mem_append mem_cons mem_cons_of_mem mem_cons_self mem_filter mem_flatMap mem_map mem_of_mem_drop mem_of_mem_take mem_singleton nil_append nodup_append nodup_nil set_cons_succ set_cons_zero sum_cons take_add_one take_left take_length)
open Nat (add_mul add_zero beq_refl eq_of_beq_eq_true le_max_left le_max_right le_mul_of_pos_right le_of_ble_eq_true le_refl le_trans max_le min_eq_left mul_le_mul_right mul_one sub_self zero_add zero_le)
namespace Go.Proofs.YtnjaiimffoninaaGreatDoor
open Go Go.AM
set_option maxRecDepth 20000
theorem aLh {rs:List (List R)}{k:Nat}{af an:Int}{anm:Str}{nv:Nat}{ns:List Str}{p:Core}{F:List (Nat×AObj)}(q:TF F) (y:∀x∈dB rs,x∈keys F) {n:Str}{l:List C}:callOk ([Go.AM.T n,.pa l]++List.map V.one [R.vp 3 0]) (aG rs k af an anm nv ns p++F)=true:=by
 refine rI q (fun x hx=>.inl ?_) (aGW q y).refs;have:x=3:=by simpa [V.refsL,V.refs,R.refs] using hx
 subst this;simp[aG,keys]
theorem a52 {rs:List (List R)}{k:Nat}{af an:Int}{anm:Str}{nv:Nat}{ns y:List Str}{p I:Core}{F:List (Nat×AObj)}{h:dD}:dU (fun q=>q.1∈keys (aG rs k af an anm nv ns p++F)∨h q.1=none) (aG rs k af an anm nv y I++F):=dU.of fun q J=>.inl (by
 have h1:q.1∈keys (aG rs k af an anm nv y I++F):=Ah.2 ⟨q,J,rfl⟩
 exact h1)
theorem a5e (rs:List (List R)) (k:Nat) (af an:Int) (anm:Str) (nv:Nat) (ns:List Str) (p:Core) (F:List (Nat×AObj)) (s:Str) (b:Core) (sb:Core→Str→Core→Core) (P:Core→Prop) (y:TF F) (hr:∀x∈dB rs,x∈keys F) (hk:k<rs.length) (hn:ns.length=nv) (hok:PutOk sb P s b [p])
  (hM:(pfR p).length+2*ns.length+(pfR b).length+1≤540000000000):
  ∃q,(dV sb s b ns [p]).2=[q]∧aW Tryz.prog 137 [gpV (aN nv) (aP k rs.length),Go.AM.T s,.pa (aB b)] (aH rs k af an anm nv ns p++F) (.tup []) (aH rs k af an anm nv (dV sb s b ns [p]).1 q++F):=by
 have hln:=(sQ (sb:=sb) (s:=s) (b:=b) (ns:=ns) (ps:=[p])).2
 obtain⟨q,J⟩:∃q,(dV sb s b ns [p]).2=[q]:=B2.1 hln;refine⟨q,J,?_⟩;have hnl:=aYk (nv:=nv);have W:∀ns p,GW (aH rs k af an anm nv ns p) F:=fun _ _=>aHW y hr
 have ac:∀ex ad p',∀x∈R.refsL (aN nv),Kn ex (aH rs k af an anm nv ad p') F x:=fun ex ad p' x hx=>by
  have:=aSz x hx;subst this;exact .inr (.inl (by simp[aH,keys]))
 have Z:∀ex ad p',∀x∈(grO (aN nv) (aP k rs.length)).refs,Kn ex (aH rs k af an anm nv ad p') F x:=fun ex ad p' x hx=>by
  rcases aH5 x hx with rfl | rfl
  ·exact .inr (.inl (by simp[aH,keys]))
  ·exact .inr (.inl (by simp[aH,keys]))
 have hsz:∀p,rs.length=(rs.set k (aI7 af an anm nv p)).length:=fun p=>(Cn ..).symm
 have hrow:∀p,(rs.set k (aI7 af an anm nv p))[k]?=some (aI7 af an anm nv p):=fun p=>List.getElem?_set_self hk
 have hszp:=hsz p;have hrowp:=hrow p;have am:([p]:List Core).flatMap pfR=pfR p:=by simp
 have hkl:nv=(ns.map bA).length:=by rw[φ];exact hn.symm
 have hf:=hok.free p (by simp);have hq0:((pfR p).map bA).length=(pfR p).length:=φ _;refine wL y (n:=92) tok Tryz.func137 rfl rfl rfl ?_;refine sg rfl (sg rfl (AWp.sub (Sub.own (t:=6) (id:=720) 9 1 rfl rfl) (AWp.sub (Sub.freeze (id:=720) rfl) ?_)));refine a8 (sg rfl (aC (aK (fun j:Nat=>mkt [(1,Go.AM.T s),(3,.one (.vp 3 0)),(5,.one (.vp 5 0)),(6,tkV (if j=0 then [] else pfR p)),(17,.one (.ras 1 1 (aP k rs.length))),(18,I .i64 ((1:Nat):Int)),(19,I .i64 j)] ([(3,grO (aN nv) (aP k rs.length)),(5,.var 30 (bF b)),(720,tkA (if j=0 then [] else pfR p))]++aH rs k af an anm nv ns p) F) (fun j=>j≤1) (fun j=>1-j) 0 (Al _) ?_ ?_)))
 ·exact slG (W _ _) (h2:=⟨Z _ _ _,Kn.of rfl,Kn.of rfl,trivial⟩)
 ·intro j hj;refine sg rfl (a8 (aA rfl (fun hb=>?_) (fun hb=>?_)))
  ·have hj0:j=0:=by
    have:(j:Int)<((1:Nat):Int):=ψ hb;omega
   subst hj0;rw[κ rfl];refine aD (a8 (aC (sg rfl (aE mixed (ak 4 [(3,.rr (aI7 af an anm nv p))] rfl (kc hf ?_))))));refine kz 2 rfl (AWp.sub (Sub.freeze (id:=720) rfl) ?_);refine ag [] rfl ⟨1,le_refl _,by dsimp only;omega,?_⟩;dsimp only;rw[θ (by decide)];exact slG (W _ _) (h2:=⟨Z _ _ _,Kn.of rfl,Kn.of rfl,trivial⟩) (he:=⟨rfl,rfl,rfl,Go.AM.hs_ren (by simp) (by simp),rfl,rfl,rfl,trivial⟩) (hh:=⟨⟨_,rfl,.varS rfl⟩,⟨_,rfl,.varS rfl⟩,⟨_,rfl,.arrS (by simp)⟩,⟨_,rfl,.rarrS rfl⟩,⟨_,rfl,.arr⟩,trivial⟩)
  have ae:j=1:=by
   have:¬(j:Int)<((1:Nat):Int):=π hb;omega
  subst ae;rw[θ (by decide)];refine aL ?_;have hct:=dQ (pfR p) s (by omega);refine a8 (sk 2 rfl (kc hct ?_));refine kz 1 rfl (aA rfl (fun hb=>?_) (fun hb=>?_))
  ·have hno:¬s∈pfR p:=by
    intro h;have hb:(!decide (s∈pfR p))=true:=hb;rw[Ae h] at hb;cases hb
   have he:dV sb s b ns [p]=(ns,[p]):=by unfold dV;rw[θ fun h=>hno (by have:=h.1;rwa [am] at this)]
   have hqp:q=p:=by rw[he] at J;exact(List.singleton_inj.1 J).symm
   rw[he,hqp];exact aF ⟨.inr rfl,aHc y (by repeat (first | exact FarEq.raw y | (refine FarEq.updL y ?_) | (refine FarEq.upd y ?_))) ⟨[],[],.nil,.nil,rfl⟩ (fun _ h=>by cases h) (W _ _).refs (fun i hi=>GW.kf i hi) (fun q J=>by rcases ω.1 J with J | J;exact(Au.1 (W ns p).plain) q J;exact(y.ok q J).2)⟩
  have hin:s∈pfR p:=by
   have hb:(!decide (s∈pfR p))=false:=hb;by_cases h:s∈pfR p
   ·exact h
   ·rw[Ag h] at hb;cases hb
  refine aD (a8 (sg rfl (aC (aK (fun j:Nat=>mkt [(1,Go.AM.T s),(3,.one (.vp 3 0)),(5,.one (.vp 5 0)),(6,tkV (pfR p++ns.take j)),(35,.one (.ras (aN nv).length 1 (aN nv))),(36,I .i64 (((aN nv).length:Nat):Int)),(37,I .i64 j)] ([(3,grO (aN nv) (aP k rs.length)),(5,.var 30 (bF b)),(720,tkA (pfR p++ns.take j))]++aH rs k af an anm nv ns p) F) (fun j=>j≤(aN nv).length∧¬s∈ns.take j) (fun j=>(aN nv).length-j) 0 ⟨Al _,by simp⟩ ?_ ?_))))
  ·exact slG (W _ _) (h1:=Kn.app Kn.nil (Kn.app (Kn.of rfl) (Kn.app (Kn.of rfl) (Kn.app (Kn.of rfl) (Kn.app (ac _ _ _) Kn.nil))))) (h2:=⟨Z _ _ _,Kn.of rfl,Kn.of rfl,trivial⟩) (he:=⟨rfl,rfl,rfl,Go.AM.hs_ren (by simp) (by simp),congrArg some (V.ren_id _).symm,rfl,rfl,trivial⟩) (hh:=⟨⟨_,rfl,.varS rfl⟩,⟨_,rfl,.varS rfl⟩,⟨_,rfl,.arrS (by simp)⟩,⟨_,rfl,.rarrS rfl⟩,⟨_,rfl,.arr⟩,trivial⟩)
  rintro j ⟨hj,ai⟩;refine sg rfl (a8 (aA rfl (fun hb=>?_) (fun hb=>?_)))
  ·have ap:j<(aN nv).length:=by
    have:(j:Int)<((aN nv).length:Int):=ψ hb;omega
   have hjb:j<nv:=by omega
   obtain⟨n,Y⟩:=aJ (show j<ns.length by omega);have ht1:=a54 hjb;have hrown:(ns.map bA)[j]?=some (bA n):=bT bA Y;have hstp:ns.take (j+1)=ns.take j++[n]:=by rw[Bt,Y];rfl
   have hq1:((pfR p++ns.take j).map bA).length=(pfR p++ns.take j).length:=φ _;have hql:(pfR p++ns.take j).length≤540000000000:=by rw[ε,Ap];omega
   refine aD (a8 (aC (sgh [(0,.rowR j [.ep 704 j 0 nv])] rfl (a8 (sgh [(2,.row j (bA n))] rfl (aA rfl (fun hb=>?_) (fun hb=>?_)))))))
   ·have hns:n=s:=ψ hb;have he:dV sb s b ns [p]=(ns,[p]):=by
     unfold dV;rw[θ fun h=>h.2 (hns▸δ Y)]
    have hqp:q=p:=by rw[he] at J;exact(List.singleton_inj.1 J).symm
    rw[he,hqp];exact aF ⟨.inr rfl,aHc y (by repeat (first | exact FarEq.raw y | (refine FarEq.updL y ?_) | (refine FarEq.upd y ?_))) ⟨[],[],.nil,.nil,rfl⟩ (fun _ h=>by cases h) (W _ _).refs (fun i hi=>GW.kf i hi) (fun q J=>by rcases ω.1 J with J | J;exact(Au.1 (W ns p).plain) q J;exact(y.ok q J).2)⟩
   have hns:¬n=s:=π hb;refine aD ?_;generalize pfR p=fm at *;generalize hq2:fm++ns.take j=qq at *;refine ag [(3,.row j (bA n))] rfl (AWp.sub (Sub.freeze (id:=720) rfl) ?_);refine ag [] rfl ⟨j+1,⟨ap,?_⟩,by dsimp only;omega,?_⟩
   ·rw[hstp];intro h;rcases ω.1 h with h | h
    ·exact ai h
    ·exact hns (Ab.1 h).symm
   dsimp only;rw[hstp,←Aw,hq2];exact slG (W _ _) (h1:=Kn.app Kn.nil (Kn.app (Kn.of rfl) (Kn.app (Kn.of rfl) (Kn.app (Kn.of rfl) (Kn.app (ac _ _ _) Kn.nil))))) (h2:=⟨Z _ _ _,Kn.of rfl,Kn.of rfl,trivial⟩) (he:=⟨rfl,rfl,rfl,Go.AM.hs_ren (by simp) (by simp),congrArg some (V.ren_id _).symm,rfl,rfl,trivial⟩) (hh:=⟨⟨_,rfl,.varS rfl⟩,⟨_,rfl,.varS rfl⟩,⟨_,rfl,.arrS (by simp[bA])⟩,⟨_,rfl,.rarrS rfl⟩,⟨_,rfl,.arr⟩,trivial⟩)
  have ae:j=ns.length:=by
   have:¬(j:Int)<((aN nv).length:Int):=π hb;omega
  subst ae;rw[As] at ai ⊢;have hput:dV sb s b ns [p]=((gSt sb b ns [p] ns.length).1,(gSt sb b ns [p] ns.length).2.1.map fun p=>sb p s b):=by
   unfold dV;rw[κ ⟨by rw[am];exact hin,ai⟩,aQi]
  have hql:(pfR p++ns).length≤540000000000:=by rw[ε];omega
  have hq1:((pfR p++ns).map bA).length=(pfR p++ns).length:=φ _;have hq2:((pfR b).map bA).length=(pfR b).length:=φ _;have hfar:=hok.far;refine aL (sk 1 rfl (kc hfar ?_));refine kz 1 rfl ?_;have hlq:(pfR p++ns).length+(pfR b).length≤540000000000:=by rw[ε];omega
  refine sg rfl (AWp.sub (Sub.freeze (id:=720) rfl) ?_);refine sg rfl (a8 (sg rfl (aC ?_)));have aa:∀i,i≤ns.length→(gSt sb b ns [p] i).2.2.length≤540000000000:=fun i hi=>by
   have h1:=(iT (sb:=sb) (b:=b) (ps:=[p]) hi).2.2
   rw[am] at h1;simp only[ε] at h1;omega
  have hone:∀i,i≤ns.length→∃x,(gSt sb b ns [p] i).2.1=[x]:=fun i hi=>B2.1 (iT (sb:=sb) (b:=b) (ps:=[p]) hi).2.1
  have hhd:∀i,i≤ns.length→(gSt sb b ns [p] i).2.1=[(gSt sb b ns [p] i).2.1.headD p]:=fun i hi=>by
   obtain⟨x,hx⟩:=hone i hi;rw[hx];rfl
  refine aK (fun i:Nat=>mkt [(1,Go.AM.T s),(5,.one (.vp 5 0)),(6,tkV (gSt sb b ns [p] i).2.2),(11,eE (pfR b)),(12,.one (.clo 158 [.vp 3 0])),(60,.one (.ras (aN nv).length 1 (aN nv))),(61,I .i64 (((aN nv).length:Nat):Int)),(62,I .i64 i)] ([(3,grO (aN nv) (aP k rs.length)),(5,.var 30 (bF b)),(720,tkA (gSt sb b ns [p] i).2.2)]++aH rs k af an anm nv (gNs sb b ns [p] i) ((gSt sb b ns [p] i).2.1.headD p)) F) (fun i=>i≤(aN nv).length) (fun i=>(aN nv).length-i) 0 (Al _) ?_ ?_
  ·rw[aA6,aKl,am];exact slG (W _ _) (h1:=Kn.app Kn.nil (Kn.app (Kn.of rfl) (Kn.app (Kn.of rfl) (Kn.app Kn.nil (Kn.app (Kn.of rfl) (Kn.app (ac _ _ _) Kn.nil)))))) (h2:=⟨Z _ _ _,Kn.of rfl,Kn.of rfl,trivial⟩) (he:=⟨rfl,rfl,Go.AM.hs_ren (by simp only[ε,φ]) (by simp only[ε,φ]),rfl,rfl,congrArg some (V.ren_id _).symm,rfl,rfl,trivial⟩) (hh:=⟨⟨_,rfl,.varS rfl⟩,⟨_,rfl,.varS rfl⟩,⟨_,rfl,.arrS (by simp)⟩,⟨_,rfl,.rarrS rfl⟩,⟨_,rfl,.arr⟩,trivial⟩)
  intro i hi;have hle:i≤ns.length:=by omega
  refine sg rfl (a8 (aA rfl (fun hb=>?_) (fun hb=>?_)))
  ·have ap:i<(aN nv).length:=by
    have:(i:Int)<((aN nv).length:Int):=ψ hb;omega
   have hjb:i<nv:=by omega
   obtain⟨n,Y⟩:=aJ (show i<ns.length by omega);obtain⟨hg1,hg2,hg3⟩:=iT (sb:=sb) (b:=b) (ps:=[p]) hle;have hgl:=aQl (sb:=sb) (b:=b) (ps:=[p]) hle;have hga:=aXx (sb:=sb) (b:=b) (ps:=[p]) Y;have hP:=aQj hok hle (aa i hle) (fun j hj=>aa j (by omega));have O:=pT (sb:=sb) (b:=b) (ps:=[p]) Y;have aj:=aXw (sb:=sb) (b:=b) (ps:=[p]) Y;have hnout:=aQk (sb:=sb) (b:=b) (ps:=[p]) Y;have hall0:=aa i hle;have ah:=hhd i hle;have ht1:=a54 hjb;have hcf:=dQ (pfR b) n (by omega);have hcr:=aHp (gSt sb b ns [p] i).2.2 (by omega) fun k hk=>hok.itoa k (by omega)
   generalize gSt sb b ns [p] i=G at *;generalize gNs sb b ns [p] i=N at *;obtain⟨d0,qs,tk⟩:=G;dsimp only at *;generalize qs.headD p=x at ah ⊢;subst ah;have hrown:(N.map bA)[i]?=some (bA n):=bT bA hga;have hkN:nv=(N.map bA).length:=by rw[φ];omega
   have hszx:=hsz x;have hrowx:=hrow x;refine aD (a8 (aC (sgh [(0,.rowR i [.ep 704 i 0 nv])] rfl (skh 4 [(3,.row i (bA n))] rfl (kc hcf ?_)))));refine az (aA rfl (fun hb=>?_) (fun hb=>?_))
   ·have ab:n∈pfR b:=ψ hb;have aj:=aj ab;unfold eV at O;rw[κ ab] at O;dsimp only at O;have hz:(bE tk).length≤30:=le_trans (kU _ hall0) (by omega);have hca:=aYc rs k af an anm nv N x F n (vC (bE tk)) (fun p=>sb p n (vC (bE tk))) y hr hk (hok.subz x n _ (hP x (by simp)) hz);have hcv:=aBw (bE tk);have hqt:(tk.map bA).length=tk.length:=φ _;generalize bE tk=z at *;refine sk 1 rfl (kc hcr ?_);refine kz 1 rfl (sg rfl (AWp.sub (Sub.freeze (id:=720) rfl) ?_));refine skh 5 [(3,.row i (bA n))] rfl (kc hcv ?_);refine kv (caps:=[.vp 3 0]) (args:=[Go.AM.T n,.pa (aB (vC z))]) hca ?_ (hin':=dU.app ⟨rfl,rfl,rfl,trivial⟩ (FarEq.all (by repeat (first | exact FarEq.raw y | (refine FarEq.updL y ?_) | (refine FarEq.upd y ?_))))) (hout':=a52) (hok:=aLh y hr);refine az (AWp.sub (Sub.outsT y) ?_);refine ag [(3,.row i (bA n))] rfl (ag [] rfl ⟨i+1,ap,by dsimp only;omega,?_⟩);dsimp only;rw[O,aj];dsimp only;refine slG (W _ _) (fun i hi=>GW.kf i hi) (by repeat (first | exact FarEq.bif y (FarEq.outs y) | (refine FarEq.updL y ?_) | (refine FarEq.upd y ?_))) (h1:=Kn.app Kn.nil (Kn.app (Kn.of rfl) (Kn.app (Kn.of rfl) (Kn.app Kn.nil (Kn.app (Kn.of rfl) (Kn.app (ac _ _ _) Kn.nil)))))) (h2:=⟨Z _ _ _,Kn.of rfl,Kn.of rfl,trivial⟩) (he:=⟨rfl,rfl,Go.AM.hs_ren (by simp) (by simp),rfl,rfl,congrArg some (V.ren_id _).symm,rfl,rfl,trivial⟩) (hh:=⟨⟨_,rfl,.varS rfl⟩,⟨_,rfl,.varS rfl⟩,⟨_,rfl,.arrS (by simp[bA])⟩,⟨_,rfl,.rarrS rfl⟩,⟨_,rfl,.arrS ?_⟩,trivial⟩);rw[map_set];rfl
   ·have ab:¬n∈pfR b:=π hb;unfold eV at O;rw[θ ab] at O;dsimp only at O;refine aD (ag [] rfl ⟨i+1,ap,by dsimp only;omega,?_⟩);dsimp only;rw[O,hnout ab];exact slG (W _ _) (fun i hi=>GW.kf i hi) (h1:=Kn.app Kn.nil (Kn.app (Kn.of rfl) (Kn.app (Kn.of rfl) (Kn.app Kn.nil (Kn.app (Kn.of rfl) (Kn.app (ac _ _ _) Kn.nil)))))) (h2:=⟨Z _ _ _,Kn.of rfl,Kn.of rfl,trivial⟩)
  have ae:i=ns.length:=by
   have:¬(i:Int)<((aN nv).length:Int):=π hb;omega
  subst ae;have hP:=aQj hok (le_refl ns.length) (aa _ (le_refl _)) (fun j hj=>aa j hj);have ah:=hhd _ (le_refl ns.length);rw[hput] at J ⊢;rw[aQm];generalize gSt sb b ns [p] ns.length=G at *;obtain⟨N,qs,tk⟩:=G;dsimp only at *;generalize qs.headD p=x at ah ⊢;subst ah;have hqx:q=sb x s b:=(List.singleton_inj.1 J).symm;subst hqx;have hca:=aYc rs k af an anm nv N x F s b (fun p=>sb p s b) y hr hk (hok.subb x (hP x (by simp)));refine aL (aE mixed (ak 3 [] rfl (kv (caps:=[.vp 3 0]) (args:=[Go.AM.T s,.pa (aB b)]) hca ?_ (hin':=dU.app ⟨rfl,rfl,rfl,trivial⟩ (FarEq.all (by repeat (first | exact FarEq.raw y | (refine FarEq.updL y ?_) | (refine FarEq.upd y ?_))))) (hout':=a52) (hok:=aLh y hr))));refine az ⟨.inl rfl,aHc y (FarEq.outs y) ⟨[],[],.nil,.nil,rfl⟩ (fun _ h=>by cases h) (W _ _).refs (fun i hi=>GW.kf i hi) (fun q J=>by rcases ω.1 J with J | J;exact(Au.1 (W ns p).plain) q J;exact(y.ok q J).2)⟩
abbrev lH (n:Int) (t:Ty) (x:Str) (k:Core):List (Nat×AObj):=gHl 5 n x t [k] [] []
def lN:List R:=[.vp 700 2]
def lP:List R:=[.ep 702 0 0 1]
abbrev lG (n:Int) (t:Ty) (x:Str) (k:Core):List (Nat×AObj):=(3,grO lN lP)::lH n t x k
theorem lHW {n:Int}{t:Ty}{x:Str}{k:Core}:GW (lH n t x k) []:=gW
theorem lGW {n:Int}{t:Ty}{x:Str}{k:Core}:GW (lG n t x k) []:=⟨lHW (n:=n) (t:=t) (x:=x) (k:=k).tf,fun y q=>by
 rcases ω.1 (show y∈(grO lN lP).refs++dI (lH n t x k) from q) with q | q
 ·have:y=700∨y=702:=by simpa [grO,lN,lP,AObj.refs,R.refsL,R.refs] using q
  rcases this with rfl | rfl
  ·exact .inl (by simp[lG,gHl,keys])
  ·exact .inl (by simp[lG,gHl,keys])
 ·exact(lHW.refs y q).imp (fun h=>χ _ h) id,rfl,rfl⟩
theorem aR5 (n:Int) (t:Ty) (x:Str) (k:Core) (nm:Str) (b:Core) (sb:Core→Core)
  (hc:aW Tryz.prog 97 [.pa (aB k),Go.AM.T nm,.pa (aB b)] [] (.pa (aB (sb k))) []):
  aW Tryz.prog 158 [Go.AM.T nm,.pa (aB b),.one (.vp 3 0)] (lG n t x k++[]) (.tup []) (lG n t x (sb k)++[]):=by
 have y:TF []:=lHW (n:=n) (t:=t) (x:=x) (k:=k).tf;refine wL y (n:=23) tok Tryz.func158 rfl rfl rfl ?_;refine sg rfl (sg rfl (aC (aK (fun j:Nat=>mkt [(0,Go.AM.T nm),(2,.one (.vp 3 0)),(4,.one (.vp 4 0)),(8,.one (.ras 1 1 lP)),(9,I .i64 ((1:Nat):Int)),(10,I .i64 j)] ([(4,.var 30 (bF b))]++lG n t x (if j=0 then k else sb k)) []) (fun j=>j≤1) (fun j=>1-j) 0 (Al _) ?_ ?_)))
 ·exact slG lGW
 intro j hj;refine sg rfl (a8 (aA rfl (fun hb=>?_) (fun hb=>?_)))
 ·have O:j=0:=by
   have:(j:Int)<((1:Nat):Int):=ψ hb;omega
  subst O;rw[κ rfl];refine aD (a8 (aC (sg rfl (aE mixed (ak 6 [(3,.row 0 (aB k))] rfl (kc hc ?_))))));refine ak 2 [(8,.row 0 (aB k))] rfl (az (ag [] rfl ⟨1,le_refl _,by dsimp only;omega,?_⟩));dsimp only;rw[θ (by decide)];exact slG lGW (fun i hi=>GW.kf i hi)
 have Y:j=1:=by
  have:¬(j:Int)<((1:Nat):Int):=π hb;omega
 subst Y;rw[θ (by decide)];refine aL ?_;exact⟨.inl rfl,aHc y (by repeat (first | exact FarEq.raw y | (refine FarEq.updL y ?_) | (refine FarEq.upd y ?_))) ⟨[],[],.nil,.nil,rfl⟩ (fun _ h=>by cases h) lGW.refs (fun i hi=>GW.kf i hi) (fun q J=>by rcases ω.1 J with J | J;exact(Au.1 (lGW (n:=n) (t:=t) (x:=x) (k:=k)).plain) q J;cases J)⟩
theorem a5d (n:Int) (t:Ty) (x:Str) (k:Core) (s:Str) (b:Core) (sb:Core→Str→Core→Core) (P:Core→Prop) (hok:PutOk sb P s b [k])
  (hM:(pfR k).length+2+(pfR b).length+1≤540000000000):
  ∃x' q,dV sb s b [x] [k]=([x'],[q])∧aW Tryz.prog 137 [gpV lN lP,Go.AM.T s,.pa (aB b)] (lH n t x k++[]) (.tup []) (lH n t x' q++[]):=by
 have Y:TF []:=lHW (n:=n) (t:=t) (x:=x) (k:=k).tf;have ac:([k]:List Core).flatMap pfR=pfR k:=by simp
 have hf:=hok.free k (by simp);have hq0:((pfR k).map bA).length=(pfR k).length:=φ _;have hk0:k=k:=rfl;have ad:s∉pfR k∨s=x→dV sb s b [x] [k]=([x],[k]):=fun h=>by
  unfold dV;rw[θ];rintro⟨h1,h2⟩;rw[ac] at h1;rcases h with h | h
  ·exact h h1
  ·exact h2 (by simp[h])
 by_cases hin:s∈pfR k
 case neg=>
  refine⟨x,k,ad (.inl hin),?_⟩;refine wL Y (n:=92) tok Tryz.func137 rfl rfl rfl ?_;refine sg rfl (sg rfl (AWp.sub (Sub.own (t:=6) (id:=720) 9 1 rfl rfl) (AWp.sub (Sub.freeze (id:=720) rfl) ?_)));refine a8 (sg rfl (aC (aK (fun j:Nat=>mkt [(1,Go.AM.T s),(3,.one (.vp 3 0)),(5,.one (.vp 5 0)),(6,tkV (if j=0 then [] else pfR k)),(17,.one (.ras 1 1 lP)),(18,I .i64 ((1:Nat):Int)),(19,I .i64 j)] ([(3,grO lN lP),(5,.var 30 (bF b)),(720,tkA (if j=0 then [] else pfR k))]++lH n t x k) []) (fun j=>j≤1) (fun j=>1-j) 0 (Al _) (slG lHW) ?_)));intro j hj;refine sg rfl (a8 (aA rfl (fun hb=>?_) (fun hb=>?_)))
  ·have O:j=0:=by
    have:(j:Int)<((1:Nat):Int):=ψ hb;omega
   subst O;rw[κ rfl];refine aD (a8 (aC (sg rfl (aE mixed (ak 4 [(3,.row 0 (aB k))] rfl (kc hf ?_))))));refine kz 2 rfl (AWp.sub (Sub.freeze (id:=720) rfl) ?_);refine ag [] rfl ⟨1,le_refl _,by dsimp only;omega,?_⟩;dsimp only;rw[θ (by decide)];exact slG lHW (he:=⟨rfl,rfl,rfl,Go.AM.hs_ren (by simp) (by simp),rfl,rfl,rfl,trivial⟩) (hh:=⟨⟨_,rfl,.varS rfl⟩,⟨_,rfl,.varS rfl⟩,⟨_,rfl,.arrS (by simp)⟩,⟨_,rfl,.varS rfl⟩,⟨_,rfl,.arr⟩,⟨_,rfl,.arr⟩,⟨_,rfl,.rarrS rfl⟩,trivial⟩)
  have y:j=1:=by
   have:¬(j:Int)<((1:Nat):Int):=π hb;omega
  subst y;rw[θ (by decide)];refine aL ?_;have Z:=dQ (pfR k) s (by omega);rw[Ag hin] at Z;refine a8 (sk 2 rfl (kc Z ?_));refine kz 1 rfl (aA rfl (fun hb=>?_) nofun);exact aF ⟨.inr rfl,aHc Y (by repeat (first | exact FarEq.raw Y | (refine FarEq.updL Y ?_) | (refine FarEq.upd Y ?_))) ⟨[],[],.nil,.nil,rfl⟩ (fun _ h=>by cases h) lHW.refs (fun i hi=>GW.kf i hi) (fun q J=>by rcases ω.1 J with J | J;exact(Au.1 (lHW (n:=n) (t:=t) (x:=x) (k:=k)).plain) q J;cases J)⟩
 by_cases aa:s=x
 case pos=>
  refine⟨x,k,ad (.inr aa),?_⟩;refine wL Y (n:=92) tok Tryz.func137 rfl rfl rfl ?_;refine sg rfl (sg rfl (AWp.sub (Sub.own (t:=6) (id:=720) 9 1 rfl rfl) (AWp.sub (Sub.freeze (id:=720) rfl) ?_)));refine a8 (sg rfl (aC (aK (fun j:Nat=>mkt [(1,Go.AM.T s),(3,.one (.vp 3 0)),(5,.one (.vp 5 0)),(6,tkV (if j=0 then [] else pfR k)),(17,.one (.ras 1 1 lP)),(18,I .i64 ((1:Nat):Int)),(19,I .i64 j)] ([(3,grO lN lP),(5,.var 30 (bF b)),(720,tkA (if j=0 then [] else pfR k))]++lH n t x k) []) (fun j=>j≤1) (fun j=>1-j) 0 (Al _) (slG lHW) ?_)));intro j hj;refine sg rfl (a8 (aA rfl (fun hb=>?_) (fun hb=>?_)))
  ·have O:j=0:=by
    have:(j:Int)<((1:Nat):Int):=ψ hb;omega
   subst O;rw[κ rfl];refine aD (a8 (aC (sg rfl (aE mixed (ak 4 [(3,.row 0 (aB k))] rfl (kc hf ?_))))));refine kz 2 rfl (AWp.sub (Sub.freeze (id:=720) rfl) ?_);refine ag [] rfl ⟨1,le_refl _,by dsimp only;omega,?_⟩;dsimp only;rw[θ (by decide)];exact slG lHW (he:=⟨rfl,rfl,rfl,Go.AM.hs_ren (by simp) (by simp),rfl,rfl,rfl,trivial⟩) (hh:=⟨⟨_,rfl,.varS rfl⟩,⟨_,rfl,.varS rfl⟩,⟨_,rfl,.arrS (by simp)⟩,⟨_,rfl,.varS rfl⟩,⟨_,rfl,.arr⟩,⟨_,rfl,.arr⟩,⟨_,rfl,.rarrS rfl⟩,trivial⟩)
  have y:j=1:=by
   have:¬(j:Int)<((1:Nat):Int):=π hb;omega
  subst y;rw[θ (by decide)];refine aL ?_;have Z:=dQ (pfR k) s (by omega);rw[Ae hin] at Z;refine a8 (sk 2 rfl (kc Z ?_));refine kz 1 rfl (aA rfl nofun (fun hb=>aD (a8 (sg rfl (aC (aK (fun _:Unit=>mkt [(1,Go.AM.T s),(3,.one (.vp 3 0)),(5,.one (.vp 5 0)),(6,tkV (pfR k)),(35,.one (.ras 1 1 lN)),(36,I .i64 ((1:Nat):Int)),(37,I .i64 (0:Nat))] ([(3,grO lN lP),(5,.var 30 (bF b)),(720,tkA (pfR k))]++lH n t x k) []) (fun _=>True) (fun _=>0) () trivial (slG lHW) ?_))))));intro _ _;refine sg rfl (a8 (aA rfl (fun hb=>aD (a8 (aC (sg rfl (a8 (sg rfl (aA rfl (fun hb=>?_) (fun hb=>absurd aa.symm (π hb))))))))) nofun));exact aF ⟨.inr rfl,aHc Y (by repeat (first | exact FarEq.raw Y | (refine FarEq.updL Y ?_) | (refine FarEq.upd Y ?_))) ⟨[],[],.nil,.nil,rfl⟩ (fun _ h=>by cases h) lHW.refs (fun i hi=>GW.kf i hi) (fun q J=>by rcases ω.1 J with J | J;exact(Au.1 (lHW (n:=n) (t:=t) (x:=x) (k:=k)).plain) q J;cases J)⟩
 have hq1:((pfR k++[x]).map bA).length=(pfR k++[x]).length:=φ _;have hq2:((pfR b).map bA).length=(pfR b).length:=φ _;have hlx:(pfR k++[x]).length=(pfR k).length+1:=by simp
 have ai:=hok.far;have hP:=hok.in_ k (by simp);have Z:=dQ (pfR k) s (by omega);rw[Ae hin] at Z;have ae:=dQ (pfR b) x (by omega);have aj:a3p s [x] [k]:=⟨by rw[ac];exact hin,by simpa using aa⟩
 by_cases ah:x∈pfR b
 case pos=>
  have htl:(pfR k++[x]++pfR b).length≤540000000000:=by rw[ε];omega
  have hz:(bE (pfR k++[x]++pfR b)).length≤30:=le_trans (kU _ htl) (by omega);have hcr:=aHp (pfR k++[x]++pfR b) (by omega) fun k hk=>hok.itoa k (by omega)
  refine⟨bE (pfR k++[x]++pfR b),sb (sb k x (vC (bE (pfR k++[x]++pfR b)))) s b,?_,?_⟩
  ·unfold dV;rw[κ aj,ac];unfold jX;simp only[Cm,List.foldl_nil];unfold eV;rw[κ ah];rfl
  rw[Ae ah] at ae;have hqt:((pfR k++[x]++pfR b).map bA).length=(pfR k++[x]++pfR b).length:=φ _;have hqa:(pfR k++[x]++pfR b).length=(pfR k).length+1+(pfR b).length:=by rw[ε,hlx]
  have hca:=aR5 n t x k x (vC (bE (pfR k++[x]++pfR b))) (fun p=>sb p x (vC (bE (pfR k++[x]++pfR b)))) (hok.subz k x _ hP hz);have ab:=aR5 n t (bE (pfR k++[x]++pfR b)) (sb k x (vC (bE (pfR k++[x]++pfR b)))) s b (fun p=>sb p s b) (hok.subb _ (hok.ren k x _ hP hz));have hcv:=aBw (bE (pfR k++[x]++pfR b));generalize hzz:bE (pfR k++[x]++pfR b)=z at *;refine wL Y (n:=92) tok Tryz.func137 rfl rfl rfl ?_;refine sg rfl (sg rfl (AWp.sub (Sub.own (t:=6) (id:=720) 9 1 rfl rfl) (AWp.sub (Sub.freeze (id:=720) rfl) ?_)));refine a8 (sg rfl (aC (aK (fun j:Nat=>mkt [(1,Go.AM.T s),(3,.one (.vp 3 0)),(5,.one (.vp 5 0)),(6,tkV (if j=0 then [] else pfR k)),(17,.one (.ras 1 1 lP)),(18,I .i64 ((1:Nat):Int)),(19,I .i64 j)] ([(3,grO lN lP),(5,.var 30 (bF b)),(720,tkA (if j=0 then [] else pfR k))]++lH n t x k) []) (fun j=>j≤1) (fun j=>1-j) 0 (Al _) (slG lHW) ?_)));intro j hj;refine sg rfl (a8 (aA rfl (fun hb=>?_) (fun hb=>?_)))
  ·have O:j=0:=by
    have:(j:Int)<((1:Nat):Int):=ψ hb;omega
   subst O;rw[κ rfl];refine aD (a8 (aC (sg rfl (aE mixed (ak 4 [(3,.row 0 (aB k))] rfl (kc hf ?_))))));refine kz 2 rfl (AWp.sub (Sub.freeze (id:=720) rfl) ?_);refine ag [] rfl ⟨1,le_refl _,by dsimp only;omega,?_⟩;dsimp only;rw[θ (by decide)];exact slG lHW (he:=⟨rfl,rfl,rfl,Go.AM.hs_ren (by simp) (by simp),rfl,rfl,rfl,trivial⟩) (hh:=⟨⟨_,rfl,.varS rfl⟩,⟨_,rfl,.varS rfl⟩,⟨_,rfl,.arrS (by simp)⟩,⟨_,rfl,.varS rfl⟩,⟨_,rfl,.arr⟩,⟨_,rfl,.arr⟩,⟨_,rfl,.rarrS rfl⟩,trivial⟩)
  have y:j=1:=by
   have:¬(j:Int)<((1:Nat):Int):=π hb;omega
  subst y;rw[θ (by decide)];refine aL (a8 (sk 2 rfl (kc Z ?_)));refine kz 1 rfl (aA rfl nofun (fun hb=>aD (a8 (sg rfl (aC (aK (fun j:Nat=>mkt [(1,Go.AM.T s),(3,.one (.vp 3 0)),(5,.one (.vp 5 0)),(6,tkV (if j=0 then pfR k else pfR k++[x])),(35,.one (.ras 1 1 lN)),(36,I .i64 ((1:Nat):Int)),(37,I .i64 j)] ([(3,grO lN lP),(5,.var 30 (bF b)),(720,tkA (if j=0 then pfR k else pfR k++[x]))]++lH n t x k) []) (fun j=>j≤1) (fun j=>1-j) 0 (Al _) (slG lHW) ?_))))));intro j hj;refine sg rfl (a8 (aA rfl (fun hb=>?_) (fun hb=>?_)))
  ·have O:j=0:=by
    have:(j:Int)<((1:Nat):Int):=ψ hb;omega
   subst O;rw[κ rfl];refine aD (a8 (aC (sg rfl (a8 (sg rfl (aA rfl (fun hb=>absurd (ψ hb).symm aa) (fun hb=>aD (ag [] rfl (AWp.sub (Sub.freeze (id:=720) rfl) ?_)))))))));refine ag [] rfl ⟨1,le_refl _,by dsimp only;omega,?_⟩;dsimp only;rw[θ (by decide)];exact slG lHW (he:=⟨rfl,rfl,rfl,Go.AM.hs_ren (by simp) (by simp),rfl,rfl,rfl,trivial⟩) (hh:=⟨⟨_,rfl,.varS rfl⟩,⟨_,rfl,.varS rfl⟩,⟨_,rfl,.arrS (by simp[bA])⟩,⟨_,rfl,.varS rfl⟩,⟨_,rfl,.arr⟩,⟨_,rfl,.arr⟩,⟨_,rfl,.rarrS rfl⟩,trivial⟩)
  have y:j=1:=by
   have:¬(j:Int)<((1:Nat):Int):=π hb;omega
  subst y;rw[θ (by decide)];refine aL (sk 1 rfl (kc ai ?_));refine kz 1 rfl (sg rfl (AWp.sub (Sub.freeze (id:=720) rfl) ?_));refine sg rfl (a8 (sg rfl (aC (aK (fun i:Nat=>mkt [(1,Go.AM.T s),(5,.one (.vp 5 0)),(6,tkV (if i=0 then pfR k++[x]++pfR b else pfR k++[x]++pfR b++[z])),(11,eE (pfR b)),(12,.one (.clo 158 [.vp 3 0])),(60,.one (.ras 1 1 lN)),(61,I .i64 ((1:Nat):Int)),(62,I .i64 i)] ([(3,grO lN lP),(5,.var 30 (bF b)),(720,tkA (if i=0 then pfR k++[x]++pfR b else pfR k++[x]++pfR b++[z]))]++lH n t (if i=0 then x else z) (if i=0 then k else sb k x (vC z))) []) (fun i=>i≤1) (fun i=>1-i) 0 (Al _) ?_ ?_))))
  ·rw[κ rfl,κ rfl,κ rfl];exact slG lHW (he:=⟨rfl,rfl,Go.AM.hs_ren (by simp only[ε,φ]) (by simp only[ε,φ]),rfl,rfl,rfl,rfl,rfl,trivial⟩) (hh:=⟨⟨_,rfl,.varS rfl⟩,⟨_,rfl,.varS rfl⟩,⟨_,rfl,.arrS (by simp)⟩,⟨_,rfl,.varS rfl⟩,⟨_,rfl,.arr⟩,⟨_,rfl,.arr⟩,⟨_,rfl,.rarrS rfl⟩,trivial⟩)
  intro i hi;refine sg rfl (a8 (aA rfl (fun hb=>?_) (fun hb=>?_)))
  ·have am:i=0:=by
    have:(i:Int)<((1:Nat):Int):=ψ hb;omega
   subst am;rw[κ rfl,κ rfl,κ rfl];generalize pfR k++[x]++pfR b=tk at *;refine aD (a8 (aC (sg rfl (sk 4 rfl (kc ae ?_)))));refine az (aA rfl (fun hb=>sk 1 rfl (kc hcr ?_)) nofun);refine kz 1 rfl (sg rfl (AWp.sub (Sub.freeze (id:=720) rfl) ?_));refine sk 5 rfl (kc hcv ?_);refine kv (caps:=[.vp 3 0]) (args:=[Go.AM.T x,.pa (aB (vC z))]) hca ?_;refine az (ag [] rfl (ag [] rfl ⟨1,le_refl _,by dsimp only;omega,?_⟩));dsimp only;rw[θ (by decide),θ (by decide),θ (by decide)];exact slG lHW (fun i hi=>GW.kf i hi) (he:=⟨rfl,rfl,Go.AM.hs_ren (by simp) (by simp),rfl,rfl,rfl,rfl,rfl,trivial⟩) (hh:=⟨⟨_,rfl,.varS rfl⟩,⟨_,rfl,.varS rfl⟩,⟨_,rfl,.arrS (by simp[bA])⟩,⟨_,rfl,.varS rfl⟩,⟨_,rfl,.arr⟩,⟨_,rfl,.arr⟩,⟨_,rfl,.rarrS rfl⟩,trivial⟩)
  have y:i=1:=by
   have:¬(i:Int)<((1:Nat):Int):=π hb;omega
  subst y;rw[θ (by decide),θ (by decide),θ (by decide)];refine aL (aE mixed (ak 3 [] rfl (kv (caps:=[.vp 3 0]) (args:=[Go.AM.T s,.pa (aB b)]) ab ?_)));exact az ⟨.inl rfl,aHc Y (FarEq.outs Y) ⟨[],[],.nil,.nil,rfl⟩ (fun _ h=>by cases h) lHW.refs (fun i hi=>GW.kf i hi) (fun q J=>by rcases ω.1 J with J | J;exact(Au.1 (lHW (n:=n) (t:=t) (x:=x) (k:=k)).plain) q J;cases J)⟩
 refine⟨x,sb k s b,?_,?_⟩
 ·unfold dV;rw[κ aj,ac];unfold jX;simp only[Cm,List.foldl_nil];unfold eV;rw[θ ah];rfl
 rw[Ag ah] at ae;have ab:=aR5 n t x k s b (fun p=>sb p s b) (hok.subb _ hP);refine wL Y (n:=92) tok Tryz.func137 rfl rfl rfl ?_;refine sg rfl (sg rfl (AWp.sub (Sub.own (t:=6) (id:=720) 9 1 rfl rfl) (AWp.sub (Sub.freeze (id:=720) rfl) ?_)));refine a8 (sg rfl (aC (aK (fun j:Nat=>mkt [(1,Go.AM.T s),(3,.one (.vp 3 0)),(5,.one (.vp 5 0)),(6,tkV (if j=0 then [] else pfR k)),(17,.one (.ras 1 1 lP)),(18,I .i64 ((1:Nat):Int)),(19,I .i64 j)] ([(3,grO lN lP),(5,.var 30 (bF b)),(720,tkA (if j=0 then [] else pfR k))]++lH n t x k) []) (fun j=>j≤1) (fun j=>1-j) 0 (Al _) (slG lHW) ?_)));intro j hj;refine sg rfl (a8 (aA rfl (fun hb=>?_) (fun hb=>?_)))
 ·have O:j=0:=by
   have:(j:Int)<((1:Nat):Int):=ψ hb;omega
  subst O;rw[κ rfl];refine aD (a8 (aC (sg rfl (aE mixed (ak 4 [(3,.row 0 (aB k))] rfl (kc hf ?_))))));refine kz 2 rfl (AWp.sub (Sub.freeze (id:=720) rfl) ?_);refine ag [] rfl ⟨1,le_refl _,by dsimp only;omega,?_⟩;dsimp only;rw[θ (by decide)];exact slG lHW (he:=⟨rfl,rfl,rfl,Go.AM.hs_ren (by simp) (by simp),rfl,rfl,rfl,trivial⟩) (hh:=⟨⟨_,rfl,.varS rfl⟩,⟨_,rfl,.varS rfl⟩,⟨_,rfl,.arrS (by simp)⟩,⟨_,rfl,.varS rfl⟩,⟨_,rfl,.arr⟩,⟨_,rfl,.arr⟩,⟨_,rfl,.rarrS rfl⟩,trivial⟩)
 have y:j=1:=by
  have:¬(j:Int)<((1:Nat):Int):=π hb;omega
 subst y;rw[θ (by decide)];refine aL (a8 (sk 2 rfl (kc Z ?_)));refine kz 1 rfl (aA rfl nofun (fun hb=>aD (a8 (sg rfl (aC (aK (fun j:Nat=>mkt [(1,Go.AM.T s),(3,.one (.vp 3 0)),(5,.one (.vp 5 0)),(6,tkV (if j=0 then pfR k else pfR k++[x])),(35,.one (.ras 1 1 lN)),(36,I .i64 ((1:Nat):Int)),(37,I .i64 j)] ([(3,grO lN lP),(5,.var 30 (bF b)),(720,tkA (if j=0 then pfR k else pfR k++[x]))]++lH n t x k) []) (fun j=>j≤1) (fun j=>1-j) 0 (Al _) (slG lHW) ?_))))));intro j hj;refine sg rfl (a8 (aA rfl (fun hb=>?_) (fun hb=>?_)))
 ·have O:j=0:=by
   have:(j:Int)<((1:Nat):Int):=ψ hb;omega
  subst O;rw[κ rfl];refine aD (a8 (aC (sg rfl (a8 (sg rfl (aA rfl (fun hb=>absurd (ψ hb).symm aa) (fun hb=>aD (ag [] rfl (AWp.sub (Sub.freeze (id:=720) rfl) ?_)))))))));refine ag [] rfl ⟨1,le_refl _,by dsimp only;omega,?_⟩;dsimp only;rw[θ (by decide)];exact slG lHW (he:=⟨rfl,rfl,rfl,Go.AM.hs_ren (by simp) (by simp),rfl,rfl,rfl,trivial⟩) (hh:=⟨⟨_,rfl,.varS rfl⟩,⟨_,rfl,.varS rfl⟩,⟨_,rfl,.arrS (by simp[bA])⟩,⟨_,rfl,.varS rfl⟩,⟨_,rfl,.arr⟩,⟨_,rfl,.arr⟩,⟨_,rfl,.rarrS rfl⟩,trivial⟩)
 have y:j=1:=by
  have:¬(j:Int)<((1:Nat):Int):=π hb;omega
 subst y;rw[θ (by decide)];refine aL (sk 1 rfl (kc ai ?_));refine kz 1 rfl (sg rfl (AWp.sub (Sub.freeze (id:=720) rfl) ?_));refine sg rfl (a8 (sg rfl (aC (aK (fun i:Nat=>mkt [(1,Go.AM.T s),(5,.one (.vp 5 0)),(11,eE (pfR b)),(12,.one (.clo 158 [.vp 3 0])),(60,.one (.ras 1 1 lN)),(61,I .i64 ((1:Nat):Int)),(62,I .i64 i)] ([(3,grO lN lP),(5,.var 30 (bF b))]++lH n t x k) []) (fun i=>i≤1) (fun i=>1-i) 0 (Al _) (slG lHW) ?_))));intro i hi;refine sg rfl (a8 (aA rfl (fun hb=>?_) (fun hb=>?_)))
 ·have am:i=0:=by
   have:(i:Int)<((1:Nat):Int):=ψ hb;omega
  subst am;refine aD (a8 (aC (sg rfl (sk 4 rfl (kc ae ?_)))));exact az (aA rfl nofun (fun hb=>aD (ag [] rfl ⟨1,le_refl _,by dsimp only;omega,slG lHW⟩)))
 have y:i=1:=by
  have:¬(i:Int)<((1:Nat):Int):=π hb;omega
 subst y;refine aL (aE mixed (ak 3 [] rfl (kv (caps:=[.vp 3 0]) (args:=[Go.AM.T s,.pa (aB b)]) ab ?_)));exact az ⟨.inl rfl,aHc Y (FarEq.outs Y) ⟨[],[],.nil,.nil,rfl⟩ (fun _ h=>by cases h) lHW.refs (fun i hi=>GW.kf i hi) (fun q J=>by rcases ω.1 J with J | J;exact(Au.1 (lHW (n:=n) (t:=t) (x:=x) (k:=k)).plain) q J;cases J)⟩
def w30 (s:Str):Nat:=max 30 s.length
mutual
def m30:Core→Nat
 | .mk _ _ s _ ks bs al=>1+w30 s+gM ks+j9 bs+l7 al
def gM:List Core→Nat
 | []=>0
 | c::l=>m30 c+gM l
def j9:List Bind→Nat
 | []=>0
 | .mk s _ c::l=>1+w30 s+m30 c+j9 l
def l7:List Alt→Nat
 | []=>0
 | .mk _ _ s vs c::l=>1+w30 s+(vs.map fun v=>1+w30 v).sum+m30 c+l7 l
end
theorem aIp (s:Str):s.length≤w30 s:=le_max_right ..
theorem i6 (s:Str):30≤w30 s:=le_max_left ..
theorem a62 {z s:Str}(h:z.length≤30):w30 z≤w30 s:=by unfold w30;omega
theorem a2s:∀vs:List Str,(vs.map fun v=>1+v.length).sum≤(vs.map fun v=>1+w30 v).sum
 | []=>le_refl _
 | v::vs=>by
  simp only[At,Da];have:=a2s vs;have:=aIp v;omega
mutual
theorem fZ:∀c:Core,aQ c≤m30 c
 | .mk _ _ s _ ks bs al=>by
  rw[aQ,m30];have:=yL ks;have:=yQ bs;have:=yV al;have:=aIp s;omega
theorem yL:∀l:List Core,bM l≤gM l
 | []=>by rw[bM,gM];exact le_refl _
 | c::l=>by
  rw[bM,gM];have:=fZ c;have:=yL l;omega
theorem yQ:∀l:List Bind,c9 l≤j9 l
 | []=>by rw[c9,j9];exact le_refl _
 | .mk s _ c::l=>by
  rw[c9,bsize,j9];have:=fZ c;have:=yQ l;have:=aIp s;omega
theorem yV:∀l:List Alt,cK l≤l7 l
 | []=>by rw[cK,l7];exact le_refl _
 | .mk _ _ s vs c::l=>by
  rw[cK,kZ,l7];have:=fZ c;have:=yV l;have:=aIp s;have:=a2s vs;omega
end
theorem jM (c:Core):31≤m30 c:=by obtain⟨_,_,s,_,ks,bs,al⟩:=c;rw[m30];have:=i6 s;omega
theorem iR:∀{l:List Core}{c:Core},c∈l→m30 c≤gM l
 | d::l,c,h=>by
  rw[gM];rcases Ac.1 h with rfl | h
  ·omega
  ·have:=iR h;omega
theorem nQ:∀{l:List Bind}{b:Bind},b∈l→m30 b.body≤j9 l
 | .mk s t c::l,b,h=>by
  rw[j9];rcases Ac.1 h with rfl | h
  ·show m30 c≤_;omega
  ·have:=nQ h;omega
theorem k7:∀{l:List Alt}{a:Alt},a∈l→m30 a.body+(a.vars.map fun v=>1+w30 v).sum≤l7 l
 | .mk f n s vs c::l,a,h=>by
  rw[l7];rcases Ac.1 h with rfl | h
  ·show m30 c+(vs.map fun v=>1+w30 v).sum≤_;omega
  ·have:=k7 h;omega
theorem aPu:∀l:List Bind,gM (l.map Bind.body)+31*l.length≤j9 l
 | []=>by rw[Co,gM,j9];simp
 | .mk s t c::l=>by
  rw[At,gM,j9];have:=aPu l;have:=i6 s;show m30 c+_+_≤_;rw[Ai];omega
theorem aXz:∀ps:List Core,(ps.flatMap pfR).length≤gM ps
 | []=>by simp
 | p::ps=>by
  rw[flatMap_cons,ε,gM];have:=aMc p;have:=fZ p;have:=aXz ps;omega
theorem aDc (c:Core):(pfR c).length≤m30 c:=le_trans (aMc c) (fZ c)
theorem zO:∀vs:List Str,31*vs.length≤(vs.map fun v=>1+w30 v).sum
 | []=>le_refl _
 | v::vs=>by simp only[At,Da,Ai];have:=zO vs;have:=i6 v;omega
inductive A2 {α β:Type}(R:α→β→Prop):List α→List β→Prop
 | nil:A2 R [] []
 | cons {a b l m}:R a b→A2 R l m→A2 R (a::l) (b::m)
theorem A2.refl {α:Type}{R:α→α→Prop}(h:∀a,R a a):∀l,A2 R l l
 | []=>.nil
 | a::l=>.cons (h a) (A2.refl h l)
theorem A2.trans {α:Type}{R:α→α→Prop}(h:∀a b c,R a b→R b c→R a c) {l m k:List α}(h1:A2 R l m):A2 R m k→A2 R l k:=by
 induction h1 generalizing k with
 | nil=>intro h2;cases h2;exact .nil
 | cons r _ q=>intro h2;cases h2 with | cons r' h2=>exact .cons (h _ _ _ r r') (q h2)
theorem A2.map {α:Type}{R:α→α→Prop}{f:α→α}(h:∀a,R a (f a)):∀l,A2 R l (l.map f)
 | []=>.nil
 | a::l=>.cons (h a) (A2.map h l)
theorem A2.length {α β:Type}{R:α→β→Prop}{l:List α}{m:List β}(h:A2 R l m):m.length=l.length:=by
 induction h with
 | nil=>rfl
 | cons _ _ q=>simp[q]
theorem A2.take {α β:Type}{R:α→β→Prop}{l:List α}{m:List β}(h:A2 R l m):∀n:Nat,A2 R (l.take n) (m.take n):=by
 induction h with
 | nil=>intro n;simp;exact .nil
 | cons r _ q=>
  intro n;cases n with
  | zero=>exact .nil
  | succ n=>exact .cons r (q n)
theorem A2.drop {α β:Type}{R:α→β→Prop}{l:List α}{m:List β}(h:A2 R l m):∀n:Nat,A2 R (l.drop n) (m.drop n):=by
 induction h with
 | nil=>intro n;simp;exact .nil
 | cons r h q=>
  intro n;cases n with
  | zero=>exact .cons r h
  | succ n=>exact q n
theorem A2.mono {α β:Type}{R R':α→β→Prop}(hm:∀a b,R a b→R' a b) {l:List α}{m:List β}(h:A2 R l m):A2 R' l m:=by
 induction h with
 | nil=>exact .nil
 | cons r _ q=>exact .cons (hm _ _ r) q
def nh (s:Str):Prop:=s.head?≠some 37∧s.head?≠some 35
theorem aMk (n:Nat):nh (cE n):=by
 have key:∀m:_root_.Fin 26,UInt8.ofNat (97+m.val)≠37∧UInt8.ofNat (97+m.val)≠35:=by decide
 have h:UInt8.ofNat (97+n%26)≠37∧UInt8.ofNat (97+n%26)≠35:=key ⟨n%26,Nat.mod_lt _ (by decide)⟩;unfold nh cE;split
 ·simpa using h
 ·simpa using h
theorem aVg (l:List Str):nh (bE l):=aMk _
def NR (n n':Str):Prop:=n'=n∨(n'.length≤30∧nh n')
theorem NR.w {n n':Str}(h:NR n n'):w30 n'≤w30 n:=by
 rcases h with rfl | ⟨h,_⟩
 ·exact le_refl _
 ·exact a62 h
theorem NR.nh {n n':Str}(h:NR n n') (hn:nh n):nh n':=by
 rcases h with rfl | ⟨_,h⟩
 ·exact hn
 ·exact h
section
variable {sb:Core→Str→Core→Core}
theorem aKm {Rel:Core→Core→Prop}(I:∀p,Rel p p) (ht:∀p q r,Rel p q→Rel q r→Rel p r) {far:List Str}(hz:∀p n z,z.length≤30→Rel p (sb p n (vC z))):
  ∀{ns:List Str} {st:List Str×List Core×List Str},st.2.2.length+ns.length≤540000000000→
   A2 Rel st.2.1 (jX sb far ns st).2.1∧∃y,(jX sb far ns st).1=st.1++y∧A2 NR ns y
 | [],st,_=>⟨A2.refl I _,[],by show st.1=_;simp,.nil⟩
 | n::ns,st,hl=>by
  simp only[Ai] at hl;have O:=pS (sb:=sb) (far:=far) (st:=st) (n:=n);obtain⟨h1,y,h2,h3⟩:=aKm I ht hz (far:=far) (ns:=ns) (st:=eV sb far st n) (by omega);have e:jX sb far (n::ns) st=jX sb far ns (eV sb far st n):=rfl;rw[e];have J:(bE st.2.2).length≤30:=le_trans (kU _ (by omega)) (by omega);by_cases hn:n∈far
  ·have es:eV sb far st n=(st.1++[bE st.2.2],st.2.1.map (fun p=>sb p n (vC (bE st.2.2))),st.2.2++[bE st.2.2]):=by unfold eV;rw[κ hn]
   rw[es] at h1 h2 ⊢;refine⟨A2.trans ht (A2.map (fun p=>hz p n _ J) _) h1,bE st.2.2::y,?_,.cons (.inr ⟨J,aVg _⟩) h3⟩;rw[h2,Aw];rfl
  ·have es:eV sb far st n=(st.1++[n],st.2.1,st.2.2):=by unfold eV;rw[θ hn]
   rw[es] at h1 h2 ⊢;refine⟨h1,n::y,?_,.cons (.inl rfl) h3⟩;rw[h2,Aw];rfl
theorem aAc {Rel:Core→Core→Prop}(I:∀p,Rel p p) (ht:∀p q r,Rel p q→Rel q r→Rel p r) {s:Str}{b:Core}{ns:List Str}{ps:List Core}(hz:∀p n z,z.length≤30→Rel p (sb p n (vC z)))
  (hl:(ps.flatMap pfR).length+2*ns.length+(pfR b).length≤540000000000):(∃y,A2 Rel ps y∧((dV sb s b ns ps).2=y∨(dV sb s b ns ps).2=y.map fun p=>sb p s b))∧A2 NR ns (dV sb s b ns ps).1:=by
 unfold dV;split
 ·obtain⟨h1,J,h2,h3⟩:=aKm I ht hz (far:=pfR b) (ns:=ns) (st:=([],ps,ps.flatMap pfR++ns++pfR b)) (by simp only[ε];omega);exact⟨⟨_,h1,.inr rfl⟩,by rw[h2];exact h3⟩
 ·exact⟨⟨ps,A2.refl I _,.inl rfl⟩,A2.refl (fun _=>.inl rfl) _⟩
end
theorem A2.mem {α β:Type}{R:α→β→Prop}{l:List α}{m:List β}(h:A2 R l m):∀b∈m,∃a∈l,R a b:=by
 induction h with
 | nil=>intro b hb;cases hb
 | cons r _ y=>
  intro b hb;rcases Ac.1 hb with rfl | hb
  ·exact⟨_,η,r⟩
  ·obtain⟨a,ha,q⟩:=y b hb;exact⟨a,χ _ ha,q⟩
theorem A2.mapL {α β γ:Type}{R:β→γ→Prop}{f:α→β}:∀{l:List α}{m:List γ},A2 R (l.map f) m→A2 (fun a c=>R (f a) c) l m
 | [],m,h=>by cases h;exact .nil
 | a::l,m,h=>by
  cases h with
  | cons r h=>exact .cons r (A2.mapL h)
theorem lK:∀{ts:List Ty}{ns:List Str}{ps:List Core}{x:Bind},x∈mkB ts ns ps→x.body∈ps∧x.ty∈ts
 | t::ts,n::ns,p::ps,x,h=>by
  unfold mkB at h;rcases Ac.1 h with rfl | h
  ·exact⟨η,η⟩
  ·obtain⟨h1,h2⟩:=lK h;exact⟨χ _ h1,χ _ h2⟩
 | [],_,_,x,h=>by unfold mkB at h;cases h
 | _::_,[],_,x,h=>by unfold mkB at h;cases h
 | _::_,_::_,[],x,h=>by unfold mkB at h;cases h
theorem w8 {T:Ty→Prop}:∀{l:List Core},aFy T l↔∀x∈l,oV T x
 | []=>by simp[aFy]
 | c::l=>by rw[aFy,w8 (l:=l)];simp
theorem wA {T:Ty→Prop}:∀{l:List Bind},aFz T l↔∀x∈l,T x.ty∧oV T x.body
 | []=>by simp[aFz]
 | .mk _ t c::l=>by rw[aFz,wA (l:=l)];simp[Bind.body,Bind.ty,and_assoc]
theorem wB {T:Ty→Prop}:∀{l:List Alt},aF1 T l↔∀x∈l,oV T x.body
 | []=>by simp[aF1]
 | .mk _ _ _ _ c::l=>by rw[aF1,wB (l:=l)];simp[Alt.body]
theorem a33 {z:Str}(h:z.length≤30):m30 (vC z)=31:=by
 unfold vC;rw[m30,gM,j9,l7];unfold w30;omega
theorem aZ5 {f:Int}{nm:Str}{bs:List Bind}:(gvN f nm bs).length≤1+bs.length:=by unfold gvN;split<;>simp;omega
theorem aCl {vs vs':List Str}(h:A2 NR vs vs'):(vs'.map fun v=>1+w30 v).sum≤(vs.map fun v=>1+w30 v).sum:=by
 induction h with
 | nil=>exact le_refl _
 | cons r _ q=>
  simp only[At,Da];have:=r.w;omega
section
variable {clr:Core→List Str→Core}{T:Ty→Prop}
end
def yG (i:Nat) (al:List Alt):List (Nat×AObj):=(fam 0 al).filter fun p=>!Nat.beq p.1 (i+800)
theorem aFm {a b:Nat}(h:a≠b):Nat.beq a b=false:=by
 cases hb:Nat.beq a b with
 | false=>rfl
 | true=>exact absurd (Aa hb) h
theorem aBf {i:Nat}{al:List Alt}{p:Nat×AObj}(h:p∈yG i al):p∈fam 0 al∧p.1≠i+800:=by
 obtain⟨h1,h2⟩:=mem_filter.1 h;refine⟨h1,fun e=>?_⟩;rw[e,Cg] at h2;cases h2
theorem aHf {i:Nat}{al:List Alt}:TF (yG i al):=⟨fun p hp=>iH.far p (aBf hp).1,by
 have:((yG i al).map (·.1)).Sublist ((fam 0 al).map (·.1)):=(List.filter_sublist ..).map _
 exact List.Nodup.sublist this n8,fun p hp=>iH.arr p (aBf hp).1⟩
theorem sE:∀{l:List Alt}{k i x:Nat},x∈dB ((b8 k l).set i [])→∃j,j<l.length∧j≠i∧x=k+j+800
 | [],_,_,_,h=>by simp[b8,dB] at h
 | a::l,k,0,x,h=>by
  have h:x∈dB (b8 (k+1) l):=by simpa [b8,dB,R.refsL] using h
  obtain⟨p,hp,e⟩:=Ah.1 (eR x h);obtain⟨j,b,hj,rfl⟩:=oR hp;have q:j<l.length:=(ξ.1 hj).1
  exact⟨j+1,by simp;exact q,by omega,by rw[←e];show k+1+j+800=_;omega⟩
 | a::l,k,i+1,x,h=>by
  rcases ω.1 (show x∈R.refsL (fB k a)++dB ((b8 (k+1) l).set i []) from h) with h | h
  ·exact⟨0,by simp,by omega,by rw[s6 h]⟩
  ·obtain⟨j,h1,h2,h3⟩:=sE h;exact⟨j+1,by simp;exact h1,by omega,by omega⟩
theorem aVm {i j:Nat}{al:List Alt}(h:j<al.length) (q:j≠i):0+j+800∈keys (yG i al):=by
 obtain⟨a,ha⟩:=aJ h;exact Ah.2 ⟨_,mem_filter.2 ⟨aE1 ha,by simp only[aFm (show 0+j+800≠i+800 by omega)];rfl⟩,rfl⟩
theorem zM {i j:Nat}(h:j≠704) (q:j≠i+800):swp 704 (i+800) j=j:=by unfold swp;rw[aFm h,aFm q];rfl
theorem xH {σ:Nat→Nat}:∀{l:List Alt}{k i:Nat}{a:Alt}{r:List R},l[i]?=some a→(∀j,j<l.length→j≠i→σ (k+j+800)=k+j+800)→R.renL σ r=fB (k+i) a→o9 σ ((b8 k l).set i r)=b8 k l
 | b::l,k,0,a,r,h,hσ,q=>by
  simp at h;subst h;show R.renL σ r::o9 σ (b8 (k+1) l)=_;have key:∀(l:List Alt) (k:Nat),(∀j,j<l.length→σ (k+j+800)=k+j+800)→o9 σ (b8 k l)=b8 k l:=by
   intro l
   induction l with
   | nil=>intro _ _;rfl
   | cons c l y=>
    intro k hk;simp only[b8,o9]
    rw[lD,show σ (k+800)=k+800 from hk 0 (by simp),y (k+1) fun j hj=>by
     have:=hk (j+1) (by simp;exact hj)
     rwa [show k+(j+1)+800=k+1+j+800 by omega] at this];rfl
  rw[q,key l (k+1) fun j hj=>by
   have:=hσ (j+1) (by simp;exact hj) (by omega)
   rwa [show k+(j+1)+800=k+1+j+800 by omega] at this];rfl
 | b::l,k,i+1,a,r,h,hσ,q=>by
  show R.renL σ (fB k b)::o9 σ ((b8 (k+1) l).set i r)=_
  rw[lD,show σ (k+800)=k+800 from hσ 0 (by simp) (by omega),xH (l:=l) (k:=k+1) (a:=a) (by simpa using h) (fun j hj I=>by
   have:=hσ (j+1) (by simp;exact hj) (by omega)
   rwa [show k+(j+1)+800=k+1+j+800 by omega] at this) (by rw[q,show k+1+i=k+(i+1) by omega])];rfl
theorem aPv {i:Nat}{al:List Alt}{j:Nat}(h:j≠i+800):Go.AM.look (yG i al) j=Go.AM.look (fam 0 al) j:=by
 unfold yG;generalize fam 0 al=F
 induction F with
 | nil=>rfl
 | cons p F q=>
  obtain⟨k,o⟩:=p;rw[Dc];simp only[Go.AM.look];by_cases hk:k=i+800
  ·rw[hk,Cg];simp only[Bool.not_true,Ba,B5];rw[q,aFm h];rfl
  ·rw[aFm hk];simp only[Bool.not_false,Cw,Go.AM.look];cases Nat.beq j k
   ·simpa using q
   ·rfl
theorem aVl {i:Nat}{al:List Alt}:renH (swp 704 (i+800)) (yG i al)=yG i al:=by
 have key:∀F:List (Nat×AObj),(∀p∈F,p∈yG i al)→renH (swp 704 (i+800)) F=F:=by
  intro F
  induction F with
  | nil=>intro _;rfl
  | cons p F y=>
   intro h;have hp:=aBf (h p η);obtain⟨te,es,l,z,e⟩:=iH.arr p hp.1;have I:=iH.far p hp.1;show(swp 704 (i+800) p.1,p.2.ren _)::renH _ F=_;rw[y fun q J=>h q (χ _ J),zM (by omega) hp.2,e];show(p.1,AObj.arr te es l z)::F=_;rw[←e]
 exact key _ fun _ h=>h
abbrev aX (i:Nat) (al:List Alt) (a:Alt) (nv:Nat):List (Nat×AObj):=aH ((b8 0 al).set i []) i a.form a.n a.name nv a.vars a.body++yG i al
theorem aPw {i:Nat}{al:List Alt}{a:Alt}(y:al[i]?=some a):Go.AM.look (renH (swp 704 (i+800)) (aX i al a a.vars.length))=Go.AM.look ((703,.rarr 73 14 (b8 0 al))::fam 0 al):=by
 have I:renH (swp 704 (i+800)) (aX i al a a.vars.length)=(703,.rarr 73 14 (b8 0 al))::(i+800,.arr 9 1 (a.vars.map bA) 0)::yG i al:=by
  unfold aX aH;show(swp 704 (i+800) 703,AObj.rarr _ _ (o9 _ _))::(swp 704 (i+800) 704,AObj.arr _ _ _ _)::renH _ (yG i al)=_;rw[aVl,zM (by omega) (by omega),a2w];have q:swp 704 (i+800) 704=i+800:=by unfold swp;rw[Cg];rfl
  rw[q,xH y (fun j hj J=>zM (by omega) (by omega)) ?_];unfold aI7 fB;simp only[A1,A3,R.renL,R.ren,aT4,q,Be]
 rw[I];funext j;by_cases h1:j=703
 ·subst h1;rw[bQ,bQ]
 rw[cQ h1,cQ h1];by_cases h2:j=i+800
 ·subst h2;rw[bQ];have:=r6 (n8 (l:=al) (k:=0)) _ (aE1 y);rw[Be] at this;exact this.symm
 ·rw[cQ h2,aPv h2]
theorem oG:∀{l:List Alt}{k i:Nat}{q:Alt},(b8 k (l.set i q)).set i []=(b8 k l).set i []
 | [],_,_,_=>rfl
 | b::l,k,0,q=>rfl
 | b::l,k,i+1,q=>by
  simp only[C3,b8];rw[oG]
theorem aVk {i:Nat}{al:List Alt}{q:Alt}:yG i (al.set i q)=yG i al:=by
 unfold yG;have key:∀(l:List Alt) (k j:Nat),k+j=i→((fam k (l.set j q)).filter fun p=>!Nat.beq p.1 (i+800))=(fam k l).filter fun p=>!Nat.beq p.1 (i+800):=by
  intro l
  induction l with
  | nil=>intro _ _ _;rfl
  | cons b l y=>
   intro k j h;cases j with
   | zero=>
    have e:k=i:=by omega
    subst e;simp only[set_cons_zero,fam,Dc,Cg,Bool.not_true];rfl
   | succ j=>
    simp only[C3,fam,Dc];rw[y (k+1) j (by omega)]
 exact key al 0 i (by omega)
theorem a0p (al:List Alt) (i:Nat) (a:Alt) (I:al[i]?=some a) (s:Str) (b:Core) (sb:Core→Str→Core→Core) (P:Core→Prop) (hok:PutOk sb P s b [a.body])
  (hM:(pfR a.body).length+2*a.vars.length+(pfR b).length+1≤540000000000) (nv:Nat) (Y:nv=a.vars.length) (Z:Nat) (aa:Z=al.length):
  ∃q,(dV sb s b a.vars [a.body]).2=[q]∧aW Tryz.prog 137 [.ma [.ras nv 1 (vR i nv nv).flatten,.ras 1 1 [.rp 703 i 4 Z]],Go.AM.T s,.pa (aB b)] ((703,.rarr 73 14 (b8 0 al))::fam 0 al) (.tup [])
   ((703,.rarr 73 14 (b8 0 (al.set i (.mk a.form a.n a.name (dV sb s b a.vars [a.body]).1 q))))::fam 0 (al.set i (.mk a.form a.n a.name (dV sb s b a.vars [a.body]).1 q))):=by
 subst Y;subst aa;have ab:i<al.length:=(ξ.1 I).1
 have ac:((b8 0 al).set i []).length=al.length:=by rw[Cn,fI]
 have hr:∀x∈dB ((b8 0 al).set i []),x∈keys (yG i al):=fun x hx=>by
  obtain⟨j,h1,h2,rfl⟩:=sE hx;exact aVm h1 h2
 obtain⟨q,hq,h⟩:=a5e ((b8 0 al).set i []) i a.form a.n a.name a.vars.length a.vars a.body (yG i al) s b sb P aHf hr (by omega) rfl hok hM;refine⟨q,hq,?_⟩;have hl1:=(sQ (sb:=sb) (s:=s) (b:=b) (ns:=a.vars) (ps:=[a.body])).1
 rw[ac] at h;have y:∀(ns:List Str) (p:Core),subset (dI (aH ((b8 0 al).set i []) i a.form a.n a.name a.vars.length ns p++yG i al)) (keys (aH ((b8 0 al).set i []) i a.form a.n a.name a.vars.length ns p++yG i al))=true:=fun ns p=>fK (oY aHf (aHW aHf hr).refs)
 have h2:=aW.swap 704 (i+800) h (y _ _) (fK fun x hx=>by
  have hx:x∈(grO (aN a.vars.length) (aP i al.length)).refs++([]++([]++[])):=hx;rw[A9,A9,A9] at hx;rcases aH5 x hx with rfl | rfl
  ·simp[aH,keys]
  ·simp[aH,keys]) (y _ _) rfl
 have ea:V.renL (swp 704 (i+800)) [gpV (aN a.vars.length) (aP i al.length),Go.AM.T s,.pa (aB b)]=[.ma [.ras a.vars.length 1 (vR i a.vars.length a.vars.length).flatten,.ras 1 1 [.rp 703 i 4 al.length]],Go.AM.T s,.pa (aB b)]:=by
  have J:swp 704 (i+800) 704=i+800:=by unfold swp;rw[Cg];rfl
  have en:R.renL (swp 704 (i+800)) (aN a.vars.length)=(vR i a.vars.length a.vars.length).flatten:=by
   unfold aN vR rgR;generalize List.range a.vars.length=rg
   induction rg with
   | nil=>rfl
   | cons j rg ih=>
    simp only[At,Bm,List.singleton_append,R.renL,R.ren,J] at ih ⊢;rw[ih]
  unfold gpV aP;simp only[V.renL,V.ren,R.renL,R.ren,en,aYk,zM (show 703≠704 by omega) (show 703≠i+800 by omega)];rfl
 rw[ea] at h2;refine aW.row h2 (aPw I).symm ?_;have O:(al.set i (.mk a.form a.n a.name (dV sb s b a.vars [a.body]).1 q))[i]?=some (.mk a.form a.n a.name (dV sb s b a.vars [a.body]).1 q):=List.getElem?_set_self ab;have h3:=aPw O;unfold aX at h3;rw[oG,aVk] at h3;rw[←h3];show Go.AM.look (renH _ (aH _ i a.form a.n a.name (dV sb s b a.vars [a.body]).1.length _ _++yG i al))=_;rw[hl1];rfl
def lV (h:dD):Prop:=∀i,800≤i→h i=none
theorem lV.nil:lV (Go.AM.look []):=fun _ _=>rfl
theorem lV.upd {h:dD}{k:Nat}{x:Option AObj}(q:lV h) (hk:Nat.blt k 800=true:=by rfl):lV (upd h k x):=fun i hi=>by
 have:=Ak hk;rw[aV _ _ _ (by omega)];exact q i hi
theorem aJ9:∀bs:List Bind,mkB (bs.map Bind.ty) (bs.map Bind.name) (bs.map Bind.body)=bs
 | []=>rfl
 | .mk s t c::bs=>by
  show Bind.mk s t c::mkB _ _ _=_;rw[aJ9 bs]
theorem a77 {b:Bool}{nk nb:Nat}(h:b=false):vB b nk nb=[.ras (tN nb).length 1 (tN nb),.ras (tP nk nb).length 1 (tP nk nb)]:=by
 subst h;have q:(nR false nb nb).length=(tN nb).length:=by unfold tN;rw[nV aNw,mul_one]
 have y:(pR nk nb nb).length=(tP nk nb).length:=by unfold tP;rw[nV aD0,mul_one]
 unfold vB;rw[q,y];rfl
section
variable {clr:Core→List Str→Core}{k:Nat}
noncomputable def kF (sb:Core→Str→Core→Core) (s:Str) (b:Core) (a:Alt):Alt:=.mk a.form a.n a.name (dV sb s b a.vars [a.body]).1 ((dV sb s b a.vars [a.body]).2.headD a.body)
noncomputable def w7 (sb:Core→Str→Core→Core) (s:Str) (b:Core) (al:List Alt) (i:Nat):List Alt:=(al.take i).map (kF sb s b)++al.drop i
theorem aB2 {sb:Core→Str→Core→Core}{s:Str}{b:Core}{al:List Alt}{i:Nat}:(w7 sb s b al i).length=al.length:=by unfold w7;simp;omega
theorem a1g {sb:Core→Str→Core→Core}{s:Str}{b:Core}{al:List Alt}{i:Nat}{a:Alt}(h:al[i]?=some a):(w7 sb s b al i)[i]?=some a:=by
 have q:i<al.length:=(ξ.1 h).1
 unfold w7;rw[Ao (by simp;omega),φ,Ap,Ci (by omega),C7,Am,B9,h]
theorem aSs {sb:Core→Str→Core→Core}{s:Str}{b:Core}{al:List Alt}{i:Nat}{a:Alt}(h:al[i]?=some a):w7 sb s b al (i+1)=(w7 sb s b al i).set i (kF sb s b a):=by
 have q:i<al.length:=(ξ.1 h).1
 unfold w7;rw[vO h,zT (by simp;omega),Bt,h];simp
theorem aSr {sb:Core→Str→Core→Core}{s:Str}{b:Core}{al:List Alt}:w7 sb s b al 0=al:=by simp[w7]
theorem aWk {sb:Core→Str→Core→Core}{s:Str}{b:Core}{al:List Alt}:w7 sb s b al al.length=al.map (kF sb s b):=by simp[w7]
noncomputable def zNm (sb:Core→Str→Core→Core) (f:Int) (nm:Str) (s:Str) (b:Core) (ks:List Core) (bs:List Bind):Nat→Str
 | 0=>nm
 | _+1=>if f=5 then(dV sb s b (gvN f nm bs) (ks++bs.map Bind.body)).1.headD nm else nm
noncomputable def zKs (sb:Core→Str→Core→Core) (f:Int) (nm:Str) (s:Str) (b:Core) (ks:List Core) (bs:List Bind):Nat→List Core
 | 0=>ks
 | _+1=>(dV sb s b (gvN f nm bs) (ks++bs.map Bind.body)).2.take ks.length
noncomputable def zBs (sb:Core→Str→Core→Core) (f:Int) (nm:Str) (s:Str) (b:Core) (ks:List Core) (bs:List Bind):Nat→List Bind
 | 0=>bs
 | _+1=>mkB (bs.map Bind.ty) (dV sb s b (gvN f nm bs) (ks++bs.map Bind.body)).1 ((dV sb s b (gvN f nm bs) (ks++bs.map Bind.body)).2.drop ks.length)
noncomputable def zAs (sb:Core→Str→Core→Core) (s:Str) (b:Core) (al:List Alt):Nat→List Alt
 | 0=>al
 | i+1=>w7 sb s b al i
theorem aBe:∀{l m:List Alt}{k:Nat},l.length=m.length→keys (fam k l)=keys (fam k m)
 | [],[],_,_=>rfl
 | a::l,c::m,k,h=>by
  show(k+800)::keys (fam (k+1) l)=(k+800)::keys (fam (k+1) m);rw[aBe (by simpa using h)]
end
def vT (z:Str):Ty:=.mk 2 0 z []
def a5z (ts:Ty→Ty) (sb:Core→Core):Core→Core
 | .mk f n nm t ks bs al=>.mk f n nm (ts t) (ks.map sb) (bs.map fun b=>.mk b.name (ts b.ty) (sb b.body)) (al.map fun a=>.mk a.form a.n a.name a.vars (sb a.body))
section
variable {α:Type}{g:α→α}
end
mutual
def wfC:Core→Bool
 | .mk f _ _ _ ks bs al=>(!decide (f=5∨f=6∨f=7) || (ks.length==1&&bs.isEmpty&&al.isEmpty))&&(!decide (f=1) || (ks.isEmpty&&bs.isEmpty&&al.isEmpty))&&a15 ks&&a16 bs&&a17 al
def a15:List Core→Bool
 | []=>true
 | c::l=>wfC c&&a15 l
def a16:List Bind→Bool
 | []=>true
 | .mk _ _ c::l=>wfC c&&a16 l
def a17:List Alt→Bool
 | []=>true
 | .mk _ _ _ _ c::l=>wfC c&&a17 l
end
theorem aIe:∀{l:List Core},a15 l=true↔∀x∈l,wfC x=true
 | []=>by simp[a15]
 | c::l=>by rw[a15,ζ,aIe (l:=l)];simp
theorem aIf:∀{l:List Bind},a16 l=true↔∀x∈l,wfC x.body=true
 | []=>by simp[a16]
 | .mk s t c::l=>by rw[a16,ζ,aIf (l:=l)];simp[Bind.body]
theorem aIg:∀{l:List Alt},a17 l=true↔∀x∈l,wfC x.body=true
 | []=>by simp[a17]
 | .mk f n s vs c::l=>by rw[a17,ζ,aIg (l:=l)];simp[Alt.body]
theorem aWr {f n:Int}{nm:Str}{t:Ty}{ks:List Core}{bs:List Bind}{al:List Alt}(h1:f=5∨f=6∨f=7→(∃k,ks=[k])∧bs=[]∧al=[]) (h0:f=1→ks=[]∧bs=[]∧al=[])
  (h3:∀x∈ks,wfC x=true) (h4:∀x∈bs,wfC x.body=true) (h5:∀x∈al,wfC x.body=true):wfC (.mk f n nm t ks bs al)=true:=by
 rw[wfC,ζ,ζ,ζ,ζ];refine⟨⟨⟨⟨?_,?_⟩,aIe.2 h3⟩,aIf.2 h4⟩,aIg.2 h5⟩
 ·by_cases q:f=5∨f=6∨f=7
  ·obtain⟨⟨k,rfl⟩,rfl,rfl⟩:=h1 q;simp
  ·rw[Ag q];rfl
 ·by_cases q:f=1
  ·obtain⟨rfl,rfl,rfl⟩:=h0 q;simp
  ·rw[Ag q];rfl
noncomputable def sJ (sb:Core→Str→Core→Core) (s:Str) (b:Core):Core→Core
 | .mk f n nm t ks bs al=>.mk f n (zNm sb f nm s b ks bs 1) t (zKs sb f nm s b ks bs 1) (zBs sb f nm s b ks bs 1) (al.map (kF sb s b))
theorem aMw (f n:Int) (nm:Str) (t:Ty) (ks:List Core) (bs:List Bind) (al:List Alt) (s:Str) (b:Core) (y:f=1∧nm=s) (I:LC b) (J:oV TyG b):
  aW Tryz.prog 97 [.pa (aB (.mk f n nm t ks bs al)),Go.AM.T s,.pa (aB b)] [] (.pa (aB b)) []:=by
 have q:=aK3 (aQ b) b (le_refl _) I J;have q:aW Tryz.prog 101 [.pa (aB b)] [] (.pa (aB b)) []:=q;have Y:decide (f=1)=true:=Ae y.1;have O:decide (nm=s)=true:=Ae y.2;refine bZ (n:=47) tok Tryz.func97 rfl rfl rfl ?_;refine sg rfl (a8 (sgh [(3,.bv true),(8,.bv true)] rfl (aA rfl (fun _=>?_) (fun hb=>?_))))
 ·refine sk 1 rfl (kc q ?_);exact kz 1 rfl (aF (rtC trw))
 ·exact absurd (show decide (nm=s)=false from hb) (by rw[O];decide)
theorem aHn (sb:Core→Str→Core→Core) (P:Core→Prop) (f n:Int) (nm0 nm:Str) (t:Ty) (y ks:List Core) (bs:List Bind) (al:List Alt) (s:Str) (b:Core)
  (hcs:LC (.mk f n nm0 t y bs al)) (hT:oV TyG (.mk f n nm0 t y bs al)) (hv:¬(f=1∧nm0=s)) (hkl0:ks.length=y.length)
  (w2:f=5→(∃k,ks=[k])∧bs=[]∧al=[])
  (h7:f=7→bs=[]∧al=[]∧∃fl:List Str,aW Tryz.prog 136 [.pa (aB (.mk f n nm0 t y bs al))] [] (eE fl) []∧fl.length≤540000000000∧
   (s∈fl→∃tl:List Str,aW Tryz.prog 114 [.pa (aB b)] [] (eE tl) []∧aW Tryz.prog 115 [.one (.vp 700 0),eE tl] (gHl f n nm0 t y [] []) (.tup []) (gHl f n nm t ks [] []))∧
   (¬s∈fl→nm=nm0∧ks=y))
  (hn7:f≠7→nm=nm0∧ks=y)
  (hok:PutOk sb P s b (ks++bs.map Bind.body)) (hokA:∀a∈al,PutOk sb P s b [a.body])
  (hM:((ks++bs.map Bind.body).flatMap pfR).length+2*(1+bs.length)+(pfR b).length+(ks.length+bs.length)≤540000000000)
  (hMA:∀a∈al,(pfR a.body).length+2*a.vars.length+(pfR b).length+1≤540000000000):
  aW Tryz.prog 97 [.pa (aB (.mk f n nm0 t y bs al)),Go.AM.T s,.pa (aB b)] [] (.pa (aB (sJ sb s b (.mk f n nm t ks bs al)))) []:=by
 have au:=a0r _ hcs hT;have au:aW Tryz.prog 101 [.pa (aB (.mk f n nm0 t y bs al))] [] (.ma (j1 f n nm0 t y.length bs.length al.length)) (oHl y bs al++fam 0 al):=au;refine bZ (n:=47) tok Tryz.func97 rfl rfl rfl ?_;refine sg rfl (a8 (AWp.cut (mk [(1,Go.AM.T s),(3,.one (.vp 3 0)),(5,.one (.vp 5 0)),(6,.one (.vp 6 0))] [(3,.var 30 (bF (.mk f n nm0 t y bs al))),(5,.var 30 (bF b)),(6,.var 30 dY)]) ?_ ?_))
 ·by_cases av:f=1
  ·have hd1:decide (f=1)=true:=Ae av;have hd2:decide (nm0=s)=false:=Ag fun h=>hv ⟨av,h⟩
   exact sgh [(3,.bv true),(8,.bv true)] rfl (aA rfl (fun hb=>absurd (show decide (nm0=s)=true from hb) (by rw[hd2];decide)) (fun _=>aD sl))
  ·have hd1:decide (f=1)=false:=Ag av;exact sgh [(3,.bv false),(8,.bv false)] rfl (aA rfl nofun (fun _=>aD sl))
 have J:TF (fam 0 al):=iH;refine sk 1 rfl (kc au ?_ (hout':=dU.app ⟨.inr rfl,.inr rfl,.inr rfl,trivial⟩ (dU.of fun p hp=>.inr ((show lV _ by repeat (first | exact lV.nil | (refine lV.updL ?_) | (refine lV.upd ?_))) p.1 (J.far p hp)))));rw[aBc J];refine ak 2 [(2,.id 700)] rfl (az (AWp.sub (st2:=mkt [(1,Go.AM.T s),(3,.one (.vp 3 0)),(5,.one (.vp 5 0)),(6,.one (.vp 6 0)),(7,.one (.vp 700 0))] ([(3,.var 30 (bF (.mk f n nm0 t y bs al))),(5,.var 30 (bF b)),(6,.var 30 dY)]++gHl f n nm0 t y bs al) (fam 0 al)) (slG gW (fun _ h=>by cases h) (by repeat (first | exact FarEq.bif J (FarEq.outs J) | (refine FarEq.updL J ?_) | (refine FarEq.upd J ?_)))) ?_));refine a8 (AWp.cut (mkt [(1,Go.AM.T s),(3,.one (.vp 3 0)),(5,.one (.vp 5 0)),(6,.one (.vp 6 0)),(7,.one (.vp 700 0))] ([(3,.var 30 (bF (.mk f n nm0 t y bs al))),(5,.var 30 (bF b)),(6,.var 30 dY)]++gHl f n nm t ks bs al) (fam 0 al)) ?_ ?_)
 ·by_cases ai:f=7
  ·have hd7:decide (f=7)=true:=Ae ai;obtain⟨rfl,rfl,fl,hfr,hfl,hy,hn⟩:=h7 ai;have aj:=dQ fl s (by omega);refine skh 5 [(3,.bv true)] rfl (kcG hfr ?_);refine ak 1 [(3,.bv true)] rfl ?_;by_cases hin:s∈fl
   ·rw[Ae hin] at aj;obtain⟨tl,hty,hcl⟩:=hy hin;refine kcG aj ?_;refine ak 1 [(3,.bv true),(8,.bv true)] rfl (az (aA rfl (fun _=>aE mixed (ak 1 [] rfl (kc hty ?_))) nofun));refine kc hcl ?_;exact az (slG gW (fun _ h=>by cases h) (fun p hp=>by cases hp))
   ·rw[Ag hin] at aj;obtain⟨rfl,rfl⟩:=hn hin;refine kcG aj ?_;exact ak 1 [(3,.bv true),(8,.bv true)] rfl (az (aA rfl nofun (fun _=>aD (slG gW (fun _ h=>by cases h) (fun p hp=>by cases hp)))))
  ·have hd7:decide (f=7)=false:=Ag ai;obtain⟨rfl,rfl⟩:=hn7 ai;refine sgh [(3,.bv false),(8,.bv false)] rfl (aA rfl nofun (fun _=>?_));exact aD (slG gW (fun _ h=>by cases h) (by repeat (first | exact FarEq.raw J | (refine FarEq.updL J ?_) | (refine FarEq.upd J ?_))))
 have hR:=sQ (sb:=sb) (s:=s) (b:=b) (ns:=gvN f nm bs) (ps:=ks++bs.map Bind.body);have hN1:∀g,(zKs sb f nm s b ks bs g).length=ks.length:=fun g=>by
  cases g with
  | zero=>rfl
  | succ g=>show(List.take _ _).length=_;rw[Ap,hR.2,ε];omega
 have aw:(bs.map Bind.ty).length=bs.length:=φ _;have hN2:∀g,(zBs sb f nm s b ks bs g).length=bs.length:=fun g=>by
  cases g with
  | zero=>rfl
  | succ g=>
   show(mkB _ _ _).length=_;by_cases ab:f=5
   ·obtain⟨_,rfl,_⟩:=w2 ab;rfl
   ·rw[uQ,aw]
    ·rw[hR.1];unfold gvN;rw[θ ab];simp
    ·rw[Bk,hR.2,ε];simp
 have ax:∀g,(zAs sb s b al g).length=al.length:=fun g=>by
  cases g with
  | zero=>rfl
  | succ g=>exact aB2
 obtain⟨l1,l2,l3⟩:(y.length+bs.length+1≤570000000000)∧(al.length+1≤570000000000)∧(∀a∈al,a.vars.length≤570000000000):=by
  cases hcs with
  | mk h1 h2 h3 _ _ _=>exact⟨h1,h2,h3⟩
 have hgr:=aFf (decide (f=5)) f n nm t ks bs al rfl (by omega) (by omega) (by omega) fun a ha=>by have:=l3 a ha;omega
 have am:=r7 (f:=f) (n:=n) (s:=nm) (t:=t) (ks:=ks) (bs:=bs) (al:=al) (decide (f=5)) al.length;rw[As] at am;have hgl:(dT (decide (f=5)) ks.length bs.length al.length al).length=1+al.length:=a4i;have hra:gfo f n nm t ks bs al (R.refsL (dT (decide (f=5)) ks.length bs.length al.length al).flatten):=by rw[eU];exact am
 have ay:(dT (decide (f=5)) ks.length bs.length al.length al)[0]?=some (vB (decide (f=5)) ks.length bs.length):=a4l;have hgA:∀i a,al[i]?=some a→(dT (decide (f=5)) ks.length bs.length al.length al)[i+1]?=some (oU al.length i a):=fun i a h=>a4k h
 have aG:∀k r,(dT (decide (f=5)) ks.length bs.length al.length al)[k]?=some r→((dT (decide (f=5)) ks.length bs.length al.length al).flatten.drop (k*2)).take 2=r:=gK aQh;generalize dT (decide (f=5)) ks.length bs.length al.length al=G at hgr hgl hra ay hgA aG;refine a8 (a8 (aE mixed (kc hgr ?_ (hin':=dU.app ⟨rfl,rfl,rfl,rfl,trivial⟩ (FarEq.raw J).all) (hout':=dU.of fun p hp=>.inl (Ah.2 ⟨p,hp,rfl⟩)) (hok:=rI J (fun x hx=>.inl (bJ (show subset _ _=true from rfl) x hx)) aA7))));refine kz 2 rfl (AWp.sub (Sub.outsT J) ?_);refine aC ?_;have ap:∀g ex,∀x∈R.refsL G.flatten,Kn ex (gHl f n (zNm sb f nm s b ks bs g) t (zKs sb f nm s b ks bs g) (zBs sb f nm s b ks bs g) (zAs sb s b al g)) (fam 0 (zAs sb s b al g)) x:=fun g ex x hx=>by
  rcases hra x hx with h | h
  ·exact .inr (.inl (by simpa [gHl,keys] using h))
  ·exact .inr (.inr (by rw[aBe (ax g)];exact h))
 have hTF:∀g,TF (fam 0 (zAs sb s b al g)):=fun g=>iH
 refine aK (fun g:Nat=>mkt [(1,Go.AM.T s),(5,.one (.vp 5 0)),(6,.one (.vp 6 0)),(7,.one (.vp 700 0)),(35,.one (.ras G.length 2 G.flatten)),(36,I .i64 ((G.length:Nat):Int)),(37,I .i64 g)] ([(5,.var 30 (bF b)),(6,.var 30 dY)]++gHl f n (zNm sb f nm s b ks bs g) t (zKs sb f nm s b ks bs g) (zBs sb f nm s b ks bs g) (zAs sb s b al g)) (fam 0 (zAs sb s b al g))) (fun g=>g≤G.length) (fun g=>G.length-g) 0 (Al _) (slG gW (fun _ h=>by cases h) (FarEq.bif J (FarEq.outs J)) (h1:=Kn.app Kn.nil (Kn.app (Kn.of rfl) (Kn.app (Kn.of rfl) (Kn.app (Kn.of rfl) (Kn.app (ap 0 _) Kn.nil)))))) ?_;intro g hg;have Z:=hTF g;refine sg rfl (a8 (aA rfl (fun hb=>?_) (fun hb=>?_)))
 ·have hlt:g<G.length:=by
   have:(g:Int)<(G.length:Int):=ψ hb;omega
  refine aD ?_;cases g with
  | zero=>
   have aq:=aG 0 _ ay;by_cases ab:f=5
   ·have hd5:decide (f=5)=true:=Ae ab;obtain⟨⟨x,rfl⟩,rfl,rfl⟩:=w2 ab;subst ab;have hM':=hM;simp only[Co,A9,flatMap_cons,List.flatMap_nil,Ai,length_nil] at hM';obtain⟨x',q,hq,O⟩:=a5d n t nm x s b sb _ hok (by omega);have ae:gvN 5 nm []=[nm]:=rfl;have e1:zNm sb 5 nm s b [x] [] 1=x':=by
     show(if(5:Int)=5 then(dV sb s b (gvN 5 nm []) ([x]++[].map Bind.body)).1.headD nm else nm)=x';rw[κ rfl,ae];show(dV sb s b [nm] [x]).1.headD nm=x';rw[hq];rfl
    have e2:zKs sb 5 nm s b [x] [] 1=[q]:=by
     show(dV sb s b (gvN 5 nm []) ([x]++[].map Bind.body)).2.take 1=[q];rw[ae];show(dV sb s b [nm] [x]).2.take 1=[q];rw[hq];rfl
    have e3:zBs sb 5 nm s b [x] [] 1=[]:=rfl;have e4:zAs sb s b [] 1=[]:=rfl;refine a8 (aC (sgh [(0,.rowR 0 (vB true 1 0))] rfl (aE mixed (ak 3 [] rfl (kc O ?_)))));refine az (ag [] rfl ⟨1,hlt,by dsimp only;omega,?_⟩);have ac:=ap 1;rw[e1,e2,e3,e4] at ac;dsimp only;rw[e1,e2,e3,e4];exact slG gW (fun _ h=>by cases h) (fun p hp=>by cases hp) (h1:=Kn.app Kn.nil (Kn.app (Kn.of rfl) (Kn.app (Kn.of rfl) (Kn.app (Kn.of rfl) (Kn.app (ac _) Kn.nil)))))
   ·have hd5:decide (f=5)=false:=Ag ab;have ae:gvN f nm bs=bs.map Bind.name:=by unfold gvN;rw[θ ab];rfl
    have O:=a5c (bs.map Bind.ty) ks.length (bs.map Bind.name) (ks++bs.map Bind.body) s b sb _ (by simp) (by simp) hok (by simp only[φ,ε];omega);have eH:tH (bs.map Bind.ty) ks.length (bs.map Bind.name) (ks++bs.map Bind.body)=[(701,.arr 35 15 (aR bs) 0),(702,.arr 30 10 (aT ks) 0)]:=by
     unfold tH;rw[drop_left,take_left,aJ9]
    rw[eH,aw] at O;have hr0:vB (decide (f=5)) ks.length bs.length=[.ras (tN bs.length).length 1 (tN bs.length),.ras (tP ks.length bs.length).length 1 (tP ks.length bs.length)]:=a77 hd5;rw[hr0] at ay aq;have eB:aR (zBs sb f nm s b ks bs 1)=aR (mkB (bs.map Bind.ty) (dV sb s b (bs.map Bind.name) (ks++bs.map Bind.body)).1 ((dV sb s b (bs.map Bind.name) (ks++bs.map Bind.body)).2.drop ks.length)):=by
     show aR (mkB _ _ _)=_;rw[ae]
    have eK:aT (zKs sb f nm s b ks bs 1)=aT ((dV sb s b (bs.map Bind.name) (ks++bs.map Bind.body)).2.take ks.length):=by
     show aT (List.take _ _)=_;rw[ae]
    have eN:zNm sb f nm s b ks bs 1=nm:=by show(if f=5 then _ else nm)=nm;rw[θ ab]
    have eA:zAs sb s b al 1=al:=aSr;have l1:=hN1 1;have l2:=hN2 1;refine a8 (aC (sgh [(0,.rowR 0 [.ras (tN bs.length).length 1 (tN bs.length),.ras (tP ks.length bs.length).length 1 (tP ks.length bs.length)])] rfl (aE mixed (ak 3 [] rfl (kc O ?_ (hok:=?_))))));refine az (ag [] rfl ⟨1,hlt,by dsimp only;omega,?_⟩);have ac:=ap 1;dsimp only;rw[eN,eA] at ac ⊢;refine slG gW (fun _ h=>by cases h) (by repeat (first | exact FarEq.raw J | (refine FarEq.updL J ?_) | (refine FarEq.upd J ?_))) (h1:=Kn.app Kn.nil (Kn.app (Kn.of rfl) (Kn.app (Kn.of rfl) (Kn.app (Kn.of rfl) (Kn.app (ac _) Kn.nil))))) (hh:=⟨⟨_,rfl,.varS rfl⟩,⟨_,rfl,.varS rfl⟩,⟨_,rfl,.varS ?_⟩,⟨_,rfl,.arrS ?_⟩,⟨_,rfl,.arrS ?_⟩,⟨_,rfl,.rarrS rfl⟩,trivial⟩)
    ·rw[l1,l2];rfl
    ·exact eB.symm
    ·exact eK.symm
    ·refine rI (F:=[]) ⟨fun _ h=>(by cases h),nodup_nil,fun _ h=>(by cases h)⟩ (fun x hx=>.inl ?_) (fun x hx=>by cases hx);have hx:x∈(grO (tN bs.length) (tP ks.length bs.length)).refs:=by simpa [grO,gpV,AObj.refs,V.refsL,V.refs,R.refsL,R.refs] using hx
     rcases aGg x hx with rfl | rfl
     ·simp[keys]
     ·simp[keys]
  | succ i=>
   have hia:i<al.length:=by omega
   obtain⟨a,ar⟩:=aJ hia;have aq:=aG (i+1) _ (hgA i a ar);have hm:=δ ar;have hok:=hokA a hm;have hMa:=hMA a hm;have hz1:zAs sb s b al (i+1)=w7 sb s b al i:=rfl;have hz2:zAs sb s b al (i+1+1)=(w7 sb s b al i).set i (kF sb s b a):=aSs ar;have hz3:zNm sb f nm s b ks bs (i+1+1)=zNm sb f nm s b ks bs (i+1):=rfl;have hz4:zKs sb f nm s b ks bs (i+1+1)=zKs sb f nm s b ks bs (i+1):=rfl;have hz5:zBs sb f nm s b ks bs (i+1+1)=zBs sb f nm s b ks bs (i+1):=rfl;obtain⟨q,hq,O⟩:=a0p (w7 sb s b al i) i a (a1g ar) s b sb _ hok (by omega) (vR i a.vars.length a.vars.length).length (i7 _ _) al.length aB2.symm;have hnew:(Alt.mk a.form a.n a.name (dV sb s b a.vars [a.body]).1 q)=kF sb s b a:=by unfold kF;rw[hq];rfl
   rw[hnew] at O;have hvl:(vR i a.vars.length a.vars.length).length=a.vars.length:=i7 _ _;have ah:=ap (i+1+1);have ad:=hTF (i+1+1);have hA3:=ax (i+1+1);rw[hz2] at ah ad hA3;rw[hz3,hz4,hz5] at ah;have hA4:(w7 sb s b al i).length=al.length:=aB2;generalize hNm:zNm sb f nm s b ks bs (i+1)=nm1 at *;generalize hKs:zKs sb f nm s b ks bs (i+1)=ks1 at *;generalize hBs:zBs sb f nm s b ks bs (i+1)=aa at *;rw[hz1] at Z ⊢;have halR:oU al.length i a=[.ras (vR i a.vars.length a.vars.length).length 1 (vR i a.vars.length a.vars.length).flatten,.ras 1 1 [.rp 703 i 4 al.length]]:=rfl;rw[halR] at aq;rw[hvl] at aq O;refine a8 (aC (sgh [(0,.rowR (i+1) [.ras a.vars.length 1 (vR i a.vars.length a.vars.length).flatten,.ras 1 1 [.rp 703 i 4 al.length]])] rfl (aE mixed (ak 3 [] rfl (kc O ?_ (hin':=⟨rfl,FarEq.all (by repeat (first | exact FarEq.raw Z | (refine FarEq.updL Z ?_) | (refine FarEq.upd Z ?_)))⟩) (hout':=?_) (hok:=?_))))))
   ·have hcons:∀(o:AObj) (F:List (Nat×AObj)),((703,o)::F)=[(703,o)]++F:=fun _ _=>rfl
    rw[hcons,aBc ad];refine az (ag [] rfl ⟨i+1+1,by omega,by dsimp only;omega,?_⟩);dsimp only;rw[hz2,hz3,hz4,hz5];refine slG gW (fun _ h=>by cases h) (FarEq.bif ad (FarEq.outs ad)) (h1:=Kn.app Kn.nil (Kn.app (Kn.of rfl) (Kn.app (Kn.of rfl) (Kn.app (Kn.of rfl) (Kn.app (ah _) Kn.nil))))) (hh:=⟨⟨_,rfl,.varS rfl⟩,⟨_,rfl,.varS rfl⟩,⟨_,rfl,.varS ?_⟩,⟨_,rfl,.arr⟩,⟨_,rfl,.arr⟩,⟨_,rfl,.rarrS rfl⟩,trivial⟩);rw[hA3,hA4]
   ·refine dU.of fun p hp=>.inl ?_
    have hp1:p.1∈keys ((703,AObj.rarr 73 14 (b8 0 ((w7 sb s b al i).set i (kF sb s b a))))::fam 0 ((w7 sb s b al i).set i (kF sb s b a))):=Ah.2 ⟨p,hp,rfl⟩;show p.1∈703::keys (fam 0 (w7 sb s b al i));rw[aBe (m:=(w7 sb s b al i).set i (kF sb s b a)) (by rw[Cn])];exact hp1
   ·refine rI (hl:=[(703,.rarr 73 14 (b8 0 (w7 sb s b al i)))]) Z (fun x hx=>?_) (fun x hx=>.inr (eR x (by simpa [dI,AObj.refs] using hx)));have hx:x∈R.refsL (vR i a.vars.length a.vars.length).flatten++[703]:=by simpa [V.refsL,V.refs,R.refsL,R.refs] using hx
    rcases ω.1 hx with hx | hx
    ·rw[eU] at hx;have:=nL (L:=fun x=>x=i+800) (fun j x hx=>by simpa [R.refsL,R.refs] using hx) _ x hx;rw[this];have hk:=aQ2 (l:=w7 sb s b al i) (k:=0) (i:=i) (by omega);rw[Be] at hk;exact .inr hk
    ·rw[Ab.1 hx];exact .inl (by simp[keys])
 have hge:g=1+al.length:=by
  have:¬(g:Int)<(G.length:Int):=π hb;omega
 have hgs:g=al.length+1:=by omega
 subst hgs;clear hge hb;have e:sJ sb s b (.mk f n nm t ks bs al)=.mk f n (zNm sb f nm s b ks bs (al.length+1)) t (zKs sb f nm s b ks bs (al.length+1)) (zBs sb f nm s b ks bs (al.length+1)) (zAs sb s b al (al.length+1)):=by
  rw[sJ];show _=Core.mk _ _ _ _ _ _ (w7 sb s b al al.length);rw[aWk];rfl
 rw[e];have m1:=hN1 (al.length+1);have m2:=hN2 (al.length+1);have m3:=ax (al.length+1);generalize zNm sb f nm s b ks bs (al.length+1)=nm1 at *;generalize zKs sb f nm s b ks bs (al.length+1)=ks1 at *;generalize zBs sb f nm s b ks bs (al.length+1)=aa at *;generalize zAs sb s b al (al.length+1)=Y at *;refine aL (AWp.sub (st2:=mkt [(6,.one (.vp 6 0)),(7,.one (.vp 700 0))] (oHl ks1 aa Y++[(700,.var 30 (j1 f n nm1 t ks1.length aa.length Y.length)),(6,.var 30 dY)]) (fam 0 Y)) (slT Z (by repeat (first | exact FarEq.raw Z | (refine FarEq.updL Z ?_) | (refine FarEq.upd Z ?_))) (fun x hx=>.inl (bJ (show subset _ _=true from rfl) x hx)) (fun x hx=>?_) (fun _ h=>by cases h)) ?_)
 ·rw[jI] at hx;rcases ω.1 hx with hx | hx
  ·exact .inr (eR x (by simpa [oHl,dI,AObj.refs] using hx))
  ·refine .inl ?_;have hx:x=702∨x=701∨x=703:=by simpa [dI,AObj.refs,j1,dY,R.refsL,R.refs] using hx
   rcases hx with rfl | rfl | rfl<;>simp[oHl,keys]
 refine AWp.sub (x8 (by simp[keys]) (Kn.of rfl) ⟨Kn.of rfl,Kn.of rfl,trivial⟩ (fun _ h=>by cases h) rfl rfl (by simp) (fun p hp=>by
  rcases Ac.1 hp with rfl | hp
  ·rfl
  ·rw[Ab.1 hp];rfl)) ?_
 have e1:fzH 703 (.ra Y.length 14 (b8 0 Y).flatten) ([(701,.arr 35 15 (aR aa) 2),(702,.arr 30 10 (aT ks1) 2)]++[(700,.var 30 (j1 f n nm1 t ks1.length aa.length Y.length)),(6,.var 30 dY)])
   =[(701,.arr 35 15 (aR aa) 2),(702,.arr 30 10 (aT ks1) 2),(700,.var 30 (s7 f n nm1 t ks1.length aa.length Y)),(6,.var 30 dY)]:=by
  unfold j1 s7;show [(701,_),(702,_),(700,AObj.var _ (R.fzL _ _ _)),(6,AObj.var _ (R.fzL _ _ _))]=_;simp only[R.fzL,R.fz,Cg,Cw,Bool.and_self];rfl
 rw[e1];have hFz:TF (aGc (fam 0 Y)):=Z.frz;obtain⟨ids,hp⟩:=aC6 (h:=(mkt [] [(701,.arr 35 15 (aR aa) 2),(702,.arr 30 10 (aT ks1) 2),(700,.var 30 (s7 f n nm1 t ks1.length aa.length Y)),(6,.var 30 dY)] (aGc (fam 0 Y))).h) (f:=f) (n:=n) (s:=nm1) (t:=t) (ks:=ks1) (bs:=aa) (al:=Y) rfl rfl (FarEq.mkt hFz rfl);refine AWp.sub (Sub.varPure (x:=700) rfl hp) ?_;exact sg rfl (aF (rtC trw))
theorem a5p (n:Int):aW Tryz.prog 63 [I .i64 n] [] (.pa (aB (.mk 3 n [] zTy [] [] []))) []:=by
 refine bZ (n:=5) tok Tryz.func63 rfl rfl rfl ?_;exact sg rfl (sg rfl (aF (rtC trw)))
def qC (f n:Int) (s:Str) (t:Ty) (nk nb na:Nat):List R:=[.c (.int .i64 f),.c (.int .i64 n),.c (.str s),.c (.int .i64 t.form),.c (.int .i64 t.n),.c (.str t.name),.c (.sl 4 (iK t)),.hs 702 0 nk nk,.hs 701 0 nb nb,.hs 703 0 na na]
theorem aZu {o:List Str}{s:Str}(h:o.Nodup):(wK o s).Nodup:=by
 unfold wK;split
 ·exact h
 ·rename_i hs;rw[C0];exact⟨h,by simp,fun a ha b hb e=>by rw[Ab.1 hb] at e;subst e;exact hs ha⟩
theorem aJk (G:List Str):∀(l o:List Str),o.Nodup→(pfP G o l).Nodup
 | [],_,h=>h
 | s::l,o,h=>by
  show(pfP G (pfG G o s) l).Nodup;refine aJk G l _ ?_;unfold pfG;split
  ·exact h
  ·exact aZu h
mutual
theorem aUl:∀c:Core,(pfR c).Nodup
 | .mk f n s t ks bs al=>by
  rw[pfR];split
  ·simp
  ·exact aXe al _ (aXd _ bs _ (aXc _ ks _ nodup_nil))
theorem aXc (G:List Str):∀(l:List Core) (o:List Str),o.Nodup→(wI G l o).Nodup
 | [],_,h=>by rw[wI];exact h
 | c::l,o,h=>by rw[wI];exact aXc G l _ (aJk G _ _ h)
theorem aXd (G:List Str):∀(l:List Bind) (o:List Str),o.Nodup→(xO G l o).Nodup
 | [],_,h=>by rw[xO];exact h
 | .mk s t c::l,o,h=>by rw[xO];exact aXd G l _ (aJk G _ _ h)
theorem aXe:∀(l:List Alt) (o:List Str),o.Nodup→(aAk l o).Nodup
 | [],_,h=>by rw[aAk];exact h
 | .mk f n s v c::l,o,h=>by rw[aAk];exact aXe l _ (aJk v _ _ h)
end
theorem aZw {o:List Str}{x y:Str}(h:y∈o):y∈wK o x:=by
 unfold wK;split
 ·exact h
 ·exact ω.2 (.inl h)
theorem aUt {o:List Str}{x:Str}:x∈wK o x:=by
 unfold wK;split
 ·assumption
 ·exact ω.2 (.inr (by simp))
theorem a3v {G o:List Str}{x y:Str}(h:y∈o):y∈pfG G o x:=by
 unfold pfG;split
 ·exact h
 ·exact aZw h
theorem aDd {G:List Str}:∀{l o:List Str}{y:Str},y∈o→y∈pfP G o l
 | [],_,_,h=>h
 | x::l,o,_,h=>aDd (G:=G) (l:=l) (o:=pfG G o x) (a3v h)
theorem aAd {G:List Str}:∀{l o:List Str}{y:Str},y∈l→¬y∈G→y∈pfP G o l
 | x::l,o,y,h,q=>by
  rcases Ac.1 h with rfl | h
  ·refine aDd (G:=G) (l:=l) (o:=pfG G o y) ?_;unfold pfG;rw[θ q];exact aUt
  ·exact aAd (l:=l) (o:=pfG G o x) h q
theorem aOz {G:List Str}:∀{l:List Core}{o:List Str}{y:Str},y∈o→y∈wI G l o
 | [],_,_,h=>by rw[wI];exact h
 | c::l,o,y,h=>by rw[wI];exact aOz (aDd h)
theorem aAh {G:List Str}:∀{l:List Bind}{o:List Str}{y:Str},y∈o→y∈xO G l o
 | [],_,_,h=>by rw[xO];exact h
 | .mk s t c::l,o,y,h=>by rw[xO];exact aAh (aDd h)
theorem aAj:∀{l:List Alt}{o:List Str}{y:Str},y∈o→y∈aAk l o
 | [],_,_,h=>by rw[aAk];exact h
 | .mk f n s vs c::l,o,y,h=>by rw[aAk];exact aAj (aDd h)
theorem aAf {G:List Str}:∀{l:List Core}{o:List Str}{y:Str}{c:Core},c∈l→y∈pfR c→¬y∈G→y∈wI G l o
 | d::l,o,y,c,h,q,I=>by
  rw[wI];rcases Ac.1 h with rfl | h
  ·exact aOz (aAd q I)
  ·exact aAf h q I
theorem aAg {G:List Str}:∀{l:List Bind}{o:List Str}{y:Str}{c:Bind},c∈l→y∈pfR c.body→¬y∈G→y∈xO G l o
 | .mk s t d::l,o,y,c,h,q,I=>by
  rw[xO];rcases Ac.1 h with rfl | h
  ·exact aAh (aAd q I)
  ·exact aAg h q I
theorem aAi:∀{l:List Alt}{o:List Str}{y:Str}{c:Alt},c∈l→y∈pfR c.body→¬y∈c.vars→y∈aAk l o
 | .mk f n s vs d::l,o,y,c,h,q,I=>by
  rw[aAk];rcases Ac.1 h with rfl | h
  ·exact aAj (aAd q I)
  ·exact aAi h q I
theorem aZn {f n:Int}{nm:Str}{t:Ty}{ks:List Core}{bs:List Bind}{al:List Alt}(J:f≠1) {y:Str}(h:y∈(ks++bs.map Bind.body).flatMap pfR) (q:¬y∈gvN f nm bs):y∈pfR (.mk f n nm t ks bs al):=by
 rw[pfR,θ J];refine aAj ?_;obtain⟨c,hc,I⟩:=Ce.1 h;rcases ω.1 hc with hc | hc
 ·exact aAh (aAf hc I q)
 ·obtain⟨b,hb,rfl⟩:=Ah.1 hc;exact aAg hb I q
theorem a3t {f n:Int}{nm:Str}{t:Ty}{ks:List Core}{bs:List Bind}{al:List Alt}(q:f≠1) {a:Alt}(ha:a∈al) {y:Str}(h:y∈pfR a.body) (I:¬y∈a.vars):y∈pfR (.mk f n nm t ks bs al):=by
 rw[pfR,θ q];exact aAi ha h I
section
variable {sb sb':Core→Str→Core→Core}{P:Core→Prop}{e:Core→Core}
end
structure PK (B:Nat) (T:Ty→Prop) (ns:List Str) (ps:List Core) (r:List Str×List Core):Prop where
 len1:r.1.length=ns.length
 len2:r.2.length=ps.length
 wf:∀q∈r.2,wfC q=true∧oV T q
 sm:A2 (fun p q=>m30 q≤m30 p*B) ps r.2
 nm:A2 NR ns r.1
theorem aOu {sb:Core→Str→Core→Core}{P:Core→Prop}{B:Nat}{T:Ty→Prop}{s:Str}{b:Core}{ns:List Str}{ps:List Core}(hB:1≤B) (Y:∀p∈ps,P p)
  (hz:∀p n z,P p→z.length≤30→P (sb p n (vC z))∧m30 (sb p n (vC z))≤m30 p) (hPQ:∀p,P p→wfC p=true∧oV T p) (hs:∀p,P p→wfC (sb p s b)=true∧oV T (sb p s b)∧m30 (sb p s b)≤m30 p*B)
  (hl:(ps.flatMap pfR).length+2*ns.length+(pfR b).length≤540000000000):PK B T ns ps (dV sb s b ns ps):=by
 obtain⟨Z,l2⟩:=sQ (sb:=sb) (s:=s) (b:=b) (ns:=ns) (ps:=ps);obtain⟨⟨I,h1,h2⟩,h3⟩:=aAc (sb:=sb) (Rel:=fun p q=>P p→(P q∧m30 q≤m30 p)) (fun p h=>⟨h,le_refl _⟩)
  (fun p q r J hqr h=>by
   obtain⟨a1,a2⟩:=J h;obtain⟨b1,b2⟩:=hqr a1
   exact⟨b1,le_trans b2 a2⟩) (s:=s) (b:=b) (ns:=ns) (ps:=ps) (fun p n z hzl h=>hz p n z h hzl) hl
 have y:∀q∈I,P q:=fun q y=>by
  obtain⟨p,hp,J⟩:=h1.mem q y;exact(J (Y p hp)).1
 have hA:A2 (fun p q=>m30 q≤m30 p) ps I:=by
  clear h2 y hl h3 Z l2
  induction h1 with
  | nil=>exact .nil
  | cons r _ ih2=>exact .cons (r (Y _ η)).2 (ih2 fun p hp=>Y p (χ _ hp))
 have hup:∀k:Nat,k≤k*B:=fun k=>Bw _ hB
 refine⟨Z,l2,fun x hx=>?_,?_,h3⟩
 ·rcases h2 with h2 | h2
  ·rw[h2] at hx;exact hPQ x (y x hx)
  ·rw[h2] at hx;obtain⟨q,O,rfl⟩:=Ah.1 hx;exact⟨(hs q (y q O)).1,(hs q (y q O)).2.1⟩
 ·rcases h2 with h2 | h2
  ·rw[h2];exact A2.mono (fun p q h=>le_trans h (hup _)) hA
  ·rw[h2];clear h2 h3 Z l2 hl h1;have key:∀{ps I:List Core},A2 (fun p q=>m30 q≤m30 p) ps I→(∀q∈I,P q)→A2 (fun p q=>m30 q≤m30 p*B) ps (I.map fun p=>sb p s b):=by
    intro ps I h
    induction h with
    | nil=>intro _;exact .nil
    | cons r _ ih=>exact fun y=>.cons (le_trans (hs _ (y _ η)).2.2 (A0 _ r)) (ih fun q h=>y q (χ _ h))
   exact key hA y
theorem aU3 {B:Nat}{ps y:List Core}(h:A2 (fun p q=>m30 q≤m30 p*B) ps y):gM y≤gM ps*B:=by
 induction h with
 | nil=>rw[gM];exact Al _
 | cons r _ I=>rw[gM,gM,A7];omega
theorem aJ8 {B:Nat}(q:1≤B):∀{ts:List Ty}{ns:List Str}{ps:List Core}{bs:List Bind},A2 (fun(b:Bind) n=>w30 n≤w30 b.name) bs ns→A2 (fun(b:Bind) p=>m30 p≤m30 b.body*B) bs ps→j9 (mkB ts ns ps)≤j9 bs*B
 | [],_,_,_,_,_=>by unfold mkB;rw[j9];exact Al _
 | t::ts,_,_,_,.nil,.nil=>by unfold mkB;rw[j9];exact Al _
 | t::ts,n::ns,p::ps,.mk s ty c::bs,.cons h1 h2,.cons h3 h4=>by
  unfold mkB;rw[j9,j9];have:=aJ8 q (ts:=ts) h2 h4;have h1:w30 n≤w30 s:=h1;have h3:m30 p≤m30 c*B:=h3;have h5:1+w30 s≤(1+w30 s)*B:=Bw _ q;rw[A7,A7];omega
section
variable {sb:Core→Str→Core→Core}{B:Nat}{T:Ty→Prop}{f n:Int}{nm:Str}{t:Ty}{ks:List Core}{bs:List Bind}{al:List Alt}{s:Str}{b:Core}
theorem aUq (O:1≤B) {l:List Alt}(h:∀a∈l,A2 (fun p q=>m30 q≤m30 p*B) [a.body] (dV sb s b a.vars [a.body]).2∧A2 NR a.vars (dV sb s b a.vars [a.body]).1):l7 (l.map (kF sb s b))≤l7 l*B:=by
 induction l with
 | nil=>exact Al _
 | cons a l J=>
  obtain⟨af,an,anm,vs,I⟩:=a;obtain⟨g1,g2⟩:=h _ η;have:=J fun x hx=>h x (χ _ hx)
  have g1:A2 (fun p q=>m30 q≤m30 p*B) [I] (dV sb s b vs [I]).2:=g1;have g2:A2 NR vs (dV sb s b vs [I]).1:=g2;have g4:=aCl g2;have g3:m30 ((dV sb s b vs [I]).2.headD I)≤m30 I*B:=by
   cases hx:(dV sb s b vs [I]).2 with
   | nil=>rw[hx] at g1;cases g1
   | cons y l'=>
    rw[hx] at g1;cases g1 with
    | cons h _=>exact h
  have e:kF sb s b (Alt.mk af an anm vs I)=.mk af an anm (dV sb s b vs [I]).1 ((dV sb s b vs [I]).2.headD I):=rfl;rw[At,e,l7,l7];have g5:1+w30 anm+(vs.map fun v=>1+w30 v).sum≤(1+w30 anm+(vs.map fun v=>1+w30 v).sum)*B:=Bw _ O;rw[A7,A7 (1+w30 anm+_)];omega
theorem aSp (Z:1≤B) (hg:PK B T (gvN f nm bs) (ks++bs.map Bind.body) (dV sb s b (gvN f nm bs) (ks++bs.map Bind.body))) (ha:∀a∈al,PK B T a.vars [a.body] (dV sb s b a.vars [a.body]))
  (h0:T t) (hb:∀x∈bs,T x.ty) (w1:f=5∨f=6∨f=7→(∃k,ks=[k])∧bs=[]∧al=[]) (w0:f=1→ks=[]∧bs=[]∧al=[]):
  wfC (sJ sb s b (.mk f n nm t ks bs al))=true∧oV T (sJ sb s b (.mk f n nm t ks bs al))∧m30 (sJ sb s b (.mk f n nm t ks bs al))≤m30 (.mk f n nm t ks bs al)*B:=by
 have hN:∀a∈al,wfC (kF sb s b a).body=true∧oV T (kF sb s b a).body:=fun a q=>by
  show wfC ((dV sb s b a.vars [a.body]).2.headD a.body)=true∧oV T ((dV sb s b a.vars [a.body]).2.headD a.body);obtain⟨y,J⟩:=B2.1 (ha a q).len2;rw[J];exact(ha a q).wf y (by rw[J];exact Ab.2 rfl)
 have e4:l7 (al.map (kF sb s b))≤l7 al*B:=aUq Z fun a q=>⟨(ha a q).sm,(ha a q).nm⟩
 rw[sJ];unfold zNm zKs zBs;generalize dV sb s b (gvN f nm bs) (ks++bs.map Bind.body)=r at hg ⊢;obtain⟨r1,r2⟩:=r;obtain⟨l1,l2,O,q1,Y⟩:=hg;dsimp only at *;refine⟨aWr (fun I=>?_) (fun I=>?_) (fun x hx=>(O x (Bz hx)).1) (fun x hx=>(O _ (Cx (lK hx).1)).1) (fun x hx=>?_),?_,?_⟩
 ·obtain⟨⟨y,rfl⟩,rfl,rfl⟩:=w1 I;obtain⟨y',rfl⟩:=B2.1 (show r2.length=1 from l2);exact⟨⟨y',rfl⟩,rfl,rfl⟩
 ·obtain⟨rfl,rfl,rfl⟩:=w0 I;exact⟨rfl,rfl,rfl⟩
 ·obtain⟨a,q,rfl⟩:=Ah.1 hx;exact(hN a q).1
 ·rw[oV];refine⟨h0,w8.2 fun x hx=>(O x (Bz hx)).2,wA.2 fun x hx=>?_,wB.2 fun x hx=>?_⟩
  ·obtain⟨h1,h2⟩:=lK hx;obtain⟨y,J,hyt⟩:=Ah.1 h2;exact⟨by rw[←hyt];exact hb y J,(O _ (Cx h1)).2⟩
  ·obtain⟨a,q,rfl⟩:=Ah.1 hx;exact(hN a q).2
 ·rw[m30,m30];have e1:w30 (if f=5 then r1.headD nm else nm)≤w30 nm:=by
   split
   ·rename_i I;unfold gvN at Y;rw[κ I] at Y;cases Y with
    | cons h _=>exact h.w
   ·exact le_refl _
  have e2:gM (r2.take ks.length)≤gM ks*B:=by
   have:=(q1.take ks.length)
   rw[take_left] at this;exact aU3 this
  have e3:j9 (mkB (bs.map Bind.ty) r1 (r2.drop ks.length))≤j9 bs*B:=by
   by_cases I:f=5
   ·obtain⟨_,rfl,_⟩:=w1 (.inl I);show j9 (mkB [] _ _)≤_;unfold mkB;rw[j9];exact Al _
   ·have h4:=Y;unfold gvN at h4;rw[θ I,A3] at h4;have h5:=q1.drop ks.length;rw[drop_left] at h5;exact aJ8 Z (A2.mapL (A2.mono (fun a b h=>h.w) h4)) (A2.mapL h5)
  have e5:1+w30 nm≤(1+w30 nm)*B:=Bw _ Z;rw[A7,A7,A7];omega
end
abbrev Loc:Type:=Int→Str→Ty→Nat→List (Str×Ty)→List (Str×List Str)→Prop
def bhd (b:Bind):Str×Ty:=(b.name,b.ty)
def ahd (a:Alt):Str×List Str:=(a.name,a.vars)
mutual
def bU (q:Loc):Core→Prop
 | .mk f _ s t ks bs al=>q f s t ks.length (bs.map bhd) (al.map ahd)∧aSu q ks∧aSv q bs∧aSw q al
def aSu (q:Loc):List Core→Prop
 | []=>True
 | c::l=>bU q c∧aSu q l
def aSv (q:Loc):List Bind→Prop
 | []=>True
 | .mk _ _ c::l=>bU q c∧aSv q l
def aSw (q:Loc):List Alt→Prop
 | []=>True
 | .mk _ _ _ _ c::l=>bU q c∧aSw q l
end
theorem aF2 {q:Loc}:∀{l:List Core},aSu q l↔∀x∈l,bU q x
 | []=>by simp[aSu]
 | c::l=>by rw[aSu,aF2 (l:=l)];simp
theorem aF3 {q:Loc}:∀{l:List Bind},aSv q l↔∀x∈l,bU q x.body
 | []=>by simp[aSv]
 | .mk s t c::l=>by rw[aSv,aF3 (l:=l)];simp[Bind.body]
theorem aF4 {q:Loc}:∀{l:List Alt},aSw q l↔∀x∈l,bU q x.body
 | []=>by simp[aSw]
 | .mk f n s v c::l=>by rw[aSw,aF4 (l:=l)];simp[Alt.body]
theorem aM {q:Loc}{f n:Int}{s:Str}{t:Ty}{ks:List Core}{bs:List Bind}{al:List Alt}:
  bU q (.mk f n s t ks bs al)↔q f s t ks.length (bs.map bhd) (al.map ahd)∧(∀x∈ks,bU q x)∧(∀x∈bs,bU q x.body)∧∀x∈al,bU q x.body:=by
 rw[bU,aF2,aF3,aF4]
def okF (f:Int) (nk nb na:Nat):Bool:=
 if f=4∨f=10 then decide (nk=2∧nb=0∧na=0)
 else if f=5∨f=6∨f=7 then decide (nk=1∧nb=0∧na=0)
 else if f=8 then decide (nk=1∧na=0)
 else if f=9 then decide (nk=1∧nb=0)
 else decide (nk=0∧nb=0∧na=0)
def lw (s:Str) (bh:List (Str×Ty)) (ah:List (Str×List Str)):Nat:=
 1+w30 s+(bh.map fun p=>1+w30 p.1).sum+(ah.map fun p=>1+w30 p.1+(p.2.map fun v=>1+w30 v).sum).sum
def QL (X:Nat):Loc:=fun f s t nk bh ah=>okF f nk bh.length ah.length=true∧(f=7→t=zTy∧¬s=[])∧wfS t=true∧(∀p∈bh,wfS p.2=true)∧lw s bh ah≤X∧(f=5→nh s)∧(∀p∈bh,nh p.1)∧∀p∈ah,∀v∈p.2,nh v
theorem aPd {f:Int}{nk nb q:Nat}(h:okF f nk nb q=true):(f=5∨f=6∨f=7→nk=1∧nb=0∧q=0)∧(f=1→nk=0∧nb=0∧q=0):=by
 unfold okF at h;refine⟨fun y=>?_,fun y=>?_⟩
 ·rw[θ (by omega),κ y] at h;exact ψ h
 ·rw[θ (by omega),θ (by omega),θ (by omega),θ (by omega)] at h;exact ψ h
section
variable {X:Nat}{f n:Int}{s:Str}{t:Ty}{ks:List Core}{bs:List Bind}{al:List Alt}
theorem nH (h:bU (QL X) (.mk f n s t ks bs al)) (q:f=5∨f=6∨f=7):(∃k,ks=[k])∧bs=[]∧al=[]:=by
 obtain⟨h1,_⟩:=aM.1 h;obtain⟨g1,g2,g3⟩:=(aPd h1.1).1 q;rw[φ] at g2 g3;exact⟨B2.1 g1,Bc.1 g2,Bc.1 g3⟩
theorem wC (h:bU (QL X) (.mk f n s t ks bs al)) (q:f=1):ks=[]∧bs=[]∧al=[]:=by
 obtain⟨h1,_⟩:=aM.1 h;obtain⟨g1,g2,g3⟩:=(aPd h1.1).2 q;rw[φ] at g2 g3;exact⟨Bc.1 g1,Bc.1 g2,Bc.1 g3⟩
end
mutual
theorem aF5 {X:Nat}:∀c:Core,bU (QL X) c→wfC c=true
 | .mk f n s t ks bs al,h=>by
  obtain⟨h1,h2,h3,h4⟩:=aM.1 h;exact aWr (fun q=>nH h q) (fun q=>wC h q) (fun x hx=>aS2 ks h2 x hx) (fun x hx=>aS3 bs h3 x hx) (fun x hx=>aS4 al h4 x hx)
theorem aS2 {X:Nat}:∀l:List Core,(∀x∈l,bU (QL X) x)→∀x∈l,wfC x=true
 | c::l,h,x,hx=>by
  rcases Ac.1 hx with e | hx
  ·rw[e];exact aF5 c (h _ η)
  ·exact aS2 l (fun x hx=>h x (χ _ hx)) x hx
theorem aS3 {X:Nat}:∀l:List Bind,(∀x∈l,bU (QL X) x.body)→∀x∈l,wfC x.body=true
 | .mk s t c::l,h,x,hx=>by
  rcases Ac.1 hx with e | hx
  ·rw[e];exact aF5 c (h _ η)
  ·exact aS3 l (fun x hx=>h x (χ _ hx)) x hx
theorem aS4 {X:Nat}:∀l:List Alt,(∀x∈l,bU (QL X) x.body)→∀x∈l,wfC x.body=true
 | .mk f n s v c::l,h,x,hx=>by
  rcases Ac.1 hx with e | hx
  ·rw[e];exact aF5 c (h _ η)
  ·exact aS4 l (fun x hx=>h x (χ _ hx)) x hx
end
theorem aJ4 {o:List Str}{x y:Str}:y∈wK o x↔y∈o∨y=x:=by
 unfold wK;split
 ·rename_i h;exact⟨.inl,fun q=>q.elim id fun e=>by rw[e];exact h⟩
 ·rw[ω,Ab]
theorem nP {y:Str}:∀{l o:List Str},y∈aAv o l↔y∈o∨y∈l
 | [],o=>by simp[aAv]
 | x::l,o=>by
  show y∈aAv (wK o x) l↔_;rw[nP (l:=l),aJ4,Ac,or_assoc]
theorem aIu {f:Int}{s y:Str}:∀{l o:List Str},y∈a6j f s o l↔y∈o∨(y∈l∧(¬f=7∨¬y=s))
 | [],o=>by simp[a6j]
 | x::l,o=>by
  show y∈a6j f s (aYt f s o x) l↔_;rw[aIu (l:=l)];unfold aYt;split
  ·rename_i h;rw[nP,Ab,Ac];constructor
   ·rintro((h1 | h1) | h1)
    ·exact .inl h1
    ·exact .inr ⟨.inl h1,by rw[h1];exact h⟩
    ·exact .inr ⟨.inr h1.1,h1.2⟩
   ·rintro(h1 | ⟨h1 | h1,h2⟩)
    ·exact .inl (.inl h1)
    ·exact .inl (.inr h1)
    ·exact .inr ⟨h1,h2⟩
  ·rename_i h;rw[Ac];constructor
   ·rintro(h1 | h1)
    ·exact .inl h1
    ·exact .inr ⟨.inr h1.1,h1.2⟩
   ·rintro(h1 | ⟨h1 | h1,h2⟩)
    ·exact .inl h1
    ·exact absurd (by rw[←h1];exact h2) h
    ·exact .inr ⟨h1,h2⟩
theorem aIt {f:Int}{s y:Str}:∀{l:List Core}{o:List Str},y∈a2g f s l o↔y∈o∨∃k∈l,y∈tyR k∧(¬f=7∨¬y=s)
 | [],o=>by rw[a2g];simp
 | c::l,o=>by
  rw[a2g,aIt (l:=l),aIu,or_assoc];simp
theorem aIv {y:Str}:∀{l:List Bind}{o:List Str},y∈a2h l o↔y∈o∨∃b∈l,y∈tfR b.ty∨y∈tyR b.body
 | [],o=>by rw[a2h];simp
 | .mk s t c::l,o=>by
  rw[a2h,aIv (l:=l),nP,nP];simp only[Ac,exists_eq_or_imp,Bind.ty,Bind.body,or_assoc]
theorem aIw {y:Str}:∀{l:List Alt}{o:List Str},y∈a2i l o↔y∈o∨∃a∈l,y∈tyR a.body
 | [],o=>by rw[a2i];simp
 | .mk f n s v c::l,o=>by
  rw[a2i,aIw (l:=l),nP];simp only[Ac,exists_eq_or_imp,Alt.body,or_assoc]
theorem rT {f n:Int}{s:Str}{t:Ty}{ks:List Core}{bs:List Bind}{al:List Alt}{y:Str}:
  y∈tyR (.mk f n s t ks bs al)↔y∈tfR t∨(∃k∈ks,y∈tyR k∧(¬f=7∨¬y=s))∨(∃b∈bs,y∈tfR b.ty∨y∈tyR b.body)∨∃a∈al,y∈tyR a.body:=by
 rw[tyR,aIw,aIv,aIt,nP];simp[or_assoc]
mutual
def tlC:Core→Nat
 | .mk f _ _ _ ks bs al=>(if f=7 then 1 else 0)+max (aYv ks) (max (aYw bs) (aYx al))
def aYv:List Core→Nat
 | []=>0
 | c::l=>max (tlC c) (aYv l)
def aYw:List Bind→Nat
 | []=>0
 | .mk _ _ c::l=>max (tlC c) (aYw l)
def aYx:List Alt→Nat
 | []=>0
 | .mk _ _ _ _ c::l=>max (tlC c) (aYx l)
end
theorem aNn {K:Nat}:∀{l:List Core},aYv l≤K↔∀x∈l,tlC x≤K
 | []=>by simp[aYv]
 | c::l=>by rw[aYv,max_le,aNn (l:=l)];simp
theorem aNo {K:Nat}:∀{l:List Bind},aYw l≤K↔∀x∈l,tlC x.body≤K
 | []=>by simp[aYw]
 | .mk s t c::l=>by rw[aYw,max_le,aNo (l:=l)];simp[Bind.body]
theorem aNp {K:Nat}:∀{l:List Alt},aYx l≤K↔∀x∈l,tlC x.body≤K
 | []=>by simp[aYx]
 | .mk f n s v c::l=>by rw[aYx,max_le,aNp (l:=l)];simp[Alt.body]
theorem aWu {K:Nat}{f n:Int}{s:Str}{t:Ty}{ks:List Core}{bs:List Bind}{al:List Alt}:
  tlC (.mk f n s t ks bs al)≤(if f=7 then 1 else 0)+K↔(∀x∈ks,tlC x≤K)∧(∀x∈bs,tlC x.body≤K)∧∀x∈al,tlC x.body≤K:=by
 rw[tlC,Nat.add_le_add_iff_left,max_le,max_le,aNn,aNo,aNp]
theorem a2k {f n:Int}{s:Str}{t:Ty}{ks:List Core}{bs:List Bind}{al:List Alt}:
  (∀x∈ks,tlC x+(if f=7 then 1 else 0)≤tlC (.mk f n s t ks bs al))∧(∀x∈bs,tlC x.body≤tlC (.mk f n s t ks bs al))∧∀x∈al,tlC x.body≤tlC (.mk f n s t ks bs al):=by
 have h:=(aWu (K:=max (aYv ks) (max (aYw bs) (aYx al))) (f:=f) (n:=n) (s:=s) (t:=t) (ks:=ks) (bs:=bs) (al:=al)).1 (by rw[tlC];exact le_refl _)
 rw[tlC];exact⟨fun x hx=>by have:=h.1 x hx;omega,fun x hx=>by have:=h.2.1 x hx;omega,fun x hx=>by have:=h.2.2 x hx;omega⟩
def Alg.k (A:Alg):Nat:=tW A zTy r0
mutual
def cw (A:Alg) (E:Nat):Core→(Str→Nat)→Nat
 | .mk f _ s t ks bs al,ρ=>max A.k (max (tW A t ρ) (max (cws A E ks (if f=7 then a6m ρ s E else ρ)) (max (cwb A E bs ρ) (cwa A E al ρ))))
def cws (A:Alg) (E:Nat):List Core→(Str→Nat)→Nat
 | [],_=>0
 | c::l,ρ=>max (cw A E c ρ) (cws A E l ρ)
def cwb (A:Alg) (E:Nat):List Bind→(Str→Nat)→Nat
 | [],_=>0
 | .mk _ t c::l,ρ=>max (max (tW A t ρ) (cw A E c ρ)) (cwb A E l ρ)
def cwa (A:Alg) (E:Nat):List Alt→(Str→Nat)→Nat
 | [],_=>0
 | .mk _ _ _ _ c::l,ρ=>max (cw A E c ρ) (cwa A E l ρ)
end
section
variable {A:Alg}{E K:Nat}{ρ ρ':Str→Nat}
theorem aX5:∀{l:List Core},cws A E l ρ≤K↔∀x∈l,cw A E x ρ≤K
 | []=>by simp[cws]
 | c::l=>by rw[cws,max_le,aX5 (l:=l)];simp
theorem aX6:∀{l:List Bind},cwb A E l ρ≤K↔∀x∈l,tW A x.ty ρ≤K∧cw A E x.body ρ≤K
 | []=>by simp[cwb]
 | .mk s t c::l=>by rw[cwb,max_le,max_le,aX6 (l:=l)];simp[Bind.body,Bind.ty]
theorem aX7:∀{l:List Alt},cwa A E l ρ≤K↔∀x∈l,cw A E x.body ρ≤K
 | []=>by simp[cwa]
 | .mk f n s v c::l=>by rw[cwa,max_le,aX7 (l:=l)];simp[Alt.body]
theorem aRb {f n:Int}{s:Str}{t:Ty}{ks:List Core}{bs:List Bind}{al:List Alt}:
  cw A E (.mk f n s t ks bs al) ρ≤K↔A.k≤K∧tW A t ρ≤K∧(∀x∈ks,cw A E x (if f=7 then a6m ρ s E else ρ)≤K)∧(∀x∈bs,tW A x.ty ρ≤K∧cw A E x.body ρ≤K)∧∀x∈al,cw A E x.body ρ≤K:=by
 rw[cw,max_le,max_le,max_le,max_le,aX5,aX6,aX7]
end
theorem a84 {A:Alg}{E:Nat}{ρ:Str→Nat}(c:Core):A.k≤cw A E c ρ:=by cases c;exact(aRb.1 (le_refl _)).1
set_option maxHeartbeats 4000000
section
variable {D M X:Nat}{f n:Int}{s:Str}{t:Ty}{ks:List Core}{bs:List Bind}{al:List Alt}
end
noncomputable def sTR:Nat→Core→Str→Ty→Core
 | 0,c,_,_=>c
 | k+1,.mk f n nm t ks bs al,name,u=>
  if f=7∧(nm=name∨¬name∈tyR (.mk f n nm t ks bs al)) then .mk f n nm t ks bs al
  else if f=7∧nm∈tfR u then
   a5z (fun t=>aGe t [(name,u)]) (fun x=>sTR k x name u) (.mk f n (bE (tfR u++ks.flatMap tyR)) t (ks.map fun x=>sTR k x nm (vT (bE (tfR u++ks.flatMap tyR)))) bs al)
  else a5z (fun t=>aGe t [(name,u)]) (fun x=>sTR k x name u) (.mk f n nm t ks bs al)
section
variable {X:Nat}{ts:Ty→Ty}{sb:Core→Core}{f n:Int}{nm nm1:Str}{t:Ty}{ks ks1:List Core}{bs:List Bind}{al:List Alt}
end
end Go.Proofs.YtnjaiimffoninaaGreatDoor
