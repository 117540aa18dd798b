/-
  Texts Lg9 to Lg21 in one.
-/
import Derived.Test.YtglfogjcijokpaaGreatDoorM8
open List (all_eq_true append_assoc append_nil cons_append filter_cons flatMap_cons flatten_cons foldl_cons length_append length_cons length_eq_one_iff length_map length_set length_take map_congr_left map_cons map_map map_nil map_set mem_append mem_cons mem_cons_of_mem mem_cons_self mem_filter mem_map mem_singleton nil_append not_mem_nil set_cons_succ sum_cons take_add_one take_length take_of_length_le)
open Nat (add_assoc add_zero beq_refl eq_of_beq_eq_true le_max_left le_max_right le_of_ble_eq_true le_refl le_trans min_eq_left mul_one sub_self zero_add zero_le)
namespace Go.Proofs.YtglfogjcijokpaaGreatDoor
open Go Go.AM
set_option maxRecDepth 20000
def aE7 (af an:Int) (anm:Str) (nv:Nat) (p:Core):List R:=[.c (.int .i64 af),.c (.int .i64 an),.c (.str anm),.hs 704 0 nv nv]++(aC p).map R.c
def aH (rs:List (List R)) (k:Nat) (af an:Int) (anm:Str) (nv:Nat) (ns:List Str) (p:Core):List (Nat×AObj):=[(703,.rarr 71 14 (rs.set k (aE7 af an anm nv p))),(704,.arr 9 1 (ns.map bL) 0)]
def aN (nv:Nat):List R:=(rgR (fun j=>[.ep 704 j 0 nv]) nv).flatten
def aP (k na:Nat):List R:=[.rp 703 k 4 na]
theorem aTv {nv:Nat}:(aN nv).length=nv:=by
 unfold aN;rw[mH (s4 fun _=>rfl),fZ,mul_one]
theorem a02 {nv j:Nat}(h:j<nv):((aN nv).drop (j*1)).take 1=[.ep 704 j 0 nv]:=eC (s4 fun _=>rfl) j _ (aE8 h)
theorem aOp {nv:Nat}:∀x∈R.refsL (aN nv),x=704:=fun x hx=>by
 unfold aN at hx;rw[dB] at hx;exact lY (L:=fun x=>x=704) (fun j x hx=>by simpa [R.refsL,R.refs] using hx) _ x hx
theorem aDu {k q nv:Nat}:∀x∈(grO (aN nv) (aP k q)).refs,x=703∨x=704:=fun x hx=>by
 have hx:x∈R.refsL (aN nv)++(R.refsL (aP k q)++[]):=hx;rw[A8] at hx;rcases δ.1 hx with hx | hx
 ·exact .inr (aOp x hx)
 ·exact .inl (by simpa [aP,R.refsL,R.refs] using hx)
theorem zJ {x:Nat}:∀{rs:List (List R)}{k:Nat}{r:List R},x∈bY (rs.set k r)→x∈bY rs∨x∈R.refsL r
 | [],_,_,h=>.inl h
 | q::rs,0,r,h=>by
  rcases δ.1 (show x∈R.refsL r++bY rs from h) with h | h
  ·exact .inr h
  ·exact .inl (δ.2 (.inr h))
 | q::rs,k+1,r,h=>by
  rcases δ.1 (show x∈R.refsL q++bY (rs.set k r) from h) with h | h
  ·exact .inl (δ.2 (.inl h))
  ·exact(zJ h).imp (fun h=>δ.2 (.inr h)) id
theorem aJ7 {af an:Int}{anm:Str}{nv:Nat}{p:Core}{x:Nat}(h:x∈R.refsL (aE7 af an anm nv p)):x=704:=by
 unfold aE7 aC at h;simpa [R.refsL,R.refs] using h
abbrev aG (rs:List (List R)) (k:Nat) (af an:Int) (anm:Str) (nv:Nat) (ns:List Str) (p:Core):List (Nat×AObj):=(3,grO (aN nv) (aP k rs.length))::aH rs k af an anm nv ns p
section
variable {rs:List (List R)}{k:Nat}{af an:Int}{anm:Str}{nv:Nat}{ns:List Str}{p:Core}{F:List (Nat×AObj)}
theorem aHW (q:TF F) (I:∀x∈bY rs,x∈keys F):GW (aH rs k af an anm nv ns p) F:=⟨q,fun x hx=>by
 have hx:x∈bY (rs.set k (aE7 af an anm nv p))++[]:=hx;rw[A8] at hx;rcases zJ hx with h | h
 ·exact .inr (I x h)
 ·rw[aJ7 h];exact .inl (by simp[aH,keys]),rfl,rfl⟩
theorem aGW (q:TF F) (I:∀x∈bY rs,x∈keys F):GW (aG rs k af an anm nv ns p) F:=⟨q,fun x hx=>by
 rcases δ.1 (show x∈(grO (aN nv) (aP k rs.length)).refs++cO (aH rs k af an anm nv ns p) from hx) with hx | hx
 ·rcases aDu x hx with rfl | rfl
  ·exact .inl (by simp[aG,aH,keys])
  ·exact .inl (by simp[aG,aH,keys])
 ·exact((aHW q I).refs x hx).imp (fun h=>ω _ h) id,rfl,rfl⟩
end
theorem aX3 {rs:List (List R)}{k:Nat}{r r':List R}:(rs.set k r).set k r'=rs.set k r':=List.set_set ..
theorem aTm (rs:List (List R)) (k:Nat) (af an:Int) (anm:Str) (nv:Nat) (ns:List Str) (p:Core) (F:List (Nat×AObj)) (nm:Str) (b:Core) (sb:Core→Core) (J:TF F) (Z:∀x∈bY rs,x∈keys F) (hk:k<rs.length)
  (hc:aQ Tryz.prog 99 [.pa (aC p),Go.AM.T nm,.pa (aC b)] [] (.pa (aC (sb p))) []):
  aQ Tryz.prog 160 [Go.AM.T nm,.pa (aC b),.one (.vp 3 0)] (aG rs k af an anm nv ns p++F) (.tup []) (aG rs k af an anm nv ns (sb p)++F):=by
 have W:∀p,GW (aG rs k af an anm nv ns p) F:=fun p=>aGW J Z
 have ab:rs.length=(rs.set k (aE7 af an anm nv p)).length:=(Cn ..).symm;have aa:(rs.set k (aE7 af an anm nv p))[k]?=some (aE7 af an anm nv p):=List.getElem?_set_self hk;refine tY J (n:=23) tok Tryz.func160 rfl rfl rfl ?_;refine sg rfl (sg rfl (aB (aK (fun j:Nat=>mkt [(0,Go.AM.T nm),(2,.one (.vp 3 0)),(4,.one (.vp 4 0)),(8,.one (.ras 1 1 (aP k rs.length))),(9,I .i64 ((1:Nat):Int)),(10,I .i64 j)] ([(4,.var 34 (b8 b))]++aG rs k af an anm nv ns (if j=0 then p else sb p)) F) (fun j=>j≤1) (fun j=>1-j) 0 (Aj _) ?_ ?_)))
 ·exact slG (W _)
 intro j hj;refine sg rfl (a8 (aA rfl (fun hb=>?_) (fun hb=>?_)))
 ·have O:j=0:=by
   have:(j:Int)<((1:Nat):Int):=ψ hb;omega
  subst O;rw[ξ rfl];refine aD (a8 (aB (sg rfl (aE mixed (ak 6 [(3,.rr (aE7 af an anm nv p))] rfl (kc hc ?_))))));refine ak 2 [(8,.rr (aE7 af an anm nv p))] rfl (az (ag [] rfl ⟨1,le_refl _,by dsimp only;omega,?_⟩));dsimp only;rw[φ (by decide)];exact slG (W _) (fun i hi=>GW.kf i hi) (hh:=⟨⟨_,rfl,.varS rfl⟩,⟨_,rfl,.varS rfl⟩,⟨_,rfl,.rarrS aX3⟩,⟨_,rfl,.arr⟩,trivial⟩)
 have Y:j=1:=by
  have:¬(j:Int)<((1:Nat):Int):=χ hb;omega
 subst Y;rw[φ (by decide)];refine aL ?_;exact⟨.inl rfl,aDa J (by repeat (first | exact FarEq.raw J | (refine FarEq.updL J ?_) | (refine FarEq.upd J ?_))) ⟨[],[],.nil,.nil,rfl⟩ (fun _ h=>by cases h) (W _).refs (fun i hi=>GW.kf i hi) (fun q N=>by rcases δ.1 N with N | N;exact(Au.1 (W p).plain) q N;exact(J.ok q N).2)⟩
theorem aG9 {rs:List (List R)}{k:Nat}{af an:Int}{anm:Str}{nv:Nat}{ns:List Str}{p:Core}{F:List (Nat×AObj)}(q:TF F) (I:∀x∈bY rs,x∈keys F) {n:Str}{l:List C}:callOk ([Go.AM.T n,.pa l]++List.map V.one [R.vp 3 0]) (aG rs k af an anm nv ns p++F)=true:=by
 refine nE q (fun x hx=>.inl ?_) (aGW q I).refs;have:x=3:=by simpa [V.refsL,V.refs,R.refs] using hx
 subst this;simp[aG,keys]
theorem a01 {rs:List (List R)}{k:Nat}{af an:Int}{anm:Str}{nv:Nat}{ns I:List Str}{p J:Core}{F:List (Nat×AObj)}{h:c7}:dM (fun q=>q.1∈keys (aG rs k af an anm nv ns p++F)∨h q.1=none) (aG rs k af an anm nv I J++F):=dM.of fun q N=>.inl (by
 have h1:q.1∈keys (aG rs k af an anm nv I J++F):=Af.2 ⟨q,N,rfl⟩
 exact h1)
theorem a0d (rs:List (List R)) (k:Nat) (af an:Int) (anm:Str) (nv:Nat) (ns:List Str) (p:Core) (F:List (Nat×AObj)) (s:Str) (b:Core) (sb:Core→Str→Core→Core) (P:Core→Prop) (J:TF F) (hr:∀x∈bY rs,x∈keys F) (hk:k<rs.length) (hn:ns.length=nv) (hok:PutOk sb P s b [p])
  (hM:(pfR p).length+2*ns.length+(pfR b).length+1≤540000000000):
  ∃q,(dN sb s b ns [p]).2=[q]∧aQ Tryz.prog 134 [gpV (aN nv) (aP k rs.length),Go.AM.T s,.pa (aC b)] (aH rs k af an anm nv ns p++F) (.tup []) (aH rs k af an anm nv (dN sb s b ns [p]).1 q++F):=by
 have hln:=(r6 (sb:=sb) (s:=s) (b:=b) (ns:=ns) (ps:=[p])).2
 obtain⟨q,O⟩:∃q,(dN sb s b ns [p]).2=[q]:=Bt.1 hln;refine⟨q,O,?_⟩;have hnl:=aTv (nv:=nv);have W:∀ns p,GW (aH rs k af an anm nv ns p) F:=fun _ _=>aHW J hr
 have ad:∀ex ae p',∀x∈R.refsL (aN nv),Kn ex (aH rs k af an anm nv ae p') F x:=fun ex ae p' x hx=>by
  have:=aOp x hx;subst this;exact .inr (.inl (by simp[aH,keys]))
 have aa:∀ex ae p',∀x∈(grO (aN nv) (aP k rs.length)).refs,Kn ex (aH rs k af an anm nv ae p') F x:=fun ex ae p' x hx=>by
  rcases aDu x hx with rfl | rfl
  ·exact .inr (.inl (by simp[aH,keys]))
  ·exact .inr (.inl (by simp[aH,keys]))
 have hsz:∀p,rs.length=(rs.set k (aE7 af an anm nv p)).length:=fun p=>(Cn ..).symm
 have hrow:∀p,(rs.set k (aE7 af an anm nv p))[k]?=some (aE7 af an anm nv p):=fun p=>List.getElem?_set_self hk
 have hszp:=hsz p;have hrowp:=hrow p;have ap:([p]:List Core).flatMap pfR=pfR p:=by simp
 have hkl:nv=(ns.map bL).length:=by rw[θ];exact hn.symm
 have hf:=hok.free p (by simp);have hq0:((pfR p).map bL).length=(pfR p).length:=θ _;refine tY J (n:=92) tok Tryz.func134 rfl rfl rfl ?_;refine sg rfl (sg rfl (AWp.sub (Sub.own (t:=6) (id:=720) 9 1 rfl rfl) (AWp.sub (Sub.freeze (id:=720) rfl) ?_)));refine a8 (sg rfl (aB (aK (fun j:Nat=>mkt [(1,Go.AM.T s),(3,.one (.vp 3 0)),(5,.one (.vp 5 0)),(6,tkV (if j=0 then [] else pfR p)),(17,.one (.ras 1 1 (aP k rs.length))),(18,I .i64 ((1:Nat):Int)),(19,I .i64 j)] ([(3,grO (aN nv) (aP k rs.length)),(5,.var 34 (b8 b)),(720,tkA (if j=0 then [] else pfR p))]++aH rs k af an anm nv ns p) F) (fun j=>j≤1) (fun j=>1-j) 0 (Aj _) ?_ ?_)))
 ·exact slG (W _ _) (h2:=⟨aa _ _ _,Kn.of rfl,Kn.of rfl,trivial⟩)
 ·intro j hj;refine sg rfl (a8 (aA rfl (fun hb=>?_) (fun hb=>?_)))
  ·have hj0:j=0:=by
    have:(j:Int)<((1:Nat):Int):=ψ hb;omega
   subst hj0;rw[ξ rfl];refine aD (a8 (aB (sg rfl (aE mixed (ak 4 [(3,.rr (aE7 af an anm nv p))] rfl (kc hf ?_))))));refine kz 2 rfl (AWp.sub (Sub.freeze (id:=720) rfl) ?_);refine ag [] rfl ⟨1,le_refl _,by dsimp only;omega,?_⟩;dsimp only;rw[φ (by decide)];exact slG (W _ _) (h2:=⟨aa _ _ _,Kn.of rfl,Kn.of rfl,trivial⟩) (he:=⟨rfl,rfl,rfl,Go.AM.hs_ren (by simp) (by simp),rfl,rfl,rfl,trivial⟩) (hh:=⟨⟨_,rfl,.varS rfl⟩,⟨_,rfl,.varS rfl⟩,⟨_,rfl,.arrS (by simp)⟩,⟨_,rfl,.rarrS rfl⟩,⟨_,rfl,.arr⟩,trivial⟩)
  have ah:j=1:=by
   have:¬(j:Int)<((1:Nat):Int):=χ hb;omega
  subst ah;rw[φ (by decide)];refine aL ?_;have hct:=bS (pfR p) s (by omega);refine a8 (sk 2 rfl (kc hct ?_));refine kz 1 rfl (aA rfl (fun hb=>?_) (fun hb=>?_))
  ·have hno:¬s∈pfR p:=by
    intro h;have hb:(!decide (s∈pfR p))=true:=hb;rw[Ah h] at hb;cases hb
   have he:dN sb s b ns [p]=(ns,[p]):=by unfold dN;rw[φ fun h=>hno (by have:=h.1;rwa [ap] at this)]
   have hqp:q=p:=by rw[he] at O;exact(List.singleton_inj.1 O).symm
   rw[he,hqp];exact aF ⟨.inr rfl,aDa J (by repeat (first | exact FarEq.raw J | (refine FarEq.updL J ?_) | (refine FarEq.upd J ?_))) ⟨[],[],.nil,.nil,rfl⟩ (fun _ h=>by cases h) (W _ _).refs (fun i hi=>GW.kf i hi) (fun q O=>by rcases δ.1 O with O | O;exact(Au.1 (W ns p).plain) q O;exact(J.ok q O).2)⟩
  have hin:s∈pfR p:=by
   have hb:(!decide (s∈pfR p))=false:=hb;by_cases h:s∈pfR p
   ·exact h
   ·rw[Am h] at hb;cases hb
  refine aD (a8 (sg rfl (aB (aK (fun j:Nat=>mkt [(1,Go.AM.T s),(3,.one (.vp 3 0)),(5,.one (.vp 5 0)),(6,tkV (pfR p++ns.take j)),(35,.one (.ras (aN nv).length 1 (aN nv))),(36,I .i64 (((aN nv).length:Nat):Int)),(37,I .i64 j)] ([(3,grO (aN nv) (aP k rs.length)),(5,.var 34 (b8 b)),(720,tkA (pfR p++ns.take j))]++aH rs k af an anm nv ns p) F) (fun j=>j≤(aN nv).length∧¬s∈ns.take j) (fun j=>(aN nv).length-j) 0 ⟨Aj _,by simp⟩ ?_ ?_))))
  ·exact slG (W _ _) (h1:=Kn.app Kn.nil (Kn.app (Kn.of rfl) (Kn.app (Kn.of rfl) (Kn.app (Kn.of rfl) (Kn.app (ad _ _ _) Kn.nil))))) (h2:=⟨aa _ _ _,Kn.of rfl,Kn.of rfl,trivial⟩) (he:=⟨rfl,rfl,rfl,Go.AM.hs_ren (by simp) (by simp),congrArg some (V.ren_id _).symm,rfl,rfl,trivial⟩) (hh:=⟨⟨_,rfl,.varS rfl⟩,⟨_,rfl,.varS rfl⟩,⟨_,rfl,.arrS (by simp)⟩,⟨_,rfl,.rarrS rfl⟩,⟨_,rfl,.arr⟩,trivial⟩)
  rintro j ⟨hj,aj⟩;refine sg rfl (a8 (aA rfl (fun hb=>?_) (fun hb=>?_)))
  ·have aq:j<(aN nv).length:=by
    have:(j:Int)<((aN nv).length:Int):=ψ hb;omega
   have hjb:j<nv:=by omega
   obtain⟨n,Z⟩:=aJ (show j<ns.length by omega);have ht1:=a02 hjb;have hrown:(ns.map bL)[j]?=some (bL n):=bO bL Z;have hstp:ns.take (j+1)=ns.take j++[n]:=by rw[Bi,Z];rfl
   have hq1:((pfR p++ns.take j).map bL).length=(pfR p++ns.take j).length:=θ _;have hql:(pfR p++ns.take j).length≤540000000000:=by rw[τ,Aq];omega
   refine aD (a8 (aB (sgh [(0,.rowR j [.ep 704 j 0 nv])] rfl (a8 (sgh [(2,.row j (bL n))] rfl (aA rfl (fun hb=>?_) (fun hb=>?_)))))))
   ·have hns:n=s:=ψ hb;have he:dN sb s b ns [p]=(ns,[p]):=by
     unfold dN;rw[φ fun h=>h.2 (hns▸Ab Z)]
    have hqp:q=p:=by rw[he] at O;exact(List.singleton_inj.1 O).symm
    rw[he,hqp];exact aF ⟨.inr rfl,aDa J (by repeat (first | exact FarEq.raw J | (refine FarEq.updL J ?_) | (refine FarEq.upd J ?_))) ⟨[],[],.nil,.nil,rfl⟩ (fun _ h=>by cases h) (W _ _).refs (fun i hi=>GW.kf i hi) (fun q O=>by rcases δ.1 O with O | O;exact(Au.1 (W ns p).plain) q O;exact(J.ok q O).2)⟩
   have hns:¬n=s:=χ hb;refine aD ?_;generalize pfR p=fm at *;generalize hq2:fm++ns.take j=qq at *;refine ag [(3,.row j (bL n))] rfl (AWp.sub (Sub.freeze (id:=720) rfl) ?_);refine ag [] rfl ⟨j+1,⟨aq,?_⟩,by dsimp only;omega,?_⟩
   ·rw[hstp];intro h;rcases δ.1 h with h | h
    ·exact aj h
    ·exact hns (ζ.1 h).symm
   dsimp only;rw[hstp,←A0,hq2];exact slG (W _ _) (h1:=Kn.app Kn.nil (Kn.app (Kn.of rfl) (Kn.app (Kn.of rfl) (Kn.app (Kn.of rfl) (Kn.app (ad _ _ _) Kn.nil))))) (h2:=⟨aa _ _ _,Kn.of rfl,Kn.of rfl,trivial⟩) (he:=⟨rfl,rfl,rfl,Go.AM.hs_ren (by simp) (by simp),congrArg some (V.ren_id _).symm,rfl,rfl,trivial⟩) (hh:=⟨⟨_,rfl,.varS rfl⟩,⟨_,rfl,.varS rfl⟩,⟨_,rfl,.arrS (by simp[bL])⟩,⟨_,rfl,.rarrS rfl⟩,⟨_,rfl,.arr⟩,trivial⟩)
  have ah:j=ns.length:=by
   have:¬(j:Int)<((aN nv).length:Int):=χ hb;omega
  subst ah;rw[As] at aj ⊢;have hput:dN sb s b ns [p]=((gSt sb b ns [p] ns.length).1,(gSt sb b ns [p] ns.length).2.1.map fun p=>sb p s b):=by
   unfold dN;rw[ξ ⟨by rw[ap];exact hin,aj⟩,aMf]
  have hql:(pfR p++ns).length≤540000000000:=by rw[τ];omega
  have hq1:((pfR p++ns).map bL).length=(pfR p++ns).length:=θ _;have hq2:((pfR b).map bL).length=(pfR b).length:=θ _;have hfar:=hok.far;refine aL (sk 1 rfl (kc hfar ?_));refine kz 1 rfl ?_;have hlq:(pfR p++ns).length+(pfR b).length≤540000000000:=by rw[τ];omega
  refine sg rfl (AWp.sub (Sub.freeze (id:=720) rfl) ?_);refine sg rfl (a8 (sg rfl (aB ?_)));have ab:∀i,i≤ns.length→(gSt sb b ns [p] i).2.2.length≤540000000000:=fun i hi=>by
   have h1:=(gY (sb:=sb) (b:=b) (ps:=[p]) hi).2.2
   rw[ap] at h1;simp only[τ] at h1;omega
  have hone:∀i,i≤ns.length→∃x,(gSt sb b ns [p] i).2.1=[x]:=fun i hi=>Bt.1 (gY (sb:=sb) (b:=b) (ps:=[p]) hi).2.1
  have hhd:∀i,i≤ns.length→(gSt sb b ns [p] i).2.1=[(gSt sb b ns [p] i).2.1.headD p]:=fun i hi=>by
   obtain⟨x,hx⟩:=hone i hi;rw[hx];rfl
  refine aK (fun i:Nat=>mkt [(1,Go.AM.T s),(5,.one (.vp 5 0)),(6,tkV (gSt sb b ns [p] i).2.2),(11,bI (pfR b)),(12,.one (.clo 160 [.vp 3 0])),(60,.one (.ras (aN nv).length 1 (aN nv))),(61,I .i64 (((aN nv).length:Nat):Int)),(62,I .i64 i)] ([(3,grO (aN nv) (aP k rs.length)),(5,.var 34 (b8 b)),(720,tkA (gSt sb b ns [p] i).2.2)]++aH rs k af an anm nv (gNs sb b ns [p] i) ((gSt sb b ns [p] i).2.1.headD p)) F) (fun i=>i≤(aN nv).length) (fun i=>(aN nv).length-i) 0 (Aj _) ?_ ?_
  ·rw[xI,aGb,ap];exact slG (W _ _) (h1:=Kn.app Kn.nil (Kn.app (Kn.of rfl) (Kn.app (Kn.of rfl) (Kn.app Kn.nil (Kn.app (Kn.of rfl) (Kn.app (ad _ _ _) Kn.nil)))))) (h2:=⟨aa _ _ _,Kn.of rfl,Kn.of rfl,trivial⟩) (he:=⟨rfl,rfl,Go.AM.hs_ren (by simp only[τ,θ]) (by simp only[τ,θ]),rfl,rfl,congrArg some (V.ren_id _).symm,rfl,rfl,trivial⟩) (hh:=⟨⟨_,rfl,.varS rfl⟩,⟨_,rfl,.varS rfl⟩,⟨_,rfl,.arrS (by simp)⟩,⟨_,rfl,.rarrS rfl⟩,⟨_,rfl,.arr⟩,trivial⟩)
  intro i hi;have hle:i≤ns.length:=by omega
  refine sg rfl (a8 (aA rfl (fun hb=>?_) (fun hb=>?_)))
  ·have aq:i<(aN nv).length:=by
    have:(i:Int)<((aN nv).length:Int):=ψ hb;omega
   have hjb:i<nv:=by omega
   obtain⟨n,Z⟩:=aJ (show i<ns.length by omega);obtain⟨hg1,hg2,hg3⟩:=gY (sb:=sb) (b:=b) (ps:=[p]) hle;have hgl:=aMi (sb:=sb) (b:=b) (ps:=[p]) hle;have hga:=aTb (sb:=sb) (b:=b) (ps:=[p]) Z;have hP:=aMg hok hle (ab i hle) (fun j hj=>ab j (by omega));have Y:=oA (sb:=sb) (b:=b) (ps:=[p]) Z;have am:=aTa (sb:=sb) (b:=b) (ps:=[p]) Z;have hnout:=aMh (sb:=sb) (b:=b) (ps:=[p]) Z;have hall0:=ab i hle;have ai:=hhd i hle;have ht1:=a02 hjb;have hcf:=bS (pfR b) n (by omega);have hcr:=y8 (gSt sb b ns [p] i).2.2 (by omega) fun k hk=>hok.itoa k (by omega)
   generalize gSt sb b ns [p] i=G at *;generalize gNs sb b ns [p] i=N at *;obtain⟨d0,qs,tk⟩:=G;dsimp only at *;generalize qs.headD p=x at ai ⊢;subst ai;have hrown:(N.map bL)[i]?=some (bL n):=bO bL hga;have hkN:nv=(N.map bL).length:=by rw[θ];omega
   have hszx:=hsz x;have hrowx:=hrow x;refine aD (a8 (aB (sgh [(0,.rowR i [.ep 704 i 0 nv])] rfl (skh 4 [(3,.row i (bL n))] rfl (kc hcf ?_)))));refine az (aA rfl (fun hb=>?_) (fun hb=>?_))
   ·have ac:n∈pfR b:=ψ hb;have am:=am ac;unfold eZ at Y;rw[ξ ac] at Y;dsimp only at Y;have hz:(b9 tk).length≤30:=le_trans (jP _ hall0) (by omega);have hca:=aTm rs k af an anm nv N x F n (vC (b9 tk)) (fun p=>sb p n (vC (b9 tk))) J hr hk (hok.subz x n _ (hP x (by simp)) hz);have hcv:=sY (b9 tk);have hqt:(tk.map bL).length=tk.length:=θ _;generalize b9 tk=z at *;refine sk 1 rfl (kc hcr ?_);refine kz 1 rfl (sg rfl (AWp.sub (Sub.freeze (id:=720) rfl) ?_));refine skh 5 [(3,.row i (bL n))] rfl (kc hcv ?_);refine kv (caps:=[.vp 3 0]) (args:=[Go.AM.T n,.pa (aC (vC z))]) hca ?_ (hin':=dM.app ⟨rfl,rfl,rfl,trivial⟩ (FarEq.all (by repeat (first | exact FarEq.raw J | (refine FarEq.updL J ?_) | (refine FarEq.upd J ?_))))) (hout':=a01) (hok:=aG9 J hr);refine az (AWp.sub (Sub.outsT J) ?_);refine ag [(3,.row i (bL n))] rfl (ag [] rfl ⟨i+1,aq,by dsimp only;omega,?_⟩);dsimp only;rw[Y,am];dsimp only;refine slG (W _ _) (fun i hi=>GW.kf i hi) (by repeat (first | exact FarEq.bif J (FarEq.outs J) | (refine FarEq.updL J ?_) | (refine FarEq.upd J ?_))) (h1:=Kn.app Kn.nil (Kn.app (Kn.of rfl) (Kn.app (Kn.of rfl) (Kn.app Kn.nil (Kn.app (Kn.of rfl) (Kn.app (ad _ _ _) Kn.nil)))))) (h2:=⟨aa _ _ _,Kn.of rfl,Kn.of rfl,trivial⟩) (he:=⟨rfl,rfl,Go.AM.hs_ren (by simp) (by simp),rfl,rfl,congrArg some (V.ren_id _).symm,rfl,rfl,trivial⟩) (hh:=⟨⟨_,rfl,.varS rfl⟩,⟨_,rfl,.varS rfl⟩,⟨_,rfl,.arrS (by simp[bL])⟩,⟨_,rfl,.rarrS rfl⟩,⟨_,rfl,.arrS ?_⟩,trivial⟩);rw[map_set];rfl
   ·have ac:¬n∈pfR b:=χ hb;unfold eZ at Y;rw[φ ac] at Y;dsimp only at Y;refine aD (ag [] rfl ⟨i+1,aq,by dsimp only;omega,?_⟩);dsimp only;rw[Y,hnout ac];exact slG (W _ _) (fun i hi=>GW.kf i hi) (h1:=Kn.app Kn.nil (Kn.app (Kn.of rfl) (Kn.app (Kn.of rfl) (Kn.app Kn.nil (Kn.app (Kn.of rfl) (Kn.app (ad _ _ _) Kn.nil)))))) (h2:=⟨aa _ _ _,Kn.of rfl,Kn.of rfl,trivial⟩)
  have ah:i=ns.length:=by
   have:¬(i:Int)<((aN nv).length:Int):=χ hb;omega
  subst ah;have hP:=aMg hok (le_refl ns.length) (ab _ (le_refl _)) (fun j hj=>ab j hj);have ai:=hhd _ (le_refl ns.length);rw[hput] at O ⊢;rw[aMj];generalize gSt sb b ns [p] ns.length=G at *;obtain⟨N,qs,tk⟩:=G;dsimp only at *;generalize qs.headD p=x at ai ⊢;subst ai;have hqx:q=sb x s b:=(List.singleton_inj.1 O).symm;subst hqx;have hca:=aTm rs k af an anm nv N x F s b (fun p=>sb p s b) J hr hk (hok.subb x (hP x (by simp)));refine aL (aE mixed (ak 3 [] rfl (kv (caps:=[.vp 3 0]) (args:=[Go.AM.T s,.pa (aC b)]) hca ?_ (hin':=dM.app ⟨rfl,rfl,rfl,trivial⟩ (FarEq.all (by repeat (first | exact FarEq.raw J | (refine FarEq.updL J ?_) | (refine FarEq.upd J ?_))))) (hout':=a01) (hok:=aG9 J hr))));refine az ⟨.inl rfl,aDa J (FarEq.outs J) ⟨[],[],.nil,.nil,rfl⟩ (fun _ h=>by cases h) (W _ _).refs (fun i hi=>GW.kf i hi) (fun q O=>by rcases δ.1 O with O | O;exact(Au.1 (W ns p).plain) q O;exact(J.ok q O).2)⟩
abbrev lH (n:Int) (t:Ty) (x:Str) (k:Core):List (Nat×AObj):=gHl 5 n x t [k] [] []
def lN:List R:=[.vp 700 2]
def lP:List R:=[.ep 702 0 0 1]
abbrev lG (n:Int) (t:Ty) (x:Str) (k:Core):List (Nat×AObj):=(3,grO lN lP)::lH n t x k
theorem lHW {n:Int}{t:Ty}{x:Str}{k:Core}:GW (lH n t x k) []:=gW
theorem lGW {n:Int}{t:Ty}{x:Str}{k:Core}:GW (lG n t x k) []:=⟨lHW (n:=n) (t:=t) (x:=x) (k:=k).tf,fun y q=>by
 rcases δ.1 (show y∈(grO lN lP).refs++cO (lH n t x k) from q) with q | q
 ·have:y=700∨y=702:=by simpa [grO,lN,lP,AObj.refs,R.refsL,R.refs] using q
  rcases this with rfl | rfl
  ·exact .inl (by simp[lG,gHl,keys])
  ·exact .inl (by simp[lG,gHl,keys])
 ·exact(lHW.refs y q).imp (fun h=>ω _ h) id,rfl,rfl⟩
theorem aNr (n:Int) (t:Ty) (x:Str) (k:Core) (nm:Str) (b:Core) (sb:Core→Core)
  (hc:aQ Tryz.prog 99 [.pa (aC k),Go.AM.T nm,.pa (aC b)] [] (.pa (aC (sb k))) []):
  aQ Tryz.prog 160 [Go.AM.T nm,.pa (aC b),.one (.vp 3 0)] (lG n t x k++[]) (.tup []) (lG n t x (sb k)++[]):=by
 have J:TF []:=lHW (n:=n) (t:=t) (x:=x) (k:=k).tf;refine tY J (n:=23) tok Tryz.func160 rfl rfl rfl ?_;refine sg rfl (sg rfl (aB (aK (fun j:Nat=>mkt [(0,Go.AM.T nm),(2,.one (.vp 3 0)),(4,.one (.vp 4 0)),(8,.one (.ras 1 1 lP)),(9,I .i64 ((1:Nat):Int)),(10,I .i64 j)] ([(4,.var 34 (b8 b))]++lG n t x (if j=0 then k else sb k)) []) (fun j=>j≤1) (fun j=>1-j) 0 (Aj _) ?_ ?_)))
 ·exact slG lGW
 intro j Y;refine sg rfl (a8 (aA rfl (fun hb=>?_) (fun hb=>?_)))
 ·have O:j=0:=by
   have:(j:Int)<((1:Nat):Int):=ψ hb;omega
  subst O;rw[ξ rfl];refine aD (a8 (aB (sg rfl (aE mixed (ak 6 [(3,.row 0 (aC k))] rfl (kc hc ?_))))));refine ak 2 [(8,.row 0 (aC k))] rfl (az (ag [] rfl ⟨1,le_refl _,by dsimp only;omega,?_⟩));dsimp only;rw[φ (by decide)];exact slG lGW (fun i hi=>GW.kf i hi)
 have W:j=1:=by
  have:¬(j:Int)<((1:Nat):Int):=χ hb;omega
 subst W;rw[φ (by decide)];refine aL ?_;exact⟨.inl rfl,aDa J (by repeat (first | exact FarEq.raw J | (refine FarEq.updL J ?_) | (refine FarEq.upd J ?_))) ⟨[],[],.nil,.nil,rfl⟩ (fun _ h=>by cases h) lGW.refs (fun i hi=>GW.kf i hi) (fun q N=>by rcases δ.1 N with N | N;exact(Au.1 (lGW (n:=n) (t:=t) (x:=x) (k:=k)).plain) q N;cases N)⟩
theorem a0c (n:Int) (t:Ty) (x:Str) (k:Core) (s:Str) (b:Core) (sb:Core→Str→Core→Core) (P:Core→Prop) (hok:PutOk sb P s b [k])
  (hM:(pfR k).length+2+(pfR b).length+1≤540000000000):
  ∃x' q,dN sb s b [x] [k]=([x'],[q])∧aQ Tryz.prog 134 [gpV lN lP,Go.AM.T s,.pa (aC b)] (lH n t x k++[]) (.tup []) (lH n t x' q++[]):=by
 have W:TF []:=lHW (n:=n) (t:=t) (x:=x) (k:=k).tf;have ab:([k]:List Core).flatMap pfR=pfR k:=by simp
 have hf:=hok.free k (by simp);have hq0:((pfR k).map bL).length=(pfR k).length:=θ _;have hk0:k=k:=rfl;have ac:s∉pfR k∨s=x→dN sb s b [x] [k]=([x],[k]):=fun h=>by
  unfold dN;rw[φ];rintro⟨h1,h2⟩;rw[ab] at h1;rcases h with h | h
  ·exact h h1
  ·exact h2 (by simp[h])
 by_cases hin:s∈pfR k
 case neg=>
  refine⟨x,k,ac (.inl hin),?_⟩;refine tY W (n:=92) tok Tryz.func134 rfl rfl rfl ?_;refine sg rfl (sg rfl (AWp.sub (Sub.own (t:=6) (id:=720) 9 1 rfl rfl) (AWp.sub (Sub.freeze (id:=720) rfl) ?_)));refine a8 (sg rfl (aB (aK (fun j:Nat=>mkt [(1,Go.AM.T s),(3,.one (.vp 3 0)),(5,.one (.vp 5 0)),(6,tkV (if j=0 then [] else pfR k)),(17,.one (.ras 1 1 lP)),(18,I .i64 ((1:Nat):Int)),(19,I .i64 j)] ([(3,grO lN lP),(5,.var 34 (b8 b)),(720,tkA (if j=0 then [] else pfR k))]++lH n t x k) []) (fun j=>j≤1) (fun j=>1-j) 0 (Aj _) (slG lHW) ?_)));intro j hj;refine sg rfl (a8 (aA rfl (fun hb=>?_) (fun hb=>?_)))
  ·have O:j=0:=by
    have:(j:Int)<((1:Nat):Int):=ψ hb;omega
   subst O;rw[ξ rfl];refine aD (a8 (aB (sg rfl (aE mixed (ak 4 [(3,.row 0 (aC k))] rfl (kc hf ?_))))));refine kz 2 rfl (AWp.sub (Sub.freeze (id:=720) rfl) ?_);refine ag [] rfl ⟨1,le_refl _,by dsimp only;omega,?_⟩;dsimp only;rw[φ (by decide)];exact slG lHW (he:=⟨rfl,rfl,rfl,Go.AM.hs_ren (by simp) (by simp),rfl,rfl,rfl,trivial⟩) (hh:=⟨⟨_,rfl,.varS rfl⟩,⟨_,rfl,.varS rfl⟩,⟨_,rfl,.arrS (by simp)⟩,⟨_,rfl,.varS rfl⟩,⟨_,rfl,.arr⟩,⟨_,rfl,.arr⟩,⟨_,rfl,.rarrS rfl⟩,trivial⟩)
  have J:j=1:=by
   have:¬(j:Int)<((1:Nat):Int):=χ hb;omega
  subst J;rw[φ (by decide)];refine aL ?_;have Y:=bS (pfR k) s (by omega);rw[Am hin] at Y;refine a8 (sk 2 rfl (kc Y ?_));refine kz 1 rfl (aA rfl (fun hb=>?_) nofun);exact aF ⟨.inr rfl,aDa W (by repeat (first | exact FarEq.raw W | (refine FarEq.updL W ?_) | (refine FarEq.upd W ?_))) ⟨[],[],.nil,.nil,rfl⟩ (fun _ h=>by cases h) lHW.refs (fun i hi=>GW.kf i hi) (fun q N=>by rcases δ.1 N with N | N;exact(Au.1 (lHW (n:=n) (t:=t) (x:=x) (k:=k)).plain) q N;cases N)⟩
 by_cases Z:s=x
 case pos=>
  refine⟨x,k,ac (.inr Z),?_⟩;refine tY W (n:=92) tok Tryz.func134 rfl rfl rfl ?_;refine sg rfl (sg rfl (AWp.sub (Sub.own (t:=6) (id:=720) 9 1 rfl rfl) (AWp.sub (Sub.freeze (id:=720) rfl) ?_)));refine a8 (sg rfl (aB (aK (fun j:Nat=>mkt [(1,Go.AM.T s),(3,.one (.vp 3 0)),(5,.one (.vp 5 0)),(6,tkV (if j=0 then [] else pfR k)),(17,.one (.ras 1 1 lP)),(18,I .i64 ((1:Nat):Int)),(19,I .i64 j)] ([(3,grO lN lP),(5,.var 34 (b8 b)),(720,tkA (if j=0 then [] else pfR k))]++lH n t x k) []) (fun j=>j≤1) (fun j=>1-j) 0 (Aj _) (slG lHW) ?_)));intro j hj;refine sg rfl (a8 (aA rfl (fun hb=>?_) (fun hb=>?_)))
  ·have O:j=0:=by
    have:(j:Int)<((1:Nat):Int):=ψ hb;omega
   subst O;rw[ξ rfl];refine aD (a8 (aB (sg rfl (aE mixed (ak 4 [(3,.row 0 (aC k))] rfl (kc hf ?_))))));refine kz 2 rfl (AWp.sub (Sub.freeze (id:=720) rfl) ?_);refine ag [] rfl ⟨1,le_refl _,by dsimp only;omega,?_⟩;dsimp only;rw[φ (by decide)];exact slG lHW (he:=⟨rfl,rfl,rfl,Go.AM.hs_ren (by simp) (by simp),rfl,rfl,rfl,trivial⟩) (hh:=⟨⟨_,rfl,.varS rfl⟩,⟨_,rfl,.varS rfl⟩,⟨_,rfl,.arrS (by simp)⟩,⟨_,rfl,.varS rfl⟩,⟨_,rfl,.arr⟩,⟨_,rfl,.arr⟩,⟨_,rfl,.rarrS rfl⟩,trivial⟩)
  have J:j=1:=by
   have:¬(j:Int)<((1:Nat):Int):=χ hb;omega
  subst J;rw[φ (by decide)];refine aL ?_;have Y:=bS (pfR k) s (by omega);rw[Ah hin] at Y;refine a8 (sk 2 rfl (kc Y ?_));refine kz 1 rfl (aA rfl nofun (fun hb=>aD (a8 (sg rfl (aB (aK (fun _:Unit=>mkt [(1,Go.AM.T s),(3,.one (.vp 3 0)),(5,.one (.vp 5 0)),(6,tkV (pfR k)),(35,.one (.ras 1 1 lN)),(36,I .i64 ((1:Nat):Int)),(37,I .i64 (0:Nat))] ([(3,grO lN lP),(5,.var 34 (b8 b)),(720,tkA (pfR k))]++lH n t x k) []) (fun _=>True) (fun _=>0) () trivial (slG lHW) ?_))))));intro _ _;refine sg rfl (a8 (aA rfl (fun hb=>aD (a8 (aB (sg rfl (a8 (sg rfl (aA rfl (fun hb=>?_) (fun hb=>absurd Z.symm (χ hb))))))))) nofun));exact aF ⟨.inr rfl,aDa W (by repeat (first | exact FarEq.raw W | (refine FarEq.updL W ?_) | (refine FarEq.upd W ?_))) ⟨[],[],.nil,.nil,rfl⟩ (fun _ h=>by cases h) lHW.refs (fun i hi=>GW.kf i hi) (fun q N=>by rcases δ.1 N with N | N;exact(Au.1 (lHW (n:=n) (t:=t) (x:=x) (k:=k)).plain) q N;cases N)⟩
 have hq1:((pfR k++[x]).map bL).length=(pfR k++[x]).length:=θ _;have hq2:((pfR b).map bL).length=(pfR b).length:=θ _;have hlx:(pfR k++[x]).length=(pfR k).length+1:=by simp
 have hfar:=hok.far;have hP:=hok.in_ k (by simp);have Y:=bS (pfR k) s (by omega);rw[Ah hin] at Y;have ad:=bS (pfR b) x (by omega);have hpin:aYt s [x] [k]:=⟨by rw[ab];exact hin,by simpa using Z⟩
 by_cases ae:x∈pfR b
 case pos=>
  have htl:(pfR k++[x]++pfR b).length≤540000000000:=by rw[τ];omega
  have hz:(b9 (pfR k++[x]++pfR b)).length≤30:=le_trans (jP _ htl) (by omega);have hcr:=y8 (pfR k++[x]++pfR b) (by omega) fun k hk=>hok.itoa k (by omega)
  refine⟨b9 (pfR k++[x]++pfR b),sb (sb k x (vC (b9 (pfR k++[x]++pfR b)))) s b,?_,?_⟩
  ·unfold dN;rw[ξ hpin,ab];unfold mF;simp only[Cr,List.foldl_nil];unfold eZ;rw[ξ ae];rfl
  rw[Ah ae] at ad;have hqt:((pfR k++[x]++pfR b).map bL).length=(pfR k++[x]++pfR b).length:=θ _;have hqa:(pfR k++[x]++pfR b).length=(pfR k).length+1+(pfR b).length:=by rw[τ,hlx]
  have hca:=aNr n t x k x (vC (b9 (pfR k++[x]++pfR b))) (fun p=>sb p x (vC (b9 (pfR k++[x]++pfR b)))) (hok.subz k x _ hP hz);have aa:=aNr n t (b9 (pfR k++[x]++pfR b)) (sb k x (vC (b9 (pfR k++[x]++pfR b)))) s b (fun p=>sb p s b) (hok.subb _ (hok.ren k x _ hP hz));have hcv:=sY (b9 (pfR k++[x]++pfR b));generalize hzz:b9 (pfR k++[x]++pfR b)=z at *;refine tY W (n:=92) tok Tryz.func134 rfl rfl rfl ?_;refine sg rfl (sg rfl (AWp.sub (Sub.own (t:=6) (id:=720) 9 1 rfl rfl) (AWp.sub (Sub.freeze (id:=720) rfl) ?_)));refine a8 (sg rfl (aB (aK (fun j:Nat=>mkt [(1,Go.AM.T s),(3,.one (.vp 3 0)),(5,.one (.vp 5 0)),(6,tkV (if j=0 then [] else pfR k)),(17,.one (.ras 1 1 lP)),(18,I .i64 ((1:Nat):Int)),(19,I .i64 j)] ([(3,grO lN lP),(5,.var 34 (b8 b)),(720,tkA (if j=0 then [] else pfR k))]++lH n t x k) []) (fun j=>j≤1) (fun j=>1-j) 0 (Aj _) (slG lHW) ?_)));intro j hj;refine sg rfl (a8 (aA rfl (fun hb=>?_) (fun hb=>?_)))
  ·have O:j=0:=by
    have:(j:Int)<((1:Nat):Int):=ψ hb;omega
   subst O;rw[ξ rfl];refine aD (a8 (aB (sg rfl (aE mixed (ak 4 [(3,.row 0 (aC k))] rfl (kc hf ?_))))));refine kz 2 rfl (AWp.sub (Sub.freeze (id:=720) rfl) ?_);refine ag [] rfl ⟨1,le_refl _,by dsimp only;omega,?_⟩;dsimp only;rw[φ (by decide)];exact slG lHW (he:=⟨rfl,rfl,rfl,Go.AM.hs_ren (by simp) (by simp),rfl,rfl,rfl,trivial⟩) (hh:=⟨⟨_,rfl,.varS rfl⟩,⟨_,rfl,.varS rfl⟩,⟨_,rfl,.arrS (by simp)⟩,⟨_,rfl,.varS rfl⟩,⟨_,rfl,.arr⟩,⟨_,rfl,.arr⟩,⟨_,rfl,.rarrS rfl⟩,trivial⟩)
  have J:j=1:=by
   have:¬(j:Int)<((1:Nat):Int):=χ hb;omega
  subst J;rw[φ (by decide)];refine aL (a8 (sk 2 rfl (kc Y ?_)));refine kz 1 rfl (aA rfl nofun (fun hb=>aD (a8 (sg rfl (aB (aK (fun j:Nat=>mkt [(1,Go.AM.T s),(3,.one (.vp 3 0)),(5,.one (.vp 5 0)),(6,tkV (if j=0 then pfR k else pfR k++[x])),(35,.one (.ras 1 1 lN)),(36,I .i64 ((1:Nat):Int)),(37,I .i64 j)] ([(3,grO lN lP),(5,.var 34 (b8 b)),(720,tkA (if j=0 then pfR k else pfR k++[x]))]++lH n t x k) []) (fun j=>j≤1) (fun j=>1-j) 0 (Aj _) (slG lHW) ?_))))));intro j hj;refine sg rfl (a8 (aA rfl (fun hb=>?_) (fun hb=>?_)))
  ·have O:j=0:=by
    have:(j:Int)<((1:Nat):Int):=ψ hb;omega
   subst O;rw[ξ rfl];refine aD (a8 (aB (sg rfl (a8 (sg rfl (aA rfl (fun hb=>absurd (ψ hb).symm Z) (fun hb=>aD (ag [] rfl (AWp.sub (Sub.freeze (id:=720) rfl) ?_)))))))));refine ag [] rfl ⟨1,le_refl _,by dsimp only;omega,?_⟩;dsimp only;rw[φ (by decide)];exact slG lHW (he:=⟨rfl,rfl,rfl,Go.AM.hs_ren (by simp) (by simp),rfl,rfl,rfl,trivial⟩) (hh:=⟨⟨_,rfl,.varS rfl⟩,⟨_,rfl,.varS rfl⟩,⟨_,rfl,.arrS (by simp[bL])⟩,⟨_,rfl,.varS rfl⟩,⟨_,rfl,.arr⟩,⟨_,rfl,.arr⟩,⟨_,rfl,.rarrS rfl⟩,trivial⟩)
  have J:j=1:=by
   have:¬(j:Int)<((1:Nat):Int):=χ hb;omega
  subst J;rw[φ (by decide)];refine aL (sk 1 rfl (kc hfar ?_));refine kz 1 rfl (sg rfl (AWp.sub (Sub.freeze (id:=720) rfl) ?_));refine sg rfl (a8 (sg rfl (aB (aK (fun i:Nat=>mkt [(1,Go.AM.T s),(5,.one (.vp 5 0)),(6,tkV (if i=0 then pfR k++[x]++pfR b else pfR k++[x]++pfR b++[z])),(11,bI (pfR b)),(12,.one (.clo 160 [.vp 3 0])),(60,.one (.ras 1 1 lN)),(61,I .i64 ((1:Nat):Int)),(62,I .i64 i)] ([(3,grO lN lP),(5,.var 34 (b8 b)),(720,tkA (if i=0 then pfR k++[x]++pfR b else pfR k++[x]++pfR b++[z]))]++lH n t (if i=0 then x else z) (if i=0 then k else sb k x (vC z))) []) (fun i=>i≤1) (fun i=>1-i) 0 (Aj _) ?_ ?_))))
  ·rw[ξ rfl,ξ rfl,ξ rfl];exact slG lHW (he:=⟨rfl,rfl,Go.AM.hs_ren (by simp only[τ,θ]) (by simp only[τ,θ]),rfl,rfl,rfl,rfl,rfl,trivial⟩) (hh:=⟨⟨_,rfl,.varS rfl⟩,⟨_,rfl,.varS rfl⟩,⟨_,rfl,.arrS (by simp)⟩,⟨_,rfl,.varS rfl⟩,⟨_,rfl,.arr⟩,⟨_,rfl,.arr⟩,⟨_,rfl,.rarrS rfl⟩,trivial⟩)
  intro i hi;refine sg rfl (a8 (aA rfl (fun hb=>?_) (fun hb=>?_)))
  ·have hi0:i=0:=by
    have:(i:Int)<((1:Nat):Int):=ψ hb;omega
   subst hi0;rw[ξ rfl,ξ rfl,ξ rfl];generalize pfR k++[x]++pfR b=tk at *;refine aD (a8 (aB (sg rfl (sk 4 rfl (kc ad ?_)))));refine az (aA rfl (fun hb=>sk 1 rfl (kc hcr ?_)) nofun);refine kz 1 rfl (sg rfl (AWp.sub (Sub.freeze (id:=720) rfl) ?_));refine sk 5 rfl (kc hcv ?_);refine kv (caps:=[.vp 3 0]) (args:=[Go.AM.T x,.pa (aC (vC z))]) hca ?_;refine az (ag [] rfl (ag [] rfl ⟨1,le_refl _,by dsimp only;omega,?_⟩));dsimp only;rw[φ (by decide),φ (by decide),φ (by decide)];exact slG lHW (fun i hi=>GW.kf i hi) (he:=⟨rfl,rfl,Go.AM.hs_ren (by simp) (by simp),rfl,rfl,rfl,rfl,rfl,trivial⟩) (hh:=⟨⟨_,rfl,.varS rfl⟩,⟨_,rfl,.varS rfl⟩,⟨_,rfl,.arrS (by simp[bL])⟩,⟨_,rfl,.varS rfl⟩,⟨_,rfl,.arr⟩,⟨_,rfl,.arr⟩,⟨_,rfl,.rarrS rfl⟩,trivial⟩)
  have J:i=1:=by
   have:¬(i:Int)<((1:Nat):Int):=χ hb;omega
  subst J;rw[φ (by decide),φ (by decide),φ (by decide)];refine aL (aE mixed (ak 3 [] rfl (kv (caps:=[.vp 3 0]) (args:=[Go.AM.T s,.pa (aC b)]) aa ?_)));exact az ⟨.inl rfl,aDa W (FarEq.outs W) ⟨[],[],.nil,.nil,rfl⟩ (fun _ h=>by cases h) lHW.refs (fun i hi=>GW.kf i hi) (fun q N=>by rcases δ.1 N with N | N;exact(Au.1 (lHW (n:=n) (t:=t) (x:=x) (k:=k)).plain) q N;cases N)⟩
 refine⟨x,sb k s b,?_,?_⟩
 ·unfold dN;rw[ξ hpin,ab];unfold mF;simp only[Cr,List.foldl_nil];unfold eZ;rw[φ ae];rfl
 rw[Am ae] at ad;have aa:=aNr n t x k s b (fun p=>sb p s b) (hok.subb _ hP);refine tY W (n:=92) tok Tryz.func134 rfl rfl rfl ?_;refine sg rfl (sg rfl (AWp.sub (Sub.own (t:=6) (id:=720) 9 1 rfl rfl) (AWp.sub (Sub.freeze (id:=720) rfl) ?_)));refine a8 (sg rfl (aB (aK (fun j:Nat=>mkt [(1,Go.AM.T s),(3,.one (.vp 3 0)),(5,.one (.vp 5 0)),(6,tkV (if j=0 then [] else pfR k)),(17,.one (.ras 1 1 lP)),(18,I .i64 ((1:Nat):Int)),(19,I .i64 j)] ([(3,grO lN lP),(5,.var 34 (b8 b)),(720,tkA (if j=0 then [] else pfR k))]++lH n t x k) []) (fun j=>j≤1) (fun j=>1-j) 0 (Aj _) (slG lHW) ?_)));intro j hj;refine sg rfl (a8 (aA rfl (fun hb=>?_) (fun hb=>?_)))
 ·have O:j=0:=by
   have:(j:Int)<((1:Nat):Int):=ψ hb;omega
  subst O;rw[ξ rfl];refine aD (a8 (aB (sg rfl (aE mixed (ak 4 [(3,.row 0 (aC k))] rfl (kc hf ?_))))));refine kz 2 rfl (AWp.sub (Sub.freeze (id:=720) rfl) ?_);refine ag [] rfl ⟨1,le_refl _,by dsimp only;omega,?_⟩;dsimp only;rw[φ (by decide)];exact slG lHW (he:=⟨rfl,rfl,rfl,Go.AM.hs_ren (by simp) (by simp),rfl,rfl,rfl,trivial⟩) (hh:=⟨⟨_,rfl,.varS rfl⟩,⟨_,rfl,.varS rfl⟩,⟨_,rfl,.arrS (by simp)⟩,⟨_,rfl,.varS rfl⟩,⟨_,rfl,.arr⟩,⟨_,rfl,.arr⟩,⟨_,rfl,.rarrS rfl⟩,trivial⟩)
 have J:j=1:=by
  have:¬(j:Int)<((1:Nat):Int):=χ hb;omega
 subst J;rw[φ (by decide)];refine aL (a8 (sk 2 rfl (kc Y ?_)));refine kz 1 rfl (aA rfl nofun (fun hb=>aD (a8 (sg rfl (aB (aK (fun j:Nat=>mkt [(1,Go.AM.T s),(3,.one (.vp 3 0)),(5,.one (.vp 5 0)),(6,tkV (if j=0 then pfR k else pfR k++[x])),(35,.one (.ras 1 1 lN)),(36,I .i64 ((1:Nat):Int)),(37,I .i64 j)] ([(3,grO lN lP),(5,.var 34 (b8 b)),(720,tkA (if j=0 then pfR k else pfR k++[x]))]++lH n t x k) []) (fun j=>j≤1) (fun j=>1-j) 0 (Aj _) (slG lHW) ?_))))));intro j hj;refine sg rfl (a8 (aA rfl (fun hb=>?_) (fun hb=>?_)))
 ·have O:j=0:=by
   have:(j:Int)<((1:Nat):Int):=ψ hb;omega
  subst O;rw[ξ rfl];refine aD (a8 (aB (sg rfl (a8 (sg rfl (aA rfl (fun hb=>absurd (ψ hb).symm Z) (fun hb=>aD (ag [] rfl (AWp.sub (Sub.freeze (id:=720) rfl) ?_)))))))));refine ag [] rfl ⟨1,le_refl _,by dsimp only;omega,?_⟩;dsimp only;rw[φ (by decide)];exact slG lHW (he:=⟨rfl,rfl,rfl,Go.AM.hs_ren (by simp) (by simp),rfl,rfl,rfl,trivial⟩) (hh:=⟨⟨_,rfl,.varS rfl⟩,⟨_,rfl,.varS rfl⟩,⟨_,rfl,.arrS (by simp[bL])⟩,⟨_,rfl,.varS rfl⟩,⟨_,rfl,.arr⟩,⟨_,rfl,.arr⟩,⟨_,rfl,.rarrS rfl⟩,trivial⟩)
 have J:j=1:=by
  have:¬(j:Int)<((1:Nat):Int):=χ hb;omega
 subst J;rw[φ (by decide)];refine aL (sk 1 rfl (kc hfar ?_));refine kz 1 rfl (sg rfl (AWp.sub (Sub.freeze (id:=720) rfl) ?_));refine sg rfl (a8 (sg rfl (aB (aK (fun i:Nat=>mkt [(1,Go.AM.T s),(5,.one (.vp 5 0)),(11,bI (pfR b)),(12,.one (.clo 160 [.vp 3 0])),(60,.one (.ras 1 1 lN)),(61,I .i64 ((1:Nat):Int)),(62,I .i64 i)] ([(3,grO lN lP),(5,.var 34 (b8 b))]++lH n t x k) []) (fun i=>i≤1) (fun i=>1-i) 0 (Aj _) (slG lHW) ?_))));intro i hi;refine sg rfl (a8 (aA rfl (fun hb=>?_) (fun hb=>?_)))
 ·have hi0:i=0:=by
   have:(i:Int)<((1:Nat):Int):=ψ hb;omega
  subst hi0;refine aD (a8 (aB (sg rfl (sk 4 rfl (kc ad ?_)))));exact az (aA rfl nofun (fun hb=>aD (ag [] rfl ⟨1,le_refl _,by dsimp only;omega,slG lHW⟩)))
 have J:i=1:=by
  have:¬(i:Int)<((1:Nat):Int):=χ hb;omega
 subst J;refine aL (aE mixed (ak 3 [] rfl (kv (caps:=[.vp 3 0]) (args:=[Go.AM.T s,.pa (aC b)]) aa ?_)));exact az ⟨.inl rfl,aDa W (FarEq.outs W) ⟨[],[],.nil,.nil,rfl⟩ (fun _ h=>by cases h) lHW.refs (fun i hi=>GW.kf i hi) (fun q N=>by rcases δ.1 N with N | N;exact(Au.1 (lHW (n:=n) (t:=t) (x:=x) (k:=k)).plain) q N;cases N)⟩
def w30 (s:Str):Nat:=max 30 s.length
mutual
def m30:Core→Nat
 | .mk _ _ s _ ks bs al=>1+w30 s+dI ks+gM bs+j2 al
def dI:List Core→Nat
 | []=>0
 | c::l=>m30 c+dI l
def gM:List Bind→Nat
 | []=>0
 | .mk s _ c::l=>1+w30 s+m30 c+gM l
def j2:List Alt→Nat
 | []=>0
 | .mk _ _ s vs c::l=>1+w30 s+(vs.map fun v=>1+w30 v).sum+m30 c+j2 l
end
theorem aD6 (s:Str):s.length≤w30 s:=le_max_right ..
theorem kP (s:Str):30≤w30 s:=le_max_left ..
theorem aHf {z s:Str}(h:z.length≤30):w30 z≤w30 s:=by unfold w30;omega
theorem aXv:∀vs:List Str,(vs.map fun v=>1+v.length).sum≤(vs.map fun v=>1+w30 v).sum
 | []=>le_refl _
 | v::vs=>by
  simp only[Al,Ce];have:=aXv vs;have:=aD6 v;omega
mutual
theorem cV:∀c:Core,bE c≤m30 c
 | .mk _ _ s _ ks bs al=>by
  rw[bE,m30];have:=vK ks;have:=vO bs;have:=vV al;have:=aD6 s;omega
theorem vK:∀l:List Core,dS l≤dI l
 | []=>by rw[dS,dI];exact le_refl _
 | c::l=>by
  rw[dS,dI];have:=cV c;have:=vK l;omega
theorem vO:∀l:List Bind,iD l≤gM l
 | []=>by rw[iD,gM];exact le_refl _
 | .mk s _ c::l=>by
  rw[iD,bsize,gM];have:=cV c;have:=vO l;have:=aD6 s;omega
theorem vV:∀l:List Alt,iF l≤j2 l
 | []=>by rw[iF,j2];exact le_refl _
 | .mk _ _ s vs c::l=>by
  rw[iF,yE,j2];have:=cV c;have:=vV l;have:=aD6 s;have:=aXv vs;omega
end
theorem eY (c:Core):31≤m30 c:=by obtain⟨_,_,s,_,ks,bs,al⟩:=c;rw[m30];have:=kP s;omega
theorem fL:∀{l:List Core}{c:Core},c∈l→m30 c≤dI l
 | d::l,c,h=>by
  rw[dI];rcases Ai.1 h with rfl | h
  ·omega
  ·have:=fL h;omega
theorem k8:∀{l:List Bind}{b:Bind},b∈l→m30 b.body≤gM l
 | .mk s t c::l,b,h=>by
  rw[gM];rcases Ai.1 h with rfl | h
  ·show m30 c≤_;omega
  ·have:=k8 h;omega
theorem gU:∀{l:List Alt}{a:Alt},a∈l→m30 a.body+(a.vars.map fun v=>1+w30 v).sum≤j2 l
 | .mk f n s vs c::l,a,h=>by
  rw[j2];rcases Ai.1 h with rfl | h
  ·show m30 c+(vs.map fun v=>1+w30 v).sum≤_;omega
  ·have:=gU h;omega
theorem xC:∀a b:List Core,dI (a++b)=dI a+dI b
 | [],b=>by rw[dI];simp
 | c::a,b=>by rw[Bc,dI,dI,xC a b];omega
theorem xB:∀l:List Bind,dI (l.map Bind.body)+31*l.length≤gM l
 | []=>by rw[Bn,dI,gM];simp
 | .mk s t c::l=>by
  rw[Al,dI,gM];have:=xB l;have:=kP s;show m30 c+_+_≤_;rw[Ak];omega
theorem aF1:∀l:List Core,31*l.length≤dI l
 | []=>by simp
 | c::l=>by rw[dI,Ak];have:=aF1 l;have:=eY c;omega
theorem aMq:∀ps:List Core,(ps.flatMap pfR).length≤dI ps
 | []=>by simp
 | p::ps=>by
  rw[Cj,τ,dI];have:=aHy p;have:=cV p;have:=aMq ps;omega
theorem kI (c:Core):(pfR c).length≤m30 c:=le_trans (aHy c) (cV c)
theorem wI:∀vs:List Str,31*vs.length≤(vs.map fun v=>1+w30 v).sum
 | []=>le_refl _
 | v::vs=>by simp only[Al,Ce,Ak];have:=wI vs;have:=kP v;omega
inductive A2 {α β:Type}(R:α→β→Prop):List α→List β→Prop
 | nil:A2 R [] []
 | cons {a b l m}:R a b→A2 R l m→A2 R (a::l) (b::m)
theorem A2.refl {α:Type}{R:α→α→Prop}(h:∀a,R a a):∀l,A2 R l l
 | []=>.nil
 | a::l=>.cons (h a) (A2.refl h l)
theorem A2.trans {α:Type}{R:α→α→Prop}(h:∀a b c,R a b→R b c→R a c) {l m k:List α}(h1:A2 R l m):A2 R m k→A2 R l k:=by
 induction h1 generalizing k with
 | nil=>intro h2;cases h2;exact .nil
 | cons r _ q=>intro h2;cases h2 with | cons r' h2=>exact .cons (h _ _ _ r r') (q h2)
theorem A2.map {α:Type}{R:α→α→Prop}{f:α→α}(h:∀a,R a (f a)):∀l,A2 R l (l.map f)
 | []=>.nil
 | a::l=>.cons (h a) (A2.map h l)
theorem A2.length {α β:Type}{R:α→β→Prop}{l:List α}{m:List β}(h:A2 R l m):m.length=l.length:=by
 induction h with
 | nil=>rfl
 | cons _ _ q=>simp[q]
theorem A2.take {α β:Type}{R:α→β→Prop}{l:List α}{m:List β}(h:A2 R l m):∀n:Nat,A2 R (l.take n) (m.take n):=by
 induction h with
 | nil=>intro n;simp;exact .nil
 | cons r _ q=>
  intro n;cases n with
  | zero=>exact .nil
  | succ n=>exact .cons r (q n)
theorem A2.drop {α β:Type}{R:α→β→Prop}{l:List α}{m:List β}(h:A2 R l m):∀n:Nat,A2 R (l.drop n) (m.drop n):=by
 induction h with
 | nil=>intro n;simp;exact .nil
 | cons r h q=>
  intro n;cases n with
  | zero=>exact .cons r h
  | succ n=>exact q n
theorem A2.mono {α β:Type}{R R':α→β→Prop}(hm:∀a b,R a b→R' a b) {l:List α}{m:List β}(h:A2 R l m):A2 R' l m:=by
 induction h with
 | nil=>exact .nil
 | cons r _ q=>exact .cons (hm _ _ r) q
def nh (s:Str):Prop:=s.head?≠some 37∧s.head?≠some 35
theorem aH6 (n:Nat):nh (bQ n):=by
 have key:∀m:_root_.Fin 26,UInt8.ofNat (97+m.val)≠37∧UInt8.ofNat (97+m.val)≠35:=by decide
 have h:UInt8.ofNat (97+n%26)≠37∧UInt8.ofNat (97+n%26)≠35:=key ⟨n%26,Nat.mod_lt _ (by decide)⟩;unfold nh bQ;split
 ·simpa using h
 ·simpa using h
theorem aGg (l:List Str):nh (b9 l):=aH6 _
def NR (n n':Str):Prop:=n'=n∨(n'.length≤30∧nh n')
theorem NR.w {n q:Str}(h:NR n q):w30 q≤w30 n:=by
 rcases h with rfl | ⟨h,_⟩
 ·exact le_refl _
 ·exact aHf h
theorem NR.nh {n q:Str}(h:NR n q) (hn:nh n):nh q:=by
 rcases h with rfl | ⟨_,h⟩
 ·exact hn
 ·exact h
section
variable {sb:Core→Str→Core→Core}
theorem aGc {Rel:Core→Core→Prop}(J:∀p,Rel p p) (ht:∀p q r,Rel p q→Rel q r→Rel p r) {far:List Str}(N:∀p n z,z.length≤30→Rel p (sb p n (vC z))):
  ∀{ns:List Str} {st:List Str×List Core×List Str},st.2.2.length+ns.length≤540000000000→
   A2 Rel st.2.1 (mF sb far ns st).2.1∧∃I,(mF sb far ns st).1=st.1++I∧A2 NR ns I
 | [],st,_=>⟨A2.refl J _,[],by show st.1=_;simp,.nil⟩
 | n::ns,st,hl=>by
  simp only[Ak] at hl;have O:=sL (sb:=sb) (far:=far) (st:=st) (n:=n);obtain⟨h1,I,h2,h3⟩:=aGc J ht N (far:=far) (ns:=ns) (st:=eZ sb far st n) (by omega);have e:mF sb far (n::ns) st=mF sb far ns (eZ sb far st n):=rfl;rw[e];have hf:(b9 st.2.2).length≤30:=le_trans (jP _ (by omega)) (by omega);by_cases hn:n∈far
  ·have es:eZ sb far st n=(st.1++[b9 st.2.2],st.2.1.map (fun p=>sb p n (vC (b9 st.2.2))),st.2.2++[b9 st.2.2]):=by unfold eZ;rw[ξ hn]
   rw[es] at h1 h2 ⊢;refine⟨A2.trans ht (A2.map (fun p=>N p n _ hf) _) h1,b9 st.2.2::I,?_,.cons (.inr ⟨hf,aGg _⟩) h3⟩;rw[h2,A0];rfl
  ·have es:eZ sb far st n=(st.1++[n],st.2.1,st.2.2):=by unfold eZ;rw[φ hn]
   rw[es] at h1 h2 ⊢;refine⟨h1,n::I,?_,.cons (.inl rfl) h3⟩;rw[h2,A0];rfl
theorem aFe {Rel:Core→Core→Prop}(J:∀p,Rel p p) (ht:∀p q r,Rel p q→Rel q r→Rel p r) {s:Str}{b:Core}{ns:List Str}{ps:List Core}(N:∀p n z,z.length≤30→Rel p (sb p n (vC z)))
  (hl:(ps.flatMap pfR).length+2*ns.length+(pfR b).length≤540000000000):(∃I,A2 Rel ps I∧((dN sb s b ns ps).2=I∨(dN sb s b ns ps).2=I.map fun p=>sb p s b))∧A2 NR ns (dN sb s b ns ps).1:=by
 unfold dN;split
 ·obtain⟨h1,O,h2,h3⟩:=aGc J ht N (far:=pfR b) (ns:=ns) (st:=([],ps,ps.flatMap pfR++ns++pfR b)) (by simp only[τ];omega);exact⟨⟨_,h1,.inr rfl⟩,by rw[h2];exact h3⟩
 ·exact⟨⟨ps,A2.refl J _,.inl rfl⟩,A2.refl (fun _=>.inl rfl) _⟩
end
theorem A2.mem {α β:Type}{R:α→β→Prop}{l:List α}{m:List β}(h:A2 R l m):∀b∈m,∃a∈l,R a b:=by
 induction h with
 | nil=>intro b hb;cases hb
 | cons r _ I=>
  intro b hb;rcases Ai.1 hb with rfl | hb
  ·exact⟨_,η,r⟩
  ·obtain⟨a,ha,q⟩:=I b hb;exact⟨a,ω _ ha,q⟩
theorem A2.mapL {α β γ:Type}{R:β→γ→Prop}{f:α→β}:∀{l:List α}{m:List γ},A2 R (l.map f) m→A2 (fun a c=>R (f a) c) l m
 | [],m,h=>by cases h;exact .nil
 | a::l,m,h=>by
  cases h with
  | cons r h=>exact .cons r (A2.mapL h)
theorem pE:∀{ts:List Ty}{ns:List Str}{ps:List Core}{x:Bind},x∈mkB ts ns ps→x.body∈ps∧x.ty∈ts
 | t::ts,n::ns,p::ps,x,h=>by
  unfold mkB at h;rcases Ai.1 h with rfl | h
  ·exact⟨η,η⟩
  ·obtain⟨h1,h2⟩:=pE h;exact⟨ω _ h1,ω _ h2⟩
 | [],_,_,x,h=>by unfold mkB at h;cases h
 | _::_,[],_,x,h=>by unfold mkB at h;cases h
 | _::_,_::_,[],x,h=>by unfold mkB at h;cases h
theorem tF {T:Ty→Prop}:∀{l:List Core},aBe T l↔∀x∈l,allT T x
 | []=>by simp[aBe]
 | c::l=>by rw[aBe,tF (l:=l)];simp
theorem tJ {T:Ty→Prop}:∀{l:List Bind},aBf T l↔∀x∈l,T x.ty∧allT T x.body
 | []=>by simp[aBf]
 | .mk _ t c::l=>by rw[aBf,tJ (l:=l)];simp[Bind.body,Bind.ty,and_assoc]
theorem tK {T:Ty→Prop}:∀{l:List Alt},aBh T l↔∀x∈l,allT T x.body
 | []=>by simp[aBh]
 | .mk _ _ _ _ c::l=>by rw[aBh,tK (l:=l)];simp[Alt.body]
def Big:Nat:=250000000000
theorem aS5 {z:Str}(h:z.length≤30):m30 (vC z)=31:=by
 unfold vC;rw[m30,dI,gM,j2];unfold w30;omega
theorem aMb {f:Int}{nm:Str}{bs:List Bind}:(gvN f nm bs).length≤1+bs.length:=by unfold gvN;split<;>simp;omega
theorem aE0 {vs vs':List Str}(h:A2 NR vs vs'):(vs'.map fun v=>1+w30 v).sum≤(vs.map fun v=>1+w30 v).sum:=by
 induction h with
 | nil=>exact le_refl _
 | cons r _ q=>
  simp only[Al,Ce];have:=r.w;omega
section
variable {clr:Core→List Str→Core}{T:Ty→Prop}
end
def vI (i:Nat) (al:List Alt):List (Nat×AObj):=(fam 0 al).filter fun p=>!Nat.beq p.1 (i+800)
theorem vP {a b:Nat}(h:a≠b):Nat.beq a b=false:=by
 cases hb:Nat.beq a b with
 | false=>rfl
 | true=>exact absurd (ε hb) h
theorem xT {i:Nat}{al:List Alt}{p:Nat×AObj}(h:p∈vI i al):p∈fam 0 al∧p.1≠i+800:=by
 obtain⟨h1,h2⟩:=mem_filter.1 h;refine⟨h1,fun e=>?_⟩;rw[e,B6] at h2;cases h2
theorem aDb {i:Nat}{al:List Alt}:TF (vI i al):=⟨fun p hp=>fH.far p (xT hp).1,by
 have:((vI i al).map (·.1)).Sublist ((fam 0 al).map (·.1)):=(List.filter_sublist ..).map _
 exact List.Nodup.sublist this lI,fun p hp=>fH.arr p (xT hp).1⟩
theorem qM:∀{l:List Alt}{k i x:Nat},x∈bY ((aV k l).set i [])→∃j,j<l.length∧j≠i∧x=k+j+800
 | [],_,_,_,h=>by simp[aV,bY] at h
 | a::l,k,0,x,h=>by
  have h:x∈bY (aV (k+1) l):=by simpa [aV,bY,R.refsL] using h
  obtain⟨p,hp,e⟩:=Af.1 (cK x h);obtain⟨j,b,I,rfl⟩:=nC hp;have q:j<l.length:=(Aa.1 I).1
  exact⟨j+1,by simp;exact q,by omega,by rw[←e];show k+1+j+800=_;omega⟩
 | a::l,k,i+1,x,h=>by
  rcases δ.1 (show x∈R.refsL (dL k a)++bY ((aV (k+1) l).set i []) from h) with h | h
  ·exact⟨0,by simp,by omega,by rw[qI h]⟩
  ·obtain⟨j,h1,h2,h3⟩:=qM h;exact⟨j+1,by simp;exact h1,by omega,by omega⟩
theorem aQ2 {i j:Nat}{al:List Alt}(h:j<al.length) (q:j≠i):0+j+800∈keys (vI i al):=by
 obtain⟨a,ha⟩:=aJ h;exact Af.2 ⟨_,mem_filter.2 ⟨aAl ha,by simp only[vP (show 0+j+800≠i+800 by omega)];rfl⟩,rfl⟩
theorem wH {i j:Nat}(h:j≠704) (q:j≠i+800):swp 704 (i+800) j=j:=by unfold swp;rw[vP h,vP q];rfl
theorem uN {σ:Nat→Nat}:∀{l:List Alt}{k i:Nat}{a:Alt}{r:List R},l[i]?=some a→(∀j,j<l.length→j≠i→σ (k+j+800)=k+j+800)→R.renL σ r=dL (k+i) a→mM σ ((aV k l).set i r)=aV k l
 | b::l,k,0,a,r,h,hσ,I=>by
  simp at h;subst h;show R.renL σ r::mM σ (aV (k+1) l)=_;have key:∀(l:List Alt) (k:Nat),(∀j,j<l.length→σ (k+j+800)=k+j+800)→mM σ (aV k l)=aV k l:=by
   intro l
   induction l with
   | nil=>intro _ _;rfl
   | cons c l J=>
    intro k hk;simp only[aV,mM]
    rw[jY,show σ (k+800)=k+800 from hk 0 (by simp),J (k+1) fun j q=>by
     have:=hk (j+1) (by simp;exact q)
     rwa [show k+(j+1)+800=k+1+j+800 by omega] at this];rfl
  rw[I,key l (k+1) fun j q=>by
   have:=hσ (j+1) (by simp;exact q) (by omega)
   rwa [show k+(j+1)+800=k+1+j+800 by omega] at this];rfl
 | b::l,k,i+1,a,r,h,hσ,I=>by
  show R.renL σ (dL k b)::mM σ ((aV (k+1) l).set i r)=_
  rw[jY,show σ (k+800)=k+800 from hσ 0 (by simp) (by omega),uN (l:=l) (k:=k+1) (a:=a) (by simpa using h) (fun j q N=>by
   have:=hσ (j+1) (by simp;exact q) (by omega)
   rwa [show k+(j+1)+800=k+1+j+800 by omega] at this) (by rw[I,show k+1+i=k+(i+1) by omega])];rfl
theorem aL1 {i:Nat}{al:List Alt}{j:Nat}(h:j≠i+800):Go.AM.look (vI i al) j=Go.AM.look (fam 0 al) j:=by
 unfold vI;generalize fam 0 al=F
 induction F with
 | nil=>rfl
 | cons p F q=>
  obtain⟨k,o⟩:=p;rw[Ck];simp only[Go.AM.look];by_cases hk:k=i+800
  ·rw[hk,B6];simp only[Bool.not_true,A1,Br];rw[q,vP h];rfl
  ·rw[vP hk];simp only[Bool.not_false,B3,Go.AM.look];cases Nat.beq j k
   ·simpa using q
   ·rfl
theorem aQ1 {i:Nat}{al:List Alt}:renH (swp 704 (i+800)) (vI i al)=vI i al:=by
 have key:∀F:List (Nat×AObj),(∀p∈F,p∈vI i al)→renH (swp 704 (i+800)) F=F:=by
  intro F
  induction F with
  | nil=>intro _;rfl
  | cons p F I=>
   intro h;have hp:=xT (h p η);obtain⟨te,es,l,z,e⟩:=fH.arr p hp.1;have J:=fH.far p hp.1;show(swp 704 (i+800) p.1,p.2.ren _)::renH _ F=_;rw[I fun q N=>h q (ω _ N),wH (by omega) hp.2,e];show(p.1,AObj.arr te es l z)::F=_;rw[←e]
 exact key _ fun _ h=>h
abbrev aX (i:Nat) (al:List Alt) (a:Alt) (nv:Nat):List (Nat×AObj):=aH ((aV 0 al).set i []) i a.form a.n a.name nv a.vars a.body++vI i al
theorem aL2 {i:Nat}{al:List Alt}{a:Alt}(I:al[i]?=some a):Go.AM.look (renH (swp 704 (i+800)) (aX i al a a.vars.length))=Go.AM.look ((703,.rarr 71 14 (aV 0 al))::fam 0 al):=by
 have J:renH (swp 704 (i+800)) (aX i al a a.vars.length)=(703,.rarr 71 14 (aV 0 al))::(i+800,.arr 9 1 (a.vars.map bL) 0)::vI i al:=by
  unfold aX aH;show(swp 704 (i+800) 703,AObj.rarr _ _ (mM _ _))::(swp 704 (i+800) 704,AObj.arr _ _ _ _)::renH _ (vI i al)=_;rw[aQ1,wH (by omega) (by omega),aX3];have q:swp 704 (i+800) 704=i+800:=by unfold swp;rw[B6];rfl
  rw[q,uN I (fun j O N=>wH (by omega) (by omega)) ?_];unfold aE7 dL;simp only[Bc,Bd,R.renL,R.ren,aKb,q,A6]
 rw[J];funext j;by_cases h1:j=703
 ·subst h1;rw[bD,bD]
 rw[bN h1,bN h1];by_cases h2:j=i+800
 ·subst h2;rw[bD];have:=pF (lI (l:=al) (k:=0)) _ (aAl I);rw[A6] at this;exact this.symm
 ·rw[bN h2,aL1 h2]
theorem mW:∀{l:List Alt}{k i:Nat}{q:Alt},(aV k (l.set i q)).set i []=(aV k l).set i []
 | [],_,_,_=>rfl
 | b::l,k,0,q=>rfl
 | b::l,k,i+1,q=>by
  simp only[C3,aV];rw[mW]
theorem aQ0 {i:Nat}{al:List Alt}{q:Alt}:vI i (al.set i q)=vI i al:=by
 unfold vI;have key:∀(l:List Alt) (k j:Nat),k+j=i→((fam k (l.set j q)).filter fun p=>!Nat.beq p.1 (i+800))=(fam k l).filter fun p=>!Nat.beq p.1 (i+800):=by
  intro l
  induction l with
  | nil=>intro _ _ _;rfl
  | cons b l I=>
   intro k j h;cases j with
   | zero=>
    have e:k=i:=by omega
    subst e;simp only[List.set_cons_zero,fam,Ck,B6,Bool.not_true];rfl
   | succ j=>
    simp only[C3,fam,Ck];rw[I (k+1) j (by omega)]
 exact key al 0 i (by omega)
theorem aV9 (al:List Alt) (i:Nat) (a:Alt) (J:al[i]?=some a) (s:Str) (b:Core) (sb:Core→Str→Core→Core) (P:Core→Prop) (hok:PutOk sb P s b [a.body])
  (hM:(pfR a.body).length+2*a.vars.length+(pfR b).length+1≤540000000000) (nv:Nat) (W:nv=a.vars.length) (Y:Nat) (Z:Y=al.length):
  ∃q,(dN sb s b a.vars [a.body]).2=[q]∧aQ Tryz.prog 134 [.ma [.ras nv 1 (vR i nv nv).flatten,.ras 1 1 [.rp 703 i 4 Y]],Go.AM.T s,.pa (aC b)] ((703,.rarr 71 14 (aV 0 al))::fam 0 al) (.tup [])
   ((703,.rarr 71 14 (aV 0 (al.set i (.mk a.form a.n a.name (dN sb s b a.vars [a.body]).1 q))))::fam 0 (al.set i (.mk a.form a.n a.name (dN sb s b a.vars [a.body]).1 q))):=by
 subst W;subst Z;have aa:i<al.length:=(Aa.1 J).1
 have ab:((aV 0 al).set i []).length=al.length:=by rw[Cn,dT]
 have hr:∀x∈bY ((aV 0 al).set i []),x∈keys (vI i al):=fun x hx=>by
  obtain⟨j,h1,h2,rfl⟩:=qM hx;exact aQ2 h1 h2
 obtain⟨q,hq,h⟩:=a0d ((aV 0 al).set i []) i a.form a.n a.name a.vars.length a.vars a.body (vI i al) s b sb P aDb hr (by omega) rfl hok hM;refine⟨q,hq,?_⟩;have hl1:=(r6 (sb:=sb) (s:=s) (b:=b) (ns:=a.vars) (ps:=[a.body])).1
 rw[ab] at h;have I:∀(ns:List Str) (p:Core),subset (cO (aH ((aV 0 al).set i []) i a.form a.n a.name a.vars.length ns p++vI i al)) (keys (aH ((aV 0 al).set i []) i a.form a.n a.name a.vars.length ns p++vI i al))=true:=fun ns p=>eD (nL aDb (aHW aDb hr).refs)
 have h2:=aQ.swap 704 (i+800) h (I _ _) (eD fun x hx=>by
  have hx:x∈(grO (aN a.vars.length) (aP i al.length)).refs++([]++([]++[])):=hx;rw[A8,A8,A8] at hx;rcases aDu x hx with rfl | rfl
  ·simp[aH,keys]
  ·simp[aH,keys]) (I _ _) rfl
 have ea:V.renL (swp 704 (i+800)) [gpV (aN a.vars.length) (aP i al.length),Go.AM.T s,.pa (aC b)]=[.ma [.ras a.vars.length 1 (vR i a.vars.length a.vars.length).flatten,.ras 1 1 [.rp 703 i 4 al.length]],Go.AM.T s,.pa (aC b)]:=by
  have N:swp 704 (i+800) 704=i+800:=by unfold swp;rw[B6];rfl
  have en:R.renL (swp 704 (i+800)) (aN a.vars.length)=(vR i a.vars.length a.vars.length).flatten:=by
   unfold aN vR rgR;generalize List.range a.vars.length=rg
   induction rg with
   | nil=>rfl
   | cons j rg ih=>
    simp only[Al,Bf,List.singleton_append,R.renL,R.ren,N] at ih ⊢;rw[ih]
  unfold gpV aP;simp only[V.renL,V.ren,R.renL,R.ren,en,aTv,wH (show 703≠704 by omega) (show 703≠i+800 by omega)];rfl
 rw[ea] at h2;refine aQ.row h2 (aL2 J).symm ?_;have O:(al.set i (.mk a.form a.n a.name (dN sb s b a.vars [a.body]).1 q))[i]?=some (.mk a.form a.n a.name (dN sb s b a.vars [a.body]).1 q):=List.getElem?_set_self aa;have h3:=aL2 O;unfold aX at h3;rw[mW,aQ0] at h3;rw[←h3];show Go.AM.look (renH _ (aH _ i a.form a.n a.name (dN sb s b a.vars [a.body]).1.length _ _++vI i al))=_;rw[hl1];rfl
def gS (h:c7):Prop:=∀i,800≤i→h i=none
theorem gS.nil:gS (Go.AM.look []):=fun _ _=>rfl
theorem gS.upd {h:c7}{k:Nat}{x:Option AObj}(hf:gS h) (hk:Nat.blt k 800=true:=by rfl):gS (upd h k x):=fun i hi=>by
 have:=Ap hk;rw[aS _ _ _ (by omega)];exact hf i hi
theorem aLn:∀bs:List Bind,mkB (bs.map Bind.ty) (bs.map Bind.name) (bs.map Bind.body)=bs
 | []=>rfl
 | .mk s t c::bs=>by
  show Bind.mk s t c::mkB _ _ _=_;rw[aLn bs]
theorem a2m {b:Bool}{nk nb:Nat}(h:b=false):pH b nk nb=[.ras (tN nb).length 1 (tN nb),.ras (tP nk nb).length 1 (tP nk nb)]:=by
 subst h;have q:(nR false nb nb).length=(tN nb).length:=by unfold tN;rw[mH aJt,mul_one]
 have I:(pR nk nb nb).length=(tP nk nb).length:=by unfold tP;rw[mH uW,mul_one]
 unfold pH;rw[q,I];rfl
section
variable {clr:Core→List Str→Core}{k:Nat}
noncomputable def n1 (sb:Core→Str→Core→Core) (s:Str) (b:Core) (a:Alt):Alt:=.mk a.form a.n a.name (dN sb s b a.vars [a.body]).1 ((dN sb s b a.vars [a.body]).2.headD a.body)
noncomputable def tE (sb:Core→Str→Core→Core) (s:Str) (b:Core) (al:List Alt) (i:Nat):List Alt:=(al.take i).map (n1 sb s b)++al.drop i
theorem yG {sb:Core→Str→Core→Core}{s:Str}{b:Core}{al:List Alt}{i:Nat}:(tE sb s b al i).length=al.length:=by unfold tE;simp;omega
theorem aWx {sb:Core→Str→Core→Core}{s:Str}{b:Core}{al:List Alt}{i:Nat}{a:Alt}(h:al[i]?=some a):(tE sb s b al i)[i]?=some a:=by
 have q:i<al.length:=(Aa.1 h).1
 unfold tE;rw[Az (by simp;omega),θ,Aq,B9 (by omega),sub_self,An,By,h]
theorem aOh {sb:Core→Str→Core→Core}{s:Str}{b:Core}{al:List Alt}{i:Nat}{a:Alt}(h:al[i]?=some a):tE sb s b al (i+1)=(tE sb s b al i).set i (n1 sb s b a):=by
 have q:i<al.length:=(Aa.1 h).1
 unfold tE;rw[pN h,rV (by simp;omega),Bi,h];simp
theorem aOg {sb:Core→Str→Core→Core}{s:Str}{b:Core}{al:List Alt}:tE sb s b al 0=al:=by simp[tE]
theorem aR2 {sb:Core→Str→Core→Core}{s:Str}{b:Core}{al:List Alt}:tE sb s b al al.length=al.map (n1 sb s b):=by simp[tE]
noncomputable def zNm (sb:Core→Str→Core→Core) (f:Int) (nm:Str) (s:Str) (b:Core) (ks:List Core) (bs:List Bind):Nat→Str
 | 0=>nm
 | _+1=>if f=5 then(dN sb s b (gvN f nm bs) (ks++bs.map Bind.body)).1.headD nm else nm
noncomputable def zKs (sb:Core→Str→Core→Core) (f:Int) (nm:Str) (s:Str) (b:Core) (ks:List Core) (bs:List Bind):Nat→List Core
 | 0=>ks
 | _+1=>(dN sb s b (gvN f nm bs) (ks++bs.map Bind.body)).2.take ks.length
noncomputable def zBs (sb:Core→Str→Core→Core) (f:Int) (nm:Str) (s:Str) (b:Core) (ks:List Core) (bs:List Bind):Nat→List Bind
 | 0=>bs
 | _+1=>mkB (bs.map Bind.ty) (dN sb s b (gvN f nm bs) (ks++bs.map Bind.body)).1 ((dN sb s b (gvN f nm bs) (ks++bs.map Bind.body)).2.drop ks.length)
noncomputable def zAs (sb:Core→Str→Core→Core) (s:Str) (b:Core) (al:List Alt):Nat→List Alt
 | 0=>al
 | i+1=>tE sb s b al i
theorem xS:∀{l m:List Alt}{k:Nat},l.length=m.length→keys (fam k l)=keys (fam k m)
 | [],[],_,_=>rfl
 | a::l,c::m,k,h=>by
  show(k+800)::keys (fam (k+1) l)=(k+800)::keys (fam (k+1) m);rw[xS (by simpa using h)]
end
def vT (z:Str):Ty:=.mk 2 0 z []
theorem aGz (n:Int) (nm:Str) (t:Ty) (kid:Core) (far:List Str) (J:far.length≤540000000000) (I:¬nm∈far):
  aQ Tryz.prog 77 [.one (.vp 700 0),bI far] (gHl 7 n nm t [kid] [] []) (.tup []) (gHl 7 n nm t [kid] [] []):=by
 have q:=bS far nm (by omega);rw[Am I] at q;refine bM (n:=44) tok Tryz.func77 rfl rfl rfl ?_;refine sk 5 rfl (kc q ?_);exact az (aA rfl nofun (fun hb=>aD ⟨.inl rfl,⟨[],[],.nil,.nil,rfl⟩,⟨⟨_,rfl,.var rfl⟩,⟨_,rfl,.arr⟩,⟨_,rfl,.arr⟩,⟨_,rfl,.rarr rfl⟩,trivial⟩,rfl⟩))
theorem aGy (n:Int) (nm:Str) (t:Ty) (kid q:Core) (far:List Str) (W:far.length≤540000000000) (hin:nm∈far) (Y:dA 540000000000) (N:aQ Tryz.prog 76 [.pa (aC kid)] [] (bI (tyR kid)) []) (aa:far.length+(tyR kid).length≤540000000000)
  (hs:aQ Tryz.prog 32 [.pa (aC kid),Go.AM.T nm,tyV (vT (b9 (far++tyR kid)))] [] (.pa (aC q)) []):
  aQ Tryz.prog 77 [.one (.vp 700 0),bI far] (gHl 7 n nm t [kid] [] []) (.tup []) (gHl 7 n (b9 (far++tyR kid)) t [q] [] []):=by
 have I:=bS far nm (by omega);rw[Ah hin] at I;have O:=mV (far.map bL) (by rw[θ];omega);have ab:(far.map bL).length=far.length:=θ _;have Z:((tyR kid).map bL).length=(tyR kid).length:=θ _;have J:=y8 (far++tyR kid) (by rw[τ];omega) fun k hk=>Y k (by rw[τ] at hk;omega)
 generalize b9 (far++tyR kid)=z at hs J ⊢;refine bM (n:=44) tok Tryz.func77 rfl rfl rfl ?_;refine sk 5 rfl (kc I ?_);refine az (aA rfl (fun hb=>sk 1 rfl (kc O ?_)) nofun);refine ak 6 [(7,.row 0 (aC kid))] rfl (kc N ?_);refine ak 1 [(9,.fz)] rfl (kc J ?_);refine kz 1 rfl (skh 15 [(9,.row 0 (aC kid))] rfl (kc (aM7 z) ?_));refine kc hs ?_;exact ak 2 [(18,.row 0 (aC kid))] rfl (az (ag [] rfl ⟨.inl rfl,⟨[],[],.nil,.nil,rfl⟩,⟨⟨_,rfl,.var rfl⟩,⟨_,rfl,.arr⟩,⟨_,rfl,.arr⟩,⟨_,rfl,.rarr rfl⟩,trivial⟩,rfl⟩))
theorem a2v (name:Str) (q t t':Ty) (h:aQ Tryz.prog 28 [tyV t,bI [name],.one (.c (.sl 4 [aO q]))] [] (tyV t') []):
  aQ Tryz.prog 79 [tyV t,.one (.vp 4 0),.one (.vp 5 0)] [(4,.var 9 [.c (.str name)]),(5,.var 30 ((aO q).map R.c))] (tyV t') [(4,.var 9 [.c (.str name)]),(5,.var 30 ((aO q).map R.c))]:=by
 refine bM (n:=11) tok Tryz.func79 rfl rfl rfl ?_;refine sgh [(0,.id 730),(1,.id 731)] rfl (skh 5 [(2,.all),(4,.all)] rfl (kc h ?_));exact kz 1 rfl (aF (rtC trw))
def fQ (ts:Ty→Ty) (sb:Core→Core):Core→Core
 | .mk f n nm t ks bs al=>.mk f n nm (ts t) (ks.map sb) (bs.map fun b=>.mk b.name (ts b.ty) (sb b.body)) (al.map fun a=>.mk a.form a.n a.name a.vars (sb a.body))
def tsB (ts:Ty→Ty) (b:Bind):Bind:=.mk b.name (ts b.ty) b.body
section
variable {α:Type}{g:α→α}
def l8 (g:α→α) (bs:List α) (j:Nat):List α:=(bs.take j).map g++bs.drop j
theorem mE {bs:List α}{j:Nat}:(l8 g bs j).length=bs.length:=by unfold l8;simp;omega
theorem xA {bs:List α}{j:Nat}{b:α}(h:bs[j]?=some b):(l8 g bs j)[j]?=some b:=by
 have q:j<bs.length:=(Aa.1 h).1
 unfold l8;rw[Az (by simp;omega),θ,Aq,B9 (by omega),sub_self,An,By,h]
theorem nY {bs:List α}{j:Nat}{b:α}(h:bs[j]?=some b):l8 g bs (j+1)=(l8 g bs j).set j (g b):=by
 have q:j<bs.length:=(Aa.1 h).1
 unfold l8;rw[pN h,rV (by simp;omega),Bi,h];simp
theorem l7 {bs:List α}:l8 g bs 0=bs:=by simp[l8]
theorem aQj {bs:List α}:l8 g bs bs.length=bs.map g:=by simp[l8]
theorem x9 {bs:List α}{j:Nat}(h:bs.length≤j):l8 g bs j=bs.map g:=by unfold l8;rw[A3 h,List.drop_eq_nil_of_le h,A8]
end
def sbB (sb:Core→Core) (b:Bind):Bind:=.mk b.name b.ty (sb b.body)
def sbA (sb:Core→Core) (a:Alt):Alt:=.mk a.form a.n a.name a.vars (sb a.body)
theorem tD:∀{l:List Alt}{k i:Nat}{a:Alt},aV k (l.set i a)=(aV k l).set i (dL (k+i) a)
 | [],_,_,_=>rfl
 | b::l,k,0,a=>rfl
 | b::l,k,i+1,a=>by
  simp only[C3,aV];rw[tD (l:=l) (k:=k+1),show k+1+i=k+(i+1) by omega]
theorem aGi (sb:Core→Core):∀(l:List Alt) (k j:Nat),fam k (l8 (sbA sb) l j)=fam k l
 | [],_,_=>by simp[l8]
 | a::l,k,0=>by rw[l7]
 | a::l,k,j+1=>by
  have e:l8 (sbA sb) (a::l) (j+1)=sbA sb a::l8 (sbA sb) l j:=rfl;rw[e];show(k+800,AObj.arr 9 1 (a.vars.map bL) 0)::fam (k+1) _=_;rw[aGi sb l (k+1) j];rfl
theorem aPl {f n:Int}{nm:Str}{t:Ty}{ks:List Core}{bs:List Bind}{al:List Alt}{r v:Nat}
  (hr:Nat.blt r 700=true) (hv:Nat.blt v 700=true) {q:St} (hF:FarEq q.h (fam 0 al)) (he:dM (fun p:Nat×V=>q.e p.1=some (p.2.ren (fun i=>i))) [(r,V.one (.vp r 0)),(v,V.one (.vp 700 0))])
  (hh:dM (fun p:Nat×AObj=>∃o,q.h p.1=some o∧Ole (fun i=>i) o p.2) (gHl f n nm t ks bs al)) (h6:∃o,q.h r=some o∧Ole (fun i=>i) o (.var 34 bR)) (hd:q.d=[]) (J:r≠v):
  Sub [] (mk [(r,.one (.vp r 0)),(v,.one (.vp 700 0))] [(r,.var 34 bR),(700,.var 34 (b8 (.mk f n nm t ks bs al)))]) q:=by
 have hr':=Ap hr;have hv':=Ap hv;have Y:TF (fam 0 al):=fH;have N:∀x∈kL [(r,V.one (.vp r 0)),(v,V.one (.vp 700 0))],x=r∨x=700:=fun x hx=>by simpa [kL,V.refs,R.refs] using hx
 have I:Go.AM.distinct (List.map (fun p:Nat×AObj=>p.1) (oHl ks bs al++[(700,.var 34 (dV f n nm t ks.length bs.length al.length)),(r,.var 34 bR)]))=true:=by
  refine fP ?_;simp[oHl];omega
 have W:((oHl ks bs al++[(700,AObj.var 34 (dV f n nm t ks.length bs.length al.length)),(r,.var 34 bR)]).all fun p=>Nat.blt p.1 800)=true:=by
  simp[oHl,aIf (show r<800 by omega)]
 have s1:Sub [] (mkt [(r,.one (.vp r 0)),(v,.one (.vp 700 0))] (oHl ks bs al++[(700,.var 34 (dV f n nm t ks.length bs.length al.length)),(r,.var 34 bR)]) (fam 0 al)) q:=by
  obtain⟨h0,h1,h2,h3,_⟩:=hh;refine slT Y hF (fun x hx=>.inl ?_) (fun x hx=>?_) (fun _ h=>by cases h) (he:=he) (hh:=⟨h1,h2,h3,h0,h6,trivial⟩) (hd:=hd) (h3:=I) (h3':=W)
  ·rcases N x hx with rfl | rfl<;>simp[oHl,keys]
  ·rw[iQ] at hx;rcases δ.1 hx with hx | hx
   ·exact .inr (cK x (by simpa [oHl,cO,AObj.refs] using hx))
   ·refine .inl ?_;have hx:x=702∨x=701∨x=703:=by simpa [cO,AObj.refs,dV,bR,R.refsL,R.refs] using hx
    rcases hx with rfl | rfl | rfl<;>simp[oHl,keys]
 have s2:=oZ (kf:=[]) (el:=[(r,.one (.vp r 0)),(v,.one (.vp 700 0))]) (ex:=[(700,.var 34 (dV f n nm t ks.length bs.length al.length)),(r,.var 34 bR)]) (ks:=ks) (bs:=bs) (al:=al) (by simp)
  (fun x hx=>by
    rcases N x hx with rfl | rfl
    ·exact .inr (.inl (by simp[keys]))
    ·exact .inr (.inl (by simp[keys])))
  ⟨fun x hx=>by
    have hx:x=702∨x=701∨x=703:=by simpa [AObj.refs,dV,R.refsL,R.refs] using hx
    rcases hx with rfl | rfl | rfl<;>exact .inl (by simp[oHl,keys]),fun x hx=>by simp[AObj.refs,bR,R.refsL,R.refs] at hx,trivial⟩
  (fun _ h=>by cases h) I (by simp[aIf (show r<800 by omega)]) (by simp;exact J) (fun p hp=>by
   rcases Ai.1 hp with rfl | hp
   ·rfl
   ·rw[ζ.1 hp];rfl)
 have e1:fzH 703 (.ra al.length 14 (aV 0 al).flatten) ([(701,.arr 69 15 (aU bs) 2),(702,.arr 34 10 (aR ks) 2)]++[(700,.var 34 (dV f n nm t ks.length bs.length al.length)),(r,.var 34 bR)])
   =[(701,.arr 69 15 (aU bs) 2),(702,.arr 34 10 (aR ks) 2),(700,.var 34 (jF f n nm t ks.length bs.length al)),(r,.var 34 bR)]:=by
  unfold dV jF;show [(701,_),(702,_),(700,AObj.var _ (R.fzL _ _ _)),(r,AObj.var _ (R.fzL _ _ _))]=_;simp only[R.fzL,R.fz,B6,B3,Bool.and_self];rfl
 have e2:fzE 703 (.ra al.length 14 (aV 0 al).flatten) [(r,.one (.vp r 0)),(v,.one (.vp 700 0))]=[(r,.one (.vp r 0)),(v,.one (.vp 700 0))]:=rfl;rw[e1,e2] at s2;have Z:TF (xM (fam 0 al)):=Y.frz;have aa:(([(701,AObj.arr 69 15 (aU bs) 2),(702,.arr 34 10 (aR ks) 2),(700,.var 34 (jF f n nm t ks.length bs.length al)),(r,.var 34 bR)]:List (Nat×AObj)).all fun p=>Nat.blt p.1 800)=true:=by simp[aIf (show r<800 by omega)]
 obtain⟨ids,hp⟩:=s8 (h:=(mkt [(r,.one (.vp r 0)),(v,.one (.vp 700 0))] [(701,.arr 69 15 (aU bs) 2),(702,.arr 34 10 (aR ks) 2),(700,.var 34 (jF f n nm t ks.length bs.length al)),(r,.var 34 bR)] (xM (fam 0 al))).h) (f:=f) (n:=n) (s:=nm) (t:=t) (ks:=ks) (bs:=bs) (al:=al) rfl rfl (FarEq.mkt Z aa);have s3:=Sub.varPure (kf:=[]) (st:=mkt [(r,.one (.vp r 0)),(v,.one (.vp 700 0))] [(701,.arr 69 15 (aU bs) 2),(702,.arr 34 10 (aR ks) 2),(700,.var 34 (jF f n nm t ks.length bs.length al)),(r,.var 34 bR)] (xM (fam 0 al))) (x:=700) (tv:=34) rfl hp;refine Sub.trans ?_ (Sub.trans s3 (Sub.trans s2 s1));have O:r≠700:=by omega
 refine Sub.list (fun i=>i) ?_ ?_ ?_
 ·have hrv:Nat.beq v r=false:=vP (Ne.symm J);refine⟨?_,?_,trivial⟩
  ·show Go.AM.look [(r,V.one (.vp r 0)),(v,V.one (.vp 700 0))] r=_;rw[bD];rfl
  ·show Go.AM.look [(r,V.one (.vp r 0)),(v,V.one (.vp 700 0))] v=_;rw[bN (Ne.symm J),bD];rfl
 ·refine⟨⟨.var 34 bR,?_,.var rfl⟩,⟨.var 34 (b8 (.mk f n nm t ks bs al)),?_,.var (aKb _).symm⟩,trivial⟩
  ·show upd _ 700 _ r=_;rw[aS _ _ _ O];show(match Go.AM.look [(701,AObj.arr 69 15 (aU bs) 2),(702,.arr 34 10 (aR ks) 2),(700,.var 34 (jF f n nm t ks.length bs.length al)),(r,.var 34 bR)] r with | some x=>some x | none=>_)=_;rw[bN (by omega),bN (by omega),bN (by omega),bD]
  ·dsimp only;rw[aI];rfl
 ·simp only[aU4,Ac];refine⟨⟨⟨⟨⟨eD fun x hx=>?_,eD fun x hx=>?_⟩,fP ?_⟩,rfl⟩,rfl⟩,rfl⟩
  ·rcases N x hx with rfl | rfl<;>simp
  ·have:x∈R.refsL bR++(R.refsL (b8 (.mk f n nm t ks bs al))++[]):=hx;simp[bR,b8,aC,R.refsL,R.refs] at this
  ·simp;exact O
theorem aNe (f n:Int) (nm name:Str) (t J:Ty) (ks:List Core) (bs:List Bind) (al:List Alt)
  (N:bE (.mk f n nm t ks bs al)≤570000000000) (Y:allT TyG (.mk f n nm t ks bs al)) (h7:f=7)
  (hs:nm=name∨(nm≠name∧∃tl:List Str,aQ Tryz.prog 76 [.pa (aC (.mk f n nm t ks bs al))] [] (bI tl) []∧¬name∈tl∧tl.length≤540000000000)):
  aQ Tryz.prog 32 [.pa (aC (.mk f n nm t ks bs al)),Go.AM.T name,tyV J] [] (.pa (aC (.mk f n nm t ks bs al))) []:=by
 have q:=aGv (bE (.mk f n nm t ks bs al)) _ (le_refl _) N Y;have q:aQ Tryz.prog 74 [.pa (aC (.mk f n nm t ks bs al))] [] (.pa (aC (.mk f n nm t ks bs al))) []:=q;have O:decide (f=7)=true:=Ah h7;refine bM (n:=84) tok Tryz.func32 rfl rfl rfl ?_;refine sg rfl (sk 1 rfl (kc q ?_));refine kz 2 rfl (a8 (sg rfl (aA rfl (fun _=>?_) (fun hb=>?_))))
 ·refine a8 (a8 ?_);rcases hs with h | ⟨h,tl,W,hn,hl⟩
  ·have hd:decide (nm=name)=true:=Ah h;exact ag [(4,.bv true),(10,.bv true)] rfl (aA rfl (fun _=>sg rfl (aF (rtC trw))) nofun)
  ·have hd:decide (nm=name)=false:=Am h;have I:=bS tl name (by omega);rw[Am hn] at I;refine aE mixed (ak 6 [(4,.bv false)] rfl (kcG W ?_));refine ak 1 [(4,.bv false)] rfl (kcG I ?_);exact ak 2 [(4,.bv false),(10,.bv false)] rfl (az (aA rfl (fun _=>sg rfl (aF (rtC trw))) nofun))
 ·exact absurd (show decide (f=7)=false from hb) (by rw[O];decide)
def gHm (f n:Int) (s:Str) (t:Ty) (nk nb na:Nat) (ks:List Core) (bs:List Bind) (al:List Alt):List (Nat×AObj):=
 [(700,.var 34 (dV f n s t nk nb na)),(701,.arr 69 15 (aU bs) 0),(702,.arr 34 10 (aR ks) 0),(703,.rarr 71 14 (aV 0 al))]
theorem gWm {f n:Int}{s:Str}{t:Ty}{nk nb q:Nat}{ks:List Core}{bs:List Bind}{al A:List Alt}(h:fam 0 A=fam 0 al):GW (gHm f n s t nk nb q ks bs A) (fam 0 al):=by
 rw[←h];refine⟨fH,fun x hx=>?_,rfl,rfl⟩;simp only[gHm,cO,AObj.refs,dV,R.refsL,R.refs,Bd,A8,δ,Ai,not_mem_nil,or_false] at hx;rcases hx with(rfl | rfl | rfl) | hx
 ·exact .inl (by simp[gHm,keys])
 ·exact .inl (by simp[gHm,keys])
 ·exact .inl (by simp[gHm,keys])
 ·exact .inr (cK x hx)
def gK (sb:Core→Core) (ks:List Core):Nat→List Core
 | 0=>ks
 | _+1=>ks.map sb
def gB (sb:Core→Core) (bs:List Bind):Nat→List Bind
 | 0=>bs
 | _+1=>bs.map (sbB sb)
def gA (sb:Core→Core) (al:List Alt):Nat→List Alt
 | 0=>al
 | i+1=>l8 (sbA sb) al i
theorem aMl {sb:Core→Core}{al:List Alt}:∀g,fam 0 (gA sb al g)=fam 0 al
 | 0=>rfl
 | i+1=>aGi sb al 0 i
theorem kbE (l:List Bind):l.length=(aU l).length:=by rw[bX,θ]
theorem kcE (l:List Core):l.length=(aR l).length:=by rw[bA,θ]
theorem aAu (f n:Int) (nm nm1 name:Str) (t q:Ty) (ks ks1:List Core) (bs:List Bind) (al:List Alt) (ts:Ty→Ty) (sb:Core→Core)
  (hcs:bE (.mk f n nm t ks bs al)≤570000000000) (hT:allT TyG (.mk f n nm t ks bs al)) (hkl:ks1.length=ks.length)
  (h7:f=7→nm≠name∧bs=[]∧al=[]∧∃tl fr:List Str,aQ Tryz.prog 76 [.pa (aC (.mk f n nm t ks bs al))] [] (bI tl) []∧name∈tl∧tl.length≤540000000000∧aQ Tryz.prog 78 [tyV q] [] (bI fr) []∧
   aQ Tryz.prog 77 [.one (.vp 700 0),bI fr] (gHl f n nm t ks [] []) (.tup []) (gHl f n nm1 t ks1 [] []))
  (hn7:f≠7→nm1=nm∧ks1=ks)
  (hts:∀u,(u=t∨∃b∈bs,u=b.ty)→aQ Tryz.prog 28 [tyV u,bI [name],.one (.c (.sl 4 [aO q]))] [] (tyV (ts u)) [])
  (ad:∀x,(x∈ks1∨(∃b∈bs,x=b.body)∨∃a∈al,x=a.body)→aQ Tryz.prog 32 [.pa (aC x),Go.AM.T name,tyV q] [] (.pa (aC (sb x))) []):
  aQ Tryz.prog 32 [.pa (aC (.mk f n nm t ks bs al)),Go.AM.T name,tyV q] [] (.pa (aC (fQ ts sb (.mk f n nm1 t ks1 bs al)))) []:=by
 have aa:=a0i (.mk f n nm t ks bs al) hcs hT;have aa:aQ Tryz.prog 74 [.pa (aC (.mk f n nm t ks bs al))] [] (.ma (dV f n nm t ks.length bs.length al.length)) (oHl ks bs al++fam 0 al):=aa;have N:TF (fam 0 al):=fH;refine bM (n:=84) tok Tryz.func32 rfl rfl rfl ?_;refine sg rfl (sk 1 rfl (kc aa ?_ (hout':=dM.app ⟨.inr rfl,.inr rfl,.inr rfl,trivial⟩ (dM.of fun p hp=>.inr ((show gS _ by repeat (first | exact gS.nil | (refine gS.updL ?_) | (refine gS.upd ?_))) p.1 (N.far p hp))))));rw[rE N];refine ak 2 [(2,.id 700)] rfl (az (AWp.sub (st2:=mkt [(3,.one (.vp 3 0)),(4,.one (.vp 4 0)),(5,.one (.vp 5 0)),(6,.one (.vp 6 0)),(7,.one (.vp 700 0))] ([(3,.var 34 (b8 (.mk f n nm t ks bs al))),(4,.var 9 [.c (.str name)]),(5,.var 30 ((aO q).map R.c)),(6,.var 34 bR)]++gHl f n nm t ks bs al) (fam 0 al)) (slG gW (fun _ h=>by cases h) (by repeat (first | exact FarEq.bif N (FarEq.outs N) | (refine FarEq.updL N ?_) | (refine FarEq.upd N ?_)))) ?_));refine a8 (AWp.cut (mkt [(4,.one (.vp 4 0)),(5,.one (.vp 5 0)),(6,.one (.vp 6 0)),(7,.one (.vp 700 0))] ([(4,.var 9 [.c (.str name)]),(5,.var 30 ((aO q).map R.c)),(6,.var 34 bR)]++gHl f n nm1 t ks1 bs al) (fam 0 al)) ?_ ?_)
 ·refine sg rfl (aA rfl (fun hb=>?_) (fun hb=>?_))
  ·have hf:f=7:=ψ (show decide (f=7)=true from hb);obtain⟨hne,rfl,rfl,tl,fr,hty,hin,hl,hfr,hcl⟩:=h7 hf;have hd:decide (nm=name)=false:=Am hne;have hct:=bS tl name (by omega);rw[Ah hin] at hct;refine a8 (skh 6 [(4,.bv false)] rfl (kcG hty ?_));refine ak 1 [(4,.bv false)] rfl (kcG hct ?_);refine ak 2 [(4,.bv false),(10,.bv false)] rfl (az (aA rfl nofun (fun _=>aD (aE mixed (ak 1 [] rfl (kc hfr ?_))))));refine kc hcl ?_;exact az (slG gW (fun _ h=>by cases h) (fun p hp=>by cases hp))
  ·have hf:f≠7:=χ (show decide (f=7)=false from hb);obtain⟨rfl,rfl⟩:=hn7 hf;exact aD (slG gW (fun _ h=>by cases h) (by repeat (first | exact FarEq.raw N | (refine FarEq.updL N ?_) | (refine FarEq.upd N ?_))))
 have hbK:∀j,(l8 (fun b:Bind=>tsB ts b) bs j).length=bs.length:=fun j=>mE
 have h1:∀u,(u=t∨∃b∈bs,u=b.ty)→aQ Tryz.prog 79 ([tyV u]++[R.vp 4 0,R.vp 5 0].map V.one) [(4,.var 9 [.c (.str name)]),(5,.var 30 ((aO q).map R.c))] (tyV (ts u)) [(4,.var 9 [.c (.str name)]),(5,.var 30 ((aO q).map R.c))]:=fun u hu=>a2v name q u (ts u) (hts u hu)
 have ht:=h1 t (.inl rfl);have hbE:=kbE bs;obtain⟨ihk,ihb,iha,hkl',hbl,hal⟩:= @fN f n nm t ks bs al;have hbl':bs.length≤570000000000:=by omega
 refine sg rfl (sk 3 rfl (kv (args:=[tyV t]) ht ?_));refine kz 2 rfl (a8 (sg rfl (aB ?_)));have hm0:l8 (fun b:Bind=>tsB ts b) bs 0=bs:=l7;refine aK (fun i:Nat=>mkt [(4,.one (.vp 4 0)),(5,.one (.vp 5 0)),(6,.one (.vp 6 0)),(7,.one (.vp 700 0)),(8,.one (.clo 79 [.vp 4 0,.vp 5 0])),(42,I .i64 ((bs.length:Nat):Int)),(43,I .i64 i)] ([(4,.var 9 [.c (.str name)]),(5,.var 30 ((aO q).map R.c)),(6,.var 34 bR)]++gHl f n nm1 (ts t) ks1 (l8 (fun b:Bind=>tsB ts b) bs i) al) (fam 0 al)) (fun i=>i≤bs.length) (fun i=>bs.length-i) 0 (Aj _) ?_ ?_
 ·rw[hm0];exact slG gW (fun _ h=>by cases h) (by repeat (first | exact FarEq.raw N | (refine FarEq.updL N ?_) | (refine FarEq.upd N ?_)))
 intro i hi;have hBl:=mE (g:=fun b:Bind=>tsB ts b) (bs:=bs) (j:=i);have hBe:=kbE (l8 (fun b:Bind=>tsB ts b) bs i);refine sg rfl (a8 (aA rfl (fun hb=>?_) (fun hb=>?_)))
 ·have ae:i<bs.length:=by
   have:(i:Int)<(bs.length:Int):=ψ hb;omega
  obtain⟨b,W⟩:=aJ ae;have hat:=dC (xA (g:=fun b:Bind=>tsB ts b) W);have Z:=nY (g:=fun b:Bind=>tsB ts b) W;have hl2:=mE (g:=fun b:Bind=>tsB ts b) (bs:=bs) (j:=i+1);have hbt:=h1 b.ty (.inr ⟨b,Ab W,rfl⟩);rw[Z] at hl2;generalize l8 (fun b:Bind=>tsB ts b) bs i=B at *;have hltB:i<B.length:=by omega
  refine aD (a8 (aB (sg rfl (aE mixed (ak 10 [(9,.row i (bJ b))] rfl (kv (args:=[tyV b.ty]) hbt ?_))))));refine ak 3 [(13,.row i (bJ b))] rfl (az (ag [] rfl ⟨i+1,ae,by dsimp only;omega,?_⟩));dsimp only;rw[Z];refine slG gW (fun _ h=>by cases h) (hh:=⟨⟨_,rfl,.var rfl⟩,⟨_,rfl,.var rfl⟩,⟨_,rfl,.var rfl⟩,⟨_,rfl,.varS ?_⟩,⟨_,rfl,.arrS ?_⟩,⟨_,rfl,.arr⟩,⟨_,rfl,.rarrS rfl⟩,trivial⟩)
  ·rw[Cn]
  ·exact jD B i (tsB ts b)
 refine aL ?_;have ah:bs.length≤i:=by
  have:¬(i:Int)<(bs.length:Int):=χ hb;omega
 rw[x9 ah] at hBl hBe ⊢;have hsbB:∀x∈bs.map (fun b:Bind=>tsB ts b),aQ Tryz.prog 32 [.pa (aC x.body),Go.AM.T name,tyV q] [] (.pa (aC (sb x.body))) []:=fun x hx=>by
  obtain⟨b,hb,rfl⟩:=Af.1 hx;exact ad b.body (.inr (.inl ⟨b,hb,rfl⟩))
 have eR:aC (fQ ts sb (.mk f n nm1 t ks1 bs al))=aC (.mk f n nm1 (ts t) (ks1.map sb) ((bs.map fun b:Bind=>tsB ts b).map (sbB sb)) (al.map (sbA sb))):=by
  rw[Bj];rfl
 rw[eR];have hB1l:(bs.map fun b:Bind=>tsB ts b).length≤570000000000:=by rw[θ];exact hbl'
 clear hBl ah hb hbK hm0 ht h1 aa eR hbE;generalize (bs.map fun b:Bind=>tsB ts b)=B1 at *;generalize ts t=t1 at *;have hk1l:ks1.length≤570000000000:=by omega
 have hal':al.length≤570000000000:=by omega
 have hgr:=sX (decide (f=5)) f n nm1 t1 ks1 B1 al rfl (by omega) (by omega) (by omega) (fun a ha=>by
  have hav:=mJ ha;have hvl:=aIy a
  rw[bE] at hcs;omega)
 have ab:=n9 (f:=f) (n:=n) (s:=nm1) (t:=t1) (ks:=ks1) (bs:=B1) (al:=al) (decide (f=5)) al.length;rw[As] at ab;have hgl:(bV (decide (f=5)) ks1.length B1.length al.length al).length=1+al.length:=aVk;have hra:gfo f n nm1 t1 ks1 B1 al (R.refsL (bV (decide (f=5)) ks1.length B1.length al.length al).flatten):=by rw[dB];exact ab
 have ai:(bV (decide (f=5)) ks1.length B1.length al.length al)[0]?=some (pH (decide (f=5)) ks1.length B1.length):=aVm;have hgA:∀i a,al[i]?=some a→(bV (decide (f=5)) ks1.length B1.length al.length al)[i+1]?=some (lU al.length i a):=fun i a h=>aVl h
 have aj:∀k r,(bV (decide (f=5)) ks1.length B1.length al.length al)[k]?=some r→((bV (decide (f=5)) ks1.length B1.length al.length al).flatten.drop (k*2)).take 2=r:=eC aC4;generalize bV (decide (f=5)) ks1.length B1.length al.length al=G at hgr hgl hra ai hgA aj;generalize decide (f=5)=b5 at ai;refine a8 (a8 (aE mixed (kc hgr ?_ (hin':=dM.app ⟨rfl,rfl,rfl,rfl,trivial⟩ (FarEq.raw N).all) (hout':=dM.of fun p hp=>.inl (Af.2 ⟨p,hp,rfl⟩)) (hok:=nE N (fun x hx=>.inl (bB (show subset _ _=true from rfl) x hx)) rD))));refine kz 2 rfl (AWp.sub (Sub.outsT N) ?_);refine aB ?_;have O:∀K B A ex,∀x∈R.refsL G.flatten,Kn ex (gHm f n nm1 t1 ks1.length B1.length al.length K B A) (fam 0 al) x:=fun K B A ex=>Kn.gf hra
 refine aK (fun g:Nat=>mkt [(4,.one (.vp 4 0)),(5,.one (.vp 5 0)),(6,.one (.vp 6 0)),(7,.one (.vp 700 0)),(60,.one (.ras G.length 2 G.flatten)),(61,I .i64 ((G.length:Nat):Int)),(62,I .i64 g)] ([(4,.var 9 [.c (.str name)]),(5,.var 30 ((aO q).map R.c)),(6,.var 34 bR)]++gHm f n nm1 t1 ks1.length B1.length al.length (gK sb ks1 g) (gB sb B1 g) (gA sb al g)) (fam 0 al)) (fun g=>g≤G.length) (fun g=>G.length-g) 0 (Aj _) (slG (gWm rfl) (fun _ h=>by cases h) (FarEq.bif N (FarEq.outs N)) (h1:=Kn.app (Kn.of rfl) (Kn.app (Kn.of rfl) (Kn.app (Kn.of rfl) (Kn.app (Kn.of rfl) (Kn.app (O _ _ _ _) Kn.nil)))))) ?_;intro g hg;refine sg rfl (a8 (aA rfl (fun hb=>?_) (fun hb=>?_)))
 ·have ae:g<G.length:=by
   have:(g:Int)<(G.length:Int):=ψ hb;omega
  refine aD ?_;cases g with
  | zero=>
   have ht0:=aj 0 _ ai;have hpl:(pR ks1.length B1.length B1.length).length=ks1.length+B1.length:=aK6;have hpr0:gfo f n nm1 t1 ks1 B1 al (R.refsL (pR ks1.length B1.length B1.length).flatten):=by rw[dB];exact aO1 _ _ _
   have am:∀K B A ex,∀x∈R.refsL (pR ks1.length B1.length B1.length).flatten,Kn ex (gHm f n nm1 t1 ks1.length B1.length al.length K B A) (fam 0 al) x:=fun K B A ex=>Kn.gf hpr0
   have hpt:∀k r,(pR ks1.length B1.length B1.length)[k]?=some r→((pR ks1.length B1.length B1.length).flatten.drop (k*1)).take 1=r:=eC uW;have hp1:∀j,j<ks1.length→(pR ks1.length B1.length B1.length)[j]?=some [.ep 702 j 0 ks1.length]:=fun j h=>aK8 h
   have hp2:∀j,j<B1.length→(pR ks1.length B1.length B1.length)[ks1.length+j]?=some [.ep 701 j 5 B1.length]:=fun j h=>aK7 h
   refine a8 (aB (sgh [(0,.rowR 0 (pH b5 ks1.length B1.length))] rfl (sg rfl (aB ?_))));have e0K:l8 sb ks1 0=ks1:=l7;have e0B:l8 (sbB sb) B1 (0-ks1.length)=B1:=by rw[Nat.zero_sub];exact l7
   refine aK (fun j:Nat=>mkt [(4,.one (.vp 4 0)),(5,.one (.vp 5 0)),(6,.one (.vp 6 0)),(7,.one (.vp 700 0)),(60,.one (.ras G.length 2 G.flatten)),(61,I .i64 ((G.length:Nat):Int)),(62,I .i64 (0:Nat)),(67,.one (.ras (pR ks1.length B1.length B1.length).length 1 (pR ks1.length B1.length B1.length).flatten)),(68,I .i64 (((pR ks1.length B1.length B1.length).length:Nat):Int)),(69,I .i64 j)] ([(4,.var 9 [.c (.str name)]),(5,.var 30 ((aO q).map R.c)),(6,.var 34 bR)]++gHm f n nm1 t1 ks1.length B1.length al.length (l8 sb ks1 j) (l8 (sbB sb) B1 (j-ks1.length)) al) (fam 0 al)) (fun j=>j≤(pR ks1.length B1.length B1.length).length) (fun j=>(pR ks1.length B1.length B1.length).length-j) 0 (Aj _) ?_ ?_
   ·rw[e0K,e0B];exact slG (gWm rfl) (fun _ h=>by cases h) (h1:=Kn.app (Kn.of rfl) (Kn.app (Kn.of rfl) (Kn.app (Kn.of rfl) (Kn.app (Kn.of rfl) (Kn.app (O _ _ _ _) (Kn.app Kn.nil (Kn.app Kn.nil (Kn.app (am _ _ _ _) Kn.nil))))))))
   intro j hj;refine sg rfl (a8 (aA rfl (fun hb=>?_) (fun hb=>?_)))
   ·have ap:j<(pR ks1.length B1.length B1.length).length:=by
     have:(j:Int)<((pR ks1.length B1.length B1.length).length:Int):=ψ hb;omega
    refine aD ?_;by_cases hjk:j<ks1.length
    ·obtain⟨k,aq⟩:=aJ hjk;have hki':=j0 (xA (g:=sb) aq);have Z:=nY (g:=sb) aq;have hc:=ad k (.inl (Ab aq));have ht1:=hpt j _ (hp1 j hjk);have hle:=(mE (g:=sb) (bs:=ks1) (j:=j)).symm.trans (kcE (l8 sb ks1 j));have ar:j+1-ks1.length=j-ks1.length:=by omega
     have Y:=qH (l8 sb ks1 j) j (sb k);refine a8 (aB (sgh [(0,.rowR j [.ep 702 j 0 ks1.length])] rfl (aE mixed (ak 6 [(3,.row j (aC k))] rfl (kc hc ?_)))));refine ak 2 [(8,.row j (aC k))] rfl (az (ag [] rfl ⟨j+1,ap,by dsimp only;omega,?_⟩));dsimp only;rw[ar,Z];exact slG (gWm rfl) (fun _ h=>by cases h) (h1:=Kn.app (Kn.of rfl) (Kn.app (Kn.of rfl) (Kn.app (Kn.of rfl) (Kn.app (Kn.of rfl) (Kn.app (O _ _ _ _) (Kn.app Kn.nil (Kn.app Kn.nil (Kn.app (am _ _ _ _) Kn.nil)))))))) (hh:=⟨⟨_,rfl,.var rfl⟩,⟨_,rfl,.var rfl⟩,⟨_,rfl,.var rfl⟩,⟨_,rfl,.var rfl⟩,⟨_,rfl,.arr⟩,⟨_,rfl,.arrS Y⟩,⟨_,rfl,.rarrS rfl⟩,trivial⟩)
    ·obtain⟨J,rfl⟩:∃J,j=ks1.length+J:=⟨j-ks1.length,by omega⟩
     have hjb:J<B1.length:=by omega
     obtain⟨x,W⟩:=aJ hjb;have eK:∀J,l8 sb ks1 (ks1.length+J)=ks1.map sb:=fun J=>x9 (by omega)
     have e1:ks1.length+J-ks1.length=J:=by omega
     have e2:ks1.length+J+1-ks1.length=J+1:=by omega
     have hbi':=dC (xA (g:=sbB sb) W);have Z:=nY (g:=sbB sb) W;have hc:=hsbB x (Ab W);have ht1:=hpt (ks1.length+J) _ (hp2 J hjb);have hle:=(mE (g:=sbB sb) (bs:=B1) (j:=J)).symm.trans (kbE (l8 (sbB sb) B1 J));have Y:=jD (l8 (sbB sb) B1 J) J (sbB sb x);rw[e1];refine a8 (aB (sgh [(0,.rowR (ks1.length+J) [.ep 701 J 5 B1.length])] rfl (aE mixed (ak 6 [(3,.row J (bJ x))] rfl (kc hc ?_)))));refine ak 2 [(8,.row J (bJ x))] rfl (az (ag [] rfl ⟨ks1.length+J+1,ap,by dsimp only;omega,?_⟩));dsimp only;rw[e2,Z,eK,Co,eK];refine slG (gWm rfl) (fun _ h=>by cases h) (h1:=Kn.app (Kn.of rfl) (Kn.app (Kn.of rfl) (Kn.app (Kn.of rfl) (Kn.app (Kn.of rfl) (Kn.app (O _ _ _ _) (Kn.app Kn.nil (Kn.app Kn.nil (Kn.app (am _ _ _ _) Kn.nil)))))))) (hh:=⟨⟨_,rfl,.var rfl⟩,⟨_,rfl,.var rfl⟩,⟨_,rfl,.var rfl⟩,⟨_,rfl,.var rfl⟩,⟨_,rfl,.arrS Y⟩,⟨_,rfl,.arr⟩,⟨_,rfl,.rarrS rfl⟩,trivial⟩)
   refine aL ?_;have ah:j=ks1.length+B1.length:=by
    have:¬(j:Int)<((pR ks1.length B1.length B1.length).length:Int):=χ hb;omega
   have eK:l8 sb ks1 j=ks1.map sb:=x9 (by omega);have eB:l8 (sbB sb) B1 (j-ks1.length)=B1.map (sbB sb):=x9 (by omega);have eA:gA sb al 1=al:=l7;rw[eK,eB];refine ag [] rfl ⟨1,by omega,by dsimp only;omega,?_⟩;dsimp only;rw[eA];exact slG (gWm rfl) (fun _ h=>by cases h) (h1:=Kn.app (Kn.of rfl) (Kn.app (Kn.of rfl) (Kn.app (Kn.of rfl) (Kn.app (Kn.of rfl) (Kn.app (O _ _ _ _) Kn.nil)))))
  | succ i=>
   have hia:i<al.length:=by omega
   obtain⟨a,ac⟩:=aJ hia;have ht0:=aj (i+1) _ (hgA i a ac);have hf1:fam 0 (gA sb al (i+1))=fam 0 al:=aMl (i+1);have hf2:fam 0 (gA sb al (i+1+1))=fam 0 al:=aMl (i+1+1);have hrow:(aV 0 (gA sb al (i+1)))[i]?=some (dL i a):=by
    have:=mK (k:=0) (xA (g:=sbA sb) ac);rwa [A6] at this
   have hle:al.length=(aV 0 (gA sb al (i+1))).length:=by rw[dT];exact(mE (g:=sbA sb)).symm
   have hc:=ad a.body (.inr (.inr ⟨a,Ab ac,rfl⟩));have Y:aV 0 (gA sb al (i+1+1))=(aV 0 (gA sb al (i+1))).set i (dL i (sbA sb a)):=by
    show aV 0 (l8 (sbA sb) al (i+1))=_;rw[nY ac,tD,A6];rfl
   have z1:gK sb ks1 (i+1+1)=gK sb ks1 (i+1):=rfl;have z2:gB sb B1 (i+1+1)=gB sb B1 (i+1):=rfl;refine a8 (aB (sgh [(0,.rowR (i+1) (lU al.length i a))] rfl (sg rfl (aB (aK (fun j:Nat=>mkt [(4,.one (.vp 4 0)),(5,.one (.vp 5 0)),(6,.one (.vp 6 0)),(7,.one (.vp 700 0)),(60,.one (.ras G.length 2 G.flatten)),(61,I .i64 ((G.length:Nat):Int)),(62,I .i64 ((i+1:Nat):Int)),(67,.one (.ras 1 1 [.rp 703 i 4 al.length])),(68,I .i64 ((1:Nat):Int)),(69,I .i64 j)] ([(4,.var 9 [.c (.str name)]),(5,.var 30 ((aO q).map R.c)),(6,.var 34 bR)]++gHm f n nm1 t1 ks1.length B1.length al.length (gK sb ks1 (i+1)) (gB sb B1 (i+1)) (gA sb al (i+1+j))) (fam 0 al)) (fun j=>j≤1) (fun j=>1-j) 0 (Aj _) (slG (gWm hf1) (fun _ h=>by cases h) (h1:=Kn.app (Kn.of rfl) (Kn.app (Kn.of rfl) (Kn.app (Kn.of rfl) (Kn.app (Kn.of rfl) (Kn.app (O _ _ _ _) (Kn.of rfl))))))) ?_)))));intro j hj;refine sg rfl (a8 (aA rfl (fun hb=>?_) (fun hb=>?_)))
   ·have ar:j=0:=by
     have:(j:Int)<((1:Nat):Int):=ψ hb;omega
    subst ar;refine aD (a8 (aB (sg rfl (aE mixed (ak 6 [(3,.rr (dL i a))] rfl (kc hc ?_))))));refine ak 2 [(8,.rr (dL i a))] rfl (az (ag [] rfl ⟨1,le_refl _,by dsimp only;omega,?_⟩));exact slG (gWm hf2) (fun _ h=>by cases h) (h1:=Kn.app (Kn.of rfl) (Kn.app (Kn.of rfl) (Kn.app (Kn.of rfl) (Kn.app (Kn.of rfl) (Kn.app (O _ _ _ _) (Kn.of rfl)))))) (hh:=⟨⟨_,rfl,.var rfl⟩,⟨_,rfl,.var rfl⟩,⟨_,rfl,.var rfl⟩,⟨_,rfl,.var rfl⟩,⟨_,rfl,.arr⟩,⟨_,rfl,.arr⟩,⟨_,rfl,.rarrS Y.symm⟩,trivial⟩)
   refine aL ?_;have hj1:j=1:=by
    have:¬(j:Int)<((1:Nat):Int):=χ hb;omega
   subst hj1;refine ag [] rfl ⟨i+1+1,by omega,by dsimp only;omega,?_⟩;exact slG (gWm hf2) (fun _ h=>by cases h) (h1:=Kn.app (Kn.of rfl) (Kn.app (Kn.of rfl) (Kn.app (Kn.of rfl) (Kn.app (Kn.of rfl) (Kn.app (O _ _ _ _) Kn.nil)))))
 have hgs:g=al.length+1:=by
  have:¬(g:Int)<(G.length:Int):=χ hb;omega
 subst hgs;refine aL ?_;have eA:gA sb al (al.length+1)=al.map (sbA sb):=aQj;have eF:fam 0 (al.map (sbA sb))=fam 0 al:=by rw[←eA];exact aMl _
 have lA:(al.map (sbA sb)).length=al.length:=θ _;have lB:(B1.map (sbB sb)).length=B1.length:=θ _;have lK:(ks1.map sb).length=ks1.length:=θ _;rw[eA];have z1:gK sb ks1 (al.length+1)=ks1.map sb:=rfl;have z2:gB sb B1 (al.length+1)=B1.map (sbB sb):=rfl;rw[z1,z2];generalize al.map (sbA sb)=A2 at *;generalize B1.map (sbB sb)=B2 at *;generalize ks1.map sb=K2 at *;refine AWp.sub (aPl (f:=f) (n:=n) (nm:=nm1) (t:=t1) (ks:=K2) (bs:=B2) (al:=A2) (r:=6) (v:=7) rfl rfl (by rw[eF];repeat (first | exact FarEq.raw N | (refine FarEq.updL N ?_) | (refine FarEq.upd N ?_))) ⟨rfl,rfl,trivial⟩ ⟨⟨_,rfl,.varS (by rw[lK,lB,lA])⟩,⟨_,rfl,.arr⟩,⟨_,rfl,.arr⟩,⟨_,rfl,.rarrS rfl⟩,trivial⟩ ⟨_,rfl,.var rfl⟩ rfl (by decide)) ?_;exact sg rfl (aF (rtC trw))
mutual
def skT:Core→Core
 | .mk f n s _ ks bs al=>.mk f n (if f=7 then [] else s) zTy (aW3 ks) (aPo bs) (aW4 al)
def aW3:List Core→List Core
 | []=>[]
 | c::l=>skT c::aW3 l
def aPo:List Bind→List Bind
 | []=>[]
 | .mk s _ c::l=>.mk s zTy (skT c)::aPo l
def aW4:List Alt→List Alt
 | []=>[]
 | .mk f n s vs c::l=>.mk f n s vs (skT c)::aW4 l
end
def skB (b:Bind):Bind:=.mk b.name zTy (skT b.body)
def skA (a:Alt):Alt:=.mk a.form a.n a.name a.vars (skT a.body)
theorem wL:∀l:List Core,aW3 l=l.map skT
 | []=>rfl
 | c::l=>by rw[aW3,wL l];rfl
theorem wM:∀l:List Bind,aPo l=l.map skB
 | []=>rfl
 | .mk s t c::l=>by rw[aPo,wM l];rfl
theorem wN:∀l:List Alt,aW4 l=l.map skA
 | []=>rfl
 | .mk f n s vs c::l=>by rw[aW4,wN l];rfl
mutual
def wfC:Core→Bool
 | .mk f _ _ _ ks bs al=>(!decide (f=5∨f=6∨f=7) || (ks.length==1&&bs.isEmpty&&al.isEmpty))&&(!decide (f=1) || (ks.isEmpty&&bs.isEmpty&&al.isEmpty))&&aXd ks&&aXe bs&&aXf al
def aXd:List Core→Bool
 | []=>true
 | c::l=>wfC c&&aXd l
def aXe:List Bind→Bool
 | []=>true
 | .mk _ _ c::l=>wfC c&&aXe l
def aXf:List Alt→Bool
 | []=>true
 | .mk _ _ _ _ c::l=>wfC c&&aXf l
end
theorem aD3:∀{l:List Core},aXd l=true↔∀x∈l,wfC x=true
 | []=>by simp[aXd]
 | c::l=>by rw[aXd,Ac,aD3 (l:=l)];simp
theorem aD4:∀{l:List Bind},aXe l=true↔∀x∈l,wfC x.body=true
 | []=>by simp[aXe]
 | .mk s t c::l=>by rw[aXe,Ac,aD4 (l:=l)];simp[Bind.body]
theorem aD5:∀{l:List Alt},aXf l=true↔∀x∈l,wfC x.body=true
 | []=>by simp[aXf]
 | .mk f n s vs c::l=>by rw[aXf,Ac,aD5 (l:=l)];simp[Alt.body]
theorem aR7 {f n:Int}{nm:Str}{t:Ty}{ks:List Core}{bs:List Bind}{al:List Alt}(h1:f=5∨f=6∨f=7→(∃k,ks=[k])∧bs=[]∧al=[]) (h0:f=1→ks=[]∧bs=[]∧al=[])
  (h3:∀x∈ks,wfC x=true) (h4:∀x∈bs,wfC x.body=true) (h5:∀x∈al,wfC x.body=true):wfC (.mk f n nm t ks bs al)=true:=by
 rw[wfC,Ac,Ac,Ac,Ac];refine⟨⟨⟨⟨?_,?_⟩,aD3.2 h3⟩,aD4.2 h4⟩,aD5.2 h5⟩
 ·by_cases hf:f=5∨f=6∨f=7
  ·obtain⟨⟨k,rfl⟩,rfl,rfl⟩:=h1 hf;simp
  ·rw[Am hf];rfl
 ·by_cases hf:f=1
  ·obtain⟨rfl,rfl,rfl⟩:=h0 hf;simp
  ·rw[Am hf];rfl
theorem uI:∀l:List Bind,(aPo l).map Bind.name=l.map Bind.name
 | []=>rfl
 | .mk s t c::l=>by rw[aPo,Al,Al,uI l];rfl
theorem a2i (f:Int) (s:Str) (bs:List Bind):gvN f (if f=7 then [] else s) (aPo bs)=gvN f s bs:=by
 unfold gvN;rw[uI];by_cases h5:f=5
 ·rw[φ (show ¬f=7 by omega)]
 ·rw[φ h5,φ h5]
mutual
theorem aKy:∀c:Core,pfR (skT c)=pfR c
 | .mk f n s t ks bs al=>by
  rw[skT,pfR,pfR,a2i,aSp _ ks,aSq _ bs,aSr al];by_cases h1:f=1
  ·rw[ξ h1,ξ h1,φ (show ¬f=7 by omega)]
  ·rw[φ h1,φ h1]
theorem aSp (G:List Str):∀(l:List Core) (o:List Str),r7 G (aW3 l) o=r7 G l o
 | [],_=>rfl
 | c::l,o=>by rw[aW3,r7,r7,aKy c,aSp G l]
theorem aSq (G:List Str):∀(l:List Bind) (o:List Str),tL G (aPo l) o=tL G l o
 | [],_=>rfl
 | .mk s t c::l,o=>by rw[aPo,tL,tL,aKy c,aSq G l]
theorem aSr:∀(l:List Alt) (o:List Str),tU (aW4 l) o=tU l o
 | [],_=>rfl
 | .mk f n s vs c::l,o=>by rw[aW4,tU,tU,aKy c,aSr l]
end
theorem aJx {ts:Ty→Ty}{sb:Core→Core}{f n:Int}{nm nm1:Str}{t:Ty}{ks ks1:List Core}{bs:List Bind}{al:List Alt}(hn:f≠7→nm1=nm) (hk:ks1.map skT=ks.map skT)
  (h1:∀x∈ks1,skT (sb x)=skT x) (h2:∀b∈bs,skT (sb b.body)=skT b.body) (h3:∀a∈al,skT (sb a.body)=skT a.body):
  skT (fQ ts sb (.mk f n nm1 t ks1 bs al))=skT (.mk f n nm t ks bs al):=by
 rw[fQ,skT,skT,wL,wL,wM,wM,wN,wN,Bj,Bj,Bj];have q:ks1.map (skT∘sb)=ks.map skT:=by rw[←hk];exact Bk h1
 have I:bs.map (skB∘fun b=>Bind.mk b.name (ts b.ty) (sb b.body))=bs.map skB:=Bk fun b hb=>by
  show Bind.mk b.name zTy (skT (sb b.body))=_;rw[h2 b hb];rfl
 have J:al.map (skA∘fun a=>Alt.mk a.form a.n a.name a.vars (sb a.body))=al.map skA:=Bk fun a ha=>by
  show Alt.mk a.form a.n a.name a.vars (skT (sb a.body))=_;rw[h3 a ha];rfl
 rw[q,I,J];by_cases h7:f=7
 ·rw[ξ h7,ξ h7]
 ·rw[φ h7,φ h7,hn h7]
theorem aF0 {g:Core→Core}:∀{l:List Core},(∀x∈l,m30 (g x)≤m30 x)→dI (l.map g)≤dI l
 | [],_=>le_refl _
 | c::l,h=>by
  rw[Al,dI,dI];have:=h c η;have:=aF0 (l:=l) fun x hx=>h x (ω _ hx)
  omega
theorem aF3 {ts:Ty→Ty}{g:Core→Core}:∀{l:List Bind},(∀x∈l,m30 (g x.body)≤m30 x.body)→gM (l.map fun b=>.mk b.name (ts b.ty) (g b.body))≤gM l
 | [],_=>le_refl _
 | .mk s t c::l,h=>by
  rw[Al,gM,gM];have h1:=h _ η;have h2:=aF3 (ts:=ts) (l:=l) fun x hx=>h x (ω _ hx)
  simp only[Bind.body,Bind.name] at h1 h2 ⊢;omega
theorem aF4 {g:Core→Core}:∀{l:List Alt},(∀x∈l,m30 (g x.body)≤m30 x.body)→j2 (l.map fun a=>.mk a.form a.n a.name a.vars (g a.body))≤j2 l
 | [],_=>le_refl _
 | .mk f n s vs c::l,h=>by
  rw[Al,j2,j2];have h1:=h _ η;have h2:=aF4 (l:=l) fun x hx=>h x (ω _ hx)
  simp only[Alt.body,Alt.name,Alt.vars] at h1 h2 ⊢;omega
theorem aL0 {ts:Ty→Ty}{sb:Core→Core}{f n:Int}{nm nm1:Str}{t:Ty}{ks ks1:List Core}{bs:List Bind}{al:List Alt}(hn:w30 nm1≤w30 nm) (hk:dI ks1≤dI ks)
  (h1:∀x∈ks1,m30 (sb x)≤m30 x) (h2:∀b∈bs,m30 (sb b.body)≤m30 b.body) (h3:∀a∈al,m30 (sb a.body)≤m30 a.body):
  m30 (fQ ts sb (.mk f n nm1 t ks1 bs al))≤m30 (.mk f n nm t ks bs al):=by
 rw[fQ,m30,m30];have:=aF0 h1;have:=aF3 (ts:=ts) h2;have:=aF4 h3;omega
end Go.Proofs.YtglfogjcijokpaaGreatDoor
