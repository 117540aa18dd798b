/-
  Texts Lg11 to Ld3 in one.
-/
import Derived.Test.YtockgoadliilhaaGreatDoorM9
open List (all_eq_true append_assoc append_nil cons_append drop_left filter_cons flatMap_cons flatMap_nil flatten_cons foldl_cons length_append length_cons length_drop length_map length_nil length_set length_take map_congr_left map_cons map_map map_nil mem_append mem_cons mem_cons_of_mem mem_cons_self mem_filter mem_map mem_singleton nil_append nodup_append nodup_nil set_cons_succ sum_cons take_add_one take_left take_length take_of_length_le)
open Nat (add_assoc add_zero beq_refl eq_of_beq_eq_true le_max_left le_max_right le_of_ble_eq_true le_refl le_trans min_eq_left mul_one sub_self zero_add zero_le)
namespace Go.Proofs.YtockgoadliilhaaGreatDoor
open Go Go.AM
set_option maxRecDepth 20000
abbrev lH (n:Int) (t:Ty) (x:Str) (k:Core):List (Nat×AObj):=gHl 5 n x t [k] [] []
def lN:List R:=[.vp 700 2]
def lP:List R:=[.ep 702 0 0 1]
abbrev lG (n:Int) (t:Ty) (x:Str) (k:Core):List (Nat×AObj):=(3,grO lN lP)::lH n t x k
theorem lHW {n:Int}{t:Ty}{x:Str}{k:Core}:GW (lH n t x k) []:=gW
theorem lGW {n:Int}{t:Ty}{x:Str}{k:Core}:GW (lG n t x k) []:=⟨lHW (n:=n) (t:=t) (x:=x) (k:=k).tf,fun y u=>by
 rcases τ.1 (show y∈(grO lN lP).refs++dU (lH n t x k) from u) with u | u
 ·have:y=700∨y=702:=by simpa [grO,lN,lP,AObj.refs,R.refsL,R.refs] using u
  rcases this with rfl | rfl
  ·exact .inl (by simp[lG,gHl,keys])
  ·exact .inl (by simp[lG,gHl,keys])
 ·exact(lHW.refs y u).imp (fun h=>ω _ h) id,rfl,rfl⟩
theorem aQv (n:Int) (t:Ty) (x:Str) (k:Core) (nm:Str) (b:Core) (sb:Core→Core)
  (hc:aU Tryz.prog 106 [.pa (aB k),Go.AM.T nm,.pa (aB b)] [] (.pa (aB (sb k))) []):
  aU Tryz.prog 144 [Go.AM.T nm,.pa (aB b),.one (.vp 3 0)] (lG n t x k++[]) (.tup []) (lG n t x (sb k)++[]):=by
 have u:TF []:=lHW (n:=n) (t:=t) (x:=x) (k:=k).tf;refine vV u (n:=23) tok Tryz.func144 rfl rfl rfl ?_;refine sg rfl (sg rfl (aC (aK (fun j:Nat=>mkt [(0,Go.AM.T nm),(2,.one (.vp 3 0)),(4,.one (.vp 4 0)),(8,.one (.ras 1 1 lP)),(9,I .i64 ((1:Nat):Int)),(10,I .i64 j)] ([(4,.var 37 (aW b))]++lG n t x (if j=0 then k else sb k)) []) (fun j=>j≤1) (fun j=>1-j) 0 (Ag _) ?_ ?_)))
 ·exact slG lGW
 intro j hj;refine sg rfl (a8 (aA rfl (fun hb=>?_) (fun hb=>?_)))
 ·have N:j=0:=by
   have:(j:Int)<((1:Nat):Int):=ψ hb;omega
  subst N;rw[ξ rfl];refine aD (a8 (aC (sg rfl (aI mixed (ak 6 [(3,.row 0 (aB k))] rfl (kc hc ?_))))));refine ak 2 [(8,.row 0 (aB k))] rfl (az (ag [] rfl ⟨1,le_refl _,by dsimp only;omega,?_⟩));dsimp only;rw[φ (by decide)];exact slG lGW (fun i hi=>GW.kf i hi)
 have O:j=1:=by
  have:¬(j:Int)<((1:Nat):Int):=χ hb;omega
 subst O;rw[φ (by decide)];refine aL ?_;exact⟨.inl rfl,aFb u (by repeat (first | exact FarEq.raw u | (refine FarEq.updL u ?_) | (refine FarEq.upd u ?_))) ⟨[],[],.nil,.nil,rfl⟩ (fun _ h=>by cases h) lGW.refs (fun i hi=>GW.kf i hi) (fun q J=>by rcases τ.1 J with J | J;exact(A4.1 (lGW (n:=n) (t:=t) (x:=x) (k:=k)).plain) q J;cases J)⟩
theorem a3u (n:Int) (t:Ty) (x:Str) (k:Core) (s:Str) (b:Core) (sb:Core→Str→Core→Core) (P:Core→Prop) (hok:PutOk sb P s b [k])
  (hM:(pfR k).length+2+(pfR b).length+1≤540000000000):
  ∃x' q,cE sb s b [x] [k]=([x'],[q])∧aU Tryz.prog 126 [gpV lN lP,Go.AM.T s,.pa (aB b)] (lH n t x k++[]) (.tup []) (lH n t x' q++[]):=by
 have O:TF []:=lHW (n:=n) (t:=t) (x:=x) (k:=k).tf;have ab:([k]:List Core).flatMap pfR=pfR k:=by simp
 have hf:=hok.free k (by simp);have hq0:((pfR k).map b6).length=(pfR k).length:=θ _;have hk0:k=k:=rfl;have ac:s∉pfR k∨s=x→cE sb s b [x] [k]=([x],[k]):=fun h=>by
  unfold cE;rw[φ];rintro⟨h1,h2⟩;rw[ab] at h1;rcases h with h | h
  ·exact h h1
  ·exact h2 (by simp[h])
 by_cases hin:s∈pfR k
 case neg=>
  refine⟨x,k,ac (.inl hin),?_⟩;refine vV O (n:=92) tok Tryz.func126 rfl rfl rfl ?_;refine sg rfl (sg rfl (AWp.sub (Sub.own (t:=6) (id:=720) 9 1 rfl rfl) (AWp.sub (Sub.freeze (id:=720) rfl) ?_)));refine a8 (sg rfl (aC (aK (fun j:Nat=>mkt [(1,Go.AM.T s),(3,.one (.vp 3 0)),(5,.one (.vp 5 0)),(6,tkV (if j=0 then [] else pfR k)),(17,.one (.ras 1 1 lP)),(18,I .i64 ((1:Nat):Int)),(19,I .i64 j)] ([(3,grO lN lP),(5,.var 37 (aW b)),(720,tkA (if j=0 then [] else pfR k))]++lH n t x k) []) (fun j=>j≤1) (fun j=>1-j) 0 (Ag _) (slG lHW) ?_)));intro j hj;refine sg rfl (a8 (aA rfl (fun hb=>?_) (fun hb=>?_)))
  ·have N:j=0:=by
    have:(j:Int)<((1:Nat):Int):=ψ hb;omega
   subst N;rw[ξ rfl];refine aD (a8 (aC (sg rfl (aI mixed (ak 4 [(3,.row 0 (aB k))] rfl (kc hf ?_))))));refine kz 2 rfl (AWp.sub (Sub.freeze (id:=720) rfl) ?_);refine ag [] rfl ⟨1,le_refl _,by dsimp only;omega,?_⟩;dsimp only;rw[φ (by decide)];exact slG lHW (he:=⟨rfl,rfl,rfl,Go.AM.hs_ren (by simp) (by simp),rfl,rfl,rfl,trivial⟩) (hh:=⟨⟨_,rfl,.varS rfl⟩,⟨_,rfl,.varS rfl⟩,⟨_,rfl,.arrS (by simp)⟩,⟨_,rfl,.varS rfl⟩,⟨_,rfl,.arr⟩,⟨_,rfl,.arr⟩,⟨_,rfl,.rarrS rfl⟩,trivial⟩)
  have u:j=1:=by
   have:¬(j:Int)<((1:Nat):Int):=χ hb;omega
  subst u;rw[φ (by decide)];refine aL ?_;have Y:=c9 (pfR k) s (by omega);rw[Ae hin] at Y;refine a8 (sk 2 rfl (kc Y ?_));refine kz 1 rfl (aA rfl (fun hb=>?_) nofun);exact aE ⟨.inr rfl,aFb O (by repeat (first | exact FarEq.raw O | (refine FarEq.updL O ?_) | (refine FarEq.upd O ?_))) ⟨[],[],.nil,.nil,rfl⟩ (fun _ h=>by cases h) lHW.refs (fun i hi=>GW.kf i hi) (fun q J=>by rcases τ.1 J with J | J;exact(A4.1 (lHW (n:=n) (t:=t) (x:=x) (k:=k)).plain) q J;cases J)⟩
 by_cases Z:s=x
 case pos=>
  refine⟨x,k,ac (.inr Z),?_⟩;refine vV O (n:=92) tok Tryz.func126 rfl rfl rfl ?_;refine sg rfl (sg rfl (AWp.sub (Sub.own (t:=6) (id:=720) 9 1 rfl rfl) (AWp.sub (Sub.freeze (id:=720) rfl) ?_)));refine a8 (sg rfl (aC (aK (fun j:Nat=>mkt [(1,Go.AM.T s),(3,.one (.vp 3 0)),(5,.one (.vp 5 0)),(6,tkV (if j=0 then [] else pfR k)),(17,.one (.ras 1 1 lP)),(18,I .i64 ((1:Nat):Int)),(19,I .i64 j)] ([(3,grO lN lP),(5,.var 37 (aW b)),(720,tkA (if j=0 then [] else pfR k))]++lH n t x k) []) (fun j=>j≤1) (fun j=>1-j) 0 (Ag _) (slG lHW) ?_)));intro j hj;refine sg rfl (a8 (aA rfl (fun hb=>?_) (fun hb=>?_)))
  ·have N:j=0:=by
    have:(j:Int)<((1:Nat):Int):=ψ hb;omega
   subst N;rw[ξ rfl];refine aD (a8 (aC (sg rfl (aI mixed (ak 4 [(3,.row 0 (aB k))] rfl (kc hf ?_))))));refine kz 2 rfl (AWp.sub (Sub.freeze (id:=720) rfl) ?_);refine ag [] rfl ⟨1,le_refl _,by dsimp only;omega,?_⟩;dsimp only;rw[φ (by decide)];exact slG lHW (he:=⟨rfl,rfl,rfl,Go.AM.hs_ren (by simp) (by simp),rfl,rfl,rfl,trivial⟩) (hh:=⟨⟨_,rfl,.varS rfl⟩,⟨_,rfl,.varS rfl⟩,⟨_,rfl,.arrS (by simp)⟩,⟨_,rfl,.varS rfl⟩,⟨_,rfl,.arr⟩,⟨_,rfl,.arr⟩,⟨_,rfl,.rarrS rfl⟩,trivial⟩)
  have u:j=1:=by
   have:¬(j:Int)<((1:Nat):Int):=χ hb;omega
  subst u;rw[φ (by decide)];refine aL ?_;have Y:=c9 (pfR k) s (by omega);rw[Ad hin] at Y;refine a8 (sk 2 rfl (kc Y ?_));refine kz 1 rfl (aA rfl nofun (fun hb=>aD (a8 (sg rfl (aC (aK (fun _:Unit=>mkt [(1,Go.AM.T s),(3,.one (.vp 3 0)),(5,.one (.vp 5 0)),(6,tkV (pfR k)),(35,.one (.ras 1 1 lN)),(36,I .i64 ((1:Nat):Int)),(37,I .i64 (0:Nat))] ([(3,grO lN lP),(5,.var 37 (aW b)),(720,tkA (pfR k))]++lH n t x k) []) (fun _=>True) (fun _=>0) () trivial (slG lHW) ?_))))));intro _ _;refine sg rfl (a8 (aA rfl (fun hb=>aD (a8 (aC (sg rfl (a8 (sg rfl (aA rfl (fun hb=>?_) (fun hb=>absurd Z.symm (χ hb))))))))) nofun));exact aE ⟨.inr rfl,aFb O (by repeat (first | exact FarEq.raw O | (refine FarEq.updL O ?_) | (refine FarEq.upd O ?_))) ⟨[],[],.nil,.nil,rfl⟩ (fun _ h=>by cases h) lHW.refs (fun i hi=>GW.kf i hi) (fun q J=>by rcases τ.1 J with J | J;exact(A4.1 (lHW (n:=n) (t:=t) (x:=x) (k:=k)).plain) q J;cases J)⟩
 have hq1:((pfR k++[x]).map b6).length=(pfR k++[x]).length:=θ _;have hq2:((pfR b).map b6).length=(pfR b).length:=θ _;have hlx:(pfR k++[x]).length=(pfR k).length+1:=by simp
 have ah:=hok.far;have hP:=hok.in_ k (by simp);have Y:=c9 (pfR k) s (by omega);rw[Ad hin] at Y;have ad:=c9 (pfR b) x (by omega);have ai:sB s [x] [k]:=⟨by rw[ab];exact hin,by simpa using Z⟩
 by_cases ae:x∈pfR b
 case pos=>
  have htl:(pfR k++[x]++pfR b).length≤540000000000:=by rw[κ];omega
  have hz:(bA (pfR k++[x]++pfR b)).length≤30:=le_trans (kT _ htl) (by omega);have hcr:=aAf (pfR k++[x]++pfR b) (by omega) fun k hk=>hok.itoa k (by omega)
  refine⟨bA (pfR k++[x]++pfR b),sb (sb k x (vC (bA (pfR k++[x]++pfR b)))) s b,?_,?_⟩
  ·unfold cE;rw[ξ ai,ab];unfold jB;simp only[foldl_cons,List.foldl_nil];unfold dS;rw[ξ ae];rfl
  rw[Ad ae] at ad;have hqt:((pfR k++[x]++pfR b).map b6).length=(pfR k++[x]++pfR b).length:=θ _;have hqa:(pfR k++[x]++pfR b).length=(pfR k).length+1+(pfR b).length:=by rw[κ,hlx]
  have hca:=aQv n t x k x (vC (bA (pfR k++[x]++pfR b))) (fun p=>sb p x (vC (bA (pfR k++[x]++pfR b)))) (hok.subz k x _ hP hz);have aa:=aQv n t (bA (pfR k++[x]++pfR b)) (sb k x (vC (bA (pfR k++[x]++pfR b)))) s b (fun p=>sb p s b) (hok.subb _ (hok.ren k x _ hP hz));have hcv:=uY (bA (pfR k++[x]++pfR b));generalize hzz:bA (pfR k++[x]++pfR b)=z at *;refine vV O (n:=92) tok Tryz.func126 rfl rfl rfl ?_;refine sg rfl (sg rfl (AWp.sub (Sub.own (t:=6) (id:=720) 9 1 rfl rfl) (AWp.sub (Sub.freeze (id:=720) rfl) ?_)));refine a8 (sg rfl (aC (aK (fun j:Nat=>mkt [(1,Go.AM.T s),(3,.one (.vp 3 0)),(5,.one (.vp 5 0)),(6,tkV (if j=0 then [] else pfR k)),(17,.one (.ras 1 1 lP)),(18,I .i64 ((1:Nat):Int)),(19,I .i64 j)] ([(3,grO lN lP),(5,.var 37 (aW b)),(720,tkA (if j=0 then [] else pfR k))]++lH n t x k) []) (fun j=>j≤1) (fun j=>1-j) 0 (Ag _) (slG lHW) ?_)));intro j hj;refine sg rfl (a8 (aA rfl (fun hb=>?_) (fun hb=>?_)))
  ·have N:j=0:=by
    have:(j:Int)<((1:Nat):Int):=ψ hb;omega
   subst N;rw[ξ rfl];refine aD (a8 (aC (sg rfl (aI mixed (ak 4 [(3,.row 0 (aB k))] rfl (kc hf ?_))))));refine kz 2 rfl (AWp.sub (Sub.freeze (id:=720) rfl) ?_);refine ag [] rfl ⟨1,le_refl _,by dsimp only;omega,?_⟩;dsimp only;rw[φ (by decide)];exact slG lHW (he:=⟨rfl,rfl,rfl,Go.AM.hs_ren (by simp) (by simp),rfl,rfl,rfl,trivial⟩) (hh:=⟨⟨_,rfl,.varS rfl⟩,⟨_,rfl,.varS rfl⟩,⟨_,rfl,.arrS (by simp)⟩,⟨_,rfl,.varS rfl⟩,⟨_,rfl,.arr⟩,⟨_,rfl,.arr⟩,⟨_,rfl,.rarrS rfl⟩,trivial⟩)
  have u:j=1:=by
   have:¬(j:Int)<((1:Nat):Int):=χ hb;omega
  subst u;rw[φ (by decide)];refine aL (a8 (sk 2 rfl (kc Y ?_)));refine kz 1 rfl (aA rfl nofun (fun hb=>aD (a8 (sg rfl (aC (aK (fun j:Nat=>mkt [(1,Go.AM.T s),(3,.one (.vp 3 0)),(5,.one (.vp 5 0)),(6,tkV (if j=0 then pfR k else pfR k++[x])),(35,.one (.ras 1 1 lN)),(36,I .i64 ((1:Nat):Int)),(37,I .i64 j)] ([(3,grO lN lP),(5,.var 37 (aW b)),(720,tkA (if j=0 then pfR k else pfR k++[x]))]++lH n t x k) []) (fun j=>j≤1) (fun j=>1-j) 0 (Ag _) (slG lHW) ?_))))));intro j hj;refine sg rfl (a8 (aA rfl (fun hb=>?_) (fun hb=>?_)))
  ·have N:j=0:=by
    have:(j:Int)<((1:Nat):Int):=ψ hb;omega
   subst N;rw[ξ rfl];refine aD (a8 (aC (sg rfl (a8 (sg rfl (aA rfl (fun hb=>absurd (ψ hb).symm Z) (fun hb=>aD (ag [] rfl (AWp.sub (Sub.freeze (id:=720) rfl) ?_)))))))));refine ag [] rfl ⟨1,le_refl _,by dsimp only;omega,?_⟩;dsimp only;rw[φ (by decide)];exact slG lHW (he:=⟨rfl,rfl,rfl,Go.AM.hs_ren (by simp) (by simp),rfl,rfl,rfl,trivial⟩) (hh:=⟨⟨_,rfl,.varS rfl⟩,⟨_,rfl,.varS rfl⟩,⟨_,rfl,.arrS (by simp[b6])⟩,⟨_,rfl,.varS rfl⟩,⟨_,rfl,.arr⟩,⟨_,rfl,.arr⟩,⟨_,rfl,.rarrS rfl⟩,trivial⟩)
  have u:j=1:=by
   have:¬(j:Int)<((1:Nat):Int):=χ hb;omega
  subst u;rw[φ (by decide)];refine aL (sk 1 rfl (kc ah ?_));refine kz 1 rfl (sg rfl (AWp.sub (Sub.freeze (id:=720) rfl) ?_));refine sg rfl (a8 (sg rfl (aC (aK (fun i:Nat=>mkt [(1,Go.AM.T s),(5,.one (.vp 5 0)),(6,tkV (if i=0 then pfR k++[x]++pfR b else pfR k++[x]++pfR b++[z])),(11,aV (pfR b)),(12,.one (.clo 144 [.vp 3 0])),(60,.one (.ras 1 1 lN)),(61,I .i64 ((1:Nat):Int)),(62,I .i64 i)] ([(3,grO lN lP),(5,.var 37 (aW b)),(720,tkA (if i=0 then pfR k++[x]++pfR b else pfR k++[x]++pfR b++[z]))]++lH n t (if i=0 then x else z) (if i=0 then k else sb k x (vC z))) []) (fun i=>i≤1) (fun i=>1-i) 0 (Ag _) ?_ ?_))))
  ·rw[ξ rfl,ξ rfl,ξ rfl];exact slG lHW (he:=⟨rfl,rfl,Go.AM.hs_ren (by simp only[κ,θ]) (by simp only[κ,θ]),rfl,rfl,rfl,rfl,rfl,trivial⟩) (hh:=⟨⟨_,rfl,.varS rfl⟩,⟨_,rfl,.varS rfl⟩,⟨_,rfl,.arrS (by simp)⟩,⟨_,rfl,.varS rfl⟩,⟨_,rfl,.arr⟩,⟨_,rfl,.arr⟩,⟨_,rfl,.rarrS rfl⟩,trivial⟩)
  intro i hi;refine sg rfl (a8 (aA rfl (fun hb=>?_) (fun hb=>?_)))
  ·have aj:i=0:=by
    have:(i:Int)<((1:Nat):Int):=ψ hb;omega
   subst aj;rw[ξ rfl,ξ rfl,ξ rfl];generalize pfR k++[x]++pfR b=tk at *;refine aD (a8 (aC (sg rfl (sk 4 rfl (kc ad ?_)))));refine az (aA rfl (fun hb=>sk 1 rfl (kc hcr ?_)) nofun);refine kz 1 rfl (sg rfl (AWp.sub (Sub.freeze (id:=720) rfl) ?_));refine sk 5 rfl (kc hcv ?_);refine kv (caps:=[.vp 3 0]) (args:=[Go.AM.T x,.pa (aB (vC z))]) hca ?_;refine az (ag [] rfl (ag [] rfl ⟨1,le_refl _,by dsimp only;omega,?_⟩));dsimp only;rw[φ (by decide),φ (by decide),φ (by decide)];exact slG lHW (fun i hi=>GW.kf i hi) (he:=⟨rfl,rfl,Go.AM.hs_ren (by simp) (by simp),rfl,rfl,rfl,rfl,rfl,trivial⟩) (hh:=⟨⟨_,rfl,.varS rfl⟩,⟨_,rfl,.varS rfl⟩,⟨_,rfl,.arrS (by simp[b6])⟩,⟨_,rfl,.varS rfl⟩,⟨_,rfl,.arr⟩,⟨_,rfl,.arr⟩,⟨_,rfl,.rarrS rfl⟩,trivial⟩)
  have u:i=1:=by
   have:¬(i:Int)<((1:Nat):Int):=χ hb;omega
  subst u;rw[φ (by decide),φ (by decide),φ (by decide)];refine aL (aI mixed (ak 3 [] rfl (kv (caps:=[.vp 3 0]) (args:=[Go.AM.T s,.pa (aB b)]) aa ?_)));exact az ⟨.inl rfl,aFb O (FarEq.outs O) ⟨[],[],.nil,.nil,rfl⟩ (fun _ h=>by cases h) lHW.refs (fun i hi=>GW.kf i hi) (fun q J=>by rcases τ.1 J with J | J;exact(A4.1 (lHW (n:=n) (t:=t) (x:=x) (k:=k)).plain) q J;cases J)⟩
 refine⟨x,sb k s b,?_,?_⟩
 ·unfold cE;rw[ξ ai,ab];unfold jB;simp only[foldl_cons,List.foldl_nil];unfold dS;rw[φ ae];rfl
 rw[Ae ae] at ad;have aa:=aQv n t x k s b (fun p=>sb p s b) (hok.subb _ hP);refine vV O (n:=92) tok Tryz.func126 rfl rfl rfl ?_;refine sg rfl (sg rfl (AWp.sub (Sub.own (t:=6) (id:=720) 9 1 rfl rfl) (AWp.sub (Sub.freeze (id:=720) rfl) ?_)));refine a8 (sg rfl (aC (aK (fun j:Nat=>mkt [(1,Go.AM.T s),(3,.one (.vp 3 0)),(5,.one (.vp 5 0)),(6,tkV (if j=0 then [] else pfR k)),(17,.one (.ras 1 1 lP)),(18,I .i64 ((1:Nat):Int)),(19,I .i64 j)] ([(3,grO lN lP),(5,.var 37 (aW b)),(720,tkA (if j=0 then [] else pfR k))]++lH n t x k) []) (fun j=>j≤1) (fun j=>1-j) 0 (Ag _) (slG lHW) ?_)));intro j hj;refine sg rfl (a8 (aA rfl (fun hb=>?_) (fun hb=>?_)))
 ·have N:j=0:=by
   have:(j:Int)<((1:Nat):Int):=ψ hb;omega
  subst N;rw[ξ rfl];refine aD (a8 (aC (sg rfl (aI mixed (ak 4 [(3,.row 0 (aB k))] rfl (kc hf ?_))))));refine kz 2 rfl (AWp.sub (Sub.freeze (id:=720) rfl) ?_);refine ag [] rfl ⟨1,le_refl _,by dsimp only;omega,?_⟩;dsimp only;rw[φ (by decide)];exact slG lHW (he:=⟨rfl,rfl,rfl,Go.AM.hs_ren (by simp) (by simp),rfl,rfl,rfl,trivial⟩) (hh:=⟨⟨_,rfl,.varS rfl⟩,⟨_,rfl,.varS rfl⟩,⟨_,rfl,.arrS (by simp)⟩,⟨_,rfl,.varS rfl⟩,⟨_,rfl,.arr⟩,⟨_,rfl,.arr⟩,⟨_,rfl,.rarrS rfl⟩,trivial⟩)
 have u:j=1:=by
  have:¬(j:Int)<((1:Nat):Int):=χ hb;omega
 subst u;rw[φ (by decide)];refine aL (a8 (sk 2 rfl (kc Y ?_)));refine kz 1 rfl (aA rfl nofun (fun hb=>aD (a8 (sg rfl (aC (aK (fun j:Nat=>mkt [(1,Go.AM.T s),(3,.one (.vp 3 0)),(5,.one (.vp 5 0)),(6,tkV (if j=0 then pfR k else pfR k++[x])),(35,.one (.ras 1 1 lN)),(36,I .i64 ((1:Nat):Int)),(37,I .i64 j)] ([(3,grO lN lP),(5,.var 37 (aW b)),(720,tkA (if j=0 then pfR k else pfR k++[x]))]++lH n t x k) []) (fun j=>j≤1) (fun j=>1-j) 0 (Ag _) (slG lHW) ?_))))));intro j hj;refine sg rfl (a8 (aA rfl (fun hb=>?_) (fun hb=>?_)))
 ·have N:j=0:=by
   have:(j:Int)<((1:Nat):Int):=ψ hb;omega
  subst N;rw[ξ rfl];refine aD (a8 (aC (sg rfl (a8 (sg rfl (aA rfl (fun hb=>absurd (ψ hb).symm Z) (fun hb=>aD (ag [] rfl (AWp.sub (Sub.freeze (id:=720) rfl) ?_)))))))));refine ag [] rfl ⟨1,le_refl _,by dsimp only;omega,?_⟩;dsimp only;rw[φ (by decide)];exact slG lHW (he:=⟨rfl,rfl,rfl,Go.AM.hs_ren (by simp) (by simp),rfl,rfl,rfl,trivial⟩) (hh:=⟨⟨_,rfl,.varS rfl⟩,⟨_,rfl,.varS rfl⟩,⟨_,rfl,.arrS (by simp[b6])⟩,⟨_,rfl,.varS rfl⟩,⟨_,rfl,.arr⟩,⟨_,rfl,.arr⟩,⟨_,rfl,.rarrS rfl⟩,trivial⟩)
 have u:j=1:=by
  have:¬(j:Int)<((1:Nat):Int):=χ hb;omega
 subst u;rw[φ (by decide)];refine aL (sk 1 rfl (kc ah ?_));refine kz 1 rfl (sg rfl (AWp.sub (Sub.freeze (id:=720) rfl) ?_));refine sg rfl (a8 (sg rfl (aC (aK (fun i:Nat=>mkt [(1,Go.AM.T s),(5,.one (.vp 5 0)),(11,aV (pfR b)),(12,.one (.clo 144 [.vp 3 0])),(60,.one (.ras 1 1 lN)),(61,I .i64 ((1:Nat):Int)),(62,I .i64 i)] ([(3,grO lN lP),(5,.var 37 (aW b))]++lH n t x k) []) (fun i=>i≤1) (fun i=>1-i) 0 (Ag _) (slG lHW) ?_))));intro i hi;refine sg rfl (a8 (aA rfl (fun hb=>?_) (fun hb=>?_)))
 ·have aj:i=0:=by
   have:(i:Int)<((1:Nat):Int):=ψ hb;omega
  subst aj;refine aD (a8 (aC (sg rfl (sk 4 rfl (kc ad ?_)))));exact az (aA rfl nofun (fun hb=>aD (ag [] rfl ⟨1,le_refl _,by dsimp only;omega,slG lHW⟩)))
 have u:i=1:=by
  have:¬(i:Int)<((1:Nat):Int):=χ hb;omega
 subst u;refine aL (aI mixed (ak 3 [] rfl (kv (caps:=[.vp 3 0]) (args:=[Go.AM.T s,.pa (aB b)]) aa ?_)));exact az ⟨.inl rfl,aFb O (FarEq.outs O) ⟨[],[],.nil,.nil,rfl⟩ (fun _ h=>by cases h) lHW.refs (fun i hi=>GW.kf i hi) (fun q J=>by rcases τ.1 J with J | J;exact(A4.1 (lHW (n:=n) (t:=t) (x:=x) (k:=k)).plain) q J;cases J)⟩
def w30 (s:Str):Nat:=max 30 s.length
mutual
def m30:Core→Nat
 | .mk _ _ s _ ks bs al=>1+w30 s+dA ks+fT bs+gY al
def dA:List Core→Nat
 | []=>0
 | c::l=>m30 c+dA l
def fT:List Bind→Nat
 | []=>0
 | .mk s _ c::l=>1+w30 s+m30 c+fT l
def gY:List Alt→Nat
 | []=>0
 | .mk _ _ s vs c::l=>1+w30 s+(vs.map fun v=>1+w30 v).sum+m30 c+gY l
end
theorem aFy (s:Str):s.length≤w30 s:=C2 ..
theorem jV (s:Str):30≤w30 s:=C8 ..
theorem aJo {z s:Str}(h:z.length≤30):w30 z≤w30 s:=by unfold w30;omega
theorem a1a:∀vs:List Str,(vs.map fun v=>1+v.length).sum≤(vs.map fun v=>1+w30 v).sum
 | []=>le_refl _
 | v::vs=>by
  simp only[Am,Bt];have:=a1a vs;have:=aFy v;omega
mutual
theorem c8:∀c:Core,aY c≤m30 c
 | .mk _ _ s _ ks bs al=>by
  rw[aY,m30];have:=xJ ks;have:=xO bs;have:=xU al;have:=aFy s;omega
theorem xJ:∀l:List Core,bM l≤dA l
 | []=>by rw[bM,dA];exact le_refl _
 | c::l=>by
  rw[bM,dA];have:=c8 c;have:=xJ l;omega
theorem xO:∀l:List Bind,cB l≤fT l
 | []=>by rw[cB,fT];exact le_refl _
 | .mk s _ c::l=>by
  rw[cB,bsize,fT];have:=c8 c;have:=xO l;have:=aFy s;omega
theorem xU:∀l:List Alt,bZ l≤gY l
 | []=>by rw[bZ,gY];exact le_refl _
 | .mk _ _ s vs c::l=>by
  rw[bZ,lL,gY];have:=c8 c;have:=xU l;have:=aFy s;have:=a1a vs;omega
end
theorem dD (c:Core):31≤m30 c:=by obtain⟨_,_,s,_,ks,bs,al⟩:=c;rw[m30];have:=jV s;omega
theorem fX:∀{l:List Core}{c:Core},c∈l→m30 c≤dA l
 | d::l,c,h=>by
  rw[dA];rcases Ap.1 h with rfl | h
  ·omega
  ·have:=fX h;omega
theorem nY:∀{l:List Bind}{b:Bind},b∈l→m30 b.body≤fT l
 | .mk s t c::l,b,h=>by
  rw[fT];rcases Ap.1 h with rfl | h
  ·show m30 c≤_;omega
  ·have:=nY h;omega
theorem fE:∀{l:List Alt}{a:Alt},a∈l→m30 a.body+(a.vars.map fun v=>1+w30 v).sum≤gY l
 | .mk f n s vs c::l,a,h=>by
  rw[gY];rcases Ap.1 h with rfl | h
  ·show m30 c+(vs.map fun v=>1+w30 v).sum≤_;omega
  ·have:=fE h;omega
theorem sQ:∀a b:List Core,dA (a++b)=dA a+dA b
 | [],b=>by rw[dA];simp
 | c::a,b=>by rw[A3,dA,dA,sQ a b];omega
theorem uL:∀l:List Bind,dA (l.map Bind.body)+31*l.length≤fT l
 | []=>by rw[Bo,dA,fT];simp
 | .mk s t c::l=>by
  rw[Am,dA,fT];have:=uL l;have:=jV s;show m30 c+_+_≤_;rw[Ac];omega
theorem zH:∀l:List Core,31*l.length≤dA l
 | []=>by simp
 | c::l=>by rw[dA,Ac];have:=zH l;have:=dD c;omega
theorem aH5:∀l:List Alt,31*l.length≤gY l
 | []=>by simp
 | .mk _ _ s _ c::l=>by rw[gY,Ac];have:=aH5 l;have:=dD c;omega
theorem aIj:∀ps:List Core,(ps.flatMap pfR).length≤dA ps
 | []=>by simp
 | p::ps=>by
  rw[Ca,κ,dA];have:=aJ4 p;have:=c8 p;have:=aIj ps;omega
theorem jH (c:Core):(pfR c).length≤m30 c:=le_trans (aJ4 c) (c8 c)
theorem mD:∀vs:List Str,31*vs.length≤(vs.map fun v=>1+w30 v).sum
 | []=>le_refl _
 | v::vs=>by simp only[Am,Bt,Ac];have:=mD vs;have:=jV v;omega
inductive A2 {α β:Type}(R:α→β→Prop):List α→List β→Prop
 | nil:A2 R [] []
 | cons {a b l m}:R a b→A2 R l m→A2 R (a::l) (b::m)
theorem A2.refl {α:Type}{R:α→α→Prop}(h:∀a,R a a):∀l,A2 R l l
 | []=>.nil
 | a::l=>.cons (h a) (A2.refl h l)
theorem A2.trans {α:Type}{R:α→α→Prop}(h:∀a b c,R a b→R b c→R a c) {l m k:List α}(h1:A2 R l m):A2 R m k→A2 R l k:=by
 induction h1 generalizing k with
 | nil=>intro h2;cases h2;exact .nil
 | cons r _ u=>intro h2;cases h2 with | cons r' h2=>exact .cons (h _ _ _ r r') (u h2)
theorem A2.map {α:Type}{R:α→α→Prop}{f:α→α}(h:∀a,R a (f a)):∀l,A2 R l (l.map f)
 | []=>.nil
 | a::l=>.cons (h a) (A2.map h l)
theorem A2.length {α β:Type}{R:α→β→Prop}{l:List α}{m:List β}(h:A2 R l m):m.length=l.length:=by
 induction h with
 | nil=>rfl
 | cons _ _ u=>simp[u]
theorem A2.take {α β:Type}{R:α→β→Prop}{l:List α}{m:List β}(h:A2 R l m):∀n:Nat,A2 R (l.take n) (m.take n):=by
 induction h with
 | nil=>intro n;simp;exact .nil
 | cons r _ u=>
  intro n;cases n with
  | zero=>exact .nil
  | succ n=>exact .cons r (u n)
theorem A2.drop {α β:Type}{R:α→β→Prop}{l:List α}{m:List β}(h:A2 R l m):∀n:Nat,A2 R (l.drop n) (m.drop n):=by
 induction h with
 | nil=>intro n;simp;exact .nil
 | cons r h u=>
  intro n;cases n with
  | zero=>exact .cons r h
  | succ n=>exact u n
theorem A2.mono {α β:Type}{R R':α→β→Prop}(hm:∀a b,R a b→R' a b) {l:List α}{m:List β}(h:A2 R l m):A2 R' l m:=by
 induction h with
 | nil=>exact .nil
 | cons r _ u=>exact .cons (hm _ _ r) u
def nh (s:Str):Prop:=s.head?≠some 37∧s.head?≠some 35
theorem x9 (n:Nat):nh (bK n):=by
 have key:∀m:_root_.Fin 26,UInt8.ofNat (97+m.val)≠37∧UInt8.ofNat (97+m.val)≠35:=by decide
 have h:UInt8.ofNat (97+n%26)≠37∧UInt8.ofNat (97+n%26)≠35:=key ⟨n%26,Nat.mod_lt _ (by decide)⟩;unfold nh bK;split
 ·simpa using h
 ·simpa using h
theorem aIi (l:List Str):nh (bA l):=x9 _
def NR (n n':Str):Prop:=n'=n∨(n'.length≤30∧nh n')
theorem NR.w {n u:Str}(h:NR n u):w30 u≤w30 n:=by
 rcases h with rfl | ⟨h,_⟩
 ·exact le_refl _
 ·exact aJo h
theorem NR.nh {n u:Str}(h:NR n u) (hn:nh n):nh u:=by
 rcases h with rfl | ⟨_,h⟩
 ·exact hn
 ·exact h
section
variable {sb:Core→Str→Core→Core}
theorem aIe {Rel:Core→Core→Prop}(I:∀p,Rel p p) (ht:∀p q r,Rel p q→Rel q r→Rel p r) {far:List Str}(J:∀p n z,z.length≤30→Rel p (sb p n (vC z))):
  ∀{ns:List Str} {st:List Str×List Core×List Str},st.2.2.length+ns.length≤540000000000→
   A2 Rel st.2.1 (jB sb far ns st).2.1∧∃u,(jB sb far ns st).1=st.1++u∧A2 NR ns u
 | [],st,_=>⟨A2.refl I _,[],by show st.1=_;simp,.nil⟩
 | n::ns,st,hl=>by
  simp only[Ac] at hl;have N:=uM (sb:=sb) (far:=far) (st:=st) (n:=n);obtain⟨h1,u,h2,h3⟩:=aIe I ht J (far:=far) (ns:=ns) (st:=dS sb far st n) (by omega);have e:jB sb far (n::ns) st=jB sb far ns (dS sb far st n):=rfl;rw[e];have hf:(bA st.2.2).length≤30:=le_trans (kT _ (by omega)) (by omega);by_cases hn:n∈far
  ·have es:dS sb far st n=(st.1++[bA st.2.2],st.2.1.map (fun p=>sb p n (vC (bA st.2.2))),st.2.2++[bA st.2.2]):=by unfold dS;rw[ξ hn]
   rw[es] at h1 h2 ⊢;refine⟨A2.trans ht (A2.map (fun p=>J p n _ hf) _) h1,bA st.2.2::u,?_,.cons (.inr ⟨hf,aIi _⟩) h3⟩;rw[h2,Ay];rfl
  ·have es:dS sb far st n=(st.1++[n],st.2.1,st.2.2):=by unfold dS;rw[φ hn]
   rw[es] at h1 h2 ⊢;refine⟨h1,n::u,?_,.cons (.inl rfl) h3⟩;rw[h2,Ay];rfl
theorem aHc {Rel:Core→Core→Prop}(I:∀p,Rel p p) (ht:∀p q r,Rel p q→Rel q r→Rel p r) {s:Str}{b:Core}{ns:List Str}{ps:List Core}(J:∀p n z,z.length≤30→Rel p (sb p n (vC z)))
  (hl:(ps.flatMap pfR).length+2*ns.length+(pfR b).length≤540000000000):(∃u,A2 Rel ps u∧((cE sb s b ns ps).2=u∨(cE sb s b ns ps).2=u.map fun p=>sb p s b))∧A2 NR ns (cE sb s b ns ps).1:=by
 unfold cE;split
 ·obtain⟨h1,N,h2,h3⟩:=aIe I ht J (far:=pfR b) (ns:=ns) (st:=([],ps,ps.flatMap pfR++ns++pfR b)) (by simp only[κ];omega);exact⟨⟨_,h1,.inr rfl⟩,by rw[h2];exact h3⟩
 ·exact⟨⟨ps,A2.refl I _,.inl rfl⟩,A2.refl (fun _=>.inl rfl) _⟩
end
theorem A2.mem {α β:Type}{R:α→β→Prop}{l:List α}{m:List β}(h:A2 R l m):∀b∈m,∃a∈l,R a b:=by
 induction h with
 | nil=>intro b hb;cases hb
 | cons r _ I=>
  intro b hb;rcases Ap.1 hb with rfl | hb
  ·exact⟨_,ζ,r⟩
  ·obtain⟨a,ha,u⟩:=I b hb;exact⟨a,ω _ ha,u⟩
theorem A2.mapL {α β γ:Type}{R:β→γ→Prop}{f:α→β}:∀{l:List α}{m:List γ},A2 R (l.map f) m→A2 (fun a c=>R (f a) c) l m
 | [],m,h=>by cases h;exact .nil
 | a::l,m,h=>by
  cases h with
  | cons r h=>exact .cons r (A2.mapL h)
theorem lC:∀{ts:List Ty}{ns:List Str}{ps:List Core}{x:Bind},x∈mkB ts ns ps→x.body∈ps∧x.ty∈ts
 | t::ts,n::ns,p::ps,x,h=>by
  unfold mkB at h;rcases Ap.1 h with rfl | h
  ·exact⟨ζ,ζ⟩
  ·obtain⟨h1,h2⟩:=lC h;exact⟨ω _ h1,ω _ h2⟩
 | [],_,_,x,h=>by unfold mkB at h;cases h
 | _::_,[],_,x,h=>by unfold mkB at h;cases h
 | _::_,_::_,[],x,h=>by unfold mkB at h;cases h
theorem vI {T:Ty→Prop}:∀{l:List Core},aDl T l↔∀x∈l,allT T x
 | []=>by simp[aDl]
 | c::l=>by rw[aDl,vI (l:=l)];simp
theorem nK {T:Ty→Prop}:∀{l:List Bind},aAo T l↔∀x∈l,T x.ty∧allT T x.body
 | []=>by simp[aAo]
 | .mk _ t c::l=>by rw[aAo,nK (l:=l)];simp[Bind.body,Bind.ty,and_assoc]
theorem nL {T:Ty→Prop}:∀{l:List Alt},aAp T l↔∀x∈l,allT T x.body
 | []=>by simp[aAp]
 | .mk _ _ _ _ c::l=>by rw[aAp,nL (l:=l)];simp[Alt.body]
def Big:Nat:=250000000000
theorem aV5 {z:Str}(h:z.length≤30):m30 (vC z)=31:=by
 unfold vC;rw[m30,dA,fT,gY];unfold w30;omega
theorem aE4 {f:Int}{nm:Str}{bs:List Bind}:(gvN f nm bs).length≤1+bs.length:=by unfold gvN;split<;>simp;omega
theorem aGu {vs vs':List Str}(h:A2 NR vs vs'):(vs'.map fun v=>1+w30 v).sum≤(vs.map fun v=>1+w30 v).sum:=by
 induction h with
 | nil=>exact le_refl _
 | cons r _ u=>
  simp only[Am,Bt];have:=r.w;omega
section
variable {clr:Core→List Str→Core}{T:Ty→Prop}
end
def xF (i:Nat) (al:List Alt):List (Nat×AObj):=(fam 0 al).filter fun p=>!Nat.beq p.1 (i+800)
theorem xQ {a b:Nat}(h:a≠b):Nat.beq a b=false:=by
 cases hb:Nat.beq a b with
 | false=>rfl
 | true=>exact absurd (Ab hb) h
theorem zU {i:Nat}{al:List Alt}{p:Nat×AObj}(h:p∈xF i al):p∈fam 0 al∧p.1≠i+800:=by
 obtain⟨h1,h2⟩:=C1.1 h;refine⟨h1,fun e=>?_⟩;rw[e,Ce] at h2;cases h2
theorem aFc {i:Nat}{al:List Alt}:TF (xF i al):=⟨fun p hp=>gJ.far p (zU hp).1,by
 have:((xF i al).map (·.1)).Sublist ((fam 0 al).map (·.1)):=(List.filter_sublist ..).map _
 exact List.Nodup.sublist this n8,fun p hp=>gJ.arr p (zU hp).1⟩
theorem s8:∀{l:List Alt}{k i x:Nat},x∈cV ((aZ k l).set i [])→∃j,j<l.length∧j≠i∧x=k+j+800
 | [],_,_,_,h=>by simp[aZ,cV] at h
 | a::l,k,0,x,h=>by
  have h:x∈cV (aZ (k+1) l):=by simpa [aZ,cV,R.refsL] using h
  obtain⟨p,hp,e⟩:=Af.1 (dG x h);obtain⟨j,b,hj,rfl⟩:=oX hp;have u:j<l.length:=(Aa.1 hj).1
  exact⟨j+1,by simp;exact u,by omega,by rw[←e];show k+1+j+800=_;omega⟩
 | a::l,k,i+1,x,h=>by
  rcases τ.1 (show x∈R.refsL (dV k a)++cV ((aZ (k+1) l).set i []) from h) with h | h
  ·exact⟨0,by simp,by omega,by rw[s4 h]⟩
  ·obtain⟨j,h1,h2,h3⟩:=s8 h;exact⟨j+1,by simp;exact h1,by omega,by omega⟩
theorem aT1 {i j:Nat}{al:List Alt}(h:j<al.length) (u:j≠i):0+j+800∈keys (xF i al):=by
 obtain⟨a,ha⟩:=aJ h;exact Af.2 ⟨_,C1.2 ⟨aCl ha,by simp only[xQ (show 0+j+800≠i+800 by omega)];rfl⟩,rfl⟩
theorem yC {i j:Nat}(h:j≠704) (u:j≠i+800):swp 704 (i+800) j=j:=by unfold swp;rw[xQ h,xQ u];rfl
theorem wK {σ:Nat→Nat}:∀{l:List Alt}{k i:Nat}{a:Alt}{r:List R},l[i]?=some a→(∀j,j<l.length→j≠i→σ (k+j+800)=k+j+800)→R.renL σ r=dV (k+i) a→oA σ ((aZ k l).set i r)=aZ k l
 | b::l,k,0,a,r,h,hσ,u=>by
  simp at h;subst h;show R.renL σ r::oA σ (aZ (k+1) l)=_;have key:∀(l:List Alt) (k:Nat),(∀j,j<l.length→σ (k+j+800)=k+j+800)→oA σ (aZ k l)=aZ k l:=by
   intro l
   induction l with
   | nil=>intro _ _;rfl
   | cons c l I=>
    intro k hk;simp only[aZ,oA]
    rw[l8,show σ (k+800)=k+800 from hk 0 (by simp),I (k+1) fun j hj=>by
     have:=hk (j+1) (by simp;exact hj)
     rwa [show k+(j+1)+800=k+1+j+800 by omega] at this];rfl
  rw[u,key l (k+1) fun j hj=>by
   have:=hσ (j+1) (by simp;exact hj) (by omega)
   rwa [show k+(j+1)+800=k+1+j+800 by omega] at this];rfl
 | b::l,k,i+1,a,r,h,hσ,u=>by
  show R.renL σ (dV k b)::oA σ ((aZ (k+1) l).set i r)=_
  rw[l8,show σ (k+800)=k+800 from hσ 0 (by simp) (by omega),wK (l:=l) (k:=k+1) (a:=a) (by simpa using h) (fun j hj J=>by
   have:=hσ (j+1) (by simp;exact hj) (by omega)
   rwa [show k+(j+1)+800=k+1+j+800 by omega] at this) (by rw[u,show k+1+i=k+(i+1) by omega])];rfl
theorem aOs {i:Nat}{al:List Alt}{j:Nat}(h:j≠i+800):Go.AM.look (xF i al) j=Go.AM.look (fam 0 al) j:=by
 unfold xF;generalize fam 0 al=F
 induction F with
 | nil=>rfl
 | cons p F u=>
  obtain⟨k,o⟩:=p;rw[Cz];simp only[Go.AM.look];by_cases hk:k=i+800
  ·rw[hk,Ce];simp only[Bool.not_true,Be,B4];rw[u,xQ h];rfl
  ·rw[xQ hk];simp only[Bool.not_false,Cs,Go.AM.look];cases Nat.beq j k
   ·simpa using u
   ·rfl
theorem aT0 {i:Nat}{al:List Alt}:renH (swp 704 (i+800)) (xF i al)=xF i al:=by
 have key:∀F:List (Nat×AObj),(∀p∈F,p∈xF i al)→renH (swp 704 (i+800)) F=F:=by
  intro F
  induction F with
  | nil=>intro _;rfl
  | cons p F u=>
   intro h;have hp:=zU (h p ζ);obtain⟨te,es,l,z,e⟩:=gJ.arr p hp.1;have I:=gJ.far p hp.1;show(swp 704 (i+800) p.1,p.2.ren _)::renH _ F=_;rw[u fun q J=>h q (ω _ J),yC (by omega) hp.2,e];show(p.1,AObj.arr te es l z)::F=_;rw[←e]
 exact key _ fun _ h=>h
abbrev aX (i:Nat) (al:List Alt) (a:Alt) (nv:Nat):List (Nat×AObj):=aH ((aZ 0 al).set i []) i a.form a.n a.name nv a.vars a.body++xF i al
theorem aOt {i:Nat}{al:List Alt}{a:Alt}(I:al[i]?=some a):Go.AM.look (renH (swp 704 (i+800)) (aX i al a a.vars.length))=Go.AM.look ((703,.rarr 88 14 (aZ 0 al))::fam 0 al):=by
 have J:renH (swp 704 (i+800)) (aX i al a a.vars.length)=(703,.rarr 88 14 (aZ 0 al))::(i+800,.arr 9 1 (a.vars.map b6) 0)::xF i al:=by
  unfold aX aH;show(swp 704 (i+800) 703,AObj.rarr _ _ (oA _ _))::(swp 704 (i+800) 704,AObj.arr _ _ _ _)::renH _ (xF i al)=_;rw[aT0,yC (by omega) (by omega),a1f];have u:swp 704 (i+800) 704=i+800:=by unfold swp;rw[Ce];rfl
  rw[u,wK I (fun j hj N=>yC (by omega) (by omega)) ?_];unfold aG2 dV;simp only[A3,A0,R.renL,R.ren,aMz,u,Bc]
 rw[J];funext j;by_cases h1:j=703
 ·subst h1;rw[dP,dP]
 rw[eQ h1,eQ h1];by_cases h2:j=i+800
 ·subst h2;rw[dP];have:=rA (n8 (l:=al) (k:=0)) _ (aCl I);rw[Bc] at this;exact this.symm
 ·rw[eQ h2,aOs h2]
theorem oN:∀{l:List Alt}{k i:Nat}{u:Alt},(aZ k (l.set i u)).set i []=(aZ k l).set i []
 | [],_,_,_=>rfl
 | b::l,k,0,u=>rfl
 | b::l,k,i+1,u=>by
  simp only[C5,aZ];rw[oN]
theorem aTz {i:Nat}{al:List Alt}{u:Alt}:xF i (al.set i u)=xF i al:=by
 unfold xF;have key:∀(l:List Alt) (k j:Nat),k+j=i→((fam k (l.set j u)).filter fun p=>!Nat.beq p.1 (i+800))=(fam k l).filter fun p=>!Nat.beq p.1 (i+800):=by
  intro l
  induction l with
  | nil=>intro _ _ _;rfl
  | cons b l I=>
   intro k j h;cases j with
   | zero=>
    have e:k=i:=by omega
    subst e;simp only[List.set_cons_zero,fam,Cz,Ce,Bool.not_true];rfl
   | succ j=>
    simp only[C5,fam,Cz];rw[I (k+1) j (by omega)]
 exact key al 0 i (by omega)
theorem aZo (al:List Alt) (i:Nat) (a:Alt) (I:al[i]?=some a) (s:Str) (b:Core) (sb:Core→Str→Core→Core) (P:Core→Prop) (hok:PutOk sb P s b [a.body])
  (hM:(pfR a.body).length+2*a.vars.length+(pfR b).length+1≤540000000000) (nv:Nat) (O:nv=a.vars.length) (Y:Nat) (Z:Y=al.length):
  ∃q,(cE sb s b a.vars [a.body]).2=[q]∧aU Tryz.prog 126 [.ma [.ras nv 1 (vR i nv nv).flatten,.ras 1 1 [.rp 703 i 4 Y]],Go.AM.T s,.pa (aB b)] ((703,.rarr 88 14 (aZ 0 al))::fam 0 al) (.tup [])
   ((703,.rarr 88 14 (aZ 0 (al.set i (.mk a.form a.n a.name (cE sb s b a.vars [a.body]).1 q))))::fam 0 (al.set i (.mk a.form a.n a.name (cE sb s b a.vars [a.body]).1 q))):=by
 subst O;subst Z;have aa:i<al.length:=(Aa.1 I).1
 have ab:((aZ 0 al).set i []).length=al.length:=by rw[Cq,eU]
 have hr:∀x∈cV ((aZ 0 al).set i []),x∈keys (xF i al):=fun x hx=>by
  obtain⟨j,h1,h2,rfl⟩:=s8 hx;exact aT1 h1 h2
 obtain⟨q,hq,h⟩:=a3v ((aZ 0 al).set i []) i a.form a.n a.name a.vars.length a.vars a.body (xF i al) s b sb P aFc hr (by omega) rfl hok hM;refine⟨q,hq,?_⟩;have hl1:=(nQ (sb:=sb) (s:=s) (b:=b) (ns:=a.vars) (ps:=[a.body])).1
 rw[ab] at h;have u:∀(ns:List Str) (p:Core),subset (dU (aH ((aZ 0 al).set i []) i a.form a.n a.name a.vars.length ns p++xF i al)) (keys (aH ((aZ 0 al).set i []) i a.form a.n a.name a.vars.length ns p++xF i al))=true:=fun ns p=>fG (pE aFc (aHW aFc hr).refs)
 have h2:=aU.swap 704 (i+800) h (u _ _) (fG fun x hx=>by
  have hx:x∈(grO (aN a.vars.length) (aP i al.length)).refs++([]++([]++[])):=hx;rw[Ax,Ax,Ax] at hx;rcases aFo x hx with rfl | rfl
  ·simp[aH,keys]
  ·simp[aH,keys]) (u _ _) rfl
 have ea:V.renL (swp 704 (i+800)) [gpV (aN a.vars.length) (aP i al.length),Go.AM.T s,.pa (aB b)]=[.ma [.ras a.vars.length 1 (vR i a.vars.length a.vars.length).flatten,.ras 1 1 [.rp 703 i 4 al.length]],Go.AM.T s,.pa (aB b)]:=by
  have J:swp 704 (i+800) 704=i+800:=by unfold swp;rw[Ce];rfl
  have en:R.renL (swp 704 (i+800)) (aN a.vars.length)=(vR i a.vars.length a.vars.length).flatten:=by
   unfold aN vR rgR;generalize List.range a.vars.length=rg
   induction rg with
   | nil=>rfl
   | cons j rg ih=>
    simp only[Am,Bi,List.singleton_append,R.renL,R.ren,J] at ih ⊢;rw[ih]
  unfold gpV aP;simp only[V.renL,V.ren,R.renL,R.ren,en,aXd,yC (show 703≠704 by omega) (show 703≠i+800 by omega)];rfl
 rw[ea] at h2;refine aU.row h2 (aOt I).symm ?_;have N:(al.set i (.mk a.form a.n a.name (cE sb s b a.vars [a.body]).1 q))[i]?=some (.mk a.form a.n a.name (cE sb s b a.vars [a.body]).1 q):=List.getElem?_set_self aa;have h3:=aOt N;unfold aX at h3;rw[oN,aTz] at h3;rw[←h3];show Go.AM.look (renH _ (aH _ i a.form a.n a.name (cE sb s b a.vars [a.body]).1.length _ _++xF i al))=_;rw[hl1];rfl
def iO (h:dC):Prop:=∀i,800≤i→h i=none
theorem iO.nil:iO (Go.AM.look []):=fun _ _=>rfl
theorem iO.upd {h:dC}{k:Nat}{x:Option AObj}(hf:iO h) (hk:Nat.blt k 800=true:=by rfl):iO (upd h k x):=fun i hi=>by
 have:=Aq hk;rw[bJ _ _ _ (by omega)];exact hf i hi
theorem aOe:∀bs:List Bind,mkB (bs.map Bind.ty) (bs.map Bind.name) (bs.map Bind.body)=bs
 | []=>rfl
 | .mk s t c::bs=>by
  show Bind.mk s t c::mkB _ _ _=_;rw[aOe bs]
theorem a5u {b:Bool}{nk nb:Nat}(h:b=false):rD b nk nb=[.ras (tN nb).length 1 (tN nb),.ras (tP nk nb).length 1 (tP nk nb)]:=by
 subst h;have u:(nR false nb nb).length=(tN nb).length:=by unfold tN;rw[o4 aMd,mul_one]
 have I:(pR nk nb nb).length=(tP nk nb).length:=by unfold tP;rw[o4 wV,mul_one]
 unfold rD;rw[u,I];rfl
section
variable {clr:Core→List Str→Core}{k:Nat}
noncomputable def kY (sb:Core→Str→Core→Core) (s:Str) (b:Core) (a:Alt):Alt:=.mk a.form a.n a.name (cE sb s b a.vars [a.body]).1 ((cE sb s b a.vars [a.body]).2.headD a.body)
noncomputable def vH (sb:Core→Str→Core→Core) (s:Str) (b:Core) (al:List Alt) (i:Nat):List Alt:=(al.take i).map (kY sb s b)++al.drop i
theorem aAm {sb:Core→Str→Core→Core}{s:Str}{b:Core}{al:List Alt}{i:Nat}:(vH sb s b al i).length=al.length:=by unfold vH;simp;omega
theorem aZ7 {sb:Core→Str→Core→Core}{s:Str}{b:Core}{al:List Alt}{i:Nat}{a:Alt}(h:al[i]?=some a):(vH sb s b al i)[i]?=some a:=by
 have u:i<al.length:=(Aa.1 h).1
 unfold vH;rw[A6 (by simp;omega),θ,Ar,Cd (by omega),sub_self,Ao,By,h]
theorem aRg {sb:Core→Str→Core→Core}{s:Str}{b:Core}{al:List Alt}{i:Nat}{a:Alt}(h:al[i]?=some a):vH sb s b al (i+1)=(vH sb s b al i).set i (kY sb s b a):=by
 have u:i<al.length:=(Aa.1 h).1
 unfold vH;rw[rF h,tT (by simp;omega),Bh,h];simp
theorem aRf {sb:Core→Str→Core→Core}{s:Str}{b:Core}{al:List Alt}:vH sb s b al 0=al:=by simp[vH]
theorem aUx {sb:Core→Str→Core→Core}{s:Str}{b:Core}{al:List Alt}:vH sb s b al al.length=al.map (kY sb s b):=by simp[vH]
noncomputable def zNm (sb:Core→Str→Core→Core) (f:Int) (nm:Str) (s:Str) (b:Core) (ks:List Core) (bs:List Bind):Nat→Str
 | 0=>nm
 | _+1=>if f=5 then(cE sb s b (gvN f nm bs) (ks++bs.map Bind.body)).1.headD nm else nm
noncomputable def zKs (sb:Core→Str→Core→Core) (f:Int) (nm:Str) (s:Str) (b:Core) (ks:List Core) (bs:List Bind):Nat→List Core
 | 0=>ks
 | _+1=>(cE sb s b (gvN f nm bs) (ks++bs.map Bind.body)).2.take ks.length
noncomputable def zBs (sb:Core→Str→Core→Core) (f:Int) (nm:Str) (s:Str) (b:Core) (ks:List Core) (bs:List Bind):Nat→List Bind
 | 0=>bs
 | _+1=>mkB (bs.map Bind.ty) (cE sb s b (gvN f nm bs) (ks++bs.map Bind.body)).1 ((cE sb s b (gvN f nm bs) (ks++bs.map Bind.body)).2.drop ks.length)
noncomputable def zAs (sb:Core→Str→Core→Core) (s:Str) (b:Core) (al:List Alt):Nat→List Alt
 | 0=>al
 | i+1=>vH sb s b al i
theorem zT:∀{l m:List Alt}{k:Nat},l.length=m.length→keys (fam k l)=keys (fam k m)
 | [],[],_,_=>rfl
 | a::l,c::m,k,h=>by
  show(k+800)::keys (fam (k+1) l)=(k+800)::keys (fam (k+1) m);rw[zT (by simpa using h)]
end
def vT (z:Str):Ty:=.mk 2 0 z []
theorem aI4 (n:Int) (nm:Str) (t:Ty) (kid:Core) (far:List Str) (J:far.length≤540000000000) (I:¬nm∈far):
  aU Tryz.prog 75 [.one (.vp 700 0),aV far] (gHl 7 n nm t [kid] [] []) (.tup []) (gHl 7 n nm t [kid] [] []):=by
 have u:=c9 far nm (by omega);rw[Ae I] at u;refine bQ (n:=44) tok Tryz.func75 rfl rfl rfl ?_;refine sk 5 rfl (kc u ?_);exact az (aA rfl nofun (fun hb=>aD ⟨.inl rfl,⟨[],[],.nil,.nil,rfl⟩,⟨⟨_,rfl,.var rfl⟩,⟨_,rfl,.arr⟩,⟨_,rfl,.arr⟩,⟨_,rfl,.rarr rfl⟩,trivial⟩,rfl⟩))
theorem aI3 (n:Int) (nm:Str) (t:Ty) (kid u:Core) (far:List Str) (Y:far.length≤540000000000) (hin:nm∈far) (Z:dJ 540000000000) (N:aU Tryz.prog 74 [.pa (aB kid)] [] (aV (tyR kid)) []) (ab:far.length+(tyR kid).length≤540000000000)
  (hs:aU Tryz.prog 31 [.pa (aB kid),Go.AM.T nm,tyV (vT (bA (far++tyR kid)))] [] (.pa (aB u)) []):
  aU Tryz.prog 75 [.one (.vp 700 0),aV far] (gHl 7 n nm t [kid] [] []) (.tup []) (gHl 7 n (bA (far++tyR kid)) t [u] [] []):=by
 have I:=c9 far nm (by omega);rw[Ad hin] at I;have O:=oJ (far.map b6) (by rw[θ];omega);have ac:(far.map b6).length=far.length:=θ _;have aa:((tyR kid).map b6).length=(tyR kid).length:=θ _;have J:=aAf (far++tyR kid) (by rw[κ];omega) fun k hk=>Z k (by rw[κ] at hk;omega)
 generalize bA (far++tyR kid)=z at hs J ⊢;refine bQ (n:=44) tok Tryz.func75 rfl rfl rfl ?_;refine sk 5 rfl (kc I ?_);refine az (aA rfl (fun hb=>sk 1 rfl (kc O ?_)) nofun);refine ak 6 [(7,.row 0 (aB kid))] rfl (kc N ?_);refine ak 1 [(9,.fz)] rfl (kc J ?_);refine kz 1 rfl (skh 15 [(9,.row 0 (aB kid))] rfl (kc (aWu z) ?_));refine kc hs ?_;exact ak 2 [(18,.row 0 (aB kid))] rfl (az (ag [] rfl ⟨.inl rfl,⟨[],[],.nil,.nil,rfl⟩,⟨⟨_,rfl,.var rfl⟩,⟨_,rfl,.arr⟩,⟨_,rfl,.arr⟩,⟨_,rfl,.rarr rfl⟩,trivial⟩,rfl⟩))
theorem a6b (name:Str) (u t t':Ty) (h:aU Tryz.prog 78 [tyV t,aV [name],.one (.c (.sl 4 [bD u]))] [] (tyV t') []):
  aU Tryz.prog 77 [tyV t,.one (.vp 4 0),.one (.vp 5 0)] [(4,.var 9 [.c (.str name)]),(5,.var 33 ((bD u).map R.c))] (tyV t') [(4,.var 9 [.c (.str name)]),(5,.var 33 ((bD u).map R.c))]:=by
 refine bQ (n:=11) tok Tryz.func77 rfl rfl rfl ?_;refine sgh [(0,.id 730),(1,.id 731)] rfl (skh 5 [(2,.all),(4,.all)] rfl (kc h ?_));exact kz 1 rfl (aE (rtC trw))
def gE (ts:Ty→Ty) (sb:Core→Core):Core→Core
 | .mk f n nm t ks bs al=>.mk f n nm (ts t) (ks.map sb) (bs.map fun b=>.mk b.name (ts b.ty) (sb b.body)) (al.map fun a=>.mk a.form a.n a.name a.vars (sb a.body))
def tsB (ts:Ty→Ty) (b:Bind):Bind:=.mk b.name (ts b.ty) b.body
section
variable {α:Type}{g:α→α}
def mT (g:α→α) (bs:List α) (j:Nat):List α:=(bs.take j).map g++bs.drop j
theorem nX {bs:List α}{j:Nat}:(mT g bs j).length=bs.length:=by unfold mT;simp;omega
theorem zG {bs:List α}{j:Nat}{b:α}(h:bs[j]?=some b):(mT g bs j)[j]?=some b:=by
 have u:j<bs.length:=(Aa.1 h).1
 unfold mT;rw[A6 (by simp;omega),θ,Ar,Cd (by omega),sub_self,Ao,By,h]
theorem pO {bs:List α}{j:Nat}{b:α}(h:bs[j]?=some b):mT g bs (j+1)=(mT g bs j).set j (g b):=by
 have u:j<bs.length:=(Aa.1 h).1
 unfold mT;rw[rF h,tT (by simp;omega),Bh,h];simp
theorem mR {bs:List α}:mT g bs 0=bs:=by simp[mT]
theorem aTf {bs:List α}:mT g bs bs.length=bs.map g:=by simp[mT]
theorem zF {bs:List α}{j:Nat}(h:bs.length≤j):mT g bs j=bs.map g:=by unfold mT;rw[Ba h,List.drop_eq_nil_of_le h,Ax]
end
def sbB (sb:Core→Core) (b:Bind):Bind:=.mk b.name b.ty (sb b.body)
def sbA (sb:Core→Core) (a:Alt):Alt:=.mk a.form a.n a.name a.vars (sb a.body)
theorem vG:∀{l:List Alt}{k i:Nat}{a:Alt},aZ k (l.set i a)=(aZ k l).set i (dV (k+i) a)
 | [],_,_,_=>rfl
 | b::l,k,0,a=>rfl
 | b::l,k,i+1,a=>by
  simp only[C5,aZ];rw[vG (l:=l) (k:=k+1),show k+1+i=k+(i+1) by omega]
theorem aIm (sb:Core→Core):∀(l:List Alt) (k j:Nat),fam k (mT (sbA sb) l j)=fam k l
 | [],_,_=>by simp[mT]
 | a::l,k,0=>by rw[mR]
 | a::l,k,j+1=>by
  have e:mT (sbA sb) (a::l) (j+1)=sbA sb a::mT (sbA sb) l j:=rfl;rw[e];show(k+800,AObj.arr 9 1 (a.vars.map b6) 0)::fam (k+1) _=_;rw[aIm sb l (k+1) j];rfl
theorem aSe {f n:Int}{nm:Str}{t:Ty}{ks:List Core}{bs:List Bind}{al:List Alt}{r v:Nat}
  (hr:Nat.blt r 700=true) (hv:Nat.blt v 700=true) {u:St} (hF:FarEq u.h (fam 0 al)) (he:fL (fun p:Nat×V=>u.e p.1=some (p.2.ren (fun i=>i))) [(r,V.one (.vp r 0)),(v,V.one (.vp 700 0))])
  (hh:fL (fun p:Nat×AObj=>∃o,u.h p.1=some o∧Ole (fun i=>i) o p.2) (gHl f n nm t ks bs al)) (h6:∃o,u.h r=some o∧Ole (fun i=>i) o (.var 37 bO)) (hd:u.d=[]) (J:r≠v):
  Sub [] (mk [(r,.one (.vp r 0)),(v,.one (.vp 700 0))] [(r,.var 37 bO),(700,.var 37 (aW (.mk f n nm t ks bs al)))]) u:=by
 have hr':=Aq hr;have hv':=Aq hv;have Z:TF (fam 0 al):=gJ;have N:∀x∈pI [(r,V.one (.vp r 0)),(v,V.one (.vp 700 0))],x=r∨x=700:=fun x hx=>by simpa [pI,V.refs,R.refs] using hx
 have I:Go.AM.distinct (List.map (fun p:Nat×AObj=>p.1) (oHl ks bs al++[(700,.var 37 (eW f n nm t ks.length bs.length al.length)),(r,.var 37 bO)]))=true:=by
  refine gM ?_;simp[oHl];omega
 have Y:((oHl ks bs al++[(700,AObj.var 37 (eW f n nm t ks.length bs.length al.length)),(r,.var 37 bO)]).all fun p=>Nat.blt p.1 800)=true:=by
  simp[oHl,aKt (show r<800 by omega)]
 have s1:Sub [] (mkt [(r,.one (.vp r 0)),(v,.one (.vp 700 0))] (oHl ks bs al++[(700,.var 37 (eW f n nm t ks.length bs.length al.length)),(r,.var 37 bO)]) (fam 0 al)) u:=by
  obtain⟨h0,h1,h2,h3,_⟩:=hh;refine slT Z hF (fun x hx=>.inl ?_) (fun x hx=>?_) (fun _ h=>by cases h) (he:=he) (hh:=⟨h1,h2,h3,h0,h6,trivial⟩) (hd:=hd) (h3:=I) (h3':=Y)
  ·rcases N x hx with rfl | rfl<;>simp[oHl,keys]
  ·rw[jE] at hx;rcases τ.1 hx with hx | hx
   ·exact .inr (dG x (by simpa [oHl,dU,AObj.refs] using hx))
   ·refine .inl ?_;have hx:x=702∨x=701∨x=703:=by simpa [dU,AObj.refs,eW,bO,R.refsL,R.refs] using hx
    rcases hx with rfl | rfl | rfl<;>simp[oHl,keys]
 have s2:=qS (kf:=[]) (el:=[(r,.one (.vp r 0)),(v,.one (.vp 700 0))]) (ex:=[(700,.var 37 (eW f n nm t ks.length bs.length al.length)),(r,.var 37 bO)]) (ks:=ks) (bs:=bs) (al:=al) (by simp)
  (fun x hx=>by
    rcases N x hx with rfl | rfl
    ·exact .inr (.inl (by simp[keys]))
    ·exact .inr (.inl (by simp[keys])))
  ⟨fun x hx=>by
    have hx:x=702∨x=701∨x=703:=by simpa [AObj.refs,eW,R.refsL,R.refs] using hx
    rcases hx with rfl | rfl | rfl<;>exact .inl (by simp[oHl,keys]),fun x hx=>by simp[AObj.refs,bO,R.refsL,R.refs] at hx,trivial⟩
  (fun _ h=>by cases h) I (by simp[aKt (show r<800 by omega)]) (by simp;exact J) (fun p hp=>by
   rcases Ap.1 hp with rfl | hp
   ·rfl
   ·rw[ε.1 hp];rfl)
 have e1:fzH 703 (.ra al.length 14 (aZ 0 al).flatten) ([(701,.arr 58 15 (aQ bs) 2),(702,.arr 37 10 (aO ks) 2)]++[(700,.var 37 (eW f n nm t ks.length bs.length al.length)),(r,.var 37 bO)])
   =[(701,.arr 58 15 (aQ bs) 2),(702,.arr 37 10 (aO ks) 2),(700,.var 37 (kB f n nm t ks.length bs.length al)),(r,.var 37 bO)]:=by
  unfold eW kB;show [(701,_),(702,_),(700,AObj.var _ (R.fzL _ _ _)),(r,AObj.var _ (R.fzL _ _ _))]=_;simp only[R.fzL,R.fz,Ce,Cs,Bool.and_self];rfl
 have e2:fzE 703 (.ra al.length 14 (aZ 0 al).flatten) [(r,.one (.vp r 0)),(v,.one (.vp 700 0))]=[(r,.one (.vp r 0)),(v,.one (.vp 700 0))]:=rfl;rw[e1,e2] at s2;have aa:TF (zP (fam 0 al)):=Z.frz;have ab:(([(701,AObj.arr 58 15 (aQ bs) 2),(702,.arr 37 10 (aO ks) 2),(700,.var 37 (kB f n nm t ks.length bs.length al)),(r,.var 37 bO)]:List (Nat×AObj)).all fun p=>Nat.blt p.1 800)=true:=by simp[aKt (show r<800 by omega)]
 obtain⟨ids,hp⟩:=u4 (h:=(mkt [(r,.one (.vp r 0)),(v,.one (.vp 700 0))] [(701,.arr 58 15 (aQ bs) 2),(702,.arr 37 10 (aO ks) 2),(700,.var 37 (kB f n nm t ks.length bs.length al)),(r,.var 37 bO)] (zP (fam 0 al))).h) (f:=f) (n:=n) (s:=nm) (t:=t) (ks:=ks) (bs:=bs) (al:=al) rfl rfl (FarEq.mkt aa ab);have s3:=Sub.varPure (kf:=[]) (st:=mkt [(r,.one (.vp r 0)),(v,.one (.vp 700 0))] [(701,.arr 58 15 (aQ bs) 2),(702,.arr 37 10 (aO ks) 2),(700,.var 37 (kB f n nm t ks.length bs.length al)),(r,.var 37 bO)] (zP (fam 0 al))) (x:=700) (tv:=37) rfl hp;refine Sub.trans ?_ (Sub.trans s3 (Sub.trans s2 s1));have O:r≠700:=by omega
 refine Sub.list (fun i=>i) ?_ ?_ ?_
 ·have hrv:Nat.beq v r=false:=xQ (Ne.symm J);refine⟨?_,?_,trivial⟩
  ·show Go.AM.look [(r,V.one (.vp r 0)),(v,V.one (.vp 700 0))] r=_;rw[dP];rfl
  ·show Go.AM.look [(r,V.one (.vp r 0)),(v,V.one (.vp 700 0))] v=_;rw[eQ (Ne.symm J),dP];rfl
 ·refine⟨⟨.var 37 bO,?_,.var rfl⟩,⟨.var 37 (aW (.mk f n nm t ks bs al)),?_,.var (aMz _).symm⟩,trivial⟩
  ·show upd _ 700 _ r=_;rw[bJ _ _ _ O];show(match Go.AM.look [(701,AObj.arr 58 15 (aQ bs) 2),(702,.arr 37 10 (aO ks) 2),(700,.var 37 (kB f n nm t ks.length bs.length al)),(r,.var 37 bO)] r with | some x=>some x | none=>_)=_;rw[eQ (by omega),eQ (by omega),eQ (by omega),dP]
  ·dsimp only;rw[aM];rfl
 ·simp only[a0j,Aj];refine⟨⟨⟨⟨⟨fG fun x hx=>?_,fG fun x hx=>?_⟩,gM ?_⟩,rfl⟩,rfl⟩,rfl⟩
  ·rcases N x hx with rfl | rfl<;>simp
  ·have:x∈R.refsL bO++(R.refsL (aW (.mk f n nm t ks bs al))++[]):=hx;simp[bO,aW,aB,R.refsL,R.refs] at this
  ·simp;exact O
theorem aQi (f n:Int) (nm name:Str) (t J:Ty) (ks:List Core) (bs:List Bind) (al:List Alt)
  (N:aY (.mk f n nm t ks bs al)≤570000000000) (Z:allT TyG (.mk f n nm t ks bs al)) (h7:f=7)
  (hs:nm=name∨(nm≠name∧∃tl:List Str,aU Tryz.prog 74 [.pa (aB (.mk f n nm t ks bs al))] [] (aV tl) []∧¬name∈tl∧tl.length≤540000000000)):
  aU Tryz.prog 31 [.pa (aB (.mk f n nm t ks bs al)),Go.AM.T name,tyV J] [] (.pa (aB (.mk f n nm t ks bs al))) []:=by
 have u:=uV (aY (.mk f n nm t ks bs al)) _ (le_refl _) N Z;have u:aU Tryz.prog 47 [.pa (aB (.mk f n nm t ks bs al))] [] (.pa (aB (.mk f n nm t ks bs al))) []:=u;have O:decide (f=7)=true:=Ad h7;refine bQ (n:=84) tok Tryz.func31 rfl rfl rfl ?_;refine sg rfl (sk 1 rfl (kc u ?_));refine kz 2 rfl (a8 (sg rfl (aA rfl (fun _=>?_) (fun hb=>?_))))
 ·refine a8 (a8 ?_);rcases hs with h | ⟨h,tl,Y,hn,hl⟩
  ·have hd:decide (nm=name)=true:=Ad h;exact ag [(4,.bv true),(10,.bv true)] rfl (aA rfl (fun _=>sg rfl (aE (rtC trw))) nofun)
  ·have hd:decide (nm=name)=false:=Ae h;have I:=c9 tl name (by omega);rw[Ae hn] at I;refine aI mixed (ak 6 [(4,.bv false)] rfl (kcG Y ?_));refine ak 1 [(4,.bv false)] rfl (kcG I ?_);exact ak 2 [(4,.bv false),(10,.bv false)] rfl (az (aA rfl (fun _=>sg rfl (aE (rtC trw))) nofun))
 ·exact absurd (show decide (f=7)=false from hb) (by rw[O];decide)
def gHm (f n:Int) (s:Str) (t:Ty) (nk nb na:Nat) (ks:List Core) (bs:List Bind) (al:List Alt):List (Nat×AObj):=
 [(700,.var 37 (eW f n s t nk nb na)),(701,.arr 58 15 (aQ bs) 0),(702,.arr 37 10 (aO ks) 0),(703,.rarr 88 14 (aZ 0 al))]
theorem gWm {f n:Int}{s:Str}{t:Ty}{nk nb u:Nat}{ks:List Core}{bs:List Bind}{al A:List Alt}(h:fam 0 A=fam 0 al):GW (gHm f n s t nk nb u ks bs A) (fam 0 al):=by
 rw[←h];refine⟨gJ,fun x hx=>?_,rfl,rfl⟩;simp only[gHm,dU,AObj.refs,eW,R.refsL,R.refs,A0,Ax,τ,Ap,List.not_mem_nil,or_false,false_or] at hx;rcases hx with(rfl | rfl | rfl) | hx
 ·exact .inl (by simp[gHm,keys])
 ·exact .inl (by simp[gHm,keys])
 ·exact .inl (by simp[gHm,keys])
 ·exact .inr (dG x hx)
def gK (sb:Core→Core) (ks:List Core):Nat→List Core
 | 0=>ks
 | _+1=>ks.map sb
def gB (sb:Core→Core) (bs:List Bind):Nat→List Bind
 | 0=>bs
 | _+1=>bs.map (sbB sb)
def gA (sb:Core→Core) (al:List Alt):Nat→List Alt
 | 0=>al
 | i+1=>mT (sbA sb) al i
theorem aPe {sb:Core→Core}{al:List Alt}:∀g,fam 0 (gA sb al g)=fam 0 al
 | 0=>rfl
 | i+1=>aIm sb al 0 i
theorem kbE (l:List Bind):l.length=(aQ l).length:=by rw[bH,θ]
theorem kcE (l:List Core):l.length=(aO l).length:=by rw[aR,θ]
theorem aCt (f n:Int) (nm nm1 name:Str) (t J:Ty) (ks ks1:List Core) (bs:List Bind) (al:List Alt) (ts:Ty→Ty) (sb:Core→Core)
  (hcs:aY (.mk f n nm t ks bs al)≤570000000000) (hT:allT TyG (.mk f n nm t ks bs al)) (hkl:ks1.length=ks.length)
  (h7:f=7→nm≠name∧bs=[]∧al=[]∧∃tl fr:List Str,aU Tryz.prog 74 [.pa (aB (.mk f n nm t ks bs al))] [] (aV tl) []∧name∈tl∧tl.length≤540000000000∧aU Tryz.prog 76 [tyV J] [] (aV fr) []∧
   aU Tryz.prog 75 [.one (.vp 700 0),aV fr] (gHl f n nm t ks [] []) (.tup []) (gHl f n nm1 t ks1 [] []))
  (hn7:f≠7→nm1=nm∧ks1=ks)
  (hts:∀u,(u=t∨∃b∈bs,u=b.ty)→aU Tryz.prog 78 [tyV u,aV [name],.one (.c (.sl 4 [bD J]))] [] (tyV (ts u)) [])
  (ah:∀x,(x∈ks1∨(∃b∈bs,x=b.body)∨∃a∈al,x=a.body)→aU Tryz.prog 31 [.pa (aB x),Go.AM.T name,tyV J] [] (.pa (aB (sb x))) []):
  aU Tryz.prog 31 [.pa (aB (.mk f n nm t ks bs al)),Go.AM.T name,tyV J] [] (.pa (aB (gE ts sb (.mk f n nm1 t ks1 bs al)))) []:=by
 have ac:=aWz (.mk f n nm t ks bs al) hcs hT;have ac:aU Tryz.prog 47 [.pa (aB (.mk f n nm t ks bs al))] [] (.ma (eW f n nm t ks.length bs.length al.length)) (oHl ks bs al++fam 0 al):=ac;have O:TF (fam 0 al):=gJ;refine bQ (n:=84) tok Tryz.func31 rfl rfl rfl ?_;refine sg rfl (sk 1 rfl (kc ac ?_ (hout':=fL.app ⟨.inr rfl,.inr rfl,.inr rfl,trivial⟩ (fL.of fun p hp=>.inr ((show iO _ by repeat (first | exact iO.nil | (refine iO.updL ?_) | (refine iO.upd ?_))) p.1 (O.far p hp))))));rw[sX O];refine ak 2 [(2,.id 700)] rfl (az (AWp.sub (st2:=mkt [(3,.one (.vp 3 0)),(4,.one (.vp 4 0)),(5,.one (.vp 5 0)),(6,.one (.vp 6 0)),(7,.one (.vp 700 0))] ([(3,.var 37 (aW (.mk f n nm t ks bs al))),(4,.var 9 [.c (.str name)]),(5,.var 33 ((bD J).map R.c)),(6,.var 37 bO)]++gHl f n nm t ks bs al) (fam 0 al)) (slG gW (fun _ h=>by cases h) (by repeat (first | exact FarEq.bif O (FarEq.outs O) | (refine FarEq.updL O ?_) | (refine FarEq.upd O ?_)))) ?_));refine a8 (AWp.cut (mkt [(4,.one (.vp 4 0)),(5,.one (.vp 5 0)),(6,.one (.vp 6 0)),(7,.one (.vp 700 0))] ([(4,.var 9 [.c (.str name)]),(5,.var 33 ((bD J).map R.c)),(6,.var 37 bO)]++gHl f n nm1 t ks1 bs al) (fam 0 al)) ?_ ?_)
 ·refine sg rfl (aA rfl (fun hb=>?_) (fun hb=>?_))
  ·have hf:f=7:=ψ (show decide (f=7)=true from hb);obtain⟨hne,rfl,rfl,tl,fr,hty,hin,hl,hfr,hcl⟩:=h7 hf;have hd:decide (nm=name)=false:=Ae hne;have hct:=c9 tl name (by omega);rw[Ad hin] at hct;refine a8 (skh 6 [(4,.bv false)] rfl (kcG hty ?_));refine ak 1 [(4,.bv false)] rfl (kcG hct ?_);refine ak 2 [(4,.bv false),(10,.bv false)] rfl (az (aA rfl nofun (fun _=>aD (aI mixed (ak 1 [] rfl (kc hfr ?_))))));refine kc hcl ?_;exact az (slG gW (fun _ h=>by cases h) (fun p hp=>by cases hp))
  ·have hf:f≠7:=χ (show decide (f=7)=false from hb);obtain⟨rfl,rfl⟩:=hn7 hf;exact aD (slG gW (fun _ h=>by cases h) (by repeat (first | exact FarEq.raw O | (refine FarEq.updL O ?_) | (refine FarEq.upd O ?_))))
 have hbK:∀j,(mT (fun b:Bind=>tsB ts b) bs j).length=bs.length:=fun j=>nX
 have h1:∀u,(u=t∨∃b∈bs,u=b.ty)→aU Tryz.prog 77 ([tyV u]++[R.vp 4 0,R.vp 5 0].map V.one) [(4,.var 9 [.c (.str name)]),(5,.var 33 ((bD J).map R.c))] (tyV (ts u)) [(4,.var 9 [.c (.str name)]),(5,.var 33 ((bD J).map R.c))]:=fun u hu=>a6b name J u (ts u) (hts u hu)
 have ht:=h1 t (.inl rfl);have hbE:=kbE bs;obtain⟨ihk,ihb,iha,hkl',hbl,hal⟩:= @iW f n nm t ks bs al;have hbl':bs.length≤570000000000:=by omega
 refine sg rfl (sk 3 rfl (kv (args:=[tyV t]) ht ?_));refine kz 2 rfl (a8 (sg rfl (aC ?_)));have hm0:mT (fun b:Bind=>tsB ts b) bs 0=bs:=mR;refine aK (fun i:Nat=>mkt [(4,.one (.vp 4 0)),(5,.one (.vp 5 0)),(6,.one (.vp 6 0)),(7,.one (.vp 700 0)),(8,.one (.clo 77 [.vp 4 0,.vp 5 0])),(42,I .i64 ((bs.length:Nat):Int)),(43,I .i64 i)] ([(4,.var 9 [.c (.str name)]),(5,.var 33 ((bD J).map R.c)),(6,.var 37 bO)]++gHl f n nm1 (ts t) ks1 (mT (fun b:Bind=>tsB ts b) bs i) al) (fam 0 al)) (fun i=>i≤bs.length) (fun i=>bs.length-i) 0 (Ag _) ?_ ?_
 ·rw[hm0];exact slG gW (fun _ h=>by cases h) (by repeat (first | exact FarEq.raw O | (refine FarEq.updL O ?_) | (refine FarEq.upd O ?_)))
 intro i hi;have hBl:=nX (g:=fun b:Bind=>tsB ts b) (bs:=bs) (j:=i);have hBe:=kbE (mT (fun b:Bind=>tsB ts b) bs i);refine sg rfl (a8 (aA rfl (fun hb=>?_) (fun hb=>?_)))
 ·have ai:i<bs.length:=by
   have:(i:Int)<(bs.length:Int):=ψ hb;omega
  obtain⟨b,Z⟩:=aJ ai;have hat:=bX (zG (g:=fun b:Bind=>tsB ts b) Z);have ab:=pO (g:=fun b:Bind=>tsB ts b) Z;have hl2:=nX (g:=fun b:Bind=>tsB ts b) (bs:=bs) (j:=i+1);have hbt:=h1 b.ty (.inr ⟨b,η Z,rfl⟩);rw[ab] at hl2;generalize mT (fun b:Bind=>tsB ts b) bs i=B at *;have hltB:i<B.length:=by omega
  refine aD (a8 (aC (sg rfl (aI mixed (ak 10 [(9,.row i (b8 b))] rfl (kv (args:=[tyV b.ty]) hbt ?_))))));refine ak 3 [(13,.row i (b8 b))] rfl (az (ag [] rfl ⟨i+1,ai,by dsimp only;omega,?_⟩));dsimp only;rw[ab];refine slG gW (fun _ h=>by cases h) (hh:=⟨⟨_,rfl,.var rfl⟩,⟨_,rfl,.var rfl⟩,⟨_,rfl,.var rfl⟩,⟨_,rfl,.varS ?_⟩,⟨_,rfl,.arrS ?_⟩,⟨_,rfl,.arr⟩,⟨_,rfl,.rarrS rfl⟩,trivial⟩)
  ·rw[Cq]
  ·exact k9 B i (tsB ts b)
 refine aL ?_;have aj:bs.length≤i:=by
  have:¬(i:Int)<(bs.length:Int):=χ hb;omega
 rw[zF aj] at hBl hBe ⊢;have hsbB:∀x∈bs.map (fun b:Bind=>tsB ts b),aU Tryz.prog 31 [.pa (aB x.body),Go.AM.T name,tyV J] [] (.pa (aB (sb x.body))) []:=fun x hx=>by
  obtain⟨b,hb,rfl⟩:=Af.1 hx;exact ah b.body (.inr (.inl ⟨b,hb,rfl⟩))
 have eR:aB (gE ts sb (.mk f n nm1 t ks1 bs al))=aB (.mk f n nm1 (ts t) (ks1.map sb) ((bs.map fun b:Bind=>tsB ts b).map (sbB sb)) (al.map (sbA sb))):=by
  rw[A8];rfl
 rw[eR];have hB1l:(bs.map fun b:Bind=>tsB ts b).length≤570000000000:=by rw[θ];exact hbl'
 clear hBl aj hb hbK hm0 ht h1 ac eR hbE;generalize (bs.map fun b:Bind=>tsB ts b)=B1 at *;generalize ts t=t1 at *;have hk1l:ks1.length≤570000000000:=by omega
 have hal':al.length≤570000000000:=by omega
 have hgr:=uW (decide (f=5)) f n nm1 t1 ks1 B1 al rfl (by omega) (by omega) (by omega) (fun a ha=>by
  have hav:=gS ha;have hvl:=qO a
  rw[aY] at hcs;omega)
 have ad:=oV (f:=f) (n:=n) (s:=nm1) (t:=t1) (ks:=ks1) (bs:=B1) (al:=al) (decide (f=5)) al.length;rw[Al] at ad;have hgl:(cO (decide (f=5)) ks1.length B1.length al.length al).length=1+al.length:=aYu;have hra:gfo f n nm1 t1 ks1 B1 al (R.refsL (cO (decide (f=5)) ks1.length B1.length al.length al).flatten):=by rw[dN];exact ad
 have am:(cO (decide (f=5)) ks1.length B1.length al.length al)[0]?=some (rD (decide (f=5)) ks1.length B1.length):=aYw;have hgA:∀i a,al[i]?=some a→(cO (decide (f=5)) ks1.length B1.length al.length al)[i+1]?=some (nN al.length i a):=fun i a h=>aYv h
 have ap:∀k r,(cO (decide (f=5)) ks1.length B1.length al.length al)[k]?=some r→((cO (decide (f=5)) ks1.length B1.length al.length al).flatten.drop (k*2)).take 2=r:=fF aE6;generalize cO (decide (f=5)) ks1.length B1.length al.length al=G at hgr hgl hra am hgA ap;generalize decide (f=5)=b5 at am;refine a8 (a8 (aI mixed (kc hgr ?_ (hin':=fL.app ⟨rfl,rfl,rfl,rfl,trivial⟩ (FarEq.raw O).all) (hout':=fL.of fun p hp=>.inl (Af.2 ⟨p,hp,rfl⟩)) (hok:=p9 O (fun x hx=>.inl (bY (show subset _ _=true from rfl) x hx)) sU))));refine kz 2 rfl (AWp.sub (Sub.outsT O) ?_);refine aC ?_;have Y:∀K B A ex,∀x∈R.refsL G.flatten,Kn ex (gHm f n nm1 t1 ks1.length B1.length al.length K B A) (fam 0 al) x:=fun K B A ex=>Kn.gf hra
 refine aK (fun g:Nat=>mkt [(4,.one (.vp 4 0)),(5,.one (.vp 5 0)),(6,.one (.vp 6 0)),(7,.one (.vp 700 0)),(60,.one (.ras G.length 2 G.flatten)),(61,I .i64 ((G.length:Nat):Int)),(62,I .i64 g)] ([(4,.var 9 [.c (.str name)]),(5,.var 33 ((bD J).map R.c)),(6,.var 37 bO)]++gHm f n nm1 t1 ks1.length B1.length al.length (gK sb ks1 g) (gB sb B1 g) (gA sb al g)) (fam 0 al)) (fun g=>g≤G.length) (fun g=>G.length-g) 0 (Ag _) (slG (gWm rfl) (fun _ h=>by cases h) (FarEq.bif O (FarEq.outs O)) (h1:=Kn.app (Kn.of rfl) (Kn.app (Kn.of rfl) (Kn.app (Kn.of rfl) (Kn.app (Kn.of rfl) (Kn.app (Y _ _ _ _) Kn.nil)))))) ?_;intro g hg;refine sg rfl (a8 (aA rfl (fun hb=>?_) (fun hb=>?_)))
 ·have ai:g<G.length:=by
   have:(g:Int)<(G.length:Int):=ψ hb;omega
  refine aD ?_;cases g with
  | zero=>
   have ht0:=ap 0 _ am;have hpl:(pR ks1.length B1.length B1.length).length=ks1.length+B1.length:=aN1;have hpr0:gfo f n nm1 t1 ks1 B1 al (R.refsL (pR ks1.length B1.length B1.length).flatten):=by rw[dN];exact aR1 _ _ _
   have aq:∀K B A ex,∀x∈R.refsL (pR ks1.length B1.length B1.length).flatten,Kn ex (gHm f n nm1 t1 ks1.length B1.length al.length K B A) (fam 0 al) x:=fun K B A ex=>Kn.gf hpr0
   have hpt:∀k r,(pR ks1.length B1.length B1.length)[k]?=some r→((pR ks1.length B1.length B1.length).flatten.drop (k*1)).take 1=r:=fF wV;have hp1:∀j,j<ks1.length→(pR ks1.length B1.length B1.length)[j]?=some [.ep 702 j 0 ks1.length]:=fun j h=>aN3 h
   have hp2:∀j,j<B1.length→(pR ks1.length B1.length B1.length)[ks1.length+j]?=some [.ep 701 j 5 B1.length]:=fun j h=>aN2 h
   refine a8 (aC (sgh [(0,.rowR 0 (rD b5 ks1.length B1.length))] rfl (sg rfl (aC ?_))));have e0K:mT sb ks1 0=ks1:=mR;have e0B:mT (sbB sb) B1 (0-ks1.length)=B1:=by rw[Nat.zero_sub];exact mR
   refine aK (fun j:Nat=>mkt [(4,.one (.vp 4 0)),(5,.one (.vp 5 0)),(6,.one (.vp 6 0)),(7,.one (.vp 700 0)),(60,.one (.ras G.length 2 G.flatten)),(61,I .i64 ((G.length:Nat):Int)),(62,I .i64 (0:Nat)),(67,.one (.ras (pR ks1.length B1.length B1.length).length 1 (pR ks1.length B1.length B1.length).flatten)),(68,I .i64 (((pR ks1.length B1.length B1.length).length:Nat):Int)),(69,I .i64 j)] ([(4,.var 9 [.c (.str name)]),(5,.var 33 ((bD J).map R.c)),(6,.var 37 bO)]++gHm f n nm1 t1 ks1.length B1.length al.length (mT sb ks1 j) (mT (sbB sb) B1 (j-ks1.length)) al) (fam 0 al)) (fun j=>j≤(pR ks1.length B1.length B1.length).length) (fun j=>(pR ks1.length B1.length B1.length).length-j) 0 (Ag _) ?_ ?_
   ·rw[e0K,e0B];exact slG (gWm rfl) (fun _ h=>by cases h) (h1:=Kn.app (Kn.of rfl) (Kn.app (Kn.of rfl) (Kn.app (Kn.of rfl) (Kn.app (Kn.of rfl) (Kn.app (Y _ _ _ _) (Kn.app Kn.nil (Kn.app Kn.nil (Kn.app (aq _ _ _ _) Kn.nil))))))))
   intro j hj;refine sg rfl (a8 (aA rfl (fun hb=>?_) (fun hb=>?_)))
   ·have ar:j<(pR ks1.length B1.length B1.length).length:=by
     have:(j:Int)<((pR ks1.length B1.length B1.length).length:Int):=ψ hb;omega
    refine aD ?_;by_cases hjk:j<ks1.length
    ·obtain⟨k,au⟩:=aJ hjk;have hki':=dB (zG (g:=sb) au);have ab:=pO (g:=sb) au;have hc:=ah k (.inl (η au));have ht1:=hpt j _ (hp1 j hjk);have hle:=(nX (g:=sb) (bs:=ks1) (j:=j)).symm.trans (kcE (mT sb ks1 j));have av:j+1-ks1.length=j-ks1.length:=by omega
     have aa:=rZ (mT sb ks1 j) j (sb k);refine a8 (aC (sgh [(0,.rowR j [.ep 702 j 0 ks1.length])] rfl (aI mixed (ak 6 [(3,.row j (aB k))] rfl (kc hc ?_)))));refine ak 2 [(8,.row j (aB k))] rfl (az (ag [] rfl ⟨j+1,ar,by dsimp only;omega,?_⟩));dsimp only;rw[av,ab];exact slG (gWm rfl) (fun _ h=>by cases h) (h1:=Kn.app (Kn.of rfl) (Kn.app (Kn.of rfl) (Kn.app (Kn.of rfl) (Kn.app (Kn.of rfl) (Kn.app (Y _ _ _ _) (Kn.app Kn.nil (Kn.app Kn.nil (Kn.app (aq _ _ _ _) Kn.nil)))))))) (hh:=⟨⟨_,rfl,.var rfl⟩,⟨_,rfl,.var rfl⟩,⟨_,rfl,.var rfl⟩,⟨_,rfl,.var rfl⟩,⟨_,rfl,.arr⟩,⟨_,rfl,.arrS aa⟩,⟨_,rfl,.rarrS rfl⟩,trivial⟩)
    ·obtain⟨N,rfl⟩:∃N,j=ks1.length+N:=⟨j-ks1.length,by omega⟩
     have hjb:N<B1.length:=by omega
     obtain⟨x,Z⟩:=aJ hjb;have eK:∀N,mT sb ks1 (ks1.length+N)=ks1.map sb:=fun N=>zF (by omega)
     have e1:ks1.length+N-ks1.length=N:=by omega
     have e2:ks1.length+N+1-ks1.length=N+1:=by omega
     have hbi':=bX (zG (g:=sbB sb) Z);have ab:=pO (g:=sbB sb) Z;have hc:=hsbB x (η Z);have ht1:=hpt (ks1.length+N) _ (hp2 N hjb);have hle:=(nX (g:=sbB sb) (bs:=B1) (j:=N)).symm.trans (kbE (mT (sbB sb) B1 N));have aa:=k9 (mT (sbB sb) B1 N) N (sbB sb x);rw[e1];refine a8 (aC (sgh [(0,.rowR (ks1.length+N) [.ep 701 N 5 B1.length])] rfl (aI mixed (ak 6 [(3,.row N (b8 x))] rfl (kc hc ?_)))));refine ak 2 [(8,.row N (b8 x))] rfl (az (ag [] rfl ⟨ks1.length+N+1,ar,by dsimp only;omega,?_⟩));dsimp only;rw[e2,ab,eK,Br,eK];refine slG (gWm rfl) (fun _ h=>by cases h) (h1:=Kn.app (Kn.of rfl) (Kn.app (Kn.of rfl) (Kn.app (Kn.of rfl) (Kn.app (Kn.of rfl) (Kn.app (Y _ _ _ _) (Kn.app Kn.nil (Kn.app Kn.nil (Kn.app (aq _ _ _ _) Kn.nil)))))))) (hh:=⟨⟨_,rfl,.var rfl⟩,⟨_,rfl,.var rfl⟩,⟨_,rfl,.var rfl⟩,⟨_,rfl,.var rfl⟩,⟨_,rfl,.arrS aa⟩,⟨_,rfl,.arr⟩,⟨_,rfl,.rarrS rfl⟩,trivial⟩)
   refine aL ?_;have aj:j=ks1.length+B1.length:=by
    have:¬(j:Int)<((pR ks1.length B1.length B1.length).length:Int):=χ hb;omega
   have eK:mT sb ks1 j=ks1.map sb:=zF (by omega);have eB:mT (sbB sb) B1 (j-ks1.length)=B1.map (sbB sb):=zF (by omega);have eA:gA sb al 1=al:=mR;rw[eK,eB];refine ag [] rfl ⟨1,by omega,by dsimp only;omega,?_⟩;dsimp only;rw[eA];exact slG (gWm rfl) (fun _ h=>by cases h) (h1:=Kn.app (Kn.of rfl) (Kn.app (Kn.of rfl) (Kn.app (Kn.of rfl) (Kn.app (Kn.of rfl) (Kn.app (Y _ _ _ _) Kn.nil)))))
  | succ i=>
   have hia:i<al.length:=by omega
   obtain⟨a,ae⟩:=aJ hia;have ht0:=ap (i+1) _ (hgA i a ae);have hf1:fam 0 (gA sb al (i+1))=fam 0 al:=aPe (i+1);have hf2:fam 0 (gA sb al (i+1+1))=fam 0 al:=aPe (i+1+1);have hrow:(aZ 0 (gA sb al (i+1)))[i]?=some (dV i a):=by
    have:=o8 (k:=0) (zG (g:=sbA sb) ae);rwa [Bc] at this
   have hle:al.length=(aZ 0 (gA sb al (i+1))).length:=by rw[eU];exact(nX (g:=sbA sb)).symm
   have hc:=ah a.body (.inr (.inr ⟨a,η ae,rfl⟩));have aa:aZ 0 (gA sb al (i+1+1))=(aZ 0 (gA sb al (i+1))).set i (dV i (sbA sb a)):=by
    show aZ 0 (mT (sbA sb) al (i+1))=_;rw[pO ae,vG,Bc];rfl
   have z1:gK sb ks1 (i+1+1)=gK sb ks1 (i+1):=rfl;have z2:gB sb B1 (i+1+1)=gB sb B1 (i+1):=rfl;refine a8 (aC (sgh [(0,.rowR (i+1) (nN al.length i a))] rfl (sg rfl (aC (aK (fun j:Nat=>mkt [(4,.one (.vp 4 0)),(5,.one (.vp 5 0)),(6,.one (.vp 6 0)),(7,.one (.vp 700 0)),(60,.one (.ras G.length 2 G.flatten)),(61,I .i64 ((G.length:Nat):Int)),(62,I .i64 ((i+1:Nat):Int)),(67,.one (.ras 1 1 [.rp 703 i 4 al.length])),(68,I .i64 ((1:Nat):Int)),(69,I .i64 j)] ([(4,.var 9 [.c (.str name)]),(5,.var 33 ((bD J).map R.c)),(6,.var 37 bO)]++gHm f n nm1 t1 ks1.length B1.length al.length (gK sb ks1 (i+1)) (gB sb B1 (i+1)) (gA sb al (i+1+j))) (fam 0 al)) (fun j=>j≤1) (fun j=>1-j) 0 (Ag _) (slG (gWm hf1) (fun _ h=>by cases h) (h1:=Kn.app (Kn.of rfl) (Kn.app (Kn.of rfl) (Kn.app (Kn.of rfl) (Kn.app (Kn.of rfl) (Kn.app (Y _ _ _ _) (Kn.of rfl))))))) ?_)))));intro j hj;refine sg rfl (a8 (aA rfl (fun hb=>?_) (fun hb=>?_)))
   ·have av:j=0:=by
     have:(j:Int)<((1:Nat):Int):=ψ hb;omega
    subst av;refine aD (a8 (aC (sg rfl (aI mixed (ak 6 [(3,.rr (dV i a))] rfl (kc hc ?_))))));refine ak 2 [(8,.rr (dV i a))] rfl (az (ag [] rfl ⟨1,le_refl _,by dsimp only;omega,?_⟩));exact slG (gWm hf2) (fun _ h=>by cases h) (h1:=Kn.app (Kn.of rfl) (Kn.app (Kn.of rfl) (Kn.app (Kn.of rfl) (Kn.app (Kn.of rfl) (Kn.app (Y _ _ _ _) (Kn.of rfl)))))) (hh:=⟨⟨_,rfl,.var rfl⟩,⟨_,rfl,.var rfl⟩,⟨_,rfl,.var rfl⟩,⟨_,rfl,.var rfl⟩,⟨_,rfl,.arr⟩,⟨_,rfl,.arr⟩,⟨_,rfl,.rarrS aa.symm⟩,trivial⟩)
   refine aL ?_;have hj1:j=1:=by
    have:¬(j:Int)<((1:Nat):Int):=χ hb;omega
   subst hj1;refine ag [] rfl ⟨i+1+1,by omega,by dsimp only;omega,?_⟩;exact slG (gWm hf2) (fun _ h=>by cases h) (h1:=Kn.app (Kn.of rfl) (Kn.app (Kn.of rfl) (Kn.app (Kn.of rfl) (Kn.app (Kn.of rfl) (Kn.app (Y _ _ _ _) Kn.nil)))))
 have hgs:g=al.length+1:=by
  have:¬(g:Int)<(G.length:Int):=χ hb;omega
 subst hgs;refine aL ?_;have eA:gA sb al (al.length+1)=al.map (sbA sb):=aTf;have eF:fam 0 (al.map (sbA sb))=fam 0 al:=by rw[←eA];exact aPe _
 have lA:(al.map (sbA sb)).length=al.length:=θ _;have lB:(B1.map (sbB sb)).length=B1.length:=θ _;have lK:(ks1.map sb).length=ks1.length:=θ _;rw[eA];have z1:gK sb ks1 (al.length+1)=ks1.map sb:=rfl;have z2:gB sb B1 (al.length+1)=B1.map (sbB sb):=rfl;rw[z1,z2];generalize al.map (sbA sb)=A2 at *;generalize B1.map (sbB sb)=B2 at *;generalize ks1.map sb=K2 at *;refine AWp.sub (aSe (f:=f) (n:=n) (nm:=nm1) (t:=t1) (ks:=K2) (bs:=B2) (al:=A2) (r:=6) (v:=7) rfl rfl (by rw[eF];repeat (first | exact FarEq.raw O | (refine FarEq.updL O ?_) | (refine FarEq.upd O ?_))) ⟨rfl,rfl,trivial⟩ ⟨⟨_,rfl,.varS (by rw[lK,lB,lA])⟩,⟨_,rfl,.arr⟩,⟨_,rfl,.arr⟩,⟨_,rfl,.rarrS rfl⟩,trivial⟩ ⟨_,rfl,.var rfl⟩ rfl (by decide)) ?_;exact sg rfl (aE (rtC trw))
theorem aHm {l:List Str}{k:Nat}(h:∀s∈l,s.length≤k) (n:Int):(oneOf l n).length≤k:=by
 unfold oneOf;cases hx:l[(oM n l.length).toNat]? with
 | none=>exact Ag _
 | some s=>exact h s (η hx)
theorem qN {f n:Int}{s:Str}(h4:¬f=4) (h5:¬f=5):wfT (.mk f n s [])=true:=by rw[wfT,φ h4,φ h5,aU2];rfl
theorem aD6 {f n:Int}{s:Str}:tn (.mk f n s [])=1+s.length:=by rw[tn,tns,By]
theorem aDy {a b:Ty}(ha:wfT a=true) (hb:wfT b=true):wfT (aA8 a b)=true:=by
 unfold aA8;rw[wfT,ξ rfl,aU2,aU2,aU2,ha,hb];rfl
theorem aD5 (a b:Ty):tn (aA8 a b)=1+tn a+tn b:=by unfold aA8;rw[tn,tns,tns,tns];simp;omega
def tsm:Nat→Nat
 | 0=>6
 | f+1=>2*tsm f+6
theorem a0x:∀f,6≤tsm f
 | 0=>le_refl _
 | f+1=>by rw[tsm];omega
theorem a6l:∀s∈lT,s.length≤1:=by decide
theorem aD1:∀(f:Nat) (l:List Int),wfT (cR f l).1=true∧tn (cR f l).1≤tsm f
 | 0,l=>by
  have h1:=aHm a6l ((b9 l).1/6);unfold cR;split
  ·exact⟨qN (by decide) (by decide),by rw[aD6,tsm];omega⟩
  ·exact⟨qN (by decide) (by decide),by show tn vQ≤6;decide⟩
 | f+1,l=>by
  have h1:=aHm a6l ((b9 l).1/6);obtain⟨u,a2⟩:=aD1 f (b9 l).2;obtain⟨I,J⟩:=aD1 f (cR f (b9 l).2).2;have N:=a0x f;unfold cR;split
  ·exact⟨qN (by decide) (by decide),by rw[aD6,tsm];omega⟩
  ·split
   ·have h4:tn vQ=4:=by decide
    exact⟨qN (by decide) (by decide),by rw[tsm];show tn vQ≤_;omega⟩
   ·split
    ·refine⟨aDy (aDy (qN (by decide) (by decide)) u) I,?_⟩;dsimp only[iZ];rw[aD5,aD5,aD6,tsm];have:arrow.length=2:=rfl;omega
    ·split
     ·refine⟨aDy (qN (by decide) (by decide)) u,?_⟩;dsimp only;rw[aD5,tsm];have:tn tL=2:=by decide
      omega
     ·refine⟨?_,?_⟩
      ·dsimp only;rw[wfT,φ (by decide),ξ rfl,aU2,aU2,u];rfl
      ·dsimp only;rw[tn,tns,tns,tsm];omega
mutual
def skT:Core→Core
 | .mk f n s _ ks bs al=>.mk f n (if f=7 then [] else s) zTy (a0h ks) (aSj bs) (a0i al)
def a0h:List Core→List Core
 | []=>[]
 | c::l=>skT c::a0h l
def aSj:List Bind→List Bind
 | []=>[]
 | .mk s _ c::l=>.mk s zTy (skT c)::aSj l
def a0i:List Alt→List Alt
 | []=>[]
 | .mk f n s vs c::l=>.mk f n s vs (skT c)::a0i l
end
def skB (b:Bind):Bind:=.mk b.name zTy (skT b.body)
def skA (a:Alt):Alt:=.mk a.form a.n a.name a.vars (skT a.body)
theorem yI:∀l:List Core,a0h l=l.map skT
 | []=>rfl
 | c::l=>by rw[a0h,yI l];rfl
theorem yJ:∀l:List Bind,aSj l=l.map skB
 | []=>rfl
 | .mk s t c::l=>by rw[aSj,yJ l];rfl
theorem yK:∀l:List Alt,a0i l=l.map skA
 | []=>rfl
 | .mk f n s vs c::l=>by rw[a0i,yK l];rfl
mutual
def wfC:Core→Bool
 | .mk f _ _ _ ks bs al=>(!decide (f=5∨f=6∨f=7) || (ks.length==1&&bs.isEmpty&&al.isEmpty))&&(!decide (f=1) || (ks.isEmpty&&bs.isEmpty&&al.isEmpty))&&aAz ks&&rT bs&&rU al
def aAz:List Core→Bool
 | []=>true
 | c::l=>wfC c&&aAz l
def rT:List Bind→Bool
 | []=>true
 | .mk _ _ c::l=>wfC c&&rT l
def rU:List Alt→Bool
 | []=>true
 | .mk _ _ _ _ c::l=>wfC c&&rU l
end
theorem aFt:∀{l:List Core},aAz l=true↔∀x∈l,wfC x=true
 | []=>by simp[aAz]
 | c::l=>by rw[aAz,Aj,aFt (l:=l)];simp
theorem aFu:∀{l:List Bind},rT l=true↔∀x∈l,wfC x.body=true
 | []=>by simp[rT]
 | .mk s t c::l=>by rw[rT,Aj,aFu (l:=l)];simp[Bind.body]
theorem aFw:∀{l:List Alt},rU l=true↔∀x∈l,wfC x.body=true
 | []=>by simp[rU]
 | .mk f n s vs c::l=>by rw[rU,Aj,aFw (l:=l)];simp[Alt.body]
theorem aU3 {f n:Int}{nm:Str}{t:Ty}{ks:List Core}{bs:List Bind}{al:List Alt}(h1:f=5∨f=6∨f=7→(∃k,ks=[k])∧bs=[]∧al=[]) (h0:f=1→ks=[]∧bs=[]∧al=[])
  (h3:∀x∈ks,wfC x=true) (h4:∀x∈bs,wfC x.body=true) (h5:∀x∈al,wfC x.body=true):wfC (.mk f n nm t ks bs al)=true:=by
 rw[wfC,Aj,Aj,Aj,Aj];refine⟨⟨⟨⟨?_,?_⟩,aFt.2 h3⟩,aFu.2 h4⟩,aFw.2 h5⟩
 ·by_cases hf:f=5∨f=6∨f=7
  ·obtain⟨⟨k,rfl⟩,rfl,rfl⟩:=h1 hf;simp
  ·rw[Ae hf];rfl
 ·by_cases hf:f=1
  ·obtain⟨rfl,rfl,rfl⟩:=h0 hf;simp
  ·rw[Ae hf];rfl
theorem wE:∀l:List Bind,(aSj l).map Bind.name=l.map Bind.name
 | []=>rfl
 | .mk s t c::l=>by rw[aSj,Am,Am,wE l];rfl
theorem a5q (f:Int) (s:Str) (bs:List Bind):gvN f (if f=7 then [] else s) (aSj bs)=gvN f s bs:=by
 unfold gvN;rw[wE];by_cases h5:f=5
 ·rw[φ (show ¬f=7 by omega)]
 ·rw[φ h5,φ h5]
mutual
theorem aNr:∀c:Core,pfR (skT c)=pfR c
 | .mk f n s t ks bs al=>by
  rw[skT,pfR,pfR,a5q,aVr _ ks,aVs _ bs,aVt al];by_cases h1:f=1
  ·rw[ξ h1,ξ h1,φ (show ¬f=7 by omega)]
  ·rw[φ h1,φ h1]
theorem aVr (G:List Str):∀(l:List Core) (o:List Str),jS G (a0h l) o=jS G l o
 | [],_=>rfl
 | c::l,o=>by rw[a0h,jS,jS,aNr c,aVr G l]
theorem aVs (G:List Str):∀(l:List Bind) (o:List Str),kP G (aSj l) o=kP G l o
 | [],_=>rfl
 | .mk s t c::l,o=>by rw[aSj,kP,kP,aNr c,aVs G l]
theorem aVt:∀(l:List Alt) (o:List Str),jQ (a0i l) o=jQ l o
 | [],_=>rfl
 | .mk f n s vs c::l,o=>by rw[a0i,jQ,jQ,aNr c,aVt l]
end
theorem aMj {ts:Ty→Ty}{sb:Core→Core}{f n:Int}{nm nm1:Str}{t:Ty}{ks ks1:List Core}{bs:List Bind}{al:List Alt}(hn:f≠7→nm1=nm) (hk:ks1.map skT=ks.map skT)
  (h1:∀x∈ks1,skT (sb x)=skT x) (h2:∀b∈bs,skT (sb b.body)=skT b.body) (h3:∀a∈al,skT (sb a.body)=skT a.body):
  skT (gE ts sb (.mk f n nm1 t ks1 bs al))=skT (.mk f n nm t ks bs al):=by
 rw[gE,skT,skT,yI,yI,yJ,yJ,yK,yK,A8,A8,A8];have u:ks1.map (skT∘sb)=ks.map skT:=by rw[←hk];exact Bf h1
 have I:bs.map (skB∘fun b=>Bind.mk b.name (ts b.ty) (sb b.body))=bs.map skB:=Bf fun b hb=>by
  show Bind.mk b.name zTy (skT (sb b.body))=_;rw[h2 b hb];rfl
 have J:al.map (skA∘fun a=>Alt.mk a.form a.n a.name a.vars (sb a.body))=al.map skA:=Bf fun a ha=>by
  show Alt.mk a.form a.n a.name a.vars (skT (sb a.body))=_;rw[h3 a ha];rfl
 rw[u,I,J];by_cases h7:f=7
 ·rw[ξ h7,ξ h7]
 ·rw[φ h7,φ h7,hn h7]
theorem aH1 {g:Core→Core}:∀{l:List Core},(∀x∈l,m30 (g x)≤m30 x)→dA (l.map g)≤dA l
 | [],_=>le_refl _
 | c::l,h=>by
  rw[Am,dA,dA];have:=h c ζ;have:=aH1 (l:=l) fun x hx=>h x (ω _ hx)
  omega
theorem aH3 {ts:Ty→Ty}{g:Core→Core}:∀{l:List Bind},(∀x∈l,m30 (g x.body)≤m30 x.body)→fT (l.map fun b=>.mk b.name (ts b.ty) (g b.body))≤fT l
 | [],_=>le_refl _
 | .mk s t c::l,h=>by
  rw[Am,fT,fT];have h1:=h _ ζ;have h2:=aH3 (ts:=ts) (l:=l) fun x hx=>h x (ω _ hx)
  simp only[Bind.body,Bind.name] at h1 h2 ⊢;omega
theorem aH4 {g:Core→Core}:∀{l:List Alt},(∀x∈l,m30 (g x.body)≤m30 x.body)→gY (l.map fun a=>.mk a.form a.n a.name a.vars (g a.body))≤gY l
 | [],_=>le_refl _
 | .mk f n s vs c::l,h=>by
  rw[Am,gY,gY];have h1:=h _ ζ;have h2:=aH4 (l:=l) fun x hx=>h x (ω _ hx)
  simp only[Alt.body,Alt.name,Alt.vars] at h1 h2 ⊢;omega
theorem aOr {ts:Ty→Ty}{sb:Core→Core}{f n:Int}{nm nm1:Str}{t:Ty}{ks ks1:List Core}{bs:List Bind}{al:List Alt}(hn:w30 nm1≤w30 nm) (hk:dA ks1≤dA ks)
  (h1:∀x∈ks1,m30 (sb x)≤m30 x) (h2:∀b∈bs,m30 (sb b.body)≤m30 b.body) (h3:∀a∈al,m30 (sb a.body)≤m30 a.body):
  m30 (gE ts sb (.mk f n nm1 t ks1 bs al))≤m30 (.mk f n nm t ks bs al):=by
 rw[gE,m30,m30];have:=aH1 h1;have:=aH3 (ts:=ts) h2;have:=aH4 h3;omega
def TOk (K:Nat) (t:Ty):Prop:=wfT t=true∧t30 t≤K
noncomputable def oL (sb:Core→Str→Core→Core) (s:Str) (b:Core):Core→Core
 | .mk f n nm t ks bs al=>.mk f n (zNm sb f nm s b ks bs 1) t (zKs sb f nm s b ks bs 1) (zBs sb f nm s b ks bs 1) (al.map (kY sb s b))
theorem aQg (f n:Int) (nm:Str) (t:Ty) (ks:List Core) (bs:List Bind) (al:List Alt) (s:Str) (b:Core) (hv:f=1∧nm=s) (I:aY b≤570000000000) (J:allT TyG b):
  aU Tryz.prog 106 [.pa (aB (.mk f n nm t ks bs al)),Go.AM.T s,.pa (aB b)] [] (.pa (aB b)) []:=by
 have u:=uV (aY b) b (le_refl _) I J;have u:aU Tryz.prog 47 [.pa (aB b)] [] (.pa (aB b)) []:=u;have O:decide (f=1)=true:=Ad hv.1;have N:decide (nm=s)=true:=Ad hv.2;refine bQ (n:=47) tok Tryz.func106 rfl rfl rfl ?_;refine sg rfl (a8 (sgh [(3,.bv true),(8,.bv true)] rfl (aA rfl (fun _=>?_) (fun hb=>?_))))
 ·refine sk 1 rfl (kc u ?_);exact kz 1 rfl (aE (rtC trw))
 ·exact absurd (show decide (nm=s)=false from hb) (by rw[N];decide)
theorem rI (sb:Core→Str→Core→Core) (P:Core→Prop) (f n:Int) (nm0 nm:Str) (t:Ty) (u ks:List Core) (bs:List Bind) (al:List Alt) (s:Str) (b:Core)
  (hcs:aY (.mk f n nm0 t u bs al)≤570000000000) (hT:allT TyG (.mk f n nm0 t u bs al)) (hv:¬(f=1∧nm0=s)) (hkl0:ks.length=u.length)
  (w2:f=5→(∃k,ks=[k])∧bs=[]∧al=[])
  (h7:f=7→bs=[]∧al=[]∧∃fl:List Str,aU Tryz.prog 125 [.pa (aB (.mk f n nm0 t u bs al))] [] (aV fl) []∧fl.length≤540000000000∧
   (s∈fl→∃tl:List Str,aU Tryz.prog 74 [.pa (aB b)] [] (aV tl) []∧aU Tryz.prog 75 [.one (.vp 700 0),aV tl] (gHl f n nm0 t u [] []) (.tup []) (gHl f n nm t ks [] []))∧
   (¬s∈fl→nm=nm0∧ks=u))
  (hn7:f≠7→nm=nm0∧ks=u)
  (hok:PutOk sb P s b (ks++bs.map Bind.body)) (hokA:∀a∈al,PutOk sb P s b [a.body])
  (hM:((ks++bs.map Bind.body).flatMap pfR).length+2*(1+bs.length)+(pfR b).length+(ks.length+bs.length)≤540000000000)
  (hMA:∀a∈al,(pfR a.body).length+2*a.vars.length+(pfR b).length+1≤540000000000):
  aU Tryz.prog 106 [.pa (aB (.mk f n nm0 t u bs al)),Go.AM.T s,.pa (aB b)] [] (.pa (aB (oL sb s b (.mk f n nm t ks bs al)))) []:=by
 have ar:=aWz _ hcs hT;have ar:aU Tryz.prog 47 [.pa (aB (.mk f n nm0 t u bs al))] [] (.ma (eW f n nm0 t u.length bs.length al.length)) (oHl u bs al++fam 0 al):=ar;refine bQ (n:=47) tok Tryz.func106 rfl rfl rfl ?_;refine sg rfl (a8 (AWp.cut (mk [(1,Go.AM.T s),(3,.one (.vp 3 0)),(5,.one (.vp 5 0)),(6,.one (.vp 6 0))] [(3,.var 37 (aW (.mk f n nm0 t u bs al))),(5,.var 37 (aW b)),(6,.var 37 bO)]) ?_ ?_))
 ·by_cases au:f=1
  ·have hd1:decide (f=1)=true:=Ad au;have hd2:decide (nm0=s)=false:=Ae fun h=>hv ⟨au,h⟩
   exact sgh [(3,.bv true),(8,.bv true)] rfl (aA rfl (fun hb=>absurd (show decide (nm0=s)=true from hb) (by rw[hd2];decide)) (fun _=>aD sl))
  ·have hd1:decide (f=1)=false:=Ae au;exact sgh [(3,.bv false),(8,.bv false)] rfl (aA rfl nofun (fun _=>aD sl))
 have J:TF (fam 0 al):=gJ;refine sk 1 rfl (kc ar ?_ (hout':=fL.app ⟨.inr rfl,.inr rfl,.inr rfl,trivial⟩ (fL.of fun p hp=>.inr ((show iO _ by repeat (first | exact iO.nil | (refine iO.updL ?_) | (refine iO.upd ?_))) p.1 (J.far p hp)))));rw[sX J];refine ak 2 [(2,.id 700)] rfl (az (AWp.sub (st2:=mkt [(1,Go.AM.T s),(3,.one (.vp 3 0)),(5,.one (.vp 5 0)),(6,.one (.vp 6 0)),(7,.one (.vp 700 0))] ([(3,.var 37 (aW (.mk f n nm0 t u bs al))),(5,.var 37 (aW b)),(6,.var 37 bO)]++gHl f n nm0 t u bs al) (fam 0 al)) (slG gW (fun _ h=>by cases h) (by repeat (first | exact FarEq.bif J (FarEq.outs J) | (refine FarEq.updL J ?_) | (refine FarEq.upd J ?_)))) ?_));refine a8 (AWp.cut (mkt [(1,Go.AM.T s),(3,.one (.vp 3 0)),(5,.one (.vp 5 0)),(6,.one (.vp 6 0)),(7,.one (.vp 700 0))] ([(3,.var 37 (aW (.mk f n nm0 t u bs al))),(5,.var 37 (aW b)),(6,.var 37 bO)]++gHl f n nm t ks bs al) (fam 0 al)) ?_ ?_)
 ·by_cases ah:f=7
  ·have hd7:decide (f=7)=true:=Ad ah;obtain⟨rfl,rfl,fl,hfr,hfl,hy,hn⟩:=h7 ah;have ai:=c9 fl s (by omega);refine skh 5 [(3,.bv true)] rfl (kcG hfr ?_);refine ak 1 [(3,.bv true)] rfl ?_;by_cases hin:s∈fl
   ·rw[Ad hin] at ai;obtain⟨tl,hty,hcl⟩:=hy hin;refine kcG ai ?_;refine ak 1 [(3,.bv true),(8,.bv true)] rfl (az (aA rfl (fun _=>aI mixed (ak 1 [] rfl (kc hty ?_))) nofun));refine kc hcl ?_;exact az (slG gW (fun _ h=>by cases h) (fun p hp=>by cases hp))
   ·rw[Ae hin] at ai;obtain⟨rfl,rfl⟩:=hn hin;refine kcG ai ?_;exact ak 1 [(3,.bv true),(8,.bv true)] rfl (az (aA rfl nofun (fun _=>aD (slG gW (fun _ h=>by cases h) (fun p hp=>by cases hp)))))
  ·have hd7:decide (f=7)=false:=Ae ah;obtain⟨rfl,rfl⟩:=hn7 ah;refine sgh [(3,.bv false),(8,.bv false)] rfl (aA rfl nofun (fun _=>?_));exact aD (slG gW (fun _ h=>by cases h) (by repeat (first | exact FarEq.raw J | (refine FarEq.updL J ?_) | (refine FarEq.upd J ?_))))
 have hR:=nQ (sb:=sb) (s:=s) (b:=b) (ns:=gvN f nm bs) (ps:=ks++bs.map Bind.body);have hN1:∀g,(zKs sb f nm s b ks bs g).length=ks.length:=fun g=>by
  cases g with
  | zero=>rfl
  | succ g=>show(List.take _ _).length=_;rw[Ar,hR.2,κ];omega
 have av:(bs.map Bind.ty).length=bs.length:=θ _;have hN2:∀g,(zBs sb f nm s b ks bs g).length=bs.length:=fun g=>by
  cases g with
  | zero=>rfl
  | succ g=>
   show(mkB _ _ _).length=_;by_cases aa:f=5
   ·obtain⟨_,rfl,_⟩:=w2 aa;rfl
   ·rw[r9,av]
    ·rw[hR.1];unfold gvN;rw[φ aa];simp
    ·rw[B6,hR.2,κ];simp
 have aw:∀g,(zAs sb s b al g).length=al.length:=fun g=>by
  cases g with
  | zero=>rfl
  | succ g=>exact aAm
 have hcm:=hcs;rw[aY] at hcm;have hkl:=iL u;have hbl:=gC bs;have hall:=iN al
 have hgr:=uW (decide (f=5)) f n nm t ks bs al rfl (by omega) (by omega) (by omega) (fun a ha=>by
  have hav:=gS ha;have hvl:=qO a
  omega)
 have aj:=oV (f:=f) (n:=n) (s:=nm) (t:=t) (ks:=ks) (bs:=bs) (al:=al) (decide (f=5)) al.length;rw[Al] at aj;have hgl:(cO (decide (f=5)) ks.length bs.length al.length al).length=1+al.length:=aYu;have hra:gfo f n nm t ks bs al (R.refsL (cO (decide (f=5)) ks.length bs.length al.length al).flatten):=by rw[dN];exact aj
 have ax:(cO (decide (f=5)) ks.length bs.length al.length al)[0]?=some (rD (decide (f=5)) ks.length bs.length):=aYw;have hgA:∀i a,al[i]?=some a→(cO (decide (f=5)) ks.length bs.length al.length al)[i+1]?=some (nN al.length i a):=fun i a h=>aYv h
 have ay:∀k r,(cO (decide (f=5)) ks.length bs.length al.length al)[k]?=some r→((cO (decide (f=5)) ks.length bs.length al.length al).flatten.drop (k*2)).take 2=r:=fF aE6;generalize cO (decide (f=5)) ks.length bs.length al.length al=G at hgr hgl hra ax hgA ay;refine a8 (a8 (aI mixed (kc hgr ?_ (hin':=fL.app ⟨rfl,rfl,rfl,rfl,trivial⟩ (FarEq.raw J).all) (hout':=fL.of fun p hp=>.inl (Af.2 ⟨p,hp,rfl⟩)) (hok:=p9 J (fun x hx=>.inl (bY (show subset _ _=true from rfl) x hx)) sU))));refine kz 2 rfl (AWp.sub (Sub.outsT J) ?_);refine aC ?_;have am:∀g ex,∀x∈R.refsL G.flatten,Kn ex (gHl f n (zNm sb f nm s b ks bs g) t (zKs sb f nm s b ks bs g) (zBs sb f nm s b ks bs g) (zAs sb s b al g)) (fam 0 (zAs sb s b al g)) x:=fun g ex x hx=>by
  rcases hra x hx with h | h
  ·exact .inr (.inl (by simpa [gHl,keys] using h))
  ·exact .inr (.inr (by rw[zT (aw g)];exact h))
 have hTF:∀g,TF (fam 0 (zAs sb s b al g)):=fun g=>gJ
 refine aK (fun g:Nat=>mkt [(1,Go.AM.T s),(5,.one (.vp 5 0)),(6,.one (.vp 6 0)),(7,.one (.vp 700 0)),(35,.one (.ras G.length 2 G.flatten)),(36,I .i64 ((G.length:Nat):Int)),(37,I .i64 g)] ([(5,.var 37 (aW b)),(6,.var 37 bO)]++gHl f n (zNm sb f nm s b ks bs g) t (zKs sb f nm s b ks bs g) (zBs sb f nm s b ks bs g) (zAs sb s b al g)) (fam 0 (zAs sb s b al g))) (fun g=>g≤G.length) (fun g=>G.length-g) 0 (Ag _) (slG gW (fun _ h=>by cases h) (FarEq.bif J (FarEq.outs J)) (h1:=Kn.app Kn.nil (Kn.app (Kn.of rfl) (Kn.app (Kn.of rfl) (Kn.app (Kn.of rfl) (Kn.app (am 0 _) Kn.nil)))))) ?_;intro g hg;have Y:=hTF g;refine sg rfl (a8 (aA rfl (fun hb=>?_) (fun hb=>?_)))
 ·have hlt:g<G.length:=by
   have:(g:Int)<(G.length:Int):=ψ hb;omega
  refine aD ?_;cases g with
  | zero=>
   have ap:=ay 0 _ ax;by_cases aa:f=5
   ·have hd5:decide (f=5)=true:=Ad aa;obtain⟨⟨x,rfl⟩,rfl,rfl⟩:=w2 aa;subst aa;have hM':=hM;simp only[Bo,Ax,Ca,Ck,Ac,length_nil] at hM';obtain⟨x',q,hq,N⟩:=a3u n t nm x s b sb _ hok (by omega);have ad:gvN 5 nm []=[nm]:=rfl;have e1:zNm sb 5 nm s b [x] [] 1=x':=by
     show(if(5:Int)=5 then(cE sb s b (gvN 5 nm []) ([x]++[].map Bind.body)).1.headD nm else nm)=x';rw[ξ rfl,ad];show(cE sb s b [nm] [x]).1.headD nm=x';rw[hq];rfl
    have e2:zKs sb 5 nm s b [x] [] 1=[q]:=by
     show(cE sb s b (gvN 5 nm []) ([x]++[].map Bind.body)).2.take 1=[q];rw[ad];show(cE sb s b [nm] [x]).2.take 1=[q];rw[hq];rfl
    have e3:zBs sb 5 nm s b [x] [] 1=[]:=rfl;have e4:zAs sb s b [] 1=[]:=rfl;refine a8 (aC (sgh [(0,.rowR 0 (rD true 1 0))] rfl (aI mixed (ak 3 [] rfl (kc N ?_)))));refine az (ag [] rfl ⟨1,hlt,by dsimp only;omega,?_⟩);have ab:=am 1;rw[e1,e2,e3,e4] at ab;dsimp only;rw[e1,e2,e3,e4];exact slG gW (fun _ h=>by cases h) (fun p hp=>by cases hp) (h1:=Kn.app Kn.nil (Kn.app (Kn.of rfl) (Kn.app (Kn.of rfl) (Kn.app (Kn.of rfl) (Kn.app (ab _) Kn.nil)))))
   ·have hd5:decide (f=5)=false:=Ae aa;have ad:gvN f nm bs=bs.map Bind.name:=by unfold gvN;rw[φ aa];rfl
    have N:=a3t (bs.map Bind.ty) ks.length (bs.map Bind.name) (ks++bs.map Bind.body) s b sb _ (by simp) (by simp) hok (by simp only[θ,κ];omega);have eH:tH (bs.map Bind.ty) ks.length (bs.map Bind.name) (ks++bs.map Bind.body)=[(701,.arr 58 15 (aQ bs) 0),(702,.arr 37 10 (aO ks) 0)]:=by
     unfold tH;rw[drop_left,take_left,aOe]
    rw[eH,av] at N;have hr0:rD (decide (f=5)) ks.length bs.length=[.ras (tN bs.length).length 1 (tN bs.length),.ras (tP ks.length bs.length).length 1 (tP ks.length bs.length)]:=a5u hd5;rw[hr0] at ax ap;have eB:aQ (zBs sb f nm s b ks bs 1)=aQ (mkB (bs.map Bind.ty) (cE sb s b (bs.map Bind.name) (ks++bs.map Bind.body)).1 ((cE sb s b (bs.map Bind.name) (ks++bs.map Bind.body)).2.drop ks.length)):=by
     show aQ (mkB _ _ _)=_;rw[ad]
    have eK:aO (zKs sb f nm s b ks bs 1)=aO ((cE sb s b (bs.map Bind.name) (ks++bs.map Bind.body)).2.take ks.length):=by
     show aO (List.take _ _)=_;rw[ad]
    have eN:zNm sb f nm s b ks bs 1=nm:=by show(if f=5 then _ else nm)=nm;rw[φ aa]
    have eA:zAs sb s b al 1=al:=aRf;have l1:=hN1 1;have l2:=hN2 1;refine a8 (aC (sgh [(0,.rowR 0 [.ras (tN bs.length).length 1 (tN bs.length),.ras (tP ks.length bs.length).length 1 (tP ks.length bs.length)])] rfl (aI mixed (ak 3 [] rfl (kc N ?_ (hok:=?_))))));refine az (ag [] rfl ⟨1,hlt,by dsimp only;omega,?_⟩);have ab:=am 1;dsimp only;rw[eN,eA] at ab ⊢;refine slG gW (fun _ h=>by cases h) (by repeat (first | exact FarEq.raw J | (refine FarEq.updL J ?_) | (refine FarEq.upd J ?_))) (h1:=Kn.app Kn.nil (Kn.app (Kn.of rfl) (Kn.app (Kn.of rfl) (Kn.app (Kn.of rfl) (Kn.app (ab _) Kn.nil))))) (hh:=⟨⟨_,rfl,.varS rfl⟩,⟨_,rfl,.varS rfl⟩,⟨_,rfl,.varS ?_⟩,⟨_,rfl,.arrS ?_⟩,⟨_,rfl,.arrS ?_⟩,⟨_,rfl,.rarrS rfl⟩,trivial⟩)
    ·rw[l1,l2];rfl
    ·exact eB.symm
    ·exact eK.symm
    ·refine p9 (F:=[]) ⟨fun _ h=>(by cases h),nodup_nil,fun _ h=>(by cases h)⟩ (fun x hx=>.inl ?_) (fun x hx=>by cases hx);have hx:x∈(grO (tN bs.length) (tP ks.length bs.length)).refs:=by simpa [grO,gpV,AObj.refs,V.refsL,V.refs,R.refsL,R.refs] using hx
     rcases aEe x hx with rfl | rfl
     ·simp[keys]
     ·simp[keys]
  | succ i=>
   have hia:i<al.length:=by omega
   obtain⟨a,aq⟩:=aJ hia;have ap:=ay (i+1) _ (hgA i a aq);have hm:=η aq;have hok:=hokA a hm;have hMa:=hMA a hm;have hz1:zAs sb s b al (i+1)=vH sb s b al i:=rfl;have hz2:zAs sb s b al (i+1+1)=(vH sb s b al i).set i (kY sb s b a):=aRg aq;have hz3:zNm sb f nm s b ks bs (i+1+1)=zNm sb f nm s b ks bs (i+1):=rfl;have hz4:zKs sb f nm s b ks bs (i+1+1)=zKs sb f nm s b ks bs (i+1):=rfl;have hz5:zBs sb f nm s b ks bs (i+1+1)=zBs sb f nm s b ks bs (i+1):=rfl;obtain⟨q,hq,N⟩:=aZo (vH sb s b al i) i a (aZ7 aq) s b sb _ hok (by omega) (vR i a.vars.length a.vars.length).length (i6 _ _) al.length aAm.symm;have hnew:(Alt.mk a.form a.n a.name (cE sb s b a.vars [a.body]).1 q)=kY sb s b a:=by unfold kY;rw[hq];rfl
   rw[hnew] at N;have hvl:(vR i a.vars.length a.vars.length).length=a.vars.length:=i6 _ _;have ae:=am (i+1+1);have ac:=hTF (i+1+1);have hA3:=aw (i+1+1);rw[hz2] at ae ac hA3;rw[hz3,hz4,hz5] at ae;have hA4:(vH sb s b al i).length=al.length:=aAm;generalize hNm:zNm sb f nm s b ks bs (i+1)=nm1 at *;generalize hKs:zKs sb f nm s b ks bs (i+1)=ks1 at *;generalize hBs:zBs sb f nm s b ks bs (i+1)=Z at *;rw[hz1] at Y ⊢;have halR:nN al.length i a=[.ras (vR i a.vars.length a.vars.length).length 1 (vR i a.vars.length a.vars.length).flatten,.ras 1 1 [.rp 703 i 4 al.length]]:=rfl;rw[halR] at ap;rw[hvl] at ap N;refine a8 (aC (sgh [(0,.rowR (i+1) [.ras a.vars.length 1 (vR i a.vars.length a.vars.length).flatten,.ras 1 1 [.rp 703 i 4 al.length]])] rfl (aI mixed (ak 3 [] rfl (kc N ?_ (hin':=⟨rfl,FarEq.all (by repeat (first | exact FarEq.raw Y | (refine FarEq.updL Y ?_) | (refine FarEq.upd Y ?_)))⟩) (hout':=?_) (hok:=?_))))))
   ·have hcons:∀(o:AObj) (F:List (Nat×AObj)),((703,o)::F)=[(703,o)]++F:=fun _ _=>rfl
    rw[hcons,sX ac];refine az (ag [] rfl ⟨i+1+1,by omega,by dsimp only;omega,?_⟩);dsimp only;rw[hz2,hz3,hz4,hz5];refine slG gW (fun _ h=>by cases h) (FarEq.bif ac (FarEq.outs ac)) (h1:=Kn.app Kn.nil (Kn.app (Kn.of rfl) (Kn.app (Kn.of rfl) (Kn.app (Kn.of rfl) (Kn.app (ae _) Kn.nil))))) (hh:=⟨⟨_,rfl,.varS rfl⟩,⟨_,rfl,.varS rfl⟩,⟨_,rfl,.varS ?_⟩,⟨_,rfl,.arr⟩,⟨_,rfl,.arr⟩,⟨_,rfl,.rarrS rfl⟩,trivial⟩);rw[hA3,hA4]
   ·refine fL.of fun p hp=>.inl ?_
    have hp1:p.1∈keys ((703,AObj.rarr 88 14 (aZ 0 ((vH sb s b al i).set i (kY sb s b a))))::fam 0 ((vH sb s b al i).set i (kY sb s b a))):=Af.2 ⟨p,hp,rfl⟩;show p.1∈703::keys (fam 0 (vH sb s b al i));rw[zT (m:=(vH sb s b al i).set i (kY sb s b a)) (by rw[Cq])];exact hp1
   ·refine p9 (hl:=[(703,.rarr 88 14 (aZ 0 (vH sb s b al i)))]) Y (fun x hx=>?_) (fun x hx=>.inr (dG x (by simpa [dU,AObj.refs] using hx)));have hx:x∈R.refsL (vR i a.vars.length a.vars.length).flatten++[703]:=by simpa [V.refsL,V.refs,R.refsL,R.refs] using hx
    rcases τ.1 hx with hx | hx
    ·rw[dN] at hx;have:=nP (L:=fun x=>x=i+800) (fun j x hx=>by simpa [R.refsL,R.refs] using hx) _ x hx;rw[this];have hk:=aPp (l:=vH sb s b al i) (k:=0) (i:=i) (by omega);rw[Bc] at hk;exact .inr hk
    ·rw[ε.1 hx];exact .inl (by simp[keys])
 have hge:g=1+al.length:=by
  have:¬(g:Int)<(G.length:Int):=χ hb;omega
 have hgs:g=al.length+1:=by omega
 subst hgs;clear hge hb;have e:oL sb s b (.mk f n nm t ks bs al)=.mk f n (zNm sb f nm s b ks bs (al.length+1)) t (zKs sb f nm s b ks bs (al.length+1)) (zBs sb f nm s b ks bs (al.length+1)) (zAs sb s b al (al.length+1)):=by
  rw[oL];show _=Core.mk _ _ _ _ _ _ (vH sb s b al al.length);rw[aUx];rfl
 rw[e];have m1:=hN1 (al.length+1);have m2:=hN2 (al.length+1);have m3:=aw (al.length+1);generalize zNm sb f nm s b ks bs (al.length+1)=nm1 at *;generalize zKs sb f nm s b ks bs (al.length+1)=ks1 at *;generalize zBs sb f nm s b ks bs (al.length+1)=Z at *;generalize zAs sb s b al (al.length+1)=O at *;refine aL (AWp.sub (st2:=mkt [(6,.one (.vp 6 0)),(7,.one (.vp 700 0))] (oHl ks1 Z O++[(700,.var 37 (eW f n nm1 t ks1.length Z.length O.length)),(6,.var 37 bO)]) (fam 0 O)) (slT Y (by repeat (first | exact FarEq.raw Y | (refine FarEq.updL Y ?_) | (refine FarEq.upd Y ?_))) (fun x hx=>.inl (bY (show subset _ _=true from rfl) x hx)) (fun x hx=>?_) (fun _ h=>by cases h)) ?_)
 ·rw[jE] at hx;rcases τ.1 hx with hx | hx
  ·exact .inr (dG x (by simpa [oHl,dU,AObj.refs] using hx))
  ·refine .inl ?_;have hx:x=702∨x=701∨x=703:=by simpa [dU,AObj.refs,eW,bO,R.refsL,R.refs] using hx
   rcases hx with rfl | rfl | rfl<;>simp[oHl,keys]
 refine AWp.sub (qS (by simp[keys]) (Kn.of rfl) ⟨Kn.of rfl,Kn.of rfl,trivial⟩ (fun _ h=>by cases h) rfl rfl (by simp) (fun p hp=>by
  rcases Ap.1 hp with rfl | hp
  ·rfl
  ·rw[ε.1 hp];rfl)) ?_
 have e1:fzH 703 (.ra O.length 14 (aZ 0 O).flatten) ([(701,.arr 58 15 (aQ Z) 2),(702,.arr 37 10 (aO ks1) 2)]++[(700,.var 37 (eW f n nm1 t ks1.length Z.length O.length)),(6,.var 37 bO)])
   =[(701,.arr 58 15 (aQ Z) 2),(702,.arr 37 10 (aO ks1) 2),(700,.var 37 (kB f n nm1 t ks1.length Z.length O)),(6,.var 37 bO)]:=by
  unfold eW kB;show [(701,_),(702,_),(700,AObj.var _ (R.fzL _ _ _)),(6,AObj.var _ (R.fzL _ _ _))]=_;simp only[R.fzL,R.fz,Ce,Cs,Bool.and_self];rfl
 rw[e1];have hFz:TF (zP (fam 0 O)):=Y.frz;obtain⟨ids,hp⟩:=u4 (h:=(mkt [] [(701,.arr 58 15 (aQ Z) 2),(702,.arr 37 10 (aO ks1) 2),(700,.var 37 (kB f n nm1 t ks1.length Z.length O)),(6,.var 37 bO)] (zP (fam 0 O))).h) (f:=f) (n:=n) (s:=nm1) (t:=t) (ks:=ks1) (bs:=Z) (al:=O) rfl rfl (FarEq.mkt hFz rfl);refine AWp.sub (Sub.varPure (x:=700) rfl hp) ?_;exact sg rfl (aE (rtC trw))
theorem aZe (s:Str):aU Tryz.prog 40 [Go.AM.T s] [] (tyV (.mk 3 0 s [])) []:=by
 refine bQ (n:=5) tok Tryz.func40 rfl rfl rfl ?_;exact sg rfl (sg rfl (aE (rtC trw)))
theorem aQt (n:Int):aU Tryz.prog 42 [I .i64 n] [] (.pa (aB (.mk 3 n [] zTy [] [] []))) []:=by
 refine bQ (n:=5) tok Tryz.func42 rfl rfl rfl ?_;exact sg rfl (sg rfl (aE (rtC trw)))
def qC (f n:Int) (s:Str) (t:Ty) (nk nb na:Nat):List R:=[.c (.int .i64 f),.c (.int .i64 n),.c (.str s),.c (.int .i64 t.form),.c (.int .i64 t.n),.c (.str t.name),.c (.sl 4 (fV t)),.hs 702 0 nk nk,.hs 701 0 nb nb,.hs 703 0 na na]
theorem aOb {o:List Str}{s:Str}(h:o.Nodup):(r8 o s).Nodup:=by
 unfold r8;split
 ·exact h
 ·rename_i hs;rw[Ct];exact⟨h,by simp,fun a ha b hb e=>by rw[ε.1 hb] at e;subst e;exact hs ha⟩
theorem aHg (G:List Str):∀(l o:List Str),o.Nodup→(pfP G o l).Nodup
 | [],_,h=>h
 | s::l,o,h=>by
  show(pfP G (pfG G o s) l).Nodup;refine aHg G l _ ?_;unfold pfG;split
  ·exact h
  ·exact aOb h
mutual
theorem a5l:∀c:Core,(pfR c).Nodup
 | .mk f n s t ks bs al=>by
  rw[pfR];split
  ·simp
  ·exact aVw al _ (aVv _ bs _ (aVu _ ks _ nodup_nil))
theorem aVu (G:List Str):∀(l:List Core) (o:List Str),o.Nodup→(jS G l o).Nodup
 | [],_,h=>by rw[jS];exact h
 | c::l,o,h=>by rw[jS];exact aVu G l _ (aHg G _ _ h)
theorem aVv (G:List Str):∀(l:List Bind) (o:List Str),o.Nodup→(kP G l o).Nodup
 | [],_,h=>by rw[kP];exact h
 | .mk s t c::l,o,h=>by rw[kP];exact aVv G l _ (aHg G _ _ h)
theorem aVw:∀(l:List Alt) (o:List Str),o.Nodup→(jQ l o).Nodup
 | [],_,h=>by rw[jQ];exact h
 | .mk f n s v c::l,o,h=>by rw[jQ];exact aVw l _ (aHg v _ _ h)
end
end Go.Proofs.YtockgoadliilhaaGreatDoor
