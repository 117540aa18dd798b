/-
  Texts Lg11 to Lg23 in one.
-/
import Derived.Test.YtockgoadliilhaaGreatDoorM8
open List (all_eq_true append_assoc append_nil cons_append drop_left filter_cons flatMap_cons flatMap_nil flatten_cons foldl_cons length_append length_cons length_drop length_map length_nil length_set length_take map_congr_left map_cons map_map map_nil mem_append mem_cons mem_cons_of_mem mem_cons_self mem_filter mem_flatMap mem_map mem_singleton nil_append nodup_append nodup_nil not_mem_nil set_cons_succ sum_cons take_add_one take_left take_length take_of_length_le)
open Nat (add_assoc add_zero beq_refl eq_of_beq_eq_true le_max_left le_max_right le_of_ble_eq_true le_refl le_trans min_eq_left mul_one sub_self zero_add zero_le)
namespace Go.Proofs.YtockgoadliilhaaGreatDoor
open Go Go.AM
set_option maxRecDepth 20000
abbrev lH (n:Int) (t:Ty) (x:Str) (k:Core):List (Nat×AObj):=gHl 5 n x t [k] [] []
def lN:List R:=[.vp 700 2]
def lP:List R:=[.ep 702 0 0 1]
abbrev lG (n:Int) (t:Ty) (x:Str) (k:Core):List (Nat×AObj):=(3,grO lN lP)::lH n t x k
theorem lHW {n:Int}{t:Ty}{x:Str}{k:Core}:GW (lH n t x k) []:=gW
theorem lGW {n:Int}{t:Ty}{x:Str}{k:Core}:GW (lG n t x k) []:=⟨lHW (n:=n) (t:=t) (x:=x) (k:=k).tf,fun y hy=>by
 rcases χ.1 (show y∈(grO lN lP).refs++dN (lH n t x k) from hy) with hy | hy
 ·have:y=700∨y=702:=by simpa [grO,lN,lP,AObj.refs,R.refsL,R.refs] using hy
  rcases this with rfl | rfl
  ·exact .inl (by simp[lG,gHl,keys])
  ·exact .inl (by simp[lG,gHl,keys])
 ·exact(lHW.refs y hy).imp (fun h=>κ _ h) id,rfl,rfl⟩
theorem aMt (n:Int) (t:Ty) (x:Str) (k:Core) (nm:Str) (b:Core) (sb:Core→Core)
  (hc:aU Tryz.prog 106 [.pa (aB k),Go.AM.T nm,.pa (aB b)] [] (.pa (aB (sb k))) []):
  aU Tryz.prog 144 [Go.AM.T nm,.pa (aB b),.one (.vp 3 0)] (lG n t x k++[]) (.tup []) (lG n t x (sb k)++[]):=by
 have J:TF []:=lHW (n:=n) (t:=t) (x:=x) (k:=k).tf;refine tM J (n:=23) tok Tryz.func144 rfl rfl rfl ?_;refine sg rfl (sg rfl (aC (aL (fun j:Nat=>mkt [(0,Go.AM.T nm),(2,.one (.vp 3 0)),(4,.one (.vp 4 0)),(8,.one (.ras 1 1 lP)),(9,I .i64 ((1:Nat):Int)),(10,I .i64 j)] ([(4,.var 37 (bA b))]++lG n t x (if j=0 then k else sb k)) []) (fun j=>j≤1) (fun j=>1-j) 0 (Aj _) ?_ ?_)))
 ·exact slG lGW
 intro j hj;refine sg rfl (a8 (aA rfl (fun hb=>?_) (fun hb=>?_)))
 ·have O:j=0:=by
   have:(j:Int)<((1:Nat):Int):=ψ hb;omega
  subst O;rw[ξ rfl];refine aD (a8 (aC (sg rfl (aE mixed (ak 6 [(3,.row 0 (aB k))] rfl (kc hc ?_))))));refine ak 2 [(8,.row 0 (aB k))] rfl (az (ag [] rfl ⟨1,le_refl _,by dsimp only;omega,?_⟩));dsimp only;rw[φ (by decide)];exact slG lGW (fun i hi=>GW.kf i hi)
 have W:j=1:=by
  have:¬(j:Int)<((1:Nat):Int):=δ hb;omega
 subst W;rw[φ (by decide)];refine aO ?_;exact⟨.inl rfl,aCw J (by repeat (first | exact FarEq.raw J | (refine FarEq.updL J ?_) | (refine FarEq.upd J ?_))) ⟨[],[],.nil,.nil,rfl⟩ (fun _ h=>by cases h) lGW.refs (fun i hi=>GW.kf i hi) (fun q N=>by rcases χ.1 N with N | N;exact(A7.1 (lGW (n:=n) (t:=t) (x:=x) (k:=k)).plain) q N;cases N)⟩
theorem aYx (n:Int) (t:Ty) (x:Str) (k:Core) (s:Str) (b:Core) (sb:Core→Str→Core→Core) (P:Core→Prop) (hok:PutOk sb P s b [k])
  (hM:(pfR k).length+2+(pfR b).length+1≤540000000000):
  ∃x' q,bX sb s b [x] [k]=([x'],[q])∧aU Tryz.prog 126 [gpV lN lP,Go.AM.T s,.pa (aB b)] (lH n t x k++[]) (.tup []) (lH n t x' q++[]):=by
 have W:TF []:=lHW (n:=n) (t:=t) (x:=x) (k:=k).tf;have ab:([k]:List Core).flatMap pfR=pfR k:=by simp
 have hf:=hok.free k (by simp);have hq0:((pfR k).map bD).length=(pfR k).length:=θ _;have hk0:k=k:=rfl;have ac:s∉pfR k∨s=x→bX sb s b [x] [k]=([x],[k]):=fun h=>by
  unfold bX;rw[φ];rintro⟨h1,h2⟩;rw[ab] at h1;rcases h with h | h
  ·exact h h1
  ·exact h2 (by simp[h])
 by_cases hin:s∈pfR k
 case neg=>
  refine⟨x,k,ac (.inl hin),?_⟩;refine tM W (n:=92) tok Tryz.func126 rfl rfl rfl ?_;refine sg rfl (sg rfl (AWp.sub (Sub.own (t:=6) (id:=720) 9 1 rfl rfl) (AWp.sub (Sub.freeze (id:=720) rfl) ?_)));refine a8 (sg rfl (aC (aL (fun j:Nat=>mkt [(1,Go.AM.T s),(3,.one (.vp 3 0)),(5,.one (.vp 5 0)),(6,tkV (if j=0 then [] else pfR k)),(17,.one (.ras 1 1 lP)),(18,I .i64 ((1:Nat):Int)),(19,I .i64 j)] ([(3,grO lN lP),(5,.var 37 (bA b)),(720,tkA (if j=0 then [] else pfR k))]++lH n t x k) []) (fun j=>j≤1) (fun j=>1-j) 0 (Aj _) (slG lHW) ?_)));intro j hj;refine sg rfl (a8 (aA rfl (fun hb=>?_) (fun hb=>?_)))
  ·have O:j=0:=by
    have:(j:Int)<((1:Nat):Int):=ψ hb;omega
   subst O;rw[ξ rfl];refine aD (a8 (aC (sg rfl (aE mixed (ak 4 [(3,.row 0 (aB k))] rfl (kc hf ?_))))));refine kz 2 rfl (AWp.sub (Sub.freeze (id:=720) rfl) ?_);refine ag [] rfl ⟨1,le_refl _,by dsimp only;omega,?_⟩;dsimp only;rw[φ (by decide)];exact slG lHW (he:=⟨rfl,rfl,rfl,Go.AM.hs_ren (by simp) (by simp),rfl,rfl,rfl,trivial⟩) (hh:=⟨⟨_,rfl,.varS rfl⟩,⟨_,rfl,.varS rfl⟩,⟨_,rfl,.arrS (by simp)⟩,⟨_,rfl,.varS rfl⟩,⟨_,rfl,.arr⟩,⟨_,rfl,.arr⟩,⟨_,rfl,.rarrS rfl⟩,trivial⟩)
  have J:j=1:=by
   have:¬(j:Int)<((1:Nat):Int):=δ hb;omega
  subst J;rw[φ (by decide)];refine aO ?_;have Y:=bW (pfR k) s (by omega);rw[Al hin] at Y;refine a8 (sk 2 rfl (kc Y ?_));refine kz 1 rfl (aA rfl (fun hb=>?_) nofun);exact aI ⟨.inr rfl,aCw W (by repeat (first | exact FarEq.raw W | (refine FarEq.updL W ?_) | (refine FarEq.upd W ?_))) ⟨[],[],.nil,.nil,rfl⟩ (fun _ h=>by cases h) lHW.refs (fun i hi=>GW.kf i hi) (fun q N=>by rcases χ.1 N with N | N;exact(A7.1 (lHW (n:=n) (t:=t) (x:=x) (k:=k)).plain) q N;cases N)⟩
 by_cases Z:s=x
 case pos=>
  refine⟨x,k,ac (.inr Z),?_⟩;refine tM W (n:=92) tok Tryz.func126 rfl rfl rfl ?_;refine sg rfl (sg rfl (AWp.sub (Sub.own (t:=6) (id:=720) 9 1 rfl rfl) (AWp.sub (Sub.freeze (id:=720) rfl) ?_)));refine a8 (sg rfl (aC (aL (fun j:Nat=>mkt [(1,Go.AM.T s),(3,.one (.vp 3 0)),(5,.one (.vp 5 0)),(6,tkV (if j=0 then [] else pfR k)),(17,.one (.ras 1 1 lP)),(18,I .i64 ((1:Nat):Int)),(19,I .i64 j)] ([(3,grO lN lP),(5,.var 37 (bA b)),(720,tkA (if j=0 then [] else pfR k))]++lH n t x k) []) (fun j=>j≤1) (fun j=>1-j) 0 (Aj _) (slG lHW) ?_)));intro j hj;refine sg rfl (a8 (aA rfl (fun hb=>?_) (fun hb=>?_)))
  ·have O:j=0:=by
    have:(j:Int)<((1:Nat):Int):=ψ hb;omega
   subst O;rw[ξ rfl];refine aD (a8 (aC (sg rfl (aE mixed (ak 4 [(3,.row 0 (aB k))] rfl (kc hf ?_))))));refine kz 2 rfl (AWp.sub (Sub.freeze (id:=720) rfl) ?_);refine ag [] rfl ⟨1,le_refl _,by dsimp only;omega,?_⟩;dsimp only;rw[φ (by decide)];exact slG lHW (he:=⟨rfl,rfl,rfl,Go.AM.hs_ren (by simp) (by simp),rfl,rfl,rfl,trivial⟩) (hh:=⟨⟨_,rfl,.varS rfl⟩,⟨_,rfl,.varS rfl⟩,⟨_,rfl,.arrS (by simp)⟩,⟨_,rfl,.varS rfl⟩,⟨_,rfl,.arr⟩,⟨_,rfl,.arr⟩,⟨_,rfl,.rarrS rfl⟩,trivial⟩)
  have J:j=1:=by
   have:¬(j:Int)<((1:Nat):Int):=δ hb;omega
  subst J;rw[φ (by decide)];refine aO ?_;have Y:=bW (pfR k) s (by omega);rw[Ak hin] at Y;refine a8 (sk 2 rfl (kc Y ?_));refine kz 1 rfl (aA rfl nofun (fun hb=>aD (a8 (sg rfl (aC (aL (fun _:Unit=>mkt [(1,Go.AM.T s),(3,.one (.vp 3 0)),(5,.one (.vp 5 0)),(6,tkV (pfR k)),(35,.one (.ras 1 1 lN)),(36,I .i64 ((1:Nat):Int)),(37,I .i64 (0:Nat))] ([(3,grO lN lP),(5,.var 37 (bA b)),(720,tkA (pfR k))]++lH n t x k) []) (fun _=>True) (fun _=>0) () trivial (slG lHW) ?_))))));intro _ _;refine sg rfl (a8 (aA rfl (fun hb=>aD (a8 (aC (sg rfl (a8 (sg rfl (aA rfl (fun hb=>?_) (fun hb=>absurd Z.symm (δ hb))))))))) nofun));exact aI ⟨.inr rfl,aCw W (by repeat (first | exact FarEq.raw W | (refine FarEq.updL W ?_) | (refine FarEq.upd W ?_))) ⟨[],[],.nil,.nil,rfl⟩ (fun _ h=>by cases h) lHW.refs (fun i hi=>GW.kf i hi) (fun q N=>by rcases χ.1 N with N | N;exact(A7.1 (lHW (n:=n) (t:=t) (x:=x) (k:=k)).plain) q N;cases N)⟩
 have hq1:((pfR k++[x]).map bD).length=(pfR k++[x]).length:=θ _;have hq2:((pfR b).map bD).length=(pfR b).length:=θ _;have hlx:(pfR k++[x]).length=(pfR k).length+1:=by simp
 have ah:=hok.far;have hP:=hok.in_ k (by simp);have Y:=bW (pfR k) s (by omega);rw[Ak hin] at Y;have ad:=bW (pfR b) x (by omega);have ai:zA s [x] [k]:=⟨by rw[ab];exact hin,by simpa using Z⟩
 by_cases ae:x∈pfR b
 case pos=>
  have htl:(pfR k++[x]++pfR b).length≤540000000000:=by rw[ω];omega
  have hz:(aZ (pfR k++[x]++pfR b)).length≤30:=le_trans (jY _ htl) (by omega);have hcr:=xY (pfR k++[x]++pfR b) (by omega) fun k hk=>hok.itoa k (by omega)
  refine⟨aZ (pfR k++[x]++pfR b),sb (sb k x (vC (aZ (pfR k++[x]++pfR b)))) s b,?_,?_⟩
  ·unfold bX;rw[ξ ai,ab];unfold jN;simp only[foldl_cons,List.foldl_nil];unfold dS;rw[ξ ae];rfl
  rw[Ak ae] at ad;have hqt:((pfR k++[x]++pfR b).map bD).length=(pfR k++[x]++pfR b).length:=θ _;have hqa:(pfR k++[x]++pfR b).length=(pfR k).length+1+(pfR b).length:=by rw[ω,hlx]
  have hca:=aMt n t x k x (vC (aZ (pfR k++[x]++pfR b))) (fun p=>sb p x (vC (aZ (pfR k++[x]++pfR b)))) (hok.subz k x _ hP hz);have aa:=aMt n t (aZ (pfR k++[x]++pfR b)) (sb k x (vC (aZ (pfR k++[x]++pfR b)))) s b (fun p=>sb p s b) (hok.subb _ (hok.ren k x _ hP hz));have hcv:=sV (aZ (pfR k++[x]++pfR b));generalize hzz:aZ (pfR k++[x]++pfR b)=z at *;refine tM W (n:=92) tok Tryz.func126 rfl rfl rfl ?_;refine sg rfl (sg rfl (AWp.sub (Sub.own (t:=6) (id:=720) 9 1 rfl rfl) (AWp.sub (Sub.freeze (id:=720) rfl) ?_)));refine a8 (sg rfl (aC (aL (fun j:Nat=>mkt [(1,Go.AM.T s),(3,.one (.vp 3 0)),(5,.one (.vp 5 0)),(6,tkV (if j=0 then [] else pfR k)),(17,.one (.ras 1 1 lP)),(18,I .i64 ((1:Nat):Int)),(19,I .i64 j)] ([(3,grO lN lP),(5,.var 37 (bA b)),(720,tkA (if j=0 then [] else pfR k))]++lH n t x k) []) (fun j=>j≤1) (fun j=>1-j) 0 (Aj _) (slG lHW) ?_)));intro j hj;refine sg rfl (a8 (aA rfl (fun hb=>?_) (fun hb=>?_)))
  ·have O:j=0:=by
    have:(j:Int)<((1:Nat):Int):=ψ hb;omega
   subst O;rw[ξ rfl];refine aD (a8 (aC (sg rfl (aE mixed (ak 4 [(3,.row 0 (aB k))] rfl (kc hf ?_))))));refine kz 2 rfl (AWp.sub (Sub.freeze (id:=720) rfl) ?_);refine ag [] rfl ⟨1,le_refl _,by dsimp only;omega,?_⟩;dsimp only;rw[φ (by decide)];exact slG lHW (he:=⟨rfl,rfl,rfl,Go.AM.hs_ren (by simp) (by simp),rfl,rfl,rfl,trivial⟩) (hh:=⟨⟨_,rfl,.varS rfl⟩,⟨_,rfl,.varS rfl⟩,⟨_,rfl,.arrS (by simp)⟩,⟨_,rfl,.varS rfl⟩,⟨_,rfl,.arr⟩,⟨_,rfl,.arr⟩,⟨_,rfl,.rarrS rfl⟩,trivial⟩)
  have J:j=1:=by
   have:¬(j:Int)<((1:Nat):Int):=δ hb;omega
  subst J;rw[φ (by decide)];refine aO (a8 (sk 2 rfl (kc Y ?_)));refine kz 1 rfl (aA rfl nofun (fun hb=>aD (a8 (sg rfl (aC (aL (fun j:Nat=>mkt [(1,Go.AM.T s),(3,.one (.vp 3 0)),(5,.one (.vp 5 0)),(6,tkV (if j=0 then pfR k else pfR k++[x])),(35,.one (.ras 1 1 lN)),(36,I .i64 ((1:Nat):Int)),(37,I .i64 j)] ([(3,grO lN lP),(5,.var 37 (bA b)),(720,tkA (if j=0 then pfR k else pfR k++[x]))]++lH n t x k) []) (fun j=>j≤1) (fun j=>1-j) 0 (Aj _) (slG lHW) ?_))))));intro j hj;refine sg rfl (a8 (aA rfl (fun hb=>?_) (fun hb=>?_)))
  ·have O:j=0:=by
    have:(j:Int)<((1:Nat):Int):=ψ hb;omega
   subst O;rw[ξ rfl];refine aD (a8 (aC (sg rfl (a8 (sg rfl (aA rfl (fun hb=>absurd (ψ hb).symm Z) (fun hb=>aD (ag [] rfl (AWp.sub (Sub.freeze (id:=720) rfl) ?_)))))))));refine ag [] rfl ⟨1,le_refl _,by dsimp only;omega,?_⟩;dsimp only;rw[φ (by decide)];exact slG lHW (he:=⟨rfl,rfl,rfl,Go.AM.hs_ren (by simp) (by simp),rfl,rfl,rfl,trivial⟩) (hh:=⟨⟨_,rfl,.varS rfl⟩,⟨_,rfl,.varS rfl⟩,⟨_,rfl,.arrS (by simp[bD])⟩,⟨_,rfl,.varS rfl⟩,⟨_,rfl,.arr⟩,⟨_,rfl,.arr⟩,⟨_,rfl,.rarrS rfl⟩,trivial⟩)
  have J:j=1:=by
   have:¬(j:Int)<((1:Nat):Int):=δ hb;omega
  subst J;rw[φ (by decide)];refine aO (sk 1 rfl (kc ah ?_));refine kz 1 rfl (sg rfl (AWp.sub (Sub.freeze (id:=720) rfl) ?_));refine sg rfl (a8 (sg rfl (aC (aL (fun i:Nat=>mkt [(1,Go.AM.T s),(5,.one (.vp 5 0)),(6,tkV (if i=0 then pfR k++[x]++pfR b else pfR k++[x]++pfR b++[z])),(11,aY (pfR b)),(12,.one (.clo 144 [.vp 3 0])),(60,.one (.ras 1 1 lN)),(61,I .i64 ((1:Nat):Int)),(62,I .i64 i)] ([(3,grO lN lP),(5,.var 37 (bA b)),(720,tkA (if i=0 then pfR k++[x]++pfR b else pfR k++[x]++pfR b++[z]))]++lH n t (if i=0 then x else z) (if i=0 then k else sb k x (vC z))) []) (fun i=>i≤1) (fun i=>1-i) 0 (Aj _) ?_ ?_))))
  ·rw[ξ rfl,ξ rfl,ξ rfl];exact slG lHW (he:=⟨rfl,rfl,Go.AM.hs_ren (by simp only[ω,θ]) (by simp only[ω,θ]),rfl,rfl,rfl,rfl,rfl,trivial⟩) (hh:=⟨⟨_,rfl,.varS rfl⟩,⟨_,rfl,.varS rfl⟩,⟨_,rfl,.arrS (by simp)⟩,⟨_,rfl,.varS rfl⟩,⟨_,rfl,.arr⟩,⟨_,rfl,.arr⟩,⟨_,rfl,.rarrS rfl⟩,trivial⟩)
  intro i hi;refine sg rfl (a8 (aA rfl (fun hb=>?_) (fun hb=>?_)))
  ·have aj:i=0:=by
    have:(i:Int)<((1:Nat):Int):=ψ hb;omega
   subst aj;rw[ξ rfl,ξ rfl,ξ rfl];generalize pfR k++[x]++pfR b=tk at *;refine aD (a8 (aC (sg rfl (sk 4 rfl (kc ad ?_)))));refine az (aA rfl (fun hb=>sk 1 rfl (kc hcr ?_)) nofun);refine kz 1 rfl (sg rfl (AWp.sub (Sub.freeze (id:=720) rfl) ?_));refine sk 5 rfl (kc hcv ?_);refine kv (caps:=[.vp 3 0]) (args:=[Go.AM.T x,.pa (aB (vC z))]) hca ?_;refine az (ag [] rfl (ag [] rfl ⟨1,le_refl _,by dsimp only;omega,?_⟩));dsimp only;rw[φ (by decide),φ (by decide),φ (by decide)];exact slG lHW (fun i hi=>GW.kf i hi) (he:=⟨rfl,rfl,Go.AM.hs_ren (by simp) (by simp),rfl,rfl,rfl,rfl,rfl,trivial⟩) (hh:=⟨⟨_,rfl,.varS rfl⟩,⟨_,rfl,.varS rfl⟩,⟨_,rfl,.arrS (by simp[bD])⟩,⟨_,rfl,.varS rfl⟩,⟨_,rfl,.arr⟩,⟨_,rfl,.arr⟩,⟨_,rfl,.rarrS rfl⟩,trivial⟩)
  have J:i=1:=by
   have:¬(i:Int)<((1:Nat):Int):=δ hb;omega
  subst J;rw[φ (by decide),φ (by decide),φ (by decide)];refine aO (aE mixed (ak 3 [] rfl (kv (caps:=[.vp 3 0]) (args:=[Go.AM.T s,.pa (aB b)]) aa ?_)));exact az ⟨.inl rfl,aCw W (FarEq.outs W) ⟨[],[],.nil,.nil,rfl⟩ (fun _ h=>by cases h) lHW.refs (fun i hi=>GW.kf i hi) (fun q N=>by rcases χ.1 N with N | N;exact(A7.1 (lHW (n:=n) (t:=t) (x:=x) (k:=k)).plain) q N;cases N)⟩
 refine⟨x,sb k s b,?_,?_⟩
 ·unfold bX;rw[ξ ai,ab];unfold jN;simp only[foldl_cons,List.foldl_nil];unfold dS;rw[φ ae];rfl
 rw[Al ae] at ad;have aa:=aMt n t x k s b (fun p=>sb p s b) (hok.subb _ hP);refine tM W (n:=92) tok Tryz.func126 rfl rfl rfl ?_;refine sg rfl (sg rfl (AWp.sub (Sub.own (t:=6) (id:=720) 9 1 rfl rfl) (AWp.sub (Sub.freeze (id:=720) rfl) ?_)));refine a8 (sg rfl (aC (aL (fun j:Nat=>mkt [(1,Go.AM.T s),(3,.one (.vp 3 0)),(5,.one (.vp 5 0)),(6,tkV (if j=0 then [] else pfR k)),(17,.one (.ras 1 1 lP)),(18,I .i64 ((1:Nat):Int)),(19,I .i64 j)] ([(3,grO lN lP),(5,.var 37 (bA b)),(720,tkA (if j=0 then [] else pfR k))]++lH n t x k) []) (fun j=>j≤1) (fun j=>1-j) 0 (Aj _) (slG lHW) ?_)));intro j hj;refine sg rfl (a8 (aA rfl (fun hb=>?_) (fun hb=>?_)))
 ·have O:j=0:=by
   have:(j:Int)<((1:Nat):Int):=ψ hb;omega
  subst O;rw[ξ rfl];refine aD (a8 (aC (sg rfl (aE mixed (ak 4 [(3,.row 0 (aB k))] rfl (kc hf ?_))))));refine kz 2 rfl (AWp.sub (Sub.freeze (id:=720) rfl) ?_);refine ag [] rfl ⟨1,le_refl _,by dsimp only;omega,?_⟩;dsimp only;rw[φ (by decide)];exact slG lHW (he:=⟨rfl,rfl,rfl,Go.AM.hs_ren (by simp) (by simp),rfl,rfl,rfl,trivial⟩) (hh:=⟨⟨_,rfl,.varS rfl⟩,⟨_,rfl,.varS rfl⟩,⟨_,rfl,.arrS (by simp)⟩,⟨_,rfl,.varS rfl⟩,⟨_,rfl,.arr⟩,⟨_,rfl,.arr⟩,⟨_,rfl,.rarrS rfl⟩,trivial⟩)
 have J:j=1:=by
  have:¬(j:Int)<((1:Nat):Int):=δ hb;omega
 subst J;rw[φ (by decide)];refine aO (a8 (sk 2 rfl (kc Y ?_)));refine kz 1 rfl (aA rfl nofun (fun hb=>aD (a8 (sg rfl (aC (aL (fun j:Nat=>mkt [(1,Go.AM.T s),(3,.one (.vp 3 0)),(5,.one (.vp 5 0)),(6,tkV (if j=0 then pfR k else pfR k++[x])),(35,.one (.ras 1 1 lN)),(36,I .i64 ((1:Nat):Int)),(37,I .i64 j)] ([(3,grO lN lP),(5,.var 37 (bA b)),(720,tkA (if j=0 then pfR k else pfR k++[x]))]++lH n t x k) []) (fun j=>j≤1) (fun j=>1-j) 0 (Aj _) (slG lHW) ?_))))));intro j hj;refine sg rfl (a8 (aA rfl (fun hb=>?_) (fun hb=>?_)))
 ·have O:j=0:=by
   have:(j:Int)<((1:Nat):Int):=ψ hb;omega
  subst O;rw[ξ rfl];refine aD (a8 (aC (sg rfl (a8 (sg rfl (aA rfl (fun hb=>absurd (ψ hb).symm Z) (fun hb=>aD (ag [] rfl (AWp.sub (Sub.freeze (id:=720) rfl) ?_)))))))));refine ag [] rfl ⟨1,le_refl _,by dsimp only;omega,?_⟩;dsimp only;rw[φ (by decide)];exact slG lHW (he:=⟨rfl,rfl,rfl,Go.AM.hs_ren (by simp) (by simp),rfl,rfl,rfl,trivial⟩) (hh:=⟨⟨_,rfl,.varS rfl⟩,⟨_,rfl,.varS rfl⟩,⟨_,rfl,.arrS (by simp[bD])⟩,⟨_,rfl,.varS rfl⟩,⟨_,rfl,.arr⟩,⟨_,rfl,.arr⟩,⟨_,rfl,.rarrS rfl⟩,trivial⟩)
 have J:j=1:=by
  have:¬(j:Int)<((1:Nat):Int):=δ hb;omega
 subst J;rw[φ (by decide)];refine aO (sk 1 rfl (kc ah ?_));refine kz 1 rfl (sg rfl (AWp.sub (Sub.freeze (id:=720) rfl) ?_));refine sg rfl (a8 (sg rfl (aC (aL (fun i:Nat=>mkt [(1,Go.AM.T s),(5,.one (.vp 5 0)),(11,aY (pfR b)),(12,.one (.clo 144 [.vp 3 0])),(60,.one (.ras 1 1 lN)),(61,I .i64 ((1:Nat):Int)),(62,I .i64 i)] ([(3,grO lN lP),(5,.var 37 (bA b))]++lH n t x k) []) (fun i=>i≤1) (fun i=>1-i) 0 (Aj _) (slG lHW) ?_))));intro i hi;refine sg rfl (a8 (aA rfl (fun hb=>?_) (fun hb=>?_)))
 ·have aj:i=0:=by
   have:(i:Int)<((1:Nat):Int):=ψ hb;omega
  subst aj;refine aD (a8 (aC (sg rfl (sk 4 rfl (kc ad ?_)))));exact az (aA rfl nofun (fun hb=>aD (ag [] rfl ⟨1,le_refl _,by dsimp only;omega,slG lHW⟩)))
 have J:i=1:=by
  have:¬(i:Int)<((1:Nat):Int):=δ hb;omega
 subst J;refine aO (aE mixed (ak 3 [] rfl (kv (caps:=[.vp 3 0]) (args:=[Go.AM.T s,.pa (aB b)]) aa ?_)));exact az ⟨.inl rfl,aCw W (FarEq.outs W) ⟨[],[],.nil,.nil,rfl⟩ (fun _ h=>by cases h) lHW.refs (fun i hi=>GW.kf i hi) (fun q N=>by rcases χ.1 N with N | N;exact(A7.1 (lHW (n:=n) (t:=t) (x:=x) (k:=k)).plain) q N;cases N)⟩
def w30 (s:Str):Nat:=max 30 s.length
mutual
def m30:Core→Nat
 | .mk _ _ s _ ks bs al=>1+w30 s+cK ks+fR bs+iC al
def cK:List Core→Nat
 | []=>0
 | c::l=>m30 c+cK l
def fR:List Bind→Nat
 | []=>0
 | .mk s _ c::l=>1+w30 s+m30 c+fR l
def iC:List Alt→Nat
 | []=>0
 | .mk _ _ s vs c::l=>1+w30 s+(vs.map fun v=>1+w30 v).sum+m30 c+iC l
end
theorem aDi (s:Str):s.length≤w30 s:=Cy ..
theorem kT (s:Str):30≤w30 s:=C2 ..
theorem yE {z s:Str}(h:z.length≤30):w30 z≤w30 s:=by unfold w30;omega
theorem aWq:∀vs:List Str,(vs.map fun v=>1+v.length).sum≤(vs.map fun v=>1+w30 v).sum
 | []=>le_refl _
 | v::vs=>by
  simp only[Am,Cd];have:=aWq vs;have:=aDi v;omega
mutual
theorem bV:∀c:Core,b7 c≤m30 c
 | .mk _ _ s _ ks bs al=>by
  rw[b7,m30];have:=v7 ks;have:=vE bs;have:=vJ al;have:=aDi s;omega
theorem v7:∀l:List Core,bR l≤cK l
 | []=>by rw[bR,cK];exact le_refl _
 | c::l=>by
  rw[bR,cK];have:=bV c;have:=v7 l;omega
theorem vE:∀l:List Bind,eT l≤fR l
 | []=>by rw[eT,fR];exact le_refl _
 | .mk s _ c::l=>by
  rw[eT,bsize,fR];have:=bV c;have:=vE l;have:=aDi s;omega
theorem vJ:∀l:List Alt,eU l≤iC l
 | []=>by rw[eU,iC];exact le_refl _
 | .mk _ _ s vs c::l=>by
  rw[eU,nK,iC];have:=bV c;have:=vJ l;have:=aDi s;have:=aWq vs;omega
end
theorem dF (c:Core):31≤m30 c:=by obtain⟨_,_,s,_,ks,bs,al⟩:=c;rw[m30];have:=kT s;omega
theorem fJ:∀{l:List Core}{c:Core},c∈l→m30 c≤cK l
 | d::l,c,h=>by
  rw[cK];rcases Ao.1 h with rfl | h
  ·omega
  ·have:=fJ h;omega
theorem mM:∀{l:List Bind}{b:Bind},b∈l→m30 b.body≤fR l
 | .mk s t c::l,b,h=>by
  rw[fR];rcases Ao.1 h with rfl | h
  ·show m30 c≤_;omega
  ·have:=mM h;omega
theorem i6:∀{l:List Alt}{a:Alt},a∈l→m30 a.body+(a.vars.map fun v=>1+w30 v).sum≤iC l
 | .mk f n s vs c::l,a,h=>by
  rw[iC];rcases Ao.1 h with rfl | h
  ·show m30 c+(vs.map fun v=>1+w30 v).sum≤_;omega
  ·have:=i6 h;omega
theorem qQ:∀a b:List Core,cK (a++b)=cK a+cK b
 | [],b=>by rw[cK];simp
 | c::a,b=>by rw[Ba,cK,cK,qQ a b];omega
theorem sE:∀l:List Bind,cK (l.map Bind.body)+31*l.length≤fR l
 | []=>by rw[Bs,cK,fR];simp
 | .mk s t c::l=>by
  rw[Am,cK,fR];have:=sE l;have:=kT s;show m30 c+_+_≤_;rw[Ag];omega
theorem xB:∀l:List Core,31*l.length≤cK l
 | []=>by simp
 | c::l=>by rw[cK,Ag];have:=xB l;have:=dF c;omega
theorem aFk:∀l:List Alt,31*l.length≤iC l
 | []=>by simp
 | .mk _ _ s _ c::l=>by rw[iC,Ag];have:=aFk l;have:=dF c;omega
theorem aFw:∀ps:List Core,(ps.flatMap pfR).length≤cK ps
 | []=>by simp
 | p::ps=>by
  rw[B9,ω,cK];have:=aHb p;have:=bV p;have:=aFw ps;omega
theorem j0 (c:Core):(pfR c).length≤m30 c:=le_trans (aHb c) (bV c)
theorem rG:∀vs:List Str,31*vs.length≤(vs.map fun v=>1+w30 v).sum
 | []=>le_refl _
 | v::vs=>by simp only[Am,Cd,Ag];have:=rG vs;have:=kT v;omega
inductive A2 {α β:Type}(R:α→β→Prop):List α→List β→Prop
 | nil:A2 R [] []
 | cons {a b l m}:R a b→A2 R l m→A2 R (a::l) (b::m)
theorem A2.refl {α:Type}{R:α→α→Prop}(h:∀a,R a a):∀l,A2 R l l
 | []=>.nil
 | a::l=>.cons (h a) (A2.refl h l)
theorem A2.trans {α:Type}{R:α→α→Prop}(h:∀a b c,R a b→R b c→R a c) {l m k:List α}(h1:A2 R l m):A2 R m k→A2 R l k:=by
 induction h1 generalizing k with
 | nil=>intro h2;cases h2;exact .nil
 | cons r _ q=>intro h2;cases h2 with | cons r' h2=>exact .cons (h _ _ _ r r') (q h2)
theorem A2.map {α:Type}{R:α→α→Prop}{f:α→α}(h:∀a,R a (f a)):∀l,A2 R l (l.map f)
 | []=>.nil
 | a::l=>.cons (h a) (A2.map h l)
theorem A2.length {α β:Type}{R:α→β→Prop}{l:List α}{m:List β}(h:A2 R l m):m.length=l.length:=by
 induction h with
 | nil=>rfl
 | cons _ _ q=>simp[q]
theorem A2.take {α β:Type}{R:α→β→Prop}{l:List α}{m:List β}(h:A2 R l m):∀n:Nat,A2 R (l.take n) (m.take n):=by
 induction h with
 | nil=>intro n;simp;exact .nil
 | cons r _ q=>
  intro n;cases n with
  | zero=>exact .nil
  | succ n=>exact .cons r (q n)
theorem A2.drop {α β:Type}{R:α→β→Prop}{l:List α}{m:List β}(h:A2 R l m):∀n:Nat,A2 R (l.drop n) (m.drop n):=by
 induction h with
 | nil=>intro n;simp;exact .nil
 | cons r h q=>
  intro n;cases n with
  | zero=>exact .cons r h
  | succ n=>exact q n
theorem A2.mono {α β:Type}{R R':α→β→Prop}(hm:∀a b,R a b→R' a b) {l:List α}{m:List β}(h:A2 R l m):A2 R' l m:=by
 induction h with
 | nil=>exact .nil
 | cons r _ q=>exact .cons (hm _ _ r) q
def nh (s:Str):Prop:=s.head?≠some 37∧s.head?≠some 35
theorem aHk (n:Nat):nh (bG n):=by
 have key:∀m:_root_.Fin 26,UInt8.ofNat (97+m.val)≠37∧UInt8.ofNat (97+m.val)≠35:=by decide
 have h:UInt8.ofNat (97+n%26)≠37∧UInt8.ofNat (97+n%26)≠35:=key ⟨n%26,Nat.mod_lt _ (by decide)⟩;unfold nh bG;split
 ·simpa using h
 ·simpa using h
theorem aFv (l:List Str):nh (aZ l):=aHk _
def NR (n n':Str):Prop:=n'=n∨(n'.length≤30∧nh n')
theorem NR.w {n n':Str}(h:NR n n'):w30 n'≤w30 n:=by
 rcases h with rfl | ⟨h,_⟩
 ·exact le_refl _
 ·exact yE h
theorem NR.nh {n n':Str}(h:NR n n') (hn:nh n):nh n':=by
 rcases h with rfl | ⟨_,h⟩
 ·exact hn
 ·exact h
section
variable {sb:Core→Str→Core→Core}
theorem aFs {Rel:Core→Core→Prop}(I:∀p,Rel p p) (ht:∀p q r,Rel p q→Rel q r→Rel p r) {far:List Str}(J:∀p n z,z.length≤30→Rel p (sb p n (vC z))):
  ∀{ns:List Str} {st:List Str×List Core×List Str},st.2.2.length+ns.length≤540000000000→
   A2 Rel st.2.1 (jN sb far ns st).2.1∧∃ns',(jN sb far ns st).1=st.1++ns'∧A2 NR ns ns'
 | [],st,_=>⟨A2.refl I _,[],by show st.1=_;simp,.nil⟩
 | n::ns,st,hl=>by
  simp only[Ag] at hl;have hg:=sI (sb:=sb) (far:=far) (st:=st) (n:=n);obtain⟨h1,ns',h2,h3⟩:=aFs I ht J (far:=far) (ns:=ns) (st:=dS sb far st n) (by omega);have e:jN sb far (n::ns) st=jN sb far ns (dS sb far st n):=rfl;rw[e];have hf:(aZ st.2.2).length≤30:=le_trans (jY _ (by omega)) (by omega);by_cases hn:n∈far
  ·have es:dS sb far st n=(st.1++[aZ st.2.2],st.2.1.map (fun p=>sb p n (vC (aZ st.2.2))),st.2.2++[aZ st.2.2]):=by unfold dS;rw[ξ hn]
   rw[es] at h1 h2 ⊢;refine⟨A2.trans ht (A2.map (fun p=>J p n _ hf) _) h1,aZ st.2.2::ns',?_,.cons (.inr ⟨hf,aFv _⟩) h3⟩;rw[h2,At];rfl
  ·have es:dS sb far st n=(st.1++[n],st.2.1,st.2.2):=by unfold dS;rw[φ hn]
   rw[es] at h1 h2 ⊢;refine⟨h1,n::ns',?_,.cons (.inl rfl) h3⟩;rw[h2,At];rfl
theorem aEt {Rel:Core→Core→Prop}(J:∀p,Rel p p) (ht:∀p q r,Rel p q→Rel q r→Rel p r) {s:Str}{b:Core}{ns:List Str}{ps:List Core}(N:∀p n z,z.length≤30→Rel p (sb p n (vC z)))
  (hl:(ps.flatMap pfR).length+2*ns.length+(pfR b).length≤540000000000):(∃I,A2 Rel ps I∧((bX sb s b ns ps).2=I∨(bX sb s b ns ps).2=I.map fun p=>sb p s b))∧A2 NR ns (bX sb s b ns ps).1:=by
 unfold bX;split
 ·obtain⟨h1,ns',h2,h3⟩:=aFs J ht N (far:=pfR b) (ns:=ns) (st:=([],ps,ps.flatMap pfR++ns++pfR b)) (by simp only[ω];omega);exact⟨⟨_,h1,.inr rfl⟩,by rw[h2];exact h3⟩
 ·exact⟨⟨ps,A2.refl J _,.inl rfl⟩,A2.refl (fun _=>.inl rfl) _⟩
end
theorem A2.mem {α β:Type}{R:α→β→Prop}{l:List α}{m:List β}(h:A2 R l m):∀b∈m,∃a∈l,R a b:=by
 induction h with
 | nil=>intro b hb;cases hb
 | cons r _ I=>
  intro b hb;rcases Ao.1 hb with rfl | hb
  ·exact⟨_,ζ,r⟩
  ·obtain⟨a,ha,q⟩:=I b hb;exact⟨a,κ _ ha,q⟩
theorem A2.mapL {α β γ:Type}{R:β→γ→Prop}{f:α→β}:∀{l:List α}{m:List γ},A2 R (l.map f) m→A2 (fun a c=>R (f a) c) l m
 | [],m,h=>by cases h;exact .nil
 | a::l,m,h=>by
  cases h with
  | cons r h=>exact .cons r (A2.mapL h)
theorem oX:∀{ts:List Ty}{ns:List Str}{ps:List Core}{x:Bind},x∈mkB ts ns ps→x.body∈ps∧x.ty∈ts
 | t::ts,n::ns,p::ps,x,h=>by
  unfold mkB at h;rcases Ao.1 h with rfl | h
  ·exact⟨ζ,ζ⟩
  ·obtain⟨h1,h2⟩:=oX h;exact⟨κ _ h1,κ _ h2⟩
 | [],_,_,x,h=>by unfold mkB at h;cases h
 | _::_,[],_,x,h=>by unfold mkB at h;cases h
 | _::_,_::_,[],x,h=>by unfold mkB at h;cases h
theorem tC {T:Ty→Prop}:∀{l:List Core},aBd T l↔∀x∈l,allT T x
 | []=>by simp[aBd]
 | c::l=>by rw[aBd,tC (l:=l)];simp
theorem tF {T:Ty→Prop}:∀{l:List Bind},aBe T l↔∀x∈l,T x.ty∧allT T x.body
 | []=>by simp[aBe]
 | .mk _ t c::l=>by rw[aBe,tF (l:=l)];simp[Bind.body,Bind.ty,and_assoc]
theorem tI {T:Ty→Prop}:∀{l:List Alt},aBg T l↔∀x∈l,allT T x.body
 | []=>by simp[aBg]
 | .mk _ _ _ _ c::l=>by rw[aBg,tI (l:=l)];simp[Alt.body]
def Big:Nat:=250000000000
theorem aRv {z:Str}(h:z.length≤30):m30 (vC z)=31:=by
 unfold vC;rw[m30,cK,fR,iC];unfold w30;omega
theorem aCp {f:Int}{nm:Str}{bs:List Bind}:(gvN f nm bs).length≤1+bs.length:=by unfold gvN;split<;>simp;omega
theorem aEc {vs vs':List Str}(h:A2 NR vs vs'):(vs'.map fun v=>1+w30 v).sum≤(vs.map fun v=>1+w30 v).sum:=by
 induction h with
 | nil=>exact le_refl _
 | cons r _ q=>
  simp only[Am,Cd];have:=r.w;omega
section
variable {clr:Core→List Str→Core}{T:Ty→Prop}
end
def uW (i:Nat) (al:List Alt):List (Nat×AObj):=(fam 0 al).filter fun p=>!Nat.beq p.1 (i+800)
theorem vF {a b:Nat}(h:a≠b):Nat.beq a b=false:=by
 cases hb:Nat.beq a b with
 | false=>rfl
 | true=>exact absurd (Ac hb) h
theorem xO {i:Nat}{al:List Alt}{p:Nat×AObj}(h:p∈uW i al):p∈fam 0 al∧p.1≠i+800:=by
 obtain⟨h1,h2⟩:=mem_filter.1 h;refine⟨h1,fun e=>?_⟩;rw[e,B6] at h2;cases h2
theorem aCx {i:Nat}{al:List Alt}:TF (uW i al):=⟨fun p hp=>fI.far p (xO hp).1,by
 have:((uW i al).map (·.1)).Sublist ((fam 0 al).map (·.1)):=(List.filter_sublist ..).map _
 exact List.Nodup.sublist this lS,fun p hp=>fI.arr p (xO hp).1⟩
theorem pZ:∀{l:List Alt}{k i x:Nat},x∈c8 ((aV k l).set i [])→∃j,j<l.length∧j≠i∧x=k+j+800
 | [],_,_,_,h=>by simp[aV,c8] at h
 | a::l,k,0,x,h=>by
  have h:x∈c8 (aV (k+1) l):=by simpa [aV,c8,R.refsL] using h
  obtain⟨p,hp,e⟩:=Ad.1 (dA x h);obtain⟨j,b,hj,rfl⟩:=nE hp;have q:j<l.length:=(Ab.1 hj).1
  exact⟨j+1,by simp;exact q,by omega,by rw[←e];show k+1+j+800=_;omega⟩
 | a::l,k,i+1,x,h=>by
  rcases χ.1 (show x∈R.refsL (dM k a)++c8 ((aV (k+1) l).set i []) from h) with h | h
  ·exact⟨0,by simp,by omega,by rw[pU h]⟩
  ·obtain⟨j,h1,h2,h3⟩:=pZ h;exact⟨j+1,by simp;exact h1,by omega,by omega⟩
theorem aPz {i j:Nat}{al:List Alt}(h:j<al.length) (q:j≠i):0+j+800∈keys (uW i al):=by
 obtain⟨a,ha⟩:=aJ h;exact Ad.2 ⟨_,mem_filter.2 ⟨aAi ha,by simp only[vF (show 0+j+800≠i+800 by omega)];rfl⟩,rfl⟩
theorem wC {i j:Nat}(h:j≠704) (q:j≠i+800):swp 704 (i+800) j=j:=by unfold swp;rw[vF h,vF q];rfl
theorem uF {σ:Nat→Nat}:∀{l:List Alt}{k i:Nat}{a:Alt}{r:List R},l[i]?=some a→(∀j,j<l.length→j≠i→σ (k+j+800)=k+j+800)→R.renL σ r=dM (k+i) a→mX σ ((aV k l).set i r)=aV k l
 | b::l,k,0,a,r,h,hσ,q=>by
  simp at h;subst h;show R.renL σ r::mX σ (aV (k+1) l)=_;have key:∀(l:List Alt) (k:Nat),(∀j,j<l.length→σ (k+j+800)=k+j+800)→mX σ (aV k l)=aV k l:=by
   intro l
   induction l with
   | nil=>intro _ _;rfl
   | cons c l I=>
    intro k hk;simp only[aV,mX]
    rw[kB,show σ (k+800)=k+800 from hk 0 (by simp),I (k+1) fun j hj=>by
     have:=hk (j+1) (by simp;exact hj)
     rwa [show k+(j+1)+800=k+1+j+800 by omega] at this];rfl
  rw[q,key l (k+1) fun j hj=>by
   have:=hσ (j+1) (by simp;exact hj) (by omega)
   rwa [show k+(j+1)+800=k+1+j+800 by omega] at this];rfl
 | b::l,k,i+1,a,r,h,hσ,q=>by
  show R.renL σ (dM k b)::mX σ ((aV (k+1) l).set i r)=_
  rw[kB,show σ (k+800)=k+800 from hσ 0 (by simp) (by omega),uF (l:=l) (k:=k+1) (a:=a) (by simpa using h) (fun j hj J=>by
   have:=hσ (j+1) (by simp;exact hj) (by omega)
   rwa [show k+(j+1)+800=k+1+j+800 by omega] at this) (by rw[q,show k+1+i=k+(i+1) by omega])];rfl
theorem aLc {i:Nat}{al:List Alt}{j:Nat}(h:j≠i+800):Go.AM.look (uW i al) j=Go.AM.look (fam 0 al) j:=by
 unfold uW;generalize fam 0 al=F
 induction F with
 | nil=>rfl
 | cons p F q=>
  obtain⟨k,o⟩:=p;rw[Cw];simp only[Go.AM.look];by_cases hk:k=i+800
  ·rw[hk,B6];simp only[Bool.not_true,Bc,Bv];rw[q,vF h];rfl
  ·rw[vF hk];simp only[Bool.not_false,Cm,Go.AM.look];cases Nat.beq j k
   ·simpa using q
   ·rfl
theorem aPy {i:Nat}{al:List Alt}:renH (swp 704 (i+800)) (uW i al)=uW i al:=by
 have key:∀F:List (Nat×AObj),(∀p∈F,p∈uW i al)→renH (swp 704 (i+800)) F=F:=by
  intro F
  induction F with
  | nil=>intro _;rfl
  | cons p F I=>
   intro h;have hp:=xO (h p ζ);obtain⟨te,es,l,z,e⟩:=fI.arr p hp.1;have J:=fI.far p hp.1;show(swp 704 (i+800) p.1,p.2.ren _)::renH _ F=_;rw[I fun q N=>h q (κ _ N),wC (by omega) hp.2,e];show(p.1,AObj.arr te es l z)::F=_;rw[←e]
 exact key _ fun _ h=>h
abbrev aX (i:Nat) (al:List Alt) (a:Alt) (nv:Nat):List (Nat×AObj):=aH ((aV 0 al).set i []) i a.form a.n a.name nv a.vars a.body++uW i al
theorem aLd {i:Nat}{al:List Alt}{a:Alt}(I:al[i]?=some a):Go.AM.look (renH (swp 704 (i+800)) (aX i al a a.vars.length))=Go.AM.look ((703,.rarr 88 14 (aV 0 al))::fam 0 al):=by
 have J:renH (swp 704 (i+800)) (aX i al a a.vars.length)=(703,.rarr 88 14 (aV 0 al))::(i+800,.arr 9 1 (a.vars.map bD) 0)::uW i al:=by
  unfold aX aH;show(swp 704 (i+800) 703,AObj.rarr _ _ (mX _ _))::(swp 704 (i+800) 704,AObj.arr _ _ _ _)::renH _ (uW i al)=_;rw[aPy,wC (by omega) (by omega),aWy];have q:swp 704 (i+800) 704=i+800:=by unfold swp;rw[B6];rfl
  rw[q,uF I (fun j hj N=>wC (by omega) (by omega)) ?_];unfold aEm dM;simp only[Ba,Bd,R.renL,R.ren,aJm,q,Be]
 rw[J];funext j;by_cases h1:j=703
 ·subst h1;rw[dJ,dJ]
 rw[dR h1,dR h1];by_cases h2:j=i+800
 ·subst h2;rw[dJ];have:=oZ (lS (l:=al) (k:=0)) _ (aAi I);rw[Be] at this;exact this.symm
 ·rw[dR h2,aLc h2]
theorem n7:∀{l:List Alt}{k i:Nat}{q:Alt},(aV k (l.set i q)).set i []=(aV k l).set i []
 | [],_,_,_=>rfl
 | b::l,k,0,q=>rfl
 | b::l,k,i+1,q=>by
  simp only[Cq,aV];rw[n7]
theorem aPx {i:Nat}{al:List Alt}{q:Alt}:uW i (al.set i q)=uW i al:=by
 unfold uW;have key:∀(l:List Alt) (k j:Nat),k+j=i→((fam k (l.set j q)).filter fun p=>!Nat.beq p.1 (i+800))=(fam k l).filter fun p=>!Nat.beq p.1 (i+800):=by
  intro l
  induction l with
  | nil=>intro _ _ _;rfl
  | cons b l I=>
   intro k j h;cases j with
   | zero=>
    have e:k=i:=by omega
    subst e;simp only[List.set_cons_zero,fam,Cw,B6,Bool.not_true];rfl
   | succ j=>
    simp only[Cq,fam,Cw];rw[I (k+1) j (by omega)]
 exact key al 0 i (by omega)
theorem aVa (al:List Alt) (i:Nat) (a:Alt) (J:al[i]?=some a) (s:Str) (b:Core) (sb:Core→Str→Core→Core) (P:Core→Prop) (hok:PutOk sb P s b [a.body])
  (hM:(pfR a.body).length+2*a.vars.length+(pfR b).length+1≤540000000000) (nv:Nat) (W:nv=a.vars.length) (Y:Nat) (Z:Y=al.length):
  ∃q,(bX sb s b a.vars [a.body]).2=[q]∧aU Tryz.prog 126 [.ma [.ras nv 1 (vR i nv nv).flatten,.ras 1 1 [.rp 703 i 4 Y]],Go.AM.T s,.pa (aB b)] ((703,.rarr 88 14 (aV 0 al))::fam 0 al) (.tup [])
   ((703,.rarr 88 14 (aV 0 (al.set i (.mk a.form a.n a.name (bX sb s b a.vars [a.body]).1 q))))::fam 0 (al.set i (.mk a.form a.n a.name (bX sb s b a.vars [a.body]).1 q))):=by
 subst W;subst Z;have aa:i<al.length:=(Ab.1 J).1
 have ab:((aV 0 al).set i []).length=al.length:=by rw[B3,dV]
 have hr:∀x∈c8 ((aV 0 al).set i []),x∈keys (uW i al):=fun x hx=>by
  obtain⟨j,h1,h2,rfl⟩:=pZ hx;exact aPz h1 h2
 obtain⟨q,hq,h⟩:=aYy ((aV 0 al).set i []) i a.form a.n a.name a.vars.length a.vars a.body (uW i al) s b sb P aCx hr (by omega) rfl hok hM;refine⟨q,hq,?_⟩;have hl1:=(mH (sb:=sb) (s:=s) (b:=b) (ns:=a.vars) (ps:=[a.body])).1
 rw[ab] at h;have I:∀(ns:List Str) (p:Core),subset (dN (aH ((aV 0 al).set i []) i a.form a.n a.name a.vars.length ns p++uW i al)) (keys (aH ((aV 0 al).set i []) i a.form a.n a.name a.vars.length ns p++uW i al))=true:=fun ns p=>eI (nO aCx (aHW aCx hr).refs)
 have h2:=aU.swap 704 (i+800) h (I _ _) (eI fun x hx=>by
  have hx:x∈(grO (aN a.vars.length) (aP i al.length)).refs++([]++([]++[])):=hx;rw[A0,A0,A0] at hx;rcases aDa x hx with rfl | rfl
  ·simp[aH,keys]
  ·simp[aH,keys]) (I _ _) rfl
 have ea:V.renL (swp 704 (i+800)) [gpV (aN a.vars.length) (aP i al.length),Go.AM.T s,.pa (aB b)]=[.ma [.ras a.vars.length 1 (vR i a.vars.length a.vars.length).flatten,.ras 1 1 [.rp 703 i 4 al.length]],Go.AM.T s,.pa (aB b)]:=by
  have N:swp 704 (i+800) 704=i+800:=by unfold swp;rw[B6];rfl
  have en:R.renL (swp 704 (i+800)) (aN a.vars.length)=(vR i a.vars.length a.vars.length).flatten:=by
   unfold aN vR rgR;generalize List.range a.vars.length=rg
   induction rg with
   | nil=>rfl
   | cons j rg ih=>
    simp only[Am,Bi,List.singleton_append,R.renL,R.ren,N] at ih ⊢;rw[ih]
  unfold gpV aP;simp only[V.renL,V.ren,R.renL,R.ren,en,aSx,wC (show 703≠704 by omega) (show 703≠i+800 by omega)];rfl
 rw[ea] at h2;refine aU.row h2 (aLd J).symm ?_;have O:(al.set i (.mk a.form a.n a.name (bX sb s b a.vars [a.body]).1 q))[i]?=some (.mk a.form a.n a.name (bX sb s b a.vars [a.body]).1 q):=Cj aa;have h3:=aLd O;unfold aX at h3;rw[n7,aPx] at h3;rw[←h3];show Go.AM.look (renH _ (aH _ i a.form a.n a.name (bX sb s b a.vars [a.body]).1.length _ _++uW i al))=_;rw[hl1];rfl
def hZ (h:cR):Prop:=∀i,800≤i→h i=none
theorem hZ.nil:hZ (Go.AM.look []):=fun _ _=>rfl
theorem hZ.upd {h:cR}{k:Nat}{x:Option AObj}(hf:hZ h) (hk:Nat.blt k 800=true:=by rfl):hZ (upd h k x):=fun i hi=>by
 have:=Aq hk;rw[bE _ _ _ (by omega)];exact hf i hi
theorem aFc:∀bs:List Bind,mkB (bs.map Bind.ty) (bs.map Bind.name) (bs.map Bind.body)=bs
 | []=>rfl
 | .mk s t c::bs=>by
  show Bind.mk s t c::mkB _ _ _=_;rw[aFc bs]
theorem a0p {b:Bool}{nk nb:Nat}(h:b=false):pA b nk nb=[.ras (tN nb).length 1 (tN nb),.ras (tP nk nb).length 1 (tP nk nb)]:=by
 subst h;have q:(nR false nb nb).length=(tN nb).length:=by unfold tN;rw[mP aI9,mul_one]
 have I:(pR nk nb nb).length=(tP nk nb).length:=by unfold tP;rw[mP uN,mul_one]
 unfold pA;rw[q,I];rfl
section
variable {clr:Core→List Str→Core}{k:Nat}
noncomputable def jL (sb:Core→Str→Core→Core) (s:Str) (b:Core) (a:Alt):Alt:=.mk a.form a.n a.name (bX sb s b a.vars [a.body]).1 ((bX sb s b a.vars [a.body]).2.headD a.body)
noncomputable def tB (sb:Core→Str→Core→Core) (s:Str) (b:Core) (al:List Alt) (i:Nat):List Alt:=(al.take i).map (jL sb s b)++al.drop i
theorem y6 {sb:Core→Str→Core→Core}{s:Str}{b:Core}{al:List Alt}{i:Nat}:(tB sb s b al i).length=al.length:=by unfold tB;simp;omega
theorem aVt {sb:Core→Str→Core→Core}{s:Str}{b:Core}{al:List Alt}{i:Nat}{a:Alt}(h:al[i]?=some a):(tB sb s b al i)[i]?=some a:=by
 have q:i<al.length:=(Ab.1 h).1
 unfold tB;rw[A3 (by simp;omega),θ,Au,B5 (by omega),sub_self,Ap,Bw,h]
theorem aNe {sb:Core→Str→Core→Core}{s:Str}{b:Core}{al:List Alt}{i:Nat}{a:Alt}(h:al[i]?=some a):tB sb s b al (i+1)=(tB sb s b al i).set i (jL sb s b a):=by
 have q:i<al.length:=(Ab.1 h).1
 unfold tB;rw[pD h,rK (by simp;omega),Bh,h];simp
theorem aNd {sb:Core→Str→Core→Core}{s:Str}{b:Core}{al:List Alt}:tB sb s b al 0=al:=by simp[tB]
theorem aQo {sb:Core→Str→Core→Core}{s:Str}{b:Core}{al:List Alt}:tB sb s b al al.length=al.map (jL sb s b):=by simp[tB]
noncomputable def zNm (sb:Core→Str→Core→Core) (f:Int) (nm:Str) (s:Str) (b:Core) (ks:List Core) (bs:List Bind):Nat→Str
 | 0=>nm
 | _+1=>if f=5 then(bX sb s b (gvN f nm bs) (ks++bs.map Bind.body)).1.headD nm else nm
noncomputable def zKs (sb:Core→Str→Core→Core) (f:Int) (nm:Str) (s:Str) (b:Core) (ks:List Core) (bs:List Bind):Nat→List Core
 | 0=>ks
 | _+1=>(bX sb s b (gvN f nm bs) (ks++bs.map Bind.body)).2.take ks.length
noncomputable def zBs (sb:Core→Str→Core→Core) (f:Int) (nm:Str) (s:Str) (b:Core) (ks:List Core) (bs:List Bind):Nat→List Bind
 | 0=>bs
 | _+1=>mkB (bs.map Bind.ty) (bX sb s b (gvN f nm bs) (ks++bs.map Bind.body)).1 ((bX sb s b (gvN f nm bs) (ks++bs.map Bind.body)).2.drop ks.length)
noncomputable def zAs (sb:Core→Str→Core→Core) (s:Str) (b:Core) (al:List Alt):Nat→List Alt
 | 0=>al
 | i+1=>tB sb s b al i
theorem xN:∀{l m:List Alt}{k:Nat},l.length=m.length→keys (fam k l)=keys (fam k m)
 | [],[],_,_=>rfl
 | a::l,c::m,k,h=>by
  show(k+800)::keys (fam (k+1) l)=(k+800)::keys (fam (k+1) m);rw[xN (by simpa using h)]
end
def vT (z:Str):Ty:=.mk 2 0 z []
theorem aGe (n:Int) (nm:Str) (t:Ty) (kid:Core) (far:List Str) (J:far.length≤540000000000) (I:¬nm∈far):
  aU Tryz.prog 75 [.one (.vp 700 0),aY far] (gHl 7 n nm t [kid] [] []) (.tup []) (gHl 7 n nm t [kid] [] []):=by
 have q:=bW far nm (by omega);rw[Al I] at q;refine bO (n:=44) tok Tryz.func75 rfl rfl rfl ?_;refine sk 5 rfl (kc q ?_);exact az (aA rfl nofun (fun hb=>aD ⟨.inl rfl,⟨[],[],.nil,.nil,rfl⟩,⟨⟨_,rfl,.var rfl⟩,⟨_,rfl,.arr⟩,⟨_,rfl,.arr⟩,⟨_,rfl,.rarr rfl⟩,trivial⟩,rfl⟩))
theorem aGd (n:Int) (nm:Str) (t:Ty) (kid q:Core) (far:List Str) (W:far.length≤540000000000) (hin:nm∈far) (Y:cQ 540000000000) (N:aU Tryz.prog 74 [.pa (aB kid)] [] (aY (tyR kid)) []) (aa:far.length+(tyR kid).length≤540000000000)
  (hs:aU Tryz.prog 31 [.pa (aB kid),Go.AM.T nm,tyV (vT (aZ (far++tyR kid)))] [] (.pa (aB q)) []):
  aU Tryz.prog 75 [.one (.vp 700 0),aY far] (gHl 7 n nm t [kid] [] []) (.tup []) (gHl 7 n (aZ (far++tyR kid)) t [q] [] []):=by
 have I:=bW far nm (by omega);rw[Ak hin] at I;have O:=n6 (far.map bD) (by rw[θ];omega);have ab:(far.map bD).length=far.length:=θ _;have Z:((tyR kid).map bD).length=(tyR kid).length:=θ _;have J:=xY (far++tyR kid) (by rw[ω];omega) fun k hk=>Y k (by rw[ω] at hk;omega)
 generalize aZ (far++tyR kid)=z at hs J ⊢;refine bO (n:=44) tok Tryz.func75 rfl rfl rfl ?_;refine sk 5 rfl (kc I ?_);refine az (aA rfl (fun hb=>sk 1 rfl (kc O ?_)) nofun);refine ak 6 [(7,.row 0 (aB kid))] rfl (kc N ?_);refine ak 1 [(9,.fz)] rfl (kc J ?_);refine kz 1 rfl (skh 15 [(9,.row 0 (aB kid))] rfl (kc (aSf z) ?_));refine kc hs ?_;exact ak 2 [(18,.row 0 (aB kid))] rfl (az (ag [] rfl ⟨.inl rfl,⟨[],[],.nil,.nil,rfl⟩,⟨⟨_,rfl,.var rfl⟩,⟨_,rfl,.arr⟩,⟨_,rfl,.arr⟩,⟨_,rfl,.rarr rfl⟩,trivial⟩,rfl⟩))
theorem a00 (name:Str) (q t t':Ty) (h:aU Tryz.prog 78 [tyV t,aY [name],.one (.c (.sl 4 [b8 q]))] [] (tyV t') []):
  aU Tryz.prog 77 [tyV t,.one (.vp 4 0),.one (.vp 5 0)] [(4,.var 9 [.c (.str name)]),(5,.var 33 ((b8 q).map R.c))] (tyV t') [(4,.var 9 [.c (.str name)]),(5,.var 33 ((b8 q).map R.c))]:=by
 refine bO (n:=11) tok Tryz.func77 rfl rfl rfl ?_;refine sgh [(0,.id 730),(1,.id 731)] rfl (skh 5 [(2,.all),(4,.all)] rfl (kc h ?_));exact kz 1 rfl (aI (rtC trw))
def gH (ts:Ty→Ty) (sb:Core→Core):Core→Core
 | .mk f n nm t ks bs al=>.mk f n nm (ts t) (ks.map sb) (bs.map fun b=>.mk b.name (ts b.ty) (sb b.body)) (al.map fun a=>.mk a.form a.n a.name a.vars (sb a.body))
def tsB (ts:Ty→Ty) (b:Bind):Bind:=.mk b.name (ts b.ty) b.body
section
variable {α:Type}{g:α→α}
def lJ (g:α→α) (bs:List α) (j:Nat):List α:=(bs.take j).map g++bs.drop j
theorem mL {bs:List α}{j:Nat}:(lJ g bs j).length=bs.length:=by unfold lJ;simp;omega
theorem xA {bs:List α}{j:Nat}{b:α}(h:bs[j]?=some b):(lJ g bs j)[j]?=some b:=by
 have q:j<bs.length:=(Ab.1 h).1
 unfold lJ;rw[A3 (by simp;omega),θ,Au,B5 (by omega),sub_self,Ap,Bw,h]
theorem nY {bs:List α}{j:Nat}{b:α}(h:bs[j]?=some b):lJ g bs (j+1)=(lJ g bs j).set j (g b):=by
 have q:j<bs.length:=(Ab.1 h).1
 unfold lJ;rw[pD h,rK (by simp;omega),Bh,h];simp
theorem lI {bs:List α}:lJ g bs 0=bs:=by simp[lJ]
theorem aPf {bs:List α}:lJ g bs bs.length=bs.map g:=by simp[lJ]
theorem x9 {bs:List α}{j:Nat}(h:bs.length≤j):lJ g bs j=bs.map g:=by unfold lJ;rw[Bb h,List.drop_eq_nil_of_le h,A0]
end
def sbB (sb:Core→Core) (b:Bind):Bind:=.mk b.name b.ty (sb b.body)
def sbA (sb:Core→Core) (a:Alt):Alt:=.mk a.form a.n a.name a.vars (sb a.body)
theorem tA:∀{l:List Alt}{k i:Nat}{a:Alt},aV k (l.set i a)=(aV k l).set i (dM (k+i) a)
 | [],_,_,_=>rfl
 | b::l,k,0,a=>rfl
 | b::l,k,i+1,a=>by
  simp only[Cq,aV];rw[tA (l:=l) (k:=k+1),show k+1+i=k+(i+1) by omega]
theorem aF0 (sb:Core→Core):∀(l:List Alt) (k j:Nat),fam k (lJ (sbA sb) l j)=fam k l
 | [],_,_=>by simp[lJ]
 | a::l,k,0=>by rw[lI]
 | a::l,k,j+1=>by
  have e:lJ (sbA sb) (a::l) (j+1)=sbA sb a::lJ (sbA sb) l j:=rfl;rw[e];show(k+800,AObj.arr 9 1 (a.vars.map bD) 0)::fam (k+1) _=_;rw[aF0 sb l (k+1) j];rfl
theorem aOh {f n:Int}{nm:Str}{t:Ty}{ks:List Core}{bs:List Bind}{al:List Alt}{r v:Nat}
  (hr:Nat.blt r 700=true) (hv:Nat.blt v 700=true) {q:St} (hF:FarEq q.h (fam 0 al)) (he:eW (fun p:Nat×V=>q.e p.1=some (p.2.ren (fun i=>i))) [(r,V.one (.vp r 0)),(v,V.one (.vp 700 0))])
  (hh:eW (fun p:Nat×AObj=>∃o,q.h p.1=some o∧Ole (fun i=>i) o p.2) (gHl f n nm t ks bs al)) (h6:∃o,q.h r=some o∧Ole (fun i=>i) o (.var 37 bL)) (hd:q.d=[]) (J:r≠v):
  Sub [] (mk [(r,.one (.vp r 0)),(v,.one (.vp 700 0))] [(r,.var 37 bL),(700,.var 37 (bA (.mk f n nm t ks bs al)))]) q:=by
 have hr':=Aq hr;have hv':=Aq hv;have Y:TF (fam 0 al):=fI;have N:∀x∈nT [(r,V.one (.vp r 0)),(v,V.one (.vp 700 0))],x=r∨x=700:=fun x hx=>by simpa [nT,V.refs,R.refs] using hx
 have I:Go.AM.distinct (List.map (fun p:Nat×AObj=>p.1) (oHl ks bs al++[(700,.var 37 (dW f n nm t ks.length bs.length al.length)),(r,.var 37 bL)]))=true:=by
  refine fL ?_;simp[oHl];omega
 have W:((oHl ks bs al++[(700,AObj.var 37 (dW f n nm t ks.length bs.length al.length)),(r,.var 37 bL)]).all fun p=>Nat.blt p.1 800)=true:=by
  simp[oHl,aHu (show r<800 by omega)]
 have s1:Sub [] (mkt [(r,.one (.vp r 0)),(v,.one (.vp 700 0))] (oHl ks bs al++[(700,.var 37 (dW f n nm t ks.length bs.length al.length)),(r,.var 37 bL)]) (fam 0 al)) q:=by
  obtain⟨h0,h1,h2,h3,_⟩:=hh;refine slT Y hF (fun x hx=>.inl ?_) (fun x hx=>?_) (fun _ h=>by cases h) (he:=he) (hh:=⟨h1,h2,h3,h0,h6,trivial⟩) (hd:=hd) (h3:=I) (h3':=W)
  ·rcases N x hx with rfl | rfl<;>simp[oHl,keys]
  ·rw[iZ] at hx;rcases χ.1 hx with hx | hx
   ·exact .inr (dA x (by simpa [oHl,dN,AObj.refs] using hx))
   ·refine .inl ?_;have hx:x=702∨x=701∨x=703:=by simpa [dN,AObj.refs,dW,bL,R.refsL,R.refs] using hx
    rcases hx with rfl | rfl | rfl<;>simp[oHl,keys]
 have s2:=oQ (kf:=[]) (el:=[(r,.one (.vp r 0)),(v,.one (.vp 700 0))]) (ex:=[(700,.var 37 (dW f n nm t ks.length bs.length al.length)),(r,.var 37 bL)]) (ks:=ks) (bs:=bs) (al:=al) (by simp)
  (fun x hx=>by
    rcases N x hx with rfl | rfl
    ·exact .inr (.inl (by simp[keys]))
    ·exact .inr (.inl (by simp[keys])))
  ⟨fun x hx=>by
    have hx:x=702∨x=701∨x=703:=by simpa [AObj.refs,dW,R.refsL,R.refs] using hx
    rcases hx with rfl | rfl | rfl<;>exact .inl (by simp[oHl,keys]),fun x hx=>by simp[AObj.refs,bL,R.refsL,R.refs] at hx,trivial⟩
  (fun _ h=>by cases h) I (by simp[aHu (show r<800 by omega)]) (by simp;exact J) (fun p hp=>by
   rcases Ao.1 hp with rfl | hp
   ·rfl
   ·rw[Aa.1 hp];rfl)
 have e1:fzH 703 (.ra al.length 14 (aV 0 al).flatten) ([(701,.arr 58 15 (aS bs) 2),(702,.arr 37 10 (aM ks) 2)]++[(700,.var 37 (dW f n nm t ks.length bs.length al.length)),(r,.var 37 bL)])
   =[(701,.arr 58 15 (aS bs) 2),(702,.arr 37 10 (aM ks) 2),(700,.var 37 (jJ f n nm t ks.length bs.length al)),(r,.var 37 bL)]:=by
  unfold dW jJ;show [(701,_),(702,_),(700,AObj.var _ (R.fzL _ _ _)),(r,AObj.var _ (R.fzL _ _ _))]=_;simp only[R.fzL,R.fz,B6,Cm,Bool.and_self];rfl
 have e2:fzE 703 (.ra al.length 14 (aV 0 al).flatten) [(r,.one (.vp r 0)),(v,.one (.vp 700 0))]=[(r,.one (.vp r 0)),(v,.one (.vp 700 0))]:=rfl;rw[e1,e2] at s2;have Z:TF (xK (fam 0 al)):=Y.frz;have aa:(([(701,AObj.arr 58 15 (aS bs) 2),(702,.arr 37 10 (aM ks) 2),(700,.var 37 (jJ f n nm t ks.length bs.length al)),(r,.var 37 bL)]:List (Nat×AObj)).all fun p=>Nat.blt p.1 800)=true:=by simp[aHu (show r<800 by omega)]
 obtain⟨ids,hp⟩:=rT (h:=(mkt [(r,.one (.vp r 0)),(v,.one (.vp 700 0))] [(701,.arr 58 15 (aS bs) 2),(702,.arr 37 10 (aM ks) 2),(700,.var 37 (jJ f n nm t ks.length bs.length al)),(r,.var 37 bL)] (xK (fam 0 al))).h) (f:=f) (n:=n) (s:=nm) (t:=t) (ks:=ks) (bs:=bs) (al:=al) rfl rfl (FarEq.mkt Z aa);have s3:=Sub.varPure (kf:=[]) (st:=mkt [(r,.one (.vp r 0)),(v,.one (.vp 700 0))] [(701,.arr 58 15 (aS bs) 2),(702,.arr 37 10 (aM ks) 2),(700,.var 37 (jJ f n nm t ks.length bs.length al)),(r,.var 37 bL)] (xK (fam 0 al))) (x:=700) (tv:=37) rfl hp;refine Sub.trans ?_ (Sub.trans s3 (Sub.trans s2 s1));have O:r≠700:=by omega
 refine Sub.list (fun i=>i) ?_ ?_ ?_
 ·have hrv:Nat.beq v r=false:=vF (Ne.symm J);refine⟨?_,?_,trivial⟩
  ·show Go.AM.look [(r,V.one (.vp r 0)),(v,V.one (.vp 700 0))] r=_;rw[dJ];rfl
  ·show Go.AM.look [(r,V.one (.vp r 0)),(v,V.one (.vp 700 0))] v=_;rw[dR (Ne.symm J),dJ];rfl
 ·refine⟨⟨.var 37 bL,?_,.var rfl⟩,⟨.var 37 (bA (.mk f n nm t ks bs al)),?_,.var (aJm _).symm⟩,trivial⟩
  ·show upd _ 700 _ r=_;rw[bE _ _ _ O];show(match Go.AM.look [(701,AObj.arr 58 15 (aS bs) 2),(702,.arr 37 10 (aM ks) 2),(700,.var 37 (jJ f n nm t ks.length bs.length al)),(r,.var 37 bL)] r with | some x=>some x | none=>_)=_;rw[dR (by omega),dR (by omega),dR (by omega),dJ]
  ·dsimp only;rw[aK];rfl
 ·simp only[aV0,Ai];refine⟨⟨⟨⟨⟨eI fun x hx=>?_,eI fun x hx=>?_⟩,fL ?_⟩,rfl⟩,rfl⟩,rfl⟩
  ·rcases N x hx with rfl | rfl<;>simp
  ·have:x∈R.refsL bL++(R.refsL (bA (.mk f n nm t ks bs al))++[]):=hx;simp[bL,bA,aB,R.refsL,R.refs] at this
  ·simp;exact O
theorem aMk (f n:Int) (nm name:Str) (t J:Ty) (ks:List Core) (bs:List Bind) (al:List Alt)
  (N:b7 (.mk f n nm t ks bs al)≤570000000000) (Y:allT TyG (.mk f n nm t ks bs al)) (h7:f=7)
  (hs:nm=name∨(nm≠name∧∃tl:List Str,aU Tryz.prog 74 [.pa (aB (.mk f n nm t ks bs al))] [] (aY tl) []∧¬name∈tl∧tl.length≤540000000000)):
  aU Tryz.prog 31 [.pa (aB (.mk f n nm t ks bs al)),Go.AM.T name,tyV J] [] (.pa (aB (.mk f n nm t ks bs al))) []:=by
 have q:=sT (b7 (.mk f n nm t ks bs al)) _ (le_refl _) N Y;have q:aU Tryz.prog 47 [.pa (aB (.mk f n nm t ks bs al))] [] (.pa (aB (.mk f n nm t ks bs al))) []:=q;have O:decide (f=7)=true:=Ak h7;refine bO (n:=84) tok Tryz.func31 rfl rfl rfl ?_;refine sg rfl (sk 1 rfl (kc q ?_));refine kz 2 rfl (a8 (sg rfl (aA rfl (fun _=>?_) (fun hb=>?_))))
 ·refine a8 (a8 ?_);rcases hs with h | ⟨h,tl,W,hn,hl⟩
  ·have hd:decide (nm=name)=true:=Ak h;exact ag [(4,.bv true),(10,.bv true)] rfl (aA rfl (fun _=>sg rfl (aI (rtC trw))) nofun)
  ·have hd:decide (nm=name)=false:=Al h;have I:=bW tl name (by omega);rw[Al hn] at I;refine aE mixed (ak 6 [(4,.bv false)] rfl (kcG W ?_));refine ak 1 [(4,.bv false)] rfl (kcG I ?_);exact ak 2 [(4,.bv false),(10,.bv false)] rfl (az (aA rfl (fun _=>sg rfl (aI (rtC trw))) nofun))
 ·exact absurd (show decide (f=7)=false from hb) (by rw[O];decide)
def gHm (f n:Int) (s:Str) (t:Ty) (nk nb na:Nat) (ks:List Core) (bs:List Bind) (al:List Alt):List (Nat×AObj):=
 [(700,.var 37 (dW f n s t nk nb na)),(701,.arr 58 15 (aS bs) 0),(702,.arr 37 10 (aM ks) 0),(703,.rarr 88 14 (aV 0 al))]
theorem gWm {f n:Int}{s:Str}{t:Ty}{nk nb q:Nat}{ks:List Core}{bs:List Bind}{al A:List Alt}(h:fam 0 A=fam 0 al):GW (gHm f n s t nk nb q ks bs A) (fam 0 al):=by
 rw[←h];refine⟨fI,fun x hx=>?_,rfl,rfl⟩;simp only[gHm,dN,AObj.refs,dW,R.refsL,R.refs,Bd,A0,χ,Ao,not_mem_nil,or_false,false_or] at hx;rcases hx with(rfl | rfl | rfl) | hx
 ·exact .inl (by simp[gHm,keys])
 ·exact .inl (by simp[gHm,keys])
 ·exact .inl (by simp[gHm,keys])
 ·exact .inr (dA x hx)
def gK (sb:Core→Core) (ks:List Core):Nat→List Core
 | 0=>ks
 | _+1=>ks.map sb
def gB (sb:Core→Core) (bs:List Bind):Nat→List Bind
 | 0=>bs
 | _+1=>bs.map (sbB sb)
def gA (sb:Core→Core) (al:List Alt):Nat→List Alt
 | 0=>al
 | i+1=>lJ (sbA sb) al i
theorem aLx {sb:Core→Core}{al:List Alt}:∀g,fam 0 (gA sb al g)=fam 0 al
 | 0=>rfl
 | i+1=>aF0 sb al 0 i
theorem kbE (l:List Bind):l.length=(aS l).length:=by rw[bI,θ]
theorem kcE (l:List Core):l.length=(aM l).length:=by rw[aR,θ]
theorem aAp (f n:Int) (nm nm1 name:Str) (t q:Ty) (ks ks1:List Core) (bs:List Bind) (al:List Alt) (ts:Ty→Ty) (sb:Core→Core)
  (hcs:b7 (.mk f n nm t ks bs al)≤570000000000) (hT:allT TyG (.mk f n nm t ks bs al)) (hkl:ks1.length=ks.length)
  (h7:f=7→nm≠name∧bs=[]∧al=[]∧∃tl fr:List Str,aU Tryz.prog 74 [.pa (aB (.mk f n nm t ks bs al))] [] (aY tl) []∧name∈tl∧tl.length≤540000000000∧aU Tryz.prog 76 [tyV q] [] (aY fr) []∧
   aU Tryz.prog 75 [.one (.vp 700 0),aY fr] (gHl f n nm t ks [] []) (.tup []) (gHl f n nm1 t ks1 [] []))
  (hn7:f≠7→nm1=nm∧ks1=ks)
  (hts:∀u,(u=t∨∃b∈bs,u=b.ty)→aU Tryz.prog 78 [tyV u,aY [name],.one (.c (.sl 4 [b8 q]))] [] (tyV (ts u)) [])
  (ad:∀x,(x∈ks1∨(∃b∈bs,x=b.body)∨∃a∈al,x=a.body)→aU Tryz.prog 31 [.pa (aB x),Go.AM.T name,tyV q] [] (.pa (aB (sb x))) []):
  aU Tryz.prog 31 [.pa (aB (.mk f n nm t ks bs al)),Go.AM.T name,tyV q] [] (.pa (aB (gH ts sb (.mk f n nm1 t ks1 bs al)))) []:=by
 have aa:=aSk (.mk f n nm t ks bs al) hcs hT;have aa:aU Tryz.prog 47 [.pa (aB (.mk f n nm t ks bs al))] [] (.ma (dW f n nm t ks.length bs.length al.length)) (oHl ks bs al++fam 0 al):=aa;have N:TF (fam 0 al):=fI;refine bO (n:=84) tok Tryz.func31 rfl rfl rfl ?_;refine sg rfl (sk 1 rfl (kc aa ?_ (hout':=eW.app ⟨.inr rfl,.inr rfl,.inr rfl,trivial⟩ (eW.of fun p hp=>.inr ((show hZ _ by repeat (first | exact hZ.nil | (refine hZ.updL ?_) | (refine hZ.upd ?_))) p.1 (N.far p hp))))));rw[qX N];refine ak 2 [(2,.id 700)] rfl (az (AWp.sub (st2:=mkt [(3,.one (.vp 3 0)),(4,.one (.vp 4 0)),(5,.one (.vp 5 0)),(6,.one (.vp 6 0)),(7,.one (.vp 700 0))] ([(3,.var 37 (bA (.mk f n nm t ks bs al))),(4,.var 9 [.c (.str name)]),(5,.var 33 ((b8 q).map R.c)),(6,.var 37 bL)]++gHl f n nm t ks bs al) (fam 0 al)) (slG gW (fun _ h=>by cases h) (by repeat (first | exact FarEq.bif N (FarEq.outs N) | (refine FarEq.updL N ?_) | (refine FarEq.upd N ?_)))) ?_));refine a8 (AWp.cut (mkt [(4,.one (.vp 4 0)),(5,.one (.vp 5 0)),(6,.one (.vp 6 0)),(7,.one (.vp 700 0))] ([(4,.var 9 [.c (.str name)]),(5,.var 33 ((b8 q).map R.c)),(6,.var 37 bL)]++gHl f n nm1 t ks1 bs al) (fam 0 al)) ?_ ?_)
 ·refine sg rfl (aA rfl (fun hb=>?_) (fun hb=>?_))
  ·have hf:f=7:=ψ (show decide (f=7)=true from hb);obtain⟨hne,rfl,rfl,tl,fr,hty,hin,hl,hfr,hcl⟩:=h7 hf;have hd:decide (nm=name)=false:=Al hne;have hct:=bW tl name (by omega);rw[Ak hin] at hct;refine a8 (skh 6 [(4,.bv false)] rfl (kcG hty ?_));refine ak 1 [(4,.bv false)] rfl (kcG hct ?_);refine ak 2 [(4,.bv false),(10,.bv false)] rfl (az (aA rfl nofun (fun _=>aD (aE mixed (ak 1 [] rfl (kc hfr ?_))))));refine kc hcl ?_;exact az (slG gW (fun _ h=>by cases h) (fun p hp=>by cases hp))
  ·have hf:f≠7:=δ (show decide (f=7)=false from hb);obtain⟨rfl,rfl⟩:=hn7 hf;exact aD (slG gW (fun _ h=>by cases h) (by repeat (first | exact FarEq.raw N | (refine FarEq.updL N ?_) | (refine FarEq.upd N ?_))))
 have hbK:∀j,(lJ (fun b:Bind=>tsB ts b) bs j).length=bs.length:=fun j=>mL
 have h1:∀u,(u=t∨∃b∈bs,u=b.ty)→aU Tryz.prog 77 ([tyV u]++[R.vp 4 0,R.vp 5 0].map V.one) [(4,.var 9 [.c (.str name)]),(5,.var 33 ((b8 q).map R.c))] (tyV (ts u)) [(4,.var 9 [.c (.str name)]),(5,.var 33 ((b8 q).map R.c))]:=fun u hu=>a00 name q u (ts u) (hts u hu)
 have ht:=h1 t (.inl rfl);have hbE:=kbE bs;obtain⟨ihk,ihb,iha,hkl',hbl,hal⟩:= @eQ f n nm t ks bs al;have hbl':bs.length≤570000000000:=by omega
 refine sg rfl (sk 3 rfl (kv (args:=[tyV t]) ht ?_));refine kz 2 rfl (a8 (sg rfl (aC ?_)));have hm0:lJ (fun b:Bind=>tsB ts b) bs 0=bs:=lI;refine aL (fun i:Nat=>mkt [(4,.one (.vp 4 0)),(5,.one (.vp 5 0)),(6,.one (.vp 6 0)),(7,.one (.vp 700 0)),(8,.one (.clo 77 [.vp 4 0,.vp 5 0])),(42,I .i64 ((bs.length:Nat):Int)),(43,I .i64 i)] ([(4,.var 9 [.c (.str name)]),(5,.var 33 ((b8 q).map R.c)),(6,.var 37 bL)]++gHl f n nm1 (ts t) ks1 (lJ (fun b:Bind=>tsB ts b) bs i) al) (fam 0 al)) (fun i=>i≤bs.length) (fun i=>bs.length-i) 0 (Aj _) ?_ ?_
 ·rw[hm0];exact slG gW (fun _ h=>by cases h) (by repeat (first | exact FarEq.raw N | (refine FarEq.updL N ?_) | (refine FarEq.upd N ?_)))
 intro i hi;have hBl:=mL (g:=fun b:Bind=>tsB ts b) (bs:=bs) (j:=i);have hBe:=kbE (lJ (fun b:Bind=>tsB ts b) bs i);refine sg rfl (a8 (aA rfl (fun hb=>?_) (fun hb=>?_)))
 ·have ae:i<bs.length:=by
   have:(i:Int)<(bs.length:Int):=ψ hb;omega
  obtain⟨b,W⟩:=aJ ae;have hat:=bT (xA (g:=fun b:Bind=>tsB ts b) W);have Z:=nY (g:=fun b:Bind=>tsB ts b) W;have hl2:=mL (g:=fun b:Bind=>tsB ts b) (bs:=bs) (j:=i+1);have hbt:=h1 b.ty (.inr ⟨b,η W,rfl⟩);rw[Z] at hl2;generalize lJ (fun b:Bind=>tsB ts b) bs i=B at *;have hltB:i<B.length:=by omega
  refine aD (a8 (aC (sg rfl (aE mixed (ak 10 [(9,.row i (bB b))] rfl (kv (args:=[tyV b.ty]) hbt ?_))))));refine ak 3 [(13,.row i (bB b))] rfl (az (ag [] rfl ⟨i+1,ae,by dsimp only;omega,?_⟩));dsimp only;rw[Z];refine slG gW (fun _ h=>by cases h) (hh:=⟨⟨_,rfl,.var rfl⟩,⟨_,rfl,.var rfl⟩,⟨_,rfl,.var rfl⟩,⟨_,rfl,.varS ?_⟩,⟨_,rfl,.arrS ?_⟩,⟨_,rfl,.arr⟩,⟨_,rfl,.rarrS rfl⟩,trivial⟩)
  ·rw[B3]
  ·exact jH B i (tsB ts b)
 refine aO ?_;have ah:bs.length≤i:=by
  have:¬(i:Int)<(bs.length:Int):=δ hb;omega
 rw[x9 ah] at hBl hBe ⊢;have hsbB:∀x∈bs.map (fun b:Bind=>tsB ts b),aU Tryz.prog 31 [.pa (aB x.body),Go.AM.T name,tyV q] [] (.pa (aB (sb x.body))) []:=fun x hx=>by
  obtain⟨b,hb,rfl⟩:=Ad.1 hx;exact ad b.body (.inr (.inl ⟨b,hb,rfl⟩))
 have eR:aB (gH ts sb (.mk f n nm1 t ks1 bs al))=aB (.mk f n nm1 (ts t) (ks1.map sb) ((bs.map fun b:Bind=>tsB ts b).map (sbB sb)) (al.map (sbA sb))):=by
  rw[A1];rfl
 rw[eR];have hB1l:(bs.map fun b:Bind=>tsB ts b).length≤570000000000:=by rw[θ];exact hbl'
 clear hBl ah hb hbK hm0 ht h1 aa eR hbE;generalize (bs.map fun b:Bind=>tsB ts b)=B1 at *;generalize ts t=t1 at *;have hk1l:ks1.length≤570000000000:=by omega
 have hal':al.length≤570000000000:=by omega
 have hgr:=sU (decide (f=5)) f n nm1 t1 ks1 B1 al rfl (by omega) (by omega) (by omega) (fun a ha=>by
  have hav:=fU ha;have hvl:=oN a
  rw[b7] at hcs;omega)
 have ab:=nC (f:=f) (n:=n) (s:=nm1) (t:=t1) (ks:=ks1) (bs:=B1) (al:=al) (decide (f=5)) al.length;rw[An] at ab;have hgl:(bZ (decide (f=5)) ks1.length B1.length al.length al).length=1+al.length:=aUh;have hra:gfo f n nm1 t1 ks1 B1 al (R.refsL (bZ (decide (f=5)) ks1.length B1.length al.length al).flatten):=by rw[dE];exact ab
 have ai:(bZ (decide (f=5)) ks1.length B1.length al.length al)[0]?=some (pA (decide (f=5)) ks1.length B1.length):=aUj;have hgA:∀i a,al[i]?=some a→(bZ (decide (f=5)) ks1.length B1.length al.length al)[i+1]?=some (mE al.length i a):=fun i a h=>aUi h
 have aj:∀k r,(bZ (decide (f=5)) ks1.length B1.length al.length al)[k]?=some r→((bZ (decide (f=5)) ks1.length B1.length al.length al).flatten.drop (k*2)).take 2=r:=eG aCr;generalize bZ (decide (f=5)) ks1.length B1.length al.length al=G at hgr hgl hra ai hgA aj;generalize decide (f=5)=b5 at ai;refine a8 (a8 (aE mixed (kc hgr ?_ (hin':=eW.app ⟨rfl,rfl,rfl,rfl,trivial⟩ (FarEq.raw N).all) (hout':=eW.of fun p hp=>.inl (Ad.2 ⟨p,hp,rfl⟩)) (hok:=nJ N (fun x hx=>.inl (bP (show subset _ _=true from rfl) x hx)) qU))));refine kz 2 rfl (AWp.sub (Sub.outsT N) ?_);refine aC ?_;have O:∀K B A ex,∀x∈R.refsL G.flatten,Kn ex (gHm f n nm1 t1 ks1.length B1.length al.length K B A) (fam 0 al) x:=fun K B A ex=>Kn.gf hra
 refine aL (fun g:Nat=>mkt [(4,.one (.vp 4 0)),(5,.one (.vp 5 0)),(6,.one (.vp 6 0)),(7,.one (.vp 700 0)),(60,.one (.ras G.length 2 G.flatten)),(61,I .i64 ((G.length:Nat):Int)),(62,I .i64 g)] ([(4,.var 9 [.c (.str name)]),(5,.var 33 ((b8 q).map R.c)),(6,.var 37 bL)]++gHm f n nm1 t1 ks1.length B1.length al.length (gK sb ks1 g) (gB sb B1 g) (gA sb al g)) (fam 0 al)) (fun g=>g≤G.length) (fun g=>G.length-g) 0 (Aj _) (slG (gWm rfl) (fun _ h=>by cases h) (FarEq.bif N (FarEq.outs N)) (h1:=Kn.app (Kn.of rfl) (Kn.app (Kn.of rfl) (Kn.app (Kn.of rfl) (Kn.app (Kn.of rfl) (Kn.app (O _ _ _ _) Kn.nil)))))) ?_;intro g hg;refine sg rfl (a8 (aA rfl (fun hb=>?_) (fun hb=>?_)))
 ·have ae:g<G.length:=by
   have:(g:Int)<(G.length:Int):=ψ hb;omega
  refine aD ?_;cases g with
  | zero=>
   have ht0:=aj 0 _ ai;have hpl:(pR ks1.length B1.length B1.length).length=ks1.length+B1.length:=aKg;have hpr0:gfo f n nm1 t1 ks1 B1 al (R.refsL (pR ks1.length B1.length B1.length).flatten):=by rw[dE];exact aN3 _ _ _
   have am:∀K B A ex,∀x∈R.refsL (pR ks1.length B1.length B1.length).flatten,Kn ex (gHm f n nm1 t1 ks1.length B1.length al.length K B A) (fam 0 al) x:=fun K B A ex=>Kn.gf hpr0
   have hpt:∀k r,(pR ks1.length B1.length B1.length)[k]?=some r→((pR ks1.length B1.length B1.length).flatten.drop (k*1)).take 1=r:=eG uN;have hp1:∀j,j<ks1.length→(pR ks1.length B1.length B1.length)[j]?=some [.ep 702 j 0 ks1.length]:=fun j h=>aKi h
   have hp2:∀j,j<B1.length→(pR ks1.length B1.length B1.length)[ks1.length+j]?=some [.ep 701 j 5 B1.length]:=fun j h=>aKh h
   refine a8 (aC (sgh [(0,.rowR 0 (pA b5 ks1.length B1.length))] rfl (sg rfl (aC ?_))));have e0K:lJ sb ks1 0=ks1:=lI;have e0B:lJ (sbB sb) B1 (0-ks1.length)=B1:=by rw[Nat.zero_sub];exact lI
   refine aL (fun j:Nat=>mkt [(4,.one (.vp 4 0)),(5,.one (.vp 5 0)),(6,.one (.vp 6 0)),(7,.one (.vp 700 0)),(60,.one (.ras G.length 2 G.flatten)),(61,I .i64 ((G.length:Nat):Int)),(62,I .i64 (0:Nat)),(67,.one (.ras (pR ks1.length B1.length B1.length).length 1 (pR ks1.length B1.length B1.length).flatten)),(68,I .i64 (((pR ks1.length B1.length B1.length).length:Nat):Int)),(69,I .i64 j)] ([(4,.var 9 [.c (.str name)]),(5,.var 33 ((b8 q).map R.c)),(6,.var 37 bL)]++gHm f n nm1 t1 ks1.length B1.length al.length (lJ sb ks1 j) (lJ (sbB sb) B1 (j-ks1.length)) al) (fam 0 al)) (fun j=>j≤(pR ks1.length B1.length B1.length).length) (fun j=>(pR ks1.length B1.length B1.length).length-j) 0 (Aj _) ?_ ?_
   ·rw[e0K,e0B];exact slG (gWm rfl) (fun _ h=>by cases h) (h1:=Kn.app (Kn.of rfl) (Kn.app (Kn.of rfl) (Kn.app (Kn.of rfl) (Kn.app (Kn.of rfl) (Kn.app (O _ _ _ _) (Kn.app Kn.nil (Kn.app Kn.nil (Kn.app (am _ _ _ _) Kn.nil))))))))
   intro j hj;refine sg rfl (a8 (aA rfl (fun hb=>?_) (fun hb=>?_)))
   ·have ap:j<(pR ks1.length B1.length B1.length).length:=by
     have:(j:Int)<((pR ks1.length B1.length B1.length).length:Int):=ψ hb;omega
    refine aD ?_;by_cases hjk:j<ks1.length
    ·obtain⟨k,aq⟩:=aJ hjk;have hki':=dG (xA (g:=sb) aq);have Z:=nY (g:=sb) aq;have hc:=ad k (.inl (η aq));have ht1:=hpt j _ (hp1 j hjk);have hle:=(mL (g:=sb) (bs:=ks1) (j:=j)).symm.trans (kcE (lJ sb ks1 j));have ar:j+1-ks1.length=j-ks1.length:=by omega
     have Y:=pT (lJ sb ks1 j) j (sb k);refine a8 (aC (sgh [(0,.rowR j [.ep 702 j 0 ks1.length])] rfl (aE mixed (ak 6 [(3,.row j (aB k))] rfl (kc hc ?_)))));refine ak 2 [(8,.row j (aB k))] rfl (az (ag [] rfl ⟨j+1,ap,by dsimp only;omega,?_⟩));dsimp only;rw[ar,Z];exact slG (gWm rfl) (fun _ h=>by cases h) (h1:=Kn.app (Kn.of rfl) (Kn.app (Kn.of rfl) (Kn.app (Kn.of rfl) (Kn.app (Kn.of rfl) (Kn.app (O _ _ _ _) (Kn.app Kn.nil (Kn.app Kn.nil (Kn.app (am _ _ _ _) Kn.nil)))))))) (hh:=⟨⟨_,rfl,.var rfl⟩,⟨_,rfl,.var rfl⟩,⟨_,rfl,.var rfl⟩,⟨_,rfl,.var rfl⟩,⟨_,rfl,.arr⟩,⟨_,rfl,.arrS Y⟩,⟨_,rfl,.rarrS rfl⟩,trivial⟩)
    ·obtain⟨J,rfl⟩:∃J,j=ks1.length+J:=⟨j-ks1.length,by omega⟩
     have hjb:J<B1.length:=by omega
     obtain⟨x,W⟩:=aJ hjb;have eK:∀J,lJ sb ks1 (ks1.length+J)=ks1.map sb:=fun J=>x9 (by omega)
     have e1:ks1.length+J-ks1.length=J:=by omega
     have e2:ks1.length+J+1-ks1.length=J+1:=by omega
     have hbi':=bT (xA (g:=sbB sb) W);have Z:=nY (g:=sbB sb) W;have hc:=hsbB x (η W);have ht1:=hpt (ks1.length+J) _ (hp2 J hjb);have hle:=(mL (g:=sbB sb) (bs:=B1) (j:=J)).symm.trans (kbE (lJ (sbB sb) B1 J));have Y:=jH (lJ (sbB sb) B1 J) J (sbB sb x);rw[e1];refine a8 (aC (sgh [(0,.rowR (ks1.length+J) [.ep 701 J 5 B1.length])] rfl (aE mixed (ak 6 [(3,.row J (bB x))] rfl (kc hc ?_)))));refine ak 2 [(8,.row J (bB x))] rfl (az (ag [] rfl ⟨ks1.length+J+1,ap,by dsimp only;omega,?_⟩));dsimp only;rw[e2,Z,eK,B8,eK];refine slG (gWm rfl) (fun _ h=>by cases h) (h1:=Kn.app (Kn.of rfl) (Kn.app (Kn.of rfl) (Kn.app (Kn.of rfl) (Kn.app (Kn.of rfl) (Kn.app (O _ _ _ _) (Kn.app Kn.nil (Kn.app Kn.nil (Kn.app (am _ _ _ _) Kn.nil)))))))) (hh:=⟨⟨_,rfl,.var rfl⟩,⟨_,rfl,.var rfl⟩,⟨_,rfl,.var rfl⟩,⟨_,rfl,.var rfl⟩,⟨_,rfl,.arrS Y⟩,⟨_,rfl,.arr⟩,⟨_,rfl,.rarrS rfl⟩,trivial⟩)
   refine aO ?_;have ah:j=ks1.length+B1.length:=by
    have:¬(j:Int)<((pR ks1.length B1.length B1.length).length:Int):=δ hb;omega
   have eK:lJ sb ks1 j=ks1.map sb:=x9 (by omega);have eB:lJ (sbB sb) B1 (j-ks1.length)=B1.map (sbB sb):=x9 (by omega);have eA:gA sb al 1=al:=lI;rw[eK,eB];refine ag [] rfl ⟨1,by omega,by dsimp only;omega,?_⟩;dsimp only;rw[eA];exact slG (gWm rfl) (fun _ h=>by cases h) (h1:=Kn.app (Kn.of rfl) (Kn.app (Kn.of rfl) (Kn.app (Kn.of rfl) (Kn.app (Kn.of rfl) (Kn.app (O _ _ _ _) Kn.nil)))))
  | succ i=>
   have hia:i<al.length:=by omega
   obtain⟨a,ac⟩:=aJ hia;have ht0:=aj (i+1) _ (hgA i a ac);have hf1:fam 0 (gA sb al (i+1))=fam 0 al:=aLx (i+1);have hf2:fam 0 (gA sb al (i+1+1))=fam 0 al:=aLx (i+1+1);have hrow:(aV 0 (gA sb al (i+1)))[i]?=some (dM i a):=by
    have:=mV (k:=0) (xA (g:=sbA sb) ac);rwa [Be] at this
   have hle:al.length=(aV 0 (gA sb al (i+1))).length:=by rw[dV];exact(mL (g:=sbA sb)).symm
   have hc:=ad a.body (.inr (.inr ⟨a,η ac,rfl⟩));have Y:aV 0 (gA sb al (i+1+1))=(aV 0 (gA sb al (i+1))).set i (dM i (sbA sb a)):=by
    show aV 0 (lJ (sbA sb) al (i+1))=_;rw[nY ac,tA,Be];rfl
   have z1:gK sb ks1 (i+1+1)=gK sb ks1 (i+1):=rfl;have z2:gB sb B1 (i+1+1)=gB sb B1 (i+1):=rfl;refine a8 (aC (sgh [(0,.rowR (i+1) (mE al.length i a))] rfl (sg rfl (aC (aL (fun j:Nat=>mkt [(4,.one (.vp 4 0)),(5,.one (.vp 5 0)),(6,.one (.vp 6 0)),(7,.one (.vp 700 0)),(60,.one (.ras G.length 2 G.flatten)),(61,I .i64 ((G.length:Nat):Int)),(62,I .i64 ((i+1:Nat):Int)),(67,.one (.ras 1 1 [.rp 703 i 4 al.length])),(68,I .i64 ((1:Nat):Int)),(69,I .i64 j)] ([(4,.var 9 [.c (.str name)]),(5,.var 33 ((b8 q).map R.c)),(6,.var 37 bL)]++gHm f n nm1 t1 ks1.length B1.length al.length (gK sb ks1 (i+1)) (gB sb B1 (i+1)) (gA sb al (i+1+j))) (fam 0 al)) (fun j=>j≤1) (fun j=>1-j) 0 (Aj _) (slG (gWm hf1) (fun _ h=>by cases h) (h1:=Kn.app (Kn.of rfl) (Kn.app (Kn.of rfl) (Kn.app (Kn.of rfl) (Kn.app (Kn.of rfl) (Kn.app (O _ _ _ _) (Kn.of rfl))))))) ?_)))));intro j hj;refine sg rfl (a8 (aA rfl (fun hb=>?_) (fun hb=>?_)))
   ·have ar:j=0:=by
     have:(j:Int)<((1:Nat):Int):=ψ hb;omega
    subst ar;refine aD (a8 (aC (sg rfl (aE mixed (ak 6 [(3,.rr (dM i a))] rfl (kc hc ?_))))));refine ak 2 [(8,.rr (dM i a))] rfl (az (ag [] rfl ⟨1,le_refl _,by dsimp only;omega,?_⟩));exact slG (gWm hf2) (fun _ h=>by cases h) (h1:=Kn.app (Kn.of rfl) (Kn.app (Kn.of rfl) (Kn.app (Kn.of rfl) (Kn.app (Kn.of rfl) (Kn.app (O _ _ _ _) (Kn.of rfl)))))) (hh:=⟨⟨_,rfl,.var rfl⟩,⟨_,rfl,.var rfl⟩,⟨_,rfl,.var rfl⟩,⟨_,rfl,.var rfl⟩,⟨_,rfl,.arr⟩,⟨_,rfl,.arr⟩,⟨_,rfl,.rarrS Y.symm⟩,trivial⟩)
   refine aO ?_;have hj1:j=1:=by
    have:¬(j:Int)<((1:Nat):Int):=δ hb;omega
   subst hj1;refine ag [] rfl ⟨i+1+1,by omega,by dsimp only;omega,?_⟩;exact slG (gWm hf2) (fun _ h=>by cases h) (h1:=Kn.app (Kn.of rfl) (Kn.app (Kn.of rfl) (Kn.app (Kn.of rfl) (Kn.app (Kn.of rfl) (Kn.app (O _ _ _ _) Kn.nil)))))
 have hgs:g=al.length+1:=by
  have:¬(g:Int)<(G.length:Int):=δ hb;omega
 subst hgs;refine aO ?_;have eA:gA sb al (al.length+1)=al.map (sbA sb):=aPf;have eF:fam 0 (al.map (sbA sb))=fam 0 al:=by rw[←eA];exact aLx _
 have lA:(al.map (sbA sb)).length=al.length:=θ _;have lB:(B1.map (sbB sb)).length=B1.length:=θ _;have lK:(ks1.map sb).length=ks1.length:=θ _;rw[eA];have z1:gK sb ks1 (al.length+1)=ks1.map sb:=rfl;have z2:gB sb B1 (al.length+1)=B1.map (sbB sb):=rfl;rw[z1,z2];generalize al.map (sbA sb)=A2 at *;generalize B1.map (sbB sb)=B2 at *;generalize ks1.map sb=K2 at *;refine AWp.sub (aOh (f:=f) (n:=n) (nm:=nm1) (t:=t1) (ks:=K2) (bs:=B2) (al:=A2) (r:=6) (v:=7) rfl rfl (by rw[eF];repeat (first | exact FarEq.raw N | (refine FarEq.updL N ?_) | (refine FarEq.upd N ?_))) ⟨rfl,rfl,trivial⟩ ⟨⟨_,rfl,.varS (by rw[lK,lB,lA])⟩,⟨_,rfl,.arr⟩,⟨_,rfl,.arr⟩,⟨_,rfl,.rarrS rfl⟩,trivial⟩ ⟨_,rfl,.var rfl⟩ rfl (by decide)) ?_;exact sg rfl (aI (rtC trw))
mutual
def skT:Core→Core
 | .mk f n s _ ks bs al=>.mk f n (if f=7 then [] else s) zTy (aVx ks) (aOl bs) (aVy al)
def aVx:List Core→List Core
 | []=>[]
 | c::l=>skT c::aVx l
def aOl:List Bind→List Bind
 | []=>[]
 | .mk s _ c::l=>.mk s zTy (skT c)::aOl l
def aVy:List Alt→List Alt
 | []=>[]
 | .mk f n s vs c::l=>.mk f n s vs (skT c)::aVy l
end
def skB (b:Bind):Bind:=.mk b.name zTy (skT b.body)
def skA (a:Alt):Alt:=.mk a.form a.n a.name a.vars (skT a.body)
theorem wG:∀l:List Core,aVx l=l.map skT
 | []=>rfl
 | c::l=>by rw[aVx,wG l];rfl
theorem wH:∀l:List Bind,aOl l=l.map skB
 | []=>rfl
 | .mk s t c::l=>by rw[aOl,wH l];rfl
theorem wI:∀l:List Alt,aVy l=l.map skA
 | []=>rfl
 | .mk f n s vs c::l=>by rw[aVy,wI l];rfl
mutual
def wfC:Core→Bool
 | .mk f _ _ _ ks bs al=>(!decide (f=5∨f=6∨f=7) || (ks.length==1&&bs.isEmpty&&al.isEmpty))&&(!decide (f=1) || (ks.isEmpty&&bs.isEmpty&&al.isEmpty))&&aV9 ks&&aWa bs&&aWb al
def aV9:List Core→Bool
 | []=>true
 | c::l=>wfC c&&aV9 l
def aWa:List Bind→Bool
 | []=>true
 | .mk _ _ c::l=>wfC c&&aWa l
def aWb:List Alt→Bool
 | []=>true
 | .mk _ _ _ _ c::l=>wfC c&&aWb l
end
theorem aDf:∀{l:List Core},aV9 l=true↔∀x∈l,wfC x=true
 | []=>by simp[aV9]
 | c::l=>by rw[aV9,Ai,aDf (l:=l)];simp
theorem aDg:∀{l:List Bind},aWa l=true↔∀x∈l,wfC x.body=true
 | []=>by simp[aWa]
 | .mk s t c::l=>by rw[aWa,Ai,aDg (l:=l)];simp[Bind.body]
theorem aDh:∀{l:List Alt},aWb l=true↔∀x∈l,wfC x.body=true
 | []=>by simp[aWb]
 | .mk f n s vs c::l=>by rw[aWb,Ai,aDh (l:=l)];simp[Alt.body]
theorem aQt {f n:Int}{nm:Str}{t:Ty}{ks:List Core}{bs:List Bind}{al:List Alt}(h1:f=5∨f=6∨f=7→(∃k,ks=[k])∧bs=[]∧al=[]) (h0:f=1→ks=[]∧bs=[]∧al=[])
  (h3:∀x∈ks,wfC x=true) (h4:∀x∈bs,wfC x.body=true) (h5:∀x∈al,wfC x.body=true):wfC (.mk f n nm t ks bs al)=true:=by
 rw[wfC,Ai,Ai,Ai,Ai];refine⟨⟨⟨⟨?_,?_⟩,aDf.2 h3⟩,aDg.2 h4⟩,aDh.2 h5⟩
 ·by_cases hf:f=5∨f=6∨f=7
  ·obtain⟨⟨k,rfl⟩,rfl,rfl⟩:=h1 hf;simp
  ·rw[Al hf];rfl
 ·by_cases hf:f=1
  ·obtain⟨rfl,rfl,rfl⟩:=h0 hf;simp
  ·rw[Al hf];rfl
theorem u5:∀l:List Bind,(aOl l).map Bind.name=l.map Bind.name
 | []=>rfl
 | .mk s t c::l=>by rw[aOl,Am,Am,u5 l];rfl
theorem a0o (f:Int) (s:Str) (bs:List Bind):gvN f (if f=7 then [] else s) (aOl bs)=gvN f s bs:=by
 unfold gvN;rw[u5];by_cases h5:f=5
 ·rw[φ (show ¬f=7 by omega)]
 ·rw[φ h5,φ h5]
mutual
theorem aJ6:∀c:Core,pfR (skT c)=pfR c
 | .mk f n s t ks bs al=>by
  rw[skT,pfR,pfR,a0o,aRf _ ks,aRg _ bs,aRh al];by_cases h1:f=1
  ·rw[ξ h1,ξ h1,φ (show ¬f=7 by omega)]
  ·rw[φ h1,φ h1]
theorem aRf (G:List Str):∀(l:List Core) (o:List Str),jK G (aVx l) o=jK G l o
 | [],_=>rfl
 | c::l,o=>by rw[aVx,jK,jK,aJ6 c,aRf G l]
theorem aRg (G:List Str):∀(l:List Bind) (o:List Str),kD G (aOl l) o=kD G l o
 | [],_=>rfl
 | .mk s t c::l,o=>by rw[aOl,kD,kD,aJ6 c,aRg G l]
theorem aRh:∀(l:List Alt) (o:List Str),jD (aVy l) o=jD l o
 | [],_=>rfl
 | .mk f n s vs c::l,o=>by rw[aVy,jD,jD,aJ6 c,aRh l]
end
theorem aJd {ts:Ty→Ty}{sb:Core→Core}{f n:Int}{nm nm1:Str}{t:Ty}{ks ks1:List Core}{bs:List Bind}{al:List Alt}(hn:f≠7→nm1=nm) (hk:ks1.map skT=ks.map skT)
  (h1:∀x∈ks1,skT (sb x)=skT x) (h2:∀b∈bs,skT (sb b.body)=skT b.body) (h3:∀a∈al,skT (sb a.body)=skT a.body):
  skT (gH ts sb (.mk f n nm1 t ks1 bs al))=skT (.mk f n nm t ks bs al):=by
 rw[gH,skT,skT,wG,wG,wH,wH,wI,wI,A1,A1,A1];have q:ks1.map (skT∘sb)=ks.map skT:=by rw[←hk];exact A6 h1
 have I:bs.map (skB∘fun b=>Bind.mk b.name (ts b.ty) (sb b.body))=bs.map skB:=A6 fun b hb=>by
  show Bind.mk b.name zTy (skT (sb b.body))=_;rw[h2 b hb];rfl
 have J:al.map (skA∘fun a=>Alt.mk a.form a.n a.name a.vars (sb a.body))=al.map skA:=A6 fun a ha=>by
  show Alt.mk a.form a.n a.name a.vars (skT (sb a.body))=_;rw[h3 a ha];rfl
 rw[q,I,J];by_cases h7:f=7
 ·rw[ξ h7,ξ h7]
 ·rw[φ h7,φ h7,hn h7]
theorem aFg {g:Core→Core}:∀{l:List Core},(∀x∈l,m30 (g x)≤m30 x)→cK (l.map g)≤cK l
 | [],_=>le_refl _
 | c::l,h=>by
  rw[Am,cK,cK];have:=h c ζ;have:=aFg (l:=l) fun x hx=>h x (κ _ hx)
  omega
theorem aFi {ts:Ty→Ty}{g:Core→Core}:∀{l:List Bind},(∀x∈l,m30 (g x.body)≤m30 x.body)→fR (l.map fun b=>.mk b.name (ts b.ty) (g b.body))≤fR l
 | [],_=>le_refl _
 | .mk s t c::l,h=>by
  rw[Am,fR,fR];have h1:=h _ ζ;have h2:=aFi (ts:=ts) (l:=l) fun x hx=>h x (κ _ hx)
  simp only[Bind.body,Bind.name] at h1 h2 ⊢;omega
theorem aFj {g:Core→Core}:∀{l:List Alt},(∀x∈l,m30 (g x.body)≤m30 x.body)→iC (l.map fun a=>.mk a.form a.n a.name a.vars (g a.body))≤iC l
 | [],_=>le_refl _
 | .mk f n s vs c::l,h=>by
  rw[Am,iC,iC];have h1:=h _ ζ;have h2:=aFj (l:=l) fun x hx=>h x (κ _ hx)
  simp only[Alt.body,Alt.name,Alt.vars] at h1 h2 ⊢;omega
theorem aLb {ts:Ty→Ty}{sb:Core→Core}{f n:Int}{nm nm1:Str}{t:Ty}{ks ks1:List Core}{bs:List Bind}{al:List Alt}(hn:w30 nm1≤w30 nm) (hk:cK ks1≤cK ks)
  (h1:∀x∈ks1,m30 (sb x)≤m30 x) (h2:∀b∈bs,m30 (sb b.body)≤m30 b.body) (h3:∀a∈al,m30 (sb a.body)≤m30 a.body):
  m30 (gH ts sb (.mk f n nm1 t ks1 bs al))≤m30 (.mk f n nm t ks bs al):=by
 rw[gH,m30,m30];have:=aFg h1;have:=aFi (ts:=ts) h2;have:=aFj h3;omega
noncomputable def oM (sb:Core→Str→Core→Core) (s:Str) (b:Core):Core→Core
 | .mk f n nm t ks bs al=>.mk f n (zNm sb f nm s b ks bs 1) t (zKs sb f nm s b ks bs 1) (zBs sb f nm s b ks bs 1) (al.map (jL sb s b))
theorem aMj (f n:Int) (nm:Str) (t:Ty) (ks:List Core) (bs:List Bind) (al:List Alt) (s:Str) (b:Core) (hv:f=1∧nm=s) (I:b7 b≤570000000000) (J:allT TyG b):
  aU Tryz.prog 106 [.pa (aB (.mk f n nm t ks bs al)),Go.AM.T s,.pa (aB b)] [] (.pa (aB b)) []:=by
 have q:=sT (b7 b) b (le_refl _) I J;have q:aU Tryz.prog 47 [.pa (aB b)] [] (.pa (aB b)) []:=q;have O:decide (f=1)=true:=Ak hv.1;have N:decide (nm=s)=true:=Ak hv.2;refine bO (n:=47) tok Tryz.func106 rfl rfl rfl ?_;refine sg rfl (a8 (sgh [(3,.bv true),(8,.bv true)] rfl (aA rfl (fun _=>?_) (fun hb=>?_))))
 ·refine sk 1 rfl (kc q ?_);exact kz 1 rfl (aI (rtC trw))
 ·exact absurd (show decide (nm=s)=false from hb) (by rw[N];decide)
theorem pE (sb:Core→Str→Core→Core) (P:Core→Prop) (f n:Int) (nm0 nm:Str) (t:Ty) (J ks:List Core) (bs:List Bind) (al:List Alt) (s:Str) (b:Core)
  (hcs:b7 (.mk f n nm0 t J bs al)≤570000000000) (hT:allT TyG (.mk f n nm0 t J bs al)) (hv:¬(f=1∧nm0=s)) (hkl0:ks.length=J.length)
  (w2:f=5→(∃k,ks=[k])∧bs=[]∧al=[])
  (h7:f=7→bs=[]∧al=[]∧∃fl:List Str,aU Tryz.prog 125 [.pa (aB (.mk f n nm0 t J bs al))] [] (aY fl) []∧fl.length≤540000000000∧
   (s∈fl→∃tl:List Str,aU Tryz.prog 74 [.pa (aB b)] [] (aY tl) []∧aU Tryz.prog 75 [.one (.vp 700 0),aY tl] (gHl f n nm0 t J [] []) (.tup []) (gHl f n nm t ks [] []))∧
   (¬s∈fl→nm=nm0∧ks=J))
  (hn7:f≠7→nm=nm0∧ks=J)
  (hok:PutOk sb P s b (ks++bs.map Bind.body)) (hokA:∀a∈al,PutOk sb P s b [a.body])
  (hM:((ks++bs.map Bind.body).flatMap pfR).length+2*(1+bs.length)+(pfR b).length+(ks.length+bs.length)≤540000000000)
  (hMA:∀a∈al,(pfR a.body).length+2*a.vars.length+(pfR b).length+1≤540000000000):
  aU Tryz.prog 106 [.pa (aB (.mk f n nm0 t J bs al)),Go.AM.T s,.pa (aB b)] [] (.pa (aB (oM sb s b (.mk f n nm t ks bs al)))) []:=by
 have ar:=aSk _ hcs hT;have ar:aU Tryz.prog 47 [.pa (aB (.mk f n nm0 t J bs al))] [] (.ma (dW f n nm0 t J.length bs.length al.length)) (oHl J bs al++fam 0 al):=ar;refine bO (n:=47) tok Tryz.func106 rfl rfl rfl ?_;refine sg rfl (a8 (AWp.cut (mk [(1,Go.AM.T s),(3,.one (.vp 3 0)),(5,.one (.vp 5 0)),(6,.one (.vp 6 0))] [(3,.var 37 (bA (.mk f n nm0 t J bs al))),(5,.var 37 (bA b)),(6,.var 37 bL)]) ?_ ?_))
 ·by_cases au:f=1
  ·have hd1:decide (f=1)=true:=Ak au;have hd2:decide (nm0=s)=false:=Al fun h=>hv ⟨au,h⟩
   exact sgh [(3,.bv true),(8,.bv true)] rfl (aA rfl (fun hb=>absurd (show decide (nm0=s)=true from hb) (by rw[hd2];decide)) (fun _=>aD sl))
  ·have hd1:decide (f=1)=false:=Al au;exact sgh [(3,.bv false),(8,.bv false)] rfl (aA rfl nofun (fun _=>aD sl))
 have N:TF (fam 0 al):=fI;refine sk 1 rfl (kc ar ?_ (hout':=eW.app ⟨.inr rfl,.inr rfl,.inr rfl,trivial⟩ (eW.of fun p hp=>.inr ((show hZ _ by repeat (first | exact hZ.nil | (refine hZ.updL ?_) | (refine hZ.upd ?_))) p.1 (N.far p hp)))));rw[qX N];refine ak 2 [(2,.id 700)] rfl (az (AWp.sub (st2:=mkt [(1,Go.AM.T s),(3,.one (.vp 3 0)),(5,.one (.vp 5 0)),(6,.one (.vp 6 0)),(7,.one (.vp 700 0))] ([(3,.var 37 (bA (.mk f n nm0 t J bs al))),(5,.var 37 (bA b)),(6,.var 37 bL)]++gHl f n nm0 t J bs al) (fam 0 al)) (slG gW (fun _ h=>by cases h) (by repeat (first | exact FarEq.bif N (FarEq.outs N) | (refine FarEq.updL N ?_) | (refine FarEq.upd N ?_)))) ?_));refine a8 (AWp.cut (mkt [(1,Go.AM.T s),(3,.one (.vp 3 0)),(5,.one (.vp 5 0)),(6,.one (.vp 6 0)),(7,.one (.vp 700 0))] ([(3,.var 37 (bA (.mk f n nm0 t J bs al))),(5,.var 37 (bA b)),(6,.var 37 bL)]++gHl f n nm t ks bs al) (fam 0 al)) ?_ ?_)
 ·by_cases ah:f=7
  ·have hd7:decide (f=7)=true:=Ak ah;obtain⟨rfl,rfl,fl,hfr,hfl,hy,hn⟩:=h7 ah;have ai:=bW fl s (by omega);refine skh 5 [(3,.bv true)] rfl (kcG hfr ?_);refine ak 1 [(3,.bv true)] rfl ?_;by_cases hin:s∈fl
   ·rw[Ak hin] at ai;obtain⟨tl,hty,hcl⟩:=hy hin;refine kcG ai ?_;refine ak 1 [(3,.bv true),(8,.bv true)] rfl (az (aA rfl (fun _=>aE mixed (ak 1 [] rfl (kc hty ?_))) nofun));refine kc hcl ?_;exact az (slG gW (fun _ h=>by cases h) (fun p hp=>by cases hp))
   ·rw[Al hin] at ai;obtain⟨rfl,rfl⟩:=hn hin;refine kcG ai ?_;exact ak 1 [(3,.bv true),(8,.bv true)] rfl (az (aA rfl nofun (fun _=>aD (slG gW (fun _ h=>by cases h) (fun p hp=>by cases hp)))))
  ·have hd7:decide (f=7)=false:=Al ah;obtain⟨rfl,rfl⟩:=hn7 ah;refine sgh [(3,.bv false),(8,.bv false)] rfl (aA rfl nofun (fun _=>?_));exact aD (slG gW (fun _ h=>by cases h) (by repeat (first | exact FarEq.raw N | (refine FarEq.updL N ?_) | (refine FarEq.upd N ?_))))
 have hR:=mH (sb:=sb) (s:=s) (b:=b) (ns:=gvN f nm bs) (ps:=ks++bs.map Bind.body);have hN1:∀g,(zKs sb f nm s b ks bs g).length=ks.length:=fun g=>by
  cases g with
  | zero=>rfl
  | succ g=>show(List.take _ _).length=_;rw[Au,hR.2,ω];omega
 have av:(bs.map Bind.ty).length=bs.length:=θ _;have hN2:∀g,(zBs sb f nm s b ks bs g).length=bs.length:=fun g=>by
  cases g with
  | zero=>rfl
  | succ g=>
   show(mkB _ _ _).length=_;by_cases aa:f=5
   ·obtain⟨_,rfl,_⟩:=w2 aa;rfl
   ·rw[oY,av]
    ·rw[hR.1];unfold gvN;rw[φ aa];simp
    ·rw[Bx,hR.2,ω];simp
 have aw:∀g,(zAs sb s b al g).length=al.length:=fun g=>by
  cases g with
  | zero=>rfl
  | succ g=>exact y6
 have hcm:=hcs;rw[b7] at hcm;have hkl:=gZ J;have hbl:=fC bs;have hall:=hY al
 have hgr:=sU (decide (f=5)) f n nm t ks bs al rfl (by omega) (by omega) (by omega) (fun a ha=>by
  have hav:=fU ha;have hvl:=oN a
  omega)
 have aj:=nC (f:=f) (n:=n) (s:=nm) (t:=t) (ks:=ks) (bs:=bs) (al:=al) (decide (f=5)) al.length;rw[An] at aj;have hgl:(bZ (decide (f=5)) ks.length bs.length al.length al).length=1+al.length:=aUh;have hra:gfo f n nm t ks bs al (R.refsL (bZ (decide (f=5)) ks.length bs.length al.length al).flatten):=by rw[dE];exact aj
 have ax:(bZ (decide (f=5)) ks.length bs.length al.length al)[0]?=some (pA (decide (f=5)) ks.length bs.length):=aUj;have hgA:∀i a,al[i]?=some a→(bZ (decide (f=5)) ks.length bs.length al.length al)[i+1]?=some (mE al.length i a):=fun i a h=>aUi h
 have ay:∀k r,(bZ (decide (f=5)) ks.length bs.length al.length al)[k]?=some r→((bZ (decide (f=5)) ks.length bs.length al.length al).flatten.drop (k*2)).take 2=r:=eG aCr;generalize bZ (decide (f=5)) ks.length bs.length al.length al=G at hgr hgl hra ax hgA ay;refine a8 (a8 (aE mixed (kc hgr ?_ (hin':=eW.app ⟨rfl,rfl,rfl,rfl,trivial⟩ (FarEq.raw N).all) (hout':=eW.of fun p hp=>.inl (Ad.2 ⟨p,hp,rfl⟩)) (hok:=nJ N (fun x hx=>.inl (bP (show subset _ _=true from rfl) x hx)) qU))));refine kz 2 rfl (AWp.sub (Sub.outsT N) ?_);refine aC ?_;have am:∀g ex,∀x∈R.refsL G.flatten,Kn ex (gHl f n (zNm sb f nm s b ks bs g) t (zKs sb f nm s b ks bs g) (zBs sb f nm s b ks bs g) (zAs sb s b al g)) (fam 0 (zAs sb s b al g)) x:=fun g ex x hx=>by
  rcases hra x hx with h | h
  ·exact .inr (.inl (by simpa [gHl,keys] using h))
  ·exact .inr (.inr (by rw[xN (aw g)];exact h))
 have hTF:∀g,TF (fam 0 (zAs sb s b al g)):=fun g=>fI
 refine aL (fun g:Nat=>mkt [(1,Go.AM.T s),(5,.one (.vp 5 0)),(6,.one (.vp 6 0)),(7,.one (.vp 700 0)),(35,.one (.ras G.length 2 G.flatten)),(36,I .i64 ((G.length:Nat):Int)),(37,I .i64 g)] ([(5,.var 37 (bA b)),(6,.var 37 bL)]++gHl f n (zNm sb f nm s b ks bs g) t (zKs sb f nm s b ks bs g) (zBs sb f nm s b ks bs g) (zAs sb s b al g)) (fam 0 (zAs sb s b al g))) (fun g=>g≤G.length) (fun g=>G.length-g) 0 (Aj _) (slG gW (fun _ h=>by cases h) (FarEq.bif N (FarEq.outs N)) (h1:=Kn.app Kn.nil (Kn.app (Kn.of rfl) (Kn.app (Kn.of rfl) (Kn.app (Kn.of rfl) (Kn.app (am 0 _) Kn.nil)))))) ?_;intro g hg;have Y:=hTF g;refine sg rfl (a8 (aA rfl (fun hb=>?_) (fun hb=>?_)))
 ·have hlt:g<G.length:=by
   have:(g:Int)<(G.length:Int):=ψ hb;omega
  refine aD ?_;cases g with
  | zero=>
   have ap:=ay 0 _ ax;by_cases aa:f=5
   ·have hd5:decide (f=5)=true:=Ak aa;obtain⟨⟨x,rfl⟩,rfl,rfl⟩:=w2 aa;subst aa;have hM':=hM;simp only[Bs,A0,B9,Cx,Ag,length_nil] at hM';obtain⟨x',q,hq,O⟩:=aYx n t nm x s b sb _ hok (by omega);have ad:gvN 5 nm []=[nm]:=rfl;have e1:zNm sb 5 nm s b [x] [] 1=x':=by
     show(if(5:Int)=5 then(bX sb s b (gvN 5 nm []) ([x]++[].map Bind.body)).1.headD nm else nm)=x';rw[ξ rfl,ad];show(bX sb s b [nm] [x]).1.headD nm=x';rw[hq];rfl
    have e2:zKs sb 5 nm s b [x] [] 1=[q]:=by
     show(bX sb s b (gvN 5 nm []) ([x]++[].map Bind.body)).2.take 1=[q];rw[ad];show(bX sb s b [nm] [x]).2.take 1=[q];rw[hq];rfl
    have e3:zBs sb 5 nm s b [x] [] 1=[]:=rfl;have e4:zAs sb s b [] 1=[]:=rfl;refine a8 (aC (sgh [(0,.rowR 0 (pA true 1 0))] rfl (aE mixed (ak 3 [] rfl (kc O ?_)))));refine az (ag [] rfl ⟨1,hlt,by dsimp only;omega,?_⟩);have ab:=am 1;rw[e1,e2,e3,e4] at ab;dsimp only;rw[e1,e2,e3,e4];exact slG gW (fun _ h=>by cases h) (fun p hp=>by cases hp) (h1:=Kn.app Kn.nil (Kn.app (Kn.of rfl) (Kn.app (Kn.of rfl) (Kn.app (Kn.of rfl) (Kn.app (ab _) Kn.nil)))))
   ·have hd5:decide (f=5)=false:=Al aa;have ad:gvN f nm bs=bs.map Bind.name:=by unfold gvN;rw[φ aa];rfl
    have O:=aYw (bs.map Bind.ty) ks.length (bs.map Bind.name) (ks++bs.map Bind.body) s b sb _ (by simp) (by simp) hok (by simp only[θ,ω];omega);have eH:tH (bs.map Bind.ty) ks.length (bs.map Bind.name) (ks++bs.map Bind.body)=[(701,.arr 58 15 (aS bs) 0),(702,.arr 37 10 (aM ks) 0)]:=by
     unfold tH;rw[drop_left,take_left,aFc]
    rw[eH,av] at O;have hr0:pA (decide (f=5)) ks.length bs.length=[.ras (tN bs.length).length 1 (tN bs.length),.ras (tP ks.length bs.length).length 1 (tP ks.length bs.length)]:=a0p hd5;rw[hr0] at ax ap;have eB:aS (zBs sb f nm s b ks bs 1)=aS (mkB (bs.map Bind.ty) (bX sb s b (bs.map Bind.name) (ks++bs.map Bind.body)).1 ((bX sb s b (bs.map Bind.name) (ks++bs.map Bind.body)).2.drop ks.length)):=by
     show aS (mkB _ _ _)=_;rw[ad]
    have eK:aM (zKs sb f nm s b ks bs 1)=aM ((bX sb s b (bs.map Bind.name) (ks++bs.map Bind.body)).2.take ks.length):=by
     show aM (List.take _ _)=_;rw[ad]
    have eN:zNm sb f nm s b ks bs 1=nm:=by show(if f=5 then _ else nm)=nm;rw[φ aa]
    have eA:zAs sb s b al 1=al:=aNd;have l1:=hN1 1;have l2:=hN2 1;refine a8 (aC (sgh [(0,.rowR 0 [.ras (tN bs.length).length 1 (tN bs.length),.ras (tP ks.length bs.length).length 1 (tP ks.length bs.length)])] rfl (aE mixed (ak 3 [] rfl (kc O ?_ (hok:=?_))))));refine az (ag [] rfl ⟨1,hlt,by dsimp only;omega,?_⟩);have ab:=am 1;dsimp only;rw[eN,eA] at ab ⊢;refine slG gW (fun _ h=>by cases h) (by repeat (first | exact FarEq.raw N | (refine FarEq.updL N ?_) | (refine FarEq.upd N ?_))) (h1:=Kn.app Kn.nil (Kn.app (Kn.of rfl) (Kn.app (Kn.of rfl) (Kn.app (Kn.of rfl) (Kn.app (ab _) Kn.nil))))) (hh:=⟨⟨_,rfl,.varS rfl⟩,⟨_,rfl,.varS rfl⟩,⟨_,rfl,.varS ?_⟩,⟨_,rfl,.arrS ?_⟩,⟨_,rfl,.arrS ?_⟩,⟨_,rfl,.rarrS rfl⟩,trivial⟩)
    ·rw[l1,l2];rfl
    ·exact eB.symm
    ·exact eK.symm
    ·refine nJ (F:=[]) ⟨fun _ h=>(by cases h),nodup_nil,fun _ h=>(by cases h)⟩ (fun x hx=>.inl ?_) (fun x hx=>by cases hx);have hx:x∈(grO (tN bs.length) (tP ks.length bs.length)).refs:=by simpa [grO,gpV,AObj.refs,V.refsL,V.refs,R.refsL,R.refs] using hx
     rcases aB0 x hx with rfl | rfl
     ·simp[keys]
     ·simp[keys]
  | succ i=>
   have hia:i<al.length:=by omega
   obtain⟨a,aq⟩:=aJ hia;have ap:=ay (i+1) _ (hgA i a aq);have hm:=η aq;have hok:=hokA a hm;have hMa:=hMA a hm;have hz1:zAs sb s b al (i+1)=tB sb s b al i:=rfl;have hz2:zAs sb s b al (i+1+1)=(tB sb s b al i).set i (jL sb s b a):=aNe aq;have hz3:zNm sb f nm s b ks bs (i+1+1)=zNm sb f nm s b ks bs (i+1):=rfl;have hz4:zKs sb f nm s b ks bs (i+1+1)=zKs sb f nm s b ks bs (i+1):=rfl;have hz5:zBs sb f nm s b ks bs (i+1+1)=zBs sb f nm s b ks bs (i+1):=rfl;obtain⟨q,hq,O⟩:=aVa (tB sb s b al i) i a (aVt aq) s b sb _ hok (by omega) (vR i a.vars.length a.vars.length).length (fY _ _) al.length y6.symm;have hnew:(Alt.mk a.form a.n a.name (bX sb s b a.vars [a.body]).1 q)=jL sb s b a:=by unfold jL;rw[hq];rfl
   rw[hnew] at O;have hvl:(vR i a.vars.length a.vars.length).length=a.vars.length:=fY _ _;have ae:=am (i+1+1);have ac:=hTF (i+1+1);have hA3:=aw (i+1+1);rw[hz2] at ae ac hA3;rw[hz3,hz4,hz5] at ae;have hA4:(tB sb s b al i).length=al.length:=y6;generalize hNm:zNm sb f nm s b ks bs (i+1)=nm1 at *;generalize hKs:zKs sb f nm s b ks bs (i+1)=ks1 at *;generalize hBs:zBs sb f nm s b ks bs (i+1)=Z at *;rw[hz1] at Y ⊢;have halR:mE al.length i a=[.ras (vR i a.vars.length a.vars.length).length 1 (vR i a.vars.length a.vars.length).flatten,.ras 1 1 [.rp 703 i 4 al.length]]:=rfl;rw[halR] at ap;rw[hvl] at ap O;refine a8 (aC (sgh [(0,.rowR (i+1) [.ras a.vars.length 1 (vR i a.vars.length a.vars.length).flatten,.ras 1 1 [.rp 703 i 4 al.length]])] rfl (aE mixed (ak 3 [] rfl (kc O ?_ (hin':=⟨rfl,FarEq.all (by repeat (first | exact FarEq.raw Y | (refine FarEq.updL Y ?_) | (refine FarEq.upd Y ?_)))⟩) (hout':=?_) (hok:=?_))))))
   ·have hcons:∀(o:AObj) (F:List (Nat×AObj)),((703,o)::F)=[(703,o)]++F:=fun _ _=>rfl
    rw[hcons,qX ac];refine az (ag [] rfl ⟨i+1+1,by omega,by dsimp only;omega,?_⟩);dsimp only;rw[hz2,hz3,hz4,hz5];refine slG gW (fun _ h=>by cases h) (FarEq.bif ac (FarEq.outs ac)) (h1:=Kn.app Kn.nil (Kn.app (Kn.of rfl) (Kn.app (Kn.of rfl) (Kn.app (Kn.of rfl) (Kn.app (ae _) Kn.nil))))) (hh:=⟨⟨_,rfl,.varS rfl⟩,⟨_,rfl,.varS rfl⟩,⟨_,rfl,.varS ?_⟩,⟨_,rfl,.arr⟩,⟨_,rfl,.arr⟩,⟨_,rfl,.rarrS rfl⟩,trivial⟩);rw[hA3,hA4]
   ·refine eW.of fun p hp=>.inl ?_
    have hp1:p.1∈keys ((703,AObj.rarr 88 14 (aV 0 ((tB sb s b al i).set i (jL sb s b a))))::fam 0 ((tB sb s b al i).set i (jL sb s b a))):=Ad.2 ⟨p,hp,rfl⟩;show p.1∈703::keys (fam 0 (tB sb s b al i));rw[xN (m:=(tB sb s b al i).set i (jL sb s b a)) (by rw[B3])];exact hp1
   ·refine nJ (hl:=[(703,.rarr 88 14 (aV 0 (tB sb s b al i)))]) Y (fun x hx=>?_) (fun x hx=>.inr (dA x (by simpa [dN,AObj.refs] using hx)));have hx:x∈R.refsL (vR i a.vars.length a.vars.length).flatten++[703]:=by simpa [V.refsL,V.refs,R.refsL,R.refs] using hx
    rcases χ.1 hx with hx | hx
    ·rw[dE] at hx;have:=mG (L:=fun x=>x=i+800) (fun j x hx=>by simpa [R.refsL,R.refs] using hx) _ x hx;rw[this];have hk:=aL5 (l:=tB sb s b al i) (k:=0) (i:=i) (by omega);rw[Be] at hk;exact .inr hk
    ·rw[Aa.1 hx];exact .inl (by simp[keys])
 have hge:g=1+al.length:=by
  have:¬(g:Int)<(G.length:Int):=δ hb;omega
 have hgs:g=al.length+1:=by omega
 subst hgs;clear hge hb;have e:oM sb s b (.mk f n nm t ks bs al)=.mk f n (zNm sb f nm s b ks bs (al.length+1)) t (zKs sb f nm s b ks bs (al.length+1)) (zBs sb f nm s b ks bs (al.length+1)) (zAs sb s b al (al.length+1)):=by
  rw[oM];show _=Core.mk _ _ _ _ _ _ (tB sb s b al al.length);rw[aQo];rfl
 rw[e];have m1:=hN1 (al.length+1);have m2:=hN2 (al.length+1);have m3:=aw (al.length+1);generalize zNm sb f nm s b ks bs (al.length+1)=nm1 at *;generalize zKs sb f nm s b ks bs (al.length+1)=ks1 at *;generalize zBs sb f nm s b ks bs (al.length+1)=Z at *;generalize zAs sb s b al (al.length+1)=W at *;refine aO (AWp.sub (st2:=mkt [(6,.one (.vp 6 0)),(7,.one (.vp 700 0))] (oHl ks1 Z W++[(700,.var 37 (dW f n nm1 t ks1.length Z.length W.length)),(6,.var 37 bL)]) (fam 0 W)) (slT Y (by repeat (first | exact FarEq.raw Y | (refine FarEq.updL Y ?_) | (refine FarEq.upd Y ?_))) (fun x hx=>.inl (bP (show subset _ _=true from rfl) x hx)) (fun x hx=>?_) (fun _ h=>by cases h)) ?_)
 ·rw[iZ] at hx;rcases χ.1 hx with hx | hx
  ·exact .inr (dA x (by simpa [oHl,dN,AObj.refs] using hx))
  ·refine .inl ?_;have hx:x=702∨x=701∨x=703:=by simpa [dN,AObj.refs,dW,bL,R.refsL,R.refs] using hx
   rcases hx with rfl | rfl | rfl<;>simp[oHl,keys]
 refine AWp.sub (oQ (by simp[keys]) (Kn.of rfl) ⟨Kn.of rfl,Kn.of rfl,trivial⟩ (fun _ h=>by cases h) rfl rfl (by simp) (fun p hp=>by
  rcases Ao.1 hp with rfl | hp
  ·rfl
  ·rw[Aa.1 hp];rfl)) ?_
 have e1:fzH 703 (.ra W.length 14 (aV 0 W).flatten) ([(701,.arr 58 15 (aS Z) 2),(702,.arr 37 10 (aM ks1) 2)]++[(700,.var 37 (dW f n nm1 t ks1.length Z.length W.length)),(6,.var 37 bL)])
   =[(701,.arr 58 15 (aS Z) 2),(702,.arr 37 10 (aM ks1) 2),(700,.var 37 (jJ f n nm1 t ks1.length Z.length W)),(6,.var 37 bL)]:=by
  unfold dW jJ;show [(701,_),(702,_),(700,AObj.var _ (R.fzL _ _ _)),(6,AObj.var _ (R.fzL _ _ _))]=_;simp only[R.fzL,R.fz,B6,Cm,Bool.and_self];rfl
 rw[e1];have hFz:TF (xK (fam 0 W)):=Y.frz;obtain⟨ids,hp⟩:=rT (h:=(mkt [] [(701,.arr 58 15 (aS Z) 2),(702,.arr 37 10 (aM ks1) 2),(700,.var 37 (jJ f n nm1 t ks1.length Z.length W)),(6,.var 37 bL)] (xK (fam 0 W))).h) (f:=f) (n:=n) (s:=nm1) (t:=t) (ks:=ks1) (bs:=Z) (al:=W) rfl rfl (FarEq.mkt hFz rfl);refine AWp.sub (Sub.varPure (x:=700) rfl hp) ?_;exact sg rfl (aI (rtC trw))
theorem aU0 (s:Str):aU Tryz.prog 40 [Go.AM.T s] [] (tyV (.mk 3 0 s [])) []:=by
 refine bO (n:=5) tok Tryz.func40 rfl rfl rfl ?_;exact sg rfl (sg rfl (aI (rtC trw)))
theorem aMs (n:Int):aU Tryz.prog 42 [I .i64 n] [] (.pa (aB (.mk 3 n [] zTy [] [] []))) []:=by
 refine bO (n:=5) tok Tryz.func42 rfl rfl rfl ?_;exact sg rfl (sg rfl (aI (rtC trw)))
def o9 (f n:Int) (s:Str) (t:Ty) (nk nb na:Nat):List R:=[.c (.int .i64 f),.c (.int .i64 n),.c (.str s),.c (.int .i64 t.form),.c (.int .i64 t.n),.c (.str t.name),.c (.sl 4 (gD t)),.hs 702 0 nk nk,.hs 701 0 nb nb,.hs 703 0 na na]
theorem aKu {o:List Str}{s:Str}(h:o.Nodup):(pQ o s).Nodup:=by
 unfold pQ;split
 ·exact h
 ·rename_i hs;rw[Co];exact⟨h,by simp,fun a ha b hb e=>by rw[Aa.1 hb] at e;subst e;exact hs ha⟩
theorem aEx (G:List Str):∀(l o:List Str),o.Nodup→(pfP G o l).Nodup
 | [],_,h=>h
 | s::l,o,h=>by
  show(pfP G (pfG G o s) l).Nodup;refine aEx G l _ ?_;unfold pfG;split
  ·exact h
  ·exact aKu h
mutual
theorem a0i:∀c:Core,(pfR c).Nodup
 | .mk f n s t ks bs al=>by
  rw[pfR];split
  ·simp
  ·exact aRl al _ (aRk _ bs _ (aRj _ ks _ nodup_nil))
theorem aRj (G:List Str):∀(l:List Core) (o:List Str),o.Nodup→(jK G l o).Nodup
 | [],_,h=>by rw[jK];exact h
 | c::l,o,h=>by rw[jK];exact aRj G l _ (aEx G _ _ h)
theorem aRk (G:List Str):∀(l:List Bind) (o:List Str),o.Nodup→(kD G l o).Nodup
 | [],_,h=>by rw[kD];exact h
 | .mk s t c::l,o,h=>by rw[kD];exact aRk G l _ (aEx G _ _ h)
theorem aRl:∀(l:List Alt) (o:List Str),o.Nodup→(jD l o).Nodup
 | [],_,h=>by rw[jD];exact h
 | .mk f n s v c::l,o,h=>by rw[jD];exact aRl l _ (aEx v _ _ h)
end
theorem aT2 {o:List Str}{x y:Str}(h:y∈o):y∈pQ o x:=by
 unfold pQ;split
 ·exact h
 ·exact χ.2 (.inl h)
theorem aPc {o:List Str}{x:Str}:x∈pQ o x:=by
 unfold pQ;split
 ·assumption
 ·exact χ.2 (.inr (by simp))
theorem aXo {G o:List Str}{x y:Str}(h:y∈o):y∈pfG G o x:=by
 unfold pfG;split
 ·exact h
 ·exact aT2 h
theorem zJ {G:List Str}:∀{l o:List Str}{y:Str},y∈o→y∈pfP G o l
 | [],_,_,h=>h
 | x::l,o,y,h=>zJ (G:=G) (l:=l) (o:=pfG G o x) (aXo h)
theorem rY {G:List Str}:∀{l o:List Str}{y:Str},y∈l→¬y∈G→y∈pfP G o l
 | x::l,o,y,h,q=>by
  rcases Ao.1 h with rfl | h
  ·refine zJ (G:=G) (l:=l) (o:=pfG G o y) ?_;unfold pfG;rw[φ q];exact aPc
  ·exact rY (l:=l) (o:=pfG G o x) h q
theorem aKb {G:List Str}:∀{l:List Core}{o:List Str}{y:Str},y∈o→y∈jK G l o
 | [],_,_,h=>by rw[jK];exact h
 | c::l,o,y,h=>by rw[jK];exact aKb (zJ h)
theorem wX {G:List Str}:∀{l:List Bind}{o:List Str}{y:Str},y∈o→y∈kD G l o
 | [],_,_,h=>by rw[kD];exact h
 | .mk s t c::l,o,y,h=>by rw[kD];exact wX (zJ h)
theorem x3:∀{l:List Alt}{o:List Str}{y:Str},y∈o→y∈jD l o
 | [],_,_,h=>by rw[jD];exact h
 | .mk f n s vs c::l,o,y,h=>by rw[jD];exact x3 (zJ h)
theorem wV {G:List Str}:∀{l:List Core}{o:List Str}{y:Str}{c:Core},c∈l→y∈pfR c→¬y∈G→y∈jK G l o
 | d::l,o,y,c,h,hy,q=>by
  rw[jK];rcases Ao.1 h with rfl | h
  ·exact aKb (rY hy q)
  ·exact wV h hy q
theorem wW {G:List Str}:∀{l:List Bind}{o:List Str}{y:Str}{c:Bind},c∈l→y∈pfR c.body→¬y∈G→y∈kD G l o
 | .mk s t d::l,o,y,c,h,hy,q=>by
  rw[kD];rcases Ao.1 h with rfl | h
  ·exact wX (rY hy q)
  ·exact wW h hy q
theorem wZ:∀{l:List Alt}{o:List Str}{y:Str}{c:Alt},c∈l→y∈pfR c.body→¬y∈c.vars→y∈jD l o
 | .mk f n s vs d::l,o,y,c,h,hy,q=>by
  rw[jD];rcases Ao.1 h with rfl | h
  ·exact x3 (rY hy q)
  ·exact wZ h hy q
theorem aT0 {f n:Int}{nm:Str}{t:Ty}{ks:List Core}{bs:List Bind}{al:List Alt}(hf:f≠1) {y:Str}(h:y∈(ks++bs.map Bind.body).flatMap pfR) (q:¬y∈gvN f nm bs):y∈pfR (.mk f n nm t ks bs al):=by
 rw[pfR,φ hf];refine x3 ?_;obtain⟨c,hc,hy⟩:=Cb.1 h;rcases χ.1 hc with hc | hc
 ·exact wX (wV hc hy q)
 ·obtain⟨b,hb,rfl⟩:=Ad.1 hc;exact wW hb hy q
theorem aXn {f n:Int}{nm:Str}{t:Ty}{ks:List Core}{bs:List Bind}{al:List Alt}(hf:f≠1) {a:Alt}(ha:a∈al) {y:Str}(h:y∈pfR a.body) (q:¬y∈a.vars):y∈pfR (.mk f n nm t ks bs al):=by
 rw[pfR,φ hf];exact wZ ha h q
section
variable {sb sb':Core→Str→Core→Core}{P:Core→Prop}{e:Core→Core}
end
end Go.Proofs.YtockgoadliilhaaGreatDoor
