/-
  Texts Lg11 to Lg22 in one.
-/
import Derived.Test.YtglfogjcijokpaaGreatDoorM8
open List (all_eq_true append_assoc append_nil cons_append drop_left filter_cons flatMap_cons flatMap_nil flatten_cons foldl_cons isEmpty_iff length_append length_cons length_drop length_eq_one_iff length_map length_nil length_set length_take map_congr_left map_cons map_map map_nil mem_append mem_cons mem_cons_of_mem mem_cons_self mem_filter mem_map mem_singleton nil_append nodup_nil not_mem_nil set_cons_succ set_cons_zero sum_cons take_add_one take_left take_length take_of_length_le)
open Nat (add_assoc add_zero beq_refl eq_of_beq_eq_true le_max_left le_max_right le_of_ble_eq_true le_refl le_trans min_eq_left mul_one sub_self zero_add zero_le)
namespace Go.Proofs.YtglfogjcijokpaaGreatDoor
open Go Go.AM
set_option maxRecDepth 20000
abbrev lH (n:Int) (t:Ty) (x:Str) (k:Core):List (Nat×AObj):=gHl 5 n x t [k] [] []
def lN:List R:=[.vp 700 2]
def lP:List R:=[.ep 702 0 0 1]
abbrev lG (n:Int) (t:Ty) (x:Str) (k:Core):List (Nat×AObj):=(3,grO lN lP)::lH n t x k
theorem lHW {n:Int}{t:Ty}{x:Str}{k:Core}:GW (lH n t x k) []:=gW
theorem lGW {n:Int}{t:Ty}{x:Str}{k:Core}:GW (lG n t x k) []:=⟨lHW (n:=n) (t:=t) (x:=x) (k:=k).tf,fun y q=>by
 rcases χ.1 (show y∈(grO lN lP).refs++dO (lH n t x k) from q) with q | q
 ·have:y=700∨y=702:=by simpa [grO,lN,lP,AObj.refs,R.refsL,R.refs] using q
  rcases this with rfl | rfl
  ·exact .inl (by simp[lG,gHl,keys])
  ·exact .inl (by simp[lG,gHl,keys])
 ·exact(lHW.refs y q).imp (fun h=>η _ h) id,rfl,rfl⟩
theorem aPo (n:Int) (t:Ty) (x:Str) (k:Core) (nm:Str) (b:Core) (sb:Core→Core)
  (hc:aU Tryz.prog 99 [.pa (aB k),Go.AM.T nm,.pa (aB b)] [] (.pa (aB (sb k))) []):
  aU Tryz.prog 160 [Go.AM.T nm,.pa (aB b),.one (.vp 3 0)] (lG n t x k++[]) (.tup []) (lG n t x (sb k)++[]):=by
 have J:TF []:=lHW (n:=n) (t:=t) (x:=x) (k:=k).tf;refine uY J (n:=23) tok Tryz.func160 rfl rfl rfl ?_;refine sg rfl (sg rfl (aC (aO (fun j:Nat=>mkt [(0,Go.AM.T nm),(2,.one (.vp 3 0)),(4,.one (.vp 4 0)),(8,.one (.ras 1 1 lP)),(9,I .i64 ((1:Nat):Int)),(10,I .i64 j)] ([(4,.var 34 (b7 b))]++lG n t x (if j=0 then k else sb k)) []) (fun j=>j≤1) (fun j=>1-j) 0 (Ak _) ?_ ?_)))
 ·exact slG lGW
 intro j Z;refine sg rfl (a8 (aA rfl (fun hb=>?_) (fun hb=>?_)))
 ·have W:j=0:=by
   have:(j:Int)<((1:Nat):Int):=θ hb;omega
  subst W;rw[ξ rfl];refine aD (a8 (aC (sg rfl (aE mixed (ak 6 [(3,.row 0 (aB k))] rfl (kc hc ?_))))));refine ak 2 [(8,.row 0 (aB k))] rfl (az (ag [] rfl ⟨1,le_refl _,by dsimp only;omega,?_⟩));dsimp only;rw[ψ (by decide)];exact slG lGW (fun i hi=>GW.kf i hi)
 have Y:j=1:=by
  have:¬(j:Int)<((1:Nat):Int):=Aa hb;omega
 subst Y;rw[ψ (by decide)];refine aM ?_;exact⟨.inl rfl,aEu J (by repeat (first | exact FarEq.raw J | (refine FarEq.updL J ?_) | (refine FarEq.upd J ?_))) ⟨[],[],.nil,.nil,rfl⟩ (fun _ h=>by cases h) lGW.refs (fun i hi=>GW.kf i hi) (fun q O=>by rcases χ.1 O with O | O;exact(A5.1 (lGW (n:=n) (t:=t) (x:=x) (k:=k)).plain) q O;cases O)⟩
theorem a3k (n:Int) (t:Ty) (x:Str) (k:Core) (s:Str) (b:Core) (sb:Core→Str→Core→Core) (P:Core→Prop) (hok:PutOk sb P s b [k])
  (hM:(pfR k).length+2+(pfR b).length+1≤540000000000):
  ∃x' q,cO sb s b [x] [k]=([x'],[q])∧aU Tryz.prog 134 [gpV lN lP,Go.AM.T s,.pa (aB b)] (lH n t x k++[]) (.tup []) (lH n t x' q++[]):=by
 have Y:TF []:=lHW (n:=n) (t:=t) (x:=x) (k:=k).tf;have ac:([k]:List Core).flatMap pfR=pfR k:=by simp
 have hf:=hok.free k (by simp);have hq0:((pfR k).map bC).length=(pfR k).length:=ζ _;have hk0:k=k:=rfl;have ad:s∉pfR k∨s=x→cO sb s b [x] [k]=([x],[k]):=fun h=>by
  unfold cO;rw[ψ];rintro⟨h1,h2⟩;rw[ac] at h1;rcases h with h | h
  ·exact h h1
  ·exact h2 (by simp[h])
 by_cases hin:s∈pfR k
 case neg=>
  refine⟨x,k,ad (.inl hin),?_⟩;refine uY Y (n:=92) tok Tryz.func134 rfl rfl rfl ?_;refine sg rfl (sg rfl (AWp.sub (Sub.own (t:=6) (id:=720) 9 1 rfl rfl) (AWp.sub (Sub.freeze (id:=720) rfl) ?_)));refine a8 (sg rfl (aC (aO (fun j:Nat=>mkt [(1,Go.AM.T s),(3,.one (.vp 3 0)),(5,.one (.vp 5 0)),(6,tkV (if j=0 then [] else pfR k)),(17,.one (.ras 1 1 lP)),(18,I .i64 ((1:Nat):Int)),(19,I .i64 j)] ([(3,grO lN lP),(5,.var 34 (b7 b)),(720,tkA (if j=0 then [] else pfR k))]++lH n t x k) []) (fun j=>j≤1) (fun j=>1-j) 0 (Ak _) (slG lHW) ?_)));intro j hj;refine sg rfl (a8 (aA rfl (fun hb=>?_) (fun hb=>?_)))
  ·have W:j=0:=by
    have:(j:Int)<((1:Nat):Int):=θ hb;omega
   subst W;rw[ξ rfl];refine aD (a8 (aC (sg rfl (aE mixed (ak 4 [(3,.row 0 (aB k))] rfl (kc hf ?_))))));refine kz 2 rfl (AWp.sub (Sub.freeze (id:=720) rfl) ?_);refine ag [] rfl ⟨1,le_refl _,by dsimp only;omega,?_⟩;dsimp only;rw[ψ (by decide)];exact slG lHW (he:=⟨rfl,rfl,rfl,Go.AM.hs_ren (by simp) (by simp),rfl,rfl,rfl,trivial⟩) (hh:=⟨⟨_,rfl,.varS rfl⟩,⟨_,rfl,.varS rfl⟩,⟨_,rfl,.arrS (by simp)⟩,⟨_,rfl,.varS rfl⟩,⟨_,rfl,.arr⟩,⟨_,rfl,.arr⟩,⟨_,rfl,.rarrS rfl⟩,trivial⟩)
  have J:j=1:=by
   have:¬(j:Int)<((1:Nat):Int):=Aa hb;omega
  subst J;rw[ψ (by decide)];refine aM ?_;have Z:=bR (pfR k) s (by omega);rw[Ae hin] at Z;refine a8 (sk 2 rfl (kc Z ?_));refine kz 1 rfl (aA rfl (fun hb=>?_) nofun);exact aF ⟨.inr rfl,aEu Y (by repeat (first | exact FarEq.raw Y | (refine FarEq.updL Y ?_) | (refine FarEq.upd Y ?_))) ⟨[],[],.nil,.nil,rfl⟩ (fun _ h=>by cases h) lHW.refs (fun i hi=>GW.kf i hi) (fun q O=>by rcases χ.1 O with O | O;exact(A5.1 (lHW (n:=n) (t:=t) (x:=x) (k:=k)).plain) q O;cases O)⟩
 by_cases aa:s=x
 case pos=>
  refine⟨x,k,ad (.inr aa),?_⟩;refine uY Y (n:=92) tok Tryz.func134 rfl rfl rfl ?_;refine sg rfl (sg rfl (AWp.sub (Sub.own (t:=6) (id:=720) 9 1 rfl rfl) (AWp.sub (Sub.freeze (id:=720) rfl) ?_)));refine a8 (sg rfl (aC (aO (fun j:Nat=>mkt [(1,Go.AM.T s),(3,.one (.vp 3 0)),(5,.one (.vp 5 0)),(6,tkV (if j=0 then [] else pfR k)),(17,.one (.ras 1 1 lP)),(18,I .i64 ((1:Nat):Int)),(19,I .i64 j)] ([(3,grO lN lP),(5,.var 34 (b7 b)),(720,tkA (if j=0 then [] else pfR k))]++lH n t x k) []) (fun j=>j≤1) (fun j=>1-j) 0 (Ak _) (slG lHW) ?_)));intro j hj;refine sg rfl (a8 (aA rfl (fun hb=>?_) (fun hb=>?_)))
  ·have W:j=0:=by
    have:(j:Int)<((1:Nat):Int):=θ hb;omega
   subst W;rw[ξ rfl];refine aD (a8 (aC (sg rfl (aE mixed (ak 4 [(3,.row 0 (aB k))] rfl (kc hf ?_))))));refine kz 2 rfl (AWp.sub (Sub.freeze (id:=720) rfl) ?_);refine ag [] rfl ⟨1,le_refl _,by dsimp only;omega,?_⟩;dsimp only;rw[ψ (by decide)];exact slG lHW (he:=⟨rfl,rfl,rfl,Go.AM.hs_ren (by simp) (by simp),rfl,rfl,rfl,trivial⟩) (hh:=⟨⟨_,rfl,.varS rfl⟩,⟨_,rfl,.varS rfl⟩,⟨_,rfl,.arrS (by simp)⟩,⟨_,rfl,.varS rfl⟩,⟨_,rfl,.arr⟩,⟨_,rfl,.arr⟩,⟨_,rfl,.rarrS rfl⟩,trivial⟩)
  have J:j=1:=by
   have:¬(j:Int)<((1:Nat):Int):=Aa hb;omega
  subst J;rw[ψ (by decide)];refine aM ?_;have Z:=bR (pfR k) s (by omega);rw[Af hin] at Z;refine a8 (sk 2 rfl (kc Z ?_));refine kz 1 rfl (aA rfl nofun (fun hb=>aD (a8 (sg rfl (aC (aO (fun _:Unit=>mkt [(1,Go.AM.T s),(3,.one (.vp 3 0)),(5,.one (.vp 5 0)),(6,tkV (pfR k)),(35,.one (.ras 1 1 lN)),(36,I .i64 ((1:Nat):Int)),(37,I .i64 (0:Nat))] ([(3,grO lN lP),(5,.var 34 (b7 b)),(720,tkA (pfR k))]++lH n t x k) []) (fun _=>True) (fun _=>0) () trivial (slG lHW) ?_))))));intro _ _;refine sg rfl (a8 (aA rfl (fun hb=>aD (a8 (aC (sg rfl (a8 (sg rfl (aA rfl (fun hb=>?_) (fun hb=>absurd aa.symm (Aa hb))))))))) nofun));exact aF ⟨.inr rfl,aEu Y (by repeat (first | exact FarEq.raw Y | (refine FarEq.updL Y ?_) | (refine FarEq.upd Y ?_))) ⟨[],[],.nil,.nil,rfl⟩ (fun _ h=>by cases h) lHW.refs (fun i hi=>GW.kf i hi) (fun q O=>by rcases χ.1 O with O | O;exact(A5.1 (lHW (n:=n) (t:=t) (x:=x) (k:=k)).plain) q O;cases O)⟩
 have hq1:((pfR k++[x]).map bC).length=(pfR k++[x]).length:=ζ _;have hq2:((pfR b).map bC).length=(pfR b).length:=ζ _;have hlx:(pfR k++[x]).length=(pfR k).length+1:=by simp
 have hfar:=hok.far;have hP:=hok.in_ k (by simp);have Z:=bR (pfR k) s (by omega);rw[Af hin] at Z;have ae:=bR (pfR b) x (by omega);have hpin:a1v s [x] [k]:=⟨by rw[ac];exact hin,by simpa using aa⟩
 by_cases ah:x∈pfR b
 case pos=>
  have htl:(pfR k++[x]++pfR b).length≤540000000000:=by rw[Ab];omega
  have hz:(b6 (pfR k++[x]++pfR b)).length≤30:=le_trans (kI _ htl) (by omega);have hcr:=zN (pfR k++[x]++pfR b) (by omega) fun k hk=>hok.itoa k (by omega)
  refine⟨b6 (pfR k++[x]++pfR b),sb (sb k x (vC (b6 (pfR k++[x]++pfR b)))) s b,?_,?_⟩
  ·unfold cO;rw[ξ hpin,ac];unfold jO;simp only[Ck,List.foldl_nil];unfold dU;rw[ξ ah];rfl
  rw[Af ah] at ae;have hqt:((pfR k++[x]++pfR b).map bC).length=(pfR k++[x]++pfR b).length:=ζ _;have hqa:(pfR k++[x]++pfR b).length=(pfR k).length+1+(pfR b).length:=by rw[Ab,hlx]
  have hca:=aPo n t x k x (vC (b6 (pfR k++[x]++pfR b))) (fun p=>sb p x (vC (b6 (pfR k++[x]++pfR b)))) (hok.subz k x _ hP hz);have ab:=aPo n t (b6 (pfR k++[x]++pfR b)) (sb k x (vC (b6 (pfR k++[x]++pfR b)))) s b (fun p=>sb p s b) (hok.subb _ (hok.ren k x _ hP hz));have hcv:=uJ (b6 (pfR k++[x]++pfR b));generalize hzz:b6 (pfR k++[x]++pfR b)=z at *;refine uY Y (n:=92) tok Tryz.func134 rfl rfl rfl ?_;refine sg rfl (sg rfl (AWp.sub (Sub.own (t:=6) (id:=720) 9 1 rfl rfl) (AWp.sub (Sub.freeze (id:=720) rfl) ?_)));refine a8 (sg rfl (aC (aO (fun j:Nat=>mkt [(1,Go.AM.T s),(3,.one (.vp 3 0)),(5,.one (.vp 5 0)),(6,tkV (if j=0 then [] else pfR k)),(17,.one (.ras 1 1 lP)),(18,I .i64 ((1:Nat):Int)),(19,I .i64 j)] ([(3,grO lN lP),(5,.var 34 (b7 b)),(720,tkA (if j=0 then [] else pfR k))]++lH n t x k) []) (fun j=>j≤1) (fun j=>1-j) 0 (Ak _) (slG lHW) ?_)));intro j hj;refine sg rfl (a8 (aA rfl (fun hb=>?_) (fun hb=>?_)))
  ·have W:j=0:=by
    have:(j:Int)<((1:Nat):Int):=θ hb;omega
   subst W;rw[ξ rfl];refine aD (a8 (aC (sg rfl (aE mixed (ak 4 [(3,.row 0 (aB k))] rfl (kc hf ?_))))));refine kz 2 rfl (AWp.sub (Sub.freeze (id:=720) rfl) ?_);refine ag [] rfl ⟨1,le_refl _,by dsimp only;omega,?_⟩;dsimp only;rw[ψ (by decide)];exact slG lHW (he:=⟨rfl,rfl,rfl,Go.AM.hs_ren (by simp) (by simp),rfl,rfl,rfl,trivial⟩) (hh:=⟨⟨_,rfl,.varS rfl⟩,⟨_,rfl,.varS rfl⟩,⟨_,rfl,.arrS (by simp)⟩,⟨_,rfl,.varS rfl⟩,⟨_,rfl,.arr⟩,⟨_,rfl,.arr⟩,⟨_,rfl,.rarrS rfl⟩,trivial⟩)
  have J:j=1:=by
   have:¬(j:Int)<((1:Nat):Int):=Aa hb;omega
  subst J;rw[ψ (by decide)];refine aM (a8 (sk 2 rfl (kc Z ?_)));refine kz 1 rfl (aA rfl nofun (fun hb=>aD (a8 (sg rfl (aC (aO (fun j:Nat=>mkt [(1,Go.AM.T s),(3,.one (.vp 3 0)),(5,.one (.vp 5 0)),(6,tkV (if j=0 then pfR k else pfR k++[x])),(35,.one (.ras 1 1 lN)),(36,I .i64 ((1:Nat):Int)),(37,I .i64 j)] ([(3,grO lN lP),(5,.var 34 (b7 b)),(720,tkA (if j=0 then pfR k else pfR k++[x]))]++lH n t x k) []) (fun j=>j≤1) (fun j=>1-j) 0 (Ak _) (slG lHW) ?_))))));intro j hj;refine sg rfl (a8 (aA rfl (fun hb=>?_) (fun hb=>?_)))
  ·have W:j=0:=by
    have:(j:Int)<((1:Nat):Int):=θ hb;omega
   subst W;rw[ξ rfl];refine aD (a8 (aC (sg rfl (a8 (sg rfl (aA rfl (fun hb=>absurd (θ hb).symm aa) (fun hb=>aD (ag [] rfl (AWp.sub (Sub.freeze (id:=720) rfl) ?_)))))))));refine ag [] rfl ⟨1,le_refl _,by dsimp only;omega,?_⟩;dsimp only;rw[ψ (by decide)];exact slG lHW (he:=⟨rfl,rfl,rfl,Go.AM.hs_ren (by simp) (by simp),rfl,rfl,rfl,trivial⟩) (hh:=⟨⟨_,rfl,.varS rfl⟩,⟨_,rfl,.varS rfl⟩,⟨_,rfl,.arrS (by simp[bC])⟩,⟨_,rfl,.varS rfl⟩,⟨_,rfl,.arr⟩,⟨_,rfl,.arr⟩,⟨_,rfl,.rarrS rfl⟩,trivial⟩)
  have J:j=1:=by
   have:¬(j:Int)<((1:Nat):Int):=Aa hb;omega
  subst J;rw[ψ (by decide)];refine aM (sk 1 rfl (kc hfar ?_));refine kz 1 rfl (sg rfl (AWp.sub (Sub.freeze (id:=720) rfl) ?_));refine sg rfl (a8 (sg rfl (aC (aO (fun i:Nat=>mkt [(1,Go.AM.T s),(5,.one (.vp 5 0)),(6,tkV (if i=0 then pfR k++[x]++pfR b else pfR k++[x]++pfR b++[z])),(11,bK (pfR b)),(12,.one (.clo 160 [.vp 3 0])),(60,.one (.ras 1 1 lN)),(61,I .i64 ((1:Nat):Int)),(62,I .i64 i)] ([(3,grO lN lP),(5,.var 34 (b7 b)),(720,tkA (if i=0 then pfR k++[x]++pfR b else pfR k++[x]++pfR b++[z]))]++lH n t (if i=0 then x else z) (if i=0 then k else sb k x (vC z))) []) (fun i=>i≤1) (fun i=>1-i) 0 (Ak _) ?_ ?_))))
  ·rw[ξ rfl,ξ rfl,ξ rfl];exact slG lHW (he:=⟨rfl,rfl,Go.AM.hs_ren (by simp only[Ab,ζ]) (by simp only[Ab,ζ]),rfl,rfl,rfl,rfl,rfl,trivial⟩) (hh:=⟨⟨_,rfl,.varS rfl⟩,⟨_,rfl,.varS rfl⟩,⟨_,rfl,.arrS (by simp)⟩,⟨_,rfl,.varS rfl⟩,⟨_,rfl,.arr⟩,⟨_,rfl,.arr⟩,⟨_,rfl,.rarrS rfl⟩,trivial⟩)
  intro i hi;refine sg rfl (a8 (aA rfl (fun hb=>?_) (fun hb=>?_)))
  ·have hi0:i=0:=by
    have:(i:Int)<((1:Nat):Int):=θ hb;omega
   subst hi0;rw[ξ rfl,ξ rfl,ξ rfl];generalize pfR k++[x]++pfR b=tk at *;refine aD (a8 (aC (sg rfl (sk 4 rfl (kc ae ?_)))));refine az (aA rfl (fun hb=>sk 1 rfl (kc hcr ?_)) nofun);refine kz 1 rfl (sg rfl (AWp.sub (Sub.freeze (id:=720) rfl) ?_));refine sk 5 rfl (kc hcv ?_);refine kv (caps:=[.vp 3 0]) (args:=[Go.AM.T x,.pa (aB (vC z))]) hca ?_;refine az (ag [] rfl (ag [] rfl ⟨1,le_refl _,by dsimp only;omega,?_⟩));dsimp only;rw[ψ (by decide),ψ (by decide),ψ (by decide)];exact slG lHW (fun i hi=>GW.kf i hi) (he:=⟨rfl,rfl,Go.AM.hs_ren (by simp) (by simp),rfl,rfl,rfl,rfl,rfl,trivial⟩) (hh:=⟨⟨_,rfl,.varS rfl⟩,⟨_,rfl,.varS rfl⟩,⟨_,rfl,.arrS (by simp[bC])⟩,⟨_,rfl,.varS rfl⟩,⟨_,rfl,.arr⟩,⟨_,rfl,.arr⟩,⟨_,rfl,.rarrS rfl⟩,trivial⟩)
  have J:i=1:=by
   have:¬(i:Int)<((1:Nat):Int):=Aa hb;omega
  subst J;rw[ψ (by decide),ψ (by decide),ψ (by decide)];refine aM (aE mixed (ak 3 [] rfl (kv (caps:=[.vp 3 0]) (args:=[Go.AM.T s,.pa (aB b)]) ab ?_)));exact az ⟨.inl rfl,aEu Y (FarEq.outs Y) ⟨[],[],.nil,.nil,rfl⟩ (fun _ h=>by cases h) lHW.refs (fun i hi=>GW.kf i hi) (fun q O=>by rcases χ.1 O with O | O;exact(A5.1 (lHW (n:=n) (t:=t) (x:=x) (k:=k)).plain) q O;cases O)⟩
 refine⟨x,sb k s b,?_,?_⟩
 ·unfold cO;rw[ξ hpin,ac];unfold jO;simp only[Ck,List.foldl_nil];unfold dU;rw[ψ ah];rfl
 rw[Ae ah] at ae;have ab:=aPo n t x k s b (fun p=>sb p s b) (hok.subb _ hP);refine uY Y (n:=92) tok Tryz.func134 rfl rfl rfl ?_;refine sg rfl (sg rfl (AWp.sub (Sub.own (t:=6) (id:=720) 9 1 rfl rfl) (AWp.sub (Sub.freeze (id:=720) rfl) ?_)));refine a8 (sg rfl (aC (aO (fun j:Nat=>mkt [(1,Go.AM.T s),(3,.one (.vp 3 0)),(5,.one (.vp 5 0)),(6,tkV (if j=0 then [] else pfR k)),(17,.one (.ras 1 1 lP)),(18,I .i64 ((1:Nat):Int)),(19,I .i64 j)] ([(3,grO lN lP),(5,.var 34 (b7 b)),(720,tkA (if j=0 then [] else pfR k))]++lH n t x k) []) (fun j=>j≤1) (fun j=>1-j) 0 (Ak _) (slG lHW) ?_)));intro j hj;refine sg rfl (a8 (aA rfl (fun hb=>?_) (fun hb=>?_)))
 ·have W:j=0:=by
   have:(j:Int)<((1:Nat):Int):=θ hb;omega
  subst W;rw[ξ rfl];refine aD (a8 (aC (sg rfl (aE mixed (ak 4 [(3,.row 0 (aB k))] rfl (kc hf ?_))))));refine kz 2 rfl (AWp.sub (Sub.freeze (id:=720) rfl) ?_);refine ag [] rfl ⟨1,le_refl _,by dsimp only;omega,?_⟩;dsimp only;rw[ψ (by decide)];exact slG lHW (he:=⟨rfl,rfl,rfl,Go.AM.hs_ren (by simp) (by simp),rfl,rfl,rfl,trivial⟩) (hh:=⟨⟨_,rfl,.varS rfl⟩,⟨_,rfl,.varS rfl⟩,⟨_,rfl,.arrS (by simp)⟩,⟨_,rfl,.varS rfl⟩,⟨_,rfl,.arr⟩,⟨_,rfl,.arr⟩,⟨_,rfl,.rarrS rfl⟩,trivial⟩)
 have J:j=1:=by
  have:¬(j:Int)<((1:Nat):Int):=Aa hb;omega
 subst J;rw[ψ (by decide)];refine aM (a8 (sk 2 rfl (kc Z ?_)));refine kz 1 rfl (aA rfl nofun (fun hb=>aD (a8 (sg rfl (aC (aO (fun j:Nat=>mkt [(1,Go.AM.T s),(3,.one (.vp 3 0)),(5,.one (.vp 5 0)),(6,tkV (if j=0 then pfR k else pfR k++[x])),(35,.one (.ras 1 1 lN)),(36,I .i64 ((1:Nat):Int)),(37,I .i64 j)] ([(3,grO lN lP),(5,.var 34 (b7 b)),(720,tkA (if j=0 then pfR k else pfR k++[x]))]++lH n t x k) []) (fun j=>j≤1) (fun j=>1-j) 0 (Ak _) (slG lHW) ?_))))));intro j hj;refine sg rfl (a8 (aA rfl (fun hb=>?_) (fun hb=>?_)))
 ·have W:j=0:=by
   have:(j:Int)<((1:Nat):Int):=θ hb;omega
  subst W;rw[ξ rfl];refine aD (a8 (aC (sg rfl (a8 (sg rfl (aA rfl (fun hb=>absurd (θ hb).symm aa) (fun hb=>aD (ag [] rfl (AWp.sub (Sub.freeze (id:=720) rfl) ?_)))))))));refine ag [] rfl ⟨1,le_refl _,by dsimp only;omega,?_⟩;dsimp only;rw[ψ (by decide)];exact slG lHW (he:=⟨rfl,rfl,rfl,Go.AM.hs_ren (by simp) (by simp),rfl,rfl,rfl,trivial⟩) (hh:=⟨⟨_,rfl,.varS rfl⟩,⟨_,rfl,.varS rfl⟩,⟨_,rfl,.arrS (by simp[bC])⟩,⟨_,rfl,.varS rfl⟩,⟨_,rfl,.arr⟩,⟨_,rfl,.arr⟩,⟨_,rfl,.rarrS rfl⟩,trivial⟩)
 have J:j=1:=by
  have:¬(j:Int)<((1:Nat):Int):=Aa hb;omega
 subst J;rw[ψ (by decide)];refine aM (sk 1 rfl (kc hfar ?_));refine kz 1 rfl (sg rfl (AWp.sub (Sub.freeze (id:=720) rfl) ?_));refine sg rfl (a8 (sg rfl (aC (aO (fun i:Nat=>mkt [(1,Go.AM.T s),(5,.one (.vp 5 0)),(11,bK (pfR b)),(12,.one (.clo 160 [.vp 3 0])),(60,.one (.ras 1 1 lN)),(61,I .i64 ((1:Nat):Int)),(62,I .i64 i)] ([(3,grO lN lP),(5,.var 34 (b7 b))]++lH n t x k) []) (fun i=>i≤1) (fun i=>1-i) 0 (Ak _) (slG lHW) ?_))));intro i hi;refine sg rfl (a8 (aA rfl (fun hb=>?_) (fun hb=>?_)))
 ·have hi0:i=0:=by
   have:(i:Int)<((1:Nat):Int):=θ hb;omega
  subst hi0;refine aD (a8 (aC (sg rfl (sk 4 rfl (kc ae ?_)))));exact az (aA rfl nofun (fun hb=>aD (ag [] rfl ⟨1,le_refl _,by dsimp only;omega,slG lHW⟩)))
 have J:i=1:=by
  have:¬(i:Int)<((1:Nat):Int):=Aa hb;omega
 subst J;refine aM (aE mixed (ak 3 [] rfl (kv (caps:=[.vp 3 0]) (args:=[Go.AM.T s,.pa (aB b)]) ab ?_)));exact az ⟨.inl rfl,aEu Y (FarEq.outs Y) ⟨[],[],.nil,.nil,rfl⟩ (fun _ h=>by cases h) lHW.refs (fun i hi=>GW.kf i hi) (fun q O=>by rcases χ.1 O with O | O;exact(A5.1 (lHW (n:=n) (t:=t) (x:=x) (k:=k)).plain) q O;cases O)⟩
def w30 (s:Str):Nat:=max 30 s.length
mutual
def m30:Core→Nat
 | .mk _ _ s _ ks bs al=>1+w30 s+bV ks+eU bs+fQ al
def bV:List Core→Nat
 | []=>0
 | c::l=>m30 c+bV l
def eU:List Bind→Nat
 | []=>0
 | .mk s _ c::l=>1+w30 s+m30 c+eU l
def fQ:List Alt→Nat
 | []=>0
 | .mk _ _ s vs c::l=>1+w30 s+(vs.map fun v=>1+w30 v).sum+m30 c+fQ l
end
mutual
def wfE:Core→Bool
 | .mk f _ _ _ ks bs al=>!decide (f=7)&&(!decide (f=5) || (ks.length==1&&bs.isEmpty&&al.isEmpty))&&a0b ks&&a0c bs&&a0d al
def a0b:List Core→Bool
 | []=>true
 | c::l=>wfE c&&a0b l
def a0c:List Bind→Bool
 | []=>true
 | .mk _ _ c::l=>wfE c&&a0c l
def a0d:List Alt→Bool
 | []=>true
 | .mk _ _ _ _ c::l=>wfE c&&a0d l
end
theorem aFs (s:Str):s.length≤w30 s:=Cf ..
theorem fR (s:Str):30≤w30 s:=C7 ..
theorem aI3 {z s:Str}(h:z.length≤30):w30 z≤w30 s:=by unfold w30;omega
theorem a0z:∀vs:List Str,(vs.map fun v=>1+v.length).sum≤(vs.map fun v=>1+w30 v).sum
 | []=>le_refl _
 | v::vs=>by
  simp only[Al,Cc];have:=a0z vs;have:=aFs v;omega
mutual
theorem bU:∀c:Core,aV c≤m30 c
 | .mk _ _ s _ ks bs al=>by
  rw[aV,m30];have:=wR ks;have:=wY bs;have:=x6 al;have:=aFs s;omega
theorem wR:∀l:List Core,dJ l≤bV l
 | []=>by rw[dJ,bV];exact le_refl _
 | c::l=>by
  rw[dJ,bV];have:=bU c;have:=wR l;omega
theorem wY:∀l:List Bind,iC l≤eU l
 | []=>by rw[iC,eU];exact le_refl _
 | .mk s _ c::l=>by
  rw[iC,bsize,eU];have:=bU c;have:=wY l;have:=aFs s;omega
theorem x6:∀l:List Alt,iD l≤fQ l
 | []=>by rw[iD,fQ];exact le_refl _
 | .mk _ _ s vs c::l=>by
  rw[iD,qJ,fQ];have:=bU c;have:=x6 l;have:=aFs s;have:=a0z vs;omega
end
theorem dB (c:Core):31≤m30 c:=by obtain⟨_,_,s,_,ks,bs,al⟩:=c;rw[m30];have:=fR s;omega
theorem dQ:∀{l:List Core}{c:Core},c∈l→m30 c≤bV l
 | d::l,c,h=>by
  rw[bV];rcases Ah.1 h with rfl | h
  ·omega
  ·have:=dQ h;omega
theorem gY:∀{l:List Bind}{b:Bind},b∈l→m30 b.body≤eU l
 | .mk s t c::l,b,h=>by
  rw[eU];rcases Ah.1 h with rfl | h
  ·show m30 c≤_;omega
  ·have:=gY h;omega
theorem eS:∀{l:List Alt}{a:Alt},a∈l→m30 a.body+(a.vars.map fun v=>1+w30 v).sum≤fQ l
 | .mk f n s vs c::l,a,h=>by
  rw[fQ];rcases Ah.1 h with rfl | h
  ·show m30 c+(vs.map fun v=>1+w30 v).sum≤_;omega
  ·have:=eS h;omega
theorem yP:∀a b:List Core,bV (a++b)=bV a+bV b
 | [],b=>by rw[bV];simp
 | c::a,b=>by rw[A9,bV,bV,yP a b];omega
theorem u2:∀l:List Bind,bV (l.map Bind.body)+31*l.length≤eU l
 | []=>by rw[Bj,bV,eU];simp
 | .mk s t c::l=>by
  rw[Al,bV,eU];have:=u2 l;have:=fR s;show m30 c+_+_≤_;rw[Am];omega
theorem aHo:∀l:List Core,31*l.length≤bV l
 | []=>by simp
 | c::l=>by rw[bV,Am];have:=aHo l;have:=dB c;omega
theorem aH5:∀ps:List Core,(ps.flatMap pfR).length≤bV ps
 | []=>by simp
 | p::ps=>by
  rw[Cg,Ab,bV];have:=aEd p;have:=bU p;have:=aH5 ps;omega
theorem kE (c:Core):(pfR c).length≤m30 c:=le_trans (aEd c) (bU c)
theorem pU:∀vs:List Str,31*vs.length≤(vs.map fun v=>1+w30 v).sum
 | []=>le_refl _
 | v::vs=>by simp only[Al,Cc,Am];have:=pU vs;have:=fR v;omega
inductive A2 {α β:Type}(R:α→β→Prop):List α→List β→Prop
 | nil:A2 R [] []
 | cons {a b l m}:R a b→A2 R l m→A2 R (a::l) (b::m)
theorem A2.refl {α:Type}{R:α→α→Prop}(h:∀a,R a a):∀l,A2 R l l
 | []=>.nil
 | a::l=>.cons (h a) (A2.refl h l)
theorem A2.trans {α:Type}{R:α→α→Prop}(h:∀a b c,R a b→R b c→R a c) {l m k:List α}(h1:A2 R l m):A2 R m k→A2 R l k:=by
 induction h1 generalizing k with
 | nil=>intro h2;cases h2;exact .nil
 | cons r _ q=>intro h2;cases h2 with | cons r' h2=>exact .cons (h _ _ _ r r') (q h2)
theorem A2.map {α:Type}{R:α→α→Prop}{f:α→α}(h:∀a,R a (f a)):∀l,A2 R l (l.map f)
 | []=>.nil
 | a::l=>.cons (h a) (A2.map h l)
theorem A2.length {α β:Type}{R:α→β→Prop}{l:List α}{m:List β}(h:A2 R l m):m.length=l.length:=by
 induction h with
 | nil=>rfl
 | cons _ _ q=>simp[q]
theorem A2.take {α β:Type}{R:α→β→Prop}{l:List α}{m:List β}(h:A2 R l m):∀n:Nat,A2 R (l.take n) (m.take n):=by
 induction h with
 | nil=>intro n;simp;exact .nil
 | cons r _ q=>
  intro n;cases n with
  | zero=>exact .nil
  | succ n=>exact .cons r (q n)
theorem A2.drop {α β:Type}{R:α→β→Prop}{l:List α}{m:List β}(h:A2 R l m):∀n:Nat,A2 R (l.drop n) (m.drop n):=by
 induction h with
 | nil=>intro n;simp;exact .nil
 | cons r h q=>
  intro n;cases n with
  | zero=>exact .cons r h
  | succ n=>exact q n
theorem A2.mono {α β:Type}{R R':α→β→Prop}(hm:∀a b,R a b→R' a b) {l:List α}{m:List β}(h:A2 R l m):A2 R' l m:=by
 induction h with
 | nil=>exact .nil
 | cons r _ q=>exact .cons (hm _ _ r) q
def nh (s:Str):Prop:=s.head?≠some 37∧s.head?≠some 35
theorem aJv (n:Nat):nh (bQ n):=by
 have key:∀m:_root_.Fin 26,UInt8.ofNat (97+m.val)≠37∧UInt8.ofNat (97+m.val)≠35:=by decide
 have h:UInt8.ofNat (97+n%26)≠37∧UInt8.ofNat (97+n%26)≠35:=key ⟨n%26,Nat.mod_lt _ (by decide)⟩;unfold nh bQ;split
 ·simpa using h
 ·simpa using h
theorem aH4 (l:List Str):nh (b6 l):=aJv _
def NR (n n':Str):Prop:=n'=n∨(n'.length≤30∧nh n')
theorem NR.w {n q:Str}(h:NR n q):w30 q≤w30 n:=by
 rcases h with rfl | ⟨h,_⟩
 ·exact le_refl _
 ·exact aI3 h
theorem NR.nh {n q:Str}(h:NR n q) (hn:nh n):nh q:=by
 rcases h with rfl | ⟨_,h⟩
 ·exact hn
 ·exact h
section
variable {sb:Core→Str→Core→Core}
theorem aH0 {Rel:Core→Core→Prop}(J:∀p,Rel p p) (ht:∀p q r,Rel p q→Rel q r→Rel p r) {far:List Str}(O:∀p n z,z.length≤30→Rel p (sb p n (vC z))):
  ∀{ns:List Str} {st:List Str×List Core×List Str},st.2.2.length+ns.length≤540000000000→
   A2 Rel st.2.1 (jO sb far ns st).2.1∧∃I,(jO sb far ns st).1=st.1++I∧A2 NR ns I
 | [],st,_=>⟨A2.refl J _,[],by show st.1=_;simp,.nil⟩
 | n::ns,st,hl=>by
  simp only[Am] at hl;have W:=oW (sb:=sb) (far:=far) (st:=st) (n:=n);obtain⟨h1,I,h2,h3⟩:=aH0 J ht O (far:=far) (ns:=ns) (st:=dU sb far st n) (by omega);have e:jO sb far (n::ns) st=jO sb far ns (dU sb far st n):=rfl;rw[e];have hf:(b6 st.2.2).length≤30:=le_trans (kI _ (by omega)) (by omega);by_cases hn:n∈far
  ·have es:dU sb far st n=(st.1++[b6 st.2.2],st.2.1.map (fun p=>sb p n (vC (b6 st.2.2))),st.2.2++[b6 st.2.2]):=by unfold dU;rw[ξ hn]
   rw[es] at h1 h2 ⊢;refine⟨A2.trans ht (A2.map (fun p=>O p n _ hf) _) h1,b6 st.2.2::I,?_,.cons (.inr ⟨hf,aH4 _⟩) h3⟩;rw[h2,A0];rfl
  ·have es:dU sb far st n=(st.1++[n],st.2.1,st.2.2):=by unfold dU;rw[ψ hn]
   rw[es] at h1 h2 ⊢;refine⟨h1,n::I,?_,.cons (.inl rfl) h3⟩;rw[h2,A0];rfl
theorem xZ {Rel:Core→Core→Prop}(J:∀p,Rel p p) (ht:∀p q r,Rel p q→Rel q r→Rel p r) {s:Str}{b:Core}{ns:List Str}{ps:List Core}(O:∀p n z,z.length≤30→Rel p (sb p n (vC z)))
  (hl:(ps.flatMap pfR).length+2*ns.length+(pfR b).length≤540000000000):(∃I,A2 Rel ps I∧((cO sb s b ns ps).2=I∨(cO sb s b ns ps).2=I.map fun p=>sb p s b))∧A2 NR ns (cO sb s b ns ps).1:=by
 unfold cO;split
 ·obtain⟨h1,W,h2,h3⟩:=aH0 J ht O (far:=pfR b) (ns:=ns) (st:=([],ps,ps.flatMap pfR++ns++pfR b)) (by simp only[Ab];omega);exact⟨⟨_,h1,.inr rfl⟩,by rw[h2];exact h3⟩
 ·exact⟨⟨ps,A2.refl J _,.inl rfl⟩,A2.refl (fun _=>.inl rfl) _⟩
end
theorem xF:∀{l:List Core},a0b l=true↔∀x∈l,wfE x=true
 | []=>by simp[a0b]
 | c::l=>by rw[a0b,ε,xF (l:=l)];simp
theorem xG:∀{l:List Bind},a0c l=true↔∀x∈l,wfE x.body=true
 | []=>by simp[a0c]
 | .mk _ _ c::l=>by rw[a0c,ε,xG (l:=l)];simp[Bind.body]
theorem xH:∀{l:List Alt},a0d l=true↔∀x∈l,wfE x.body=true
 | []=>by simp[a0d]
 | .mk _ _ _ _ c::l=>by rw[a0d,ε,xH (l:=l)];simp[Alt.body]
theorem A2.mem {α β:Type}{R:α→β→Prop}{l:List α}{m:List β}(h:A2 R l m):∀b∈m,∃a∈l,R a b:=by
 induction h with
 | nil=>intro b hb;cases hb
 | cons r _ I=>
  intro b hb;rcases Ah.1 hb with rfl | hb
  ·exact⟨_,φ,r⟩
  ·obtain⟨a,ha,q⟩:=I b hb;exact⟨a,η _ ha,q⟩
theorem A2.mapL {α β γ:Type}{R:β→γ→Prop}{f:α→β}:∀{l:List α}{m:List γ},A2 R (l.map f) m→A2 (fun a c=>R (f a) c) l m
 | [],m,h=>by cases h;exact .nil
 | a::l,m,h=>by
  cases h with
  | cons r h=>exact .cons r (A2.mapL h)
theorem kY:∀{ts:List Ty}{ns:List Str}{ps:List Core}{x:Bind},x∈mkB ts ns ps→x.body∈ps∧x.ty∈ts
 | t::ts,n::ns,p::ps,x,h=>by
  unfold mkB at h;rcases Ah.1 h with rfl | h
  ·exact⟨φ,φ⟩
  ·obtain⟨h1,h2⟩:=kY h;exact⟨η _ h1,η _ h2⟩
 | [],_,_,x,h=>by unfold mkB at h;cases h
 | _::_,[],_,x,h=>by unfold mkB at h;cases h
 | _::_,_::_,[],x,h=>by unfold mkB at h;cases h
theorem pM {T:Ty→Prop}:∀{l:List Core},aC9 T l↔∀x∈l,allT T x
 | []=>by simp[aC9]
 | c::l=>by rw[aC9,pM (l:=l)];simp
theorem pN {T:Ty→Prop}:∀{l:List Bind},aDa T l↔∀x∈l,T x.ty∧allT T x.body
 | []=>by simp[aDa]
 | .mk _ t c::l=>by rw[aDa,pN (l:=l)];simp[Bind.body,Bind.ty,and_assoc]
theorem pO {T:Ty→Prop}:∀{l:List Alt},aDc T l↔∀x∈l,allT T x.body
 | []=>by simp[aDc]
 | .mk _ _ _ _ c::l=>by rw[aDc,pO (l:=l)];simp[Alt.body]
def Big:Nat:=250000000000
theorem aVj {z:Str}(h:z.length≤30):m30 (vC z)=31:=by
 unfold vC;rw[m30,bV,eU,fQ];unfold w30;omega
theorem aEo {f:Int}{nm:Str}{bs:List Bind}:(gvN f nm bs).length≤1+bs.length:=by unfold gvN;split<;>simp;omega
theorem aUb {f n:Int}{nm:Str}{t:Ty}{ks:List Core}{bs:List Bind}{al:List Alt}(h:wfE (.mk f n nm t ks bs al)=true):f≠7∧(f=5→(∃k,ks=[k])∧bs=[]∧al=[])∧(∀x∈ks,wfE x=true)∧(∀x∈bs,wfE x.body=true)∧(∀x∈al,wfE x.body=true):=by
 rw[wfE,ε,ε,ε,ε] at h;obtain⟨⟨⟨⟨h1,h2⟩,h3⟩,h4⟩,h5⟩:=h;refine⟨by simpa using h1,fun hf=>?_,xF.1 h3,xG.1 h4,xH.1 h5⟩;rw[Af hf] at h2;simp only[Bool.not_true,Bool.false_or,ε,beq_iff_eq,isEmpty_iff] at h2;exact⟨Bm.1 h2.1.1,h2.1.2,h2.2⟩
theorem a0e {f n:Int}{nm:Str}{t:Ty}{ks:List Core}{bs:List Bind}{al:List Alt}(h1:f≠7) (h2:f=5→(∃k,ks=[k])∧bs=[]∧al=[]) (h3:∀x∈ks,wfE x=true) (h4:∀x∈bs,wfE x.body=true) (h5:∀x∈al,wfE x.body=true):wfE (.mk f n nm t ks bs al)=true:=by
 rw[wfE,ε,ε,ε,ε];refine⟨⟨⟨⟨by simpa using h1,?_⟩,xF.2 h3⟩,xG.2 h4⟩,xH.2 h5⟩;by_cases hf:f=5
 ·obtain⟨⟨k,rfl⟩,rfl,rfl⟩:=h2 hf;simp
 ·rw[Ae hf];rfl
theorem aAn {vs vs':List Str}(h:A2 NR vs vs'):(vs'.map fun v=>1+w30 v).sum≤(vs.map fun v=>1+w30 v).sum:=by
 induction h with
 | nil=>exact le_refl _
 | cons r _ q=>
  simp only[Al,Cc];have:=r.w;omega
section
variable {clr:Core→List Str→Core}{T:Ty→Prop}
end
def wN (i:Nat) (al:List Alt):List (Nat×AObj):=(fam 0 al).filter fun p=>!Nat.beq p.1 (i+800)
theorem wZ {a b:Nat}(h:a≠b):Nat.beq a b=false:=by
 cases hb:Nat.beq a b with
 | false=>rfl
 | true=>exact absurd (Ac hb) h
theorem z7 {i:Nat}{al:List Alt}{p:Nat×AObj}(h:p∈wN i al):p∈fam 0 al∧p.1≠i+800:=by
 obtain⟨h1,h2⟩:=mem_filter.1 h;refine⟨h1,fun e=>?_⟩;rw[e,Cb] at h2;cases h2
theorem aEv {i:Nat}{al:List Alt}:TF (wN i al):=⟨fun p hp=>fT.far p (z7 hp).1,by
 have:((wN i al).map (·.1)).Sublist ((fam 0 al).map (·.1)):=(List.filter_sublist ..).map _
 exact List.Nodup.sublist this mL,fun p hp=>fT.arr p (z7 hp).1⟩
theorem r8:∀{l:List Alt}{k i x:Nat},x∈bZ ((aY k l).set i [])→∃j,j<l.length∧j≠i∧x=k+j+800
 | [],_,_,_,h=>by simp[aY,bZ] at h
 | a::l,k,0,x,h=>by
  have h:x∈bZ (aY (k+1) l):=by simpa [aY,bZ,R.refsL] using h
  obtain⟨p,hp,e⟩:=Ad.1 (cZ x h);obtain⟨j,b,I,rfl⟩:=oA hp;have q:j<l.length:=(τ.1 I).1
  exact⟨j+1,by simp;exact q,by omega,by rw[←e];show k+1+j+800=_;omega⟩
 | a::l,k,i+1,x,h=>by
  rcases χ.1 (show x∈R.refsL (dN k a)++bZ ((aY (k+1) l).set i []) from h) with h | h
  ·exact⟨0,by simp,by omega,by rw[r4 h]⟩
  ·obtain⟨j,h1,h2,h3⟩:=r8 h;exact⟨j+1,by simp;exact h1,by omega,by omega⟩
theorem aSz {i j:Nat}{al:List Alt}(h:j<al.length) (q:j≠i):0+j+800∈keys (wN i al):=by
 obtain⟨a,ha⟩:=aL h;exact Ad.2 ⟨_,mem_filter.2 ⟨aB1 ha,by simp only[wZ (show 0+j+800≠i+800 by omega)];rfl⟩,rfl⟩
theorem xQ {i j:Nat}(h:j≠704) (q:j≠i+800):swp 704 (i+800) j=j:=by unfold swp;rw[wZ h,wZ q];rfl
theorem vY {σ:Nat→Nat}:∀{l:List Alt}{k i:Nat}{a:Alt}{r:List R},l[i]?=some a→(∀j,j<l.length→j≠i→σ (k+j+800)=k+j+800)→R.renL σ r=dN (k+i) a→nJ σ ((aY k l).set i r)=aY k l
 | b::l,k,0,a,r,h,hσ,I=>by
  simp at h;subst h;show R.renL σ r::nJ σ (aY (k+1) l)=_;have key:∀(l:List Alt) (k:Nat),(∀j,j<l.length→σ (k+j+800)=k+j+800)→nJ σ (aY k l)=aY k l:=by
   intro l
   induction l with
   | nil=>intro _ _;rfl
   | cons c l J=>
    intro k hk;simp only[aY,nJ]
    rw[kV,show σ (k+800)=k+800 from hk 0 (by simp),J (k+1) fun j q=>by
     have:=hk (j+1) (by simp;exact q)
     rwa [show k+(j+1)+800=k+1+j+800 by omega] at this];rfl
  rw[I,key l (k+1) fun j q=>by
   have:=hσ (j+1) (by simp;exact q) (by omega)
   rwa [show k+(j+1)+800=k+1+j+800 by omega] at this];rfl
 | b::l,k,i+1,a,r,h,hσ,I=>by
  show R.renL σ (dN k b)::nJ σ ((aY (k+1) l).set i r)=_
  rw[kV,show σ (k+800)=k+800 from hσ 0 (by simp) (by omega),vY (l:=l) (k:=k+1) (a:=a) (by simpa using h) (fun j q O=>by
   have:=hσ (j+1) (by simp;exact q) (by omega)
   rwa [show k+(j+1)+800=k+1+j+800 by omega] at this) (by rw[I,show k+1+i=k+(i+1) by omega])];rfl
theorem aN6 {i:Nat}{al:List Alt}{j:Nat}(h:j≠i+800):Go.AM.look (wN i al) j=Go.AM.look (fam 0 al) j:=by
 unfold wN;generalize fam 0 al=F
 induction F with
 | nil=>rfl
 | cons p F q=>
  obtain⟨k,o⟩:=p;rw[Cu];simp only[Go.AM.look];by_cases hk:k=i+800
  ·rw[hk,Cb];simp only[Bool.not_true,Bc,B3];rw[q,wZ h];rfl
  ·rw[wZ hk];simp only[Bool.not_false,Ct,Go.AM.look];cases Nat.beq j k
   ·simpa using q
   ·rfl
theorem aSy {i:Nat}{al:List Alt}:renH (swp 704 (i+800)) (wN i al)=wN i al:=by
 have key:∀F:List (Nat×AObj),(∀p∈F,p∈wN i al)→renH (swp 704 (i+800)) F=F:=by
  intro F
  induction F with
  | nil=>intro _;rfl
  | cons p F I=>
   intro h;have hp:=z7 (h p φ);obtain⟨te,es,l,z,e⟩:=fT.arr p hp.1;have J:=fT.far p hp.1;show(swp 704 (i+800) p.1,p.2.ren _)::renH _ F=_;rw[I fun q O=>h q (η _ O),xQ (by omega) hp.2,e];show(p.1,AObj.arr te es l z)::F=_;rw[←e]
 exact key _ fun _ h=>h
abbrev aX (i:Nat) (al:List Alt) (a:Alt) (nv:Nat):List (Nat×AObj):=aH ((aY 0 al).set i []) i a.form a.n a.name nv a.vars a.body++wN i al
theorem aN7 {i:Nat}{al:List Alt}{a:Alt}(I:al[i]?=some a):Go.AM.look (renH (swp 704 (i+800)) (aX i al a a.vars.length))=Go.AM.look ((703,.rarr 71 14 (aY 0 al))::fam 0 al):=by
 have J:renH (swp 704 (i+800)) (aX i al a a.vars.length)=(703,.rarr 71 14 (aY 0 al))::(i+800,.arr 9 1 (a.vars.map bC) 0)::wN i al:=by
  unfold aX aH;show(swp 704 (i+800) 703,AObj.rarr _ _ (nJ _ _))::(swp 704 (i+800) 704,AObj.arr _ _ _ _)::renH _ (wN i al)=_;rw[aSy,xQ (by omega) (by omega),a08];have q:swp 704 (i+800) 704=i+800:=by unfold swp;rw[Cb];rfl
  rw[q,vY I (fun j W O=>xQ (by omega) (by omega)) ?_];unfold aGv dN;simp only[A9,A4,R.renL,R.ren,aL6,q,Ba]
 rw[J];funext j;by_cases h1:j=703
 ·subst h1;rw[dI,dI]
 rw[dW h1,dW h1];by_cases h2:j=i+800
 ·subst h2;rw[dI];have:=qB (mL (l:=al) (k:=0)) _ (aB1 I);rw[Ba] at this;exact this.symm
 ·rw[dW h2,aN6 h2]
theorem nV:∀{l:List Alt}{k i:Nat}{q:Alt},(aY k (l.set i q)).set i []=(aY k l).set i []
 | [],_,_,_=>rfl
 | b::l,k,0,q=>rfl
 | b::l,k,i+1,q=>by
  simp only[Cp,aY];rw[nV]
theorem aSx {i:Nat}{al:List Alt}{q:Alt}:wN i (al.set i q)=wN i al:=by
 unfold wN;have key:∀(l:List Alt) (k j:Nat),k+j=i→((fam k (l.set j q)).filter fun p=>!Nat.beq p.1 (i+800))=(fam k l).filter fun p=>!Nat.beq p.1 (i+800):=by
  intro l
  induction l with
  | nil=>intro _ _ _;rfl
  | cons b l I=>
   intro k j h;cases j with
   | zero=>
    have e:k=i:=by omega
    subst e;simp only[set_cons_zero,fam,Cu,Cb,Bool.not_true];rfl
   | succ j=>
    simp only[Cp,fam,Cu];rw[I (k+1) j (by omega)]
 exact key al 0 i (by omega)
theorem aY1 (al:List Alt) (i:Nat) (a:Alt) (J:al[i]?=some a) (s:Str) (b:Core) (sb:Core→Str→Core→Core) (P:Core→Prop) (hok:PutOk sb P s b [a.body])
  (hM:(pfR a.body).length+2*a.vars.length+(pfR b).length+1≤540000000000) (nv:Nat) (Y:nv=a.vars.length) (Z:Nat) (aa:Z=al.length):
  ∃q,(cO sb s b a.vars [a.body]).2=[q]∧aU Tryz.prog 134 [.ma [.ras nv 1 (vR i nv nv).flatten,.ras 1 1 [.rp 703 i 4 Z]],Go.AM.T s,.pa (aB b)] ((703,.rarr 71 14 (aY 0 al))::fam 0 al) (.tup [])
   ((703,.rarr 71 14 (aY 0 (al.set i (.mk a.form a.n a.name (cO sb s b a.vars [a.body]).1 q))))::fam 0 (al.set i (.mk a.form a.n a.name (cO sb s b a.vars [a.body]).1 q))):=by
 subst Y;subst aa;have ab:i<al.length:=(τ.1 J).1
 have ac:((aY 0 al).set i []).length=al.length:=by rw[Cd,dY]
 have hr:∀x∈bZ ((aY 0 al).set i []),x∈keys (wN i al):=fun x hx=>by
  obtain⟨j,h1,h2,rfl⟩:=r8 hx;exact aSz h1 h2
 obtain⟨q,hq,h⟩:=a3l ((aY 0 al).set i []) i a.form a.n a.name a.vars.length a.vars a.body (wN i al) s b sb P aEv hr (by omega) rfl hok hM;refine⟨q,hq,?_⟩;have hl1:=(rN (sb:=sb) (s:=s) (b:=b) (ns:=a.vars) (ps:=[a.body])).1
 rw[ac] at h;have I:∀(ns:List Str) (p:Core),subset (dO (aH ((aY 0 al).set i []) i a.form a.n a.name a.vars.length ns p++wN i al)) (keys (aH ((aY 0 al).set i []) i a.form a.n a.name a.vars.length ns p++wN i al))=true:=fun ns p=>eX (oI aEv (aHW aEv hr).refs)
 have h2:=aU.swap 704 (i+800) h (I _ _) (eX fun x hx=>by
  have hx:x∈(grO (aN a.vars.length) (aP i al.length)).refs++([]++([]++[])):=hx;rw[A8,A8,A8] at hx;rcases aFd x hx with rfl | rfl
  ·simp[aH,keys]
  ·simp[aH,keys]) (I _ _) rfl
 have ea:V.renL (swp 704 (i+800)) [gpV (aN a.vars.length) (aP i al.length),Go.AM.T s,.pa (aB b)]=[.ma [.ras a.vars.length 1 (vR i a.vars.length a.vars.length).flatten,.ras 1 1 [.rp 703 i 4 al.length]],Go.AM.T s,.pa (aB b)]:=by
  have O:swp 704 (i+800) 704=i+800:=by unfold swp;rw[Cb];rfl
  have en:R.renL (swp 704 (i+800)) (aN a.vars.length)=(vR i a.vars.length a.vars.length).flatten:=by
   unfold aN vR rgR;generalize List.range a.vars.length=rg
   induction rg with
   | nil=>rfl
   | cons j rg ih=>
    simp only[Al,Bk,List.singleton_append,R.renL,R.ren,O] at ih ⊢;rw[ih]
  unfold gpV aP;simp only[V.renL,V.ren,R.renL,R.ren,en,aWe,xQ (show 703≠704 by omega) (show 703≠i+800 by omega)];rfl
 rw[ea] at h2;refine aU.row h2 (aN7 J).symm ?_;have W:(al.set i (.mk a.form a.n a.name (cO sb s b a.vars [a.body]).1 q))[i]?=some (.mk a.form a.n a.name (cO sb s b a.vars [a.body]).1 q):=List.getElem?_set_self ab;have h3:=aN7 W;unfold aX at h3;rw[nV,aSx] at h3;rw[←h3];show Go.AM.look (renH _ (aH _ i a.form a.n a.name (cO sb s b a.vars [a.body]).1.length _ _++wN i al))=_;rw[hl1];rfl
def iM (h:cK):Prop:=∀i,800≤i→h i=none
theorem iM.nil:iM (Go.AM.look []):=fun _ _=>rfl
theorem iM.upd {h:cK}{k:Nat}{x:Option AObj}(hf:iM h) (hk:Nat.blt k 800=true:=by rfl):iM (upd h k x):=fun i hi=>by
 have:=Aq hk;rw[aS _ _ _ (by omega)];exact hf i hi
theorem aBl:∀bs:List Bind,mkB (bs.map Bind.ty) (bs.map Bind.name) (bs.map Bind.body)=bs
 | []=>rfl
 | .mk s t c::bs=>by
  show Bind.mk s t c::mkB _ _ _=_;rw[aBl bs]
theorem a58 {b:Bool}{nk nb:Nat}(h:b=false):qD b nk nb=[.ras (tN nb).length 1 (tN nb),.ras (tP nk nb).length 1 (tP nk nb)]:=by
 subst h;have q:(nR false nb nb).length=(tN nb).length:=by unfold tN;rw[nB aLl,mul_one]
 have I:(pR nk nb nb).length=(tP nk nb).length:=by unfold tP;rw[nB wC,mul_one]
 unfold qD;rw[q,I];rfl
section
variable {clr:Core→List Str→Core}{k:Nat}
noncomputable def jM (sb:Core→Str→Core→Core) (s:Str) (b:Core) (a:Alt):Alt:=.mk a.form a.n a.name (cO sb s b a.vars [a.body]).1 ((cO sb s b a.vars [a.body]).2.headD a.body)
noncomputable def uN (sb:Core→Str→Core→Core) (s:Str) (b:Core) (al:List Alt) (i:Nat):List Alt:=(al.take i).map (jM sb s b)++al.drop i
theorem zU {sb:Core→Str→Core→Core}{s:Str}{b:Core}{al:List Alt}{i:Nat}:(uN sb s b al i).length=al.length:=by unfold uN;simp;omega
theorem aZo {sb:Core→Str→Core→Core}{s:Str}{b:Core}{al:List Alt}{i:Nat}{a:Alt}(h:al[i]?=some a):(uN sb s b al i)[i]?=some a:=by
 have q:i<al.length:=(τ.1 h).1
 unfold uN;rw[A3 (by simp;omega),ζ,At,Ch (by omega),C6,An,B0,h]
theorem aP8 {sb:Core→Str→Core→Core}{s:Str}{b:Core}{al:List Alt}{i:Nat}{a:Alt}(h:al[i]?=some a):uN sb s b al (i+1)=(uN sb s b al i).set i (jM sb s b a):=by
 have q:i<al.length:=(τ.1 h).1
 unfold uN;rw[qG h,sT (by simp;omega),Bh,h];simp
theorem aP7 {sb:Core→Str→Core→Core}{s:Str}{b:Core}{al:List Alt}:uN sb s b al 0=al:=by simp[uN]
theorem aTx {sb:Core→Str→Core→Core}{s:Str}{b:Core}{al:List Alt}:uN sb s b al al.length=al.map (jM sb s b):=by simp[uN]
noncomputable def zNm (sb:Core→Str→Core→Core) (f:Int) (nm:Str) (s:Str) (b:Core) (ks:List Core) (bs:List Bind):Nat→Str
 | 0=>nm
 | _+1=>if f=5 then(cO sb s b (gvN f nm bs) (ks++bs.map Bind.body)).1.headD nm else nm
noncomputable def zKs (sb:Core→Str→Core→Core) (f:Int) (nm:Str) (s:Str) (b:Core) (ks:List Core) (bs:List Bind):Nat→List Core
 | 0=>ks
 | _+1=>(cO sb s b (gvN f nm bs) (ks++bs.map Bind.body)).2.take ks.length
noncomputable def zBs (sb:Core→Str→Core→Core) (f:Int) (nm:Str) (s:Str) (b:Core) (ks:List Core) (bs:List Bind):Nat→List Bind
 | 0=>bs
 | _+1=>mkB (bs.map Bind.ty) (cO sb s b (gvN f nm bs) (ks++bs.map Bind.body)).1 ((cO sb s b (gvN f nm bs) (ks++bs.map Bind.body)).2.drop ks.length)
noncomputable def zAs (sb:Core→Str→Core→Core) (s:Str) (b:Core) (al:List Alt):Nat→List Alt
 | 0=>al
 | i+1=>uN sb s b al i
theorem z6:∀{l m:List Alt}{k:Nat},l.length=m.length→keys (fam k l)=keys (fam k m)
 | [],[],_,_=>rfl
 | a::l,c::m,k,h=>by
  show(k+800)::keys (fam (k+1) l)=(k+800)::keys (fam (k+1) m);rw[z6 (by simpa using h)]
end
def vT (z:Str):Ty:=.mk 2 0 z []
theorem aIo (n:Int) (nm:Str) (t:Ty) (kid:Core) (far:List Str) (J:far.length≤540000000000) (I:¬nm∈far):
  aU Tryz.prog 77 [.one (.vp 700 0),bK far] (gHl 7 n nm t [kid] [] []) (.tup []) (gHl 7 n nm t [kid] [] []):=by
 have q:=bR far nm (by omega);rw[Ae I] at q;refine bL (n:=44) tok Tryz.func77 rfl rfl rfl ?_;refine sk 5 rfl (kc q ?_);exact az (aA rfl nofun (fun hb=>aD ⟨.inl rfl,⟨[],[],.nil,.nil,rfl⟩,⟨⟨_,rfl,.var rfl⟩,⟨_,rfl,.arr⟩,⟨_,rfl,.arr⟩,⟨_,rfl,.rarr rfl⟩,trivial⟩,rfl⟩))
theorem aIn (n:Int) (nm:Str) (t:Ty) (kid q:Core) (far:List Str) (Y:far.length≤540000000000) (hin:nm∈far) (Z:cE 540000000000) (O:aU Tryz.prog 76 [.pa (aB kid)] [] (bK (tyR kid)) []) (ab:far.length+(tyR kid).length≤540000000000)
  (hs:aU Tryz.prog 32 [.pa (aB kid),Go.AM.T nm,tyV (vT (b6 (far++tyR kid)))] [] (.pa (aB q)) []):
  aU Tryz.prog 77 [.one (.vp 700 0),bK far] (gHl 7 n nm t [kid] [] []) (.tup []) (gHl 7 n (b6 (far++tyR kid)) t [q] [] []):=by
 have I:=bR far nm (by omega);rw[Af hin] at I;have W:=iS (far.map bC) (by rw[ζ];omega);have ac:(far.map bC).length=far.length:=ζ _;have aa:((tyR kid).map bC).length=(tyR kid).length:=ζ _;have J:=zN (far++tyR kid) (by rw[Ab];omega) fun k hk=>Z k (by rw[Ab] at hk;omega)
 generalize b6 (far++tyR kid)=z at hs J ⊢;refine bL (n:=44) tok Tryz.func77 rfl rfl rfl ?_;refine sk 5 rfl (kc I ?_);refine az (aA rfl (fun hb=>sk 1 rfl (kc W ?_)) nofun);refine ak 6 [(7,.row 0 (aB kid))] rfl (kc O ?_);refine ak 1 [(9,.fz)] rfl (kc J ?_);refine kz 1 rfl (skh 15 [(9,.row 0 (aB kid))] rfl (kc (aV1 z) ?_));refine kc hs ?_;exact ak 2 [(18,.row 0 (aB kid))] rfl (az (ag [] rfl ⟨.inl rfl,⟨[],[],.nil,.nil,rfl⟩,⟨⟨_,rfl,.var rfl⟩,⟨_,rfl,.arr⟩,⟨_,rfl,.arr⟩,⟨_,rfl,.rarr rfl⟩,trivial⟩,rfl⟩))
theorem a6j (name:Str) (q t t':Ty) (h:aU Tryz.prog 28 [tyV t,bK [name],.one (.c (.sl 4 [bH q]))] [] (tyV t') []):
  aU Tryz.prog 79 [tyV t,.one (.vp 4 0),.one (.vp 5 0)] [(4,.var 9 [.c (.str name)]),(5,.var 30 ((bH q).map R.c))] (tyV t') [(4,.var 9 [.c (.str name)]),(5,.var 30 ((bH q).map R.c))]:=by
 refine bL (n:=11) tok Tryz.func79 rfl rfl rfl ?_;refine sgh [(0,.id 730),(1,.id 731)] rfl (skh 5 [(2,.all),(4,.all)] rfl (kc h ?_));exact kz 1 rfl (aF (rtC trw))
def gH (ts:Ty→Ty) (sb:Core→Core):Core→Core
 | .mk f n nm t ks bs al=>.mk f n nm (ts t) (ks.map sb) (bs.map fun b=>.mk b.name (ts b.ty) (sb b.body)) (al.map fun a=>.mk a.form a.n a.name a.vars (sb a.body))
def tsB (ts:Ty→Ty) (b:Bind):Bind:=.mk b.name (ts b.ty) b.body
section
variable {α:Type}{g:α→α}
def mH (g:α→α) (bs:List α) (j:Nat):List α:=(bs.take j).map g++bs.drop j
theorem nA {bs:List α}{j:Nat}:(mH g bs j).length=bs.length:=by unfold mH;simp;omega
theorem yN {bs:List α}{j:Nat}{b:α}(h:bs[j]?=some b):(mH g bs j)[j]?=some b:=by
 have q:j<bs.length:=(τ.1 h).1
 unfold mH;rw[A3 (by simp;omega),ζ,At,Ch (by omega),C6,An,B0,h]
theorem oU {bs:List α}{j:Nat}{b:α}(h:bs[j]?=some b):mH g bs (j+1)=(mH g bs j).set j (g b):=by
 have q:j<bs.length:=(τ.1 h).1
 unfold mH;rw[qG h,sT (by simp;omega),Bh,h];simp
theorem mG {bs:List α}:mH g bs 0=bs:=by simp[mH]
theorem aSj {bs:List α}:mH g bs bs.length=bs.map g:=by simp[mH]
theorem yM {bs:List α}{j:Nat}(h:bs.length≤j):mH g bs j=bs.map g:=by unfold mH;rw[Ax h,List.drop_eq_nil_of_le h,A8]
end
def sbB (sb:Core→Core) (b:Bind):Bind:=.mk b.name b.ty (sb b.body)
def sbA (sb:Core→Core) (a:Alt):Alt:=.mk a.form a.n a.name a.vars (sb a.body)
theorem uM:∀{l:List Alt}{k i:Nat}{a:Alt},aY k (l.set i a)=(aY k l).set i (dN (k+i) a)
 | [],_,_,_=>rfl
 | b::l,k,0,a=>rfl
 | b::l,k,i+1,a=>by
  simp only[Cp,aY];rw[uM (l:=l) (k:=k+1),show k+1+i=k+(i+1) by omega]
theorem aH8 (sb:Core→Core):∀(l:List Alt) (k j:Nat),fam k (mH (sbA sb) l j)=fam k l
 | [],_,_=>by simp[mH]
 | a::l,k,0=>by rw[mG]
 | a::l,k,j+1=>by
  have e:mH (sbA sb) (a::l) (j+1)=sbA sb a::mH (sbA sb) l j:=rfl;rw[e];show(k+800,AObj.arr 9 1 (a.vars.map bC) 0)::fam (k+1) _=_;rw[aH8 sb l (k+1) j];rfl
theorem aRn {f n:Int}{nm:Str}{t:Ty}{ks:List Core}{bs:List Bind}{al:List Alt}{r v:Nat}
  (hr:Nat.blt r 700=true) (hv:Nat.blt v 700=true) {q:St} (hF:FarEq q.h (fam 0 al)) (he:eJ (fun p:Nat×V=>q.e p.1=some (p.2.ren (fun i=>i))) [(r,V.one (.vp r 0)),(v,V.one (.vp 700 0))])
  (hh:eJ (fun p:Nat×AObj=>∃o,q.h p.1=some o∧Ole (fun i=>i) o p.2) (gHl f n nm t ks bs al)) (h6:∃o,q.h r=some o∧Ole (fun i=>i) o (.var 34 bI)) (hd:q.d=[]) (J:r≠v):
  Sub [] (mk [(r,.one (.vp r 0)),(v,.one (.vp 700 0))] [(r,.var 34 bI),(700,.var 34 (b7 (.mk f n nm t ks bs al)))]) q:=by
 have hr':=Aq hr;have hv':=Aq hv;have Z:TF (fam 0 al):=fT;have O:∀x∈oL [(r,V.one (.vp r 0)),(v,V.one (.vp 700 0))],x=r∨x=700:=fun x hx=>by simpa [oL,V.refs,R.refs] using hx
 have I:Go.AM.distinct (List.map (fun p:Nat×AObj=>p.1) (oHl ks bs al++[(700,.var 34 (eD f n nm t ks.length bs.length al.length)),(r,.var 34 bI)]))=true:=by
  refine gG ?_;simp[oHl];omega
 have Y:((oHl ks bs al++[(700,AObj.var 34 (eD f n nm t ks.length bs.length al.length)),(r,.var 34 bI)]).all fun p=>Nat.blt p.1 800)=true:=by
  simp[oHl,aJ5 (show r<800 by omega)]
 have s1:Sub [] (mkt [(r,.one (.vp r 0)),(v,.one (.vp 700 0))] (oHl ks bs al++[(700,.var 34 (eD f n nm t ks.length bs.length al.length)),(r,.var 34 bI)]) (fam 0 al)) q:=by
  obtain⟨h0,h1,h2,h3,_⟩:=hh;refine slT Z hF (fun x hx=>.inl ?_) (fun x hx=>?_) (fun _ h=>by cases h) (he:=he) (hh:=⟨h1,h2,h3,h0,h6,trivial⟩) (hd:=hd) (h3:=I) (h3':=Y)
  ·rcases O x hx with rfl | rfl<;>simp[oHl,keys]
  ·rw[jA] at hx;rcases χ.1 hx with hx | hx
   ·exact .inr (cZ x (by simpa [oHl,dO,AObj.refs] using hx))
   ·refine .inl ?_;have hx:x=702∨x=701∨x=703:=by simpa [dO,AObj.refs,eD,bI,R.refsL,R.refs] using hx
    rcases hx with rfl | rfl | rfl<;>simp[oHl,keys]
 have s2:=pV (kf:=[]) (el:=[(r,.one (.vp r 0)),(v,.one (.vp 700 0))]) (ex:=[(700,.var 34 (eD f n nm t ks.length bs.length al.length)),(r,.var 34 bI)]) (ks:=ks) (bs:=bs) (al:=al) (by simp)
  (fun x hx=>by
    rcases O x hx with rfl | rfl
    ·exact .inr (.inl (by simp[keys]))
    ·exact .inr (.inl (by simp[keys])))
  ⟨fun x hx=>by
    have hx:x=702∨x=701∨x=703:=by simpa [AObj.refs,eD,R.refsL,R.refs] using hx
    rcases hx with rfl | rfl | rfl<;>exact .inl (by simp[oHl,keys]),fun x hx=>by simp[AObj.refs,bI,R.refsL,R.refs] at hx,trivial⟩
  (fun _ h=>by cases h) I (by simp[aJ5 (show r<800 by omega)]) (by simp;exact J) (fun p hp=>by
   rcases Ah.1 hp with rfl | hp
   ·rfl
   ·rw[κ.1 hp];rfl)
 have e1:fzH 703 (.ra al.length 14 (aY 0 al).flatten) ([(701,.arr 69 15 (aT bs) 2),(702,.arr 34 10 (aR ks) 2)]++[(700,.var 34 (eD f n nm t ks.length bs.length al.length)),(r,.var 34 bI)])
   =[(701,.arr 69 15 (aT bs) 2),(702,.arr 34 10 (aR ks) 2),(700,.var 34 (jY f n nm t ks.length bs.length al)),(r,.var 34 bI)]:=by
  unfold eD jY;show [(701,_),(702,_),(700,AObj.var _ (R.fzL _ _ _)),(r,AObj.var _ (R.fzL _ _ _))]=_;simp only[R.fzL,R.fz,Cb,Ct,Bool.and_self];rfl
 have e2:fzE 703 (.ra al.length 14 (aY 0 al).flatten) [(r,.one (.vp r 0)),(v,.one (.vp 700 0))]=[(r,.one (.vp r 0)),(v,.one (.vp 700 0))]:=rfl;rw[e1,e2] at s2;have aa:TF (yX (fam 0 al)):=Z.frz;have ab:(([(701,AObj.arr 69 15 (aT bs) 2),(702,.arr 34 10 (aR ks) 2),(700,.var 34 (jY f n nm t ks.length bs.length al)),(r,.var 34 bI)]:List (Nat×AObj)).all fun p=>Nat.blt p.1 800)=true:=by simp[aJ5 (show r<800 by omega)]
 obtain⟨ids,hp⟩:=tI (h:=(mkt [(r,.one (.vp r 0)),(v,.one (.vp 700 0))] [(701,.arr 69 15 (aT bs) 2),(702,.arr 34 10 (aR ks) 2),(700,.var 34 (jY f n nm t ks.length bs.length al)),(r,.var 34 bI)] (yX (fam 0 al))).h) (f:=f) (n:=n) (s:=nm) (t:=t) (ks:=ks) (bs:=bs) (al:=al) rfl rfl (FarEq.mkt aa ab);have s3:=Sub.varPure (kf:=[]) (st:=mkt [(r,.one (.vp r 0)),(v,.one (.vp 700 0))] [(701,.arr 69 15 (aT bs) 2),(702,.arr 34 10 (aR ks) 2),(700,.var 34 (jY f n nm t ks.length bs.length al)),(r,.var 34 bI)] (yX (fam 0 al))) (x:=700) (tv:=34) rfl hp;refine Sub.trans ?_ (Sub.trans s3 (Sub.trans s2 s1));have W:r≠700:=by omega
 refine Sub.list (fun i=>i) ?_ ?_ ?_
 ·have hrv:Nat.beq v r=false:=wZ (Ne.symm J);refine⟨?_,?_,trivial⟩
  ·show Go.AM.look [(r,V.one (.vp r 0)),(v,V.one (.vp 700 0))] r=_;rw[dI];rfl
  ·show Go.AM.look [(r,V.one (.vp r 0)),(v,V.one (.vp 700 0))] v=_;rw[dW (Ne.symm J),dI];rfl
 ·refine⟨⟨.var 34 bI,?_,.var rfl⟩,⟨.var 34 (b7 (.mk f n nm t ks bs al)),?_,.var (aL6 _).symm⟩,trivial⟩
  ·show upd _ 700 _ r=_;rw[aS _ _ _ W];show(match Go.AM.look [(701,AObj.arr 69 15 (aT bs) 2),(702,.arr 34 10 (aR ks) 2),(700,.var 34 (jY f n nm t ks.length bs.length al)),(r,.var 34 bI)] r with | some x=>some x | none=>_)=_;rw[dW (by omega),dW (by omega),dW (by omega),dI]
  ·dsimp only;rw[aI];rfl
 ·simp only[aZ1,ε];refine⟨⟨⟨⟨⟨eX fun x hx=>?_,eX fun x hx=>?_⟩,gG ?_⟩,rfl⟩,rfl⟩,rfl⟩
  ·rcases O x hx with rfl | rfl<;>simp
  ·have:x∈R.refsL bI++(R.refsL (b7 (.mk f n nm t ks bs al))++[]):=hx;simp[bI,b7,aB,R.refsL,R.refs] at this
  ·simp;exact W
theorem aPd (f n:Int) (nm name:Str) (t J:Ty) (ks:List Core) (bs:List Bind) (al:List Alt)
  (O:aV (.mk f n nm t ks bs al)≤570000000000) (Z:allT TyG (.mk f n nm t ks bs al)) (h7:f=7)
  (hs:nm=name∨(nm≠name∧∃tl:List Str,aU Tryz.prog 76 [.pa (aB (.mk f n nm t ks bs al))] [] (bK tl) []∧¬name∈tl∧tl.length≤540000000000)):
  aU Tryz.prog 32 [.pa (aB (.mk f n nm t ks bs al)),Go.AM.T name,tyV J] [] (.pa (aB (.mk f n nm t ks bs al))) []:=by
 have q:=aPf (aV (.mk f n nm t ks bs al)) _ (le_refl _) O Z;have q:aU Tryz.prog 74 [.pa (aB (.mk f n nm t ks bs al))] [] (.pa (aB (.mk f n nm t ks bs al))) []:=q;have W:decide (f=7)=true:=Af h7;refine bL (n:=84) tok Tryz.func32 rfl rfl rfl ?_;refine sg rfl (sk 1 rfl (kc q ?_));refine kz 2 rfl (a8 (sg rfl (aA rfl (fun _=>?_) (fun hb=>?_))))
 ·refine a8 (a8 ?_);rcases hs with h | ⟨h,tl,Y,hn,hl⟩
  ·have hd:decide (nm=name)=true:=Af h;exact ag [(4,.bv true),(10,.bv true)] rfl (aA rfl (fun _=>sg rfl (aF (rtC trw))) nofun)
  ·have hd:decide (nm=name)=false:=Ae h;have I:=bR tl name (by omega);rw[Ae hn] at I;refine aE mixed (ak 6 [(4,.bv false)] rfl (kcG Y ?_));refine ak 1 [(4,.bv false)] rfl (kcG I ?_);exact ak 2 [(4,.bv false),(10,.bv false)] rfl (az (aA rfl (fun _=>sg rfl (aF (rtC trw))) nofun))
 ·exact absurd (show decide (f=7)=false from hb) (by rw[W];decide)
def gHm (f n:Int) (s:Str) (t:Ty) (nk nb na:Nat) (ks:List Core) (bs:List Bind) (al:List Alt):List (Nat×AObj):=
 [(700,.var 34 (eD f n s t nk nb na)),(701,.arr 69 15 (aT bs) 0),(702,.arr 34 10 (aR ks) 0),(703,.rarr 71 14 (aY 0 al))]
theorem gWm {f n:Int}{s:Str}{t:Ty}{nk nb q:Nat}{ks:List Core}{bs:List Bind}{al A:List Alt}(h:fam 0 A=fam 0 al):GW (gHm f n s t nk nb q ks bs A) (fam 0 al):=by
 rw[←h];refine⟨fT,fun x hx=>?_,rfl,rfl⟩;simp only[gHm,dO,AObj.refs,eD,R.refsL,R.refs,A4,A8,χ,Ah,Ca,C8] at hx;rcases hx with(rfl | rfl | rfl) | hx
 ·exact .inl (by simp[gHm,keys])
 ·exact .inl (by simp[gHm,keys])
 ·exact .inl (by simp[gHm,keys])
 ·exact .inr (cZ x hx)
def gK (sb:Core→Core) (ks:List Core):Nat→List Core
 | 0=>ks
 | _+1=>ks.map sb
def gB (sb:Core→Core) (bs:List Bind):Nat→List Bind
 | 0=>bs
 | _+1=>bs.map (sbB sb)
def gA (sb:Core→Core) (al:List Alt):Nat→List Alt
 | 0=>al
 | i+1=>mH (sbA sb) al i
theorem aOn {sb:Core→Core}{al:List Alt}:∀g,fam 0 (gA sb al g)=fam 0 al
 | 0=>rfl
 | i+1=>aH8 sb al 0 i
theorem kbE (l:List Bind):l.length=(aT l).length:=by rw[bN,ζ]
theorem kcE (l:List Core):l.length=(aR l).length:=by rw[bD,ζ]
theorem aCi (f n:Int) (nm nm1 name:Str) (t q:Ty) (ks ks1:List Core) (bs:List Bind) (al:List Alt) (ts:Ty→Ty) (sb:Core→Core)
  (hcs:aV (.mk f n nm t ks bs al)≤570000000000) (hT:allT TyG (.mk f n nm t ks bs al)) (hkl:ks1.length=ks.length)
  (h7:f=7→nm≠name∧bs=[]∧al=[]∧∃tl fr:List Str,aU Tryz.prog 76 [.pa (aB (.mk f n nm t ks bs al))] [] (bK tl) []∧name∈tl∧tl.length≤540000000000∧aU Tryz.prog 78 [tyV q] [] (bK fr) []∧
   aU Tryz.prog 77 [.one (.vp 700 0),bK fr] (gHl f n nm t ks [] []) (.tup []) (gHl f n nm1 t ks1 [] []))
  (hn7:f≠7→nm1=nm∧ks1=ks)
  (hts:∀u,(u=t∨∃b∈bs,u=b.ty)→aU Tryz.prog 28 [tyV u,bK [name],.one (.c (.sl 4 [bH q]))] [] (tyV (ts u)) [])
  (ae:∀x,(x∈ks1∨(∃b∈bs,x=b.body)∨∃a∈al,x=a.body)→aU Tryz.prog 32 [.pa (aB x),Go.AM.T name,tyV q] [] (.pa (aB (sb x))) []):
  aU Tryz.prog 32 [.pa (aB (.mk f n nm t ks bs al)),Go.AM.T name,tyV q] [] (.pa (aB (gH ts sb (.mk f n nm1 t ks1 bs al)))) []:=by
 have ab:=a3q (.mk f n nm t ks bs al) hcs hT;have ab:aU Tryz.prog 74 [.pa (aB (.mk f n nm t ks bs al))] [] (.ma (eD f n nm t ks.length bs.length al.length)) (oHl ks bs al++fam 0 al):=ab;have O:TF (fam 0 al):=fT;refine bL (n:=84) tok Tryz.func32 rfl rfl rfl ?_;refine sg rfl (sk 1 rfl (kc ab ?_ (hout':=eJ.app ⟨.inr rfl,.inr rfl,.inr rfl,trivial⟩ (eJ.of fun p hp=>.inr ((show iM _ by repeat (first | exact iM.nil | (refine iM.updL ?_) | (refine iM.upd ?_))) p.1 (O.far p hp))))));rw[s6 O];refine ak 2 [(2,.id 700)] rfl (az (AWp.sub (st2:=mkt [(3,.one (.vp 3 0)),(4,.one (.vp 4 0)),(5,.one (.vp 5 0)),(6,.one (.vp 6 0)),(7,.one (.vp 700 0))] ([(3,.var 34 (b7 (.mk f n nm t ks bs al))),(4,.var 9 [.c (.str name)]),(5,.var 30 ((bH q).map R.c)),(6,.var 34 bI)]++gHl f n nm t ks bs al) (fam 0 al)) (slG gW (fun _ h=>by cases h) (by repeat (first | exact FarEq.bif O (FarEq.outs O) | (refine FarEq.updL O ?_) | (refine FarEq.upd O ?_)))) ?_));refine a8 (AWp.cut (mkt [(4,.one (.vp 4 0)),(5,.one (.vp 5 0)),(6,.one (.vp 6 0)),(7,.one (.vp 700 0))] ([(4,.var 9 [.c (.str name)]),(5,.var 30 ((bH q).map R.c)),(6,.var 34 bI)]++gHl f n nm1 t ks1 bs al) (fam 0 al)) ?_ ?_)
 ·refine sg rfl (aA rfl (fun hb=>?_) (fun hb=>?_))
  ·have hf:f=7:=θ (show decide (f=7)=true from hb);obtain⟨hne,rfl,rfl,tl,fr,hty,hin,hl,hfr,hcl⟩:=h7 hf;have hd:decide (nm=name)=false:=Ae hne;have hct:=bR tl name (by omega);rw[Af hin] at hct;refine a8 (skh 6 [(4,.bv false)] rfl (kcG hty ?_));refine ak 1 [(4,.bv false)] rfl (kcG hct ?_);refine ak 2 [(4,.bv false),(10,.bv false)] rfl (az (aA rfl nofun (fun _=>aD (aE mixed (ak 1 [] rfl (kc hfr ?_))))));refine kc hcl ?_;exact az (slG gW (fun _ h=>by cases h) (fun p hp=>by cases hp))
  ·have hf:f≠7:=Aa (show decide (f=7)=false from hb);obtain⟨rfl,rfl⟩:=hn7 hf;exact aD (slG gW (fun _ h=>by cases h) (by repeat (first | exact FarEq.raw O | (refine FarEq.updL O ?_) | (refine FarEq.upd O ?_))))
 have hbK:∀j,(mH (fun b:Bind=>tsB ts b) bs j).length=bs.length:=fun j=>nA
 have h1:∀u,(u=t∨∃b∈bs,u=b.ty)→aU Tryz.prog 79 ([tyV u]++[R.vp 4 0,R.vp 5 0].map V.one) [(4,.var 9 [.c (.str name)]),(5,.var 30 ((bH q).map R.c))] (tyV (ts u)) [(4,.var 9 [.c (.str name)]),(5,.var 30 ((bH q).map R.c))]:=fun u hu=>a6j name q u (ts u) (hts u hu)
 have ht:=h1 t (.inl rfl);have hbE:=kbE bs;obtain⟨ihk,ihb,iha,hkl',hbl,hal⟩:= @c6 f n nm t ks bs al;have hbl':bs.length≤570000000000:=by omega
 refine sg rfl (sk 3 rfl (kv (args:=[tyV t]) ht ?_));refine kz 2 rfl (a8 (sg rfl (aC ?_)));have hm0:mH (fun b:Bind=>tsB ts b) bs 0=bs:=mG;refine aO (fun i:Nat=>mkt [(4,.one (.vp 4 0)),(5,.one (.vp 5 0)),(6,.one (.vp 6 0)),(7,.one (.vp 700 0)),(8,.one (.clo 79 [.vp 4 0,.vp 5 0])),(42,I .i64 ((bs.length:Nat):Int)),(43,I .i64 i)] ([(4,.var 9 [.c (.str name)]),(5,.var 30 ((bH q).map R.c)),(6,.var 34 bI)]++gHl f n nm1 (ts t) ks1 (mH (fun b:Bind=>tsB ts b) bs i) al) (fam 0 al)) (fun i=>i≤bs.length) (fun i=>bs.length-i) 0 (Ak _) ?_ ?_
 ·rw[hm0];exact slG gW (fun _ h=>by cases h) (by repeat (first | exact FarEq.raw O | (refine FarEq.updL O ?_) | (refine FarEq.upd O ?_)))
 intro i hi;have hBl:=nA (g:=fun b:Bind=>tsB ts b) (bs:=bs) (j:=i);have hBe:=kbE (mH (fun b:Bind=>tsB ts b) bs i);refine sg rfl (a8 (aA rfl (fun hb=>?_) (fun hb=>?_)))
 ·have ah:i<bs.length:=by
   have:(i:Int)<(bs.length:Int):=θ hb;omega
  obtain⟨b,Y⟩:=aL ah;have hat:=c9 (yN (g:=fun b:Bind=>tsB ts b) Y);have aa:=oU (g:=fun b:Bind=>tsB ts b) Y;have hl2:=nA (g:=fun b:Bind=>tsB ts b) (bs:=bs) (j:=i+1);have hbt:=h1 b.ty (.inr ⟨b,δ Y,rfl⟩);rw[aa] at hl2;generalize mH (fun b:Bind=>tsB ts b) bs i=B at *;have hltB:i<B.length:=by omega
  refine aD (a8 (aC (sg rfl (aE mixed (ak 10 [(9,.row i (b8 b))] rfl (kv (args:=[tyV b.ty]) hbt ?_))))));refine ak 3 [(13,.row i (b8 b))] rfl (az (ag [] rfl ⟨i+1,ah,by dsimp only;omega,?_⟩));dsimp only;rw[aa];refine slG gW (fun _ h=>by cases h) (hh:=⟨⟨_,rfl,.var rfl⟩,⟨_,rfl,.var rfl⟩,⟨_,rfl,.var rfl⟩,⟨_,rfl,.varS ?_⟩,⟨_,rfl,.arrS ?_⟩,⟨_,rfl,.arr⟩,⟨_,rfl,.rarrS rfl⟩,trivial⟩)
  ·rw[Cd]
  ·exact jW B i (tsB ts b)
 refine aM ?_;have ai:bs.length≤i:=by
  have:¬(i:Int)<(bs.length:Int):=Aa hb;omega
 rw[yM ai] at hBl hBe ⊢;have hsbB:∀x∈bs.map (fun b:Bind=>tsB ts b),aU Tryz.prog 32 [.pa (aB x.body),Go.AM.T name,tyV q] [] (.pa (aB (sb x.body))) []:=fun x hx=>by
  obtain⟨b,hb,rfl⟩:=Ad.1 hx;exact ae b.body (.inr (.inl ⟨b,hb,rfl⟩))
 have eR:aB (gH ts sb (.mk f n nm1 t ks1 bs al))=aB (.mk f n nm1 (ts t) (ks1.map sb) ((bs.map fun b:Bind=>tsB ts b).map (sbB sb)) (al.map (sbA sb))):=by
  rw[Az];rfl
 rw[eR];have hB1l:(bs.map fun b:Bind=>tsB ts b).length≤570000000000:=by rw[ζ];exact hbl'
 clear hBl ai hb hbK hm0 ht h1 ab eR hbE;generalize (bs.map fun b:Bind=>tsB ts b)=B1 at *;generalize ts t=t1 at *;have hk1l:ks1.length≤570000000000:=by omega
 have hal':al.length≤570000000000:=by omega
 have hgr:=uI (decide (f=5)) f n nm1 t1 ks1 B1 al rfl (by omega) (by omega) (by omega) (fun a ha=>by
  have hav:=iL ha;have hvl:=sH a
  rw[aV] at hcs;omega)
 have ac:=o7 (f:=f) (n:=n) (s:=nm1) (t:=t1) (ks:=ks1) (bs:=B1) (al:=al) (decide (f=5)) al.length;rw[As] at ac;have hgl:(bY (decide (f=5)) ks1.length B1.length al.length al).length=1+al.length:=aX7;have hra:gfo f n nm1 t1 ks1 B1 al (R.refsL (bY (decide (f=5)) ks1.length B1.length al.length al).flatten):=by rw[dE];exact ac
 have aj:(bY (decide (f=5)) ks1.length B1.length al.length al)[0]?=some (qD (decide (f=5)) ks1.length B1.length):=aX9;have hgA:∀i a,al[i]?=some a→(bY (decide (f=5)) ks1.length B1.length al.length al)[i+1]?=some (mV al.length i a):=fun i a h=>aX8 h
 have am:∀k r,(bY (decide (f=5)) ks1.length B1.length al.length al)[k]?=some r→((bY (decide (f=5)) ks1.length B1.length al.length al).flatten.drop (k*2)).take 2=r:=eW aEp;generalize bY (decide (f=5)) ks1.length B1.length al.length al=G at hgr hgl hra aj hgA am;generalize decide (f=5)=b5 at aj;refine a8 (a8 (aE mixed (kc hgr ?_ (hin':=eJ.app ⟨rfl,rfl,rfl,rfl,trivial⟩ (FarEq.raw O).all) (hout':=eJ.of fun p hp=>.inl (Ad.2 ⟨p,hp,rfl⟩)) (hok:=oB O (fun x hx=>.inl (bO (show subset _ _=true from rfl) x hx)) s5))));refine kz 2 rfl (AWp.sub (Sub.outsT O) ?_);refine aC ?_;have W:∀K B A ex,∀x∈R.refsL G.flatten,Kn ex (gHm f n nm1 t1 ks1.length B1.length al.length K B A) (fam 0 al) x:=fun K B A ex=>Kn.gf hra
 refine aO (fun g:Nat=>mkt [(4,.one (.vp 4 0)),(5,.one (.vp 5 0)),(6,.one (.vp 6 0)),(7,.one (.vp 700 0)),(60,.one (.ras G.length 2 G.flatten)),(61,I .i64 ((G.length:Nat):Int)),(62,I .i64 g)] ([(4,.var 9 [.c (.str name)]),(5,.var 30 ((bH q).map R.c)),(6,.var 34 bI)]++gHm f n nm1 t1 ks1.length B1.length al.length (gK sb ks1 g) (gB sb B1 g) (gA sb al g)) (fam 0 al)) (fun g=>g≤G.length) (fun g=>G.length-g) 0 (Ak _) (slG (gWm rfl) (fun _ h=>by cases h) (FarEq.bif O (FarEq.outs O)) (h1:=Kn.app (Kn.of rfl) (Kn.app (Kn.of rfl) (Kn.app (Kn.of rfl) (Kn.app (Kn.of rfl) (Kn.app (W _ _ _ _) Kn.nil)))))) ?_;intro g hg;refine sg rfl (a8 (aA rfl (fun hb=>?_) (fun hb=>?_)))
 ·have ah:g<G.length:=by
   have:(g:Int)<(G.length:Int):=θ hb;omega
  refine aD ?_;cases g with
  | zero=>
   have ht0:=am 0 _ aj;have hpl:(pR ks1.length B1.length B1.length).length=ks1.length+B1.length:=aMy;have hpr0:gfo f n nm1 t1 ks1 B1 al (R.refsL (pR ks1.length B1.length B1.length).flatten):=by rw[dE];exact aQy _ _ _
   have ap:∀K B A ex,∀x∈R.refsL (pR ks1.length B1.length B1.length).flatten,Kn ex (gHm f n nm1 t1 ks1.length B1.length al.length K B A) (fam 0 al) x:=fun K B A ex=>Kn.gf hpr0
   have hpt:∀k r,(pR ks1.length B1.length B1.length)[k]?=some r→((pR ks1.length B1.length B1.length).flatten.drop (k*1)).take 1=r:=eW wC;have hp1:∀j,j<ks1.length→(pR ks1.length B1.length B1.length)[j]?=some [.ep 702 j 0 ks1.length]:=fun j h=>aM0 h
   have hp2:∀j,j<B1.length→(pR ks1.length B1.length B1.length)[ks1.length+j]?=some [.ep 701 j 5 B1.length]:=fun j h=>aMz h
   refine a8 (aC (sgh [(0,.rowR 0 (qD b5 ks1.length B1.length))] rfl (sg rfl (aC ?_))));have e0K:mH sb ks1 0=ks1:=mG;have e0B:mH (sbB sb) B1 (0-ks1.length)=B1:=by rw[Nat.zero_sub];exact mG
   refine aO (fun j:Nat=>mkt [(4,.one (.vp 4 0)),(5,.one (.vp 5 0)),(6,.one (.vp 6 0)),(7,.one (.vp 700 0)),(60,.one (.ras G.length 2 G.flatten)),(61,I .i64 ((G.length:Nat):Int)),(62,I .i64 (0:Nat)),(67,.one (.ras (pR ks1.length B1.length B1.length).length 1 (pR ks1.length B1.length B1.length).flatten)),(68,I .i64 (((pR ks1.length B1.length B1.length).length:Nat):Int)),(69,I .i64 j)] ([(4,.var 9 [.c (.str name)]),(5,.var 30 ((bH q).map R.c)),(6,.var 34 bI)]++gHm f n nm1 t1 ks1.length B1.length al.length (mH sb ks1 j) (mH (sbB sb) B1 (j-ks1.length)) al) (fam 0 al)) (fun j=>j≤(pR ks1.length B1.length B1.length).length) (fun j=>(pR ks1.length B1.length B1.length).length-j) 0 (Ak _) ?_ ?_
   ·rw[e0K,e0B];exact slG (gWm rfl) (fun _ h=>by cases h) (h1:=Kn.app (Kn.of rfl) (Kn.app (Kn.of rfl) (Kn.app (Kn.of rfl) (Kn.app (Kn.of rfl) (Kn.app (W _ _ _ _) (Kn.app Kn.nil (Kn.app Kn.nil (Kn.app (ap _ _ _ _) Kn.nil))))))))
   intro j hj;refine sg rfl (a8 (aA rfl (fun hb=>?_) (fun hb=>?_)))
   ·have aq:j<(pR ks1.length B1.length B1.length).length:=by
     have:(j:Int)<((pR ks1.length B1.length B1.length).length:Int):=θ hb;omega
    refine aD ?_;by_cases hjk:j<ks1.length
    ·obtain⟨k,ar⟩:=aL hjk;have hki':=iI (yN (g:=sb) ar);have aa:=oU (g:=sb) ar;have hc:=ae k (.inl (δ ar));have ht1:=hpt j _ (hp1 j hjk);have hle:=(nA (g:=sb) (bs:=ks1) (j:=j)).symm.trans (kcE (mH sb ks1 j));have au:j+1-ks1.length=j-ks1.length:=by omega
     have Z:=r3 (mH sb ks1 j) j (sb k);refine a8 (aC (sgh [(0,.rowR j [.ep 702 j 0 ks1.length])] rfl (aE mixed (ak 6 [(3,.row j (aB k))] rfl (kc hc ?_)))));refine ak 2 [(8,.row j (aB k))] rfl (az (ag [] rfl ⟨j+1,aq,by dsimp only;omega,?_⟩));dsimp only;rw[au,aa];exact slG (gWm rfl) (fun _ h=>by cases h) (h1:=Kn.app (Kn.of rfl) (Kn.app (Kn.of rfl) (Kn.app (Kn.of rfl) (Kn.app (Kn.of rfl) (Kn.app (W _ _ _ _) (Kn.app Kn.nil (Kn.app Kn.nil (Kn.app (ap _ _ _ _) Kn.nil)))))))) (hh:=⟨⟨_,rfl,.var rfl⟩,⟨_,rfl,.var rfl⟩,⟨_,rfl,.var rfl⟩,⟨_,rfl,.var rfl⟩,⟨_,rfl,.arr⟩,⟨_,rfl,.arrS Z⟩,⟨_,rfl,.rarrS rfl⟩,trivial⟩)
    ·obtain⟨J,rfl⟩:∃J,j=ks1.length+J:=⟨j-ks1.length,by omega⟩
     have hjb:J<B1.length:=by omega
     obtain⟨x,Y⟩:=aL hjb;have eK:∀J,mH sb ks1 (ks1.length+J)=ks1.map sb:=fun J=>yM (by omega)
     have e1:ks1.length+J-ks1.length=J:=by omega
     have e2:ks1.length+J+1-ks1.length=J+1:=by omega
     have hbi':=c9 (yN (g:=sbB sb) Y);have aa:=oU (g:=sbB sb) Y;have hc:=hsbB x (δ Y);have ht1:=hpt (ks1.length+J) _ (hp2 J hjb);have hle:=(nA (g:=sbB sb) (bs:=B1) (j:=J)).symm.trans (kbE (mH (sbB sb) B1 J));have Z:=jW (mH (sbB sb) B1 J) J (sbB sb x);rw[e1];refine a8 (aC (sgh [(0,.rowR (ks1.length+J) [.ep 701 J 5 B1.length])] rfl (aE mixed (ak 6 [(3,.row J (b8 x))] rfl (kc hc ?_)))));refine ak 2 [(8,.row J (b8 x))] rfl (az (ag [] rfl ⟨ks1.length+J+1,aq,by dsimp only;omega,?_⟩));dsimp only;rw[e2,aa,eK,Ci,eK];refine slG (gWm rfl) (fun _ h=>by cases h) (h1:=Kn.app (Kn.of rfl) (Kn.app (Kn.of rfl) (Kn.app (Kn.of rfl) (Kn.app (Kn.of rfl) (Kn.app (W _ _ _ _) (Kn.app Kn.nil (Kn.app Kn.nil (Kn.app (ap _ _ _ _) Kn.nil)))))))) (hh:=⟨⟨_,rfl,.var rfl⟩,⟨_,rfl,.var rfl⟩,⟨_,rfl,.var rfl⟩,⟨_,rfl,.var rfl⟩,⟨_,rfl,.arrS Z⟩,⟨_,rfl,.arr⟩,⟨_,rfl,.rarrS rfl⟩,trivial⟩)
   refine aM ?_;have ai:j=ks1.length+B1.length:=by
    have:¬(j:Int)<((pR ks1.length B1.length B1.length).length:Int):=Aa hb;omega
   have eK:mH sb ks1 j=ks1.map sb:=yM (by omega);have eB:mH (sbB sb) B1 (j-ks1.length)=B1.map (sbB sb):=yM (by omega);have eA:gA sb al 1=al:=mG;rw[eK,eB];refine ag [] rfl ⟨1,by omega,by dsimp only;omega,?_⟩;dsimp only;rw[eA];exact slG (gWm rfl) (fun _ h=>by cases h) (h1:=Kn.app (Kn.of rfl) (Kn.app (Kn.of rfl) (Kn.app (Kn.of rfl) (Kn.app (Kn.of rfl) (Kn.app (W _ _ _ _) Kn.nil)))))
  | succ i=>
   have hia:i<al.length:=by omega
   obtain⟨a,ad⟩:=aL hia;have ht0:=am (i+1) _ (hgA i a ad);have hf1:fam 0 (gA sb al (i+1))=fam 0 al:=aOn (i+1);have hf2:fam 0 (gA sb al (i+1+1))=fam 0 al:=aOn (i+1+1);have hrow:(aY 0 (gA sb al (i+1)))[i]?=some (dN i a):=by
    have:=nF (k:=0) (yN (g:=sbA sb) ad);rwa [Ba] at this
   have hle:al.length=(aY 0 (gA sb al (i+1))).length:=by rw[dY];exact(nA (g:=sbA sb)).symm
   have hc:=ae a.body (.inr (.inr ⟨a,δ ad,rfl⟩));have Z:aY 0 (gA sb al (i+1+1))=(aY 0 (gA sb al (i+1))).set i (dN i (sbA sb a)):=by
    show aY 0 (mH (sbA sb) al (i+1))=_;rw[oU ad,uM,Ba];rfl
   have z1:gK sb ks1 (i+1+1)=gK sb ks1 (i+1):=rfl;have z2:gB sb B1 (i+1+1)=gB sb B1 (i+1):=rfl;refine a8 (aC (sgh [(0,.rowR (i+1) (mV al.length i a))] rfl (sg rfl (aC (aO (fun j:Nat=>mkt [(4,.one (.vp 4 0)),(5,.one (.vp 5 0)),(6,.one (.vp 6 0)),(7,.one (.vp 700 0)),(60,.one (.ras G.length 2 G.flatten)),(61,I .i64 ((G.length:Nat):Int)),(62,I .i64 ((i+1:Nat):Int)),(67,.one (.ras 1 1 [.rp 703 i 4 al.length])),(68,I .i64 ((1:Nat):Int)),(69,I .i64 j)] ([(4,.var 9 [.c (.str name)]),(5,.var 30 ((bH q).map R.c)),(6,.var 34 bI)]++gHm f n nm1 t1 ks1.length B1.length al.length (gK sb ks1 (i+1)) (gB sb B1 (i+1)) (gA sb al (i+1+j))) (fam 0 al)) (fun j=>j≤1) (fun j=>1-j) 0 (Ak _) (slG (gWm hf1) (fun _ h=>by cases h) (h1:=Kn.app (Kn.of rfl) (Kn.app (Kn.of rfl) (Kn.app (Kn.of rfl) (Kn.app (Kn.of rfl) (Kn.app (W _ _ _ _) (Kn.of rfl))))))) ?_)))));intro j hj;refine sg rfl (a8 (aA rfl (fun hb=>?_) (fun hb=>?_)))
   ·have au:j=0:=by
     have:(j:Int)<((1:Nat):Int):=θ hb;omega
    subst au;refine aD (a8 (aC (sg rfl (aE mixed (ak 6 [(3,.rr (dN i a))] rfl (kc hc ?_))))));refine ak 2 [(8,.rr (dN i a))] rfl (az (ag [] rfl ⟨1,le_refl _,by dsimp only;omega,?_⟩));exact slG (gWm hf2) (fun _ h=>by cases h) (h1:=Kn.app (Kn.of rfl) (Kn.app (Kn.of rfl) (Kn.app (Kn.of rfl) (Kn.app (Kn.of rfl) (Kn.app (W _ _ _ _) (Kn.of rfl)))))) (hh:=⟨⟨_,rfl,.var rfl⟩,⟨_,rfl,.var rfl⟩,⟨_,rfl,.var rfl⟩,⟨_,rfl,.var rfl⟩,⟨_,rfl,.arr⟩,⟨_,rfl,.arr⟩,⟨_,rfl,.rarrS Z.symm⟩,trivial⟩)
   refine aM ?_;have hj1:j=1:=by
    have:¬(j:Int)<((1:Nat):Int):=Aa hb;omega
   subst hj1;refine ag [] rfl ⟨i+1+1,by omega,by dsimp only;omega,?_⟩;exact slG (gWm hf2) (fun _ h=>by cases h) (h1:=Kn.app (Kn.of rfl) (Kn.app (Kn.of rfl) (Kn.app (Kn.of rfl) (Kn.app (Kn.of rfl) (Kn.app (W _ _ _ _) Kn.nil)))))
 have hgs:g=al.length+1:=by
  have:¬(g:Int)<(G.length:Int):=Aa hb;omega
 subst hgs;refine aM ?_;have eA:gA sb al (al.length+1)=al.map (sbA sb):=aSj;have eF:fam 0 (al.map (sbA sb))=fam 0 al:=by rw[←eA];exact aOn _
 have lA:(al.map (sbA sb)).length=al.length:=ζ _;have lB:(B1.map (sbB sb)).length=B1.length:=ζ _;have lK:(ks1.map sb).length=ks1.length:=ζ _;rw[eA];have z1:gK sb ks1 (al.length+1)=ks1.map sb:=rfl;have z2:gB sb B1 (al.length+1)=B1.map (sbB sb):=rfl;rw[z1,z2];generalize al.map (sbA sb)=A2 at *;generalize B1.map (sbB sb)=B2 at *;generalize ks1.map sb=K2 at *;refine AWp.sub (aRn (f:=f) (n:=n) (nm:=nm1) (t:=t1) (ks:=K2) (bs:=B2) (al:=A2) (r:=6) (v:=7) rfl rfl (by rw[eF];repeat (first | exact FarEq.raw O | (refine FarEq.updL O ?_) | (refine FarEq.upd O ?_))) ⟨rfl,rfl,trivial⟩ ⟨⟨_,rfl,.varS (by rw[lK,lB,lA])⟩,⟨_,rfl,.arr⟩,⟨_,rfl,.arr⟩,⟨_,rfl,.rarrS rfl⟩,trivial⟩ ⟨_,rfl,.var rfl⟩ rfl (by decide)) ?_;exact sg rfl (aF (rtC trw))
mutual
def skT:Core→Core
 | .mk f n s _ ks bs al=>.mk f n (if f=7 then [] else s) zTy (aQv ks) (aI5 bs) (aQw al)
def aQv:List Core→List Core
 | []=>[]
 | c::l=>skT c::aQv l
def aI5:List Bind→List Bind
 | []=>[]
 | .mk s _ c::l=>.mk s zTy (skT c)::aI5 l
def aQw:List Alt→List Alt
 | []=>[]
 | .mk f n s vs c::l=>.mk f n s vs (skT c)::aQw l
end
def skB (b:Bind):Bind:=.mk b.name zTy (skT b.body)
def skA (a:Alt):Alt:=.mk a.form a.n a.name a.vars (skT a.body)
theorem oJ:∀l:List Core,aQv l=l.map skT
 | []=>rfl
 | c::l=>by rw[aQv,oJ l];rfl
theorem rJ:∀l:List Bind,aI5 l=l.map skB
 | []=>rfl
 | .mk s t c::l=>by rw[aI5,rJ l];rfl
theorem rK:∀l:List Alt,aQw l=l.map skA
 | []=>rfl
 | .mk f n s vs c::l=>by rw[aQw,rK l];rfl
mutual
def wfC:Core→Bool
 | .mk f _ _ _ ks bs al=>(!decide (f=5∨f=6∨f=7) || (ks.length==1&&bs.isEmpty&&al.isEmpty))&&(!decide (f=1) || (ks.isEmpty&&bs.isEmpty&&al.isEmpty))&&aQ4 ks&&aQ5 bs&&aQ6 al
def aQ4:List Core→Bool
 | []=>true
 | c::l=>wfC c&&aQ4 l
def aQ5:List Bind→Bool
 | []=>true
 | .mk _ _ c::l=>wfC c&&aQ5 l
def aQ6:List Alt→Bool
 | []=>true
 | .mk _ _ _ _ c::l=>wfC c&&aQ6 l
end
theorem xI:∀{l:List Core},aQ4 l=true↔∀x∈l,wfC x=true
 | []=>by simp[aQ4]
 | c::l=>by rw[aQ4,ε,xI (l:=l)];simp
theorem xJ:∀{l:List Bind},aQ5 l=true↔∀x∈l,wfC x.body=true
 | []=>by simp[aQ5]
 | .mk s t c::l=>by rw[aQ5,ε,xJ (l:=l)];simp[Bind.body]
theorem xK:∀{l:List Alt},aQ6 l=true↔∀x∈l,wfC x.body=true
 | []=>by simp[aQ6]
 | .mk f n s vs c::l=>by rw[aQ6,ε,xK (l:=l)];simp[Alt.body]
theorem aUc {f n:Int}{nm:Str}{t:Ty}{ks:List Core}{bs:List Bind}{al:List Alt}(h:wfC (.mk f n nm t ks bs al)=true):
  (f=5∨f=6∨f=7→(∃k,ks=[k])∧bs=[]∧al=[])∧(∀x∈ks,wfC x=true)∧(∀x∈bs,wfC x.body=true)∧(∀x∈al,wfC x.body=true):=by
 rw[wfC,ε,ε,ε,ε] at h;obtain⟨⟨⟨⟨h2,_⟩,h3⟩,h4⟩,h5⟩:=h;refine⟨fun hf=>?_,xI.1 h3,xJ.1 h4,xK.1 h5⟩;rw[Af hf] at h2;simp only[Bool.not_true,Bool.false_or,ε,beq_iff_eq,isEmpty_iff] at h2;exact⟨Bm.1 h2.1.1,h2.1.2,h2.2⟩
theorem aUd {f n:Int}{nm:Str}{t:Ty}{ks:List Core}{bs:List Bind}{al:List Alt}(h1:f=5∨f=6∨f=7→(∃k,ks=[k])∧bs=[]∧al=[]) (h0:f=1→ks=[]∧bs=[]∧al=[])
  (h3:∀x∈ks,wfC x=true) (h4:∀x∈bs,wfC x.body=true) (h5:∀x∈al,wfC x.body=true):wfC (.mk f n nm t ks bs al)=true:=by
 rw[wfC,ε,ε,ε,ε];refine⟨⟨⟨⟨?_,?_⟩,xI.2 h3⟩,xJ.2 h4⟩,xK.2 h5⟩
 ·by_cases hf:f=5∨f=6∨f=7
  ·obtain⟨⟨k,rfl⟩,rfl,rfl⟩:=h1 hf;simp
  ·rw[Ae hf];rfl
 ·by_cases hf:f=1
  ·obtain⟨rfl,rfl,rfl⟩:=h0 hf;simp
  ·rw[Ae hf];rfl
mutual
theorem pB:∀c:Core,wfC c=true→aK (skT c)=aK c
 | .mk f n s t ks bs al,hw=>by
  obtain⟨h1,h2,h3,h4⟩:=aUc hw;rw[skT,aK,aK,aB3 ks h2,aB4 bs h3,aB5 al h4,oJ,ζ];by_cases q:f=7
  ·obtain⟨⟨k,rfl⟩,_⟩:=h1 (.inr (.inr q));rw[ξ ⟨.inr q,by simp⟩,ξ ⟨.inr q,by simp⟩]
  ·rw[ψ q]
theorem aB3:∀l:List Core,(∀x∈l,wfC x=true)→cQ (aQv l)=cQ l
 | [],_=>rfl
 | c::l,h=>by rw[aQv,cQ,cQ,pB c (h c φ),aB3 l fun x hx=>h x (η _ hx)]
theorem aB4:∀l:List Bind,(∀x∈l,wfC x.body=true)→cR (aI5 l)=cR l
 | [],_=>rfl
 | .mk s t c::l,h=>by rw[aI5,cR,cR,lQ,lQ,pB c (h _ φ),aB4 l fun x hx=>h x (η _ hx)]
theorem aB5:∀l:List Alt,(∀x∈l,wfC x.body=true)→eT (aQw l)=eT l
 | [],_=>rfl
 | .mk f n s vs c::l,h=>by rw[aQw,eT,eT,eC,eC,pB c (h _ φ),aB5 l fun x hx=>h x (η _ hx)]
end
theorem vO:∀l:List Bind,(aI5 l).map Bind.name=l.map Bind.name
 | []=>rfl
 | .mk s t c::l=>by rw[aI5,Al,Al,vO l];rfl
theorem a50 (f:Int) (s:Str) (bs:List Bind):gvN f (if f=7 then [] else s) (aI5 bs)=gvN f s bs:=by
 unfold gvN;rw[vO];by_cases h5:f=5
 ·rw[ψ (show ¬f=7 by omega)]
 ·rw[ψ h5,ψ h5]
mutual
theorem aMp:∀c:Core,pfR (skT c)=pfR c
 | .mk f n s t ks bs al=>by
  rw[skT,pfR,pfR,a50,aUx _ ks,aUy _ bs,aUz al];by_cases h1:f=1
  ·rw[ξ h1,ξ h1,ψ (show ¬f=7 by omega)]
  ·rw[ψ h1,ψ h1]
theorem aUx (G:List Str):∀(l:List Core) (o:List Str),lU G (aQv l) o=lU G l o
 | [],_=>rfl
 | c::l,o=>by rw[aQv,lU,lU,aMp c,aUx G l]
theorem aUy (G:List Str):∀(l:List Bind) (o:List Str),oE G (aI5 l) o=oE G l o
 | [],_=>rfl
 | .mk s t c::l,o=>by rw[aI5,oE,oE,aMp c,aUy G l]
theorem aUz:∀(l:List Alt) (o:List Str),oP (aQw l) o=oP l o
 | [],_=>rfl
 | .mk f n s vs c::l,o=>by rw[aQw,oP,oP,aMp c,aUz l]
end
mutual
theorem aKo:∀c:Core,wfC (skT c)=wfC c
 | .mk f n s t ks bs al=>by
  rw[skT,wfC,wfC,aT8 ks,aT9 bs,aUa al,oJ,rJ,rK,ζ,List.isEmpty_map,List.isEmpty_map,List.isEmpty_map]
theorem aT8:∀l:List Core,aQ4 (aQv l)=aQ4 l
 | []=>rfl
 | c::l=>by rw[aQv,aQ4,aQ4,aKo c,aT8 l]
theorem aT9:∀l:List Bind,aQ5 (aI5 l)=aQ5 l
 | []=>rfl
 | .mk s t c::l=>by rw[aI5,aQ5,aQ5,aKo c,aT9 l]
theorem aUa:∀l:List Alt,aQ6 (aQw l)=aQ6 l
 | []=>rfl
 | .mk f n s vs c::l=>by rw[aQw,aQ6,aQ6,aKo c,aUa l]
end
theorem aLq {ts:Ty→Ty}{sb:Core→Core}{f n:Int}{nm nm1:Str}{t:Ty}{ks ks1:List Core}{bs:List Bind}{al:List Alt}(hn:f≠7→nm1=nm) (hk:ks1.map skT=ks.map skT)
  (h1:∀x∈ks1,skT (sb x)=skT x) (h2:∀b∈bs,skT (sb b.body)=skT b.body) (h3:∀a∈al,skT (sb a.body)=skT a.body):
  skT (gH ts sb (.mk f n nm1 t ks1 bs al))=skT (.mk f n nm t ks bs al):=by
 rw[gH,skT,skT,oJ,oJ,rJ,rJ,rK,rK,Az,Az,Az];have I:ks1.map (skT∘sb)=ks.map skT:=by rw[←hk];exact Aw h1
 have J:bs.map (skB∘fun b=>Bind.mk b.name (ts b.ty) (sb b.body))=bs.map skB:=Aw fun b hb=>by
  show Bind.mk b.name zTy (skT (sb b.body))=_;rw[h2 b hb];rfl
 have O:al.map (skA∘fun a=>Alt.mk a.form a.n a.name a.vars (sb a.body))=al.map skA:=Aw fun a ha=>by
  show Alt.mk a.form a.n a.name a.vars (skT (sb a.body))=_;rw[h3 a ha];rfl
 rw[I,J,O];by_cases q:f=7
 ·rw[ξ q,ξ q]
 ·rw[ψ q,ψ q,hn q]
theorem aHn {g:Core→Core}:∀{l:List Core},(∀x∈l,m30 (g x)≤m30 x)→bV (l.map g)≤bV l
 | [],_=>le_refl _
 | c::l,h=>by
  rw[Al,bV,bV];have:=h c φ;have:=aHn (l:=l) fun x hx=>h x (η _ hx)
  omega
theorem aHq {ts:Ty→Ty}{g:Core→Core}:∀{l:List Bind},(∀x∈l,m30 (g x.body)≤m30 x.body)→eU (l.map fun b=>.mk b.name (ts b.ty) (g b.body))≤eU l
 | [],_=>le_refl _
 | .mk s t c::l,h=>by
  rw[Al,eU,eU];have h1:=h _ φ;have h2:=aHq (ts:=ts) (l:=l) fun x hx=>h x (η _ hx)
  simp only[Bind.body,Bind.name] at h1 h2 ⊢;omega
theorem aHr {g:Core→Core}:∀{l:List Alt},(∀x∈l,m30 (g x.body)≤m30 x.body)→fQ (l.map fun a=>.mk a.form a.n a.name a.vars (g a.body))≤fQ l
 | [],_=>le_refl _
 | .mk f n s vs c::l,h=>by
  rw[Al,fQ,fQ];have h1:=h _ φ;have h2:=aHr (l:=l) fun x hx=>h x (η _ hx)
  simp only[Alt.body,Alt.name,Alt.vars] at h1 h2 ⊢;omega
theorem aN5 {ts:Ty→Ty}{sb:Core→Core}{f n:Int}{nm nm1:Str}{t:Ty}{ks ks1:List Core}{bs:List Bind}{al:List Alt}(hn:w30 nm1≤w30 nm) (hk:bV ks1≤bV ks)
  (h1:∀x∈ks1,m30 (sb x)≤m30 x) (h2:∀b∈bs,m30 (sb b.body)≤m30 b.body) (h3:∀a∈al,m30 (sb a.body)≤m30 a.body):
  m30 (gH ts sb (.mk f n nm1 t ks1 bs al))≤m30 (.mk f n nm t ks bs al):=by
 rw[gH,m30,m30];have:=aHn h1;have:=aHq (ts:=ts) h2;have:=aHr h3;omega
noncomputable def nE (sb:Core→Str→Core→Core) (s:Str) (b:Core):Core→Core
 | .mk f n nm t ks bs al=>.mk f n (zNm sb f nm s b ks bs 1) t (zKs sb f nm s b ks bs 1) (zBs sb f nm s b ks bs 1) (al.map (jM sb s b))
theorem wU (f n:Int) (nm:Str) (t:Ty) (ks:List Core) (bs:List Bind) (al:List Alt) (s:Str) (b:Core) (I:f=1∧nm=s) (J:LC b) (O:allT TyG b):
  aU Tryz.prog 99 [.pa (aB (.mk f n nm t ks bs al)),Go.AM.T s,.pa (aB b)] [] (.pa (aB b)) []:=by
 have q:=aIk (aV b) b (le_refl _) J O;have q:aU Tryz.prog 74 [.pa (aB b)] [] (.pa (aB b)) []:=q;have Y:decide (f=1)=true:=Af I.1;have W:decide (nm=s)=true:=Af I.2;refine bL (n:=47) tok Tryz.func99 rfl rfl rfl ?_;refine sg rfl (a8 (sgh [(3,.bv true),(8,.bv true)] rfl (aA rfl (fun _=>?_) (fun hb=>?_))))
 ·refine sk 1 rfl (kc q ?_);exact kz 1 rfl (aF (rtC trw))
 ·exact absurd (show decide (nm=s)=false from hb) (by rw[W];decide)
theorem uG (sb:Core→Str→Core→Core) (P:Core→Prop) (f n:Int) (nm0 nm:Str) (t:Ty) (J ks:List Core) (bs:List Bind) (al:List Alt) (s:Str) (b:Core)
  (hcs:LC (.mk f n nm0 t J bs al)) (hT:allT TyG (.mk f n nm0 t J bs al)) (hv:¬(f=1∧nm0=s)) (hkl0:ks.length=J.length)
  (w2:f=5→(∃k,ks=[k])∧bs=[]∧al=[])
  (h7:f=7→bs=[]∧al=[]∧∃fl:List Str,aU Tryz.prog 133 [.pa (aB (.mk f n nm0 t J bs al))] [] (bK fl) []∧fl.length≤540000000000∧
   (s∈fl→∃tl:List Str,aU Tryz.prog 76 [.pa (aB b)] [] (bK tl) []∧aU Tryz.prog 77 [.one (.vp 700 0),bK tl] (gHl f n nm0 t J [] []) (.tup []) (gHl f n nm t ks [] []))∧
   (¬s∈fl→nm=nm0∧ks=J))
  (hn7:f≠7→nm=nm0∧ks=J)
  (hok:PutOk sb P s b (ks++bs.map Bind.body)) (hokA:∀a∈al,PutOk sb P s b [a.body])
  (hM:((ks++bs.map Bind.body).flatMap pfR).length+2*(1+bs.length)+(pfR b).length+(ks.length+bs.length)≤540000000000)
  (hMA:∀a∈al,(pfR a.body).length+2*a.vars.length+(pfR b).length+1≤540000000000):
  aU Tryz.prog 99 [.pa (aB (.mk f n nm0 t J bs al)),Go.AM.T s,.pa (aB b)] [] (.pa (aB (nE sb s b (.mk f n nm t ks bs al)))) []:=by
 have au:=aPg _ hcs hT;have au:aU Tryz.prog 74 [.pa (aB (.mk f n nm0 t J bs al))] [] (.ma (eD f n nm0 t J.length bs.length al.length)) (oHl J bs al++fam 0 al):=au;refine bL (n:=47) tok Tryz.func99 rfl rfl rfl ?_;refine sg rfl (a8 (AWp.cut (mk [(1,Go.AM.T s),(3,.one (.vp 3 0)),(5,.one (.vp 5 0)),(6,.one (.vp 6 0))] [(3,.var 34 (b7 (.mk f n nm0 t J bs al))),(5,.var 34 (b7 b)),(6,.var 34 bI)]) ?_ ?_))
 ·by_cases av:f=1
  ·have hd1:decide (f=1)=true:=Af av;have hd2:decide (nm0=s)=false:=Ae fun h=>hv ⟨av,h⟩
   exact sgh [(3,.bv true),(8,.bv true)] rfl (aA rfl (fun hb=>absurd (show decide (nm0=s)=true from hb) (by rw[hd2];decide)) (fun _=>aD sl))
  ·have hd1:decide (f=1)=false:=Ae av;exact sgh [(3,.bv false),(8,.bv false)] rfl (aA rfl nofun (fun _=>aD sl))
 have O:TF (fam 0 al):=fT;refine sk 1 rfl (kc au ?_ (hout':=eJ.app ⟨.inr rfl,.inr rfl,.inr rfl,trivial⟩ (eJ.of fun p hp=>.inr ((show iM _ by repeat (first | exact iM.nil | (refine iM.updL ?_) | (refine iM.upd ?_))) p.1 (O.far p hp)))));rw[s6 O];refine ak 2 [(2,.id 700)] rfl (az (AWp.sub (st2:=mkt [(1,Go.AM.T s),(3,.one (.vp 3 0)),(5,.one (.vp 5 0)),(6,.one (.vp 6 0)),(7,.one (.vp 700 0))] ([(3,.var 34 (b7 (.mk f n nm0 t J bs al))),(5,.var 34 (b7 b)),(6,.var 34 bI)]++gHl f n nm0 t J bs al) (fam 0 al)) (slG gW (fun _ h=>by cases h) (by repeat (first | exact FarEq.bif O (FarEq.outs O) | (refine FarEq.updL O ?_) | (refine FarEq.upd O ?_)))) ?_));refine a8 (AWp.cut (mkt [(1,Go.AM.T s),(3,.one (.vp 3 0)),(5,.one (.vp 5 0)),(6,.one (.vp 6 0)),(7,.one (.vp 700 0))] ([(3,.var 34 (b7 (.mk f n nm0 t J bs al))),(5,.var 34 (b7 b)),(6,.var 34 bI)]++gHl f n nm t ks bs al) (fam 0 al)) ?_ ?_)
 ·by_cases ai:f=7
  ·have hd7:decide (f=7)=true:=Af ai;obtain⟨rfl,rfl,fl,hfr,hfl,hy,hn⟩:=h7 ai;have aj:=bR fl s (by omega);refine skh 5 [(3,.bv true)] rfl (kcG hfr ?_);refine ak 1 [(3,.bv true)] rfl ?_;by_cases hin:s∈fl
   ·rw[Af hin] at aj;obtain⟨tl,hty,hcl⟩:=hy hin;refine kcG aj ?_;refine ak 1 [(3,.bv true),(8,.bv true)] rfl (az (aA rfl (fun _=>aE mixed (ak 1 [] rfl (kc hty ?_))) nofun));refine kc hcl ?_;exact az (slG gW (fun _ h=>by cases h) (fun p hp=>by cases hp))
   ·rw[Ae hin] at aj;obtain⟨rfl,rfl⟩:=hn hin;refine kcG aj ?_;exact ak 1 [(3,.bv true),(8,.bv true)] rfl (az (aA rfl nofun (fun _=>aD (slG gW (fun _ h=>by cases h) (fun p hp=>by cases hp)))))
  ·have hd7:decide (f=7)=false:=Ae ai;obtain⟨rfl,rfl⟩:=hn7 ai;refine sgh [(3,.bv false),(8,.bv false)] rfl (aA rfl nofun (fun _=>?_));exact aD (slG gW (fun _ h=>by cases h) (by repeat (first | exact FarEq.raw O | (refine FarEq.updL O ?_) | (refine FarEq.upd O ?_))))
 have hR:=rN (sb:=sb) (s:=s) (b:=b) (ns:=gvN f nm bs) (ps:=ks++bs.map Bind.body);have hN1:∀g,(zKs sb f nm s b ks bs g).length=ks.length:=fun g=>by
  cases g with
  | zero=>rfl
  | succ g=>show(List.take _ _).length=_;rw[At,hR.2,Ab];omega
 have aw:(bs.map Bind.ty).length=bs.length:=ζ _;have hN2:∀g,(zBs sb f nm s b ks bs g).length=bs.length:=fun g=>by
  cases g with
  | zero=>rfl
  | succ g=>
   show(mkB _ _ _).length=_;by_cases ab:f=5
   ·obtain⟨_,rfl,_⟩:=w2 ab;rfl
   ·rw[tY,aw]
    ·rw[hR.1];unfold gvN;rw[ψ ab];simp
    ·rw[B5,hR.2,Ab];simp
 have ax:∀g,(zAs sb s b al g).length=al.length:=fun g=>by
  cases g with
  | zero=>rfl
  | succ g=>exact zU
 obtain⟨l1,l2,l3⟩:(J.length+bs.length+1≤570000000000)∧(al.length+1≤570000000000)∧(∀a∈al,a.vars.length≤570000000000):=by
  cases hcs with
  | mk h1 h2 h3 _ _ _=>exact⟨h1,h2,h3⟩
 have hgr:=uI (decide (f=5)) f n nm t ks bs al rfl (by omega) (by omega) (by omega) fun a ha=>by have:=l3 a ha;omega
 have am:=o7 (f:=f) (n:=n) (s:=nm) (t:=t) (ks:=ks) (bs:=bs) (al:=al) (decide (f=5)) al.length;rw[As] at am;have hgl:(bY (decide (f=5)) ks.length bs.length al.length al).length=1+al.length:=aX7;have hra:gfo f n nm t ks bs al (R.refsL (bY (decide (f=5)) ks.length bs.length al.length al).flatten):=by rw[dE];exact am
 have ay:(bY (decide (f=5)) ks.length bs.length al.length al)[0]?=some (qD (decide (f=5)) ks.length bs.length):=aX9;have hgA:∀i a,al[i]?=some a→(bY (decide (f=5)) ks.length bs.length al.length al)[i+1]?=some (mV al.length i a):=fun i a h=>aX8 h
 have aG:∀k r,(bY (decide (f=5)) ks.length bs.length al.length al)[k]?=some r→((bY (decide (f=5)) ks.length bs.length al.length al).flatten.drop (k*2)).take 2=r:=eW aEp;generalize bY (decide (f=5)) ks.length bs.length al.length al=G at hgr hgl hra ay hgA aG;refine a8 (a8 (aE mixed (kc hgr ?_ (hin':=eJ.app ⟨rfl,rfl,rfl,rfl,trivial⟩ (FarEq.raw O).all) (hout':=eJ.of fun p hp=>.inl (Ad.2 ⟨p,hp,rfl⟩)) (hok:=oB O (fun x hx=>.inl (bO (show subset _ _=true from rfl) x hx)) s5))));refine kz 2 rfl (AWp.sub (Sub.outsT O) ?_);refine aC ?_;have ap:∀g ex,∀x∈R.refsL G.flatten,Kn ex (gHl f n (zNm sb f nm s b ks bs g) t (zKs sb f nm s b ks bs g) (zBs sb f nm s b ks bs g) (zAs sb s b al g)) (fam 0 (zAs sb s b al g)) x:=fun g ex x hx=>by
  rcases hra x hx with h | h
  ·exact .inr (.inl (by simpa [gHl,keys] using h))
  ·exact .inr (.inr (by rw[z6 (ax g)];exact h))
 have hTF:∀g,TF (fam 0 (zAs sb s b al g)):=fun g=>fT
 refine aO (fun g:Nat=>mkt [(1,Go.AM.T s),(5,.one (.vp 5 0)),(6,.one (.vp 6 0)),(7,.one (.vp 700 0)),(35,.one (.ras G.length 2 G.flatten)),(36,I .i64 ((G.length:Nat):Int)),(37,I .i64 g)] ([(5,.var 34 (b7 b)),(6,.var 34 bI)]++gHl f n (zNm sb f nm s b ks bs g) t (zKs sb f nm s b ks bs g) (zBs sb f nm s b ks bs g) (zAs sb s b al g)) (fam 0 (zAs sb s b al g))) (fun g=>g≤G.length) (fun g=>G.length-g) 0 (Ak _) (slG gW (fun _ h=>by cases h) (FarEq.bif O (FarEq.outs O)) (h1:=Kn.app Kn.nil (Kn.app (Kn.of rfl) (Kn.app (Kn.of rfl) (Kn.app (Kn.of rfl) (Kn.app (ap 0 _) Kn.nil)))))) ?_;intro g hg;have Z:=hTF g;refine sg rfl (a8 (aA rfl (fun hb=>?_) (fun hb=>?_)))
 ·have hlt:g<G.length:=by
   have:(g:Int)<(G.length:Int):=θ hb;omega
  refine aD ?_;cases g with
  | zero=>
   have aq:=aG 0 _ ay;by_cases ab:f=5
   ·have hd5:decide (f=5)=true:=Af ab;obtain⟨⟨x,rfl⟩,rfl,rfl⟩:=w2 ab;subst ab;have hM':=hM;simp only[Bj,A8,Cg,C3,Am,length_nil] at hM';obtain⟨x',q,hq,W⟩:=a3k n t nm x s b sb _ hok (by omega);have ae:gvN 5 nm []=[nm]:=rfl;have e1:zNm sb 5 nm s b [x] [] 1=x':=by
     show(if(5:Int)=5 then(cO sb s b (gvN 5 nm []) ([x]++[].map Bind.body)).1.headD nm else nm)=x';rw[ξ rfl,ae];show(cO sb s b [nm] [x]).1.headD nm=x';rw[hq];rfl
    have e2:zKs sb 5 nm s b [x] [] 1=[q]:=by
     show(cO sb s b (gvN 5 nm []) ([x]++[].map Bind.body)).2.take 1=[q];rw[ae];show(cO sb s b [nm] [x]).2.take 1=[q];rw[hq];rfl
    have e3:zBs sb 5 nm s b [x] [] 1=[]:=rfl;have e4:zAs sb s b [] 1=[]:=rfl;refine a8 (aC (sgh [(0,.rowR 0 (qD true 1 0))] rfl (aE mixed (ak 3 [] rfl (kc W ?_)))));refine az (ag [] rfl ⟨1,hlt,by dsimp only;omega,?_⟩);have ac:=ap 1;rw[e1,e2,e3,e4] at ac;dsimp only;rw[e1,e2,e3,e4];exact slG gW (fun _ h=>by cases h) (fun p hp=>by cases hp) (h1:=Kn.app Kn.nil (Kn.app (Kn.of rfl) (Kn.app (Kn.of rfl) (Kn.app (Kn.of rfl) (Kn.app (ac _) Kn.nil)))))
   ·have hd5:decide (f=5)=false:=Ae ab;have ae:gvN f nm bs=bs.map Bind.name:=by unfold gvN;rw[ψ ab];rfl
    have W:=a3j (bs.map Bind.ty) ks.length (bs.map Bind.name) (ks++bs.map Bind.body) s b sb _ (by simp) (by simp) hok (by simp only[ζ,Ab];omega);have eH:tH (bs.map Bind.ty) ks.length (bs.map Bind.name) (ks++bs.map Bind.body)=[(701,.arr 69 15 (aT bs) 0),(702,.arr 34 10 (aR ks) 0)]:=by
     unfold tH;rw[drop_left,take_left,aBl]
    rw[eH,aw] at W;have hr0:qD (decide (f=5)) ks.length bs.length=[.ras (tN bs.length).length 1 (tN bs.length),.ras (tP ks.length bs.length).length 1 (tP ks.length bs.length)]:=a58 hd5;rw[hr0] at ay aq;have eB:aT (zBs sb f nm s b ks bs 1)=aT (mkB (bs.map Bind.ty) (cO sb s b (bs.map Bind.name) (ks++bs.map Bind.body)).1 ((cO sb s b (bs.map Bind.name) (ks++bs.map Bind.body)).2.drop ks.length)):=by
     show aT (mkB _ _ _)=_;rw[ae]
    have eK:aR (zKs sb f nm s b ks bs 1)=aR ((cO sb s b (bs.map Bind.name) (ks++bs.map Bind.body)).2.take ks.length):=by
     show aR (List.take _ _)=_;rw[ae]
    have eN:zNm sb f nm s b ks bs 1=nm:=by show(if f=5 then _ else nm)=nm;rw[ψ ab]
    have eA:zAs sb s b al 1=al:=aP7;have l1:=hN1 1;have l2:=hN2 1;refine a8 (aC (sgh [(0,.rowR 0 [.ras (tN bs.length).length 1 (tN bs.length),.ras (tP ks.length bs.length).length 1 (tP ks.length bs.length)])] rfl (aE mixed (ak 3 [] rfl (kc W ?_ (hok:=?_))))));refine az (ag [] rfl ⟨1,hlt,by dsimp only;omega,?_⟩);have ac:=ap 1;dsimp only;rw[eN,eA] at ac ⊢;refine slG gW (fun _ h=>by cases h) (by repeat (first | exact FarEq.raw O | (refine FarEq.updL O ?_) | (refine FarEq.upd O ?_))) (h1:=Kn.app Kn.nil (Kn.app (Kn.of rfl) (Kn.app (Kn.of rfl) (Kn.app (Kn.of rfl) (Kn.app (ac _) Kn.nil))))) (hh:=⟨⟨_,rfl,.varS rfl⟩,⟨_,rfl,.varS rfl⟩,⟨_,rfl,.varS ?_⟩,⟨_,rfl,.arrS ?_⟩,⟨_,rfl,.arrS ?_⟩,⟨_,rfl,.rarrS rfl⟩,trivial⟩)
    ·rw[l1,l2];rfl
    ·exact eB.symm
    ·exact eK.symm
    ·refine oB (F:=[]) ⟨fun _ h=>(by cases h),nodup_nil,fun _ h=>(by cases h)⟩ (fun x hx=>.inl ?_) (fun x hx=>by cases hx);have hx:x∈(grO (tN bs.length) (tP ks.length bs.length)).refs:=by simpa [grO,gpV,AObj.refs,V.refsL,V.refs,R.refsL,R.refs] using hx
     rcases aDx x hx with rfl | rfl
     ·simp[keys]
     ·simp[keys]
  | succ i=>
   have hia:i<al.length:=by omega
   obtain⟨a,ar⟩:=aL hia;have aq:=aG (i+1) _ (hgA i a ar);have hm:=δ ar;have hok:=hokA a hm;have hMa:=hMA a hm;have hz1:zAs sb s b al (i+1)=uN sb s b al i:=rfl;have hz2:zAs sb s b al (i+1+1)=(uN sb s b al i).set i (jM sb s b a):=aP8 ar;have hz3:zNm sb f nm s b ks bs (i+1+1)=zNm sb f nm s b ks bs (i+1):=rfl;have hz4:zKs sb f nm s b ks bs (i+1+1)=zKs sb f nm s b ks bs (i+1):=rfl;have hz5:zBs sb f nm s b ks bs (i+1+1)=zBs sb f nm s b ks bs (i+1):=rfl;obtain⟨q,hq,W⟩:=aY1 (uN sb s b al i) i a (aZo ar) s b sb _ hok (by omega) (vR i a.vars.length a.vars.length).length (gU _ _) al.length zU.symm;have hnew:(Alt.mk a.form a.n a.name (cO sb s b a.vars [a.body]).1 q)=jM sb s b a:=by unfold jM;rw[hq];rfl
   rw[hnew] at W;have hvl:(vR i a.vars.length a.vars.length).length=a.vars.length:=gU _ _;have ah:=ap (i+1+1);have ad:=hTF (i+1+1);have hA3:=ax (i+1+1);rw[hz2] at ah ad hA3;rw[hz3,hz4,hz5] at ah;have hA4:(uN sb s b al i).length=al.length:=zU;generalize hNm:zNm sb f nm s b ks bs (i+1)=nm1 at *;generalize hKs:zKs sb f nm s b ks bs (i+1)=ks1 at *;generalize hBs:zBs sb f nm s b ks bs (i+1)=aa at *;rw[hz1] at Z ⊢;have halR:mV al.length i a=[.ras (vR i a.vars.length a.vars.length).length 1 (vR i a.vars.length a.vars.length).flatten,.ras 1 1 [.rp 703 i 4 al.length]]:=rfl;rw[halR] at aq;rw[hvl] at aq W;refine a8 (aC (sgh [(0,.rowR (i+1) [.ras a.vars.length 1 (vR i a.vars.length a.vars.length).flatten,.ras 1 1 [.rp 703 i 4 al.length]])] rfl (aE mixed (ak 3 [] rfl (kc W ?_ (hin':=⟨rfl,FarEq.all (by repeat (first | exact FarEq.raw Z | (refine FarEq.updL Z ?_) | (refine FarEq.upd Z ?_)))⟩) (hout':=?_) (hok:=?_))))))
   ·have hcons:∀(o:AObj) (F:List (Nat×AObj)),((703,o)::F)=[(703,o)]++F:=fun _ _=>rfl
    rw[hcons,s6 ad];refine az (ag [] rfl ⟨i+1+1,by omega,by dsimp only;omega,?_⟩);dsimp only;rw[hz2,hz3,hz4,hz5];refine slG gW (fun _ h=>by cases h) (FarEq.bif ad (FarEq.outs ad)) (h1:=Kn.app Kn.nil (Kn.app (Kn.of rfl) (Kn.app (Kn.of rfl) (Kn.app (Kn.of rfl) (Kn.app (ah _) Kn.nil))))) (hh:=⟨⟨_,rfl,.varS rfl⟩,⟨_,rfl,.varS rfl⟩,⟨_,rfl,.varS ?_⟩,⟨_,rfl,.arr⟩,⟨_,rfl,.arr⟩,⟨_,rfl,.rarrS rfl⟩,trivial⟩);rw[hA3,hA4]
   ·refine eJ.of fun p hp=>.inl ?_
    have hp1:p.1∈keys ((703,AObj.rarr 71 14 (aY 0 ((uN sb s b al i).set i (jM sb s b a))))::fam 0 ((uN sb s b al i).set i (jM sb s b a))):=Ad.2 ⟨p,hp,rfl⟩;show p.1∈703::keys (fam 0 (uN sb s b al i));rw[z6 (m:=(uN sb s b al i).set i (jM sb s b a)) (by rw[Cd])];exact hp1
   ·refine oB (hl:=[(703,.rarr 71 14 (aY 0 (uN sb s b al i)))]) Z (fun x hx=>?_) (fun x hx=>.inr (cZ x (by simpa [dO,AObj.refs] using hx)));have hx:x∈R.refsL (vR i a.vars.length a.vars.length).flatten++[703]:=by simpa [V.refsL,V.refs,R.refsL,R.refs] using hx
    rcases χ.1 hx with hx | hx
    ·rw[dE] at hx;have:=mY (L:=fun x=>x=i+800) (fun j x hx=>by simpa [R.refsL,R.refs] using hx) _ x hx;rw[this];have hk:=aO0 (l:=uN sb s b al i) (k:=0) (i:=i) (by omega);rw[Ba] at hk;exact .inr hk
    ·rw[κ.1 hx];exact .inl (by simp[keys])
 have hge:g=1+al.length:=by
  have:¬(g:Int)<(G.length:Int):=Aa hb;omega
 have hgs:g=al.length+1:=by omega
 subst hgs;clear hge hb;have e:nE sb s b (.mk f n nm t ks bs al)=.mk f n (zNm sb f nm s b ks bs (al.length+1)) t (zKs sb f nm s b ks bs (al.length+1)) (zBs sb f nm s b ks bs (al.length+1)) (zAs sb s b al (al.length+1)):=by
  rw[nE];show _=Core.mk _ _ _ _ _ _ (uN sb s b al al.length);rw[aTx];rfl
 rw[e];have m1:=hN1 (al.length+1);have m2:=hN2 (al.length+1);have m3:=ax (al.length+1);generalize zNm sb f nm s b ks bs (al.length+1)=nm1 at *;generalize zKs sb f nm s b ks bs (al.length+1)=ks1 at *;generalize zBs sb f nm s b ks bs (al.length+1)=aa at *;generalize zAs sb s b al (al.length+1)=Y at *;refine aM (AWp.sub (st2:=mkt [(6,.one (.vp 6 0)),(7,.one (.vp 700 0))] (oHl ks1 aa Y++[(700,.var 34 (eD f n nm1 t ks1.length aa.length Y.length)),(6,.var 34 bI)]) (fam 0 Y)) (slT Z (by repeat (first | exact FarEq.raw Z | (refine FarEq.updL Z ?_) | (refine FarEq.upd Z ?_))) (fun x hx=>.inl (bO (show subset _ _=true from rfl) x hx)) (fun x hx=>?_) (fun _ h=>by cases h)) ?_)
 ·rw[jA] at hx;rcases χ.1 hx with hx | hx
  ·exact .inr (cZ x (by simpa [oHl,dO,AObj.refs] using hx))
  ·refine .inl ?_;have hx:x=702∨x=701∨x=703:=by simpa [dO,AObj.refs,eD,bI,R.refsL,R.refs] using hx
   rcases hx with rfl | rfl | rfl<;>simp[oHl,keys]
 refine AWp.sub (pV (by simp[keys]) (Kn.of rfl) ⟨Kn.of rfl,Kn.of rfl,trivial⟩ (fun _ h=>by cases h) rfl rfl (by simp) (fun p hp=>by
  rcases Ah.1 hp with rfl | hp
  ·rfl
  ·rw[κ.1 hp];rfl)) ?_
 have e1:fzH 703 (.ra Y.length 14 (aY 0 Y).flatten) ([(701,.arr 69 15 (aT aa) 2),(702,.arr 34 10 (aR ks1) 2)]++[(700,.var 34 (eD f n nm1 t ks1.length aa.length Y.length)),(6,.var 34 bI)])
   =[(701,.arr 69 15 (aT aa) 2),(702,.arr 34 10 (aR ks1) 2),(700,.var 34 (jY f n nm1 t ks1.length aa.length Y)),(6,.var 34 bI)]:=by
  unfold eD jY;show [(701,_),(702,_),(700,AObj.var _ (R.fzL _ _ _)),(6,AObj.var _ (R.fzL _ _ _))]=_;simp only[R.fzL,R.fz,Cb,Ct,Bool.and_self];rfl
 rw[e1];have hFz:TF (yX (fam 0 Y)):=Z.frz;obtain⟨ids,hp⟩:=tI (h:=(mkt [] [(701,.arr 69 15 (aT aa) 2),(702,.arr 34 10 (aR ks1) 2),(700,.var 34 (jY f n nm1 t ks1.length aa.length Y)),(6,.var 34 bI)] (yX (fam 0 Y))).h) (f:=f) (n:=n) (s:=nm1) (t:=t) (ks:=ks1) (bs:=aa) (al:=Y) rfl rfl (FarEq.mkt hFz rfl);refine AWp.sub (Sub.varPure (x:=700) rfl hp) ?_;exact sg rfl (aF (rtC trw))
theorem aPa (f n:Int) (nm:Str) (t:Ty) (ks:List Core) (bs:List Bind) (al:List Alt) (s:Str) (b:Core) (J:f=1∧nm=s) (q:aV b≤570000000000) (I:allT TyG b):
  aU Tryz.prog 99 [.pa (aB (.mk f n nm t ks bs al)),Go.AM.T s,.pa (aB b)] [] (.pa (aB b)) []:=
 wU f n nm t ks bs al s b J (LC.of _ b (le_refl _) q) I
theorem qH (sb:Core→Str→Core→Core) (P:Core→Prop) (f n:Int) (nm0 nm:Str) (t:Ty) (q ks:List Core) (bs:List Bind) (al:List Alt) (s:Str) (b:Core)
  (O:aV (.mk f n nm0 t q bs al)≤570000000000) (Z:allT TyG (.mk f n nm0 t q bs al)) (hv:¬(f=1∧nm0=s)) (I:ks.length=q.length)
  (w2:f=5→(∃k,ks=[k])∧bs=[]∧al=[])
  (h7:f=7→bs=[]∧al=[]∧∃fl:List Str,aU Tryz.prog 133 [.pa (aB (.mk f n nm0 t q bs al))] [] (bK fl) []∧fl.length≤540000000000∧
   (s∈fl→∃tl:List Str,aU Tryz.prog 76 [.pa (aB b)] [] (bK tl) []∧aU Tryz.prog 77 [.one (.vp 700 0),bK tl] (gHl f n nm0 t q [] []) (.tup []) (gHl f n nm t ks [] []))∧
   (¬s∈fl→nm=nm0∧ks=q))
  (W:f≠7→nm=nm0∧ks=q)
  (hok:PutOk sb P s b (ks++bs.map Bind.body)) (J:∀a∈al,PutOk sb P s b [a.body])
  (hM:((ks++bs.map Bind.body).flatMap pfR).length+2*(1+bs.length)+(pfR b).length+(ks.length+bs.length)≤540000000000)
  (Y:∀a∈al,(pfR a.body).length+2*a.vars.length+(pfR b).length+1≤540000000000):
  aU Tryz.prog 99 [.pa (aB (.mk f n nm0 t q bs al)),Go.AM.T s,.pa (aB b)] [] (.pa (aB (nE sb s b (.mk f n nm t ks bs al)))) []:=
 uG sb P f n nm0 nm t q ks bs al s b (LC.of _ _ (le_refl _) O) Z hv I w2 h7 W hok J hM Y
end Go.Proofs.YtglfogjcijokpaaGreatDoor
