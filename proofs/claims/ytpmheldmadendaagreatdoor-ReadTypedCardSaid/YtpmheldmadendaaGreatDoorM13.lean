/-
  Texts Ro1 to Pr1 in one.
-/
import Derived.Test.YtpmheldmadendaaGreatDoorM12
open List (all_eq_true append_assoc append_nil cons_append cons_ne_nil drop_append_of_le_length drop_drop drop_eq_getElem_cons drop_length filter_append forall_mem_cons length_append length_cons length_drop length_filter_le length_map length_nil length_take map_append map_cons map_nil mem_append mem_cons mem_cons_of_mem mem_cons_self mem_map mem_of_mem_take mem_singleton nil_append take_of_length_le)
open Nat (le_add_left le_refl le_trans mul_le_mul_left sub_self zero_le)
namespace Go.Proofs.YtpmheldmadendaaGreatDoor
open Go Go.AM
set_option maxRecDepth 20000
set_option maxHeartbeats 4000000
def G (M:Nat) (s:Str) (y:Sy):Prop:=wfY y∧LxD s (tkY y)∧dpY y≤M
theorem LxD.eq {s:Str}{ts us:List Tk}(h:LxD s ts) (he:us=ts):LxD s us:=he▸h
def rnd:Str→List Str→Str
 | [],_=>[]
 | c::r,es=>if c=64 then(match r,es with
  | _::r',e::es'=>40::(e++41::rnd r' es')
  | _,_=>[64]) else c::rnd r es
def nh:Str→Nat
 | []=>0
 | c::r=>if c=64 then(match r with
  | _::r'=>nh r'+1
  | []=>0) else nh r
def pF (pt:List Tk):Pt:=(gD 40 0 (zt (pt++[syT arrow]))).1
def pk0:List Tk:=[nmT 2 [84,114,117,101]]
def pk1:List Tk:=[nmT 2 [70,97,108,115,101]]
def pk2:List Tk:=[⟨3,[48],0,0⟩]
def pk3:List Tk:=[⟨3,[49],1,0⟩]
def pk4:List Tk:=[nmT 1 [110]]
def pk5:List Tk:=[nmT 2 [78]]
def pk6:List Tk:=[nmT 2 [67],nmT 1 [97],nmT 1 [98]]
def pk7:List Tk:=[nmT 2 [80],nmT 1 [97],nmT 1 [98]]
def pk8:List Tk:=[nmT 2 [78,111]]
def pk9:List Tk:=[nmT 2 [89,101,115],nmT 1 [97]]
def aB2:List (List Tk):=[pk0,pk1,pk2,pk3,pk4,pk5,pk6,pk7,pk8,pk9]
theorem aQ5 (f:Nat) (R:List Tk):aB2.map (fun pt=>gD (f+(3*pt.length+1)) 0 (zt (pt++syT arrow::R)))=aB2.map (fun pt=>(pF pt,zt (syT arrow::R))):=by kernel_rfl
theorem aVi:aB2.all (fun pt=>match pt with
 | []=>false
 | t::_=>!isK bN t&& !isK aV t)=true:=by kernel_rfl
theorem mV {pt:List Tk}(h:pt∈aB2):aFx pt (pF pt):=by
 have h2:=Av.1 aVi pt h;refine⟨?_,fun R f u=>?_⟩
 ·cases pt with
  | nil=>exact Bool.noConfusion h2
  | cons t r=>
   rw[π] at h2;exact⟨t,r,rfl,by simpa using h2.1,by simpa using h2.2⟩
 ·have q:=List.map_inj_left.1 (aQ5 (f-(3*pt.length+1)) R) pt h;rwa [show f-(3*pt.length+1)+(3*pt.length+1)=f by omega] at q
theorem aHo:aFx pk0 (pF pk0):=mV (τ (i:=0) rfl)
theorem aHn:aFx pk1 (pF pk1):=mV (τ (i:=1) rfl)
theorem aVg:aFx pk2 (pF pk2):=mV (τ (i:=2) rfl)
theorem aVf:aFx pk3 (pF pk3):=mV (τ (i:=3) rfl)
theorem aVe:aFx pk4 (pF pk4):=mV (τ (i:=4) rfl)
theorem aVd:aFx pk5 (pF pk5):=mV (τ (i:=5) rfl)
theorem aVc:aFx pk6 (pF pk6):=mV (τ (i:=6) rfl)
theorem aVb:aFx pk7 (pF pk7):=mV (τ (i:=7) rfl)
theorem aVa:aFx pk8 (pF pk8):=mV (τ (i:=8) rfl)
theorem aU9:aFx pk9 (pF pk9):=mV (τ (i:=9) rfl)
def vJ:List Tk:=[nmT 2 [76],nmT 2 [73,110,116]]
def aMp:Sch:=match cH (vJ++[syT c6]) with
 | .ok p=>p.1
 | .error _=>lX
theorem aMo (t:Tk) (R:List Tk) (h1:¬(0<t.kind∧t.kind<4)) (h2:isK bI t=false) (r:isK arrow t=false) (u:isK darrow t=false):cH (vJ++t::R)=.ok (aMp,t::R):=by
 have q:∀{x:Str},isK x t=false→isT t x=false:=fun {x} h=>by
  unfold isK at h;unfold isT;rw[Bool.and_eq_false_iff] at h ⊢;rcases h with h | h
  ·rw[Cb] at h;exact .inl h.1
  ·exact .inr h
 have hb:aFf t=false:=by
  unfold aFf;rw[Cb,Cb];exact⟨ψ fun k=>h1 (by omega),ψ fun k=>h1 (by omega),q h2⟩
 have y:eZ ((vJ++t::R).length+1) false (vJ++t::R) []=some ([⟨[76],zC [73,110,116]⟩],t::R):=rfl;have B:cR (vJ++t::R)=.ok ([],vJ++t::R):=by
  show kT 0 (vJ++t::R) false (eZ ((vJ++t::R).length+1) false (vJ++t::R) [])=_;rw[y];show(if isT t darrow=true then _ else _)=_;rw[q u,ξ ω]
 have E:∀f o x,gC (f+1) o x (t::R)=.ok (x,t::R):=fun f o x=>by
  rw[gC,hb,ξ ω,q r,ξ ω]
 have I:bX (3*(vJ++t::R).length+2) 0 (vJ++t::R)=.ok (lY (zC [76]) (zC [73,110,116]),t::R):=by
  obtain⟨f,J⟩:∃f,3*(vJ++t::R).length+2=f+5:=⟨3*(vJ++t::R).length-3,by show 3*(R.length+1+1+1)+2=_;show _=3*(R.length+1+1+1)-3+5;omega⟩
  rw[J];show gC (f+2+1) 0 (lY (zC [76]) (zC [73,110,116])) (t::R)=_;exact E _ _ _
 unfold cH;rw[B];show nL [] (bX (3*(vJ++t::R).length+2) 0 (vJ++t::R))=_;rw[I];rfl
theorem aRh:aYe vJ aMp:=fun R q=>by
 obtain⟨t,R',rfl,h1,h2,_,r,u,_⟩:=q;exact aMo t R' h1 h2 r u
theorem tm0 {M:Nat}:∃y,G (M+4) (rnd [48] []) y:=by
 rw[show rnd [48] []=[48] by kernel_rfl];exact⟨.num 0 [48],trivial,LxD.eq (ts:=[⟨3,[48],0,0⟩]) (bC 60 _ _ (by kernel_rfl)) rfl,le_trans (show dpY (.num 0 [48])≤4 by decide) (C9 4 M)⟩
theorem tm1 {M:Nat}:∃y,G (M+4) (rnd [49] []) y:=by
 rw[show rnd [49] []=[49] by kernel_rfl];exact⟨.num 1 [49],trivial,LxD.eq (ts:=[⟨3,[49],1,0⟩]) (bC 60 _ _ (by kernel_rfl)) rfl,le_trans (show dpY (.num 1 [49])≤4 by decide) (C9 4 M)⟩
theorem tm2 {M:Nat}:∃y,G (M+4) (rnd [55] []) y:=by
 rw[show rnd [55] []=[55] by kernel_rfl];exact⟨.num 7 [55],trivial,LxD.eq (ts:=[⟨3,[55],7,0⟩]) (bC 60 _ _ (by kernel_rfl)) rfl,le_trans (show dpY (.num 7 [55])≤4 by decide) (C9 4 M)⟩
theorem tm3 {M:Nat}:∃y,G (M+4) (rnd [120] []) y:=by
 rw[show rnd [120] []=[120] by kernel_rfl];exact⟨.nm 1 [120],.inl rfl,LxD.eq (ts:=[nmT 1 [120]]) (bC 60 _ _ (by kernel_rfl)) rfl,le_trans (show dpY (.nm 1 [120])≤4 by decide) (C9 4 M)⟩
theorem tm4 {M:Nat}:∃y,G (M+4) (rnd [51] []) y:=by
 rw[show rnd [51] []=[51] by kernel_rfl];exact⟨.num 3 [51],trivial,LxD.eq (ts:=[⟨3,[51],3,0⟩]) (bC 60 _ _ (by kernel_rfl)) rfl,le_trans (show dpY (.num 3 [51])≤4 by decide) (C9 4 M)⟩
theorem tm5 {M:Nat}{q r:Str}{u B:Sy}(h1:G M q u) (h2:G M r B):∃y,G (M+4) (rnd [97,100,100,32,64,105,32,64,105] [q,r]) y:=by
 rw[show rnd [97,100,100,32,64,105,32,64,105] [q,r]=[97,100,100,32,40]++(q++([41,32,40]++(r++([41])))) by kernel_rfl];refine⟨.app (.app (.nm 1 [97,100,100]) (.br u)) (.br B),⟨le_refl 1,rfl,⟨ε 1,rfl,.inl rfl,h1.1⟩,h2.1⟩,LxD.eq (ts:=[nmT 1 [97,100,100],syT bI]++(tkY u++([syT c6,syT bI]++(tkY B++([syT c6]))))) ((aP 60 _ _ (by kernel_rfl)).appD (h1.2.1.appD ⟨_,_,rfl,rfl⟩ ((aP 60 _ _ (by kernel_rfl)).appD (h2.2.1.appD ⟨_,_,rfl,rfl⟩ (bC 60 _ _ (by kernel_rfl)))))) (by simp only[tkY,Ad,Ak,Ae]),?_⟩;have E:=h1.2.2;have I:=h2.2.2;simp only[dpY];omega
theorem tm6 {M:Nat}{q r:Str}{u B:Sy}(h1:G M q u) (h2:G M r B):∃y,G (M+4) (rnd [109,117,108,32,64,105,32,64,105] [q,r]) y:=by
 rw[show rnd [109,117,108,32,64,105,32,64,105] [q,r]=[109,117,108,32,40]++(q++([41,32,40]++(r++([41])))) by kernel_rfl];refine⟨.app (.app (.nm 1 [109,117,108]) (.br u)) (.br B),⟨le_refl 1,rfl,⟨ε 1,rfl,.inl rfl,h1.1⟩,h2.1⟩,LxD.eq (ts:=[nmT 1 [109,117,108],syT bI]++(tkY u++([syT c6,syT bI]++(tkY B++([syT c6]))))) ((aP 60 _ _ (by kernel_rfl)).appD (h1.2.1.appD ⟨_,_,rfl,rfl⟩ ((aP 60 _ _ (by kernel_rfl)).appD (h2.2.1.appD ⟨_,_,rfl,rfl⟩ (bC 60 _ _ (by kernel_rfl)))))) (by simp only[tkY,Ad,Ak,Ae]),?_⟩;have E:=h1.2.2;have I:=h2.2.2;simp only[dpY];omega
theorem tm7 {M:Nat}{q r:Str}{u B:Sy}(h1:G M q u) (h2:G M r B):∃y,G (M+4) (rnd [115,117,98,32,64,105,32,64,105] [q,r]) y:=by
 rw[show rnd [115,117,98,32,64,105,32,64,105] [q,r]=[115,117,98,32,40]++(q++([41,32,40]++(r++([41])))) by kernel_rfl];refine⟨.app (.app (.nm 1 [115,117,98]) (.br u)) (.br B),⟨le_refl 1,rfl,⟨ε 1,rfl,.inl rfl,h1.1⟩,h2.1⟩,LxD.eq (ts:=[nmT 1 [115,117,98],syT bI]++(tkY u++([syT c6,syT bI]++(tkY B++([syT c6]))))) ((aP 60 _ _ (by kernel_rfl)).appD (h1.2.1.appD ⟨_,_,rfl,rfl⟩ ((aP 60 _ _ (by kernel_rfl)).appD (h2.2.1.appD ⟨_,_,rfl,rfl⟩ (bC 60 _ _ (by kernel_rfl)))))) (by simp only[tkY,Ad,Ak,Ae]),?_⟩;have E:=h1.2.2;have I:=h2.2.2;simp only[dpY];omega
theorem tm8 {M:Nat}{q r:Str}{u B:Sy}(h1:G M q u) (h2:G M r B):∃y,G (M+4) (rnd [100,105,118,32,64,105,32,64,105] [q,r]) y:=by
 rw[show rnd [100,105,118,32,64,105,32,64,105] [q,r]=[100,105,118,32,40]++(q++([41,32,40]++(r++([41])))) by kernel_rfl];refine⟨.app (.app (.nm 1 [100,105,118]) (.br u)) (.br B),⟨le_refl 1,rfl,⟨ε 1,rfl,.inl rfl,h1.1⟩,h2.1⟩,LxD.eq (ts:=[nmT 1 [100,105,118],syT bI]++(tkY u++([syT c6,syT bI]++(tkY B++([syT c6]))))) ((aP 60 _ _ (by kernel_rfl)).appD (h1.2.1.appD ⟨_,_,rfl,rfl⟩ ((aP 60 _ _ (by kernel_rfl)).appD (h2.2.1.appD ⟨_,_,rfl,rfl⟩ (bC 60 _ _ (by kernel_rfl)))))) (by simp only[tkY,Ad,Ak,Ae]),?_⟩;have E:=h1.2.2;have I:=h2.2.2;simp only[dpY];omega
theorem tm9 {M:Nat}{q r u:Str}{B E I:Sy}(h1:G M q B) (h2:G M r E) (J:G M u I):∃y,G (M+4) (rnd [99,97,115,101,32,64,98,32,111,102,32,123,32,84,114,117,101,32,45,62,32,64,105,32,59,32,70,97,108,115,101,32,45,62,32,64,105,32,125] [q,r,u]) y:=by
 rw[show rnd [99,97,115,101,32,64,98,32,111,102,32,123,32,84,114,117,101,32,45,62,32,64,105,32,59,32,70,97,108,115,101,32,45,62,32,64,105,32,125] [q,r,u]=[99,97,115,101,32,40]++(q++([41,32,111,102,32,123,32,84,114,117,101,32,45,62,32,40]++(r++([41,32,59,32,70,97,108,115,101,32,45,62,32,40]++(u++([41,32,125])))))) by kernel_rfl];refine⟨.cas (.br B) [.alt pk0 (pF pk0) (.br E),.alt pk1 (pF pk1) (.br I)],⟨Dd _ _,(show 2≤60 by decide),h1.1,⟨aHo,h2.1,⟨aHn,J.1,trivial⟩⟩⟩,LxD.eq (ts:=[kyT fE,syT bI]++(tkY B++([syT c6,kyT ofS,syT cY,nmT 2 [84,114,117,101],syT arrow,syT bI]++(tkY E++([syT c6,syT bN,nmT 2 [70,97,108,115,101],syT arrow,syT bI]++(tkY I++([syT c6,syT aV]))))))) ((aP 60 _ _ (by kernel_rfl)).appD (h1.2.1.appD ⟨_,_,rfl,rfl⟩ ((aP 60 _ _ (by kernel_rfl)).appD (h2.2.1.appD ⟨_,_,rfl,rfl⟩ ((aP 60 _ _ (by kernel_rfl)).appD (J.2.1.appD ⟨_,_,rfl,rfl⟩ (bC 60 _ _ (by kernel_rfl)))))))) (by simp only[tkY,tkA,tlT,Ad,Ak,Ae,pk0,pk1]),?_⟩;have O:=h1.2.2;have U:=h2.2.2;have Y:=J.2.2;simp only[dpY,dpA];omega
theorem a2p {M:Nat}{q r:Str}{u B:Sy}(h1:G M q u) (h2:G M r B):∃y,G (M+4) (rnd [108,101,116,32,123,32,121,32,61,32,64,105,32,59,32,122,32,61,32,97,100,100,32,121,32,64,105,32,125,32,105,110,32,122] [q,r]) y:=by
 rw[show rnd [108,101,116,32,123,32,121,32,61,32,64,105,32,59,32,122,32,61,32,97,100,100,32,121,32,64,105,32,125,32,105,110,32,122] [q,r]=[108,101,116,32,123,32,121,32,61,32,40]++(q++([41,32,59,32,122,32,61,32,97,100,100,32,121,32,40]++(r++([41,32,125,32,105,110,32,122])))) by kernel_rfl];refine⟨.lett [.bind [121] [] (.br u),.bind [122] [] (.app (.app (.nm 1 [97,100,100]) (.nm 1 [121])) (.br B))] (.nm 1 [122]),⟨(show 2≤60 by decide),rfl,⟨(by decide),h1.1,⟨(by decide),⟨le_refl 1,rfl,⟨ε 1,rfl,.inl rfl,.inl rfl⟩,h2.1⟩,trivial⟩⟩,.inl rfl⟩,LxD.eq (ts:=[kyT sD,syT cY,nmT 1 [121],syT eqS,syT bI]++(tkY u++([syT c6,syT bN,nmT 1 [122],syT eqS,nmT 1 [97,100,100],nmT 1 [121],syT bI]++(tkY B++([syT c6,syT aV,kyT inS,nmT 1 [122]]))))) ((aP 60 _ _ (by kernel_rfl)).appD (h1.2.1.appD ⟨_,_,rfl,rfl⟩ ((aP 60 _ _ (by kernel_rfl)).appD (h2.2.1.appD ⟨_,_,rfl,rfl⟩ (bC 60 _ _ (by kernel_rfl)))))) (by simp only[tkY,tkB,tlT,Ch,Ad,Ak,Ae]),?_⟩;have E:=h1.2.2;have I:=h2.2.2;simp only[dpY,dpB];omega
theorem a2o {M:Nat}{q r:Str}{u B:Sy}(h1:G M q u) (h2:G M r B):∃y,G (M+4) (rnd [40,92,32,121,32,45,62,32,97,100,100,32,121,32,64,105,41,32,64,105] [q,r]) y:=by
 rw[show rnd [40,92,32,121,32,45,62,32,97,100,100,32,121,32,64,105,41,32,64,105] [q,r]=[40,92,32,121,32,45,62,32,97,100,100,32,121,32,40]++(q++([41,41,32,40]++(r++([41])))) by kernel_rfl];refine⟨.app (.br (.lam [[121]] (.app (.app (.nm 1 [97,100,100]) (.nm 1 [121])) (.br u)))) (.br B),⟨ε 1,rfl,⟨Dd _ _,(by decide),⟨le_refl 1,rfl,⟨ε 1,rfl,.inl rfl,.inl rfl⟩,h1.1⟩⟩,h2.1⟩,LxD.eq (ts:=[syT bI,syT sX,nmT 1 [121],syT arrow,nmT 1 [97,100,100],nmT 1 [121],syT bI]++(tkY u++([syT c6,syT c6,syT bI]++(tkY B++([syT c6]))))) ((aP 60 _ _ (by kernel_rfl)).appD (h1.2.1.appD ⟨_,_,rfl,rfl⟩ ((aP 60 _ _ (by kernel_rfl)).appD (h2.2.1.appD ⟨_,_,rfl,rfl⟩ (bC 60 _ _ (by kernel_rfl)))))) (by simp only[tkY,Ar,Ch,Ad,Ak,Ae]),?_⟩;have E:=h1.2.2;have I:=h2.2.2;simp only[dpY];omega
theorem a2n {M:Nat}{q r:Str}{u B:Sy}(h1:G M q u) (h2:G M r B):∃y,G (M+4) (rnd [99,97,115,101,32,64,105,32,111,102,32,123,32,48,32,45,62,32,64,105,32,59,32,49,32,45,62,32,53,32,59,32,110,32,45,62,32,110,32,125] [q,r]) y:=by
 rw[show rnd [99,97,115,101,32,64,105,32,111,102,32,123,32,48,32,45,62,32,64,105,32,59,32,49,32,45,62,32,53,32,59,32,110,32,45,62,32,110,32,125] [q,r]=[99,97,115,101,32,40]++(q++([41,32,111,102,32,123,32,48,32,45,62,32,40]++(r++([41,32,59,32,49,32,45,62,32,53,32,59,32,110,32,45,62,32,110,32,125])))) by kernel_rfl];refine⟨.cas (.br u) [.alt pk2 (pF pk2) (.br B),.alt pk3 (pF pk3) (.num 5 [53]),.alt pk4 (pF pk4) (.nm 1 [110])],⟨Dd _ _,(show 3≤60 by decide),h1.1,⟨aVg,h2.1,⟨aVf,trivial,⟨aVe,.inl rfl,trivial⟩⟩⟩⟩,LxD.eq (ts:=[kyT fE,syT bI]++(tkY u++([syT c6,kyT ofS,syT cY,⟨3,[48],0,0⟩,syT arrow,syT bI]++(tkY B++([syT c6,syT bN,⟨3,[49],1,0⟩,syT arrow,⟨3,[53],5,0⟩,syT bN,nmT 1 [110],syT arrow,nmT 1 [110],syT aV]))))) ((aP 60 _ _ (by kernel_rfl)).appD (h1.2.1.appD ⟨_,_,rfl,rfl⟩ ((aP 60 _ _ (by kernel_rfl)).appD (h2.2.1.appD ⟨_,_,rfl,rfl⟩ (bC 60 _ _ (by kernel_rfl)))))) (by simp only[tkY,tkA,tlT,Ad,Ak,Ae,pk2,pk3,pk4]),?_⟩;have E:=h1.2.2;have I:=h2.2.2;simp only[dpY,dpA];omega
theorem a2m {M:Nat}{q:Str}{r:Sy}(h1:G M q r):∃y,G (M+4) (rnd [115,117,109,32,64,108] [q]) y:=by
 rw[show rnd [115,117,109,32,64,108] [q]=[115,117,109,32,40]++(q++([41])) by kernel_rfl];refine⟨.app (.nm 1 [115,117,109]) (.br r),⟨ε 1,rfl,.inl rfl,h1.1⟩,LxD.eq (ts:=[nmT 1 [115,117,109],syT bI]++(tkY r++([syT c6]))) ((aP 60 _ _ (by kernel_rfl)).appD (h1.2.1.appD ⟨_,_,rfl,rfl⟩ (bC 60 _ _ (by kernel_rfl)))) (by simp only[tkY,Ad,Ak]),?_⟩;have u:=h1.2.2;simp only[dpY];omega
theorem a2l {M:Nat}{q:Str}{r:Sy}(h1:G M q r):∃y,G (M+4) (rnd [105,100,32,64,105] [q]) y:=by
 rw[show rnd [105,100,32,64,105] [q]=[105,100,32,40]++(q++([41])) by kernel_rfl];refine⟨.app (.nm 1 [105,100]) (.br r),⟨ε 1,rfl,.inl rfl,h1.1⟩,LxD.eq (ts:=[nmT 1 [105,100],syT bI]++(tkY r++([syT c6]))) ((aP 60 _ _ (by kernel_rfl)).appD (h1.2.1.appD ⟨_,_,rfl,rfl⟩ (bC 60 _ _ (by kernel_rfl)))) (by simp only[tkY,Ad,Ak]),?_⟩;have u:=h1.2.2;simp only[dpY];omega
theorem a2k {M:Nat}{q r:Str}{u B:Sy}(h1:G M q u) (h2:G M r B):∃y,G (M+4) (rnd [107,32,64,105,32,64,98] [q,r]) y:=by
 rw[show rnd [107,32,64,105,32,64,98] [q,r]=[107,32,40]++(q++([41,32,40]++(r++([41])))) by kernel_rfl];refine⟨.app (.app (.nm 1 [107]) (.br u)) (.br B),⟨le_refl 1,rfl,⟨ε 1,rfl,.inl rfl,h1.1⟩,h2.1⟩,LxD.eq (ts:=[nmT 1 [107],syT bI]++(tkY u++([syT c6,syT bI]++(tkY B++([syT c6]))))) ((aP 60 _ _ (by kernel_rfl)).appD (h1.2.1.appD ⟨_,_,rfl,rfl⟩ ((aP 60 _ _ (by kernel_rfl)).appD (h2.2.1.appD ⟨_,_,rfl,rfl⟩ (bC 60 _ _ (by kernel_rfl)))))) (by simp only[tkY,Ad,Ak,Ae]),?_⟩;have E:=h1.2.2;have I:=h2.2.2;simp only[dpY];omega
theorem a2j {M:Nat}{q:Str}{r:Sy}(h1:G M q r):∃y,G (M+4) (rnd [98,105,103,103,101,115,116,32,64,108] [q]) y:=by
 rw[show rnd [98,105,103,103,101,115,116,32,64,108] [q]=[98,105,103,103,101,115,116,32,40]++(q++([41])) by kernel_rfl];refine⟨.app (.nm 1 [98,105,103,103,101,115,116]) (.br r),⟨ε 1,rfl,.inl rfl,h1.1⟩,LxD.eq (ts:=[nmT 1 [98,105,103,103,101,115,116],syT bI]++(tkY r++([syT c6]))) ((aP 60 _ _ (by kernel_rfl)).appD (h1.2.1.appD ⟨_,_,rfl,rfl⟩ (bC 60 _ _ (by kernel_rfl)))) (by simp only[tkY,Ad,Ak]),?_⟩;have u:=h1.2.2;simp only[dpY];omega
theorem a2i {M:Nat}{q r:Str}{u B:Sy}(h1:G M q u) (h2:G M r B):∃y,G (M+4) (rnd [99,97,115,101,32,64,108,32,111,102,32,123,32,78,32,45,62,32,64,105,32,59,32,67,32,97,32,98,32,45,62,32,97,32,125] [q,r]) y:=by
 rw[show rnd [99,97,115,101,32,64,108,32,111,102,32,123,32,78,32,45,62,32,64,105,32,59,32,67,32,97,32,98,32,45,62,32,97,32,125] [q,r]=[99,97,115,101,32,40]++(q++([41,32,111,102,32,123,32,78,32,45,62,32,40]++(r++([41,32,59,32,67,32,97,32,98,32,45,62,32,97,32,125])))) by kernel_rfl];refine⟨.cas (.br u) [.alt pk5 (pF pk5) (.br B),.alt pk6 (pF pk6) (.nm 1 [97])],⟨Dd _ _,(show 2≤60 by decide),h1.1,⟨aVd,h2.1,⟨aVc,.inl rfl,trivial⟩⟩⟩,LxD.eq (ts:=[kyT fE,syT bI]++(tkY u++([syT c6,kyT ofS,syT cY,nmT 2 [78],syT arrow,syT bI]++(tkY B++([syT c6,syT bN,nmT 2 [67],nmT 1 [97],nmT 1 [98],syT arrow,nmT 1 [97],syT aV]))))) ((aP 60 _ _ (by kernel_rfl)).appD (h1.2.1.appD ⟨_,_,rfl,rfl⟩ ((aP 60 _ _ (by kernel_rfl)).appD (h2.2.1.appD ⟨_,_,rfl,rfl⟩ (bC 60 _ _ (by kernel_rfl)))))) (by simp only[tkY,tkA,tlT,Ad,Ak,Ae,pk5,pk6]),?_⟩;have E:=h1.2.2;have I:=h2.2.2;simp only[dpY,dpA];omega
theorem a2h {M:Nat}{q r u:Str}{B E I:Sy}(h1:G M q B) (h2:G M r E) (J:G M u I):∃y,G (M+4) (rnd [99,111,109,112,32,40,97,100,100,32,64,105,41,32,40,115,117,98,32,64,105,41,32,64,105] [q,r,u]) y:=by
 rw[show rnd [99,111,109,112,32,40,97,100,100,32,64,105,41,32,40,115,117,98,32,64,105,41,32,64,105] [q,r,u]=[99,111,109,112,32,40,97,100,100,32,40]++(q++([41,41,32,40,115,117,98,32,40]++(r++([41,41,32,40]++(u++([41])))))) by kernel_rfl];refine⟨.app (.app (.app (.nm 1 [99,111,109,112]) (.br (.app (.nm 1 [97,100,100]) (.br B)))) (.br (.app (.nm 1 [115,117,98]) (.br E)))) (.br I),⟨le_refl 1,rfl,⟨le_refl 1,rfl,⟨ε 1,rfl,.inl rfl,⟨ε 1,rfl,.inl rfl,h1.1⟩⟩,⟨ε 1,rfl,.inl rfl,h2.1⟩⟩,J.1⟩,LxD.eq (ts:=[nmT 1 [99,111,109,112],syT bI,nmT 1 [97,100,100],syT bI]++(tkY B++([syT c6,syT c6,syT bI,nmT 1 [115,117,98],syT bI]++(tkY E++([syT c6,syT c6,syT bI]++(tkY I++([syT c6]))))))) ((aP 60 _ _ (by kernel_rfl)).appD (h1.2.1.appD ⟨_,_,rfl,rfl⟩ ((aP 60 _ _ (by kernel_rfl)).appD (h2.2.1.appD ⟨_,_,rfl,rfl⟩ ((aP 60 _ _ (by kernel_rfl)).appD (J.2.1.appD ⟨_,_,rfl,rfl⟩ (bC 60 _ _ (by kernel_rfl)))))))) (by simp only[tkY,Ad,Ak,Ae]),?_⟩;have O:=h1.2.2;have U:=h2.2.2;have Y:=J.2.2;simp only[dpY];omega
theorem a2g {M:Nat}{q r:Str}{u B:Sy}(h1:G M q u) (h2:G M r B):∃y,G (M+4) (rnd [116,119,105,99,101,32,40,97,100,100,32,64,105,41,32,64,105] [q,r]) y:=by
 rw[show rnd [116,119,105,99,101,32,40,97,100,100,32,64,105,41,32,64,105] [q,r]=[116,119,105,99,101,32,40,97,100,100,32,40]++(q++([41,41,32,40]++(r++([41])))) by kernel_rfl];refine⟨.app (.app (.nm 1 [116,119,105,99,101]) (.br (.app (.nm 1 [97,100,100]) (.br u)))) (.br B),⟨le_refl 1,rfl,⟨ε 1,rfl,.inl rfl,⟨ε 1,rfl,.inl rfl,h1.1⟩⟩,h2.1⟩,LxD.eq (ts:=[nmT 1 [116,119,105,99,101],syT bI,nmT 1 [97,100,100],syT bI]++(tkY u++([syT c6,syT c6,syT bI]++(tkY B++([syT c6]))))) ((aP 60 _ _ (by kernel_rfl)).appD (h1.2.1.appD ⟨_,_,rfl,rfl⟩ ((aP 60 _ _ (by kernel_rfl)).appD (h2.2.1.appD ⟨_,_,rfl,rfl⟩ (bC 60 _ _ (by kernel_rfl)))))) (by simp only[tkY,Ad,Ak,Ae]),?_⟩;have E:=h1.2.2;have I:=h2.2.2;simp only[dpY];omega
theorem a2f {M:Nat}{q:Str}{r:Sy}(h1:G M q r):∃y,G (M+4) (rnd [115,105,122,101,32,40,78,111,100,101,32,76,101,97,102,32,64,105,32,76,101,97,102,41] [q]) y:=by
 rw[show rnd [115,105,122,101,32,40,78,111,100,101,32,76,101,97,102,32,64,105,32,76,101,97,102,41] [q]=[115,105,122,101,32,40,78,111,100,101,32,76,101,97,102,32,40]++(q++([41,32,76,101,97,102,41])) by kernel_rfl];refine⟨.app (.nm 1 [115,105,122,101]) (.br (.app (.app (.app (.nm 2 [78,111,100,101]) (.nm 2 [76,101,97,102])) (.br r)) (.nm 2 [76,101,97,102]))),⟨ε 1,rfl,.inl rfl,⟨le_refl 1,rfl,⟨le_refl 1,rfl,⟨ε 1,rfl,.inr rfl,.inr rfl⟩,h1.1⟩,.inr rfl⟩⟩,LxD.eq (ts:=[nmT 1 [115,105,122,101],syT bI,nmT 2 [78,111,100,101],nmT 2 [76,101,97,102],syT bI]++(tkY r++([syT c6,nmT 2 [76,101,97,102],syT c6]))) ((aP 60 _ _ (by kernel_rfl)).appD (h1.2.1.appD ⟨_,_,rfl,rfl⟩ (bC 60 _ _ (by kernel_rfl)))) (by simp only[tkY,Ad,Ak,Ae]),?_⟩;have u:=h1.2.2;simp only[dpY];omega
theorem a2e {M:Nat}{q r:Str}{u B:Sy}(h1:G M q u) (h2:G M r B):∃y,G (M+4) (rnd [99,97,115,101,32,115,119,97,112,32,40,80,32,64,98,32,64,105,41,32,111,102,32,123,32,80,32,97,32,98,32,45,62,32,97,32,125] [q,r]) y:=by
 rw[show rnd [99,97,115,101,32,115,119,97,112,32,40,80,32,64,98,32,64,105,41,32,111,102,32,123,32,80,32,97,32,98,32,45,62,32,97,32,125] [q,r]=[99,97,115,101,32,115,119,97,112,32,40,80,32,40]++(q++([41,32,40]++(r++([41,41,32,111,102,32,123,32,80,32,97,32,98,32,45,62,32,97,32,125])))) by kernel_rfl];refine⟨.cas (.app (.nm 1 [115,119,97,112]) (.br (.app (.app (.nm 2 [80]) (.br u)) (.br B)))) [.alt pk7 (pF pk7) (.nm 1 [97])],⟨Dd _ _,(show 1≤60 by decide),⟨ε 1,rfl,.inl rfl,⟨le_refl 1,rfl,⟨ε 1,rfl,.inr rfl,h1.1⟩,h2.1⟩⟩,⟨aVb,.inl rfl,trivial⟩⟩,LxD.eq (ts:=[kyT fE,nmT 1 [115,119,97,112],syT bI,nmT 2 [80],syT bI]++(tkY u++([syT c6,syT bI]++(tkY B++([syT c6,syT c6,kyT ofS,syT cY,nmT 2 [80],nmT 1 [97],nmT 1 [98],syT arrow,nmT 1 [97],syT aV]))))) ((aP 60 _ _ (by kernel_rfl)).appD (h1.2.1.appD ⟨_,_,rfl,rfl⟩ ((aP 60 _ _ (by kernel_rfl)).appD (h2.2.1.appD ⟨_,_,rfl,rfl⟩ (bC 60 _ _ (by kernel_rfl)))))) (by simp only[tkY,tkA,tlT,Ad,Ak,Ae,pk7]),?_⟩;have E:=h1.2.2;have I:=h2.2.2;simp only[dpY,dpA];omega
theorem a2d {M:Nat}{q r:Str}{u B:Sy}(h1:G M q u) (h2:G M r B):∃y,G (M+4) (rnd [99,97,115,101,32,109,97,112,32,40,97,100,100,32,64,105,41,32,40,89,101,115,32,64,105,41,32,111,102,32,123,32,78,111,32,45,62,32,48,32,59,32,89,101,115,32,97,32,45,62,32,97,32,125] [q,r]) y:=by
 rw[show rnd [99,97,115,101,32,109,97,112,32,40,97,100,100,32,64,105,41,32,40,89,101,115,32,64,105,41,32,111,102,32,123,32,78,111,32,45,62,32,48,32,59,32,89,101,115,32,97,32,45,62,32,97,32,125] [q,r]=[99,97,115,101,32,109,97,112,32,40,97,100,100,32,40]++(q++([41,41,32,40,89,101,115,32,40]++(r++([41,41,32,111,102,32,123,32,78,111,32,45,62,32,48,32,59,32,89,101,115,32,97,32,45,62,32,97,32,125])))) by kernel_rfl];refine⟨.cas (.app (.app (.nm 1 [109,97,112]) (.br (.app (.nm 1 [97,100,100]) (.br u)))) (.br (.app (.nm 2 [89,101,115]) (.br B)))) [.alt pk8 (pF pk8) (.num 0 [48]),.alt pk9 (pF pk9) (.nm 1 [97])],⟨Dd _ _,(show 2≤60 by decide),⟨le_refl 1,rfl,⟨ε 1,rfl,.inl rfl,⟨ε 1,rfl,.inl rfl,h1.1⟩⟩,⟨ε 1,rfl,.inr rfl,h2.1⟩⟩,⟨aVa,trivial,⟨aU9,.inl rfl,trivial⟩⟩⟩,LxD.eq (ts:=[kyT fE,nmT 1 [109,97,112],syT bI,nmT 1 [97,100,100],syT bI]++(tkY u++([syT c6,syT c6,syT bI,nmT 2 [89,101,115],syT bI]++(tkY B++([syT c6,syT c6,kyT ofS,syT cY,nmT 2 [78,111],syT arrow,⟨3,[48],0,0⟩,syT bN,nmT 2 [89,101,115],nmT 1 [97],syT arrow,nmT 1 [97],syT aV]))))) ((aP 60 _ _ (by kernel_rfl)).appD (h1.2.1.appD ⟨_,_,rfl,rfl⟩ ((aP 60 _ _ (by kernel_rfl)).appD (h2.2.1.appD ⟨_,_,rfl,rfl⟩ (bC 60 _ _ (by kernel_rfl)))))) (by simp only[tkY,tkA,tlT,Ad,Ak,Ae,pk8,pk9]),?_⟩;have E:=h1.2.2;have I:=h2.2.2;simp only[dpY,dpA];omega
theorem a2c {M:Nat}{q r:Str}{u B:Sy}(h1:G M q u) (h2:G M r B):∃y,G (M+4) (rnd [99,97,115,101,32,108,101,115,115,32,64,105,32,116,111,112,32,111,102,32,123,32,84,114,117,101,32,45,62,32,64,105,32,59,32,70,97,108,115,101,32,45,62,32,116,111,112,32,125] [q,r]) y:=by
 rw[show rnd [99,97,115,101,32,108,101,115,115,32,64,105,32,116,111,112,32,111,102,32,123,32,84,114,117,101,32,45,62,32,64,105,32,59,32,70,97,108,115,101,32,45,62,32,116,111,112,32,125] [q,r]=[99,97,115,101,32,108,101,115,115,32,40]++(q++([41,32,116,111,112,32,111,102,32,123,32,84,114,117,101,32,45,62,32,40]++(r++([41,32,59,32,70,97,108,115,101,32,45,62,32,116,111,112,32,125])))) by kernel_rfl];refine⟨.cas (.app (.app (.nm 1 [108,101,115,115]) (.br u)) (.nm 1 [116,111,112])) [.alt pk0 (pF pk0) (.br B),.alt pk1 (pF pk1) (.nm 1 [116,111,112])],⟨Dd _ _,(show 2≤60 by decide),⟨le_refl 1,rfl,⟨ε 1,rfl,.inl rfl,h1.1⟩,.inl rfl⟩,⟨aHo,h2.1,⟨aHn,.inl rfl,trivial⟩⟩⟩,LxD.eq (ts:=[kyT fE,nmT 1 [108,101,115,115],syT bI]++(tkY u++([syT c6,nmT 1 [116,111,112],kyT ofS,syT cY,nmT 2 [84,114,117,101],syT arrow,syT bI]++(tkY B++([syT c6,syT bN,nmT 2 [70,97,108,115,101],syT arrow,nmT 1 [116,111,112],syT aV]))))) ((aP 60 _ _ (by kernel_rfl)).appD (h1.2.1.appD ⟨_,_,rfl,rfl⟩ ((aP 60 _ _ (by kernel_rfl)).appD (h2.2.1.appD ⟨_,_,rfl,rfl⟩ (bC 60 _ _ (by kernel_rfl)))))) (by simp only[tkY,tkA,tlT,Ad,Ak,Ae,pk0,pk1]),?_⟩;have E:=h1.2.2;have I:=h2.2.2;simp only[dpY,dpA];omega
theorem a2b {M:Nat}:∃y,G (M+4) (rnd [84,114,117,101] []) y:=by
 rw[show rnd [84,114,117,101] []=[84,114,117,101] by kernel_rfl];exact⟨.nm 2 [84,114,117,101],.inr rfl,LxD.eq (ts:=[nmT 2 [84,114,117,101]]) (bC 60 _ _ (by kernel_rfl)) rfl,le_trans (show dpY (.nm 2 [84,114,117,101])≤4 by decide) (C9 4 M)⟩
theorem a2a {M:Nat}:∃y,G (M+4) (rnd [70,97,108,115,101] []) y:=by
 rw[show rnd [70,97,108,115,101] []=[70,97,108,115,101] by kernel_rfl];exact⟨.nm 2 [70,97,108,115,101],.inr rfl,LxD.eq (ts:=[nmT 2 [70,97,108,115,101]]) (bC 60 _ _ (by kernel_rfl)) rfl,le_trans (show dpY (.nm 2 [70,97,108,115,101])≤4 by decide) (C9 4 M)⟩
theorem a19 {M:Nat}{q r:Str}{u B:Sy}(h1:G M q u) (h2:G M r B):∃y,G (M+4) (rnd [101,113,32,64,105,32,64,105] [q,r]) y:=by
 rw[show rnd [101,113,32,64,105,32,64,105] [q,r]=[101,113,32,40]++(q++([41,32,40]++(r++([41])))) by kernel_rfl];refine⟨.app (.app (.nm 1 [101,113]) (.br u)) (.br B),⟨le_refl 1,rfl,⟨ε 1,rfl,.inl rfl,h1.1⟩,h2.1⟩,LxD.eq (ts:=[nmT 1 [101,113],syT bI]++(tkY u++([syT c6,syT bI]++(tkY B++([syT c6]))))) ((aP 60 _ _ (by kernel_rfl)).appD (h1.2.1.appD ⟨_,_,rfl,rfl⟩ ((aP 60 _ _ (by kernel_rfl)).appD (h2.2.1.appD ⟨_,_,rfl,rfl⟩ (bC 60 _ _ (by kernel_rfl)))))) (by simp only[tkY,Ad,Ak,Ae]),?_⟩;have E:=h1.2.2;have I:=h2.2.2;simp only[dpY];omega
theorem a18 {M:Nat}{q r:Str}{u B:Sy}(h1:G M q u) (h2:G M r B):∃y,G (M+4) (rnd [108,116,32,64,105,32,64,105] [q,r]) y:=by
 rw[show rnd [108,116,32,64,105,32,64,105] [q,r]=[108,116,32,40]++(q++([41,32,40]++(r++([41])))) by kernel_rfl];refine⟨.app (.app (.nm 1 [108,116]) (.br u)) (.br B),⟨le_refl 1,rfl,⟨ε 1,rfl,.inl rfl,h1.1⟩,h2.1⟩,LxD.eq (ts:=[nmT 1 [108,116],syT bI]++(tkY u++([syT c6,syT bI]++(tkY B++([syT c6]))))) ((aP 60 _ _ (by kernel_rfl)).appD (h1.2.1.appD ⟨_,_,rfl,rfl⟩ ((aP 60 _ _ (by kernel_rfl)).appD (h2.2.1.appD ⟨_,_,rfl,rfl⟩ (bC 60 _ _ (by kernel_rfl)))))) (by simp only[tkY,Ad,Ak,Ae]),?_⟩;have E:=h1.2.2;have I:=h2.2.2;simp only[dpY];omega
theorem a17 {M:Nat}{q r u:Str}{B E I:Sy}(h1:G M q B) (h2:G M r E) (J:G M u I):∃y,G (M+4) (rnd [99,97,115,101,32,64,98,32,111,102,32,123,32,84,114,117,101,32,45,62,32,64,98,32,59,32,70,97,108,115,101,32,45,62,32,64,98,32,125] [q,r,u]) y:=by
 rw[show rnd [99,97,115,101,32,64,98,32,111,102,32,123,32,84,114,117,101,32,45,62,32,64,98,32,59,32,70,97,108,115,101,32,45,62,32,64,98,32,125] [q,r,u]=[99,97,115,101,32,40]++(q++([41,32,111,102,32,123,32,84,114,117,101,32,45,62,32,40]++(r++([41,32,59,32,70,97,108,115,101,32,45,62,32,40]++(u++([41,32,125])))))) by kernel_rfl];refine⟨.cas (.br B) [.alt pk0 (pF pk0) (.br E),.alt pk1 (pF pk1) (.br I)],⟨Dd _ _,(show 2≤60 by decide),h1.1,⟨aHo,h2.1,⟨aHn,J.1,trivial⟩⟩⟩,LxD.eq (ts:=[kyT fE,syT bI]++(tkY B++([syT c6,kyT ofS,syT cY,nmT 2 [84,114,117,101],syT arrow,syT bI]++(tkY E++([syT c6,syT bN,nmT 2 [70,97,108,115,101],syT arrow,syT bI]++(tkY I++([syT c6,syT aV]))))))) ((aP 60 _ _ (by kernel_rfl)).appD (h1.2.1.appD ⟨_,_,rfl,rfl⟩ ((aP 60 _ _ (by kernel_rfl)).appD (h2.2.1.appD ⟨_,_,rfl,rfl⟩ ((aP 60 _ _ (by kernel_rfl)).appD (J.2.1.appD ⟨_,_,rfl,rfl⟩ (bC 60 _ _ (by kernel_rfl)))))))) (by simp only[tkY,tkA,tlT,Ad,Ak,Ae,pk0,pk1]),?_⟩;have O:=h1.2.2;have U:=h2.2.2;have Y:=J.2.2;simp only[dpY,dpA];omega
theorem a16 {M:Nat}{q:Str}{r:Sy}(h1:G M q r):∃y,G (M+4) (rnd [110,111,116,32,64,98] [q]) y:=by
 rw[show rnd [110,111,116,32,64,98] [q]=[110,111,116,32,40]++(q++([41])) by kernel_rfl];refine⟨.app (.nm 1 [110,111,116]) (.br r),⟨ε 1,rfl,.inl rfl,h1.1⟩,LxD.eq (ts:=[nmT 1 [110,111,116],syT bI]++(tkY r++([syT c6]))) ((aP 60 _ _ (by kernel_rfl)).appD (h1.2.1.appD ⟨_,_,rfl,rfl⟩ (bC 60 _ _ (by kernel_rfl)))) (by simp only[tkY,Ad,Ak]),?_⟩;have u:=h1.2.2;simp only[dpY];omega
theorem a15 {M:Nat}{q r:Str}{u B:Sy}(h1:G M q u) (h2:G M r B):∃y,G (M+4) (rnd [97,110,100,32,64,98,32,64,98] [q,r]) y:=by
 rw[show rnd [97,110,100,32,64,98,32,64,98] [q,r]=[97,110,100,32,40]++(q++([41,32,40]++(r++([41])))) by kernel_rfl];refine⟨.app (.app (.nm 1 [97,110,100]) (.br u)) (.br B),⟨le_refl 1,rfl,⟨ε 1,rfl,.inl rfl,h1.1⟩,h2.1⟩,LxD.eq (ts:=[nmT 1 [97,110,100],syT bI]++(tkY u++([syT c6,syT bI]++(tkY B++([syT c6]))))) ((aP 60 _ _ (by kernel_rfl)).appD (h1.2.1.appD ⟨_,_,rfl,rfl⟩ ((aP 60 _ _ (by kernel_rfl)).appD (h2.2.1.appD ⟨_,_,rfl,rfl⟩ (bC 60 _ _ (by kernel_rfl)))))) (by simp only[tkY,Ad,Ak,Ae]),?_⟩;have E:=h1.2.2;have I:=h2.2.2;simp only[dpY];omega
theorem a14 {M:Nat}{q r:Str}{u B:Sy}(h1:G M q u) (h2:G M r B):∃y,G (M+4) (rnd [115,97,109,101,32,64,105,32,64,105] [q,r]) y:=by
 rw[show rnd [115,97,109,101,32,64,105,32,64,105] [q,r]=[115,97,109,101,32,40]++(q++([41,32,40]++(r++([41])))) by kernel_rfl];refine⟨.app (.app (.nm 1 [115,97,109,101]) (.br u)) (.br B),⟨le_refl 1,rfl,⟨ε 1,rfl,.inl rfl,h1.1⟩,h2.1⟩,LxD.eq (ts:=[nmT 1 [115,97,109,101],syT bI]++(tkY u++([syT c6,syT bI]++(tkY B++([syT c6]))))) ((aP 60 _ _ (by kernel_rfl)).appD (h1.2.1.appD ⟨_,_,rfl,rfl⟩ ((aP 60 _ _ (by kernel_rfl)).appD (h2.2.1.appD ⟨_,_,rfl,rfl⟩ (bC 60 _ _ (by kernel_rfl)))))) (by simp only[tkY,Ad,Ak,Ae]),?_⟩;have E:=h1.2.2;have I:=h2.2.2;simp only[dpY];omega
theorem a13 {M:Nat}{q r:Str}{u B:Sy}(h1:G M q u) (h2:G M r B):∃y,G (M+4) (rnd [115,97,109,101,32,64,108,32,64,108] [q,r]) y:=by
 rw[show rnd [115,97,109,101,32,64,108,32,64,108] [q,r]=[115,97,109,101,32,40]++(q++([41,32,40]++(r++([41])))) by kernel_rfl];refine⟨.app (.app (.nm 1 [115,97,109,101]) (.br u)) (.br B),⟨le_refl 1,rfl,⟨ε 1,rfl,.inl rfl,h1.1⟩,h2.1⟩,LxD.eq (ts:=[nmT 1 [115,97,109,101],syT bI]++(tkY u++([syT c6,syT bI]++(tkY B++([syT c6]))))) ((aP 60 _ _ (by kernel_rfl)).appD (h1.2.1.appD ⟨_,_,rfl,rfl⟩ ((aP 60 _ _ (by kernel_rfl)).appD (h2.2.1.appD ⟨_,_,rfl,rfl⟩ (bC 60 _ _ (by kernel_rfl)))))) (by simp only[tkY,Ad,Ak,Ae]),?_⟩;have E:=h1.2.2;have I:=h2.2.2;simp only[dpY];omega
theorem a11 {M:Nat}{q r:Str}{u B:Sy}(h1:G M q u) (h2:G M r B):∃y,G (M+4) (rnd [115,97,109,101,32,64,98,32,64,98] [q,r]) y:=by
 rw[show rnd [115,97,109,101,32,64,98,32,64,98] [q,r]=[115,97,109,101,32,40]++(q++([41,32,40]++(r++([41])))) by kernel_rfl];refine⟨.app (.app (.nm 1 [115,97,109,101]) (.br u)) (.br B),⟨le_refl 1,rfl,⟨ε 1,rfl,.inl rfl,h1.1⟩,h2.1⟩,LxD.eq (ts:=[nmT 1 [115,97,109,101],syT bI]++(tkY u++([syT c6,syT bI]++(tkY B++([syT c6]))))) ((aP 60 _ _ (by kernel_rfl)).appD (h1.2.1.appD ⟨_,_,rfl,rfl⟩ ((aP 60 _ _ (by kernel_rfl)).appD (h2.2.1.appD ⟨_,_,rfl,rfl⟩ (bC 60 _ _ (by kernel_rfl)))))) (by simp only[tkY,Ad,Ak,Ae]),?_⟩;have E:=h1.2.2;have I:=h2.2.2;simp only[dpY];omega
theorem a10 {M:Nat}{q r:Str}{u B:Sy}(h1:G M q u) (h2:G M r B):∃y,G (M+4) (rnd [109,101,109,98,101,114,32,64,105,32,64,108] [q,r]) y:=by
 rw[show rnd [109,101,109,98,101,114,32,64,105,32,64,108] [q,r]=[109,101,109,98,101,114,32,40]++(q++([41,32,40]++(r++([41])))) by kernel_rfl];refine⟨.app (.app (.nm 1 [109,101,109,98,101,114]) (.br u)) (.br B),⟨le_refl 1,rfl,⟨ε 1,rfl,.inl rfl,h1.1⟩,h2.1⟩,LxD.eq (ts:=[nmT 1 [109,101,109,98,101,114],syT bI]++(tkY u++([syT c6,syT bI]++(tkY B++([syT c6]))))) ((aP 60 _ _ (by kernel_rfl)).appD (h1.2.1.appD ⟨_,_,rfl,rfl⟩ ((aP 60 _ _ (by kernel_rfl)).appD (h2.2.1.appD ⟨_,_,rfl,rfl⟩ (bC 60 _ _ (by kernel_rfl)))))) (by simp only[tkY,Ad,Ak,Ae]),?_⟩;have E:=h1.2.2;have I:=h2.2.2;simp only[dpY];omega
theorem a1z {M:Nat}{q:Str}{r:Sy}(h1:G M q r):∃y,G (M+4) (rnd [101,118,101,110,32,64,105] [q]) y:=by
 rw[show rnd [101,118,101,110,32,64,105] [q]=[101,118,101,110,32,40]++(q++([41])) by kernel_rfl];refine⟨.app (.nm 1 [101,118,101,110]) (.br r),⟨ε 1,rfl,.inl rfl,h1.1⟩,LxD.eq (ts:=[nmT 1 [101,118,101,110],syT bI]++(tkY r++([syT c6]))) ((aP 60 _ _ (by kernel_rfl)).appD (h1.2.1.appD ⟨_,_,rfl,rfl⟩ (bC 60 _ _ (by kernel_rfl)))) (by simp only[tkY,Ad,Ak]),?_⟩;have u:=h1.2.2;simp only[dpY];omega
theorem a1y {M:Nat}{q r:Str}{u B:Sy}(h1:G M q u) (h2:G M r B):∃y,G (M+4) (rnd [108,101,115,115,32,64,105,32,64,105] [q,r]) y:=by
 rw[show rnd [108,101,115,115,32,64,105,32,64,105] [q,r]=[108,101,115,115,32,40]++(q++([41,32,40]++(r++([41])))) by kernel_rfl];refine⟨.app (.app (.nm 1 [108,101,115,115]) (.br u)) (.br B),⟨le_refl 1,rfl,⟨ε 1,rfl,.inl rfl,h1.1⟩,h2.1⟩,LxD.eq (ts:=[nmT 1 [108,101,115,115],syT bI]++(tkY u++([syT c6,syT bI]++(tkY B++([syT c6]))))) ((aP 60 _ _ (by kernel_rfl)).appD (h1.2.1.appD ⟨_,_,rfl,rfl⟩ ((aP 60 _ _ (by kernel_rfl)).appD (h2.2.1.appD ⟨_,_,rfl,rfl⟩ (bC 60 _ _ (by kernel_rfl)))))) (by simp only[tkY,Ad,Ak,Ae]),?_⟩;have E:=h1.2.2;have I:=h2.2.2;simp only[dpY];omega
theorem a1x {M:Nat}{q:Str}{r:Sy}(h1:G M q r):∃y,G (M+4) (rnd [105,100,32,64,98] [q]) y:=by
 rw[show rnd [105,100,32,64,98] [q]=[105,100,32,40]++(q++([41])) by kernel_rfl];refine⟨.app (.nm 1 [105,100]) (.br r),⟨ε 1,rfl,.inl rfl,h1.1⟩,LxD.eq (ts:=[nmT 1 [105,100],syT bI]++(tkY r++([syT c6]))) ((aP 60 _ _ (by kernel_rfl)).appD (h1.2.1.appD ⟨_,_,rfl,rfl⟩ (bC 60 _ _ (by kernel_rfl)))) (by simp only[tkY,Ad,Ak]),?_⟩;have u:=h1.2.2;simp only[dpY];omega
theorem a1w {M:Nat}{q r:Str}{u B:Sy}(h1:G M q u) (h2:G M r B):∃y,G (M+4) (rnd [107,32,64,98,32,64,105] [q,r]) y:=by
 rw[show rnd [107,32,64,98,32,64,105] [q,r]=[107,32,40]++(q++([41,32,40]++(r++([41])))) by kernel_rfl];refine⟨.app (.app (.nm 1 [107]) (.br u)) (.br B),⟨le_refl 1,rfl,⟨ε 1,rfl,.inl rfl,h1.1⟩,h2.1⟩,LxD.eq (ts:=[nmT 1 [107],syT bI]++(tkY u++([syT c6,syT bI]++(tkY B++([syT c6]))))) ((aP 60 _ _ (by kernel_rfl)).appD (h1.2.1.appD ⟨_,_,rfl,rfl⟩ ((aP 60 _ _ (by kernel_rfl)).appD (h2.2.1.appD ⟨_,_,rfl,rfl⟩ (bC 60 _ _ (by kernel_rfl)))))) (by simp only[tkY,Ad,Ak,Ae]),?_⟩;have E:=h1.2.2;have I:=h2.2.2;simp only[dpY];omega
theorem a1v {M:Nat}:∃y,G (M+4) (rnd [40,78,32,58,32,76,32,73,110,116,41] []) y:=by
 rw[show rnd [40,78,32,58,32,76,32,73,110,116,41] []=[40,78,32,58,32,76,32,73,110,116,41] by kernel_rfl];exact⟨.br (.ann (.nm 2 [78]) vJ aMp),⟨ε 1,.inr rfl,aRh⟩,LxD.eq (ts:=[syT bI,nmT 2 [78],syT dR,nmT 2 [76],nmT 2 [73,110,116],syT c6]) (bC 60 _ _ (by kernel_rfl)) rfl,le_trans (show dpY (.br (.ann (.nm 2 [78]) vJ aMp))≤4 by decide) (C9 4 M)⟩
theorem a1u {M:Nat}:∃y,G (M+4) (rnd [67,32,49,32,40,67,32,50,32,78,41] []) y:=by
 rw[show rnd [67,32,49,32,40,67,32,50,32,78,41] []=[67,32,49,32,40,67,32,50,32,78,41] by kernel_rfl];exact⟨.app (.app (.nm 2 [67]) (.num 1 [49])) (.br (.app (.app (.nm 2 [67]) (.num 2 [50])) (.nm 2 [78]))),⟨le_refl 1,rfl,⟨ε 1,rfl,.inr rfl,trivial⟩,⟨le_refl 1,rfl,⟨ε 1,rfl,.inr rfl,trivial⟩,.inr rfl⟩⟩,LxD.eq (ts:=[nmT 2 [67],⟨3,[49],1,0⟩,syT bI,nmT 2 [67],⟨3,[50],2,0⟩,nmT 2 [78],syT c6]) (bC 60 _ _ (by kernel_rfl)) rfl,le_trans (show dpY (.app (.app (.nm 2 [67]) (.num 1 [49])) (.br (.app (.app (.nm 2 [67]) (.num 2 [50])) (.nm 2 [78]))))≤4 by decide) (C9 4 M)⟩
theorem a1t {M:Nat}{q r:Str}{u B:Sy}(h1:G M q u) (h2:G M r B):∃y,G (M+4) (rnd [67,32,64,105,32,64,108] [q,r]) y:=by
 rw[show rnd [67,32,64,105,32,64,108] [q,r]=[67,32,40]++(q++([41,32,40]++(r++([41])))) by kernel_rfl];refine⟨.app (.app (.nm 2 [67]) (.br u)) (.br B),⟨le_refl 1,rfl,⟨ε 1,rfl,.inr rfl,h1.1⟩,h2.1⟩,LxD.eq (ts:=[nmT 2 [67],syT bI]++(tkY u++([syT c6,syT bI]++(tkY B++([syT c6]))))) ((aP 60 _ _ (by kernel_rfl)).appD (h1.2.1.appD ⟨_,_,rfl,rfl⟩ ((aP 60 _ _ (by kernel_rfl)).appD (h2.2.1.appD ⟨_,_,rfl,rfl⟩ (bC 60 _ _ (by kernel_rfl)))))) (by simp only[tkY,Ad,Ak,Ae]),?_⟩;have E:=h1.2.2;have I:=h2.2.2;simp only[dpY];omega
theorem a1s {M:Nat}{q r:Str}{u B:Sy}(h1:G M q u) (h2:G M r B):∃y,G (M+4) (rnd [97,112,112,101,110,100,32,64,108,32,64,108] [q,r]) y:=by
 rw[show rnd [97,112,112,101,110,100,32,64,108,32,64,108] [q,r]=[97,112,112,101,110,100,32,40]++(q++([41,32,40]++(r++([41])))) by kernel_rfl];refine⟨.app (.app (.nm 1 [97,112,112,101,110,100]) (.br u)) (.br B),⟨le_refl 1,rfl,⟨ε 1,rfl,.inl rfl,h1.1⟩,h2.1⟩,LxD.eq (ts:=[nmT 1 [97,112,112,101,110,100],syT bI]++(tkY u++([syT c6,syT bI]++(tkY B++([syT c6]))))) ((aP 60 _ _ (by kernel_rfl)).appD (h1.2.1.appD ⟨_,_,rfl,rfl⟩ ((aP 60 _ _ (by kernel_rfl)).appD (h2.2.1.appD ⟨_,_,rfl,rfl⟩ (bC 60 _ _ (by kernel_rfl)))))) (by simp only[tkY,Ad,Ak,Ae]),?_⟩;have E:=h1.2.2;have I:=h2.2.2;simp only[dpY];omega
theorem a1r {M:Nat}{q r:Str}{u B:Sy}(h1:G M q u) (h2:G M r B):∃y,G (M+4) (rnd [109,97,112,32,40,97,100,100,32,64,105,41,32,64,108] [q,r]) y:=by
 rw[show rnd [109,97,112,32,40,97,100,100,32,64,105,41,32,64,108] [q,r]=[109,97,112,32,40,97,100,100,32,40]++(q++([41,41,32,40]++(r++([41])))) by kernel_rfl];refine⟨.app (.app (.nm 1 [109,97,112]) (.br (.app (.nm 1 [97,100,100]) (.br u)))) (.br B),⟨le_refl 1,rfl,⟨ε 1,rfl,.inl rfl,⟨ε 1,rfl,.inl rfl,h1.1⟩⟩,h2.1⟩,LxD.eq (ts:=[nmT 1 [109,97,112],syT bI,nmT 1 [97,100,100],syT bI]++(tkY u++([syT c6,syT c6,syT bI]++(tkY B++([syT c6]))))) ((aP 60 _ _ (by kernel_rfl)).appD (h1.2.1.appD ⟨_,_,rfl,rfl⟩ ((aP 60 _ _ (by kernel_rfl)).appD (h2.2.1.appD ⟨_,_,rfl,rfl⟩ (bC 60 _ _ (by kernel_rfl)))))) (by simp only[tkY,Ad,Ak,Ae]),?_⟩;have E:=h1.2.2;have I:=h2.2.2;simp only[dpY];omega
theorem a1q {M:Nat}{q:Str}{r:Sy}(h1:G M q r):∃y,G (M+4) (rnd [116,97,107,101,32,50,32,40,102,114,111,109,32,64,105,41] [q]) y:=by
 rw[show rnd [116,97,107,101,32,50,32,40,102,114,111,109,32,64,105,41] [q]=[116,97,107,101,32,50,32,40,102,114,111,109,32,40]++(q++([41,41])) by kernel_rfl];refine⟨.app (.app (.nm 1 [116,97,107,101]) (.num 2 [50])) (.br (.app (.nm 1 [102,114,111,109]) (.br r))),⟨le_refl 1,rfl,⟨ε 1,rfl,.inl rfl,trivial⟩,⟨ε 1,rfl,.inl rfl,h1.1⟩⟩,LxD.eq (ts:=[nmT 1 [116,97,107,101],⟨3,[50],2,0⟩,syT bI,nmT 1 [102,114,111,109],syT bI]++(tkY r++([syT c6,syT c6]))) ((aP 60 _ _ (by kernel_rfl)).appD (h1.2.1.appD ⟨_,_,rfl,rfl⟩ (bC 60 _ _ (by kernel_rfl)))) (by simp only[tkY,Ad,Ak,Ae]),?_⟩;have u:=h1.2.2;simp only[dpY];omega
theorem a1p {M:Nat}{q r:Str}{u B:Sy}(h1:G M q u) (h2:G M r B):∃y,G (M+4) (rnd [116,97,107,101,32,64,105,32,64,108] [q,r]) y:=by
 rw[show rnd [116,97,107,101,32,64,105,32,64,108] [q,r]=[116,97,107,101,32,40]++(q++([41,32,40]++(r++([41])))) by kernel_rfl];refine⟨.app (.app (.nm 1 [116,97,107,101]) (.br u)) (.br B),⟨le_refl 1,rfl,⟨ε 1,rfl,.inl rfl,h1.1⟩,h2.1⟩,LxD.eq (ts:=[nmT 1 [116,97,107,101],syT bI]++(tkY u++([syT c6,syT bI]++(tkY B++([syT c6]))))) ((aP 60 _ _ (by kernel_rfl)).appD (h1.2.1.appD ⟨_,_,rfl,rfl⟩ ((aP 60 _ _ (by kernel_rfl)).appD (h2.2.1.appD ⟨_,_,rfl,rfl⟩ (bC 60 _ _ (by kernel_rfl)))))) (by simp only[tkY,Ad,Ak,Ae]),?_⟩;have E:=h1.2.2;have I:=h2.2.2;simp only[dpY];omega
theorem a1o {M:Nat}{q:Str}{r:Sy}(h1:G M q r):∃y,G (M+4) (rnd [105,100,32,64,108] [q]) y:=by
 rw[show rnd [105,100,32,64,108] [q]=[105,100,32,40]++(q++([41])) by kernel_rfl];refine⟨.app (.nm 1 [105,100]) (.br r),⟨ε 1,rfl,.inl rfl,h1.1⟩,LxD.eq (ts:=[nmT 1 [105,100],syT bI]++(tkY r++([syT c6]))) ((aP 60 _ _ (by kernel_rfl)).appD (h1.2.1.appD ⟨_,_,rfl,rfl⟩ (bC 60 _ _ (by kernel_rfl)))) (by simp only[tkY,Ad,Ak]),?_⟩;have u:=h1.2.2;simp only[dpY];omega
theorem a1n {M:Nat}{q r:Str}{u B:Sy}(h1:G M q u) (h2:G M r B):∃y,G (M+4) (rnd [116,119,105,99,101,32,40,67,32,64,105,41,32,64,108] [q,r]) y:=by
 rw[show rnd [116,119,105,99,101,32,40,67,32,64,105,41,32,64,108] [q,r]=[116,119,105,99,101,32,40,67,32,40]++(q++([41,41,32,40]++(r++([41])))) by kernel_rfl];refine⟨.app (.app (.nm 1 [116,119,105,99,101]) (.br (.app (.nm 2 [67]) (.br u)))) (.br B),⟨le_refl 1,rfl,⟨ε 1,rfl,.inl rfl,⟨ε 1,rfl,.inr rfl,h1.1⟩⟩,h2.1⟩,LxD.eq (ts:=[nmT 1 [116,119,105,99,101],syT bI,nmT 2 [67],syT bI]++(tkY u++([syT c6,syT c6,syT bI]++(tkY B++([syT c6]))))) ((aP 60 _ _ (by kernel_rfl)).appD (h1.2.1.appD ⟨_,_,rfl,rfl⟩ ((aP 60 _ _ (by kernel_rfl)).appD (h2.2.1.appD ⟨_,_,rfl,rfl⟩ (bC 60 _ _ (by kernel_rfl)))))) (by simp only[tkY,Ad,Ak,Ae]),?_⟩;have E:=h1.2.2;have I:=h2.2.2;simp only[dpY];omega
theorem a1m {M:Nat}{q:Str}{r:Sy}(h1:G M q r):∃y,G (M+4) (rnd [67,32,64,105,32,78] [q]) y:=by
 rw[show rnd [67,32,64,105,32,78] [q]=[67,32,40]++(q++([41,32,78])) by kernel_rfl];refine⟨.app (.app (.nm 2 [67]) (.br r)) (.nm 2 [78]),⟨le_refl 1,rfl,⟨ε 1,rfl,.inr rfl,h1.1⟩,.inr rfl⟩,LxD.eq (ts:=[nmT 2 [67],syT bI]++(tkY r++([syT c6,nmT 2 [78]]))) ((aP 60 _ _ (by kernel_rfl)).appD (h1.2.1.appD ⟨_,_,rfl,rfl⟩ (bC 60 _ _ (by kernel_rfl)))) (by simp only[tkY,Ad,Ak,Ae]),?_⟩;have u:=h1.2.2;simp only[dpY];omega
theorem zer {α:Type}{l:List α}(h:l.length=0):l=[]:=List.length_eq_zero_iff.1 h
theorem one {α:Type}{l:List α}(h:l.length=1):∃a,l=[a]:=List.length_eq_one_iff.1 h
theorem two {α:Type}{l:List α}(h:l.length=2):∃a b,l=[a,b]:=match l,h with
 | [a,b],_=>⟨a,b,rfl⟩
theorem thr {α:Type}{l:List α}(h:l.length=3):∃a b c,l=[a,b,c]:=match l,h with
 | [a,b,c],_=>⟨a,b,c,rfl⟩
def x8:List Str:=[[48],[49],[55],[120]]
def tx0:List Str:=[[51],[120],[97,100,100,32,64,105,32,64,105],[109,117,108,32,64,105,32,64,105],[115,117,98,32,64,105,32,64,105],[100,105,118,32,64,105,32,64,105],[99,97,115,101,32,64,98,32,111,102,32,123,32,84,114,117,101,32,45,62,32,64,105,32,59,32,70,97,108,115,101,32,45,62,32,64,105,32,125],[108,101,116,32,123,32,121,32,61,32,64,105,32,59,32,122,32,61,32,97,100,100,32,121,32,64,105,32,125,32,105,110,32,122],[40,92,32,121,32,45,62,32,97,100,100,32,121,32,64,105,41,32,64,105],[99,97,115,101,32,64,105,32,111,102,32,123,32,48,32,45,62,32,64,105,32,59,32,49,32,45,62,32,53,32,59,32,110,32,45,62,32,110,32,125],[115,117,109,32,64,108],[105,100,32,64,105],[107,32,64,105,32,64,98],[98,105,103,103,101,115,116,32,64,108],[99,97,115,101,32,64,108,32,111,102,32,123,32,78,32,45,62,32,64,105,32,59,32,67,32,97,32,98,32,45,62,32,97,32,125],[99,111,109,112,32,40,97,100,100,32,64,105,41,32,40,115,117,98,32,64,105,41,32,64,105],[116,119,105,99,101,32,40,97,100,100,32,64,105,41,32,64,105],[115,105,122,101,32,40,78,111,100,101,32,76,101,97,102,32,64,105,32,76,101,97,102,41],[99,97,115,101,32,115,119,97,112,32,40,80,32,64,98,32,64,105,41,32,111,102,32,123,32,80,32,97,32,98,32,45,62,32,97,32,125],[99,97,115,101,32,109,97,112,32,40,97,100,100,32,64,105,41,32,40,89,101,115,32,64,105,41,32,111,102,32,123,32,78,111,32,45,62,32,48,32,59,32,89,101,115,32,97,32,45,62,32,97,32,125],[99,97,115,101,32,108,101,115,115,32,64,105,32,116,111,112,32,111,102,32,123,32,84,114,117,101,32,45,62,32,64,105,32,59,32,70,97,108,115,101,32,45,62,32,116,111,112,32,125]]
def x7:List Str:=[[84,114,117,101],[70,97,108,115,101]]
def tx1:List Str:=[[84,114,117,101],[101,113,32,64,105,32,64,105],[108,116,32,64,105,32,64,105],[99,97,115,101,32,64,98,32,111,102,32,123,32,84,114,117,101,32,45,62,32,64,98,32,59,32,70,97,108,115,101,32,45,62,32,64,98,32,125],[110,111,116,32,64,98],[97,110,100,32,64,98,32,64,98],[115,97,109,101,32,64,105,32,64,105],[115,97,109,101,32,64,108,32,64,108],[115,97,109,101,32,64,98,32,64,98],[109,101,109,98,101,114,32,64,105,32,64,108],[101,118,101,110,32,64,105],[108,101,115,115,32,64,105,32,64,105],[105,100,32,64,98],[107,32,64,98,32,64,105]]
def x6:List Str:=[[40,78,32,58,32,76,32,73,110,116,41],[67,32,49,32,40,67,32,50,32,78,41]]
def tx2:List Str:=[[40,78,32,58,32,76,32,73,110,116,41],[67,32,64,105,32,64,108],[97,112,112,101,110,100,32,64,108,32,64,108],[109,97,112,32,40,97,100,100,32,64,105,41,32,64,108],[116,97,107,101,32,50,32,40,102,114,111,109,32,64,105,41],[116,97,107,101,32,64,105,32,64,108],[105,100,32,64,108],[116,119,105,99,101,32,40,67,32,64,105,41,32,64,108]]
def aT7:List Str:=[[40,78,32,58,32,76,32,73,110,116,41],[67,32,64,105,32,64,108],[97,112,112,101,110,100,32,64,108,32,64,108],[109,97,112,32,40,97,100,100,32,64,105,41,32,64,108],[67,32,64,105,32,78],[116,97,107,101,32,64,105,32,64,108],[105,100,32,64,108],[116,119,105,99,101,32,40,67,32,64,105,41,32,64,108]]
def tmL:List Str:=[
 [48],
 [49],
 [55],
 [120],
 [51],
 [97,100,100,32,64,105,32,64,105],
 [109,117,108,32,64,105,32,64,105],
 [115,117,98,32,64,105,32,64,105],
 [100,105,118,32,64,105,32,64,105],
 [99,97,115,101,32,64,98,32,111,102,32,123,32,84,114,117,101,32,45,62,32,64,105,32,59,32,70,97,108,115,101,32,45,62,32,64,105,32,125],
 [108,101,116,32,123,32,121,32,61,32,64,105,32,59,32,122,32,61,32,97,100,100,32,121,32,64,105,32,125,32,105,110,32,122],
 [40,92,32,121,32,45,62,32,97,100,100,32,121,32,64,105,41,32,64,105],
 [99,97,115,101,32,64,105,32,111,102,32,123,32,48,32,45,62,32,64,105,32,59,32,49,32,45,62,32,53,32,59,32,110,32,45,62,32,110,32,125],
 [115,117,109,32,64,108],
 [105,100,32,64,105],
 [107,32,64,105,32,64,98],
 [98,105,103,103,101,115,116,32,64,108],
 [99,97,115,101,32,64,108,32,111,102,32,123,32,78,32,45,62,32,64,105,32,59,32,67,32,97,32,98,32,45,62,32,97,32,125],
 [99,111,109,112,32,40,97,100,100,32,64,105,41,32,40,115,117,98,32,64,105,41,32,64,105],
 [116,119,105,99,101,32,40,97,100,100,32,64,105,41,32,64,105],
 [115,105,122,101,32,40,78,111,100,101,32,76,101,97,102,32,64,105,32,76,101,97,102,41],
 [99,97,115,101,32,115,119,97,112,32,40,80,32,64,98,32,64,105,41,32,111,102,32,123,32,80,32,97,32,98,32,45,62,32,97,32,125],
 [99,97,115,101,32,109,97,112,32,40,97,100,100,32,64,105,41,32,40,89,101,115,32,64,105,41,32,111,102,32,123,32,78,111,32,45,62,32,48,32,59,32,89,101,115,32,97,32,45,62,32,97,32,125],
 [99,97,115,101,32,108,101,115,115,32,64,105,32,116,111,112,32,111,102,32,123,32,84,114,117,101,32,45,62,32,64,105,32,59,32,70,97,108,115,101,32,45,62,32,116,111,112,32,125],
 [84,114,117,101],
 [70,97,108,115,101],
 [101,113,32,64,105,32,64,105],
 [108,116,32,64,105,32,64,105],
 [99,97,115,101,32,64,98,32,111,102,32,123,32,84,114,117,101,32,45,62,32,64,98,32,59,32,70,97,108,115,101,32,45,62,32,64,98,32,125],
 [110,111,116,32,64,98],
 [97,110,100,32,64,98,32,64,98],
 [115,97,109,101,32,64,105,32,64,105],
 [115,97,109,101,32,64,108,32,64,108],
 [115,97,109,101,32,64,98,32,64,98],
 [109,101,109,98,101,114,32,64,105,32,64,108],
 [101,118,101,110,32,64,105],
 [108,101,115,115,32,64,105,32,64,105],
 [105,100,32,64,98],
 [107,32,64,98,32,64,105],
 [40,78,32,58,32,76,32,73,110,116,41],
 [67,32,49,32,40,67,32,50,32,78,41],
 [67,32,64,105,32,64,108],
 [97,112,112,101,110,100,32,64,108,32,64,108],
 [109,97,112,32,40,97,100,100,32,64,105,41,32,64,108],
 [116,97,107,101,32,50,32,40,102,114,111,109,32,64,105,41],
 [116,97,107,101,32,64,105,32,64,108],
 [105,100,32,64,108],
 [116,119,105,99,101,32,40,67,32,64,105,41,32,64,108],
 [67,32,64,105,32,78]]
def gM (s:Str):Prop:=∀(M:Nat) (es:List (Str×Sy)),es.length=nh s→(∀e∈es,G M e.1 e.2)→∃y,G (M+4) (rnd s (es.map (·.1))) y
theorem tn0:gM [48]:=fun M es hl _=>by rw[zer (hl.trans (by kernel_rfl))];exact tm0
theorem tn1:gM [49]:=fun M es hl _=>by rw[zer (hl.trans (by kernel_rfl))];exact tm1
theorem tn2:gM [55]:=fun M es hl _=>by rw[zer (hl.trans (by kernel_rfl))];exact tm2
theorem tn3:gM [120]:=fun M es hl _=>by rw[zer (hl.trans (by kernel_rfl))];exact tm3
theorem tn4:gM [51]:=fun M es hl _=>by rw[zer (hl.trans (by kernel_rfl))];exact tm4
theorem tn5:gM [97,100,100,32,64,105,32,64,105]:=fun M es hl q=>by obtain⟨a,b,rfl⟩:=two (hl.trans (by kernel_rfl));exact tm5 (q a (.head _)) (q b (.tail _ (.head _)))
theorem tn6:gM [109,117,108,32,64,105,32,64,105]:=fun M es hl q=>by obtain⟨a,b,rfl⟩:=two (hl.trans (by kernel_rfl));exact tm6 (q a (.head _)) (q b (.tail _ (.head _)))
theorem tn7:gM [115,117,98,32,64,105,32,64,105]:=fun M es hl q=>by obtain⟨a,b,rfl⟩:=two (hl.trans (by kernel_rfl));exact tm7 (q a (.head _)) (q b (.tail _ (.head _)))
theorem tn8:gM [100,105,118,32,64,105,32,64,105]:=fun M es hl q=>by obtain⟨a,b,rfl⟩:=two (hl.trans (by kernel_rfl));exact tm8 (q a (.head _)) (q b (.tail _ (.head _)))
theorem tn9:gM [99,97,115,101,32,64,98,32,111,102,32,123,32,84,114,117,101,32,45,62,32,64,105,32,59,32,70,97,108,115,101,32,45,62,32,64,105,32,125]:=fun M es hl q=>by obtain⟨a,b,c,rfl⟩:=thr (hl.trans (by kernel_rfl));exact tm9 (q a (.head _)) (q b (.tail _ (.head _))) (q c (.tail _ (.tail _ (.head _))))
theorem a1l:gM [108,101,116,32,123,32,121,32,61,32,64,105,32,59,32,122,32,61,32,97,100,100,32,121,32,64,105,32,125,32,105,110,32,122]:=fun M es hl q=>by obtain⟨a,b,rfl⟩:=two (hl.trans (by kernel_rfl));exact a2p (q a (.head _)) (q b (.tail _ (.head _)))
theorem a1k:gM [40,92,32,121,32,45,62,32,97,100,100,32,121,32,64,105,41,32,64,105]:=fun M es hl q=>by obtain⟨a,b,rfl⟩:=two (hl.trans (by kernel_rfl));exact a2o (q a (.head _)) (q b (.tail _ (.head _)))
theorem a1j:gM [99,97,115,101,32,64,105,32,111,102,32,123,32,48,32,45,62,32,64,105,32,59,32,49,32,45,62,32,53,32,59,32,110,32,45,62,32,110,32,125]:=fun M es hl q=>by obtain⟨a,b,rfl⟩:=two (hl.trans (by kernel_rfl));exact a2n (q a (.head _)) (q b (.tail _ (.head _)))
theorem a1i:gM [115,117,109,32,64,108]:=fun M es hl q=>by obtain⟨a,rfl⟩:=one (hl.trans (by kernel_rfl));exact a2m (q a (.head _))
theorem a1h:gM [105,100,32,64,105]:=fun M es hl q=>by obtain⟨a,rfl⟩:=one (hl.trans (by kernel_rfl));exact a2l (q a (.head _))
theorem a1g:gM [107,32,64,105,32,64,98]:=fun M es hl q=>by obtain⟨a,b,rfl⟩:=two (hl.trans (by kernel_rfl));exact a2k (q a (.head _)) (q b (.tail _ (.head _)))
theorem a1f:gM [98,105,103,103,101,115,116,32,64,108]:=fun M es hl q=>by obtain⟨a,rfl⟩:=one (hl.trans (by kernel_rfl));exact a2j (q a (.head _))
theorem a1e:gM [99,97,115,101,32,64,108,32,111,102,32,123,32,78,32,45,62,32,64,105,32,59,32,67,32,97,32,98,32,45,62,32,97,32,125]:=fun M es hl q=>by obtain⟨a,b,rfl⟩:=two (hl.trans (by kernel_rfl));exact a2i (q a (.head _)) (q b (.tail _ (.head _)))
theorem a1d:gM [99,111,109,112,32,40,97,100,100,32,64,105,41,32,40,115,117,98,32,64,105,41,32,64,105]:=fun M es hl q=>by obtain⟨a,b,c,rfl⟩:=thr (hl.trans (by kernel_rfl));exact a2h (q a (.head _)) (q b (.tail _ (.head _))) (q c (.tail _ (.tail _ (.head _))))
theorem a1c:gM [116,119,105,99,101,32,40,97,100,100,32,64,105,41,32,64,105]:=fun M es hl q=>by obtain⟨a,b,rfl⟩:=two (hl.trans (by kernel_rfl));exact a2g (q a (.head _)) (q b (.tail _ (.head _)))
theorem a1b:gM [115,105,122,101,32,40,78,111,100,101,32,76,101,97,102,32,64,105,32,76,101,97,102,41]:=fun M es hl q=>by obtain⟨a,rfl⟩:=one (hl.trans (by kernel_rfl));exact a2f (q a (.head _))
theorem a1a:gM [99,97,115,101,32,115,119,97,112,32,40,80,32,64,98,32,64,105,41,32,111,102,32,123,32,80,32,97,32,98,32,45,62,32,97,32,125]:=fun M es hl q=>by obtain⟨a,b,rfl⟩:=two (hl.trans (by kernel_rfl));exact a2e (q a (.head _)) (q b (.tail _ (.head _)))
theorem a09:gM [99,97,115,101,32,109,97,112,32,40,97,100,100,32,64,105,41,32,40,89,101,115,32,64,105,41,32,111,102,32,123,32,78,111,32,45,62,32,48,32,59,32,89,101,115,32,97,32,45,62,32,97,32,125]:=fun M es hl q=>by obtain⟨a,b,rfl⟩:=two (hl.trans (by kernel_rfl));exact a2d (q a (.head _)) (q b (.tail _ (.head _)))
theorem a08:gM [99,97,115,101,32,108,101,115,115,32,64,105,32,116,111,112,32,111,102,32,123,32,84,114,117,101,32,45,62,32,64,105,32,59,32,70,97,108,115,101,32,45,62,32,116,111,112,32,125]:=fun M es hl q=>by obtain⟨a,b,rfl⟩:=two (hl.trans (by kernel_rfl));exact a2c (q a (.head _)) (q b (.tail _ (.head _)))
theorem a07:gM [84,114,117,101]:=fun M es hl _=>by rw[zer (hl.trans (by kernel_rfl))];exact a2b
theorem a06:gM [70,97,108,115,101]:=fun M es hl _=>by rw[zer (hl.trans (by kernel_rfl))];exact a2a
theorem a05:gM [101,113,32,64,105,32,64,105]:=fun M es hl q=>by obtain⟨a,b,rfl⟩:=two (hl.trans (by kernel_rfl));exact a19 (q a (.head _)) (q b (.tail _ (.head _)))
theorem a04:gM [108,116,32,64,105,32,64,105]:=fun M es hl q=>by obtain⟨a,b,rfl⟩:=two (hl.trans (by kernel_rfl));exact a18 (q a (.head _)) (q b (.tail _ (.head _)))
theorem a03:gM [99,97,115,101,32,64,98,32,111,102,32,123,32,84,114,117,101,32,45,62,32,64,98,32,59,32,70,97,108,115,101,32,45,62,32,64,98,32,125]:=fun M es hl q=>by obtain⟨a,b,c,rfl⟩:=thr (hl.trans (by kernel_rfl));exact a17 (q a (.head _)) (q b (.tail _ (.head _))) (q c (.tail _ (.tail _ (.head _))))
theorem a02:gM [110,111,116,32,64,98]:=fun M es hl q=>by obtain⟨a,rfl⟩:=one (hl.trans (by kernel_rfl));exact a16 (q a (.head _))
theorem a01:gM [97,110,100,32,64,98,32,64,98]:=fun M es hl q=>by obtain⟨a,b,rfl⟩:=two (hl.trans (by kernel_rfl));exact a15 (q a (.head _)) (q b (.tail _ (.head _)))
theorem a00:gM [115,97,109,101,32,64,105,32,64,105]:=fun M es hl q=>by obtain⟨a,b,rfl⟩:=two (hl.trans (by kernel_rfl));exact a14 (q a (.head _)) (q b (.tail _ (.head _)))
theorem a0z:gM [115,97,109,101,32,64,108,32,64,108]:=fun M es hl q=>by obtain⟨a,b,rfl⟩:=two (hl.trans (by kernel_rfl));exact a13 (q a (.head _)) (q b (.tail _ (.head _)))
theorem a0y:gM [115,97,109,101,32,64,98,32,64,98]:=fun M es hl q=>by obtain⟨a,b,rfl⟩:=two (hl.trans (by kernel_rfl));exact a11 (q a (.head _)) (q b (.tail _ (.head _)))
theorem a0x:gM [109,101,109,98,101,114,32,64,105,32,64,108]:=fun M es hl q=>by obtain⟨a,b,rfl⟩:=two (hl.trans (by kernel_rfl));exact a10 (q a (.head _)) (q b (.tail _ (.head _)))
theorem a0w:gM [101,118,101,110,32,64,105]:=fun M es hl q=>by obtain⟨a,rfl⟩:=one (hl.trans (by kernel_rfl));exact a1z (q a (.head _))
theorem a0v:gM [108,101,115,115,32,64,105,32,64,105]:=fun M es hl q=>by obtain⟨a,b,rfl⟩:=two (hl.trans (by kernel_rfl));exact a1y (q a (.head _)) (q b (.tail _ (.head _)))
theorem a0u:gM [105,100,32,64,98]:=fun M es hl q=>by obtain⟨a,rfl⟩:=one (hl.trans (by kernel_rfl));exact a1x (q a (.head _))
theorem a0t:gM [107,32,64,98,32,64,105]:=fun M es hl q=>by obtain⟨a,b,rfl⟩:=two (hl.trans (by kernel_rfl));exact a1w (q a (.head _)) (q b (.tail _ (.head _)))
theorem a0s:gM [40,78,32,58,32,76,32,73,110,116,41]:=fun M es hl _=>by rw[zer (hl.trans (by kernel_rfl))];exact a1v
theorem a0r:gM [67,32,49,32,40,67,32,50,32,78,41]:=fun M es hl _=>by rw[zer (hl.trans (by kernel_rfl))];exact a1u
theorem a0q:gM [67,32,64,105,32,64,108]:=fun M es hl q=>by obtain⟨a,b,rfl⟩:=two (hl.trans (by kernel_rfl));exact a1t (q a (.head _)) (q b (.tail _ (.head _)))
theorem a0p:gM [97,112,112,101,110,100,32,64,108,32,64,108]:=fun M es hl q=>by obtain⟨a,b,rfl⟩:=two (hl.trans (by kernel_rfl));exact a1s (q a (.head _)) (q b (.tail _ (.head _)))
theorem a0o:gM [109,97,112,32,40,97,100,100,32,64,105,41,32,64,108]:=fun M es hl q=>by obtain⟨a,b,rfl⟩:=two (hl.trans (by kernel_rfl));exact a1r (q a (.head _)) (q b (.tail _ (.head _)))
theorem a0n:gM [116,97,107,101,32,50,32,40,102,114,111,109,32,64,105,41]:=fun M es hl q=>by obtain⟨a,rfl⟩:=one (hl.trans (by kernel_rfl));exact a1q (q a (.head _))
theorem a0m:gM [116,97,107,101,32,64,105,32,64,108]:=fun M es hl q=>by obtain⟨a,b,rfl⟩:=two (hl.trans (by kernel_rfl));exact a1p (q a (.head _)) (q b (.tail _ (.head _)))
theorem a0l:gM [105,100,32,64,108]:=fun M es hl q=>by obtain⟨a,rfl⟩:=one (hl.trans (by kernel_rfl));exact a1o (q a (.head _))
theorem a0k:gM [116,119,105,99,101,32,40,67,32,64,105,41,32,64,108]:=fun M es hl q=>by obtain⟨a,b,rfl⟩:=two (hl.trans (by kernel_rfl));exact a1n (q a (.head _)) (q b (.tail _ (.head _)))
theorem a0j:gM [67,32,64,105,32,78]:=fun M es hl q=>by obtain⟨a,rfl⟩:=one (hl.trans (by kernel_rfl));exact a1m (q a (.head _))
theorem aOr:∀s∈tmL,gM s:=Aj.2 ⟨tn0,Aj.2 ⟨tn1,Aj.2 ⟨tn2,Aj.2 ⟨tn3,Aj.2 ⟨tn4,Aj.2 ⟨tn5,Aj.2 ⟨tn6,Aj.2 ⟨tn7,Aj.2 ⟨tn8,Aj.2 ⟨tn9,Aj.2 ⟨a1l,Aj.2 ⟨a1k,Aj.2 ⟨a1j,Aj.2 ⟨a1i,Aj.2 ⟨a1h,Aj.2 ⟨a1g,Aj.2 ⟨a1f,Aj.2 ⟨a1e,Aj.2 ⟨a1d,Aj.2 ⟨a1c,Aj.2 ⟨a1b,Aj.2 ⟨a1a,Aj.2 ⟨a09,Aj.2 ⟨a08,Aj.2 ⟨a07,Aj.2 ⟨a06,Aj.2 ⟨a05,Aj.2 ⟨a04,Aj.2 ⟨a03,Aj.2 ⟨a02,Aj.2 ⟨a01,Aj.2 ⟨a00,Aj.2 ⟨a0z,Aj.2 ⟨a0y,Aj.2 ⟨a0x,Aj.2 ⟨a0w,Aj.2 ⟨a0v,Aj.2 ⟨a0u,Aj.2 ⟨a0t,Aj.2 ⟨a0s,Aj.2 ⟨a0r,Aj.2 ⟨a0q,Aj.2 ⟨a0p,Aj.2 ⟨a0o,Aj.2 ⟨a0n,Aj.2 ⟨a0m,Aj.2 ⟨a0l,Aj.2 ⟨a0k,Aj.2 ⟨a0j,fun _ h=>nomatch h⟩⟩⟩⟩⟩⟩⟩⟩⟩⟩⟩⟩⟩⟩⟩⟩⟩⟩⟩⟩⟩⟩⟩⟩⟩⟩⟩⟩⟩⟩⟩⟩⟩⟩⟩⟩⟩⟩⟩⟩⟩⟩⟩⟩⟩⟩⟩⟩⟩
theorem aUa:([x8,tx0,x7,tx1,x6,tx2,aT7].all fun l=>l.all fun s=>tmL.any fun t=>decide (t=s))=true:=by kernel_rfl
theorem aQh:(tmL.all fun s=>decide (s.length≤56)&&decide (nh s≤3))=true:=by kernel_rfl
theorem aIe:([x8,x7,x6].all fun l=>l.all fun s=>decide (s.length≤13)&&decide ((64:UInt8)∉s))=true:=by kernel_rfl
def aPc:List (Str×Int):=x8.zip [-1,-1,-1,-1]
def aZ7:List (Str×Int):=tx0.zip [-1,-1,-1,-1,-1,-1,-1,-1,-1,-1,16,18,19,24,0,20,26,25,27,12,9]
def aPb:List (Str×Int):=x7.zip [-1,-1]
def aZ6:List (Str×Int):=tx1.zip [-1,-1,-1,-1,13,14,5,7,6,17,23,9,18,19]
def aPa:List (Str×Int):=x6.zip [0,0]
def aT6:List (Str×Int):=tx2.zip [0,0,15,11,21,22,18,26]
def mM:List (Str×Int):=aT7.zip [0,0,15,11,0,22,18,26]
noncomputable def aYk:Code:=vV (vV (vV (vV (vV (vV (vV (vV (Tryz.f77.body.getD .skip))))))))
def FrE (h:List Bool) (kind deep:Nat) (z:List (Str×Int)):Prop:=∀(l:List Int) (i:Nat) (s:Str) (jj:Nat),AWp none Tryz.prog 107 (keys [(750,tkO l i)]) aYk (mk [(0,tkP),(1,fC h),(3,I .i64 (deep:Nat)),(9,cJ (z.map (·.1))),(10,.one (.c (.sl 1 ((z.map (·.2)).map kQ))))] [(750,tkO l i)]) (fun ex st=>(ex=.normal∨ex=.ret)∧Fin tr.flat Tryz.f77 st [(750,tkO l i)] (Go.AM.T s) [(750,tkO l jj)])→b9 Tryz.prog 77 [tkP,fC h,I .i64 (kind:Nat),I .i64 (deep:Nat)] [(750,tkO l i)] (Go.AM.T s) [(750,tkO l jj)]
theorem a25 {h:List Bool}{deep:Nat}(d3:decide ((deep:Int)<3)=true):FrE h 0 deep aZ7:=fun l i s r q=>by
 refine bP (n:=107) tok Tryz.func77 rfl rfl rfl ?_;exact sg rfl (sgh [(0,.all)] rfl (sgh [(0,.all)] rfl (aA (sgh [(2,.bv true),(5,.bv true)] rfl (aB rfl (fun _=>sgh [(0,.all)] rfl (ag [(0,.all)] rfl (aA (sg rfl (aB rfl (fun hb=>absurd hb (by decide)) (fun _=>aD (aA (sgh [(2,.bv false),(5,.bv false)] rfl (aB rfl nofun (fun _=>aD (aA (sg rfl (aB rfl (fun hb=>absurd hb (by decide)) (fun _=>aD (aA (sgh [(2,.bv false),(5,.bv false)] rfl (aB rfl nofun (fun _=>aD (AWp.sub sl q))))))))))))))))))) (fun hb=>absurd (hb.symm.trans d3) Bool.noConfusion))))))
theorem a23 {h:List Bool}{deep:Nat}(d3:decide ((deep:Int)<3)=false):FrE h 0 deep aPc:=fun l i s r q=>by
 refine bP (n:=107) tok Tryz.func77 rfl rfl rfl ?_;exact sg rfl (sgh [(0,.all)] rfl (sgh [(0,.all)] rfl (aA (sgh [(2,.bv true),(5,.bv true)] rfl (aB rfl (fun hb=>absurd (hb.symm.trans d3) Bool.noConfusion) (fun _=>aD (aA (sg rfl (aB rfl (fun hb=>absurd hb (by decide)) (fun _=>aD (aA (sgh [(2,.bv false),(5,.bv false)] rfl (aB rfl nofun (fun _=>aD (aA (sg rfl (aB rfl (fun hb=>absurd hb (by decide)) (fun _=>aD (aA (sgh [(2,.bv false),(5,.bv false)] rfl (aB rfl nofun (fun _=>aD (AWp.sub sl q)))))))))))))))))))))))
theorem a2z {h:List Bool}{deep:Nat}(d3:decide ((deep:Int)<3)=true):FrE h 1 deep aZ6:=fun l i s r q=>by
 refine bP (n:=107) tok Tryz.func77 rfl rfl rfl ?_;exact sg rfl (sgh [(0,.all)] rfl (sgh [(0,.all)] rfl (aA (sgh [(2,.bv false),(5,.bv false)] rfl (aB rfl nofun (fun _=>aD (aA (sg rfl (aB rfl (fun _=>sgh [(0,.all)] rfl (ag [(0,.all)] rfl (aA (sgh [(2,.bv true),(5,.bv true)] rfl (aB rfl (fun _=>sgh [(0,.all)] rfl (ag [(0,.all)] rfl (aA (sg rfl (aB rfl (fun hb=>absurd hb (by decide)) (fun _=>aD (aA (sgh [(2,.bv false),(5,.bv false)] rfl (aB rfl nofun (fun _=>aD (AWp.sub sl q))))))))))) (fun hb=>absurd (hb.symm.trans d3) Bool.noConfusion)))))) (fun hb=>absurd hb (by decide)))))))))))
theorem a2y {h:List Bool}{deep:Nat}(d3:decide ((deep:Int)<3)=false):FrE h 1 deep aPb:=fun l i s r q=>by
 refine bP (n:=107) tok Tryz.func77 rfl rfl rfl ?_;exact sg rfl (sgh [(0,.all)] rfl (sgh [(0,.all)] rfl (aA (sgh [(2,.bv false),(5,.bv false)] rfl (aB rfl nofun (fun _=>aD (aA (sg rfl (aB rfl (fun _=>sgh [(0,.all)] rfl (ag [(0,.all)] rfl (aA (sgh [(2,.bv true),(5,.bv true)] rfl (aB rfl (fun hb=>absurd (hb.symm.trans d3) Bool.noConfusion) (fun _=>aD (aA (sg rfl (aB rfl (fun hb=>absurd hb (by decide)) (fun _=>aD (aA (sgh [(2,.bv false),(5,.bv false)] rfl (aB rfl nofun (fun _=>aD (AWp.sub sl q))))))))))))))) (fun hb=>absurd hb (by decide)))))))))))
theorem a2x {h:List Bool}{deep:Nat}(d3:decide ((deep:Int)<3)=false):FrE h 2 deep aPa:=fun l i s r q=>by
 refine bP (n:=107) tok Tryz.func77 rfl rfl rfl ?_;exact sg rfl (sgh [(0,.all)] rfl (sgh [(0,.all)] rfl (aA (sgh [(2,.bv false),(5,.bv false)] rfl (aB rfl nofun (fun _=>aD (aA (sg rfl (aB rfl (fun hb=>absurd hb (by decide)) (fun _=>aD (aA (sgh [(2,.bv false),(5,.bv false)] rfl (aB rfl nofun (fun _=>aD (aA (sg rfl (aB rfl (fun _=>sgh [(0,.all)] rfl (ag [(0,.all)] rfl (aA (sgh [(2,.bv true),(5,.bv true)] rfl (aB rfl (fun hb=>absurd (hb.symm.trans d3) Bool.noConfusion) (fun _=>aD (AWp.sub sl q))))))) (fun hb=>absurd hb (by decide)))))))))))))))))))
theorem a2w {h:List Bool}(hh:h.length=28) (g1:h[21]?=some false) {deep:Nat}(d3:decide ((deep:Int)<3)=true):FrE h 2 deep aT6:=fun l i s y q=>by
 have r:(h.map jA).length=28:=by rw[η];exact hh
 have u:=aT jA g1;refine bP (n:=107) tok Tryz.func77 rfl rfl rfl ?_;exact sg rfl (sgh [(0,.all)] rfl (sgh [(0,.all)] rfl (aA (sgh [(2,.bv false),(5,.bv false)] rfl (aB rfl nofun (fun _=>aD (aA (sg rfl (aB rfl (fun hb=>absurd hb (by decide)) (fun _=>aD (aA (sgh [(2,.bv false),(5,.bv false)] rfl (aB rfl nofun (fun _=>aD (aA (sg rfl (aB rfl (fun _=>sgh [(0,.all)] rfl (ag [(0,.all)] rfl (aA (sgh [(2,.bv true),(5,.bv true)] rfl (aB rfl (fun _=>sgh [(0,.all)] rfl (sgh [(0,.all)] rfl (sgh [(1,.row 21 (jA false)),(3,.bv false),(8,.bv false)] rfl (aB rfl nofun (fun _=>aD (AWp.sub sl q)))))) (fun hb=>absurd (hb.symm.trans d3) Bool.noConfusion)))))) (fun hb=>absurd hb (by decide)))))))))))))))))))
theorem a2v {h:List Bool}(hh:h.length=28) (g1:h[21]?=some true) (g2:h[22]?=some true) {deep:Nat}(d3:decide ((deep:Int)<3)=true):FrE h 2 deep aT6:=fun l i s B q=>by
 have r:(h.map jA).length=28:=by rw[η];exact hh
 have u:=aT jA g1;have y:=aT jA g2;refine bP (n:=107) tok Tryz.func77 rfl rfl rfl ?_;exact sg rfl (sgh [(0,.all)] rfl (sgh [(0,.all)] rfl (aA (sgh [(2,.bv false),(5,.bv false)] rfl (aB rfl nofun (fun _=>aD (aA (sg rfl (aB rfl (fun hb=>absurd hb (by decide)) (fun _=>aD (aA (sgh [(2,.bv false),(5,.bv false)] rfl (aB rfl nofun (fun _=>aD (aA (sg rfl (aB rfl (fun _=>sgh [(0,.all)] rfl (ag [(0,.all)] rfl (aA (sgh [(2,.bv true),(5,.bv true)] rfl (aB rfl (fun _=>sgh [(0,.all)] rfl (sgh [(0,.all)] rfl (sgh [(1,.row 21 (jA true)),(3,.bv true),(5,.row 22 (jA true)),(8,.bv true)] rfl (aB rfl nofun (fun _=>aD (AWp.sub sl q)))))) (fun hb=>absurd (hb.symm.trans d3) Bool.noConfusion)))))) (fun hb=>absurd hb (by decide)))))))))))))))))))
theorem a2u {h:List Bool}(hh:h.length=28) (g1:h[21]?=some true) (g2:h[22]?=some false) {deep:Nat}(d3:decide ((deep:Int)<3)=true):FrE h 2 deep mM:=fun l i s B q=>by
 have r:(h.map jA).length=28:=by rw[η];exact hh
 have u:=aT jA g1;have y:=aT jA g2;refine bP (n:=107) tok Tryz.func77 rfl rfl rfl ?_;refine sg rfl (sgh [(0,.all)] rfl (sgh [(0,.all)] rfl (aA (sgh [(2,.bv false),(5,.bv false)] rfl (aB rfl nofun (fun _=>aD (aA (sg rfl (aB rfl (fun hb=>absurd hb (by decide)) (fun _=>aD (aA (sgh [(2,.bv false),(5,.bv false)] rfl (aB rfl nofun (fun _=>aD (aA (sg rfl (aB rfl (fun _=>sgh [(0,.all)] rfl (ag [(0,.all)] rfl (aA (sgh [(2,.bv true),(5,.bv true)] rfl (aB rfl (fun _=>sgh [(0,.id 760)] rfl (sgh [(0,.id 761)] rfl (sgh [(1,.row 21 (jA true)),(3,.bv true),(5,.row 22 (jA false)),(8,.bv true)] rfl (aB rfl (fun _=>sgh [(2,.row 4 (kQ 21))] rfl (ag [(2,.row 4 (b7 [116,97,107,101,32,50,32,40,102,114,111,109,32,64,105,41]))] rfl (AWp.sub (st2:=mk [(0,tkP),(1,fC h),(3,I .i64 (deep:Nat)),(9,.one (.hs 760 0 ((mM.map (·.1)).map b7).length ((mM.map (·.1)).map b7).length)),(10,.one (.hs 761 0 ((mM.map (·.2)).map kQ).length ((mM.map (·.2)).map kQ).length))] [(750,tkO l i),(760,.arr 9 1 ((mM.map (·.1)).map b7) 0),(761,.arr 3 1 ((mM.map (·.2)).map kQ) 0)]) sl ?_))) nofun)))) (fun hb=>absurd (hb.symm.trans d3) Bool.noConfusion)))))) (fun hb=>absurd hb (by decide)))))))))))))))))));refine AWp.sub (Sub.freeze (id:=760) rfl) ?_;refine AWp.sub (Sub.freeze (id:=761) rfl) ?_;refine AWp.sub (st2:=mk [(0,tkP),(1,fC h),(3,I .i64 (deep:Nat)),(9,cJ (mM.map (·.1))),(10,.one (.hs 761 0 ((mM.map (·.2)).map kQ).length ((mM.map (·.2)).map kQ).length))] [(750,tkO l i),(761,.arr 3 1 ((mM.map (·.2)).map kQ) 2)]) (Sub.trans (by exact sl) (cv 9 ((mM.map (·.1)).map b7))) ?_;refine AWp.sub (st2:=mk [(0,tkP),(1,fC h),(3,I .i64 (deep:Nat)),(9,cJ (mM.map (·.1))),(10,.one (.c (.sl 1 ((mM.map (·.2)).map kQ))))] [(750,tkO l i)]) (Sub.trans (by exact sl) (cv 10 ((mM.map (·.2)).map kQ))) ?_;exact AWp.sub sl q
theorem aQp (c:UInt8) (r:Str) (es:List Str):rnd (c::r) es=if c=64 then(match r,es with
  | _::r',e::q=>40::(e++41::rnd r' q)
  | _,_=>[64]) else c::rnd r es:=by cases r<;>cases es<;>rfl
theorem aXx (c:UInt8) (r:Str):nh (c::r)=if c=64 then(match r with
  | _::r'=>nh r'+1
  | []=>0) else nh r:=by cases r<;>rfl
theorem tW {L:Nat}:∀(n:Nat) (s:Str) (es:List Str),s.length≤n→(∀e∈es,e.length≤L)→(rnd s es).length≤s.length+L*nh s
 | _,[],es,_,_=>ε _
 | 0,c::r,_,hn,_=>absurd hn (by simp)
 | n+1,c::r,es,hn,h=>by
  rw[χ] at hn;rw[aQp,aXx,χ];by_cases hc:c=64
  ·rw[ζ hc,ζ hc];cases r with
   | nil=>simp
   | cons x r=>
    cases es with
    | nil=>simp;omega
    | cons e es=>
     rw[χ] at hn;have h1:=h e Ba;have:=tW n r es (by omega) fun e he=>h e (A1 _ he)
     dsimp only;rw[χ,θ,χ,χ,Nat.mul_succ];omega
  ·rw[ξ hc,ξ hc,χ];have:=tW n r es (by omega) h;omega
def exL:Nat→Nat
 | 0=>13
 | k+1=>56+exL k*3
theorem aPi:∀k,k≤3→exL k≤1100:=by decide
def ExG (l:List Int) (h:List Bool) (k deep:Nat):Prop:=∀(i kind:Nat),i≤l.length→(kind<2∨kind=2∧h[0]?=some true)→∃(s:Str) (y:Sy) (j:Nat),G (4*k+4) s y∧s.length≤exL k∧j≤l.length∧b9 Tryz.prog 77 [tkP,fC h,I .i64 (kind:Nat),I .i64 (deep:Nat)] [(750,tkO l i)] (Go.AM.T s) [(750,tkO l j)]
inductive RnT (l:List Int) (h:List Bool) (deep:Nat):Str→Nat→List Str→Nat→Prop
 | nil (i:Nat):RnT l h deep [] i [] i
 | byte {c:UInt8} {r:Str} {i:Nat} {es:List Str} {j:Nat} (hc:¬c=64) (k:RnT l h deep r i es j):RnT l h deep (c::r) i es j
 | last (i:Nat):RnT l h deep [64] i [] i
 | hole {c:UInt8} {r:Str} {i:Nat} {e:Str} {es:List Str} {j j' q:Nat} (hw:b9 Tryz.prog 127 [I .u8 c.toNat,fC h] [] (I .i64 (q:Nat)) []) (he:b9 Tryz.prog 77 [tkP,fC h,I .i64 (q:Nat),I .i64 ((deep+1:Nat):Int)] [(750,tkO l i)] (Go.AM.T e) [(750,tkO l j)]) (k:RnT l h deep r j es j'):RnT l h deep (64::c::r) i (e::es) j'
theorem RnT.ex {l:List Int}{h:List Bool}(hh:h.length=28) {k deep:Nat}(u:ExG l h k (deep+1)):∀(n:Nat) (s:Str) (i:Nat),s.length≤n→i≤l.length→∃(es:List (Str×Sy)) (j:Nat),RnT l h deep s i (es.map (·.1)) j∧j≤l.length∧es.length=nh s∧∀e∈es,G (4*k+4) e.1 e.2∧e.1.length≤exL k
 | _,[],i,_,hi=>⟨[],i,.nil i,hi,rfl,fun e he=>(nomatch he)⟩
 | 0,c::r,_,hn,_=>absurd hn (by simp)
 | n+1,c::r,i,hn,hi=>by
  rw[χ] at hn;by_cases hc:c=64
  ·subst hc;cases r with
   | nil=>exact⟨[],i,.last i,hi,rfl,fun e he=>(nomatch he)⟩
   | cons x r=>
    rw[χ] at hn;obtain⟨q,hq,hw⟩:=aRr x h hh;obtain⟨e,y,j,M,I,hj,J⟩:=u i q hi hq;obtain⟨es,j',h1,h2,B,E⟩:=RnT.ex hh u n r j (by omega) hj;refine⟨(e,y)::es,j',.hole hw J h1,h2,?_,fun p hp=>?_⟩
    ·rw[aXx,ζ rfl,χ,B]
    ·rcases Au.1 hp with rfl | hp
     ·exact⟨M,I⟩
     ·exact E p hp
  ·obtain⟨es,j',h1,h2,B,E⟩:=RnT.ex hh u n r i (by omega) hi;exact⟨es,j',.byte hc h1,h2,by rw[aXx,ξ hc];exact B,E⟩
theorem RnT.ex0 {l:List Int}{h:List Bool}{deep:Nat}:∀(s:Str) (i:Nat),(64:UInt8)∉s→RnT l h deep s i [] i∧nh s=0
 | [],i,_=>⟨.nil i,rfl⟩
 | c::r,i,hs=>by
  rw[Au] at hs;have hc:¬c=64:=fun k=>hs (.inl k.symm)
  obtain⟨h1,h2⟩:=RnT.ex0 (l:=l) (h:=h) (deep:=deep) r i fun k=>hs (.inr k)
  exact⟨.byte hc h1,by rw[aXx,ξ hc];exact h2⟩
theorem xK {l:List Int}{h:List Bool}{deep:Nat}(hd:deep≤3) {z:List (Str×Int)}{i i1 j:Nat}{s:Str}{es:List Str}{kind:Nat}(hF:FrE h kind deep z) (hp:b9 Tryz.prog 126 [tkP,fC h,cJ (z.map (·.1)),.one (.c (.sl 1 ((z.map (·.2)).map kQ)))] [(750,tkO l i)] (Go.AM.T s) [(750,tkO l i1)]) (hT:RnT l h deep s i1 es j) (hs:s.length≤100) (hR:(rnd s es).length≤100000):b9 Tryz.prog 77 [tkP,fC h,I .i64 (kind:Nat),I .i64 (deep:Nat)] [(750,tkO l i)] (Go.AM.T (rnd s es)) [(750,tkO l j)]:=by
 have hM:3000000000≤maxLen:=by decide
 refine hF l i (rnd s es) j ?_;refine sk 4 rfl (kc hp ?_);refine kz 1 rfl ?_;generalize hRe:rnd s es=RR at hR ⊢;refine sg rfl (aA (sg rfl (aF (aK (fun x:Nat×Nat×Str×List Str=>mk [(0,tkP),(1,fC h),(3,I .i64 (deep:Nat)),(11,Go.AM.T s),(12,Go.AM.T x.2.2.1),(13,I .i64 (x.1:Nat))] [(750,tkO l x.2.1)]) (fun x=>x.1≤s.length∧RnT l h deep (s.drop x.1) x.2.1 x.2.2.2 j∧RR=x.2.2.1++rnd (s.drop x.1) x.2.2.2) (fun x=>s.length-x.1) (0,i1,[],es) ⟨ε _,hT,hRe.symm⟩ sl ?_))));rintro⟨p,i2,out,fs⟩ ⟨hp1,y,u⟩;dsimp only at hp1 y u ⊢;have hol:out.length≤100000:=by rw[u,θ] at hR;omega
 refine aA (sg rfl (aB rfl (fun hb=>?_) (fun hb=>?_)))
 ·have E:p<s.length:=by have:=κ hb;omega
  have U:s.drop p=s[p]::s.drop (p+1):=Ay E;have J:s[p]?=some s[p]:=Cy E;generalize s[p]=c at U J;refine aD ?_;rw[U] at y u;have hin:c.toNat=64↔c=64:=⟨fun k=>UInt8.toNat_inj.1 k,fun k=>by rw[k];rfl⟩
  generalize B:s.drop (p+1)=r at y u;cases y with
  | byte hc k=>
   have d1:(!decide ((c.toNat:Int)=64))=true:=by rw[ψ fun k=>hc (hin.1 (by omega))];rfl
   rw[aQp,ξ hc] at u;have M:(s.take (p+1)).drop p=[c]:=by rw[dH J,Bo (by rw[An];omega),List.drop_take_self];rfl
   exact aA (aF (aA (sgh [(2,.byte p c),(4,.bv true),(10,.bv true)] rfl (aB rfl (fun _=>sg rfl (aH (ag [] rfl ⟨(p+1,i2,out++[c],fs),⟨E,by dsimp only;rw[B];exact k,by dsimp only;rw[B,u,Ae];rfl⟩,by dsimp only;omega,sl (he:=⟨rfl,rfl,rfl,rfl,by rw[←M];rfl,rfl,trivial⟩)⟩))) nofun))))
  | last=>
   have hl:s.length=p+1:=by have:=congrArg List.length B;rw[Bg,length_nil] at this;omega
   have d1:(!decide (((64:UInt8).toNat:Int)=64))=false:=rfl;have M:(s.take (p+1)).drop p=[64]:=by rw[dH J,Bo (by rw[An];omega),List.drop_take_self];rfl
   have d2:decide ((s.length:Int)≤(p:Int)+1)=true:=φ (by omega);exact aA (aF (aA (sgh [(2,.byte p 64),(4,.bv false),(10,.bv false)] rfl (aB rfl (fun _=>sg rfl (aH (ag [] rfl ⟨(p+1,j,out++[64],[]),⟨E,by dsimp only;rw[B];exact .nil _,by dsimp only;rw[B,u,rnd,A3];rfl⟩,by dsimp only;omega,sl (he:=⟨rfl,rfl,rfl,rfl,by rw[←M];rfl,rfl,trivial⟩)⟩))) (fun hb=>absurd (hb.symm.trans d2) Bool.noConfusion)))))
  | @hole c r _ e O i3 _ q hw he k=>
   have hl2:p+1<s.length:=by have:=congrArg List.length B;rw[Bg,χ] at this;omega
   have d1:(!decide (((64:UInt8).toNat:Int)=64))=false:=rfl;have d2:decide ((s.length:Int)≤(p:Int)+1)=false:=ψ (by omega);have hsp1:s[p+1]?=some c:=by rw[←List.head?_drop,B];rfl
   have Y:s.drop (p+1+1)=r:=by rw[←C1,B];rfl
   have e1:rnd (64::c::r) (e::O)=40::(e++41::rnd r O):=by rw[aQp,ζ rfl]
   rw[e1] at u;have hel:e.length≤100000:=by rw[u,θ,χ,θ] at hR;omega
   refine aA (aF (aA (sgh [(2,.byte p 64),(4,.bv false),(10,.bv false)] rfl (aB rfl (fun hb=>absurd (hb.symm.trans d2) Bool.noConfusion) (fun _=>aD (aA (agN [] rfl (aC mixed (ak 8 [(6,.byte (p+1) c)] rfl (kc hw ?_))))))))));refine akN 2 [] rfl (kc he ?_);exact kz 3 rfl (agN [] rfl ⟨(p+1+1,i3,out++[40]++e++[41],O),⟨by dsimp only;omega,by dsimp only;rw[Y];exact k,by dsimp only;rw[Y,u];simp only[Ae,Ad,Ak]⟩,by dsimp only;omega,sl⟩)
 ·have hge:p=s.length:=by have:=Af hb;omega
  subst hge;rw[Cc] at y u;cases y;rw[rnd,A3] at u;subst u;exact aH (sg rfl (aE rtT))
structure ZOk (h:List Bool) (z:List (Str×Int)):Prop where
 len:z.length≤100
 bnd:∀p∈z,p.2<28∧ -1≤p.2
 some:∃p∈z,hasB h p.2=true
 tm:∀s∈z.map (·.1),s∈tmL
theorem aUb {L:List Str}(q:L∈[x8,tx0,x7,tx1,x6,tx2,aT7]):∀s∈L,s∈tmL:=fun s hs=>by
 obtain⟨t,ht,he⟩:=List.any_eq_true.1 (Av.1 (Av.1 aUa L q) s hs);rw[←κ he];exact ht
theorem uJ {L:List Str}(q:L∈[x8,x7,x6]):∀s∈L,s.length≤13∧(64:UInt8)∉s:=fun s hs=>by
 have:=Av.1 (Av.1 aIe L q) s hs;rw[π] at this;exact⟨κ this.1,κ this.2⟩
theorem zk {h:List Bool}{z:List (Str×Int)}{L:List Str}(q:z.map (·.1)=L) (r:L∈[x8,tx0,x7,tx1,x6,tx2,aT7]) (h1:z.length≤100) (h2:∀p∈z,p.2<28∧ -1≤p.2) {p:Str×Int}(hp:z[0]?=some p) (hb:hasB h p.2=true):ZOk h z:=⟨h1,h2,⟨p,τ hp,hb⟩,by rw[q];exact aUb r⟩
theorem aYf (h:List Bool) (kind:Nat) (q:kind<2∨kind=2∧h[0]?=some true):∃z,ZOk h z∧FrE h kind 3 z∧∀s∈z.map (·.1),s.length≤13∧(64:UInt8)∉s:=by
 rcases q with q | ⟨rfl,q⟩
 ·match kind,q with
  | 0,_=>exact⟨aPc,zk (L:=x8) (by kernel_rfl) (.head _) (by decide) (by decide) (p:=([48],-1)) rfl rfl,a23 (by decide),uJ (L:=x8) (.head _)⟩
  | 1,_=>exact⟨aPb,zk (L:=x7) (by kernel_rfl) (.tail _ (.tail _ (.head _))) (by decide) (by decide) (p:=([84,114,117,101],-1)) rfl rfl,a2y (by decide),uJ (L:=x7) (.tail _ (.head _))⟩
 ·exact⟨aPa,zk (L:=x6) (by kernel_rfl) (.tail _ (.tail _ (.tail _ (.tail _ (.head _))))) (by decide) (by decide) (p:=([40,78,32,58,32,76,32,73,110,116,41],0)) rfl (by unfold hasB;rw[show h[(0:Int).toNat]?=some true from q];rfl),a2x (by decide),uJ (L:=x6) (.tail _ (.tail _ (.head _)))⟩
theorem aYg (h:List Bool) (hh:h.length=28) (kind deep:Nat) (hd:deep<3) (q:kind<2∨kind=2∧h[0]?=some true):∃z,ZOk h z∧FrE h kind deep z:=by
 have d3:decide ((deep:Int)<3)=true:=φ (by omega);rcases q with q | ⟨rfl,q⟩
 ·match kind,q with
  | 0,_=>exact⟨aZ7,zk (L:=tx0) (by kernel_rfl) (.tail _ (.head _)) (by decide) (by decide) (p:=([51],-1)) rfl rfl,a25 d3⟩
  | 1,_=>exact⟨aZ6,zk (L:=tx1) (by kernel_rfl) (.tail _ (.tail _ (.tail _ (.head _)))) (by decide) (by decide) (p:=([84,114,117,101],-1)) rfl rfl,a2z d3⟩
 ·have z2:ZOk h aT6:=zk (L:=tx2) (by kernel_rfl) (.tail _ (.tail _ (.tail _ (.tail _ (.tail _ (.head _)))))) (by decide) (by decide) (p:=([40,78,32,58,32,76,32,73,110,116,41],0)) rfl (by unfold hasB;rw[show h[(0:Int).toNat]?=some true from q];rfl);obtain⟨r,g1⟩:=aL (l:=h) (k:=21) (by omega);obtain⟨u,g2⟩:=aL (l:=h) (k:=22) (by omega);cases r
  ·exact⟨aT6,z2,a2w hh g1 d3⟩
  ·cases u
   ·exact⟨mM,zk (L:=aT7) (by kernel_rfl) (.tail _ (.tail _ (.tail _ (.tail _ (.tail _ (.tail _ (.head _))))))) (by decide) (by decide) (p:=([40,78,32,58,32,76,32,73,110,116,41],0)) rfl (by unfold hasB;rw[show h[(0:Int).toNat]?=some true from q];rfl),a2u hh g1 g2 d3⟩
   ·exact⟨aT6,z2,a2v hh g1 g2 d3⟩
theorem aUc {s:Str}(h:s∈tmL):s.length≤56∧nh s≤3:=by
 have:=Av.1 aQh s h;rw[π] at this;exact⟨κ this.1,κ this.2⟩
theorem exG {l:List Int}(hl:aP8 l) (u:l.length≤1000) {h:List Bool}(hh:h.length=28):∀k deep,deep+k=3→ExG l h k deep
 | 0,deep,hd=>fun i kind hi B=>by
  have J:deep=3:=by omega
  subst J;obtain⟨z,q,E,M⟩:=aYf h kind B;obtain⟨s,j,hs,hj,hp⟩:=aPm l hl u i hi h hh z q.len q.bnd q.some;obtain⟨h13,O⟩:=M s hs;obtain⟨I,hn⟩:=RnT.ex0 (l:=l) (h:=h) (deep:=3) s j O;obtain⟨y,hy⟩:=aOr s (q.tm s hs) 0 [] hn.symm fun e he=>(nomatch he)
  have r:=tW (L:=0) s.length s [] (le_refl _) fun e he=>(nomatch he)
  rw[hn] at r;exact⟨rnd s [],y,j,hy,by show _≤13;omega,hj,xK (le_refl _) E hp I (by omega) (by omega)⟩
 | k+1,deep,hd=>fun i kind hi B=>by
  obtain⟨z,q,E⟩:=aYg h hh kind deep (by omega) B;obtain⟨s,j,hs,hj,hp⟩:=aPm l hl u i hi h hh z q.len q.bnd q.some;obtain⟨h56,h3⟩:=aUc (q.tm s hs);obtain⟨es,j',I,U,hn,Y⟩:=RnT.ex hh (exG hl u hh k (deep+1) (by omega)) s.length s j (le_refl _) hj;obtain⟨y,hy⟩:=aOr s (q.tm s hs) (4*k+4) es hn fun e he=>(Y e he).1
  have r:=tW (L:=exL k) s.length s (es.map (·.1)) (le_refl _) fun e he=>by
   obtain⟨p,hp,rfl⟩:=Cz.1 he;exact(Y p hp).2
  have hm:exL k*nh s≤exL k*3:=mul_le_mul_left _ h3;have hx:=aPi (k+1) (by omega);have hx':exL (k+1)=56+exL k*3:=rfl;exact⟨rnd s (es.map (·.1)),y,j',hy,by omega,U,xK (by omega) E hp I (by omega) (by omega)⟩
def kN (l:List (Str×Bool)):List Str:=(l.filter (·.2)).map (·.1)
theorem aBh (l m:List (Str×Bool)):kN (l++m)=kN l++kN m:=by unfold kN;rw[filter_append,Al]
theorem aGn (l:List Str) (h:List Bool):(kN (l.zip h)).Sublist l:=by
 have h1:(kN (l.zip h)).Sublist ((l.zip h).map (·.1)):=List.filter_sublist.map _;refine h1.trans ?_
 induction l generalizing h with
 | nil=>rw[List.zip_nil_left];exact List.Sublist.refl _
 | cons a l q=>
  cases h with
  | nil=>rw[List.zip_nil_right];exact List.nil_sublist _
  | cons b h=>
   rw[List.zip_cons_cons,Ar];exact(q h (List.filter_sublist.map _)).cons_cons a
def mO:Str:=[109,97,105,110,32,61,32]
theorem aL9:∀s∈yP,s.length≤200:=by
 have:(yP.all fun s=>decide (s.length≤200))=true:=by kernel_rfl
 intro s hs;exact κ (Av.1 this s hs)
theorem aRs (l:List Int) (hl:aP8 l) (hL:l.length≤1000) (i:Nat) (hi:i≤l.length):∃(q:List Str) (E:Str) (y:Sy) (j:Nat),q.Sublist mW∧G 16 E y∧E.length≤1100∧b9 Tryz.prog 33 [tkP] [(750,tkO l i)] (cJ (q++[jP,mO++E])) [(750,tkO l j)]:=by
 have hM:3000000000≤maxLen:=by decide
 obtain⟨h,j1,hh,hj1,hch⟩:=aM2 l hl hL i hi;obtain⟨v,j2,hv,hj2,hnx⟩:=aCy l hl hL j1 hj1 3 (by decide) (by decide);obtain⟨U,Y⟩:=aL (l:=h) (k:=0) (by omega);have hb0':=aT jA Y;have hkh:(h.map jA).length=28:=by rw[η];exact hh
 obtain⟨B,u,hkv⟩:∃B:Nat,B=(if v=2∧U=false then 0 else v)∧(B<2∨B=2∧h[0]?=some true):=⟨_,rfl,by
  split
  ·exact .inl (by decide)
  ·rename_i hn;by_cases h2:v=2
   ·refine .inr ⟨h2,?_⟩;cases U
    ·exact absurd ⟨h2,rfl⟩ hn
    ·exact Y
   ·exact .inl (by omega)⟩
 obtain⟨E,y,j3,hG,hE,hj3,hex⟩:=exG hl hL hh 3 0 rfl j2 B hj2 hkv;have hEl:E.length≤1100:=le_trans hE (aPi 3 (le_refl _));have J:=aSu;have aa:(mW.map b7).length=28:=rfl;have hzl:(mW.zip h).length=28:=by rw[List.length_zip,hh];rfl
 have hsl0:(kN (mW.zip h)).length≤28:=(aGn mW h).length_le;refine⟨kN (mW.zip h),E,y,j3,aGn _ _,hG,hEl,?_⟩;generalize hZ:mW.zip h=Z at *;refine bP (n:=46) tok Tryz.func33 rfl rfl rfl ?_;refine sg rfl (sk 1 rfl (kc hch ?_));refine kz 1 rfl (aA (aC mixed (kc J ?_)));refine kz 1 rfl (sg rfl (AWp.sub (Sub.own (t:=5) (id:=500) 9 1 rfl rfl) ?_));refine aA (sg rfl (aF (aK (fun k:Nat=>mk [(0,tkP),(3,fC h),(4,cJ mW),(5,.one (.hs 500 0 ((kN (Z.take k)).map b7).length ((kN (Z.take k)).map b7).length)),(6,I .i64 (k:Nat))] [(500,.arr 9 1 ((kN (Z.take k)).map b7) 0),(750,tkO l j1)]) (fun k=>k≤28) (fun k=>28-k) 0 (ε _) sl ?_)));intro k hkz;refine aA (sg rfl (aB rfl (fun hb=>?_) (fun hb=>?_)))
 ·have ab:k<28:=by rw[aa] at hb;have:=κ hb;omega
  obtain⟨p,hp⟩:=aL (l:=Z) (k:=k) (by omega);obtain⟨t,b⟩:=p;have ac:=hp;rw[←hZ,List.getElem?_zip_eq_some] at ac;obtain⟨J,ad⟩:=ac;dsimp only at J ad;have hpt':=aT b7 J;have hpb':=aT jA ad;have ae:Z.take (k+1)=Z.take k++[(t,b)]:=dH hp;have hlm:(kN (Z.take k)).length≤k:=by
   unfold kN;rw[η];refine le_trans (C8 _ _) ?_;rw[An];omega
  have hlm':((kN (Z.take k)).map b7).length=(kN (Z.take k)).length:=η _;refine aD (aA (aF (sgh [(2,.row k (jA b))] rfl (aB rfl (fun O=>?_) (fun O=>?_)))))
  ·subst O;have M:kN (Z.take (k+1))=kN (Z.take k)++[t]:=by rw[ae,aBh];rfl
   have r:((kN (Z.take k)).map b7)++[[.str t]]=(kN (Z.take (k+1))).map b7:=by rw[M,Al];rfl
   have hle:((kN (Z.take (k+1))).map b7).length=((kN (Z.take k)).map b7).length+1:=by rw[←r,θ];rfl
   exact ag [(3,.row k (b7 t)),(5,.all)] rfl (agN [] rfl ⟨k+1,ab,by dsimp only;omega,sl (he:=⟨rfl,rfl,rfl,Go.AM.hs_ren (by rw[hle];rfl) (by rw[hle];rfl),rfl,trivial⟩) (hh:=⟨⟨_,rfl,.arrS r⟩,⟨_,rfl,Go.AM.Ole.var rfl⟩,trivial⟩)⟩)
  ·subst O;have M:kN (Z.take (k+1))=kN (Z.take k):=by rw[ae,aBh];exact A3 _
   exact aD (agN [] rfl ⟨k+1,ab,by dsimp only;omega,sl (he:=⟨rfl,rfl,rfl,by rw[M];rfl,rfl,trivial⟩) (hh:=⟨⟨_,rfl,.arrS (by rw[M])⟩,⟨_,rfl,Go.AM.Ole.var rfl⟩,trivial⟩)⟩)
 ·have hge:k=28:=by rw[aa] at hb;have:=Af hb;omega
  subst hge;refine aH ?_;rw[show Z.take 28=Z from Az (by omega)];have hlm':((kN Z).map b7).length=(kN Z).length:=η _;refine sk 1 rfl (kc hnx ?_);refine kz 1 rfl (aA (AWp.cut (mk [(0,tkP),(3,fC h),(5,.one (.hs 500 0 ((kN Z).map b7).length ((kN Z).map b7).length)),(7,I .i64 (B:Nat))] [(500,.arr 9 1 ((kN Z).map b7) 0),(750,tkO l j2)]) ?_ ?_))
  ·by_cases h2:v=2
   ·subst h2;refine sgh [(2,.bv true),(4,.row 0 (jA U)),(7,.bv true)] rfl ?_;cases U
    ·rw[ζ ⟨rfl,rfl⟩] at u;subst u;exact aB rfl (fun _=>ag [] rfl sl) nofun
    ·rw[ξ (fun k=>Bool.noConfusion k.2)] at u;subst u;exact aB rfl nofun (fun _=>aD sl)
   ·rw[ξ (fun k=>h2 k.1)] at u;subst u;have d2:decide ((B:Int)=2)=false:=ψ (by omega);exact sgh [(2,.bv false),(7,.bv false)] rfl (aB rfl nofun (fun _=>aD sl))
  ·refine sk 4 rfl (kc hex ?_);refine ak 4 [(6,.all)] rfl (az ?_);have r:((kN Z).map b7)++[[.str jP],[.str (mO++E)]]=(kN Z++[jP,mO++E]).map b7:=by rw[Al];rfl
   have hle:((kN Z++[jP,mO++E]).map b7).length=((kN Z).map b7).length+2:=by rw[←r,θ];rfl
   refine AWp.sub (st2:=mk [(2,.one (.hs 500 0 ((kN Z++[jP,mO++E]).map b7).length ((kN Z++[jP,mO++E]).map b7).length))] [(500,.arr 9 1 ((kN Z++[jP,mO++E]).map b7) 0),(750,tkO l j3)]) (sl (he:=⟨Go.AM.hs_ren (by rw[hle];rfl) (by rw[hle];rfl),trivial⟩) (hh:=⟨⟨_,rfl,.arrS r⟩,⟨_,rfl,Go.AM.Ole.var rfl⟩,trivial⟩)) ?_;refine AWp.sub (Sub.freeze (id:=500) rfl) ?_;refine AWp.sub (st2:=mk [(2,cJ (kN Z++[jP,mO++E]))] [(750,tkO l j3)]) ?_ ?_
   ·refine Sub.trans ?_ (cv 2 ((kN Z++[jP,mO++E]).map b7));exact sl
   exact aE rtT
theorem aRt (l:List Int) (hl:aP8 l) (B:Fits l):∃s:Str,(eD s).2.1=0∧b9 Tryz.prog 7 [.one (.c (.sl 1 (l.map kQ)))] [] (Go.AM.T s) []:=by
 have ho:=a3c l 60 B (by decide);obtain⟨q,E,y,j,hq,u,U,hc⟩:=aRs (l.take 60) (fun x hx=>hl x (Cf hx)) (by rw[An];omega) 0 (ε _);have O:q.length≤28:=hq.length_le;have r:(q++[jP]).Sublist yP:=hq.append (List.Sublist.refl _)
 have hj:=aSe (q++[jP,mO++E]) (fun s hs=>by
  rcases Bk.1 hs with hs | hs
  ·exact le_trans (aL9 s (r.subset (List.mem_append_left _ hs))) (by decide)
  ·rcases Au.1 hs with rfl | hs
   ·decide
   ·rw[A2.1 hs,θ];show 7+E.length≤4000;omega) (by rw[θ];show q.length+2≤100;omega)
 have I:jnR (q++[jP,mO++E]) (q++[jP,mO++E]).length=(q++[jP]).flatMap (· ++aGl)++(mO++E):=by
  have J:(q++[jP,mO++E]).length=(q++[jP]).length+1:=by rw[θ,θ];rfl
  have M:q++[jP,mO++E]=(q++[jP])++[mO++E]:=by rw[Ae];rfl
  rw[J,M,jnR,List.take_left,A8 (le_refl _),Cg];rfl
 rw[I] at hj;refine⟨_,aK9 r u.1 (le_trans u.2.2 (by decide)) u.2.1 (by omega),?_⟩;refine bP (n:=7) tok Tryz.func7 rfl rfl rfl ?_;refine sg rfl (sk 1 rfl (kc ho ?_));refine kc hc ?_;refine kc hj ?_;exact kz 1 rfl (aE rtT)
inductive PT:Ty→Prop where
 | leaf (f:Int) (s:Str) (h:f=0∨f=2∨f=3):PT (.mk f 0 s [])
 | app {a b:Ty} (ha:PT a) (hb:PT b):PT (lY a b)
def fnP:Ty→Option (Ty×Ty)
 | .mk f _ _ [.mk g _ _ [.mk h _ s _,a],b]=>if f=4∧g=4∧h=3∧s=arrow then some (a,b) else none
 | _=>none
def brk (b:Bool) (s:Str):Str:=if b=true then [40]++s++[41] else s
def arrS:Str:=[32,45,62,32]
def r6:Nat→Int→Ty→Str
 | 0,_,_=>[]
 | k+1,how,t=>match fnP t with
  | some (a,b)=>brk (!decide (how=0)) (r6 k 1 a++arrS++r6 k 0 b)
  | none=>if t.form=3∧t.name=arrow then brk true t.name
   else match t with
    | .mk f _ s [a,b]=>if f=4 then brk (decide (how=3)) (r6 k 2 a++[32]++r6 k 3 b) else s
    | .mk _ _ s _=>s
mutual
def tyW:Ty→Nat
 | .mk _ _ s a=>s.length+8+aQg a
def aQg:List Ty→Nat
 | []=>0
 | t::l=>tyW t+aQg l
end
theorem oL (a b:Ty):tyW (lY a b)=8+(tyW a+tyW b):=by unfold lY;rw[tyW,aQg,aQg,aQg];simp
theorem eJ (b:Bool) (s:Str):(brk b s).length≤s.length+2:=by
 unfold brk;split
 ·rw[θ,θ,χ,χ,length_nil];omega
 ·omega
theorem PT.cases {t:Ty}(h:PT t):(∃a b,t=aFs a b∧PT a∧PT b)∨(fnP t=none∧((∃f s,t=.mk f 0 s []∧(f=0∨f=2∨f=3))∨∃a b,t=lY a b∧PT a∧PT b)):=by
 cases h with
 | leaf f s r=>exact .inr ⟨rfl,.inl ⟨f,s,rfl,r⟩⟩
 | @app a b ha hb=>
  cases ha with
  | leaf g s q=>exact .inr ⟨rfl,.inr ⟨_,_,rfl,.leaf g s q,hb⟩⟩
  | @app x y hx hy=>
   cases hx with
   | leaf g s q=>
    by_cases hc:g=3∧s=arrow
    ·obtain⟨rfl,rfl⟩:=hc;exact .inl ⟨y,b,rfl,hy,hb⟩
    ·refine .inr ⟨?_,.inr ⟨_,_,rfl,.app (.leaf g s q) hy,hb⟩⟩;show(if(4:Int)=4∧(4:Int)=4∧g=3∧s=arrow then some (y,b) else none)=none;rw[ξ (fun k=>hc ⟨k.2.2.1,k.2.2.2⟩)]
   | app hu hv=>exact .inr ⟨rfl,.inr ⟨_,_,rfl,.app (.app hu hv) hy,hb⟩⟩
theorem aHk (k:Nat) (q:Int) (a b:Ty):r6 (k+1) q (aFs a b)=brk (!decide (q=0)) (r6 k 1 a++arrS++r6 k 0 b):=rfl
theorem aBw (k:Nat) (q f:Int) (s:Str) (r:f=0∨f=2∨f=3):r6 (k+1) q (.mk f 0 s [])=brk (decide (f=3)&&decide (s=arrow)) s:=by
 show(if f=3∧s=arrow then brk true s else s)=_;by_cases hc:f=3∧s=arrow
 ·rw[ζ hc,φ hc.1,φ hc.2];rfl
 ·rw[ξ hc];have:(decide (f=3)&&decide (s=arrow))=false:=by
   rw[←Co,π];exact fun k=>hc ⟨κ k.1,κ k.2⟩
  rw[this];rcases r with rfl | rfl | rfl<;>rfl
theorem aHl (k:Nat) (q:Int) {a b:Ty}(h:fnP (lY a b)=none):r6 (k+1) q (lY a b)=brk (decide (q=3)) (r6 k 2 a++[32]++r6 k 3 b):=by
 rw[r6.eq_def];dsimp only;rw[h];rfl
theorem jV:∀(k:Nat) (q:Int) (t:Ty),PT t→(r6 k q t).length≤tyW t
 | 0,_,_,_=>ε _
 | k+1,q,t,h=>by
  rcases h.cases with⟨a,b,rfl,ha,hb⟩ | ⟨hn,⟨f,s,rfl,r⟩ | ⟨a,b,rfl,ha,hb⟩⟩
  ·rw[aHk];have h1:=eJ (!decide (q=0)) (r6 k 1 a++arrS++r6 k 0 b);have h2:=jV k 1 a ha;have u:=jV k 0 b hb;unfold aFs;rw[oL,oL];rw[θ,θ,show arrS.length=4 from rfl] at h1;omega
  ·rw[aBw k q f s r,tyW,aQg];have:=eJ (decide (f=3)&&decide (s=arrow)) s;omega
  ·rw[aHl k q hn,oL];have h1:=eJ (decide (q=3)) (r6 k 2 a++[32]++r6 k 3 b);have h2:=jV k 2 a ha;have u:=jV k 3 b hb;rw[θ,θ,χ,length_nil] at h1;omega
theorem aJf (a b:Ty):b9 Tryz.prog 210 [tyV (aFs a b)] [] (.tup [tyV a,tyV b,B true]) []:=by
 refine bP (n:=47) tok Tryz.func210 rfl rfl rfl ?_;exact sg rfl (aA (sgh [(3,.bv false),(6,.row 0 (bR (lY (.mk 3 0 arrow []) a))),(10,.bv false)] rfl (aB rfl nofun (fun _=>aD (sgh [(2,.row 0 (bR (lY (.mk 3 0 arrow []) a))),(5,.row 0 (bR (.mk 3 0 arrow [])))] rfl (aA (sgh [(3,.bv false),(7,.bv false)] rfl (aB rfl (fun hb=>absurd hb (by decide)) (fun _=>aD (sgh [(2,.row 0 (bR (lY (.mk 3 0 arrow []) a))),(5,.row 1 (bR a)),(9,.row 1 (bR b))] rfl (aE ⟨.inr rfl,⟨_,_,.cell rfl (tg rfl) rfl rfl rfl (.cell rfl (tg rfl) rfl rfl rfl (.tmp rfl .nil)),.cons .refl (.cons .refl (.cons .refl .nil)),rfl⟩,trivial,rfl⟩)))))))))))
theorem zcv {h:cE}:Conv h [] (.pa [.int .i64 0,.int .i64 0,.str [],.nl]) (tyV zTy):=by
 apply Go.AM.Conv.pa
 repeat (first | exact .nil | apply Go.AM.PureL.c .refl | apply Go.AM.PureL.c .nl)
theorem aJe {t:Ty}(h:PT t) (hn:fnP t=none):b9 Tryz.prog 210 [tyV t] [] (.tup [tyV zTy,tyV zTy,B false]) []:=by
 refine bP (n:=47) tok Tryz.func210 rfl rfl rfl ?_;refine sg rfl ?_;cases h with
 | leaf f s E=>
  have d:(!decide (f=4))=true:=by rw[ψ (by omega)];rfl
  exact aA (sgh [(3,.bv true),(10,.bv true)] rfl (aB rfl (fun _=>sg rfl (aE ⟨.inr rfl,⟨_,_,.cell rfl (tg rfl) rfl rfl rfl (.cell rfl (tg rfl) rfl rfl rfl (.tmp rfl .nil)),.cons zcv (.cons zcv (.cons .refl .nil)),rfl⟩,trivial,rfl⟩)) (fun hb=>Bool.noConfusion hb)))
 | @app a b ha hb=>
  cases ha with
  | leaf g s r=>
   have d:(!decide (g=4))=true:=by rw[ψ (by omega)];rfl
   exact aA (sgh [(3,.bv false),(6,.row 0 (bR (.mk g 0 s []))),(10,.bv false)] rfl (aB rfl (fun _=>sg rfl (aE ⟨.inr rfl,⟨_,_,.cell rfl (tg rfl) rfl rfl rfl (.cell rfl (tg rfl) rfl rfl rfl (.tmp rfl .nil)),.cons zcv (.cons zcv (.cons .refl .nil)),rfl⟩,trivial,rfl⟩)) (fun hb=>Bool.noConfusion (hb.symm.trans d))))
  | @app x y hx hy=>
   refine aA (sgh [(3,.bv false),(6,.row 0 (bR (lY x y))),(10,.bv false)] rfl (aB rfl nofun (fun _=>aD (sgh [(2,.row 0 (bR (lY x y))),(5,.row 0 (bR x))] rfl ?_))));by_cases q:x.form=3
   ·have d3:(!decide (x.form=3))=false:=by rw[φ q];rfl
    have hs:¬x.name=arrow:=fun e=>by
     cases hx with
     | leaf g s r=>
      have:fnP (lY (lY (.mk g 0 s []) y) b)=some (y,b):=by
       show(if(4:Int)=4∧(4:Int)=4∧g=3∧s=arrow then some (y,b) else none)=_;rw[ζ ⟨rfl,rfl,q,e⟩]
      rw[this] at hn;cases hn
     | app=>exact absurd (show(4:Int)=3 from q) (by decide)
    have u:(!decide (x.name=arrow))=true:=by rw[ψ hs];rfl
    exact aA (sgh [(3,.bv false),(7,.bv false)] rfl (aB rfl (fun _=>sg rfl (aE ⟨.inr rfl,⟨_,_,.cell rfl (tg rfl) rfl rfl rfl (.cell rfl (tg rfl) rfl rfl rfl (.tmp rfl .nil)),.cons zcv (.cons zcv (.cons .refl .nil)),rfl⟩,trivial,rfl⟩)) (fun hb=>Bool.noConfusion (hb.symm.trans u))))
   ·have d3:(!decide (x.form=3))=true:=by rw[ψ q];rfl
    exact aA (sgh [(3,.bv true),(7,.bv true)] rfl (aB rfl (fun _=>sg rfl (aE ⟨.inr rfl,⟨_,_,.cell rfl (tg rfl) rfl rfl rfl (.cell rfl (tg rfl) rfl rfl rfl (.tmp rfl .nil)),.cons zcv (.cons zcv (.cons .refl .nil)),rfl⟩,trivial,rfl⟩)) (fun hb=>Bool.noConfusion hb)))
theorem aFb {b:Bool}(h:b=false):b9 Tryz.prog 211 [B b] [] (I .i64 0) []:=by
 subst h;refine bP (n:=4) tok Tryz.func211 rfl rfl rfl ?_;exact sg rfl (aA (sg rfl (aB rfl nofun (fun _=>aD (sg rfl (aE rtT))))))
theorem PT.form {t:Ty}(h:PT t):t.form=0∨t.form=2∨t.form=3∨t.form=4:=by
 cases h with
 | leaf f s q=>rcases q with h | h | h<;>simp[Ty.form,h]
 | app=>exact .inr (.inr (.inr rfl))
end Go.Proofs.YtpmheldmadendaaGreatDoor
