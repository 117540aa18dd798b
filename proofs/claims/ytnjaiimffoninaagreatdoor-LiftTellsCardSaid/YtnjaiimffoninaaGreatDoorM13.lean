/-
  Texts Ka22 to Lt7 in one.
-/
import Derived.Test.YtnjaiimffoninaaGreatDoorM12
open List (append_assoc append_nil drop_eq_getElem_cons drop_length length_append length_cons length_eq_one_iff length_map length_nil length_take map_append mem_append mem_map mem_of_mem_take mem_singleton)
open Nat (le_refl zero_add zero_le)
namespace Go.Proofs.YtnjaiimffoninaaGreatDoor
open Go Go.AM Go.Shelf
set_option maxRecDepth 20000
theorem mA (l:List (List C)) (h:l.length≤8000000):aW Tryz.prog 55 [.one (.c (.sl 1 l))] [] (.one (.hs 710 0 l.length l.length)) [(710,.arr 9 1 l 0)]:=by
 refine bZ (n:=8) tok Tryz.func55 rfl rfl rfl ?_;refine sg rfl (s9 0 rfl (fun hl=>?_) ?_)
 ·subst hl;refine a8 (sg rfl (aA rfl (fun _=>sg rfl (AWp.sub (Sub.own (t:=2) (id:=710) 9 1 rfl rfl) ?_)) nofun));exact aF rtT
 ·refine a8 (sg rfl (aA rfl nofun (fun _=>aD (sgh [(0,.id 710)] rfl (AWp.sub (st2:=mk [(2,.one (.hs 710 0 l.length l.length))] [(710,.arr 9 1 l 0)]) sl ?_)))));exact aF rtT
theorem vV (l:List (List C)) (h:l.length≤8000000):aW Tryz.prog 133 [.one (.c (.sl 15 l))] [] (.one (.hs 701 0 l.length l.length)) [(701,.arr 35 15 l 0)]:=by
 refine bZ (n:=8) tok Tryz.func133 rfl rfl rfl ?_;refine sg rfl (s9 0 rfl (fun hl=>?_) ?_)
 ·subst hl;refine a8 (sg rfl (aA rfl (fun _=>sg rfl (AWp.sub (Sub.own (t:=2) (id:=701) 35 15 rfl rfl) ?_)) nofun));exact aF rtT
 ·refine a8 (sg rfl (aA rfl nofun (fun _=>aD (sgh [(0,.id 701)] rfl (AWp.sub (st2:=mk [(2,.one (.hs 701 0 l.length l.length))] [(701,.arr 35 15 l 0)]) sl ?_)))));exact aF rtT
theorem vU (l:List (List C)) (h:l.length≤8000000):aW Tryz.prog 94 [.one (.c (.sl 10 l))] [] (.one (.hs 702 0 l.length l.length)) [(702,.arr 30 10 l 0)]:=by
 refine bZ (n:=8) tok Tryz.func94 rfl rfl rfl ?_;refine sg rfl (s9 0 rfl (fun hl=>?_) ?_)
 ·subst hl;refine a8 (sg rfl (aA rfl (fun _=>sg rfl (AWp.sub (Sub.own (t:=2) (id:=702) 30 10 rfl rfl) ?_)) nofun));exact aF rtT
 ·refine a8 (sg rfl (aA rfl nofun (fun _=>aD (sgh [(0,.id 702)] rfl (AWp.sub (st2:=mk [(2,.one (.hs 702 0 l.length l.length))] [(702,.arr 30 10 l 0)]) sl ?_)))));exact aF rtT
theorem wO (l:List (List C)) (h:l.length≤8000000):aW Tryz.prog 134 [.one (.c (.sl 14 l))] [] (.one (.hs 703 0 l.length l.length)) [(703,.arr 73 14 l 0)]:=by
 refine bZ (n:=8) tok Tryz.func134 rfl rfl rfl ?_;refine sg rfl (s9 0 rfl (fun hl=>?_) ?_)
 ·subst hl;refine a8 (sg rfl (aA rfl (fun _=>sg rfl (AWp.sub (Sub.own (t:=2) (id:=703) 73 14 rfl rfl) ?_)) nofun));exact aF rtT
 ·refine a8 (sg rfl (aA rfl nofun (fun _=>aD (sgh [(0,.id 703)] rfl (AWp.sub (st2:=mk [(2,.one (.hs 703 0 l.length l.length))] [(703,.arr 73 14 l 0)]) sl ?_)))));exact aF rtT
def oF (s:Str):List Str→Int→Int
 | [],_=> -1
 | x::l,k=>if s=x then k else oF s l (k+1)
theorem yE (s:Str):∀(l:List Str) (k:Int),0≤k→(decide (0≤oF s l k)=decide (s∈l))
 | [],k,_=>by simp[oF]
 | x::l,k,hk=>by
  rw[oF];split
  ·rename_i h;subst h;simp[hk]
  ·rename_i h;rw[yE s l (k+1) (by omega)];simp[h]
theorem aRt (l:List Str) (s:Str) (h:l.length≤8000000):aW Tryz.prog 131 [bV l,Go.AM.T s] [] (I .i64 (oF s l 0)) []:=by
 refine bZ (n:=19) tok Tryz.func131 rfl rfl rfl ?_;refine sg rfl (a8 (sg rfl ?_));have y:(l.map bA).length=l.length:=φ _;refine aC (aK (fun i:Nat=>mk [(0,bV l),(1,Go.AM.T s),(7,I .i64 ((l.map bA).length:Int)),(8,I .i64 i)] []) (fun i=>i≤l.length∧oF s l 0=oF s (l.drop i) i) (fun i=>l.length-i) 0 ⟨Al _,rfl⟩ sl ?_);intro i ⟨hi,he⟩;refine sg rfl (a8 (aA rfl (fun hb=>?_) (fun hb=>?_)))
 ·have q:=ltD hb y;obtain⟨x,hx⟩:=aJ q;have O:=bT bA hx;have hd:l.drop i=x::l.drop (i+1):=by rw[Bl q,(ξ.1 hx).2]
  rw[hd,oF] at he;refine aD (a8 (aC (sg rfl (sgh [(3,.row i (bA x))] rfl (aA rfl (fun hb=>?_) (fun hb=>?_))))))
  ·have hs:s=x:=ψ hb;rw[κ hs] at he;rw[he];exact sg rfl (aF rtT)
  ·have hs:¬s=x:=π hb;rw[θ hs] at he;exact aD (ag [] rfl ⟨i+1,⟨q,he⟩,by dsimp only;omega,sl⟩)
 ·have J:=geD hb y hi;subst J;rw[Cz,oF] at he;rw[he];exact aL (sg rfl (aF rtT))
theorem s8 (l:List Str) (s:Str) (h:l.length≤8000000):aW Tryz.prog 76 [bV l,Go.AM.T s] [] (B (decide (s∈l))) []:=by
 have hi:=aRt l s h;refine bZ (n:=9) tok Tryz.func76 rfl rfl rfl ?_;refine sg rfl (sgh [(2,.pc (I .i64 (oF s l 0)))] rfl ?_);rw[←yE s l 0 (by omega)];exact aF rtT
def gr:Ren:=⟨fun f=>if f=4 then 154 else f,fun t=>if t=22 then 65 else if t=25 then 9 else t,fun g=>g⟩
theorem a9j:Lays8.n4 Tryz.prog gr where
 mixed:=mixed
 f4:=⟨Tryz.f154.name,by kernel_rfl,by kernel_rfl⟩
 t0:=by kernel_rfl
 a0:=fun w=>by kernel_rfl
 z0:=fun w=>by kernel_rfl
 v0:=fun w=>by kernel_rfl
 t3:=by kernel_rfl
 a3:=fun w=>by kernel_rfl
 z3:=fun w=>by kernel_rfl
 v3:=fun w=>by kernel_rfl
 t4:=by kernel_rfl
 a4:=fun w=>by kernel_rfl
 z4:=fun w=>by kernel_rfl
 v4:=fun w=>by kernel_rfl
 t9:=by kernel_rfl
 a9:=fun w=>by kernel_rfl
 z9:=fun w=>by kernel_rfl
 v9:=fun w=>by kernel_rfl
 t20:=by kernel_rfl
 a20:=fun w=>by kernel_rfl
 z20:=fun w=>by kernel_rfl
 v20:=fun w=>by kernel_rfl
 t22:=by kernel_rfl
 a22:=fun w=>by kernel_rfl
 z22:=fun w=>by kernel_rfl
 v22:=fun w=>by kernel_rfl
theorem aV5 (k:Nat) (h:k≤4000000):aW Tryz.prog 154 [.one (.c .nl),I .i64 (k:Int)] [] (.one (.hs 720 0 0 0)) [(720,.arr 9 1 [] 0)]:=
 aVb (ρ:=gr) (ei:=⟨.str,1,16,[.str []]⟩) a9j tok (tg rfl) rfl k (by show k*16≤_;omega) (by omega)
theorem yO (a b:List Str) (h:a.length+b.length≤4000000):aW Tryz.prog 128 [.one (.c (.sl 1 [[.sl 1 (a.map bA)],[.sl 1 (b.map bA)]]))] [] (bV (a++b)) []:=by
 have Z:=aV5 (a.length+b.length) h;have J:(a.map bA).length=a.length:=φ _;have O:(b.map bA).length=b.length:=φ _;refine bZ (n:=36) tok Tryz.func128 rfl rfl rfl ?_;refine sg rfl (sg rfl (a8 (sg rfl (aC (aK (fun i:Nat=>mk [(0,.one (.c (.sl 1 [[.sl 1 (a.map bA)],[.sl 1 (b.map bA)]]))),(3,I .i64 ((if i=0 then 0 else if i=1 then a.length else a.length+b.length:Nat):Int)),(9,.one (.c (.sl 1 [[.sl 1 (a.map bA)],[.sl 1 (b.map bA)]]))),(10,I .i64 2),(11,I .i64 i)] []) (fun i=>i≤2) (fun i=>2-i) 0 (Al _) sl ?_)))));intro i hi;refine sg rfl (a8 (aA rfl (fun hb=>?_) (fun hb=>?_)))
 ·have Y:i<2:=by
   have:(i:Int)<2:=ψ hb;omega
  refine aD (a8 (aC ?_));have q:i=0∨i=1:=by omega
  rcases q with rfl | rfl
  ·refine sg rfl (a8 (agN [] rfl (sg rfl (aA rfl (fun hb=>?_) (fun _=>?_)))))
   ·exfalso;have:((0+(a.map bA).length:Nat):Int)<0:=ψ hb;omega
   refine aD (ag [] rfl ⟨1,by omega,by dsimp only;omega,sl (he:=⟨rfl,?_,rfl,rfl,rfl,trivial⟩)⟩);show some (I .i64 ((0+(a.map bA).length:Nat):Int))=some (I .i64 ((a.length:Nat):Int));rw[J,Be]
  ·refine sg rfl (a8 (agN [] rfl (sg rfl (aA rfl (fun hb=>?_) (fun _=>?_)))))
   ·exfalso;have:((a.length+(b.map bA).length:Nat):Int)<0:=ψ hb;omega
   refine aD (ag [] rfl ⟨2,by omega,by dsimp only;omega,sl (he:=⟨rfl,?_,rfl,rfl,rfl,trivial⟩)⟩);show some (I .i64 ((a.length+(b.map bA).length:Nat):Int))=some (I .i64 ((a.length+b.length:Nat):Int));rw[O]
 have y:i=2:=by
  have:¬(i:Int)<2:=π hb;omega
 subst y;refine aL (sk 1 rfl (kc Z ?_));refine kz 1 rfl (a8 (sg rfl (aC (aK (fun i:Nat=>mk [(6,.one (.hs 720 0 (if i=0 then 0 else if i=1 then a.length else a.length+b.length) (if i=0 then 0 else if i=1 then a.length else a.length+b.length))),(25,.one (.c (.sl 1 [[.sl 1 (a.map bA)],[.sl 1 (b.map bA)]]))),(26,I .i64 2),(27,I .i64 i)] [(720,.arr 9 1 (if i=0 then [] else if i=1 then a.map bA else a.map bA++b.map bA) 0)]) (fun i=>i≤2) (fun i=>2-i) 0 (Al _) sl ?_))));intro i hi;refine sg rfl (a8 (aA rfl (fun hb=>?_) (fun hb=>?_)))
 ·have Y:i<2:=by
   have:(i:Int)<2:=ψ hb;omega
  refine aD (a8 (aC ?_));have q:i=0∨i=1:=by omega
  rcases q with rfl | rfl
  ·exact sg rfl (ag [] rfl (ag [] rfl ⟨1,by omega,by dsimp only;omega,sl⟩))
  ·exact sg rfl (ag [] rfl (ag [] rfl ⟨2,by omega,by dsimp only;omega,sl⟩))
 have y:i=2:=by
  have:¬(i:Int)<2:=π hb;omega
 subst y;refine aL (sg rfl (AWp.sub (Sub.freeze (id:=720) rfl) ?_));exact aF (rtT (hc:=hs_all rfl rfl (by simp) (by simp)))
end Go.Proofs.YtnjaiimffoninaaGreatDoor
namespace Go.Proofs.YtnjaiimffoninaaGreatDoor
open Go Go.AM
set_option maxRecDepth 20000
theorem aMs:∀(n:Nat),n<1000000000000000000→Lib.decDigits n=dec n:=by
 intro n
 induction n using Nat.strongRecOn with
 | _ n q=>
  intro h;rw[Lib.decDigits,a41 n h];by_cases h1:n<10
  ·rw[dif_pos h1,κ h1]
  ·rw[dif_neg h1,θ h1,q (n/10) (by omega) (by omega)]
theorem aRr (k:Nat) (h:k<1000000000000000000):aW Tryz.prog 77 [I .i64 (k:Int)] [] (Go.AM.T (dec k)) []:=by
 have:=aRs k h;rwa [aMs k h] at this
theorem x9 {f n:Int}{s:Str}{a:List Ty}(q:¬f=4):aW Tryz.prog 71 [tyV (.mk f n s a)] [] (.tup [tyV (.mk f n s a),.one (.hs 510 0 0 0)]) [(510,.arr 25 4 [] 2)]:=by
 refine bZ (n:=26) tok Tryz.func71 rfl rfl rfl ?_;refine sg rfl (a8 (sg rfl (aA rfl (fun _=>sg rfl (AWp.sub (Sub.own (t:=3) (id:=510) 25 4 rfl rfl) (AWp.sub (Sub.freeze (id:=510) rfl) ?_))) (fun hb=>by simp[Ty.form,q] at hb))));exact aF ⟨.inr rfl,⟨_,_,.cell rfl (tg rfl) rfl rfl rfl (.tmp rfl .nil),.cons .refl (.cons .refl .nil),rfl⟩,⟨⟨_,rfl,.arr⟩,trivial⟩,rfl⟩
def GTs:Nat→List Ty→Prop
 | _,[]=>True
 | n,x::l=>∃k m,GT k x∧GTs m l∧k+m+1≤n
theorem GTs.snoc {k:Nat}{b:Ty}(hb:GT k b):∀{l:List Ty}{n:Nat},GTs n l→GTs (n+k+1) (l++[b])
 | [],n,_=>⟨k,0,hb,trivial,by omega⟩
 | x::l,n,h=>by
  obtain⟨j,m,h1,h2,h3⟩:=h;exact⟨j,m+k+1,h1,GTs.snoc hb h2,by omega⟩
theorem aQ4 {n:Nat}{t:Ty}(h:GT n t) (hn:n≤100000):∃(hd:Ty) (l:List Ty),GTs (n-1) l∧l.length≤n∧
  aW Tryz.prog 71 [tyV t] [] (.tup [tyV hd,.one (.hs 510 0 l.length l.length)]) [(510,.arr 25 4 (l.map c7) 2)]:=by
 induction h with
 | var s hs=>exact⟨.mk 2 0 s [],[],trivial,by simp,x9 (by decide)⟩
 | con s hs=>exact⟨.mk 3 0 s [],[],trivial,by simp,x9 (by decide)⟩
 | @app m n a b ha hb q Y=>
  obtain⟨hd,l,h1,h2,h3⟩:=q (by omega);have Z:l.length≤100000:=by omega
  have ab:1≤m:=by cases ha<;>omega
  refine⟨hd,l++[b],?_,by rw[ε];simp;omega,?_⟩
  ·have:=GTs.snoc hb h1;rw[show m-1+n+1=m+n+1-1 by omega] at this;exact this
  ·obtain⟨ac,ad,ae,ah⟩:=hd;obtain⟨af,an,y,I⟩:=a;obtain⟨J,bn,sb,O⟩:=b;refine bZ (n:=26) tok Tryz.func71 rfl rfl rfl ?_;refine sg rfl (a8 (sg rfl (aA rfl (fun hb=>by simp[Ty.form] at hb) (fun _=>aD (skh 4 [(2,.row 0 (c7 (.mk af an y I)))] rfl (kc h3 ?_))))));refine kz 6 rfl (sgh [(4,.row 1 (c7 (.mk J bn sb O)))] rfl (AWp.sub (Sub.freeze (id:=510) rfl) ?_));exact aF ⟨.inr rfl,⟨_,_,.cell rfl (tg rfl) rfl rfl rfl (.tmp rfl .nil),.cons .refl (.cons .refl .nil),by rw[φ,ε];rfl⟩,⟨⟨_,rfl,by rw[A6];exact .arr⟩,trivial⟩,rfl⟩
theorem yJ {n:Nat}{t:Ty}(h:GT n t):(∃(m1 m2:Nat) (a b:Ty),GT m1 a∧GT m2 b∧n=m1+m2+3∧t=aTq a b∧aW Tryz.prog 73 [tyV t] [] (B true) [])∨aW Tryz.prog 73 [tyV t] [] (B false) []:=by
 cases h with
 | var s hs=>
  refine .inr ?_;refine bZ (n:=28) tok Tryz.func73 rfl rfl rfl ?_;exact sg rfl (a8 (sg rfl (aA rfl (fun _=>sg rfl (aF rtT)) (fun hb=>by simp[Ty.form] at hb))))
 | con s hs=>
  refine .inr ?_;refine bZ (n:=28) tok Tryz.func73 rfl rfl rfl ?_;exact sg rfl (a8 (sg rfl (aA rfl (fun _=>sg rfl (aF rtT)) (fun hb=>by simp[Ty.form] at hb))))
 | @app m k a b ha hb=>
  cases ha with
  | var s hs=>
   refine .inr ?_;refine bZ (n:=28) tok Tryz.func73 rfl rfl rfl ?_;exact sg rfl (a8 (sg rfl (aA rfl (fun hb=>by simp[Ty.form] at hb) (fun _=>aD (a8 (sgh [(2,.row 0 (c7 (.mk 2 0 s [])))] rfl (aA rfl (fun _=>sg rfl (aF rtT)) (fun hb=>by simp[Ty.form] at hb))))))))
  | con s hs=>
   refine .inr ?_;refine bZ (n:=28) tok Tryz.func73 rfl rfl rfl ?_;exact sg rfl (a8 (sg rfl (aA rfl (fun hb=>by simp[Ty.form] at hb) (fun _=>aD (a8 (sgh [(2,.row 0 (c7 (.mk 3 0 s [])))] rfl (aA rfl (fun _=>sg rfl (aF rtT)) (fun hb=>by simp[Ty.form] at hb))))))))
  | @app Z k' f q O J=>
   have run:∀r:Bool,(bif decide (f.form=3) then decide (f.name=arrow) else false)=r→aW Tryz.prog 73 [tyV (.mk 4 0 [] [.mk 4 0 [] [f,q],b])] [] (B r) []:=by
    intro r Y;obtain⟨y,fn,fs,I⟩:=f;refine bZ (n:=28) tok Tryz.func73 rfl rfl rfl ?_;refine sg rfl (a8 (sg rfl (aA rfl (fun hb=>by simp[Ty.form] at hb) (fun _=>aD (a8 (sgh [(2,.row 0 (c7 (.mk 4 0 [] [.mk y fn fs I,q])))] rfl (aA rfl (fun hb=>by simp[Ty.form] at hb) (fun _=>aD (sgh [(2,.row 0 (c7 (.mk 4 0 [] [.mk y fn fs I,q]))),(5,.row 0 (c7 (.mk y fn fs I)))] rfl (a8 (agF 4 [] rfl rfl rfl ?_)))))))))));subst Y;exact aF rtT
   cases O with
   | var s hs=>exact .inr (run false rfl)
   | con s hs=>
    by_cases h1:s=arrow
    ·subst h1;exact .inl ⟨_,_,q,b,J,hb,by omega,rfl,run true rfl⟩
    ·exact .inr (run false (by simp[Ty.form,Ty.name,h1]))
   | app h1 h2=>exact .inr (run false rfl)
theorem yI {n:Nat}{t:Ty}(h:GT n t) (hn:n≤100000):∃s:Str,s.length≤16*n∧aW Tryz.prog 152 [tyV t,.one (.c .nl)] [] (Go.AM.T s) []:=by
 have hM:1000000000≤maxLen:=by decide
 induction h with
 | var s hs=>
  have hs:=a63 s hs;refine⟨39::s,by rw[Ai];omega,?_⟩;refine bZ (n:=91) tok Tryz.func152 rfl rfl rfl ?_;refine sg rfl (a8 (sg rfl (aC (sg rfl (aA rfl (fun hb=>by simp[Ty.form] at hb) (fun _=>sg rfl (aA rfl (fun _=>a8 (sg rfl (aC (aK (fun _:Unit=>mk [(1,.one (.c .nl)),(2,.one (.vp 2 0)),(5,I .i64 (-1))] [(2,.var 25 ((c7 (.mk 2 0 s [])).map R.c))]) (fun _=>True) (fun _=>0) () trivial sl ?_)))) (fun hb=>by simp[Ty.form] at hb))))))));intro _ _;refine a8 (sg rfl (aA rfl (fun hb=>by simp at hb) (fun _=>aL (sg rfl ?_ (hc:=by repeat (first | exact trivial | refine⟨by first | rfl | omega | (simp;omega) | (unfold Ty.name;simp;omega) | (simp;done),?_⟩))))));exact aF rtT
 | con s hs=>
  refine⟨s,by omega,?_⟩;refine bZ (n:=91) tok Tryz.func152 rfl rfl rfl ?_;exact sg rfl (a8 (sg rfl (aC (sg rfl (aA rfl (fun hb=>by simp[Ty.form] at hb) (fun _=>sg rfl (aA rfl (fun hb=>by simp[Ty.form] at hb) (fun _=>sg rfl (aA rfl (fun _=>sg rfl (aF rtT)) (fun hb=>by simp[Ty.form] at hb))))))))))
 | @app m k a b ha hb q y=>
  obtain⟨s1,h1,J⟩:=q (by omega);obtain⟨s2,h2,O⟩:=y (by omega);refine⟨[40]++s1++[32]++s2++[41],by simp;omega,?_⟩;obtain⟨af,an,Y,Z⟩:=a;obtain⟨bf,bn,sb,ba⟩:=b;refine bZ (n:=91) tok Tryz.func152 rfl rfl rfl ?_;refine sg rfl (a8 (sg rfl (aC (sg rfl (aA rfl (fun hb=>by simp[Ty.form] at hb) (fun _=>sg rfl (aA rfl (fun hb=>by simp[Ty.form] at hb) (fun _=>sg rfl (aA rfl (fun hb=>by simp[Ty.form] at hb) (fun _=>sg rfl (aA rfl (fun hb=>by simp[Ty.form] at hb) (fun _=>aD (a8 (a8 (agF 4 [] rfl rfl rfl (aA rfl (fun hb=>by simp[Ty.form,iK,fQ] at hb) (fun _=>aD (skh 5 [(2,.row 0 (c7 (.mk af an Y Z)))] rfl (kc J ?_)))))))))))))))))));refine ak 7 [(10,.row 1 (c7 (.mk bf bn sb ba)))] rfl ?_ (hc:=by repeat (first | exact trivial | refine⟨by first | rfl | omega | (simp;omega) | (unfold Ty.name;simp;omega) | (simp;done),?_⟩));refine kc O ?_;refine ak 3 [] rfl ?_ (hc:=by repeat (first | exact trivial | refine⟨by first | rfl | omega | (simp;omega) | (unfold Ty.name;simp;omega) | (simp;done),?_⟩));exact az (aF rtT)
theorem a4v {n m:Nat}{a b:Ty}(ha:GT n a) (hb:GT m b) (hn:n≤100000) (hm:m≤100000):∃r:Bool,aW Tryz.prog 125 [tyV a,tyV b] [] (B r) []:=by
 obtain⟨s1,h1,q⟩:=yI ha hn;obtain⟨s2,h2,y⟩:=yI hb hm;refine⟨decide (s1=s2),?_⟩;obtain⟨af,an,I,J⟩:=a;obtain⟨O,bn,sb,Y⟩:=b;refine bZ (n:=10) tok Tryz.func125 rfl rfl rfl ?_;refine sg rfl (sk 1 rfl (kc q ?_));refine ak 1 [] rfl (kc y ?_);exact kz 2 rfl (aF rtT)
theorem a0e (L:List (Str×Ty)) (i:Nat) (hi:i<L.length) (hl:L.length≤1000000):∃r:Bool,aW Tryz.prog 126 [.one (.c (.sl 5 (L.map vN))),I .i64 i] [] (B r) []:=by
 obtain⟨x,hx⟩:=aJ hi;have Z:=bT vN hx;have q:(L.map vN).length=L.length:=φ _;refine⟨@decide (∀(j:Nat) (y:Str×Ty),i<j→L[j]?=some y→¬y.1=x.1) (Classical.propDecidable _),?_⟩;generalize Y: @decide (∀(j:Nat) (y:Str×Ty),i<j→L[j]?=some y→¬y.1=x.1) (Classical.propDecidable _)=r;refine bZ (n:=25) tok Tryz.func126 rfl rfl rfl ?_;refine sg rfl (a8 (a8 (agN [] rfl ?_ (hc:=by repeat (first | exact trivial | refine⟨by first | rfl | omega | (simp;omega) | (unfold Ty.name;simp;omega) | (simp;done),?_⟩)))));refine aC (aK (fun k:Nat=>mk [(0,.one (.c (.sl 5 (L.map vN)))),(1,I .i64 i),(4,B false),(5,I .i64 k)] []) (fun k=>i<k∧k≤L.length∧∀(j:Nat) (y:Str×Ty),i<j→j<k→L[j]?=some y→¬y.1=x.1) (fun k=>L.length-k) (i+1) ⟨by omega,by omega,fun j y h1 h2=>by omega⟩ sl ?_);intro k ⟨h1,h2,h3⟩;refine a8 (sg rfl (aA rfl (fun hb=>?_) (fun hb=>?_)))
 ·have J:=ltD hb q;obtain⟨y,O⟩:=aJ J;have aa:=bT vN O;refine aD (a8 (aC (sgh [(2,.row k (vN y)),(7,.row i (vN x))] rfl (aA rfl (fun hb=>?_) (fun hb=>?_)))))
  ·have he:y.1=x.1:=by simpa using hb
   refine sg rfl ?_;have:r=false:=by
    rw[←Y];simp only[Br];exact fun h=>h k y h1 O he
   rw[this];exact aF rtT
  ·have he:¬y.1=x.1:=by simpa using hb
   refine aD (ag [] rfl ⟨k+1,⟨by omega,J,fun j z g1 g2 g3=>?_⟩,by dsimp only;omega,sl⟩);by_cases hj:j=k
   ·rw[hj,O,Option.some.injEq] at g3;rw[←g3];exact he
   ·exact h3 j z g1 (by omega) g3
 ·have ab:=geD hb q h2;refine aL (sg rfl ?_);have:r=true:=by
   rw[←Y];simp only[A4];exact fun j y g1 g2=>h3 j y g1 (by have:=(ξ.1 g2).1;omega) g2
  rw[this];exact aF rtT
theorem aKt (l:List Int) (left:Int) (v:Gv) (h:Ok l):∃(s:Str) (l':List Int),s∈nmL∧Ok l'∧aW Tryz.prog 66 [.one (.vp 700 0),.pa (aBi v)] (mO l left) (Go.AM.T s) (mO l' left):=by
 obtain⟨i,l',hi,q,hc⟩:=kC l left 5 (by decide) h;have hi:i<5:=by omega
 obtain⟨s,hs⟩:∃s,([[120],[121],[122,64,49],[97],[98]]:List Str)[i]?=some s:=aJ (by simpa using hi);have y:=bT bA hs;refine⟨s,l',?_,q,?_⟩
 ·have:i=0∨i=1∨i=2∨i=3∨i=4:=by omega
  rcases this with rfl | rfl | rfl | rfl | rfl<;>(simp at hs;subst hs;decide)
 ·refine bZ (n:=10) tok Tryz.func66 rfl rfl rfl ?_;refine sg rfl (sk 2 rfl (kc hc ?_));exact ak 3 [(3,.row i []),(4,.row i (bA s))] rfl (az (aF rtT))
def aY0:Ty:=.mk 3 0 [66,111,111,108] []
def a66 (l:List Str):V:=.one (.c (.sl 1 (l.map bA)))
def Sh8 (l:List Str):Prop:=∀s∈l,s∈tvN
def tsz:Nat→Nat
 | 0=>1
 | f+1=>2*tsz f+3
def a1i (vars:List Str) (dp:Int) (m:Nat):Prop:=∀(l:List Int) (left:Int),Ok l→
  ∃(t:Ty) (l':List Int) (n:Nat),GT n t∧n≤m∧Ok l'∧aW Tryz.prog 22 [.one (.vp 700 0),a66 vars,I .i64 dp] (mO l left) (tyV t) (mO l' left)
theorem GT.nm {s:Str}(h:s.length≤8):GT 1 (.mk 3 0 s []):=.con s h
theorem aIs (vars:List Str) (hv:Sh8 vars) (hvl:vars.length≤1000000) (q:Int) (h0:0≤q) (hd3:q≤3) (m M:Nat) (h1:1≤M) (hM:q≤2→2*m+3≤M) (ih:q≤2→a1i vars (q+1) m):a1i vars q M:=by
 intro l left h;obtain⟨i,l1,hi,I,hc⟩:=kC l left 8 (by decide) h;have hi:i<8:=by omega
 have hvk:(vars.map bA).length=vars.length:=φ _;by_cases hA:5<i∧0<vars.length
 ·obtain⟨j,O,hj,y,ab⟩:=kC l1 left vars.length (by omega) I;have hj:j<vars.length:=by omega
  obtain⟨x,hx⟩:=aJ hj;have hx':=bT bA hx;refine⟨.mk 2 0 x [],O,1,.var x (hv x (δ hx)),by omega,y,?_⟩;refine bZ (n:=68) tok Tryz.func22 rfl rfl rfl ?_;refine sg rfl (sk 1 rfl (kc hc ?_));refine kz 1 rfl (a8 (a8 (agF 3 [] rfl rfl rfl ?_)));have g1:(5:Int)<i:=by omega
  have g2:(0:Int)<((vars.map bA).length:Nat):=by omega
  refine aA rfl (fun _=>sk 4 rfl ?_) (fun hb=>by rw[Ae g1,Ae g2] at hb;cases hb);rw[←hvk] at ab;refine kc ab ?_;exact ak 4 [(5,.row j (bA x))] rfl (az (aF (rtC trw)))
 ·by_cases hB:i<3∨2<q
  ·have J:∃(k:Nat) (t:Ty),k<2∧(i:Int)%2=k∧GT 1 t∧[c7 a1t,c7 aY0][k]?=some (c7 t):=by
    have:i%2=0∨i%2=1:=by omega
    rcases this with e | e
    ·exact⟨0,a1t,by omega,by omega,.con _ (by decide),rfl⟩
    ·exact⟨1,aY0,by omega,by omega,.con _ (by decide),rfl⟩
   obtain⟨k,t,hk,hik,ht,J⟩:=J;refine⟨t,l1,1,ht,by omega,I,?_⟩;obtain⟨tf,tn,ts,ta⟩:=t;refine bZ (n:=68) tok Tryz.func22 rfl rfl rfl ?_;refine sg rfl (sk 1 rfl (kc hc ?_));refine kz 1 rfl (a8 (a8 (agF 3 [] rfl rfl rfl (aA rfl (fun hb=>by simp at hb;omega) (fun _=>aD (a8 (a8 (agF 3 [] rfl rfl rfl (aA rfl (fun _=>a8 (aE mixed (kc (lT [73,110,116]) ?_))) (fun hb=>by simp at hb;omega))))))))));refine kc (lT [66,111,111,108]) ?_;exact ak 6 [(5,.row k []),(6,.row k (c7 (.mk tf tn ts ta)))] rfl (az (aF (rtC trw)))
  ·have hM:=hM (by omega);obtain⟨⟨af,an,Y,Z⟩,O,na,ga,hna,y,ca⟩:=ih (by omega) l1 left I;by_cases hC:i=3
   ·refine⟨.mk 4 0 [] [.mk 3 0 [76] [],.mk af an Y Z],O,1+na+1,.app (.nm (by decide)) ga,by omega,y,?_⟩;refine bZ (n:=68) tok Tryz.func22 rfl rfl rfl ?_;refine sg rfl (sk 1 rfl (kc hc ?_));refine kz 1 rfl (a8 (a8 (agF 3 [] rfl rfl rfl (aA rfl (fun hb=>by simp at hb;omega) (fun _=>aD (a8 (a8 (agF 3 [] rfl rfl rfl (aA rfl (fun hb=>by simp at hb;omega) (fun _=>aD (sk 4 rfl ?_ (hc:=by repeat (first | exact trivial | refine⟨by first | rfl | omega | (simp;omega) | (unfold Ty.name;simp;omega) | (simp;done),?_⟩)))))))))))));refine kc ca ?_;refine kz 2 rfl (a8 (sg rfl (aA rfl (fun _=>a8 (aE mixed (kc (lT [76]) ?_))) (fun hb=>by simp at hb;omega))));refine kz 4 rfl (AWp.sub (Sub.freeze (id:=49) rfl) ?_);exact aF (rtC trw)
   ·obtain⟨⟨bf,bn,sb,ba⟩,l3,nb,gb,hnb,ac,cb⟩:=ih (by omega) O left y;by_cases hD:i=4
    ·refine⟨aTq (.mk af an Y Z) (.mk bf bn sb ba),l3,na+nb+3,ga.fn gb,by omega,ac,?_⟩;refine bZ (n:=68) tok Tryz.func22 rfl rfl rfl ?_;refine sg rfl (sk 1 rfl (kc hc ?_));refine kz 1 rfl (a8 (a8 (agF 3 [] rfl rfl rfl (aA rfl (fun hb=>by simp at hb;omega) (fun _=>aD (a8 (a8 (agF 3 [] rfl rfl rfl (aA rfl (fun hb=>by simp at hb;omega) (fun _=>aD (sk 4 rfl ?_ (hc:=by repeat (first | exact trivial | refine⟨by first | rfl | omega | (simp;omega) | (unfold Ty.name;simp;omega) | (simp;done),?_⟩)))))))))))));refine kc ca ?_;refine kz 2 rfl (a8 (sg rfl (aA rfl (fun hb=>by simp at hb;omega) (fun _=>aD (sk 4 rfl ?_ (hc:=by repeat (first | exact trivial | refine⟨by first | rfl | omega | (simp;omega) | (unfold Ty.name;simp;omega) | (simp;done),?_⟩)))))));refine kc cb ?_;refine kz 2 rfl (a8 (sg rfl (aA rfl (fun _=>sk 2 rfl (kc (a0t (.mk af an Y Z) (.mk bf bn sb ba)) ?_)) (fun hb=>by simp at hb;omega))));exact kz 1 rfl (aF (rtC trw))
    ·refine⟨.mk 4 0 [] [.mk 4 0 [] [.mk 3 0 [80] [],.mk af an Y Z],.mk bf bn sb ba],l3,1+na+1+nb+1,.app (.app (.nm (by decide)) ga) gb,by omega,ac,?_⟩;refine bZ (n:=68) tok Tryz.func22 rfl rfl rfl ?_;refine sg rfl (sk 1 rfl (kc hc ?_));refine kz 1 rfl (a8 (a8 (agF 3 [] rfl rfl rfl (aA rfl (fun hb=>by simp at hb;omega) (fun _=>aD (a8 (a8 (agF 3 [] rfl rfl rfl (aA rfl (fun hb=>by simp at hb;omega) (fun _=>aD (sk 4 rfl ?_ (hc:=by repeat (first | exact trivial | refine⟨by first | rfl | omega | (simp;omega) | (unfold Ty.name;simp;omega) | (simp;done),?_⟩)))))))))))));refine kc ca ?_;refine kz 2 rfl (a8 (sg rfl (aA rfl (fun hb=>by simp at hb;omega) (fun _=>aD (sk 4 rfl ?_ (hc:=by repeat (first | exact trivial | refine⟨by first | rfl | omega | (simp;omega) | (unfold Ty.name;simp;omega) | (simp;done),?_⟩)))))));refine kc cb ?_;refine kz 2 rfl (a8 (sg rfl (aA rfl (fun hb=>by simp at hb;omega) (fun _=>aD (a8 (aE mixed (kc (lT [80]) ?_)))))));exact ak 7 [(2,.all),(5,.all)] rfl (az (aF (rtC trw)))
theorem aNk:∀f,1≤tsz f
 | 0=>le_refl _
 | f+1=>by rw[tsz];omega
theorem aBk (vars:List Str) (I:Sh8 vars) (y:vars.length≤1000000):∀(f:Nat) (q:Int),q+f=3→0≤q→a1i vars q (tsz f)
 | 0,q,hd,h0=>aIs vars I y q h0 (by omega) 0 (tsz 0) (aNk 0) (fun h=>by omega) (fun h=>by omega)
 | f+1,q,hd,h0=>aIs vars I y q h0 (by omega) (tsz f) (tsz (f+1)) (aNk _) (fun _=>le_refl _) (fun _=>aBk vars I y f (q+1) (by omega) (by omega))
inductive GC (z:Bool):List Str→Nat→Core→Prop
 | var {L:List Str} {s:Str} (h:s∈nm6) (hL:s∈L):GC z L 4 (.mk 1 0 s zTy [] [] [])
 | con {L:List Str} {s:Str} (h:s.length≤8):GC z L 9 (.mk 2 0 s zTy [] [] [])
 | int {L:List Str} {n:Int} (h: -100≤n∧n≤100):GC z L 1 (.mk 3 n [] zTy [] [] [])
 | app {L:List Str} {m n:Nat} {a b:Core} (ha:GC z L m a) (hb:GC z L n b):GC z L (m+n+1) (.mk 4 0 [] zTy [a,b] [] [])
 | lam {L:List Str} {m k:Nat} {s:Str} {t:Ty} {a:Core} (h:s∈nm6) (ht:GT k t) (hk:k≤100) (ha:GC z (L++[s]) m a):GC z L (m+4) (.mk 5 0 s t [a] [] [])
 | tc {L:List Str} {k:Nat} {t:Ty} {s:Str} (h:s.length≤8) (ht:GT k t) (hk:k≤100):GC z L (9+1) (.mk 6 0 [] t [.mk 2 0 s zTy [] [] []] [] [])
 | tc2 {L:List Str} {j k:Nat} {u t:Ty} {s:Str} (h:s.length≤8) (hu:GT j u) (hj:j≤100) (ht:GT k t) (hk:k≤100):GC z L (9+1+1) (.mk 6 0 [] t [.mk 6 0 [] u [.mk 2 0 s zTy [] [] []] [] []] [] [])
 | tr {L:List Str} {m n j k:Nat} {u t:Ty} {s x:Str} {a b:Core} (hu:GT j u) (hj:j≤100) (hs:s∈tvN) (hx:x∈nm6) (ht:GT k t) (hk:k≤100) (ha:GC z (L++[x]) m a) (hb:GC z L n b):GC z L (m+4+20+1+n+1) (.mk 4 0 [] zTy [.mk 6 0 [] u [.mk 7 0 s zTy [.mk 5 0 x t [a] [] []] [] []] [] [],b] [] [])
 | tlam {L:List Str} {m:Nat} {s:Str} {a:Core} (hz:z=true) (h:s∈tvN) (ha:GC z L m a):GC z L (m+20) (.mk 7 0 s zTy [a] [] [])
 | lt {L:List Str} {m n k:Nat} {s:Str} {t:Ty} {a b:Core} (h:s∈nm6) (ht:GT k t) (hk:k≤100) (ha:GC z (L++[s]) m a) (hb:GC z (L++[s]) n b):GC z L (m+n+5) (.mk 8 0 [] zTy [a] [.mk s t b] [])
 | case1 {L:List Str} {m n k:Nat} {t:Ty} {a b:Core} {f i:Int} {s:Str} {vs:List Str} (ht:GT k t) (hk:k≤100) (ha:GC z L m a) (hb:GC z (L++vs) n b) (h1:1≤f∧f≤3) (h2: -100≤i∧i≤100) (h3:s.length≤8) (h4:∀x∈vs,x∈nm6) (h5:vs.length≤2) (h6:f=1∨vs=[]):GC z L (m+n+20) (.mk 9 0 [] t [a] [] [.mk f i s vs b])
 | case2 {L:List Str} {m n o k:Nat} {t:Ty} {a b c:Core} {f i:Int} {s:Str} {vs:List Str} {f' i':Int} {s':Str} {vs':List Str} (ht:GT k t) (hk:k≤100) (ha:GC z L m a) (hb:GC z (L++vs) n b) (hc:GC z (L++vs') o c) (h1:1≤f∧f≤3) (h2: -100≤i∧i≤100) (h3:s.length≤8) (h4:∀x∈vs,x∈nm6) (h5:vs.length≤2) (h6:f=1∨vs=[]) (h1':1≤f'∧f'≤3) (h2': -100≤i'∧i'≤100) (h3':s'.length≤8) (h4':∀x∈vs',x∈nm6) (h5':vs'.length≤2) (h6':f'=1∨vs'=[]):GC z L (m+n+o+40) (.mk 9 0 [] t [a] [] [.mk f i s vs b,.mk f' i' s' vs' c])
 | prim {L:List Str} {m n:Nat} {s:Str} {a b:Core} (h:s∈aUk) (ha:GC z L m a) (hb:GC z L n b):GC z L (m+n+5) (.mk 10 0 s zTy [a,b] [] [])
 | fail {L:List Str} {k:Nat} {t:Ty} (ht:GT k t) (hk:k≤100):GC z L 1 (.mk 11 0 [] t [] [] [])
theorem oK {L L' vs:List Str}(h:∀s∈nm6,s∈L→s∈L'):∀s∈nm6,s∈L++vs→s∈L'++vs:=fun s hs hx=>(ω.1 hx).elim (fun hx=>ω.2 (.inl (h s hs hx))) fun hx=>ω.2 (.inr hx)
theorem GC.mono {z:Bool}{L:List Str}{m:Nat}{c:Core}(h:GC z L m c):∀{L':List Str},(∀s∈nm6,s∈L→s∈L')→GC z L' m c:=by
 induction h with
 | var h hL=>exact fun hm=>.var h (hm _ h hL)
 | con h=>exact fun _=>.con h
 | int h=>exact fun _=>.int h
 | app _ _ q y=>exact fun hm=>.app (q hm) (y hm)
 | lam h ht hk _ q=>exact fun hm=>.lam h ht hk (q (oK hm))
 | tc h ht hk=>exact fun _=>.tc h ht hk
 | tc2 h hu hj ht hk=>exact fun _=>.tc2 h hu hj ht hk
 | tr hu hj hs hx ht hk _ _ q y=>exact fun hm=>.tr hu hj hs hx ht hk (q (oK hm)) (y hm)
 | tlam hz h _ q=>exact fun hm=>.tlam hz h (q hm)
 | lt h ht hk _ _ q y=>exact fun hm=>.lt h ht hk (q (oK hm)) (y (oK hm))
 | case1 ht hk _ _ h1 h2 h3 h4 h5 h6 q y=>exact fun hm=>.case1 ht hk (q hm) (y (oK hm)) h1 h2 h3 h4 h5 h6
 | case2 ht hk _ _ _ h1 h2 h3 h4 h5 h6 h1' h2' h3' h4' h5' h6' q y I=>exact fun hm=>.case2 ht hk (q hm) (y (oK hm)) (I (oK hm)) h1 h2 h3 h4 h5 h6 h1' h2' h3' h4' h5' h6'
 | prim h _ _ q y=>exact fun hm=>.prim h (q hm) (y hm)
 | fail ht hk=>exact fun _=>.fail ht hk
def nmG (v:Gv):List Str:=v.l.map (·.1)
theorem aJv {v:Gv}{s:Str}{t:Ty}:nmG (eF v s t)=nmG v++[s]:=by
 unfold nmG eF;rw[A6];rfl
theorem GC.within {z:Bool}{v:Gv}{s:Str}{t:Ty}{m:Nat}{c:Core}(h:GC z (nmG (eF v s t)) m c):GC z (nmG v++[s]) m c:=by rwa [aJv] at h
theorem GC.less {z:Bool}{v:Gv}{t:Ty}{m:Nat}{c:Core}(h:GC z (nmG (eF v [] t)) m c):GC z (nmG v) m c:=h.within.mono fun s hs hx=>(ω.1 hx).resolve_right fun e=>by
 rw[Ab.1 e] at hs;exact absurd hs (by decide)
theorem GC.less0 {z:Bool}{v:Gv}{t:Ty}{m:Nat}{c:Core}(h:GC z (nmG (eF v [] t)) m c):GC z (nmG v++[]) m c:=by rw[A9];exact h.less
theorem GC.in2 {z:Bool}{v:Gv}{s s':Str}{t t':Ty}{m:Nat}{c:Core}(h:GC z (nmG (eF (eF v s t) s' t')) m c):GC z (nmG v++[s,s']) m c:=by
 have:=h.within;rw[aJv,Aw] at this;exact this
structure Gok (v:Gv):Prop where
 all:∀x∈v.l,(x.1=[]∨x.1∈nm6)∧∃k,k≤100∧GT k x.2
 vars:Sh8 v.vars
 d0:0≤v.deep
 len:(v.l.length:Int)≤v.deep
 vlen:(v.vars.length:Int)≤v.deep+1
theorem Gok.more {v:Gv}(h:Gok v) {s:Str}{t:Ty}{k:Nat}(hs:s=[]∨s∈nm6) (ht:GT k t) (hk:k≤100):Gok (eF v s t):=by
 obtain⟨h1,h2,h3,h4,h5⟩:=h;refine⟨fun x hx=>?_,h2,by show 0≤v.deep+1;omega,?_,by show(v.vars.length:Int)≤v.deep+1+1;omega⟩
 ·rcases ω.1 hx with hx | hx
  ·exact h1 x hx
  ·rw[Ab.1 hx];exact⟨hs,k,hk,ht⟩
 ·show((v.l++[(s,t)]).length:Int)≤v.deep+1;rw[ε];simp only[Bs,List.length_nil];omega
def aNl (L:List (Str×Ty)) (f g:Nat→Bool):Nat→List Int→Option Str×List Int
 | 0,l=>(none,l)
 | k+1,l=>if ¬(L[k]?.getD ([],zTy)).1=[]∧f k=true∧g k=true then(if 0<(wJ l 3).1 then(some (L[k]?.getD ([],zTy)).1,(wJ l 3).2) else aNl L f g k (wJ l 3).2) else aNl L f g k l
theorem aGf (L:List (Str×Ty)) (f g:Nat→Bool):∀(k:Nat) (l:List Int),k≤L.length→Ok l→Ok (aNl L f g k l).2∧∀s,(aNl L f g k l).1=some s→¬s=[]∧∃x∈L,x.1=s
 | 0,l,_,h=>⟨h,fun s hs=>by simp[aNl] at hs⟩
 | k+1,l,hk,h=>by
  rw[aNl];split
  ·rename_i hc;split
   ·refine⟨sV h 3,fun s hs=>?_⟩;simp only[Option.some.injEq] at hs;subst hs;obtain⟨x,hx⟩:=aJ (l:=L) (k:=k) (by omega);rw[hx] at hc ⊢;exact⟨hc.1,x,δ hx,rfl⟩
   ·exact aGf L f g k _ (by omega) (sV h 3)
  ·exact aGf L f g k _ (by omega) h
def vRt (v:Gv):List R:=(aBi v).map R.c
def tR (t:Ty):List R:=(c7 t).map R.c
def bb (f:Int) (s a:Str):Bool:=bif decide (f=3) then decide (s=a) else false
theorem rK {f:Int}{s a:Str}(h:bb f s a=true):f=3∧s=a:=by
 unfold bb at h;by_cases h1:f=3
 ·by_cases h2:s=a
  ·exact⟨h1,h2⟩
  ·simp[h2] at h
 ·simp[h1] at h
theorem aK8 {f:Int}{s a:Str}{n k:Nat}(h:(bif decide (f=3) then bif decide (s=a) then decide ((n:Int)=(k:Int)) else false else bif false then decide ((n:Int)=(k:Int)) else false)=true):bb f s a=true∧n=k:=by
 unfold bb;by_cases h1:f=3
 ·by_cases h2:s=a
  ·simp[h1,h2] at h ⊢;omega
  ·simp[h2] at h
 ·simp[h1] at h
def aCa (n:Nat) (t:Ty):Prop:=∀(v:Gv) (l:List Int) (left:Int),Gok v→v.deep+n≤200→Ok l→
 ∃(c:Core) (l':List Int) (m:Nat),GC false (nmG v) m c∧m≤20*n∧Ok l'∧aW Tryz.prog 65 [.one (.vp 700 0),.pa (aBi v),tyV t] (mO l left) (.pa (aB c)) (mO l' left)
def a8w:Code→Code | .seq _ b=>b | c=>c
noncomputable def a71:Code:=a8w (a8w (Tryz.f65.body.getD .skip))
theorem jO (v:Gv) (t:Ty) (l:List Int) (left:Int) (f g:Nat→Bool) (out:Option Str×List Int) (hl:Ok l) (hL:v.l.length≤200) (hf:∀k x,v.l[k]?=some x→aW Tryz.prog 125 [tyV x.2,tyV t] [] (B (f k)) [])
  (hgh:∀k,k<v.l.length→aW Tryz.prog 126 [.one (.c (.sl 5 (v.l.map vN))),I .i64 k] [] (B (g k)) []) (hout:aNl v.l f g v.l.length l=out) {res:V} {hout':List (Nat×AObj)}
  (hsm:∀s l1,out=(some s,l1)→res=.pa (aB (.mk 1 0 s zTy [] [] []))∧hout'=mO l1 left)
  (hnn:∀l1,out=(none,l1)→AWp none Tryz.prog 166 (keys (mO l left)) a71 (mk [(0,.one (.vp 700 0)),(4,.one (.vp 4 0)),(5,.one (.vp 5 0)),(6,.one (.vp 6 0))] ([(4,.var 68 (vRt v)),(5,.var 25 (tR t)),(6,.var 30 dY)]++mO l1 left)) (fun ex st=>(ex=.normal∨ex=.ret)∧Fin tr.flat Tryz.f65 st (mO l left) res hout')):
  aW Tryz.prog 65 [.one (.vp 700 0),.pa (aBi v),tyV t] (mO l left) res hout':=by
 have hkl:(v.l.map vN).length=v.l.length:=φ _;refine bZ (n:=166) tok Tryz.func65 rfl rfl rfl ?_;refine sg rfl (a8 (sg rfl (aC (aK (fun x:Nat×List Int=>mk [(0,.one (.vp 700 0)),(4,.one (.vp 4 0)),(5,.one (.vp 5 0)),(6,.one (.vp 6 0)),(7,I .i64 ((x.1:Int)-1))] ([(4,.var 68 (vRt v)),(5,.var 25 (tR t)),(6,.var 30 [.c (.int .i64 0),.c (.int .i64 0),.c (.str []),.c (.int .i64 0),.c (.int .i64 0),.c (.str []),.c .nl,.c .nl,.c .nl,.c .nl])]++mO x.2 left)) (fun x=>x.1≤v.l.length∧Ok x.2∧aNl v.l f g x.1 x.2=out) (fun x=>x.1) (v.l.length,l) ⟨le_refl _,hl,hout⟩ (sl (he:=⟨rfl,rfl,rfl,rfl,by rw[←hkl];rfl,trivial⟩)) ?_))));rintro⟨k,Y⟩ ⟨hk,y,q⟩;dsimp only at hk y q ⊢;refine a8 (sg rfl (aA rfl (fun hb=>?_) (fun hb=>?_)))
 ·have hk0:0<k:=by have:=ψ hb;omega
  obtain⟨k,rfl⟩:∃j,k=j+1:=⟨k-1,by omega⟩
  obtain⟨⟨xs,O⟩,hx⟩:=aJ (l:=v.l) (k:=k) (by omega);have hx':=bT vN hx;have hki:((k+1:Nat):Int)-1=(k:Int):=by omega
  rw[hki];rw[aNl,hx] at q;dsimp only[Option.getD] at q;have J:=hf k _ hx;have Z:=hgh k (by omega);have hc3:=aRo Y left 3 (by decide) y;dsimp only at J;refine aD (a8 (aC (a8 ?_)));by_cases h1:xs=[]
  ·rw[θ (fun h=>h.1 h1)] at q;have h1':(!decide (xs=[]))=false:=by rw[Ae h1];rfl
   exact ag [(3,.row k (vN (xs,O))),(7,.bv false),(16,.bv false)] rfl (aA rfl nofun (fun _=>aD (ag [] rfl ⟨(k,Y),⟨by dsimp only;omega,y,q⟩,by dsimp only;omega,sl⟩)))
  have h1':(!decide (xs=[]))=true:=by rw[Ag h1];rfl
  cases h2:f k with
  | false=>
   rw[θ (fun h=>by rw[h2] at h;cases h.2.1)] at q;rw[h2] at J;refine aE mixed (ak 15 [(3,.row k (vN (xs,O))),(7,.bv true),(11,.row k (vN (xs,O)))] rfl (kcG J ?_ (hw:=h1')));exact ak 12 [(16,.bv true)] rfl (az (aA rfl nofun (fun _=>aD (ag [] rfl ⟨(k,Y),⟨by dsimp only;omega,y,q⟩,by dsimp only;omega,sl⟩))))
  | true=>
  rw[h2] at J;cases h3:g k with
  | false=>
   rw[θ (fun h=>by rw[h3] at h;cases h.2.2)] at q;rw[h3] at Z;refine aE mixed (ak 15 [(3,.row k (vN (xs,O))),(7,.bv true),(11,.row k (vN (xs,O)))] rfl (kcG J ?_ (hw:=h1')));refine ak 5 [(16,.bv true)] rfl (kcG Z ?_);exact kz 6 rfl (aA rfl nofun (fun _=>aD (ag [] rfl ⟨(k,Y),⟨by dsimp only;omega,y,q⟩,by dsimp only;omega,sl⟩)))
  | true=>
  rw[κ ⟨h1,h2,h3⟩] at q;rw[h3] at Z;refine aE mixed (ak 15 [(3,.row k (vN (xs,O))),(7,.bv true),(11,.row k (vN (xs,O)))] rfl (kcG J ?_ (hw:=h1')));refine ak 5 [(16,.bv true)] rfl (kcG Z ?_);refine ak 3 [] rfl (kcG hc3 ?_);refine kz 2 rfl (aA rfl (fun hb=>?_) (fun hb=>?_))
  ·have hb':0<(wJ Y 3).1:=ψ hb;rw[κ hb'] at q;obtain⟨s1,l1⟩:=out;simp only[Prod.mk.injEq] at q;obtain⟨rfl,rfl⟩:=q;obtain⟨rfl,rfl⟩:=hsm _ _ rfl;exact sgh [(3,.row k (vN (xs,O)))] rfl (aF (rtC trw))
  ·have hb':¬0<(wJ Y 3).1:=π hb;rw[θ hb'] at q;exact aD (ag [] rfl ⟨(k,_),⟨by dsimp only;omega,sV y 3,q⟩,by dsimp only;omega,sl⟩)
 have hk0:k=0:=by have:=π hb;omega
 subst hk0;rw[aNl] at q;exact aL (AWp.sub sl (hnn Y q.symm))
theorem aP5 (n:Nat) (t:Ty) (Y:GT n t) (hn:n≤100) (ih:∀(k:Nat) (u:Ty),k<n→GT k u→aCa k u):aCa n t:=by
 intro v l left hv hd hl;have hL:v.l.length≤200:=by have:=hv.len;omega
 have hS:∀k:Nat,∃b:Bool,∀x,v.l[k]?=some x→aW Tryz.prog 125 [tyV x.2,tyV t] [] (B b) []:=fun k=>by
  cases hx:v.l[k]? with
  | none=>exact⟨false,fun x h=>by cases h⟩
  | some x=>
   obtain⟨_,k',hk',hx'⟩:=hv.all x (δ hx);obtain⟨r,hr⟩:=a4v hx' Y (by omega) (by omega);exact⟨r,fun y hy=>by cases hy;exact hr⟩
 have hH:∀k:Nat,∃b:Bool,k<v.l.length→aW Tryz.prog 126 [.one (.c (.sl 5 (v.l.map vN))),I .i64 k] [] (B b) []:=fun k=>by
  by_cases hk:k<v.l.length
  ·obtain⟨r,hr⟩:=a0e v.l k hk (by omega);exact⟨r,fun _=>hr⟩
  ·exact⟨false,fun h=>absurd h hk⟩
 obtain⟨f,hf⟩:=Classical.axiomOfChoice hS;obtain⟨g,J⟩:=Classical.axiomOfChoice hH;obtain⟨hok,Z⟩:=aGf v.l f g v.l.length l (le_refl _) hl;have hkl:(v.l.map vN).length=v.l.length:=φ _;generalize hout:aNl v.l f g v.l.length l=out at hok Z;obtain⟨so,l1⟩:=out;cases so with
 | some s=>
  obtain⟨hs0,x,hx,hxs⟩:=Z s rfl;have hs6:s∈nm6:=by
   rcases(hv.all x hx).1 with h | h
   ·rw[hxs] at h;exact absurd h hs0
   ·rw[hxs] at h;exact h
  refine⟨.mk 1 0 s zTy [] [] [],l1,4,.var hs6 (Ah.2 ⟨x,hx,hxs⟩),by cases Y<;>omega,hok,?_⟩;exact jO v t l left f g _ hl hL hf J hout (fun s' l' e=>by cases e;exact⟨rfl,rfl⟩) (fun l' e=>by cases e)
 | none=>
  clear Z hS hH;have hok:Ok l1:=hok;rcases yJ Y with⟨m1,m2,a,b,ga,gb,hnm,rfl,cF⟩ | cF
  ·obtain⟨s,l2,hs,O,cN⟩:=aKt l1 left v hok;have hs6:s∈nm6:=ω.2 (.inl hs);obtain⟨c,l3,m,gc,hm,hl3,cL⟩:=ih m2 b (by omega) gb (eF v s a) l2 left (hv.more (.inr hs6) ga (by omega)) (by show v.deep+1+(m2:Int)≤200;omega) O;have cM:=aBv v s a (by omega) ⟨hv.d0,by omega⟩;refine⟨.mk 5 0 s a [c] [] [],l3,m+4,.lam hs6 ga (by omega) gc.within,by omega,hl3,?_⟩;refine jO v (aTq a b) l left f g _ hl hL hf J hout (fun s' l' e=>by cases e) (fun l' e=>?_);cases e;refine a8 (sk 1 rfl (kc cF ?_));refine az (aA rfl (fun _=>sk 2 rfl (kc cN ?_)) nofun);refine kz 1 rfl (skh 18 [(3,.row 0 (c7 (aTe (.mk 3 0 arrow []) a))),(6,.row 1 (c7 a)),(13,.row 0 (c7 (aTe (.mk 3 0 arrow []) a))),(16,.row 1 (c7 a))] rfl (kc cM ?_));refine ak 4 [(21,.row 1 (c7 b))] rfl (kc cL ?_);exact ak 3 [(24,.all)] rfl (az (aF (rtC trw)))
  obtain⟨q,L,hLg,hLn,cS⟩:=aQ4 Y (by omega);by_cases hI:bb q.form q.name [73,110,116]=true
  ·obtain⟨i,l2,hi,O,cN⟩:=kC l1 left 7 (by decide) hok;refine⟨.mk 3 ((i:Int)-2) [] zTy [] [] [],l2,1,.int (by omega),by cases Y<;>omega,O,?_⟩;refine jO v t l left f g _ hl hL hf J hout (fun s' l' e=>by cases e) (fun l' e=>?_);cases e;refine a8 (sk 1 rfl (kc cF ?_));refine az (aA rfl nofun (fun _=>aD (sk 1 rfl (kc cS ?_))));refine kz 6 rfl (a8 (aC (a8 (agF 4 [] rfl rfl rfl (aA rfl (fun _=>sk 1 rfl (kc cN ?_)) (fun hb=>by have:=hI.symm.trans hb;cases this))))));refine ak 3 [] rfl ?_ (hc:=by repeat (first | exact trivial | refine⟨by first | rfl | omega | (simp;omega) | (unfold Ty.name;simp;omega) | (simp;done),?_⟩));exact az (aF (rtC trw))
  by_cases hB:bb q.form q.name [66,111,111,108]=true
  ·obtain⟨i,l2,hi,O,cN⟩:=kC l1 left 2 (by decide) hok;have hi:i<2:=by omega
   obtain⟨s,hs⟩:∃s,([[70,97,108,115,101],[84,114,117,101]]:List Str)[i]?=some s:=aJ (by simpa using hi);have hs':=bT bA hs;have hs8:s.length≤8:=by
    have:i=0∨i=1:=by omega
    rcases this with rfl | rfl<;>(simp at hs;subst hs;decide)
   refine⟨.mk 2 0 s zTy [] [] [],l2,9,.con hs8,by cases Y<;>omega,O,?_⟩;refine jO v t l left f g _ hl hL hf J hout (fun s' l' e=>by cases e) (fun l' e=>?_);cases e;refine a8 (sk 1 rfl (kc cF ?_));refine az (aA rfl nofun (fun _=>aD (sk 1 rfl (kc cS ?_))));refine kz 6 rfl (a8 (aC (a8 (agF 4 [] rfl rfl rfl (aA rfl (fun hb=>absurd hb hI) (fun _=>a8 (agF 4 [] rfl rfl rfl (aA rfl (fun _=>sk 2 rfl (kc cN ?_)) (fun hb=>by have:=hB.symm.trans hb;cases this)))))))));exact ak 4 [(3,.row i []),(4,.row i (bA s))] rfl (az (aF (rtC trw)))
  by_cases hX:bb q.form q.name [76]=true∧L.length=1
  ·obtain⟨x,rfl⟩:∃x,L=[x]:=B2.1 hX.2;obtain⟨k,_,gx,_,hk⟩:=hLg;have cG:=qH [78] [x] (by simp);refine⟨.mk 6 0 [] x [.mk 2 0 [78] zTy [] [] []] [] [],l1,9+1,.tc (by decide) gx (by omega),by cases Y<;>omega,hok,?_⟩;refine jO v t l left f g _ hl hL hf J hout (fun s' l' e=>by cases e) (fun l' e=>?_);cases e;refine a8 (sk 1 rfl (kc cF ?_));refine az (aA rfl nofun (fun _=>aD (sk 1 rfl (kc cS ?_))));refine kz 6 rfl (a8 (aC (a8 (agF 4 [] rfl rfl rfl (aA rfl (fun hb=>absurd hb hI) (fun _=>a8 (agF 4 [] rfl rfl rfl (aA rfl (fun hb=>absurd hb hB) (fun _=>a8 (agF 4 [] rfl rfl rfl (aA rfl (fun _=>?_) (fun hb=>?_))))))))))))
   ·refine sk 1 rfl (kc cG ?_);exact kz 1 rfl (aF (rtC trw))
   ·exfalso;obtain⟨h3,h4⟩:=rK hX.1;simp[h3,h4] at hb
  by_cases hP:bb q.form q.name [80]=true∧L.length=2
  ·obtain⟨x,y,rfl⟩:∃x y,L=[x,y]:=by
    match L,hP.2 with
    | [x,y],_=>exact⟨x,y,rfl⟩
   obtain⟨k1,m1,gx,⟨k2,m2,gy,_,hk2⟩,hk1⟩:=hLg;have cG:=qH [80] [x,y] (by simp);obtain⟨c1,l2,w1,gc1,hw1,O,cL1⟩:=ih k1 x (by omega) gx v l1 left hv (by omega) hok;obtain⟨c2,l3,w2,gc2,hw2,hl3,cL2⟩:=ih k2 y (by omega) gy v l2 left hv (by omega) O;have cA1:=iD (j4 [80] [x,y]) c1;have cA2:=iD (.mk 4 0 [] zTy [j4 [80] [x,y],c1] [] []) c2;refine⟨.mk 4 0 [] zTy [.mk 4 0 [] zTy [j4 [80] [x,y],c1] [] [],c2] [] [],l3,(9+1+1)+w1+1+w2+1,.app (.app (.tc2 (by decide) gx (by omega) gy (by omega)) gc1) gc2,by omega,hl3,?_⟩;refine jO v t l left f g _ hl hL hf J hout (fun s' l' e=>by cases e) (fun l' e=>?_);cases e;refine a8 (sk 1 rfl (kc cF ?_));refine az (aA rfl nofun (fun _=>aD (sk 1 rfl (kc cS ?_))));refine kz 6 rfl (a8 (aC (a8 (agF 4 [] rfl rfl rfl (aA rfl (fun hb=>absurd hb hI) (fun _=>a8 (agF 4 [] rfl rfl rfl (aA rfl (fun hb=>absurd hb hB) (fun _=>a8 (agF 4 [] rfl rfl rfl (aA rfl (fun hb=>?_) (fun _=>?_))))))))))))
   ·exfalso;simp at hb
   refine a8 (agF 4 [] rfl rfl rfl (aA rfl (fun _=>?_) (fun hb=>?_)))
   ·refine sk 1 rfl (kc cG ?_);refine ak 5 [(5,.row 0 []),(6,.row 0 (c7 x))] rfl (kc cL1 ?_);refine kc cA1 ?_;refine ak 5 [(12,.row 1 []),(13,.row 1 (c7 y))] rfl (kc cL2 ?_);refine kc cA2 ?_;exact kz 1 rfl (aF (rtC trw))
   ·exfalso;obtain⟨h3,h4⟩:=rK hP.1;simp[h3,h4] at hb
  ·refine⟨.mk 11 0 [] t [] [] [],l1,1,.fail Y hn,by cases Y<;>omega,hok,?_⟩;refine jO v t l left f g _ hl hL hf J hout (fun s' l' e=>by cases e) (fun l' e=>?_);cases e;refine a8 (sk 1 rfl (kc cF ?_));refine az (aA rfl nofun (fun _=>aD (sk 1 rfl (kc cS ?_))));refine kz 6 rfl (a8 (aC (a8 (agF 4 [] rfl rfl rfl (aA rfl (fun hb=>absurd hb hI) (fun _=>a8 (agF 4 [] rfl rfl rfl (aA rfl (fun hb=>absurd hb hB) (fun _=>a8 (agF 4 [] rfl rfl rfl (aA rfl (fun hb=>?_) (fun _=>?_))))))))))))
   ·exfalso;exact hX (aK8 hb)
   refine a8 (agF 4 [] rfl rfl rfl (aA rfl (fun hb=>?_) (fun _=>?_)))
   ·exfalso;exact hP (aK8 hb)
   exact aD (sg rfl (aF (rtC trw)))
theorem aKu:∀(N n:Nat) (t:Ty),n≤N→GT n t→n≤100→aCa n t
 | 0,n,t,h,q,_=>by cases q<;>omega
 | N+1,n,t,h,q,hn=>aP5 n t q hn fun k u hk hu=>aKu N k u (by omega) hu (by omega)
def pos (left:Int):Int:=((left-1).toNat:Int)
def tJ (F:Int):Prop:=∀(v:Gv) (t:Ty) (n:Nat) (l:List Int) (left:Int),Gok v→7≤v.deep+F→v.deep≤8→GT n t→(n:Int)≤33+8*v.deep→Ok l→left≤100→ -1000≤left-3*pos left→
 ∃(c:Core) (l':List Int) (left':Int) (m:Nat),GC false (nmG v) m c∧Ok l'∧(left'≤left∧left-3*pos left-1≤left'-3*pos left'∧(m:Int)+4100*pos left'≤2000+4100*pos left)∧
  aW Tryz.prog 25 [.one (.vp 700 0),.pa (aBi v),tyV t] (mO l left) (.pa (aB c)) (mO l' left')
theorem a0f (F:Int) (hS:tJ F) (v:Gv) (t:Ty) (n:Nat) (l:List Int) (left:Int) (hv:Gok v) (hF:7≤v.deep+1+F) (hd:v.deep≤6) (Y:GT n t) (hn:(n:Int)≤33+8*v.deep) (hl:Ok l) (hle:left≤100) (hlo: -1000≤left-3*pos left-2):
  ∃(c:Core) (l':List Int) (I:Int) (m:Nat),GC false (nmG v) m c∧Ok l'∧(I≤left∧left-3*pos left-3≤I-3*pos I∧(m:Int)+4100*pos I≤6050+4100*pos left)∧
   aW Tryz.prog 69 [.one (.vp 700 0),.pa (aBi v),tyV t] (mO l left) (.pa (aB c)) (mO l' I):=by
 have h0:=hv.d0;have hlen:=hv.len;have hvlen:=hv.vlen;obtain⟨tf,tn,ts,q⟩:=t;obtain⟨i,l1,hi,hl1,cN⟩:=kC l left 4 (by decide) hl;have more:∀(v:Gv) (s:Str) (u:Ty) (k:Nat),Gok v→0≤v.deep→v.deep≤8→GT k u→k≤100→(s=[]∨s∈nm6)→Gok (eF v s u)∧aW Tryz.prog 67 [.pa (aBi v),Go.AM.T s,tyV u] [] (.pa (aBi (eF v s u))) []:=fun v s u k h h0 h8 hu hk hs=>by
  have:=h.len;exact⟨h.more hs hu hk,aBv v s u (by omega) ⟨h0,by omega⟩⟩
 obtain⟨J,cM⟩:=more v [] (.mk tf tn ts q) n hv h0 (by omega) Y (by omega) (.inl rfl);have hd1:(eF v [] (.mk tf tn ts q)).deep=v.deep+1:=rfl;by_cases h1:i=0
 ·subst h1;obtain⟨O,l2,le2,m1,g1,hl2,⟨b1,b1',b1''⟩,cS1⟩:=hS (eF v [] (.mk tf tn ts q)) aY0 1 l1 left J (by omega) (by omega) (.con _ (by decide)) (by omega) hl1 hle (by omega);obtain⟨y,l3,le3,m2,g2,hl3,⟨b2,b2',b2''⟩,cS2⟩:=hS (eF v [] (.mk tf tn ts q)) (.mk tf tn ts q) n l2 le2 J (by omega) (by omega) Y (by omega) hl2 (by omega) (by omega);obtain⟨c3,l4,le4,m3,g3,hl4,⟨b3,b3',b3''⟩,cS3⟩:=hS (eF v [] (.mk tf tn ts q)) (.mk tf tn ts q) n l3 le3 J (by omega) (by omega) Y (by omega) hl3 (by omega) (by omega);refine⟨.mk 9 0 [] (.mk tf tn ts q) [O] [] [.mk 1 0 [84,114,117,101] [] y,.mk 1 0 [70,97,108,115,101] [] c3],l4,le4,m1+m2+m3+40,.case2 Y (by omega) g1.less g2.less0 g3.less0 (by decide) (by decide) (by decide) (by simp) (by decide) (.inl rfl) (by decide) (by decide) (by decide) (by simp) (by decide) (.inl rfl),hl4,⟨by omega,by omega,by omega⟩,?_⟩;refine bZ (n:=152) tok Tryz.func69 rfl rfl rfl ?_;refine sg rfl (sg rfl (a8 (sk 1 rfl (kc cN ?_))));refine az (aC (sg rfl (aA rfl (fun _=>sk 3 rfl (kc cM ?_)) nofun)));refine kc (lT [66,111,111,108]) ?_;refine kc cS1 ?_;refine ak 3 [(6,.all)] rfl (az (aE mixed (ak 3 [] rfl (kc cM ?_))));refine ak 1 [] rfl (kc cS2 ?_);refine ak 4 [] rfl (kc cM ?_);refine ak 1 [] rfl (kc cS3 ?_);refine kz 4 rfl (AWp.sub (Sub.freeze (id:=76) rfl) ?_);refine AWp.sub (aw 76 ([.mk 1 0 [84,114,117,101] [] y,.mk 1 0 [70,97,108,115,101] [] c3].map cO)) ?_;refine AWp.sub (vp 7 (aB (.mk 9 0 [] (.mk tf tn ts q) [O] [] [.mk 1 0 [84,114,117,101] [] y,.mk 1 0 [70,97,108,115,101] [] c3]))) ?_;exact sg rfl (aF (rtC trw))
 by_cases h2:i=1
 ·subst h2;obtain⟨O,l2,le2,m1,g1,hl2,⟨b1,b1',b1''⟩,cS1⟩:=hS (eF v [] (.mk tf tn ts q)) a1t 1 l1 left J (by omega) (by omega) (.con _ (by decide)) (by omega) hl1 hle (by omega);obtain⟨j,l2b,hj,hl2b,cJ⟩:=kC l2 le2 5 (by decide) hl2;obtain⟨y,l3,le3,m2,g2,hl3,⟨b2,b2',b2''⟩,cS2⟩:=hS (eF v [] (.mk tf tn ts q)) (.mk tf tn ts q) n l2b le2 J (by omega) (by omega) Y (by omega) hl2b (by omega) (by omega);obtain⟨c3,l4,le4,m3,g3,hl4,⟨b3,b3',b3''⟩,cS3⟩:=hS (eF v [] (.mk tf tn ts q)) (.mk tf tn ts q) n l3 le3 J (by omega) (by omega) Y (by omega) hl3 (by omega) (by omega);refine⟨.mk 9 0 [] (.mk tf tn ts q) [O] [] [.mk 2 ((j:Int)-1) [] [] y,.mk 3 0 [] [] c3],l4,le4,m1+m2+m3+40,.case2 Y (by omega) g1.less g2.less0 g3.less0 (by decide) (by omega) (by decide) (by simp) (by decide) (.inr rfl) (by decide) (by decide) (by decide) (by simp) (by decide) (.inr rfl),hl4,⟨by omega,by omega,by omega⟩,?_⟩;refine bZ (n:=152) tok Tryz.func69 rfl rfl rfl ?_;refine sg rfl (sg rfl (a8 (sk 1 rfl (kc cN ?_))));refine az (aC (sg rfl (aA rfl nofun (fun _=>sg rfl (aA rfl (fun _=>sk 3 rfl (kc cM ?_)) nofun)))));refine kc (lT [73,110,116]) ?_;refine kc cS1 ?_;refine ak 3 [(6,.all)] rfl (az (aE mixed (ak 1 [] rfl (kc cJ ?_))));refine ak 4 [] rfl ?_ (hc:=by repeat (first | exact trivial | refine⟨by first | rfl | omega | (simp;omega) | (unfold Ty.name;simp;omega) | (simp;done),?_⟩));refine kc cM ?_;refine ak 1 [] rfl (kc cS2 ?_);refine ak 4 [] rfl (kc cM ?_);refine ak 1 [] rfl (kc cS3 ?_);refine kz 4 rfl (AWp.sub (Sub.freeze (id:=105) rfl) ?_);refine AWp.sub (aw 105 ([.mk 2 ((j:Int)-1) [] [] y,.mk 3 0 [] [] c3].map cO)) ?_;refine AWp.sub (vp 7 (aB (.mk 9 0 [] (.mk tf tn ts q) [O] [] [.mk 2 ((j:Int)-1) [] [] y,.mk 3 0 [] [] c3]))) ?_;exact sg rfl (aF (rtC trw))
 by_cases h3:i=2
 ·subst h3;obtain⟨⟨Z,un,us,ua⟩,l2,k,gu,hk,hl2,cU⟩:=aBk v.vars hv.vars (by omega) 1 2 (by omega) (by omega) l1 left hl1;have hk:k≤5:=hk;have gL:GT (1+k+1) (.mk 4 0 [] [.mk 3 0 [76] [],(.mk Z un us ua)]):=.app (.nm (by decide)) gu;obtain⟨O,l3,le3,m1,g1,hl3,⟨b1,b1',b1''⟩,cS1⟩:=hS (eF v [] (.mk tf tn ts q)) (.mk 4 0 [] [.mk 3 0 [76] [],(.mk Z un us ua)]) _ l2 left J (by omega) (by omega) gL (by omega) hl2 hle (by omega);obtain⟨hvx,cX⟩:=more v [120] (.mk Z un us ua) k hv h0 (by omega) gu (by omega) (.inr (by decide));obtain⟨hvy,cY⟩:=more (eF v [120] (.mk Z un us ua)) [121] (.mk 4 0 [] [.mk 3 0 [76] [],(.mk Z un us ua)]) _ hvx (by show 0≤v.deep+1;omega) (by show v.deep+1≤8;omega) gL (by omega) (.inr (by decide));have hdy:(eF (eF v [120] (.mk Z un us ua)) [121] (.mk 4 0 [] [.mk 3 0 [76] [],(.mk Z un us ua)])).deep=v.deep+1+1:=rfl;obtain⟨y,l4,le4,m2,g2,hl4,⟨b2,b2',b2''⟩,cS2⟩:=hS _ (.mk tf tn ts q) n l3 le3 hvy (by omega) (by omega) Y (by omega) hl3 (by omega) (by omega);obtain⟨c3,l5,le5,m3,g3,hl5,⟨b3,b3',b3''⟩,cS3⟩:=hS (eF v [] (.mk tf tn ts q)) (.mk tf tn ts q) n l4 le4 J (by omega) (by omega) Y (by omega) hl4 (by omega) (by omega);obtain⟨j,l6,hj,hl6,cJ⟩:=kC l5 le5 3 (by decide) hl5;have walk:∀c:Core,c=(if j=0 then .mk 9 0 [] (.mk tf tn ts q) [O] [] [.mk 1 0 [67] [[120],[121]] y] else .mk 9 0 [] (.mk tf tn ts q) [O] [] [.mk 1 0 [67] [[120],[121]] y,.mk 1 0 [78] [] c3])→aW Tryz.prog 69 [.one (.vp 700 0),.pa (aBi v),tyV (.mk tf tn ts q)] (mO l left) (.pa (aB c)) (mO l6 le5):=by
   intro c hc;refine bZ (n:=152) tok Tryz.func69 rfl rfl rfl ?_;refine sg rfl (sg rfl (a8 (sk 1 rfl (kc cN ?_))));refine az (aC (sg rfl (aA rfl nofun (fun _=>sg rfl (aA rfl nofun (fun _=>sg rfl (aA rfl (fun _=>sk 3 rfl (kc cU ?_)) nofun)))))));refine kz 2 rfl (a8 (aE mixed (kc (lT [76]) ?_)));refine ak 5 [(2,.all)] rfl (az (sk 3 rfl (kc cM ?_)));refine ak 1 [] rfl (kc cS1 ?_);refine ak 3 [(6,.all)] rfl (az (skh 4 [(0,.all)] rfl (kc cX ?_)));refine ak 1 [] rfl (kc cY ?_);refine ak 1 [] rfl (kc cS2 ?_);refine ak 4 [] rfl (kc cM ?_);refine ak 1 [] rfl (kc cS3 ?_);refine kz 4 rfl (AWp.sub (Sub.freeze (id:=142) rfl) ?_);refine AWp.sub (aw 142 ([.mk 1 0 [67] [[120],[121]] y,.mk 1 0 [78] [] c3].map cO)) ?_;refine AWp.sub (vp 7 (aB (.mk 9 0 [] (.mk tf tn ts q) [O] [] [.mk 1 0 [67] [[120],[121]] y,.mk 1 0 [78] [] c3]))) ?_;refine sk 1 rfl (kc cJ ?_);refine kz 1 rfl (aA rfl (fun hb=>?_) (fun hb=>?_))
   ·have hj0:j=0:=by have:=ψ hb;omega
    rw[κ hj0] at hc;subst hc;exact ag [] rfl (sg rfl (aF (rtC trw))) (hc:=⟨by rw[aHi];simp[Core.alts],by decide,trivial⟩)
   ·have hj0:¬j=0:=by have:=π hb;omega
    rw[θ hj0] at hc;subst hc;exact aD (sg rfl (aF (rtC trw)))
  by_cases hj0:j=0
  ·refine⟨.mk 9 0 [] (.mk tf tn ts q) [O] [] [.mk 1 0 [67] [[120],[121]] y],l6,le5,m1+m2+20,.case1 Y (by omega) g1.less g2.in2 (by decide) (by decide) (by decide) (by decide) (by decide) (.inl rfl),hl6,⟨by omega,by omega,by omega⟩,walk _ (by rw[κ hj0])⟩
  ·refine⟨.mk 9 0 [] (.mk tf tn ts q) [O] [] [.mk 1 0 [67] [[120],[121]] y,.mk 1 0 [78] [] c3],l6,le5,m1+m2+m3+40,.case2 Y (by omega) g1.less g2.in2 g3.less0 (by decide) (by decide) (by decide) (by decide) (by decide) (.inl rfl) (by decide) (by decide) (by decide) (by simp) (by decide) (.inl rfl),hl6,⟨by omega,by omega,by omega⟩,walk _ (by rw[θ hj0])⟩
 obtain⟨⟨Z,un,us,ua⟩,l2,k,gu,hk,hl2,cU⟩:=aBk v.vars hv.vars (by omega) 1 2 (by omega) (by omega) l1 left hl1;have hk:k≤5:=hk;obtain⟨⟨wf,wn,ws,wa⟩,l2b,kw,gw,hkw,hl2b,cW⟩:=aBk v.vars hv.vars (by omega) 1 2 (by omega) (by omega) l2 left hl2;have hkw:kw≤5:=hkw;have gL:GT (1+k+1+kw+1) (.mk 4 0 [] [.mk 4 0 [] [.mk 3 0 [80] [],(.mk Z un us ua)],(.mk wf wn ws wa)]):=.app (.app (.nm (by decide)) gu) gw;obtain⟨O,l3,le3,m1,g1,hl3,⟨b1,b1',b1''⟩,cS1⟩:=hS (eF v [] (.mk tf tn ts q)) (.mk 4 0 [] [.mk 4 0 [] [.mk 3 0 [80] [],(.mk Z un us ua)],(.mk wf wn ws wa)]) _ l2b left J (by omega) (by omega) gL (by omega) hl2b hle (by omega);obtain⟨hvx,cX⟩:=more v [121] (.mk Z un us ua) k hv h0 (by omega) gu (by omega) (.inr (by decide));obtain⟨hvy,cY⟩:=more (eF v [121] (.mk Z un us ua)) [97] (.mk wf wn ws wa) kw hvx (by show 0≤v.deep+1;omega) (by show v.deep+1≤8;omega) gw (by omega) (.inr (by decide));have hdy:(eF (eF v [121] (.mk Z un us ua)) [97] (.mk wf wn ws wa)).deep=v.deep+1+1:=rfl;obtain⟨y,l4,le4,m2,g2,hl4,⟨b2,b2',b2''⟩,cS2⟩:=hS _ (.mk tf tn ts q) n l3 le3 hvy (by omega) (by omega) Y (by omega) hl3 (by omega) (by omega);refine⟨.mk 9 0 [] (.mk tf tn ts q) [O] [] [.mk 1 0 [80] [[121],[97]] y],l4,le4,m1+m2+20,.case1 Y (by omega) g1.less g2.in2 (by decide) (by decide) (by decide) (by decide) (by decide) (.inl rfl),hl4,⟨by omega,by omega,by omega⟩,?_⟩;refine bZ (n:=152) tok Tryz.func69 rfl rfl rfl ?_;refine sg rfl (sg rfl (a8 (sk 1 rfl (kc cN ?_))));refine az (aC (sg rfl (aA rfl (fun hb=>absurd (by have:=ψ hb;omega) h1) (fun _=>sg rfl (aA rfl (fun hb=>absurd (by have:=ψ hb;omega) h2) (fun _=>sg rfl (aA rfl (fun hb=>absurd (by have:=ψ hb;omega) h3) (fun _=>sk 3 rfl (kc cU ?_)))))))));refine kz 2 rfl (sk 3 rfl (kc cW ?_));refine kz 2 rfl (a8 (aE mixed (kc (lT [80]) ?_)));refine ak 8 [(2,.all),(5,.all)] rfl (az (sk 3 rfl (kc cM ?_)));refine ak 1 [] rfl (kc cS1 ?_);refine ak 3 [(6,.all)] rfl (az (aE mixed (ak 4 [(0,.all)] rfl (kc cX ?_))));refine ak 1 [] rfl (kc cY ?_);refine ak 1 [] rfl (kc cS2 ?_);refine ak 4 [(10,.all)] rfl (az (AWp.sub (vp 7 (aB (.mk 9 0 [] (.mk tf tn ts q) [O] [] [.mk 1 0 [80] [[121],[97]] y]))) ?_));exact sg rfl (aF (rtC trw))
set_option maxHeartbeats 4000000
theorem aCn (F:Int) (hS:0≤F→tJ F):tJ (F+1):=by
 intro v t n l left hv hF hd hg hn hl hle hlo;have hM:1000000000≤maxLen:=by decide
 have h0:=hv.d0;have hlen:=hv.len;have hvlen:=hv.vlen;have hp0:0≤pos left:=by unfold pos;omega
 by_cases hlf:left-1<1∨6<v.deep
 ·obtain⟨c,l',m,gc,hm,hl',cL⟩:=aKu n n t (le_refl _) hg (by omega) v l (left-1) hv (by omega) hl;have hp1:pos (left-1)≤pos left∧pos left≤pos (left-1)+1:=by unfold pos;omega
  refine⟨c,l',left-1,m,gc,hl',⟨by omega,by unfold pos at *;omega,by omega⟩,?_⟩;refine bZ (n:=374) tok Tryz.func25 rfl rfl rfl ?_;refine sg rfl (sg rfl ?_ (hc:=by repeat (first | exact trivial | refine⟨by first | rfl | omega | (simp;omega) | (unfold Ty.name;simp;omega) | (simp;done),?_⟩)));refine a8 (a8 (agF 6 [] rfl rfl rfl (aA rfl (fun _=>sk 3 rfl (kc cL ?_)) (fun hb=>absurd hlf (by simpa using hb)))));exact kz 1 rfl (aF (rtC trw))
 have hF0:0≤F:=by omega
 have hps:pos (left-1)=pos left-1:=by unfold pos;omega
 have hp1:0≤pos (left-1):=by unfold pos;omega
 have more:∀(v:Gv) (s:Str) (u:Ty) (k:Nat),Gok v→0≤v.deep→v.deep≤8→GT k u→k≤100→(s=[]∨s∈nm6)→Gok (eF v s u)∧aW Tryz.prog 67 [.pa (aBi v),Go.AM.T s,tyV u] [] (.pa (aBi (eF v s u))) []:=fun v s u k h h0 h8 hu hk hs=>by
  have:=h.len;exact⟨h.more hs hu hk,aBv v s u (by omega) ⟨h0,by omega⟩⟩
 obtain⟨hv1,cM⟩:=more v [] t n hv h0 (by omega) hg (by omega) (.inl rfl);have hd1:(eF v [] t).deep=v.deep+1:=rfl;obtain⟨i,l1,hi,hl1,cN⟩:=kC l (left-1) 12 (by decide) hl;by_cases hi0:i=0
 ·obtain⟨u,Y,k,gu,hk,J,cU⟩:=aBk v.vars hv.vars (by omega) 2 1 (by omega) (by omega) l1 (left-1) hl1;have hk:k≤13:=hk;obtain⟨s,l3,hs,hl3,cNm⟩:=aKt Y (left-1) v J;have hs6:s∈nm6:=ω.2 (.inl hs);obtain⟨hvs,cMs⟩:=more v s u k hv h0 (by omega) gu (by omega) (.inr hs6);have hds:(eF v s u).deep=v.deep+1:=rfl;obtain⟨c1,l4,O,m1,g1,aa,⟨b1,b1',b1''⟩,cS1⟩:=hS (by omega) (eF v s u) t n l3 (left-1) hvs (by omega) (by omega) hg (by omega) hl3 (by omega) (by omega);obtain⟨Z,l5,le2,m2,g2,hl5,⟨b2,b2',b2''⟩,cS2⟩:=hS (by omega) (eF v [] t) u k l4 O hv1 (by omega) (by omega) gu (by omega) aa (by omega) (by omega);have cA:=iD (.mk 5 0 s u [c1] [] []) Z;refine⟨.mk 4 0 [] zTy [.mk 5 0 s u [c1] [] [],Z] [] [],l5,le2,m1+4+m2+1,.app (.lam hs6 gu (by omega) g1.within) g2.less,hl5,⟨by omega,by omega,by omega⟩,?_⟩;refine bZ (n:=374) tok Tryz.func25 rfl rfl rfl ?_;refine sg rfl (sg rfl ?_ (hc:=by repeat (first | exact trivial | refine⟨by first | rfl | omega | (simp;omega) | (unfold Ty.name;simp;omega) | (simp;done),?_⟩)));refine a8 (a8 (agF 6 [] rfl rfl rfl (aA rfl (fun hb=>absurd (by simpa using hb) hlf) (fun _=>aD (a8 (sk 1 rfl (kc cN ?_)))))));refine az (aC (sg rfl (aA rfl (fun _=>sk 3 rfl (kc (cU) ?_)) (fun hb=>absurd (π hb) (by omega)))));refine kz 2 rfl (sk 2 rfl (kc (cNm) ?_));refine kz 1 rfl (sk 6 rfl (kc (cMs) ?_));refine ak 1 [] rfl (kc (cS1) ?_);refine ak 4 [(9,.all)] rfl (az (AWp.sub (vp 9 (aB (.mk 5 0 s u [c1] [] []))) ?_));refine sk 4 rfl (kc (cM) ?_);refine ak 1 [] rfl (kc (cS2) ?_);refine kc (cA) ?_;exact kz 1 rfl (aF (rtC trw))
 by_cases hi1:i=1
 ·obtain⟨u,Y,k,gu,hk,J,cU⟩:=aBk v.vars hv.vars (by omega) 2 1 (by omega) (by omega) l1 (left-1) hl1;have hk:k≤13:=hk;obtain⟨s,l3,hs,hl3,cNm⟩:=aKt Y (left-1) v J;have hs6:s∈nm6:=ω.2 (.inl hs);obtain⟨hvs,cMs⟩:=more v s u k hv h0 (by omega) gu (by omega) (.inr hs6);have hds:(eF v s u).deep=v.deep+1:=rfl;obtain⟨c1,l4,O,m1,g1,aa,⟨b1,b1',b1''⟩,cS1⟩:=hS (by omega) (eF v s u) u k l3 (left-1) hvs (by omega) (by omega) gu (by omega) hl3 (by omega) (by omega);obtain⟨Z,l5,le2,m2,g2,hl5,⟨b2,b2',b2''⟩,cS2⟩:=hS (by omega) (eF v s u) t n l4 O hvs (by omega) (by omega) hg (by omega) aa (by omega) (by omega);refine⟨.mk 8 0 [] zTy [Z] [.mk s u c1] [],l5,le2,m2+m1+5,.lt hs6 gu (by omega) g2.within g1.within,hl5,⟨by omega,by omega,by omega⟩,?_⟩;refine bZ (n:=374) tok Tryz.func25 rfl rfl rfl ?_;refine sg rfl (sg rfl ?_ (hc:=by repeat (first | exact trivial | refine⟨by first | rfl | omega | (simp;omega) | (unfold Ty.name;simp;omega) | (simp;done),?_⟩)));refine a8 (a8 (agF 6 [] rfl rfl rfl (aA rfl (fun hb=>absurd (by simpa using hb) hlf) (fun _=>aD (a8 (sk 1 rfl (kc cN ?_)))))));refine az (aC (sg rfl (aA rfl (fun hb=>absurd (by have:=ψ hb;omega) hi0) (fun _=>sg rfl (aA rfl (fun _=>sk 3 rfl (kc (cU) ?_)) (fun hb=>absurd (π hb) (by omega)))))));refine kz 2 rfl (sk 2 rfl (kc (cNm) ?_));refine kz 1 rfl (sk 3 rfl (kc (cMs) ?_));refine kz 2 rfl (sk 3 rfl (kc (cS1) ?_));refine kz 2 rfl (skh 8 [(4,.all)] rfl (kc (cS2) ?_));exact ak 3 [(9,.all)] rfl (az (aF (rtC trw)))
 by_cases hi2:i=2
 ·obtain⟨c1,Y,O,m1,g1,J,⟨b1,b1',b1''⟩,cC⟩:=a0f F (hS (by omega)) v t n l1 (left-1) hv (by omega) (by omega) hg (by omega) hl1 (by omega) (by omega);refine⟨c1,Y,O,m1,g1,J,⟨by omega,by omega,by omega⟩,?_⟩;refine bZ (n:=374) tok Tryz.func25 rfl rfl rfl ?_;refine sg rfl (sg rfl ?_ (hc:=by repeat (first | exact trivial | refine⟨by first | rfl | omega | (simp;omega) | (unfold Ty.name;simp;omega) | (simp;done),?_⟩)));refine a8 (a8 (agF 6 [] rfl rfl rfl (aA rfl (fun hb=>absurd (by simpa using hb) hlf) (fun _=>aD (a8 (sk 1 rfl (kc cN ?_)))))));refine az (aC (sg rfl (aA rfl (fun hb=>absurd (by have:=ψ hb;omega) hi0) (fun _=>sg rfl (aA rfl (fun hb=>absurd (by have:=ψ hb;omega) hi1) (fun _=>sg rfl (aA rfl (fun _=>sk 3 rfl (kc (cC) ?_)) (fun hb=>absurd (π hb) (by omega)))))))));exact kz 1 rfl (aF (rtC trw))
 by_cases hi3:i=3
 ·obtain⟨u,Y,k,gu,hk,J,cU⟩:=aBk v.vars hv.vars (by omega) 2 1 (by omega) (by omega) l1 (left-1) hl1;have hk:k≤13:=hk;obtain⟨j,l3,hj,hl3,cJ⟩:=kC Y (left-1) 3 (by decide) J;have hj:j<3:=by omega
  obtain⟨s,hs⟩:∃s,([[97],[98],[99]]:List Str)[j]?=some s:=aJ (by simpa using hj);have hs':=bT bA hs;have hs1:s.length=1:=by
   have:j=0∨j=1∨j=2:=by omega
   rcases this with rfl | rfl | rfl<;>(simp at hs;subst hs;rfl)
  have hs8:s++[39]∈tvN:=by
   have:j=0∨j=1∨j=2:=by omega
   rcases this with rfl | rfl | rfl<;>(simp at hs;subst hs;decide)
  have gX:GT 1 (.mk 2 0 (s++[39]) []):=.var _ hs8
  have hvi:Gok ⟨v.l,v.vars++[s++[39]],v.deep+1⟩:=⟨hv.all,fun x hx=>by
   rcases ω.1 hx with hx | hx
   ·exact hv.vars x hx
   ·rw[Ab.1 hx];exact hs8,by show 0≤v.deep+1;omega,by show(v.l.length:Int)≤v.deep+1;omega,by show((v.vars++[s++[39]]).length:Int)≤v.deep+1+1;rw[ε];simp only[Bs,List.length_nil];omega⟩
  obtain⟨hvp,cP⟩:=more ⟨v.l,v.vars++[s++[39]],v.deep+1⟩ [112] _ 1 hvi (by show 0≤v.deep+1;omega) (by show v.deep+1≤8;omega) gX (by omega) (.inr (by decide));have hdp:(eF ⟨v.l,v.vars++[s++[39]],v.deep+1⟩ [112] (.mk 2 0 (s++[39]) [])).deep=v.deep+1+1:=rfl;obtain⟨c1,l4,O,m1,g1,aa,⟨b1,b1',b1''⟩,cS1⟩:=hS (by omega) _ t n l3 (left-1) hvp (by omega) (by omega) hg (by omega) hl3 (by omega) (by omega);have cH:=a8g v.vars (s++[39]) (by unfold Fits;omega);have head:∀(c:Core) (l':List Int) (le':Int),(s++[39]∈v.vars→aW Tryz.prog 65 [.one (.vp 700 0),.pa (aBi v),tyV t] (mO l4 O) (.pa (aB c)) (mO l' le'))→
    (¬s++[39]∈v.vars→∃Z:Core,c=.mk 4 0 [] zTy [.mk 6 0 [] u [.mk 7 0 (s++[39]) zTy [.mk 5 0 [112] (.mk 2 0 (s++[39]) []) [c1] [] []] [] []] [] [],Z] [] []∧aW Tryz.prog 25 [.one (.vp 700 0),.pa (aBi (eF v [] t)),tyV u] (mO l4 O) (.pa (aB Z)) (mO l' le'))→
    aW Tryz.prog 25 [.one (.vp 700 0),.pa (aBi v),tyV t] (mO l left) (.pa (aB c)) (mO l' le'):=by
   intro c l' le' hA hB;refine bZ (n:=374) tok Tryz.func25 rfl rfl rfl ?_;refine sg rfl (sg rfl ?_ (hc:=by repeat (first | exact trivial | refine⟨by first | rfl | omega | (simp;omega) | (unfold Ty.name;simp;omega) | (simp;done),?_⟩)));refine a8 (a8 (agF 6 [] rfl rfl rfl (aA rfl (fun hb=>absurd (by simpa using hb) hlf) (fun _=>aD (a8 (sk 1 rfl (kc cN ?_)))))));refine az (aC (sg rfl (aA rfl (fun hb=>absurd (by have:=ψ hb;omega) hi0) (fun _=>sg rfl (aA rfl (fun hb=>absurd (by have:=ψ hb;omega) hi1) (fun _=>sg rfl (aA rfl (fun hb=>absurd (by have:=ψ hb;omega) hi2) (fun _=>sg rfl (aA rfl (fun _=>sk 3 rfl (kc (cU) ?_)) (fun hb=>absurd (π hb) (by omega)))))))))));refine kz 2 rfl (sk 2 rfl (kc (cJ) ?_));refine ak 3 [(3,.row j []),(4,.row j (bA s))] rfl (az (sg rfl ?_ (hc:=by repeat (first | exact trivial | refine⟨by first | rfl | omega | (simp;omega) | (unfold Ty.name;simp;omega) | (simp;done),?_⟩))));refine sgh [(4,.all)] rfl (sg rfl ?_ (hc:=by repeat (first | exact trivial | refine⟨by first | rfl | omega | (simp;omega) | (unfold Ty.name;simp;omega) | (simp;done),?_⟩)));refine sg rfl ?_ (hc:=by repeat (first | exact trivial | refine⟨by first | rfl | omega | (simp;omega) | (unfold Ty.name;simp;omega) | (simp;done),?_⟩));refine AWp.sub (Sub.freeze (id:=132) rfl) ?_;rw[show v.vars.map bA++[[C.str (s++[39])]]=(v.vars++[s++[39]]).map bA by rw[A6];rfl];refine AWp.sub (vp 16 (aBi ⟨v.l,v.vars++[s++[39]],v.deep+1⟩) (hp:=.c .refl (.hs rfl (by simp) (Go.AM.take_all (by simp)) (.c .refl .nil)))) ?_;refine AWp.sub (vp 17 (c7 (.mk 2 0 (s++[39]) []))) ?_;refine sk 4 rfl (kc (cP) ?_);refine ak 1 [] rfl (kc (cS1) ?_);refine ak 4 [(7,.all)] rfl (az (AWp.sub (vp 18 (aB (.mk 5 0 [112] (.mk 2 0 (s++[39]) []) [c1] [] []))) ?_));refine a8 (sk 4 rfl ?_ (hc:=by repeat (first | exact trivial | refine⟨by first | rfl | omega | (simp;omega) | (unfold Ty.name;simp;omega) | (simp;done),?_⟩)));refine kc cH ?_;refine az (aA rfl (fun hb=>?_) (fun hb=>?_))
   ·have cLf:=hA (ψ hb);refine sk 3 rfl (kc (cLf) ?_);exact kz 1 rfl (aF (rtC trw))
   obtain⟨Z,rfl,cS2⟩:=hB (π hb);have cA:=iD (.mk 6 0 [] u [.mk 7 0 (s++[39]) zTy [.mk 5 0 [112] (.mk 2 0 (s++[39]) []) [c1] [] []] [] []] [] []) Z;refine aD (sgh [(3,.all)] rfl ?_ (hc:=by repeat (first | exact trivial | refine⟨by first | rfl | omega | (simp;omega) | (unfold Ty.name;simp;omega) | (simp;done),?_⟩)));refine AWp.sub (vp 19 (aB (.mk 7 0 (s++[39]) zTy [.mk 5 0 [112] (.mk 2 0 (s++[39]) []) [c1] [] []] [] []))) ?_;refine skh 7 [(2,.all)] rfl (kc (cM) ?_);refine ak 1 [] rfl (kc (cS2) ?_);refine kc (cA) ?_;exact kz 1 rfl (aF (rtC trw))
  by_cases hH:s++[39]∈v.vars
  ·obtain⟨Z,l5,m2,g2,hm2,hl5,cLf⟩:=aKu n n t (le_refl _) hg (by omega) v l4 O hv (by omega) aa;exact⟨Z,l5,O,m2,g2,hl5,⟨by omega,by omega,by omega⟩,head _ _ _ (fun _=>cLf) (fun h=>absurd hH h)⟩
  ·obtain⟨Z,l5,le2,m2,g2,hl5,⟨b2,b2',b2''⟩,cS2⟩:=hS (by omega) (eF v [] t) u k l4 O hv1 (by omega) (by omega) gu (by omega) aa (by omega) (by omega);exact⟨_,l5,le2,m1+4+20+1+m2+1,.tr gu (by omega) hs8 (by decide) gX (by omega) g1.within g2.less,hl5,⟨by omega,by omega,by omega⟩,head _ _ _ (fun h=>absurd h hH) (fun _=>⟨Z,rfl,cS2⟩)⟩
 by_cases hi4:i=4
 ·obtain⟨u,Y,k,gu,hk,J,cU⟩:=aBk v.vars hv.vars (by omega) 1 2 (by omega) (by omega) l1 (left-1) hl1;have hk:k≤5:=hk;have gF:GT (k+n+3) (aTq u t):=gu.fn hg;have cFn:=a0t u t;obtain⟨c1,l3,O,m1,g1,hl3,⟨b1,b1',b1''⟩,cS1⟩:=hS (by omega) (eF v [] t) (aTq u t) (k+n+3) Y (left-1) hv1 (by omega) (by omega) gF (by omega) J (by omega) (by omega);obtain⟨Z,l4,le2,m2,g2,aa,⟨b2,b2',b2''⟩,cS2⟩:=hS (by omega) (eF v [] t) u k l3 O hv1 (by omega) (by omega) gu (by omega) hl3 (by omega) (by omega);have cA:=iD c1 Z;refine⟨.mk 4 0 [] zTy [c1,Z] [] [],l4,le2,m1+m2+1,.app g1.less g2.less,aa,⟨by omega,by omega,by omega⟩,?_⟩;refine bZ (n:=374) tok Tryz.func25 rfl rfl rfl ?_;refine sg rfl (sg rfl ?_ (hc:=by repeat (first | exact trivial | refine⟨by first | rfl | omega | (simp;omega) | (unfold Ty.name;simp;omega) | (simp;done),?_⟩)));refine a8 (a8 (agF 6 [] rfl rfl rfl (aA rfl (fun hb=>absurd (by simpa using hb) hlf) (fun _=>aD (a8 (sk 1 rfl (kc cN ?_)))))));refine az (aC (sg rfl (aA rfl (fun hb=>absurd (by have:=ψ hb;omega) hi0) (fun _=>sg rfl (aA rfl (fun hb=>absurd (by have:=ψ hb;omega) hi1) (fun _=>sg rfl (aA rfl (fun hb=>absurd (by have:=ψ hb;omega) hi2) (fun _=>sg rfl (aA rfl (fun hb=>absurd (by have:=ψ hb;omega) hi3) (fun _=>sg rfl (aA rfl (fun _=>sk 3 rfl (kc (cU) ?_)) (fun hb=>absurd (π hb) (by omega)))))))))))));refine ak 1 [] rfl (kc (cFn) ?_);refine kz 2 rfl (sk 3 rfl (kc (cM) ?_));refine ak 1 [] rfl (kc (cS1) ?_);refine ak 3 [] rfl (kc (cM) ?_);refine ak 7 [(12,.row 0 (c7 (aTe (.mk 3 0 arrow []) u))),(15,.row 1 (c7 u))] rfl (kc (cS2) ?_);refine kc (cA) ?_;exact kz 1 rfl (aF (rtC trw))
 obtain⟨q,L,hLg,hLn,cSp⟩:=aQ4 hg (by omega);by_cases hI:bb q.form q.name [73,110,116]=true
 ·obtain⟨j,Y,hj,J,cJ⟩:=kC l1 (left-1) 4 (by decide) hl1;have hj:j<4:=by omega
  obtain⟨s,hs⟩:∃s,([[97,100,100],[115,117,98],[109,117,108],[100,105,118]]:List Str)[j]?=some s:=aJ (by simpa using hj);have hs':=bT bA hs;have hsp:s∈aUk:=by
   have:j=0∨j=1∨j=2∨j=3:=by omega
   rcases this with rfl | rfl | rfl | rfl<;>(simp at hs;subst hs;decide)
  obtain⟨c1,l3,O,m1,g1,hl3,⟨b1,b1',b1''⟩,cS1⟩:=hS (by omega) (eF v [] t) t n Y (left-1) hv1 (by omega) (by omega) hg (by omega) J (by omega) (by omega);obtain⟨Z,l4,le2,m2,g2,aa,⟨b2,b2',b2''⟩,cS2⟩:=hS (by omega) (eF v [] t) t n l3 O hv1 (by omega) (by omega) hg (by omega) hl3 (by omega) (by omega);refine⟨.mk 10 0 s zTy [c1,Z] [] [],l4,le2,m1+m2+5,.prim hsp g1.less g2.less,aa,⟨by omega,by omega,by omega⟩,?_⟩;refine bZ (n:=374) tok Tryz.func25 rfl rfl rfl ?_;refine sg rfl (sg rfl ?_ (hc:=by repeat (first | exact trivial | refine⟨by first | rfl | omega | (simp;omega) | (unfold Ty.name;simp;omega) | (simp;done),?_⟩)));refine a8 (a8 (agF 6 [] rfl rfl rfl (aA rfl (fun hb=>absurd (by simpa using hb) hlf) (fun _=>aD (a8 (sk 1 rfl (kc cN ?_)))))));refine az (aC (sg rfl (aA rfl (fun hb=>absurd (by have:=ψ hb;omega) hi0) (fun _=>sg rfl (aA rfl (fun hb=>absurd (by have:=ψ hb;omega) hi1) (fun _=>sg rfl (aA rfl (fun hb=>absurd (by have:=ψ hb;omega) hi2) (fun _=>sg rfl (aA rfl (fun hb=>absurd (by have:=ψ hb;omega) hi3) (fun _=>sg rfl (aA rfl (fun hb=>absurd (by have:=ψ hb;omega) hi4) (fun _=>aD (sk 1 rfl (kc (cSp) ?_))))))))))))));refine kz 6 rfl (a8 (aC (a8 (agF 4 [] rfl rfl rfl (aA rfl (fun _=>sk 2 rfl (kc (cJ) ?_)) (fun hb=>by have:=hI.symm.trans hb;cases this))))));refine ak 3 [(3,.row j []),(4,.row j (bA s))] rfl (az (sk 4 rfl (kc (cM) ?_)));refine ak 1 [] rfl (kc (cS1) ?_);refine ak 3 [] rfl (kc (cM) ?_);refine ak 1 [] rfl (kc (cS2) ?_);exact ak 3 [(13,.all)] rfl (az (aF (rtC trw)))
 by_cases hB:bb q.form q.name [66,111,111,108]=true
 ·obtain⟨j,Y,hj,J,cJ⟩:=kC l1 (left-1) 2 (by decide) hl1;have hj:j<2:=by omega
  obtain⟨s,hs⟩:∃s,([[101,113],[108,116]]:List Str)[j]?=some s:=aJ (by simpa using hj);have hs':=bT bA hs;have hsp:s∈aUk:=by
   have:j=0∨j=1:=by omega
   rcases this with rfl | rfl<;>(simp at hs;subst hs;decide)
  have gI:GT 1 a1t:=.con _ (by decide);obtain⟨c1,l3,O,m1,g1,hl3,⟨b1,b1',b1''⟩,cS1⟩:=hS (by omega) (eF v [] t) a1t 1 Y (left-1) hv1 (by omega) (by omega) gI (by omega) J (by omega) (by omega);obtain⟨Z,l4,le2,m2,g2,aa,⟨b2,b2',b2''⟩,cS2⟩:=hS (by omega) (eF v [] t) a1t 1 l3 O hv1 (by omega) (by omega) gI (by omega) hl3 (by omega) (by omega);refine⟨.mk 10 0 s zTy [c1,Z] [] [],l4,le2,m1+m2+5,.prim hsp g1.less g2.less,aa,⟨by omega,by omega,by omega⟩,?_⟩;refine bZ (n:=374) tok Tryz.func25 rfl rfl rfl ?_;refine sg rfl (sg rfl ?_ (hc:=by repeat (first | exact trivial | refine⟨by first | rfl | omega | (simp;omega) | (unfold Ty.name;simp;omega) | (simp;done),?_⟩)));refine a8 (a8 (agF 6 [] rfl rfl rfl (aA rfl (fun hb=>absurd (by simpa using hb) hlf) (fun _=>aD (a8 (sk 1 rfl (kc cN ?_)))))));refine az (aC (sg rfl (aA rfl (fun hb=>absurd (by have:=ψ hb;omega) hi0) (fun _=>sg rfl (aA rfl (fun hb=>absurd (by have:=ψ hb;omega) hi1) (fun _=>sg rfl (aA rfl (fun hb=>absurd (by have:=ψ hb;omega) hi2) (fun _=>sg rfl (aA rfl (fun hb=>absurd (by have:=ψ hb;omega) hi3) (fun _=>sg rfl (aA rfl (fun hb=>absurd (by have:=ψ hb;omega) hi4) (fun _=>aD (sk 1 rfl (kc (cSp) ?_))))))))))))));refine kz 6 rfl (a8 (aC (a8 (agF 4 [] rfl rfl rfl (aA rfl (fun hb=>absurd hb hI) (fun _=>a8 (agF 4 [] rfl rfl rfl (aA rfl (fun _=>a8 (aE mixed (kc (lT [73,110,116]) ?_))) (fun hb=>by have:=hB.symm.trans hb;cases this)))))))));refine kz 2 rfl (sk 2 rfl (kc (cJ) ?_));refine ak 5 [(3,.row j []),(4,.row j (bA s))] rfl (kc (cM) ?_);refine ak 1 [] rfl (kc (cS1) ?_);refine ak 3 [] rfl (kc (cM) ?_);refine ak 1 [] rfl (kc (cS2) ?_);exact ak 3 [(17,.all)] rfl (az (aF (rtC trw)))
 have hl2e:∃Y,Ok Y∧(((bb q.form q.name [76]=true∧L.length=1)∧∃j:Nat,j=0∧aW Tryz.prog 23 [.one (.vp 700 0),I .i64 3] (mO l1 (left-1)) (I .i64 j) (mO Y (left-1)))∨(¬(bb q.form q.name [76]=true∧L.length=1)∧Y=l1))∨((bb q.form q.name [76]=true∧L.length=1)∧Ok Y∧∃j:Nat,0<j∧aW Tryz.prog 23 [.one (.vp 700 0),I .i64 3] (mO l1 (left-1)) (I .i64 j) (mO Y (left-1))):=by
  by_cases hX:bb q.form q.name [76]=true∧L.length=1
  ·obtain⟨j,Y,_,J,cJ⟩:=kC l1 (left-1) 3 (by decide) hl1;by_cases hj:j=0
   ·exact⟨Y,.inl ⟨J,.inl ⟨hX,j,hj,cJ⟩⟩⟩
   ·exact⟨Y,.inr ⟨hX,J,j,by omega,cJ⟩⟩
  ·exact⟨l1,.inl ⟨hl1,.inr ⟨hX,rfl⟩⟩⟩
 obtain⟨Y,⟨J,hl12⟩ | ⟨hX,J,j,hj,cJ⟩⟩:=hl2e
 rotate_left
 ·obtain⟨x,rfl⟩:∃x,L=[x]:=B2.1 hX.2;obtain⟨e3,e4⟩:=rK hX.1;have d3:decide (q.form=3)=true:=Ae e3;have d4:decide (q.name=[76])=true:=Ae e4;obtain⟨kx,_,gx,_,hkx⟩:=hLg;have cG:=qH [67] [x] (by simp);obtain⟨c1,l3,O,m1,g1,hl3,⟨b1,b1',b1''⟩,cS1⟩:=hS (by omega) (eF v [] t) x kx Y (left-1) hv1 (by omega) (by omega) gx (by omega) J (by omega) (by omega);obtain⟨Z,l4,le2,m2,g2,aa,⟨b2,b2',b2''⟩,cS2⟩:=hS (by omega) (eF v [] t) t n l3 O hv1 (by omega) (by omega) hg (by omega) hl3 (by omega) (by omega);have cA1:=iD (j4 [67] [x]) c1;have cA2:=iD (.mk 4 0 [] zTy [j4 [67] [x],c1] [] []) Z;refine⟨.mk 4 0 [] zTy [.mk 4 0 [] zTy [j4 [67] [x],c1] [] [],Z] [] [],l4,le2,9+1+m1+1+m2+1,.app (.app (.tc (by decide) gx (by omega)) g1.less) g2.less,aa,⟨by omega,by omega,by omega⟩,?_⟩;refine bZ (n:=374) tok Tryz.func25 rfl rfl rfl ?_;refine sg rfl (sg rfl ?_ (hc:=by repeat (first | exact trivial | refine⟨by first | rfl | omega | (simp;omega) | (unfold Ty.name;simp;omega) | (simp;done),?_⟩)));refine a8 (a8 (agF 6 [] rfl rfl rfl (aA rfl (fun hb=>absurd (by simpa using hb) hlf) (fun _=>aD (a8 (sk 1 rfl (kc cN ?_)))))));refine az (aC (sg rfl (aA rfl (fun hb=>absurd (by have:=ψ hb;omega) hi0) (fun _=>sg rfl (aA rfl (fun hb=>absurd (by have:=ψ hb;omega) hi1) (fun _=>sg rfl (aA rfl (fun hb=>absurd (by have:=ψ hb;omega) hi2) (fun _=>sg rfl (aA rfl (fun hb=>absurd (by have:=ψ hb;omega) hi3) (fun _=>sg rfl (aA rfl (fun hb=>absurd (by have:=ψ hb;omega) hi4) (fun _=>aD (sk 1 rfl (kc (cSp) ?_))))))))))))));refine kz 6 rfl (a8 (aC (a8 (agF 4 [] rfl rfl rfl (aA rfl (fun hb=>absurd hb hI) (fun _=>a8 (agF 4 [] rfl rfl rfl (aA rfl (fun hb=>absurd hb hB) (fun _=>skh 15 [(3,.bv true),(7,.bv true),(8,.bv true),(12,.bv true)] rfl (kcG cJ ?_))))))))));refine ak 3 [(17,.bv true)] rfl (az (aA rfl (fun _=>sk 1 rfl (kc (cG) ?_)) (fun hb=>absurd (π hb) (by omega))));refine ak 3 [] rfl (kc (cM) ?_);refine ak 3 [(7,.row 0 []),(8,.row 0 (c7 x))] rfl (kc (cS1) ?_);refine kc (cA1) ?_;refine ak 3 [] rfl (kc (cM) ?_);refine ak 1 [] rfl (kc (cS2) ?_);refine kc (cA2) ?_;exact kz 1 rfl (aF (rtC trw))
 by_cases hP:bb q.form q.name [80]=true∧L.length=2
 ·obtain⟨x,y,rfl⟩:∃x y,L=[x,y]:=by
   match L,hP.2 with
   | [x,y],_=>exact⟨x,y,rfl⟩
  obtain⟨e3,e4⟩:=rK hP.1;have d3:decide (q.form=3)=true:=Ae e3;have d4:decide (q.name=[76])=false:=by rw[e4];rfl
  obtain⟨kx,mx,gx,⟨ky,_,gy,_,hky⟩,hkx⟩:=hLg;have cG:=qH [80] [x,y] (by simp);obtain⟨c1,l3,O,m1,g1,hl3,⟨b1,b1',b1''⟩,cS1⟩:=hS (by omega) (eF v [] t) x kx l1 (left-1) hv1 (by omega) (by omega) gx (by omega) hl1 (by omega) (by omega);obtain⟨Z,l4,le2,m2,g2,aa,⟨b2,b2',b2''⟩,cS2⟩:=hS (by omega) (eF v [] t) y ky l3 O hv1 (by omega) (by omega) gy (by omega) hl3 (by omega) (by omega);have cA1:=iD (j4 [80] [x,y]) c1;have cA2:=iD (.mk 4 0 [] zTy [j4 [80] [x,y],c1] [] []) Z;refine⟨.mk 4 0 [] zTy [.mk 4 0 [] zTy [j4 [80] [x,y],c1] [] [],Z] [] [],l4,le2,9+1+1+m1+1+m2+1,.app (.app (.tc2 (by decide) gx (by omega) gy (by omega)) g1.less) g2.less,aa,⟨by omega,by omega,by omega⟩,?_⟩;refine bZ (n:=374) tok Tryz.func25 rfl rfl rfl ?_;refine sg rfl (sg rfl ?_ (hc:=by repeat (first | exact trivial | refine⟨by first | rfl | omega | (simp;omega) | (unfold Ty.name;simp;omega) | (simp;done),?_⟩)));refine a8 (a8 (agF 6 [] rfl rfl rfl (aA rfl (fun hb=>absurd (by simpa using hb) hlf) (fun _=>aD (a8 (sk 1 rfl (kc cN ?_)))))));refine az (aC (sg rfl (aA rfl (fun hb=>absurd (by have:=ψ hb;omega) hi0) (fun _=>sg rfl (aA rfl (fun hb=>absurd (by have:=ψ hb;omega) hi1) (fun _=>sg rfl (aA rfl (fun hb=>absurd (by have:=ψ hb;omega) hi2) (fun _=>sg rfl (aA rfl (fun hb=>absurd (by have:=ψ hb;omega) hi3) (fun _=>sg rfl (aA rfl (fun hb=>absurd (by have:=ψ hb;omega) hi4) (fun _=>aD (sk 1 rfl (kc (cSp) ?_))))))))))))));refine kz 6 rfl (a8 (aC (a8 (agF 4 [] rfl rfl rfl (aA rfl (fun hb=>absurd hb hI) (fun _=>a8 (agF 4 [] rfl rfl rfl (aA rfl (fun hb=>absurd hb hB) (fun _=>sgh [(3,.bv true),(7,.bv true),(8,.bv false),(12,.bv false)] rfl (aA rfl nofun (fun _=>a8 (agF 4 [] rfl rfl rfl (aA rfl (fun _=>?_) (fun hb=>?_))))))))))))))
  ·refine sk 1 rfl (kc (cG) ?_);refine ak 3 [] rfl (kc (cM) ?_);refine ak 3 [(7,.row 0 []),(8,.row 0 (c7 x))] rfl (kc (cS1) ?_);refine kc (cA1) ?_;refine ak 3 [] rfl (kc (cM) ?_);refine ak 3 [(16,.row 1 []),(17,.row 1 (c7 y))] rfl (kc (cS2) ?_);refine kc (cA2) ?_;exact kz 1 rfl (aF (rtC trw))
  ·exfalso;simp[e3,e4] at hb
 rcases yJ hg with⟨m1,m2,a,b,ga,gb,hnm,hte,cF⟩ | cF
 ·obtain⟨s,l3,hs,hl3,cNm⟩:=aKt Y (left-1) v J;have hs6:s∈nm6:=ω.2 (.inl hs);obtain⟨hvs,cMs⟩:=more v s a m1 hv h0 (by omega) ga (by omega) (.inr hs6);have hds:(eF v s a).deep=v.deep+1:=rfl;obtain⟨c3,l4,le3,m3,g3,aa,⟨b3,b3',b3''⟩,cS3⟩:=hS (by omega) (eF v s a) b m2 l3 (left-1) hvs (by omega) (by omega) gb (by omega) hl3 (by omega) (by omega);refine⟨.mk 5 0 s a [c3] [] [],l4,le3,m3+4,.lam hs6 ga (by omega) g3.within,aa,⟨by omega,by omega,by omega⟩,?_⟩;refine bZ (n:=374) tok Tryz.func25 rfl rfl rfl ?_;refine sg rfl (sg rfl ?_ (hc:=by repeat (first | exact trivial | refine⟨by first | rfl | omega | (simp;omega) | (unfold Ty.name;simp;omega) | (simp;done),?_⟩)));refine a8 (a8 (agF 6 [] rfl rfl rfl (aA rfl (fun hb=>absurd (by simpa using hb) hlf) (fun _=>aD (a8 (sk 1 rfl (kc cN ?_)))))));refine az (aC (sg rfl (aA rfl (fun hb=>absurd (by have:=ψ hb;omega) hi0) (fun _=>sg rfl (aA rfl (fun hb=>absurd (by have:=ψ hb;omega) hi1) (fun _=>sg rfl (aA rfl (fun hb=>absurd (by have:=ψ hb;omega) hi2) (fun _=>sg rfl (aA rfl (fun hb=>absurd (by have:=ψ hb;omega) hi3) (fun _=>sg rfl (aA rfl (fun hb=>absurd (by have:=ψ hb;omega) hi4) (fun _=>aD (sk 1 rfl (kc (cSp) ?_))))))))))))));refine kz 6 rfl (a8 (aC (a8 (agF 4 [] rfl rfl rfl (aA rfl (fun hb=>absurd hb hI) (fun _=>a8 (agF 4 [] rfl rfl rfl (aA rfl (fun hb=>absurd hb hB) (fun _=>a8 (AWp.cut (mk [(0,.one (.vp 700 0)),(4,.one (.vp 4 0)),(5,.one (.vp 5 0)),(6,.one (.vp 6 0)),(21,.one (.vp 21 0)),(22,.one (.hs 510 0 L.length L.length)),(268,B false)] ([(4,.var 68 (vRt v)),(5,.var 25 (tR t)),(6,.var 30 [.c (.int .i64 0),.c (.int .i64 0),.c (.str []),.c (.int .i64 0),.c (.int .i64 0),.c (.str []),.c .nl,.c .nl,.c .nl,.c .nl]),(21,.var 25 (tR q)),(510,.arr 25 4 (L.map c7) 2)]++mO Y (left-1))) ?_ ?_))))))))))
  ·rcases hl12 with⟨hX,j,hj0,cJ⟩ | ⟨hX,rfl⟩
   ·obtain⟨e3,e4⟩:=rK hX.1;have d3:decide (q.form=3)=true:=Ae e3;have d4:decide (q.name=[76])=true:=Ae e4;have d5:decide ((L.length:Int)=1)=true:=Ae (by rw[hX.2];rfl);subst hj0;refine aE mixed (ak 15 [(3,.bv true),(7,.bv true),(8,.bv true),(12,.bv true),(13,.bv true)] rfl (kcG cJ ?_ (hw:=d5)));exact ak 3 [(13,.bv true),(17,.bv true)] rfl (az sl)
   ·by_cases e3:q.form=3
    ·have d3:decide (q.form=3)=true:=Ae e3;by_cases e4:q.name=[76]
     ·have d4:decide (q.name=[76])=true:=Ae e4;have e5:¬L.length=1:=fun h=>hX ⟨by unfold bb;rw[d3,d4];rfl,h⟩
      have d5:decide ((L.length:Int)=1)=false:=Ag (by omega);exact ag [(3,.bv true),(7,.bv true),(8,.bv true),(12,.bv true),(13,.bv false),(17,.bv false)] rfl sl
     ·have d4:decide (q.name=[76])=false:=Ag e4;exact ag [(3,.bv true),(7,.bv true),(8,.bv false),(12,.bv false)] rfl sl
    ·have d3:decide (q.form=3)=false:=Ag e3;exact ag [(3,.bv false),(7,.bv false)] rfl sl
  refine aA rfl nofun (fun _=>a8 (agF 4 [] rfl rfl rfl (aA rfl (fun hb=>absurd (aK8 hb) hP) (fun _=>aD (a8 (sk 1 rfl (kc cF ?_)))))));refine az (aA rfl (fun _=>?_) nofun);subst hte;refine sk 2 rfl (kc (cNm) ?_);refine kz 1 rfl (skh 18 [(3,.row 0 (c7 (aTe (.mk 3 0 arrow []) a))),(6,.row 1 (c7 a)),(13,.row 0 (c7 (aTe (.mk 3 0 arrow []) a))),(16,.row 1 (c7 a))] rfl (kc (cMs) ?_));refine ak 4 [(21,.row 1 (c7 b))] rfl (kc (cS3) ?_);exact ak 3 [(24,.all)] rfl (az (aF (rtC trw)))
 ·obtain⟨Z,l5,m2,g2,hm2,hl5,cLf⟩:=aKu n n t (le_refl _) hg (by omega) v Y (left-1) hv (by omega) J;refine⟨Z,l5,left-1,m2,g2,hl5,⟨by omega,by omega,by omega⟩,?_⟩;refine bZ (n:=374) tok Tryz.func25 rfl rfl rfl ?_;refine sg rfl (sg rfl ?_ (hc:=by repeat (first | exact trivial | refine⟨by first | rfl | omega | (simp;omega) | (unfold Ty.name;simp;omega) | (simp;done),?_⟩)));refine a8 (a8 (agF 6 [] rfl rfl rfl (aA rfl (fun hb=>absurd (by simpa using hb) hlf) (fun _=>aD (a8 (sk 1 rfl (kc cN ?_)))))));refine az (aC (sg rfl (aA rfl (fun hb=>absurd (by have:=ψ hb;omega) hi0) (fun _=>sg rfl (aA rfl (fun hb=>absurd (by have:=ψ hb;omega) hi1) (fun _=>sg rfl (aA rfl (fun hb=>absurd (by have:=ψ hb;omega) hi2) (fun _=>sg rfl (aA rfl (fun hb=>absurd (by have:=ψ hb;omega) hi3) (fun _=>sg rfl (aA rfl (fun hb=>absurd (by have:=ψ hb;omega) hi4) (fun _=>aD (sk 1 rfl (kc (cSp) ?_))))))))))))));refine kz 6 rfl (a8 (aC (a8 (agF 4 [] rfl rfl rfl (aA rfl (fun hb=>absurd hb hI) (fun _=>a8 (agF 4 [] rfl rfl rfl (aA rfl (fun hb=>absurd hb hB) (fun _=>a8 (AWp.cut (mk [(0,.one (.vp 700 0)),(4,.one (.vp 4 0)),(5,.one (.vp 5 0)),(6,.one (.vp 6 0)),(21,.one (.vp 21 0)),(22,.one (.hs 510 0 L.length L.length)),(268,B false)] ([(4,.var 68 (vRt v)),(5,.var 25 (tR t)),(6,.var 30 [.c (.int .i64 0),.c (.int .i64 0),.c (.str []),.c (.int .i64 0),.c (.int .i64 0),.c (.str []),.c .nl,.c .nl,.c .nl,.c .nl]),(21,.var 25 (tR q)),(510,.arr 25 4 (L.map c7) 2)]++mO Y (left-1))) ?_ ?_))))))))))
  ·rcases hl12 with⟨hX,j,hj0,cJ⟩ | ⟨hX,rfl⟩
   ·obtain⟨e3,e4⟩:=rK hX.1;have d3:decide (q.form=3)=true:=Ae e3;have d4:decide (q.name=[76])=true:=Ae e4;have d5:decide ((L.length:Int)=1)=true:=Ae (by rw[hX.2];rfl);subst hj0;refine aE mixed (ak 15 [(3,.bv true),(7,.bv true),(8,.bv true),(12,.bv true),(13,.bv true)] rfl (kcG cJ ?_ (hw:=d5)));exact ak 3 [(13,.bv true),(17,.bv true)] rfl (az sl)
   ·by_cases e3:q.form=3
    ·have d3:decide (q.form=3)=true:=Ae e3;by_cases e4:q.name=[76]
     ·have d4:decide (q.name=[76])=true:=Ae e4;have e5:¬L.length=1:=fun h=>hX ⟨by unfold bb;rw[d3,d4];rfl,h⟩
      have d5:decide ((L.length:Int)=1)=false:=Ag (by omega);exact ag [(3,.bv true),(7,.bv true),(8,.bv true),(12,.bv true),(13,.bv false),(17,.bv false)] rfl sl
     ·have d4:decide (q.name=[76])=false:=Ag e4;exact ag [(3,.bv true),(7,.bv true),(8,.bv false),(12,.bv false)] rfl sl
    ·have d3:decide (q.form=3)=false:=Ag e3;exact ag [(3,.bv false),(7,.bv false)] rfl sl
  refine aA rfl nofun (fun _=>a8 (agF 4 [] rfl rfl rfl (aA rfl (fun hb=>absurd (aK8 hb) hP) (fun _=>aD (a8 (sk 1 rfl (kc cF ?_)))))));refine az (aA rfl nofun (fun _=>aD (sk 3 rfl (kc (cLf) ?_))));exact kz 1 rfl (aF (rtC trw))
theorem aQ5:∀F:Nat,tJ F
 | 0=>by
  have:=aCn (-1) (fun h=>by omega);intro v t n l left y J hd I hn hl hle q;exact this v t n l left y (by omega) hd I hn hl hle q
 | F+1=>aCn F fun _=>aQ5 F
theorem a0v (s:Str) (t:Ty):aW Tryz.prog 26 [Go.AM.T s,tyV t] [] (tyV (.mk 5 0 s [t])) []:=by
 refine bZ (n:=9) tok Tryz.func26 rfl rfl rfl ?_;exact sg rfl (sgh [(2,.all)] rfl (aF (rtC trw)))
theorem aVp (l:List Int) (hl:aWp l) (hf:Fits l):∃(c:Core) (t:Ty) (m:Nat),m≤110000∧((GC false [] m c∧∃n,GT n t∧n≤29)∨((∃s I m0,c=.mk 7 0 s zTy [I] [] []∧s∈tvN∧m=m0+20∧GC false [] m0 I)∧∃n u,GT n u∧n≤33∧t=.mk 5 0 [97] [u]))∧
  aW Tryz.prog 5 [.one (.c (.sl 1 (l.map aNc)))] [] (.tup [.pa (aB c),tyV t]) []:=by
 have J:aWp (l.take 60):=fun x hx=>hl x (Bz hx)
 have O:Fits (l.take 60):=by
  unfold Fits at *;rw[Ap];omega
 have Y:=a5j l 60 hf (by omega);obtain⟨t,l1,n,gt,hn,Z,cT⟩:=aBk [] (fun x hx=>by cases hx) (by simp) 3 0 (by omega) (by omega) (l.take 60) 26 ⟨J,O⟩;have hn:n≤29:=hn;obtain⟨i,l2,hi,q,cN⟩:=kC l1 26 3 (by decide) Z;have hp:pos 26=25:=rfl;by_cases h0:i=0
 ·subst h0;have gA:GT 1 (.mk 2 0 [97] []):=.var _ (by decide);have gF:=gA.fn gt;have cF:=a0t (.mk 2 0 [97] []) t;obtain⟨c,l3,le,m,gc,hl3,⟨b1,b2,b3⟩,y⟩:=aQ5 7 ⟨[],[[97]],0⟩ (aTq (.mk 2 0 [97] []) t) _ l2 26 ⟨fun x hx=>(by cases hx),fun x hx=>by rw[Ab.1 hx];decide,Int.le_refl _,by decide,by decide⟩ (by decide) (by decide) gF (by show _≤33+8*(0:Int);omega) q (by decide) (by rw[hp];decide);have hp2:0≤pos le:=by unfold pos;omega
  have cA:=a0v [97] (aTq (.mk 2 0 [97] []) t);refine⟨.mk 7 0 [97] zTy [c] [] [],_,m+20,by omega,.inr ⟨⟨_,_,_,rfl,by decide,rfl,gc⟩,_,_,gF,by omega,rfl⟩,?_⟩;refine bZ (n:=35) tok Tryz.func5 rfl rfl rfl ?_;refine sg rfl (sk 1 rfl (kc Y ?_));refine ak 3 [(3,.id 700)] rfl (az (sk 1 rfl (kc cT ?_)));refine kz 2 rfl (a8 (sk 1 rfl (kc cN ?_)));refine kz 1 rfl (aA rfl (fun _=>sk 2 rfl (kc cF ?_)) nofun);refine kz 2 rfl (skh 4 [(1,.all)] rfl (kc y ?_));refine kz 2 rfl (skh 4 [(1,.all)] rfl (kc cA ?_));exact kz 2 rfl (aF ⟨.inr rfl,⟨_,_,.cell rfl (tg rfl) rfl rfl rfl (.cell rfl (tg rfl) rfl rfl rfl .nil),.cons (.pa (.c .refl (.c .refl (.c .refl (.c .refl (.c .refl (.c .refl (.c .nl (.c .refl (.c .nl (.c .nl .nil))))))))))) (.cons .refl .nil),rfl⟩,trivial,rfl⟩)
 ·obtain⟨c,l3,le,m,gc,hl3,⟨b1,b2,b3⟩,y⟩:=aQ5 7 ⟨[],[],0⟩ t n l2 26 ⟨fun x hx=>(by cases hx),fun x hx=>(by cases hx),Int.le_refl _,by decide,by decide⟩ (by decide) (by decide) gt (by show _≤33+8*(0:Int);omega) q (by decide) (by rw[hp];decide);have hp2:0≤pos le:=by unfold pos;omega
  refine⟨c,t,m,by omega,.inl ⟨gc,n,gt,hn⟩,?_⟩;refine bZ (n:=35) tok Tryz.func5 rfl rfl rfl ?_;refine sg rfl (sk 1 rfl (kc Y ?_));refine ak 3 [(3,.id 700)] rfl (az (sk 1 rfl (kc cT ?_)));refine kz 2 rfl (a8 (sk 1 rfl (kc cN ?_)));refine kz 1 rfl (aA rfl (fun hb=>absurd (by have:=ψ hb;omega) h0) (fun _=>aD (sk 3 rfl (kc y ?_))));exact kz 3 rfl (aF ⟨.inr rfl,⟨_,_,.cell rfl (tg rfl) rfl rfl rfl (.cell rfl (tg rfl) rfl rfl rfl .nil),.cons .refl (.cons .refl .nil),rfl⟩,trivial,rfl⟩)
theorem GC.up {L:List Str}{m:Nat}{c:Core}(h:GC false L m c):GC true L m c:=by
 induction h with
 | var h hL=>exact .var h hL
 | con h=>exact .con h
 | int h=>exact .int h
 | app _ _ q y=>exact .app q y
 | lam h ht hk _ q=>exact .lam h ht hk q
 | tc h ht hk=>exact .tc h ht hk
 | tc2 h hu hj ht hk=>exact .tc2 h hu hj ht hk
 | tr hu hj hs hx ht hk _ _ q y=>exact .tr hu hj hs hx ht hk q y
 | tlam hz _ _ _=>cases hz
 | lt h ht hk _ _ q y=>exact .lt h ht hk q y
 | case1 ht hk _ _ h1 h2 h3 h4 h5 h6 q y=>exact .case1 ht hk q y h1 h2 h3 h4 h5 h6
 | case2 ht hk _ _ _ h1 h2 h3 h4 h5 h6 h1' h2' h3' h4' h5' h6' q y I=>exact .case2 ht hk q y I h1 h2 h3 h4 h5 h6 h1' h2' h3' h4' h5' h6'
 | prim h _ _ q y=>exact .prim h q y
 | fail ht hk=>exact .fail ht hk
theorem aQ3 (l:List Int) (hl:aWp l) (q:Fits l):∃(c:Core) (t:Ty) (m:Nat),GC true [] m c∧m≤110000∧((∃n,GT n t∧n≤29)∨∃n u,GT n u∧n≤33∧t=.mk 5 0 [97] [u])∧
  aW Tryz.prog 5 [.one (.c (.sl 1 (l.map aNc)))] [] (.tup [.pa (aB c),tyV t]) []:=by
 obtain⟨c,t,m,h2,h1,h4⟩:=aVp l hl q;rcases h1 with⟨h,h3⟩ | ⟨⟨s,y,m0,rfl,hs,rfl,h⟩,h3⟩
 ·exact⟨c,t,m,h.up,h2,.inl h3,h4⟩
 ·exact⟨_,t,_,.tlam rfl hs h.up,h2,.inr h3,h4⟩
end Go.Proofs.YtnjaiimffoninaaGreatDoor
