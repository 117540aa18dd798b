/-
  Texts Mk1 to Rq1 in one.
-/
import Derived.Test.YtpmheldmadendaaGreatDoorM11
import Derived.Shelf.Strings.OnBuilder
import Derived.Lib.ConvBytes
import Derived.Below
import Derived.Shelf.Strconv.Itoa3
import Derived.Lib.LaidTab
open List (all_eq_true append_assoc append_nil cons_append length_append length_cons length_map length_nil length_pos_iff length_range length_take map_append map_cons map_nil mem_cons mem_cons_of_mem mem_cons_self mem_map mem_of_mem_take nil_append sum_cons take_length take_of_length_le take_succ_cons take_zero)
open Nat (add_zero le_refl le_trans lt_of_lt_of_le mul_one zero_add zero_le)
namespace Go.Proofs.YtpmheldmadendaaGreatDoor
open Go Go.AM
set_option maxRecDepth 20000
set_option maxHeartbeats 4000000
def tkP:V:=.one (.vp 750 0)
def tkO (l:List Int) (i:Nat):AObj:=.var 126 [.c (.sl 1 (l.map pO)),.c (.int .i64 (i:Nat))]
theorem aR0 (l:List Int) (k:Nat) (q:Fits l) (r:k≤1000):b9 Tryz.prog 34 [.one (.c (.sl 1 (l.map pO))),I .i64 (k:Nat)] [] tkP [(750,tkO (l.take k) 0)]:=by
 have hi:=aOv l k q r;refine bM (n:=10) tok Tryz.func34 rfl rfl rfl ?_;refine sg rfl (sk 2 rfl (kc hi ?_));exact ak 3 [(4,.id 750)] rfl (az (aD rtT))
theorem aJa (l:List Int) (hl:aMt l) (E:l.length≤1000) (i:Nat) (hi:i≤l.length) (c:Nat) (hm:0<c) (A:c≤1000000):∃v j:Nat,v<c∧j≤l.length∧b9 Tryz.prog 52 [tkP,I .i64 (c:Nat)] [(750,tkO l i)] (I .i64 (v:Nat)) [(750,tkO l j)]:=by
 have q:(l.map pO).length=l.length:=χ _;by_cases h:i<l.length
 ·obtain⟨x,hx⟩:=aP h;have B:=bG pO hx;have r:i64 x:=hl x (Ag hx);obtain⟨h1,h2⟩:=uK x (k:=(c:Int)) (by omega);obtain⟨v,y⟩:∃v:Nat,iF x c=v:=⟨(iF x c).toNat,by omega⟩
  have hc:=yT x c r (by omega);rw[y] at hc;refine⟨v,i+1,by omega,h,?_⟩;have d1:decide ((l.length:Int)≤(i:Int))=false:=ψ (by omega);refine bM (n:=37) tok Tryz.func52 rfl rfl rfl ?_;refine sg rfl (aA (sg rfl ?_));rw[q];refine aB rfl (fun hb=>absurd (hb.symm.trans d1) Bool.noConfusion) (fun _=>aE (skh 11 [(8,.row i (pO x))] rfl (kc hc ?_)));exact kz 1 rfl (aA (agN [] rfl (sg rfl (aD rtT))))
 ·refine⟨0,i,hm,hi,?_⟩;have d1:decide ((l.length:Int)≤(i:Int))=true:=φ (by omega);refine bM (n:=37) tok Tryz.func52 rfl rfl rfl ?_;refine sg rfl (aA (sg rfl ?_));rw[q];exact aB rfl (fun _=>sg rfl (aD rtT)) (fun hb=>absurd (hb.symm.trans d1) Bool.noConfusion)
def aGg:Code→Code | .seq _ b=>b | c=>c
def ptL:Nat→Nat
 | 0=>4
 | k+1=>2*ptL k+10
theorem aI2:∀k,4≤ptL k
 | 0=>le_refl _
 | k+1=>by have:=aI2 k;rw[ptL];omega
def aPt:List Str:=[[120],[95],[48],[50],[78],[84,114,117,101],[78,111],[110]]
theorem aD0 (l:List Int) (hl:aMt l) (E:l.length≤1000):∀(k i deep:Nat),i≤l.length→deep+k=3→∃(s:Str) (j:Nat),s.length≤ptL k∧j≤l.length∧b9 Tryz.prog 47 [tkP,I .i64 (deep:Nat)] [(750,tkO l i)] (Go.AM.T s) [(750,tkO l j)]:=by
 intro k;have hM:1000000000≤maxLen:=by decide
 have leaf:∀(k i deep v j:Nat),b9 Tryz.prog 52 [tkP,I .i64 ((13:Nat):Int)] [(750,tkO l i)] (I .i64 (v:Nat)) [(750,tkO l j)]→v<13→j≤l.length→(v<8∨2<deep)→∃(s:Str) (j:Nat),s.length≤ptL k∧j≤l.length∧b9 Tryz.prog 47 [tkP,I .i64 (deep:Nat)] [(750,tkO l i)] (Go.AM.T s) [(750,tkO l j)]:=fun k i deep v j hc y c hvd=>by
  obtain⟨s,hs⟩:=aP (l:=aPt) (k:=v%8) (by show v%8<8;omega);have hs':=bG bD hs;have J:s.length≤4:=by
   have:∀s∈aPt,s.length≤4:=by decide
   exact this s (Ag hs)
  have M:(aPt.map bD).length=8:=rfl;refine⟨s,j,le_trans J (aI2 k),c,?_⟩;refine bM (n:=49) tok Tryz.func47 rfl rfl rfl ?_;refine sg rfl (sgh [(0,.all)] rfl (sk 1 rfl (kc hc ?_)));refine kz 1 rfl (AWp.sub (st2:=mk [(0,tkP),(1,I .i64 (deep:Nat)),(5,dH aPt),(6,I .i64 (v:Nat))] [(750,tkO l j)]) sl ?_);exact aA (aA (agF 3 [] rfl rfl rfl (aB rfl (fun _=>aA (agN [(3,.row (v%8) (bD s))] rfl (aD rtT))) (fun hb=>by simp at hb;omega))))
 induction k with
 | zero=>
  intro i deep hi hd;obtain⟨v,j,y,c,hc⟩:=aJa l hl E i hi 13 (by decide) (by decide);exact leaf 0 i deep v j hc y c (.inr (by omega))
 | succ k O=>
  intro i deep hi hd;obtain⟨v,j,y,c,hc⟩:=aJa l hl E i hi 13 (by decide) (by decide);by_cases M:v<8
  ·exact leaf (k+1) i deep v j hc y c (.inl M)
  obtain⟨s1,A,hs1,q,r⟩:=O j (deep+1) c (by omega);obtain⟨s2,j2,hs2,U,Y⟩:=O A (deep+1) q (by omega);have aa:ptL k≤100000:=by
   have:k≤2:=by omega
   match k,this with
   | 0,_=>decide
   | 1,_=>decide
   | 2,_=>decide
  have pre:∀(s:Str) (B:Nat),AWp none Tryz.prog 49 (keys [(750,tkO l i)]) (aGg (aGg (aGg (aGg (Tryz.f47.body.getD .skip))))) (mk [(0,tkP),(1,I .i64 (deep:Nat)),(6,I .i64 (v:Nat))] [(750,tkO l j)]) (fun ex st=>(ex=.normal∨ex=.ret)∧Fin tr.flat Tryz.f47 st [(750,tkO l i)] (Go.AM.T s) [(750,tkO l B)])→b9 Tryz.prog 47 [tkP,I .i64 (deep:Nat)] [(750,tkO l i)] (Go.AM.T s) [(750,tkO l B)]:=fun s B h=>by
   refine bM (n:=49) tok Tryz.func47 rfl rfl rfl ?_;refine sg rfl (sgh [(0,.all)] rfl (sk 1 rfl (kc hc ?_)));refine kz 1 rfl (AWp.sub (st2:=mk [(0,tkP),(1,I .i64 (deep:Nat)),(6,I .i64 (v:Nat))] [(750,tkO l j)]) sl ?_);exact aA (aA (agF 3 [] rfl rfl rfl (aB rfl (fun hb=>by simp at hb;omega) (fun _=>aE (AWp.sub sl h)))))
  by_cases h10:v<10
  ·refine⟨[67,32,40]++s1++[41,32,40]++s2++[41],j2,by rw[ptL];simp;omega,U,pre _ _ ?_⟩;have d10:decide ((v:Int)<10)=true:=φ (by omega);refine aA (sg rfl (aB rfl (fun _=>aA (aC mixed (akN 3 [] rfl (kc r ?_)))) (fun hb=>Bool.noConfusion (hb.symm.trans d10))));refine akN 5 [] rfl (kc Y ?_);exact kz 3 rfl (aD rtT)
  have d10:decide ((v:Int)<10)=false:=ψ (by omega);by_cases h12:v<12
  ·refine⟨[89,101,115,32,40]++s1++[41],A,by rw[ptL];simp;omega,q,pre _ _ ?_⟩;have d12:decide ((v:Int)<12)=true:=φ (by omega);refine aA (sg rfl (aB rfl (fun hb=>Bool.noConfusion (hb.symm.trans d10)) (fun _=>aE (aA (sg rfl (aB rfl (fun _=>aA (aC mixed (akN 3 [] rfl (kc r ?_)))) (fun hb=>Bool.noConfusion (hb.symm.trans d12))))))));exact kz 3 rfl (aD rtT)
  have d12:decide ((v:Int)<12)=false:=ψ (by omega);refine⟨[80,32,40]++s1++[41,32,121],A,by rw[ptL];simp;omega,q,pre _ _ ?_⟩;refine aA (sg rfl (aB rfl (fun hb=>Bool.noConfusion (hb.symm.trans d10)) (fun _=>aE (aA (sg rfl (aB rfl (fun hb=>Bool.noConfusion (hb.symm.trans d12)) (fun _=>aE (aA (aC mixed (akN 3 [] rfl (kc r ?_)))))))))));exact kz 3 rfl (aD rtT)
theorem aD1 (l:List Int) (hl:aMt l) (q:Fits l):∃s:Str,s.length≤1000∧b9 Tryz.prog 15 [.one (.c (.sl 1 (l.map pO)))] [] (Go.AM.T s) []:=by
 have ho:=aR0 l 20 q (by decide);obtain⟨s,j,hs,_,hc⟩:=aD0 (l.take 20) (fun x hx=>hl x (B3 hx)) (by rw[Al];omega) 3 0 0 (Ae _) rfl;refine⟨s,le_trans hs (by decide),?_⟩;refine bM (n:=6) tok Tryz.func15 rfl rfl rfl ?_;refine sg rfl (sk 1 rfl (kc ho ?_));refine kc hc ?_;exact kz 1 rfl (aD rtT)
theorem aK7 (s:Str) (k:Nat):b9 Tryz.prog 16 [Go.AM.T s,I .i64 (k:Nat)] [] (Go.AM.T (s.take k)) []:=by
 refine bM (n:=13) tok Tryz.func16 rfl rfl rfl ?_;refine sg rfl (aA (sg rfl (aB rfl (fun hb=>?_) (fun hb=>?_))))
 ·have h:k<s.length:=by have:=κ hb;omega
  exact sg rfl (aD rtT)
 ·have h:s.length≤k:=by have:=Af hb;omega
  rw[Aq h];exact aE (sg rfl (aD rtT))
def aIt:List Str:=[[102],[120],[120,115],[97],[84],[67,111,110,115],[78,105,108],[100,97,116,97],[99,108,97,115,115],[105,110,115,116,97,110,99,101],[108,101,116],[105,110],[99,97,115,101],[111,102],[45,62],[61,62],[92],[61],[124],[40],[41],[123],[125],[59],[58],[44],[95],[48],[55],[50,49,52,55,52,56,51,54,52,55],[120,39],[97,95,98],[99,97,115,69],[105,110,49]]
theorem aKz (l:List Int) (hl:aMt l) (_:Fits l):∃L:List Str,(∀s∈L,s.length≤10)∧L.length≤30∧b9 Tryz.prog 48 [.one (.c (.sl 1 (l.map pO)))] [] (dH L) []:=by
 have hk:(l.map pO).length=l.length:=χ _;have ac:(aIt.map bD).length=34:=rfl;have hw:∀s∈aIt,s.length≤10:=by decide
 let f:Int→Str:=fun x=>(aIt[(iF x 34).toNat]?).getD []
 have r:∀x,f x∈aIt∧∃v:Nat,iF x 34=v∧aIt[v]?=some (f x):=fun x=>by
  obtain⟨h1,h2⟩:=uK x (k:=34) (by decide);obtain⟨s,hs⟩:=aP (l:=aIt) (k:=(iF x 34).toNat) (by show _<34;omega);have e:f x=s:=by show(aIt[(iF x 34).toNat]?).getD []=s;rw[hs];rfl
  exact⟨by rw[e];exact Ag hs,(iF x 34).toNat,by omega,by rw[e];exact hs⟩
 refine⟨(l.take 30).map f,fun s hs=>?_,by rw[χ,Al];omega,?_⟩
 ·obtain⟨x,_,rfl⟩:=mem_map.1 hs;exact hw _ (r x).1
 refine bM (n:=31) tok Tryz.func48 rfl rfl rfl ?_;refine sg rfl (sgh [(0,.all)] rfl (sg rfl (AWp.sub (Sub.own (t:=4) (id:=500) 9 1 rfl rfl) ?_)));refine aA (sg rfl (aF (aM (fun i:Nat=>mk [(0,.one (.c (.sl 1 (l.map pO)))),(3,dH aIt),(4,.one (.hs 500 0 (l.take i).length (l.take i).length)),(5,I .i64 (i:Nat))] [(500,.arr 9 1 (((l.take i).map f).map bD) 0)]) (fun i=>i≤l.length∧i≤30) (fun i=>l.length-i) 0 ⟨Ae _,Ae _⟩ sl ?_)));rintro i ⟨hi,U⟩;have ad:(l.take i).length=i:=by rw[Al];omega
 refine aA (aA (agF 2 [] rfl rfl rfl (aB rfl (fun hb=>?_) (fun hb=>?_))))
 ·have q:i<l.length∧i<30:=by simp at hb;omega
  obtain⟨x,hx⟩:=aP q.1;have ae:=bG pO hx;obtain⟨_,v,Y,y⟩:=r x;have aa:=bG bD y;have hc:=yT x 34 (hl x (Ag hx)) (by decide);rw[Y] at hc;have ab:v<34:=by have:=(Ad.1 y).1;exact this
  have A:(((l.take i).map f).map bD).length=(l.take i).length:=by rw[χ,χ]
  have B:l.take (i+1)=l.take i++[x]:=fZ hx;have E:(l.take (i+1)).length=(l.take i).length+1:=by rw[B,ζ];rfl
  have J:(((l.take i).map f).map bD)++[[.str (f x)]]=((l.take (i+1)).map f).map bD:=by rw[B,Am,Am];rfl
  refine aE (aA (aF (aC mixed (ak 8 [(4,.row i (pO x))] rfl (kc hc ?_)))));exact ak 5 [(9,.row v (bD (f x))),(11,.all)] rfl (az (agN [] rfl ⟨i+1,⟨q.1,q.2⟩,by dsimp only;omega,sl (he:=⟨rfl,rfl,Go.AM.hs_ren (by rw[E,←A];rfl) (by rw[E,←A];rfl),rfl,trivial⟩) (hh:=⟨⟨_,rfl,.arrS J⟩,trivial⟩)⟩))
 ·have M:l.take 30=l.take i:=by
   have:¬(i<l.length∧i<30):=fun h=>by simp[h.1] at hb;omega
   by_cases O:i=30
   ·rw[O]
   ·rw[Aq (by omega),Aq (by omega)]
  rw[M];refine aL (sg rfl (AWp.sub (Sub.freeze (id:=500) rfl) ?_));exact aD (rtH (hsz:=by rw[χ,χ]) (hlen:=by rw[χ,χ]))
def yI:List Str→Str
 | []=>[]
 | s::l=>s++[32]++yI l
theorem yH:∀l m:List Str,yI (l++m)=yI l++yI m
 | [],m=>rfl
 | s::l,m=>by rw[Bw,yI,yI,yH l m];simp
theorem yG:∀l:List Str,(∀s∈l,s.length≤10)→(yI l).length≤11*l.length
 | [],_=>le_refl _
 | s::l,h=>by
  have h1:=h s Bn;have h2:=yG l fun x hx=>h x (A9 _ hx)
  rw[yI,ζ,ζ,τ,τ,length_nil];omega
theorem aHh (l:List Int) (hl:aMt l) (E:Fits l):∃s:Str,b9 Tryz.prog 17 [.one (.c (.sl 1 (l.map pO)))] [] (Go.AM.T s) []:=by
 have Y:3000000000≤maxLen:=by decide
 obtain⟨L,h1,h2,hc⟩:=aKz l hl E;have r:(L.map bD).length=L.length:=χ _;refine⟨yI L,?_⟩;refine bM (n:=22) tok Tryz.func17 rfl rfl rfl ?_;refine sg rfl (sk 1 rfl (kc hc ?_));refine kz 1 rfl (sg rfl (aA (sg rfl (aF (aM (fun i:Nat=>mk [(3,dH L),(4,Go.AM.T (yI (L.take i))),(5,I .i64 (i:Nat))] []) (fun i=>i≤L.length) (fun i=>L.length-i) 0 (Ae _) sl ?_)))));intro i hi;refine aA (sg rfl (aB rfl (fun hb=>?_) (fun hb=>?_)))
 ·have q:=ltD hb r;obtain⟨x,hx⟩:=aP q;have J:=bG bD hx;have y:L.take (i+1)=L.take i++[x]:=fZ hx;have M:=h1 x (Ag hx);have O:=yG (L.take i) fun s hs=>h1 s (B3 hs)
  have U:(L.take i).length≤30:=by rw[Al];omega
  have A:yI (L.take i)++x++[32]=yI (L.take (i+1)):=by rw[y,yH,yI,yI];simp
  exact aE (aA (aF (ag [(3,.row i (bD x))] rfl (agN [] rfl ⟨i+1,q,by dsimp only;omega,sl (he:=⟨rfl,by rw[←A];rfl,rfl,trivial⟩)⟩))))
 ·have B:=geD hb r hi;subst B;rw[Az];exact aL (sg rfl (aD rtT))
end Go.Proofs.YtpmheldmadendaaGreatDoor
namespace Go.Proofs.YtpmheldmadendaaGreatDoor
open Go Go.AM Go.Shelf
set_option maxRecDepth 100000
def jr:Ren:=⟨fun f=>if f=156 then 58 else if f=165 then 113 else if f=166 then 114 else if f=169 then 115 else if f=240 then 166 else if f=241 then 167 else if f=276 then 202 else if f=277 then 203 else f,fun t=>if t=0 then 0 else if t=3 then 3 else if t=4 then 4 else if t=5 then 5 else if t=9 then 9 else if t=20 then 20 else if t=31 then 40 else if t=37 then 100 else if t=70 then 164 else if t=72 then 166 else if t=75 then 169 else if t=76 then 170 else if t=80 then 172 else if t=127 then 213 else if t=164 then 233 else t,fun g=>if g=1 then 0 else g⟩
theorem jl:Lays.n156 Tryz.prog jr where
 mixed:=mixed
 f156:=by kernel_rfl
 f165:=by kernel_rfl
 f166:=by kernel_rfl
 f169:=by kernel_rfl
 f240:=by kernel_rfl
 f241:=by kernel_rfl
 f276:=by kernel_rfl
 f277:=by kernel_rfl
 t0:=by kernel_rfl
 a0:=fun w=>by kernel_rfl
 z0:=fun w=>by kernel_rfl
 v0:=fun w=>by kernel_rfl
 t3:=by kernel_rfl
 a3:=fun w=>by kernel_rfl
 z3:=fun w=>by kernel_rfl
 v3:=fun w=>by kernel_rfl
 t4:=by kernel_rfl
 a4:=fun w=>by kernel_rfl
 z4:=fun w=>by kernel_rfl
 v4:=fun w=>by kernel_rfl
 t9:=by kernel_rfl
 a9:=fun w=>by kernel_rfl
 z9:=fun w=>by kernel_rfl
 v9:=fun w=>by kernel_rfl
 t20:=by kernel_rfl
 a20:=fun w=>by kernel_rfl
 z20:=fun w=>by kernel_rfl
 v20:=fun w=>by kernel_rfl
 t31:=by kernel_rfl
 a31:=fun w=>by kernel_rfl
 z31:=fun w=>by kernel_rfl
 v31:=fun w=>by kernel_rfl
 t37:=by kernel_rfl
 a37:=fun w=>by kernel_rfl
 z37:=fun w=>by kernel_rfl
 v37:=fun w=>by kernel_rfl
 t70:=by kernel_rfl
 a70:=fun w=>by kernel_rfl
 z70:=fun w=>by kernel_rfl
 v70:=fun w=>by kernel_rfl
 t72:=by kernel_rfl
 a72:=fun w=>by kernel_rfl
 z72:=fun w=>by kernel_rfl
 v72:=fun w=>by kernel_rfl
 t75:=by kernel_rfl
 a75:=fun w=>by kernel_rfl
 z75:=fun w=>by kernel_rfl
 v75:=fun w=>by kernel_rfl
 t76:=by kernel_rfl
 a76:=fun w=>by kernel_rfl
 z76:=fun w=>by kernel_rfl
 v76:=fun w=>by kernel_rfl
 t127:=by kernel_rfl
 a127:=fun w=>by kernel_rfl
 z127:=fun w=>by kernel_rfl
 v127:=fun w=>by kernel_rfl
 t164:=by kernel_rfl
 a164:=fun w=>by kernel_rfl
 z164:=fun w=>by kernel_rfl
 v164:=fun w=>by kernel_rfl
theorem jx:Builder.Extra Tryz.prog jr where
 sizeBuilder:=by kernel_rfl
 liesBuilder:=by kernel_rfl
 t5:=by kernel_rfl
 a5:=fun w=>by kernel_rfl
 z5:=fun w=>by kernel_rfl
 v5:=fun w=>by kernel_rfl
 infoByte:=by kernel_rfl
 cellsByte:=by kernel_rfl
 sizeByte:=by kernel_rfl
 neB5:=by decide
end Go.Proofs.YtpmheldmadendaaGreatDoor
namespace Go.AM
open Go
theorem Inv.below {G:Ctx}{S:Sto}{μ:Mu}{H:bW}{w w':World}(h:Inv G S μ H w) (k:Go.RowKit.Below w.heap.size w w'):Inv G S μ H w':=by
 have hold:∀b:Nat,b<w.heap.size→w'.heap[b]?=w.heap[b]?:=k.block;obtain⟨h1,h2,q,r,y,A,B,E,I⟩:=h;refine⟨⟨fun b o v e=>?_,fun b mk e=>?_⟩,fun id o e=>(h2 id o e).evolve (Evolve.refl _ _ _) rfl fun b c hm=>⟨hold b ((h2 id o e).lt hm),fun _=>rfl,rfl⟩,q,r,?_,A,B,E,I⟩
 ·obtain⟨vs,t,J,g1,g2⟩:=h1.1 b o v e;exact⟨vs,t,J,by rw[hold b (bQ g1)];exact g1,g2⟩
 ·have g:=h1.2 b mk e;obtain⟨_,g2⟩:=MK.holds_some g;rw[hold b (bQ g2)];exact g
 ·obtain⟨f1,f2,f3,f4,f5,f6⟩:=y;exact⟨k.os.trans f1,k.tape.trans f2,k.output.trans f3,le_trans f4 k.size,fun b hb M=>by rw[hold b (Ay hb f4)];exact f5 b hb M,f6⟩
end Go.AM
namespace Go.Proofs.YtpmheldmadendaaGreatDoor
open Go Go.AM Go.Shelf
set_option maxRecDepth 20000
theorem sW (l:List Str):(l.map fun s=>(⟨⟨s⟩⟩:ByteArray)).map (·.data.toList)=l:=by
 rw[List.map_map];exact List.map_id l
theorem aEn (l:List Str) (sep:Str) (hl:l.length≤140737488355328) (c:(Lib.join l sep).length≤140737488355328):b9 Tryz.prog 58 [dH l,Go.AM.T sep] [] (Go.AM.T (Lib.join l sep)) []:=by
 intro S μ w vals M Y;simp only[dH,aS,aK,aQ,Rep] at Y;obtain⟨v1,vs1,rfl,⟨a,len,cap,rfl,hlen,hcap,hmax,I,J,b,o,hb,q⟩,v2,vs2,rfl,rfl,rfl⟩:=Y;rw[χ] at hlen;have A:∀(e:Ending) (w':World),(e=.returned (.string ⟨(Lib.join l sep).toArray⟩)∧Go.RowKit.Below w.heap.size w w')→∃S' μ' v,e=.returned v∧Inv ⟨w,S,fJ μ (Go.AM.look []),μ,Go.AM.look []⟩ S' μ' (Go.AM.look []) w'∧aK S' μ' (Go.AM.look []) (Go.AM.T (Lib.join l sep)) v:=by
  rintro e w' ⟨rfl,aa⟩;refine⟨S,μ,_,rfl,M.below aa,?_⟩;simp only[aK,aQ,Rep]
 cases l with
 | nil=>
  rw[length_nil] at hlen;subst hlen;refine Calls.mono (Any.strings_Join_none jl jx a cap ⟨⟨sep⟩⟩ w) ?_;rintro e w' ⟨rfl,rfl⟩;exact A _ _ ⟨rfl,Go.RowKit.Below.refl _ _⟩
 | cons x r=>
  have hl0:0<len:=by rw[hlen,τ];omega
  cases a with
  | none=>have:=(I rfl).1;omega
  | some O=>
   obtain⟨h1,h2⟩:=hb O rfl;have h3:=J O rfl (by omega);obtain⟨U,ao,asp⟩:=O;dsimp only at h1 h2 h3;subst h1 h2 h3;have B:∀(j:Nat) y,((x::r).map fun s=>(⟨⟨s⟩⟩:ByteArray))[j]?=some y→w.cell? ⟨U,ao+j,none⟩=some (.string y):=fun j y c=>by
    rw[Ce] at c;cases hx:(x::r)[j]? with
    | none=>rw[hx] at c;cases c
    | some s=>
     rw[hx] at c;injection c with c;subst c;obtain⟨_,vs,E,hc⟩:=q.get j (bD s) (bG bD hx);simp only[bD,bR,Rep] at E;obtain⟨v,vs',rfl,rfl,rfl⟩:=E;have:=M.holds.cell (hc 0 _ rfl);rwa [mul_one,Cb] at this
   have hbk:U<w.heap.size:=by
    obtain⟨_,vs,E,hc⟩:=q.get 0 (bD x) rfl;simp only[bD,bR,Rep] at E;obtain⟨v,vs',rfl,rfl,rfl⟩:=E;obtain⟨_,_,_,g,_⟩:=M.holds.1 _ _ _ (hc 0 _ rfl);exact bQ g
   have:=Any.strings_Join jl jx U ao cap ((x::r).map fun s=>(⟨⟨s⟩⟩:ByteArray)) ⟨⟨sep⟩⟩ w B hbk (by rw[χ];exact hl) (by rw[χ];omega) (by rw[sW];exact c);rw[sW,χ] at this;rw[hlen];exact Calls.mono this fun e w' h=>A e w' h
end Go.Proofs.YtpmheldmadendaaGreatDoor
namespace Go.Proofs.YtpmheldmadendaaGreatDoor
open Go Go.AM
set_option maxRecDepth 100000
set_option maxHeartbeats 4000000
theorem aJz {a k:Int}(ha:0≤a) (c:0<k):0≤a.tmod k∧a.tmod k<k:=by
 rw[Int.tmod_eq_emod_of_nonneg ha];exact⟨Int.emod_nonneg _ (by omega),Int.emod_lt_of_pos _ c⟩
def arV (n k:Int):Int:=if n<0 then -((n+1).tmod k) else n%k
theorem aPi {n k:Int}(c:0<k):0≤arV n k∧arV n k<k:=by
 unfold arV;split
 ·have h1:=aJz (a:= -(n+1)) (k:=k) (by omega) c;rw[Int.neg_tmod] at h1;exact h1
 ·exact⟨Int.emod_nonneg _ (by omega),Int.emod_lt_of_pos _ c⟩
def arN (n:Int) (k:Nat):Nat:=(arV n k).toNat
theorem aPj {n:Int}{k:Nat}(c:0<k):arV n k=(arN n k:Nat)∧arN n k<k:=by
 obtain⟨h1,h2⟩:=aPi (n:=n) (k:=(k:Int)) (by omega);unfold arN;omega
theorem uL (n k:Int) (w:World) (hn: -9223372036854775808≤n∧n≤9223372036854775807) (q:0<k) (c:k≤9223372036854775807):Calls Tryz.prog 12 #[.int .i64 n,.int .i64 k] w fun e w'=>e=.returned (.int .i64 (arV n k))∧w=w':=by
 go_enter Tryz.func12,Tryz.ntmps12
 go_wp2
 all_goals go_ret
 ·rename_i h;exact⟨by rw[arV,ξ h];rfl,rfl⟩
 ·rename_i h;exact⟨by rw[arV,η (by omega)];rfl,rfl⟩
def aPl (r:ByteArray) (w:World) (e:Ending) (w':World):Prop:=e=.returned (.string r)∧Go.RowKit.Below w.heap.size w w'
theorem u5 (w:World) (e:TypeId) (s:ByteArray) (j:Nat) (c:j<s.size):(Lib.bytesWorld w e s).frozen? ⟨w.heap.size,j,none⟩=false:=by
 unfold World.frozen?;rw[Lib.bytesWorld_at_new];have h:s.size≤(Lib.bytesCells w e s).size:=by
  unfold Lib.bytesCells;rw[Array.size_append,Array.size_map];exact Nat.le_add_right _ _
 show(decide ((Lib.bytesCells w e s).size≤j)&&decide (j<(Lib.bytesCells w e s).size+1))=false;rw[ψ (by omega),B8]
theorem oE (w:World) (e:TypeId) (s:ByteArray):Go.RowKit.Below w.heap.size w (Lib.bytesWorld w e s):=⟨rfl,rfl,rfl,by rw[Lib.bytesWorld_size];omega,fun k c=>Lib.bytesWorld_at_old w e s k c⟩
theorem aB1 {w W:World}(h:Go.RowKit.Below w.heap.size w W) (v:Nat) (x:Value):Go.RowKit.Below w.heap.size w (W.setCell ⟨w.heap.size,v,none⟩ x):=
 ⟨h.os,h.tape,h.output,by show _≤(W.heap.modify _ _).size;rw[Array.size_modify];exact h.size,fun k c=>by
  show(W.heap.modify w.heap.size _)[k]?=_;rw[Array.getElem?_modify,η (by omega)]
  exact h.block k c⟩
theorem aD6 (c:List Int):∃r,∀(W:World) (b cap:Nat),(∀(j:Nat) x,c[j]?=some x→W.cell? ⟨b,0+j,none⟩=some (.int .u8 x))→(convert 100 9 (.slice (some ⟨b,0,none⟩) c.length cap)).run Tryz.prog W=.ok (.string r) W:=by
 refine⟨c.foldl (fun r n=>r.push (UInt8.ofNat n.toNat)) ByteArray.empty,fun W b cap hc=>?_⟩;have hl:(loadCells ⟨b,0,none⟩ c.length).run Tryz.prog W=.ok (c.map (Value.int .u8)).toArray W:=by
  have:=run_loadCells_list (P:=Tryz.prog) W ⟨b,0,none⟩ (c.map (Value.int .u8)) (fun j v q=>by
   rw[Ce] at q;cases hx:c[j]? with
   | none=>rw[hx] at q;cases q
   | some x=>
    rw[hx] at q;injection q with q;subst q;have hx:=hc j x hx;rw[A5] at hx;by_cases h0:j=0
    ·subst h0;simpa [Addr.add] using hx
    ·simpa [Addr.add,h0] using hx)
  simpa using this
 have h:=run_convert_bytes_string (P:=Tryz.prog) W 100 9 5 (some ⟨b,0,none⟩) c.length cap (by kernel_rfl) (by kernel_rfl) (by kernel_rfl);rw[run_bytesToString W _ _ _ c hl] at h;exact h
def aPr (s:ByteArray) (v:Nat) (c:Nat):List Int:=(List.range s.size).map fun j=>if j=v then(c:Int) else((s.data.toList.getD j 0).toNat:Int)
theorem aGc (s:ByteArray) (v c:Nat):(aPr s v c).length=s.size:=by unfold aPr;rw[χ,length_range]
theorem s5 (s:ByteArray) (at':Int) (c:Nat) (hn: -9223372036854775808≤at'∧at'≤9223372036854775807) (hs:s.size≤1000000):∃r,∀w,Calls Tryz.prog 18 #[.string s,.int .i64 at',.int .u8 (c:Int)] w (aPl r w):=by
 by_cases hz:s.size=0
 ·refine⟨s,fun w=>?_⟩;have y:=oE w 5 s
  go_enter Tryz.func18,Tryz.ntmps18
  go_wp2
  rw[Lib.run_convert_string_bytes w 9 100 5 s (u:=.string) (by kernel_rfl) (by kernel_rfl) (by kernel_rfl)];simp only[Result.andThen];rw[Oper.upon_value];generalize Lib.bytesWorld w 5 s=W at *
  go_wp2
  all_goals first
   | (go_ret;exact⟨rfl,y⟩)
   | (exfalso;simp_all;done)
 ·obtain⟨M,B⟩:=aPj (n:=at') (k:=s.size) (by omega);obtain⟨r,O⟩:=aD6 (aPr s (arN at' s.size) c);refine⟨r,fun w=>?_⟩;have y:=oE w 5 s;have aa:=u5 w 5 s _ B;have E:=Lib.bytesWorld_cell w 5 s;have U:=E _ B
  go_enter Tryz.func18,Tryz.ntmps18
  go_wp2
  rw[Lib.run_convert_string_bytes w 9 100 5 s (u:=.string) (by kernel_rfl) (by kernel_rfl) (by kernel_rfl)];simp only[Result.andThen];rw[Oper.upon_value];generalize Lib.bytesWorld w 5 s=W at *
  have A:=O (W.setCell ⟨w.heap.size,arN at' s.size,none⟩ (.int .u8 (c:Int))) w.heap.size (grownCap w s.size 0 5) (fun j x q=>by
   unfold aPr at q;rw[Ce] at q;cases A:(List.range s.size)[j]? with
   | none=>rw[A] at q;cases q
   | some k=>
    rw[A] at q;injection q with q;obtain⟨I,J⟩:=Ad.1 A;rw[List.getElem_range] at J;rw[length_range] at I;subst J;rw[A5];dsimp only at q;by_cases he:j=arN at' s.size
    ·rw[ξ he] at q;rw[←q,he];exact World.cell?_setCell_same' _ _ _ (by rw[U];rfl)
    ·rw[η he] at q;rw[←q,World.cell?_setCell_other (w:=W) (a:=⟨w.heap.size,arN at' s.size,none⟩) (b:=⟨w.heap.size,j,none⟩) (h:=by intro e;injection e with _ e _;exact he e.symm)]
     exact E j I)
  rw[aGc] at A;have Y:0<(s.size:Int):=by omega
  go_wp2_with (go_at_call 12;(with_reducible refine(uL at' s.size _ hn Y (by omega)).mono ?_);rintro e w' ⟨rfl,rfl⟩;rw[M])
  all_goals first
   | (exfalso;simp_all;done)
   | (go_ret;exact⟨rfl,aB1 y _ _⟩)
theorem aHi (s:Str) (at':Int) (c:UInt8) (hn:i64 at') (hs:s.length≤1000000):∃r:Str,b9 Tryz.prog 18 [Go.AM.T s,I .i64 at',I .u8 c.toNat] [] (Go.AM.T r) []:=by
 obtain⟨r,y⟩:=s5 ⟨⟨s⟩⟩ at' c.toNat hn hs;refine⟨r.data.toList,?_⟩;intro S μ w vals A q;simp only[aS,aK,aQ,Rep] at q;obtain⟨v1,B,rfl,rfl,v2,E,rfl,rfl,v3,J,rfl,rfl,rfl⟩:=q;refine Calls.mono (y w) ?_;rintro e w' ⟨rfl,hb⟩;refine⟨S,μ,_,rfl,A.below hb,?_⟩;simp only[aK,aQ,Rep]
inductive PT:Ty→Prop where
 | leaf (f:Int) (s:Str) (h:f=0∨f=2∨f=3):PT (.mk f 0 s [])
 | app {a b:Ty} (ha:PT a) (hb:PT b):PT (kC a b)
def fnP:Ty→Option (Ty×Ty)
 | .mk f _ _ [.mk g _ _ [.mk h _ s _,a],b]=>if f=4∧g=4∧h=3∧s=arrow then some (a,b) else none
 | _=>none
def brk (b:Bool) (s:Str):Str:=if b=true then [40]++s++[41] else s
def arrS:Str:=[32,45,62,32]
def nP:Nat→Int→Ty→Str
 | 0,_,_=>[]
 | k+1,how,t=>match fnP t with
  | some (a,b)=>brk (!decide (how=0)) (nP k 1 a++arrS++nP k 0 b)
  | none=>if t.form=3∧t.name=arrow then brk true t.name
   else match t with
    | .mk f _ s [a,b]=>if f=4 then brk (decide (how=3)) (nP k 2 a++[32]++nP k 3 b) else s
    | .mk _ _ s _=>s
mutual
def tyW:Ty→Nat
 | .mk _ _ s a=>s.length+8+aJy a
def aJy:List Ty→Nat
 | []=>0
 | t::l=>tyW t+aJy l
end
theorem lQ (a b:Ty):tyW (kC a b)=8+(tyW a+tyW b):=by unfold kC;rw[tyW,aJy,aJy,aJy];simp
theorem dB (b:Bool) (s:Str):(brk b s).length≤s.length+2:=by
 unfold brk;split
 ·rw[ζ,ζ,τ,τ,length_nil];omega
 ·omega
theorem PT.cases {t:Ty}(h:PT t):(∃a b,t=aBt a b∧PT a∧PT b)∨(fnP t=none∧((∃f s,t=.mk f 0 s []∧(f=0∨f=2∨f=3))∨∃a b,t=kC a b∧PT a∧PT b)):=by
 cases h with
 | leaf f s q=>exact .inr ⟨rfl,.inl ⟨f,s,rfl,q⟩⟩
 | @app a b ha hb=>
  cases ha with
  | leaf g s c=>exact .inr ⟨rfl,.inr ⟨_,_,rfl,.leaf g s c,hb⟩⟩
  | @app x y hx hy=>
   cases hx with
   | leaf g s c=>
    by_cases hc:g=3∧s=arrow
    ·obtain⟨rfl,rfl⟩:=hc;exact .inl ⟨y,b,rfl,hy,hb⟩
    ·refine .inr ⟨?_,.inr ⟨_,_,rfl,.app (.leaf g s c) hy,hb⟩⟩;show(if(4:Int)=4∧(4:Int)=4∧g=3∧s=arrow then some (y,b) else none)=none;rw[η (fun k=>hc ⟨k.2.2.1,k.2.2.2⟩)]
   | app hu r=>exact .inr ⟨rfl,.inr ⟨_,_,rfl,.app (.app hu r) hy,hb⟩⟩
theorem aCu (k:Nat) (c:Int) (a b:Ty):nP (k+1) c (aBt a b)=brk (!decide (c=0)) (nP k 1 a++arrS++nP k 0 b):=rfl
theorem xH (k:Nat) (c f:Int) (s:Str) (q:f=0∨f=2∨f=3):nP (k+1) c (.mk f 0 s [])=brk (decide (f=3)&&decide (s=arrow)) s:=by
 show(if f=3∧s=arrow then brk true s else s)=_;by_cases hc:f=3∧s=arrow
 ·rw[ξ hc,φ hc.1,φ hc.2];rfl
 ·rw[η hc];have:(decide (f=3)&&decide (s=arrow))=false:=by
   rw[←Bool.not_eq_true,Aa];exact fun k=>hc ⟨κ k.1,κ k.2⟩
  rw[this];rcases q with rfl | rfl | rfl<;>rfl
theorem aCv (k:Nat) (c:Int) {a b:Ty}(h:fnP (kC a b)=none):nP (k+1) c (kC a b)=brk (decide (c=3)) (nP k 2 a++[32]++nP k 3 b):=by
 rw[nP.eq_def];dsimp only;rw[h];rfl
theorem gU:∀(k:Nat) (c:Int) (t:Ty),PT t→(nP k c t).length≤tyW t
 | 0,_,_,_=>Ae _
 | k+1,c,t,h=>by
  rcases h.cases with⟨a,b,rfl,ha,hb⟩ | ⟨hn,⟨f,s,rfl,q⟩ | ⟨a,b,rfl,ha,hb⟩⟩
  ·rw[aCu];have h1:=dB (!decide (c=0)) (nP k 1 a++arrS++nP k 0 b);have h2:=gU k 1 a ha;have r:=gU k 0 b hb;unfold aBt;rw[lQ,lQ];rw[ζ,ζ,show arrS.length=4 from rfl] at h1;omega
  ·rw[xH k c f s q,tyW,aJy];have:=dB (decide (f=3)&&decide (s=arrow)) s;omega
  ·rw[aCv k c hn,lQ];have h1:=dB (decide (c=3)) (nP k 2 a++[32]++nP k 3 b);have h2:=gU k 2 a ha;have r:=gU k 3 b hb;rw[ζ,ζ,τ,length_nil] at h1;omega
theorem aEe (a b:Ty):b9 Tryz.prog 210 [tyV (aBt a b)] [] (.tup [tyV a,tyV b,B true]) []:=by
 refine bM (n:=47) tok Tryz.func210 rfl rfl rfl ?_;exact sg rfl (aA (sgh [(3,.bv false),(6,.row 0 (bT (kC (.mk 3 0 arrow []) a))),(10,.bv false)] rfl (aB rfl nofun (fun _=>aE (sgh [(2,.row 0 (bT (kC (.mk 3 0 arrow []) a))),(5,.row 0 (bT (.mk 3 0 arrow [])))] rfl (aA (sgh [(3,.bv false),(7,.bv false)] rfl (aB rfl (fun hb=>absurd hb (by decide)) (fun _=>aE (sgh [(2,.row 0 (bT (kC (.mk 3 0 arrow []) a))),(5,.row 1 (bT a)),(9,.row 1 (bT b))] rfl (aD ⟨.inr rfl,⟨_,_,.cell rfl (tg rfl) rfl rfl rfl (.cell rfl (tg rfl) rfl rfl rfl (.tmp rfl .nil)),.cons .refl (.cons .refl (.cons .refl .nil)),rfl⟩,trivial,rfl⟩)))))))))))
theorem zcv {h:bW}:Conv h [] (.pa [.int .i64 0,.int .i64 0,.str [],.nl]) (tyV zTy):=by
 apply Go.AM.Conv.pa
 repeat (first | exact .nil | apply Go.AM.PureL.c .refl | apply Go.AM.PureL.c .nl)
theorem aEd {t:Ty}(h:PT t) (hn:fnP t=none):b9 Tryz.prog 210 [tyV t] [] (.tup [tyV zTy,tyV zTy,B false]) []:=by
 refine bM (n:=47) tok Tryz.func210 rfl rfl rfl ?_;refine sg rfl ?_;cases h with
 | leaf f s A=>
  have d:(!decide (f=4))=true:=by rw[ψ (by omega)];rfl
  exact aA (sgh [(3,.bv true),(10,.bv true)] rfl (aB rfl (fun _=>sg rfl (aD ⟨.inr rfl,⟨_,_,.cell rfl (tg rfl) rfl rfl rfl (.cell rfl (tg rfl) rfl rfl rfl (.tmp rfl .nil)),.cons zcv (.cons zcv (.cons .refl .nil)),rfl⟩,trivial,rfl⟩)) (fun hb=>Bool.noConfusion hb)))
 | @app a b ha hb=>
  cases ha with
  | leaf g s q=>
   have d:(!decide (g=4))=true:=by rw[ψ (by omega)];rfl
   exact aA (sgh [(3,.bv false),(6,.row 0 (bT (.mk g 0 s []))),(10,.bv false)] rfl (aB rfl (fun _=>sg rfl (aD ⟨.inr rfl,⟨_,_,.cell rfl (tg rfl) rfl rfl rfl (.cell rfl (tg rfl) rfl rfl rfl (.tmp rfl .nil)),.cons zcv (.cons zcv (.cons .refl .nil)),rfl⟩,trivial,rfl⟩)) (fun hb=>Bool.noConfusion (hb.symm.trans d))))
  | @app x y hx hy=>
   refine aA (sgh [(3,.bv false),(6,.row 0 (bT (kC x y))),(10,.bv false)] rfl (aB rfl nofun (fun _=>aE (sgh [(2,.row 0 (bT (kC x y))),(5,.row 0 (bT x))] rfl ?_))));by_cases c:x.form=3
   ·have d3:(!decide (x.form=3))=false:=by rw[φ c];rfl
    have hs:¬x.name=arrow:=fun e=>by
     cases hx with
     | leaf g s q=>
      have:fnP (kC (kC (.mk g 0 s []) y) b)=some (y,b):=by
       show(if(4:Int)=4∧(4:Int)=4∧g=3∧s=arrow then some (y,b) else none)=_;rw[ξ ⟨rfl,rfl,c,e⟩]
      rw[this] at hn;cases hn
     | app=>exact absurd (show(4:Int)=3 from c) (by decide)
    have r:(!decide (x.name=arrow))=true:=by rw[ψ hs];rfl
    exact aA (sgh [(3,.bv false),(7,.bv false)] rfl (aB rfl (fun _=>sg rfl (aD ⟨.inr rfl,⟨_,_,.cell rfl (tg rfl) rfl rfl rfl (.cell rfl (tg rfl) rfl rfl rfl (.tmp rfl .nil)),.cons zcv (.cons zcv (.cons .refl .nil)),rfl⟩,trivial,rfl⟩)) (fun hb=>Bool.noConfusion (hb.symm.trans r))))
   ·have d3:(!decide (x.form=3))=true:=by rw[ψ c];rfl
    exact aA (sgh [(3,.bv true),(7,.bv true)] rfl (aB rfl (fun _=>sg rfl (aD ⟨.inr rfl,⟨_,_,.cell rfl (tg rfl) rfl rfl rfl (.cell rfl (tg rfl) rfl rfl rfl (.tmp rfl .nil)),.cons zcv (.cons zcv (.cons .refl .nil)),rfl⟩,trivial,rfl⟩)) (fun hb=>Bool.noConfusion hb)))
theorem aA0 {b:Bool}(h:b=false):b9 Tryz.prog 211 [B b] [] (I .i64 0) []:=by
 subst h;refine bM (n:=4) tok Tryz.func211 rfl rfl rfl ?_;exact sg rfl (aA (sg rfl (aB rfl nofun (fun _=>aE (sg rfl (aD rtT))))))
theorem PT.form {t:Ty}(h:PT t):t.form=0∨t.form=2∨t.form=3∨t.form=4:=by
 cases h with
 | leaf f s c=>rcases c with h | h | h<;>simp[Ty.form,h]
 | app=>exact .inr (.inr (.inr rfl))
def aQg:Code→Code | .seq _ b=>b | c=>c
theorem lA:∀(k:Nat) (c:Int) (t:Ty),PT t→tn t≤k→tyW t≤1000000000→b9 Tryz.prog 171 [tyV t,I .i64 c] [] (Go.AM.T (nP k c t)) []
 | 0,_,t,_,h,_=>by have:=oY t;omega
 | k+1,c,t,J,r,y=>by
  have hM:3000000000≤maxLen:=by decide
  have q:∀(s:Str) (b:Bool),s.length≤2000000000→AWp none Tryz.prog 89 (keys ([]:List (Nat×AObj))) (aQg (aQg (aQg (Tryz.f171.body.getD .skip)))) (mk [(5,Go.AM.T s),(6,B b)] []) (fun ex st=>(ex=.normal∨ex=.ret)∧Fin tr.flat Tryz.f171 st [] (Go.AM.T (brk b s)) []):=fun s b hs=>by
   refine aA (sg rfl ?_);cases b with
   | true=>
    exact aB rfl (fun _=>sg rfl (aD rtT)) nofun
   | false=>
    exact aB rfl nofun (fun _=>aE (sg rfl (aD rtT)))
  refine bM (n:=89) tok Tryz.func171 rfl rfl rfl ?_;refine sg rfl (sg rfl ?_);rcases J.cases with⟨a,b,rfl,ha,hb⟩ | ⟨hn,M⟩
  ·have hp:=aEe a b;have O:=gU k 1 a ha;have U:=gU k 0 b hb;unfold aBt at r y;rw[lQ,lQ] at y;unfold kC at r;rw[tn,tns,tns,tns,tn,tns,tns,tns] at r;have A:=lA k 1 a ha (by omega) (by omega);have E:=lA k 0 b hb (by omega) (by omega);have Y:=aA0 (show decide (b.form=5)=false from ψ (by have:=hb.form;omega));rw[aCu];refine aA (AWp.cut (mk [(5,Go.AM.T (nP k 1 a++arrS++nP k 0 b)),(6,B (!decide (c=0)))] []) ?_ ?_)
   ·refine sk 1 rfl (kc hp ?_);refine kz 9 rfl (aF (sg rfl (aB rfl (fun _=>?_) nofun)));have h4:arrS.length=4:=rfl;refine aC mixed (ak 1 [] rfl (kc A ?_));refine ak 5 [] rfl (kc Y ?_);refine ak 1 [] rfl (kc E ?_);exact kz 5 rfl sl
   ·exact q _ _ (by rw[ζ,ζ,show arrS.length=4 from rfl];omega)
  ·have hp:=aEd J hn;rcases M with⟨f,s,rfl,hf⟩ | ⟨a,b,rfl,ha,hb⟩
   ·have d1:decide (f=1)=false:=ψ (by omega);have d5:decide (f=5)=false:=ψ (by omega);have d4:decide (f=4)=false:=ψ (by omega);rw[tyW,aJy] at y;rw[xH k c f s hf];refine aA (AWp.cut (mk [(5,Go.AM.T s),(6,B (decide (f=3)&&decide (s=arrow)))] []) ?_ ?_)
    ·refine sk 1 rfl (kc hp ?_);refine kz 9 rfl (aF (sg rfl (aB rfl nofun (fun _=>sg rfl (aB rfl (fun hb=>absurd (hb.symm.trans d1) Bool.noConfusion) (fun _=>?_))))));by_cases h3:f=3
     ·have d3:decide (f=3)=true:=φ h3;rw[d3,Cq];refine sgh [(3,.bv true),(7,.bv true)] rfl (aB rfl (fun hb=>?_) (fun hb=>?_))
      ·refine ag [] rfl ?_;rw[show decide (s=arrow)=true from hb];exact sl
      ·refine sg rfl (aB rfl (fun hb=>absurd (hb.symm.trans d5) Bool.noConfusion) (fun _=>sg rfl (aB rfl (fun hb=>absurd (hb.symm.trans d4) Bool.noConfusion) (fun _=>aE ?_))));rw[show decide (s=arrow)=false from hb];exact sl
     ·have d3:decide (f=3)=false:=ψ h3;rw[d3,B8];exact sgh [(3,.bv false),(7,.bv false)] rfl (aB rfl nofun (fun _=>sg rfl (aB rfl (fun hb=>absurd (hb.symm.trans d5) Bool.noConfusion) (fun _=>sg rfl (aB rfl (fun hb=>absurd (hb.symm.trans d4) Bool.noConfusion) (fun _=>aE sl))))))
    ·exact q _ _ (by omega)
   ·have O:=gU k 2 a ha;have U:=gU k 3 b hb;rw[lQ] at y;unfold kC at r;rw[tn,tns,tns,tns] at r;have A:=lA k 2 a ha (by omega) (by omega);have E:=lA k 3 b hb (by omega) (by omega);rw[aCv k c hn];refine aA (AWp.cut (mk [(5,Go.AM.T (nP k 2 a++[32]++nP k 3 b)),(6,B (decide (c=3)))] []) ?_ ?_)
    ·refine sk 1 rfl (kc hp ?_);refine kz 9 rfl (aF (sg rfl (aB rfl nofun (fun _=>sg rfl (aB rfl nofun (fun _=>sgh [(3,.bv false),(7,.bv false)] rfl (aB rfl nofun (fun _=>sg rfl (aB rfl nofun (fun _=>sg rfl (aB rfl (fun _=>aC mixed (ak 4 [(2,.row 0 (bT a))] rfl (kc A ?_))) nofun)))))))))));refine ak 5 [(8,.row 1 (bT b))] rfl (kc E ?_);exact kz 5 rfl sl
    ·exact q _ _ (by rw[ζ,ζ,τ,length_nil];omega)
def prT (t:Ty):Str:=nP (tn t) 0 t
theorem yP (t:Ty) (c:PT t) (q:tyW t≤1000000000):b9 Tryz.prog 124 [tyV t] [] (Go.AM.T (prT t)) []:=by
 have h:=lA (tn t) 0 t c (le_refl _) q;refine bM (n:=5) tok Tryz.func124 rfl rfl rfl ?_;refine sg rfl (sk 1 rfl (kc h ?_));exact kz 1 rfl (aD rtT)
end Go.Proofs.YtpmheldmadendaaGreatDoor
namespace Go.Proofs.YtpmheldmadendaaGreatDoor
open Go Go.AM Go.Shelf
set_option maxRecDepth 100000
def ir:Ren:=⟨fun f=>if f=129 then 234 else if f=171 then 68 else if f=243 then 123 else if f=246 then 170 else if f=283 then 206 else if f=284 then 207 else if f=285 then 208 else if f=286 then 209 else if f=317 then 233 else if f=318 then 235 else if f=319 then 236 else if f=320 then 237 else if f=337 then 246 else if f=338 then 247 else f,fun t=>if t=0 then 0 else if t=2 then 2 else if t=3 then 3 else if t=4 then 4 else if t=5 then 5 else if t=9 then 9 else if t=20 then 20 else if t=37 then 100 else if t=46 then 264 else if t=51 then 261 else if t=53 then 239 else if t=171 then 238 else if t=173 then 242 else if t=212 then 260 else if t=213 then 262 else if t=232 then 271 else if t=233 then 272 else t,fun g=>if g=17 then 1 else if g=18 then 2 else if g=19 then 3 else g⟩
theorem il:LaysM.n171 Tryz.prog ir where
 mixed:=mixed
 f129:=by kernel_rfl
 f171:=by kernel_rfl
 f243:=by kernel_rfl
 f246:=by kernel_rfl
 f283:=by kernel_rfl
 f284:=by kernel_rfl
 f285:=by kernel_rfl
 f286:=by kernel_rfl
 f317:=by kernel_rfl
 f318:=by kernel_rfl
 f319:=by kernel_rfl
 f320:=by kernel_rfl
 f337:=by kernel_rfl
 f338:=by kernel_rfl
 t0:=by kernel_rfl
 a0:=fun w=>by kernel_rfl
 z0:=fun w=>by kernel_rfl
 v0:=fun w=>by kernel_rfl
 t2:=by kernel_rfl
 a2:=fun w=>by kernel_rfl
 z2:=fun w=>by kernel_rfl
 v2:=fun w=>by kernel_rfl
 t3:=by kernel_rfl
 a3:=fun w=>by kernel_rfl
 z3:=fun w=>by kernel_rfl
 v3:=fun w=>by kernel_rfl
 t4:=by kernel_rfl
 a4:=fun w=>by kernel_rfl
 z4:=fun w=>by kernel_rfl
 v4:=fun w=>by kernel_rfl
 t5:=by kernel_rfl
 a5:=fun w=>by kernel_rfl
 z5:=fun w=>by kernel_rfl
 v5:=fun w=>by kernel_rfl
 t9:=by kernel_rfl
 a9:=fun w=>by kernel_rfl
 z9:=fun w=>by kernel_rfl
 v9:=fun w=>by kernel_rfl
 t20:=by kernel_rfl
 a20:=fun w=>by kernel_rfl
 z20:=fun w=>by kernel_rfl
 v20:=fun w=>by kernel_rfl
 t37:=by kernel_rfl
 a37:=fun w=>by kernel_rfl
 z37:=fun w=>by kernel_rfl
 v37:=fun w=>by kernel_rfl
 t46:=by kernel_rfl
 a46:=fun w=>by kernel_rfl
 z46:=fun w=>by kernel_rfl
 v46:=fun w=>by kernel_rfl
 t51:=by kernel_rfl
 a51:=fun w=>by kernel_rfl
 z51:=fun w=>by kernel_rfl
 v51:=fun w=>by kernel_rfl
 t53:=by kernel_rfl
 a53:=fun w=>by kernel_rfl
 z53:=fun w=>by kernel_rfl
 v53:=fun w=>by kernel_rfl
 t171:=by kernel_rfl
 a171:=fun w=>by kernel_rfl
 z171:=fun w=>by kernel_rfl
 v171:=fun w=>by kernel_rfl
 t173:=by kernel_rfl
 a173:=fun w=>by kernel_rfl
 z173:=fun w=>by kernel_rfl
 v173:=fun w=>by kernel_rfl
 t212:=by kernel_rfl
 a212:=fun w=>by kernel_rfl
 z212:=fun w=>by kernel_rfl
 v212:=fun w=>by kernel_rfl
 t213:=by kernel_rfl
 a213:=fun w=>by kernel_rfl
 z213:=fun w=>by kernel_rfl
 t232:=by kernel_rfl
 a232:=fun w=>by kernel_rfl
 z232:=fun w=>by kernel_rfl
 v232:=fun w=>by kernel_rfl
 t233:=by kernel_rfl
 a233:=fun w=>by kernel_rfl
 z233:=fun w=>by kernel_rfl
 v233:=fun w=>by kernel_rfl
 g17:=by kernel_rfl
 g18:=by kernel_rfl
 g19:=by kernel_rfl
 i0:=by kernel_rfl
 i2:=by kernel_rfl
 i3:=by kernel_rfl
 i4:=by kernel_rfl
 i5:=by kernel_rfl
 i9:=by kernel_rfl
 i20:=by kernel_rfl
 i37:=by kernel_rfl
 i46:=by kernel_rfl
 i51:=by kernel_rfl
 i53:=by kernel_rfl
 i171:=by kernel_rfl
 i173:=by kernel_rfl
 i212:=by kernel_rfl
 i232:=by kernel_rfl
 i233:=by kernel_rfl
 m17:=by kernel_rfl
 m18:=by kernel_rfl
 m19:=by kernel_rfl
end Go.Proofs.YtpmheldmadendaaGreatDoor
namespace Go.AM
open Go
theorem Inv.grown {G:Ctx}{S:Sto}{μ:Mu}{H:bW}{w:World}(h:Inv G S μ H w) (k:Nat) (os:Array Obj):Inv G S μ H (Sort.grow (w.drewN k) os):=by
 have hold:∀b:Nat,b<w.heap.size→(Sort.grow (w.drewN k) os).heap[b]?=w.heap[b]?:=fun b hb=>by
  show(w.heap++os)[b]?=w.heap[b]?;exact Br hb
 have hsz:w.heap.size≤(Sort.grow (w.drewN k) os).heap.size:=by
  show w.heap.size≤(w.heap++os).size;rw[Array.size_append];omega
 obtain⟨h1,h2,q,r,y,A,B,E,I⟩:=h;refine⟨⟨fun b o v e=>?_,fun b mk e=>?_⟩,fun id o e=>(h2 id o e).evolve (Evolve.refl _ _ _) rfl fun b c hm=>⟨hold b ((h2 id o e).lt hm),fun _=>rfl,rfl⟩,q,r,?_,A,B,E,I⟩
 ·obtain⟨vs,t,J,g1,g2⟩:=h1.1 b o v e;exact⟨vs,t,J,by rw[hold b (bQ g1)];exact g1,g2⟩
 ·have g:=h1.2 b mk e;obtain⟨_,g2⟩:=MK.holds_some g;rw[hold b (bQ g2)];exact g
 ·obtain⟨f1,f2,f3,f4,f5,f6⟩:=y;exact⟨f1,f2,f3,le_trans f4 hsz,fun b hb M=>by rw[hold b (Ay hb f4)];exact f5 b hb M,f6⟩
end Go.AM
namespace Go.Proofs.YtpmheldmadendaaGreatDoor
open Go Go.AM
set_option maxRecDepth 20000
theorem aLg (k:Nat) (h:k<1000000000000000000):b9 Tryz.prog 68 [I .i64 (k:Int)] [] (Go.AM.T (Lib.decDigits k)) []:=by
 intro S μ w vals q r;simp only [aS, aK, aQ, Rep] at r;obtain ⟨v1, y, rfl, rfl, rfl⟩ := r;have c : Lib.TabIs Tryz.prog w "internal/strconv.uint64pow10" .u64 Lib.pow10Tab := by
  obtain ⟨h1, t, A, h2⟩ := q.frame.tabAt _ rfl;unfold Lib.TabIs World.var?;rw [show Tryz.prog.globalNamed "internal/strconv.uint64pow10" = aGa by kernel_rfl];simp only [aGa, B6, h2];rfl
 refine Calls.mono (Any.strconv_Itoa il (k:Int) (by omega) (by omega) w c) ?_;rintro e w' ⟨rfl,j,os,rfl⟩;refine⟨S,μ,_,rfl,q.grown j os,?_⟩;rw[Lib.itoa_nonneg];simp only[aK,aQ,Rep]
end Go.Proofs.YtpmheldmadendaaGreatDoor
namespace Go.Proofs.YtpmheldmadendaaGreatDoor
open Go Go.AM
set_option maxRecDepth 20000
theorem aK0 (n:Nat) (h:n≤600000000000):(Lib.decDigits n).length≤20:=by
 rw[Lib.decDigits_length];by_cases h0:n=0
 ·subst h0;decide+kernel
 ·have:=Lib.numDigits_eq n (by omega) (by omega);split at this<;>omega
set_option maxHeartbeats 4000000
theorem dU (s:Str) (b:Bool) (h:s.length≤2000000000):b9 Tryz.prog 69 [Go.AM.T s,B b] [] (Go.AM.T (brk b s)) []:=by
 have c:3000000000≤maxLen:=by decide
 refine bM (n:=10) tok Tryz.func69 rfl rfl rfl ?_;refine sg rfl (aA (sg rfl ?_));cases b with
 | true=>
  exact aB rfl (fun _=>sg rfl (aD rtT)) nofun
 | false=>
  exact aB rfl nofun (fun _=>aE (sg rfl (aD rtT)))
def s6 (t:Ty):Str:=brk (decide (t.form=4)) (prT t)
def eW (p:Prd):Str:=p.cls++[32]++s6 p.ty
def aJc:Str:=[44,32]
def aRo:Str:=[32,61,62,32]
def aOe (l:List Prd):Str:=if l=[] then [] else brk (decide (1<l.length)) (Lib.join (l.map eW) aJc)++aRo
def s8 (s:Sch):Str:=aOe s.preds++prT s.ty
def aFr (p:Prd):Nat:=p.cls.length+8+tyW p.ty
def aAd (l:List Prd):Nat:=(l.map aFr).sum
def aMb (s:Sch):Nat:=aAd s.preds+8+tyW s.ty
structure SchP (s:Sch):Prop where
 t:PT s.ty
 p:∀p∈s.preds,PT p.ty
 l:s.preds.length≤100000
theorem xI {t:Ty}(h:PT t):(prT t).length≤tyW t:=gU _ _ t h
theorem x4 {t:Ty}(h:PT t):(s6 t).length≤tyW t+2:=by
 have h1:=dB (decide (t.form=4)) (prT t);have h2:=xI h;unfold s6;omega
theorem pred_le {p:Prd}(h:PT p.ty):(eW p).length≤aFr p:=by
 have h1:=x4 h;unfold eW aFr;rw[ζ,ζ,τ,length_nil];omega
theorem join_le (sep:Str):∀l:List Str,(Lib.join l sep).length≤(l.map (fun s:Str=>s.length)).sum+sep.length*l.length
 | []=>Ae _
 | x::r=>by
  have e:Lib.lens (x::r)=((x::r).map (fun s:Str=>s.length)).sum:=rfl;have c:(Lib.join (x::r) sep).length=sep.length*r.length+Lib.lens (x::r):=Lib.join_length x r sep;rw[c,e,τ,Nat.mul_add];omega
theorem aBx {α:Type}(f g:α→Nat):∀l:List α,(∀x∈l,f x≤g x)→(l.map f).sum≤(l.map g).sum
 | [],_=>le_refl _
 | x::l,h=>by
  rw[As,As,Bz,Bz];have:=h x Bn;have:=aBx f g l fun y hy=>h y (A9 _ hy)
  omega
theorem aC6 {α:Type}(g:α→Nat):∀{l:List α}{x:α},x∈l→g x≤(l.map g).sum
 | y::l,x,h=>by
  rw[As,Bz];rcases Ap.1 h with rfl | h
  ·omega
  ·have:=aC6 g h;omega
theorem aDd {α:Type}(g:α→Nat) (k:Nat):∀{l:List α},(∀x∈l,k≤g x)→k*l.length≤(l.map g).sum
 | [],_=>le_refl _
 | y::l,h=>by
  rw[As,Bz,τ,Nat.mul_add];have:=h y Bn;have:=aDd g k (l:=l) fun z c=>h z (A9 _ c)
  omega
theorem xY {l:List Prd}(h:∀p∈l,PT p.ty):(Lib.join (l.map eW) aJc).length≤2*aAd l:=by
 have h1:=join_le aJc (l.map eW);rw[List.map_map,χ,show aJc.length=2 from rfl] at h1;have h2:(l.map ((fun s:Str=>s.length)∘eW)).sum≤(l.map aFr).sum:=aBx (fun p=>(eW p).length) aFr l fun p hp=>pred_le (h p hp)
 have c:=aDd aFr 2 (l:=l) fun p _=>by unfold aFr;omega
 unfold aAd;omega
theorem aJb {l:List Prd}(h:∀p∈l,PT p.ty):(aOe l).length≤2*aAd l+6:=by
 have h1:=xY h;have h2:=dB (decide (1<l.length)) (Lib.join (l.map eW) aJc);unfold aOe;split
 ·exact Ae _
 ·rw[ζ,show aRo.length=4 from rfl];omega
theorem x5 {s:Sch}(h:SchP s):(s8 s).length≤2*aMb s:=by
 have h1:=aJb h.p;have h2:=xI h.t;unfold s8 aMb;rw[ζ];omega
theorem aHq {t:Ty}(h:PT t) (c:tyW t≤1000000000):b9 Tryz.prog 110 [tyV t] [] (Go.AM.T (s6 t)) []:=by
 have h1:=xI h;have hp:=yP t h c;have hb:=dU (prT t) (decide (t.form=4)) (by omega);refine bM (n:=9) tok Tryz.func110 rfl rfl rfl ?_;refine sg rfl (sk 1 rfl (kc hp ?_));refine ak 3 [] rfl (kc hb ?_);exact kz 1 rfl (aD rtT)
theorem aAz (l:List Prd) (h:∀p∈l,PT p.ty) (hl:l.length≤100000) (hW:aAd l≤400000000):b9 Tryz.prog 112 [.one (.c (.sl 5 (l.map aT)))] [] (Go.AM.T (aOe l)) []:=by
 have hM:3000000000≤maxLen:=by decide
 have J:(l.map aT).length=l.length:=χ _;refine bM (n:=33) tok Tryz.func112 rfl rfl rfl ?_;refine sg rfl (sg rfl (AWp.sub (Sub.own (t:=3) (id:=500) 9 1 rfl rfl) ?_));refine aA (sg rfl (aF (aM (fun i:Nat=>mk [(3,.one (.hs 500 0 (l.take i).length (l.take i).length)),(6,.one (.c (.sl 5 (l.map aT)))),(7,I .i64 ((l.map aT).length:Nat)),(8,I .i64 (i:Nat))] [(500,.arr 9 1 (((l.take i).map eW).map bD) 0)]) (fun i=>i≤l.length) (fun i=>l.length-i) 0 (Ae _) sl ?_)));intro i hi;have hti:(l.take i).length=i:=by rw[Al];omega
 refine sg rfl (aA (aB rfl (fun hb=>?_) (fun hb=>?_)))
 ·have r:=ltD hb J;obtain⟨p,hp⟩:=aP r;have hp':=bG aT hp;have hm:=Ag hp;have M:aFr p≤aAd l:=aC6 aFr hm;rw[show aFr p=p.cls.length+8+tyW p.ty from rfl] at M;have O:=aHq (h p hm) (by omega);have hsl:=x4 (h p hm);have y:(((l.take i).map eW).map bD).length=(l.take i).length:=by rw[χ,χ]
  have A:l.take (i+1)=l.take i++[p]:=fZ hp;have B:(l.take (i+1)).length=(l.take i).length+1:=by rw[A,ζ];rfl
  have E:(((l.take i).map eW).map bD)++[[.str (p.cls++[32]++s6 p.ty)]]=((l.take (i+1)).map eW).map bD:=by rw[A,Am,Am];rfl
  refine aE (aA (aF (sgh [(0,.row i (aT p))] rfl (aC mixed (ak 6 [] rfl (kc O ?_))))));exact ak 2 [(8,.all)] rfl (kz 2 rfl (agN [] rfl ⟨i+1,r,by dsimp only;omega,sl (he:=⟨Go.AM.hs_ren (by rw[B,←y];rfl) (by rw[B,←y];rfl),rfl,rfl,rfl,trivial⟩) (hh:=⟨⟨_,rfl,.arrS E⟩,trivial⟩)⟩))
 ·have U:=geD hb J hi;subst U;refine aL ?_;rw[Az];have hjl:=xY h;have Y:((l.map eW).map bD).length=l.length:=by rw[χ,χ]
  have hj:=aEn (l.map eW) aJc (by rw[χ];omega) (by omega);have aa:=dU (Lib.join (l.map eW) aJc) (decide ((1:Int)<((((l.map eW).map bD).length:Nat):Int))) (by omega);have hbl:=dB (decide ((1:Int)<((((l.map eW).map bD).length:Nat):Int))) (Lib.join (l.map eW) aJc);refine AWp.sub (Sub.freeze (id:=500) rfl) ?_;refine AWp.sub (st2:=mk [(3,dH (l.map eW))] []) ?_ ?_
  ·refine Sub.trans ?_ (cv 3 ((l.map eW).map bD));exact sl
  refine aA (sg rfl ?_);unfold aOe;by_cases q:l=[]
  ·have d:decide (((((l.map eW).map bD).length:Nat):Int)=0)=true:=φ (by rw[q];rfl);rw[ξ q];exact aB rfl (fun _=>sg rfl (aD rtT)) (fun hb=>Bool.noConfusion (hb.symm.trans d))
  ·have hpos:0<l.length:=length_pos_iff.2 q;have d:decide (((((l.map eW).map bD).length:Nat):Int)=0)=false:=ψ (by omega);have e1:decide (1<l.length)=decide ((1:Int)<((((l.map eW).map bD).length:Nat):Int)):=by
    rw[Y];by_cases h1:1<l.length
    ·rw[φ h1,φ (by omega)]
    ·rw[ψ h1,ψ (by omega)]
   rw[η q,e1];refine aB rfl (fun hb=>Bool.noConfusion (hb.symm.trans d)) (fun _=>aE (sk 1 rfl (kc hj ?_)));refine ak 3 [] rfl (kc aa ?_);exact kz 2 rfl (aD rtT)
theorem pS {s:Sch}(h:SchP s) (c:aMb s≤400000000):b9 Tryz.prog 73 [.pa (kV s)] [] (Go.AM.T (s8 s)) []:=by
 have q:3000000000≤maxLen:=by decide
 unfold aMb at c;have h1:=aAz s.preds h.p h.l (by omega);have h2:=yP s.ty h.t (by omega);have r:=aJb h.p;have y:=xI h.t;refine bM (n:=10) tok Tryz.func73 rfl rfl rfl ?_;refine sg rfl (sk 2 rfl (kc h1 ?_));refine ak 2 [] rfl (kc h2 ?_);exact kz 2 rfl (aD rtT)
def aIc (l:List Str):Str:=if l=[] then [123,32,125] else [123,32]++Lib.join l [32,59,32]++[32,125]
theorem yR (l:List Str) (hl:l.length≤1000000) (A:(Lib.join l [32,59,32]).length≤2000000000):b9 Tryz.prog 72 [dH l] [] (Go.AM.T (aIc l)) []:=by
 unfold aIc;have B:3000000000≤maxLen:=by decide
 have q:(l.map bD).length=l.length:=χ _;have r:=aEn l [32,59,32] (by omega) (by omega);refine bM (n:=10) tok Tryz.func72 rfl rfl rfl ?_;refine sg rfl (aA (sg rfl ?_));rw[q];by_cases c:l=[]
 ·have d:decide ((l.length:Int)=0)=true:=φ (by rw[c];rfl);rw[ξ c];exact aB rfl (fun _=>sg rfl (aD rtT)) (fun hb=>Bool.noConfusion (hb.symm.trans d))
 ·have y:0<l.length:=length_pos_iff.2 c;have d:decide ((l.length:Int)=0)=false:=ψ (by omega);rw[η c];refine aB rfl (fun hb=>Bool.noConfusion (hb.symm.trans d)) (fun _=>aE (sk 1 rfl (kc r ?_)));exact kz 3 rfl (aD rtT)
noncomputable def aMm {α:Type}(a b:α):Bool:= @decide (a=b) (Classical.propDecidable _)
theorem aI8 {α:Type}{a b:α}(h:a=b):aMm a b=true:= @decide_eq_true _ (Classical.propDecidable _) h
theorem aI9 {α:Type}{a b:α}(h:¬a=b):aMm a b=false:= @decide_eq_false _ (Classical.propDecidable _) h
theorem aC0 {α:Type}{a b:α}(h:aMm a b=true):a=b:= @of_decide_eq_true _ (Classical.propDecidable _) h
theorem aC1 {α:Type}{a b:α}(h:aMm a b=false):¬a=b:= @of_decide_eq_false _ (Classical.propDecidable _) h
theorem aG4 {α:Type}{l m:List α}(h:l.length=m.length) (he:∀j,j<l.length→l[j]?=m[j]?):l=m:=
 B2 fun j=>by
  by_cases c:j<l.length
  ·exact he j c
  ·rw[List.getElem?_eq_none (by omega),List.getElem?_eq_none (by omega)]
theorem aOi:∀(k:Nat) (t u:Ty),tn t≤k→tn t≤1000000000→b9 Tryz.prog 43 [tyV t,tyV u] [] (B (aMm t u)) []:=by
 intro k
 induction k with
 | zero=>intro t u h;have:=oY t;omega
 | succ k U=>
 intro t u h J;obtain⟨f,n,s,a⟩:=t;rw[tn] at h J;have hal:=uW a;obtain⟨f',n',s',q⟩:=u;have A:(cC a).length=a.length:=by rw[cV,χ]
 have Y:(cC q).length=q.length:=by rw[cV,χ]
 refine bM (n:=55) tok Tryz.func43 rfl rfl rfl ?_;refine sg rfl (aA (aA (agF 6 [] rfl rfl rfl (aB rfl (fun hb=>?_) (fun hb=>?_)))))
 ·rw[aI9 (fun e=>by cases e;simp at hb)];exact sg rfl (aD rtT)
 simp[Ty.form,Ty.n,Ty.name,cW] at hb;obtain⟨d1,d2,d3,d4⟩:=hb;obtain rfl:=κ d1;obtain rfl:=κ d2;obtain rfl:=κ d3;have e4:a.length=q.length:=by have:=κ d4;omega
 refine aE (aA (sg rfl (aF (aM (fun i:Nat=>mk [(2,.one (.vp 2 0)),(3,.one (.vp 3 0)),(5,I .i64 i)] [(2,.var 47 ((bT (.mk f n s a)).map .c)),(3,.var 47 ((bT (.mk f n s q)).map .c))]) (fun i=>i≤a.length∧∀j,j<i→a[j]?=q[j]?) (fun i=>a.length-i) 0 ⟨Ae _,fun j hj=>by omega⟩ sl ?_))));intro i ⟨hi,r⟩;refine aA (sg rfl (aB rfl (fun hb=>?_) (fun hb=>?_)))
 ·have E:i<a.length:=ltD hb A;obtain⟨x,hx⟩:=aP E;obtain⟨y,hy⟩:=aP (l:=q) (k:=i) (by omega);have hx':(cC a)[i]?=some (bT x):=by rw[cV];exact bG bT hx
  have hy':(cC q)[i]?=some (bT y):=by rw[cV];exact bG bT hy
  have hc:=U x y (by have:=jQ (Ag hx);omega) (by have:=jQ (Ag hx);omega);refine aE (aA (aF (skh 10 [(3,.row i (bT x)),(8,.row i (bT y))] rfl (kc hc ?_))));refine kz 1 rfl ?_;cases he:aMm x y with
  | false=>
   have M:=aC1 he;refine sg rfl (aB rfl (fun _=>?_) nofun)
   rw[aI9 (fun e=>by
    injection e with _ _ _ e;rw[e,hy] at hx
    exact M (Option.some.inj hx).symm)]
   exact sg rfl (aD rtT)
  | true=>
   have heq:=aC0 he;refine sg rfl (aB rfl nofun (fun _=>aE (ag [] rfl ⟨i+1,⟨E,fun j hj=>?_⟩,by dsimp only;omega,sl⟩)));by_cases e:j=i
   ·rw[e,hx,hy,heq]
   ·exact r j (by omega)
 have O:=geD hb A hi;subst O;rw[aI8 (by rw[aG4 e4 r])];exact aL (sg rfl (aD rtT))
theorem aOh (t:Ty) (h:tn t≤1000000000):b9 Tryz.prog 43 [tyV t,tyV t] [] (B true) []:=by
 have:=aOi (tn t) t t (le_refl _) h;rwa [aI8 rfl] at this
theorem aMk {α:Type} [DecidableEq α] (a:α):(!decide (a=a))=false:=by rw[φ rfl];rfl
mutual
def psz:Pt→Nat
 | .mk _ _ _ _ l=>aPu l+1
def aPu:List Pt→Nat
 | []=>0
 | p::l=>psz p+aPu l
end
theorem vF:∀{l:List Pt}{p:Pt},p∈l→psz p≤aPu l
 | [],p,h=>by cases h
 | a::l,p,h=>by
  rw[aPu];rcases Ap.1 h with rfl | h
  ·omega
  ·have:=vF h;omega
theorem kG:∀{l:List Pt},sN l→∀p∈l,ptB p
 | a::l,h,p,hp=>by
  rcases Ap.1 hp with rfl | hp
  ·exact h.1
  ·exact kG h.2 p hp
theorem tY:∀(k:Nat) (p:Pt),psz p≤k→ptB p→b9 Tryz.prog 21 [.pa (bF p),.pa (bF p)] [] (B true) []
 | 0,p,h,_=>by cases p;rw[psz] at h;omega
 | k+1,p,h,hB=>by
  obtain⟨f,pl,n,s,l⟩:=p;rw[psz] at h;have hq:=aOh zTy (by unfold zTy;rw[tn,tns];decide);have y:=hB.1;have r:(iH (.mk f pl n s l)).length=l.length:=by rw[fR,χ];rfl
  have d1:=aMk f;have d2:=aMk pl;have d3:=aMk n;have d4:=aMk s;have d5:=aMk ((iH (.mk f pl n s l)).length:Int);have d6:=aMk ((([]:List (List C)).length:Nat):Int);refine bM (n:=97) tok Tryz.func21 rfl rfl rfl ?_;refine sg rfl (aA (skh 49 [(5,.bv false),(11,.bv false),(12,.bv false),(18,.bv false),(19,.bv false),(25,.bv false),(26,.bv false),(34,.bv false),(35,.bv false),(43,.bv false),(44,.bv false),(51,.bv false)] rfl (kcG hq ?_)));refine ak 2 [(5,.bv false),(11,.bv false),(12,.bv false),(18,.bv false),(19,.bv false),(25,.bv false),(26,.bv false),(34,.bv false),(35,.bv false),(43,.bv false),(44,.bv false),(51,.bv false)] rfl (az (aB rfl (fun hb=>Bool.noConfusion hb) (fun _=>aE (aA (sg rfl (aF (aM (fun _:Nat=>mk [(2,.one (.vp 2 0)),(3,.one (.vp 3 0)),(5,I .i64 0)] [(2,.var 49 ((bF (.mk f pl n s l)).map .c)),(3,.var 49 ((bF (.mk f pl n s l)).map .c))]) (fun _=>True) (fun _=>0) 0 trivial sl ?_)))))));intro i _;refine aA (sg rfl (aB rfl (fun hb=>absurd hb (by decide)) (fun _=>aL (aA (sg rfl (aF (aM (fun i:Nat=>mk [(2,.one (.vp 2 0)),(3,.one (.vp 3 0)),(6,I .i64 (i:Nat))] [(2,.var 49 ((bF (.mk f pl n s l)).map .c)),(3,.var 49 ((bF (.mk f pl n s l)).map .c))]) (fun i=>i≤l.length) (fun i=>l.length-i) 0 (Ae _) sl ?_)))))));intro i hi;refine aA (sg rfl (aB rfl (fun hb=>?_) (fun hb=>?_)))
  ·have q:=ltD hb r;obtain⟨x,hx⟩:=aP q;have A:(iH (.mk f pl n s l))[i]?=some (bF x):=by rw[fR];exact bG bF hx
   have hm:=Ag hx;have hc:=tY k x (by have:=vF hm;omega) (kG hB.2 x hm);refine aE (aA (aF (skh 10 [(3,.row i (bF x)),(8,.row i (bF x))] rfl (kc hc ?_))));exact kz 1 rfl (aB rfl (fun hb=>Bool.noConfusion hb) (fun _=>aE (agN [] rfl ⟨i+1,q,by dsimp only;omega,sl⟩)))
  ·exact aL (sg rfl (aD rtT))
def aP3 (n:Int):Str:=Lib.decDigits n.toNat
def aAg (n:Int):Prop:=0≤n∧n≤2147483647
theorem yD {n:Int}(h:aAg n):(aP3 n).length≤20:=aK0 _ (by have:=h.2;omega)
theorem aEo {n:Int}(h:aAg n):b9 Tryz.prog 68 [I .i64 n] [] (Go.AM.T (aP3 n)) []:=by
 have:=aLg n.toNat (by have:=h.2;omega);rwa [Int.toNat_of_nonneg h.1] at this
mutual
def ptW:Pt→Nat
 | .mk _ _ _ s l=>s.length+24+sM l
def sM:List Pt→Nat
 | []=>0
 | p::l=>ptW p+sM l
end
mutual
def prP:Pt→Str
 | .mk f _ n s l=>if f=1 then [95] else if f=3 then aP3 n else s++uS l
def uS:List Pt→Str
 | []=>[]
 | p::l=>[32]++brk (decide (0<p.kids.length)) (prP p)++uS l
end
mutual
def aPw:Pt→Prop
 | .mk _ _ n _ l=>aAg n∧oJ l
def oJ:List Pt→Prop
 | []=>True
 | p::l=>aPw p∧oJ l
end
theorem eX:∀{l:List Pt},oJ l→∀p∈l,aPw p
 | a::l,h,p,hp=>by
  rcases Ap.1 hp with rfl | hp
  ·exact h.1
  ·exact eX h.2 p hp
theorem n6:∀{l:List Pt}{p:Pt},p∈l→ptW p≤sM l
 | a::l,p,h=>by
  rw[sM];rcases Ap.1 h with rfl | h
  ·omega
  ·have:=n6 h;omega
theorem nO:∀(l:List Pt) (i:Nat),sM (l.take i)≤sM l
 | [],i=>by rw[List.take_nil];exact le_refl _
 | p::l,0=>Ae _
 | p::l,i+1=>by
  rw[Bc,sM,sM];have:=nO l i;omega
theorem lV:∀(l:List Pt) (i:Nat),oJ l→oJ (l.take i)
 | [],i,_=>by rw[List.take_nil];trivial
 | p::l,0,_=>trivial
 | p::l,i+1,h=>⟨h.1,lV l i h.2⟩
mutual
theorem sP:∀p:Pt,aPw p→(prP p).length+3≤ptW p
 | .mk f pl n s l,h=>by
  have h1:=qS l h.2;have h2:=yD h.1;rw[prP,ptW];split
  ·show 1+3≤_;omega
  split
  ·omega
  ·rw[ζ];omega
theorem qS:∀l:List Pt,oJ l→(uS l).length≤sM l
 | [],_=>le_refl _
 | p::l,h=>by
  have h1:=sP p h.1;have h2:=qS l h.2;have c:=dB (decide (0<p.kids.length)) (prP p);rw[uS,sM,ζ,ζ,τ,length_nil];omega
end
theorem xJ:∀(l m:List Pt),uS (l++m)=uS l++uS m
 | [],m=>rfl
 | p::l,m=>by rw[Bw,uS,uS,xJ l m];simp
theorem jX:∀(k:Nat) (p:Pt),psz p≤k→aPw p→ptB p→ptW p≤1000000000→b9 Tryz.prog 30 [.pa (bF p)] [] (Go.AM.T (prP p)) []
 | 0,p,h,_,_,_=>by cases p;rw[psz] at h;omega
 | k+1,p,h,q,hB,hW=>by
  obtain⟨f,pl,n,s,l⟩:=p;rw[psz] at h;have hM:3000000000≤maxLen:=by decide
  have hll:=hB.1;have y:(iH (.mk f pl n s l)).length=l.length:=by rw[fR,χ];rfl
  have hi:=aEo q.1;rw[ptW] at hW;rw[prP];refine bM (n:=36) tok Tryz.func30 rfl rfl rfl ?_;refine sg rfl (aA (sg rfl (aF (sg rfl ?_))));by_cases h1:f=1
  ·have d1:decide (f=1)=true:=φ h1;rw[ξ h1];exact aB rfl (fun _=>sg rfl (aD rtT)) (fun hb=>Bool.noConfusion (hb.symm.trans d1))
  have d1:decide (f=1)=false:=ψ h1;rw[η h1];refine aB rfl (fun hb=>Bool.noConfusion (hb.symm.trans d1)) (fun _=>sg rfl ?_);by_cases r:f=3
  ·have d3:decide (f=3)=true:=φ r;rw[ξ r];refine aB rfl (fun _=>sk 2 rfl (kc hi ?_)) (fun hb=>Bool.noConfusion (hb.symm.trans d3));exact kz 1 rfl (aD rtT)
  have d3:decide (f=3)=false:=ψ r;rw[η r];refine aB rfl (fun hb=>Bool.noConfusion (hb.symm.trans d3)) (fun _=>aE (sg rfl (aA (sg rfl (aF (aM (fun i:Nat=>mk [(3,Go.AM.T (s++uS (l.take i))),(18,.one (.c (.sl 10 (iH (.mk f pl n s l))))),(19,I .i64 ((iH (.mk f pl n s l)).length:Nat)),(20,I .i64 (i:Nat))] []) (fun i=>i≤l.length) (fun i=>l.length-i) 0 (Ae _) (sl (he:=⟨by rw[take_zero,uS,Cm];rfl,rfl,rfl,rfl,trivial⟩)) ?_))))));intro i E;have hpt:=nO l i;have hpl:=qS (l.take i) (lV l i q.2);refine sg rfl (aA (aB rfl (fun hb=>?_) (fun hb=>?_)))
  ·have A:=ltD hb y;obtain⟨x,hx⟩:=aP A;have hx':(iH (.mk f pl n s l))[i]?=some (bF x):=by rw[fR];exact bG bF hx
   have hm:=Ag hx;have hwm:=n6 hm;have hc:=jX k x (by have:=vF hm;omega) (eX q.2 x hm) (kG hB.2 x hm) (by omega);have hlx:=sP x (eX q.2 x hm);have J:(iH x).length=x.kids.length:=by rw[fR,χ]
   have M:=dU (prP x) (decide ((0:Int)<((iH x).length:Nat))) (by omega);have hbl:=dB (decide ((0:Int)<((iH x).length:Nat))) (prP x);have O:decide (0<x.kids.length)=decide ((0:Int)<((iH x).length:Nat)):=by
    rw[J];by_cases h0:0<x.kids.length
    ·rw[φ h0,φ (by omega)]
    ·rw[ψ h0,ψ (by omega)]
   have U:l.take (i+1)=l.take i++[x]:=fZ hx;have B:s++uS (l.take i)++([32]++brk (decide ((0:Int)<((iH x).length:Nat))) (prP x))=s++uS (l.take (i+1)):=by
    rw[U,xJ,uS,uS,O];simp
   have hpt2:=nO l (i+1);have hpl2:=qS (l.take (i+1)) (lV l (i+1) q.2);have hlen:(s++uS (l.take i)++([32]++brk (decide ((0:Int)<((iH x).length:Nat))) (prP x))).length≤2000000000:=by rw[B,ζ];omega
   clear hlen O;generalize brk (decide ((0:Int)<((iH x).length:Nat))) (prP x)=B0 at *;refine aE (aA (aF (sgh [(0,.row i (bF x))] rfl (aC mixed (ak 2 [] rfl (kc hc ?_))))));refine ak 4 [] rfl (kc M ?_);exact kz 3 rfl (agN [] rfl ⟨i+1,A,by dsimp only;omega,sl (he:=⟨by rw[←B];rfl,rfl,rfl,rfl,trivial⟩)⟩)
  ·have Y:=geD hb y E;subst Y;rw[Az];exact aL (sg rfl (aD rtT))
mutual
def esz:Ex→Nat
 | .mk _ _ _ _ ks _ bs _=>y9 ks+aMo bs+1
def y9:List Ex→Nat
 | []=>0
 | e::l=>esz e+y9 l
def bsz:Bd→Nat
 | .mk _ _ _ _ e=>esz e+1
def aMo:List Bd→Nat
 | []=>0
 | b::l=>bsz b+aMo l
end
theorem aDx:∀{l:List Ex}{p:Ex},p∈l→esz p≤y9 l
 | [],p,h=>by cases h
 | a::l,p,h=>by
  rw[y9];rcases Ap.1 h with rfl | h
  ·omega
  ·have:=aDx h;omega
theorem aEu:∀{l:List Bd}{p:Bd},p∈l→bsz p≤aMo l
 | [],p,h=>by cases h
 | a::l,p,h=>by
  rw[aMo];rcases Ap.1 h with rfl | h
  ·omega
  ·have:=aEu h;omega
theorem tL:∀{l:List Ex},mZ l→∀p∈l,lZ p
 | a::l,h,p,hp=>by
  rcases Ap.1 hp with rfl | hp
  ·exact h.1
  ·exact tL h.2 p hp
def rV:Str:=[32,58,32]
def eqP:Str:=[32,61,32]
def aPy:Str:=[108,101,116,32]
def inP:Str:=[32,105,110,32]
def aP5:Str:=[99,97,115,101,32]
def ofP:Str:=[32,111,102,32]
def aPz:Str:=[92,32]
def opn (f:Int):Bool:=decide (f=5) || (decide (f=6) || (decide (f=7) || decide (f=8)))
def aDm:List (Int×Str)→Str
 | []=>[]
 | x::_=>x.2
def aRr:List (Int×Str)→Str
 | a::b::_=>brk (opn a.1) a.2++[32]++brk (opn b.1 || decide (b.1=4)) b.2
 | _=>[]
def aRf:List (Int×Str)→Str
 | []=>[]
 | a::_=>brk (opn a.1) a.2
def jH:List Pt→List (Int×Str)→List Str
 | p::ps,x::xs=>(prP p++arrS++x.2)::jH ps xs
 | _,_=>[]
mutual
def prE:Ex→Str
 | .mk f _ n s ks ps bs g=>
  if f=3 then aP3 n
  else if f=4 then aRr (eL ks)
  else if f=5 then aPz++Lib.join (ps.map prP) [32]++arrS++aDm (eL ks)
  else if f=6 then aPy++aIc (jL bs)++inP++aDm (eL ks)
  else if f=7 then aP5++aDm (eL ks)++ofP++aIc (jH ps (eL ks).tail)
  else if f=8 then aRf (eL ks)++rV++s8 g
  else s
def eL:List Ex→List (Int×Str)
 | []=>[]
 | e::l=>(e.form,prE e)::eL l
def prB:Bd→List Str
 | .mk s _ h g e=>(if h=true then [s++rV++s8 g] else [])++[s++eqP++prE e]
def jL:List Bd→List Str
 | []=>[]
 | b::l=>prB b++jL l
end
mutual
def exP:Ex→Prop
 | .mk _ _ n _ ks ps bs g=>aAg n∧oJ ps∧SchP g∧aP1 ks∧aPc bs
def aP1:List Ex→Prop
 | []=>True
 | e::l=>exP e∧aP1 l
def bdP:Bd→Prop
 | .mk _ _ _ g e=>SchP g∧exP e
def aPc:List Bd→Prop
 | []=>True
 | b::l=>bdP b∧aPc l
end
mutual
def exW:Ex→Nat
 | .mk _ _ _ s ks ps bs g=>s.length+64+sM ps+uU ks+aLv bs+2*aMb g
def uU:List Ex→Nat
 | []=>0
 | e::l=>exW e+uU l
def bdW:Bd→Nat
 | .mk s _ _ g e=>2*s.length+32+2*aMb g+exW e
def aLv:List Bd→Nat
 | []=>0
 | b::l=>bdW b+aLv l
end
theorem r7:∀{l:List Ex},aP1 l→∀p∈l,exP p
 | a::l,h,p,hp=>by
  rcases Ap.1 hp with rfl | hp
  ·exact h.1
  ·exact r7 h.2 p hp
theorem yY:∀{l:List Bd},aPc l→∀p∈l,bdP p
 | a::l,h,p,hp=>by
  rcases Ap.1 hp with rfl | hp
  ·exact h.1
  ·exact yY h.2 p hp
theorem y8:∀{l:List Ex}{p:Ex},p∈l→exW p≤uU l
 | a::l,p,h=>by
  rw[uU];rcases Ap.1 h with rfl | h
  ·omega
  ·have:=y8 h;omega
theorem yX:∀{l:List Bd}{p:Bd},p∈l→bdW p≤aLv l
 | a::l,p,h=>by
  rw[aLv];rcases Ap.1 h with rfl | h
  ·omega
  ·have:=yX h;omega
theorem xE:∀l:List Pt,sM l=(l.map ptW).sum
 | []=>rfl
 | p::l=>by rw[sM,As,Bz,xE l]
theorem qU {l:List Pt}(h:oJ l):(Lib.join (l.map prP) [32]).length≤sM l:=by
 have h1:=join_le [32] (l.map prP);rw[List.map_map,χ,show([32]:Str).length=1 from rfl] at h1;have h2:=aBx (fun p=>(prP p).length+3) ptW l fun p hp=>sP p (eX h p hp)
 have q:(l.map fun p=>(prP p).length+3).sum=(l.map ((fun s:Str=>s.length)∘prP)).sum+3*l.length:=by
  clear h h1 h2
  induction l with
  | nil=>rfl
  | cons p l c=>
   rw[As,As,Bz,Bz,c,τ];show(prP p).length+3+_=(prP p).length+_+_;omega
 rw[xE];omega
theorem yU (l:List Str):(aIc l).length≤(l.map (fun s:Str=>s.length)).sum+3*l.length+4:=by
 have h:=join_le [32,59,32] l;rw[show([32,59,32]:Str).length=3 from rfl] at h;unfold aIc;split
 ·show 3≤_;omega
 ·rw[ζ,ζ,show([123,32]:Str).length=2 from rfl,show([32,125]:Str).length=2 from rfl];omega
def kW (l:List (Int×Str)):Nat:=(l.map fun x=>x.2.length+8).sum
theorem aKv (l:List (Int×Str)):(aDm l).length≤kW l:=by
 cases l with
 | nil=>exact Ae _
 | cons x l=>unfold kW;rw[As,Bz];show x.2.length≤_;omega
theorem aFj:∀(ps:List Pt) (xs:List (Int×Str)),oJ ps→((jH ps xs).map (fun s:Str=>s.length)).sum+3*(jH ps xs).length≤sM ps+kW xs
 | [],xs,_=>by cases xs<;>exact Ae _
 | p::ps,[],_=>Ae _
 | p::ps,x::xs,h=>by
  have h1:=aFj ps xs h.2;have h2:=sP p h.1;rw[jH,As,Bz,τ,sM];unfold kW at h1 ⊢;rw[As,Bz,ζ,ζ,show arrS.length=4 from rfl];omega
mutual
theorem iR:∀e:Ex,exP e→(prE e).length+8≤exW e
 | .mk f pl n s ks ps c g,h=>by
  obtain⟨hn,hp,q,r,hb⟩:=h;have h1:=vI ks r;have h2:=vJ c hb;have y:=qU hp;have A:=x5 q;have B:=yD hn;have E:=yU (jL c);have I:=yU (jH ps (eL ks).tail);have J:=aFj ps (eL ks).tail hp;have M:=aKv (eL ks);rw[prE,exW];split
  ·omega
  split
  ·clear h2 y A B E I J M;generalize eL ks=l at h1;unfold kW at h1
   match l,h1 with
   | [],_=>show 0+8≤_;omega
   | [_],_=>show 0+8≤_;omega
   | a::b::l,h1=>
    have O:=dB (opn a.1) a.2;have U:=dB (opn b.1 || decide (b.1=4)) b.2;rw[As,As,Bz,Bz] at h1;rw[aRr,ζ,ζ,τ,length_nil];omega
  split
  ·rw[ζ,ζ,ζ,show aPz.length=2 from rfl,show arrS.length=4 from rfl];omega
  split
  ·rw[ζ,ζ,ζ,show aPy.length=4 from rfl,show inP.length=4 from rfl];omega
  split
  ·have ht:kW (eL ks).tail+(aDm (eL ks)).length≤kW (eL ks):=by
    cases eL ks with
    | nil=>exact le_refl _
    | cons x l=>unfold kW;rw[As,Bz];show _+x.2.length≤_;rw[List.tail_cons];omega
   rw[ζ,ζ,ζ,show aP5.length=5 from rfl,show ofP.length=4 from rfl];omega
  split
  ·have ha:(aRf (eL ks)).length≤kW (eL ks)+2:=by
    cases eL ks with
    | nil=>exact Ae _
    | cons x l=>
     have:=dB (opn x.1) x.2;unfold kW;rw[As,Bz,aRf];omega
   rw[ζ,ζ,show rV.length=3 from rfl];omega
  ·omega
theorem vI:∀l:List Ex,aP1 l→kW (eL l)≤uU l
 | [],_=>le_refl _
 | e::l,h=>by
  have h1:=iR e h.1;have h2:=vI l h.2;rw[eL,uU];unfold kW at h2 ⊢;rw[As,Bz];dsimp only;omega
theorem aNq:∀b:Bd,bdP b→((prB b).map (fun s:Str=>s.length)).sum+3*(prB b).length≤bdW b
 | .mk s pl h g e,hb=>by
  have h1:=iR e hb.2;have h2:=x5 hb.1;rw[prB,bdW];cases h with
  | true=>
   rw[ξ rfl];simp only[Bw,Bv,As,map_nil,Bz,List.sum_nil,τ,length_nil,ζ,show rV.length=3 from rfl,show eqP.length=3 from rfl];omega
  | false=>
   rw[η π];simp only[Bv,As,map_nil,Bz,List.sum_nil,τ,length_nil,ζ,show eqP.length=3 from rfl];omega
theorem vJ:∀l:List Bd,aPc l→((jL l).map (fun s:Str=>s.length)).sum+3*(jL l).length≤aLv l
 | [],_=>le_refl _
 | b::l,h=>by
  have h1:=aNq b h.1;have h2:=vJ l h.2;rw[jL,aLv,Am,List.sum_append,ζ];omega
end
theorem xM:∀(l m:List Bd),jL (l++m)=jL l++jL m
 | [],m=>by rw[jL];rfl
 | b::l,m=>by rw[Bw,jL,jL,xM l m,Ar]
theorem wF (e:Ex):b9 Tryz.prog 70 [.pa (cD e)] [] (B (opn e.form)) []:=by
 unfold opn;refine bM (n:=21) tok Tryz.func70 rfl rfl rfl ?_;refine sg rfl ?_;by_cases c:e.form=5
 ·have d5:decide (e.form=5)=true:=φ c;rw[d5,Co];exact sgh [(3,.bv true),(7,.bv true),(8,.bv true),(12,.bv true),(13,.bv true),(17,.bv true)] rfl (aD rtT)
 have d5:decide (e.form=5)=false:=ψ c;by_cases q:e.form=6
 ·have d6:decide (e.form=6)=true:=φ q;rw[d5,d6,Bb,Co];exact sgh [(3,.bv false),(7,.bv false),(8,.bv true),(12,.bv true),(13,.bv true),(17,.bv true)] rfl (aD rtT)
 have d6:decide (e.form=6)=false:=ψ q;by_cases r:e.form=7
 ·have d7:decide (e.form=7)=true:=φ r;rw[d5,d6,d7,Bb,Bb,Co];exact sgh [(3,.bv false),(7,.bv false),(8,.bv false),(12,.bv false),(13,.bv true),(17,.bv true)] rfl (aD rtT)
 have d7:decide (e.form=7)=false:=ψ r;rw[d5,d6,d7,Bb,Bb,Bb];exact sgh [(3,.bv false),(7,.bv false),(8,.bv false),(12,.bv false),(13,.bv false),(17,.bv false)] rfl (aD rtT)
theorem wE (l:List Pt) (E:oJ l) (hB:sN l) (hl:l.length≤4002) (hW:sM l≤400000000):b9 Tryz.prog 71 [.one (.c (.sl 10 (l.map bF)))] [] (Go.AM.T (Lib.join (l.map prP) [32])) []:=by
 have hM:3000000000≤maxLen:=by decide
 have J:(l.map bF).length=l.length:=χ _;refine bM (n:=20) tok Tryz.func71 rfl rfl rfl ?_;refine sg rfl (sg rfl (AWp.sub (Sub.own (t:=3) (id:=500) 9 1 rfl rfl) ?_));refine aA (sg rfl (aF (aM (fun i:Nat=>mk [(3,.one (.hs 500 0 (l.take i).length (l.take i).length)),(6,.one (.c (.sl 10 (l.map bF)))),(7,I .i64 ((l.map bF).length:Nat)),(8,I .i64 (i:Nat))] [(500,.arr 9 1 (((l.take i).map prP).map bD) 0)]) (fun i=>i≤l.length) (fun i=>l.length-i) 0 (Ae _) sl ?_)));intro i hi;have U:(l.take i).length=i:=by rw[Al];omega
 refine sg rfl (aA (aB rfl (fun hb=>?_) (fun hb=>?_)))
 ·have q:=ltD hb J;obtain⟨p,hp⟩:=aP q;have Y:=bG bF hp;have hm:=Ag hp;have aa:=n6 hm;have hc:=jX (psz p) p (le_refl _) (eX E p hm) (kG hB p hm) (by omega);have r:(((l.take i).map prP).map bD).length=(l.take i).length:=by rw[χ,χ]
  have y:l.take (i+1)=l.take i++[p]:=fZ hp;have A:(l.take (i+1)).length=(l.take i).length+1:=by rw[y,ζ];rfl
  have B:(((l.take i).map prP).map bD)++[[.str (prP p)]]=((l.take (i+1)).map prP).map bD:=by rw[y,Am,Am];rfl
  refine aE (aA (aF (sgh [(0,.row i (bF p))] rfl (aC mixed (ak 2 [] rfl (kc hc ?_))))));exact ak 3 [(3,.all)] rfl (az (agN [] rfl ⟨i+1,q,by dsimp only;omega,sl (he:=⟨Go.AM.hs_ren (by rw[A,←r];rfl) (by rw[A,←r];rfl),rfl,rfl,rfl,trivial⟩) (hh:=⟨⟨_,rfl,.arrS B⟩,trivial⟩)⟩))
 ·have M:=geD hb J hi;subst M;refine aL ?_;rw[Az];have ab:=qU E;have O:=aEn (l.map prP) [32] (by rw[χ];omega) (by omega);have ac:((l.map prP).map bD).length=l.length:=by rw[χ,χ]
  refine AWp.sub (Sub.freeze (id:=500) rfl) ?_;refine AWp.sub (st2:=mk [(3,dH (l.map prP))] []) ?_ ?_
  ·refine Sub.trans ?_ (cv 3 ((l.map prP).map bD));exact sl
  refine sk 1 rfl (kc O ?_);exact kz 1 rfl (aD rtT)
def PES (k:Nat):Prop:=∀e:Ex,esz e≤k→exP e→lZ e→exW e≤400000000→b9 Tryz.prog 28 [.pa (cD e)] [] (Go.AM.T (prE e)) []
def PBS (k:Nat):Prop:=∀l:List Bd,l.length≤4002→aMo l≤k→aPc l→dV l→aLv l≤400000000→b9 Tryz.prog 59 [.one (.c (.sl 33 (iE l)))] [] (dH (jL l)) []
theorem qT:∀l:List Bd,(jL l).length≤2*l.length
 | []=>le_refl _
 | .mk s pl h g e::l=>by
  have:=qT l;rw[jL,prB,ζ,ζ,τ,τ,length_nil];split
  ·rw[τ,length_nil];omega
  ·rw[length_nil];omega
theorem yS {k:Nat}(hE:PES k):PBS (k+1):=by
 intro l hl hk hP hB hW;have hM:3000000000≤maxLen:=by decide
 have aa:(iE l).length=l.length:=by rw[jB,χ]
 refine bM (n:=36) tok Tryz.func59 rfl rfl rfl ?_;refine sg rfl (sg rfl (AWp.sub (Sub.own (t:=3) (id:=500) 9 1 rfl rfl) ?_));refine aA (sg rfl (aF (aM (fun i:Nat=>mk [(3,.one (.hs 500 0 (jL (l.take i)).length (jL (l.take i)).length)),(6,.one (.c (.sl 33 (iE l)))),(7,I .i64 ((iE l).length:Nat)),(8,I .i64 (i:Nat))] [(500,.arr 9 1 ((jL (l.take i)).map bD) 0)]) (fun i=>i≤l.length) (fun i=>l.length-i) 0 (Ae _) sl ?_)));intro i hi;have hti:(l.take i).length=i:=by rw[Al];omega
 have ab:=qT (l.take i);refine sg rfl (aA (aB rfl (fun hb=>?_) (fun hb=>?_)))
 ·have J:=ltD hb aa;obtain⟨b,M⟩:=aP J;have hx':(iE l)[i]?=some (bH b):=by rw[jB];exact bG bH M
  have hm:=Ag M;have ac:=gJ.1 hB b hm;have B:=yY hP b hm;have hsz:=aEu hm;have ad:=yX hm;have ae:l.take (i+1)=l.take i++[b]:=fZ M;obtain⟨r,pl,has,q,e⟩:=b;have hnm:List.length (Bd.name (.mk r pl has q e))=r.length:=rfl;rw[bsz] at hsz;rw[bdW] at ad;have hs:=pS B.1 (by omega);have hsl:=x5 B.1;have he:=hE e (by omega) B.2 ac.2 (by omega);have hel:=iR e B.2;have y:jL (l.take (i+1))=jL (l.take i)++prB (.mk r pl has q e):=by rw[ae,xM,jL,jL,Cm]
  have hc3:rV.length=3:=rfl;have hq3:eqP.length=3:=rfl;generalize jL (l.take i)=P at ab y;have E:(P.map bD).length=P.length:=χ _;refine aE (aA (aF (sgh [(0,.row i (bH (.mk r pl has q e)))] rfl (aA (sg rfl ?_)))));cases has with
  | true=>
   refine aB rfl (fun _=>aC mixed (ak 6 [] rfl (kc hs ?_))) nofun;refine ak 4 [(8,.all)] rfl (az ?_);have A:(P.map bD)++[[.str (r++rV++s8 q)]]=(P++[r++rV++s8 q]).map bD:=by rw[Am];rfl
   have hle:(P++[r++rV++s8 q]).length=P.length+1:=by rw[ζ];rfl
   have Y:((P++[r++rV++s8 q]).map bD)++[[.str (r++eqP++prE e)]]=(jL (l.take (i+1))).map bD:=by rw[y,prB,ξ rfl,←Ar];simp[bD]
   have O:(jL (l.take (i+1))).length=(P++[r++rV++s8 q]).length+1:=by rw[y,prB,ξ rfl,←Ar];simp
   have U:((P++[r++rV++s8 q]).map bD).length=(P++[r++rV++s8 q]).length:=χ _;refine AWp.sub (st2:=mk [(3,.one (.hs 500 0 (P++[r++rV++s8 q]).length (P++[r++rV++s8 q]).length)),(5,.one (.vp 5 0)),(6,.one (.c (.sl 33 (iE l)))),(7,I .i64 ((iE l).length:Nat)),(8,I .i64 (i:Nat))] [(500,.arr 9 1 ((P++[r++rV++s8 q]).map bD) 0),(5,.var 99 ((bH (.mk r pl true q e)).map .c))]) (sl (he:=⟨Go.AM.hs_ren (by rw[hle,←E];rfl) (by rw[hle,←E];rfl),rfl,rfl,rfl,rfl,trivial⟩) (hh:=⟨⟨_,rfl,.arrS A⟩,⟨_,rfl,.var rfl⟩,trivial⟩)) ?_;generalize P++[r++rV++s8 q]=P2 at *;refine aC mixed (ak 6 [] rfl (kc he ?_));exact ak 4 [(8,.all)] rfl (az (agN [] rfl ⟨i+1,J,by dsimp only;omega,sl (he:=⟨Go.AM.hs_ren (by rw[O,←U];rfl) (by rw[O,←U];rfl),rfl,rfl,rfl,trivial⟩) (hh:=⟨⟨_,rfl,.arrS Y⟩,trivial⟩)⟩))
  | false=>
   refine aB rfl nofun (fun _=>aE (aC mixed (ak 6 [] rfl (kc he ?_))));refine ak 4 [(8,.all)] rfl (az ?_);have A:(P.map bD)++[[.str (r++eqP++prE e)]]=(jL (l.take (i+1))).map bD:=by rw[y,prB,η π,Bv,Am];rfl
   have hle:(jL (l.take (i+1))).length=P.length+1:=by rw[y,prB,η π,Bv,ζ];rfl
   exact agN [] rfl ⟨i+1,J,by dsimp only;omega,sl (he:=⟨Go.AM.hs_ren (by rw[hle,←E];rfl) (by rw[hle,←E];rfl),rfl,rfl,rfl,trivial⟩) (hh:=⟨⟨_,rfl,.arrS A⟩,trivial⟩)⟩
 ·have af:=geD hb aa hi;subst af;refine aL ?_;rw[Az];refine sg rfl (AWp.sub (Sub.freeze (id:=500) rfl) ?_);exact aD (rtH (hsz:=(χ _).symm) (hlen:=(χ _).symm))
theorem uO:∀(ps:List Pt) (xs:List (Int×Str)) (i:Nat) (p:Pt) (x:Int×Str),ps[i]?=some p→xs[i]?=some x→jH (ps.take (i+1)) xs=jH (ps.take i) xs++[prP p++arrS++x.2]
 | [],_,i,_,_,h,_=>by cases h
 | _::_,[],i,_,_,_,h=>by cases h
 | p::ps,x::xs,0,q,r,h,c=>by
  injection h with h;injection c with c;subst h;subst c;rw[Bc,take_zero,jH,take_zero];cases xs<;>(simp[jH])
 | p::ps,x::xs,i+1,q,r,h,c=>by
  rw[Bc,Bc,jH,jH,uO ps xs i q r h c];rfl
theorem xL:∀{l:List Ex}{i:Nat}{e:Ex},l[i]?=some e→(eL l)[i]?=some (e.form,prE e)
 | _::_,0,_,h=>by injection h with h;subst h;rw[eL];rfl
 | _::l,i+1,e,h=>by rw[eL];exact xL (l:=l) (i:=i) h
theorem rQ:∀(ps:List Pt) (xs:List (Int×Str)),ps.length≤xs.length→(jH ps xs).length=ps.length
 | [],xs,_=>by cases xs<;>simp[jH]
 | p::ps,[],h=>by rw[τ,length_nil] at h;omega
 | p::ps,x::xs,h=>by rw[jH,τ,τ,rQ ps xs (by rw[τ,τ] at h;omega)]
theorem xK:∀l:List Ex,(eL l).length=l.length
 | []=>rfl
 | _::l=>by rw[eL,τ,τ,xK l]
theorem aHs {k:Nat}(O:PES k) (hBS:PBS k):PES (k+1):=by
 intro x hk hP hO hW;obtain⟨f,pl,n,s,ks,ps,y,g⟩:=x;have hM:3000000000≤maxLen:=by decide
 have q:=iR _ hP;have hx0:∃X,X=Ex.mk f pl n s ks ps y g:=⟨_,rfl⟩
 obtain⟨X,hX⟩:=hx0;rw[esz] at hk;rw[exW] at hW q;obtain⟨hn,E,hg,r,hbp⟩:=hP;obtain⟨⟨hl1,hl2,hl3⟩,hsg,⟨ar1,ar2,ar3⟩,hps,B,hbs⟩:=hO;refine bM (n:=124) tok Tryz.func28 rfl rfl rfl ?_;refine sg rfl (aA (sg rfl (aF (sg rfl ?_))));rw[prE] at q ⊢;by_cases h3:f=3
 ·have d3:decide (f=3)=true:=φ h3;rw[ξ h3];have hi:=aEo hn;refine aB rfl (fun _=>sk 2 rfl (kc hi ?_)) (fun hb=>Bool.noConfusion (hb.symm.trans d3));exact kz 1 rfl (aD rtT)
 have d3:decide (f=3)=false:=ψ h3;rw[η h3] at q ⊢;refine aB rfl (fun hb=>Bool.noConfusion (hb.symm.trans d3)) (fun _=>sg rfl ?_);by_cases h4:f=4
 ·have d4:decide (f=4)=true:=φ h4;rw[ξ h4] at q ⊢;have h2:=ar1 h4
  match ks,h2 with
  | [a,b],_=>
   rw[y9,y9,y9] at hk;rw[uU,uU,uU] at hW q;have ha:=O a (by omega) r.1 B.1 (by omega);have hb:=O b (by omega) r.2.1 B.2.1 (by omega);have la:=iR a r.1;have lb:=iR b r.2.1;have U:=wF a;have Y:=wF b;have aa:=dU (prE a) (opn a.form) (by omega);have lba:=dB (opn a.form) (prE a);show AWp _ _ _ _ _ _ (k9 _ (aMs _ _ _ _ _ fun ex st=>(ex=.normal∨ex=.ret)∧Fin _ _ st _ (Go.AM.T (brk (opn a.form) (prE a)++[32]++brk (opn b.form || decide (b.form=4)) (prE b))) _));refine aB rfl (fun _=>sgh [(2,.row 0 (cD a)),(6,.row 1 (cD b))] rfl ?_) (fun hb=>Bool.noConfusion (hb.symm.trans d4));cases hop:opn b.form with
   | true=>
    rw[hop] at Y;rw[Co];have hbb:=dU (prE b) true (by omega);have lbb:=dB true (prE b);generalize brk (opn a.form) (prE a)=A at *;generalize brk true (prE b)=B0 at *;refine sk 1 rfl (kc ha ?_);refine ak 1 [] rfl (kc U ?_);refine kc aa ?_;refine ak 2 [] rfl (kc hb ?_);refine ak 1 [] rfl (kc Y ?_);refine ak 5 [(10,.bv true),(14,.bv true)] rfl (kc hbb ?_);exact kz 2 rfl (aD rtT)
   | false=>
    rw[hop] at Y;rw[Bb];have hbb:=dU (prE b) (decide (b.form=4)) (by omega);have lbb:=dB (decide (b.form=4)) (prE b);generalize brk (opn a.form) (prE a)=A at *;generalize brk (decide (b.form=4)) (prE b)=B0 at *;refine sk 1 rfl (kc ha ?_);refine ak 1 [] rfl (kc U ?_);refine kc aa ?_;refine ak 2 [] rfl (kc hb ?_);refine ak 1 [] rfl (kc Y ?_);refine ak 5 [(10,.bv false),(14,.bv false)] rfl (kc hbb ?_);exact kz 2 rfl (aD rtT)
 have d4:decide (f=4)=false:=ψ h4;rw[η h4] at q ⊢;refine aB rfl (fun hb=>Bool.noConfusion (hb.symm.trans d4)) (fun _=>sg rfl ?_);by_cases h5:f=5
 ·have d5:decide (f=5)=true:=φ h5;rw[ξ h5] at q ⊢;have h2:=ar2 (.inl h5)
  match ks,h2 with
  | [a],_=>
   rw[y9,y9] at hk;rw[uU,uU] at hW q;have ha:=O a (by omega) r.1 B.1 (by omega);have la:=iR a r.1;have hpt:=wE ps E hps hl2 (by omega);have lpt:=qU E;have l2:aPz.length=2:=rfl;have l4:arrS.length=4:=rfl;show AWp _ _ _ _ _ _ (k9 _ (aMs _ _ _ _ _ fun ex st=>(ex=.normal∨ex=.ret)∧Fin _ _ st _ (Go.AM.T (aPz++Lib.join (ps.map prP) [32]++arrS++prE a)) _));generalize Lib.join (ps.map prP) [32]=J at *;refine aB rfl (fun _=>sk 2 rfl (kc hpt ?_)) (fun hb=>Bool.noConfusion (hb.symm.trans d5));refine ak 6 [(7,.row 0 (cD a))] rfl (kc ha ?_);exact kz 2 rfl (aD rtT)
 have d5:decide (f=5)=false:=ψ h5;rw[η h5] at q ⊢;refine aB rfl (fun hb=>Bool.noConfusion (hb.symm.trans d5)) (fun _=>sg rfl ?_);by_cases h6:f=6
 ·have d6:decide (f=6)=true:=φ h6;rw[ξ h6] at q ⊢;have h2:=ar2 (.inr (.inl h6))
  match ks,h2 with
  | [a],_=>
   rw[y9,y9] at hk;rw[uU,uU] at hW q;have ha:=O a (by omega) r.1 B.1 (by omega);have la:=iR a r.1;have hbd:=hBS y hl3 (by omega) hbp hbs (by omega);have lbn:=qT y;have lbw:=vJ y hbp;have lbj:=join_le [32,59,32] (jL y);rw[show([32,59,32]:Str).length=3 from rfl] at lbj;have hbk:=yR (jL y) (by omega) (by omega);have lbk:=yU (jL y);have l2:aPy.length=4:=rfl;have l4:inP.length=4:=rfl;show AWp _ _ _ _ _ _ (k9 _ (aMs _ _ _ _ _ fun ex st=>(ex=.normal∨ex=.ret)∧Fin _ _ st _ (Go.AM.T (aPy++aIc (jL y)++inP++prE a)) _));generalize aIc (jL y)=J at *;refine aB rfl (fun _=>sk 2 rfl (kc hbd ?_)) (fun hb=>Bool.noConfusion (hb.symm.trans d6));refine kc hbk ?_;refine ak 6 [(8,.row 0 (cD a))] rfl (kc ha ?_);exact kz 2 rfl (aD rtT)
 have d6:decide (f=6)=false:=ψ h6;rw[η h6] at q ⊢;refine aB rfl (fun hb=>Bool.noConfusion (hb.symm.trans d6)) (fun _=>sg rfl ?_);by_cases h7:f=7
 ·have d7:decide (f=7)=true:=φ h7;rw[ξ h7] at q ⊢;have h2:=ar3 h7;have hkA:(rB (.mk f pl n s ks ps y g)).length=ks.length:=by rw[rA,χ];rfl
  have hkP:(ps.map bF).length=ps.length:=χ _
  match ks,h2 with
  | [],h2=>rw[length_nil] at h2;omega
  | a::ks,h2=>
   have h2:ks.length=ps.length:=by rw[τ] at h2;omega
   rw[y9] at hk;rw[uU] at hW q;have ha:=O a (by omega) r.1 B.1 (by omega);have la:=iR a r.1;have hxl:(eL ks).length=ks.length:=xK ks;have lalt:=aFj ps (eL ks) E;have lkw:=vI ks r.2;have l5:aP5.length=5:=rfl;have l4:ofP.length=4:=rfl;have l4':arrS.length=4:=rfl;show AWp _ _ _ _ _ _ (k9 _ (aMs _ _ _ _ _ fun ex st=>(ex=.normal∨ex=.ret)∧Fin _ _ st _ (Go.AM.T (aP5++prE a++ofP++aIc (jH ps (eL ks)))) _));refine aB rfl (fun _=>sg rfl (AWp.sub (Sub.own (t:=5) (id:=500) 9 1 rfl rfl) ?_)) (fun hb=>Bool.noConfusion (hb.symm.trans d7));refine aA (sg rfl (aF (aM (fun i:Nat=>mk [(1,.one (.vp 1 0)),(5,.one (.hs 500 0 (jH (ps.take i) (eL ks)).length (jH (ps.take i) (eL ks)).length)),(72,.one (.c (.sl 10 (ps.map bF)))),(73,I .i64 ((ps.map bF).length:Nat)),(74,I .i64 (i:Nat))] [(1,.var 61 ((cD (.mk f pl n s (a::ks) ps y g)).map .c)),(500,.arr 9 1 ((jH (ps.take i) (eL ks)).map bD) 0)]) (fun i=>i≤ps.length) (fun i=>ps.length-i) 0 (Ae _) (sl (he:=⟨rfl,by rw[take_zero];cases eL ks<;>rfl,rfl,rfl,rfl,trivial⟩) (hh:=⟨⟨_,rfl,.var rfl⟩,⟨_,rfl,.arrS (by rw[take_zero];cases eL ks<;>rfl)⟩,trivial⟩)) ?_)));intro i hi;have hti:(ps.take i).length=i:=by rw[Al];omega
   have hal:(jH (ps.take i) (eL ks)).length=i:=by rw[rQ _ _ (by omega),hti]
   refine sg rfl (aA (aB rfl (fun hb=>?_) (fun hb=>?_)))
   ·have hlt:=ltD hb hkP;obtain⟨p,hp⟩:=aP hlt;obtain⟨e,he⟩:=aP (l:=ks) (k:=i) (by omega);have hp':=bG bF hp;have he':(rB (.mk f pl n s (a::ks) ps y g))[i+1]?=some (cD e):=by rw[rA];exact bG cD (show(a::ks)[i+1]?=some e from he)
    have ab:=Ag hp;have M:=Ag he;have wp:=n6 ab;have we:=y8 M;have ze:=aDx M;have hcp:=jX (psz p) p (le_refl _) (eX E p ab) (kG hps p ab) (by omega);have hce:=O e (by omega) (r7 r.2 e M) (tL B.2 e M) (by omega);have lp:=sP p (eX E p ab);have le:=iR e (r7 r.2 e M);have hsn:=uO ps (eL ks) i p (e.form,prE e) hp (xL he);have hrow:((jH (ps.take i) (eL ks)).map bD)++[[.str (prP p++arrS++prE e)]]=(jH (ps.take (i+1)) (eL ks)).map bD:=by rw[hsn,Am];rfl
    have hle:(jH (ps.take (i+1)) (eL ks)).length=(jH (ps.take i) (eL ks)).length+1:=by rw[hsn,ζ];rfl
    have hln:((jH (ps.take i) (eL ks)).map bD).length=(jH (ps.take i) (eL ks)).length:=χ _;have hkA1:(rB (.mk f pl n s (a::ks) ps y g)).length=ks.length+1:=hkA;refine aE (aA (aF (sgh [(1,.row i (bF p))] rfl (aC mixed (ak 2 [] rfl (kc hcp ?_))))));refine akN 7 [(8,.row (i+1) (cD e))] rfl (kc hce ?_);exact ak 4 [(12,.all)] rfl (az (agN [] rfl ⟨i+1,hlt,by dsimp only;omega,sl (he:=⟨rfl,Go.AM.hs_ren (by rw[hle,←hln];rfl) (by rw[hle,←hln];rfl),rfl,rfl,rfl,trivial⟩) (hh:=⟨⟨_,rfl,.var rfl⟩,⟨_,rfl,.arrS hrow⟩,trivial⟩)⟩))
   ·have hge:=geD hb hkP hi;subst hge;refine aL ?_;rw[Az];have laj:=join_le [32,59,32] (jH ps (eL ks));rw[show([32,59,32]:Str).length=3 from rfl] at laj;have hal2:(jH ps (eL ks)).length=ps.length:=rQ ps (eL ks) (by omega);have hbk:=yR (jH ps (eL ks)) (by omega) (by omega);have lbk:=yU (jH ps (eL ks));refine AWp.sub (Sub.freeze (id:=500) rfl) ?_;refine AWp.sub (st2:=mk [(1,.one (.vp 1 0)),(5,dH (jH ps (eL ks)))] [(1,.var 61 ((cD (.mk f pl n s (a::ks) ps y g)).map .c))]) ?_ ?_
    ·refine Sub.trans ?_ (cv 5 ((jH ps (eL ks)).map bD));exact sl
    generalize jH ps (eL ks)=J at *;refine skh 4 [(2,.row 0 (cD a))] rfl (kc ha ?_);refine ak 3 [] rfl (kc hbk ?_);exact kz 2 rfl (aD rtT)
 have d7:decide (f=7)=false:=ψ h7;rw[η h7] at q ⊢;refine aB rfl (fun hb=>Bool.noConfusion (hb.symm.trans d7)) (fun _=>sg rfl ?_);by_cases h8:f=8
 ·have d8:decide (f=8)=true:=φ h8;rw[ξ h8] at q ⊢;have h2:=ar2 (.inr (.inr h8))
  match ks,h2 with
  | [a],_=>
   rw[y9,y9] at hk;rw[uU,uU] at hW q;have ha:=O a (by omega) r.1 B.1 (by omega);have la:=iR a r.1;have U:=wF a;have aa:=dU (prE a) (opn a.form) (by omega);have lba:=dB (opn a.form) (prE a);have hsc:=pS hg (by omega);have lsc:=x5 hg;have l3:rV.length=3:=rfl;show AWp _ _ _ _ _ _ (k9 _ (aMs _ _ _ _ _ fun ex st=>(ex=.normal∨ex=.ret)∧Fin _ _ st _ (Go.AM.T (brk (opn a.form) (prE a)++rV++s8 g)) _));generalize brk (opn a.form) (prE a)=A at *;refine aB rfl (fun _=>skh 4 [(2,.row 0 (cD a))] rfl (kc ha ?_)) (fun hb=>Bool.noConfusion (hb.symm.trans d8));refine ak 4 [(7,.row 0 (cD a))] rfl (kc U ?_);refine kc aa ?_;refine ak 3 [] rfl (kc hsc ?_);exact kz 2 rfl (aD rtT)
 have d8:decide (f=8)=false:=ψ h8;rw[η h8] at q ⊢;exact aB rfl (fun hb=>Bool.noConfusion (hb.symm.trans d8)) (fun _=>aE (sg rfl (aD rtT)))
theorem kI:∀k,PES k∧PBS k
 | 0=>⟨fun e h=>by cases e;rw[esz] at h;omega,fun l hl h c hB q=>by
   cases l with
   | nil=>exact yS (k:=0) (fun e h=>by cases e;rw[esz] at h;omega) [] hl (Ae _) c hB q
   | cons b l=>cases b;rw[aMo,bsz] at h;omega⟩
 | k+1=>⟨aHs (kI k).1 (kI k).2,yS (kI k).1⟩
theorem wH (e:Ex) (c:exP e) (hO:lZ e) (q:exW e≤400000000):b9 Tryz.prog 28 [.pa (cD e)] [] (Go.AM.T (prE e)) []:=(kI (esz e)).1 e (le_refl _) c hO q
end Go.Proofs.YtpmheldmadendaaGreatDoor
namespace Go.AM
open Go
section
variable {P:Program}{T:TT}{n:Nat}{o:Oper}{st:St}{d:Nat}
theorem aCc {c ty:TypeId}{i:TI}{fs:List (Nat×TypeId)}{x y:Operand}{q r:List C}(J:Tok P T) (hq:aFp P c) (ho:o.op=.binOp .neq c x y ty) (O:o.dst=some d) (M:d<n) (hi:T[c]?=some (some i)) (U:i.k=.st fs)
  (hx:opv st x=some (.pa q)) (hy:opv st y=some (.pa r)) (hs:scalars T 0 fs q r=true):Step P n o st ⟨opr x++opr y,[]⟩ ⟨some (d,some (B (!aBl q r))),[]⟩:=by
 refine Step.value O M fun _ ha _ S μ ac w A=>?_
 have h1:=aI A hx (c8 ha).1;have h2:=aI A hy (c8 ha).2;simp only[aK] at h1 h2;obtain⟨us,h1,Y⟩:=h1;obtain⟨vs,h2,h4⟩:=h2;obtain⟨fields,hu,I⟩:=(J.get hi).struct U;unfold aFp aFp.check at hq;simp only[hu,Aa,Bh] at hq;obtain⟨⟨q1,q2⟩,q3⟩:=hq;have E:P.fieldsOf c=fields:=by simp[Program.fieldsOf,hu]
 have hn : ∀ f ∈ fields.toList, f.name ≠ "_" := fun f I => by
  have:=(A3.1 q1) f I;simpa using this
 refine⟨.bool (!aBl q r),vA ho h1 h2 ?_ rfl ?_,by simp[aK,aQ,Rep]⟩
 ·have hp:(program:Sem Program).run P w=.ok P w:=rfl;simp only[eqGuard];simp[hp,q3]
 ·rw[run_equalIn_struct w 9999 c _ _ (by rw[E,hu]) q2,E];exact mJ J ⟨us⟩ ⟨vs⟩ 9998 w fields.toList 0 q r (by rw[←I];exact hs) hn (by simpa using Y) (by simpa using h4)
end
end Go.AM
namespace Go.Proofs.YtpmheldmadendaaGreatDoor
open Go Go.AM
set_option maxRecDepth 20000
set_option maxHeartbeats 4000000
def aQ4:Str:=[102,32,120,32,61,32,103,32,40,120,32,58,32,73,110,116,41]
def aRw:Str:=[92,32,120,32,45,62,32,103,32,40,120,32,58,32,73,110,116,41]
def aMl:Ex:=.mk 5 2 0 [] [.mk 4 6 0 [] [.mk 1 6 0 [103] [] [] [] mH,.mk 8 9 0 [] [.mk 1 9 0 [120] [] [] [] mH] [] [] ⟨[],[],.mk 3 0 [73,110,116] []⟩] [] [] mH] [.mk 2 2 0 [120] []] [] mH
def aRn:Bd:=.mk [102] 0 false mH aMl
theorem aNx:gD aQ4=(⟨[],[],[],[aRn]⟩,0,0):=by kernel_rfl
theorem aNw:prE aMl=aRw:=by kernel_rfl
theorem aMj (n:Int) (h:n=0):aAg n:=by unfold aAg;omega
theorem SchP.z:SchP mH:=⟨.leaf 0 [] (.inl rfl),fun p hp=>(by cases hp),Ae _⟩
theorem aNy:exP aMl∧lZ aMl∧exW aMl≤400000000:=by
 have hs:SchP ⟨[],[],.mk 3 0 [73,110,116] []⟩:=⟨.leaf 3 _ (.inr (.inr rfl)),fun p hp=>(by cases hp),Ae _⟩
 have ho:SchOk ⟨[],[],.mk 3 0 [73,110,116] []⟩:=⟨⟨⟨rfl,rfl⟩,by rw[tn,tns];decide⟩,fun p hp=>(by cases hp),Ae _,Ae _⟩
 refine⟨⟨aMj _ rfl,⟨⟨aMj _ rfl,trivial⟩,trivial⟩,.z,⟨⟨aMj _ rfl,trivial,.z,⟨⟨aMj _ rfl,trivial,.z,trivial,trivial⟩,⟨aMj _ rfl,trivial,hs,⟨⟨aMj _ rfl,trivial,.z,trivial,trivial⟩,trivial⟩,trivial⟩,trivial⟩,trivial⟩,trivial⟩,trivial⟩,?_,by decide⟩;have ar:∀(f:Int) (a b:Nat),(f=1)→(f=4→a=2)∧(f=5∨f=6∨f=8→a=1)∧(f=7→a=b):=fun f a b h=>⟨fun k=>by omega,fun k=>by omega,fun k=>by omega⟩
 exact⟨⟨by decide,by decide,by decide⟩,.z,⟨fun h=>by omega,fun _=>rfl,fun h=>by omega⟩,⟨⟨Ae _,trivial⟩,trivial⟩,⟨⟨⟨by decide,by decide,by decide⟩,.z,⟨fun _=>rfl,fun h=>by omega,fun h=>by omega⟩,trivial,⟨⟨⟨Ae _,Ae _,Ae _⟩,.z,ar 1 _ _ rfl,trivial,trivial,trivial⟩,⟨⟨by decide,by decide,by decide⟩,ho,⟨fun h=>by omega,fun _=>rfl,fun h=>by omega⟩,trivial,⟨⟨⟨Ae _,Ae _,Ae _⟩,.z,ar 1 _ _ rfl,trivial,trivial,trivial⟩,trivial⟩,trivial⟩,trivial⟩,trivial⟩,trivial⟩,trivial⟩
theorem aK9:b9 Tryz.prog 11 [] [] (B true) []:=by
 have hp:=oQ aQ4 (aJh aQ4);rw[aNx] at hp;obtain⟨c,q,r⟩:=aNy;have he:=wH aMl c q r;rw[aNw] at he;refine bM (n:=36) tok Tryz.func11 rfl rfl rfl ?_;refine sg rfl (aA (aC mixed (kc hp ?_)));refine kz 7 rfl (aA (sk 2 rfl (k_ (g_ rfl rfl (aCc tok (by unfold aFp;kernel_rfl) rfl rfl (by decide) (tg rfl) rfl rfl rfl rfl)) ?_)));refine ak 6 [(3,.bv false),(8,.bv false)] rfl (az (aB rfl nofun (fun _=>aE (sgh [(2,.row 0 (bH aRn))] rfl (skh 11 [(3,.bv true),(8,.bv true),(9,.bv true)] rfl (kcG he ?_))))));exact ak 3 [(9,.bv true),(13,.bv true)] rfl (az (aD rtT))
theorem aA2 (s:Str) (l:List Int) (at':Int) (c:UInt8) (hl:aMt l) (A:Fits l) (E:i64 at'):b9 Tryz.prog 5 [Go.AM.T s,.one (.c (.sl 1 (l.map pO))),I .i64 at',I .u8 c.toNat] [] (B true) []:=by
 have hM:3000000000≤maxLen:=by decide
 obtain⟨p,Y,hp⟩:=aD1 l hl A;obtain⟨t,ht⟩:=aHh l hl A;obtain⟨q,hq⟩:=aHi p at' c E (by omega);have hs:=aK7 s 60;refine bM (n:=61) tok Tryz.func5 rfl rfl rfl ?_;refine sg rfl (sk 1 rfl (kc hp ?_));refine kz 1 rfl (sk 1 rfl (kc hs ?_));refine ak 1 [] rfl (kc ht ?_);refine ak 4 [] rfl (kc hq ?_);refine ak 5 [(12,.all)] rfl (az ?_);have hx:∃L:List Str,L=[s.take 60,t,p,q,[40]++p++[41]]∧L.length=5:=⟨_,rfl,rfl⟩
 obtain⟨L,J,aa⟩:=hx;refine AWp.sub (st2:=mk [(10,dH L)] []) (sl (he:=⟨by rw[J];rfl,trivial⟩)) ?_;clear J;have ab:(L.map bD).length=L.length:=χ _;refine aA (sg rfl (aF (aM (fun i:Nat=>mk [(10,dH L),(11,I .i64 (i:Nat))] []) (fun i=>i≤5) (fun i=>5-i) 0 (Ae _) sl ?_)));intro i hi;refine aA (sg rfl (aB rfl (fun hb=>?_) (fun hb=>?_)))
 ·have ac:i<5:=by have:=κ hb;omega
  obtain⟨s,hs⟩:=aP (l:=L) (k:=i) (by omega);have ad:=bG bD hs;have hp:=aO4 s;have M:=aO3 s;have r:=tY (psz (nR s).1) (nR s).1 (le_refl _) (aKj s);have O:(!aBl [.int .i64 (nR s).2.1,.int .i64 (nR s).2.2] [.int .i64 (nR s).2.1,.int .i64 (nR s).2.2])=false:=by simp[aBl,ceq]
  generalize nR s=y at *;obtain⟨pg,e,p⟩:=y;dsimp only at hp M r O;refine aE (aA (aF (skh 4 [(2,.row i (bD s))] rfl (kc hp ?_))));refine kz 7 rfl (skh 4 [(2,.row i (bD s))] rfl (kc M ?_));refine kz 7 rfl (sk 2 rfl (k_ (g_ rfl rfl (aCc tok (by unfold aFp;kernel_rfl) rfl rfl (by decide) (tg rfl) rfl rfl rfl rfl)) ?_));refine ak 3 [(3,.bv false)] rfl (kcG r ?_);exact ak 2 [(3,.bv false),(8,.bv false)] rfl (az (aB rfl nofun (fun _=>aE (agN [] rfl ⟨i+1,by omega,by dsimp only;omega,sl⟩))))
 refine aL ?_;have U:=aK9;refine aA (aC mixed (kc U ?_));exact kz 1 rfl (aD rtT)
end Go.Proofs.YtpmheldmadendaaGreatDoor
