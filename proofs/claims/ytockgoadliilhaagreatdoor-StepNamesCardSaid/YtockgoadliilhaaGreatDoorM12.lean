/-
  Texts Ly8 to Lr11 in one.
-/
import Derived.Test.YtockgoadliilhaaGreatDoorM11
import Derived.Shelf.Strconv.Itoa3
import Derived.Lib.LaidTab
open List (append_assoc append_nil drop_left drop_left' drop_zero flatMap_append flatMap_cons flatMap_nil foldl_append foldl_cons length_append length_cons length_eq_one_iff length_eq_zero_iff length_map length_nil length_range length_set map_append map_congr_left map_cons map_map map_nil mem_append mem_cons mem_cons_of_mem mem_cons_self mem_filter mem_flatMap mem_map mem_of_mem_take mem_range mem_singleton nil_append nodup_range of_mem_zip set_cons_succ sum_cons sum_nil take_add_one take_left take_left' take_length take_of_length_le take_succ_cons take_zero)
open Nat (add_assoc add_mul le_mul_of_pos_right le_refl le_trans lt_of_lt_of_le mul_add mul_comm mul_le_mul_left mul_le_mul_right mul_left_comm mul_one zero_add zero_le)
namespace Go.Proofs.YtockgoadliilhaaGreatDoor
open Go Go.AM
set_option maxRecDepth 20000
mutual
def gvC:Core→Option (Str×List Core)
 | .mk f _ s _ ks _ _=>if f=2 then some (s,[]) else if f=4 then(gvH ks).map (fun p=>(p.1,p.2++ks.drop 1)) else if f=6 then gvH ks else none
def gvH:List Core→Option (Str×List Core)
 | []=>none
 | c::_=>gvC c
end
def xG:Option (Str×List Core)→V
 | some (s,l)=>.tup [Go.AM.T s,.one (.c (.sl 10 (l.map aB))),B true]
 | none=>.tup [Go.AM.T [],.one (.c (.sl 10 [])),B false]
theorem iN {X:Nat}{f n:Int}{s:Str}{t:Ty}{ks:List Core}{bs:List Bind}{al:List Alt}(h:cE (QL X) (.mk f n s t ks bs al)) (hf:f=4∨f=10):(∃a b,ks=[a,b])∧bs=[]∧al=[]:=by
 obtain⟨h1,_⟩:=aT.1 h;have g:=h1.1;unfold okF at g;rw[ξ hf] at g;obtain⟨g1,g2,g3⟩:=ψ g;rw[θ] at g2 g3;refine⟨?_,Bn.1 g2,Bn.1 g3⟩
 match ks,g1 with
 | [a,b],_=>exact⟨a,b,rfl⟩
theorem aC1 (X:Nat) (c:Core) (Y:cE (QL X) c) (aa:b7 c≤570000000000):aU Tryz.prog 67 [.pa (aB c)] [] (xG (gvC c)) []:=by
 refine bO (n:=30) tok Tryz.func67 rfl rfl rfl ?_;refine sg rfl (sg rfl (AWp.sub (Sub.own (t:=5) (id:=720) 37 10 rfl rfl) ?_));refine aC (aL (fun x:Core×List Core=>mk [(1,.one (.vp 1 0)),(5,.one (.hs 720 0 x.2.length x.2.length))] [(720,.arr 37 10 (x.2.map aB) 0),(1,.var 37 (bA x.1))]) (fun x=>cE (QL X) x.1∧gvC c=(gvC x.1).map (fun p=>(p.1,p.2++x.2.reverse))∧x.2.length+b7 x.1≤b7 c) (fun x=>b7 x.1) (c,[]) ⟨Y,by cases gvC c<;>simp,by simp⟩ sl ?_);rintro⟨Z,acc⟩ ⟨q,hg,O⟩;dsimp only at q hg O ⊢;obtain⟨f,n,s,t,ks,bs,al⟩:=Z;have ab:(acc.map aB).length=acc.length:=θ _;have J:=aMl acc (by omega);obtain⟨_,W,_,_⟩:=aT.1 q;refine aC (a8 (sg rfl (aC (sg rfl (aA rfl (fun hb=>?_) (fun hb=>?_))))))
 ·have h2:f=2:=ψ hb;have e:gvC c=some (s,acc.reverse):=by rw[hg,gvC,ξ h2];rfl
  rw[e];refine sk 1 rfl (kc J ?_);refine az (sg rfl (AWp.sub (Sub.freeze (id:=720) rfl) ?_));exact aI ⟨.inr rfl,⟨_,_,.tmp rfl (.tmp rfl (.tmp rfl .nil)),.cons .refl (.cons (hs_all rfl rfl (by simp) rfl) (.cons .refl .nil)),rfl⟩,trivial,rfl⟩
 have h2:¬f=2:=δ hb;refine sg rfl (aA rfl (fun hb=>?_) (fun hb=>?_))
 ·have h4:f=4:=ψ hb;subst h4;obtain⟨⟨a,b,rfl⟩,rfl,rfl⟩:=iN q (.inl rfl);have I:gvC c=(gvC a).map (fun p=>(p.1,p.2++(acc++[b]).reverse)):=by
   rw[hg,gvC,φ h2,ξ rfl,gvH];cases gvC a<;>simp
  have N:b7 (.mk 4 n s t [a,b] [] [])=1+s.length+(b7 a+(b7 b+0))+0+0:=by rw[b7,bR,bR,bR,eT,eU]
  have ac:=c9 b;have ad:acc.length+1≤570000000000:=by omega
  refine ag [(3,.row 1 (aB b)),(5,.all)] rfl (ag [(2,.row 0 (aB a))] rfl ⟨(a,acc++[b]),⟨W a (by simp),I,by rw[ω];show acc.length+1+b7 a≤_;omega⟩,by dsimp only;omega,?_⟩);exact sl
 have h4:¬f=4:=δ hb;refine sg rfl (aA rfl (fun hb=>?_) (fun hb=>?_))
 ·have h6:f=6:=ψ hb;subst h6;obtain⟨⟨a,rfl⟩,rfl,rfl⟩:=cO q (.inr (.inl rfl));have I:gvC c=(gvC a).map (fun p=>(p.1,p.2++acc.reverse)):=by
   rw[hg,gvC,φ h2,φ h4,ξ rfl,gvH]
  have N:b7 (.mk 6 n s t [a] [] [])=1+s.length+(b7 a+0)+0+0:=by rw[b7,bR,bR,eT,eU]
  exact aD (ag [(2,.row 0 (aB a))] rfl ⟨(a,acc),⟨W a (by simp),I,by dsimp only;omega⟩,by dsimp only;omega,sl⟩)
 have h6:¬f=6:=δ hb;have e:gvC c=none:=by rw[hg,gvC,φ h2,φ h4,φ h6];rfl
 rw[e];exact sg rfl (aI ⟨.inr rfl,⟨_,_,.tmp rfl (.tmp rfl (.tmp rfl .nil)),.cons .refl (.cons (.one (.c .nl .nil)) (.cons .refl .nil)),rfl⟩,trivial,rfl⟩)
def shC (c:Core):Bool:=decide (c.form=5) || (decide (c.form=7) || (decide (c.form=3) || (gvC c).isSome))
theorem xW (X:Nat) (c:Core) (I:cE (QL X) c) (q:b7 c≤570000000000):aU Tryz.prog 29 [.pa (aB c)] [] (B (shC c)) []:=by
 have hg:=aC1 X c I q;obtain⟨f,n,s,t,ks,bs,al⟩:=c;refine bO (n:=19) tok Tryz.func29 rfl rfl rfl ?_;refine sg rfl (a8 (sg rfl ?_));by_cases h:f=5∨f=7∨f=3
 ·have e:shC (.mk f n s t ks bs al)=true:=by
   unfold shC;show(decide (f=5) || (decide (f=7) || (decide (f=3) || _)))=true;rcases h with h | h | h
   ·rw[Ak h];rfl
   ·rw[Ak h];simp
   ·rw[Ak h];simp
  rw[e];have J:¬f=5→¬f=7→some (B (decide (f=3)))=some (B true):=fun h5 h7=>by rw[Ak (show f=3 by omega)]
  refine aC (a8 (AWp.cut (mk [(8,B true)] []) ?_ ?_))
  ·refine sg rfl (aA rfl (fun hb=>?_) (fun hb=>?_))
   ·have h5:f=5:=ψ hb;exact aD (sl (he:=⟨by show some (B (decide (f=5)))=some (B true);rw[Ak h5],trivial⟩))
   have h5:¬f=5:=δ hb;refine sg rfl (aA rfl (fun hb=>?_) (fun hb=>?_))
   ·have h7:f=7:=ψ hb;exact aD (sl (he:=⟨by show some (B (decide (f=7)))=some (B true);rw[Ak h7],trivial⟩))
   have h7:¬f=7:=δ hb;exact ag [] rfl (sl (he:=⟨J h5 h7,trivial⟩))
  exact aA rfl (fun _=>sg rfl (aI rtT)) nofun
 ·have h5:¬f=5:=fun e=>h (.inl e)
  have h7:¬f=7:=fun e=>h (.inr (.inl e))
  have h3:¬f=3:=fun e=>h (.inr (.inr e))
  have e:shC (.mk f n s t ks bs al)=(gvC (.mk f n s t ks bs al)).isSome:=by
   unfold shC;show(decide (f=5) || (decide (f=7) || (decide (f=3) || _)))=_;rw[Al h5,Al h7,Al h3];rfl
  rw[e];refine aC (a8 (AWp.cut (mk [(1,.one (.vp 1 0)),(8,B false)] [(1,.var 37 (bA (.mk f n s t ks bs al)))]) ?_ ?_))
  ·exact sg rfl (aA rfl (fun hb=>absurd (ψ hb) h5) (fun _=>sg rfl (aA rfl (fun hb=>absurd (ψ hb) h7) (fun _=>ag [] rfl (sl (he:=⟨rfl,by show some (B (decide (f=3)))=some (B false);rw[Al h3],trivial⟩))))))
  refine aA rfl nofun (fun _=>aD ?_);cases hx:gvC (.mk f n s t ks bs al) with
  | none=>
   rw[hx] at hg;exact sgh [(1,.pc (xG none))] rfl (sg rfl (aI rtT))
  | some p=>
   obtain⟨s1,N⟩:=p;rw[hx] at hg;exact sgh [(1,.pc (xG (some (s1,N))))] rfl (sg rfl (aI rtT))
theorem aQa (c:Core) (q:b7 c≤570000000000):aU Tryz.prog 125 [.pa (aB c)] [] (ouV (pfR c)) [(500,ouO (pfR c))]:=oF c (fun x _=>pF (b7 x) x (le_refl _)) q
set_option maxHeartbeats 4000000
def pcN (n:Nat):Str:=37::Lib.decDigits n
theorem aKf (n m:Nat) (h:pcN n=pcN m):n=m:=aSb _ _ (List.cons.inj h).2
theorem jW (n:Nat):¬nh (pcN n):=fun h=>h.1 rfl
def mI (tk:List Str) (n:Nat):List Str:=((List.range n).map pcN).filter fun s=>decide (¬s∈tk)
theorem s4 (tk:List Str) (n:Nat):mI tk (n+1)=if pcN n∈tk then mI tk n else mI tk n++[pcN n]:=by
 unfold mI;rw[List.range_succ,Ar,List.filter_append];by_cases h:pcN n∈tk
 ·rw[ξ h];simp[h]
 ·rw[φ h];simp[h]
theorem aO8 {tk:List Str}{n:Nat}{x:Str}(h:x∈mI tk n):¬x∈tk∧∃m,m<n∧x=pcN m:=by
 obtain⟨h1,h2⟩:=mem_filter.1 h;obtain⟨m,hm,rfl⟩:=Ad.1 h1;exact⟨ψ h2,m,mem_range.1 hm,rfl⟩
theorem aO9 (tk:List Str) (n:Nat):n≤(mI tk n).length+tk.length:=by
 have I:((List.range n).map pcN).Nodup:=by
  rw[List.Nodup,List.pairwise_map];exact List.Pairwise.imp (fun h e=>h (aKf _ _ e)) nodup_range
 have h:=fZ ((List.range n).map pcN) (mI tk n++tk) I fun x hx=>by
  by_cases q:x∈tk
  ·exact χ.2 (.inr q)
  ·exact χ.2 (.inl (mem_filter.2 ⟨hx,Ak q⟩))
 rw[θ,length_range,ω] at h;exact h
theorem x4 (tk:List Str):∀k:Nat,∃N,N≤tk.length+k∧(mI tk N).length=k∧∀m,m<N→(mI tk m).length<k:=by
 intro k;have h0:∀n,(mI tk (n+1)).length≤(mI tk n).length+1:=fun n=>by rw[s4];split<;>simp
 have key:∀M:Nat,k≤(mI tk M).length→∃N,N≤M∧(mI tk N).length=k∧∀m,m<N→(mI tk m).length<k:=by
  intro M
  induction M with
  | zero=>intro h;exact⟨0,le_refl _,by have:(mI tk 0).length=0:=rfl;omega,fun m hm=>by omega⟩
  | succ M J=>
   intro h;by_cases O:k≤(mI tk M).length
   ·obtain⟨N,h1,h2,h3⟩:=J O;exact⟨N,by omega,h2,h3⟩
   ·refine⟨M+1,le_refl _,by have:=h0 M;omega,fun m hm=>?_⟩;by_cases W:k≤(mI tk m).length
    ·exfalso;have q:∀d,(mI tk m).length≤(mI tk (m+d)).length:=fun d=>by
      induction d with
      | zero=>exact le_refl _
      | succ d I=>
       rw[←B8,s4];split
       ·exact I
       ·rw[ω];omega
     have:=q (M-m);rw[show m+(M-m)=M by omega] at this;omega
    ·omega
 exact key (tk.length+k) (by have:=aO9 tk (tk.length+k);omega)
noncomputable def aH7 (tk:List Str) (k:Nat):Nat:=Classical.choose (x4 tk k)
noncomputable def oL (tk:List Str) (k:Nat):List Str:=mI tk (aH7 tk k)
theorem aCi (tk:List Str) (k:Nat):aH7 tk k≤tk.length+k:=(B7 (x4 tk k)).1
theorem qN (tk:List Str) (k:Nat):(oL tk k).length=k:=(B7 (x4 tk k)).2.1
theorem aKl (tk:List Str) (k:Nat) {m:Nat}(h:m<aH7 tk k):(mI tk m).length<k:=(B7 (x4 tk k)).2.2 m h
theorem qM {tk:List Str}{k:Nat}{x:Str}(h:x∈oL tk k):¬x∈tk∧¬nh x∧∃m,m<tk.length+k∧x=pcN m:=by
 obtain⟨h1,m,hm,rfl⟩:=aO8 h;exact⟨h1,jW m,m,by have:=aCi tk k;omega,rfl⟩
theorem aMb:∀(k n:Nat),n<10^(k+1)→(Lib.decDigits n).length≤k+1
 | 0,n,h=>by rw[Lib.decDigits,dif_pos (by omega)];exact le_refl _
 | k+1,n,h=>by
  rw[Lib.decDigits];split
  ·simp
  ·rw[ω];have:=aMb k (n/10) (by rw[Nat.pow_succ] at h;omega);simp only[Bm,List.length_nil];omega
theorem aXp {n:Nat}(h:n<10^29):(pcN n).length≤30:=by
 have:=aMb 28 n h;unfold pcN;rw[Ag];omega
mutual
theorem aPm {X:Nat}{σ:Str→Nat}(hn:∀x,nh x→σ x=1+w30 x):∀c:Core,cE (QL X) c→(∀x∈pfR c,σ x=1+w30 x)→mS σ c=m30 c
 | .mk f n s t ks bs al,h,hp=>by
  obtain⟨⟨_,_,_,_,_,N,O,W⟩,Y,Z,qa⟩:=aT.1 h;rw[mS,m30];by_cases h1:f=1
  ·obtain⟨rfl,rfl,rfl⟩:=q9 h h1;rw[ξ h1,hp s (by rw[pfR,ξ h1];exact Aa.2 rfl)];rfl
  ·rw[φ h1];have hg:∀x∈gvN f s bs,nh x:=fun x hx=>by
    unfold gvN at hx;rcases χ.1 hx with hx | hx
    ·by_cases h5:f=5
     ·rw[ξ h5] at hx;rw[Aa.1 hx];exact N h5
     ·rw[φ h5] at hx;cases hx
    ·obtain⟨b,hb,rfl⟩:=Ad.1 hx;exact O (bhd b) (Ad.2 ⟨b,hb,rfl⟩)
   have J:∀p∈ks++bs.map Bind.body,∀x∈pfR p,σ x=1+w30 x:=fun p I x hx=>by
    by_cases q:x∈gvN f s bs
    ·exact hn x (hg x q)
    ·exact hp x ((gM h1).2 (.inl ⟨p,I,hx,q⟩))
   have ha:∀a∈al,∀x∈pfR a.body,σ x=1+w30 x:=fun a ha x hx=>by
    by_cases q:x∈a.vars
    ·exact hn x (W (ahd a) (Ad.2 ⟨a,ha,rfl⟩) x q)
    ·exact hp x ((gM h1).2 (.inr ⟨a,ha,hx,q⟩))
   rw[aRr hn ks Y fun p I=>J p (χ.2 (.inl I)),aRs hn bs Z fun b hb=>J b.body (χ.2 (.inr (Ad.2 ⟨b,hb,rfl⟩))),aRt hn al qa ha]
theorem aRr {X:Nat}{σ:Str→Nat}(hn:∀x,nh x→σ x=1+w30 x):∀l:List Core,(∀c∈l,cE (QL X) c)→(∀c∈l,∀x∈pfR c,σ x=1+w30 x)→mSs σ l=cK l
 | [],_,_=>by rw[mSs,cK]
 | c::l,h,hp=>by rw[mSs,cK,aPm hn c (h c ζ) (hp c ζ),aRr hn l (fun x hx=>h x (κ _ hx)) fun x hx=>hp x (κ _ hx)]
theorem aRs {X:Nat}{σ:Str→Nat}(hn:∀x,nh x→σ x=1+w30 x):∀l:List Bind,(∀c∈l,cE (QL X) c.body)→(∀c∈l,∀x∈pfR c.body,σ x=1+w30 x)→mSb σ l=fR l
 | [],_,_=>by rw[mSb,fR]
 | .mk s t c::l,h,hp=>by rw[mSb,fR,aPm hn c (h _ ζ) (hp _ ζ),aRs hn l (fun x hx=>h x (κ _ hx)) fun x hx=>hp x (κ _ hx)]
theorem aRt {X:Nat}{σ:Str→Nat}(hn:∀x,nh x→σ x=1+w30 x):∀l:List Alt,(∀c∈l,cE (QL X) c.body)→(∀c∈l,∀x∈pfR c.body,σ x=1+w30 x)→mSa σ l=iC l
 | [],_,_=>by rw[mSa,iC]
 | .mk f n s v c::l,h,hp=>by rw[mSa,iC,aPm hn c (h _ ζ) (hp _ ζ),aRt hn l (fun x hx=>h x (κ _ hx)) fun x hx=>hp x (κ _ hx)]
end
noncomputable def iB (c:Core) (l:List (Str×Str)):Core:=l.foldl (fun c p=>cB (m30 c) c p.1 (vC p.2)) c
noncomputable def mY (c:Core) (l:List (Str×Core)):Core:=l.foldl (fun c p=>cB (m30 c) c p.1 p.2) c
def fX (c:Core) (l:List Core):List Str:=pfR c++l.flatMap pfR
noncomputable def zB (c:Core) (names:List Str) (l:List Core):Core:=mY (iB c (names.zip (oL (fX c l) names.length))) ((oL (fX c l) names.length).zip l)
structure PO (D M X B:Nat) (c:Core) (l:List Core):Prop where
 q:cE (QL X) c
 dep:cw fD 0 c r0≤D
 bq:∀b∈l,cE (QL X) b
 bdep:∀b∈l,cw fD 0 b r0≤D
 ty:∃U:List Str,U.length+2*(tlC c+(l.map tlC).sum)≤M∧(∀x∈tyR c,x∈U)∧∀b∈l,∀x∈tyR b,x∈U
 one:1≤B
 bsz:∀b∈l,m30 b≤31*B
 sz:m30 c*B≤Big
 bsum:(l.map m30).sum≤Big
structure PR (X B:Nat) (c:Core) (l:List Core) (r:Core):Prop where
 q:cE (QL X) r
 cw:∀(A:Alg) (E:Nat) (ρ:Str→Nat) (K:Nat),cw A E c ρ≤K→(∀b∈l,cw A E b ρ≤K)→cw A E r ρ≤K
 ty:∀x∈tyR r,x∈tyR c∨∃b∈l,x∈tyR b
 tl:tlC r≤tlC c+(l.map tlC).sum
 sz:m30 r≤m30 c*B
theorem wD {l:List Core}{g:Core→Nat}{b:Core}(h:b∈l):g b≤(l.map g).sum:=by
 induction l with
 | nil=>cases h
 | cons x l q=>
  rw[Am,Cd];rcases Ao.1 h with e | h
  ·rw[e];omega
  ·have:=q h;omega
section
variable {D M X B:Nat}{c:Core}{l:List Core}
theorem PO.cg (h:PO D M X B c l):CG D M X c:=by
 obtain⟨U,h1,h2,_⟩:=h.ty;refine⟨h.q,h.dep,?_,le_trans (Bg _ h.one) h.sz⟩;have:=dD h2;omega
theorem PO.cgb (h:PO D M X B c l) {b:Core}(hb:b∈l):CG D M X b:=by
 obtain⟨U,h1,_,h3⟩:=h.ty;refine⟨h.bq b hb,h.bdep b hb,?_,le_trans (wD hb) h.bsum⟩;have:=dD (h3 b hb);have:=wD (g:=tlC) hb;omega
theorem wQ (N:cQ 540000000000) (I:M+D≤700000) (J:31≤X):∀(ps:List (Str×Str)) (c:Core),CG D M X c→(∀p∈ps,p.2.length≤30)→R0 c (iB c ps)∧CG D M X (iB c ps)
 | [],c,h,_=>⟨R0.refl c,h⟩
 | p::ps,c,h,hp=>by
  have O:=hp p ζ;have h1:=sS N I J (m30 c) c (le_refl _) h p.1 (vC p.2) (CG.vC O J);have h2:=h1.r0 O;obtain⟨h3,h4⟩:=wQ N I J ps (cB (m30 c) c p.1 (vC p.2)) (h2.cg h h1.rx.q) fun q W=>hp q (κ _ W)
  exact⟨h2.trans h3,h4⟩
structure P2 (X B:Nat) (c:Core) (l:List Core) (own:List Str) (i:Nat) (r:Core):Prop where
 q:cE (QL X) r
 cw:∀(A:Alg) (E:Nat) (ρ:Str→Nat) (K:Nat),cw A E c ρ≤K→(∀b∈l,cw A E b ρ≤K)→cw A E r ρ≤K
 ty:∀x∈tyR r,x∈tyR c∨∃b∈l,x∈tyR b
 tl:tlC r≤tlC c+((l.take i).map tlC).sum
 sz:mS (fun s=>if s∈own then(1+w30 s)*B else 1+w30 s) r≤m30 c*B
theorem aD9 {g:Core→Nat}:∀{l:List Core}{i:Nat},((l.take i).map g).sum≤(l.map g).sum
 | [],i=>by simp
 | x::l,0=>by simp
 | x::l,i+1=>by
  rw[Ax,Am,Am,Cd,Cd];have:=aD9 (g:=g) (l:=l) (i:=i);omega
theorem P2.cg {own:List Str}{i:Nat}{r:Core}(I:PO D M X B c l) (h:P2 X B c l own i r):CG D M X r:=by
 obtain⟨U,h1,h2,h3⟩:=I.ty;refine⟨h.q,h.cw fD 0 r0 D I.dep I.bdep,?_,?_⟩
 ·have:=dD (c:=r) (a:=U) fun x hx=>by
   rcases h.ty x hx with h | ⟨b,hb,h⟩
   ·exact h2 x h
   ·exact h3 b hb x h
  have:=h.tl;have:=aD9 (g:=tlC) (l:=l) (i:=i);omega
 ·refine le_trans (zS (fun s=>?_) r) (le_trans h.sz I.sz);split
  ·exact Bg _ I.one
  ·exact le_refl _
theorem P2.zero {own:List Str}{r:Core}(q:PO D M X B c l) (h:R0 c r) (I:cE (QL X) r):P2 X B c l own 0 r:=by
 refine⟨I,fun A E ρ K h1 _=>le_trans (h.cw A E ρ) h1,fun x hx=>.inl (h.ty x hx),by simpa using h.tl,?_⟩;refine le_trans (aZq q.one (fun s=>?_) r) (Ay _ h.sz);split
 ·exact le_refl _
 ·exact Bg _ q.one
theorem P2.step (Z:cQ 540000000000) (N:M+D≤700000) (hX:31≤X) {tk:List Str}{k i:Nat}{r s b:_}(J:PO D M X B c l) (htk:∀b∈l,∀x∈pfR b,x∈tk) (h:P2 X B c l (oL tk k) i r) (hs:s∈oL tk k) (hs30:s.length≤30) (hb:l[i]?=some b):
  TB X r s b (cB (m30 r) r s b)∧P2 X B c l (oL tk k) (i+1) (cB (m30 r) r s b):=by
 have I:=η hb;have O:=h.cg J;have W:=J.cgb I;have h1:=sS Z N hX (m30 r) r (le_refl _) O s b W;have h2:=aTd Z N hX (m30 r) r (le_refl _) O s b W;refine⟨h1,h1.rx.q,fun A E ρ K k1 k2=>?_,fun x hx=>?_,?_,?_⟩
 ·have:=h1.rx.cw A E ρ;have:=h.cw A E ρ K k1 k2;have:=k2 b I;omega
 ·rcases h1.rx.ty x hx with Y | Y
  ·exact h.ty x Y
  ·exact .inr ⟨b,I,Y⟩
 ·have e:(l.take (i+1))=l.take i++[b]:=by rw[Bh,hb];rfl
  rw[e,Ar,List.sum_append];have:=h1.rx.tl;have:=h.tl;simp only[Am,Bs,Cd,sum_nil];omega
 ·refine le_trans (h2.ms _ ⟨fun s=>?_,fun l hl=>?_⟩ ?_) h.sz
  ·split
   ·exact Bg _ J.one
   ·exact le_refl _
  ·rw[φ fun hin=>(qM hin).2.1 (aFv l)];unfold w30;omega
  ·have e:=aPm (X:=X) (σ:=fun s=>if s∈oL tk k then(1+w30 s)*B else 1+w30 s) (fun x hx=>by
    rw[φ fun hin=>(qM hin).2.1 hx]) b (J.bq b I) (fun x hx=>by
    rw[φ fun hin=>(qM hin).1 (htk b I x hx)])
   rw[e,ξ hs];refine le_trans (J.bsz b I) (Ay _ ?_);unfold w30;omega
theorem P2.fin {own:List Str}{r:Core}(I:PO D M X B c l) (h:P2 X B c l own l.length r):PR X B c l r:=by
 refine⟨h.q,h.cw,h.ty,?_,?_⟩
 ·have:=h.tl;rwa [An] at this
 ·refine le_trans (zS (fun s=>?_) r) h.sz;split
  ·exact Bg _ I.one
  ·exact le_refl _
end
theorem sN {α β γ:Type}(g:γ→α×β→γ) (z:γ) {a:List α}{b:List β}{i:Nat}{x:α}{y:β}(ha:a[i]?=some x) (hb:b[i]?=some y):((a.zip b).take (i+1)).foldl g z=g (((a.zip b).take i).foldl g z) (x,y):=by
 have h:(a.zip b)[i]?=some (x,y):=by rw[List.getElem?_zip_eq_some];exact⟨ha,hb⟩
 rw[Bh,h,B4];rfl
theorem rX {l:List Core}:∀i,((l.take i).flatMap pfR).length≤(l.map m30).sum:=by
 induction l with
 | nil=>intro i;simp
 | cons c l q=>
  intro i;cases i with
  | zero=>simp
  | succ i=>
   rw[Ax,B9,ω,Am,Cd];have:=j0 c;have:=q i;omega
theorem zH {l:List Core}{i:Nat}{b:Core}(h:l[i]?=some b):(l.take (i+1)).flatMap pfR=(l.take i).flatMap pfR++pfR b:=by
 rw[Bh,h,Cl];simp
theorem aTw (hI:cQ 540000000000) {D M X B:Nat}(W:M+D≤700000) (hX:31≤X) (c:Core) (names:List Str) (l:List Core) (hl:names.length=l.length) (hl2:l.length≤1000000) (J:PO D M X B c l):
  (∀x∈oL (fX c l) names.length,x.length≤30)∧(∀i,∀p∈(names.zip (oL (fX c l) names.length)).take i,p.2.length≤30)∧
  ∀i,i≤l.length→P2 X B c l (oL (fX c l) names.length) i (mY (iB c (names.zip (oL (fX c l) names.length))) (((oL (fX c l) names.length).zip l).take i)):=by
 have hBig:Big=250000000000:=rfl;have Y:=J.cg;have hcsz:=Y.sz;have hpfc:=j0 c;have N:=J.bsum;have hfl:∀i,((l.take i).flatMap pfR).length≤250000000000:=fun i=>le_trans (rX i) N
 have O:fX c l=pfR c++(l.take l.length).flatMap pfR:=by rw[An];rfl
 have htkl:(fX c l).length≤500000000000:=by rw[O,ω];have:=hfl l.length;omega
 have hNle:=aCi (fX c l) names.length;have I:∀x∈oL (fX c l) names.length,x.length≤30:=fun x hx=>by
  obtain⟨_,_,m,hm,rfl⟩:=qM hx
  exact aXp (lt_of_lt_of_le hm (by
    have:600000000000≤10^29:=by decide
    omega))
 have hownL:=qN (fX c l) names.length;have Z:∀p∈names.zip (oL (fX c l) names.length),p.2.length≤30:=fun p hp=>I p.2 (of_mem_zip (a:=p.1) (b:=p.2) hp).2
 have ab:∀i,∀p∈(names.zip (oL (fX c l) names.length)).take i,p.2.length≤30:=fun i p hp=>Z p (Bl hp)
 have aa:=wQ hI W hX (names.zip (oL (fX c l) names.length)) c Y Z;have htk:∀b∈l,∀x∈pfR b,x∈fX c l:=fun b hb x hx=>χ.2 (.inr (Cb.2 ⟨b,hb,hx⟩))
 have hP2:∀i,i≤l.length→P2 X B c l (oL (fX c l) names.length) i (mY (iB c (names.zip (oL (fX c l) names.length))) (((oL (fX c l) names.length).zip l).take i)):=by
  intro i
  induction i with
  | zero=>intro _;exact P2.zero J aa.1 aa.2.q
  | succ i ih=>
   intro hi;obtain⟨b,hb⟩:=aJ (show i<l.length by omega);obtain⟨s,hs⟩:=aJ (show i<(oL (fX c l) names.length).length by omega);have:=(P2.step hI W hX J htk (ih (by omega)) (η hs) (I s (η hs)) hb).2
   unfold mY at this ⊢;rw[sN _ _ hs hb];exact this
 exact⟨I,ab,hP2⟩
theorem aP9 (hI:cQ 540000000000) {D M X B:Nat}(aa:M+D≤700000) (hX:31≤X) (c:Core) (names:List Str) (l:List Core) (hl:names.length=l.length) (hl2:l.length≤1000000) (ho:PO D M X B c l):
  aU Tryz.prog 108 [.pa (aB c),aY names,.one (.c (.sl 10 (l.map aB)))] [] (.pa (aB (zB c names l))) []∧PR X B c l (zB c names l):=by
 have hBig:Big=250000000000:=rfl;have hcg:=ho.cg;have hcs:=bV c;have hcsz:=hcg.sz;have hpfc:=j0 c;have hbsum:=ho.bsum;have hfl:∀i,((l.take i).flatMap pfR).length≤250000000000:=fun i=>le_trans (rX i) hbsum
 have hfr:=aQa c (by omega);have hkL:(l.map aB).length=l.length:=θ _;have ab:(names.map bD).length=names.length:=θ _;have ac:fX c l=pfR c++(l.take l.length).flatMap pfR:=by rw[An];rfl
 have htkl:(fX c l).length≤500000000000:=by rw[ac,ω];have:=hfl l.length;omega
 have hNle:=aCi (fX c l) names.length;obtain⟨W,hzpi,hP2⟩:=aTw hI aa hX c names l hl hl2 ho;have hownL:=qN (fX c l) names.length;have hkO:((oL (fX c l) names.length).map bD).length=(oL (fX c l) names.length).length:=θ _;have htk:∀b∈l,∀x∈pfR b,x∈fX c l:=fun b hb x hx=>χ.2 (.inr (Cb.2 ⟨b,hb,hx⟩))
 have hzl:((oL (fX c l) names.length).zip l).length=l.length:=by rw[List.length_zip];omega
 have hfin:=hP2 l.length (le_refl _);rw[←hzl,An,hzl] at hfin;refine⟨?_,hfin.fin ho⟩;refine bO (n:=80) tok Tryz.func108 rfl rfl rfl ?_;refine sg rfl (sk 1 rfl (kc hfr ?_));refine kz 1 rfl (a8 (sg rfl (aC (aL (fun i:Nat=>mk [(1,aY names),(2,.one (.c (.sl 10 (l.map aB)))),(3,.one (.vp 3 0)),(6,.one (.vp 6 0)),(7,ouV (pfR c++(l.take i).flatMap pfR)),(19,.one (.c (.sl 10 (l.map aB)))),(20,I .i64 ((l.map aB).length:Int)),(21,I .i64 i)] [(3,.var 37 (bA c)),(6,.var 37 bL),(500,ouO (pfR c++(l.take i).flatMap pfR))]) (fun i=>i≤l.length) (fun i=>l.length-i) 0 (Aj _) (by rw[Bp,Cx,A0];exact sl) ?_))));intro i hi;refine sg rfl (a8 (aA rfl (fun hb=>?_) (fun hb=>?_)))
 ·have q:=ltD hb hkL;obtain⟨b,J⟩:=aJ q;have hb':=bM aB J;have hbm:=η J;have hbs:=bV b;have hcb:=(ho.cgb hbm).sz;have hfb:=pF (b7 b) b (le_refl _) (by omega);have N:=zH J;have h1:=hfl i;have h2:=j0 b;have hx0:(pfR c++(l.take i).flatMap pfR).length≤500000000000:=by rw[ω];omega
  generalize hG:(l.take i).flatMap pfR=G at N hx0;generalize pfR b=F at hfb N h2;have hkF:(F.map bD).length=F.length:=θ _;have hkx:((pfR c++G).map bD).length=(pfR c++G).length:=θ _;refine aD (a8 (aC (sgh [(0,.row i (aB b))] rfl (aE mixed (ak 2 [] rfl (kc hfb ?_))))));refine kz 2 rfl (ag [] rfl ⟨i+1,q,by dsimp only;omega,?_⟩);dsimp only;rw[N,←At];exact sl (he:=⟨rfl,rfl,rfl,rfl,Go.AM.hs_ren (by simp;omega) (by simp;omega),rfl,rfl,rfl,trivial⟩) (hh:=⟨⟨_,rfl,.varS rfl⟩,⟨_,rfl,.varS rfl⟩,⟨_,rfl,.arrS (by simp)⟩,trivial⟩)
 have Y:=geD hb hkL hi;subst Y;rw[←ac];refine aO (AWp.sub (Sub.freeze (id:=500) rfl) ?_);refine sg rfl (a8 (sg rfl (AWp.sub (Sub.own (t:=10) (id:=720) 9 1 rfl rfl) ?_)));refine aC ?_;have hO:∀n,((mI (fX c l) n).map bD).length=(mI (fX c l) n).length:=fun n=>θ _
 refine aL (fun n:Nat=>mk [(1,aY names),(2,.one (.c (.sl 10 (l.map aB)))),(3,.one (.vp 3 0)),(6,.one (.vp 6 0)),(7,ouV (fX c l)),(10,.one (.hs 720 0 (mI (fX c l) n).length (mI (fX c l) n).length)),(11,I .i64 n)] [(3,.var 37 (bA c)),(6,.var 37 bL),(500,.arr 9 1 ((fX c l).map bD) 2),(720,.arr 9 1 ((mI (fX c l) n).map bD) 0)]) (fun n=>n≤aH7 (fX c l) names.length) (fun n=>aH7 (fX c l) names.length-n) 0 (Aj _) sl ?_;intro n hn;have hct:=bW (fX c l) (pcN n) (by omega);have hit:=hI n (by omega);refine a8 (sg rfl (aA rfl (fun hb=>?_) (fun hb=>?_)))
 ·have q:n<aH7 (fX c l) names.length:=by
   have hb:((mI (fX c l) n).length:Int)<((names.map bD).length:Int):=ψ hb;rw[ab] at hb;by_cases h:n<aH7 (fX c l) names.length
   ·exact h
   ·have e:n=aH7 (fX c l) names.length:=by omega
    rw[e] at hb;have:(mI (fX c l) (aH7 (fX c l) names.length)).length=names.length:=qN _ _;omega
  have hll:(mI (fX c l) n).length≤1000000:=by have:=aKl _ _ q;omega
  have hdl:=nI n (by omega);have hM:600000000000≤maxLen:=by decide
  have Z:=s4 (fX c l) n;refine aD (a8 (aC (sk 1 rfl (kc hit ?_))));refine ak 2 [] rfl ?_ (hc:=by repeat (first | exact trivial | refine⟨by first | rfl | omega | (simp;omega),?_⟩));refine az (sk 2 rfl (kc hct ?_));refine kz 1 rfl (aA rfl (fun hb=>?_) (fun hb=>?_))
  ·have hni:¬pcN n∈fX c l:=by simpa using hb
   rw[φ hni] at Z;generalize mI (fX c l) n=O at Z hll;refine ag [(2,.all)] rfl (ag [] rfl ⟨n+1,q,by dsimp only;omega,?_⟩);dsimp only;rw[Z];exact sl
  ·have hni:pcN n∈fX c l:=by simpa using hb
   rw[ξ hni] at Z;refine aD (ag [] rfl ⟨n+1,q,by dsimp only;omega,?_⟩);dsimp only;rw[Z];exact sl
 have heN:n=aH7 (fX c l) names.length:=by
  have hb:¬((mI (fX c l) n).length:Int)<((names.map bD).length:Int):=δ hb;rw[ab] at hb;by_cases h:n<aH7 (fX c l) names.length
  ·have:=aKl _ _ h;omega
  ·omega
 subst heN;refine aO (AWp.sub (Sub.freeze (id:=720) rfl) ?_);have hown:mI (fX c l) (aH7 (fX c l) names.length)=oL (fX c l) names.length:=rfl;rw[hown];generalize hTK:fX c l=TK at *;generalize hOW:oL TK names.length=own at *;refine a8 (sg rfl (aC (aL (fun i:Nat=>mk [(2,.one (.c (.sl 10 (l.map aB)))),(3,.one (.vp 3 0)),(6,.one (.vp 6 0)),(10,.one (.hs 720 0 own.length own.length)),(48,aY names),(49,I .i64 ((names.map bD).length:Int)),(50,I .i64 i)] [(3,.var 37 (bA (iB c ((names.zip own).take i)))),(6,.var 37 bL),(720,.arr 9 1 (own.map bD) 2)]) (fun i=>i≤names.length) (fun i=>names.length-i) 0 (Aj _) sl ?_)));intro i hi;refine sg rfl (a8 (aA rfl (fun hb=>?_) (fun hb=>?_)))
 ·have q:=ltD hb ab;obtain⟨s,hs⟩:=aJ q;obtain⟨o,ho'⟩:=aJ (show i<own.length by omega);have hs':=bM bD hs;have ho2:=bM bD ho';have hz:=W o (η ho');have hc1:=(wQ hI aa hX ((names.zip own).take i) c hcg (hzpi i)).2
  have hS:=(sS hI aa hX (m30 (iB c ((names.zip own).take i))) (iB c ((names.zip own).take i)) (le_refl _) hc1 s (vC o) (CG.vC hz hX)).imp;have N:iB c ((names.zip own).take (i+1))=cB (m30 (iB c ((names.zip own).take i))) (iB c ((names.zip own).take i)) s (vC o):=by
   unfold iB;rw[sN _ _ hs ho']
  refine aD (a8 (aC (sgh [(1,.row i (bD s))] rfl (aE mixed (ak 6 [(5,.row i (bD o))] rfl (kc (sV o) ?_))))));refine kc hS ?_;refine kz 1 rfl (ag [] rfl ⟨i+1,q,by dsimp only;omega,?_⟩);dsimp only;rw[N];exact sl
 have Y:=geD hb ab hi;subst Y;have hzn:(names.zip own).take names.length=names.zip own:=by
  rw[Bb];rw[List.length_zip];omega
 rw[hzn];refine aO (a8 (sg rfl (aC (aL (fun i:Nat=>mk [(2,.one (.c (.sl 10 (l.map aB)))),(3,.one (.vp 3 0)),(6,.one (.vp 6 0)),(64,.one (.hs 720 0 own.length own.length)),(65,I .i64 (own.length:Int)),(66,I .i64 i)] [(3,.var 37 (bA (mY (iB c (names.zip own)) ((own.zip l).take i)))),(6,.var 37 bL),(720,.arr 9 1 (own.map bD) 2)]) (fun i=>i≤own.length) (fun i=>own.length-i) 0 (Aj _) sl ?_))));intro i hi;refine sg rfl (a8 (aA rfl (fun hb=>?_) (fun hb=>?_)))
 ·have q:i<own.length:=by have:=ψ hb;omega
  obtain⟨s,hs⟩:=aJ q;obtain⟨b,J⟩:=aJ (show i<l.length by omega);have hs':=bM bD hs;have hb':=bM aB J;have hS:=(P2.step (tk:=TK) (k:=names.length) hI aa hX ho htk (by rw[hOW];exact hP2 i (by omega)) (by rw[hOW];exact η hs) (W s (η hs)) J).1.imp;have N:mY (iB c (names.zip own)) ((own.zip l).take (i+1))=cB (m30 (mY (iB c (names.zip own)) ((own.zip l).take i))) (mY (iB c (names.zip own)) ((own.zip l).take i)) s b:=by
   generalize iB c (names.zip own)=c1;unfold mY;rw[sN _ _ hs J]
  refine aD (a8 (aC (sgh [(2,.row i (bD s))] rfl (aE mixed (ak 6 [(4,.row i (aB b))] rfl (kc hS ?_))))));refine kz 1 rfl (ag [] rfl ⟨i+1,q,by dsimp only;omega,?_⟩);dsimp only;rw[N];exact sl
 have Y:i=own.length:=by have:=δ hb;omega
 subst Y;have hzn:(own.zip l).take own.length=own.zip l:=by
  rw[Bb];rw[List.length_zip];omega
 rw[hzn];refine aO (sg rfl ?_);have he:zB c names l=mY (iB c (names.zip own)) (own.zip l):=by unfold zB;rw[hTK,hOW]
 rw[he];exact aI (rtC trw)
end Go.Proofs.YtockgoadliilhaaGreatDoor
namespace Go.AM
open Go
theorem Sub.fnClo {kf:List Nat}{st:St}(t:Nat) {f:FuncId}(h:st.e t=some (.one (.c (.fn f)))):Sub kf ⟨upd st.e t (some (.one (.clo f []))),st.h,st.d⟩ st:=by
 intro G n S μ a w _ hs;refine⟨S,μ,⟨hs.inv,hs.size,hs.defers,fun s v e=>?_⟩⟩;by_cases q:s=t
 ·subst q;have hv:=hs.env s _ h;have e':v=.one (.clo f []):=by
   have:some v=some (V.one (.clo f [])):=by rw[←e];exact aK _ _ _
   cases this;rfl
  subst e';simp only[b6,bF,Rep,aW] at hv ⊢;exact⟨[],hv,rfl⟩
 ·exact hs.env s v (by rw[←e];exact(bE _ _ _ q).symm)
def aZw:BinOp→Int→Int→Option Int
 | .add,a,b=>some (IntKind.i64.wrap (a+b))
 | .sub,a,b=>some (IntKind.i64.wrap (a-b))
 | .mul,a,b=>some (IntKind.i64.wrap (a*b))
 | .quo,a,b=>if b=0 then none else some (IntKind.i64.wrap (a.tdiv b))
 | .rem,a,b=>if b=0 then none else some (a.tmod b)
 | _,_,_=>none
section
variable {P:Program}{n:Nat}{ops:Array Oper}{draw:Bool}{k d:Nat}{st:St}{pre:REs}{Q:St→Prop}{o:Oper}
theorem aZ5 {op:BinOp}{O ty:TypeId}{x y:Operand}{a b r:Int}(N:o.op=.binOp op O x y ty) (hd:o.dst=some d) (J:d<n) (hx:opv st x=some (I .i64 a)) (hy:opv st y=some (I .i64 b)) (q:aZw op a b=some r):
  Step P n o st ⟨opr x++opr y,[]⟩ ⟨some (d,some (I .i64 r)),[]⟩:=by
 cases op<;>simp only[aZw] at q<;>try (cases q;done)
 ·cases q;exact aO2 N hd J hx hy rfl
 ·cases q;exact aOr N hd J hx hy rfl
 ·cases q;exact aOw N hd J hx hy rfl
 ·split at q
  ·cases q
  ·rename_i hb;cases q;exact aXa N hd J hx hy hb rfl
 ·split at q
  ·cases q
  ·rename_i hb;cases q;exact aW8 N hd J hx hy hb rfl
theorem kw {op:BinOp}{N ty:TypeId}{x y:Operand}{a b:Int}(r:Int) (O:aZw op a b=some r)
  (hk:kS P n ops draw (k+1) ⟨upd st.e d (some (I .i64 r)),st.h,st.d⟩ ((⟨opr x++opr y,[]⟩,⟨some (d,some (I .i64 r)),[]⟩)::pre) Q)
  (W:ops[k]?=some o:=by rfl) (hg:o.guard=none:=by rfl) (q:o.op=.binOp op N x y ty:=by rfl) (hd:o.dst=some d:=by rfl) (J:Nat.blt d n=true:=by rfl) (hx:opv st x=some (I .i64 a):=by rfl) (hy:opv st y=some (I .i64 b):=by rfl):kS P n ops draw k st pre Q:=
 k_ (g_ W hg (aZ5 q hd (mB J) hx hy O)) hk
end
end Go.AM
namespace Go.Proofs.YtockgoadliilhaaGreatDoor
open Go Go.AM
set_option maxRecDepth 20000
def jS (n:Int):Core:=.mk 3 n [] zTy [] [] []
def a1f (s:Str):Core:=.mk 2 0 s zTy [] [] []
def zC:Core:=.mk 0 0 [] zTy [] [] []
def aCj:Str:=[97,100,100]
def aXq:Str:=[115,117,98]
def aVz:Str:=[109,117,108]
def aPb:Str:=[100,105,118]
def nEq:Str:=[101,113]
def nLt:Str:=[108,116]
def aQ1 (b:Bool):Core:=a1f (if b then [84,114,117,101] else [70,97,108,115,101])
def mZ (s:Str) (a b:Int):Core×Int:=
 if s=aCj then(jS (IntKind.i64.wrap (a+b)),0)
 else if s=aXq then(jS (IntKind.i64.wrap (a-b)),0)
 else if s=aVz then(jS (IntKind.i64.wrap (a*b)),0)
 else if s=aPb then(if b=0 then(zC,53) else(jS (IntKind.i64.wrap (a.tdiv b)),0))
 else if s=nEq then(aQ1 (decide (a=b)),0)
 else if s=nLt then(aQ1 (decide (a<b)),0)
 else(zC,51)
theorem aGc (n:Int):aU Tryz.prog 42 [I .i64 n] [] (.pa (aB (jS n))) []:=aMs n
theorem aSm (s:Str):aU Tryz.prog 146 [Go.AM.T s] [] (.pa (aB (a1f s))) []:=by
 refine bO (n:=5) tok Tryz.func146 rfl rfl rfl ?_;exact sg rfl (sg rfl (aI (rtC trw)))
theorem aMi (b:Bool):aU Tryz.prog 135 [B b] [] (.pa (aB (aQ1 b))) []:=by
 refine bO (n:=6) tok Tryz.func135 rfl rfl rfl ?_;refine sg rfl (a8 (sg rfl ?_));cases b with
 | true=>
  refine aA rfl (fun _=>a8 (aE mixed (kc (aSm [84,114,117,101]) ?_))) nofun;exact kz 1 rfl (aI (rtC trw))
 | false=>
  refine aA rfl nofun (fun _=>aD (a8 (aE mixed (kc (aSm [70,97,108,115,101]) ?_))));exact kz 1 rfl (aI (rtC trw))
theorem aY2 (a b:Int):aU Tryz.prog 130 [I .i64 a,I .i64 b] [] (.pa (aB (jS (IntKind.i64.wrap (a+b))))) []:=by
 refine bO (n:=9) tok Tryz.func130 rfl rfl rfl ?_;refine sg rfl (sk 2 rfl (kw (IntKind.i64.wrap (a+b)) rfl ?_));refine kc (aGc _) ?_;exact kz 1 rfl (aI (rtC trw))
theorem aYz (a b:Int):aU Tryz.prog 131 [I .i64 a,I .i64 b] [] (.pa (aB (jS (IntKind.i64.wrap (a-b))))) []:=by
 refine bO (n:=9) tok Tryz.func131 rfl rfl rfl ?_;refine sg rfl (sk 2 rfl (kw (IntKind.i64.wrap (a-b)) rfl ?_));refine kc (aGc _) ?_;exact kz 1 rfl (aI (rtC trw))
theorem aY0 (a b:Int):aU Tryz.prog 132 [I .i64 a,I .i64 b] [] (.pa (aB (jS (IntKind.i64.wrap (a*b))))) []:=by
 refine bO (n:=9) tok Tryz.func132 rfl rfl rfl ?_;refine sg rfl (sk 2 rfl (kw (IntKind.i64.wrap (a*b)) rfl ?_));refine kc (aGc _) ?_;exact kz 1 rfl (aI (rtC trw))
theorem aY1 (a b:Int) (hb:b≠0):aU Tryz.prog 133 [I .i64 a,I .i64 b] [] (.pa (aB (jS (IntKind.i64.wrap (a.tdiv b))))) []:=by
 refine bO (n:=9) tok Tryz.func133 rfl rfl rfl ?_;refine sg rfl (sk 2 rfl (kw (op:=.quo) (a:=a) (b:=b) (IntKind.i64.wrap (a.tdiv b)) (φ hb) ?_));refine kc (aGc _) ?_;exact kz 1 rfl (aI (rtC trw))
theorem a0z (a b:Int):aU Tryz.prog 134 [I .i64 a,I .i64 b] [] (.pa (aB (aQ1 (decide (a=b))))) []:=by
 have h:=aMi (decide (a=b));refine bO (n:=9) tok Tryz.func134 rfl rfl rfl ?_;refine sg rfl (sk 3 rfl (kc h ?_));exact kz 1 rfl (aI (rtC trw))
theorem a0y (a b:Int):aU Tryz.prog 136 [I .i64 a,I .i64 b] [] (.pa (aB (aQ1 (decide (a<b))))) []:=by
 have h:=aMi (decide (a<b));refine bO (n:=9) tok Tryz.func136 rfl rfl rfl ?_;refine sg rfl (sk 3 rfl (kc h ?_));exact kz 1 rfl (aI (rtC trw))
def uK:List (List C):=[[.str aCj,.fn 130],[.str aXq,.fn 131],[.str aVz,.fn 132],[.str aPb,.fn 133],[.str nEq,.fn 134],[.str nLt,.fn 136]]
theorem zF:kL uK:=trivial
theorem aVb:aU Tryz.prog 110 [] [] (.one (.c (.mp false uK))) []:=by
 refine bO (n:=3) tok Tryz.func110 rfl rfl rfl ?_;refine sg rfl (sgh [(0,.id 900)] rfl ?_ (hc:=by repeat (first | exact trivial | refine⟨by decide+kernel,?_⟩)));refine AWp.sub (Sub.fmap (id:=900) rfl (by simp[keys]) zF) ?_;exact aI rtT
end Go.Proofs.YtockgoadliilhaaGreatDoor
namespace Go.AM
open Go
section
variable {fn:Func}{st:St}{hin hout:List (Nat×AObj)}{res res2 res3:V}
theorem iT {tr:Tr}{a t u:Nat}{i:TI}{id off tv:Nat}{cells:List R}{v v2:V}{ids q:List Nat}(hw:tr.wf=true) (J:fn.results.toList=[.cell a t,.tmp u]:=by rfl) (hi:tr.get t=some i:=by rfl) (ha:st.e a=some (.one (.vp id off)):=by rfl) (hh:st.h id=some (.var tv cells):=by rfl) (hb:Nat.ble (off+i.size) cells.length=true:=by rfl) (hv:qE i ((cells.drop off).take i.size)=some v:=by rfl) (hu:st.e u=some v2:=by rfl)
  (hc:Conv st.h ids v res:=by first | exact .refl | exact .one (.c .nl .nil) | ((first | apply Go.AM.Conv.pa | apply Go.AM.Conv.agg);repeat (first | exact .nil | apply Go.AM.PureL.c .refl | apply Go.AM.PureL.c .nl | (apply Go.AM.PureL.hs;rfl;(first | rfl | assumption | simp);(first | rfl | exact Go.AM.take_all (by first | assumption | rfl | (simp;done)) | exact Go.AM.take_map.symm)))))
  (I:Conv st.h q v2 res2:=by exact .refl)
  (N:eW (fun p=>∃o,st.h p.1=some o∧Ole (fun i=>i) o p.2) hout:=by repeat (first | exact trivial | refine⟨⟨_,rfl,by first | exact Go.AM.Ole.arr | exact Go.AM.Ole.var rfl | exact Go.AM.Ole.varS rfl⟩,?_⟩))
  (hok:(subset (V.tup [res,res2]).refs (keys hout)&&subset (dN hout) (keys hout)&&distinct (keys hout)&&subset (keys hin) (keys hout)&&(hin.all fun p=>p.2.plain)&&(hout.all fun p=>p.2.plain))=true:=by rfl):(Exit.ret=.normal∨Exit.ret=.ret)∧Fin tr.flat fn st hin (.tup [res,res2]) hout:=
 ⟨.inr rfl,⟨[v,v2],[res,res2],by rw[J];exact .cell ha (Tr.get_ok hw hi) hh hb hv (.tmp hu .nil),.cons hc (.cons I .nil),rfl⟩,N,hok⟩
theorem aZp {tr:Tr}{a t u J:Nat}{i:TI}{id off tv:Nat}{cells:List R}{v v2 v3:V}{ids q I:List Nat}(hw:tr.wf=true) (Y:fn.results.toList=[.cell a t,.tmp u,.tmp J]:=by rfl) (hi:tr.get t=some i:=by rfl) (ha:st.e a=some (.one (.vp id off)):=by rfl) (hh:st.h id=some (.var tv cells):=by rfl) (hb:Nat.ble (off+i.size) cells.length=true:=by rfl) (hv:qE i ((cells.drop off).take i.size)=some v:=by rfl) (hu:st.e u=some v2:=by rfl) (N:st.e J=some v3:=by rfl)
  (hc:Conv st.h ids v res:=by first | exact .refl | exact .one (.c .nl .nil) | ((first | apply Go.AM.Conv.pa | apply Go.AM.Conv.agg);repeat (first | exact .nil | apply Go.AM.PureL.c .refl | apply Go.AM.PureL.c .nl | (apply Go.AM.PureL.hs;rfl;(first | rfl | assumption | simp);(first | rfl | exact Go.AM.take_all (by first | assumption | rfl | (simp;done)) | exact Go.AM.take_map.symm)))))
  (O:Conv st.h q v2 res2:=by exact .refl) (W:Conv st.h I v3 res3:=by exact .refl)
  (Z:eW (fun p=>∃o,st.h p.1=some o∧Ole (fun i=>i) o p.2) hout:=by repeat (first | exact trivial | refine⟨⟨_,rfl,by first | exact Go.AM.Ole.arr | exact Go.AM.Ole.var rfl | exact Go.AM.Ole.varS rfl⟩,?_⟩))
  (hok:(subset (V.tup [res,res2,res3]).refs (keys hout)&&subset (dN hout) (keys hout)&&distinct (keys hout)&&subset (keys hin) (keys hout)&&(hin.all fun p=>p.2.plain)&&(hout.all fun p=>p.2.plain))=true:=by rfl):(Exit.ret=.normal∨Exit.ret=.ret)∧Fin tr.flat fn st hin (.tup [res,res2,res3]) hout:=
 ⟨.inr rfl,⟨[v,v2,v3],[res,res2,res3],by rw[Y];exact .cell ha (Tr.get_ok hw hi) hh hb hv (.tmp hu (.tmp N .nil)),.cons hc (.cons O (.cons W .nil)),rfl⟩,Z,hok⟩
end
end Go.AM
namespace Go.Proofs.YtockgoadliilhaaGreatDoor
open Go Go.AM
set_option maxRecDepth 20000
set_option maxHeartbeats 4000000
structure Fld where
 name:Str
 tag:Int
 many:Int
 arity:Int
 ty:Ty
def j8 (x:Fld):List C:=[.str x.name,.int .i64 x.tag,.int .i64 x.many,.int .i64 x.arity]++b8 x.ty
structure Mod where
 fields:List Fld
 binds:List Bind
def mQ (m:Mod):List C:=[.sl 8 (m.fields.map j8),.sl 15 (m.binds.map bB)]
abbrev CE:Type:=Core×Int
def fK (p:CE):V:=.tup [.pa (aB p.1),I .i64 p.2]
def aHm (sh:Bool) (p:CE) (g:Core→Core):CE:=if sh then(zC,51) else if p.2=0 then(g p.1,0) else(zC,p.2)
noncomputable def gJ (a:Alt) (c:Core):Option Core:=
 if a.form=3 then some a.body
 else if a.form=2 then(if c.form=3∧c.n=a.n then some a.body else none)
 else match gvC c with
  | some (s,l)=>if s=a.name∧l.length=a.vars.length then some (zB a.body a.vars l) else none
  | none=>none
def aH5 (c:Core) (i:Nat) (r:Core):Core:=match c with | .mk f n s t ks bs al=>.mk f n s t (ks.set i r) bs al
def nB (st:Core→CE) (c:Core) (i:Nat):CE:=match c.kids[i]? with
 | some x=>aHm (shC x) (st x) (aH5 c i)
 | none=>(zC,51)
def n0 (bs:List Bind) (b:Bind):Core:=.mk 8 0 [] zTy [b.body] bs []
noncomputable def dC (bd:List Bind):Nat→Core→CE
 | 0,_=>(zC,51)
 | k+1,c=>
  let hd:=c.kids.headD zC
  if c.form=1 then(match bd.find? fun b=>decide (b.name=c.name) with | some b=>(b.body,0) | none=>(zC,51))
  else if c.form=4∨c.form=6 then
   (if c.form=4∧hd.form=5 then(cB (m30 (hd.kids.headD zC)) (hd.kids.headD zC) hd.name (c.kids.getD 1 zC),0)
   else if c.form=6∧hd.form=7 then(sTR (m30 (hd.kids.headD zC)) (hd.kids.headD zC) hd.name c.ty,0)
   else nB (dC bd k) c 0)
  else if c.form=8 then(zB hd (c.binds.map Bind.name) (c.binds.map (n0 c.binds)),0)
  else if c.form=9 then(if shC hd then(match c.alts.findSome? fun a=>gJ a hd with | some r=>(r,0) | none=>(zC,52)) else nB (dC bd k) c 0)
  else if c.form=10 then
   (if ¬shC hd then nB (dC bd k) c 0
   else if ¬shC (c.kids.getD 1 zC) then nB (dC bd k) c 1
   else if hd.form=3∧(c.kids.getD 1 zC).form=3 then mZ c.name hd.n (c.kids.getD 1 zC).n
   else(zC,51))
  else if c.form=11 then(zC,52)
  else(zC,51)
theorem aTh {α:Type}(g:α→List C) (l:List α) (i:Nat) (x:α):(l.map g).set i (g x)=(l.set i x).map g:=by
 induction l generalizing i with
 | nil=>rfl
 | cons y l q=>cases i with
  | zero=>rfl
  | succ i=>show g y::(l.map g).set i (g x)=g y::(l.set i x).map g;rw[q]
theorem aY3 (f n:Int) (s:Str) (t:Ty) (ks:List Core) (bs:List Bind) (al:List Alt) (i:Nat) (r:Core) (hi:i<ks.length) (hk:ks.length≤600000000000):
  aU Tryz.prog 128 ([.pa (aB r)]++[R.vp 4 0,R.vp 5 0].map V.one) [(4,.var 37 (bA (.mk f n s t ks bs al))),(5,.var 3 [.c (.int .i64 i)])] (.pa (aB (.mk f n s t (ks.set i r) bs al))) [(4,.var 37 (bA (.mk f n s t (ks.set i r) bs al))),(5,.var 3 [.c (.int .i64 i)])]:=by
 have I:(aM ks).length=ks.length:=by rw[aR,θ]
 have J:=oH (aM ks) (by omega);have q:(aM ks).set i (aB r)=aM (ks.set i r):=by rw[aR,aR,aTh]
 have N:(aM (ks.set i r)).length=ks.length:=by rw[aR,θ,B3]
 obtain⟨x,hx⟩:=aJ hi;have O:(aM ks)[i]?=some (aB x):=by rw[aR];exact bM aB hx
 refine bO (n:=15) tok Tryz.func128 rfl rfl rfl ?_;refine sgh [(0,.id 3),(1,.id 6)] rfl (sk 2 rfl (kc J ?_));refine kz 2 rfl (sgh [(5,.row i (aB x))] rfl (AWp.sub (Sub.freeze (id:=702) rfl) ?_));refine AWp.sub (Sub.varPure (x:=4) (cs:=aB (.mk f n s t (ks.set i r) bs al)) rfl (.c .refl (.c .refl (.c .refl (.c .refl (.c .refl (.c .refl (.c .refl (.hs rfl (by rw[B3]) (by rw[Ce];show aM (ks.set i r)=List.take (aM ks).length ((aM ks).set i (aB r));rw[q,Bb];rw[N,I];exact le_refl _) (.c .refl (.c .refl .nil))))))))))) ?_;exact sg rfl (aI (rtC trw))
def kO (c:Core) (i:Nat):List (Nat×AObj):=[(4,.var 37 (bA c)),(5,.var 3 [.c (.int .i64 i)])]
def zY (sh:Bool) (p:CE) (c:Core) (i:Nat):Core:=if sh then c else if p.2=0 then aH5 c i p.1 else c
theorem aP4 (m:Mod) (X:Nat) (c x:Core) (i:Nat) (p:CE) (hi:i<c.kids.length) (hk:c.kids.length≤600000000000) (Y:cE (QL X) x) (N:b7 x≤570000000000) (q:shC x=false→aU Tryz.prog 30 [.pa (mQ m),.pa (aB x)] [] (fK p) []):
  aU Tryz.prog 127 [.pa (mQ m),.pa (aB x),.one (.clo 128 [.vp 4 0,.vp 5 0])] (kO c i) (fK (aHm (shC x) p (aH5 c i))) (kO (zY (shC x) p c i) i):=by
 have O:=xW X x Y N;unfold kO;refine bO (n:=26) tok Tryz.func127 rfl rfl rfl ?_;refine sgh [(0,.id 13),(1,.id 14),(2,.id 16)] rfl (a8 (sk 1 rfl (kc O ?_)));refine az ?_;cases Z:shC x with
 | true=>
  exact aA rfl (fun _=>sg rfl (aI (iT trw))) nofun
 | false=>
  have q:=q Z;refine aA rfl nofun (fun _=>aD (sk 2 rfl (kc q ?_)));refine kz 6 rfl (a8 (sg rfl (aA rfl (fun hb=>?_) (fun hb=>?_))))
  ·have he:¬p.2=0:=by
    intro h;have hb:(!decide (p.2=0))=true:=hb;rw[Ak h] at hb;cases hb
   have I:aHm false p (aH5 c i)=(zC,p.2):=by unfold aHm;rw[φ Aw,φ he]
   have J:zY false p c i=c:=by unfold zY;rw[φ Aw,φ he]
   rw[I,J];exact sg rfl (aI (iT trw))
  ·have he:p.2=0:=by
    have hb:(!decide (p.2=0))=false:=hb;by_cases h:p.2=0
    ·exact h
    ·rw[Al h] at hb;cases hb
   have I:aHm false p (aH5 c i)=(aH5 c i p.1,0):=by unfold aHm;rw[φ Aw,ξ he]
   have J:zY false p c i=aH5 c i p.1:=by unfold zY;rw[φ Aw,ξ he]
   rw[I,J];obtain⟨f,n,s,t,ks,bs,al⟩:=c;have W:=aY3 f n s t ks bs al i p.1 hi hk;refine aD (sk 2 rfl (kv (args:=[.pa (aB p.1)]) W ?_));exact kz 2 rfl (aI (iT trw))
theorem a02 (m:Mod) (X:Nat) (c x:Core) (i:Nat) (st:Core→CE) (hx:c.kids[i]?=some x) (hk:c.kids.length≤600000000000) (N:cE (QL X) x) (q:b7 x≤570000000000) (J:shC x=false→aU Tryz.prog 30 [.pa (mQ m),.pa (aB x)] [] (fK (st x)) []):
  aU Tryz.prog 107 [.pa (mQ m),.pa (aB c),I .i64 i] [] (fK (nB st c i)) []:=by
 have hi:i<c.kids.length:=(Ab.1 hx).1
 have hw:=aP4 m X c x i (st x) hi hk N q J;have O:(aM c.kids)[i]?=some (aB x):=by rw[aR];exact bM aB hx
 have he:nB st c i=aHm (shC x) (st x) (aH5 c i):=by unfold nB;rw[hx]
 rw[he];obtain⟨f,n,s,t,ks,bs,al⟩:=c;unfold kO at hw;refine bO (n:=18) tok Tryz.func107 rfl rfl rfl ?_;refine sg rfl (skh 7 [(4,.row i (aB x))] rfl (kc hw ?_));exact kz 4 rfl (aI (iT trw))
end Go.Proofs.YtockgoadliilhaaGreatDoor
namespace Go.Proofs.YtockgoadliilhaaGreatDoor
open Go Go.AM Go.Shelf
set_option maxRecDepth 100000
def ir:Ren:=⟨fun f=>if f=129 then 154 else if f=171 then 129 else if f=243 then 145 else if f=246 then 148 else if f=283 then 149 else if f=284 then 150 else if f=285 then 151 else if f=286 then 152 else if f=317 then 153 else if f=318 then 155 else if f=319 then 156 else if f=320 then 157 else if f=337 then 158 else if f=338 then 159 else f,fun t=>if t=0 then 0 else if t=2 then 2 else if t=3 then 3 else if t=4 then 4 else if t=5 then 5 else if t=9 then 9 else if t=20 then 20 else if t=37 then 136 else if t=46 then 182 else if t=51 then 179 else if t=53 then 172 else if t=171 then 171 else if t=173 then 175 else if t=212 then 178 else if t=213 then 180 else if t=232 then 185 else if t=233 then 186 else t,fun g=>if g=17 then 0 else if g=18 then 1 else if g=19 then 2 else g⟩
theorem il:LaysM.n171 Tryz.prog ir where
 mixed:=mixed
 f129:=by kernel_rfl
 f171:=by kernel_rfl
 f243:=by kernel_rfl
 f246:=by kernel_rfl
 f283:=by kernel_rfl
 f284:=by kernel_rfl
 f285:=by kernel_rfl
 f286:=by kernel_rfl
 f317:=by kernel_rfl
 f318:=by kernel_rfl
 f319:=by kernel_rfl
 f320:=by kernel_rfl
 f337:=by kernel_rfl
 f338:=by kernel_rfl
 t0:=by kernel_rfl
 a0:=fun w=>by kernel_rfl
 z0:=fun w=>by kernel_rfl
 v0:=fun w=>by kernel_rfl
 t2:=by kernel_rfl
 a2:=fun w=>by kernel_rfl
 z2:=fun w=>by kernel_rfl
 v2:=fun w=>by kernel_rfl
 t3:=by kernel_rfl
 a3:=fun w=>by kernel_rfl
 z3:=fun w=>by kernel_rfl
 v3:=fun w=>by kernel_rfl
 t4:=by kernel_rfl
 a4:=fun w=>by kernel_rfl
 z4:=fun w=>by kernel_rfl
 v4:=fun w=>by kernel_rfl
 t5:=by kernel_rfl
 a5:=fun w=>by kernel_rfl
 z5:=fun w=>by kernel_rfl
 v5:=fun w=>by kernel_rfl
 t9:=by kernel_rfl
 a9:=fun w=>by kernel_rfl
 z9:=fun w=>by kernel_rfl
 v9:=fun w=>by kernel_rfl
 t20:=by kernel_rfl
 a20:=fun w=>by kernel_rfl
 z20:=fun w=>by kernel_rfl
 v20:=fun w=>by kernel_rfl
 t37:=by kernel_rfl
 a37:=fun w=>by kernel_rfl
 z37:=fun w=>by kernel_rfl
 v37:=fun w=>by kernel_rfl
 t46:=by kernel_rfl
 a46:=fun w=>by kernel_rfl
 z46:=fun w=>by kernel_rfl
 v46:=fun w=>by kernel_rfl
 t51:=by kernel_rfl
 a51:=fun w=>by kernel_rfl
 z51:=fun w=>by kernel_rfl
 v51:=fun w=>by kernel_rfl
 t53:=by kernel_rfl
 a53:=fun w=>by kernel_rfl
 z53:=fun w=>by kernel_rfl
 v53:=fun w=>by kernel_rfl
 t171:=by kernel_rfl
 a171:=fun w=>by kernel_rfl
 z171:=fun w=>by kernel_rfl
 v171:=fun w=>by kernel_rfl
 t173:=by kernel_rfl
 a173:=fun w=>by kernel_rfl
 z173:=fun w=>by kernel_rfl
 v173:=fun w=>by kernel_rfl
 t212:=by kernel_rfl
 a212:=fun w=>by kernel_rfl
 z212:=fun w=>by kernel_rfl
 v212:=fun w=>by kernel_rfl
 t213:=by kernel_rfl
 a213:=fun w=>by kernel_rfl
 z213:=fun w=>by kernel_rfl
 t232:=by kernel_rfl
 a232:=fun w=>by kernel_rfl
 z232:=fun w=>by kernel_rfl
 v232:=fun w=>by kernel_rfl
 t233:=by kernel_rfl
 a233:=fun w=>by kernel_rfl
 z233:=fun w=>by kernel_rfl
 v233:=fun w=>by kernel_rfl
 g17:=by kernel_rfl
 g18:=by kernel_rfl
 g19:=by kernel_rfl
 i0:=by kernel_rfl
 i2:=by kernel_rfl
 i3:=by kernel_rfl
 i4:=by kernel_rfl
 i5:=by kernel_rfl
 i9:=by kernel_rfl
 i20:=by kernel_rfl
 i37:=by kernel_rfl
 i46:=by kernel_rfl
 i51:=by kernel_rfl
 i53:=by kernel_rfl
 i171:=by kernel_rfl
 i173:=by kernel_rfl
 i212:=by kernel_rfl
 i232:=by kernel_rfl
 i233:=by kernel_rfl
 m17:=by kernel_rfl
 m18:=by kernel_rfl
 m19:=by kernel_rfl
end Go.Proofs.YtockgoadliilhaaGreatDoor
namespace Go.AM
open Go
theorem Inv.grown {G:Ctx}{S:Sto}{μ:Mu}{H:cR}{w:World}(h:Inv G S μ H w) (k:Nat) (os:Array Obj):Inv G S μ H (Sort.grow (w.drewN k) os):=by
 have hold:∀b:Nat,b<w.heap.size→(Sort.grow (w.drewN k) os).heap[b]?=w.heap[b]?:=fun b hb=>by
  show(w.heap++os)[b]?=w.heap[b]?;exact Array.getElem?_append_left hb
 have q:w.heap.size≤(Sort.grow (w.drewN k) os).heap.size:=by
  show w.heap.size≤(w.heap++os).size;rw[Array.size_append];omega
 obtain⟨h1,h2,h3,h4,h5,h6,h7,I,J⟩:=h;refine⟨⟨fun b o v e=>?_,fun b mk e=>?_⟩,fun id o e=>(h2 id o e).evolve (Evolve.refl _ _ _) rfl fun b c hm=>⟨hold b ((h2 id o e).lt hm),fun _=>rfl,rfl⟩,h3,h4,?_,h6,h7,I,J⟩
 ·obtain⟨vs,t,fr,g1,g2⟩:=h1.1 b o v e;exact⟨vs,t,fr,by rw[hold b (eD g1)];exact g1,g2⟩
 ·have g:=h1.2 b mk e;obtain⟨_,g2⟩:=MK.holds_some g;rw[hold b (eD g2)];exact g
 ·obtain⟨f1,f2,f3,f4,f5,f6⟩:=h5;exact⟨f1,f2,f3,le_trans f4 q,fun b hb N=>by rw[hold b (lt_of_lt_of_le hb f4)];exact f5 b hb N,f6⟩
end Go.AM
namespace Go.Proofs.YtockgoadliilhaaGreatDoor
open Go Go.AM
set_option maxRecDepth 20000
theorem aMo (k:Nat) (h:k<1000000000000000000):aU Tryz.prog 129 [I .i64 (k:Int)] [] (Go.AM.T (Lib.decDigits k)) []:=by
 intro S μ w vals J hv;simp only [bU, b6, bF, Rep] at hv;obtain ⟨v1, N, rfl, rfl, rfl⟩ := hv;have q : Lib.TabIs Tryz.prog w "internal/strconv.uint64pow10" .u64 Lib.pow10Tab := by
  obtain ⟨h1, t, fr, h2⟩ := J.frame.tabAt 0 rfl;unfold Lib.TabIs World.var?;rw [show Tryz.prog.globalNamed "internal/strconv.uint64pow10" = some 0 by kernel_rfl];simp only [Ck, h2];rfl
 refine Calls.mono (Any.strconv_Itoa il (k:Int) (by omega) (by omega) w q) ?_;rintro e w' ⟨rfl,j,os,rfl⟩;refine⟨S,μ,_,rfl,J.grown j os,?_⟩;rw[Lib.itoa_nonneg];simp only[b6,bF,Rep]
end Go.Proofs.YtockgoadliilhaaGreatDoor
namespace Go.Proofs.YtockgoadliilhaaGreatDoor
open Go Go.AM
set_option maxRecDepth 20000
set_option maxHeartbeats 4000000
theorem aRa (hI:cQ 540000000000) {D M X:Nat}(ab:M+D≤700000):∀(k:Nat) (c:Core),m30 c≤k→CG D M X c→∀(name:Str) (u:Ty),UOk u→∀x∈tyR (sTR k c name u),(x∈tyR c∧¬x=name)∨x∈tfR u:=by
 intro k
 induction k with
 | zero=>intro c h;have:=dF c;omega
 | succ k W=>
 intro c h hc name u hu x hx;obtain⟨f,n,nm,t,ks,bs,al⟩:=c;obtain⟨ht0,ht1,htb⟩:=hc.ty;have hq:=hc.q;obtain⟨q1,q2,q3,q4⟩:=aT.1 hq;have ac:tfR zTy=[]:=rfl;have Y:∀v,wfS v=true→∀x∈tfR (gP v [(name,u)]),(x∈tfR v∧¬x=name)∨x∈tfR u:=fun v h1 x hx=>by
  rcases aIu (tn v) v (le_refl _) h1 _ x hx with h | ⟨p,hp,_,h⟩
  ·exact .inl ⟨h.1,fun e=>h.2 (by rw[e];exact Aa.2 rfl)⟩
  ·rw[Aa.1 hp] at h;exact .inr h
 rw[sTR] at hx;by_cases h7:f=7
 ·subst h7;obtain⟨⟨kid,rfl⟩,rfl,rfl⟩:=cO hq (.inr (.inr rfl));obtain⟨g1,g2,g3⟩:=hc.kid (x:=kid) ζ;rw[ξ rfl] at g2;obtain rfl:t=zTy:=(q1.2.1 rfl).1
  by_cases hs:nm=name∨¬name∈tyR (.mk 7 n nm zTy [kid] [] [])
  ·rw[ξ ⟨rfl,hs⟩] at hx;refine .inl ⟨hx,fun e=>?_⟩;rw[e] at hx;rcases hs with rfl | hs
   ·rcases bK.1 hx with h | ⟨x,_,_,h | h⟩ | ⟨b,hb,_⟩ | ⟨a,ha,_⟩
    ·rw[ac] at h;cases h
    ·exact h rfl
    ·exact h rfl
    ·cases hb
    ·cases ha
   ·exact hs hx
  rw[φ fun e=>hs e.2] at hx;have Z:∀(nm1:Str) (J:Core),m30 J≤k→CG D M X J→(∀y∈tyR J,¬y=nm1→y∈tyR kid∧(y=nm→y∈tfR u))→x∈tyR (gH (fun t=>gP t [(name,u)]) (fun x=>sTR k x name u) (.mk 7 n nm1 zTy [J] [] []))→(x∈tyR (.mk 7 n nm zTy [kid] [] [])∧¬x=name)∨x∈tfR u:=fun nm1 J hk1 hc1 hy hx=>by
   rw[gH] at hx;rcases bK.1 hx with h | ⟨y,hym,h,O⟩ | ⟨b,hb,_⟩ | ⟨a,ha,_⟩
   ·rw[r7,ac] at h;cases h
   ·obtain⟨N,I,rfl⟩:=Ad.1 hym;rw[Aa.1 I] at h;have O:¬x=nm1:=O.resolve_left (fun e=>e rfl);rcases W J hk1 hc1 name u hu x h with⟨h,hn⟩ | h
    ·obtain⟨h1,h2⟩:=hy x h O;by_cases e:x=nm
     ·exact .inr (h2 e)
     ·exact .inl ⟨bK.2 (.inr (.inl ⟨kid,ζ,h1,.inr e⟩)),hn⟩
    ·exact .inr h
   ·cases hb
   ·cases ha
  by_cases ad:nm∈tfR u
  ·rw[ξ ⟨rfl,ad⟩,Am,Bs] at hx;generalize aZ (tfR u++[kid].flatMap tyR)=z at hx;have hS1:=tQ hI ab k kid (by omega) g1 nm (vT z) (UOk.var z);refine Z z _ (le_trans hS1.sz (by omega)) (aNz hI ab g1 g2 k (by omega) nm z) (fun y hy aa=>?_) hx;rcases W kid (by omega) g1 nm (vT z) (UOk.var z) y hy with⟨h1,h2⟩ | h1
   ·exact⟨h1,fun e=>absurd e h2⟩
   ·rw[yL] at h1;exact absurd (Aa.1 h1) aa
  ·rw[φ fun e=>ad e.2] at hx;exact Z nm kid (by omega) g1 (fun y hy aa=>⟨hy,fun e=>absurd e aa⟩) hx
 ·rw[φ fun e=>h7 e.1,φ fun e=>h7 e.1,gH] at hx;rcases bK.1 hx with h | ⟨y,hy,h,_⟩ | ⟨y,hy,h⟩ | ⟨y,hy,h⟩
  ·exact(Y t ht0 x h).imp (fun h=>⟨bK.2 (.inl h.1),h.2⟩) id
  ·obtain⟨N,I,rfl⟩:=Ad.1 hy;exact(W N (by have:=(hc.kid I).2.2;omega) (hc.kid I).1 name u hu x h).imp (fun h=>⟨bK.2 (.inr (.inl ⟨N,I,h.1,.inl h7⟩)),h.2⟩) id
  ·obtain⟨N,I,rfl⟩:=Ad.1 hy;rcases h with h | h
   ·exact(Y N.ty (htb N I).1 x h).imp (fun h=>⟨bK.2 (.inr (.inr (.inl ⟨N,I,.inl h.1⟩))),h.2⟩) id
   ·exact(W N.body (by have:=(hc.bind I).2;omega) (hc.bind I).1 name u hu x h).imp (fun h=>⟨bK.2 (.inr (.inr (.inl ⟨N,I,.inr h.1⟩))),h.2⟩) id
  ·obtain⟨N,I,rfl⟩:=Ad.1 hy;exact(W N.body (by have:=(hc.alt I).2;omega) (hc.alt I).1 name u hu x h).imp (fun h=>⟨bK.2 (.inr (.inr (.inr ⟨N,I,h.1⟩))),h.2⟩) id
theorem dX {α:Type}{g:α→α}:∀{l:List α},(∀x∈l,g x=x)→l.map g=l
 | [],_=>rfl
 | x::l,h=>by rw[Am,h x ζ,dX fun y hy=>h y (κ _ hy)]
theorem aWx {X:Nat}:∀(k:Nat) (c:Core),m30 c≤k→cE (QL X) c→¬([]:Str)∈tyR c→sTR k c [] zTy=c:=by
 intro k
 induction k with
 | zero=>intro c h;have:=dF c;omega
 | succ k q=>
 intro c h J hn;obtain⟨f,n,nm,t,ks,bs,al⟩:=c;obtain⟨⟨_,_,N,O,_⟩,W,Y,Z⟩:=aT.1 J;rw[m30] at h;rw[sTR];by_cases h7:f=7
 ·rw[ξ ⟨h7,.inr hn⟩]
 ·have ts:∀v,wfS v=true→¬([]:Str)∈tfR v→gP v [([],zTy)]=v:=fun v hv I=>aBq (tn v) v (le_refl _) hv _ fun p hp h=>by rw[Aa.1 hp] at h;exact I h
  rw[φ (fun e=>h7 e.1),φ (fun e=>h7 e.1),gH,ts t N (fun e=>hn (bK.2 (.inl e)))];rw[dX (l:=ks) fun x hx=>q x (by have:=fJ hx;omega) (W x hx) fun e=>hn (bK.2 (.inr (.inl ⟨x,hx,e,.inl h7⟩)))]
  rw[dX (l:=bs) fun x hx=>by
   rw[ts x.ty (O (bhd x) (Ad.2 ⟨x,hx,rfl⟩)) fun e=>hn (bK.2 (.inr (.inr (.inl ⟨x,hx,.inl e⟩)))),q x.body (by have:=mM hx;omega) (Y x hx) fun e=>hn (bK.2 (.inr (.inr (.inl ⟨x,hx,.inr e⟩))))]
   cases x;rfl]
  rw[dX (l:=al) fun x hx=>by
   rw[q x.body (by have:=i6 hx;omega) (Z x hx) fun e=>hn (bK.2 (.inr (.inr (.inr ⟨x,hx,e⟩))))]
   cases x;rfl]
theorem dK:fD.k=0:=by unfold Alg.k zTy;rw[tW,φ (by decide),φ (by decide),tWs];rfl
theorem dZ:tW fD zTy r0=0:=dK
structure ST (n:Nat) (U:List Str) (c:Core):Prop where
 q:cE (QL 403) c
 cw:∀E,n*3≤E→cw fD E c r0≤3+E
 ty:∀x∈tyR c,x∈U
 tl:tlC c≤6000
 sz:m30 c≤3500000
structure SR (n:Nat) (U:List Str) (s:Nat) (c:Core):Prop where
 q:cE (QL 403) c
 cw:∀E,n*3≤E→cw fD E c r0≤3+E
 ty:∀x∈tyR c,x∈U
 tl:tlC c≤84000
 sz:60*m30 c≤210000000+s*s+120*s
theorem ST.mono {n m:Nat}{U:List Str}{c:Core}(h:ST n U c) (hm:n≤m):ST m U c:=⟨h.q,fun E I=>h.cw E (by omega),h.ty,h.tl,h.sz⟩
theorem ST.cg {n:Nat}{U:List Str}{c:Core}(h:ST n U c) (hn:n≤100) (I:U.length≤480000):CG 400 650000 403 c:=by
 refine⟨h.q,?_,?_,le_trans h.sz (by decide)⟩
 ·have:=h.cw (n*3) (le_refl _);have:=sQ (A:=fD) (E:=0) (E':=n*3) (Aj _) (c:=c) (ρ:=r0) (ρ':=r0) (fun _=>le_refl _);omega
 ·have:=dD h.ty;have:=h.tl;omega
theorem ar0 {s:Nat}(h:s≤3500000):s*s≤12250000000000:=le_trans (Nat.mul_le_mul h h) (by decide)
theorem SR.big {n s:Nat}{U:List Str}{c:Core}(h:SR n U s c) (hs:s≤3500000):m30 c≤Big:=by
 have:=ar0 hs;have:=h.sz;have:Big=250000000000:=rfl;omega
theorem SR.cg {n s:Nat}{U:List Str}{c:Core}(h:SR n U s c) (hn:n≤100) (hs:s≤3500000) (I:U.length≤480000):CG 400 650000 403 c:=by
 refine⟨h.q,?_,?_,h.big hs⟩
 ·have:=h.cw (n*3) (le_refl _);have:=sQ (A:=fD) (E:=0) (E':=n*3) (Aj _) (c:=c) (ρ:=r0) (ρ':=r0) (fun _=>le_refl _);omega
 ·have:=dD h.ty;have:=h.tl;omega
section
variable {n:Nat}{U:List Str}{f i:Int}{s:Str}{t:Ty}{ks:List Core}{bs:List Bind}{al:List Alt}
theorem ST.kid (h:ST n U (.mk f i s t ks bs al)) (h7:¬f=7) {x:Core}(hx:x∈ks):ST n U x:=by
 refine⟨(aT.1 h.q).2.1 x hx,fun E I=>?_,fun y hy=>h.ty y (bK.2 (.inr (.inl ⟨x,hx,hy,.inl h7⟩))),?_,?_⟩
 ·have:=(fG.1 (h.cw E I)).2.2.1 x hx;rwa [φ h7] at this
 ·have:=(kW (f:=f) (n:=i) (s:=s) (t:=t) (ks:=ks) (bs:=bs) (al:=al)).1 x hx;have:=h.tl;omega
 ·have:=fJ hx;have:=h.sz;rw[m30] at this;omega
theorem ST.tkid (h:ST n U (.mk 7 i s t ks bs al)) {x:Core}(hx:x∈ks):ST n (s::U) x∧tlC x+1≤tlC (.mk 7 i s t ks bs al)∧m30 x<m30 (.mk 7 i s t ks bs al):=by
 have h1:=(kW (f:=7) (n:=i) (s:=s) (t:=t) (ks:=ks) (bs:=bs) (al:=al)).1 x hx;rw[ξ rfl] at h1;have h2:=fJ hx;have h3:=h.tl;have h4:=h.sz;refine⟨⟨(aT.1 h.q).2.1 x hx,fun E I=>?_,fun y hy=>?_,by omega,?_⟩,h1,?_⟩
 ·have:=(fG.1 (h.cw E I)).2.2.1 x hx;rw[ξ rfl] at this;exact le_trans (sQ (le_refl _) fun y=>Aj _) this
 ·by_cases e:y=s
  ·rw[e];exact ζ
  ·exact κ _ (h.ty y (bK.2 (.inr (.inl ⟨x,hx,hy,.inr e⟩))))
 ·rw[m30] at h4;omega
 ·rw[m30];omega
theorem ST.bind (h:ST n U (.mk f i s t ks bs al)) {x:Bind}(hx:x∈bs):ST n U x.body:=by
 refine⟨(aT.1 h.q).2.2.1 x hx,fun E I=>((fG.1 (h.cw E I)).2.2.2.1 x hx).2,fun y hy=>h.ty y (bK.2 (.inr (.inr (.inl ⟨x,hx,.inr hy⟩)))),?_,?_⟩
 ·have:=(kW (f:=f) (n:=i) (s:=s) (t:=t) (ks:=ks) (bs:=bs) (al:=al)).2.1 x hx;have:=h.tl;omega
 ·have:=mM hx;have:=h.sz;rw[m30] at this;omega
theorem ST.alt (h:ST n U (.mk f i s t ks bs al)) {x:Alt}(hx:x∈al):ST n U x.body:=by
 refine⟨(aT.1 h.q).2.2.2 x hx,fun E I=>(fG.1 (h.cw E I)).2.2.2.2 x hx,fun y hy=>h.ty y (bK.2 (.inr (.inr (.inr ⟨x,hx,hy⟩)))),?_,?_⟩
 ·have:=(kW (f:=f) (n:=i) (s:=s) (t:=t) (ks:=ks) (bs:=bs) (al:=al)).2.2 x hx;have:=h.tl;omega
 ·have:=i6 hx;have:=h.sz;rw[m30] at this;omega
theorem aDd (hf:okF f 0 0 0=true) (h7:¬f=7) (h5:¬f=5) (hs:s.length≤30):cE (QL 403) (.mk f i s zTy [] [] []):=by
 have hw:w30 s=30:=by unfold w30;omega
 exact aT.2 ⟨⟨hf,fun h=>absurd h h7,rfl,by simp,by unfold lw;rw[hw];decide,fun h=>absurd h h5,by simp,by simp⟩,by simp,by simp,by simp⟩
theorem aDc {w:Nat}(hf:okF f 0 0 0=true) (h7:¬f=7) (h5:¬f=5) (hs:s.length≤30):SR n U w (.mk f i s zTy [] [] []):=by
 have hw:w30 s=30:=by unfold w30;omega
 refine⟨aDd hf h7 h5 hs,fun E q=>fG.2 ⟨by rw[dK];omega,by rw[dZ];omega,by simp,by simp,by simp⟩,fun y hy=>?_,?_,?_⟩
 ·rcases bK.1 hy with h | ⟨x,hx,_⟩ | ⟨x,hx,_⟩ | ⟨x,hx,_⟩
  ·cases h
  ·cases hx
  ·cases hx
  ·cases hx
 ·rw[tlC,iJ,qI,pN,φ h7];omega
 ·rw[m30,cK,fR,iC,hw];omega
end
theorem ST.sr {n w:Nat}{U:List Str}{c:Core}(h:ST n U c):SR n U w c:=⟨h.q,h.cw,h.ty,by have:=h.tl;omega,by have:=h.sz;omega⟩
theorem aUf {n:Nat}{U:List Str}:∀(k:Nat) (c:Core),m30 c≤k→ST n U c→∀(s:Str) (l:List Core),gvC c=some (s,l)→(∀x∈l,ST n U x)∧(l.map m30).sum≤m30 c:=by
 intro k
 induction k with
 | zero=>intro c h;have:=dF c;omega
 | succ k J=>
 intro c h hc s l hg;obtain⟨f,i,nm,t,ks,bs,al⟩:=c;rw[gvC] at hg;by_cases h2:f=2
 ·rw[ξ h2] at hg;cases hg;exact⟨by simp,by simp⟩
 rw[φ h2] at hg;by_cases h4:f=4
 ·rw[ξ h4] at hg;obtain⟨⟨a,b,rfl⟩,rfl,rfl⟩:=iN hc.q (.inl h4);have ha:=hc.kid (by omega) (x:=a) ζ;have hb:=hc.kid (by omega) (x:=b) (κ _ ζ);rw[m30,cK,cK,cK] at h ⊢;rw[gvH] at hg;cases I:gvC a with
  | none=>rw[I] at hg;cases hg
  | some p=>
   rw[I] at hg;obtain⟨s1,N⟩:=p;obtain⟨g1,g2⟩:=J a (by omega) ha s1 N I;have hg:=Option.some.inj hg;have e:l=N++[b]:=(congrArg Prod.snd hg).symm;rw[e];refine⟨fun x hx=>?_,?_⟩
   ·rcases χ.1 hx with hx | hx
    ·exact g1 x hx
    ·rw[Aa.1 hx];exact hb
   ·rw[Ar,List.sum_append];simp only[Am,Bs,Cd,sum_nil];omega
 rw[φ h4] at hg;by_cases h6:f=6
 ·rw[ξ h6] at hg;obtain⟨⟨a,rfl⟩,rfl,rfl⟩:=cO hc.q (.inr (.inl h6));have ha:=hc.kid (by omega) (x:=a) ζ;rw[m30,cK,cK] at h ⊢;rw[gvH] at hg;obtain⟨g1,g2⟩:=J a (by omega) ha s l hg;exact⟨g1,by omega⟩
 ·rw[φ h6] at hg;cases hg
theorem aWv {a b s:Nat}(h:a+b≤s):a*a+2*(a*b)+b*b≤s*s:=by
 have h1:=Nat.mul_le_mul h h;have h2:(a+b)*(a+b)=a*a+2*(a*b)+b*b:=by rw[A5,Cz,Cz,mul_comm b a];omega
 omega
theorem a1v (a b:Nat):2*(a*b)≤a*a+b*b:=by
 rcases Nat.le_total a b with h | h
 ·obtain⟨d,rfl⟩:=Nat.exists_eq_add_of_le h;have q:a*(a+d)=a*a+a*d:=Cz ..;have I:(a+d)*(a+d)=a*a+a*d+(a*d+d*d):=by rw[A5,Cz,Cz,mul_comm d a]
  omega
 ·obtain⟨d,rfl⟩:=Nat.exists_eq_add_of_le h;have q:(b+d)*b=b*b+b*d:=by rw[A5,mul_comm d b]
  have I:(b+d)*(b+d)=b*b+b*d+(b*d+d*d):=by rw[A5,Cz,Cz,mul_comm d b]
  omega
theorem ar1 {a b s:Nat}(h:a+b≤s):60*(a*(b/31+1))≤s*s+120*s:=by
 have h1:=aWv h;have h2:a*(60*(b/31+1))≤a*(2*b+60):=mul_le_mul_left _ (by omega);have q:a*(60*(b/31+1))=60*(a*(b/31+1)):=by rw[mul_left_comm]
 have I:a*(2*b+60)=2*(a*b)+a*60:=by rw[Cz,mul_left_comm]
 omega
theorem ar2 {a b s:Nat}(h:a+b≤s):60*(a*(b/15+2))≤s*s+120*s:=by
 have h1:=aWv h;have h3:=a1v a b;have h2:a*(60*(b/15+2))≤a*(4*b+120):=mul_le_mul_left _ (by omega);have q:a*(60*(b/15+2))=60*(a*(b/15+2)):=by rw[mul_left_comm]
 have I:a*(4*b+120)=4*(a*b)+a*120:=by rw[Cz,mul_left_comm]
 omega
theorem ar3 {s v:Nat}(hs:s≤3500000) (h:60*v≤s*s+120*s):v≤Big:=by
 have:=ar0 hs;have:Big=250000000000:=rfl;omega
theorem ar4 {x m r C:Nat}(hx:x≤m) (h:60*r≤C+x*x+120*x):60*(m-x+r)≤C+m*m+120*m:=by
 have:=Nat.mul_le_mul hx hx;omega
theorem aEb {α:Type}{g:α→Nat}:∀{l:List α}{x:α},x∈l→g x≤(l.map g).sum
 | y::l,x,h=>by
  rw[Am,Cd];rcases Ao.1 h with e | h
  ·rw[e];omega
  ·have:=aEb (g:=g) h;omega
theorem rH {α:Type}{g:α→Nat}{K:Nat}:∀{l:List α},(∀x∈l,g x≤K)→(l.map g).sum≤l.length*K
 | [],_=>by simp
 | y::l,h=>by
  rw[Am,Cd,Ag,Nat.succ_mul];have:=h y ζ;have:=rH (l:=l) fun x hx=>h x (κ _ hx)
  omega
theorem aWr:∀q:List (Str×Ty),31*q.length≤(q.map fun p=>1+w30 p.1).sum
 | []=>le_refl _
 | p::l=>by simp only[Am,Cd,Ag];have:=aWr l;have:=kT p.1;omega
theorem a1q {s:Str}{q:List (Str×Ty)}{I:List (Str×List Str)}(h:lw s q I≤403):q.length≤12:=by
 unfold lw at h;have:=aWr q;have:=kT s;omega
theorem a1r {s:Str}{I:List (Str×Ty)}{q:List (Str×List Str)}(h:lw s I q≤403) {p:Str×List Str}(hp:p∈q):p.2.length≤12:=by
 unfold lw at h;have h1:=aEb (g:=fun p:Str×List Str=>1+w30 p.1+(p.2.map fun v=>1+w30 v).sum) hp;have h2:=rG p.2;have:=kT s;omega
section
variable {n:Nat}{U:List Str}
theorem aS0 (N:cQ 540000000000) (hn:n≤99) (J:U.length≤480000) {body a:Core}{nm:Str}{s:Nat}(h1:ST n U body) (h2:ST n U a) (hs:m30 body+m30 a≤s):
  TB 403 body nm a (cB (m30 body) body nm a)∧SR (n+1) U s (cB (m30 body) body nm a):=by
 have I:=sS N (D:=400) (M:=650000) (X:=403) (by decide) (by decide) (m30 body) body (le_refl _) (h1.cg (by omega) J) nm a (h2.cg (by omega) J);refine⟨I,I.rx.q,fun E O=>?_,fun x hx=>(I.rx.ty x hx).elim (h1.ty x) (h2.ty x),?_,?_⟩
 ·have:=I.rx.cw fD E r0;have:=h1.cw E (by omega);have:=h2.cw E (by omega);omega
 ·have:=I.rx.tl;have:=h1.tl;have:=h2.tl;omega
 ·have:=I.sz (m30 a/31+1) (by omega) (by omega);have:=ar1 hs;omega
theorem aNo (N:cQ 540000000000) (hn:n≤99) (O:U.length≤480000) {i i':Int}{s nm:Str}{u t':Ty}{body:Core}{bs:List Bind}{al:List Alt}
  (h:ST n U (.mk 6 i s u [.mk 7 i' nm t' [body] [] []] bs al)) {w:Nat}:
  SB 403 body nm u (sTR (m30 body) body nm u)∧SR (n+1) U w (sTR (m30 body) body nm u):=by
 have hh:=h.kid (by decide) (x:=.mk 7 i' nm t' [body] [] []) ζ;obtain⟨hb,_,_⟩:=hh.tkid (x:=body) ζ;have W:=h.cg (by omega) O;have J:=((hh.cg (by omega) O).kid (x:=body) ζ).1
 obtain⟨Y,Z,_⟩:=W.ty;have hu:UOk u:=⟨Y,by omega⟩
 have I:=tQ N (by decide) (m30 body) body (le_refl _) J nm u hu;refine⟨I,I.q,fun E hE=>?_,fun x hx=>?_,?_,?_⟩
 ·have h1:=I.cw fD E r0;have h2:=(fG.1 (h.cw (n*3) (le_refl _))).2.1
  have h3:=(fG.1 (hh.cw E (by omega))).2.2.1 body ζ;rw[ξ rfl] at h3;refine le_trans h1 (le_trans (sQ (le_refl _) fun x=>?_) h3);unfold fP;split
  ·omega
  ·exact le_refl _
 ·rcases aRa N (by decide) (m30 body) body (le_refl _) J nm u hu x hx with⟨h1,h2⟩ | h1
  ·exact(Ao.1 (hb.ty x h1)).resolve_left h2
  ·exact h.ty x (bK.2 (.inl h1))
 ·have:=I.tl;have:=hb.tl;omega
 ·have:=I.sz;have:=hb.sz;omega
theorem aSy {B s:Nat}{c r:Core}{l:List Core}(hc:ST n U c) (hl:∀b∈l,(∀E,n*3≤E→cw fD E b r0≤3+E)∧(∀x∈tyR b,x∈U)∧tlC b≤6000) (I:l.length≤12) (J:60*(m30 c*B)≤s*s+120*s) (h:PR 403 B c l r):SR (n+1) U s r:=by
 refine⟨h.q,fun E N=>h.cw fD E r0 _ (hc.cw E (by omega)) fun b hb=>(hl b hb).1 E (by omega),fun x hx=>?_,?_,?_⟩
 ·rcases h.ty x hx with h | ⟨b,hb,h⟩
  ·exact hc.ty x h
  ·exact(hl b hb).2.1 x h
 ·have h1:=h.tl;have h2:=rH (g:=tlC) (K:=6000) (l:=l) fun b hb=>(hl b hb).2.2
  have h3:=hc.tl;have h4:l.length*6000≤12*6000:=Ay _ I;omega
 ·have:=h.sz;omega
theorem aZk {B s:Nat}{c:Core}{l:List Core}(hn:n≤99) (W:U.length≤480000) (hc:ST n U c) (hl:∀b∈l,(∀E,n*3≤E→cw fD E b r0≤3+E)∧(∀x∈tyR b,x∈U)∧tlC b≤6000) (I:l.length≤12) (hs:s≤3500000) (J:1≤B) (Y:60*(m30 c*B)≤s*s+120*s)
  (Z:∀b∈l,cE (QL 403) b) (N:∀b∈l,m30 b≤31*B) (O:∀b∈l,m30 b≤10000000):PO 400 650000 403 B c l:=by
 refine⟨hc.q,(hc.cg (by omega) W).dep,Z,fun b hb=>?_,⟨U,?_,hc.ty,fun b hb=>(hl b hb).2.1⟩,J,N,ar3 hs Y,?_⟩
 ·have:=(hl b hb).1 (n*3) (le_refl _)
  have:=sQ (A:=fD) (E:=0) (E':=n*3) (Aj _) (c:=b) (ρ:=r0) (ρ':=r0) (fun _=>le_refl _);omega
 ·have h2:=rH (g:=tlC) (K:=6000) (l:=l) fun b hb=>(hl b hb).2.2
  have h3:=hc.tl;have h4:l.length*6000≤12*6000:=Ay _ I;omega
 ·have h2:=rH (g:=m30) (K:=10000000) (l:=l) O;have h4:l.length*10000000≤12*10000000:=Ay _ I;have:Big=250000000000:=rfl;omega
theorem aUb {i:Int}{s:Str}{t:Ty}{ks:List Core}{bs:List Bind}{al:List Alt}(h:ST n U (.mk 8 i s t ks bs al)) {b:Bind}(hb:b∈bs):
  cE (QL 403) (n0 bs b)∧((∀E,n*3≤E→cw fD E (n0 bs b) r0≤3+E)∧(∀x∈tyR (n0 bs b),x∈U)∧tlC (n0 bs b)≤6000)∧m30 (n0 bs b)≤31*(fR bs/15+2)∧m30 (n0 bs b)≤10000000:=by
 have I:=h.bind hb;obtain⟨⟨g1,g2,g3,g4,g5,g6,g7,g8⟩,_,O,_⟩:=aT.1 h.q;have hs:=h.sz;rw[m30] at hs;have hm:=mM hb;have J:w30 ([]:Str)=30:=rfl;have em:m30 (n0 bs b)=31+m30 b.body+fR bs:=by
  unfold n0;rw[m30,cK,cK,iC,J];omega
 have W:m30 b.body+31≤fR bs:=by
  have h1:=sE bs;have h2:m30 b.body≤cK (bs.map Bind.body):=fJ (Ad.2 ⟨b,hb,rfl⟩);have h3:1≤bs.length:=List.length_pos_of_mem hb;omega
 refine⟨?_,⟨fun E N=>?_,fun x hx=>?_,?_⟩,by omega,by omega⟩
 ·unfold n0;refine aT.2 ⟨⟨by simp[okF],fun e=>absurd e (by decide),rfl,g4,?_,fun e=>absurd e (by decide),g7,by simp⟩,by simpa using I.q,O,by simp⟩;unfold lw at g5 ⊢;rw[J];have:=kT s;simp only[Bs,sum_nil];omega
 ·unfold n0;have g:=fG.1 (h.cw E N);refine fG.2 ⟨g.1,by rw[dZ];omega,fun x hx=>?_,g.2.2.2.1,by simp⟩;rw[Aa.1 hx,φ (by decide)];exact I.cw E N
 ·unfold n0 at hx;rcases bK.1 hx with h1 | ⟨y,hy,h1,_⟩ | ⟨y,hy,h1⟩ | ⟨y,hy,_⟩
  ·cases h1
  ·rw[Aa.1 hy] at h1;exact I.ty x h1
  ·exact h.ty x (bK.2 (.inr (.inr (.inl ⟨y,hy,h1⟩))))
  ·cases hy
 ·unfold n0;have g:=kW (f:=8) (n:=i) (s:=s) (t:=t) (ks:=ks) (bs:=bs) (al:=al);have ht:=h.tl;have:=(yK (K:=6000) (f:=8) (n:=0) (s:=[]) (t:=zTy) (ks:=[b.body]) (bs:=bs) (al:=[])).2 ⟨fun x hx=>by rw[Aa.1 hx];exact I.tl,fun x hx=>le_trans (g.2.1 x hx) ht,by simp⟩
  rwa [φ (by decide),Be] at this
theorem vP {i:Int}{s:Str}{t:Ty}{ks:List Core}{bs:List Bind}{al:List Alt}(h:cE (QL 403) (.mk 8 i s t ks bs al)):(∃a,ks=[a])∧al=[]∧bs.length≤12:=by
 obtain⟨⟨h1,_,_,_,h5,_⟩,_⟩:=aT.1 h;have h6:=a1q h5;rw[θ] at h6;unfold okF at h1;rw[φ (by decide),φ (by decide),ξ rfl] at h1;obtain⟨g1,g2⟩:=ψ h1;rw[θ] at g2;exact⟨Bk.1 g1,Bn.1 g2,h6⟩
theorem aQ9:∀l:List (Str×List Str),31*l.length≤(l.map fun p=>1+w30 p.1+(p.2.map fun v=>1+w30 v).sum).sum
 | []=>by simp
 | p::l=>by
  have h1:=aQ9 l;have h2:=kT p.1;rw[Am,Cd,Ag];omega
theorem y9 {i:Int}{s:Str}{t:Ty}{ks:List Core}{bs:List Bind}{al:List Alt}(h:cE (QL 403) (.mk 9 i s t ks bs al)):(∃a,ks=[a])∧bs=[]∧al.length≤12∧∀a∈al,a.vars.length≤12:=by
 obtain⟨⟨h1,_,_,_,h5,_⟩,_⟩:=aT.1 h;unfold okF at h1;rw[φ (by decide),φ (by decide),φ (by decide),ξ rfl] at h1;obtain⟨g1,g2⟩:=ψ h1;rw[θ] at g2;refine⟨Bk.1 g1,Bn.1 g2,?_,fun a ha=>a1r h5 (Ad.2 ⟨a,ha,rfl⟩)⟩;unfold lw at h5;have h6:=aQ9 (al.map ahd);rw[θ] at h6;have:=kT s;omega
theorem aSz (hn:n≤99) (O:U.length≤480000) {i:Int}{s:Str}{t:Ty}{a:Core}{bs:List Bind}(h:ST n U (.mk 8 i s t [a] bs [])):
  PO 400 650000 403 (fR bs/15+2) a (bs.map (n0 bs))∧∀r,PR 403 (fR bs/15+2) a (bs.map (n0 bs)) r→SR (n+1) U (m30 (.mk 8 i s t [a] bs [])) r:=by
 have ha:=h.kid (by decide) (x:=a) ζ;have I:(bs.map (n0 bs)).length≤12:=by rw[θ];exact(vP h.q).2.2
 have hl:∀b∈bs.map (n0 bs),cE (QL 403) b∧((∀E,n*3≤E→cw fD E b r0≤3+E)∧(∀x∈tyR b,x∈U)∧tlC b≤6000)∧m30 b≤31*(fR bs/15+2)∧m30 b≤10000000:=fun b hb=>by
  obtain⟨W,J,rfl⟩:=Ad.1 hb;exact aUb h J
 have N:=ar2 (a:=m30 a) (b:=fR bs) (s:=m30 (.mk 8 i s t [a] bs [])) (by rw[m30,cK,cK];omega);exact⟨aZk hn O ha (fun b hb=>(hl b hb).2.1) I h.sz (by omega) N (fun b hb=>(hl b hb).1) (fun b hb=>(hl b hb).2.2.1) (fun b hb=>(hl b hb).2.2.2),fun _=>aSy ha (fun b hb=>(hl b hb).2.1) I N⟩
theorem aQq (hn:n≤99) (O:U.length≤480000) {a:Alt}{c:Core}{s:Nat}(hs:m30 a.body+m30 c≤s) (J:s≤3500000) (ha:ST n U a.body) (hv:a.vars.length≤12) {l:List Core}(g1:∀x∈l,ST n U x) (g2:(l.map m30).sum≤m30 c) (hl:l.length=a.vars.length):
  PO 400 650000 403 (m30 c/31+1) a.body l∧∀r,PR 403 (m30 c/31+1) a.body l r→SR (n+1) U s r:=by
 have hm:∀b∈l,m30 b≤m30 c:=fun b hb=>le_trans (wD hb) g2
 have I:∀b∈l,(∀E,n*3≤E→cw fD E b r0≤3+E)∧(∀x∈tyR b,x∈U)∧tlC b≤6000:=fun b hb=>⟨(g1 b hb).cw,(g1 b hb).ty,(g1 b hb).tl⟩
 have N:=ar1 hs;exact⟨aZk hn O ha I (by omega) J (by omega) N (fun b hb=>(g1 b hb).q) (fun b hb=>by have:=hm b hb;omega) (fun b hb=>by have:=hm b hb;omega),fun _=>aSy ha I (by omega) N⟩
theorem aNp (hn:n≤99) (I:U.length≤480000) {a:Alt}{c:Core}{s:Nat}(hs:m30 a.body+m30 c≤s) (q:s≤3500000) (ha:ST n U a.body) (hc:ST n U c) (hv:a.vars.length≤12) {nm:Str}{l:List Core}(hg:gvC c=some (nm,l)) (hl:l.length=a.vars.length):
  PO 400 650000 403 (m30 c/31+1) a.body l∧∀r,PR 403 (m30 c/31+1) a.body l r→SR (n+1) U s r:=by
 obtain⟨g1,g2⟩:=aUf _ c (le_refl _) hc nm l hg;exact aQq hn I hs q ha hv g1 g2 hl
theorem aFf {x r:Core}:∀{ks:List Core}{j:Nat},ks[j]?=some x→cK (ks.set j r)+m30 x=cK ks+m30 r
 | y::ks,0,h=>by
  have e:y=x:=by simpa using h
  subst e;rw[List.set_cons_zero,cK,cK];omega
 | y::ks,j+1,h=>by
  rw[Cq,cK,cK];have:=aFf (r:=r) (ks:=ks) (j:=j) (by simpa using h);omega
theorem aZj {f i:Int}{s:Str}{t:Ty}{ks:List Core}{bs:List Bind}{al:List Alt}(h7:¬f=7) (h:ST n U (.mk f i s t ks bs al)) {j:Nat}{x r:Core}(hx:ks[j]?=some x) (I:SR (n+1) U (m30 x) r):
  SR (n+1) U (m30 (.mk f i s t ks bs al)) (aH5 (.mk f i s t ks bs al) j r):=by
 have N:=η hx;have hin:∀y∈ks.set j r,y=r∨y∈ks:=fun y hy=>(List.mem_or_eq_of_mem_set hy).symm
 obtain⟨g1,g2,g3,g4⟩:=aT.1 h.q;unfold aH5;refine⟨aT.2 ⟨by rw[B3];exact g1,fun y hy=>?_,g3,g4⟩,fun E O=>?_,fun y hy=>?_,?_,?_⟩
 ·rcases hin y hy with rfl | hy
  ·exact I.q
  ·exact g2 y hy
 ·obtain⟨W,Y,Z,c4,c5⟩:=fG.1 (h.cw E (by omega));refine fG.2 ⟨W,Y,fun y hy=>?_,c4,c5⟩;rcases hin y hy with rfl | hy
  ·rw[φ h7];exact I.cw E O
  ·exact Z y hy
 ·rcases bK.1 hy with h1 | ⟨z,J,h1,_⟩ | h1
  ·exact h.ty y (bK.2 (.inl h1))
  ·rcases hin z J with rfl | J
   ·exact I.ty y h1
   ·exact h.ty y (bK.2 (.inr (.inl ⟨z,J,h1,.inl h7⟩)))
  ·exact h.ty y (bK.2 (.inr (.inr h1)))
 ·have g:=kW (f:=f) (n:=i) (s:=s) (t:=t) (ks:=ks) (bs:=bs) (al:=al);have ht:=h.tl;have:=(yK (K:=84000) (f:=f) (n:=i) (s:=s) (t:=t) (ks:=ks.set j r) (bs:=bs) (al:=al)).2 ⟨fun y hy=>?_,fun y hy=>by have:=g.2.1 y hy;omega,fun y hy=>by have:=g.2.2 y hy;omega⟩
  ·rwa [φ h7,Be] at this
  ·rcases hin y hy with rfl | hy
   ·exact I.tl
   ·have:=g.1 y hy;omega
 ·have g1:=aFf (r:=r) hx;have g2:=fJ N;have e:m30 (.mk f i s t (ks.set j r) bs al)=m30 (.mk f i s t ks bs al)-m30 x+m30 r:=by
   rw[m30,m30];omega
  rw[e];exact ar4 (by rw[m30];omega) I.sz
end
theorem nQ {bd:List Bind}{k:Nat}{f i:Int}{s:Str}{t:Ty}{ks:List Core}{bs:List Bind}{al:List Alt}:dC bd (k+1) (.mk f i s t ks bs al)=
  if f=1 then(match bd.find? fun b=>decide (b.name=s) with | some b=>(b.body,0) | none=>(zC,51))
  else if f=4∨f=6 then
   (if f=4∧(ks.headD zC).form=5 then(cB (m30 ((ks.headD zC).kids.headD zC)) ((ks.headD zC).kids.headD zC) (ks.headD zC).name (ks.getD 1 zC),0)
   else if f=6∧(ks.headD zC).form=7 then(sTR (m30 ((ks.headD zC).kids.headD zC)) ((ks.headD zC).kids.headD zC) (ks.headD zC).name t,0)
   else nB (dC bd k) (.mk f i s t ks bs al) 0)
  else if f=8 then(zB (ks.headD zC) (bs.map Bind.name) (bs.map (n0 bs)),0)
  else if f=9 then(if shC (ks.headD zC)=true then(match al.findSome? fun a=>gJ a (ks.headD zC) with | some r=>(r,0) | none=>(zC,52)) else nB (dC bd k) (.mk f i s t ks bs al) 0)
  else if f=10 then
   (if ¬shC (ks.headD zC)=true then nB (dC bd k) (.mk f i s t ks bs al) 0
   else if ¬shC (ks.getD 1 zC)=true then nB (dC bd k) (.mk f i s t ks bs al) 1
   else if(ks.headD zC).form=3∧(ks.getD 1 zC).form=3 then mZ s (ks.headD zC).n (ks.getD 1 zC).n
   else(zC,51))
  else if f=11 then(zC,52)
  else(zC,51):=by rw[dC];rfl
structure BI (U:List Str) (bd:List Bind):Prop where
 len:bd.length≤1000
 all:∀b∈bd,ST 0 U b.body
theorem aVv {n w:Nat}{U:List Str}{s:Str}{a b:Int}(h:(mZ s a b).2=0):SR n U w (mZ s a b).1:=by
 have hi:∀m,SR n U w (jS m):=fun m=>aDc (by decide) (by decide) (by decide) (by decide)
 have ht:∀c,SR n U w (aQ1 c):=fun c=>by cases c<;>exact aDc (by decide) (by decide) (by decide) (by decide)
 unfold mZ at h ⊢;by_cases h1:s=aCj
 ·rw[ξ h1];exact hi _
 rw[φ h1] at h ⊢;by_cases h1:s=aXq
 ·rw[ξ h1];exact hi _
 rw[φ h1] at h ⊢;by_cases h1:s=aVz
 ·rw[ξ h1];exact hi _
 rw[φ h1] at h ⊢;by_cases h1:s=aPb
 ·rw[ξ h1] at h ⊢;by_cases h0:b=0
  ·rw[ξ h0] at h;cases h
  ·rw[φ h0];exact hi _
 rw[φ h1] at h ⊢;by_cases h1:s=nEq
 ·rw[ξ h1];exact ht _
 rw[φ h1] at h ⊢;by_cases h1:s=nLt
 ·rw[ξ h1];exact ht _
 ·rw[φ h1] at h;cases h
theorem aPo {sh:Bool}{p:CE}{g:Core→Core}(h:(aHm sh p g).2=0):sh=false∧p.2=0∧(aHm sh p g).1=g p.1:=by
 unfold aHm at h ⊢;cases sh with
 | true=>cases h
 | false=>
  rw[φ Aw] at h ⊢;by_cases h0:p.2=0
  ·rw[ξ h0];exact⟨rfl,h0,rfl⟩
  ·rw[φ h0] at h;exact absurd h h0
theorem nP (W:cQ 540000000000) {n:Nat}{U:List Str}(hn:n≤99) (Y:U.length≤480000) {bd:List Bind}(hB:BI U bd):∀(k:Nat) (c:Core),m30 c≤k→ST n U c→(dC bd k c).2=0→SR (n+1) U (m30 c) (dC bd k c).1:=by
 intro k
 induction k with
 | zero=>intro c h;have:=dF c;omega
 | succ k ih=>
 intro c h hc he;obtain⟨f,i,s,t,ks,bs,al⟩:=c;have J:∀j,¬f=7→(nB (dC bd k) (.mk f i s t ks bs al) j).2=0→SR (n+1) U (m30 (.mk f i s t ks bs al)) (nB (dC bd k) (.mk f i s t ks bs al) j).1:=fun j h7 he=>by
  unfold nB at he ⊢;cases hx:ks[j]? with
  | none=>
   have O:(Core.mk f i s t ks bs al).kids[j]?=none:=hx;rw[O] at he;cases he
  | some x=>
   have O:(Core.mk f i s t ks bs al).kids[j]?=some x:=hx;rw[O] at he ⊢;dsimp only at he ⊢;obtain⟨_,Z,N⟩:=aPo he;rw[N];have aa:=η hx;exact aZj h7 hc hx (ih x (by have:=fJ aa;rw[m30] at h;omega) (hc.kid h7 aa) Z)
 rw[nQ] at he ⊢;by_cases h1:f=1
 ·rw[ξ h1] at he ⊢;cases hf:bd.find? fun b=>decide (b.name=s) with
  | none=>rw[hf] at he;cases he
  | some b=>exact((hB.all b (Cn hf)).mono (Aj _)).sr
 rw[φ h1] at he ⊢;by_cases ab:f=4∨f=6
 ·rw[ξ ab] at he ⊢;by_cases ha:f=4∧(ks.headD zC).form=5
  ·rw[ξ ha];obtain⟨rfl,ha⟩:=ha;obtain⟨⟨a,b,rfl⟩,rfl,rfl⟩:=iN hc.q (.inl rfl);have ka:=hc.kid (by decide) (x:=a) ζ;have kb:=hc.kid (by decide) (x:=b) (κ _ ζ);obtain⟨f',i',s',t',ks',bs',al'⟩:=a;have ha:f'=5:=ha;subst ha;obtain⟨⟨body,rfl⟩,rfl,rfl⟩:=cO ka.q (.inl rfl);exact(aS0 W hn Y (ka.kid (by decide) (x:=body) ζ) kb (by rw[m30,cK,cK,cK,m30,cK,cK];omega)).2
  rw[φ ha] at he ⊢;by_cases hb:f=6∧(ks.headD zC).form=7
  ·rw[ξ hb];obtain⟨rfl,hb⟩:=hb;obtain⟨⟨a,rfl⟩,rfl,rfl⟩:=cO hc.q (.inr (.inl rfl));have ka:=hc.kid (by decide) (x:=a) ζ;obtain⟨f',i',s',t',ks',bs',al'⟩:=a;have hb:f'=7:=hb;subst hb;obtain⟨⟨body,rfl⟩,rfl,rfl⟩:=cO ka.q (.inr (.inr rfl));exact(aNo W hn Y hc).2
  rw[φ hb] at he ⊢;exact J 0 (by omega) he
 rw[φ ab] at he ⊢;by_cases h8:f=8
 ·rw[ξ h8];subst h8;obtain⟨⟨a,rfl⟩,rfl,h12⟩:=vP hc.q;obtain⟨g1,g2⟩:=aSz hn Y hc;exact g2 _ (aP9 W (by decide) (by decide) a _ _ (by rw[θ,θ]) (by rw[θ];omega) g1).2
 rw[φ h8] at he ⊢;by_cases h9:f=9
 ·rw[ξ h9] at he ⊢;subst h9;obtain⟨⟨a,rfl⟩,rfl,h12,hv⟩:=y9 hc.q;cases ac:shC a with
  | true=>
   have e:shC ([a].headD zC)=true:=ac;rw[ξ e] at he ⊢;have ka:=hc.kid (by decide) (x:=a) ζ;cases ad:al.findSome? fun x=>gJ x ([a].headD zC) with
   | none=>rw[ad] at he;cases he
   | some r=>
    obtain⟨x,hx,I⟩:=List.exists_of_findSome?_eq_some ad;have kx:=hc.alt hx;have I:gJ x a=some r:=I;have hm:=i6 hx;have hsz:=hc.sz;show SR (n+1) U _ r;unfold gJ at I;by_cases e1:x.form=3
    ·rw[ξ e1] at I;cases I;exact(kx.mono (Nat.le_succ _)).sr
    rw[φ e1] at I;by_cases Z:x.form=2
    ·rw[ξ Z] at I;by_cases N:a.form=3∧a.n=x.n
     ·rw[ξ N] at I;cases I;exact(kx.mono (Nat.le_succ _)).sr
     ·rw[φ N] at I;cases I
    rw[φ Z] at I;cases hg:gvC a with
    | none=>rw[hg] at I;cases I
    | some p=>
     obtain⟨nm,l⟩:=p;rw[hg] at I;dsimp only at I;by_cases N:nm=x.name∧l.length=x.vars.length
     ·rw[ξ N] at I;cases I;obtain⟨g1,g2⟩:=aNp hn Y (s:=m30 (.mk 9 i s t [a] [] al)) (by rw[m30,cK,cK];omega) hsz kx ka (hv x hx) hg N.2;exact g2 _ (aP9 W (by decide) (by decide) x.body _ _ N.2.symm (by have:=hv x hx;omega) g1).2
     ·rw[φ N] at I;cases I
  | false=>
   have e:¬shC ([a].headD zC)=true:=by rw[show shC ([a].headD zC)=shC a from rfl,ac];decide
   rw[φ e] at he ⊢;exact J 0 (by decide) he
 rw[φ h9] at he ⊢;by_cases ae:f=10
 ·rw[ξ ae] at he ⊢;by_cases g1:¬shC (ks.headD zC)=true
  ·rw[ξ g1] at he ⊢;exact J 0 (by omega) he
  rw[φ g1] at he ⊢;by_cases g2:¬shC (ks.getD 1 zC)=true
  ·rw[ξ g2] at he ⊢;exact J 1 (by omega) he
  rw[φ g2] at he ⊢;by_cases g3:(ks.headD zC).form=3∧(ks.getD 1 zC).form=3
  ·rw[ξ g3] at he ⊢;exact aVv he
  ·rw[φ g3] at he;cases he
 rw[φ ae] at he;by_cases ag:f=11
 ·rw[ξ ag] at he;cases he
 ·rw[φ ag] at he;cases he
mutual
theorem nZ {X:Nat}:∀c:Core,cE (QL X) c→m30 c≤X*dQ c
 | .mk f n s t ks bs al,h=>by
  obtain⟨⟨_,_,_,_,h5,_⟩,h2,h3,h4⟩:=aT.1 h;have q:=uQ ks h2;have I:=uR bs h3;have J:=uS al h4;unfold lw at h5;rw[m30,dQ,Cz,Cz,Cz,mul_one];omega
theorem uQ {X:Nat}:∀l:List Core,(∀x∈l,cE (QL X) x)→cK l≤X*c6 l
 | [],_=>by rw[cK];exact Aj _
 | c::l,h=>by
  rw[cK,c6,Cz];have:=nZ c (h c ζ);have:=uQ l fun x hx=>h x (κ _ hx)
  omega
theorem uR {X:Nat}:∀l:List Bind,(∀x∈l,cE (QL X) x.body)→fR l≤X*fN l+((l.map bhd).map fun p=>1+w30 p.1).sum
 | [],_=>by rw[fR];exact Aj _
 | .mk s t c::l,h=>by
  rw[fR,fN,Cz,Am,Am,Cd];have:=nZ c (h _ ζ);have:=uR l fun x hx=>h x (κ _ hx)
  show _≤_+(1+w30 s+_);omega
theorem uS {X:Nat}:∀l:List Alt,(∀x∈l,cE (QL X) x.body)→iC l≤X*fO l+((l.map ahd).map fun p=>1+w30 p.1+(p.2.map fun v=>1+w30 v).sum).sum
 | [],_=>by rw[iC];exact Aj _
 | .mk f n s v c::l,h=>by
  rw[iC,fO,Cz,Am,Am,Cd];have:=nZ c (h _ ζ);have:=uS l fun x hx=>h x (κ _ hx)
  show _≤_+(1+w30 s+(v.map fun v=>1+w30 v).sum+_);omega
end
mutual
theorem qH:∀c:Core,tlC c≤dQ c
 | .mk f n s t ks bs al=>by
  have q:=yH ks;have I:=yI bs;have J:=yJ al;rw[tlC,dQ];split<;>omega
theorem yH:∀l:List Core,iJ l≤c6 l
 | []=>by rw[iJ];exact Aj _
 | c::l=>by rw[iJ,c6];have:=qH c;have:=yH l;omega
theorem yI:∀l:List Bind,qI l≤fN l
 | []=>by rw[qI];exact Aj _
 | .mk s t c::l=>by rw[qI,fN];have:=qH c;have:=yI l;omega
theorem yJ:∀l:List Alt,pN l≤fO l
 | []=>by rw[pN];exact Aj _
 | .mk f n s v c::l=>by rw[pN,fO];have:=qH c;have:=yJ l;omega
end
theorem SR.st {n s:Nat}{U:List Str}{c:Core}(h:SR n U s c) (hs:dQ c≤6000):ST n U c:=
 ⟨h.q,h.cw,h.ty,le_trans (qH c) hs,by have:=nZ c h.q;have:403*dQ c≤403*6000:=mul_le_mul_left _ hs;omega⟩
mutual
def nS:Core→Str→Core→Core
 | .mk f n nm t ks bs al,x,b=>if f=1 then(if nm=x then b else .mk f n nm t ks bs al)
  else .mk f n nm t (if x∈gvN f nm bs then ks else nSs ks x b) (if x∈gvN f nm bs then bs else nSb bs x b) (nSa al x b)
def nSs:List Core→Str→Core→List Core
 | [],_,_=>[]
 | c::l,x,b=>nS c x b::nSs l x b
def nSb:List Bind→Str→Core→List Bind
 | [],_,_=>[]
 | .mk s t c::l,x,b=>.mk s t (nS c x b)::nSb l x b
def nSa:List Alt→Str→Core→List Alt
 | [],_,_=>[]
 | .mk f n s v c::l,x,b=>.mk f n s v (if x∈v then c else nS c x b)::nSa l x b
end
def nSA (x:Str) (b:Core) (a:Alt):Alt:=.mk a.form a.n a.name a.vars (if x∈a.vars then a.body else nS a.body x b)
def nSB (x:Str) (b:Core) (a:Bind):Bind:=.mk a.name a.ty (nS a.body x b)
section
variable {x:Str}{b:Core}
theorem aKo:∀l:List Core,nSs l x b=l.map fun c=>nS c x b
 | []=>by rw[nSs];rfl
 | c::l=>by rw[nSs,aKo l];rfl
theorem aKp:∀l:List Bind,nSb l x b=l.map (nSB x b)
 | []=>by rw[nSb];rfl
 | .mk s t c::l=>by rw[nSb,aKp l];rfl
theorem aKq:∀l:List Alt,nSa l x b=l.map (nSA x b)
 | []=>by rw[nSa];rfl
 | .mk f n s v c::l=>by rw[nSa,aKq l];rfl
theorem oV {f n:Int}{nm:Str}{t:Ty}{ks:List Core}{bs:List Bind}{al:List Alt}(hf:¬f=1):nS (.mk f n nm t ks bs al) x b=
  .mk f n nm t (if x∈gvN f nm bs then ks else ks.map fun c=>nS c x b) (if x∈gvN f nm bs then bs else bs.map (nSB x b)) (al.map (nSA x b)):=by
 rw[nS,φ hf,aKo,aKp,aKq]
theorem tL:∀(k:Nat) (c:Core),b7 c≤k→¬x∈pfR c→nS c x b=c
 | 0,c,h,_=>by have:=c9 c;omega
 | k+1,.mk f n nm t ks bs al,h,hx=>by
  obtain⟨I,J,N,_⟩:= @eQ f n nm t ks bs al;by_cases h1:f=1
  ·rw[nS,ξ h1,φ];intro e;rw[pfR,ξ h1] at hx;exact hx (by rw[e];exact Aa.2 rfl)
  ·have hx:=fun h=>hx ((gM h1).2 h)
   rw[oV h1];have O:(if x∈gvN f nm bs then ks else ks.map fun c=>nS c x b)=ks:=by
    split
    ·rfl
    ·rename_i hg;exact dX fun c hc=>tL k c (by have:=I c hc;omega) fun q=>hx (.inl ⟨c,χ.2 (.inl hc),q,hg⟩)
   have W:(if x∈gvN f nm bs then bs else bs.map (nSB x b))=bs:=by
    split
    ·rfl
    ·rename_i hg;exact dX fun c hc=>by
      unfold nSB;rw[tL k c.body (by have:=J c hc;omega) fun q=>hx (.inl ⟨c.body,χ.2 (.inr (Ad.2 ⟨c,hc,rfl⟩)),q,hg⟩)];cases c;rfl
   have Y:al.map (nSA x b)=al:=dX fun a ha=>by
    unfold nSA;by_cases hv:x∈a.vars
    ·rw[ξ hv];cases a;rfl
    ·rw[φ hv,tL k a.body (by have:=N a ha;omega) fun q=>hx (.inr ⟨a,ha,q,hv⟩)];cases a;rfl
   rw[O,W,Y]
end
section
variable {sb:Core→Str→Core→Core}
theorem xJ {far:List Str}:∀{ns:List Str}{st:List Str×List Core×List Str},(∀n∈ns,¬n∈far)→jN sb far ns st=(st.1++ns,st.2.1,st.2.2)
 | [],st,_=>by unfold jN;simp
 | n::ns,st,h=>by
  have e:dS sb far st n=(st.1++[n],st.2.1,st.2.2):=by unfold dS;rw[φ (h n ζ)]
  have:=xJ (far:=far) (ns:=ns) (st:=dS sb far st n) fun m hm=>h m (κ _ hm)
  unfold jN at this ⊢;rw[foldl_cons,this,e];simp
theorem aEu {s:Str}{b:Core}{ns:List Str}{ps:List Core}(hf:∀n∈ns,¬n∈pfR b) (hs:∀p∈ps,sb p s b=nS p s b):bX sb s b ns ps=(ns,if s∈ns then ps else ps.map fun p=>nS p s b):=by
 unfold bX;split
 ·rename_i h;rw[xJ hf,φ h.2];simp only[Bd];rw[A6 hs]
 ·rename_i h;by_cases hn:s∈ns
  ·rw[ξ hn]
  ·rw[φ hn];have e:(ps.map fun p=>nS p s b)=ps:=dX fun p hp=>tL _ p (le_refl _) fun hx=>h ⟨Cb.2 ⟨p,hp,hx⟩,hn⟩
   rw[e]
end
theorem aRo {x:Str}{b:Core}:∀bs:List Bind,mkB (bs.map Bind.ty) (bs.map Bind.name) (bs.map fun a=>nS a.body x b)=bs.map (nSB x b)
 | []=>rfl
 | .mk s t c::l=>by
  rw[Am,Am,Am,Am,mkB,aRo l];rfl
theorem wE {X:Nat}{s:Str}{b:Core}(hb:∀z∈pfR b,¬nh z) (ht:tyR b=[]):∀(k:Nat) (c:Core),m30 c≤k→cE (QL X) c→cB k c s b=nS c s b:=by
 intro k
 induction k with
 | zero=>intro c h;have:=dF c;omega
 | succ k N=>
 intro c h I;obtain⟨f,n,nm,t,ks,bs,al⟩:=c;rw[cB];by_cases h1:f=1
 ·obtain⟨rfl,rfl,rfl⟩:=q9 I h1;rw[nS,ξ h1];by_cases hs:nm=s
  ·rw[ξ ⟨h1,hs⟩,ξ hs]
  ·rw[φ fun e=>hs e.2,φ hs,φ (fun e=>by have:f=7:=e.1;omega),oM];unfold zNm zKs zBs;rw[φ (by omega)];simp[mkB]
 ·have W:(if Core.form (.mk f n nm t ks bs al)=7∧s∈pfR (.mk f n nm t ks bs al) then aHq (.mk f n nm t ks bs al) (tyR b) else .mk f n nm t ks bs al)=.mk f n nm t ks bs al:=by
   split
   ·rw[ht,aHq,φ (by simp)]
   ·rfl
  rw[φ (fun e=>h1 e.1),W,oV h1,oM];obtain⟨⟨q1,q2,q3,q4,q5,Z,q7,q8⟩,k1,k2,k3⟩:=aT.1 I;rw[m30] at h
  have hg:∀y∈gvN f nm bs,¬y∈pfR b:=fun y hy q=>hb y q (by
   unfold gvN at hy;rcases χ.1 hy with hy | hy
   ·by_cases h5:f=5
    ·rw[ξ h5] at hy;rw[Aa.1 hy];exact Z h5
    ·rw[φ h5] at hy;cases hy
   ·obtain⟨z,J,rfl⟩:=Ad.1 hy
    exact q7 (bhd z) (Ad.2 ⟨z,J,rfl⟩))
  have hP:=aEu (sb:=cB k) (s:=s) (b:=b) (ns:=gvN f nm bs) (ps:=ks++bs.map Bind.body) hg fun p hp=>by
   rcases χ.1 hp with hp | hp
   ·exact N p (by have:=fJ hp;omega) (k1 p hp)
   ·obtain⟨z,J,rfl⟩:=Ad.1 hp;exact N z.body (by have:=mM J;omega) (k2 z J)
  have hA:al.map (jL (cB k) s b)=al.map (nSA s b):=A6 fun a ha=>by
   have hv:∀y∈a.vars,¬y∈pfR b:=fun y hy q=>hb y q (q8 (ahd a) (Ad.2 ⟨a,ha,rfl⟩) y hy)
   have Y:=aEu (sb:=cB k) (s:=s) (b:=b) (ns:=a.vars) (ps:=[a.body]) hv fun p hp=>by
    rw[Aa.1 hp];exact N a.body (by have:=i6 ha;omega) (k3 a ha)
   unfold jL nSA;rw[Y];by_cases hx:s∈a.vars
   ·rw[ξ hx,ξ hx];rfl
   ·rw[φ hx,φ hx];rfl
  rw[hA];unfold zNm zKs zBs;rw[hP];have e1:(if f=5 then(gvN f nm bs).headD nm else nm)=nm:=by
   split
   ·rename_i h5;unfold gvN;rw[ξ h5];rfl
   ·rfl
  dsimp only;rw[e1];by_cases hx:s∈gvN f nm bs
  ·rw[ξ hx,ξ hx,ξ hx,take_left,drop_left];by_cases h5:f=5
   ·obtain⟨_,rfl,rfl⟩:=cO I (.inl h5);rfl
   ·have O:gvN f nm bs=bs.map Bind.name:=by unfold gvN;rw[φ h5];rfl
    rw[O,aFc]
  ·rw[φ hx,φ hx,φ hx,Ar,take_left' (by rw[θ]),drop_left' (by rw[θ])];by_cases h5:f=5
   ·obtain⟨_,rfl,rfl⟩:=cO I (.inl h5);rfl
   ·have O:gvN f nm bs=bs.map Bind.name:=by unfold gvN;rw[φ h5];rfl
    rw[O,A1];have e3:=aRo (x:=s) (b:=b) bs;rw[show((fun p=>nS p s b)∘Bind.body)=fun a:Bind=>nS a.body s b from rfl,e3]
section
variable {a:Str}{u:Ty}
end
theorem aO4 (z:Str):pfR (vC z)=[z]:=by unfold vC;rw[pfR,ξ rfl]
section
variable {X:Nat}
theorem aNv {f n:Int}{nm:Str}{t:Ty}{ks:List Core}{bs:List Bind}{al:List Alt}(q:cE (QL X) (.mk f n nm t ks bs al)):(∀y∈gvN f nm bs,nh y)∧∀a∈al,∀y∈a.vars,nh y:=by
 obtain⟨⟨_,_,_,_,_,I,J,N⟩,_⟩:=aT.1 q;refine⟨fun y hy=>?_,fun a ha y hy=>N (ahd a) (Ad.2 ⟨a,ha,rfl⟩) y hy⟩;unfold gvN at hy;rcases χ.1 hy with hy | hy
 ·by_cases h5:f=5
  ·rw[ξ h5] at hy;rw[Aa.1 hy];exact I h5
  ·rw[φ h5] at hy;cases hy
 ·obtain⟨z,O,rfl⟩:=Ad.1 hy;exact J (bhd z) (Ad.2 ⟨z,O,rfl⟩)
theorem aE5 {f:Int}{nm x:Str}{b:Core}{bs:List Bind}{p:Prop} [Decidable p]:gvN f nm (if p then bs else bs.map (nSB x b))=gvN f nm bs:=by
 split
 ·rfl
 ·unfold gvN;rw[A1];rfl
theorem x7 {x z:Str}{b:Core}(J:¬nh z):∀(k:Nat) (c:Core),b7 c≤k→cE (QL X) c→¬z∈pfR c→nS (nS c x (vC z)) z b=nS c x b
 | 0,c,h,_,_=>by have:=c9 c;omega
 | k+1,.mk f n nm t ks bs al,h,W,hx=>by
  obtain⟨Y,Z,aa,_⟩:= @eQ f n nm t ks bs al;obtain⟨_,q2,q3,q4⟩:=aT.1 W;obtain⟨hg,hv⟩:=aNv W;by_cases h1:f=1
  ·rw[pfR,ξ h1] at hx;rw[nS,ξ h1,nS,ξ h1];by_cases e:nm=x
   ·rw[ξ e,ξ e];unfold vC;rw[nS,ξ rfl,ξ rfl]
   ·rw[φ e,φ e,nS,ξ h1,φ fun e'=>hx (by rw[e'];exact Aa.2 rfl)]
  ·have hx:=fun h=>hx ((gM h1).2 h)
   have I:¬z∈gvN f nm bs:=fun e=>J (hg z e)
   rw[oV h1,oV h1,oV h1,aE5,φ I,φ I];congr 1
   ·by_cases e:x∈gvN f nm bs
    ·rw[ξ e,ξ e];exact dX fun c hc=>tL _ c (le_refl _) fun q=>hx (.inl ⟨c,χ.2 (.inl hc),q,I⟩)
    ·rw[φ e,φ e,A1];exact A6 fun c hc=>x7 J k c (by have:=Y c hc;omega) (q2 c hc) fun q=>hx (.inl ⟨c,χ.2 (.inl hc),q,I⟩)
   ·have hp:∀c∈bs,¬z∈pfR c.body:=fun c hc q=>hx (.inl ⟨c.body,χ.2 (.inr (Ad.2 ⟨c,hc,rfl⟩)),q,I⟩)
    by_cases e:x∈gvN f nm bs
    ·rw[ξ e,ξ e];exact dX fun c hc=>by unfold nSB;rw[tL _ c.body (le_refl _) (hp c hc)];cases c;rfl
    ·rw[φ e,φ e,A1];refine A6 fun c hc=>?_
     show nSB z b (nSB x (vC z) c)=nSB x b c;unfold nSB;show Bind.mk c.name c.ty (nS (nS c.body x (vC z)) z b)=_;rw[x7 J k c.body (by have:=Z c hc;omega) (q3 c hc) (hp c hc)]
   ·rw[A1];refine A6 fun a ha=>?_
    have N:¬z∈a.vars:=fun e=>J (hv a ha z e)
    have O:¬z∈pfR a.body:=fun q=>hx (.inr ⟨a,ha,q,N⟩)
    show nSA z b (nSA x (vC z) a)=nSA x b a;unfold nSA;show Alt.mk a.form a.n a.name a.vars (if z∈a.vars then(if x∈a.vars then a.body else nS a.body x (vC z)) else nS (if x∈a.vars then a.body else nS a.body x (vC z)) z b)=_;rw[φ N];by_cases e:x∈a.vars
    ·rw[ξ e,ξ e,tL _ a.body (le_refl _) O]
    ·rw[φ e,φ e,x7 J k a.body (by have:=aa a ha;omega) (q4 a ha) O]
theorem x6 {y w z:Str}{b:Core}(I:¬nh z) (hy:¬y=z) (hw:¬w=z) (hb:pfR b=[]):∀(k:Nat) (c:Core),b7 c≤k→cE (QL X) c→nS (nS c y (vC w)) z b=nS (nS c z b) y (vC w)
 | 0,c,h,_=>by have:=c9 c;omega
 | k+1,.mk f n nm t ks bs al,h,O=>by
  obtain⟨W,Y,Z,_⟩:= @eQ f n nm t ks bs al;obtain⟨_,q2,q3,q4⟩:=aT.1 O;obtain⟨hg,hv⟩:=aNv O;by_cases h1:f=1
  ·rw[nS,ξ h1,nS,ξ h1];by_cases e:nm=y
   ·have J:¬nm=z:=fun e'=>hy (e.symm.trans e')
    rw[ξ e,φ J,nS,ξ h1,ξ e];unfold vC;rw[nS,ξ rfl,φ hw]
   ·rw[φ e,nS,ξ h1];by_cases J:nm=z
    ·rw[ξ J,tL _ b (le_refl _) (by rw[hb];simp)]
    ·rw[φ J,nS,ξ h1,φ e]
  ·have q:¬z∈gvN f nm bs:=fun e=>I (hg z e)
   rw[oV h1,oV h1,oV h1,oV h1,aE5,aE5,φ q,φ q,φ q,φ q];congr 1
   ·by_cases e:y∈gvN f nm bs
    ·rw[ξ e,ξ e]
    ·rw[φ e,φ e,A1,A1];exact A6 fun c hc=>x6 I hy hw hb k c (by have:=W c hc;omega) (q2 c hc)
   ·by_cases e:y∈gvN f nm bs
    ·rw[ξ e,ξ e]
    ·rw[φ e,φ e,A1,A1];refine A6 fun c hc=>?_
     show Bind.mk c.name c.ty (nS (nS c.body y (vC w)) z b)=Bind.mk c.name c.ty (nS (nS c.body z b) y (vC w));rw[x6 I hy hw hb k c.body (by have:=Y c hc;omega) (q3 c hc)]
   ·rw[A1,A1];refine A6 fun a ha=>?_
    have N:¬z∈a.vars:=fun e=>I (hv a ha z e)
    show Alt.mk a.form a.n a.name a.vars (if z∈a.vars then(if y∈a.vars then a.body else nS a.body y (vC w)) else nS (if y∈a.vars then a.body else nS a.body y (vC w)) z b)=
     Alt.mk a.form a.n a.name a.vars (if y∈a.vars then(if z∈a.vars then a.body else nS a.body z b) else nS (if z∈a.vars then a.body else nS a.body z b) y (vC w))
    rw[φ N,φ N];by_cases e:y∈a.vars
    ·rw[ξ e,ξ e]
    ·rw[φ e,φ e,x6 I hy hw hb k a.body (by have:=Z a ha;omega) (q4 a ha)]
end
theorem aKk {tk:List Str}(h:∀x∈tk,nh x) (k:Nat):oL tk k=(List.range k).map pcN:=by
 have key:∀n,mI tk n=(List.range n).map pcN:=fun n=>by
  unfold mI;rw[List.filter_eq_self];intro x hx;obtain⟨i,_,rfl⟩:=Ad.1 hx;exact Ak fun hin=>jW i (h _ hin)
 have hl:=qN tk k;unfold oL at hl ⊢;rw[key,θ,length_range] at hl;rw[key,hl]
section
variable {π:Str→Str}
end
end Go.Proofs.YtockgoadliilhaaGreatDoor
