/-
  Texts Ly8 to Ly14 in one.
-/
import Derived.Test.YtockgoadliilhaaGreatDoorM12
import Derived.Shelf.Strconv.Itoa3
import Derived.Lib.LaidTab
open List (append_assoc append_nil drop_zero flatMap_append flatMap_cons flatMap_nil foldl_append length_append length_cons length_eq_zero_iff length_map length_nil length_range length_set length_take length_zip map_append map_congr_left map_cons map_id map_map map_nil map_take mem_append mem_cons mem_cons_of_mem mem_cons_self mem_filter mem_flatMap mem_map mem_of_mem_take mem_range mem_singleton of_mem_zip range_succ sum_cons sum_nil take_add_one take_length take_of_length_le take_succ_cons take_zero)
open Nat (add_assoc add_mul le_antisymm le_mul_of_pos_right le_of_not_lt le_refl le_trans lt_of_lt_of_le mul_add mul_comm mul_le_mul mul_le_mul_left mul_le_mul_right mul_left_comm zero_le)
namespace Go.Proofs.YtockgoadliilhaaGreatDoor
open Go Go.AM
set_option maxRecDepth 20000
mutual
def gvC:Core→Option (Str×List Core)
 | .mk f _ s _ ks _ _=>if f=2 then some (s,[]) else if f=4 then(gvH ks).map (fun p=>(p.1,p.2++ks.drop 1)) else if f=6 then gvH ks else none
def gvH:List Core→Option (Str×List Core)
 | []=>none
 | c::_=>gvC c
end
def aKk:Option (Str×List Core)→V
 | some (s,l)=>.tup [Go.AM.T s,.one (.c (.sl 10 (l.map aB))),B true]
 | none=>.tup [Go.AM.T [],.one (.c (.sl 10 [])),B false]
theorem jP {X:Nat}{f n:Int}{s:Str}{t:Ty}{ks:List Core}{bs:List Bind}{al:List Alt}(h:eJ (QL X) (.mk f n s t ks bs al)) (hf:f=4∨f=10):(∃a b,ks=[a,b])∧bs=[]∧al=[]:=by
 obtain⟨h1,_⟩:=bB.1 h;have g:=h1.1;unfold okF at g;rw[ξ hf] at g;obtain⟨g1,g2,g3⟩:=ψ g;rw[θ] at g2 g3;refine⟨?_,Bv.1 g2,Bv.1 g3⟩
 match ks,g1 with
 | [a,b],_=>exact⟨a,b,rfl⟩
theorem aQr (X:Nat) (c:Core) (hq:eJ (QL X) c) (hsz:aY c≤570000000000):aU Tryz.prog 67 [.pa (aB c)] [] (aKk (gvC c)) []:=by
 refine bQ (n:=30) tok Tryz.func67 rfl rfl rfl ?_;refine sg rfl (sg rfl (AWp.sub (Sub.own (t:=5) (id:=720) 37 10 rfl rfl) ?_));refine aC (aK (fun x:Core×List Core=>mk [(1,.one (.vp 1 0)),(5,.one (.hs 720 0 x.2.length x.2.length))] [(720,.arr 37 10 (x.2.map aB) 0),(1,.var 37 (aW x.1))]) (fun x=>eJ (QL X) x.1∧gvC c=(gvC x.1).map (fun p=>(p.1,p.2++x.2.reverse))∧x.2.length+aY x.1≤aY c) (fun x=>aY x.1) (c,[]) ⟨hq,by cases gvC c<;>simp,by simp⟩ sl ?_);rintro⟨c1,acc⟩ ⟨u,I,Y⟩;dsimp only at u I Y ⊢;obtain⟨f,n,s,t,ks,bs,al⟩:=c1;have hka:(acc.map aB).length=acc.length:=θ _;have N:=aQk acc (by omega);obtain⟨_,Z,_,_⟩:=bB.1 u;refine aC (a8 (sg rfl (aC (sg rfl (aA rfl (fun hb=>?_) (fun hb=>?_))))))
 ·have h2:f=2:=ψ hb;have e:gvC c=some (s,acc.reverse):=by rw[I,gvC,ξ h2];rfl
  rw[e];refine sk 1 rfl (kc N ?_);refine az (sg rfl (AWp.sub (Sub.freeze (id:=720) rfl) ?_));exact aE ⟨.inr rfl,⟨_,_,.tmp rfl (.tmp rfl (.tmp rfl .nil)),.cons .refl (.cons (hs_all rfl rfl (by simp) rfl) (.cons .refl .nil)),rfl⟩,trivial,rfl⟩
 have h2:¬f=2:=χ hb;refine sg rfl (aA rfl (fun hb=>?_) (fun hb=>?_))
 ·have h4:f=4:=ψ hb;subst h4;obtain⟨⟨a,b,rfl⟩,rfl,rfl⟩:=jP u (.inl rfl);have J:gvC c=(gvC a).map (fun p=>(p.1,p.2++(acc++[b]).reverse)):=by
   rw[I,gvC,φ h2,ξ rfl,gvH];cases gvC a<;>simp
  have O:aY (.mk 4 n s t [a,b] [] [])=1+s.length+(aY a+(aY b+0))+0+0:=by rw[aY,bM,bM,bM,cB,bZ]
  have hbp:=dX b;have hl1:acc.length+1≤570000000000:=by omega
  refine ag [(3,.row 1 (aB b)),(5,.all)] rfl (ag [(2,.row 0 (aB a))] rfl ⟨(a,acc++[b]),⟨Z a (by simp),J,by rw[κ];show acc.length+1+aY a≤_;omega⟩,by dsimp only;omega,?_⟩);exact sl
 have h4:¬f=4:=χ hb;refine sg rfl (aA rfl (fun hb=>?_) (fun hb=>?_))
 ·have h6:f=6:=ψ hb;subst h6;obtain⟨⟨a,rfl⟩,rfl,rfl⟩:=dR u (.inr (.inl rfl));have J:gvC c=(gvC a).map (fun p=>(p.1,p.2++acc.reverse)):=by
   rw[I,gvC,φ h2,φ h4,ξ rfl,gvH]
  have O:aY (.mk 6 n s t [a] [] [])=1+s.length+(aY a+0)+0+0:=by rw[aY,bM,bM,cB,bZ]
  exact aD (ag [(2,.row 0 (aB a))] rfl ⟨(a,acc),⟨Z a (by simp),J,by dsimp only;omega⟩,by dsimp only;omega,sl⟩)
 have h6:¬f=6:=χ hb;have e:gvC c=none:=by rw[I,gvC,φ h2,φ h4,φ h6];rfl
 rw[e];exact sg rfl (aE ⟨.inr rfl,⟨_,_,.tmp rfl (.tmp rfl (.tmp rfl .nil)),.cons .refl (.cons (.one (.c .nl .nil)) (.cons .refl .nil)),rfl⟩,trivial,rfl⟩)
def shC (c:Core):Bool:=decide (c.form=5) || (decide (c.form=7) || (decide (c.form=3) || (gvC c).isSome))
theorem aAd (X:Nat) (c:Core) (J:eJ (QL X) c) (u:aY c≤570000000000):aU Tryz.prog 29 [.pa (aB c)] [] (B (shC c)) []:=by
 have I:=aQr X c J u;obtain⟨f,n,s,t,ks,bs,al⟩:=c;refine bQ (n:=19) tok Tryz.func29 rfl rfl rfl ?_;refine sg rfl (a8 (sg rfl ?_));by_cases h:f=5∨f=7∨f=3
 ·have e:shC (.mk f n s t ks bs al)=true:=by
   unfold shC;show(decide (f=5) || (decide (f=7) || (decide (f=3) || _)))=true;rcases h with h | h | h
   ·rw[Ad h];rfl
   ·rw[Ad h];simp
   ·rw[Ad h];simp
  rw[e];have N:¬f=5→¬f=7→some (B (decide (f=3)))=some (B true):=fun h5 h7=>by rw[Ad (show f=3 by omega)]
  refine aC (a8 (AWp.cut (mk [(8,B true)] []) ?_ ?_))
  ·refine sg rfl (aA rfl (fun hb=>?_) (fun hb=>?_))
   ·have h5:f=5:=ψ hb;exact aD (sl (he:=⟨by show some (B (decide (f=5)))=some (B true);rw[Ad h5],trivial⟩))
   have h5:¬f=5:=χ hb;refine sg rfl (aA rfl (fun hb=>?_) (fun hb=>?_))
   ·have h7:f=7:=ψ hb;exact aD (sl (he:=⟨by show some (B (decide (f=7)))=some (B true);rw[Ad h7],trivial⟩))
   have h7:¬f=7:=χ hb;exact ag [] rfl (sl (he:=⟨N h5 h7,trivial⟩))
  exact aA rfl (fun _=>sg rfl (aE rtT)) nofun
 ·have h5:¬f=5:=fun e=>h (.inl e)
  have h7:¬f=7:=fun e=>h (.inr (.inl e))
  have h3:¬f=3:=fun e=>h (.inr (.inr e))
  have e:shC (.mk f n s t ks bs al)=(gvC (.mk f n s t ks bs al)).isSome:=by
   unfold shC;show(decide (f=5) || (decide (f=7) || (decide (f=3) || _)))=_;rw[Ae h5,Ae h7,Ae h3];rfl
  rw[e];refine aC (a8 (AWp.cut (mk [(1,.one (.vp 1 0)),(8,B false)] [(1,.var 37 (aW (.mk f n s t ks bs al)))]) ?_ ?_))
  ·exact sg rfl (aA rfl (fun hb=>absurd (ψ hb) h5) (fun _=>sg rfl (aA rfl (fun hb=>absurd (ψ hb) h7) (fun _=>ag [] rfl (sl (he:=⟨rfl,by show some (B (decide (f=3)))=some (B false);rw[Ae h3],trivial⟩))))))
  refine aA rfl nofun (fun _=>aD ?_);cases hx:gvC (.mk f n s t ks bs al) with
  | none=>
   rw[hx] at I;exact sgh [(1,.pc (aKk none))] rfl (sg rfl (aE rtT))
  | some p=>
   obtain⟨s1,O⟩:=p;rw[hx] at I;exact sgh [(1,.pc (aKk (some (s1,O))))] rfl (sg rfl (aE rtT))
theorem aUg (c:Core) (u:aY c≤570000000000):aU Tryz.prog 125 [.pa (aB c)] [] (ouV (pfR c)) [(500,ouO (pfR c))]:=qG c (fun x _=>rJ (aY x) x (le_refl _)) u
set_option maxHeartbeats 4000000
def pcN (n:Nat):Str:=37::Lib.decDigits n
theorem aYb (n m:Nat) (h:pcN n=pcN m):n=m:=aWp _ _ (List.cons.inj h).2
theorem wU (n:Nat):¬nh (pcN n):=fun h=>h.1 rfl
def nS (tk:List Str) (n:Nat):List Str:=((List.range n).map pcN).filter fun s=>decide (¬s∈tk)
theorem uC (tk:List Str) (n:Nat):nS tk (n+1)=if pcN n∈tk then nS tk n else nS tk n++[pcN n]:=by
 unfold nS;rw[range_succ,At,List.filter_append];by_cases h:pcN n∈tk
 ·rw[ξ h];simp[h]
 ·rw[φ h];simp[h]
theorem aS6 {tk:List Str}{n:Nat}{x:Str}(h:x∈nS tk n):¬x∈tk∧∃m,m<n∧x=pcN m:=by
 obtain⟨h1,h2⟩:=C1.1 h;obtain⟨m,hm,rfl⟩:=Af.1 h1;exact⟨ψ h2,m,mem_range.1 hm,rfl⟩
theorem aS7 (tk:List Str) (n:Nat):n≤(nS tk n).length+tk.length:=by
 have I:((List.range n).map pcN).Nodup:=by
  rw[List.Nodup,List.pairwise_map];exact List.Pairwise.imp (fun h e=>h (aYb _ _ e)) List.nodup_range
 have h:=iA ((List.range n).map pcN) (nS tk n++tk) I fun x hx=>by
  by_cases u:x∈tk
  ·exact τ.2 (.inr u)
  ·exact τ.2 (.inl (C1.2 ⟨hx,Ad u⟩))
 rw[θ,length_range,κ] at h;exact h
theorem z8 (tk:List Str):∀k:Nat,∃N,N≤tk.length+k∧(nS tk N).length=k∧∀m,m<N→(nS tk m).length<k:=by
 intro k;have h0:∀n,(nS tk (n+1)).length≤(nS tk n).length+1:=fun n=>by rw[uC];split<;>simp
 have key:∀M:Nat,k≤(nS tk M).length→∃N,N≤M∧(nS tk N).length=k∧∀m,m<N→(nS tk m).length<k:=by
  intro M
  induction M with
  | zero=>intro h;exact⟨0,le_refl _,by have:(nS tk 0).length=0:=rfl;omega,fun m hm=>by omega⟩
  | succ M J=>
   intro h;by_cases O:k≤(nS tk M).length
   ·obtain⟨N,h1,h2,h3⟩:=J O;exact⟨N,by omega,h2,h3⟩
   ·refine⟨M+1,le_refl _,by have:=h0 M;omega,fun m hm=>?_⟩;by_cases Y:k≤(nS tk m).length
    ·exfalso;have u:∀d,(nS tk m).length≤(nS tk (m+d)).length:=fun d=>by
      induction d with
      | zero=>exact le_refl _
      | succ d I=>
       rw[←Br,uC];split
       ·exact I
       ·rw[κ];omega
     have:=u (M-m);rw[show m+(M-m)=M by omega] at this;omega
    ·omega
 exact key (tk.length+k) (by have:=aS7 tk (tk.length+k);omega)
noncomputable def aK7 (tk:List Str) (k:Nat):Nat:=Classical.choose (z8 tk k)
noncomputable def oR (tk:List Str) (k:Nat):List Str:=nS tk (aK7 tk k)
theorem aEy (tk:List Str) (k:Nat):aK7 tk k≤tk.length+k:=(Cf (z8 tk k)).1
theorem sK (tk:List Str) (k:Nat):(oR tk k).length=k:=(Cf (z8 tk k)).2.1
theorem aN5 (tk:List Str) (k:Nat) {m:Nat}(h:m<aK7 tk k):(nS tk m).length<k:=(Cf (z8 tk k)).2.2 m h
theorem sJ {tk:List Str}{k:Nat}{x:Str}(h:x∈oR tk k):¬x∈tk∧¬nh x∧∃m,m<tk.length+k∧x=pcN m:=by
 obtain⟨h1,m,hm,rfl⟩:=aS6 h;exact⟨h1,wU m,m,by have:=aEy tk k;omega,rfl⟩
theorem aWo:∀(k n:Nat),n<10^(k+1)→(Lib.decDigits n).length≤k+1
 | 0,n,h=>by rw[Lib.decDigits,dif_pos (by omega)];exact le_refl _
 | k+1,n,h=>by
  rw[Lib.decDigits];split
  ·simp
  ·rw[κ];have:=aWo k (n/10) (by rw[Nat.pow_succ] at h;omega);simp only[Bl,List.length_nil];omega
theorem a19 {n:Nat}(h:n<10^29):(pcN n).length≤30:=by
 have:=aWo 28 n h;unfold pcN;rw[Ac];omega
mutual
theorem aTm {X:Nat}{σ:Str→Nat}(hn:∀x,nh x→σ x=1+w30 x):∀c:Core,eJ (QL X) c→(∀x∈pfR c,σ x=1+w30 x)→mS σ c=m30 c
 | .mk f n s t ks bs al,h,hp=>by
  obtain⟨⟨_,_,_,_,_,N,O,Y⟩,Z,qb,qa⟩:=bB.1 h;rw[mS,m30];by_cases h1:f=1
  ·obtain⟨rfl,rfl,rfl⟩:=vM h h1;rw[ξ h1,hp s (by rw[pfR,ξ h1];exact ε.2 rfl)];rfl
  ·rw[φ h1];have hg:∀x∈gvN f s bs,nh x:=fun x hx=>by
    unfold gvN at hx;rcases τ.1 hx with hx | hx
    ·by_cases h5:f=5
     ·rw[ξ h5] at hx;rw[ε.1 hx];exact N h5
     ·rw[φ h5] at hx;cases hx
    ·obtain⟨b,hb,rfl⟩:=Af.1 hx;exact O (bhd b) (Af.2 ⟨b,hb,rfl⟩)
   have J:∀p∈ks++bs.map Bind.body,∀x∈pfR p,σ x=1+w30 x:=fun p I x hx=>by
    by_cases u:x∈gvN f s bs
    ·exact hn x (hg x u)
    ·exact hp x ((kN h1).2 (.inl ⟨p,I,hx,u⟩))
   have ha:∀a∈al,∀x∈pfR a.body,σ x=1+w30 x:=fun a ha x hx=>by
    by_cases u:x∈a.vars
    ·exact hn x (Y (ahd a) (Af.2 ⟨a,ha,rfl⟩) x u)
    ·exact hp x ((kN h1).2 (.inr ⟨a,ha,hx,u⟩))
   rw[aV1 hn ks Z fun p I=>J p (τ.2 (.inl I)),aV2 hn bs qb fun b hb=>J b.body (τ.2 (.inr (Af.2 ⟨b,hb,rfl⟩))),aV3 hn al qa ha]
theorem aV1 {X:Nat}{σ:Str→Nat}(hn:∀x,nh x→σ x=1+w30 x):∀l:List Core,(∀c∈l,eJ (QL X) c)→(∀c∈l,∀x∈pfR c,σ x=1+w30 x)→mSs σ l=dA l
 | [],_,_=>by rw[mSs,dA]
 | c::l,h,hp=>by rw[mSs,dA,aTm hn c (h c ζ) (hp c ζ),aV1 hn l (fun x hx=>h x (ω _ hx)) fun x hx=>hp x (ω _ hx)]
theorem aV2 {X:Nat}{σ:Str→Nat}(hn:∀x,nh x→σ x=1+w30 x):∀l:List Bind,(∀c∈l,eJ (QL X) c.body)→(∀c∈l,∀x∈pfR c.body,σ x=1+w30 x)→mSb σ l=fT l
 | [],_,_=>by rw[mSb,fT]
 | .mk s t c::l,h,hp=>by rw[mSb,fT,aTm hn c (h _ ζ) (hp _ ζ),aV2 hn l (fun x hx=>h x (ω _ hx)) fun x hx=>hp x (ω _ hx)]
theorem aV3 {X:Nat}{σ:Str→Nat}(hn:∀x,nh x→σ x=1+w30 x):∀l:List Alt,(∀c∈l,eJ (QL X) c.body)→(∀c∈l,∀x∈pfR c.body,σ x=1+w30 x)→mSa σ l=gY l
 | [],_,_=>by rw[mSa,gY]
 | .mk f n s v c::l,h,hp=>by rw[mSa,gY,aTm hn c (h _ ζ) (hp _ ζ),aV3 hn l (fun x hx=>h x (ω _ hx)) fun x hx=>hp x (ω _ hx)]
end
noncomputable def eY (c:Core) (l:List (Str×Str)):Core:=l.foldl (fun c p=>dH (m30 c) c p.1 (vC p.2)) c
noncomputable def iI (c:Core) (l:List (Str×Core)):Core:=l.foldl (fun c p=>dH (m30 c) c p.1 p.2) c
def gZ (c:Core) (l:List Core):List Str:=pfR c++l.flatMap pfR
noncomputable def aAv (c:Core) (names:List Str) (l:List Core):Core:=iI (eY c (names.zip (oR (gZ c l) names.length))) ((oR (gZ c l) names.length).zip l)
structure PO (D M X B:Nat) (c:Core) (l:List Core):Prop where
 q:eJ (QL X) c
 dep:cw fH 0 c r0≤D
 bq:∀b∈l,eJ (QL X) b
 bdep:∀b∈l,cw fH 0 b r0≤D
 ty:∃U:List Str,U.length+2*(tlC c+(l.map tlC).sum)≤M∧(∀x∈tyR c,x∈U)∧∀b∈l,∀x∈tyR b,x∈U
 one:1≤B
 bsz:∀b∈l,m30 b≤31*B
 sz:m30 c*B≤Big
 bsum:(l.map m30).sum≤Big
structure PR (X B:Nat) (c:Core) (l:List Core) (r:Core):Prop where
 q:eJ (QL X) r
 cw:∀(A:Alg) (E:Nat) (ρ:Str→Nat) (K:Nat),cw A E c ρ≤K→(∀b∈l,cw A E b ρ≤K)→cw A E r ρ≤K
 ty:∀x∈tyR r,x∈tyR c∨∃b∈l,x∈tyR b
 tl:tlC r≤tlC c+(l.map tlC).sum
 sz:m30 r≤m30 c*B
theorem yD {l:List Core}{g:Core→Nat}{b:Core}(h:b∈l):g b≤(l.map g).sum:=by
 induction l with
 | nil=>cases h
 | cons x l u=>
  rw[Am,Bt];rcases Ap.1 h with e | h
  ·rw[e];omega
  ·have:=u h;omega
section
variable {D M X B:Nat}{c:Core}{l:List Core}
theorem PO.cg (h:PO D M X B c l):CG D M X c:=by
 obtain⟨U,h1,h2,_⟩:=h.ty;refine⟨h.q,h.dep,?_,le_trans (A7 _ h.one) h.sz⟩;have:=dL h2;omega
theorem PO.cgb (h:PO D M X B c l) {b:Core}(hb:b∈l):CG D M X b:=by
 obtain⟨U,h1,_,h3⟩:=h.ty;refine⟨h.bq b hb,h.bdep b hb,?_,le_trans (yD hb) h.bsum⟩;have:=dL (h3 b hb);have:=yD (g:=tlC) hb;omega
theorem sI (J:dJ 540000000000) (u:M+D≤700000) (I:31≤X):∀(ps:List (Str×Str)) (c:Core),CG D M X c→(∀p∈ps,p.2.length≤30)→R0 c (eY c ps)∧CG D M X (eY c ps)
 | [],c,h,_=>⟨R0.refl c,h⟩
 | p::ps,c,h,hp=>by
  have N:=hp p ζ;have h1:=uU J u I (m30 c) c (le_refl _) h p.1 (vC p.2) (CG.vC N I);have h2:=h1.r0 N;obtain⟨h3,h4⟩:=sI J u I ps (dH (m30 c) c p.1 (vC p.2)) (h2.cg h h1.rx.q) fun q O=>hp q (ω _ O)
  exact⟨h2.trans h3,h4⟩
structure P2 (X B:Nat) (c:Core) (l:List Core) (own:List Str) (i:Nat) (r:Core):Prop where
 q:eJ (QL X) r
 cw:∀(A:Alg) (E:Nat) (ρ:Str→Nat) (K:Nat),cw A E c ρ≤K→(∀b∈l,cw A E b ρ≤K)→cw A E r ρ≤K
 ty:∀x∈tyR r,x∈tyR c∨∃b∈l,x∈tyR b
 tl:tlC r≤tlC c+((l.take i).map tlC).sum
 sz:mS (fun s=>if s∈own then(1+w30 s)*B else 1+w30 s) r≤m30 c*B
theorem aGq {g:Core→Nat}:∀{l:List Core}{i:Nat},((l.take i).map g).sum≤(l.map g).sum
 | [],i=>by simp
 | x::l,0=>by simp
 | x::l,i+1=>by
  rw[An,Am,Am,Bt,Bt];have:=aGq (g:=g) (l:=l) (i:=i);omega
theorem P2.cg {own:List Str}{i:Nat}{r:Core}(u:PO D M X B c l) (h:P2 X B c l own i r):CG D M X r:=by
 obtain⟨U,h1,h2,h3⟩:=u.ty;refine⟨h.q,h.cw fH 0 r0 D u.dep u.bdep,?_,?_⟩
 ·have:=dL (c:=r) (a:=U) fun x hx=>by
   rcases h.ty x hx with h | ⟨b,hb,h⟩
   ·exact h2 x h
   ·exact h3 b hb x h
  have:=h.tl;have:=aGq (g:=tlC) (l:=l) (i:=i);omega
 ·refine le_trans (aB6 (fun s=>?_) r) (le_trans h.sz u.sz);split
  ·exact A7 _ u.one
  ·exact le_refl _
theorem P2.zero {own:List Str}{r:Core}(u:PO D M X B c l) (h:R0 c r) (I:eJ (QL X) r):P2 X B c l own 0 r:=by
 refine⟨I,fun A E ρ K h1 _=>le_trans (h.cw A E ρ) h1,fun x hx=>.inl (h.ty x hx),by simpa using h.tl,?_⟩;refine le_trans (a4p u.one (fun s=>?_) r) (Aw _ h.sz);split
 ·exact le_refl _
 ·exact A7 _ u.one
theorem P2.step (Z:dJ 540000000000) (J:M+D≤700000) (hX:31≤X) {tk:List Str}{k i:Nat}{r s b:_}(I:PO D M X B c l) (htk:∀b∈l,∀x∈pfR b,x∈tk) (h:P2 X B c l (oR tk k) i r) (hs:s∈oR tk k) (hs30:s.length≤30) (hb:l[i]?=some b):
  TB X r s b (dH (m30 r) r s b)∧P2 X B c l (oR tk k) (i+1) (dH (m30 r) r s b):=by
 have u:=η hb;have N:=h.cg I;have O:=I.cgb u;have h1:=uU Z J hX (m30 r) r (le_refl _) N s b O;have h2:=yF Z J hX (m30 r) r (le_refl _) N s b O;refine⟨h1,h1.rx.q,fun A E ρ K k1 k2=>?_,fun x hx=>?_,?_,?_⟩
 ·have:=h1.rx.cw A E ρ;have:=h.cw A E ρ K k1 k2;have:=k2 b u;omega
 ·rcases h1.rx.ty x hx with Y | Y
  ·exact h.ty x Y
  ·exact .inr ⟨b,u,Y⟩
 ·have e:(l.take (i+1))=l.take i++[b]:=by rw[Bh,hb];rfl
  rw[e,At,List.sum_append];have:=h1.rx.tl;have:=h.tl;simp only[Am,Bo,Bt,sum_nil];omega
 ·refine le_trans (h2.ms _ ⟨fun s=>?_,fun l hl=>?_⟩ ?_) h.sz
  ·split
   ·exact A7 _ I.one
   ·exact le_refl _
  ·rw[φ fun hin=>(sJ hin).2.1 (aIi l)];unfold w30;omega
  ·have e:=aTm (X:=X) (σ:=fun s=>if s∈oR tk k then(1+w30 s)*B else 1+w30 s) (fun x hx=>by
    rw[φ fun hin=>(sJ hin).2.1 hx]) b (I.bq b u) (fun x hx=>by
    rw[φ fun hin=>(sJ hin).1 (htk b u x hx)])
   rw[e,ξ hs];refine le_trans (I.bsz b u) (Aw _ ?_);unfold w30;omega
theorem P2.fin {own:List Str}{r:Core}(u:PO D M X B c l) (h:P2 X B c l own l.length r):PR X B c l r:=by
 refine⟨h.q,h.cw,h.ty,?_,?_⟩
 ·have:=h.tl;rwa [Al] at this
 ·refine le_trans (aB6 (fun s=>?_) r) h.sz;split
  ·exact A7 _ u.one
  ·exact le_refl _
end
theorem n0 {α β γ:Type}(g:γ→α×β→γ) (z:γ) {a:List α}{b:List β}{i:Nat}{x:α}{y:β}(ha:a[i]?=some x) (hb:b[i]?=some y):((a.zip b).take (i+1)).foldl g z=g (((a.zip b).take i).foldl g z) (x,y):=by
 have h:(a.zip b)[i]?=some (x,y):=by rw[List.getElem?_zip_eq_some];exact⟨ha,hb⟩
 rw[Bh,h,B9];rfl
structure Rn (π:Str→Str):Prop where
 inj:∀x y,π x=π y→x=y
 fix:∀n,π (bK n)=bK n
 w:∀x,w30 (π x)=w30 x
section
variable (π:Str→Str)
mutual
def mpN:Core→Core
 | .mk f n s t ks bs al=>.mk f n (if f=1∨f=5 then π s else s) t (qZ ks) (r4 bs) (r5 al)
def qZ:List Core→List Core
 | []=>[]
 | c::l=>mpN c::qZ l
def r4:List Bind→List Bind
 | []=>[]
 | .mk s t c::l=>.mk (π s) t (mpN c)::r4 l
def r5:List Alt→List Alt
 | []=>[]
 | .mk f n s v c::l=>.mk f n s (v.map π) (mpN c)::r5 l
end
def mB (b:Bind):Bind:=.mk (π b.name) b.ty (mpN π b.body)
def mA (a:Alt):Alt:=.mk a.form a.n a.name (a.vars.map π) (mpN π a.body)
end
section
variable {π:Str→Str}
theorem zB:∀l:List Core,qZ π l=l.map (mpN π)
 | []=>by rw[qZ];rfl
 | c::l=>by rw[qZ,zB l];rfl
theorem sN:∀l:List Bind,r4 π l=l.map (mB π)
 | []=>by rw[r4];rfl
 | .mk s t c::l=>by rw[r4,sN l];rfl
theorem zD:∀l:List Alt,r5 π l=l.map (mA π)
 | []=>by rw[r5];rfl
 | .mk f n s v c::l=>by rw[r5,zD l];rfl
theorem jY (f n:Int) (s:Str) (t:Ty) (ks:List Core) (bs:List Bind) (al:List Alt):mpN π (.mk f n s t ks bs al)=.mk f n (if f=1∨f=5 then π s else s) t (ks.map (mpN π)) (bs.map (mB π)) (al.map (mA π)):=by
 rw[mpN,zB,sN,zD]
theorem Rn.mem (h:Rn π) {x:Str}{l:List Str}:π x∈l.map π↔x∈l:=by
 rw[Af];constructor
 ·rintro⟨y,u,e⟩;rw[←h.inj _ _ e];exact u
 ·exact fun hx=>⟨x,hx,rfl⟩
theorem yS (h:Rn π) (G:List Str):∀l o:List Str,pfP (G.map π) (o.map π) (l.map π)=(pfP G o l).map π
 | [],o=>rfl
 | x::l,o=>by
  show pfP (G.map π) (pfG (G.map π) (o.map π) (π x)) (l.map π)=(pfP G (pfG G o x) l).map π;have e:pfG (G.map π) (o.map π) (π x)=(pfG G o x).map π:=by
   unfold pfG r8;by_cases h1:x∈G
   ·rw[ξ (h.mem.2 h1),ξ h1]
   ·rw[φ fun h2=>h1 (h.mem.1 h2),φ h1];by_cases h2:x∈o
    ·rw[ξ (h.mem.2 h2),ξ h2]
    ·rw[φ fun h3=>h2 (h.mem.1 h3),φ h2,At];rfl
  rw[e,yS h G l]
theorem aO3 (f:Int) (s:Str) (bs:List Bind):gvN f (if f=1∨f=5 then π s else s) (bs.map (mB π))=(gvN f s bs).map π:=by
 unfold gvN;rw[At,A8,A8];congr 1;by_cases h5:f=5
 ·rw[ξ h5,ξ h5,ξ (.inr h5)];rfl
 ·rw[φ h5,φ h5];rfl
mutual
theorem wT (h:Rn π):∀c:Core,pfR (mpN π c)=(pfR c).map π
 | .mk f n s t ks bs al=>by
  rw[mpN,pfR,pfR];by_cases h1:f=1
  ·rw[ξ h1,ξ h1,ξ (.inl h1)];rfl
  ·have e:=aO3 (π:=π) f s bs;rw[←sN] at e;rw[φ h1,φ h1,e];have u:=aNt h (gvN f s bs) ks [];rw[Bo] at u;rw[u,aNu h,aNv h]
theorem aNt (h:Rn π) (G:List Str):∀(l:List Core) (o:List Str),jS (G.map π) (qZ π l) (o.map π)=(jS G l o).map π
 | [],o=>by rw[qZ,jS,jS]
 | c::l,o=>by rw[qZ,jS,jS,wT h c,yS h,aNt h G l]
theorem aNu (h:Rn π) (G:List Str):∀(l:List Bind) (o:List Str),kP (G.map π) (r4 π l) (o.map π)=(kP G l o).map π
 | [],o=>by rw[r4,kP,kP]
 | .mk s t c::l,o=>by rw[r4,kP,kP,wT h c,yS h,aNu h G l]
theorem aNv (h:Rn π):∀(l:List Alt) (o:List Str),jQ (r5 π l) (o.map π)=(jQ l o).map π
 | [],o=>by rw[r5,jQ,jQ]
 | .mk f n s v c::l,o=>by rw[r5,jQ,jQ,wT h c,yS h,aNv h l]
end
theorem aPj (h:Rn π) (l:List Str):bA (l.map π)=bA l:=by
 have hm:∀n,bK n∈l.map π↔bK n∈l:=fun n=>by
  conv=>lhs;rw[←h.fix n]
  exact h.mem
 unfold bA;have:eI (l.map π)=eI l:=by
  refine le_antisymm (le_of_not_lt fun u=>?_) (le_of_not_lt fun u=>?_)
  ·exact fY l ((hm _).1 (iU (l.map π) u))
  ·exact fY (l.map π) ((hm _).2 (iU l u))
 rw[this]
theorem Rn.fresh (h:Rn π) (l:List Str):π (bA l)=bA l:=h.fix _
theorem aLn {f:Int}(hf:¬f=7) (s s':Str):∀(l:List Core) (o:List Str),j4 f s l o=j4 f s' l o
 | [],o=>by rw[j4,j4]
 | c::l,o=>by
  rw[j4,j4,y6,y6,Ae hf,aLn hf s s' l];rfl
mutual
theorem tI:∀c:Core,tyR (mpN π c)=tyR c
 | .mk f n s t ks bs al=>by
  rw[mpN,tyR,tyR,aLg al,aLf bs];by_cases h7:f=7
  ·rw[φ (by omega),aD2 f s ks]
  ·rw[aLn h7 _ s,aD2 f s ks]
theorem aD2 (f:Int) (s:Str):∀(l:List Core) (o:List Str),j4 f s (qZ π l) o=j4 f s l o
 | [],o=>by rw[qZ]
 | c::l,o=>by rw[qZ,j4,j4,tI c,aD2 f s l]
theorem aLf:∀(l:List Bind) (o:List Str),j5 (r4 π l) o=j5 l o
 | [],o=>by rw[r4]
 | .mk s t c::l,o=>by rw[r4,j5,j5,tI c,aLf l]
theorem aLg:∀(l:List Alt) (o:List Str),kD (r5 π l) o=kD l o
 | [],o=>by rw[r5]
 | .mk f n s v c::l,o=>by rw[r5,kD,kD,tI c,aLg l]
end
mutual
theorem oU (h:Rn π):∀c:Core,m30 (mpN π c)=m30 c
 | .mk f n s t ks bs al=>by
  rw[mpN,m30,m30,aH6 h ks,aH7 h bs,aH8 h al];split
  ·rw[h.w]
  ·rfl
theorem aH6 (h:Rn π):∀l:List Core,dA (qZ π l)=dA l
 | []=>by rw[qZ]
 | c::l=>by rw[qZ,dA,dA,oU h c,aH6 h l]
theorem aH7 (h:Rn π):∀l:List Bind,fT (r4 π l)=fT l
 | []=>by rw[r4]
 | .mk s t c::l=>by rw[r4,fT,fT,oU h c,aH7 h l,h.w]
theorem aH8 (h:Rn π):∀l:List Alt,gY (r5 π l)=gY l
 | []=>by rw[r5]
 | .mk f n s v c::l=>by
  rw[r5,gY,gY,oU h c,aH8 h l,A8];have:((fun v=>1+w30 v)∘π)=fun v=>1+w30 v:=by funext v;show 1+w30 (π v)=_;rw[h.w]
  rw[this]
end
mutual
theorem aGi:∀c:Core,tlC (mpN π c)=tlC c
 | .mk f n s t ks bs al=>by rw[mpN,tlC,tlC,aLz ks,aL0 bs,aL1 al]
theorem aLz:∀l:List Core,jW (qZ π l)=jW l
 | []=>by rw[qZ]
 | c::l=>by rw[qZ,jW,jW,aGi c,aLz l]
theorem aL0:∀l:List Bind,qL (r4 π l)=qL l
 | []=>by rw[r4]
 | .mk s t c::l=>by rw[r4,qL,qL,aGi c,aL0 l]
theorem aL1:∀l:List Alt,pA (r5 π l)=pA l
 | []=>by rw[r5]
 | .mk f n s v c::l=>by rw[r5,pA,pA,aGi c,aL1 l]
end
mutual
theorem aIr (A:Alg) (E:Nat):∀(c:Core) (ρ:Str→Nat),cw A E (mpN π c) ρ=cw A E c ρ
 | .mk f n s t ks bs al,ρ=>by
  rw[mpN,cw,cw,aPw A E bs,aPx A E al,aPv A E ks];by_cases h7:f=7
  ·rw[ξ h7,ξ h7,φ (show ¬(f=1∨f=5) by omega)]
  ·rw[φ h7,φ h7]
theorem aPv (A:Alg) (E:Nat):∀(l:List Core) (ρ:Str→Nat),cws A E (qZ π l) ρ=cws A E l ρ
 | [],ρ=>by rw[qZ]
 | c::l,ρ=>by rw[qZ,cws,cws,aIr A E c,aPv A E l]
theorem aPw (A:Alg) (E:Nat):∀(l:List Bind) (ρ:Str→Nat),cwb A E (r4 π l) ρ=cwb A E l ρ
 | [],ρ=>by rw[r4]
 | .mk s t c::l,ρ=>by rw[r4,cwb,cwb,aIr A E c,aPw A E l]
theorem aPx (A:Alg) (E:Nat):∀(l:List Alt) (ρ:Str→Nat),cwa A E (r5 π l) ρ=cwa A E l ρ
 | [],ρ=>by rw[r5]
 | .mk f n s v c::l,ρ=>by rw[r5,cwa,cwa,aIr A E c,aPx A E l]
end
theorem aPm (ks:List Core):(ks.map (mpN π)).flatMap tyR=ks.flatMap tyR:=by
 rw[List.flatMap_map];congr 1;funext x;exact tI x
theorem vE (ts:Ty→Ty) {sb:Core→Core}(hs:∀x,sb (mpN π x)=mpN π (sb x)) (c:Core):gE ts sb (mpN π c)=mpN π (gE ts sb c):=by
 obtain⟨f,n,s,t,ks,bs,al⟩:=c;rw[jY,gE,gE,jY];simp only[A8];congr 1
 ·exact Bf fun x _=>hs x
 ·exact Bf fun b _=>by
   show Bind.mk (π b.name) (ts b.ty) (sb (mpN π b.body))=.mk (π b.name) (ts b.ty) (mpN π (sb b.body));rw[hs]
 ·exact Bf fun a _=>by
   show Alt.mk a.form a.n a.name (a.vars.map π) (sb (mpN π a.body))=.mk a.form a.n a.name (a.vars.map π) (mpN π (sb a.body));rw[hs]
theorem aVk:∀(k:Nat) (c:Core) (a:Str) (u:Ty),sTR k (mpN π c) a u=mpN π (sTR k c a u)
 | 0,c,a,u=>by rw[sTR,sTR]
 | k+1,.mk f n s t ks bs al,a,u=>by
  have Y:=tI (π:=π) (.mk f n s t ks bs al);have I:=fun x a u=>aVk k x a u
  rw[sTR];rw[jY] at Y ⊢;rw[sTR,Y,aPm];by_cases h7:f=7
  ·have Z:(if f=1∨f=5 then π s else s)=s:=φ (by omega);rw[Z];by_cases J:f=7∧(s=a∨¬a∈tyR (.mk f n s t ks bs al))
   ·rw[ξ J,ξ J,jY,Z]
   ·rw[φ J,φ J];by_cases N:f=7∧s∈tfR u
    ·rw[ξ N,ξ N,←vE _ fun x=>I x a u,jY,φ (show ¬(f=1∨f=5) by omega),A8,A8];congr 2;exact Bf fun x _=>I x _ _
    ·rw[φ N,φ N,←vE _ fun x=>I x a u,jY,Z]
  ·have O:∀p:Prop,¬(f=7∧p):=fun p h=>h7 h.1
   rw[φ (O _),φ (O _),φ (O _),φ (O _),←vE _ fun x=>I x a u,jY]
variable {sb:Core→Str→Core→Core}
theorem aU4 (z:Str):mpN π (vC z)=vC (π z):=by
 unfold vC;rw[jY,ξ (.inl rfl)];rfl
theorem aIf (h:Rn π) (hs:∀p n z,sb (mpN π p) (π n) (mpN π z)=mpN π (sb p n z)) (far:List Str):∀(ns:List Str) (a:List Str) (q:List Core) (t:List Str),
  jB sb (far.map π) (ns.map π) (a.map π,q.map (mpN π),t.map π)=((jB sb far ns (a,q,t)).1.map π,(jB sb far ns (a,q,t)).2.1.map (mpN π),(jB sb far ns (a,q,t)).2.2.map π)
 | [],_,_,_=>rfl
 | n::ns,a,q,t=>by
  have e:dS sb (far.map π) (a.map π,q.map (mpN π),t.map π) (π n)=((dS sb far (a,q,t) n).1.map π,(dS sb far (a,q,t) n).2.1.map (mpN π),(dS sb far (a,q,t) n).2.2.map π):=by
   unfold dS;by_cases hn:n∈far
   ·rw[ξ hn,ξ (h.mem.2 hn)];dsimp only;rw[aPj h,At,At,A8,A8,Am,Bo,h.fresh];congr 2;exact Bf fun p _=>by
     show sb (mpN π p) (π n) (vC (bA t))=mpN π (sb p n (vC (bA t)));rw[←hs,aU4,h.fresh]
   ·rw[φ hn,φ fun h1=>hn (h.mem.1 h1)];dsimp only;rw[At];rfl
  show jB sb (far.map π) (ns.map π) (dS sb (far.map π) (a.map π,q.map (mpN π),t.map π) (π n))=_;rw[e,aIf h hs far ns];rfl
theorem aPn (h:Rn π) (ps:List Core):(ps.map (mpN π)).flatMap pfR=(ps.flatMap pfR).map π:=by
 rw[List.flatMap_map,List.map_flatMap];congr 1;funext x;exact wT h x
theorem aHd (h:Rn π) (hs:∀p n z,sb (mpN π p) (π n) (mpN π z)=mpN π (sb p n z)) (s:Str) (b:Core) (ns:List Str) (ps:List Core):
  cE sb (π s) (mpN π b) (ns.map π) (ps.map (mpN π))=((cE sb s b ns ps).1.map π,(cE sb s b ns ps).2.map (mpN π)):=by
 have hp:sB (π s) (ns.map π) (ps.map (mpN π))↔sB s ns ps:=by
  unfold sB;rw[aPn h,h.mem,h.mem]
 unfold cE;by_cases hi:sB s ns ps
 ·rw[ξ hi,ξ (hp.2 hi),wT h,aPn h];have e:=aIf h hs (pfR b) ns [] ps (ps.flatMap pfR++ns++pfR b);rw[Bo,At,At] at e;rw[e,A8,A8];congr 1;exact Bf fun p _=>hs p s b
 ·rw[φ hi,φ fun h1=>hi (hp.1 h1)]
theorem aOd:∀(ts:List Ty) (ns:List Str) (ps:List Core),mkB ts (ns.map π) (ps.map (mpN π))=(mkB ts ns ps).map (mB π)
 | [],ns,ps=>by unfold mkB;rfl
 | t::ts,[],ps=>by unfold mkB;rfl
 | t::ts,n::ns,[]=>by unfold mkB;rfl
 | t::ts,n::ns,p::ps=>by
  rw[Am,Am,mkB,mkB,aOd ts ns ps];rfl
theorem headD_map {α β:Type}(g:α→β) (l:List α) (d:α):(l.map g).headD (g d)=g (l.headD d):=by cases l<;>rfl
theorem aUv (h:Rn π) (hs:∀p n z,sb (mpN π p) (π n) (mpN π z)=mpN π (sb p n z)) (s:Str) (b c:Core):oL sb (π s) (mpN π b) (mpN π c)=mpN π (oL sb s b c):=by
 obtain⟨f,n,nm,t,ks,bs,al⟩:=c;rw[jY,oL,oL,jY];unfold zNm zKs zBs;have I:(ks.map (mpN π)++(bs.map (mB π)).map Bind.body)=(ks++bs.map Bind.body).map (mpN π):=by
  rw[At,A8,A8];rfl
 have J:(bs.map (mB π)).map Bind.ty=bs.map Bind.ty:=by rw[A8];rfl
 rw[aO3,I,J,aHd h hs,θ];dsimp only;generalize cE sb s b (gvN f nm bs) (ks++bs.map Bind.body)=r;rw[←map_take,←List.map_drop,aOd,A8,A8];congr 1
 ·by_cases h5:f=5
  ·rw[ξ h5,ξ h5,ξ (.inr h5),ξ (.inr h5)];exact headD_map π r.1 nm
  ·rw[φ h5,φ h5]
 ·refine Bf fun a _=>?_
  obtain⟨af,an,anm,u,ac⟩:=a;have e:=aHd h hs s b u [ac];rw[Am,Bo] at e;show Alt.mk af an anm (cE sb (π s) (mpN π b) (u.map π) [mpN π ac]).1 ((cE sb (π s) (mpN π b) (u.map π) [mpN π ac]).2.headD (mpN π ac))=.mk af an anm ((cE sb s b u [ac]).1.map π) (mpN π ((cE sb s b u [ac]).2.headD ac));rw[e];dsimp only;rw[headD_map]
theorem yE (h:Rn π):∀(k:Nat) (c:Core) (s:Str) (b:Core),dH k (mpN π c) (π s) (mpN π b)=mpN π (dH k c s b)
 | 0,c,s,b=>by rw[dH,dH]
 | k+1,c,s,b=>by
  have hs:∀p n z,dH k (mpN π p) (π n) (mpN π z)=mpN π (dH k p n z):=fun p n z=>yE h k p n z
  rw[dH,dH];have hf:(mpN π c).form=c.form:=by cases c;rw[mpN];rfl
  have hn:c.form=1→((mpN π c).name=π s↔c.name=s):=by
   intro h1;obtain⟨f,n,nm,t,ks,bs,al⟩:=c;have h1:f=1:=h1;rw[jY,ξ (.inl h1)];exact⟨fun e=>h.inj _ _ e,fun e=>congrArg π e⟩
  by_cases hv:c.form=1∧c.name=s
  ·rw[ξ hv,ξ ⟨by rw[hf];exact hv.1,(hn hv.1).2 hv.2⟩]
  rw[φ hv,φ fun h1=>hv ⟨by rw[←hf];exact h1.1,(hn (by rw[←hf];exact h1.1)).1 h1.2⟩,←aUv h hs];congr 1;rw[hf,wT h,tI];by_cases h7:c.form=7∧s∈pfR c
  ·rw[ξ h7,ξ ⟨h7.1,h.mem.2 h7.2⟩];obtain⟨f,n,nm,t,ks,bs,al⟩:=c;have u:f=7:=h7.1;subst u;rw[jY,aR2,aR2,φ (show ¬((7:Int)=1∨(7:Int)=5) by decide),aPm];by_cases hb:nm∈tyR b
   ·rw[ξ hb,ξ hb,jY,φ (show ¬((7:Int)=1∨(7:Int)=5) by decide),A8,A8];congr 1;refine Bf fun x _=>?_
    show sTR (m30 (mpN π x)) (mpN π x) nm _=mpN π (sTR (m30 x) x nm _);rw[oU h,aVk]
   ·rw[φ hb,φ hb,jY,φ (show ¬((7:Int)=1∨(7:Int)=5) by decide)]
  ·rw[φ h7,φ fun h1=>h7 ⟨h1.1,h.mem.1 h1.2⟩]
end
theorem u9 {l:List Core}:∀i,((l.take i).flatMap pfR).length≤(l.map m30).sum:=by
 induction l with
 | nil=>intro i;simp
 | cons c l u=>
  intro i;cases i with
  | zero=>simp
  | succ i=>
   rw[An,Ca,κ,Am,Bt];have:=jH c;have:=u i;omega
theorem aBw {l:List Core}{i:Nat}{b:Core}(h:l[i]?=some b):(l.take (i+1)).flatMap pfR=(l.take i).flatMap pfR++pfR b:=by
 rw[Bh,h,Cj];simp
theorem aNo (hI:dJ 540000000000) {D M X B:Nat}(O:M+D≤700000) (hX:31≤X) (c:Core) (names:List Str) (l:List Core) (hl:names.length=l.length) (hl2:l.length≤1000000) (I:PO D M X B c l):
  (∀x∈oR (gZ c l) names.length,x.length≤30)∧(∀i,∀p∈(names.zip (oR (gZ c l) names.length)).take i,p.2.length≤30)∧
  ∀i,i≤l.length→P2 X B c l (oR (gZ c l) names.length) i (iI (eY c (names.zip (oR (gZ c l) names.length))) (((oR (gZ c l) names.length).zip l).take i)):=by
 have hBig:Big=250000000000:=rfl;have Y:=I.cg;have hcsz:=Y.sz;have hpfc:=jH c;have J:=I.bsum;have hfl:∀i,((l.take i).flatMap pfR).length≤250000000000:=fun i=>le_trans (u9 i) J
 have N:gZ c l=pfR c++(l.take l.length).flatMap pfR:=by rw[Al];rfl
 have htkl:(gZ c l).length≤500000000000:=by rw[N,κ];have:=hfl l.length;omega
 have hNle:=aEy (gZ c l) names.length;have u:∀x∈oR (gZ c l) names.length,x.length≤30:=fun x hx=>by
  obtain⟨_,_,m,hm,rfl⟩:=sJ hx
  exact a19 (lt_of_lt_of_le hm (by
    have:600000000000≤10^29:=by decide
    omega))
 have hownL:=sK (gZ c l) names.length;have Z:∀p∈names.zip (oR (gZ c l) names.length),p.2.length≤30:=fun p hp=>u p.2 (of_mem_zip (a:=p.1) (b:=p.2) hp).2
 have ab:∀i,∀p∈(names.zip (oR (gZ c l) names.length)).take i,p.2.length≤30:=fun i p hp=>Z p (Bb hp)
 have aa:=sI hI O hX (names.zip (oR (gZ c l) names.length)) c Y Z;have htk:∀b∈l,∀x∈pfR b,x∈gZ c l:=fun b hb x hx=>τ.2 (.inr (C6.2 ⟨b,hb,hx⟩))
 have hP2:∀i,i≤l.length→P2 X B c l (oR (gZ c l) names.length) i (iI (eY c (names.zip (oR (gZ c l) names.length))) (((oR (gZ c l) names.length).zip l).take i)):=by
  intro i
  induction i with
  | zero=>intro _;exact P2.zero I aa.1 aa.2.q
  | succ i ih=>
   intro hi;obtain⟨b,hb⟩:=aJ (show i<l.length by omega);obtain⟨s,hs⟩:=aJ (show i<(oR (gZ c l) names.length).length by omega);have:=(P2.step hI O hX I htk (ih (by omega)) (η hs) (u s (η hs)) hb).2
   unfold iI at this ⊢;rw[n0 _ _ hs hb];exact this
 exact⟨u,ab,hP2⟩
theorem aKq (hI:dJ 540000000000) {D M X B:Nat}(ab:M+D≤700000) (hX:31≤X) (c:Core) (names:List Str) (l:List Core) (hl:names.length=l.length) (hl2:l.length≤1000000) (ho:PO D M X B c l):
  aU Tryz.prog 108 [.pa (aB c),aV names,.one (.c (.sl 10 (l.map aB)))] [] (.pa (aB (aAv c names l))) []∧PR X B c l (aAv c names l):=by
 have hBig:Big=250000000000:=rfl;have hcg:=ho.cg;have hcs:=c8 c;have hcsz:=hcg.sz;have hpfc:=jH c;have hbsum:=ho.bsum;have hfl:∀i,((l.take i).flatMap pfR).length≤250000000000:=fun i=>le_trans (u9 i) hbsum
 have hfr:=aUg c (by omega);have hkL:(l.map aB).length=l.length:=θ _;have ac:(names.map b6).length=names.length:=θ _;have ad:gZ c l=pfR c++(l.take l.length).flatMap pfR:=by rw[Al];rfl
 have htkl:(gZ c l).length≤500000000000:=by rw[ad,κ];have:=hfl l.length;omega
 have hNle:=aEy (gZ c l) names.length;obtain⟨Y,hzpi,hP2⟩:=aNo hI ab hX c names l hl hl2 ho;have hownL:=sK (gZ c l) names.length;have hkO:((oR (gZ c l) names.length).map b6).length=(oR (gZ c l) names.length).length:=θ _;have htk:∀b∈l,∀x∈pfR b,x∈gZ c l:=fun b hb x hx=>τ.2 (.inr (C6.2 ⟨b,hb,hx⟩))
 have hzl:((oR (gZ c l) names.length).zip l).length=l.length:=by rw[length_zip];omega
 have hfin:=hP2 l.length (le_refl _);rw[←hzl,Al,hzl] at hfin;refine⟨?_,hfin.fin ho⟩;refine bQ (n:=80) tok Tryz.func108 rfl rfl rfl ?_;refine sg rfl (sk 1 rfl (kc hfr ?_));refine kz 1 rfl (a8 (sg rfl (aC (aK (fun i:Nat=>mk [(1,aV names),(2,.one (.c (.sl 10 (l.map aB)))),(3,.one (.vp 3 0)),(6,.one (.vp 6 0)),(7,ouV (pfR c++(l.take i).flatMap pfR)),(19,.one (.c (.sl 10 (l.map aB)))),(20,I .i64 ((l.map aB).length:Int)),(21,I .i64 i)] [(3,.var 37 (aW c)),(6,.var 37 bO),(500,ouO (pfR c++(l.take i).flatMap pfR))]) (fun i=>i≤l.length) (fun i=>l.length-i) 0 (Ag _) (by rw[Bj,Ck,Ax];exact sl) ?_))));intro i hi;refine sg rfl (a8 (aA rfl (fun hb=>?_) (fun hb=>?_)))
 ·have u:=ltD hb hkL;obtain⟨b,J⟩:=aJ u;have hb':=bW aB J;have hbm:=η J;have hbs:=c8 b;have hcb:=(ho.cgb hbm).sz;have hfb:=rJ (aY b) b (le_refl _) (by omega);have N:=aBw J;have h1:=hfl i;have h2:=jH b;have hx0:(pfR c++(l.take i).flatMap pfR).length≤500000000000:=by rw[κ];omega
  generalize hG:(l.take i).flatMap pfR=G at N hx0;generalize pfR b=F at hfb N h2;have hkF:(F.map b6).length=F.length:=θ _;have hkx:((pfR c++G).map b6).length=(pfR c++G).length:=θ _;refine aD (a8 (aC (sgh [(0,.row i (aB b))] rfl (aI mixed (ak 2 [] rfl (kc hfb ?_))))));refine kz 2 rfl (ag [] rfl ⟨i+1,u,by dsimp only;omega,?_⟩);dsimp only;rw[N,←Ay];exact sl (he:=⟨rfl,rfl,rfl,rfl,Go.AM.hs_ren (by simp;omega) (by simp;omega),rfl,rfl,rfl,trivial⟩) (hh:=⟨⟨_,rfl,.varS rfl⟩,⟨_,rfl,.varS rfl⟩,⟨_,rfl,.arrS (by simp)⟩,trivial⟩)
 have Z:=geD hb hkL hi;subst Z;rw[←ad];refine aL (AWp.sub (Sub.freeze (id:=500) rfl) ?_);refine sg rfl (a8 (sg rfl (AWp.sub (Sub.own (t:=10) (id:=720) 9 1 rfl rfl) ?_)));refine aC ?_;have hO:∀n,((nS (gZ c l) n).map b6).length=(nS (gZ c l) n).length:=fun n=>θ _
 refine aK (fun n:Nat=>mk [(1,aV names),(2,.one (.c (.sl 10 (l.map aB)))),(3,.one (.vp 3 0)),(6,.one (.vp 6 0)),(7,ouV (gZ c l)),(10,.one (.hs 720 0 (nS (gZ c l) n).length (nS (gZ c l) n).length)),(11,I .i64 n)] [(3,.var 37 (aW c)),(6,.var 37 bO),(500,.arr 9 1 ((gZ c l).map b6) 2),(720,.arr 9 1 ((nS (gZ c l) n).map b6) 0)]) (fun n=>n≤aK7 (gZ c l) names.length) (fun n=>aK7 (gZ c l) names.length-n) 0 (Ag _) sl ?_;intro n hn;have hct:=c9 (gZ c l) (pcN n) (by omega);have hit:=hI n (by omega);refine a8 (sg rfl (aA rfl (fun hb=>?_) (fun hb=>?_)))
 ·have u:n<aK7 (gZ c l) names.length:=by
   have hb:((nS (gZ c l) n).length:Int)<((names.map b6).length:Int):=ψ hb;rw[ac] at hb;by_cases h:n<aK7 (gZ c l) names.length
   ·exact h
   ·have e:n=aK7 (gZ c l) names.length:=by omega
    rw[e] at hb;have:(nS (gZ c l) (aK7 (gZ c l) names.length)).length=names.length:=sK _ _;omega
  have hll:(nS (gZ c l) n).length≤1000000:=by have:=aN5 _ _ u;omega
  have hdl:=rG n (by omega);have hM:600000000000≤maxLen:=by decide
  have aa:=uC (gZ c l) n;refine aD (a8 (aC (sk 1 rfl (kc hit ?_))));refine ak 2 [] rfl ?_ (hc:=by repeat (first | exact trivial | refine⟨by first | rfl | omega | (simp;omega),?_⟩));refine az (sk 2 rfl (kc hct ?_));refine kz 1 rfl (aA rfl (fun hb=>?_) (fun hb=>?_))
  ·have hni:¬pcN n∈gZ c l:=by simpa using hb
   rw[φ hni] at aa;generalize nS (gZ c l) n=O at aa hll;refine ag [(2,.all)] rfl (ag [] rfl ⟨n+1,u,by dsimp only;omega,?_⟩);dsimp only;rw[aa];exact sl
  ·have hni:pcN n∈gZ c l:=by simpa using hb
   rw[ξ hni] at aa;refine aD (ag [] rfl ⟨n+1,u,by dsimp only;omega,?_⟩);dsimp only;rw[aa];exact sl
 have heN:n=aK7 (gZ c l) names.length:=by
  have hb:¬((nS (gZ c l) n).length:Int)<((names.map b6).length:Int):=χ hb;rw[ac] at hb;by_cases h:n<aK7 (gZ c l) names.length
  ·have:=aN5 _ _ h;omega
  ·omega
 subst heN;refine aL (AWp.sub (Sub.freeze (id:=720) rfl) ?_);have hown:nS (gZ c l) (aK7 (gZ c l) names.length)=oR (gZ c l) names.length:=rfl;rw[hown];generalize hTK:gZ c l=TK at *;generalize hOW:oR TK names.length=own at *;refine a8 (sg rfl (aC (aK (fun i:Nat=>mk [(2,.one (.c (.sl 10 (l.map aB)))),(3,.one (.vp 3 0)),(6,.one (.vp 6 0)),(10,.one (.hs 720 0 own.length own.length)),(48,aV names),(49,I .i64 ((names.map b6).length:Int)),(50,I .i64 i)] [(3,.var 37 (aW (eY c ((names.zip own).take i)))),(6,.var 37 bO),(720,.arr 9 1 (own.map b6) 2)]) (fun i=>i≤names.length) (fun i=>names.length-i) 0 (Ag _) sl ?_)));intro i hi;refine sg rfl (a8 (aA rfl (fun hb=>?_) (fun hb=>?_)))
 ·have u:=ltD hb ac;obtain⟨s,hs⟩:=aJ u;obtain⟨o,ho'⟩:=aJ (show i<own.length by omega);have hs':=bW b6 hs;have ho2:=bW b6 ho';have hz:=Y o (η ho');have hc1:=(sI hI ab hX ((names.zip own).take i) c hcg (hzpi i)).2
  have hS:=(uU hI ab hX (m30 (eY c ((names.zip own).take i))) (eY c ((names.zip own).take i)) (le_refl _) hc1 s (vC o) (CG.vC hz hX)).imp;have N:eY c ((names.zip own).take (i+1))=dH (m30 (eY c ((names.zip own).take i))) (eY c ((names.zip own).take i)) s (vC o):=by
   unfold eY;rw[n0 _ _ hs ho']
  refine aD (a8 (aC (sgh [(1,.row i (b6 s))] rfl (aI mixed (ak 6 [(5,.row i (b6 o))] rfl (kc (uY o) ?_))))));refine kc hS ?_;refine kz 1 rfl (ag [] rfl ⟨i+1,u,by dsimp only;omega,?_⟩);dsimp only;rw[N];exact sl
 have Z:=geD hb ac hi;subst Z;have hzn:(names.zip own).take names.length=names.zip own:=by
  rw[Ba];rw[length_zip];omega
 rw[hzn];refine aL (a8 (sg rfl (aC (aK (fun i:Nat=>mk [(2,.one (.c (.sl 10 (l.map aB)))),(3,.one (.vp 3 0)),(6,.one (.vp 6 0)),(64,.one (.hs 720 0 own.length own.length)),(65,I .i64 (own.length:Int)),(66,I .i64 i)] [(3,.var 37 (aW (iI (eY c (names.zip own)) ((own.zip l).take i)))),(6,.var 37 bO),(720,.arr 9 1 (own.map b6) 2)]) (fun i=>i≤own.length) (fun i=>own.length-i) 0 (Ag _) sl ?_))));intro i hi;refine sg rfl (a8 (aA rfl (fun hb=>?_) (fun hb=>?_)))
 ·have u:i<own.length:=by have:=ψ hb;omega
  obtain⟨s,hs⟩:=aJ u;obtain⟨b,J⟩:=aJ (show i<l.length by omega);have hs':=bW b6 hs;have hb':=bW aB J;have hS:=(P2.step (tk:=TK) (k:=names.length) hI ab hX ho htk (by rw[hOW];exact hP2 i (by omega)) (by rw[hOW];exact η hs) (Y s (η hs)) J).1.imp;have N:iI (eY c (names.zip own)) ((own.zip l).take (i+1))=dH (m30 (iI (eY c (names.zip own)) ((own.zip l).take i))) (iI (eY c (names.zip own)) ((own.zip l).take i)) s b:=by
   generalize eY c (names.zip own)=c1;unfold iI;rw[n0 _ _ hs J]
  refine aD (a8 (aC (sgh [(2,.row i (b6 s))] rfl (aI mixed (ak 6 [(4,.row i (aB b))] rfl (kc hS ?_))))));refine kz 1 rfl (ag [] rfl ⟨i+1,u,by dsimp only;omega,?_⟩);dsimp only;rw[N];exact sl
 have Z:i=own.length:=by have:=χ hb;omega
 subst Z;have hzn:(own.zip l).take own.length=own.zip l:=by
  rw[Ba];rw[length_zip];omega
 rw[hzn];refine aL (sg rfl ?_);have he:aAv c names l=iI (eY c (names.zip own)) (own.zip l):=by unfold aAv;rw[hTK,hOW]
 rw[he];exact aE (rtC trw)
def swB (b:UInt8):UInt8:=if b=37 then 35 else if b=35 then 37 else b
def swN:Str→Str
 | []=>[]
 | b::d=>swB b::d
def hsN (n:Nat):Str:=35::Lib.decDigits n
theorem aXr (a b:UInt8) (h:swB a=swB b):a=b:=by
 have hv:∀a,swB (swB a)=a:=fun a=>by
  unfold swB;by_cases h1:a=37
  ·rw[ξ h1,φ (by decide),ξ rfl,h1]
  ·rw[φ h1];by_cases h2:a=35
   ·rw[ξ h2,ξ rfl,h2]
   ·rw[φ h2,φ h1,φ h2]
 rw[←hv a,h,hv]
theorem vS:∀x,nh x→swN x=x
 | [],_=>rfl
 | b::d,h=>by
  have h1:¬b=37:=fun e=>h.1 (by rw[e];rfl)
  have h2:¬b=35:=fun e=>h.2 (by rw[e];rfl)
  show swB b::d=b::d;unfold swB;rw[φ h1,φ h2]
theorem a0f:Rn swN:=⟨fun x y h=>by
  cases x with
  | nil=>cases y with
   | nil=>rfl
   | cons b d=>cases h
  | cons a c=>cases y with
   | nil=>cases h
   | cons b d=>
    have h:swB a::c=swB b::d:=h;injection h with h1 h2
    rw[aXr a b h1,h2],fun n=>vS _ (x9 n),fun x=>by cases x<;>rfl⟩
theorem aVf (n:Nat):swN (pcN n)=hsN n:=rfl
theorem aYe {tk:List Str}(h:∀x∈tk,nh x) (k:Nat):oR tk k=(List.range k).map pcN:=by
 have key:∀n,nS tk n=(List.range n).map pcN:=fun n=>by
  unfold nS;rw[List.filter_eq_self];intro x hx;obtain⟨i,_,rfl⟩:=Af.1 hx;exact Ad fun hin=>wU i (h _ hin)
 have hl:=sK tk k;unfold oR at hl ⊢;rw[key,θ,length_range] at hl;rw[key,hl]
section
variable {π:Str→Str}
mutual
theorem r6 {X:Nat}(hn:∀x,nh x→π x=x):∀c:Core,eJ (QL X) c→(∀x∈pfR c,π x=x)→mpN π c=c
 | .mk f n s t ks bs al,h,hp=>by
  obtain⟨⟨_,_,_,_,_,J,N,O⟩,Z,qb,qa⟩:=bB.1 h;rw[mpN];by_cases h1:f=1
  ·obtain⟨rfl,rfl,rfl⟩:=vM h h1;rw[ξ (.inl h1),hp s (by rw[pfR,ξ h1];exact ε.2 rfl),qZ,r4,r5]
  ·have hg:∀x∈gvN f s bs,nh x:=fun x hx=>by
    unfold gvN at hx;rcases τ.1 hx with hx | hx
    ·by_cases h5:f=5
     ·rw[ξ h5] at hx;rw[ε.1 hx];exact J h5
     ·rw[φ h5] at hx;cases hx
    ·obtain⟨b,hb,rfl⟩:=Af.1 hx;exact N (bhd b) (Af.2 ⟨b,hb,rfl⟩)
   have I:∀p∈ks++bs.map Bind.body,∀x∈pfR p,π x=x:=fun p Y x hx=>by
    by_cases u:x∈gvN f s bs
    ·exact hn x (hg x u)
    ·exact hp x ((kN h1).2 (.inl ⟨p,Y,hx,u⟩))
   have ha:∀a∈al,∀x∈pfR a.body,π x=x:=fun a ha x hx=>by
    by_cases u:x∈a.vars
    ·exact hn x (O (ahd a) (Af.2 ⟨a,ha,rfl⟩) x u)
    ·exact hp x ((kN h1).2 (.inr ⟨a,ha,hx,u⟩))
   have es:(if f=1∨f=5 then π s else s)=s:=by
    by_cases h5:f=5
    ·rw[ξ (.inr h5),hn s (J h5)]
    ·rw[φ (by omega)]
   rw[es,aHp hn ks Z fun c hc=>I c (τ.2 (.inl hc)),aHq hn bs qb (fun b hb=>N (bhd b) (Af.2 ⟨b,hb,rfl⟩)) fun b hb=>I b.body (τ.2 (.inr (Af.2 ⟨b,hb,rfl⟩))),
    aHr hn al qa (fun a ha'=>O (ahd a) (Af.2 ⟨a,ha',rfl⟩)) ha]
theorem aHp {X:Nat}(hn:∀x,nh x→π x=x):∀l:List Core,(∀c∈l,eJ (QL X) c)→(∀c∈l,∀x∈pfR c,π x=x)→qZ π l=l
 | [],_,_=>by rw[qZ]
 | c::l,h,hp=>by rw[qZ,r6 hn c (h c ζ) (hp c ζ),aHp hn l (fun x hx=>h x (ω _ hx)) fun x hx=>hp x (ω _ hx)]
theorem aHq {X:Nat}(hn:∀x,nh x→π x=x):∀l:List Bind,(∀c∈l,eJ (QL X) c.body)→(∀c∈l,nh c.name)→(∀c∈l,∀x∈pfR c.body,π x=x)→r4 π l=l
 | [],_,_,_=>by rw[r4]
 | .mk s t c::l,h,hb,hp=>by rw[r4,hn s (hb _ ζ),r6 hn c (h _ ζ) (hp _ ζ),aHq hn l (fun x hx=>h x (ω _ hx)) (fun x hx=>hb x (ω _ hx)) fun x hx=>hp x (ω _ hx)]
theorem aHr {X:Nat}(hn:∀x,nh x→π x=x):∀l:List Alt,(∀c∈l,eJ (QL X) c.body)→(∀c∈l,∀v∈c.vars,nh v)→(∀c∈l,∀x∈pfR c.body,π x=x)→r5 π l=l
 | [],_,_,_=>by rw[r5]
 | .mk f n s v c::l,h,hb,hp=>by
  have hv:∀x∈v,nh x:=hb (.mk f n s v c) ζ;have ev:v.map π=v:=by
   conv=>rhs;rw[←map_id v]
   exact Bf fun x hx=>hn x (hv x hx)
  rw[r5,ev,r6 hn c (h _ ζ) (hp _ ζ),aHr hn l (fun x hx=>h x (ω _ hx)) (fun x hx=>hb x (ω _ hx)) fun x hx=>hp x (ω _ hx)]
end
mutual
theorem tC {X:Nat}(u:Rn π) (hn:∀x,nh x→π x=x):∀c:Core,eJ (QL X) c→eJ (QL X) (mpN π c)
 | .mk f n s t ks bs al,h=>by
  rw[eJ] at h;obtain⟨⟨O,Y,Z,q4,q5,I,J,N⟩,qk,qb,qa⟩:=h;have eb:(bs.map (mB π)).map bhd=bs.map bhd:=by
   rw[A8];refine Bf fun b hb=>?_
   show(π b.name,b.ty)=(b.name,b.ty);rw[hn b.name (J (bhd b) (Af.2 ⟨b,hb,rfl⟩))]
  have ea:(al.map (mA π)).map ahd=al.map ahd:=by
   rw[A8];refine Bf fun a ha=>?_
   show(a.name,a.vars.map π)=(a.name,a.vars);congr 1
   conv=>rhs;rw[←map_id a.vars]
   exact Bf fun x hx=>hn x (N (ahd a) (Af.2 ⟨a,ha,rfl⟩) x hx)
  rw[mpN,eJ];refine⟨?_,aDq u hn ks qk,aDr u hn bs qb,aDs u hn al qa⟩;rw[zB,sN,zD,eb,ea,θ];refine⟨O,fun h7=>?_,Z,q4,?_,fun h5=>?_,J,N⟩
  ·rw[φ (by omega)];exact Y h7
  ·have:lw (if f=1∨f=5 then π s else s) (bs.map bhd) (al.map ahd)=lw s (bs.map bhd) (al.map ahd):=by
    unfold lw;split
    ·rw[u.w]
    ·rfl
   rw[this];exact q5
  ·rw[ξ (.inr h5),hn s (I h5)];exact I h5
theorem aDq {X:Nat}(u:Rn π) (hn:∀x,nh x→π x=x):∀l:List Core,w7 (QL X) l→w7 (QL X) (qZ π l)
 | [],_=>by rw[qZ,w7];trivial
 | c::l,h=>by rw[w7] at h;rw[qZ,w7];exact⟨tC u hn c h.1,aDq u hn l h.2⟩
theorem aDr {X:Nat}(u:Rn π) (hn:∀x,nh x→π x=x):∀l:List Bind,w8 (QL X) l→w8 (QL X) (r4 π l)
 | [],_=>by rw[r4,w8];trivial
 | .mk s t c::l,h=>by rw[w8] at h;rw[r4,w8];exact⟨tC u hn c h.1,aDr u hn l h.2⟩
theorem aDs {X:Nat}(u:Rn π) (hn:∀x,nh x→π x=x):∀l:List Alt,w9 (QL X) l→w9 (QL X) (r5 π l)
 | [],_=>by rw[r5,w9];trivial
 | .mk f n s v c::l,h=>by rw[w9] at h;rw[r5,w9];exact⟨tC u hn c h.1,aDs u hn l h.2⟩
end
theorem aXg {D M X:Nat}{c:Core}(u:Rn π) (hn:∀x,nh x→π x=x) (h:CG D M X c):CG D M X (mpN π c):=
 ⟨tC u hn c h.q,by rw[aIr];exact h.dep,by rw[tI,aGi];exact h.sc,by rw[oU u];exact h.sz⟩
end
theorem aIz (hI:dJ 540000000000) {D M X B:Nat}(J:M+D≤700000) (O:31≤X) (c:Core) (names:List Str) (l:List Core) (hl:names.length=l.length) (hl2:l.length≤1000000) (Y:PO D M X B c l)
  (hfc:∀x∈pfR c,nh x) (hfl:∀b∈l,∀x∈pfR b,nh x) (hnm:∀s∈names,nh s):
  aU Tryz.prog 36 [.pa (aB c),aV names,.one (.c (.sl 10 (l.map aB)))] [] (.pa (aB (aAv c names l))) []∧∀x∈pfR (aAv c names l),nh x:=by
 obtain⟨Z,hzpi,hP2⟩:=aNo hI J O c names l hl hl2 Y;have hcg:=Y.cg;have hput:aAv c names l=iI (eY c (names.zip (oR (gZ c l) names.length))) ((oR (gZ c l) names.length).zip l):=rfl;have hall:∀x∈gZ c l,nh x:=fun x hx=>by
  rcases τ.1 hx with hx | hx
  ·exact hfc x hx
  ·obtain⟨b,hb,hx⟩:=C6.1 hx;exact hfl b hb x hx
 have hown:=aYe hall names.length;rw[hput];generalize oR (gZ c l) names.length=own at *;have hol:own.length=names.length:=by rw[hown];simp
 have N:∀i,i<names.length→own[i]?=some (pcN i):=fun i hi=>by
  rw[hown,A5,List.getElem?_range hi];rfl
 have hF1:∀i,CG D M X (eY c ((names.zip own).take i)):=fun i=>(sI hI J O ((names.zip own).take i) c hcg (hzpi i)).2
 have hst1:∀i s,names[i]?=some s→i<names.length→eY c ((names.zip own).take (i+1))=dH (m30 (eY c ((names.zip own).take i))) (eY c ((names.zip own).take i)) s (vC (pcN i)):=fun i s hs hi=>by
  unfold eY;rw[n0 _ _ hs (N i hi)]
 have hn1:∀i,i≤names.length→∀x∈pfR (eY c ((names.zip own).take i)),nh x∨∃j,j<names.length∧x=pcN j:=by
  intro i
  induction i with
  | zero=>intro _ x hx;exact .inl (hfc x hx)
  | succ i ih=>
   intro hi x hx;obtain⟨s,hs⟩:=aJ (show i<names.length by omega);rw[hst1 i s hs (by omega)] at hx;have hz:=Z (pcN i) (η (N i (by omega)));rcases(yF hI J O _ _ (le_refl _) (hF1 i) s (vC (pcN i)) (CG.vC hz O)).pf x hx with⟨h,_⟩ | h
   ·exact ih (by omega) x h
   ·have:x=pcN i:=by simpa [vC,pfR] using h
    exact .inr ⟨i,by omega,this⟩
 have hz1:(names.zip own).take names.length=names.zip own:=Ba (by rw[length_zip];omega);have hz2:(own.zip l).take names.length=own.zip l:=Ba (by rw[length_zip];omega);have hst2:∀i b,l[i]?=some b→i<names.length→iI (eY c (names.zip own)) ((own.zip l).take (i+1))=dH (m30 (iI (eY c (names.zip own)) ((own.zip l).take i))) (iI (eY c (names.zip own)) ((own.zip l).take i)) (pcN i) b:=fun i b hb hi=>by
  generalize eY c (names.zip own)=c1;unfold iI;rw[n0 _ _ (N i hi) hb]
 have hn2:∀i,i≤names.length→∀x∈pfR (iI (eY c (names.zip own)) ((own.zip l).take i)),nh x∨∃j,i≤j∧j<names.length∧x=pcN j:=by
  intro i
  induction i with
  | zero=>
   intro _ x hx;have h:=hn1 names.length (le_refl _);rw[hz1] at h;exact(h x hx).imp id fun⟨j,h1,h2⟩=>⟨j,Ag _,h1,h2⟩
  | succ i ih=>
   intro hi x hx;obtain⟨b,hb⟩:=aJ (show i<l.length by omega);rw[hst2 i b hb (by omega)] at hx;rcases(yF hI J O _ _ (le_refl _) ((hP2 i (by omega)).cg Y) (pcN i) b (Y.cgb (η hb))).pf x hx with⟨h,hne⟩ | h
   ·rcases ih (by omega) x h with h | ⟨j,h1,h2,h3⟩
    ·exact .inl h
    ·by_cases e:j=i
     ·exact absurd (by rw[h3,e]) hne
     ·exact .inr ⟨j,by omega,h2,h3⟩
   ·exact .inl (hfl b (η hb) x h)
 have hfin:∀x∈pfR (iI (eY c (names.zip own)) (own.zip l)),nh x:=fun x hx=>by
  have h:=hn2 names.length (le_refl _);rw[hz2] at h;rcases h x hx with h | ⟨j,h1,h2,_⟩
  ·exact h
  ·omega
 have hP:=hP2 l.length (le_refl _);rw[←hl,hz2] at hP;refine⟨?_,hfin⟩;have hfixR:mpN swN (iI (eY c (names.zip own)) (own.zip l))=iI (eY c (names.zip own)) (own.zip l):=r6 vS _ hP.q fun x hx=>vS x (hfin x hx)
 have hfixC:mpN swN c=c:=r6 vS c Y.q fun x hx=>vS x (hfc x hx)
 have hfixL:∀b∈l,mpN swN b=b:=fun b hb=>r6 vS b (Y.bq b hb) fun x hx=>vS x (hfl b hb x hx)
 rw[←hfixR];have hkN:(names.map b6).length=names.length:=θ _;have hkL:(l.map aB).length=l.length:=θ _;refine bQ (n:=50) tok Tryz.func36 rfl rfl rfl ?_;refine sg rfl (sg rfl (AWp.sub (Sub.own (t:=7) (id:=600) 9 1 rfl rfl) ?_));refine a8 (sg rfl (aC ?_))
 refine aK (fun i:Nat=>mk [(1,aV names),(2,.one (.c (.sl 10 (l.map aB)))),(3,.one (.vp 3 0)),(6,.one (.vp 6 0)),(7,.one (.hs 600 0 i i)),(8,I .i64 i)]
  [(3,.var 37 (aW (mpN swN (eY c ((names.zip own).take i))))),(6,.var 37 bO),(600,.arr 9 1 ((List.range i).map fun j=>b6 (hsN j)) 0)]) (fun i=>i≤names.length) (fun i=>names.length-i) 0 (Ag _) ?_ ?_
 ·rw[Bj,show eY c []=c from rfl,hfixC];exact sl
 intro i hi;refine a8 (sg rfl (aA rfl (fun hb=>?_) (fun hb=>?_)))
 ·have u:=ltD hb hkN;obtain⟨s,hs⟩:=aJ u;have hs':=bW b6 hs;have hz:=Z (pcN i) (η (N i u));have hzh:(hsN i).length≤30:=hz;have hcl:=aXg a0f vS (hF1 i);have hS:=aQj hI J O _ _ (le_refl _) hcl s (vC (hsN i)) (CG.vC hzh O);have he:=yE a0f (m30 (eY c ((names.zip own).take i))) (eY c ((names.zip own).take i)) s (vC (pcN i));rw[vS s (hnm s (η hs)),aU4,aVf,←hst1 i s hs u] at he;rw[oU a0f,he] at hS;generalize mpN swN (eY c ((names.zip own).take i))=r at *;generalize hr':mpN swN (eY c ((names.zip own).take (i+1)))=r' at *;have hde:=aW2 i (by omega);have hdl:=rG i (by omega);have hM:600000000000≤maxLen:=by decide
  have hrow:(List.range i).map (fun j=>b6 (hsN j))++[b6 (hsN i)]=(List.range (i+1)).map fun j=>b6 (hsN j):=by rw[range_succ,At];rfl
  have hat:((List.range (i+1)).map fun j=>b6 (hsN j))[i]?=some (b6 (hsN i)):=by rw[A5,List.getElem?_range (by omega)];rfl
  refine aD (a8 (aC (sgh [(2,.pc (Go.AM.T (Lib.decDigits i))),(4,.all)] rfl ?_ (hc:=by repeat (first | exact trivial | refine⟨by first | assumption | exact⟨by kernel_rfl,by assumption⟩ | rfl | omega | (simp;done) | (simp;omega),?_⟩)))))
  refine AWp.sub (st2:=mk [(1,aV names),(2,.one (.c (.sl 10 (l.map aB)))),(3,.one (.vp 3 0)),(6,.one (.vp 6 0)),(7,.one (.hs 600 0 (i+1) (i+1))),(8,I .i64 i)]
   [(3,.var 37 (aW r)),(6,.var 37 bO),(600,.arr 9 1 ((List.range (i+1)).map fun j=>b6 (hsN j)) 0)]) (sl (hh:=⟨⟨_,rfl,.var rfl⟩,⟨_,rfl,.var rfl⟩,⟨_,rfl,.arrS hrow⟩,trivial⟩)) ?_
  refine aI mixed (ak 10 [(3,.row i (b6 s)),(8,.row i (b6 (hsN i)))] rfl (kc hS ?_));refine kz 1 rfl (ag [] rfl ⟨i+1,u,by dsimp only;omega,?_⟩);dsimp only;rw[hr'];exact sl
 have hge:=geD hb hkN hi;subst hge;rw[hz1];have hcut:=fun i (hi:i≤names.length)=>(hP2 i (by omega)).cg Y
 generalize hC1:eY c (names.zip own)=c1 at *;have hat:∀i,i<names.length→((List.range names.length).map fun j=>b6 (hsN j))[i]?=some (b6 (hsN i)):=fun i hi=>by rw[A5,List.getElem?_range hi];rfl
 refine aL (a8 (sg rfl (aC ?_)))
 refine aK (fun i:Nat=>mk [(1,aV names),(2,.one (.c (.sl 10 (l.map aB)))),(3,.one (.vp 3 0)),(6,.one (.vp 6 0)),(7,.one (.hs 600 0 names.length names.length)),(9,I .i64 i)]
  [(3,.var 37 (aW (mpN swN (iI c1 ((own.zip l).take i))))),(6,.var 37 bO),(600,.arr 9 1 ((List.range names.length).map fun j=>b6 (hsN j)) 0)]) (fun i=>i≤names.length) (fun i=>names.length-i) 0 (Ag _) ?_ ?_
 ·rw[Bj,show iI c1 []=c1 from rfl];exact sl
 intro i hi;refine a8 (sg rfl (aA rfl (fun hb=>?_) (fun hb=>?_)))
 ·have u:=ltD hb hkN;obtain⟨b,hbi⟩:=aJ (show i<l.length by omega);have hb':=bW aB hbi;have hbm:=η hbi;have hS:=aQj hI J O _ _ (le_refl _) (aXg a0f vS (hcut i hi)) (hsN i) b (Y.cgb hbm);have he:=yE a0f (m30 (iI c1 ((own.zip l).take i))) (iI c1 ((own.zip l).take i)) (pcN i) b;rw[aVf,hfixL b hbm,←hst2 i b hbi u] at he;rw[oU a0f,he] at hS;have hri:=hat i u;have hrl:((List.range names.length).map fun j=>b6 (hsN j)).length=names.length:=by simp
  generalize mpN swN (iI c1 ((own.zip l).take i))=r at *;generalize hr':mpN swN (iI c1 ((own.zip l).take (i+1)))=r' at *;generalize (List.range names.length).map (fun j=>b6 (hsN j))=rows at *;refine aD (a8 (aC (aI mixed (ak 9 [(4,.row i (b6 (hsN i))),(7,.row i (aB b))] rfl (kc hS ?_)))));refine kz 1 rfl (ag [] rfl ⟨i+1,u,by dsimp only;omega,?_⟩);dsimp only;rw[hr'];exact sl
 have hge:=geD hb hkN hi;subst hge;rw[hz2];exact aL (sg rfl (aE (rtC trw)))
end Go.Proofs.YtockgoadliilhaaGreatDoor
namespace Go.AM
open Go
theorem Sub.fnClo {kf:List Nat}{st:St}(t:Nat) {f:FuncId}(h:st.e t=some (.one (.c (.fn f)))):Sub kf ⟨upd st.e t (some (.one (.clo f []))),st.h,st.d⟩ st:=by
 intro G n S μ a w _ hs;refine⟨S,μ,⟨hs.inv,hs.size,hs.defers,fun s v e=>?_⟩⟩;by_cases u:s=t
 ·subst u;have hv:=hs.env s _ h;have e':v=.one (.clo f []):=by
   have:some v=some (V.one (.clo f [])):=by rw[←e];exact aM _ _ _
   cases this;rfl
  subst e';simp only[bE,bL,Rep,bC] at hv ⊢;exact⟨[],hv,rfl⟩
 ·exact hs.env s v (by rw[←e];exact(bJ _ _ _ u).symm)
def a4v:BinOp→Int→Int→Option Int
 | .add,a,b=>some (IntKind.i64.wrap (a+b))
 | .sub,a,b=>some (IntKind.i64.wrap (a-b))
 | .mul,a,b=>some (IntKind.i64.wrap (a*b))
 | .quo,a,b=>if b=0 then none else some (IntKind.i64.wrap (a.tdiv b))
 | .rem,a,b=>if b=0 then none else some (a.tmod b)
 | _,_,_=>none
section
variable {P:Program}{n:Nat}{ops:Array Oper}{draw:Bool}{k d:Nat}{st:St}{pre:REs}{Q:St→Prop}{o:Oper}
theorem a47 {op:BinOp}{Y ty:TypeId}{x y:Operand}{a b r:Int}(N:o.op=.binOp op Y x y ty) (hd:o.dst=some d) (J:d<n) (hx:opv st x=some (I .i64 a)) (O:opv st y=some (I .i64 b)) (u:a4v op a b=some r):
  Step P n o st ⟨opr x++opr y,[]⟩ ⟨some (d,some (I .i64 r)),[]⟩:=by
 cases op<;>simp only[a4v] at u<;>try (cases u;done)
 ·cases u;exact aSz N hd J hx O rfl
 ·cases u;exact aSo N hd J hx O rfl
 ·cases u;exact aSt N hd J hx O rfl
 ·split at u
  ·cases u
  ·rename_i hb;cases u;exact a1r N hd J hx O hb rfl
 ·split at u
  ·cases u
  ·rename_i hb;cases u;exact a1p N hd J hx O hb rfl
theorem kw {op:BinOp}{N ty:TypeId}{x y:Operand}{a b:Int}(r:Int) (O:a4v op a b=some r)
  (hk:lW P n ops draw (k+1) ⟨upd st.e d (some (I .i64 r)),st.h,st.d⟩ ((⟨opr x++opr y,[]⟩,⟨some (d,some (I .i64 r)),[]⟩)::pre) Q)
  (Y:ops[k]?=some o:=by rfl) (Z:o.guard=none:=by rfl) (u:o.op=.binOp op N x y ty:=by rfl) (hd:o.dst=some d:=by rfl) (J:Nat.blt d n=true:=by rfl) (hx:opv st x=some (I .i64 a):=by rfl) (hy:opv st y=some (I .i64 b):=by rfl):lW P n ops draw k st pre Q:=
 k_ (g_ Y Z (a47 u hd (nI J) hx hy O)) hk
end
end Go.AM
namespace Go.Proofs.YtockgoadliilhaaGreatDoor
open Go Go.AM
set_option maxRecDepth 20000
def kI (n:Int):Core:=.mk 3 n [] zTy [] [] []
def a6v (s:Str):Core:=.mk 2 0 s zTy [] [] []
def zC:Core:=.mk 0 0 [] zTy [] [] []
def aAw:Str:=[97,100,100]
def aVy:Str:=[115,117,98]
def aTb:Str:=[109,117,108]
def aLa:Str:=[100,105,118]
def nEq:Str:=[101,113]
def nLt:Str:=[108,116]
def aK5 (b:Bool):Core:=a6v (if b then [84,114,117,101] else [70,97,108,115,101])
def jG (s:Str) (a b:Int):Core×Int:=
 if s=aAw then(kI (IntKind.i64.wrap (a+b)),0)
 else if s=aVy then(kI (IntKind.i64.wrap (a-b)),0)
 else if s=aTb then(kI (IntKind.i64.wrap (a*b)),0)
 else if s=aLa then(if b=0 then(zC,53) else(kI (IntKind.i64.wrap (a.tdiv b)),0))
 else if s=nEq then(aK5 (decide (a=b)),0)
 else if s=nLt then(aK5 (decide (a<b)),0)
 else(zC,51)
theorem aI2 (n:Int):aU Tryz.prog 42 [I .i64 n] [] (.pa (aB (kI n))) []:=aQt n
theorem aW4 (s:Str):aU Tryz.prog 146 [Go.AM.T s] [] (.pa (aB (a6v s))) []:=by
 refine bQ (n:=5) tok Tryz.func146 rfl rfl rfl ?_;exact sg rfl (sg rfl (aE (rtC trw)))
theorem aQe (b:Bool):aU Tryz.prog 135 [B b] [] (.pa (aB (aK5 b))) []:=by
 refine bQ (n:=6) tok Tryz.func135 rfl rfl rfl ?_;refine sg rfl (a8 (sg rfl ?_));cases b with
 | true=>
  refine aA rfl (fun _=>a8 (aI mixed (kc (aW4 [84,114,117,101]) ?_))) nofun;exact kz 1 rfl (aE (rtC trw))
 | false=>
  refine aA rfl nofun (fun _=>aD (a8 (aI mixed (kc (aW4 [70,97,108,115,101]) ?_))));exact kz 1 rfl (aE (rtC trw))
theorem a30 (a b:Int):aU Tryz.prog 130 [I .i64 a,I .i64 b] [] (.pa (aB (kI (IntKind.i64.wrap (a+b))))) []:=by
 refine bQ (n:=9) tok Tryz.func130 rfl rfl rfl ?_;refine sg rfl (sk 2 rfl (kw (IntKind.i64.wrap (a+b)) rfl ?_));refine kc (aI2 _) ?_;exact kz 1 rfl (aE (rtC trw))
theorem a3w (a b:Int):aU Tryz.prog 131 [I .i64 a,I .i64 b] [] (.pa (aB (kI (IntKind.i64.wrap (a-b))))) []:=by
 refine bQ (n:=9) tok Tryz.func131 rfl rfl rfl ?_;refine sg rfl (sk 2 rfl (kw (IntKind.i64.wrap (a-b)) rfl ?_));refine kc (aI2 _) ?_;exact kz 1 rfl (aE (rtC trw))
theorem a3y (a b:Int):aU Tryz.prog 132 [I .i64 a,I .i64 b] [] (.pa (aB (kI (IntKind.i64.wrap (a*b))))) []:=by
 refine bQ (n:=9) tok Tryz.func132 rfl rfl rfl ?_;refine sg rfl (sk 2 rfl (kw (IntKind.i64.wrap (a*b)) rfl ?_));refine kc (aI2 _) ?_;exact kz 1 rfl (aE (rtC trw))
theorem a3z (a b:Int) (hb:b≠0):aU Tryz.prog 133 [I .i64 a,I .i64 b] [] (.pa (aB (kI (IntKind.i64.wrap (a.tdiv b))))) []:=by
 refine bQ (n:=9) tok Tryz.func133 rfl rfl rfl ?_;refine sg rfl (sk 2 rfl (kw (op:=.quo) (a:=a) (b:=b) (IntKind.i64.wrap (a.tdiv b)) (φ hb) ?_));refine kc (aI2 _) ?_;exact kz 1 rfl (aE (rtC trw))
theorem a6a (a b:Int):aU Tryz.prog 134 [I .i64 a,I .i64 b] [] (.pa (aB (aK5 (decide (a=b))))) []:=by
 have h:=aQe (decide (a=b));refine bQ (n:=9) tok Tryz.func134 rfl rfl rfl ?_;refine sg rfl (sk 3 rfl (kc h ?_));exact kz 1 rfl (aE (rtC trw))
theorem a58 (a b:Int):aU Tryz.prog 136 [I .i64 a,I .i64 b] [] (.pa (aB (aK5 (decide (a<b))))) []:=by
 have h:=aQe (decide (a<b));refine bQ (n:=9) tok Tryz.func136 rfl rfl rfl ?_;refine sg rfl (sk 3 rfl (kc h ?_));exact kz 1 rfl (aE (rtC trw))
def wQ:List (List C):=[[.str aAw,.fn 130],[.str aVy,.fn 131],[.str aTb,.fn 132],[.str aLa,.fn 133],[.str nEq,.fn 134],[.str nLt,.fn 136]]
theorem aBu:lO wQ:=trivial
theorem aZp:aU Tryz.prog 110 [] [] (.one (.c (.mp false wQ))) []:=by
 refine bQ (n:=3) tok Tryz.func110 rfl rfl rfl ?_;refine sg rfl (sgh [(0,.id 900)] rfl ?_ (hc:=by repeat (first | exact trivial | refine⟨by decide+kernel,?_⟩)));refine AWp.sub (Sub.fmap (id:=900) rfl (by simp[keys]) aBu) ?_;exact aE rtT
end Go.Proofs.YtockgoadliilhaaGreatDoor
namespace Go.AM
open Go
section
variable {fn:Func}{st:St}{hin hout:List (Nat×AObj)}{res res2 res3:V}
theorem fM {tr:Tr}{a t u:Nat}{i:TI}{id off tv:Nat}{cells:List R}{v v2:V}{ids I:List Nat}(hw:tr.wf=true) (N:fn.results.toList=[.cell a t,.tmp u]:=by rfl) (hi:tr.get t=some i:=by rfl) (ha:st.e a=some (.one (.vp id off)):=by rfl) (hh:st.h id=some (.var tv cells):=by rfl) (hb:Nat.ble (off+i.size) cells.length=true:=by rfl) (hv:pQ i ((cells.drop off).take i.size)=some v:=by rfl) (hu:st.e u=some v2:=by rfl)
  (hc:Conv st.h ids v res:=by first | exact .refl | exact .one (.c .nl .nil) | ((first | apply Go.AM.Conv.pa | apply Go.AM.Conv.agg);repeat (first | exact .nil | apply Go.AM.PureL.c .refl | apply Go.AM.PureL.c .nl | (apply Go.AM.PureL.hs;rfl;(first | rfl | assumption | simp);(first | rfl | exact Go.AM.take_all (by first | assumption | rfl | (simp;done)) | exact Go.AM.take_map.symm)))))
  (J:Conv st.h I v2 res2:=by exact .refl)
  (O:fL (fun p=>∃o,st.h p.1=some o∧Ole (fun i=>i) o p.2) hout:=by repeat (first | exact trivial | refine⟨⟨_,rfl,by first | exact Go.AM.Ole.arr | exact Go.AM.Ole.var rfl | exact Go.AM.Ole.varS rfl⟩,?_⟩))
  (hok:(subset (V.tup [res,res2]).refs (keys hout)&&subset (dU hout) (keys hout)&&distinct (keys hout)&&subset (keys hin) (keys hout)&&(hin.all fun p=>p.2.plain)&&(hout.all fun p=>p.2.plain))=true:=by rfl):(Exit.ret=.normal∨Exit.ret=.ret)∧Fin tr.flat fn st hin (.tup [res,res2]) hout:=
 ⟨.inr rfl,⟨[v,v2],[res,res2],by rw[N];exact .cell ha (Tr.get_ok hw hi) hh hb hv (.tmp hu .nil),.cons hc (.cons J .nil),rfl⟩,O,hok⟩
theorem a4o {tr:Tr}{a t u N:Nat}{i:TI}{id off tv:Nat}{cells:List R}{v v2 v3:V}{ids I J:List Nat}(hw:tr.wf=true) (hr:fn.results.toList=[.cell a t,.tmp u,.tmp N]:=by rfl) (hi:tr.get t=some i:=by rfl) (ha:st.e a=some (.one (.vp id off)):=by rfl) (hh:st.h id=some (.var tv cells):=by rfl) (hb:Nat.ble (off+i.size) cells.length=true:=by rfl) (hv:pQ i ((cells.drop off).take i.size)=some v:=by rfl) (hu:st.e u=some v2:=by rfl) (O:st.e N=some v3:=by rfl)
  (hc:Conv st.h ids v res:=by first | exact .refl | exact .one (.c .nl .nil) | ((first | apply Go.AM.Conv.pa | apply Go.AM.Conv.agg);repeat (first | exact .nil | apply Go.AM.PureL.c .refl | apply Go.AM.PureL.c .nl | (apply Go.AM.PureL.hs;rfl;(first | rfl | assumption | simp);(first | rfl | exact Go.AM.take_all (by first | assumption | rfl | (simp;done)) | exact Go.AM.take_map.symm)))))
  (Y:Conv st.h I v2 res2:=by exact .refl) (Z:Conv st.h J v3 res3:=by exact .refl)
  (ho:fL (fun p=>∃o,st.h p.1=some o∧Ole (fun i=>i) o p.2) hout:=by repeat (first | exact trivial | refine⟨⟨_,rfl,by first | exact Go.AM.Ole.arr | exact Go.AM.Ole.var rfl | exact Go.AM.Ole.varS rfl⟩,?_⟩))
  (hok:(subset (V.tup [res,res2,res3]).refs (keys hout)&&subset (dU hout) (keys hout)&&distinct (keys hout)&&subset (keys hin) (keys hout)&&(hin.all fun p=>p.2.plain)&&(hout.all fun p=>p.2.plain))=true:=by rfl):(Exit.ret=.normal∨Exit.ret=.ret)∧Fin tr.flat fn st hin (.tup [res,res2,res3]) hout:=
 ⟨.inr rfl,⟨[v,v2,v3],[res,res2,res3],by rw[hr];exact .cell ha (Tr.get_ok hw hi) hh hb hv (.tmp hu (.tmp O .nil)),.cons hc (.cons Y (.cons Z .nil)),rfl⟩,ho,hok⟩
theorem a64 {tr:Tr}{a t a2 t2:Nat}{i i2:TI}{id off tv J I O:Nat}{cells u:List R}{v v2:V}{ids N:List Nat}(hw:tr.wf=true) (hr:fn.results.toList=[.cell a t,.cell a2 t2]:=by rfl) (hi:tr.get t=some i:=by rfl) (ha:st.e a=some (.one (.vp id off)):=by rfl) (hh:st.h id=some (.var tv cells):=by rfl) (hb:Nat.ble (off+i.size) cells.length=true:=by rfl) (hv:pQ i ((cells.drop off).take i.size)=some v:=by rfl)
  (Y:tr.get t2=some i2:=by rfl) (Z:st.e a2=some (.one (.vp J I)):=by rfl) (aa:st.h J=some (.var O u):=by rfl) (ab:Nat.ble (I+i2.size) u.length=true:=by rfl) (ac:pQ i2 ((u.drop I).take i2.size)=some v2:=by rfl)
  (hc:Conv st.h ids v res:=by exact .refl) (ad:Conv st.h N v2 res2:=by exact .refl)
  (ho:fL (fun p=>∃o,st.h p.1=some o∧Ole (fun i=>i) o p.2) hout:=by repeat (first | exact trivial | refine⟨⟨_,rfl,by first | exact Go.AM.Ole.arr | exact Go.AM.Ole.var rfl | exact Go.AM.Ole.varS rfl⟩,?_⟩))
  (hok:(subset (V.tup [res,res2]).refs (keys hout)&&subset (dU hout) (keys hout)&&distinct (keys hout)&&subset (keys hin) (keys hout)&&(hin.all fun p=>p.2.plain)&&(hout.all fun p=>p.2.plain))=true:=by rfl):(Exit.ret=.normal∨Exit.ret=.ret)∧Fin tr.flat fn st hin (.tup [res,res2]) hout:=
 ⟨.inr rfl,⟨[v,v2],[res,res2],by rw[hr];exact .cell ha (Tr.get_ok hw hi) hh hb hv (.cell Z (Tr.get_ok hw Y) aa ab ac .nil),.cons hc (.cons ad .nil),rfl⟩,ho,hok⟩
end
end Go.AM
namespace Go.Proofs.YtockgoadliilhaaGreatDoor
open Go Go.AM
set_option maxRecDepth 20000
set_option maxHeartbeats 4000000
structure Fld where
 name:Str
 tag:Int
 many:Int
 arity:Int
 ty:Ty
def aWm (x:Fld):List C:=[.str x.name,.int .i64 x.tag,.int .i64 x.many,.int .i64 x.arity]++bD x.ty
structure Mod where
 fields:List Fld
 binds:List Bind
def jU (m:Mod):List C:=[.sl 8 (m.fields.map aWm),.sl 15 (m.binds.map b8)]
abbrev CE:Type:=Core×Int
def dM (p:CE):V:=.tup [.pa (aB p.1),I .i64 p.2]
def aKi (sh:Bool) (p:CE) (g:Core→Core):CE:=if sh then(zC,51) else if p.2=0 then(g p.1,0) else(zC,p.2)
noncomputable def gH (a:Alt) (c:Core):Option Core:=
 if a.form=3 then some a.body
 else if a.form=2 then(if c.form=3∧c.n=a.n then some a.body else none)
 else match gvC c with
  | some (s,l)=>if s=a.name∧l.length=a.vars.length then some (aAv a.body a.vars l) else none
  | none=>none
def aDw (c:Core) (i:Nat) (r:Core):Core:=match c with | .mk f n s t ks bs al=>.mk f n s t (ks.set i r) bs al
def pT (st:Core→CE) (c:Core) (i:Nat):CE:=match c.kids[i]? with
 | some x=>aKi (shC x) (st x) (aDw c i)
 | none=>(zC,51)
def letB (bs:List Bind) (b:Bind):Core:=.mk 8 0 [] zTy [b.body] bs []
noncomputable def cD (bd:List Bind):Nat→Core→CE
 | 0,_=>(zC,51)
 | k+1,c=>
  let hd:=c.kids.headD zC
  if c.form=1 then(match bd.find? fun b=>decide (b.name=c.name) with | some b=>(b.body,0) | none=>(zC,51))
  else if c.form=4∨c.form=6 then
   (if c.form=4∧hd.form=5 then(dH (m30 (hd.kids.headD zC)) (hd.kids.headD zC) hd.name (c.kids.getD 1 zC),0)
   else if c.form=6∧hd.form=7 then(sTR (m30 (hd.kids.headD zC)) (hd.kids.headD zC) hd.name c.ty,0)
   else pT (cD bd k) c 0)
  else if c.form=8 then(aAv hd (c.binds.map Bind.name) (c.binds.map (letB c.binds)),0)
  else if c.form=9 then(if shC hd then(match c.alts.findSome? fun a=>gH a hd with | some r=>(r,0) | none=>(zC,52)) else pT (cD bd k) c 0)
  else if c.form=10 then
   (if ¬shC hd then pT (cD bd k) c 0
   else if ¬shC (c.kids.getD 1 zC) then pT (cD bd k) c 1
   else if hd.form=3∧(c.kids.getD 1 zC).form=3 then jG c.name hd.n (c.kids.getD 1 zC).n
   else(zC,51))
  else if c.form=11 then(zC,52)
  else(zC,51)
theorem aMo {α:Type}(g:α→List C) (l:List α) (i:Nat) (x:α):(l.map g).set i (g x)=(l.set i x).map g:=by
 induction l generalizing i with
 | nil=>rfl
 | cons y l u=>cases i with
  | zero=>rfl
  | succ i=>show g y::(l.map g).set i (g x)=g y::(l.set i x).map g;rw[u]
theorem a32 (f n:Int) (s:Str) (t:Ty) (ks:List Core) (bs:List Bind) (al:List Alt) (i:Nat) (r:Core) (hi:i<ks.length) (hk:ks.length≤600000000000):
  aU Tryz.prog 128 ([.pa (aB r)]++[R.vp 4 0,R.vp 5 0].map V.one) [(4,.var 37 (aW (.mk f n s t ks bs al))),(5,.var 3 [.c (.int .i64 i)])] (.pa (aB (.mk f n s t (ks.set i r) bs al))) [(4,.var 37 (aW (.mk f n s t (ks.set i r) bs al))),(5,.var 3 [.c (.int .i64 i)])]:=by
 have I:(aO ks).length=ks.length:=by rw[aR,θ]
 have J:=qI (aO ks) (by omega);have u:(aO ks).set i (aB r)=aO (ks.set i r):=by rw[aR,aR,aMo]
 have N:(aO (ks.set i r)).length=ks.length:=by rw[aR,θ,Cq]
 obtain⟨x,hx⟩:=aJ hi;have O:(aO ks)[i]?=some (aB x):=by rw[aR];exact bW aB hx
 refine bQ (n:=15) tok Tryz.func128 rfl rfl rfl ?_;refine sgh [(0,.id 3),(1,.id 6)] rfl (sk 2 rfl (kc J ?_));refine kz 2 rfl (sgh [(5,.row i (aB x))] rfl (AWp.sub (Sub.freeze (id:=702) rfl) ?_));refine AWp.sub (Sub.varPure (x:=4) (cs:=aB (.mk f n s t (ks.set i r) bs al)) rfl (.c .refl (.c .refl (.c .refl (.c .refl (.c .refl (.c .refl (.c .refl (.hs rfl (by rw[Cq]) (by rw[Cc];show aO (ks.set i r)=List.take (aO ks).length ((aO ks).set i (aB r));rw[u,Ba];rw[N,I];exact le_refl _) (.c .refl (.c .refl .nil))))))))))) ?_;exact sg rfl (aE (rtC trw))
def kO (c:Core) (i:Nat):List (Nat×AObj):=[(4,.var 37 (aW c)),(5,.var 3 [.c (.int .i64 i)])]
def aCb (sh:Bool) (p:CE) (c:Core) (i:Nat):Core:=if sh then c else if p.2=0 then aDw c i p.1 else c
theorem aUa (m:Mod) (X:Nat) (c x:Core) (i:Nat) (p:CE) (hi:i<c.kids.length) (hk:c.kids.length≤600000000000) (Z:eJ (QL X) x) (N:aY x≤570000000000) (u:shC x=false→aU Tryz.prog 30 [.pa (jU m),.pa (aB x)] [] (dM p) []):
  aU Tryz.prog 127 [.pa (jU m),.pa (aB x),.one (.clo 128 [.vp 4 0,.vp 5 0])] (kO c i) (dM (aKi (shC x) p (aDw c i))) (kO (aCb (shC x) p c i) i):=by
 have O:=aAd X x Z N;unfold kO;refine bQ (n:=26) tok Tryz.func127 rfl rfl rfl ?_;refine sgh [(0,.id 13),(1,.id 14),(2,.id 16)] rfl (a8 (sk 1 rfl (kc O ?_)));refine az ?_;cases hS:shC x with
 | true=>
  exact aA rfl (fun _=>sg rfl (aE (fM trw))) nofun
 | false=>
  have u:=u hS;refine aA rfl nofun (fun _=>aD (sk 2 rfl (kc u ?_)));refine kz 6 rfl (a8 (sg rfl (aA rfl (fun hb=>?_) (fun hb=>?_))))
  ·have he:¬p.2=0:=by
    intro h;have hb:(!decide (p.2=0))=true:=hb;rw[Ad h] at hb;cases hb
   have I:aKi false p (aDw c i)=(zC,p.2):=by unfold aKi;rw[φ Av,φ he]
   have J:aCb false p c i=c:=by unfold aCb;rw[φ Av,φ he]
   rw[I,J];exact sg rfl (aE (fM trw))
  ·have he:p.2=0:=by
    have hb:(!decide (p.2=0))=false:=hb;by_cases h:p.2=0
    ·exact h
    ·rw[Ae h] at hb;cases hb
   have I:aKi false p (aDw c i)=(aDw c i p.1,0):=by unfold aKi;rw[φ Av,ξ he]
   have J:aCb false p c i=aDw c i p.1:=by unfold aCb;rw[φ Av,ξ he]
   rw[I,J];obtain⟨f,n,s,t,ks,bs,al⟩:=c;have Y:=a32 f n s t ks bs al i p.1 hi hk;refine aD (sk 2 rfl (kv (args:=[.pa (aB p.1)]) Y ?_));exact kz 2 rfl (aE (fM trw))
theorem a6d (m:Mod) (X:Nat) (c x:Core) (i:Nat) (st:Core→CE) (hx:c.kids[i]?=some x) (hk:c.kids.length≤600000000000) (N:eJ (QL X) x) (u:aY x≤570000000000) (J:shC x=false→aU Tryz.prog 30 [.pa (jU m),.pa (aB x)] [] (dM (st x)) []):
  aU Tryz.prog 107 [.pa (jU m),.pa (aB c),I .i64 i] [] (dM (pT st c i)) []:=by
 have hi:i<c.kids.length:=(Aa.1 hx).1
 have hw:=aUa m X c x i (st x) hi hk N u J;have O:(aO c.kids)[i]?=some (aB x):=by rw[aR];exact bW aB hx
 have he:pT st c i=aKi (shC x) (st x) (aDw c i):=by unfold pT;rw[hx]
 rw[he];obtain⟨f,n,s,t,ks,bs,al⟩:=c;unfold kO at hw;refine bQ (n:=18) tok Tryz.func107 rfl rfl rfl ?_;refine sg rfl (skh 7 [(4,.row i (aB x))] rfl (kc hw ?_));exact kz 4 rfl (aE (fM trw))
mutual
def rgv:Core→Str×List Core×Bool
 | .mk f _ s _ ks _ _=>if f=2 then(s,[],true) else if f=6 then aAu ks else if f=4 then((aAu ks).1,(aAu ks).2.1++(ks.drop 1).take 1,(aAu ks).2.2) else([],[],false)
def aAu:List Core→Str×List Core×Bool
 | []=>([],[],false)
 | c::_=>rgv c
end
mutual
theorem aMu {X:Nat}:∀c:Core,eJ (QL X) c→gvC c=if(rgv c).2.2 then some ((rgv c).1,(rgv c).2.1) else none
 | .mk f n s t ks bs al,h=>by
  rw[rgv,gvC];have hk:=(bB.1 h).2.1
  by_cases h2:f=2
  ·rw[ξ h2,ξ h2];rfl
  rw[φ h2,φ h2];by_cases h4:f=4
  ·subst h4;obtain⟨⟨a,b,rfl⟩,_,_⟩:=jP h (.inl rfl);show Option.map (fun p=>(p.1,p.2++[b])) (gvH [a,b])=if(aAu [a,b]).2.2 then some ((aAu [a,b]).1,(aAu [a,b]).2.1++[b]) else none
   rw[aMv [a,b] hk];cases (aAu [a,b]).2.2<;>rfl
  ·rw[φ h4];by_cases h6:f=6
   ·rw[ξ h6,ξ h6,aMv ks hk]
   ·rw[φ h6,φ h6,φ h4];rfl
theorem aMv {X:Nat}:∀l:List Core,(∀x∈l,eJ (QL X) x)→gvH l=if(aAu l).2.2 then some ((aAu l).1,(aAu l).2.1) else none
 | [],_=>by rw[gvH,aAu];rfl
 | c::l,h=>by rw[gvH,aAu,aMu c (h c ζ)]
end
mutual
theorem aEq {X:Nat}:∀c:Core,eJ (QL X) c→(rgv c).2.1.length≤aY c
 | .mk f n s t ks bs al,h=>by
  rw[rgv,aY];have hk:=aSm ks (bB.1 h).2.1;split
  ·exact Ag _
  ·split
   ·omega
   ·split
    ·dsimp only;rw[κ,Ar];omega
    ·exact Ag _
theorem aSm {X:Nat}:∀l:List Core,(∀x∈l,eJ (QL X) x)→(aAu l).2.1.length≤bM l
 | [],_=>by rw[aAu];exact Ag _
 | c::l,h=>by rw[aAu,bM];have:=aEq c (h c ζ);omega
end
def gV (p:Str×List Core×Bool):V:=.tup [Go.AM.T p.1,.one (.hs 900 0 p.2.1.length p.2.1.length),B p.2.2]
def gO (l:List Core):AObj:=.arr 37 10 (l.map aB) 1
theorem aC2 {X:Nat}:∀(k:Nat) (c:Core),aY c≤k→eJ (QL X) c→aY c≤500000000000→aU Tryz.prog 80 [.pa (aB c)] [] (gV (rgv c)) [(900,gO (rgv c).2.1)]:=by
 intro k
 induction k with
 | zero=>intro c h;have:=dX c;omega
 | succ k Z=>
 intro c h O I;obtain⟨f,n,s,t,ks,bs,al⟩:=c;have J:=bB.1 O;rw[rgv];refine bQ (n:=51) tok Tryz.func80 rfl rfl rfl ?_;refine sg rfl (a8 (sg rfl (aC (sg rfl (aA rfl (fun hb=>?_) (fun hb=>?_))))))
 ·have h2:f=2:=ψ hb;rw[ξ h2];refine sg rfl (AWp.sub (Sub.own (t:=3) (id:=900) 37 10 rfl rfl) ?_);exact aE ⟨.inr rfl,⟨_,_,.tmp rfl (.tmp rfl (.tmp rfl .nil)),.cons .refl (.cons .refl (.cons .refl .nil)),rfl⟩,⟨⟨_,rfl,.arr1⟩,trivial⟩,rfl⟩
 have h2:¬f=2:=χ hb;rw[φ h2];refine sg rfl (aA rfl (fun hb=>?_) (fun hb=>?_))
 ·have h6:f=6:=ψ hb;rw[ξ h6];obtain⟨⟨a,rfl⟩,rfl,rfl⟩:=dR O (.inr (.inl h6));rw[aY,bM] at h I;have Y:=Z a (by omega) (J.2.1 a ζ) (by omega);rw[aAu];generalize rgv a=r at *;refine skh 4 [(2,.row 0 (aB a))] rfl (kc Y ?_);exact kz 7 rfl (sg rfl (aE ⟨.inr rfl,⟨_,_,.tmp rfl (.tmp rfl (.tmp rfl .nil)),.cons .refl (.cons .refl (.cons .refl .nil)),rfl⟩,⟨⟨_,rfl,.arr1⟩,trivial⟩,rfl⟩))
 have h6:¬f=6:=χ hb;rw[φ h6];refine sg rfl (aA rfl (fun hb=>?_) (fun hb=>?_))
 ·have h4:f=4:=ψ hb;rw[ξ h4];obtain⟨⟨a,b,rfl⟩,rfl,rfl⟩:=jP O (.inl h4);rw[aY,bM,bM] at h I;have N:=J.2.1 a ζ;have Y:=Z a (by omega) N (by omega);have hl:=aEq a N;rw[aAu];show AWp _ _ _ _ _ _ _;generalize rgv a=r at *;obtain⟨r1,u,r3⟩:=r;have aa:(u.map aB).length=u.length:=θ _;have hl:u.length≤aY a:=hl;refine skh 4 [(2,.row 0 (aB a))] rfl (kc Y ?_);exact kz 7 rfl (sgh [(4,.row 1 (aB b)),(6,.all)] rfl (aE ⟨.inr rfl,⟨_,_,.tmp rfl (.tmp rfl (.tmp rfl .nil)),.cons .refl (.cons .refl (.cons .refl .nil)),by simp[aLu,gV]⟩,⟨⟨_,rfl,by show Ole _ (.arr _ _ (u.map aB++[aB b]) _) (.arr _ _ ((u++[b]).map aB) 1);rw[At];exact .arr1⟩,trivial⟩,rfl⟩))
 have h4:¬f=4:=χ hb;rw[φ h4];refine aD (sg rfl (AWp.sub (Sub.own (t:=3) (id:=900) 37 10 rfl rfl) ?_));exact aE ⟨.inr rfl,⟨_,_,.tmp rfl (.tmp rfl (.tmp rfl .nil)),.cons .refl (.cons .refl (.cons .refl .nil)),rfl⟩,⟨⟨_,rfl,.arr1⟩,trivial⟩,rfl⟩
theorem aC1 {X:Nat}(c:Core) (J:eJ (QL X) c) (N:aY c≤500000000000):aU Tryz.prog 32 [.pa (aB c)] [] (B (shC c)) []:=by
 have Y:=aC2 (aY c) c (le_refl _) J N;have u:=aMu c J;have I:shC c=(bif (bif (bif (rgv c).2.2 then true else decide (c.form=5)) then true else decide (c.form=7)) then true else decide (c.form=3)):=by
  unfold shC;rw[u];cases (rgv c).2.2<;>cases decide (c.form=5)<;>cases decide (c.form=7)<;>cases decide (c.form=3)<;>rfl
 rw[I];generalize rgv c=r at *;obtain⟨r1,r2,O⟩:=r;clear u I;obtain⟨f,n,s,t,ks,bs,al⟩:=c;refine bQ (n:=28) tok Tryz.func32 rfl rfl rfl ?_;refine sg rfl (sk 1 rfl (kc Y ?_));refine kz 7 rfl (a8 (agF 2 [] rfl rfl rfl (AWp.sub (st2:=mk [(2,B (bif (bif (bif O then true else decide ((Core.mk f n s t ks bs al).form=5)) then true else decide ((Core.mk f n s t ks bs al).form=7)) then true else decide ((Core.mk f n s t ks bs al).form=3)))] []) (.list (fun i=>i) ⟨?_,trivial⟩ trivial rfl) ?_)))
 ·show some (V.one (R.c (C.bool _)))=some (V.one (R.c (C.bool _)));generalize decide ((Core.mk f n s t ks bs al).form=5)=Z;generalize decide ((Core.mk f n s t ks bs al).form=7)=b7;generalize decide ((Core.mk f n s t ks bs al).form=3)=b3;cases O<;>cases Z<;>cases b7<;>cases b3<;>rfl
 exact aE rtT
theorem aCp (b:Bool):aU Tryz.prog 124 [B b] [] (.pa (aB (aK5 b))) []:=by
 refine bQ (n:=6) tok Tryz.func124 rfl rfl rfl ?_;refine sg rfl (a8 (sg rfl ?_));cases b with
 | true=>
  exact aA rfl (fun _=>sg rfl (aE (rtC trw))) nofun
 | false=>
  exact aA rfl nofun (fun _=>aD (sg rfl (aE (rtC trw))))
end Go.Proofs.YtockgoadliilhaaGreatDoor
namespace Go.Proofs.YtockgoadliilhaaGreatDoor
open Go Go.AM Go.Shelf
set_option maxRecDepth 100000
def ir:Ren:=⟨fun f=>if f=129 then 154 else if f=171 then 129 else if f=243 then 145 else if f=246 then 148 else if f=283 then 149 else if f=284 then 150 else if f=285 then 151 else if f=286 then 152 else if f=317 then 153 else if f=318 then 155 else if f=319 then 156 else if f=320 then 157 else if f=337 then 158 else if f=338 then 159 else f,fun t=>if t=0 then 0 else if t=2 then 2 else if t=3 then 3 else if t=4 then 4 else if t=5 then 5 else if t=9 then 9 else if t=20 then 20 else if t=37 then 136 else if t=46 then 182 else if t=51 then 179 else if t=53 then 172 else if t=171 then 171 else if t=173 then 175 else if t=212 then 178 else if t=213 then 180 else if t=232 then 185 else if t=233 then 186 else t,fun g=>if g=17 then 0 else if g=18 then 1 else if g=19 then 2 else g⟩
theorem il:LaysM.n171 Tryz.prog ir where
 mixed:=mixed
 f129:=by kernel_rfl
 f171:=by kernel_rfl
 f243:=by kernel_rfl
 f246:=by kernel_rfl
 f283:=by kernel_rfl
 f284:=by kernel_rfl
 f285:=by kernel_rfl
 f286:=by kernel_rfl
 f317:=by kernel_rfl
 f318:=by kernel_rfl
 f319:=by kernel_rfl
 f320:=by kernel_rfl
 f337:=by kernel_rfl
 f338:=by kernel_rfl
 t0:=by kernel_rfl
 a0:=fun w=>by kernel_rfl
 z0:=fun w=>by kernel_rfl
 v0:=fun w=>by kernel_rfl
 t2:=by kernel_rfl
 a2:=fun w=>by kernel_rfl
 z2:=fun w=>by kernel_rfl
 v2:=fun w=>by kernel_rfl
 t3:=by kernel_rfl
 a3:=fun w=>by kernel_rfl
 z3:=fun w=>by kernel_rfl
 v3:=fun w=>by kernel_rfl
 t4:=by kernel_rfl
 a4:=fun w=>by kernel_rfl
 z4:=fun w=>by kernel_rfl
 v4:=fun w=>by kernel_rfl
 t5:=by kernel_rfl
 a5:=fun w=>by kernel_rfl
 z5:=fun w=>by kernel_rfl
 v5:=fun w=>by kernel_rfl
 t9:=by kernel_rfl
 a9:=fun w=>by kernel_rfl
 z9:=fun w=>by kernel_rfl
 v9:=fun w=>by kernel_rfl
 t20:=by kernel_rfl
 a20:=fun w=>by kernel_rfl
 z20:=fun w=>by kernel_rfl
 v20:=fun w=>by kernel_rfl
 t37:=by kernel_rfl
 a37:=fun w=>by kernel_rfl
 z37:=fun w=>by kernel_rfl
 v37:=fun w=>by kernel_rfl
 t46:=by kernel_rfl
 a46:=fun w=>by kernel_rfl
 z46:=fun w=>by kernel_rfl
 v46:=fun w=>by kernel_rfl
 t51:=by kernel_rfl
 a51:=fun w=>by kernel_rfl
 z51:=fun w=>by kernel_rfl
 v51:=fun w=>by kernel_rfl
 t53:=by kernel_rfl
 a53:=fun w=>by kernel_rfl
 z53:=fun w=>by kernel_rfl
 v53:=fun w=>by kernel_rfl
 t171:=by kernel_rfl
 a171:=fun w=>by kernel_rfl
 z171:=fun w=>by kernel_rfl
 v171:=fun w=>by kernel_rfl
 t173:=by kernel_rfl
 a173:=fun w=>by kernel_rfl
 z173:=fun w=>by kernel_rfl
 v173:=fun w=>by kernel_rfl
 t212:=by kernel_rfl
 a212:=fun w=>by kernel_rfl
 z212:=fun w=>by kernel_rfl
 v212:=fun w=>by kernel_rfl
 t213:=by kernel_rfl
 a213:=fun w=>by kernel_rfl
 z213:=fun w=>by kernel_rfl
 t232:=by kernel_rfl
 a232:=fun w=>by kernel_rfl
 z232:=fun w=>by kernel_rfl
 v232:=fun w=>by kernel_rfl
 t233:=by kernel_rfl
 a233:=fun w=>by kernel_rfl
 z233:=fun w=>by kernel_rfl
 v233:=fun w=>by kernel_rfl
 g17:=by kernel_rfl
 g18:=by kernel_rfl
 g19:=by kernel_rfl
 i0:=by kernel_rfl
 i2:=by kernel_rfl
 i3:=by kernel_rfl
 i4:=by kernel_rfl
 i5:=by kernel_rfl
 i9:=by kernel_rfl
 i20:=by kernel_rfl
 i37:=by kernel_rfl
 i46:=by kernel_rfl
 i51:=by kernel_rfl
 i53:=by kernel_rfl
 i171:=by kernel_rfl
 i173:=by kernel_rfl
 i212:=by kernel_rfl
 i232:=by kernel_rfl
 i233:=by kernel_rfl
 m17:=by kernel_rfl
 m18:=by kernel_rfl
 m19:=by kernel_rfl
end Go.Proofs.YtockgoadliilhaaGreatDoor
namespace Go.AM
open Go
theorem Inv.grown {G:Ctx}{S:Sto}{μ:Mu}{H:dC}{w:World}(h:Inv G S μ H w) (k:Nat) (os:Array Obj):Inv G S μ H (Sort.grow (w.drewN k) os):=by
 have hold:∀b:Nat,b<w.heap.size→(Sort.grow (w.drewN k) os).heap[b]?=w.heap[b]?:=fun b hb=>by
  show(w.heap++os)[b]?=w.heap[b]?;exact Array.getElem?_append_left hb
 have u:w.heap.size≤(Sort.grow (w.drewN k) os).heap.size:=by
  show w.heap.size≤(w.heap++os).size;rw[Array.size_append];omega
 obtain⟨h1,h2,h3,h4,h5,h6,h7,I,J⟩:=h;refine⟨⟨fun b o v e=>?_,fun b mk e=>?_⟩,fun id o e=>(h2 id o e).evolve (Evolve.refl _ _ _) rfl fun b c hm=>⟨hold b ((h2 id o e).lt hm),fun _=>rfl,rfl⟩,h3,h4,?_,h6,h7,I,J⟩
 ·obtain⟨vs,t,fr,g1,g2⟩:=h1.1 b o v e;exact⟨vs,t,fr,by rw[hold b (eZ g1)];exact g1,g2⟩
 ·have g:=h1.2 b mk e;obtain⟨_,g2⟩:=MK.holds_some g;rw[hold b (eZ g2)];exact g
 ·obtain⟨f1,f2,f3,f4,f5,f6⟩:=h5;exact⟨f1,f2,f3,le_trans f4 u,fun b hb N=>by rw[hold b (lt_of_lt_of_le hb f4)];exact f5 b hb N,f6⟩
end Go.AM
namespace Go.Proofs.YtockgoadliilhaaGreatDoor
open Go Go.AM
set_option maxRecDepth 20000
theorem aQo (k:Nat) (h:k<1000000000000000000):aU Tryz.prog 129 [I .i64 (k:Int)] [] (Go.AM.T (Lib.decDigits k)) []:=by
 intro S μ w vals J hv;simp only [c6, bE, bL, Rep] at hv;obtain ⟨v1, N, rfl, rfl, rfl⟩ := hv;have u : Lib.TabIs Tryz.prog w "internal/strconv.uint64pow10" .u64 Lib.pow10Tab := by
  obtain ⟨h1, t, fr, h2⟩ := J.frame.tabAt 0 rfl;unfold Lib.TabIs World.var?;rw [show Tryz.prog.globalNamed "internal/strconv.uint64pow10" = some 0 by kernel_rfl];simp only [Cp, h2];rfl
 refine Calls.mono (Any.strconv_Itoa il (k:Int) (by omega) (by omega) w u) ?_;rintro e w' ⟨rfl,j,os,rfl⟩;refine⟨S,μ,_,rfl,J.grown j os,?_⟩;rw[Lib.itoa_nonneg];simp only[bE,bL,Rep]
end Go.Proofs.YtockgoadliilhaaGreatDoor
namespace Go.Proofs.YtockgoadliilhaaGreatDoor
open Go Go.AM
set_option maxRecDepth 20000
set_option maxHeartbeats 4000000
theorem a1d (hI:dJ 540000000000) {D M X:Nat}(ad:M+D≤700000):∀(k:Nat) (c:Core),m30 c≤k→CG D M X c→∀(name:Str) (u:Ty),UOk u→∀x∈tyR (sTR k c name u),(x∈tyR c∧¬x=name)∨x∈tfR u:=by
 intro k
 induction k with
 | zero=>intro c h;have:=dD c;omega
 | succ k Z=>
 intro c h hc name u hu x hx;obtain⟨f,n,nm,t,ks,bs,al⟩:=c;obtain⟨ht0,ht1,htb⟩:=hc.ty;have hq:=hc.q;obtain⟨q1,q2,q3,q4⟩:=bB.1 hq;have ae:tfR zTy=[]:=rfl;have aa:∀v,wfS v=true→∀x∈tfR (iD v [(name,u)]),(x∈tfR v∧¬x=name)∨x∈tfR u:=fun v h1 x hx=>by
  rcases aLw (tn v) v (le_refl _) h1 _ x hx with h | ⟨p,hp,_,h⟩
  ·exact .inl ⟨h.1,fun e=>h.2 (by rw[e];exact ε.2 rfl)⟩
  ·rw[ε.1 hp] at h;exact .inr h
 rw[sTR] at hx;by_cases h7:f=7
 ·subst h7;obtain⟨⟨kid,rfl⟩,rfl,rfl⟩:=dR hq (.inr (.inr rfl));obtain⟨g1,g2,g3⟩:=hc.kid (x:=kid) ζ;rw[ξ rfl] at g2;obtain rfl:t=zTy:=(q1.2.1 rfl).1
  by_cases hs:nm=name∨¬name∈tyR (.mk 7 n nm zTy [kid] [] [])
  ·rw[ξ ⟨rfl,hs⟩] at hx;refine .inl ⟨hx,fun e=>?_⟩;rw[e] at hx;rcases hs with rfl | hs
   ·rcases bU.1 hx with h | ⟨x,_,_,h | h⟩ | ⟨b,hb,_⟩ | ⟨a,ha,_⟩
    ·rw[ae] at h;cases h
    ·exact h rfl
    ·exact h rfl
    ·cases hb
    ·cases ha
   ·exact hs hx
  rw[φ fun e=>hs e.2] at hx;have ab:∀(nm1:Str) (J:Core),m30 J≤k→CG D M X J→(∀y∈tyR J,¬y=nm1→y∈tyR kid∧(y=nm→y∈tfR u))→x∈tyR (gE (fun t=>iD t [(name,u)]) (fun x=>sTR k x name u) (.mk 7 n nm1 zTy [J] [] []))→(x∈tyR (.mk 7 n nm zTy [kid] [] [])∧¬x=name)∨x∈tfR u:=fun nm1 J hk1 hc1 O hx=>by
   rw[gE] at hx;rcases bU.1 hx with h | ⟨y,hym,h,Y⟩ | ⟨b,hb,_⟩ | ⟨a,ha,_⟩
   ·rw[tJ,ae] at h;cases h
   ·obtain⟨N,I,rfl⟩:=Af.1 hym;rw[ε.1 I] at h;have Y:¬x=nm1:=Y.resolve_left (fun e=>e rfl);rcases Z J hk1 hc1 name u hu x h with⟨h,hn⟩ | h
    ·obtain⟨h1,h2⟩:=O x h Y;by_cases e:x=nm
     ·exact .inr (h2 e)
     ·exact .inl ⟨bU.2 (.inr (.inl ⟨kid,ζ,h1,.inr e⟩)),hn⟩
    ·exact .inr h
   ·cases hb
   ·cases ha
  by_cases ag:nm∈tfR u
  ·rw[ξ ⟨rfl,ag⟩,Am,Bo] at hx;generalize bA (tfR u++[kid].flatMap tyR)=z at hx;have hS1:=vW hI ad k kid (by omega) g1 nm (vT z) (UOk.var z);refine ab z _ (le_trans hS1.sz (by omega)) (aRz hI ad g1 g2 k (by omega) nm z) (fun y O ac=>?_) hx;rcases Z kid (by omega) g1 nm (vT z) (UOk.var z) y O with⟨h1,h2⟩ | h1
   ·exact⟨h1,fun e=>absurd e h2⟩
   ·rw[aA7] at h1;exact absurd (ε.1 h1) ac
  ·rw[φ fun e=>ag e.2] at hx;exact ab nm kid (by omega) g1 (fun y O ac=>⟨O,fun e=>absurd e ac⟩) hx
 ·rw[φ fun e=>h7 e.1,φ fun e=>h7 e.1,gE] at hx;rcases bU.1 hx with h | ⟨y,O,h,_⟩ | ⟨y,O,h⟩ | ⟨y,O,h⟩
  ·exact(aa t ht0 x h).imp (fun h=>⟨bU.2 (.inl h.1),h.2⟩) id
  ·obtain⟨N,I,rfl⟩:=Af.1 O;exact(Z N (by have:=(hc.kid I).2.2;omega) (hc.kid I).1 name u hu x h).imp (fun h=>⟨bU.2 (.inr (.inl ⟨N,I,h.1,.inl h7⟩)),h.2⟩) id
  ·obtain⟨N,I,rfl⟩:=Af.1 O;rcases h with h | h
   ·exact(aa N.ty (htb N I).1 x h).imp (fun h=>⟨bU.2 (.inr (.inr (.inl ⟨N,I,.inl h.1⟩))),h.2⟩) id
   ·exact(Z N.body (by have:=(hc.bind I).2;omega) (hc.bind I).1 name u hu x h).imp (fun h=>⟨bU.2 (.inr (.inr (.inl ⟨N,I,.inr h.1⟩))),h.2⟩) id
  ·obtain⟨N,I,rfl⟩:=Af.1 O;exact(Z N.body (by have:=(hc.alt I).2;omega) (hc.alt I).1 name u hu x h).imp (fun h=>⟨bU.2 (.inr (.inr (.inr ⟨N,I,h.1⟩))),h.2⟩) id
theorem sP {α:Type}{g:α→α}:∀{l:List α},(∀x∈l,g x=x)→l.map g=l
 | [],_=>rfl
 | x::l,h=>by rw[Am,h x ζ,sP fun y u=>h y (ω _ u)]
theorem a1e {X:Nat}:∀(k:Nat) (c:Core),m30 c≤k→eJ (QL X) c→¬([]:Str)∈tyR c→sTR k c [] zTy=c:=by
 intro k
 induction k with
 | zero=>intro c h;have:=dD c;omega
 | succ k u=>
 intro c h J hn;obtain⟨f,n,nm,t,ks,bs,al⟩:=c;obtain⟨⟨_,_,N,O,_⟩,Y,Z,q4⟩:=bB.1 J;rw[m30] at h;rw[sTR];by_cases h7:f=7
 ·rw[ξ ⟨h7,.inr hn⟩]
 ·have ts:∀v,wfS v=true→¬([]:Str)∈tfR v→iD v [([],zTy)]=v:=fun v hv I=>aD3 (tn v) v (le_refl _) hv _ fun p hp h=>by rw[ε.1 hp] at h;exact I h
  rw[φ (fun e=>h7 e.1),φ (fun e=>h7 e.1),gE,ts t N (fun e=>hn (bU.2 (.inl e)))];rw[sP (l:=ks) fun x hx=>u x (by have:=fX hx;omega) (Y x hx) fun e=>hn (bU.2 (.inr (.inl ⟨x,hx,e,.inl h7⟩)))]
  rw[sP (l:=bs) fun x hx=>by
   rw[ts x.ty (O (bhd x) (Af.2 ⟨x,hx,rfl⟩)) fun e=>hn (bU.2 (.inr (.inr (.inl ⟨x,hx,.inl e⟩)))),u x.body (by have:=nY hx;omega) (Z x hx) fun e=>hn (bU.2 (.inr (.inr (.inl ⟨x,hx,.inr e⟩))))]
   cases x;rfl]
  rw[sP (l:=al) fun x hx=>by
   rw[u x.body (by have:=fE hx;omega) (q4 x hx) fun e=>hn (bU.2 (.inr (.inr (.inr ⟨x,hx,e⟩))))]
   cases x;rfl]
theorem dK:fH.k=0:=by unfold Alg.k zTy;rw[tW,φ (by decide),φ (by decide),tWs];rfl
theorem dZ:tW fH zTy r0=0:=dK
structure ST (n:Nat) (U:List Str) (c:Core):Prop where
 q:eJ (QL 403) c
 cw:∀E,n*3≤E→cw fH E c r0≤3+E
 ty:∀x∈tyR c,x∈U
 tl:tlC c≤6000
 sz:m30 c≤3500000
structure SR (n:Nat) (U:List Str) (s:Nat) (c:Core):Prop where
 q:eJ (QL 403) c
 cw:∀E,n*3≤E→cw fH E c r0≤3+E
 ty:∀x∈tyR c,x∈U
 tl:tlC c≤84000
 sz:60*m30 c≤210000000+s*s+120*s
theorem ST.mono {n m:Nat}{U:List Str}{c:Core}(h:ST n U c) (hm:n≤m):ST m U c:=⟨h.q,fun E u=>h.cw E (by omega),h.ty,h.tl,h.sz⟩
theorem ST.cg {n:Nat}{U:List Str}{c:Core}(h:ST n U c) (hn:n≤100) (u:U.length≤480000):CG 400 650000 403 c:=by
 refine⟨h.q,?_,?_,le_trans h.sz (by decide)⟩
 ·have:=h.cw (n*3) (le_refl _);have:=lI (A:=fH) (E:=0) (E':=n*3) (Ag _) (c:=c) (ρ:=r0) (ρ':=r0) (fun _=>le_refl _);omega
 ·have:=dL h.ty;have:=h.tl;omega
theorem ar0 {s:Nat}(h:s≤3500000):s*s≤12250000000000:=le_trans (mul_le_mul h h) (by decide)
theorem SR.big {n s:Nat}{U:List Str}{c:Core}(h:SR n U s c) (hs:s≤3500000):m30 c≤Big:=by
 have:=ar0 hs;have:=h.sz;have:Big=250000000000:=rfl;omega
theorem SR.cg {n s:Nat}{U:List Str}{c:Core}(h:SR n U s c) (hn:n≤100) (hs:s≤3500000) (u:U.length≤480000):CG 400 650000 403 c:=by
 refine⟨h.q,?_,?_,h.big hs⟩
 ·have:=h.cw (n*3) (le_refl _);have:=lI (A:=fH) (E:=0) (E':=n*3) (Ag _) (c:=c) (ρ:=r0) (ρ':=r0) (fun _=>le_refl _);omega
 ·have:=dL h.ty;have:=h.tl;omega
section
variable {n:Nat}{U:List Str}{f i:Int}{s:Str}{t:Ty}{ks:List Core}{bs:List Bind}{al:List Alt}
theorem ST.kid (h:ST n U (.mk f i s t ks bs al)) (h7:¬f=7) {x:Core}(hx:x∈ks):ST n U x:=by
 refine⟨(bB.1 h.q).2.1 x hx,fun E u=>?_,fun y I=>h.ty y (bU.2 (.inr (.inl ⟨x,hx,I,.inl h7⟩))),?_,?_⟩
 ·have:=(dT.1 (h.cw E u)).2.2.1 x hx;rwa [φ h7] at this
 ·have:=(oH (f:=f) (n:=i) (s:=s) (t:=t) (ks:=ks) (bs:=bs) (al:=al)).1 x hx;have:=h.tl;omega
 ·have:=fX hx;have:=h.sz;rw[m30] at this;omega
theorem ST.tkid (h:ST n U (.mk 7 i s t ks bs al)) {x:Core}(hx:x∈ks):ST n (s::U) x∧tlC x+1≤tlC (.mk 7 i s t ks bs al)∧m30 x<m30 (.mk 7 i s t ks bs al):=by
 have h1:=(oH (f:=7) (n:=i) (s:=s) (t:=t) (ks:=ks) (bs:=bs) (al:=al)).1 x hx;rw[ξ rfl] at h1;have h2:=fX hx;have h3:=h.tl;have h4:=h.sz;refine⟨⟨(bB.1 h.q).2.1 x hx,fun E u=>?_,fun y I=>?_,by omega,?_⟩,h1,?_⟩
 ·have:=(dT.1 (h.cw E u)).2.2.1 x hx;rw[ξ rfl] at this;exact le_trans (lI (le_refl _) fun y=>Ag _) this
 ·by_cases e:y=s
  ·rw[e];exact ζ
  ·exact ω _ (h.ty y (bU.2 (.inr (.inl ⟨x,hx,I,.inr e⟩))))
 ·rw[m30] at h4;omega
 ·rw[m30];omega
theorem ST.bind (h:ST n U (.mk f i s t ks bs al)) {x:Bind}(hx:x∈bs):ST n U x.body:=by
 refine⟨(bB.1 h.q).2.2.1 x hx,fun E u=>((dT.1 (h.cw E u)).2.2.2.1 x hx).2,fun y I=>h.ty y (bU.2 (.inr (.inr (.inl ⟨x,hx,.inr I⟩)))),?_,?_⟩
 ·have:=(oH (f:=f) (n:=i) (s:=s) (t:=t) (ks:=ks) (bs:=bs) (al:=al)).2.1 x hx;have:=h.tl;omega
 ·have:=nY hx;have:=h.sz;rw[m30] at this;omega
theorem ST.alt (h:ST n U (.mk f i s t ks bs al)) {x:Alt}(hx:x∈al):ST n U x.body:=by
 refine⟨(bB.1 h.q).2.2.2 x hx,fun E u=>(dT.1 (h.cw E u)).2.2.2.2 x hx,fun y I=>h.ty y (bU.2 (.inr (.inr (.inr ⟨x,hx,I⟩)))),?_,?_⟩
 ·have:=(oH (f:=f) (n:=i) (s:=s) (t:=t) (ks:=ks) (bs:=bs) (al:=al)).2.2 x hx;have:=h.tl;omega
 ·have:=fE hx;have:=h.sz;rw[m30] at this;omega
theorem aFr (hf:okF f 0 0 0=true) (h7:¬f=7) (h5:¬f=5) (hs:s.length≤30):eJ (QL 403) (.mk f i s zTy [] [] []):=by
 have hw:w30 s=30:=by unfold w30;omega
 exact bB.2 ⟨⟨hf,fun h=>absurd h h7,rfl,by simp,by unfold lw;rw[hw];decide,fun h=>absurd h h5,by simp,by simp⟩,by simp,by simp,by simp⟩
theorem aFq {w:Nat}(hf:okF f 0 0 0=true) (h7:¬f=7) (h5:¬f=5) (hs:s.length≤30):SR n U w (.mk f i s zTy [] [] []):=by
 have hw:w30 s=30:=by unfold w30;omega
 refine⟨aFr hf h7 h5 hs,fun E I=>dT.2 ⟨by rw[dK];omega,by rw[dZ];omega,by simp,by simp,by simp⟩,fun y u=>?_,?_,?_⟩
 ·rcases bU.1 u with h | ⟨x,hx,_⟩ | ⟨x,hx,_⟩ | ⟨x,hx,_⟩
  ·cases h
  ·cases hx
  ·cases hx
  ·cases hx
 ·rw[tlC,jW,qL,pA,φ h7];omega
 ·rw[m30,dA,fT,gY,hw];omega
end
theorem ST.sr {n w:Nat}{U:List Str}{c:Core}(h:ST n U c):SR n U w c:=⟨h.q,h.cw,h.ty,by have:=h.tl;omega,by have:=h.sz;omega⟩
theorem a5r {n:Nat}{U:List Str}:∀(k:Nat) (c:Core),m30 c≤k→ST n U c→∀(s:Str) (l:List Core),gvC c=some (s,l)→(∀x∈l,ST n U x)∧(l.map m30).sum≤m30 c:=by
 intro k
 induction k with
 | zero=>intro c h;have:=dD c;omega
 | succ k J=>
 intro c h hc s l u;obtain⟨f,i,nm,t,ks,bs,al⟩:=c;rw[gvC] at u;by_cases h2:f=2
 ·rw[ξ h2] at u;cases u;exact⟨by simp,by simp⟩
 rw[φ h2] at u;by_cases h4:f=4
 ·rw[ξ h4] at u;obtain⟨⟨a,b,rfl⟩,rfl,rfl⟩:=jP hc.q (.inl h4);have ha:=hc.kid (by omega) (x:=a) ζ;have hb:=hc.kid (by omega) (x:=b) (ω _ ζ);rw[m30,dA,dA,dA] at h ⊢;rw[gvH] at u;cases I:gvC a with
  | none=>rw[I] at u;cases u
  | some p=>
   rw[I] at u;obtain⟨s1,N⟩:=p;obtain⟨g1,g2⟩:=J a (by omega) ha s1 N I;have u:=Option.some.inj u;have e:l=N++[b]:=(congrArg Prod.snd u).symm;rw[e];refine⟨fun x hx=>?_,?_⟩
   ·rcases τ.1 hx with hx | hx
    ·exact g1 x hx
    ·rw[ε.1 hx];exact hb
   ·rw[At,List.sum_append];simp only[Am,Bo,Bt,sum_nil];omega
 rw[φ h4] at u;by_cases h6:f=6
 ·rw[ξ h6] at u;obtain⟨⟨a,rfl⟩,rfl,rfl⟩:=dR hc.q (.inr (.inl h6));have ha:=hc.kid (by omega) (x:=a) ζ;rw[m30,dA,dA] at h ⊢;rw[gvH] at u;obtain⟨g1,g2⟩:=J a (by omega) ha s l u;exact⟨g1,by omega⟩
 ·rw[φ h6] at u;cases u
theorem a1c {a b s:Nat}(h:a+b≤s):a*a+2*(a*b)+b*b≤s*s:=by
 have h1:=mul_le_mul h h;have h2:(a+b)*(a+b)=a*a+2*(a*b)+b*b:=by rw[A1,Cg,Cg,mul_comm b a];omega
 omega
theorem a7c (a b:Nat):2*(a*b)≤a*a+b*b:=by
 rcases Nat.le_total a b with h | h
 ·obtain⟨d,rfl⟩:=Nat.exists_eq_add_of_le h;have u:a*(a+d)=a*a+a*d:=Cg ..;have I:(a+d)*(a+d)=a*a+a*d+(a*d+d*d):=by rw[A1,Cg,Cg,mul_comm d a]
  omega
 ·obtain⟨d,rfl⟩:=Nat.exists_eq_add_of_le h;have u:(b+d)*b=b*b+b*d:=by rw[A1,mul_comm d b]
  have I:(b+d)*(b+d)=b*b+b*d+(b*d+d*d):=by rw[A1,Cg,Cg,mul_comm d b]
  omega
theorem ar1 {a b s:Nat}(h:a+b≤s):60*(a*(b/31+1))≤s*s+120*s:=by
 have h1:=a1c h;have h2:a*(60*(b/31+1))≤a*(2*b+60):=C4 _ (by omega);have u:a*(60*(b/31+1))=60*(a*(b/31+1)):=by rw[mul_left_comm]
 have I:a*(2*b+60)=2*(a*b)+a*60:=by rw[Cg,mul_left_comm]
 omega
theorem ar2 {a b s:Nat}(h:a+b≤s):60*(a*(b/15+2))≤s*s+120*s:=by
 have h1:=a1c h;have h3:=a7c a b;have h2:a*(60*(b/15+2))≤a*(4*b+120):=C4 _ (by omega);have u:a*(60*(b/15+2))=60*(a*(b/15+2)):=by rw[mul_left_comm]
 have I:a*(4*b+120)=4*(a*b)+a*120:=by rw[Cg,mul_left_comm]
 omega
theorem ar3 {s v:Nat}(hs:s≤3500000) (h:60*v≤s*s+120*s):v≤Big:=by
 have:=ar0 hs;have:Big=250000000000:=rfl;omega
theorem ar4 {x m r C:Nat}(hx:x≤m) (h:60*r≤C+x*x+120*x):60*(m-x+r)≤C+m*m+120*m:=by
 have:=mul_le_mul hx hx;omega
end Go.Proofs.YtockgoadliilhaaGreatDoor
