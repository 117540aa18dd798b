/-
  Texts Re7 to Mt3 in one.
-/
import Derived.Test.YtpmheldmadendaaGreatDoorM11
open List (all_eq_true append_assoc append_nil cons_append drop_eq_getElem_cons drop_length filter_append filter_cons flatMap_cons length_append length_cons length_filter_le length_map length_nil length_set length_take map_append map_cons map_nil map_set mem_append mem_cons mem_cons_of_mem mem_cons_self mem_filter mem_flatMap mem_map mem_or_eq_of_mem_set mem_singleton nil_append nodup_cons take_length take_zero)
open Nat (le_max_left le_max_right le_refl le_trans mul_le_mul_left zero_le)
namespace Go.Proofs.YtpmheldmadendaaGreatDoor
open Go Go.AM
set_option maxRecDepth 20000
set_option maxHeartbeats 4000000
structure RTs (s:Sy):Prop where
 one:lvl s=0→∀(deep f:Nat) (R:List Tk),deep+dpY s≤40→(tkY s).length≤f→fT (fV f) deep (zt (tkY s++R))=((mN s,true),zt R)
 app:lvl s≤1→∀(deep f:Nat) (R:List Tk),deep+dpY s≤40→(tkY s).length≤f→∃m,R.length+1≤m∧eP (fV f) deep (zt (tkY s++R))=dX (fV f) deep 0 m (mN s) (zt R)
 exp:∀(deep f:Nat) (R:List Tk),deep+dpY s≤40→(tkY s).length<f→stp R→fV f deep (zt (tkY s++R))=(mN s,zt R)
def stq (R:List Tk):Prop:=∃t R',R=t::R'∧¬(0<t.kind∧t.kind<4)∧isK bI t=false
theorem stp.q {R:List Tk}(h:stp R):stq R:=by
 obtain⟨t,R',e,h1,h2,_⟩:=h;exact⟨t,R',e,h1,h2⟩
theorem yM (ex:Nat→Z→Ex×Z) (deep:Nat) (a:Int) (e:Ex) {m:Nat}(hm:1≤m) {R:List Tk}(h:stq R):dX ex deep a m e (zt R)=(e,zt R):=by
 obtain⟨m,rfl⟩:∃k,m=k+1:=⟨m-1,by omega⟩
 obtain⟨t,R',rfl,h1,h2⟩:=h;have ho:fT ex deep (zt (t::R'))=((zEx,false),zt (t::R')):=by
  unfold fT;rw[ξ (fun k=>k rfl),ξ (by exact h1),dE h2];exact ζ rfl
 rw[dX,ζ rfl,ho];exact ζ rfl
theorem r7 {ex:Nat→Z→Ex×Z}{deep:Nat}{A R:List Tk}{e:Ex}(hp:∃t r,A=t::r∧t.pl=0) (h:fT ex deep (zt (A++R))=((e,true),zt R)):∃m,R.length+1≤m∧eP ex deep (zt (A++R))=dX ex deep 0 m e (zt R):=by
 obtain⟨t,r,rfl,q⟩:=hp;refine⟨(t::r++R).length+1,by rw[θ];omega,?_⟩;unfold eP;rw[h];dsimp only;rw[ξ (fun k=>Bool.noConfusion k),show(b6 (zt (t::r++R))).pl=0 from q]
theorem xL {g deep:Nat}{t:Tk}{r:List Tk}(hd:deep≤40) (q:t.pl=0) (h1:isK sX t=false) (h2:isK sD t=false) (u:isK fE t=false):fV (g+1) deep (zt (t::r))=s8 0 (eP (fV g) deep (zt (t::r))):=by
 show rN (fV g) deep (zt (t::r))=_;unfold rN;rw[ξ (fun k=>k rfl),ξ (by omega),dE h1,ξ (fun k=>Bool.noConfusion k),dE h2,ξ (fun k=>Bool.noConfusion k),dE u,ξ (fun k=>Bool.noConfusion k)];rw[show(b6 (zt (t::r))).pl=0 from q]
theorem aOj {e:Ex}{R:List Tk}(h:stp R):s8 0 (e,zt R)=(e,zt R):=by
 obtain⟨t,R',rfl,_,_,q,_⟩:=h;unfold s8;dsimp only;rw[dE q];exact ξ fun k=>Bool.noConfusion k
theorem mF {s:Sy}(hw:wfY s) (hl:lvl s≤1) (h:∀(deep f:Nat) (R:List Tk),deep+dpY s≤40→(tkY s).length≤f→∃m,R.length+1≤m∧eP (fV f) deep (zt (tkY s++R))=dX (fV f) deep 0 m (mN s) (zt R)) (deep f:Nat) (R:List Tk) (hd:deep+dpY s≤40) (M:(tkY s).length<f) (u:stp R):fV f deep (zt (tkY s++R))=(mN s,zt R):=by
 obtain⟨g,rfl⟩:∃g,f=g+1:=⟨f-1,by omega⟩
 obtain⟨m,hm,hp⟩:=h deep g R hd (by omega);obtain⟨t,r,ht,_,_,y,B⟩:=vT s hw;obtain⟨E,I,J⟩:=B hl;rw[yM _ _ _ _ (by omega) u.q] at hp;rw[ht] at hp ⊢;rw[Ad] at hp ⊢;rw[xL (by omega) y E I J,hp,aOj u]
theorem aLj (X:List Tk):stp (syT c6::X):=⟨_,_,rfl,by decide,by decide,by decide,by decide,by decide,by decide⟩
theorem aLi (X:List Tk):stp (syT bN::X):=⟨_,_,rfl,by decide,by decide,by decide,by decide,by decide,by decide⟩
theorem aQj (X:List Tk):stp (syT aV::X):=⟨_,_,rfl,by decide,by decide,by decide,by decide,by decide,by decide⟩
theorem aUf (X:List Tk):stp (kyT ofS::X):=⟨_,_,rfl,by decide,by decide,by decide,by decide,by decide,by decide⟩
theorem aQk:stp [gU]:=⟨_,_,rfl,by decide,by decide,by decide,by decide,by decide,by decide⟩
theorem aGf (l X:List Tk):stp (tlT l++syT aV::X):=by
 cases l with
 | nil=>exact aQj X
 | cons t l=>exact aLi _
def aBv (n:Nat) (l:List Tk):List Tk:=if n=0 then l else tlT l
theorem wK (n:Nat) (l:List Tk):aBv (n+1) l=tlT l:=ξ (by omega)
theorem nR {s:Str}{t:Tk}{n:Nat}(hn:n+1≤60) (h1:isK bN t=false) (h2:cK s (zt [t])=false) (r R:List Tk):aW s n (zt (aBv n (t::r)++R))=(true,zt (t::r++R)):=by
 unfold aBv;split
 ·rename_i h0;exact aRa hn h1 h2 h0 _
 ·exact aH3 hn h1 h2 _
theorem rB {s:Str}{t:Tk}(n:Nat) (h1:isK bN t=false) (h2:cK s (zt [t])=true) (R:List Tk):aW s n (zt (aBv n []++t::R))=(false,zt (t::R)):=by
 have:aBv n []=[]:=by unfold aBv;split<;>rfl
 rw[this];exact aH2 n h1 h2 R
theorem oM (l:List Tk):l.length≤(tlT l).length:=by
 cases l with
 | nil=>exact le_refl _
 | cons t l=>show(t::l).length≤(t::l).length+1;omega
theorem yZ:∀l:List SyB,l.length≤(tkB l).length
 | []=>le_refl _
 | .sig n st s::l=>by
  have:=yZ l;have:=oM (tkB l);rw[tkB,χ,χ,χ,θ];omega
 | .bind n vs b::l=>by
  have:=yZ l;have:=oM (tkB l);rw[tkB,χ,χ,θ,χ,θ];omega
theorem aF7:∀l:List SyA,l.length≤(tkA l).length
 | []=>le_refl _
 | .alt pt p b::l=>by
  have:=aF7 l;have:=oM (tkA l);rw[tkA,χ,θ,χ,θ];omega
theorem aPv {ex:Nat→Z→Ex×Z}{nm:Tk}{deep:Nat}{vs:List Str}{b:Ex}{B R:List Tk}(hv:vs.length≤8) (h:ex deep (zt (B++R))=(b,zt R)):cP ex nm deep (zt (vs.map (nmT 1)++syT eqS::(B++R)))=(.mk nm.text nm.pl false lX (yA (vs.map (nmT 1)) b),zt R):=by
 have hb:iO nm (zt (vs.map (nmT 1)++syT eqS::(B++R)))=(vs.map (nmT 1),zt (B++R)):=by
  unfold iO;rw[aA5 vs (t:=syT eqS) rfl];dsimp only;rw[qF (by rw[η];exact hv),fU rfl]
 unfold cP;rw[hb];dsimp only;rw[h]
theorem aO5 {ex:Nat→Z→Ex×Z}{deep:Nat}{t:Tk}(h:0<t.kind∧t.kind<4) (R:List Tk):fT ex deep (zt (t::R))=((pB t,true),zt R):=by
 unfold fT;rw[ξ (fun k=>k rfl)];exact ζ h
theorem aQ6 {ex:Nat→Z→Ex×Z}{deep:Nat}(R:List Tk):fT ex deep (zt (syT bI::R))=(((ex (deep+1) (zt R)).1,true),aQ c6 (ex (deep+1) (zt R)).2):=by
 unfold fT;rw[ξ (fun k=>k rfl),iF (t:=syT bI) rfl,ξ (fun k=>Bool.noConfusion k)];exact ξ (show ¬((0:Int)<4∧(4:Int)<4) by decide)
mutual
theorem RTY:∀s:Sy,wfY s→RTs s
 | .nm k n,hw=>by
  have h1:∀(deep f:Nat) (R:List Tk),fT (fV f) deep (zt (tkY (.nm k n)++R))=((mN (.nm k n),true),zt R):=fun deep f R=>by
   rw[tkY,mN,Ad,Ak];have:pB (nmT k n)=.mk k 0 0 n [] [] [] lX:=by
    unfold pB nmT;rw[ξ (by rcases hw with rfl | rfl<;>first | exact(show ¬(1:Int)=3 by decide) | exact(show ¬(2:Int)=3 by decide))]
   rw[aO5 (by rcases hw with rfl | rfl<;>first | exact(show(0:Int)<1∧(1:Int)<4 by decide) | exact(show(0:Int)<2∧(2:Int)<4 by decide)),this]
  have h2:=fun deep f R=>r7 (ex:=fV f) (A:=tkY (.nm k n)) ⟨_,_,by rw[tkY],rfl⟩ (h1 deep f R)
  exact⟨fun _ deep f R _ _=>h1 deep f R,fun _ deep f R _ _=>h2 deep f R,fun deep f R=>mF hw (ε _) (fun deep f R _ _=>h2 deep f R) deep f R⟩
 | .num v n,hw=>by
  have h1:∀(deep f:Nat) (R:List Tk),fT (fV f) deep (zt (tkY (.num v n)++R))=((mN (.num v n),true),zt R):=fun deep f R=>by
   rw[tkY,mN,Ad,Ak,aO5 (show(0:Int)<3∧(3:Int)<4 by decide)];rfl
  have h2:=fun deep f R=>r7 (ex:=fV f) (A:=tkY (.num v n)) ⟨_,_,by rw[tkY],rfl⟩ (h1 deep f R)
  exact⟨fun _ deep f R _ _=>h1 deep f R,fun _ deep f R _ _=>h2 deep f R,fun deep f R=>mF hw (ε _) (fun deep f R _ _=>h2 deep f R) deep f R⟩
 | .br e,hw=>by
  have q:=RTY e hw;have h1:∀(deep f:Nat) (R:List Tk),deep+dpY (.br e)≤40→(tkY (.br e)).length≤f→fT (fV f) deep (zt (tkY (.br e)++R))=((mN (.br e),true),zt R):=fun deep f R hd u=>by
   rw[dpY] at hd;rw[tkY,χ,θ,χ,length_nil] at u;have hx:=q.exp (deep+1) f (syT c6::R) (by omega) (by omega) (aLj R);rw[tkY,mN,Ad,Ae,Ad,Ak];rw[aQ6,hx];dsimp only;rw[fU (t:=syT c6) rfl]
  have h2:=fun deep f R hd u=>r7 (ex:=fV f) (A:=tkY (.br e)) ⟨_,_,by rw[tkY],rfl⟩ (h1 deep f R hd u)
  exact⟨fun _=>h1,fun _=>h2,mF hw (ε _) h2⟩
 | .app f a,hw=>by
  have hi:=RTY f hw.2.2.1;have ha:=RTY a hw.2.2.2;obtain⟨ta,ra,Y,_⟩:=vT a hw.2.2.2;have h2:∀(deep g:Nat) (R:List Tk),deep+dpY (.app f a)≤40→(tkY (.app f a)).length≤g→∃m,R.length+1≤m∧eP (fV g) deep (zt (tkY (.app f a)++R))=dX (fV g) deep 0 m (mN (.app f a)) (zt R):=fun deep g R hd I=>by
   rw[dpY] at hd;have m1:=le_max_left (dpY f) (dpY a);have m2:=le_max_right (dpY f) (dpY a);rw[tkY,θ] at I;obtain⟨m,hm,hp⟩:=hi.app hw.1 deep g (tkY a++R) (by omega) (by omega);have h1:=ha.one hw.2.1 deep g R (by omega) (by omega);rw[θ,Y,χ] at hm;obtain⟨m,rfl⟩:∃k,m=k+1:=⟨m-1,by omega⟩
   refine⟨m,by omega,?_⟩;rw[tkY,Ae,hp,dX,ζ rfl,h1,ξ (fun k=>Bool.noConfusion k),mN]
  exact⟨fun k=>absurd k (by show ¬1=0;decide),fun _=>h2,mF hw (le_refl _) h2⟩
 | .lam vs b,hw=>by
  have q:=RTY b hw.2.2;refine⟨fun k=>absurd k (by show ¬2=0;decide),fun k=>absurd k (by show ¬2≤1;decide),fun deep f R hd u M=>?_⟩;rw[dpY] at hd;rw[tkY,χ,θ,χ,η] at u;obtain⟨g,rfl⟩:∃g,f=g+1:=⟨f-1,by omega⟩
  have hx:=q.exp (deep+1) g R (by omega) (by omega) M;rw[tkY,Ad,Ae,Ad,mN];show rN (fV g) deep _=_;unfold rN;rw[ξ (fun k=>k rfl),ξ (by omega),iF (t:=syT sX) rfl,ζ rfl];dsimp only;have hH:sE 0 (zt (vs.map (nmT 1)++syT arrow::(tkY b++R)))=(vs.map (nmT 1),zt (tkY b++R)):=by
   unfold sE;rw[aA5 vs (t:=syT arrow) rfl];dsimp only;rw[ξ (fun k=>hw.1 (List.map_eq_nil_iff.1 k)),qF (by rw[η];exact hw.2.1),fU rfl]
  show sW (fV g) 0 deep _=_;unfold sW;rw[hH];dsimp only;rw[hx]
 | .lett bs b,hw=>by
  obtain⟨y,B,E,O⟩:=hw;have q:=RTY b O;refine⟨fun k=>absurd k (by show ¬2=0;decide),fun k=>absurd k (by show ¬2≤1;decide),fun deep f R hd u M=>?_⟩;rw[dpY] at hd;have m1:=le_max_left (dpB bs) (dpY b);have m2:=le_max_right (dpB bs) (dpY b);have hl:=yZ bs;rw[tkY,χ,χ,θ,χ,χ] at u;obtain⟨g,rfl⟩:∃g,f=g+1:=⟨f-1,by omega⟩
  have hx:=q.exp (deep+1) g R (by omega) (by omega) M;rw[tkY,Ad,Ad,Ae,Ad,Ad,mN];show rN (fV g) deep _=_;unfold rN;rw[ξ (fun k=>k rfl),ξ (by omega),dE (t:=kyT sD) rfl,ξ (fun k=>Bool.noConfusion k),iF (t:=kyT sD) rfl,ζ rfl];dsimp only;have U:qH (fV g) deep (zt (syT cY::(tkB bs++syT aV::kyT inS::(tkY b++R))))=((kY bs,aGm bs),zt (syT aV::kyT inS::(tkY b++R))):=by
   unfold qH;rw[fU (t:=syT cY) rfl];have:=RTB bs E (deep+1) g ((tkB bs++syT aV::kyT inS::(tkY b++R)).length+1) 0 [] [] (kyT inS::(tkY b++R)) (by omega) (by omega) (by omega) (by rw[θ];omega);rw[show aBv 0 (tkB bs)=tkB bs from rfl,Ak,Ak] at this;exact this
  have hB:aFv ((kY bs,aGm bs),zt (syT aV::kyT inS::(tkY b++R)))=((cF (kY bs) (aGm bs) (zt [])).1,zt (kyT inS::(tkY b++R))):=by
   unfold aFv;dsimp only;rw[fU (t:=syT aV) rfl,aO3 _ _ _ B]
  show sV (fV g) 0 deep _=_;unfold sV;rw[U,hB];dsimp only;rw[fU (t:=kyT inS) rfl,hx]
 | .cas e al,hw=>by
  obtain⟨y,B,E,O⟩:=hw;have q:=RTY e E;refine⟨fun k=>absurd k (by show ¬2=0;decide),fun k=>absurd k (by show ¬2≤1;decide),fun deep f R hd u M=>?_⟩;rw[dpY] at hd;have m1:=le_max_left (dpY e) (dpA al);have m2:=le_max_right (dpY e) (dpA al);have hl:=aF7 al;rw[tkY,χ,θ,χ,χ,θ,χ,length_nil] at u;obtain⟨g,rfl⟩:∃g,f=g+1:=⟨f-1,by omega⟩
  have hx:=q.exp (deep+1) g (kyT ofS::syT cY::(tkA al++syT aV::R)) (by omega) (by omega) (aUf _);rw[tkY,Ad,Ae,Ad,Ad,Ae,Ad,Ak,mN];show rN (fV g) deep _=_;unfold rN;rw[ξ (fun k=>k rfl),ξ (by omega),dE (t:=kyT fE) rfl,ξ (fun k=>Bool.noConfusion k),dE (t:=kyT fE) rfl,ξ (fun k=>Bool.noConfusion k),iF (t:=kyT fE) rfl,ζ rfl];dsimp only;have U:dP (fV g) deep (zt (tkY e++kyT ofS::syT cY::(tkA al++syT aV::R)))=(mN e,zt (tkA al++syT aV::R)):=by
   unfold dP;rw[hx];dsimp only;rw[fU (t:=kyT ofS) rfl,fU (t:=syT cY) rfl]
  have hB:gJ (fV g) deep (mN e,zt (tkA al++syT aV::R))=((r9 al,mN e::aTj al),zt (syT aV::R)):=by
   unfold gJ;dsimp only;have:=RTA al O deep g ((tkA al++syT aV::R).length+1) 0 [] [mN e] R (by omega) (by omega) (by omega) (by rw[θ];omega);rw[show aBv 0 (tkA al)=tkA al from rfl,Ak] at this;exact this
  show iL (fV g) 0 deep _=_;unfold iL;rw[U,hB];dsimp only
  rw[fU (t:=syT aV) rfl,ξ (by
   cases al with
   | nil=>exact absurd rfl y
   | cons a al=>cases a;intro k;rw[r9] at k;cases k)]
 | .ann e st s,hw=>by
  obtain⟨y,B,E⟩:=hw;have q:=RTY e B;refine⟨fun k=>absurd k (by show ¬2=0;decide),fun k=>absurd k (by show ¬2≤1;decide),fun deep f R hd u M=>?_⟩;rw[dpY] at hd;rw[tkY,θ] at u;obtain⟨g,rfl⟩:∃g,f=g+1:=⟨f-1,by omega⟩
  obtain⟨m,hm,hp⟩:=q.app y deep g (syT dR::(st++R)) (by omega) (by omega);obtain⟨t,r,ht,_,_,aa,hk⟩:=vT e B;obtain⟨k1,k2,k3⟩:=hk y;rw[yM _ _ _ _ (by omega) ⟨_,_,rfl,by decide,by decide⟩] at hp;rw[tkY,mN,Ae,Ad];rw[ht,Ad] at hp ⊢;rw[xL (by omega) aa k1 k2 k3,hp];unfold s8;dsimp only;rw[iF (t:=syT dR) rfl,ζ rfl];dsimp only;rw[aBi E M]
theorem RTB:∀l:List SyB,wfB l→∀(deep g F n:Nat) (sigs:List Sg) (binds:List Bd) (X:List Tk),deep+dpB l≤40→(tkB l).length≤g→n+l.length≤60→l.length<F→eT (fV g) deep F n sigs binds (zt (aBv n (tkB l)++syT aV::X))=((sigs++kY l,binds++aGm l),zt (syT aV::X))
 | [],_,deep,g,F,n,sigs,binds,X,_,_,_,J=>by
  obtain⟨F,rfl⟩:∃k,F=k+1:=⟨F-1,by omega⟩
  rw[tkB,eT,rB n (t:=syT aV) rfl rfl,ξ (fun k=>Bool.noConfusion k),kY,aGm,A3,A3]
 | .sig nm st s::l,hw,deep,g,F,n,sigs,binds,X,hd,I,hn,J=>by
  rw[χ] at hn J;obtain⟨F,rfl⟩:∃k,F=k+1:=⟨F-1,by omega⟩
  rw[dpB] at hd;have tl:=oM (tkB l);rw[tkB,χ,χ,θ] at I;have q:=RTB l hw.2 deep g F (n+1) (sigs++[⟨nm,0,s⟩]) binds X (by omega) (by omega) (by omega) (by omega);rw[wK] at q;rw[tkB,eT,nR (by omega) (t:=nmT 1 nm) rfl rfl,ζ rfl];have he:aY (fV g) sigs binds deep (zt (nmT 1 nm::(syT dR::(st++tlT (tkB l)))++syT aV::X))=((sigs++[⟨nm,0,s⟩],binds),zt (tlT (tkB l)++syT aV::X)):=by
   rw[Ad,Ad,Ae];unfold aY;rw[pV (k:=1) (t:=nmT 1 nm) rfl];dsimp only;rw[iF (t:=syT dR) rfl,ζ rfl];dsimp only;rw[aBi hw.1 (aGf _ _)];rfl
  rw[he];dsimp only;rw[q,kY,aGm,Ae,Ad,Ak]
 | .bind nm vs b::l,hw,deep,g,F,n,sigs,binds,X,hd,I,hn,J=>by
  rw[χ] at hn J;obtain⟨F,rfl⟩:∃k,F=k+1:=⟨F-1,by omega⟩
  rw[dpB] at hd;have m1:=le_max_left (dpY b) (dpB l);have m2:=le_max_right (dpY b) (dpB l);have tl:=oM (tkB l);rw[tkB,χ,θ,χ,θ] at I;have hb:=(RTY b hw.2.1).exp deep g (tlT (tkB l)++syT aV::X) (by omega) (by omega) (aGf _ _);have q:=RTB l hw.2.2 deep g F (n+1) sigs (binds++[.mk nm 0 false lX (yA (vs.map (nmT 1)) (mN b))]) X (by omega) (by omega) (by omega) (by omega);rw[wK] at q;rw[tkB,eT,nR (by omega) (t:=nmT 1 nm) rfl rfl,ζ rfl];have he:aY (fV g) sigs binds deep (zt (nmT 1 nm::(vs.map (nmT 1)++syT eqS::(tkY b++tlT (tkB l)))++syT aV::X))=((sigs,binds++[.mk nm 0 false lX (yA (vs.map (nmT 1)) (mN b))]),zt (tlT (tkB l)++syT aV::X)):=by
   rw[Ad,Ae,Ad,Ae];unfold aY;rw[pV (k:=1) (t:=nmT 1 nm) rfl];dsimp only;have hm:bT dR (zt (vs.map (nmT 1)++syT eqS::(tkY b++(tlT (tkB l)++syT aV::X))))=(false,zt (vs.map (nmT 1)++syT eqS::(tkY b++(tlT (tkB l)++syT aV::X)))):=by
    cases vs with
    | nil=>exact dE (t:=syT eqS) rfl _
    | cons v vs=>exact dE (t:=nmT 1 v) rfl _
   rw[hm,ξ (fun k=>Bool.noConfusion k)];dsimp only;rw[aPv hw.1 hb];rfl
  rw[he];dsimp only;rw[q,kY,aGm,Ae,Ad,Ak]
theorem RTA:∀l:List SyA,wfA l→∀(deep g F n:Nat) (ps:List Pt) (ks:List Ex) (X:List Tk),deep+1+dpA l≤40→(tkA l).length≤g→n+l.length≤60→l.length<F→eW (fV g) deep F n ps ks (zt (aBv n (tkA l)++syT aV::X))=((ps++r9 l,ks++aTj l),zt (syT aV::X))
 | [],_,deep,g,F,n,ps,ks,X,_,_,_,J=>by
  obtain⟨F,rfl⟩:∃k,F=k+1:=⟨F-1,by omega⟩
  rw[tkA,eW,rB n (t:=syT aV) rfl rfl,ξ (fun k=>Bool.noConfusion k),r9,aTj,A3,A3]
 | .alt pt p b::l,hw,deep,g,F,n,ps,ks,X,hd,I,hn,J=>by
  rw[χ] at hn J;obtain⟨F,rfl⟩:∃k,F=k+1:=⟨F-1,by omega⟩
  rw[dpA] at hd;have m1:=le_max_left (dpY b) (dpA l);have m2:=le_max_right (dpY b) (dpA l);have tl:=oM (tkA l);rw[tkA,θ,χ,θ] at I;have hb:=(RTY b hw.2.1).exp (deep+1) g (tlT (tkA l)++syT aV::X) (by omega) (by omega) (aGf _ _);have q:=RTA l hw.2.2 deep g F (n+1) (ps++[p]) (ks++[mN b]) X (by omega) (by omega) (by omega) (by omega);rw[wK] at q;obtain⟨⟨t,r,rfl,h1,h2⟩,ab⟩:=hw.1;rw[tkA,eW,show(t::r)++syT arrow::(tkY b++tlT (tkA l))=t::(r++syT arrow::(tkY b++tlT (tkA l))) from rfl,nR (by omega) (t:=t) h1 ((ξ (by decide)).trans h2),ζ rfl];have e1:t::(r++syT arrow::(tkY b++tlT (tkA l)))++syT aV::X=(t::r)++syT arrow::(tkY b++(tlT (tkA l)++syT aV::X)):=by simp
  rw[e1];have hp:=ab (tkY b++(tlT (tkA l)++syT aV::X)) (3*(zt ((t::r)++syT arrow::(tkY b++(tlT (tkA l)++syT aV::X)))).R.length+1) (by rw[θ];omega);dsimp only;rw[hp];dsimp only;rw[fU (t:=syT arrow) rfl,hb];dsimp only;rw[q,r9,aTj,Ae,Ae,Ad,Ak,Ad,Ak]
end
structure DD where
 ts:List Tk
 bn:List Str
 sn:List Str
def aXp (d:DD) (g:Nat) (R:List Tk):Prop:=∀(p:Pg) (sigs:List Sg),∃(p':Pg) (b:List Bd) (s:List Sg),cS (fV g) p sigs (zt (d.ts++R))=((p',sigs++s),zt R)∧p'.binds=p.binds++b∧b.map (·.name)=d.bn∧(∀x∈b,x.has=false)∧s.map (·.name)=d.sn
def hdK (t:Tk):Bool:=!isK bN t&& !decide (t.kind=6)
def aPd (l:List Tk):Prop:=∃t r,l=t::r∧hdK t=true
structure Dcl (d:DD):Prop where
 hd:aPd d.ts
 run:∀g R,d.ts.length≤g→aXp d g (syT bN::R)
def dZ:List DD→List Tk→List Tk
 | [],m=>m
 | d::l,m=>d.ts++syT bN::dZ l m
theorem xB:∀(a b:List DD) (m:List Tk),dZ (a++b) m=dZ a (dZ b m)
 | [],_,_=>rfl
 | d::a,b,m=>by rw[Ad,dZ,dZ,xB a b m]
theorem x9:∀(a:List DD) (m:List Tk),dZ a m=dZ a []++m
 | [],_=>rfl
 | d::a,m=>by rw[dZ,dZ,x9 a m,Ae,Ad]
theorem aMq {m:List Tk}(hm:aPd m):∀l:List DD,(∀d∈l,Dcl d)→aPd (dZ l m)
 | [],_=>hm
 | d::l,h=>by
  obtain⟨t,r,e,q⟩:=(h d Ba).hd;exact⟨t,r++syT bN::dZ l m,by rw[dZ,e];rfl,q⟩
theorem xA (m:List Tk):∀l:List DD,l.length+m.length≤(dZ l m).length∧∀d∈l,d.ts.length≤(dZ l m).length
 | []=>⟨by rw[dZ,length_nil];omega,fun d h=>nomatch h⟩
 | d::l=>by
  obtain⟨h1,h2⟩:=xA m l;rw[dZ,θ,χ,χ];refine⟨by omega,fun x hx=>?_⟩;rcases Au.1 hx with rfl | hx
  ·omega
  ·have:=h2 x hx;omega
theorem aPe {t:Tk}(h:hdK t=true):isK bN t=false∧cK [] (zt [t])=false:=by
 unfold hdK at h;rw[π] at h;obtain⟨h1,h2⟩:=h;refine⟨by simpa using h1,?_⟩;unfold cK;rw[ζ rfl];exact ψ (show ¬t.kind=6 by simpa using h2)
theorem aU7 {l:List Tk}(h:aPd l) (n:Nat) (R:List Tk):zt (syT bN::(l++R))=zt (aBv (n+1) l++R):=by
 obtain⟨t,r,rfl,_⟩:=h;rw[wK];rfl
theorem aHg {g:Nat}{m:DD}(hm:aPd m.ts) (u:aXp m g [gU]):∀(l:List DD),(∀d∈l,Dcl d∧d.ts.length≤g)→∀(F n:Nat) (p:Pg) (sigs:List Sg),n+l.length+1≤60→l.length+2≤F→∃(q:Pg) (b:List Bd) (s:List Sg),dW (fV g) F n p sigs (zt (aBv n (dZ l m.ts)++[gU]))=((q,sigs++s),zt [gU])∧q.binds=p.binds++b∧b.map (·.name)=l.flatMap (·.bn)++m.bn∧(∀x∈b,x.has=false)∧s.map (·.name)=l.flatMap (·.sn)++m.sn
 | [],_,F,n,p,sigs,hn,B=>by
  rw[length_nil] at hn B;obtain⟨F,rfl⟩:∃k,F=k+1+1:=⟨F-2,by omega⟩
  obtain⟨q,b,s,e,h1,h2,E,I⟩:=u p sigs;obtain⟨t,r,ht,J⟩:=hm;obtain⟨M,O⟩:=aPe J;refine⟨q,b,s,?_,h1,h2,E,I⟩;have hp:aBv (n+1) []=[]:=by rw[wK];rfl
  have e0:=rB (s:=[]) (t:=gU) (n+1) rfl rfl [];rw[hp,Ak] at e0;rw[dZ,ht,dW,nR (by omega) M O,ζ rfl];dsimp only;rw[ht] at e;rw[e];dsimp only;rw[dW,e0];exact ξ fun k=>Bool.noConfusion k
 | d::l,hl,F,n,p,sigs,hn,B=>by
  rw[χ] at hn B;obtain⟨F,rfl⟩:∃k,F=k+1:=⟨F-1,by omega⟩
  obtain⟨hd,Y⟩:=hl d Ba;have y:∀d∈l,Dcl d∧d.ts.length≤g:=fun x hx=>hl x (A1 _ hx)
  obtain⟨q,b,s,e,h1,h2,E,I⟩:=hd.run g (dZ l m.ts++[gU]) Y p sigs;obtain⟨U,b',s',e',g1,g2,g3,g4⟩:=aHg hm u l y F (n+1) q (sigs++s) (by omega) (by omega);obtain⟨t,r,ht,J⟩:=hd.hd;obtain⟨M,O⟩:=aPe J;refine⟨U,b++b',s++s',?_,by rw[g1,h1,Ae],by rw[Al,h2,g2,Cw,Ae],fun x hx=>?_,by rw[Al,I,g4,Cw,Ae]⟩
  ·rw[dZ,ht,Ad,dW,nR (by omega) M O,ζ rfl];dsimp only;rw[show t::(r++syT bN::dZ l m.ts)++[gU]=(t::r)++syT bN::(dZ l m.ts++[gU]) by simp,←ht,e];dsimp only;rw[aU7 (aMq hm l fun d h=>(y d h).1) n,e',Ae]
  ·rcases Bk.1 hx with hx | hx
   ·exact E x hx
   ·exact g3 x hx
theorem aHq:∀(l:List Sg) (b:List Bd) (z:Z),z.e=0→(l.map (·.name)).Nodup→(∀s∈l,s.name∈b.map (·.name))→(∀x∈b,(∃s∈l,s.name=x.name)→x.has=false)→(cF l b z).2=z
 | [],b,z,_,_,_,_=>by rw[cF]
 | s::l,b,z,E,hn,hs,hh=>by
  rw[Ar,nodup_cons] at hn;rw[cF,ζ E];cases u:b.findIdx? (fun x=>decide (x.name=s.name)) with
  | none=>
   exfalso;rw[List.findIdx?_eq_none_iff] at u;obtain⟨x,hx,q⟩:=Cz.1 (hs s Ba);have:=u x hx;rw[C3] at this;exact this q
  | some k=>
   dsimp only;rw[Cs] at u;obtain⟨I,J,_⟩:=u;rw[Cy I];dsimp only;have M:b[k]∈b:=List.getElem_mem I;have q:=κ J;rw[ξ (by rw[hh _ M ⟨s,Ba,q.symm⟩];exact ω)];have O:(b.set k (i7 b[k] s.ty)).map (·.name)=b.map (·.name):=by
    rw[map_set,show(i7 b[k] s.ty).name=b[k].name from rfl];refine List.ext_getElem (by rw[Cx]) fun i h1 h2=>?_
    rw[List.getElem_set];split
    ·rename_i h;subst h;rw[List.getElem_map]
    ·rfl
   refine aHq l _ z E hn.2 (fun y h'=>by rw[O];exact hs y (A1 _ h')) fun x hx ⟨y,B,r⟩=>?_
   rcases mem_or_eq_of_mem_set hx with hx | rfl
   ·exact hh x hx ⟨y,A1 _ B,r⟩
   ·exfalso;apply hn.1;rw[show(i7 b[k] s.ty).name=b[k].name from rfl,q] at r;exact Cz.2 ⟨y,B,r⟩
theorem aQ3 {l:List DD}{m:DD}(hl:∀d∈l,Dcl d) (hm:aPd m.ts) (q:∀g,m.ts.length<g→aXp m g [gU]) (hn:l.length+1≤60) (h1:(l.flatMap (·.sn)++m.sn).Nodup) (h2:∀x∈l.flatMap (·.sn)++m.sn,x∈l.flatMap (·.bn)++m.bn):(aD0 (dZ l m.ts++[gU])).2.e=0:=by
 obtain⟨E,u⟩:=xA m.ts l;have B:0<m.ts.length:=by obtain⟨t,r,e,_⟩:=hm;rw[e,χ];omega
 have I:(dZ l m.ts++[gU]).length=(dZ l m.ts).length+1:=by rw[θ];rfl
 obtain⟨y,b,s,e,g1,g2,g3,g4⟩:=aHg (g:=(dZ l m.ts++[gU]).length) hm (q _ (by omega)) l (fun d hd=>⟨hl d hd,by have:=u d hd;omega⟩) ((dZ l m.ts++[gU]).length+1) 0 zPg [] (by omega) (by omega);rw[show aBv 0 (dZ l m.ts)=dZ l m.ts from rfl,Ak] at e;rw[show zPg.binds=[] from rfl,Ak] at g1;unfold aD0 cT;rw[e];unfold nP;dsimp only;rw[aHq s y.binds (zt [gU]) rfl (by rw[g4];exact h1) (fun x hx=>by rw[g1,g2];exact h2 _ (by rw[←g4];exact Cz.2 ⟨x,hx,rfl⟩)) (fun x hx _=>by rw[g1] at hx;exact g3 x hx)];rfl
theorem p9 {ex:Nat→Z→Ex×Z}(nm:Str) (t:Tk) (X:List Tk) (h:isK dR t=false) (p:Pg) (sigs:List Sg):cS ex p sigs (zt (nmT 1 nm::t::X))=((⟨p.datas,p.classes,p.insts,p.binds++[(cP ex (nmT 1 nm) 0 (zt (t::X))).1]⟩,sigs),(cP ex (nmT 1 nm) 0 (zt (t::X))).2):=by
 unfold cS;rw[dE (t:=nmT 1 nm) rfl,ξ (fun k=>Bool.noConfusion k),dE (t:=nmT 1 nm) rfl,ξ (fun k=>Bool.noConfusion k),dE (t:=nmT 1 nm) rfl,ξ (fun k=>Bool.noConfusion k)];unfold aY;rw[pV (k:=1) (t:=nmT 1 nm) rfl];dsimp only;rw[dE h,ξ (fun k=>Bool.noConfusion k)]
theorem aI2 {ex:Nat→Z→Ex×Z}(nm:Str) (X:List Tk) (p:Pg) (sigs:List Sg):cS ex p sigs (zt (nmT 1 nm::syT dR::X))=((p,sigs++[⟨nm,0,(bK (zt X)).1⟩]),(bK (zt X)).2):=by
 unfold cS;rw[dE (t:=nmT 1 nm) rfl,ξ (fun k=>Bool.noConfusion k),dE (t:=nmT 1 nm) rfl,ξ (fun k=>Bool.noConfusion k),dE (t:=nmT 1 nm) rfl,ξ (fun k=>Bool.noConfusion k)];unfold aY;rw[pV (k:=1) (t:=nmT 1 nm) rfl];dsimp only;rw[iF (t:=syT dR) rfl,ζ rfl];rfl
theorem aRw {ex:Nat→Z→Ex×Z}{t:Tk}(h:isK jB t=true∨isK eF t=true∨isK iX t=true) (X:List Tk) (p:Pg) (sigs:List Sg):∃q,cS ex p sigs (zt (t::X))=((q,sigs),(cS ex zPg [] (zt (t::X))).2)∧q.binds=p.binds:=by
 unfold cS;by_cases h1:isK jB t=true
 ·rw[iF h1,ζ rfl,ζ rfl];exact⟨_,rfl,rfl⟩
 have r:=dE (s:=jB) (t:=t) (by simpa using h1) X;simp only[r,As,Bq];by_cases h2:isK eF t=true
 ·rw[iF h2,ζ rfl,ζ rfl];exact⟨_,rfl,rfl⟩
 have u:=dE (s:=eF) (t:=t) (by simpa using h2) X;simp only[u,As,Bq];have y:isK iX t=true:=by
  rcases h with h | h | h
  ·exact absurd h h1
  ·exact absurd h h2
  ·exact h
 rw[iF y,ζ rfl,ζ rfl];exact⟨_,rfl,rfl⟩
def aM5 (ts:List Tk):DD:=match ts with
 | t::u::r=>if t.kind=1 then(if isK dR u=true then⟨t::u::r,[],[t.text]⟩ else⟨t::u::r,[t.text],[]⟩) else⟨t::u::r,[],[]⟩
 | l=>⟨l,[],[]⟩
theorem aAk (ts:List Tk):(aM5 ts).ts=ts:=by
 unfold aM5;split
 ·split
  ·split<;>rfl
  ·rfl
 ·rfl
def aXr (a b:Tk):Bool:=decide (a.kind=b.kind)&&(decide (a.text=b.text)&&(decide (a.n=b.n)&&decide (a.pl=b.pl)))
theorem aF6 {a b:Tk}(h:aXr a b=true):a=b:=by
 unfold aXr at h;rw[π,π,π,decide_eq_true_iff,decide_eq_true_iff,decide_eq_true_iff,decide_eq_true_iff] at h;obtain⟨u,a2,a3,a4⟩:=a;obtain⟨y,B,E,I⟩:=b;obtain⟨h1,h2,q,r⟩:=h;dsimp only at h1 h2 q r;rw[h1,h2,q,r]
def aZp (ts:List Tk):Bool:=match ts with
 | t::u::_=>(aXr t (nmT 1 t.text)&&(aXr u (syT dR) || !isK dR u)) || (!decide (t.kind=1)&&(isK jB t || (isK eF t || isK iX t)))
 | _=>false
theorem aWb {ts:List Tk}(hh:aZp ts=true) (y:aPd ts) {g:Nat}{R:List Tk}(h:(cS (fV g) zPg [] (zt (ts++R))).2=zt R):aXp (aM5 ts) g R:=by
 intro p sigs;rw[aAk]
 match ts,hh,h with
 | [],hh,_=>exact Bool.noConfusion hh
 | [_],hh,_=>exact Bool.noConfusion hh
 | t::u::r,hh,h=>
  unfold aZp at hh;rw[Ct,π,π,Ct] at hh;rcases hh with⟨h1,h2⟩ | ⟨h1,h2⟩
  ·have h1:=aF6 h1;obtain⟨nm,rfl⟩:∃nm,t=nmT 1 nm:=⟨_,h1⟩
   rcases h2 with h2 | h2
   ·have h2:=aF6 h2;subst h2;refine⟨p,[],[⟨nm,0,(bK (zt (r++R))).1⟩],?_,by rw[A3],rfl,(fun x hx=>nomatch hx),rfl⟩;rw[Ad,Ad,aI2] at h ⊢;rw[h]
   ·have h2:isK dR u=false:=by simpa using h2
    have hd:aM5 (nmT 1 nm::u::r)=⟨nmT 1 nm::u::r,[nm],[]⟩:=by
     unfold aM5;dsimp only;rw[ζ (show(nmT 1 nm).kind=1 from rfl),ξ (by rw[h2];exact ω)];rfl
    rw[hd];rw[Ad,Ad,p9 _ _ _ h2] at h;refine⟨⟨p.datas,p.classes,p.insts,p.binds++[(cP (fV g) (nmT 1 nm) 0 (zt (u::(r++R)))).1]⟩,[(cP (fV g) (nmT 1 nm) 0 (zt (u::(r++R)))).1],[],?_,rfl,rfl,fun x hx=>?_,rfl⟩
    ·rw[Ad,Ad,p9 _ _ _ h2,A3,h]
    ·rw[A2] at hx;subst hx;rfl
  ·have h1:¬t.kind=1:=by simpa using h1
   have hd:aM5 (t::u::r)=⟨t::u::r,[],[]⟩:=by
    unfold aM5;dsimp only;rw[ξ h1]
   rw[hd];rw[Ad] at h ⊢;obtain⟨q,e,hb⟩:=aRw (ex:=fV g) (t:=t) (by rw[Ct,Ct] at h2;exact h2) (u::r++R) p sigs;exact⟨q,[],[],by rw[e,h,A3],by rw[hb,A3],rfl,(fun x hx=>nomatch hx),rfl⟩
theorem aI4 {nm:Str}{vs:List Str}{y:Sy}(hv:vs.length≤8) (hw:wfY y) (hd:dpY y≤40) {g:Nat}{R:List Tk}(r:(tkY y).length<g) (u:stp R):aXp ⟨nmT 1 nm::(vs.map (nmT 1)++syT eqS::tkY y),[nm],[]⟩ g R:=fun p sigs=>by
 have hb:=(RTY y hw).exp 0 g R (by omega) r u;have hB:=aPv (nm:=nmT 1 nm) hv hb;have key:∀(t:Tk) (X:List Tk),isK dR t=false→vs.map (nmT 1)++syT eqS::(tkY y++R)=t::X→∃(q:Pg) (b:List Bd) (s:List Sg),cS (fV g) p sigs (zt (nmT 1 nm::(vs.map (nmT 1)++syT eqS::(tkY y++R))))=((q,sigs++s),zt R)∧q.binds=p.binds++b∧b.map (·.name)=[nm]∧(∀x∈b,x.has=false)∧s.map (·.name)=[]:=fun t X ht hX=>by
  rw[hX] at hB ⊢;rw[p9 nm t X ht];refine⟨⟨p.datas,p.classes,p.insts,p.binds++[(cP (fV g) (nmT 1 nm) 0 (zt (t::X))).1]⟩,[(cP (fV g) (nmT 1 nm) 0 (zt (t::X))).1],[],?_,rfl,rfl,fun x hx=>?_,rfl⟩
  ·rw[A3,hB]
  ·rw[A2] at hx;subst hx;rfl
 rw[show(nmT 1 nm::(vs.map (nmT 1)++syT eqS::tkY y))++R=nmT 1 nm::(vs.map (nmT 1)++syT eqS::(tkY y++R)) by simp];cases vs with
 | nil=>exact key _ _ rfl rfl
 | cons v vs=>exact key _ _ rfl rfl
def mW:List Str:=[
 [100,97,116,97,32,76,32,97,32,61,32,78,32,124,32,67,32,97,32,40,76,32,97,41],
 [100,97,116,97,32,80,32,97,32,98,32,61,32,80,32,97,32,98],
 [100,97,116,97,32,77,32,97,32,61,32,78,111,32,124,32,89,101,115,32,97],
 [100,97,116,97,32,84,32,97,32,61,32,76,101,97,102,32,124,32,78,111,100,101,32,40,84,32,97,41,32,97,32,40,84,32,97,41],
 [99,108,97,115,115,32,69,32,97,32,123,32,115,97,109,101,32,58,32,97,32,45,62,32,97,32,45,62,32,66,111,111,108,32,125],
 [105,110,115,116,97,110,99,101,32,69,32,73,110,116,32,123,32,115,97,109,101,32,120,32,121,32,61,32,101,113,32,120,32,121,32,125],
 [105,110,115,116,97,110,99,101,32,69,32,66,111,111,108,32,123,32,115,97,109,101,32,120,32,121,32,61,32,99,97,115,101,32,120,32,111,102,32,123,32,84,114,117,101,32,45,62,32,121,32,59,32,70,97,108,115,101,32,45,62,32,110,111,116,32,121,32,125,32,125],
 [105,110,115,116,97,110,99,101,32,69,32,97,32,61,62,32,69,32,40,76,32,97,41,32,123,32,115,97,109,101,32,120,32,121,32,61,32,99,97,115,101,32,120,32,111,102,32,123,32,78,32,45,62,32,99,97,115,101,32,121,32,111,102,32,123,32,78,32,45,62,32,84,114,117,101,32,59,32,95,32,45,62,32,70,97,108,115,101,32,125,32,59,32,67,32,97,32,98,32,45,62,32,99,97,115,101,32,121,32,111,102,32,123,32,78,32,45,62,32,70,97,108,115,101,32,59,32,67,32,99,32,100,32,45,62,32,97,110,100,32,40,115,97,109,101,32,97,32,99,41,32,40,115,97,109,101,32,98,32,100,41,32,125,32,125,32,125],
 [99,108,97,115,115,32,69,32,97,32,61,62,32,79,32,97,32,123,32,108,101,115,115,32,58,32,97,32,45,62,32,97,32,45,62,32,66,111,111,108,32,59,32,116,111,112,32,58,32,97,32,125],
 [105,110,115,116,97,110,99,101,32,79,32,73,110,116,32,123,32,108,101,115,115,32,120,32,121,32,61,32,108,116,32,120,32,121,32,59,32,116,111,112,32,61,32,57,32,125],
 [99,108,97,115,115,32,70,32,102,32,123,32,109,97,112,32,58,32,40,97,32,45,62,32,98,41,32,45,62,32,102,32,97,32,45,62,32,102,32,98,32,125],
 [105,110,115,116,97,110,99,101,32,70,32,76,32,123,32,109,97,112,32,102,32,120,32,61,32,99,97,115,101,32,120,32,111,102,32,123,32,78,32,45,62,32,78,32,59,32,67,32,97,32,98,32,45,62,32,67,32,40,102,32,97,41,32,40,109,97,112,32,102,32,98,41,32,125,32,125],
 [105,110,115,116,97,110,99,101,32,70,32,77,32,123,32,109,97,112,32,102,32,120,32,61,32,99,97,115,101,32,120,32,111,102,32,123,32,78,111,32,45,62,32,78,111,32,59,32,89,101,115,32,97,32,45,62,32,89,101,115,32,40,102,32,97,41,32,125,32,125],
 [110,111,116,32,120,32,61,32,99,97,115,101,32,120,32,111,102,32,123,32,84,114,117,101,32,45,62,32,70,97,108,115,101,32,59,32,70,97,108,115,101,32,45,62,32,84,114,117,101,32,125],
 [97,110,100,32,120,32,121,32,61,32,99,97,115,101,32,120,32,111,102,32,123,32,84,114,117,101,32,45,62,32,121,32,59,32,70,97,108,115,101,32,45,62,32,70,97,108,115,101,32,125],
 [97,112,112,101,110,100,32,120,32,121,32,61,32,99,97,115,101,32,120,32,111,102,32,123,32,78,32,45,62,32,121,32,59,32,67,32,97,32,98,32,45,62,32,67,32,97,32,40,97,112,112,101,110,100,32,98,32,121,41,32,125],
 [115,117,109,32,108,32,61,32,99,97,115,101,32,108,32,111,102,32,123,32,78,32,45,62,32,48,32,59,32,67,32,97,32,98,32,45,62,32,97,100,100,32,97,32,40,115,117,109,32,98,41,32,125],
 [109,101,109,98,101,114,32,58,32,69,32,97,32,61,62,32,97,32,45,62,32,76,32,97,32,45,62,32,66,111,111,108,32,59,32,109,101,109,98,101,114,32,120,32,108,32,61,32,99,97,115,101,32,108,32,111,102,32,123,32,78,32,45,62,32,70,97,108,115,101,32,59,32,67,32,97,32,98,32,45,62,32,99,97,115,101,32,115,97,109,101,32,120,32,97,32,111,102,32,123,32,84,114,117,101,32,45,62,32,84,114,117,101,32,59,32,70,97,108,115,101,32,45,62,32,109,101,109,98,101,114,32,120,32,98,32,125,32,125],
 [105,100,32,120,32,61,32,120],
 [107,32,120,32,121,32,61,32,120],
 [99,111,109,112,32,102,32,103,32,120,32,61,32,102,32,40,103,32,120,41],
 [102,114,111,109,32,110,32,61,32,67,32,110,32,40,102,114,111,109,32,40,97,100,100,32,110,32,49,41,41],
 [116,97,107,101,32,110,32,108,32,61,32,99,97,115,101,32,101,113,32,110,32,48,32,111,102,32,123,32,84,114,117,101,32,45,62,32,78,32,59,32,70,97,108,115,101,32,45,62,32,99,97,115,101,32,108,32,111,102,32,123,32,78,32,45,62,32,78,32,59,32,67,32,97,32,98,32,45,62,32,67,32,97,32,40,116,97,107,101,32,40,115,117,98,32,110,32,49,41,32,98,41,32,125,32,125],
 [101,118,101,110,32,110,32,61,32,99,97,115,101,32,101,113,32,110,32,48,32,111,102,32,123,32,84,114,117,101,32,45,62,32,84,114,117,101,32,59,32,70,97,108,115,101,32,45,62,32,111,100,100,32,40,115,117,98,32,110,32,49,41,32,125,32,59,32,111,100,100,32,110,32,61,32,99,97,115,101,32,101,113,32,110,32,48,32,111,102,32,123,32,84,114,117,101,32,45,62,32,70,97,108,115,101,32,59,32,70,97,108,115,101,32,45,62,32,101,118,101,110,32,40,115,117,98,32,110,32,49,41,32,125],
 [98,105,103,103,101,115,116,32,108,32,61,32,99,97,115,101,32,108,32,111,102,32,123,32,78,32,45,62,32,116,111,112,32,59,32,67,32,97,32,98,32,45,62,32,108,101,116,32,123,32,109,32,61,32,98,105,103,103,101,115,116,32,98,32,125,32,105,110,32,99,97,115,101,32,108,101,115,115,32,97,32,109,32,111,102,32,123,32,84,114,117,101,32,45,62,32,109,32,59,32,70,97,108,115,101,32,45,62,32,97,32,125,32,125],
 [115,105,122,101,32,116,32,61,32,99,97,115,101,32,116,32,111,102,32,123,32,76,101,97,102,32,45,62,32,48,32,59,32,78,111,100,101,32,97,32,98,32,99,32,45,62,32,97,100,100,32,40,97,100,100,32,40,115,105,122,101,32,97,41,32,49,41,32,40,115,105,122,101,32,99,41,32,125],
 [116,119,105,99,101,32,58,32,40,97,32,45,62,32,97,41,32,45,62,32,97,32,45,62,32,97,32,59,32,116,119,105,99,101,32,102,32,120,32,61,32,102,32,40,102,32,120,41],
 [115,119,97,112,32,112,32,61,32,99,97,115,101,32,112,32,111,102,32,123,32,80,32,97,32,98,32,45,62,32,80,32,98,32,97,32,125]]
def jP:Str:=[120,32,61,32,52]
def aGl:Str:=[32,59,10]
def yP:List Str:=mW++[jP]
def aX6:Nat→List Tk→List Tk→List (List Tk)
 | _,acc,[]=>match acc with
  | []=>[]
  | a::l=>[a::l]
 | n,acc,t::r=>if isK bN t=true∧n=0 then acc::aX6 n [] r else aX6 (if isK cY t=true then n+1 else if isK aV t=true then n-1 else n) (acc++[t]) r
def aZ8 (s:Str):List Tk:=(aMm s.length s).getD []
def sG (s:Str):List DD:=(aX6 0 [] (aZ8 s)).map aM5
def aM4:List (List Tk):=yP.flatMap fun s=>aX6 0 [] (aZ8 s)
theorem aHp:yP.map (fun s=>aMl (s.length+3) (s++aGl))=yP.map (fun s=>some (dZ (sG s) [])):=by kernel_rfl
theorem aRx:aM4.all (fun ts=>aZp ts&&match ts with
 | []=>false
 | t::_=>hdK t)=true:=by kernel_rfl
theorem aM3 (g:Nat) (R:List Tk):aM4.map (fun ts=>(cS (fV (g+ts.length)) zPg [] (zt (ts++syT bN::R))).2)=aM4.map (fun _=>zt (syT bN::R)):=by kernel_rfl
theorem aL8 {s:Str}(h:s∈yP):Lx (s++aGl) (dZ (sG s) []):=aP _ _ _ (List.map_inj_left.1 aHp s h)
theorem aRv {ts:List Tk}(h:ts∈aM4):Dcl (aM5 ts):=by
 have h1:=Av.1 aRx ts h;rw[π] at h1;obtain⟨h1,h2⟩:=h1;have hh:aPd ts:=by
  cases ts with
  | nil=>exact Bool.noConfusion h2
  | cons t r=>exact⟨t,r,rfl,h2⟩
 refine⟨by rw[aAk];exact hh,fun g R u=>?_⟩;rw[aAk] at u;have q:=List.map_inj_left.1 (aM3 (g-ts.length) R) ts h;rw[show g-ts.length+ts.length=g by omega] at q;exact aWb h1 hh q
theorem aMa {s:Str}(h:s∈yP):∀d∈sG s,Dcl d:=fun d hd=>by
 obtain⟨ts,ht,rfl⟩:=Cz.1 hd;exact aRv (Cj.2 ⟨s,h,ht⟩)
def aH0 (l:List Str):List Str:=(l.flatMap sG).flatMap (·.sn)
def aVl (l:List Str):List Str:=(l.flatMap sG).flatMap (·.bn)
theorem aEl:yP.all (fun s=>(aH0 [s]).all fun n=>(aVl [s]).any fun m=>decide (m=n))=true:=by kernel_rfl
theorem zR:(aH0 yP).Nodup:=by
 rw[show aH0 yP=[[109,101,109,98,101,114],[116,119,105,99,101]] by kernel_rfl];decide
theorem zS:(yP.flatMap sG).length=32:=by kernel_rfl
theorem aEk:(yP.flatMap (· ++aGl)).length≤2000:=by
 rw[show(yP.flatMap (· ++aGl)).length=1722 by kernel_rfl];decide
theorem pY {α β:Type}(f:α→List β) {l m:List α}(h:l.Sublist m):(l.flatMap f).Sublist (m.flatMap f):=by
 induction h with
 | slnil=>exact List.Sublist.refl _
 | cons a _ q=>rw[Cw];exact q.trans (List.sublist_append_right _ _)
 | cons_cons a _ q=>rw[Cw,Cw];exact(List.Sublist.refl _).append q
theorem aGe:∀{l:List Str},(∀s∈l,s∈yP)→∀{m:Str}{mt:List Tk},LxD m mt→LxD (l.flatMap (· ++aGl)++m) (dZ (l.flatMap sG) mt)
 | [],_,_,_,hm=>hm
 | s::l,h,m,mt,hm=>by
  rw[Cw,Cw,xB,x9,Ae];exact(aL8 (h s Ba)).appD (aGe (fun x hx=>h x (A1 _ hx)) hm)
theorem aK9 {l:List Str}(hl:l.Sublist yP) {E:Str}{y:Sy}(hw:wfY y) (hd:dpY y≤40) (O:LxD E (tkY y)) (hlen:E.length≤1900):(eD (l.flatMap (· ++aGl)++([109,97,105,110,32,61,32]++E))).2.1=0:=by
 have q:∀s∈l,s∈yP:=fun s hs=>hl.subset hs
 have hsz:=(pY (· ++aGl) hl).length_le;have B:=(pY sG hl).length_le;rw[zS] at B;have hps:=aEk;have I:LxD ([109,97,105,110,32,61,32]++E) (nmT 1 [109,97,105,110]::([].map (nmT 1)++syT eqS::tkY y)):=(aP 8 [109,97,105,110,32,61,32] [nmT 1 [109,97,105,110],syT eqS] (by kernel_rfl)).appD O;have u:=(aGe q I).all;obtain⟨L,U,J⟩:=u.lexA (by rw[θ,θ];show _+(7+E.length)≤4000;omega);have ht:=aYi L;rw[J] at ht
 have hp:=aQ3 (l:=l.flatMap sG) (m:=⟨nmT 1 [109,97,105,110]::([].map (nmT 1)++syT eqS::tkY y),[[109,97,105,110]],[]⟩) (fun d hd=>by
  obtain⟨s,hs,hd⟩:=Cj.1 hd
  exact aMa (q s hs) d hd) ⟨_,_,rfl,rfl⟩ (fun g Y=>aI4 (vs:=[]) (ε _) hw hd (by
   rw[χ,Ch,Ak,χ] at Y
   omega) aQk) (by omega) (by
   rw[A3]
   exact zR.sublist (pY (·.sn) (pY sG hl))) (fun x hx=>by
   rw[A3] at hx;obtain⟨d,hd,hx⟩:=Cj.1 hx;obtain⟨s,hs,hd⟩:=Cj.1 hd;have h1:=Av.1 (Av.1 aEl s (q s hs)) x (Cj.2 ⟨d,Cj.2 ⟨s,Ba,hd⟩,hx⟩);obtain⟨m,hm,he⟩:=List.any_eq_true.1 h1;have he:=κ he;subst he;obtain⟨d',r,hm⟩:=Cj.1 hm;obtain⟨s',M,r⟩:=Cj.1 r;rw[A2.1 M] at r
   exact List.mem_append_left _ (Cj.2 ⟨d',Cj.2 ⟨s,hs,r⟩,hm⟩))
 dsimp only at hp;rw[ht] at hp;have h0:(aD0 L).2.e=0:=hp;rw[aHh U,ζ h0];exact h0
def jA (b:Bool):List C:=[.bool b]
def fC (h:List Bool):V:=.one (.c (.sl 1 (h.map jA)))
def aM1 (l:List Int):List C:=[.sl 1 (l.map kQ)]
def uA:List (List Int):=[[],[],[],[],[],[4],[4,13],[0,4,5,14],[4],[5,8],[],[0,10],[2,10],[],[],[0],[0],[0,4,5],[],[],[],[0],[0],[],[0,8,9],[3],[],[1]]
theorem aSu:b9 Tryz.prog 76 [] [] (cJ mW) []:=by
 refine bP (n:=2) tok Tryz.func76 rfl rfl rfl ?_;exact sg rfl (sgh [(0,.all)] rfl (aE rtT))
theorem aSv:b9 Tryz.prog 125 [] [] (.one (.c (.sl 1 (uA.map aM1)))) []:=by
 refine bP (n:=17) tok Tryz.func125 rfl rfl rfl ?_;exact sg rfl (sgh [(0,.all),(1,.all),(2,.all),(3,.all),(4,.all),(5,.all),(6,.all),(7,.all),(8,.all),(9,.all),(10,.all),(11,.all),(12,.all),(13,.all),(14,.all),(15,.all)] rfl (aE rtT))
theorem aRr (c:UInt8) (h:List Bool) (hh:h.length=28):∃k:Nat,(k<2∨k=2∧h[0]?=some true)∧b9 Tryz.prog 127 [I .u8 c.toNat,fC h] [] (I .i64 (k:Nat)) []:=by
 have r:(h.map jA).length=28:=by rw[η];exact hh
 obtain⟨b,hb⟩:=aL (l:=h) (k:=0) (by omega);have q:=aT jA hb;by_cases h1:(c.toNat:Int)=98
 ·refine⟨1,.inl (by decide),?_⟩;have d1:decide ((c.toNat:Int)=98)=true:=φ h1;refine bP (n:=14) tok Tryz.func127 rfl rfl rfl ?_;exact sg rfl (aA (sg rfl (aB rfl (fun _=>sg rfl (aE rtT)) (fun hb=>absurd (hb.symm.trans d1) Bool.noConfusion))))
 have d1:decide ((c.toNat:Int)=98)=false:=ψ h1;by_cases h2:(c.toNat:Int)=108
 ·have d2:decide ((c.toNat:Int)=108)=true:=φ h2;refine⟨if b=true then 2 else 0,?_,?_⟩
  ·cases b
   ·exact .inl (by decide)
   ·exact .inr ⟨rfl,hb⟩
  refine bP (n:=14) tok Tryz.func127 rfl rfl rfl ?_;refine sg rfl (aA (sg rfl (aB rfl (fun hb=>absurd (hb.symm.trans d1) Bool.noConfusion) (fun _=>aD (aA (sgh [(2,.bv true),(4,.row 0 (jA b)),(6,.bv true)] rfl ?_))))));cases b
  ·exact aB rfl nofun (fun _=>aD (sg rfl (aE rtT)))
  ·exact aB rfl (fun _=>sg rfl (aE rtT)) nofun
 have d2:decide ((c.toNat:Int)=108)=false:=ψ h2;refine⟨0,.inl (by decide),?_⟩;refine bP (n:=14) tok Tryz.func127 rfl rfl rfl ?_;exact sg rfl (aA (sg rfl (aB rfl (fun hb=>absurd (hb.symm.trans d1) Bool.noConfusion) (fun _=>aD (aA (sgh [(2,.bv false),(6,.bv false)] rfl (aB rfl nofun (fun _=>aD (sg rfl (aE rtT))))))))))
def jnR (l:List Str):Nat→Str
 | 0=>[]
 | i+1=>(l.take i).flatMap (· ++aGl)++(l[i]?).getD []
theorem aVx (l:List Str) (M:Nat) (h:∀s∈l,s.length≤M):∀i,i≤l.length→(jnR l i).length≤(M+3)*i
 | 0,_=>ε _
 | i+1,hi=>by
  obtain⟨s,hs⟩:=aL (l:=l) (k:=i) (by omega);have h1:=h s (τ hs);have h2:∀j,j≤i→((l.take j).flatMap (· ++aGl)).length≤(M+3)*j:=fun j=>by
   induction j with
   | zero=>intro _;rw[take_zero];exact ε _
   | succ j q=>
    intro hj;obtain⟨t,ht⟩:=aL (l:=l) (k:=j) (by omega);have r:=h t (τ ht);have:=q (by omega);rw[dH ht,List.flatMap_append,θ,Cw,List.flatMap_nil,A3,θ,Nat.mul_succ];show _+(t.length+3)≤_;omega
  have:=h2 i (le_refl _);rw[jnR,hs,θ,Nat.mul_succ];show _+s.length≤_;omega
theorem aSe (l:List Str) (h:∀s∈l,s.length≤4000) (hl:l.length≤100):b9 Tryz.prog 32 [cJ l] [] (Go.AM.T (jnR l l.length)) []:=by
 have U:3000000000≤maxLen:=by decide
 have r:(l.map b7).length=l.length:=η _;refine bP (n:=22) tok Tryz.func32 rfl rfl rfl ?_;refine sg rfl (sg rfl (aA (sg rfl (aF (aK (fun i:Nat=>mk [(0,cJ l),(3,Go.AM.T (jnR l i)),(4,I .i64 (i:Nat))] []) (fun i=>i≤l.length) (fun i=>l.length-i) 0 (ε _) sl ?_)))));intro i hi;refine aA (sg rfl (aB rfl (fun hb=>?_) (fun hb=>?_)))
 ·have q:=ltD hb r;obtain⟨s,hs⟩:=aL q;have M:=aT b7 hs;have O:=h s (τ hs);have u:=aVx l 4000 h i hi;have B:(jnR l i).length≤400300:=le_trans u (le_trans (mul_le_mul_left _ (by omega:i≤100)) (by decide));refine aD (aA (aF (aA (sg rfl ?_))));by_cases h0:i=0
  ·subst h0;refine aB rfl (fun hb=>by simp at hb) (fun _=>aD (ag [(3,.row 0 (b7 s))] rfl (ag [] rfl ?_)));have E:jnR l 1=[]++s:=by rw[jnR,hs];rfl
   exact⟨1,q,by dsimp only;omega,sl (he:=⟨rfl,by rw[E];rfl,rfl,trivial⟩)⟩
  ·obtain⟨i,rfl⟩:∃k,i=k+1:=⟨i-1,by omega⟩
   refine aB rfl (fun _=>ag [] rfl (ag [(3,.row (i+1) (b7 s))] rfl (ag [] rfl ?_))) (fun hb=>by have:=Af hb;omega);obtain⟨t,ht⟩:=aL (l:=l) (k:=i) (by omega);have J:jnR l (i+1+1)=(jnR l (i+1)++aGl)++s:=by
    rw[jnR,jnR,hs,ht,dH ht,List.flatMap_append,Cw,List.flatMap_nil,A3,Cm,Cm];simp only[Ae]
   exact⟨i+1+1,q,by dsimp only;omega,sl (he:=⟨rfl,by rw[J];rfl,rfl,trivial⟩)⟩
 ·have y:=geD hb r hi;subst y;exact aH (sg rfl (aE rtT))
def hasB (h:List Bool) (x:Int):Bool:=decide (x<0) || (h[x.toNat]?).getD false
def lJ (h:List Bool) (l:List (Str×Int)):List Str:=(l.filter fun p=>hasB h p.2).map (·.1)
theorem aCd (h:List Bool) (l m:List (Str×Int)):lJ h (l++m)=lJ h l++lJ h m:=by unfold lJ;rw[filter_append,Al]
theorem aMj {h:List Bool}{l:List (Str×Int)}{s:Str}(hs:s∈lJ h l):s∈l.map (·.1):=by
 obtain⟨p,hp,rfl⟩:=Cz.1 hs;exact Cz.2 ⟨p,(mem_filter.1 hp).1,rfl⟩
theorem aPm (l:List Int) (hl:aP8 l) (hL:l.length≤1000) (i:Nat) (hi:i≤l.length) (h:List Bool) (hh:h.length=28) (z:List (Str×Int)) (hz:z.length≤100) (M:∀p∈z,p.2<28∧ -1≤p.2) (O:∃p∈z,hasB h p.2=true):∃(s:Str) (j:Nat),s∈z.map (·.1)∧j≤l.length∧b9 Tryz.prog 126 [tkP,fC h,cJ (z.map (·.1)),.one (.c (.sl 1 ((z.map (·.2)).map kQ)))] [(750,tkO l i)] (Go.AM.T s) [(750,tkO l j)]:=by
 have hM:3000000000≤maxLen:=by decide
 have U:((z.map (·.1)).map b7).length=z.length:=by rw[η,η]
 have hkx:((z.map (·.2)).map kQ).length=z.length:=by rw[η,η]
 have hkh:(h.map jA).length=28:=by rw[η];exact hh
 have hml:(lJ h z).length≤z.length:=by unfold lJ;rw[η];exact C8 _ _
 have hm0:0<(lJ h z).length:=by
  obtain⟨p,hp,Y⟩:=O;unfold lJ;rw[η];exact List.length_pos_of_mem (mem_filter.2 ⟨hp,Y⟩)
 have hkm:((lJ h z).map b7).length=(lJ h z).length:=η _;obtain⟨v,j,hv,hj,hc⟩:=aCy l hl hL i hi ((lJ h z).map b7).length (by omega) (by omega);obtain⟨s,hs⟩:=aL (l:=lJ h z) (k:=v) (by omega);have hs':=aT b7 hs;refine⟨s,j,aMj (τ hs),hj,?_⟩;refine bP (n:=46) tok Tryz.func126 rfl rfl rfl ?_;refine sg rfl (sg rfl (AWp.sub (Sub.own (t:=9) (id:=500) 9 1 rfl rfl) ?_));refine aA (sg rfl (aF (aK (fun k:Nat=>mk [(0,tkP),(1,fC h),(2,cJ (z.map (·.1))),(3,.one (.c (.sl 1 ((z.map (·.2)).map kQ)))),(9,.one (.hs 500 0 ((lJ h (z.take k)).map b7).length ((lJ h (z.take k)).map b7).length)),(10,I .i64 (k:Nat))] [(500,.arr 9 1 ((lJ h (z.take k)).map b7) 0),(750,tkO l i)]) (fun k=>k≤z.length) (fun k=>z.length-k) 0 (ε _) sl ?_)));intro k aa;refine aA (sg rfl (aB rfl (fun hb=>?_) (fun hb=>?_)))
 ·have r:=ltD hb U;obtain⟨p,hp⟩:=aL r;obtain⟨t,x⟩:=p;have ab:(z.map (·.1))[k]?=some t:=by rw[By,hp];rfl
  have ac:(z.map (·.2))[k]?=some x:=by rw[By,hp];rfl
  have hpt':=aT b7 ab;have hpx':=aT kQ ac;obtain⟨ad,ae⟩:=M _ (τ hp);dsimp only at ad ae;have E:z.take (k+1)=z.take k++[(t,x)]:=dH hp;have hlm:(lJ h (z.take k)).length≤k:=by
   unfold lJ;rw[η];refine le_trans (C8 _ _) ?_;rw[An];omega
  have hlm':((lJ h (z.take k)).map b7).length=(lJ h (z.take k)).length:=η _;refine aD (aA (aF (aA (AWp.cut (mk [(0,tkP),(1,fC h),(2,cJ (z.map (·.1))),(3,.one (.c (.sl 1 ((z.map (·.2)).map kQ)))),(9,.one (.hs 500 0 ((lJ h (z.take k)).map b7).length ((lJ h (z.take k)).map b7).length)),(10,I .i64 (k:Nat)),(31,Go.AM.B (hasB h x))] [(500,.arr 9 1 ((lJ h (z.take k)).map b7) 0),(750,tkO l i)]) ?_ ?_))))
  ·by_cases hx:x<0
   ·have e:hasB h x=true:=by unfold hasB;rw[φ hx];rfl
    rw[e];have d:decide (x<0)=true:=φ hx;exact ag [(2,.row k (kQ x)),(5,.bv true),(14,.bv true)] rfl sl
   ·obtain⟨b,J⟩:=aL (l:=h) (k:=x.toNat) (by omega);have hbx':=aT jA J;have d:decide (x<0)=false:=ψ hx;have e:hasB h x=b:=by unfold hasB;rw[d,J];rfl
    rw[e];have hmx:(if(0:Int)>x then 0 else x)=(x.toNat:Nat):=by rw[ξ (by omega)];omega
    exact ag [(2,.row k (kQ x)),(5,.bv false),(9,.row k (kQ x)),(12,.row x.toNat (jA b)),(14,.bv false)] rfl sl
  ·refine aB rfl (fun u=>?_) (fun u=>?_)
   ·have q:lJ h (z.take (k+1))=lJ h (z.take k)++[t]:=by
     rw[E,aCd];unfold lJ;rw[B9,ζ (show hasB h x=true from u)];rfl
    have y:((lJ h (z.take k)).map b7)++[[.str t]]=(lJ h (z.take (k+1))).map b7:=by rw[q,Al];rfl
    have hle:((lJ h (z.take (k+1))).map b7).length=((lJ h (z.take k)).map b7).length+1:=by rw[←y,θ];rfl
    exact ag [(3,.row k (b7 t)),(5,.all)] rfl (agN [] rfl ⟨k+1,r,by dsimp only;omega,sl (he:=⟨rfl,rfl,rfl,rfl,Go.AM.hs_ren (by rw[hle];rfl) (by rw[hle];rfl),rfl,trivial⟩) (hh:=⟨⟨_,rfl,.arrS y⟩,⟨_,rfl,Go.AM.Ole.var rfl⟩,trivial⟩)⟩)
   ·have q:lJ h (z.take (k+1))=lJ h (z.take k):=by
     rw[E,aCd];unfold lJ;rw[B9,ξ (by rw[show hasB h x=false from u];exact ω)];exact A3 _
    exact aD (agN [] rfl ⟨k+1,r,by dsimp only;omega,sl (he:=⟨rfl,rfl,rfl,rfl,by rw[q];rfl,rfl,trivial⟩) (hh:=⟨⟨_,rfl,.arrS (by rw[q])⟩,⟨_,rfl,Go.AM.Ole.var rfl⟩,trivial⟩)⟩)
 ·have af:=geD hb U aa;subst af;refine aH ?_;rw[Ax];refine AWp.sub (Sub.freeze (id:=500) rfl) ?_;refine AWp.sub (st2:=mk [(0,tkP),(9,cJ (lJ h z))] [(750,tkO l i)]) ?_ ?_
  ·refine Sub.trans ?_ (cv 9 ((lJ h z).map b7));exact sl
  refine sk 4 rfl (kc hc ?_);exact ak 3 [(5,.row v (b7 s))] rfl (az (aE rtT))
inductive ChT (l:List Int):Nat→List Bool→Nat→List Bool→Nat→Prop
 | z (h:List Bool) (i:Nat):ChT l 0 h i h i
 | s {n:Nat} {h:List Bool} {i v j:Nat} {h':List Bool} {j':Nat} (hv:v<28) (hj:j≤l.length) (hc:b9 Tryz.prog 52 [tkP,I .i64 ((28:Nat):Int)] [(750,tkO l i)] (I .i64 (v:Nat)) [(750,tkO l j)]) (k:ChT l n (h.set v true) j h' j'):ChT l (n+1) h i h' j'
theorem ChT.ex {l:List Int}(hl:aP8 l) (q:l.length≤1000):∀(n:Nat) (h:List Bool) (i:Nat),i≤l.length→h.length=28→∃(h':List Bool) (j:Nat),ChT l n h i h' j∧j≤l.length∧h'.length=28
 | 0,h,i,hi,hh=>⟨h,i,.z h i,hi,hh⟩
 | n+1,h,i,hi,hh=>by
  obtain⟨v,j,hv,hj,hc⟩:=aCy l hl q i hi 28 (by decide) (by decide);obtain⟨h',j',h1,h2,r⟩:=ChT.ex hl q n (h.set v true) j hj (by rw[Cx];exact hh);exact⟨h',j',.s hv hj hc h1,h2,r⟩
theorem ChT.zero {l:List Int}{h h':List Bool}{i j:Nat}(k:ChT l 0 h i h' j):h=h'∧i=j:=by cases k;exact⟨rfl,rfl⟩
def aTz (h:List Bool) (l:List Int):List Bool:=l.foldl (fun h x=>h.set x.toNat true) h
def clN:Nat→List Bool→List Bool
 | 0,h=>h
 | i+1,h=>clN i (if(h[i]?).getD false=true then aTz h ((uA[i]?).getD []) else h)
theorem aOk (l:List Int) (h:List Bool):(aTz h l).length=h.length:=by
 unfold aTz
 induction l generalizing h with
 | nil=>rfl
 | cons a l q=>rw[List.foldl_cons,q,Cx]
theorem aI9:∀(i:Nat) (h:List Bool),(clN i h).length=h.length
 | 0,_=>rfl
 | i+1,h=>by
  rw[clN,aI9];split
  ·exact aOk _ _
  ·rfl
theorem aMd:∀l∈uA,l.length≤10∧∀x∈l,0≤x∧x<28:=by decide
theorem aM2 (l:List Int) (hl:aP8 l) (hL:l.length≤1000) (i:Nat) (hi:i≤l.length):∃(h:List Bool) (j:Nat),h.length=28∧j≤l.length∧b9 Tryz.prog 75 [tkP] [(750,tkO l i)] (fC h) [(750,tkO l j)]:=by
 have hM:3000000000≤maxLen:=by decide
 obtain⟨v0,j0,hv0,hj0,hc0⟩:=aCy l hl hL i hi 6 (by decide) (by decide);obtain⟨h1,j1,u,hj1,hh1⟩:=ChT.ex hl hL (1+v0) (List.replicate 28 false) j0 hj0 rfl;have hNd:=aSv;have hkN:(uA.map aM1).length=28:=rfl;obtain⟨H,hH⟩:∃H,clN 28 h1=H:=⟨_,rfl⟩
 have hHl:H.length=28:=by rw[←hH,aI9];exact hh1
 refine⟨H,j1,hHl,hj1,?_⟩;refine bP (n:=56) tok Tryz.func75 rfl rfl rfl ?_;refine sg rfl (aA (aC mixed (kc hNd ?_)));refine kz 1 rfl (sk 2 rfl (k_ (g_ rfl rfl (wF (m:=(uA.map aM1).length) (c:=.bool false) (id:=720) tok rfl rfl (j8 rfl) (tg rfl) rfl (tg rfl) rfl rfl rfl rfl (by decide) (by decide) rfl)) ?_));refine kz 1 rfl (aA (sk 1 rfl (kc hc0 ?_)));refine akN 2 [] rfl (az (aF (aK (fun x:Nat×List Bool×Nat=>mk [(0,tkP),(3,.one (.c (.sl 1 (uA.map aM1)))),(4,.one (.hs 720 0 28 28)),(5,I .i64 (x.1:Nat))] [(720,.arr 4 1 (x.2.1.map jA) 0),(750,tkO l x.2.2)]) (fun x=>x.1≤6∧x.2.1.length=28∧ChT l x.1 x.2.1 x.2.2 h1 j1) (fun x=>x.1) (1+v0,List.replicate 28 false,j0) ⟨by dsimp only;omega,rfl,u⟩ sl ?_)));rintro⟨n,h,k⟩ ⟨hn,hh,u⟩;dsimp only at hn hh u ⊢;have hkh:(h.map jA).length=28:=by rw[η];exact hh
 refine aA (sg rfl (aB rfl (fun hb=>?_) (fun hb=>?_)))
 ·have h0:0<n:=by have:=κ hb;omega
  obtain⟨n,rfl⟩:∃m,n=m+1:=⟨n-1,by omega⟩
  cases u with
  | s hv hj hc u=>
  rename_i v j;obtain⟨b,hbv⟩:=aL (l:=h) (k:=v) (by omega);have hbv':=aT jA hbv;refine aD (aA (aF (aC mixed (ak 4 [] rfl (kc hc ?_)))));exact ak 2 [(6,.row v (jA b))] rfl (az (ag [] rfl ⟨(n,h.set v true,j),⟨by dsimp only;omega,by dsimp only;rw[Cx];exact hh,u⟩,by dsimp only;omega,sl (he:=⟨rfl,rfl,rfl,by rw[show((n:Nat):Int)=((n+1:Nat):Int)-1 by omega];rfl,trivial⟩) (hh:=⟨⟨_,rfl,.arrS (by rw[map_set];rfl)⟩,⟨_,rfl,Go.AM.Ole.var rfl⟩,trivial⟩)⟩))
 have hn0:n=0:=by have:=Af hb;omega
 subst hn0;obtain⟨rfl,rfl⟩:=u.zero;clear hb hn u;refine aH (aA (sg rfl (aF (aK (fun x:Nat×List Bool=>mk [(3,.one (.c (.sl 1 (uA.map aM1)))),(4,.one (.hs 720 0 28 28)),(6,I .i64 ((x.1:Nat)-1:Int))] [(720,.arr 4 1 (x.2.map jA) 0),(750,tkO l k)]) (fun x=>x.1≤28∧x.2.length=28∧clN x.1 x.2=H) (fun x=>x.1) (28,h) ⟨le_refl _,hh,hH⟩ sl ?_))));clear hH;rintro⟨m,g⟩ ⟨hm,J,y⟩;dsimp only at hm J y ⊢;have U:(g.map jA).length=28:=by rw[η];exact J
 refine aA (sg rfl (aB rfl (fun hb=>?_) (fun hb=>?_)))
 ·have h0:0<m:=by have:=κ hb;omega
  obtain⟨m,rfl⟩:∃q,m=q+1:=⟨m-1,by omega⟩
  obtain⟨b,Y⟩:=aL (l:=g) (k:=m) (by omega);have hbm':=aT jA Y;obtain⟨r,E⟩:=aL (l:=uA) (k:=m) (by show m<28;omega);have hns':=aT aM1 E;obtain⟨hnl,hnx⟩:=aMd r (τ E);have e1:((m+1:Nat):Int)-1=(m:Nat):=by omega
  rw[e1];refine aD ?_;rw[clN,Y,E,Cm,Cm] at y;cases b
  ·rw[ξ ω] at y;exact aA (aF (aA (sgh [(3,.row m (jA false))] rfl (aB rfl (fun _=>aH (ag [] rfl ⟨(m,g),⟨by dsimp only;omega,J,y⟩,by dsimp only;omega,sl⟩)) nofun))))
  ·rw[ζ rfl] at y;have aa:(r.map kQ).length=r.length:=η _;refine aA (aF (aA (sgh [(3,.row m (jA true))] rfl (aB rfl nofun (fun _=>aD (sg rfl (aF (aK (fun x:Nat×List Bool=>mk [(3,.one (.c (.sl 1 (uA.map aM1)))),(4,.one (.hs 720 0 28 28)),(6,I .i64 (m:Nat)),(7,I .i64 (x.1:Nat))] [(720,.arr 4 1 (x.2.map jA) 0),(750,tkO l k)]) (fun x=>x.1≤r.length∧x.2.length=28∧aTz x.2 (r.drop x.1)=aTz g r) (fun x=>r.length-x.1) (0,g) ⟨ε _,J,rfl⟩ sl ?_))))))));rintro⟨q,f⟩ ⟨hq,M,O⟩;dsimp only at hq M O ⊢;have hkf:(f.map jA).length=28:=by rw[η];exact M
   refine aA (sgh [(3,.row m (aM1 r))] rfl (aB rfl (fun hb=>?_) (fun hb=>?_)))
   ·have B:=ltD hb aa;obtain⟨x,hx⟩:=aL B;have hx':=aT kQ hx;obtain⟨hx0,hx1⟩:=hnx x (τ hx);obtain⟨c,hc⟩:=aL (l:=f) (k:=x.toNat) (by omega);have hc':=aT jA hc;refine aD (aA (aF (ag [(3,.row m (aM1 r)),(6,.row q (kQ x)),(8,.row x.toNat (jA c)),(9,.row x.toNat (jA c))] rfl (ag [] rfl ?_))))
    exact⟨(q+1,f.set x.toNat true),⟨B,by dsimp only;rw[Cx];exact M,by
     dsimp only;rw[←O,Ay B];rw[Cy B] at hx;injection hx with hx
     rw[hx];rfl⟩,by dsimp only;omega,sl (he:=⟨rfl,rfl,rfl,rfl,trivial⟩) (hh:=⟨⟨_,rfl,.arrS (by rw[map_set];rfl)⟩,⟨_,rfl,Go.AM.Ole.var rfl⟩,trivial⟩)⟩
   have hge:=geD hb aa hq;subst hge;rw[Cc] at O;exact aH (ag [] rfl ⟨(m,f),⟨by dsimp only;omega,M,by dsimp only;rw[show f=aTz g r from O];exact y⟩,by dsimp only;omega,sl⟩)
 have hm0:m=0:=by have:=Af hb;omega
 subst hm0;rw[clN] at y;subst y;refine aH (AWp.sub (st2:=mk [(4,.one (.hs 720 0 (g.map jA).length (g.map jA).length))] [(720,.arr 4 1 (g.map jA) 0),(750,tkO l k)]) (sl (he:=⟨Go.AM.hs_ren U.symm U.symm,trivial⟩)) ?_);refine AWp.sub (Sub.freeze (id:=720) rfl) ?_;refine AWp.sub (st2:=mk [(4,fC g)] [(750,tkO l k)]) ?_ ?_
 ·refine Sub.trans ?_ (cv 4 (g.map jA));exact sl
 exact sg rfl (aE rtT)
end Go.Proofs.YtpmheldmadendaaGreatDoor
