/-
  The law: its row and its card.
-/
import Derived.Test.YtglfogjcijokpaaGreatDoorM15
import Derived.Test.YtglfogjcijokpaaGreatDoorCards
import Derived.Test.YtglfogjcijokpaaGreatDoorTie
import Derived.ProofKit
import Derived.Lib.LaidTab
import Derived.Stop.LaidErr
import Derived.OpenShut
import Derived.LaidMore
import Derived.Lay
import Derived.SevenTiedAt
import Derived.Stop.Joined
open List (all_eq_true append_nil length_append length_cons length_nil mem_cons mem_cons_of_mem mem_cons_self mem_singleton nodup_nil)
open Nat (le_refl le_trans mul_le_mul mul_le_mul_left zero_le)
namespace Go.Proofs.YtglfogjcijokpaaGreatDoor
open Go Go.AM
set_option maxRecDepth 20000
set_option maxHeartbeats 4000000
theorem aWn:eG Tryz.prog 109:=rH (by kernel_rfl)
theorem a0u:eG Tryz.prog 110:=rH (by kernel_rfl)
theorem aNv:eG Tryz.prog 111:=rH (by kernel_rfl)
theorem a0v:eG Tryz.prog 112:=rH (by kernel_rfl)
theorem aTo:eG Tryz.prog 113:=rH (by kernel_rfl)
theorem sZ:eG Tryz.prog 114:=rH (by kernel_rfl)
theorem aNt:eG Tryz.prog 115:=rH (by kernel_rfl)
theorem a0t:eG Tryz.prog 116:=rH (by kernel_rfl)
theorem oS:eG Tryz.prog 117:=rH (by kernel_rfl)
theorem aNu:eG Tryz.prog 118:=rH (by kernel_rfl)
theorem aWo:eG Tryz.prog 119:=rH (by kernel_rfl)
section
variable {w:Wd}(hw:w.fields=FL)
include hw
theorem aIx {i:Nat}{x:Fld}(hx:FL[i]?=some x) (hi:aBr (fun y:Fld=>decide (y.name=x.name)) FL 0=(i:Int)):aQ Tryz.prog 139 [.pa (eM w),Go.AM.T x.name] [] (.pa (cR x)) []:=by
 rw[←hw] at hx hi;exact aQ9 w (by rw[hw];decide) x.name hx hi
omit hw in
theorem yP {nm:Str}{a b:Int}{k:Nat}{ty:Ty}(h:aQ Tryz.prog 139 [.pa (eM w),Go.AM.T nm] [] (.pa (cR ⟨nm,a,b,k,ty⟩)) []):ofV w (tO nm) ty:=tQ w (tO nm) rfl rfl a0u (aZ6 w 2 0 nm zTy [] [] [] h)
theorem w_N:aQ Tryz.prog 139 [.pa (eM w),Go.AM.T [78]] [] (.pa (cR ⟨[78],0,2,0,tal [97] eS⟩)) []:=aIx hw (i:=0) rfl rfl
theorem w_C:aQ Tryz.prog 139 [.pa (eM w),Go.AM.T [67]] [] (.pa (cR ⟨[67],1,2,2,tal [97] (bT fA (bT eS eS))⟩)) []:=aIx hw (i:=1) rfl rfl
theorem w_P:aQ Tryz.prog 139 [.pa (eM w),Go.AM.T [80]] [] (.pa (cR ⟨[80],0,1,2,tal [97] (tal [98] (bT fA (bT fB iX)))⟩)) []:=aIx hw (i:=2) rfl rfl
theorem w_F:aQ Tryz.prog 139 [.pa (eM w),Go.AM.T [70,97,108,115,101]] [] (.pa (cR ⟨[70,97,108,115,101],0,2,0,tcn qQ⟩)) []:=aIx hw (i:=3) rfl rfl
theorem w_T:aQ Tryz.prog 139 [.pa (eM w),Go.AM.T [84,114,117,101]] [] (.pa (cR ⟨[84,114,117,101],1,2,0,tcn qQ⟩)) []:=aIx hw (i:=4) rfl rfl
end
theorem aHw {U:Ty}{l:List (Str×Ty)}:bP fA (([97],U)::l)=U:=by
 show bP (.mk 2 0 [97] []) _=_;rw[bP,ξ rfl,Cp];rfl
theorem a19 {U W:Ty}:bP fB [([97],U),([98],W)]=W:=by
 show bP (.mk 2 0 [98] []) _=_;rw[bP,ξ rfl,Cp,Cp];rfl
theorem aSn {U:Ty}:bP fB [([97],U)]=fB:=by
 show bP (.mk 2 0 [98] []) _=_;rw[bP,ξ rfl,Cp,List.find?_nil];rfl
theorem aYs {U:Ty}{l:List (Str×Ty)}:bP fB (([98],U)::l)=U:=by
 show bP (.mk 2 0 [98] []) _=_;rw[bP,ξ rfl,Cp];rfl
theorem aUp {U:Ty}{l:List (Str×Ty)}:bP eS (([97],U)::l)=tLs U:=by
 show bP (tLs fA) _=_;rw[nJ,aHw]
theorem a18 {U:Ty}:bP (bT fA (bT eS eS)) [([97],U)]=bT U (bT (tLs U) (tLs U)):=by
 rw[gZ,gZ,aHw,aUp]
theorem a17 {d:Nat}{U:Ty}(h:TW (VO d) U):bP (tal [98] (bT fA (bT fB iX))) [([97],U)]=tal [98] (bT U (bT fB (tPr U fB))):=by
 have hb:¬[98]∈tfR U:=fun hx=>by
  obtain⟨k,_,e⟩:=aHa.1 (h.tf _ hx);exact absurd (List.cons.inj e).1 (by decide)
 have q:unF [98] (bT fA (bT fB iX)) [([97],U)]=[([97],U)]:=rfl;have I:¬[98]∈unC (unF [98] (bT fA (bT fB iX)) [([97],U)]):=by
  rw[q];intro hx;obtain⟨p,hp,hx⟩:=aBw.1 hx;rw[ζ.1 hp] at hx;exact hb hx
 show bP (.mk 5 0 [98] [bT fA (bT fB iX)]) _=_;rw[bP,φ (by decide),φ (by decide),ξ rfl];show Ty.mk 5 0 (unN [98] (bT fA (bT fB iX)) [([97],U)]) (dX [bT fA (bT fB iX)] (unP [98] (bT fA (bT fB iX)) [([97],U)]))=_;have J:unN [98] (bT fA (bT fB iX)) [([97],U)]=[98]:=by unfold unN;rw[φ I]
 have N:unP [98] (bT fA (bT fB iX)) [([97],U)]=[([97],U)]:=by unfold unP;rw[φ I,q]
 rw[J,N,dX,dX,gZ,gZ,aHw,aSn,show iX=tPr fA fB from rfl,yS,aHw,aSn];rfl
theorem aYr {d:Nat}{U W:Ty}(h:TW (VO d) U):bP (bT U (bT fB (tPr U fB))) [([98],W)]=bT U (bT W (tPr U W)):=by
 have hu:bP U [([98],W)]=U:=h.id fun hx=>by
  obtain⟨k,_,e⟩:=aHa.1 hx;exact absurd (List.cons.inj e).1 (by decide)
 rw[gZ,gZ,yS,hu,aYs]
section
variable {w:Wd}(hw:w.fields=FL) (he:w.env.length≤100000)
include hw he
theorem aXh (b:Bool) (c:Core):aQ Tryz.prog 147 [.pa (eM w),tyV eU,.pa (c6 (.mk 1 0 (if b then [84,114,117,101] else [70,97,108,115,101]) [] c))] [] (.pa (eM w)) []:=by
 have hs:∀(s:Str) (i:Int),aQ Tryz.prog 169 [.pa (cR ⟨s,i,2,0,tcn qQ⟩)] [] (.tup [.one (.c (.sl 4 (([]:List Ty).map aO))),Go.AM.T qQ,bI []]) []:=fun s i=>
  y4 s i 2 [] [] qQ (tcn qQ) (jK _) rfl (by simp) (by decide) (by decide) (by simp) (fun j=>by cases j<;>rfl) (by decide)
 have hp:=oN eU rfl (by decide);have e:spR eU=(.mk 3 0 qQ [],[]):=jK _;rw[e] at hp;have r:w.with_ (([]:List Str).zip (([]:List Ty).map id))=w:=wB w;cases b with
 | true=>
  have h:=oM w eU 0 [84,114,117,101] [] c id (w_T hw) (hs _ _) hp rfl rfl (by decide) he (by simp) (fun f hf=>by cases hf);rw[r] at h;exact h
 | false=>
  have h:=oM w eU 0 [70,97,108,115,101] [] c id (w_F hw) (hs _ _) hp rfl rfl (by decide) he (by simp) (fun f hf=>by cases hf);rw[r] at h;exact h
theorem a1k {U:Ty}(q:NT U) (c:Core):aQ Tryz.prog 147 [.pa (eM w),tyV (tLs U),.pa (c6 (.mk 1 0 [78] [] c))] [] (.pa (eM w)) []:=by
 have hs:aQ Tryz.prog 169 [.pa (cR ⟨[78],0,2,0,tal [97] eS⟩)] [] (.tup [.one (.c (.sl 4 (([]:List Ty).map aO))),Go.AM.T [76],bI [[97]]]) []:=
  y4 [78] 0 2 [[97]] [] [76] eS rfl rfl (by simp) (by decide) (by decide) (by simp) (fun j=>by cases j<;>rfl) (by decide)
 have hp:=oN (tLs U) (rL rfl q.w) (by unfold tLs;rw[kG,jK];show 1≤_;decide);have e:spR (tLs U)=(.mk 3 0 [76] [],[U]):=by unfold tLs;rw[kG,jK];rfl
 rw[e] at hp;have r:w.with_ (([]:List Str).zip (([]:List Ty).map id))=w:=wB w;have h:=oM w (tLs U) 0 [78] [] c id (w_N hw) hs hp rfl rfl (by decide) he (by simp) (fun f hf=>by cases hf);rw[r] at h;exact h
theorem aXg (I:dA 540000000000) {d:Nat}{U:Ty}(J:TW (VO d) U) (hd:d≤700000) {x y:Str}(hxy:¬x=y) (c:Core):aQ Tryz.prog 147 [.pa (eM w),tyV (tLs U),.pa (c6 (.mk 1 0 [67] [x,y] c))] [] (.pa (eM (w.with_ [(x,U),(y,tLs U)]))) []:=by
 have hs:aQ Tryz.prog 169 [.pa (cR ⟨[67],1,2,2,tal [97] (bT fA (bT eS eS))⟩)] [] (.tup [.one (.c (.sl 4 ([fA,eS].map aO))),Go.AM.T [76],bI [[97]]]) []:=
  y4 [67] 1 2 [[97]] [fA,eS] [76] eS rfl rfl (by simp) (by decide) (by decide) (fun f hf=>by rcases Ai.1 hf with rfl | hf;rfl;rw[ζ.1 hf];rfl) (fun j=>by match j with | 0=>rfl | 1=>rfl | 2=>rfl | j+3=>rfl) (by decide)
 have hp:=oN (tLs U) (rL rfl J.nt.w) (by unfold tLs;rw[kG,jK];show 1≤_;decide);have e:spR (tLs U)=(.mk 3 0 [76] [],[U]):=by unfold tLs;rw[kG,jK];rfl
 rw[e] at hp;have q:=J.one hd [97]
 have h:=oM w (tLs U) 0 [67] [x,y] c (fun f=>bP f [([97],U)]) (w_C hw) hs hp rfl rfl (by decide) he (by simpa using hxy) (fun f hf=>by
  rcases Ai.1 hf with rfl | hf
  ·exact(jG I _ fA (le_refl _) rfl (by show fvm (.mk 2 0 _ [])≤_;rw[pI];decide) _ q).2
  ·rw[ζ.1 hf]
   exact(jG I _ eS (le_refl _) rfl (by have:=(TW.lst (TW.var (V:=[[97]]) (s:=[97]) η)).fv.1;exact le_trans this (by decide)) _ q).2)
 rw[show [x,y].zip ([fA,eS].map fun f=>bP f [([97],U)])=[(x,U),(y,tLs U)] by show [(x,bP fA _),(y,bP eS _)]=_;rw[aHw,aUp]] at h;exact h
theorem a1j (I:dA 540000000000) {d:Nat}{U W:Ty}(J:TW (VO d) U) (N:TW (VO d) W) (hd:d≤700000) {x y:Str}(hxy:¬x=y) (c:Core):aQ Tryz.prog 147 [.pa (eM w),tyV (tPr U W),.pa (c6 (.mk 1 0 [80] [x,y] c))] [] (.pa (eM (w.with_ [(x,U),(y,W)]))) []:=by
 have hs:aQ Tryz.prog 169 [.pa (cR ⟨[80],0,1,2,tal [97] (tal [98] (bT fA (bT fB iX)))⟩)] [] (.tup [.one (.c (.sl 4 ([fA,fB].map aO))),Go.AM.T [80],bI [[97],[98]]]) []:=
  y4 [80] 0 1 [[97],[98]] [fA,fB] [80] iX rfl rfl (by simp) (by decide) (by decide) (fun f hf=>by rcases Ai.1 hf with rfl | hf;rfl;rw[ζ.1 hf];rfl) (fun j=>by match j with | 0=>rfl | 1=>rfl | 2=>rfl | j+3=>rfl) (by decide)
 have e:spR (tPr U W)=(.mk 3 0 [80] [],[U,W]):=by unfold tPr;rw[kG,kG,jK];rfl
 have hp:=oN (tPr U W) (rL (rL rfl J.nt.w) N.nt.w) (by rw[e];show 2≤_;decide);rw[e] at hp;have q:=J.two N hd (nm:=[97]) (nm':=[98]) (by decide)
 have h:=oM w (tPr U W) 0 [80] [x,y] c (fun f=>bP f [([97],U),([98],W)]) (w_P hw) hs hp rfl rfl (by decide) he (by simpa using hxy) (fun f hf=>by
  rcases Ai.1 hf with rfl | hf
  ·exact(jG I _ fA (le_refl _) rfl (by show fvm (.mk 2 0 _ [])≤_;rw[pI];decide) _ q).2
  ·rw[ζ.1 hf]
   exact(jG I _ fB (le_refl _) rfl (by show fvm (.mk 2 0 _ [])≤_;rw[pI];decide) _ q).2)
 rw[show [x,y].zip ([fA,fB].map fun f=>bP f [([97],U),([98],W)])=[(x,U),(y,W)] by show [(x,bP fA _),(y,bP fB _)]=_;rw[aHw,a19]] at h;exact h
end
theorem EnV.two {w:Wd}{V:List Str}{Γ:Env}(h:EnV w V Γ) {u q:Ty}(hu:TW V u) (I:TW V q) (x y:Str):EnV (w.with_ [(x,bP u w.ps),(y,bP q w.ps)]) V (upd (upd Γ x u) y q):=by
 have:=(h.more hu x).more I y;rw[aD1] at this;exact this
theorem TW.of_lst {V:List Str}{a:Ty}(h:TW V (tLs a)):TW V a:=by
 generalize e:tLs a=t at h;cases h with
 | lst h=>rw[aB9 e];exact h
 | var h=>simp[tLs] at e
 | int=>exact absurd e n6
 | bool=>exact absurd e nZ
 | pr h1 h2=>exact absurd e vD
 | fn h1 h2=>exact absurd e.symm fF
theorem TW.of_pr {V:List Str}{a b:Ty}(h:TW V (tPr a b)):TW V a∧TW V b:=by
 generalize e:tPr a b=t at h;cases h with
 | lst h=>exact absurd e.symm vD
 | var h=>simp[tPr] at e
 | int=>exact absurd e aFh
 | bool=>exact absurd e aCv
 | pr h1 h2=>rw[(aB8 e).1,(aB8 e).2];exact⟨h1,h2⟩
 | fn h1 h2=>exact absurd e.symm oC
theorem PsV.more {w:Wd}{V:List Str}(h:PsV w V) (l:List (Str×Ty)):PsV (w.with_ l) V:=⟨h.nd,h.ok,h.mem,h.len⟩
theorem aY0 (J:dA 540000000000) {V:List Str}{Γ:Env}{c:Core}{t:Ty}(h:WT V Γ c t):∀w:Wd,w.fields=FL→PsV w V→EnV w V Γ→w.deep+dJ c≤1000→w.env.length+2*dJ c≤4000→ofV w c (bP t w.ps):=by
 induction h with
 | @var V Γ s t h=>
  intro w hw hp he hd hl;exact tQ w (vC s) rfl rfl aWn (aWc w 1 0 s zTy [] [] [] (by omega) (he.la s t h))
 | int=>
  intro w hw hp he hd hl;rw[q9];exact tQ w (gN _) rfl rfl aNv (aM5 w _)
 | @bool V Γ b=>
  intro w hw hp he hd hl;rw[mZ];cases b with
  | true=>exact yP (w:=w) (w_T hw)
  | false=>exact yP (w:=w) (w_F hw)
 | @nil V Γ u h=>
  intro w hw hp he hd hl;have O:=hp.tw h;have hs:=(jG J _ eS (le_refl _) rfl (by have:=(TW.lst (TW.var (V:=[[97]]) (s:=[97]) η)).fv.1;exact le_trans this (by decide)) _ (O.one (by omega) [97])).2
  rw[aUp] at hs;rw[nJ];exact tQ w _ rfl rfl sZ (sV w 0 [] u (tO [78]) (gE J w (hp.ps (by omega)) u h.nt.w (hp.fv h (by omega))) (yP (w:=w) (w_N hw)) hs)
 | @cons V Γ u h=>
  intro w hw hp he hd hl;have O:=hp.tw h;have Z:=TW.lst (TW.var (V:=[[97]]) (s:=[97]) η);have hs:=(jG J _ (bT fA (bT eS eS)) (le_refl _) rfl (by have:=(TW.fn (TW.var (V:=[[97]]) (s:=[97]) η) (TW.fn Z Z)).fv.1;exact le_trans this (by decide)) _ (O.one (by omega) [97])).2
  rw[a18] at hs;rw[gZ,gZ,nJ];exact tQ w _ rfl rfl sZ (sV w 0 [] u (tO [67]) (gE J w (hp.ps (by omega)) u h.nt.w (hp.fv h (by omega))) (yP (w:=w) (w_C hw)) hs)
 | @pair V Γ u v h1 h2=>
  intro w hw hp he hd hl;have O:=hp.tw h1;have hW:=hp.tw h2;have hs:=(jG J _ (tal [98] (bT fA (bT fB iX))) (le_refl _) rfl (by decide+kernel) _ (O.one (by omega) [97])).2
  rw[a17 O] at hs;have hB:TW ([98]::VO w.deep) fB:=.var η;have hU':TW ([98]::VO w.deep) (bP u w.ps):=O.weak fun x hx=>ω _ hx
  have hT:=TW.fn hU' (.fn hB (.pr hU' hB));have aa:=(jG J _ (bT (bP u w.ps) (bT fB (tPr (bP u w.ps) fB))) (le_refl _) hT.nt.w (by have:=hT.fv.1;rw[Ak,w8] at this;omega) _ (hW.one (by omega) [98])).2
  rw[aYr O] at aa;rw[gZ,gZ,yS];have h3:ofV w (.mk 6 0 [] u [tO [80]] [] []) (tal [98] (bT (bP u w.ps) (bT fB (tPr (bP u w.ps) fB)))):=tQ w _ rfl rfl sZ (sV w 0 [] u (tO [80]) (gE J w (hp.ps (by omega)) u h1.nt.w (hp.fv h1 (by omega))) (yP (w:=w) (w_P hw)) hs);exact tQ w _ rfl rfl sZ (sV w 0 [] v _ (gE J w (hp.ps (by omega)) v h2.nt.w (hp.fv h2 (by omega))) h3 aa)
 | @app V Γ f a u t hf ha q I=>
  intro w hw hp he hd hl;have hft:=TW.of_fn (hf.tw he.tw);simp only[dJ,bF,bW,cB] at hd hl;have h1:=q w hw hp he (by omega) (by omega);have h2:=I w hw hp he (by omega) (by omega);rw[gZ] at h1;exact tQ w _ rfl rfl a0v (aZ7 w 0 [] zTy f a (hp.tw hft.1).nt (hp.tw hft.2).nt h1 h2)
 | @lam V Γ s b u t hu hb ih=>
  intro w hw hp he hd hl;simp only[dJ,bF,bW,cB] at hd hl;have N:=he.more hu s;have h1:=ih (w.with_ [(s,bP u w.ps)]) hw (hp.more _) N (by show w.deep+_≤_;omega) (by show(w.env++[_]).length+_≤_;rw[τ];simp only[Be,List.length_nil];omega);rw[gZ];exact tQ w _ rfl rfl aTo (aTh w 0 s u b (hp.tw hu).nt (hp.tw (hb.tw N.tw)).nt (by omega) (gE J w (hp.ps (by omega)) u hu.nt.w (hp.fv hu (by omega))) h1)
 | @tt V W Γ Δ s p b u t hV hΓ hs ht hu hb ih=>
  intro w hw hp he hd hl;simp only[dJ,bF,bW,cB] at hd hl;have ab:=hp.sub hV;have hp':=ab.all s;have hd':(w.all_ s (tvO w.deep)).deep=w.deep+1:=rfl;have hsv:TW (s::W) (vT s):=.var η;have hvar:=ab.all_var s;have hT0:=ab.tw ht;have O:=hp.tw hu
  have he1:EnV (w.all_ s (tvO w.deep)) (s::W) Δ:=⟨fun x z hx=>(hΓ x z hx).2.weak fun y hy=>ω _ hy,fun x z hx=>by
   have:=he.la x z (hΓ x z hx).1;rw[ab.all_id (hΓ x z hx).2 hs]
   exact this⟩
  have N:=he1.more hsv p;have h1:=ih ((w.all_ s (tvO w.deep)).with_ [(p,bP (vT s) (w.all_ s (tvO w.deep)).ps)]) hw (hp'.more _) N (by show w.deep+1+_≤_;omega) (by show(w.env++[_]).length+_≤_;rw[τ];simp only[Be,List.length_nil];omega);have hm:=gE J (w.all_ s (tvO w.deep)) (hp'.ps (by rw[hd'];omega)) (vT s) hsv.nt.w (hp'.fv hsv (by rw[hd'];omega));have h1:ofV ((w.all_ s (tvO w.deep)).with_ [(p,bP (vT s) (w.all_ s (tvO w.deep)).ps)]) b (bP t (w.all_ s (tvO w.deep)).ps):=h1;rw[ab.all_id ht hs,hvar] at h1;rw[hvar] at hm;have h2:ofV (w.all_ s (tvO w.deep)) (.mk 5 0 p (vT s) [b] [] []) (bT (vT (tvO w.deep)) (bP t w.ps)):=tQ _ _ rfl rfl aTo (aTh _ 0 p (vT s) b (NT.var _) hT0.nt (by show w.env.length+1≤_;omega) hm h1);have hTt:TW (tvO w.deep::VO w.deep) (bT (vT (tvO w.deep)) (bP t w.ps)):=.fn (.var η) (hT0.weak fun x hx=>ω _ hx);have h3:ofV w (.mk 7 0 s zTy [.mk 5 0 p (vT s) [b] [] []] [] []) (.mk 5 0 (tvO w.deep) [bT (vT (tvO w.deep)) (bP t w.ps)]):=tQ w _ rfl rfl aNt (aM4 J w 0 s zTy _ (by have:=hp.len;omega) (by omega) hTt.nt.own h2);have aa:=(jG J _ (bT (vT (tvO w.deep)) (bP t w.ps)) (le_refl _) hTt.nt.w (by have:=hTt.fv.1;rw[Ak,w8] at this;omega) _ (O.one (by omega) (tvO w.deep))).2
  rw[mR,pY,ξ rfl,hT0.id (a03 _)] at aa;rw[gZ];exact tQ w _ rfl rfl sZ (sV w 0 [] u _ (gE J w (hp.ps (by omega)) u hu.nt.w (hp.fv hu (by omega))) h3 aa)
 | @lt V Γ s b c u t hu hb hc q I=>
  intro w hw hp he hd hl;simp only[dJ,bF,bW,cB] at hd hl;have N:=he.more hu s;have Y:(w.with_ [(s,bP u w.ps)]).env.length=w.env.length+1:=by show(w.env++[_]).length=_;simp
  have h1:=q (w.with_ [(s,bP u w.ps)]) hw (hp.more _) N (by show w.deep+_≤_;omega) (by rw[Y];omega);have h2:=I (w.with_ [(s,bP u w.ps)]) hw (hp.more _) N (by show w.deep+_≤_;omega) (by rw[Y];omega);exact tQ w _ rfl rfl a0t (aZ5 w 0 [] zTy c [.mk s u b] (aRa w s u b (hp.tw hu).nt (by omega) (gE J w (hp.ps (by omega)) u hu.nt.w (hp.fv hu (by omega))) h1) h2)
 | @cbool V Γ c a b t ht hc ha hb q I ac=>
  intro w hw hp he hd hl;simp only[dJ,bF,bW,cB] at hd hl;have h1:=q w hw hp he (by omega) (by omega);rw[mZ] at h1;refine tQ w _ rfl rfl oS (oJ w 0 [] t c _ (hp.tw ht).nt (by simp) h1 (gE J w (hp.ps (by omega)) t ht.nt.w (hp.fv ht (by omega))) fun x hx=>⟨w,?_⟩);rcases Ai.1 hx with rfl | hx
  ·exact⟨aXh hw (by omega) true a,I w hw hp he (by omega) (by omega)⟩
  ·rw[ζ.1 hx];exact⟨aXh hw (by omega) false b,ac w hw hp he (by omega) (by omega)⟩
 | @cint V Γ n c a b t ht hc ha hb q I ac=>
  intro w hw hp he hd hl;simp only[dJ,bF,bW,cB] at hd hl;have h1:=q w hw hp he (by omega) (by omega);rw[q9] at h1;refine tQ w _ rfl rfl oS (oJ w 0 [] t c _ (hp.tw ht).nt (by simp) h1 (gE J w (hp.ps (by omega)) t ht.nt.w (hp.fv ht (by omega))) fun x hx=>⟨w,?_⟩);rcases Ai.1 hx with rfl | hx
  ·exact⟨aRf w n [] [] a,I w hw hp he (by omega) (by omega)⟩
  ·rw[ζ.1 hx];exact⟨aRe w fM 0 [] [] b,ac w hw hp he (by omega) (by omega)⟩
 | @cl1 V Γ x y c a u t hxy ht hc ha q I=>
  intro w hw hp he hd hl;simp only[dJ,bF,bW,cB] at hd hl;have h1:=q w hw hp he (by omega) (by omega);have Z:=hc.tw he.tw;have hu:=TW.of_lst Z;have O:=hp.tw hu;have N:=he.two hu Z x y;rw[nJ] at h1 N;have Y:(w.with_ [(x,bP u w.ps),(y,tLs (bP u w.ps))]).env.length=w.env.length+2:=by show(w.env++[_,_]).length=_;simp
  refine tQ w _ rfl rfl oS (oJ w 0 [] t c _ (hp.tw ht).nt (by simp) h1 (gE J w (hp.ps (by omega)) t ht.nt.w (hp.fv ht (by omega))) fun z hz=>?_);rw[ζ.1 hz];exact⟨_,aXg hw (by omega) J O (by omega) hxy a,I _ hw (hp.more _) N (by show w.deep+_≤_;omega) (by rw[Y];omega)⟩
 | @cl2 V Γ x y c a b u t hxy ht hc ha hb q I ac=>
  intro w hw hp he hd hl;simp only[dJ,bF,bW,cB] at hd hl;have h1:=q w hw hp he (by omega) (by omega);have Z:=hc.tw he.tw;have hu:=TW.of_lst Z;have O:=hp.tw hu;have N:=he.two hu Z x y;rw[nJ] at h1 N;have Y:(w.with_ [(x,bP u w.ps),(y,tLs (bP u w.ps))]).env.length=w.env.length+2:=by show(w.env++[_,_]).length=_;simp
  refine tQ w _ rfl rfl oS (oJ w 0 [] t c _ (hp.tw ht).nt (by simp) h1 (gE J w (hp.ps (by omega)) t ht.nt.w (hp.fv ht (by omega))) fun z hz=>?_);rcases Ai.1 hz with rfl | hz
  ·exact⟨_,aXg hw (by omega) J O (by omega) hxy a,I _ hw (hp.more _) N (by show w.deep+_≤_;omega) (by rw[Y];omega)⟩
  ·rw[ζ.1 hz];exact⟨w,a1k hw (by omega) O.nt b,ac w hw hp he (by omega) (by omega)⟩
 | @cp V Γ x y c a u v t hxy ht hc ha q I=>
  intro w hw hp he hd hl;simp only[dJ,bF,bW,cB] at hd hl;have h1:=q w hw hp he (by omega) (by omega);obtain⟨hu,hv⟩:=TW.of_pr (hc.tw he.tw);have N:=he.two hu hv x y;rw[yS] at h1;have Y:(w.with_ [(x,bP u w.ps),(y,bP v w.ps)]).env.length=w.env.length+2:=by show(w.env++[_,_]).length=_;simp
  refine tQ w _ rfl rfl oS (oJ w 0 [] t c _ (hp.tw ht).nt (by simp) h1 (gE J w (hp.ps (by omega)) t ht.nt.w (hp.fv ht (by omega))) fun z hz=>?_);rw[ζ.1 hz];exact⟨_,a1j hw (by omega) J (hp.tw hu) (hp.tw hv) (by omega) hxy a,I _ hw (hp.more _) N (by show w.deep+_≤_;omega) (by rw[Y];omega)⟩
 | @pint V Γ s a b hs ha hb q I=>
  intro w hw hp he hd hl;simp only[dJ,bF,bW,cB] at hd hl;have h1:=q w hw hp he (by omega) (by omega);have h2:=I w hw hp he (by omega) (by omega);rw[q9] at h1 h2 ⊢
  exact tQ w _ rfl rfl aNu (aNk w 0 s zTy [a,b] (le_refl _) (fun x hx=>by
   rcases Ai.1 hx with rfl | hx
   ·exact h1
   ·rw[ζ.1 hx];exact h2) (.inl ⟨hs,rfl⟩))
 | @pbool V Γ s a b hs ha hb q I=>
  intro w hw hp he hd hl;simp only[dJ,bF,bW,cB] at hd hl;have h1:=q w hw hp he (by omega) (by omega);have h2:=I w hw hp he (by omega) (by omega);rw[q9] at h1 h2;rw[mZ]
  exact tQ w _ rfl rfl aNu (aNk w 0 s zTy [a,b] (le_refl _) (fun x hx=>by
   rcases Ai.1 hx with rfl | hx
   ·exact h1
   ·rw[ζ.1 hx];exact h2) (.inr ⟨hs,rfl⟩))
 | @fail V Γ t ht=>
  intro w hw hp he hd hl;exact tQ w _ rfl rfl aWo (aV3 w 11 0 [] t [] [] [] (gE J w (hp.ps (by omega)) t ht.nt.w (hp.fv ht (by omega))))
theorem aWk (l:List Fld) (c:Core) {T:Ty}(h:ofV ⟨l,[],[],0⟩ c T):aQ Tryz.prog 26 ([R.vp 3 0,R.vp 4 0,R.vp 5 0,R.vp 6 0].map V.one) [(3,.var 23 [.c (.sl 8 (l.map cR))]),(4,.var 72 [.c .nl]),(5,.var 34 (b8 c)),(6,.var 30 [.c (.int .i64 0),.c (.int .i64 0),.c (.str []),.c .nl])] (.tup []) [(3,.var 23 [.c (.sl 8 (l.map cR))]),(4,.var 72 [.c .nl]),(5,.var 34 (b8 c)),(6,.var 30 ((aO T).map R.c))]:=by
 have h:aQ Tryz.prog 27 [.pa (eM ⟨l,[],[],0⟩),.pa (aC c)] [] (tyV T) []:=h;refine bM (n:=9) tok Tryz.func26 rfl rfl rfl ?_;refine aE mixed (ak 4 [] rfl (kc h ?_));exact kz 1 rfl ⟨.inl rfl,⟨_,_,.nil,.nil,rfl⟩,⟨⟨_,rfl,.var rfl⟩,⟨_,rfl,.var rfl⟩,⟨_,rfl,.var rfl⟩,⟨_,rfl,.var rfl⟩,trivial⟩,rfl⟩
theorem aTn (l:List Fld) (c:Core) {T T':Ty}(h:ofV ⟨l,[],[],0⟩ c T) (hs:aQ Tryz.prog 28 [tyV T,bI [],aR9 []] [] (tyV T') []):aQ Tryz.prog 8 [.one (.c (.sl 8 (l.map cR))),.one (.c .nl),.pa (aC c)] [] (.tup [tyV T',I .i64 0]) []:=by
 have ht:=aV4 (l.map cR) .nl c T (aWk l c h);refine bM (n:=16) tok Tryz.func8 rfl rfl rfl ?_;refine sg rfl (a8 (sk 1 rfl (kc ht ?_)));refine kz 1 rfl (sg rfl (aA rfl nofun (fun _=>aD (sk 1 rfl (kc hs ?_)))));exact kz 2 rfl (aF ⟨.inr rfl,⟨_,_,.cell rfl (tg rfl) rfl rfl rfl (.tmp rfl .nil),.cons (.pa (.c .refl (.c .refl (.c .refl (.c .refl .nil))))) (.cons .refl .nil),rfl⟩,trivial,rfl⟩)
inductive NL (D x:Str):Str→Ty→Prop
 | var:NL D x (35::D) (.mk 2 0 x [])
 | con (s:Str):NL D x s (.mk 3 0 s [])
 | app {p q:Str} {a b:Ty} (ha:NL D x p a) (hb:NL D x q b):NL D x ([40]++p++[32]++q++[41]) (.mk 4 0 [] [a,b])
theorem aY1 (D o:Str) (O:D.length≤21) {n:Nat}{u:Ty}(h:GT n u) (hu:∀z∈tfR u,z=[97]):∃p:Str,p.length≤30*n∧NL D [97] p u∧NL D o p (bP u [([97],vT o)]):=by
 induction h with
 | var s hs=>
  have e:s=[97]:=hu s (by show s∈tfR (vT s);rw[tT];exact ζ.2 rfl);subst e;refine⟨35::D,by rw[Ak];omega,.var,?_⟩;show NL D o _ (bP (vT [97]) _);rw[pY,ξ rfl];exact .var
 | con s hs=>
  refine⟨s,by omega,.con s,?_⟩;rw[uC];exact .con s
 | @app m k a b ha hb J N=>
  obtain⟨p,h1,h2,h3⟩:=J fun z I=>hu z (oX (by decide) (by simp) I (.inl (by decide)))
  obtain⟨q,g1,g2,g3⟩:=N fun z I=>hu z (oX (by decide) (by simp) I (.inl (by decide)))
  refine⟨[40]++p++[32]++q++[41],by simp;omega,.app h2 g2,?_⟩;rw[uD];exact .app h3 g3
theorem a3f {D x:Str}(hD:D.length≤21) (hd:aQ Tryz.prog 67 [I .i64 0] [] (Go.AM.T D) []) {p:Str}{t:Ty}(h:NL D x p t):p.length≤100000→aQ Tryz.prog 29 [tyV t,bI [x]] [] (Go.AM.T p) []:=by
 have hM:1000000000≤maxLen:=by decide
 induction h with
 | var=>
  intro hp;refine bM (n:=91) tok Tryz.func29 rfl rfl rfl ?_;refine sg rfl (a8 (sg rfl (aB (sg rfl (aA rfl nofun (fun _=>sg rfl (aA rfl (fun _=>a8 (sg rfl (aB (aK (fun _:Unit=>mk [(1,bI [x]),(2,.one (.vp 2 0)),(5,I .i64 0)] [(2,.var 30 ((aO (.mk 2 0 x [])).map R.c))]) (fun _=>True) (fun _=>0) () trivial sl ?_)))) nofun)))))));intro _ _;refine a8 (sg rfl (aA rfl (fun hb=>aD (a8 (aB (sgh [(2,.row 0 (bL x))] rfl (aA rfl (fun _=>sk 5 rfl ?_ (hc:=by repeat (first | exact trivial | refine⟨by first | rfl | omega | (simp;omega) | (unfold Ty.name;simp;omega) | (simp;done),?_⟩))) (fun hb=>absurd rfl (χ hb))))))) nofun));refine kc hd ?_;refine ak 2 [] rfl ?_ (hc:=by repeat (first | exact trivial | refine⟨by first | rfl | omega | (simp;omega) | (unfold Ty.name;simp;omega) | (simp;done),?_⟩));exact az (aF rtT)
 | con s=>
  intro hp;refine bM (n:=91) tok Tryz.func29 rfl rfl rfl ?_;exact sg rfl (a8 (sg rfl (aB (sg rfl (aA rfl nofun (fun _=>sg rfl (aA rfl nofun (fun _=>sg rfl (aA rfl (fun _=>sg rfl (aF rtT)) nofun)))))))))
 | @app p q a b ha hb J N=>
  intro hp;simp only[τ,Ak,length_nil] at hp;have c1:=J (by omega);have c2:=N (by omega);obtain⟨af,an,O,W⟩:=a;obtain⟨Y,Z,sb,ba⟩:=b;refine bM (n:=91) tok Tryz.func29 rfl rfl rfl ?_;refine sg rfl (a8 (sg rfl (aB (sg rfl (aA rfl nofun (fun _=>sg rfl (aA rfl nofun (fun _=>sg rfl (aA rfl nofun (fun _=>sg rfl (aA rfl nofun (fun _=>aD (a8 (a8 (agF 4 [] rfl rfl rfl (aA rfl (fun hb=>by simp[Ty.form,gD,dQ] at hb) (fun _=>aD (skh 5 [(2,.row 0 (aO (.mk af an O W)))] rfl (kc c1 ?_)))))))))))))))))));refine ak 7 [(10,.row 1 (aO (.mk Y Z sb ba)))] rfl ?_ (hc:=by repeat (first | exact trivial | refine⟨by first | rfl | omega | (simp;omega) | (unfold Ty.name;simp;omega) | (simp;done),?_⟩));refine kc c2 ?_;refine ak 3 [] rfl ?_ (hc:=by repeat (first | exact trivial | refine⟨by first | rfl | omega | (simp;omega) | (unfold Ty.name;simp;omega) | (simp;done),?_⟩));exact az (aF rtT)
theorem a0s {x S:Str}{u:Ty}(J:S.length≤100000) (s2:aQ Tryz.prog 29 [tyV u,bI [x]] [] (Go.AM.T S) []):aQ Tryz.prog 29 [tyV (.mk 5 0 x [u]),bI []] [] (Go.AM.T ([91]++S++[93])) []:=by
 have N:1000000000≤maxLen:=by decide
 obtain⟨q,un,us,I⟩:=u;refine bM (n:=91) tok Tryz.func29 rfl rfl rfl ?_;refine sg rfl (a8 (sg rfl (aB (sg rfl (aA rfl nofun (fun _=>sg rfl (aA rfl nofun (fun _=>sg rfl (aA rfl nofun (fun _=>sg rfl (aA rfl (fun _=>a8 (sg rfl (aA rfl (fun hb=>by simp[gD,dQ] at hb) (fun _=>aD (sg rfl (sgh [(2,.all)] rfl (skh 9 [(2,.row 0 (aO (.mk q un us I))),(8,.fz)] rfl (kc s2 ?_)))))))) nofun)))))))))));refine ak 3 [] rfl ?_ (hc:=by repeat (first | exact trivial | refine⟨by first | rfl | omega | (simp;omega) | (unfold Ty.name;simp;omega) | (simp;done),?_⟩));exact az (aF rtT)
theorem aV8 {n:Nat}{u:Ty}(o:Str) (h:GT n u) (hn:n≤1000) (hu:∀z∈tfR u,z=[97]):aQ Tryz.prog 9 [tyV (.mk 5 0 o [bP u [([97],vT o)]]),tyV (.mk 5 0 [97] [u])] [] (B true) []:=by
 obtain⟨D,q,hd⟩:=aMw 0 (by unfold i64;omega);obtain⟨p,hp,h1,h2⟩:=aY1 D o q h hu;have c2:=a0s (x:=[97]) (by omega) (a3f q hd h1 (by omega));have c1:=a0s (x:=o) (by omega) (a3f q hd h2 (by omega));have e:decide ([91]++p++[93]=[91]++p++[93])=true:=Ah rfl;refine bM (n:=10) tok Tryz.func9 rfl rfl rfl ?_;refine sg rfl (sk 1 rfl (kc c1 ?_));refine ak 1 [] rfl (kc c2 ?_);refine kz 2 rfl ?_;rw[show B true=B (decide ([91]++p++[93]=[91]++p++[93])) by rw[e]];exact aF rtT
theorem aV7 {n:Nat}{t:Ty}(h:GT n t) (hn:n≤100000):aQ Tryz.prog 9 [tyV t,tyV t] [] (B true) []:=by
 obtain⟨s,⟨h1,q⟩,c1⟩:=pM h hn;obtain⟨af,an,I,J⟩:=t;have e:decide (s=s)=true:=Ah rfl;refine bM (n:=10) tok Tryz.func9 rfl rfl rfl ?_;refine sg rfl (sk 1 rfl (kc c1 ?_));refine ak 1 [] rfl (kc c1 ?_);refine kz 2 rfl ?_;rw[show B true=B (decide (s=s)) by rw[e]];exact aF rtT
theorem aJg {V:List Str}{t:Ty}(h:TW V t):bP t []=t:=by
 induction h with
 | @var s h=>rw[bP,ξ rfl];rfl
 | int=>exact q9 _
 | bool=>exact mZ _
 | lst _ J=>rw[nJ,J]
 | pr _ _ q I=>rw[yS,q,I]
 | fn _ _ q I=>rw[gZ,q,I]
def a3w (t:Ty) (x:Core):Prop:=∃n u c0,GT n u∧n≤33∧t=.mk 5 0 [97] [u]∧TW [[97]] u∧x=.mk 7 0 [97] zTy [c0] [] []∧WT [[97]] e0 c0 u
structure KI (n:Nat) (t:Ty) (x:Core):Prop where
 q:dD (QL 403) x
 s:bE x≤570000000000
 st:dJ x≤6000→ST n V0 x
 w:(∃n,GT n t∧n≤29∧TW [] t∧WT [] e0 x t)∨a3w t x
theorem aSo:PsOk []:=⟨nodup_nil,fun p hp=>(by cases hp),Aj _⟩
def w0:Wd:=⟨FL,[],[],0⟩
theorem pv0:PsV w0 []:=⟨nodup_nil,fun p hp=>(by cases hp),fun v hv=>(by cases hv),le_refl _⟩
theorem ev0 (V:List Str) (d:Nat) (ps:List (Str×Ty)):EnV ⟨FL,[],ps,d⟩ V e0:=⟨fun x t h=>(by cases h),fun x t h=>(by cases h)⟩
theorem aVe (J:dA 540000000000) {n:Nat}{t:Ty}{x:Core}(h:KI n t x) (hs:dJ x<300):∃T,aQ Tryz.prog 8 [.one (.c (.sl 8 (FL.map cR))),.one (.c .nl),.pa (aC x)] [] (.tup [tyV T,I .i64 0]) []∧aQ Tryz.prog 9 [tyV T,tyV t] [] (B true) []:=by
 rcases h.w with⟨m,g1,g2,g3,g4⟩ | ⟨m,u,c0,g1,g2,rfl,g4,rfl,g6⟩
 ·have h1:=aY0 J g4 w0 rfl pv0 (ev0 _ _ _) (by show 0+_≤_;omega) (by show 0+_≤_;omega);have e:bP t w0.ps=t:=aJg g3;rw[e] at h1;have hs:=(jG J _ t (le_refl _) g3.nt.w (by have:=g3.fv.1;exact le_trans this (by decide)) [] aSo).2
  rw[aJg g3] at hs;exact⟨t,aTn FL x h1 hs,aV7 g1 (by omega)⟩
 ·have N:dJ (.mk 7 0 [97] zTy [c0] [] [])=1+dJ c0:=by simp only[dJ,bF,bW,cB];omega
  rw[N] at hs;have hp:PsV w0 []:=pv0;have W:=hp.all [97];have h1:=aY0 J g6 (w0.all_ [97] (tvO 0)) rfl W (ev0 _ _ _) (by show 0+1+_≤_;omega) (by show 0+_≤_;omega);have q:TW (VO 1) (bP u (w0.all_ [97] (tvO 0)).ps):=W.tw g4;have h2:ofV w0 (.mk 7 0 [97] zTy [c0] [] []) (.mk 5 0 (tvO 0) [bP u [([97],vT (tvO 0))]]):=tQ w0 _ rfl rfl aNt (aM4 J w0 0 [97] zTy c0 (by decide) (by decide) q.nt.own h1);have q:TW (VO 1) (bP u [([97],vT (tvO 0))]):=q;have hw:wfS (.mk 5 0 (tvO 0) [bP u [([97],vT (tvO 0))]])=true:=by rw[wfS,φ (by decide),ξ rfl,wC,wC,q.nt.w];rfl
  have hf:fvm (.mk 5 0 (tvO 0) [bP u [([97],vT (tvO 0))]])≤700000:=by
   have e1:=q.fv.1;have O:=fK (tfR (.mk 5 0 (tvO 0) [bP u [([97],vT (tvO 0))]])) (VO 1) (wE _) fun z N=>by
    obtain⟨v,hv,h3,_⟩:=qB (by decide) N;rw[ζ.1 hv] at h3;exact q.tf z h3
   rw[w8] at e1 O;rw[fvm,yM,yM];omega
  have Y:=(jG J _ _ (le_refl _) hw hf [] aSo).2
  have e:bP (.mk 5 0 (tvO 0) [bP u [([97],vT (tvO 0))]]) []=.mk 5 0 (tvO 0) [bP u [([97],vT (tvO 0))]]:=by
   generalize hRe:bP u [([97],vT (tvO 0))]=R at *;have O:unF (tvO 0) R []=[]:=rfl;have Z:¬tvO 0∈unC (unF (tvO 0) R []):=by rw[O];exact fun h=>by obtain⟨p,hp,_⟩:=aBw.1 h;cases hp
   rw[bP,φ (by decide),φ (by decide),ξ rfl];show Ty.mk 5 0 (unN (tvO 0) R []) (dX [R] (unP (tvO 0) R []))=_;have e4:unN (tvO 0) R []=tvO 0:=by unfold unN;rw[φ Z]
   have e5:unP (tvO 0) R []=[]:=by unfold unP;rw[φ Z,O]
   rw[e4,e5,dX,dX,aJg q]
  rw[e] at Y;exact⟨_,aTn FL _ h2 Y,aV8 (tvO 0) g1 (by omega) fun z N=>by have:=g4.tf z N;simpa using this⟩
theorem aVf (hI:dA 540000000000) {n:Nat}{t:Ty}{x:Core}(hn:n≤20) (h:KI n t x) (hs:dJ x<300):¬(qO [] x).2=51∧((qO [] x).2=0→KI (n+1) t (qO [] x).1):=by
 have hV:V0.length≤480000:=by have:=aTw;omega
 have hB:BI V0 ([]:List Bind):=⟨by show 0≤1000;omega,fun b hb=>by cases hb⟩
 have W:=h.st (by omega);unfold qO;cases I:shC x with
 | true=>
  rw[ξ rfl];exact⟨by show ¬(21:Int)=51;decide,fun e=>absurd (show(21:Int)=0 from e) (by decide)⟩
 | false=>
  rw[φ A5];rcases h.w with⟨m,k1,k2,k3,hw⟩ | ⟨m,u,c0,g1,g2,rfl,g4,rfl,g6⟩
  case inr=>exact absurd rfl (aJ2.1 I).2.1
  have J:=aT8 [] (m30 x) x t (le_refl _) hw h.q I;have hok:=wJ hI (n:=n) (by omega) hV hB (m30 x) x (le_refl _) W;generalize dR [] (m30 x) x=p at *;obtain⟨r,e⟩:=p;by_cases he:e=0
  ·subst he;rw[ξ rfl];have O:=hok rfl;have Y:WT [] e0 r t:=by
    rcases J with⟨_,h2,_⟩ | h | h
    ·exact h2
    ·exact absurd (show(0:Int)=52 from h) (by decide)
    ·exact absurd (show(0:Int)=53 from h) (by decide)
   have hm1:=l9 x h.q;have N:m30 x≤160797:=by have:403*dJ x≤403*399:=C2 _ (by omega);omega
   have hm3:m30 x*m30 x≤160797*160797:=mul_le_mul N N;have Z:=O.sz;have hmr:m30 r≤500000000:=by show m30 r≤_;dsimp only at Z;omega
   exact⟨by show ¬(0:Int)=51;decide,fun _=>⟨O.q,by have:=cV r;show bE r≤_;omega,O.st,.inl ⟨m,k1,k2,k3,Y⟩⟩⟩
  ·have aa:¬((r,e):CE).2=0:=he;rw[φ aa];refine⟨?_,fun h=>absurd h he⟩;rcases J with⟨h1,_⟩ | h | h
   ·exact absurd h1 he
   ·have h:e=52:=h;subst h;show ¬(52:Int)=51;decide
   ·have h:e=53:=h;subst h;show ¬(53:Int)=51;decide
def mFk:Mod:=⟨FL,[]⟩
theorem aDm (l:List Int) (hl:aW0 l) (hf:Fits l):aQ Tryz.prog 3 [a2f l] [] (B true) []:=by
 have hI:dA 540000000000:=fun k hk=>aNl k (by omega)
 have hV:V0.length≤480000:=by have:=aTw;omega
 have hBI:BI V0 mFk.binds:=⟨by show 0≤1000;omega,fun b hb=>by cases hb⟩
 obtain⟨c,t,mc,gc,hmc,hwt,htc⟩:=aVv l hl hf;have O:=a2l gc hmc
 have hE0:KI 0 t c:=⟨O.m.q,by have:=cV c;have:=O.s;omega,fun _=>O.st 0,by
  rcases hwt with⟨n,h1,h2,h3,h4⟩ | h
  ·exact .inl ⟨n,h1,h2,h3,h4⟩
  ·exact .inr h⟩
 have hfl:=aRm;have W:=aNj;refine bM (n:=54) tok Tryz.func3 rfl rfl rfl ?_;refine sg rfl (a8 (aE mixed (kc hfl ?_)));refine kz 3 rfl (sgh [(1,.pc (.tup [.pa (aC c),tyV t]))] rfl (a8 (sg rfl (aB (aK (fun p:Nat×Core=>mk [(3,.one (.vp 3 0)),(4,.one (.vp 4 0)),(5,.one (.vp 5 0)),(6,I .i64 p.1)] [(3,.var 27 [.c (.sl 8 (FL.map cR)),.c .nl]),(4,.var 34 (b8 p.2)),(5,.var 30 ((aO t).map R.c))]) (fun p=>p.1≤20∧KI p.1 t p.2) (fun p=>20-p.1) (0,c) ⟨Aj _,hE0⟩ sl ?_)))));rintro⟨i,x⟩ ⟨hi,hx⟩;dsimp only at hi hx ⊢;by_cases hlt:i<20
 case neg=>
  have e1:decide ((i:Int)<20)=false:=Am (by omega);refine a8 (sgh [(2,.bv false),(6,.bv false)] rfl (aA rfl nofun (fun _=>aL (a8 (aE mixed (kc W ?_))))));exact kz 1 rfl (aF rtT)
 have e1:decide ((i:Int)<20)=true:=Ah (by omega);have Z:=aGu (bE x) x (le_refl _) hx.s;refine a8 (skh 4 [(2,.bv true)] rfl (kcG Z ?_));refine ak 2 [(2,.bv true),(6,.bv true)] rfl (az (aA rfl (fun hb=>?_) (fun hb=>?_)))
 case refine_2=>
  refine aL (a8 (aE mixed (kc W ?_)));exact kz 1 rfl (aF rtT)
 have N:dJ x<300:=by have:=ψ hb;omega
 have hst:=hx.st (by omega);have J:=aNs hI (n:=i) (by omega) hV a25 (m:=mFk) hBI hst;rw[show qO mFk.binds x=qO [] x from rfl] at J;obtain⟨T,hty,hsm⟩:=aVe hI hx N;obtain⟨Y,hok⟩:=aVf hI (by omega) hx N;refine aD ?_;generalize qO [] x=sf at J hok Y;obtain⟨nx,en⟩:=sf;dsimp only at hok Y;refine a8 (aB (sk 3 rfl (kc hty ?_)));refine kz 6 rfl (a8 (skh 5 [(2,.bv false)] rfl (kcG hsm ?_)));refine ak 2 [(2,.bv false),(7,.bv false)] rfl (az (aA rfl nofun (fun _=>aD (sk 2 rfl (kc J ?_)))));refine kz 6 rfl (a8 (sg rfl (aA rfl (fun hb=>absurd (ψ hb) Y) (fun _=>aD (a8 (sg rfl (aA rfl (fun hb=>?_) (fun hb=>?_))))))))
 ·refine aL (a8 (aE mixed (kc W ?_)));exact kz 1 rfl (aF rtT)
 ·have he:en=0:=by simpa using hb
  exact aD (ag [] rfl (ag [] rfl ⟨(i+1,nx),⟨by omega,hok he⟩,by dsimp only;omega,sl⟩))
end Go.Proofs.YtglfogjcijokpaaGreatDoor
namespace Go.Proofs.YtglfogjcijokpaaGreatDoor
open Go Go.ChangeShapes Go.WideShapes Go.ChangeAt Go.RowKit Go.AM
theorem Tryz.own:ownKnob Tryz.prog.godebug=none:=by kernel_rfl
theorem Tryz.laidOut:laidOutB Tryz.prog=true:=by kernel_rfl
theorem aPh:Rows.laid_internal_strconv_uint64pow10 (H:=Unit)=Lib.tabData .u64 Lib.pow10Tab:=by kernel_rfl
theorem aXr {W:World}(h:laidMetH Tryz.prog Rows.stepKeepsRow.laid W):aR3 W:=by
 rw [MakeChecks.laidMetH_plain _ _ _ (by kernel_rfl)] at h;have h3 := laidMet.tail (laidMet.tail h);rw [aPh] at h3;have ht := Lib.tabIs_of_head (g := 0) (t := 211) (e := 205) (n := 20) (by kernel_rfl) (by kernel_rfl) (by kernel_rfl) (by kernel_rfl) (by kernel_rfl) (by kernel_rfl) h3;intro g I;cases I;unfold Lib.TabIs World.var? at ht;rw [show Tryz.prog.globalNamed "internal/strconv.uint64pow10" = some 0 by kernel_rfl] at ht;simp only [Cl] at ht;split at ht
 ·rename_i cs t fr q;simp only[Option.some.injEq] at ht;subst ht;exact⟨bZ q,t,fr,q⟩
 ·cases ht
set_option maxRecDepth 100000 in
theorem qN (os:Os) (started:os.Started) (H:Type) (enc:TypeId×Value→H):
  ReturnsInHanded {} Tryz.checked os 3 .any (fun w args=>(Rows.stepKeepsSpec.pre enc Tryz.prog Tryz.f3 Rows.stepKeepsRow.domain false w args∧laidMetH Tryz.prog Rows.stepKeepsRow.laid w)∧sizedMet enc Tryz.prog Tryz.f3 (OpenSpec.ofChange Rows.stepKeepsSpec) false w args)
   (Rows.stepKeepsSpec.post enc Tryz.prog Tryz.f3 false true false false):=by
 refine returnsInHanded_of_change_and (C:=Tryz.checked) (X:=fun w _=>laidMetH Tryz.prog Rows.stepKeepsRow.laid w) (fun _ _ _ hh h=>h.of_heap hh) Tryz.own started (by kernel_rfl) Tryz.func3
  (ChangeSpec.witness_shaped (enc:=enc) (C:=Tryz.checked) (os:=os) (X:=fun w _=>laidMetH Tryz.prog Rows.stepKeepsRow.laid w) false (World.laidAll Tryz.prog os Rows.stepKeepsRow.laid) #[.slice none 0 0] 8 (World.laidAll_os _ _ _)
   (World.shaped_of_ZipB (by kernel_rfl) (by kernel_rfl)) (by kernel_rfl) (by kernel_rfl) (by kernel_rfl)
   (by rw[MakeChecks.laidMetH_plain _ _ _ (by kernel_rfl)];exact laidMet_laidAll _ (by kernel_rfl) (by kernel_rfl))) ?_
 intro W base args ds gs before I hW hcnd hwt hL _
 have J:∀(j:Nat) t v,Tryz.f3.params[j]?=some t→args[j]?=some v→Value.okWide Tryz.prog W .any base t v:=I
 have N:=hW
 obtain⟨p0,q,Y,hV,rfl,hfz,hnd⟩:=hW
 have hA:DataW.TrodAll enc Tryz.prog W 0 (fun _=>true) true Tryz.f3.params.toList args.toList ds p0:=Y
 rw[Tryz.params3] at hA J
 obtain⟨v0,d0,rfl,rfl,h0⟩:=trodAll_one hA
 obtain⟨rfl,rfl⟩:=trodVars_none hV
 obtain⟨l0,O,hr0,xl0,yl0,hd0⟩:=aH0 Tryz.underlying22 Tryz.underlying3 (by kernel_rfl) (J 0 22 v0 rfl rfl) h0
 clear Y I
 simp only[A8] at N
 have aa:∀x∈p0,x.block<W.heap.size:=fun x hx=>by simpa using N.lt x (hx)
 have ab:(DataW.weightsEach Tryz.prog (Tryz.f3.params.toList++Rows.stepKeepsSpec.plain.varTypes Tryz.prog) ([d0]++[])).all (· ≤reachBytes)=true:=hwt
 have hf0:Fits l0:=by
  unfold Fits
  rcases hd0 with⟨_,hd⟩ | ⟨rfl,hd⟩
  ·rw[hd];simp
  ·have:=sized_slice ab (j:=0) (t:=22) (e:=3) rfl rfl Tryz.underlying22
   rw[show Tryz.prog.bytesOf 3=8 by kernel_rfl] at this
   have hb:=reachBytes_lt
   omega
 refine(aL8 (aDm l0 hr0 hf0) W (vals:=[v0]) ⟨_,_,rfl,O,rfl⟩ (ht:=aXr hL)).mono fun e W' ⟨v,S,μ,he,Z,hv⟩=>?_
 subst he
 rw[aWl hv]
 have hp0:=Below.trod Tryz.laidOut (by kernel_rfl) (ψ (by kernel_rfl)) h0 Z aa
 exact⟨_,rfl,⟨_,_,_,[],_,[],N,trodAll_mk1 (shut_bool Tryz.underlying4 true),trodAll_mk1 hp0,rfl,Z.frame _,fun h=>by cases h⟩⟩
theorem rU:Rows.StepKeepsSaid:=
 OpenClaim.holds_of_wide 3 Tryz.f3 rfl rfl rfl rfl rfl rfl rfl ⟨rfl,rfl,rfl,rfl,rfl⟩ rfl rfl rfl rfl rfl (by kernel_rfl) Tryz.func3 (by kernel_rfl)
  (ψ (by kernel_rfl)) (by unfold Func.isWrapper;first | (rw[ξ (by decide+kernel)];kernel_rfl) | (rw[φ (by decide+kernel)];exact⟨rfl,rfl⟩))
  (fun os started H enc _=>qN os started H enc)
theorem stepKeeps_card_holds:Rows.StepKeepsCardSaid:=
 Claim7.holds_tied_plain_at .later [] [.data, .data, .data] true (true, "6ebf21afe3b7e687cb628f0191eafcd7ce56dd9308fd046576f7914058221a01") true rU (fun _ h => by cases h) (by kernel_rfl) (fun _ h => by cases h) stepKeeps_row_tie rfl ⟨rfl, rfl⟩ (by kernel_rfl) rfl
  (fun f fn hf I=>by
   obtain rfl : f = 3 := Option.some.inj ((show Tryz.prog.funcNamed "fugue/fuguelaw22.StepKeeps" = some 3 by kernel_rfl).symm.trans hf) |>.symm;obtain rfl : fn = Tryz.f3 := (Option.some.inj (Tryz.func3.symm.trans I)).symm
   exact⟨by kernel_rfl,fun j t ht=>by
    rw[Tryz.params3] at ht;have hm:t∈[22]:=by
     have:=Array.mem_of_getElem? ht;simp at this;simp
     first | omega | (rcases this with h | h | h<;>simp[h])
    have q:([22].all fun u=>!Tryz.prog.wantsStandIn u)=true:=by kernel_rfl
    exact(show Tryz.prog.wantsStandIn t=false by simpa using Au.1 q t hm)⟩)
  (by kernel_rfl)
end Go.Proofs.YtglfogjcijokpaaGreatDoor
