/-
  Texts Ls6 to Lg3 in one.
-/
import Derived.Test.YtnjaiimffoninaaGreatDoorM6
open List (all_append all_cons all_eq_true append_assoc append_nil cons_append drop_eq_getElem_cons drop_length filter_cons flatMap_append flatten_cons length_append length_cons length_drop length_map length_nil length_take map_append map_congr_left map_cons map_map map_nil mem_append mem_cons mem_cons_of_mem mem_cons_self mem_map mem_singleton nil_append nodup_append nodup_cons nodup_nil not_mem_nil range_succ set_append_right set_cons_succ set_eq_take_append_cons_drop take_add_one take_length take_succ_cons)
open Nat (add_zero ble_eq_true_of_le eq_of_beq_eq_true le_add_left le_of_ble_eq_true le_refl le_trans min_eq_left sub_self zero_add zero_le)
namespace Go.Proofs.YtnjaiimffoninaaGreatDoor
open Go Go.AM
set_option maxRecDepth 20000
set_option maxHeartbeats 4000000
def a1s (l:List Ty):V:=.one (.c (.sl 4 (l.map c7)))
def unF (nm:Str) (body:Ty) (l:List (Str×Ty)):List (Str×Ty):=l.filter fun p=>!decide (p.1=nm)&&decide (p.1∈tfR body)
def unC (l:List (Str×Ty)):List Str:=l.flatMap fun p=>tfR p.2
noncomputable def unN (nm:Str) (body:Ty) (l:List (Str×Ty)):Str:=if nm∈unC (unF nm body l) then bE (unC (unF nm body l)++tfR body) else nm
noncomputable def unP (nm:Str) (body:Ty) (l:List (Str×Ty)):List (Str×Ty):=if nm∈unC (unF nm body l) then unF nm body l++[(nm,.mk 2 0 (unN nm body l) [])] else unF nm body l
theorem aTo {nm:Str}{body:Ty}{l:List (Str×Ty)}{i:Nat}{p:Str×Ty}(h:l[i]?=some p):unF nm body (l.take (i+1))=if(!decide (p.1=nm)&&decide (p.1∈tfR body))=true then unF nm body (l.take i)++[p] else unF nm body (l.take i):=by
 unfold unF;rw[Bt,h,List.filter_append];show _++List.filter _ [p]=_;rw[Dc];split<;>simp
theorem aVv (nm:Str) (body b':Ty) (ps:List (Str×Ty)) (hl:ps.length≤1000000000) (hfr:aW Tryz.prog 116 [tyV body] [] (eE (tfR body)) []) (hfl:(tfR body).length≤400000000) (Z:aW Tryz.prog 151 [Go.AM.T (unN nm body ps),tyV b'] [] (tyV (.mk 5 0 (unN nm body ps) [b'])) [])
  (hps:∀p∈ps,aW Tryz.prog 116 [tyV p.2] [] (eE (tfR p.2)) []∧(tfR p.2).length≤400000000) (hc:(unC (unF nm body ps)).length≤540000000000∧∀i,(unC (unF nm body (ps.take i))).length≤540000000000) (hI:j2 ((unC (unF nm body ps)).length+(tfR body).length))
  (hS:aW Tryz.prog 118 [tyV body,eE ((unP nm body ps).map (·.1)),a1s ((unP nm body ps).map (·.2))] [] (tyV b') []):
  aW Tryz.prog 149 [tyV (.mk 5 0 nm [body]),eE (ps.map (·.1)),a1s (ps.map (·.2))] [] (tyV (.mk 5 0 (unN nm body ps) [b'])) []:=by
 have hk1:((ps.map (·.1)).map bA).length=ps.length:=by rw[φ,φ]
 refine bZ (n:=81) tok Tryz.func149 rfl rfl rfl ?_;refine sg rfl (sgh [(2,.row 0 (c7 body))] rfl (sk 1 rfl (kc hfr ?_)));refine kz 1 rfl (sg rfl (sg rfl (sg rfl (AWp.sub (Sub.own (t:=9) (id:=600) 9 1 rfl rfl) (AWp.sub (Sub.freeze (id:=600) rfl) ?_)))));refine AWp.sub (Sub.own (t:=10) (id:=601) 25 4 rfl rfl) (AWp.sub (Sub.freeze (id:=601) rfl) ?_);refine AWp.sub (Sub.own (t:=11) (id:=602) 9 1 rfl rfl) (AWp.sub (Sub.freeze (id:=602) rfl) ?_);refine a8 (sg rfl (aC ?_))
 refine aK (fun i:Nat=>mk [(2,a1s (ps.map (·.2))),(3,.one (.vp 3 0)),(6,.one (.vp 6 0)),(7,.one (.vp 7 0)),(8,eE (tfR body)),(9,.one (.hs 600 0 (unF nm body (ps.take i)).length (unF nm body (ps.take i)).length)),(10,.one (.hs 601 0 (unF nm body (ps.take i)).length (unF nm body (ps.take i)).length)),(11,.one (.hs 602 0 (unC (unF nm body (ps.take i))).length (unC (unF nm body (ps.take i))).length)),(21,eE (ps.map (·.1))),(22,I .i64 (((ps.map (·.1)).map bA).length:Int)),(23,I .i64 i)]
  [(600,.arr 9 1 (((unF nm body (ps.take i)).map (·.1)).map bA) 2),(601,.arr 25 4 (((unF nm body (ps.take i)).map (·.2)).map c7) 2),(602,.arr 9 1 ((unC (unF nm body (ps.take i))).map bA) 2),(3,.var 25 ((c7 (.mk 5 0 nm [body])).map R.c)),(6,.var 25 [.c (.int .i64 0),.c (.int .i64 0),.c (.str []),.c .nl]),(7,.var 25 ((c7 body).map R.c))]) (fun i=>i≤ps.length) (fun i=>ps.length-i) 0 (Al _) sl ?_
 intro i hi;refine sg rfl (a8 (aA rfl (fun hb=>?_) (fun hb=>?_)))
 ·have O:=ltD hb hk1;obtain⟨⟨s,u⟩,hu⟩:=aJ O;have hs':((ps.map (·.1)).map bA)[i]?=some (bA s):=bT bA (by rw[Aq,hu];rfl);have hu':((ps.map (·.2)).map c7)[i]?=some (c7 u):=bT c7 (by rw[Aq,hu];rfl);obtain⟨hfu,hul⟩:=hps _ (δ hu);have hul:(tfR u).length≤400000000:=hul;have hfu:aW Tryz.prog 116 [tyV u] [] (eE (tfR u)) []:=hfu;have y:=aTo (nm:=nm) (body:=body) hu;have J:=dQ (tfR body) s (by omega);have hql:=hc.2 i;have hpl:(unF nm body (ps.take i)).length≤1000000000:=by
   have h1:(unF nm body (ps.take i)).length≤(ps.take i).length:=List.length_filter_le _ _;rw[Ap] at h1;omega
  generalize unF nm body (ps.take i)=q at y hql hpl ⊢;generalize tfR body=fb at J y ⊢;refine aD (a8 (aC (sgh [(1,.row i (bA s))] rfl ?_)));by_cases h1:s=nm
  ·have Y:(!decide (s=nm))=false:=by rw[Ae h1];rfl
   dsimp only at y;rw[Y,Bool.false_and,θ (by decide)] at y;refine sgh [(4,.bv false),(8,.bv false)] rfl (aA rfl nofun (fun _=>aD (ag [] rfl ⟨i+1,O,by dsimp only;omega,?_⟩)));dsimp only;rw[y];exact sl
  have Y:(!decide (s=nm))=true:=by rw[Ag h1];rfl
  dsimp only at y;rw[Y,Db] at y;by_cases h2:s∈fb
  ·rw[Ae h2] at J;rw[κ (Ae h2)] at y;have hql2:=hc.2 (i+1);rw[y] at hql2;have hcq:unC (q++[(s,u)])=unC q++tfR u:=by unfold unC;rw[flatMap_append];simp
   rw[hcq,ε] at hql2;refine skh 7 [(4,.bv true)] rfl (kcG J ?_ (hw:=Y));refine ak 1 [(8,.bv true)] rfl (az (aA rfl (fun _=>?_) nofun));have hq1:((q.map (·.1)).map bA).length=q.length:=by rw[φ,φ]
   have hq2:((q.map (·.2)).map c7).length=q.length:=by rw[φ,φ]
   have hq3:((unC q).map bA).length=(unC q).length:=φ _;have hq4:((tfR u).map bA).length=(tfR u).length:=φ _;refine sgh [(2,.all),(7,.row i (c7 u)),(9,.all)] rfl (AWp.sub (Sub.freeze (id:=600) rfl) (AWp.sub (Sub.freeze (id:=601) rfl) ?_));refine aE mixed (ak 5 [(3,.row i (c7 u))] rfl (kc hfu ?_));refine kz 2 rfl (AWp.sub (Sub.freeze (id:=602) rfl) ?_);refine ag [] rfl ⟨i+1,O,by dsimp only;omega,?_⟩;dsimp only;rw[y,hcq];refine sl (he:=⟨rfl,rfl,rfl,rfl,rfl,Go.AM.hs_ren (by simp) (by simp),Go.AM.hs_ren (by simp) (by simp),Go.AM.hs_ren (by simp) (by simp),rfl,rfl,rfl,trivial⟩) (hh:=⟨⟨_,rfl,.arrS (by simp[bA])⟩,⟨_,rfl,.arrS (by simp;rfl)⟩,⟨_,rfl,.arrS (by simp)⟩,⟨_,rfl,.var rfl⟩,⟨_,rfl,.var rfl⟩,⟨_,rfl,.var rfl⟩,trivial⟩)
  ·rw[Ag h2] at J;rw[θ (by rw[Ag h2];decide)] at y;refine skh 7 [(4,.bv true)] rfl (kcG J ?_ (hw:=Y));refine ak 1 [(8,.bv true)] rfl (az (aA rfl nofun (fun _=>aD (ag [] rfl ⟨i+1,O,by dsimp only;omega,?_⟩))));dsimp only;rw[y];exact sl
 ·have hge:=geD hb hk1 hi;subst hge;rw[As];have hpl:(unF nm body ps).length≤1000000000:=by
   have h1:(unF nm body ps).length≤ps.length:=List.length_filter_le _ _;omega
  have J:=dQ (unC (unF nm body ps)) nm (by omega);refine aL (sg rfl ?_);by_cases h1:nm∈unC (unF nm body ps)
  ·have eN:unN nm body ps=bE (unC (unF nm body ps)++tfR body):=by unfold unN;rw[κ h1]
   have eP:unP nm body ps=unF nm body ps++[(nm,.mk 2 0 (unN nm body ps) [])]:=by unfold unP;rw[κ h1]
   have O:=aV2 (unC (unF nm body ps)++tfR body) (by rw[ε];have:=hc.1;omega) (fun k hk=>hI k (by rw[ε] at hk;exact hk));rw[←eN] at O;rw[eP] at hS;have hv:=a48 (unN nm body ps);rw[Ae h1] at J;generalize unN nm body ps=N at *;have hcl:=hc.1;generalize unF nm body ps=q at *;have hS2:aW Tryz.prog 118 [tyV body,.one (.c (.sl 1 ((q.map (·.1)).map bA++[bA nm]))),.one (.c (.sl 4 ((q.map (·.2)).map c7++[c7 (.mk 2 0 N [])])))] [] (tyV b') []:=by
    have Y:eE ((q++[(nm,Ty.mk 2 0 N [])]).map (·.1))=.one (.c (.sl 1 ((q.map (·.1)).map bA++[bA nm]))):=by unfold eE;rw[A6,A6];rfl
    have e2:a1s ((q++[(nm,Ty.mk 2 0 N [])]).map (·.2))=.one (.c (.sl 4 ((q.map (·.2)).map c7++[c7 (.mk 2 0 N [])]))):=by unfold a1s;rw[A6,A6];rfl
    rw[Y,e2] at hS;exact hS
   have hq1:((q.map (·.1)).map bA).length=q.length:=by rw[φ,φ]
   have hq2:((q.map (·.2)).map c7).length=q.length:=by rw[φ,φ]
   have hq3:((unC q).map bA).length=(unC q).length:=φ _;have hq4:((tfR body).map bA).length=(tfR body).length:=φ _;have hlt2:aW Tryz.prog 169 [.one (.c (.sl 1 ((unC q).map bA++(tfR body).map bA)))] [] (Go.AM.T N) []:=by
    have Y:eE (unC q++tfR body)=.one (.c (.sl 1 ((unC q).map bA++(tfR body).map bA))):=by unfold eE;rw[A6]
    rw[Y] at O;exact O
   refine a8 (sk 2 rfl (kc J ?_));refine az (aA rfl (fun _=>skh 3 [(2,.fz)] rfl (kc hlt2 ?_)) nofun);refine kz 1 rfl (aE mixed (ak 7 [(3,.all)] rfl (kc hv ?_)));refine ak 4 [(8,.all)] rfl (az (AWp.sub (Sub.freeze (id:=600) rfl) (AWp.sub (Sub.freeze (id:=601) rfl) ?_)));refine sk 4 rfl (kc hS2 ?_);refine kc Z ?_;exact kz 1 rfl (aF (rtC trw))
  ·have eN:unN nm body ps=nm:=by unfold unN;rw[θ h1]
   have eP:unP nm body ps=unF nm body ps:=by unfold unP;rw[θ h1]
   rw[eP] at hS;rw[eN] at Z ⊢;rw[Ag h1] at J;have hcl:=hc.1;generalize unF nm body ps=q at *;have hq1:((q.map (·.1)).map bA).length=q.length:=by rw[φ,φ]
   have hq2:((q.map (·.2)).map c7).length=q.length:=by rw[φ,φ]
   refine a8 (sk 2 rfl (kc J ?_));refine az (aA rfl nofun (fun _=>aD (sk 4 rfl (kc hS ?_))));refine kc Z ?_;exact kz 1 rfl (aF (rtC trw))
theorem yF (s:Str):∀(l:List Str) (k:Int),(∃i:Nat,aMp s l k=k+i∧l[i]?=some s)∨(¬s∈l∧aMp s l k= -1)
 | [],k=>.inr ⟨by simp,rfl⟩
 | x::l,k=>by
  rw[aMp];split
  ·rename_i h;subst h;exact .inl ⟨0,by simp,rfl⟩
  ·rename_i h;rcases yF s l (k+1) with⟨i,h1,h2⟩ | ⟨h1,h2⟩
   ·exact .inl ⟨i+1,by rw[h1];omega,by simpa using h2⟩
   ·exact .inr ⟨by simp[h,h1],h2⟩
theorem aNr {f:Int}{s:Str}{o:List Str}{x y:Str}(h:y∈o):y∈kK f s o x:=by
 unfold kK;split
 ·exact ω.2 (.inl h)
 ·exact h
theorem sN {f:Int}{s:Str}:∀{l o:List Str}{y:Str},y∈o→y∈aCk f s o l
 | [],_,_,h=>h
 | x::l,o,_,h=>sN (l:=l) (o:=kK f s o x) (aNr h)
theorem oW {f:Int}{s:Str}:∀{l o:List Str}{y:Str},y∈l→(¬f=5∨¬y=s)→y∈aCk f s o l
 | x::l,o,y,h,I=>by
  rcases Ac.1 h with rfl | h
  ·refine sN (l:=l) (o:=kK f s o y) ?_;unfold kK;by_cases q:y∈o
   ·rw[θ (fun h=>h.1 q)];exact q
   ·rw[κ ⟨q,I⟩];simp
  ·exact oW (l:=l) (o:=kK f s o x) h I
theorem a2n {n:Int}{nm:Str}{body:Ty}{x:Str}(h:x∈tfR body) (hx:¬x=nm):x∈tfR (.mk 5 n nm [body]):=by
 rw[tfR,θ (by decide),aCd,aCd];exact oW h (.inr hx)
theorem aYz {n:Int}{s:Str}{a b:Ty}{x:Str}(h:x∈tfR a):x∈tfR (.mk 4 n s [a,b]):=by
 rw[tfR,θ (by decide),aCd,aCd,aCd];exact sN (oW h (.inl (by decide)))
theorem aYy {n:Int}{s:Str}{a b:Ty}{x:Str}(h:x∈tfR b):x∈tfR (.mk 4 n s [a,b]):=by
 rw[tfR,θ (by decide),aCd,aCd,aCd];exact oW h (.inl (by decide))
theorem aG2 (n:Nat) (h:n≤540000000000):(cE n).length≤21:=by
 unfold cE;have:=aHk (n/26) (by omega);split
 ·simp
 ·simp;omega
theorem kU (l:List Str) (h:l.length≤540000000000):(bE l).length≤21:=aG2 _ (le_trans (vF l) h)
end Go.Proofs.YtnjaiimffoninaaGreatDoor
namespace Go.AM
open Go
def dm (k i:Nat):Option AObj:=bif Nat.ble 1000 i then(bif Nat.blt i (1000+k) then some .dfr else none) else none
def aF9:Nat→List Nat
 | 0=>[]
 | k+1=>(1000+k)::aF9 k
def aAx (k:Nat):List (Nat×AObj):=(aF9 k).map fun i=>(i,.dfr)
def mkm (el:List (Nat×V)) (hl:List (Nat×AObj)) (k:Nat):St:=⟨look el,fun i=>match look hl i with | some x=>some x | none=>dm k i,aF9 k⟩
theorem pP {α:Type}:∀(a b:List (Nat×α)) (i:Nat),look (a++b) i=match look a i with | some x=>some x | none=>look b i
 | [],_,_=>rfl
 | (k,x)::a,b,i=>by
  simp only[A1,look];cases Nat.beq i k
  ·simpa using pP a b i
  ·rfl
theorem y6:∀(k i:Nat),look (aAx k) i=dm k i
 | 0,i=>by
  simp only[aAx,aF9,Co,look,dm,B9];cases h:Nat.ble 1000 i
  ·rfl
  ·have h1:=Ak h;have:Nat.blt i 1000=false:=by
    cases hb:Nat.blt i 1000 with
    | false=>rfl
    | true=>have:=Ak hb;omega
   simp[this]
 | k+1,i=>by
  have q:=y6 k i;simp only[aAx,aF9,At,look] at q ⊢;rw[q];simp only[dm];by_cases h1:i=1000+k
  ·subst h1;have h2:Nat.ble 1000 (1000+k)=true:=Cb (by omega);have h3:Nat.blt (1000+k) (1000+(k+1))=true:=Cb (by omega);rw[h2,h3];simp
  ·have h2:Nat.beq i (1000+k)=false:=by
    cases hb:Nat.beq i (1000+k) with
    | false=>rfl
    | true=>exact absurd (Aa hb) h1
   have h3:Nat.blt i (1000+(k+1))=Nat.blt i (1000+k):=by
    cases hb:Nat.blt i (1000+k) with
    | true=>have:=Ak hb;exact Cb (by omega)
    | false=>
     cases hc:Nat.blt i (1000+(k+1)) with
     | false=>rfl
     | true=>
      have:=Ak hc;have:Nat.blt i (1000+k)=true:=Cb (by omega);rw[this] at hb;cases hb
   rw[h2,h3];rfl
theorem a3z (el:List (Nat×V)) (hl:List (Nat×AObj)) (k:Nat):mkm el hl k=mkd el (hl++aAx k) (aF9 k):=by
 unfold mkm mkd;congr 1;funext i;rw[pP,y6];cases look hl i<;>rfl
theorem sZ:∀{k i:Nat},i∈aF9 k↔∃j,j<k∧i=1000+j
 | 0,i=>by simp[aF9]
 | k+1,i=>by
  simp only[aF9,Ac,sZ];constructor
  ·rintro(rfl | ⟨j,h,rfl⟩)
   ·exact⟨k,by omega,rfl⟩
   ·exact⟨j,by omega,rfl⟩
  ·rintro⟨j,h,rfl⟩;rcases Nat.lt_or_ge j k with h1 | h1
   ·exact .inr ⟨j,h1,rfl⟩
   ·exact .inl (by omega)
theorem xZ:∀k:Nat,(aF9 k).Nodup
 | 0=>nodup_nil
 | k+1=>Bq.2 ⟨fun h=>by obtain⟨j,h1,h2⟩:=sZ.1 h;omega,xZ k⟩
theorem aMm (k:Nat):(aAx k).map (·.1)=aF9 k:=by
 unfold aAx;rw[Bn];exact List.map_id _
theorem aLt (k:Nat):dI (aAx k)=[]:=by
 have key:∀l:List Nat,dI (l.map fun i=>(i,AObj.dfr))=[]:=by
  intro l
  induction l with
  | nil=>rfl
  | cons i l q=>show AObj.refs .dfr++_=_;rw[q];rfl
 exact key _
theorem jI:∀(a b:List (Nat×AObj)),dI (a++b)=dI a++dI b
 | [],_=>rfl
 | (k,o)::a,b=>by simp only[A1,dI,jI a b,Aw]
theorem dU.app {α:Type}{p:α→Prop}:∀{a b:List α},dU p a→dU p b→dU p (a++b)
 | [],_,_,h=>h
 | _::_,_,h,k=>⟨h.1,dU.app h.2 k⟩
theorem iL:∀{l:List Nat},l.Nodup→distinct l=true
 | [],_=>rfl
 | x::l,h=>by
  obtain⟨h1,h2⟩:=Bq.1 h;simp only[distinct,iL h2,Bool.and_true];simpa using h1
theorem aKs:∀l:List Nat,eqL l l=true
 | []=>rfl
 | a::l=>by simp[eqL,aKs l]
theorem fK {a b:List Nat}(h:∀x∈a,x∈b):subset a b=true:=by
 simp only[subset,Au];exact fun x hx=>by simpa using h x hx
theorem Sub.listM {kf:List Nat}{q:St}{el:List (Nat×V)}{hl:List (Nat×AObj)}{k:Nat}(he:dU (fun p=>q.e p.1=some (p.2.ren (fun i=>i))) el) (hh:dU (fun p=>∃o,q.h p.1=some o∧Ole (fun i=>i) o p.2) hl)
  (hd:q.d=aF9 k) (hm:∀i,i<k→q.h (1000+i)=some .dfr) (hok:(aJ5 kf (fun i=>i) el hl&&(hl.all fun p=>Nat.blt p.1 1000))=true):Sub kf (mkm el hl k) q:=by
 rw[a3z];rw[ζ] at hok;obtain⟨hok,I⟩:=hok;simp only[aJ5,ζ] at hok;obtain⟨⟨⟨⟨h1,h2⟩,h3⟩,h4⟩,h5⟩:=hok;refine Sub.listD (fun i=>i) he (dU.app hh (dU.of fun p hp=>?_)) ?_
 ·obtain⟨i,hi,rfl⟩:=Ah.1 hp;obtain⟨j,hj,rfl⟩:=sZ.1 hi;exact⟨_,hm j hj,.dfr⟩
 ·have y:List.map (fun p:Nat×AObj=>p.1) (hl++aAx k)=hl.map (·.1)++aF9 k:=by rw[A6,aMm]
  have J:(List.map (fun p:Nat×AObj=>(fun i:Nat=>i) p.1) (hl++aAx k))=hl.map (·.1)++aF9 k:=y;have app:∀{a b:List Nat},subset a b=true→subset a (b++aF9 k)=true:=fun h=>fK fun x hx=>ω.2 (.inl (bJ h x hx))
  simp only[aJ5,ζ];rw[y,jI,aLt,A9];refine⟨⟨⟨⟨⟨app h1,app h2⟩,?_⟩,app h4⟩,h5⟩,?_,?_⟩
  ·refine iL ?_;rw[C0];refine⟨dP h3,xZ k,fun a ha b hb e=>?_⟩;subst e;obtain⟨j,hj,rfl⟩:=sZ.1 hb;obtain⟨p,hp,O⟩:=Ah.1 ha;have:=Ak ((Au.1 I) p hp);omega
  ·rw[hd,List.map_id'];exact aKs _
  ·exact fK fun x hx=>ω.2 (.inr hx)
theorem aTm {h:dD}{l:List (Nat×AObj)}{i:Nat}(hl:(l.all fun p=>Nat.blt p.1 1000)=true):updL h (outs l) (1000+i)=h (1000+i):=by
 rw[fJ];cases hk:look l (1000+i) with
 | none=>rfl
 | some o=>
  have:=Ak ((Au.1 hl) _ (bI hk));omega
theorem aZx {el:List (Nat×V)}{hl:List (Nat×AObj)}{k i:Nat}(q:(hl.all fun p=>Nat.blt p.1 1000)=true):(mkm el hl k).h (1000+i)=dm k (1000+i):=by
 show(match look hl (1000+i) with | some x=>some x | none=>dm k (1000+i))=_;cases hk:look hl (1000+i) with
 | none=>rfl
 | some o=>
  have:=Ak ((Au.1 q) _ (bI hk));omega
theorem aVq {k i:Nat}(h:i<k):dm k (1000+i)=some .dfr:=by
 unfold dm;rw[show Nat.ble 1000 (1000+i)=true from Cb (by omega),show Nat.blt (1000+i) (1000+k)=true from Cb (by omega)];rfl
theorem aX2 {k:Nat}:dm k (1000+k)=none:=by
 unfold dm;have:Nat.blt (1000+k) (1000+k)=false:=by
  cases hb:Nat.blt (1000+k) (1000+k) with
  | false=>rfl
  | true=>have:=Ak hb;omega
 rw[this];cases Nat.ble 1000 (1000+k)<;>rfl
theorem aHd {h:dD}{k i:Nat}{x:Option AObj}{y:Option AObj}(q:h (1000+i)=y) (hk:Nat.blt k 1000=true:=by rfl):upd h k x (1000+i)=y:=by
 have:=Ak hk;rw[aV _ _ _ (by omega)];exact q
theorem aBb {h:dD}{l:List (Nat×Option AObj)}{i:Nat}{y:Option AObj}(q:h (1000+i)=y) (hl:(l.all fun p=>Nat.blt p.1 1000)=true:=by rfl):updL h l (1000+i)=y:=by
 simp only[updL];cases hk:look l (1000+i) with
 | none=>exact q
 | some o=>
  have:=Ak ((Au.1 hl) _ (bI hk));omega
theorem aHe {hl:List (Nat×AObj)}{k i:Nat}{y:Option AObj}(I:dm k (1000+i)=y) (q:(hl.all fun p=>Nat.blt p.1 1000)=true:=by rfl):(match look hl (1000+i) with | some x=>some x | none=>dm k (1000+i))=y:=(aZx (el:=[]) q).trans I
theorem a4p {args:List V}{hin hout:List (Nat×AObj)}{i q:Nat}(h:callOk args hin=true) (h2:(hout.all fun p=>Nat.blt p.1 1000)=true:=by rfl) (h3:Nat.blt q 1000=true:=by rfl):(callOk args hin&&(!Nat.beq (1000+i) q&& !((keys hout).contains (1000+i))))=true:=by
 have h3:=Ak h3;have y:Nat.beq (1000+i) q=false:=by
  cases hb:Nat.beq (1000+i) q with
  | false=>rfl
  | true=>have:=Aa hb;omega
 have I:(keys hout).contains (1000+i)=false:=by
  cases hb:(keys hout).contains (1000+i) with
  | false=>rfl
  | true=>
   have hm:1000+i∈keys hout:=by simpa using hb
   obtain⟨p,hp,J⟩:=Ah.1 hm;have:=Ak ((Au.1 h2) p hp);omega
 rw[h,y,I];rfl
theorem near {h:dD}{L:List (Nat×Option AObj)}{i id:Nat}{x y:Option AObj}(q:updL h L id=y) (hid:Nat.blt id 1000=true:=by rfl):updL (upd h (1000+i) x) L id=y:=by
 have h1:=Ak hid;subst q;simp only[updL];rw[aV _ _ _ (by omega)]
theorem Sub.rangeM {kf:List Nat}{e:Nat→Option V}{h:dD}{d:List Nat}{L:List (Nat×AObj)}{el:List (Nat×V)}{hl:List (Nat×AObj)}{k:Nat}(he:dU (fun p=>e p.1=some (p.2.ren (fun i=>i))) el) (hh:dU (fun p=>∃o,updL h (outs L) p.1=some o∧Ole (fun i=>i) o p.2) hl)
  (hd:d=aF9 k) (hm:∀i,i<k→h (1000+i)=some .dfr) (hL:(L.all fun p=>Nat.blt p.1 1000)=true) (hok:(aJ5 kf (fun i=>i) el hl&&(hl.all fun p=>Nat.blt p.1 1000))=true):Sub kf (mkm el hl (k+1)) ⟨e,updL (upd h (1000+k) (some .dfr)) (outs L),(1000+k)::d⟩:=by
 refine Sub.listM he ?_ (by show(1000+k)::d=_;rw[hd];rfl) (fun j hj=>?_) hok
 ·have h2:=hok;rw[ζ] at h2;have key:∀l:List (Nat×AObj),(l.all fun p=>Nat.blt p.1 1000)=true→dU (fun p=>∃o,updL h (outs L) p.1=some o∧Ole (fun i=>i) o p.2) l→dU (fun p=>∃o,updL (upd h (1000+k) (some .dfr)) (outs L) p.1=some o∧Ole (fun i=>i) o p.2) l:=by
   intro l
   induction l with
   | nil=>intro _ _;trivial
   | cons p l I=>
    intro hb q;simp only[all_cons,ζ] at hb;obtain⟨o,J,O⟩:=q.1;exact⟨⟨o,near J hb.1,O⟩,I hb.2 q.2⟩
  exact key hl h2.2 hh
 ·show updL (upd h (1000+k) (some .dfr)) (outs L) (1000+j)=_;rw[aTm hL];by_cases y:j=k
  ·subst y;exact aI _ _ _
  ·rw[aV _ _ _ (by omega)];exact hm j (by omega)
theorem aW.row {P:Program}{f:FuncId}{args:List V}{hin hin' hout hout':List (Nat×AObj)}{res:V}(h:aW P f args hin res hout) (h1:look hin'=look hin) (h2:look hout'=look hout):aW P f args hin' res hout':=by
 unfold aW at h ⊢;rw[h1,h2];exact h
theorem aTi.row {P:Program}{id:Nat}{args:List V}{hin hin' hout hout':List (Nat×AObj)}{go:Bool}(h:aTi P id args hin go hout) (h1:look hin'=look hin) (h2:look hout'=look hout):aTi P id args hin' go hout':=by
 unfold aTi at h ⊢;rw[h1,h2];exact h
theorem pO {α:Type}{a b:Nat}{x y:α}{l:List (Nat×α)}(h:Nat.beq a b=false:=by rfl):look ((a,x)::(b,y)::l)=look ((b,y)::(a,x)::l):=by
 funext i;simp only[look];cases h1:Nat.beq i a<;>cases h2:Nat.beq i b<;>try rfl
 have q:=Aa h1;have I:=Aa h2;subst q;subst I;rw[h1] at h;cases h
section
variable {P:Program}{n:Nat}
theorem Sub.ownCellR {kf:List Nat}{st:St}{x k id tv:Nat}{cells:List R}(te es:Nat) (h:st.h x=some (.var tv cells)) (hk:cells[k]?=some (.c .nl)) (hid:st.h id=none):
  Sub kf ⟨st.e,upd (upd st.h id (some (.rarr te es []))) x (some (.var tv (cells.set k (.ra id 0 0 0)))),st.d⟩ st:=by
 intro G n S μ a w _ hs;obtain⟨hi,hE⟩:=hs.inv.emptyR te es hid;have aa:x≠id:=fun e=>by subst e;rw[h] at hid;cases hid
 have hx:upd st.h id (some (.rarr te es [])) x=some (.var tv cells):=by rw[aV _ _ _ aa];exact h
 obtain⟨b,vs,g1,g2,g3,g4⟩:=hi.obj x _ hx
 have I:Evolve S (upd μ id none) (upd st.h id (some (.rarr te es []))) S (upd μ id none) (upd (upd st.h id (some (.rarr te es []))) x (some (.var tv (cells.set k (.ra id 0 0 0))))):=⟨S.le_refl,fun j y hj=>by
  by_cases q:j=x
  ·subst q;rw[hx] at hj;cases hj;exact⟨_,aI _ _ _,by simp[AObj.succ]⟩
  ·exact⟨y,by rw[aV _ _ _ q];exact hj,y.succ_refl rfl⟩⟩
 have hold:∀j y,upd (upd st.h id (some (.rarr te es []))) x (some (.var tv (cells.set k (.ra id 0 0 0)))) j=some y→∃y',upd st.h id (some (.rarr te es [])) j=some y':=fun j y hj=>by
  by_cases q:j=x
  ·subst q;exact⟨_,hx⟩
  ·rw[aV _ _ _ q] at hj;exact⟨_,hj⟩
 refine⟨S,upd μ id none,⟨⟨hi.holds,fun j y hj=>?_,fun i j y y' b c c' J hj hm hm'=>?_,fun i y b c J hm=>?_,hi.frame,hi.sle,hi.sto,hi.evo.trans I,hi.fre⟩,hs.size,hs.defers.evolve (hE.trans I),fun s v e=>aY.evolve (hE.trans I) v _ (hs.env s v e)⟩⟩
 ·by_cases q:j=x
  ·subst q;have O:some (AObj.var tv (cells.set k (.ra id 0 0 0)))=some y:=by rw[←hj];exact(aI _ _ _).symm
   cases O;refine⟨b,vs,g1,g2,?_,g4⟩;have h3:=b6.evolve I _ _ g3;obtain⟨u,hu,Y⟩:=g3.get k _ hk;simp only[b9,Rep] at Y;have hkl:k<cells.length:=(ξ.1 hk).1
   have Z:cells.set k (.ra id 0 0 0)=cV cells k [.ra id 0 0 0]:=by
    unfold cV;rw[Cl,κ hkl];simp
   have hvl:=g3.length;have hvs:vs=cV vs k [u]:=by
    unfold cV;apply Bg;intro i;simp only[B7,ε,Ap,Ai,length_nil,Ay,Am];have hm:min k vs.length=k:=by omega
    rw[hm];by_cases c1:i<k
    ·simp[c1,show i<k+1 by omega]
    ·by_cases c2:i=k
     ·subst c2;simp[hu]
     ·simp[show ¬i<k+1 by omega,show k+1+(i-(k+1))=i by omega]
   rw[Z] at h3 ⊢;rw[hvs];refine qR h3 ?_;simp only[b6,b9];exact⟨u,[],rfl,⟨⟨_,_,_,Y⟩,.inr ⟨te,es,[],by rw[aV _ _ _ aa.symm];exact aI _ _ _,le_refl _,fun _=>⟨le_refl _,.inl ⟨aI _ _ _,rfl,Y⟩⟩⟩⟩,rfl⟩
  ·have O:upd st.h id (some (.rarr te es [])) j=some y:=by rw[←hj];exact(aV _ _ _ q).symm
   exact(hi.obj j y O).evolve I rfl fun _ _ _=>⟨rfl,fun _=>rfl,rfl⟩
 ·obtain⟨_,h1⟩:=hold _ _ J;obtain⟨_,h2⟩:=hold _ _ hj;exact hi.inj i j _ _ b c c' h1 h2 hm hm'
 ·obtain⟨_,h1⟩:=hold _ _ J;exact hi.own i _ b c h1 hm
theorem Sim.turnMap {G:Ctx}{n:Nat}{S:Sto}{μ:Mu}{st:St}{a:Act}{w:World}{id:Nat}{agg:Bool}{ents ents':List (List C)}(hs:Sim G n S μ st a w) (hid:st.h id=some (.map agg ents))
  (J:∃b es clk,μ id=some (b,0,0)∧w.heap[b]?=some (.map es clk)∧aB9 S agg ents' es.toList∧aH7 S b ents'):Sim G n S μ ⟨st.e,upd st.h id (some (.map agg ents')),st.d⟩ a w:=by
 have y:Evolve S μ st.h S μ (upd st.h id (some (.map agg ents'))):=⟨S.le_refl,fun j x hj=>by
  by_cases q:j=id
  ·subst q;rw[hid] at hj;cases hj;exact⟨_,aI _ _ _,by simp[AObj.succ]⟩
  ·exact⟨x,by rw[aV _ _ _ q];exact hj,x.succ_refl rfl⟩⟩
 have hold:∀j x,upd st.h id (some (.map agg ents')) j=some x→∃x',st.h j=some x':=fun j x hj=>by
  by_cases q:j=id
  ·subst q;exact⟨_,hid⟩
  ·rw[aV _ _ _ q] at hj;exact⟨_,hj⟩
 refine⟨⟨hs.inv.holds,fun j x hj=>?_,fun i j x x' b c c' hi hj hm I=>?_,fun i x b c hi hm=>?_,hs.inv.frame,hs.inv.sle,hs.inv.sto,hs.inv.evo.trans y,hs.inv.fre⟩,hs.size,hs.defers.evolve y,fun t v ht=>aY.evolve y v _ (hs.env t v ht)⟩
 ·have hj:upd st.h id (some (.map agg ents')) j=some x:=hj;by_cases q:j=id
  ·subst q;rw[aI] at hj;cases hj;exact J
  ·rw[aV _ _ _ q] at hj;exact(hs.inv.obj j x hj).evolve y rfl fun _ _ _=>⟨rfl,fun _=>rfl,rfl⟩
 ·obtain⟨_,h1⟩:=hold _ _ hi;obtain⟨_,h2⟩:=hold _ _ hj;exact hs.inv.inj i j _ _ b c c' h1 h2 hm I
 ·obtain⟨_,h1⟩:=hold _ _ hi;exact hs.inv.own i _ b c h1 hm
theorem aPl {k:List UInt8}{vs:List C}:∀{l:List (List C)},iF l→iF (qO k vs l)
 | [],_=>by simp[qO,iF]
 | (.str s::us)::r,h=>by
  simp only[qO];simp only[iF] at h;split
  ·simpa [iF] using h
  ·simpa [iF] using aPl h
end
theorem Ole.varS {t:Nat}{l l':List R}(h:l=l'):Ole (fun i=>i) (.var t l) (.var t l'):=by subst h;exact .var (R.renL_id _).symm
structure TF (F:List (Nat×AObj)):Prop where
 far:∀p∈F,800≤p.1
 nodup:(F.map (·.1)).Nodup
 arr:∀p∈F,∃te es l z,p.2=.arr te es l z
theorem TF.refs {F:List (Nat×AObj)}(h:TF F):dI F=[]:=by
 have key:∀l:List (Nat×AObj),(∀p∈l,∃te es l z,p.2=.arr te es l z)→dI l=[]:=by
  intro l
  induction l with
  | nil=>intro _;rfl
  | cons p l y=>
   intro h;obtain⟨te,es,l',z,hp⟩:=h p (by simp);show p.2.refs++dI l=[];rw[y fun q I=>h q (by simp[I]),hp];rfl
 exact key F h.arr
theorem TF.ok {F:List (Nat×AObj)}(h:TF F):∀p∈F,p.2.live=true∧p.2.plain=true:=fun p hp=>by
 obtain⟨te,es,l,z,e⟩:=h.arr p hp;rw[e];exact⟨rfl,rfl⟩
def mkt (el:List (Nat×V)) (hl F:List (Nat×AObj)):St:=⟨look el,fun i=>match look hl i with | some x=>some x | none=>bif Nat.blt i 800 then none else look F i,[]⟩
theorem iY {α:Type}:∀{l:List (Nat×α)}{i:Nat},i∉l.map (·.1)→look l i=none
 | [],_,_=>rfl
 | (k,x)::l,i,h=>by
  simp only[At,Ac,not_or] at h;simp only[look];have:Nat.beq i k=false:=by
   cases hb:Nat.beq i k with
   | false=>rfl
   | true=>exact absurd (Aa hb) h.1
  rw[this];simpa using iY h.2
theorem TF.near {F:List (Nat×AObj)}(q:TF F) {i:Nat}(h:i<800):look F i=none:=iY fun hm=>by
 obtain⟨p,hp,rfl⟩:=Ah.1 hm;have:=q.far p hp;omega
theorem a01 {i k:Nat}(h:i<k):Nat.blt i k=true:=Cb h
theorem aFl {i k:Nat}(h:k≤i):Nat.blt i k=false:=by
 cases hb:Nat.blt i k with
 | false=>rfl
 | true=>have:=Ak hb;omega
theorem aPn {el:List (Nat×V)}{hl F:List (Nat×AObj)}(q:TF F):mkt el hl F=mk el (hl++F):=by
 unfold mkt mk;congr 1;funext i;rw[pP];cases look hl i with
 | some x=>rfl
 | none=>
  by_cases h:i<800
  ·simp only[a01 h,q.near h,Bv]
  ·simp only[aFl (Nat.le_of_not_lt h),B0]
theorem r6 {α:Type}:∀{l:List (Nat×α)},(l.map (·.1)).Nodup→∀p∈l,look l p.1=some p.2
 | (k,x)::l,h,p,hp=>by
  simp only[At,Bq] at h;simp only[look];rcases Ac.1 hp with rfl | hp
  ·simp
  ·have q:p.1≠k:=fun e=>h.1 (e▸Ah.2 ⟨p,hp,rfl⟩)
   have:Nat.beq p.1 k=false:=by
    cases hb:Nat.beq p.1 k with
    | false=>rfl
    | true=>exact absurd (Aa hb) q
   rw[this];simpa using r6 h.2 p hp
def FarEq (h:dD) (F:List (Nat×AObj)):Prop:=∀p∈F,h p.1=some p.2
theorem aAr {hl:List (Nat×AObj)}(h:(hl.all fun p=>Nat.blt p.1 800)=true) {i:Nat}(hi:800≤i):look hl i=none:=iY fun hm=>by
 obtain⟨p,hp,rfl⟩:=Ah.1 hm;have:=Ak ((Au.1 h) p hp);omega
theorem FarEq.raw {hl F:List (Nat×AObj)}(q:TF F) (h:(hl.all fun p=>Nat.blt p.1 800)=true:=by rfl):FarEq (fun i=>match look hl i with | some x=>some x | none=>bif Nat.blt i 800 then none else look F i) F:=fun p hp=>by
 have h1:=q.far p hp;show(match look hl p.1 with | some x=>some x | none=>bif Nat.blt p.1 800 then none else look F p.1)=_;rw[aAr h h1,aFl h1];exact r6 q.nodup p hp
theorem FarEq.mkt {el:List (Nat×V)}{hl F:List (Nat×AObj)}(q:TF F) (h:(hl.all fun p=>Nat.blt p.1 800)=true:=by rfl):FarEq (mkt el hl F).h F:=FarEq.raw q h
theorem FarEq.upd {h:dD}{F:List (Nat×AObj)}{k:Nat}{x:Option AObj}(q:TF F) (y:FarEq h F) (hk:Nat.blt k 800=true:=by rfl):FarEq (upd h k x) F:=fun p hp=>by
 have h1:=q.far p hp;have:=Ak hk;rw[aV _ _ _ (by omega)];exact y p hp
theorem FarEq.updL {h:dD}{F:List (Nat×AObj)}{l:List (Nat×Option AObj)}(y:TF F) (I:FarEq h F) (hk:(l.all fun p=>Nat.blt p.1 800)=true:=by rfl):FarEq (updL h l) F:=fun p hp=>by
 have h1:=y.far p hp;simp only[Go.AM.updL];have:look l p.1=none:=iY fun hm=>by
  obtain⟨q,J,e⟩:=Ah.1 hm;have:=Ak ((Au.1 hk) q J);omega
 rw[this];exact I p hp
theorem xX {hl F:List (Nat×AObj)}(y:TF F) (h1:distinct (hl.map (·.1))=true) (h2:(hl.all fun p=>Nat.blt p.1 800)=true):((hl++F).map (·.1)).Nodup:=by
 rw[A6,C0];refine⟨dP h1,y.nodup,fun a ha b hb e=>?_⟩;subst e;obtain⟨p,hp,rfl⟩:=Ah.1 ha;obtain⟨q,I,e⟩:=Ah.1 hb;have:=Ak ((Au.1 h2) p hp);have:=y.far q I;omega
theorem oY {hl F:List (Nat×AObj)}(q:TF F) (h:∀x∈dI hl,x∈keys hl∨x∈keys F):∀x∈dI (hl++F),x∈keys (hl++F):=fun x hx=>by
 rw[jI,q.refs,A9] at hx;unfold keys at h ⊢;rw[A6,ω];exact h x hx
theorem Sub.tailT {kf:List Nat}{q:St}{el:List (Nat×V)}{hl F:List (Nat×AObj)}(σ:Nat→Nat) (y:TF F) (he:dU (fun p=>q.e p.1=some (p.2.ren σ)) el) (hh:dU (fun p=>∃o,q.h (σ p.1)=some o∧Ole σ o p.2) hl)
  (I:∀p∈F,∃o,q.h (σ p.1)=some o∧Ole σ o p.2) (hd:q.d=[]) (h1:∀x∈jU el,x∈keys hl∨x∈keys F) (h2:∀x∈dI hl,x∈keys hl∨x∈keys F) (h3:((hl++F).map fun p=>σ p.1).Nodup) (h4:∀i∈kf,(i∈keys hl∨i∈keys F)∧σ i=i):
  Sub kf (mkt el hl F) q:=by
 rw[aPn y];refine Sub.list σ he (dU.app hh (dU.of I)) ?_;have hk:∀x,(x∈keys hl∨x∈keys F)→x∈(hl++F).map (·.1):=fun x hx=>by rw[A6,ω];exact hx
 simp only[aJ5,ζ];refine⟨⟨⟨⟨⟨fK fun x hx=>hk x (h1 x hx),fK (oY y h2)⟩,iL h3⟩,fK fun x hx=>hk x (h4 x hx).1⟩,Au.2 fun i hi=>by rw[(h4 i hi).2];simp⟩,by rw[hd];rfl⟩
theorem slT {kf:List Nat}{q:St}{el:List (Nat×V)}{hl F:List (Nat×AObj)}(y:TF F) (I:FarEq q.h F) (h1:∀x∈jU el,x∈keys hl∨x∈keys F) (h2:∀x∈dI hl,x∈keys hl∨x∈keys F) (h4:∀i∈kf,i∈keys hl∨i∈keys F)
  (he:dU (fun p=>q.e p.1=some (p.2.ren (fun i=>i))) el:=by repeat (first | exact trivial | refine⟨by first | rfl | exact congrArg some (V.ren_id _).symm,?_⟩))
  (hh:dU (fun p=>∃o,q.h p.1=some o∧Ole (fun i=>i) o p.2) hl:=by repeat (first | exact trivial | refine⟨⟨_,rfl,by first | exact Go.AM.Ole.arr | exact Go.AM.Ole.var rfl | exact Go.AM.Ole.varS rfl | exact Go.AM.Ole.map | exact Go.AM.Ole.rarrS rfl⟩,?_⟩))
  (hd:q.d=[]:=by rfl) (h3:distinct (hl.map (·.1))=true:=by rfl) (h3':(hl.all fun p=>Nat.blt p.1 800)=true:=by rfl):Sub kf (mkt el hl F) q:=
 Sub.tailT (fun i=>i) y he hh (fun p hp=>⟨p.2,I p hp,.refl_id (by intro e;have:=(y.ok p hp).1;rw[e] at this;cases this)⟩) hd h1 h2 (xX y h3 h3') fun i hi=>⟨h4 i hi,rfl⟩
section
variable {P:Program}{T:TT}
theorem wL {f:FuncId}{fn:Func}{c:Code}{n:Nat}{args:List V}{hl F hout:List (Nat×AObj)}{res:V}(q:TF F) (y:Tok P T) (I:P.funcs[f]?=some fn) (hb:fn.body=some c) (hn:fn.ntmps=n) (hle:Nat.ble args.length n=true)
  (h:AWp none P n (keys (hl++F)) c (mkt (a1f 0 args) hl F) (fun ex st=>(ex=.normal∨ex=.ret)∧Fin T fn st (hl++F) res hout)):aW P f args (hl++F) res hout:=bZ y I hb hn hle (by rw[aPn q] at h;exact h)
theorem aHc {fn:Func}{st:St}{hin hl F:List (Nat×AObj)}{res:V}(q:TF F) (y:FarEq st.h F) (hex:∃vs vs',ResV T st fn.results.toList vs∧Convs st.h vs vs'∧aLp vs'=res)
  (h1:∀x∈res.refs,x∈keys hl∨x∈keys F) (h2:∀x∈dI hl,x∈keys hl∨x∈keys F) (h4:∀i∈keys hin,i∈keys hl∨i∈keys F) (h5:∀p∈hin,p.2.plain=true)
  (hh:dU (fun p=>∃o,st.h p.1=some o∧Ole (fun i=>i) o p.2) hl:=by repeat (first | exact trivial | refine⟨⟨_,rfl,by first | exact Go.AM.Ole.arr | exact Go.AM.Ole.var rfl | exact Go.AM.Ole.varS rfl | exact Go.AM.Ole.map | exact Go.AM.Ole.rarrS rfl⟩,?_⟩))
  (h3:distinct (hl.map (·.1))=true:=by rfl) (h3':(hl.all fun p=>Nat.blt p.1 800)=true:=by rfl) (h6:(hl.all fun p=>p.2.plain)=true:=by rfl):Fin T fn st hin res (hl++F):=by
 refine⟨hex,dU.app hh (dU.of fun p hp=>⟨p.2,y p hp,.refl_id (by intro e;have:=(q.ok p hp).1;rw[e] at this;cases this)⟩),?_⟩;have hk:∀x,(x∈keys hl∨x∈keys F)→x∈keys (hl++F):=fun x hx=>by unfold keys at *;rw[A6,ω];exact hx
 simp only[ζ];refine⟨⟨⟨⟨⟨fK fun x hx=>hk x (h1 x hx),fK (oY q h2)⟩,iL (xX q h3 h3')⟩,fK fun x hx=>hk x (h4 x hx)⟩,Au.2 h5⟩,?_⟩;rw[Dd,ζ];exact⟨h6,Au.2 fun p hp=>(q.ok p hp).2⟩
end
theorem aBc {h:dD}{hl F:List (Nat×AObj)}(q:TF F):updL h (outs (hl++F))=fun i=>bif Nat.blt i 800 then updL h (outs hl) i else updL h (outs (hl++F)) i:=by
 funext i;by_cases hi:i<800
 ·rw[a01 hi,Bv,fJ,fJ,pP,q.near hi];cases look hl i<;>rfl
 ·rw[aFl (Nat.le_of_not_lt hi),B0]
theorem FarEq.outs {h:dD}{hl F:List (Nat×AObj)}(q:TF F) (hk:(hl.all fun p=>Nat.blt p.1 800)=true:=by rfl):FarEq (Go.AM.updL h (Go.AM.outs (hl++F))) F:=fun p hp=>by
 rw[fJ,pP,aAr hk (q.far p hp),r6 q.nodup p hp]
theorem FarEq.bif {h q:dD}{F:List (Nat×AObj)}(y:TF F) (I:FarEq h F):FarEq (fun i=>bif Nat.blt i 800 then q i else h i) F:=fun p hp=>by
 show(bif Nat.blt p.1 800 then q p.1 else h p.1)=_;rw[aFl (y.far p hp)];exact I p hp
theorem rI {args:List V}{hl F:List (Nat×AObj)}(q:TF F) (h1:∀x∈V.refsL args,x∈keys hl∨x∈keys F) (h2:∀x∈dI hl,x∈keys hl∨x∈keys F) (h3:(hl.all fun p=>p.2.live)=true:=by rfl):callOk args (hl++F)=true:=by
 have hk:∀x,(x∈keys hl∨x∈keys F)→x∈keys (hl++F):=fun x hx=>by unfold keys at *;rw[A6,ω];exact hx
 simp only[callOk,ζ];refine⟨⟨fK fun x hx=>hk x (h1 x hx),fK (oY q h2)⟩,?_⟩;rw[Dd,ζ];exact⟨h3,Au.2 fun p hp=>(q.ok p hp).1⟩
theorem FarEq.all {h:dD}{F:List (Nat×AObj)}(q:FarEq h F):dU (fun p=>h p.1=some p.2) F:=dU.of q
theorem aW.toR {P:Program}{f:FuncId}{args:List V}{id te es n:Nat}{elems:List (List C)}(h:aW P f args [] (.one (.hs id 0 n n)) [(id,.arr te es elems 0)]):aW P f args [] (.one (.ra id 0 n n)) [(id,.rarr te es (elems.map (·.map R.c)))]:=by
 intro S μ w vals J O;refine Calls.mono (h S μ w vals J O) ?_;rintro e w' ⟨S',μ',v,h1,h2,h3⟩;have key:∀{o:AObj} {j:Nat} {x:AObj},look [(id,o)] j=some x→j=id∧x=o:=by
  intro o j x hj;simp only[look] at hj;split at hj
  ·rename_i hb;cases hj;exact⟨Aa hb,rfl⟩
  ·cases hj
 have hid:∀o:AObj,look [(id,o)] id=some o:=fun o=>by simp[look]
 have y:(elems.map (·.map R.c)).flatten=elems.flatten.map R.c:=by rw[List.map_flatten]
 refine⟨S',μ',v,h1,⟨h2.holds,fun j o hj=>?_,fun i j o o' b c c' hi hj _ _=>?_,fun i o b c hi hm=>?_,h2.frame,h2.sle,h2.sto,⟨h2.evo.le,fun j o hj=>by cases hj⟩,h2.fre⟩,?_⟩
 ·obtain⟨rfl,rfl⟩:=key hj;obtain⟨g0,g⟩:=h2.obj j _ (hid _);refine⟨fun r Y=>?_,?_⟩
  ·obtain⟨r',I,rfl⟩:=Ah.1 Y;rw[φ];exact g0 r' I
  ·rcases g with⟨g1,g2⟩ | ⟨b,base,cap,vs,g1,g2,g3,g4,g5,g6,g7,g8,g9⟩
   ·exact .inl ⟨g1,by rw[g2];rfl⟩
   ·refine .inr ⟨b,base,cap,vs,g1,g2,g3,by rw[φ];exact g4,g5,?_,g7 rfl⟩;rw[y,φ];exact g6.toR
 ·rw[(key hi).1,(key hj).1]
 ·obtain⟨rfl,rfl⟩:=key hi;exact h2.own i _ b c (hid _) hm
 ·simp only[aY,b9] at h3 ⊢;obtain⟨Z,k | ⟨te',es',el',fz',k1,k2,k3⟩⟩:=h3
  ·rw[hid] at k;cases k
  ·rw[hid] at k1;cases k1;refine⟨Z,.inr ⟨te,es,_,hid _,by rw[φ];exact k2,fun e=>?_⟩⟩;rw[φ] at e;obtain⟨q1,q⟩:=k3 e;refine⟨q1,?_⟩;rcases q with⟨q,q3,q4⟩ | q
   ·exact .inl ⟨q,by rw[q3];rfl,q4⟩
   ·exact .inr q
structure GW (G F:List (Nat×AObj)):Prop where
 tf:TF F
 refs:∀x∈dI G,x∈keys G∨x∈keys F
 near:(G.all fun p=>Nat.blt p.1 800)=true
 plain:(G.all fun p=>p.2.plain)=true
theorem iS {α:Type}{a b:List (Nat×α)}{x:Nat}:x∈keys (a++b)↔x∈keys a∨x∈keys b:=by unfold keys;rw[A6,ω]
theorem GW.kf {G F:List (Nat×AObj)}:∀i∈keys (G++F),i∈keys G∨i∈keys F:=fun _ h=>iS.1 h
def Kn (ex G F:List (Nat×AObj)) (x:Nat):Prop:=x∈keys ex∨x∈keys G∨x∈keys F
theorem Kn.of {l:List Nat}{ex G F:List (Nat×AObj)}(h:subset l (keys ex++keys G)=true):∀x∈l,Kn ex G F x:=fun x hx=>by
 rcases ω.1 (bJ h x hx) with h | h
 ·exact .inl h
 ·exact .inr (.inl h)
theorem Kn.app {a b:List Nat}{ex G F:List (Nat×AObj)}(h:∀x∈a,Kn ex G F x) (k:∀x∈b,Kn ex G F x):∀x∈a++b,Kn ex G F x:=fun x hx=>(ω.1 hx).elim (h x) (k x)
def GF (G F:List (Nat×AObj)) (l:List Nat):Prop:=∀x∈l,x∈keys G∨x∈keys F
theorem Kn.gf {l:List Nat}{ex G F:List (Nat×AObj)}(h:GF G F l):∀x∈l,Kn ex G F x:=fun x hx=>.inr (h x hx)
theorem GF.app {G F:List (Nat×AObj)}{a b:List Nat}(h:GF G F a) (k:GF G F b):GF G F (a++b):=fun x hx=>(ω.1 hx).elim (h x) (k x)
theorem Kn.nil {ex G F:List (Nat×AObj)}:∀x∈([]:List Nat),Kn ex G F x:=fun _ h=>by cases h
theorem aCz {ex:List (Nat×AObj)}{p:Nat→Prop}(h:dU (fun q=>∀x∈q.2.refs,p x) ex):∀x∈dI ex,p x:=by
 induction ex with
 | nil=>intro x hx;cases hx
 | cons q l y=>
  intro x hx;rcases ω.1 (show x∈q.2.refs++dI l from hx) with hx | hx
  ·exact h.1 x hx
  ·exact y h.2 x hx
theorem Kn.split {ex G F:List (Nat×AObj)}{x:Nat}(h:Kn ex G F x):x∈keys (ex++G)∨x∈keys F:=by
 rcases h with h | h | h
 ·exact .inl (iS.2 (.inl h))
 ·exact .inl (iS.2 (.inr h))
 ·exact .inr h
theorem GW.all {ex G F:List (Nat×AObj)}(W:GW G F) (h2:dU (fun q=>∀x∈q.2.refs,Kn ex G F x) ex):∀x∈dI (ex++G),x∈keys (ex++G)∨x∈keys F:=fun x hx=>by
 rw[jI] at hx;rcases ω.1 hx with hx | hx
 ·exact(aCz h2 x hx).split
 ·exact(W.refs x hx).imp (fun h=>iS.2 (.inr h)) id
theorem slG {kf:List Nat}{y:St}{el:List (Nat×V)}{ex G F:List (Nat×AObj)}(W:GW G F)
  (h4:∀i∈kf,i∈keys G∨i∈keys F:=by exact Go.AM.GW.kf)
  (I:FarEq y.h F:=by repeat (first | exact Go.AM.FarEq.raw (by assumption) | (refine Go.AM.FarEq.updL (by assumption) ?_) | (refine Go.AM.FarEq.upd (by assumption) ?_) | (refine Go.AM.FarEq.hfz (by assumption) ?_)))
  (h1:∀x∈jU el,Kn ex G F x:=by exact Go.AM.Kn.of rfl)
  (h2:dU (fun q=>∀x∈q.2.refs,Kn ex G F x) ex:=by repeat (first | exact trivial | refine⟨by first | exact Go.AM.Kn.of rfl | exact Go.AM.Kn.gf (by assumption),?_⟩))
  (he:dU (fun p=>y.e p.1=some (p.2.ren (fun i=>i))) el:=by repeat (first | exact trivial | refine⟨by first | rfl | exact congrArg some (V.ren_id _).symm,?_⟩))
  (hh:dU (fun p=>∃o,y.h p.1=some o∧Ole (fun i=>i) o p.2) (ex++G):=by repeat (first | exact trivial | refine⟨⟨_,rfl,by first | exact Go.AM.Ole.arr | exact Go.AM.Ole.var rfl | exact Go.AM.Ole.varS rfl | exact Go.AM.Ole.map | exact Go.AM.Ole.rarrS rfl⟩,?_⟩))
  (hd:y.d=[]:=by rfl) (h3:distinct ((ex++G).map (·.1))=true:=by rfl) (h3':((ex++G).all fun p=>Nat.blt p.1 800)=true:=by rfl):Sub kf (mkt el (ex++G) F) y:=
 slT W.tf I (fun x hx=>(h1 x hx).split) (W.all h2) (fun i hi=>(h4 i hi).imp (fun h=>iS.2 (.inr h)) id) he hh hd h3 h3'
theorem rtG {T:TT}{fn:Func}{st:St}{G F:List (Nat×AObj)}{res:V}{t:Nat}(W:GW G F) (q:fn.results.toList=[.tmp t]:=by rfl) (y:st.e t=some res:=by rfl)
  (I:FarEq st.h F:=by repeat (first | exact Go.AM.FarEq.raw (by assumption) | (refine Go.AM.FarEq.updL (by assumption) ?_) | (refine Go.AM.FarEq.upd (by assumption) ?_) | (refine Go.AM.FarEq.hfz (by assumption) ?_)))
  (h1:∀x∈res.refs,Kn [] G F x:=by exact Go.AM.Kn.of rfl)
  (hh:dU (fun p=>∃o,st.h p.1=some o∧Ole (fun i=>i) o p.2) G:=by repeat (first | exact trivial | refine⟨⟨_,rfl,by first | exact Go.AM.Ole.arr | exact Go.AM.Ole.var rfl | exact Go.AM.Ole.varS rfl | exact Go.AM.Ole.map | exact Go.AM.Ole.rarrS rfl⟩,?_⟩))
  (h3:distinct (G.map (·.1))=true:=by rfl):(Exit.ret=.normal∨Exit.ret=.ret)∧Fin T fn st (G++F) res (G++F):=by
 refine⟨.inr rfl,aHc W.tf I ⟨[res],[res],by rw[q];exact .tmp y .nil,.cons .refl .nil,rfl⟩ (fun x hx=>(h1 x hx).split) (fun x hx=>W.refs x hx) GW.kf (fun p hp=>?_) hh h3 W.near W.plain⟩;rcases ω.1 hp with hp | hp
 ·exact(Au.1 W.plain) p hp
 ·exact(W.tf.ok p hp).2
theorem kix {tr:Tr}{P:Program}{n:Nat}{ops:Array Oper}{draw:Bool}{k d:Nat}{st:St}{pre:REs}{Q:St→Prop}{o:Oper}{t te:TypeId}{i ei:TI}{x y:Operand}{id len sz j es q fz:Nat}{kk:IntKind}{elems:List (List C)}(hT:Tok P tr.flat)
  (hh:st.h id=some (.arr q es elems fz)) (hx:opv st x=some (.one (.hs id 0 len sz))) (J:sz=elems.length) (O:j<len)
  (hk:kD P n ops draw (k+1) ⟨upd st.e d (some (.one (.ep id j 0 sz))),st.h,st.d⟩ ((⟨opr x++opr y,[id]⟩,⟨some (d,some (.one (.ep id j 0 sz))),[]⟩)::pre) Q)
  (hw:tr.wf=true) (ho:ops[k]?=some o:=by rfl) (hg:o.guard=none:=by rfl) (Y:o.op=.indexAddr t x y:=by rfl) (hd:o.dst=some d:=by rfl) (Z:Nat.blt d n=true:=by rfl)
  (hi:tr.get t=some i:=by rfl) (aa:i.k=.sl te:=by rfl) (ab:tr.get te=some ei:=by rfl) (ac:ei.size=es:=by rfl) (hy:opv st y=some (I kk (j:Int)):=by rfl):kD P n ops draw k st pre Q:=by
 have h:=xK (P:=P) (n:=n) hT Y hd (gB Z) (Tr.get_ok hw hi) aa (Tr.get_ok hw ab) ac hx hh J hy rfl O;rw[Be] at h;exact k_ (g_ ho hg h) hk
theorem a9i {tr:Tr}{P:Program}{n:Nat}{ops:Array Oper}{draw:Bool}{k d:Nat}{st:St}{pre:REs}{Q:St→Prop}{o:Oper}{t te:TypeId}{i:TI}{x:Operand}{id off len sz es q fz:Nat}{elems:List (List C)}(Z:Tok P tr.flat)
  (hh:st.h id=some (.arr q es elems fz)) (hx:opv st x=some (.one (.hs id off len sz))) (y:sz=elems.length)
  (hk:kD P n ops draw (k+1) ⟨upd st.e d (some (I .i64 (len:Int))),st.h,st.d⟩ ((⟨opr x,[id]⟩,⟨some (d,some (I .i64 (len:Int))),[]⟩)::pre) Q)
  (hw:tr.wf=true) (ho:ops[k]?=some o:=by rfl) (hg:o.guard=none:=by rfl) (J:o.op=.call { callee:=.builtin .len,args:= #[x],argTypes:= #[t] }:=by rfl) (hd:o.dst=some d:=by rfl) (O:Nat.blt d n=true:=by rfl)
  (hi:tr.get t=some i:=by rfl) (Y:i.k=.sl te:=by rfl):kD P n ops draw k st pre Q:=
 k_ (g_ ho hg (aJd (P:=P) (n:=n) Z J hd (gB O) (Tr.get_ok hw hi) Y hx hh y)) hk
def fzH (id:Nat) (z:Fz):List (Nat×AObj)→List (Nat×AObj)
 | []=>[]
 | (k,o)::l=>(k,o.fz id z)::fzH id z l
theorem aKd {id:Nat}{z:Fz}:∀{l:List (Nat×V)}{t:Nat},look (fzE id z l) t=(look l t).map (V.fz id z)
 | [],_=>rfl
 | (k,v)::l,t=>by
  simp only[fzE,look];cases Nat.beq t k
  ·simpa using aKd (l:=l) (t:=t)
  ·rfl
theorem aA0 {id:Nat}{z:Fz}:∀{l:List (Nat×AObj)}{t:Nat},look (fzH id z l) t=(look l t).map (AObj.fz id z)
 | [],_=>rfl
 | (k,v)::l,t=>by
  simp only[fzH,look];cases Nat.beq t k
  ·simpa using aA0 (l:=l) (t:=t)
  ·rfl
section
variable {id n es:Nat}{l:List R}
mutual
theorem R.fz_far:∀(r:R),id∉r.refs→r.fz id (.ra n es l)=r
 | .c _,_=>rfl
 | .hs ..,_=>rfl
 | .tl ..,_=>rfl
 | .vp ..,_=>rfl
 | .ep ..,_=>rfl
 | .mr _,_=>rfl
 | .clo f caps,h=>by simp only[R.fz,R.fzL_far caps (by simpa only[R.refs] using h)]
 | .mth f x,h=>by simp only[R.fz,R.fz_far x (by simpa only[R.refs] using h)]
 | .yl _,_=>rfl
 | .ra j off len sz,h=>by
  have hj:j≠id:=fun e=>h (by simp[R.refs,e])
  have hb:Nat.beq j id=false:=by
   cases hb:Nat.beq j id with
   | false=>rfl
   | true=>exact absurd (Aa hb) hj
  simp[R.fz,hb]
 | .rp j i fo sz,h=>by
  have hj:j≠id:=fun e=>h (by simp[R.refs,e])
  have hb:Nat.beq j id=false:=by
   cases hb:Nat.beq j id with
   | false=>rfl
   | true=>exact absurd (Aa hb) hj
  simp[R.fz,hb]
 | .ras m e r,h=>by simp only[R.fz,R.fzL_far r (by simpa only[R.refs] using h)]
 | .pas r,h=>by simp only[R.fz,R.fzL_far r (by simpa only[R.refs] using h)]
theorem R.fzL_far:∀(r:List R),id∉R.refsL r→R.fzL id (.ra n es l) r=r
 | [],_=>rfl
 | r::rs,h=>by
  simp only[R.refsL,ω,not_or] at h;simp only[R.fzL,R.fz_far r h.1,R.fzL_far rs h.2]
end
theorem vD:∀(r:List (List R)),id∉dB r→fzR id (.ra n es l) r=r
 | [],_=>rfl
 | r::rs,h=>by
  simp only[dB,ω,not_or] at h;simp only[fzR,R.fzL_far r h.1,vD rs h.2]
theorem aVf {m:Nat}(h:m=n):R.fz id (.ra n es l) (.ra id 0 m m)=.ras n es l:=by subst h;simp[R.fz]
end
theorem Sub.fraT {kf:List Nat}{el:List (Nat×V)}{rest F:List (Nat×AObj)}{id te es:Nat}{rows:List (List R)}(hF:TF F) (O:id∉kf) (Y:id∉dB rows) (y:Nat.blt id 800=true:=by rfl) (Z:distinct (id::rest.map (·.1))=true:=by rfl):
  Sub kf (mkt (fzE id (.ra rows.length es rows.flatten) el) (fzH id (.ra rows.length es rows.flatten) rest) F) (mkt el ((id,.rarr te es rows)::rest) F):=by
 have I:id∉R.refsL rows.flatten:=by
  have key:∀l:List (List R),R.refsL l.flatten=dB l:=by
   intro l
   induction l with
   | nil=>rfl
   | cons r l ih=>rw[Bm,R.refsL_append,ih];rfl
  rw[key];exact Y
 have h:=Sub.fra (kf:=kf) (st:=mkt el ((id,.rarr te es rows)::rest) F) (id:=id) (te:=te) (es:=es) (elems:=rows) (by
  show(match look ((id,AObj.rarr te es rows)::rest) id with | some x=>some x | none=>_)=_
  rw[bQ]) O (R.fzL_far _ I) I
 have e:(⟨fun t=>((mkt el ((id,.rarr te es rows)::rest) F).e t).map (V.fz id (.ra rows.length es rows.flatten)),hfz id (.ra rows.length es rows.flatten) (mkt el ((id,.rarr te es rows)::rest) F).h,(mkt el ((id,.rarr te es rows)::rest) F).d⟩:St)=
   mkt (fzE id (.ra rows.length es rows.flatten) el) (fzH id (.ra rows.length es rows.flatten) rest) F:=by
  unfold mkt;congr 1
  ·funext t;exact aKd.symm
  ·funext j;have q:=dP Z;simp only[Bq] at q;have hid:=Ak y;by_cases hj:j=id
   ·subst hj;rw[aXu,aA0,iY q.1,C9];simp only[y,Bv]
   ·rw[kT hj];show Option.map _ (match look ((id,AObj.rarr te es rows)::rest) j with | some x=>some x | none=>bif Nat.blt j 800 then none else look F j)=_;rw[cQ hj,aA0];cases look rest j with
    | some x=>rfl
    | none=>
     simp only[C9];by_cases h8:j<800
     ·simp only[a01 h8,Bv,C9]
     ·simp only[aFl (Nat.le_of_not_lt h8),B0];cases hl:look F j with
      | none=>rfl
      | some o=>
       obtain⟨te',es',l',z',J⟩:=hF.arr _ (bI hl);have J:o=_:=J;subst J;rfl
 rw[e] at h;exact h
end Go.AM
namespace Go.Proofs.YtnjaiimffoninaaGreatDoor
open Go Go.AM
set_option maxRecDepth 20000
def j1 (f n:Int) (s:Str) (t:Ty) (nk nb na:Nat):List R:=[.c (.int .i64 f),.c (.int .i64 n),.c (.str s),.c (.int .i64 t.form),.c (.int .i64 t.n),.c (.str t.name),.c (.sl 4 (iK t)),.hs 702 0 nk nk,.hs 701 0 nb nb,.ra 703 0 na na]
def fB (k:Nat) (a:Alt):List R:=[.c (.int .i64 a.form),.c (.int .i64 a.n),.c (.str a.name),.hs (k+800) 0 a.vars.length a.vars.length]++(aB a.body).map R.c
def b8:Nat→List Alt→List (List R)
 | _,[]=>[]
 | k,a::l=>fB k a::b8 (k+1) l
def fam:Nat→List Alt→List (Nat×AObj)
 | _,[]=>[]
 | k,a::l=>(k+800,.arr 9 1 (a.vars.map bA) 0)::fam (k+1) l
theorem rO:∀{l:List Alt}{k i:Nat}{a:Alt},l[i]?=some a→(b8 k l)[i]?=some (fB (k+i) a)
 | b::l,k,0,a,h=>by simp at h;subst h;rfl
 | b::l,k,i+1,a,h=>by
  simp only[b8,Bh];rw[rO (by simpa using h),show k+1+i=k+(i+1) by omega]
theorem fI:∀{l:List Alt}{k:Nat},(b8 k l).length=l.length
 | [],_=>rfl
 | _::l,k=>by simp[b8,fI (l:=l)]
theorem aE1:∀{l:List Alt}{k i:Nat}{a:Alt},l[i]?=some a→(k+i+800,AObj.arr 9 1 (a.vars.map bA) 0)∈fam k l
 | b::l,k,0,a,h=>by simp at h;subst h;exact η
 | b::l,k,i+1,a,h=>by
  have:=aE1 (l:=l) (k:=k+1) (by simpa using h);rw[show k+1+i=k+(i+1) by omega] at this;exact χ _ this
theorem oR:∀{l:List Alt}{k:Nat}{p:Nat×AObj},p∈fam k l→∃i a,l[i]?=some a∧p=(k+i+800,AObj.arr 9 1 (a.vars.map bA) 0)
 | b::l,k,p,h=>by
  rcases Ac.1 h with rfl | h
  ·exact⟨0,b,rfl,rfl⟩
  ·obtain⟨i,a,h1,h2⟩:=oR h;exact⟨i+1,a,h1,by rw[h2,show k+1+i=k+(i+1) by omega]⟩
theorem n8:∀{l:List Alt}{k:Nat},((fam k l).map (·.1)).Nodup
 | [],_=>nodup_nil
 | a::l,k=>by
  simp only[fam,At];refine Bq.2 ⟨fun h=>?_,n8⟩;obtain⟨p,hp,e⟩:=Ah.1 h;obtain⟨i,b,_,rfl⟩:=oR hp;simp only at e;omega
theorem iH {l:List Alt}{k:Nat}:TF (fam k l):=⟨fun p hp=>by obtain⟨i,a,_,rfl⟩:=oR hp;simp only;omega,n8,fun p hp=>by obtain⟨i,a,_,rfl⟩:=oR hp;exact⟨_,_,_,_,rfl⟩⟩
theorem aQ2 {l:List Alt}{k i:Nat}(h:i<l.length):k+i+800∈keys (fam k l):=by
 obtain⟨a,ha⟩:=aJ h;exact Ah.2 ⟨_,aE1 ha,rfl⟩
theorem s6 {k:Nat}{a:Alt}{x:Nat}(h:x∈R.refsL (fB k a)):x=k+800:=by
 unfold fB aB at h;simpa [R.refsL,R.refs] using h
theorem eR:∀{l:List Alt}{k:Nat},∀x∈dB (b8 k l),x∈keys (fam k l)
 | [],_,x,h=>by simp[b8,dB] at h
 | a::l,k,x,h=>by
  rcases ω.1 (show x∈R.refsL (fB k a)++dB (b8 (k+1) l) from h) with h | h
  ·rw[s6 h];exact η
  ·exact χ _ (eR x h)
def gHl (f n:Int) (s:Str) (t:Ty) (ks:List Core) (bs:List Bind) (al:List Alt):List (Nat×AObj):=
 [(700,.var 30 (j1 f n s t ks.length bs.length al.length)),(701,.arr 35 15 (aR bs) 0),(702,.arr 30 10 (aT ks) 0),(703,.rarr 73 14 (b8 0 al))]
theorem aA7 {f n:Int}{s:Str}{t:Ty}{ks:List Core}{bs:List Bind}{al:List Alt}:∀x∈dI (gHl f n s t ks bs al),x∈keys (gHl f n s t ks bs al)∨x∈keys (fam 0 al):=fun x hx=>by
 simp only[gHl,dI,AObj.refs,j1,R.refsL,R.refs,A3,A9,ω,Ac,C1,or_false] at hx;rcases hx with(rfl | rfl | rfl) | hx
 ·exact .inl (by simp[gHl,keys])
 ·exact .inl (by simp[gHl,keys])
 ·exact .inl (by simp[gHl,keys])
 ·exact .inr (eR x hx)
theorem gW {f n:Int}{s:Str}{t:Ty}{ks:List Core}{bs:List Bind}{al:List Alt}:GW (gHl f n s t ks bs al) (fam 0 al):=⟨iH,aA7,rfl,rfl⟩
def gNm:Bool→List (List R)
 | true=>[[.vp 700 2]]
 | false=>[]
def gPo (rows:List (List R)):AObj:=.rarr 105 1 rows
def gNo (rows:List (List R)):AObj:=.rarr 153 1 rows
def rgR (f:Nat→List R) (k:Nat):List (List R):=(List.range k).map f
theorem sP (f:Nat→List R) (k:Nat):rgR f (k+1)=rgR f k++[f k]:=by unfold rgR;rw[range_succ,A6];rfl
theorem i7 (f:Nat→List R) (k:Nat):(rgR f k).length=k:=by simp[rgR]
theorem nL {f:Nat→List R}{L:Nat→Prop}(h:∀j,∀x∈R.refsL (f j),L x) (k:Nat):∀x∈dB (rgR f k),L x:=by
 have key:∀rows:List (List R),(∀r∈rows,∀x∈R.refsL r,L x)→∀x∈dB rows,L x:=by
  intro rows
  induction rows with
  | nil=>intro _ x hx;simp[dB] at hx
  | cons r rows I=>
   intro y x hx;rcases ω.1 (show x∈R.refsL r++dB rows from hx) with hx | hx
   ·exact y r η x hx
   ·exact I (fun q J=>y q (χ _ J)) x hx
 refine key _ fun r y=>?_
 obtain⟨j,_,rfl⟩:=Ah.1 y;exact h j
def nR (b:Bool) (nb i:Nat):List (List R):=gNm b++rgR (fun j=>[.ep 701 j 0 nb]) i
def pR (nk nb i:Nat):List (List R):=rgR (fun j=>[.ep 702 j 0 nk]) nk++rgR (fun j=>[.ep 701 j 5 nb]) i
def vR (k nv i:Nat):List (List R):=rgR (fun j=>[.ep (k+800) j 0 nv]) i
def oU (na k:Nat) (a:Alt):List R:=[.ras (vR k a.vars.length a.vars.length).length 1 (vR k a.vars.length a.vars.length).flatten,.ras 1 1 [.rp 703 k 4 na]]
def aLe (na:Nat):Nat→List Alt→List (List R)
 | _,[]=>[]
 | k,a::l=>oU na k a::aLe na (k+1) l
def vB (b:Bool) (nk nb:Nat):List R:=[.ras (nR b nb nb).length 1 (nR b nb nb).flatten,.ras (pR nk nb nb).length 1 (pR nk nb nb).flatten]
def dT (b:Bool) (nk nb na:Nat) (l:List Alt):List (List R):=vB b nk nb::aLe na 0 l
theorem aB3 {q:Nat}:∀{l:List Alt}{k:Nat},(aLe q k l).length=l.length
 | [],_=>rfl
 | _::l,k=>by simp[aLe,aB3 (l:=l)]
theorem aFw {q:Nat}:∀{l:List Alt}{k i:Nat}{a:Alt},l[i]?=some a→aLe q k (l.take (i+1))=aLe q k (l.take i)++[oU q (k+i) a]
 | b::l,k,0,a,h=>by simp at h;subst h;simp[aLe]
 | b::l,k,i+1,a,h=>by
  simp only[Bj,aLe,A1];rw[aFw (l:=l) (k:=k+1) (by simpa using h),show k+1+i=k+(i+1) by omega]
theorem aSt {q:Nat}:∀{l:List Alt}{k i:Nat}{a:Alt},l[i]?=some a→(aLe q k l)[i]?=some (oU q (k+i) a)
 | b::l,k,0,a,h=>by simp at h;subst h;rfl
 | b::l,k,i+1,a,h=>by
  simp only[aLe,Bh];rw[aSt (by simpa using h),show k+1+i=k+(i+1) by omega]
theorem eU:∀{rows:List (List R)},R.refsL rows.flatten=dB rows
 | []=>rfl
 | r::rows=>by
  rw[Bm,R.refsL_append,eU];rfl
theorem aVd {G F:List (Nat×AObj)}{f:Nat→List R}(h:∀j,GF G F (R.refsL (f j))) (k:Nat):GF G F (dB (rgR f k)):=nL h k
theorem kM:∀(a b:List (List R)),dB (a++b)=dB a++dB b
 | [],_=>rfl
 | r::a,b=>by simp only[A1,dB,kM a b,Aw]
section
variable {f n:Int}{s:Str}{t:Ty}{ks:List Core}{bs:List Bind}{al:List Alt}
abbrev gfo (f n:Int) (s:Str) (t:Ty) (ks:List Core) (bs:List Bind) (al:List Alt) (l:List Nat):Prop:=GF (gHl f n s t ks bs al) (fam 0 al) l
theorem a82 (nk i:Nat):gfo f n s t ks bs al (dB (rgR (fun j=>[.ep 702 j 0 nk]) i)):=aVd (fun j x hx=>.inl (by
 have:x=702:=by simpa [R.refsL,R.refs] using hx
 subst this;simp[gHl,keys])) i
theorem aXv (b:Bool) (nb i:Nat):gfo f n s t ks bs al (dB (nR b nb i)):=by
 unfold nR;rw[kM];refine GF.app ?_ (aVd (fun j x hx=>.inl ?_) i)
 ·cases b
  ·exact fun x hx=>by simp[gNm,dB] at hx
  ·intro x hx;have:x=700:=by simpa [gNm,dB,R.refsL,R.refs] using hx
   subst this;exact .inl (by simp[gHl,keys])
 ·have:x=701:=by simpa [R.refsL,R.refs] using hx
  subst this;simp[gHl,keys]
theorem aVe (nk nb i:Nat):gfo f n s t ks bs al (dB (pR nk nb i)):=by
 unfold pR;rw[kM];refine GF.app (a82 _ _) (aVd (fun j x hx=>.inl ?_) i);have:x=701:=by simpa [R.refsL,R.refs] using hx
 subst this;simp[gHl,keys]
theorem a6s {k:Nat}(hk:k<al.length) (nv i:Nat):gfo f n s t ks bs al (dB (vR k nv i)):=by
 unfold vR;refine aVd (fun j x hx=>.inr ?_) i;have:x=k+800:=by simpa [R.refsL,R.refs] using hx
 subst this;have:=aQ2 (k:=0) hk;rwa [Be] at this
theorem a4g {k:Nat}(hk:k<al.length) (a:Alt):gfo f n s t ks bs al (R.refsL (oU al.length k a)):=by
 unfold oU;simp only[R.refsL,R.refs,eU,A9];refine GF.app (a6s hk _ _) fun x hx=>.inl ?_
 have:x=703:=by simpa using hx
 subst this;simp[gHl,keys]
theorem aQg:∀{l:List Alt}{k:Nat},k+l.length≤al.length→gfo f n s t ks bs al (dB (aLe al.length k l))
 | [],_,_=>fun x hx=>by simp[aLe,dB] at hx
 | a::l,k,h=>by
  simp only[Ai] at h;exact GF.app (a4g (by omega) a) (aQg (by omega))
theorem r7 (b:Bool) (i:Nat):gfo f n s t ks bs al (dB (dT b ks.length bs.length al.length (al.take i))):=by
 unfold dT;refine GF.app ?_ (aQg (by simp;omega));unfold vB;simp only[R.refsL,R.refs,eU,A9];exact GF.app (aXv _ _ _) (aVe _ _ _)
end
theorem kH {f n:Int}{s:Str}{t:Ty}{ks:List Core}{bs:List Bind}{al:List Alt}{l:List Nat}(h:gfo f n s t ks bs al l) {id:Nat}(h1:703<id) (h2:id<800):id∉l:=fun hx=>by
 rcases h id hx with h | h
 ·have:id=700∨id=701∨id=702∨id=703:=by simpa [gHl,keys] using h
  omega
 ·obtain⟨p,hp,e⟩:=Ah.1 h;have:=iH.far p hp;omega
theorem a4j {f n:Int}{s:Str}{t:Ty}{ks:List Core}{bs:List Bind}{al:List Alt}{id:Nat}(h1:703<id) (h2:id<800):id∉keys (gHl f n s t ks bs al++fam 0 al):=kH (fun _ hx=>iS.1 hx) h1 h2
theorem vE {f n:Int}{s:Str}{t:Ty}{ks:List Core}{bs:List Bind}{al:List Alt}{id m es:Nat}{l:List R}(h1:703<id) (h2:id<800):fzH id (.ra m es l) (gHl f n s t ks bs al)=gHl f n s t ks bs al:=by
 have hb:Nat.beq 703 id=false:=by
  cases hb:Nat.beq 703 id with
  | false=>rfl
  | true=>have:=Aa hb;omega
 have q:id∉dB (b8 0 al):=kH (fun x hx=>.inr (eR x hx)) h1 h2 (f:=f) (n:=n) (s:=s) (t:=t) (ks:=ks) (bs:=bs);simp only[gHl,fzH,AObj.fz,j1,R.fzL,R.fz,hb,vD _ q,Ba,B5]
theorem aFf (b:Bool) (f n:Int) (s:Str) (t:Ty) (ks:List Core) (bs:List Bind) (al:List Alt) (hb5:decide (f=5)=b) (hk:ks.length≤600000000000) (hb:bs.length≤600000000000) (ha:al.length≤600000000000) (hv:∀a∈al,a.vars.length≤600000000000):
  aW Tryz.prog 50 [.one (.vp 700 0)] (gHl f n s t ks bs al++fam 0 al) (.one (.ras (dT b ks.length bs.length al.length al).length 2 (dT b ks.length bs.length al.length al).flatten)) (gHl f n s t ks bs al++fam 0 al):=by
 have hF:TF (fam 0 al):=iH;have W:GW (gHl f n s t ks bs al) (fam 0 al):=gW;have hkB:(aR bs).length=bs.length:=by rw[bC,φ]
 have hkK:(aT ks).length=ks.length:=by rw[b7,φ]
 refine wL hF (n:=123) tok Tryz.func50 rfl rfl rfl ?_;refine sg rfl (sg rfl (AWp.sub (Sub.ownCellR (x:=3) (k:=1) (id:=712) 105 1 rfl rfl rfl) (AWp.sub (Sub.ownCellR (x:=3) (k:=0) (id:=711) 153 1 rfl rfl rfl) ?_)));refine a8 (sg rfl (aC (aK (fun i:Nat=>mkt [(0,.one (.vp 700 0)),(3,.one (.vp 3 0)),(16,I .i64 ((ks.length:Nat):Int)),(17,I .i64 i)] ([(712,gPo (rgR (fun j=>[.ep 702 j 0 ks.length]) i)),(3,.var 109 [.ra 711 0 0 0,.ra 712 0 (rgR (fun j=>[.ep 702 j 0 ks.length]) i).length (rgR (fun j=>[.ep 702 j 0 ks.length]) i).length]),(711,gNo [])]++gHl f n s t ks bs al) (fam 0 al)) (fun i=>i≤ks.length) (fun i=>ks.length-i) 0 (Al _) (slG W) ?_)));intro i hi;have hpl:=i7 (fun j=>[.ep 702 j 0 ks.length]) i;refine sg rfl (a8 (aA rfl (fun hb=>?_) (fun hb=>?_)))
 ·have q:i<ks.length:=by
   have:(i:Int)<(ks.length:Int):=ψ hb;omega
  have hst:=sP (fun j=>[.ep 702 j 0 ks.length]) i;have hr:gfo f n s t ks bs al (gPo (rgR (fun j=>[.ep 702 j 0 ks.length]) (i+1))).refs:=a82 _ _;refine aD (a8 (aC (sg rfl (ag [] rfl (ag [] rfl ⟨i+1,q,by dsimp only;omega,?_⟩)))));dsimp only;rw[hst] at hr ⊢;refine slG W (hh:=⟨⟨_,rfl,.rarrS rfl⟩,⟨_,rfl,.var ?_⟩,⟨_,rfl,.rarrS rfl⟩,⟨_,rfl,.var rfl⟩,⟨_,rfl,.arr⟩,⟨_,rfl,.arr⟩,⟨_,rfl,.rarrS rfl⟩,trivial⟩);rw[ε];rfl
 have J:i=ks.length:=by
  have:¬(i:Int)<(ks.length:Int):=π hb;omega
 subst J;clear hi hb hpl;have e0:rgR (fun j=>[.ep 702 j 0 ks.length]) ks.length=pR ks.length bs.length 0:=by simp[pR,rgR]
 rw[e0];have hr12:gfo f n s t ks bs al (gPo (pR ks.length bs.length 0)).refs:=aVe _ _ _;have hr11:gfo f n s t ks bs al (gNo (nR b bs.length 0)).refs:=aXv _ _ _;refine aL (a8 (AWp.cut (mkt [(0,.one (.vp 700 0)),(3,.one (.vp 3 0))] ([(712,gPo (pR ks.length bs.length 0)),(3,.var 109 [.ra 711 0 (nR b bs.length 0).length (nR b bs.length 0).length,.ra 712 0 (pR ks.length bs.length 0).length (pR ks.length bs.length 0).length]),(711,gNo (nR b bs.length 0))]++gHl f n s t ks bs al) (fam 0 al)) ?_ ?_))
 ·refine sg rfl (aA rfl (fun hb=>?_) (fun hb=>?_))
  ·have hb:decide (f=5)=true:=hb;rw[hb] at hb5;subst hb5;exact ag [] rfl (slG W)
  ·have hb:decide (f=5)=false:=hb;rw[hb] at hb5;subst hb5;exact aD (slG W)
 clear hr11 hr12 e0;refine a8 (sg rfl (aC (aK (fun i:Nat=>mkt [(0,.one (.vp 700 0)),(3,.one (.vp 3 0)),(49,I .i64 ((bs.length:Nat):Int)),(50,I .i64 i)] ([(712,gPo (pR ks.length bs.length i)),(3,.var 109 [.ra 711 0 (nR b bs.length i).length (nR b bs.length i).length,.ra 712 0 (pR ks.length bs.length i).length (pR ks.length bs.length i).length]),(711,gNo (nR b bs.length i))]++gHl f n s t ks bs al) (fam 0 al)) (fun i=>i≤bs.length) (fun i=>bs.length-i) 0 (Al _) (slG W (h2:=⟨Kn.gf (aVe _ _ _),Kn.of rfl,Kn.gf (aXv _ _ _),trivial⟩)) ?_)));intro i hi;have hpl:(pR ks.length bs.length i).length=ks.length+i:=by unfold pR;rw[ε,i7,i7]
 have hnl:(nR b bs.length i).length≤1+i:=by unfold nR;rw[ε,i7];cases b<;>simp[gNm]
 refine sg rfl (a8 (aA rfl (fun hb=>?_) (fun hb=>?_)))
 ·have q:i<bs.length:=by
   have:(i:Int)<(bs.length:Int):=ψ hb;omega
  have hst1:pR ks.length bs.length (i+1)=pR ks.length bs.length i++[[.ep 701 i 5 bs.length]]:=by unfold pR;rw[sP,Aw]
  have hst2:nR b bs.length (i+1)=nR b bs.length i++[[.ep 701 i 0 bs.length]]:=by unfold nR;rw[sP,Aw]
  have hr12:gfo f n s t ks bs al (gPo (pR ks.length bs.length (i+1))).refs:=aVe _ _ _;have hr11:gfo f n s t ks bs al (gNo (nR b bs.length (i+1))).refs:=aXv _ _ _;refine aD (a8 (aC (sg rfl (sg rfl (ag [] rfl (ag [] rfl ⟨i+1,q,by dsimp only;omega,?_⟩))))));dsimp only;rw[hst1,hst2] at *;refine slG W (hh:=⟨⟨_,rfl,.rarrS rfl⟩,⟨_,rfl,.var ?_⟩,⟨_,rfl,.rarrS rfl⟩,⟨_,rfl,.var rfl⟩,⟨_,rfl,.arr⟩,⟨_,rfl,.arr⟩,⟨_,rfl,.rarrS rfl⟩,trivial⟩);rw[ε,ε];rfl
 have J:i=bs.length:=by
  have:¬(i:Int)<(bs.length:Int):=π hb;omega
 subst J;clear hi hb;refine aL ?_;have hn1:711∉dB (nR b bs.length bs.length):=kH (aXv (f:=f) (n:=n) (s:=s) (t:=t) (ks:=ks) (bs:=bs) (al:=al) b bs.length bs.length) (by omega) (by omega);have hn2:712∉dB (nR b bs.length bs.length):=kH (aXv (f:=f) (n:=n) (s:=s) (t:=t) (ks:=ks) (bs:=bs) (al:=al) b bs.length bs.length) (by omega) (by omega);have Z:711∉dB (pR ks.length bs.length bs.length):=kH (aVe (f:=f) (n:=n) (s:=s) (t:=t) (ks:=ks) (bs:=bs) (al:=al) ks.length bs.length bs.length) (by omega) (by omega);have aa:712∉dB (pR ks.length bs.length bs.length):=kH (aVe (f:=f) (n:=n) (s:=s) (t:=t) (ks:=ks) (bs:=bs) (al:=al) ks.length bs.length bs.length) (by omega) (by omega);refine AWp.sub (st2:=mkt [(0,.one (.vp 700 0)),(3,.one (.vp 3 0))] ((712,gPo (pR ks.length bs.length bs.length))::([(3,.var 109 [.ra 711 0 (nR b bs.length bs.length).length (nR b bs.length bs.length).length,.ra 712 0 (pR ks.length bs.length bs.length).length (pR ks.length bs.length bs.length).length]),(711,gNo (nR b bs.length bs.length))]++gHl f n s t ks bs al)) (fam 0 al)) (slG (ex:=(712,_)::[_,_]) W (h2:=⟨Kn.gf (aVe _ _ _),Kn.of rfl,Kn.gf (aXv _ _ _),trivial⟩)) ?_;refine AWp.sub (Sub.fraT hF (a4j (by omega) (by omega)) aa) ?_;have Y:fzH 712 (.ra (pR ks.length bs.length bs.length).length 1 (pR ks.length bs.length bs.length).flatten) ([(3,.var 109 [.ra 711 0 (nR b bs.length bs.length).length (nR b bs.length bs.length).length,.ra 712 0 (pR ks.length bs.length bs.length).length (pR ks.length bs.length bs.length).length]),(711,gNo (nR b bs.length bs.length))]++gHl f n s t ks bs al)
   =[(3,.var 109 [.ra 711 0 (nR b bs.length bs.length).length (nR b bs.length bs.length).length,.ras (pR ks.length bs.length bs.length).length 1 (pR ks.length bs.length bs.length).flatten]),(711,gNo (nR b bs.length bs.length))]++gHl f n s t ks bs al:=by
  show(3,_)::(711,AObj.rarr _ _ (fzR _ _ _))::fzH _ _ (gHl f n s t ks bs al)=_;rw[vE (by omega) (by omega),vD _ hn2];simp only[AObj.fz,R.fzL,aVf rfl];rfl
 rw[Y];refine AWp.sub (st2:=mkt [(0,.one (.vp 700 0)),(3,.one (.vp 3 0))] ((711,gNo (nR b bs.length bs.length))::([(3,.var 109 [.ra 711 0 (nR b bs.length bs.length).length (nR b bs.length bs.length).length,.ras (pR ks.length bs.length bs.length).length 1 (pR ks.length bs.length bs.length).flatten])]++gHl f n s t ks bs al)) (fam 0 al)) (slG (ex:=(711,_)::[_]) W (h2:=⟨Kn.gf (aXv _ _ _),Kn.app (Kn.of rfl) (Kn.app (by simp only[R.refs,eU];exact Kn.gf (aVe _ _ _)) Kn.nil),trivial⟩)) ?_;refine AWp.sub (Sub.fraT hF (a4j (by omega) (by omega)) hn1) ?_;have e2:fzH 711 (.ra (nR b bs.length bs.length).length 1 (nR b bs.length bs.length).flatten) ([(3,.var 109 [.ra 711 0 (nR b bs.length bs.length).length (nR b bs.length bs.length).length,.ras (pR ks.length bs.length bs.length).length 1 (pR ks.length bs.length bs.length).flatten])]++gHl f n s t ks bs al)
   =[(3,.var 109 (vB b ks.length bs.length))]++gHl f n s t ks bs al:=by
  show(3,_)::fzH _ _ (gHl f n s t ks bs al)=_;rw[vE (by omega) (by omega)];simp only[AObj.fz,R.fzL,aVf rfl,R.fz_far (.ras (pR ks.length bs.length bs.length).length 1 (pR ks.length bs.length bs.length).flatten) (show 711∉R.refsL (pR ks.length bs.length bs.length).flatten by rw[eU];exact Z)];rfl
 rw[e2];clear Y e2 hn1 hn2 Z aa hpl hnl;have hgf:gfo f n s t ks bs al (dB (dT b ks.length bs.length al.length (al.take 0))):=r7 b 0;have hal:al.length=(b8 0 al).length:=fI.symm;refine sgh [(1,.id 713)] rfl (a8 (sg rfl (aC (aK (fun i:Nat=>mkt [(0,.one (.vp 700 0)),(7,.one (.ra 713 0 (dT b ks.length bs.length al.length (al.take i)).length (dT b ks.length bs.length al.length (al.take i)).length)),(82,I .i64 ((al.length:Nat):Int)),(83,I .i64 i)] ([(713,.rarr 109 2 (dT b ks.length bs.length al.length (al.take i)))]++gHl f n s t ks bs al) (fam 0 al)) (fun i=>i≤al.length) (fun i=>al.length-i) 0 (Al _) (slG W) ?_))));intro i hi;have hgl:(dT b ks.length bs.length al.length (al.take i)).length=1+i:=by unfold dT;rw[Ai,aB3,Ap];omega
 refine sg rfl (a8 (aA rfl (fun hb=>?_) (fun hb=>?_)))
 ·have q:i<al.length:=by
   have:(i:Int)<(al.length:Int):=ψ hb;omega
  obtain⟨a,hai⟩:=aJ q;have hrow:(b8 0 al)[i]?=some (fB i a):=by rw[rO hai,Be]
  have hvl:=hv a (δ hai);have hobj:(i+800,AObj.arr 9 1 (a.vars.map bA) 0)∈fam 0 al:=by have:=aE1 (k:=0) hai;rwa [Be] at this
  have hvk:a.vars.length=(a.vars.map bA).length:=(φ _).symm;have hnx:dT b ks.length bs.length al.length (al.take (i+1))=dT b ks.length bs.length al.length (al.take i)++[oU al.length i a]:=by
   unfold dT;rw[aFw hai,Be];rfl
  have O:gfo f n s t ks bs al (dB (dT b ks.length bs.length al.length (al.take i))):=r7 b i;have hg1:gfo f n s t ks bs al (dB (dT b ks.length bs.length al.length (al.take (i+1)))):=r7 b (i+1);generalize dT b ks.length bs.length al.length (al.take i)=G at hgl hnx O ⊢;refine aD (a8 (aC (sg rfl (sg rfl (sgh [(3,.id 722)] rfl ?_)))));have aa:722∉dB [[R.rp 703 i 4 al.length]]:=by simp[dB,R.refsL,R.refs]
  refine AWp.sub (st2:=mkt [(0,.one (.vp 700 0)),(7,.one (.ra 713 0 G.length G.length)),(9,.one (.rp 703 i 0 al.length)),(10,.one (.vp 10 0)),(82,I .i64 ((al.length:Nat):Int)),(83,I .i64 i)] ((722,gPo [[.rp 703 i 4 al.length]])::([(10,.var 109 [.c .nl,.ra 722 0 1 1]),(713,.rarr 109 2 G)]++gHl f n s t ks bs al)) (fam 0 al)) (slG (ex:=(722,_)::[_,_]) W) ?_;refine AWp.sub (Sub.fraT hF (a4j (by omega) (by omega)) aa) ?_;have Y:fzH 722 (.ra 1 1 [R.rp 703 i 4 al.length]) ([(10,.var 109 [.c .nl,.ra 722 0 1 1]),(713,.rarr 109 2 G)]++gHl f n s t ks bs al)
    =[(10,.var 109 [.c .nl,.ras 1 1 [.rp 703 i 4 al.length]]),(713,.rarr 109 2 G)]++gHl f n s t ks bs al:=by
   show(10,_)::(713,AObj.rarr _ _ (fzR _ _ _))::fzH _ _ (gHl f n s t ks bs al)=_;rw[vE (by omega) (by omega),vD _ (kH O (by omega) (by omega))];rfl
  have e1':fzH 722 (.ra ([[R.rp 703 i 4 al.length]]:List (List R)).length 1 ([[R.rp 703 i 4 al.length]]:List (List R)).flatten)=fzH 722 (.ra 1 1 [R.rp 703 i 4 al.length]):=rfl;rw[e1',Y];clear Y e1' aa;refine AWp.sub (Sub.ownCellR (x:=10) (k:=0) (id:=721) 153 1 rfl rfl rfl) ?_;refine AWp.sub (st2:=mkt [(0,.one (.vp 700 0)),(7,.one (.ra 713 0 G.length G.length)),(9,.one (.rp 703 i 0 al.length)),(10,.one (.vp 10 0)),(82,I .i64 ((al.length:Nat):Int)),(83,I .i64 i)] ([(10,.var 109 [.ra 721 0 0 0,.ras 1 1 [.rp 703 i 4 al.length]]),(713,.rarr 109 2 G),(721,gNo [])]++gHl f n s t ks bs al) (fam 0 al)) (slG W) ?_;have hlook:∀(ex:List (Nat×AObj)),(ex.all fun p=>Nat.blt p.1 800)=true→(mkt [] (ex++gHl f n s t ks bs al) (fam 0 al)).h (i+800)=some (AObj.arr 9 1 (a.vars.map bA) 0):=fun ex hex=>
   (show FarEq _ _ from FarEq.mkt hF (by rw[Dd,hex];rfl)) _ hobj
  refine a8 (skh 4 [(3,.rr (fB i a))] rfl (a9i tok (hlook _ rfl) rfl hvk ?_ trw));refine kz 1 rfl (aC (aK (fun j:Nat=>mkt [(0,.one (.vp 700 0)),(7,.one (.ra 713 0 G.length G.length)),(9,.one (.rp 703 i 0 al.length)),(10,.one (.vp 10 0)),(82,I .i64 ((al.length:Nat):Int)),(83,I .i64 i),(101,I .i64 ((a.vars.length:Nat):Int)),(102,I .i64 j)] ([(721,gNo (vR i a.vars.length j)),(10,.var 109 [.ra 721 0 (vR i a.vars.length j).length (vR i a.vars.length j).length,.ras 1 1 [.rp 703 i 4 al.length]]),(713,.rarr 109 2 G)]++gHl f n s t ks bs al) (fam 0 al)) (fun j=>j≤a.vars.length) (fun j=>a.vars.length-j) 0 (Al _) (slG W) ?_));intro j hj;have hvj:(vR i a.vars.length j).length=j:=i7 _ _;refine sg rfl (a8 (aA rfl (fun hb=>?_) (fun hb=>?_)))
  ·have hlt2:j<a.vars.length:=by
    have:(j:Int)<(a.vars.length:Int):=ψ hb;omega
   have hst:vR i a.vars.length (j+1)=vR i a.vars.length j++[[.ep (i+800) j 0 a.vars.length]]:=sP _ _;have hr:gfo f n s t ks bs al (gNo (vR i a.vars.length (j+1))).refs:=a6s q _ _;refine aD (a8 (aC (sg rfl (aE mixed (ak 7 [(5,.rr (fB i a))] rfl (kix tok (j:=j) (hlook _ rfl) rfl hvk hlt2 ?_ trw))))));refine kz 4 rfl (ag [] rfl ⟨j+1,hlt2,by dsimp only;omega,?_⟩);dsimp only;rw[hst] at hr ⊢;refine slG W (hh:=⟨⟨_,rfl,.rarrS rfl⟩,⟨_,rfl,.varS ?_⟩,⟨_,rfl,.rarrS rfl⟩,⟨_,rfl,.var rfl⟩,⟨_,rfl,.arr⟩,⟨_,rfl,.arr⟩,⟨_,rfl,.rarrS rfl⟩,trivial⟩);rw[ε]
  have J:j=a.vars.length:=by
   have:¬(j:Int)<(a.vars.length:Int):=π hb;omega
  subst J;clear hb hj;refine aL ?_;have Z:721∉dB (vR i a.vars.length a.vars.length):=kH (a6s (f:=f) (n:=n) (s:=s) (t:=t) (ks:=ks) (bs:=bs) q a.vars.length a.vars.length) (by omega) (by omega);have hrv:gfo f n s t ks bs al (gNo (vR i a.vars.length a.vars.length)).refs:=a6s q _ _;refine AWp.sub (st2:=mkt [(0,.one (.vp 700 0)),(7,.one (.ra 713 0 G.length G.length)),(10,.one (.vp 10 0)),(82,I .i64 ((al.length:Nat):Int)),(83,I .i64 i)] ((721,gNo (vR i a.vars.length a.vars.length))::([(10,.var 109 [.ra 721 0 (vR i a.vars.length a.vars.length).length (vR i a.vars.length a.vars.length).length,.ras 1 1 [.rp 703 i 4 al.length]]),(713,.rarr 109 2 G)]++gHl f n s t ks bs al)) (fam 0 al)) (slG (ex:=(721,_)::[_,_]) W) ?_;refine AWp.sub (Sub.fraT hF (a4j (by omega) (by omega)) Z) ?_;have Y:fzH 721 (.ra (vR i a.vars.length a.vars.length).length 1 (vR i a.vars.length a.vars.length).flatten) ([(10,.var 109 [.ra 721 0 (vR i a.vars.length a.vars.length).length (vR i a.vars.length a.vars.length).length,.ras 1 1 [.rp 703 i 4 al.length]]),(713,.rarr 109 2 G)]++gHl f n s t ks bs al)
    =[(10,.var 109 (oU al.length i a)),(713,.rarr 109 2 G)]++gHl f n s t ks bs al:=by
   show(10,_)::(713,AObj.rarr _ _ (fzR _ _ _))::fzH _ _ (gHl f n s t ks bs al)=_;rw[vE (by omega) (by omega),vD _ (kH O (by omega) (by omega))];simp only[AObj.fz,R.fzL,aVf rfl,R.fz_far (.ras 1 1 [.rp 703 i 4 al.length]) (show 721∉R.refs (.ras 1 1 [.rp 703 i 4 al.length]) by simp[R.refs,R.refsL])];rfl
  rw[Y];clear Y Z;have hra:gfo f n s t ks bs al (R.refsL (oU al.length i a)):=a4g q a;have halr:∃x y,oU al.length i a=[x,y]:=⟨_,_,rfl⟩
  refine ag [] rfl (ag [] rfl ⟨i+1,q,by dsimp only;omega,?_⟩);dsimp only;rw[hnx] at hg1 ⊢;have hg1:gfo f n s t ks bs al (AObj.rarr 109 2 (G++[oU al.length i a])).refs:=hg1;refine slG W (he:=⟨rfl,by rw[ε];rfl,rfl,rfl,trivial⟩)
 have J:i=al.length:=by
  have:¬(i:Int)<(al.length:Int):=π hb;omega
 subst J;have O:gfo f n s t ks bs al (dB (dT b ks.length bs.length al.length (al.take al.length))):=r7 b _;rw[As] at *;generalize dT b ks.length bs.length al.length al=G at *;refine aL (AWp.sub (st2:=mkt [(7,.one (.ra 713 0 G.length G.length))] ((713,.rarr 109 2 G)::([]++gHl f n s t ks bs al)) (fam 0 al)) (slG (ex:=[(713,_)]) W (h2:=⟨Kn.gf O,trivial⟩)) ?_);refine AWp.sub (Sub.fraT hF (a4j (by omega) (by omega)) (kH O (by omega) (by omega))) ?_;have Y:fzH 713 (.ra G.length 2 G.flatten) ([]++gHl f n s t ks bs al)=gHl f n s t ks bs al:=vE (by omega) (by omega);have e2:fzE 713 (.ra G.length 2 G.flatten) [(7,.one (.ra 713 0 G.length G.length))]=[(7,.one (.ras G.length 2 G.flatten))]:=by
  simp only[fzE,V.fz,aVf rfl]
 rw[Y,e2];exact sg rfl (aF (rtG W (h1:=Kn.gf (by show GF _ _ (R.refsL G.flatten);rw[eU];exact O))))
end Go.Proofs.YtnjaiimffoninaaGreatDoor
namespace Go.AM
open Go
def AObj.frz:AObj→AObj
 | .arr te es l _=>.arr te es l 2
 | o=>o
def aGc (F:List (Nat×AObj)):List (Nat×AObj):=F.map fun p=>(p.1,p.2.frz)
theorem aQq {F:List (Nat×AObj)}:(aGc F).map (·.1)=F.map (·.1):=by unfold aGc;rw[Bn];rfl
theorem TF.frz {F:List (Nat×AObj)}(h:TF F):TF (aGc F):=⟨fun p hp=>by
 obtain⟨q,y,rfl⟩:=Ah.1 hp;exact h.far q y,by rw[aQq];exact h.nodup,fun p hp=>by
 obtain⟨q,y,rfl⟩:=Ah.1 hp;obtain⟨te,es,l,z,e⟩:=h.arr q y
 exact⟨te,es,l,2,by show q.2.frz=_;rw[e];rfl⟩⟩
theorem aAz {α:Type}{p:Nat×α}{x:α}:∀{a b:List (Nat×α)}{i:Nat},p.1∉a.map (·.1)→look (a++(p.1,x)::b) i=if i=p.1 then some x else look (a++p::b) i
 | [],b,i,_=>by
  obtain⟨k,y⟩:=p;simp only[A3,look];by_cases h:i=k
  ·subst h;simp
  ·have:Nat.beq i k=false:=by
    cases hb:Nat.beq i k with
    | false=>rfl
    | true=>exact absurd (Aa hb) h
   simp[this,h]
 | (k,y)::a,b,i,h=>by
  simp only[At,Ac,not_or] at h;simp only[A1,look];cases hb:Nat.beq i k with
  | true=>
   have:=Aa hb;subst this;simp[Ne.symm h.1]
  | false=>simpa using aAz h.2
theorem Sub.fzMid {kf:List Nat}{el:List (Nat×V)}{hl:List (Nat×AObj)}(hn:(hl.all fun p=>Nat.blt p.1 800)=true):∀{F2 F1:List (Nat×AObj)},TF (F1++F2)→Sub kf (mkt el hl (F1++aGc F2)) (mkt el hl (F1++F2))
 | [],F1,_=>by
  have:aGc []=[]:=rfl;rw[this];exact Sub.refl _ _
 | p::F2,F1,I=>by
  obtain⟨te,es,l,z,hp⟩:=I.arr p (by simp);have J:=I.far p (by simp);have O:=I.nodup;have Z:p.1∉F1.map (·.1):=fun hm=>by
   rw[A6,C0] at O;exact O.2.2 p.1 hm p.1 (by simp) rfl
  have Y:(mkt el hl (F1++p::F2)).h p.1=some (.arr te es l z):=by
   have:=FarEq.mkt (el:=el) I hn p (by simp);rw[this,hp]
  have h1:=Sub.freeze (kf:=kf) Y;have e:(⟨(mkt el hl (F1++p::F2)).e,upd (mkt el hl (F1++p::F2)).h p.1 (some (.arr te es l 2)),(mkt el hl (F1++p::F2)).d⟩:St)=mkt el hl (F1++(p.1,.arr te es l 2)::F2):=by
   unfold mkt;congr 1;funext i;by_cases hi:i=p.1
   ·subst hi;rw[aI,aAr hn J];simp only[aFl J,B0];rw[aAz Z,κ rfl]
   ·rw[aV _ _ _ hi];show(match look hl i with | some x=>some x | none=>bif Nat.blt i 800 then none else look (F1++p::F2) i)=_;have hm:=aAz (p:=p) (x:=AObj.arr te es l 2) (a:=F1) (b:=F2) (i:=i) Z;rw[θ hi] at hm
    (first | (rw[hm];done) | (rw[hm];rfl))
  rw[e] at h1;have aa:TF ((F1++[(p.1,AObj.arr te es l 2)])++F2):=by
   refine⟨fun q y=>?_,?_,fun q y=>?_⟩
   ·rw[Aw] at y;rcases ω.1 y with y | y
    ·exact I.far q (by simp[y])
    ·rcases Ac.1 y with rfl | y
     ·exact J
     ·exact I.far q (by simp[show q∈F2 from y])
   ·rw[Aw];have:((F1++([(p.1,AObj.arr te es l 2)]++F2)).map (·.1))=(F1++p::F2).map (·.1):=by simp
    rw[this];exact O
   ·rw[Aw] at y;rcases ω.1 y with y | y
    ·exact I.arr q (by simp[y])
    ·rcases Ac.1 y with rfl | y
     ·exact⟨_,_,_,_,rfl⟩
     ·exact I.arr q (by simp[show q∈F2 from y])
  have h2:=Sub.fzMid (kf:=kf) (el:=el) hn (F2:=F2) (F1:=F1++[(p.1,AObj.arr te es l 2)]) aa;simp only[Aw,List.singleton_append] at h2;have e2:aGc (p::F2)=(p.1,.arr te es l 2)::aGc F2:=by
   show(p.1,p.2.frz)::aGc F2=_;rw[hp];rfl
  rw[e2];exact fun G n S μ a w hg hs=>by
   obtain⟨S',μ',hs'⟩:=h1 G n S μ a w hg hs;exact h2 G n S' μ' a w hg hs'
theorem Sub.fzAll {kf:List Nat}{el:List (Nat×V)}{hl F:List (Nat×AObj)}(q:TF F) (hn:(hl.all fun p=>Nat.blt p.1 800)=true:=by rfl):Sub kf (mkt el hl (aGc F)) (mkt el hl F):=Sub.fzMid hn (F1:=[]) q
theorem Sub.outsT {kf:List Nat}{e:Nat→Option V}{h:dD}{d:List Nat}{hl F:List (Nat×AObj)}(q:TF F):Sub kf ⟨e,fun i=>bif Nat.blt i 800 then updL h (outs hl) i else updL h (outs (hl++F)) i,d⟩ ⟨e,updL h (outs (hl++F)),d⟩:=by
 rw[←aBc q];exact Sub.refl _ _
end Go.AM
namespace Go.Proofs.YtnjaiimffoninaaGreatDoor
open Go Go.AM
set_option maxRecDepth 20000
mutual
def oV (p:Ty→Prop):Core→Prop
 | .mk _ _ _ t ks bs al=>p t∧aFy p ks∧aFz p bs∧aF1 p al
def aFy (p:Ty→Prop):List Core→Prop
 | []=>True
 | c::l=>oV p c∧aFy p l
def aFz (p:Ty→Prop):List Bind→Prop
 | []=>True
 | .mk _ t c::l=>p t∧oV p c∧aFz p l
def aF1 (p:Ty→Prop):List Alt→Prop
 | []=>True
 | .mk _ _ _ _ c::l=>oV p c∧aF1 p l
end
theorem aFx {p:Ty→Prop}:∀{l:List Core},aFy p l→∀x∈l,oV p x
 | c::l,h,x,hx=>by
  rw[aFy] at h;rcases Ac.1 hx with rfl | hx
  ·exact h.1
  ·exact aFx h.2 x hx
theorem w9 {p:Ty→Prop}:∀{l:List Bind},aFz p l→∀x∈l,p x.ty∧oV p x.body
 | .mk _ _ _::l,h,x,hx=>by
  rw[aFz] at h;rcases Ac.1 hx with rfl | hx
  ·exact⟨h.1,h.2.1⟩
  ·exact w9 h.2.2 x hx
theorem aF0 {p:Ty→Prop}:∀{l:List Alt},aF1 p l→∀x∈l,oV p x.body
 | .mk _ _ _ _ _::l,h,x,hx=>by
  rw[aF1] at h;rcases Ac.1 hx with rfl | hx
  ·exact h.1
  ·exact aF0 h.2 x hx
theorem tY {α:Type}:∀{l:List α}{j:Nat}{x:α},l[j]?=some x→l.set j x=l
 | [],_,_,h=>by simp at h
 | y::l,0,x,h=>by simp at h;subst h;rfl
 | y::l,j+1,x,h=>by
  rw[C3,tY (by simpa using h)]
def wF (al:List Alt) (i:Nat):List (List R):=b8 0 (al.take i)++(al.drop i).map fun a=>(cO a).map R.c
theorem sD:∀{l:List Alt}{k i:Nat}{a:Alt},l[i]?=some a→b8 k (l.take (i+1))=b8 k (l.take i)++[fB (k+i) a]
 | b::l,k,0,a,h=>by simp at h;subst h;simp[b8]
 | b::l,k,i+1,a,h=>by
  simp only[Bj,b8,A1];rw[sD (l:=l) (k:=k+1) (by simpa using h),show k+1+i=k+(i+1) by omega]
theorem aBd:∀{l:List Alt}{k i:Nat}{a:Alt},l[i]?=some a→fam k (l.take (i+1))=fam k (l.take i)++[(k+i+800,.arr 9 1 (a.vars.map bA) 0)]
 | b::l,k,0,a,h=>by simp at h;subst h;simp[fam]
 | b::l,k,i+1,a,h=>by
  simp only[Bj,fam,A1];rw[aBd (l:=l) (k:=k+1) (by simpa using h),show k+1+i=k+(i+1) by omega]
theorem aUy {al:List Alt}{i:Nat}:(wF al i).length=al.length:=by unfold wF;rw[ε,fI,φ,Ap,Bk];omega
theorem aZz {al:List Alt}{i:Nat}{a:Alt}(h:al[i]?=some a):(wF al i)[i]?=some ((cO a).map R.c):=by
 have q:i<al.length:=(ξ.1 h).1
 unfold wF;rw[Ao (by rw[fI,Ap];omega),fI,Ap,Ci (by omega),C7,Aq,Am,B9,h];rfl
theorem zT {α:Type}{l m:List α}{x y:α}{i:Nat}(h:l.length=i):(l++x::m).set i y=l++y::m:=by
 subst h;rw[set_append_right _ _ (le_refl _),C7];rfl
theorem vO {α:Type}{l:List α}{i:Nat}{a:α}(h:l[i]?=some a):l.drop i=a::l.drop (i+1):=by
 have q:i<l.length:=(ξ.1 h).1
 rw[Bl q];congr 1;exact(ξ.1 h).2
theorem aUx {al:List Alt}{i:Nat}{a:Alt}(h:al[i]?=some a) (r:List R):(wF al i).set i r=b8 0 (al.take i)++r::(al.drop (i+1)).map fun a=>(cO a).map R.c:=by
 have q:i<al.length:=(ξ.1 h).1
 unfold wF;rw[vO h,At];exact zT (by rw[fI,Ap];omega)
theorem aPq {al:List Alt}{i:Nat}{a:Alt}(h:al[i]?=some a):wF al (i+1)=b8 0 (al.take i)++fB i a::(al.drop (i+1)).map fun a=>(cO a).map R.c:=by
 unfold wF;rw[sD h,Aw,Be];rfl
theorem aPr {al:List Alt}{i:Nat}:∀x∈dB (wF al i),x∈keys (fam 0 (al.take i)):=fun x hx=>by
 unfold wF at hx;rw[kM] at hx;rcases ω.1 hx with hx | hx
 ·exact eR x hx
 ·have key:∀l:List Alt,dB (l.map fun a=>(cO a).map R.c)=[]:=by
   intro l
   induction l with
   | nil=>rfl
   | cons a l q=>
    show R.refsL _++dB _=[];rw[q,A9];unfold cO aB;simp[R.refsL,R.refs]
  rw[key] at hx;cases hx
def sgm (k:Nat) (j:Nat):Nat:=bif Nat.blt j 800 then j else bif Nat.beq j (k+800) then 710 else j
theorem aGk {k j:Nat}(h:800≤j) (hk:j≠k+800):sgm k j=j:=by
 unfold sgm;rw[aFl h];have:Nat.beq j (k+800)=false:=by
  cases hb:Nat.beq j (k+800) with
  | false=>rfl
  | true=>exact absurd (Aa hb) hk
 rw[this];rfl
theorem aGj {k:Nat}:sgm k (k+800)=710:=by
 unfold sgm;rw[aFl (le_add_left _ _)];simp
theorem aT4 {σ:Nat→Nat}:∀l:List C,R.renL σ (l.map R.c)=l.map R.c
 | []=>rfl
 | x::l=>by simp only[At,R.renL,R.ren,aT4 l]
theorem aJb {σ:Nat→Nat}:∀(a b:List (List R)),o9 σ (a++b)=o9 σ a++o9 σ b
 | [],_=>rfl
 | r::a,b=>by simp only[A1,o9,aJb a b]
theorem lD {σ:Nat→Nat}{k:Nat}{a:Alt}:R.renL σ (fB k a)=[.c (.int .i64 a.form),.c (.int .i64 a.n),.c (.str a.name),.hs (σ (k+800)) 0 a.vars.length a.vars.length]++(aB a.body).map R.c:=by
 unfold fB;simp only[A1,A3,R.renL,R.ren,aT4]
theorem u6 {i:Nat}:∀{l:List Alt}{k:Nat},k+l.length≤i→o9 (sgm i) (b8 k l)=b8 k l
 | [],_,_=>rfl
 | a::l,k,h=>by
  simp only[Ai] at h;simp only[b8,o9];rw[lD,aGk (le_add_left _ _) (by omega),u6 (l:=l) (k:=k+1) (by omega)];rfl
theorem xG {σ:Nat→Nat}:∀l:List Alt,o9 σ (l.map fun a=>(cO a).map R.c)=l.map fun a=>(cO a).map R.c
 | []=>rfl
 | a::l=>by simp only[At,o9,aT4,xG l]
def a9e (a:Alt):List R:=[.c (.int .i64 a.form),.c (.int .i64 a.n),.c (.str a.name),.hs 710 0 a.vars.length a.vars.length]++(aB a.body).map R.c
theorem aY9 {al:List Alt}{i:Nat}{a:Alt}(h:al[i]?=some a):(wF al i).set i (a9e a)=o9 (sgm i) (wF al (i+1)):=by
 rw[aUx h,aPq h,aJb];have q:i<al.length:=(ξ.1 h).1
 rw[u6 (by rw[Ap];omega)];simp only[o9];rw[lD,aGj,xG];rfl
def TyG (t:Ty):Prop:=aW Tryz.prog 124 [tyV t] [] (tyV t) []
def oHl (ks:List Core) (bs:List Bind) (al:List Alt):List (Nat×AObj):=[(701,.arr 35 15 (aR bs) 0),(702,.arr 30 10 (aT ks) 0),(703,.rarr 73 14 (b8 0 al))]
def OwG (c:Core):Prop:=aW Tryz.prog 101 [.pa (aB c)] [] (.ma (j1 c.form c.n c.name c.ty c.kids.length c.binds.length c.alts.length)) (oHl c.kids c.binds c.alts++fam 0 c.alts)
def OwP (c:Core):Prop:=aW Tryz.prog 101 [.pa (aB c)] [] (.pa (aB c)) []
theorem aBz (al:List Alt) (h:al.length≤600000000000):aW Tryz.prog 134 [.one (.c (.sl 14 (bP al)))] [] (.one (.ra 703 0 al.length al.length)) [(703,.rarr 73 14 (wF al 0))]:=by
 have q:(bP al).length=al.length:=by rw[bN,φ]
 have h1:=(aFh (bP al) (by omega)).toR;rw[q] at h1;have e:(bP al).map (·.map R.c)=wF al 0:=by
  unfold wF;rw[bN,Bn];rfl
 rwa [e] at h1
theorem aUz {al:List Alt}:wF al al.length=b8 0 al:=by
 unfold wF;rw[As,Cz];simp
theorem aOv {q:St}{al:List Alt}{i:Nat}{a:Alt}(y:al[i]?=some a) (J:FarEq q.h (fam 0 (al.take i))) (O:q.h 710=some (.arr 9 1 (a.vars.map bA) 0)):
  ∀p∈fam 0 (al.take (i+1)),∃o,q.h (sgm i p.1)=some o∧Ole (sgm i) o p.2:=fun p hp=>by
 rw[aBd y,Be] at hp;rcases ω.1 hp with hp | hp
 ·obtain⟨j,b,hj,rfl⟩:=oR hp;have I:j<(al.take i).length:=(ξ.1 hj).1
  rw[Ap] at I;refine⟨_,?_,.arr⟩;rw[aGk (le_add_left _ _) (by show 0+j+800≠i+800;omega)];exact J _ hp
 ·rw[Ab.1 hp];exact⟨_,by rw[aGj];exact O,.arr⟩
theorem aL8 {al:List Alt}{i:Nat}{a:Alt}{hl:List (Nat×AObj)}(O:al[i]?=some a) (h1:Go.AM.distinct (710::hl.map (·.1))=true) (h2:(hl.all fun p=>Nat.blt p.1 800)=true):((hl++fam 0 (al.take (i+1))).map fun p=>sgm i p.1).Nodup:=by
 have hlt:i<al.length:=(ξ.1 O).1
 have Z:(hl.map fun p=>sgm i p.1)=hl.map (·.1):=by
  refine Bx fun p hp=>?_
  have:=(Au.1 h2) p hp;unfold sgm;rw[this];rfl
 have e2:((fam 0 (al.take i)).map fun p=>sgm i p.1)=(fam 0 (al.take i)).map (·.1):=by
  refine Bx fun p hp=>?_
  obtain⟨j,b,hj,rfl⟩:=oR hp;have Y:j<(al.take i).length:=(ξ.1 hj).1
  rw[Ap] at Y;exact aGk (le_add_left _ _) (by show 0+j+800≠i+800;omega)
 rw[A6,aBd O,Be,A6,Z,e2];have hd:=dP h1;simp only[Bq] at hd;have J:∀x∈hl.map (·.1),x<800:=fun x hx=>by
  obtain⟨p,hp,rfl⟩:=Ah.1 hx;exact Ak ((Au.1 h2) p hp)
 have I:∀x∈(fam 0 (al.take i)).map (·.1),800≤x:=fun x hx=>by
  obtain⟨p,hp,rfl⟩:=Ah.1 hx;exact iH.far p hp
 show(hl.map (·.1)++((fam 0 (al.take i)).map (·.1)++[sgm i (i+800)])).Nodup;rw[aGj,C0,C0];refine⟨hd.2,⟨n8,by simp,fun x hx y q e=>?_⟩,fun x hx y q e=>?_⟩
 ·have:=I x hx;have:y=710:=by simpa using q
  omega
 ·subst e;rcases ω.1 q with q | q
  ·have:=J x hx;have:=I x q;omega
  ·have:x=710:=by simpa using q
   subst this;exact hd.1 hx
theorem a4l {b:Bool}{nk nb q:Nat}{l:List Alt}:(dT b nk nb q l)[0]?=some (vB b nk nb):=rfl
theorem a4k {b:Bool}{nk nb q:Nat}{l:List Alt}{i:Nat}{a:Alt}(h:l[i]?=some a):(dT b nk nb q l)[i+1]?=some (oU q i a):=by
 unfold dT;rw[Bh,aSt h,Be]
theorem aQh {b:Bool}{nk nb y:Nat}{l:List Alt}:∀r∈dT b nk nb y l,r.length=2:=by
 have key:∀(l:List Alt) (k:Nat),∀r∈aLe y k l,r.length=2:=by
  intro l
  induction l with
  | nil=>intro k r q;simp[aLe] at q
  | cons a l I=>
   intro k r q;rcases Ac.1 q with rfl | q
   ·rfl
   ·exact I _ r q
 intro r q;rcases Ac.1 q with rfl | q
 ·rfl
 ·exact key l 0 r q
theorem a4i {b:Bool}{nk nb q:Nat}{l:List Alt}:(dT b nk nb q l).length=1+l.length:=by unfold dT;rw[Ai,aB3];omega
theorem u0 {f:Nat→List R}{k:Nat}(h:∀j,(f j).length=1):∀r∈rgR f k,r.length=1:=fun r q=>by
 obtain⟨j,_,rfl⟩:=Ah.1 q;exact h j
theorem aD0 {nk nb i:Nat}:∀r∈pR nk nb i,r.length=1:=fun r q=>by
 unfold pR at q;rcases ω.1 q with q | q
 ·exact u0 (fun _=>rfl) r q
 ·exact u0 (fun _=>rfl) r q
theorem aI9 {f:Nat→List R}{k j:Nat}(h:j<k):(rgR f k)[j]?=some (f j):=by unfold rgR;rw[Aq,List.getElem?_range h];rfl
theorem aXm {nk nb i j:Nat}(h:j<nk):(pR nk nb i)[j]?=some [.ep 702 j 0 nk]:=by unfold pR;rw[Ax (by rw[i7];exact h),aI9 h]
theorem aXl {nk nb i j:Nat}(h:j<i):(pR nk nb i)[nk+j]?=some [.ep 701 j 5 nb]:=by unfold pR;rw[Ao (by rw[i7];omega),i7,Nat.add_sub_cancel_left,aI9 h]
theorem aXk {nk nb i:Nat}:(pR nk nb i).length=nk+i:=by unfold pR;rw[ε,i7,i7]
inductive LC:Core→Prop
 | mk {f n:Int} {s:Str} {t:Ty} {ks:List Core} {bs:List Bind} {al:List Alt} (h1:ks.length+bs.length+1≤570000000000) (h2:al.length+1≤570000000000) (h3:∀a∈al,a.vars.length≤570000000000)
   (hk:∀x∈ks,LC x) (hb:∀x∈bs,LC x.body) (ha:∀x∈al,LC x.body):LC (.mk f n s t ks bs al)
theorem LC.of:∀(k:Nat) (c:Core),aQ c≤k→aQ c≤570000000000→LC c
 | 0,c,h,_=>by have:=bH c;omega
 | k+1,.mk f n s t ks bs al,h,hs=>by
  obtain⟨q,y,I,J,O,Y⟩:= @dL f n s t ks bs al;refine .mk ?_ ?_ (fun a ha=>?_) (fun x hx=>LC.of k x (by have:=q x hx;omega) (by have:=q x hx;omega)) (fun x hx=>LC.of k x.body (by have:=y x hx;omega) (by have:=y x hx;omega)) fun x hx=>LC.of k x.body (by have:=I x hx;omega) (by have:=I x hx;omega)
  ·rw[aQ] at hs;have h1:=rH ks;have h2:=iO bs;omega
  ·rw[aQ] at hs;have h1:=rL al;omega
  ·have Z:=jE ha;have aa:=aYr a;rw[aQ] at hs;omega
theorem yN (c:Core) (ih:∀x,aQ x<aQ c→LC x→oV TyG x→OwP x) (hT:oV TyG c) (hlc:LC c):OwG c:=by
 obtain⟨f,n,s,t,ks,bs,al⟩:=c;obtain⟨ihk,ihb,iha,_,_,_⟩:= @dL f n s t ks bs al;obtain⟨l1,l2,l3,lk,lb,la⟩:(ks.length+bs.length+1≤570000000000)∧(al.length+1≤570000000000)∧(∀a∈al,a.vars.length≤570000000000)∧(∀x∈ks,LC x)∧(∀x∈bs,LC x.body)∧(∀x∈al,LC x.body):=by
  cases hlc with
  | mk h1 h2 h3 hk hb ha=>exact⟨h1,h2,h3,hk,hb,ha⟩
 rw[oV] at hT;obtain⟨ar,hTk,au,hTa⟩:=hT;have ar:aW Tryz.prog 124 [tyV t] [] (tyV t) []:=ar;have av:(aT ks).length=ks.length:=by rw[b7,φ]
 have aw:(aR bs).length=bs.length:=by rw[bC,φ]
 have k2:ks.length=(aT ks).length:=av.symm;have kb2:bs.length=(aR bs).length:=aw.symm;have ax:=qJ (aT ks) (by omega);have ay:=aBy (aR bs) (by omega);have hca:=aBz al (by omega);rw[av] at ax;rw[aw] at ay;show aW Tryz.prog 101 [.pa (aB (.mk f n s t ks bs al))] [] (.ma (j1 f n s t ks.length bs.length al.length)) (oHl ks bs al++fam 0 al);refine bZ (n:=85) tok Tryz.func101 rfl rfl rfl ?_;refine sgh [(0,.id 700)] rfl (sgh [(2,.pc (tyV t))] rfl (sk 2 rfl (kc ax ?_)));refine ak 2 [] rfl (kc ay ?_);refine ak 2 [] rfl (kc hca ?_);refine kz 6 rfl (a8 (sg rfl ?_));have hbl':bs.length≤570000000000:=by omega
 have ae:∀i,al.length=(wF al i).length:=fun i=>aUy.symm
 have hml0:=ae 0;refine aC ?_;have W0:∀i,GW [] (fam 0 (al.take i)):=fun i=>⟨iH,fun x hx=>(by cases hx),rfl,rfl⟩
 have ab:∀i,GF [] (fam 0 (al.take i)) (AObj.rarr 73 14 (wF al i)).refs:=fun i x hx=>.inr (aPr x hx)
 have hmix0:=ab 0;have hF0:TF (fam 0 (al.take 0)):=iH;refine aK (fun i:Nat=>mkt [(1,.one (.vp 700 0)),(2,.one (.vp 2 0)),(27,I .i64 ((bs.length:Nat):Int)),(28,I .i64 i)] ([(2,.var 30 dY),(700,.var 30 (j1 f n s t ks.length bs.length al.length)),(701,.arr 35 15 (aR bs) 0),(702,.arr 30 10 (aT ks) 0),(703,.rarr 73 14 (wF al 0))]++[]) (fam 0 (al.take 0))) (fun i=>i≤bs.length) (fun i=>bs.length-i) 0 (Al _) (slG (W0 0) (fun _ h=>by cases h) (fun p hp=>by cases hp)) ?_
 ·intro i hi;refine sg rfl (a8 (aA rfl (fun hb=>?_) (fun hb=>?_)))
  ·have Y:i<bs.length:=by
    have:(i:Int)<(bs.length:Int):=ψ hb;omega
   obtain⟨b,aa⟩:=aJ Y;have ac:=cR aa;have hbt:aW Tryz.prog 124 [tyV b.ty] [] (tyV b.ty) []:=(w9 au b (δ aa)).1
   have q:=tY ac;refine aD (a8 (aC (sg rfl (ag [(8,.row i (aS b)),(9,.pc (tyV b.ty)),(12,.row i (aS b))] rfl (ag [] rfl ⟨i+1,Y,by dsimp only;omega,slG (W0 0) (fun _ h=>by cases h) (hh:=⟨⟨_,rfl,.var rfl⟩,⟨_,rfl,.varS rfl⟩,⟨_,rfl,.arrS q⟩,⟨_,rfl,.arr⟩,⟨_,rfl,.rarrS rfl⟩,trivial⟩)⟩)))))
  refine aL (a8 (sg rfl (aC (aK (fun i:Nat=>mkt [(1,.one (.vp 700 0)),(2,.one (.vp 2 0)),(46,I .i64 ((al.length:Nat):Int)),(47,I .i64 i)] ([(2,.var 30 dY),(700,.var 30 (j1 f n s t ks.length bs.length al.length)),(701,.arr 35 15 (aR bs) 0),(702,.arr 30 10 (aT ks) 0),(703,.rarr 73 14 (wF al i))]++[]) (fam 0 (al.take i))) (fun i=>i≤al.length) (fun i=>al.length-i) 0 (Al _) (slG (W0 0) (fun _ h=>by cases h)) ?_))));intro i hi;have ae:=ae i;have hmi:=ab i;have ah:TF (fam 0 (al.take i)):=iH;refine sg rfl (a8 (aA rfl (fun hb=>?_) (fun hb=>?_)))
  ·have Y:i<al.length:=by
    have:(i:Int)<(al.length:Int):=ψ hb;omega
   obtain⟨a,y⟩:=aJ Y;have ai:=aZz y;have hvl:=l3 a (δ y);have aG:(a.vars.map bA).length=a.vars.length:=φ _;have aH:=wN (a.vars.map bA) (by rw[aG];omega);rw[aG] at aH;have hmx:=ab (i+1);refine aD (a8 (aC (sg rfl (aE mixed (ak 9 [(8,.rr ((cO a).map R.c))] rfl (kc aH ?_))))));refine ak 3 [(12,.rr ((cO a).map R.c))] rfl (az (ag [] rfl ⟨i+1,Y,by dsimp only;omega,?_⟩));dsimp only;refine Sub.tailT (hl:=[(2,.var 30 dY),(700,.var 30 (j1 f n s t ks.length bs.length al.length)),(701,.arr 35 15 (aR bs) 0),(702,.arr 30 10 (aT ks) 0),(703,.rarr 73 14 (wF al (i+1)))]++[]) (sgm i) iH ?_ ?_ ?_ ?_ ?_ ?_ ?_ ?_
   ·exact⟨rfl,rfl,rfl,rfl,trivial⟩
   ·exact⟨⟨_,rfl,.var rfl⟩,⟨_,rfl,.var rfl⟩,⟨_,rfl,.arr⟩,⟨_,rfl,.arr⟩,⟨_,rfl,.rarr (aY9 y)⟩,trivial⟩
   ·exact aOv y (by repeat (first | exact FarEq.raw ah | (refine FarEq.updL ah ?_) | (refine FarEq.upd ah ?_))) rfl
   ·rfl
   ·exact fun x hx=>.inl (bJ (show subset _ _=true from rfl) x hx)
   ·exact(W0 (i+1)).all ⟨Kn.of rfl,Kn.of rfl,Kn.of rfl,Kn.of rfl,Kn.gf hmx,trivial⟩
   ·exact aL8 y rfl rfl
   ·exact fun _ h=>by cases h
  refine aL ?_;have hge:i=al.length:=by
   have:¬(i:Int)<(al.length:Int):=π hb;omega
  subst hge;have Z:TF (fam 0 al):=iH;have W:GW (gHl f n s t ks bs al) (fam 0 al):=gW;have aI:=aFf (decide (f=5)) f n s t ks bs al rfl (by omega) (by omega) (by omega) fun a ha=>by have:=l3 a ha;omega
  have ad:=r7 (f:=f) (n:=n) (s:=s) (t:=t) (ks:=ks) (bs:=bs) (al:=al) (decide (f=5)) al.length;rw[As] at ad ⊢;rw[aUz];have hgl:(dT (decide (f=5)) ks.length bs.length al.length al).length=1+al.length:=a4i;have aM:gfo f n s t ks bs al (R.refsL (dT (decide (f=5)) ks.length bs.length al.length al).flatten):=by rw[eU];exact ad
  have aj:(dT (decide (f=5)) ks.length bs.length al.length al)[0]?=some (vB (decide (f=5)) ks.length bs.length):=a4l;have aN:∀i a,al[i]?=some a→(dT (decide (f=5)) ks.length bs.length al.length al)[i+1]?=some (oU al.length i a):=fun i a h=>a4k h
  have am:∀k r,(dT (decide (f=5)) ks.length bs.length al.length al)[k]?=some r→((dT (decide (f=5)) ks.length bs.length al.length al).flatten.drop (k*2)).take 2=r:=gK aQh;generalize dT (decide (f=5)) ks.length bs.length al.length al=G at aI hgl aM aj aN am;generalize decide (f=5)=b at aj;have hal':al.length=(b8 0 al).length:=fI.symm;refine a8 (a8 (aE mixed (kc aI ?_ (hin':=dU.app ⟨rfl,rfl,rfl,rfl,trivial⟩ (FarEq.raw Z).all) (hout':=dU.of fun p hp=>.inl (Ah.2 ⟨p,hp,rfl⟩)) (hok:=rI Z (fun x hx=>.inl (bJ (show subset _ _=true from rfl) x hx)) aA7))));refine kz 2 rfl (AWp.sub (Sub.outsT Z) ?_);refine aC ?_;have J:∀x∈R.refsL G.flatten,Kn [(2,.var 30 dY)] (gHl f n s t ks bs al) (fam 0 al) x:=Kn.gf aM;refine aK (fun g:Nat=>mkt [(1,.one (.vp 700 0)),(2,.one (.vp 2 0)),(63,.one (.ras G.length 2 G.flatten)),(64,I .i64 ((G.length:Nat):Int)),(65,I .i64 g)] ([(2,.var 30 dY)]++gHl f n s t ks bs al) (fam 0 al)) (fun g=>g≤G.length) (fun g=>G.length-g) 0 (Al _) (slG W (fun _ h=>by cases h) (FarEq.bif Z (FarEq.outs Z)) (h1:=Kn.app (Kn.of rfl) (Kn.app (Kn.of rfl) (Kn.app J Kn.nil)))) ?_;intro g hg;refine sg rfl (a8 (aA rfl (fun hb=>?_) (fun hb=>?_)))
  ·have Y:g<G.length:=by
    have:(g:Int)<(G.length:Int):=ψ hb;omega
   refine aD ?_;cases g with
   | zero=>
    have ht0:=am 0 _ aj;have hpl:(pR ks.length bs.length bs.length).length=ks.length+bs.length:=aXk;have ap:gfo f n s t ks bs al (R.refsL (pR ks.length bs.length bs.length).flatten):=by rw[eU];exact aVe _ _ _
    have aO:∀k r,(pR ks.length bs.length bs.length)[k]?=some r→((pR ks.length bs.length bs.length).flatten.drop (k*1)).take 1=r:=gK aD0;have hp1:∀j,j<ks.length→(pR ks.length bs.length bs.length)[j]?=some [.ep 702 j 0 ks.length]:=fun j h=>aXm h
    have hp2:∀j,j<bs.length→(pR ks.length bs.length bs.length)[ks.length+j]?=some [.ep 701 j 5 bs.length]:=fun j h=>aXl h
    refine a8 (aC (sgh [(0,.rowR 0 (vB b ks.length bs.length))] rfl (sg rfl (aC (aK (fun j:Nat=>mkt [(1,.one (.vp 700 0)),(2,.one (.vp 2 0)),(63,.one (.ras G.length 2 G.flatten)),(64,I .i64 ((G.length:Nat):Int)),(65,I .i64 (0:Nat)),(70,.one (.ras (pR ks.length bs.length bs.length).length 1 (pR ks.length bs.length bs.length).flatten)),(71,I .i64 (((pR ks.length bs.length bs.length).length:Nat):Int)),(72,I .i64 j)] ([(2,.var 30 dY)]++gHl f n s t ks bs al) (fam 0 al)) (fun j=>j≤(pR ks.length bs.length bs.length).length) (fun j=>(pR ks.length bs.length bs.length).length-j) 0 (Al _) (slG W (fun _ h=>by cases h) (h1:=Kn.app (Kn.of rfl) (Kn.app (Kn.of rfl) (Kn.app J (Kn.app Kn.nil (Kn.app Kn.nil (Kn.app (Kn.gf ap) Kn.nil))))))) ?_)))));intro j hj;refine sg rfl (a8 (aA rfl (fun hb=>?_) (fun hb=>?_)))
    ·have aq:j<(pR ks.length bs.length bs.length).length:=by
      have:(j:Int)<((pR ks.length bs.length bs.length).length:Int):=ψ hb;omega
     refine aD ?_;by_cases aP:j<ks.length
     ·obtain⟨k,aU⟩:=aJ aP;have hki':=fA aU;have hm:=δ aU;have hc:aW Tryz.prog 101 [.pa (aB k)] [] (.pa (aB k)) []:=ih k (ihk k hm) (lk k hm) (aFx hTk k hm);have q:=tY hki';have ht1:=aO j _ (hp1 j aP);refine a8 (aC (sgh [(0,.rowR j [.ep 702 j 0 ks.length])] rfl (aE mixed (ak 4 [(3,.row j (aB k))] rfl (kc hc ?_)))));exact ak 2 [(6,.row j (aB k))] rfl (az (ag [] rfl ⟨j+1,aq,by dsimp only;omega,slG W (fun _ h=>by cases h) (h1:=Kn.app (Kn.of rfl) (Kn.app (Kn.of rfl) (Kn.app J (Kn.app Kn.nil (Kn.app Kn.nil (Kn.app (Kn.gf ap) Kn.nil)))))) (hh:=⟨⟨_,rfl,.var rfl⟩,⟨_,rfl,.var rfl⟩,⟨_,rfl,.arr⟩,⟨_,rfl,.arrS q⟩,⟨_,rfl,.rarrS rfl⟩,trivial⟩)⟩))
     ·obtain⟨O,rfl⟩:∃O,j=ks.length+O:=⟨j-ks.length,by omega⟩
      have aV:O<bs.length:=by omega
      obtain⟨x,aa⟩:=aJ aV;have ac:=cR aa;have hm:=δ aa;have hc:aW Tryz.prog 101 [.pa (aB x.body)] [] (.pa (aB x.body)) []:=ih x.body (ihb x hm) (lb x hm) (w9 au x hm).2;have q:=tY ac;have ht1:=aO (ks.length+O) _ (hp2 O aV);refine a8 (aC (sgh [(0,.rowR (ks.length+O) [.ep 701 O 5 bs.length])] rfl (aE mixed (ak 4 [(3,.row O (aS x))] rfl (kc hc ?_)))));exact ak 2 [(6,.row O (aS x))] rfl (az (ag [] rfl ⟨ks.length+O+1,aq,by dsimp only;omega,slG W (fun _ h=>by cases h) (h1:=Kn.app (Kn.of rfl) (Kn.app (Kn.of rfl) (Kn.app J (Kn.app Kn.nil (Kn.app Kn.nil (Kn.app (Kn.gf ap) Kn.nil)))))) (hh:=⟨⟨_,rfl,.var rfl⟩,⟨_,rfl,.var rfl⟩,⟨_,rfl,.arrS q⟩,⟨_,rfl,.arr⟩,⟨_,rfl,.rarrS rfl⟩,trivial⟩)⟩))
    exact aL (ag [] rfl ⟨1,by omega,by dsimp only;omega,slG W (fun _ h=>by cases h) (h1:=Kn.app (Kn.of rfl) (Kn.app (Kn.of rfl) (Kn.app J Kn.nil)))⟩)
   | succ i=>
    have hia:i<al.length:=by omega
    obtain⟨a,y⟩:=aJ hia;have ht0:=am (i+1) _ (aN i a y);have ai:(b8 0 al)[i]?=some (fB i a):=by rw[rO y,Be]
    have hm:=δ y;have hc:aW Tryz.prog 101 [.pa (aB a.body)] [] (.pa (aB a.body)) []:=ih a.body (iha a hm) (la a hm) (aF0 hTa a hm);have q:=tY ai;refine a8 (aC (sgh [(0,.rowR (i+1) (oU al.length i a))] rfl (sg rfl (aC (aK (fun j:Nat=>mkt [(1,.one (.vp 700 0)),(2,.one (.vp 2 0)),(63,.one (.ras G.length 2 G.flatten)),(64,I .i64 ((G.length:Nat):Int)),(65,I .i64 ((i+1:Nat):Int)),(70,.one (.ras 1 1 [.rp 703 i 4 al.length])),(71,I .i64 ((1:Nat):Int)),(72,I .i64 j)] ([(2,.var 30 dY)]++gHl f n s t ks bs al) (fam 0 al)) (fun j=>j≤1) (fun j=>1-j) 0 (Al _) (slG W (fun _ h=>by cases h) (h1:=Kn.app (Kn.of rfl) (Kn.app (Kn.of rfl) (Kn.app J (Kn.of rfl))))) ?_)))));intro j hj;refine sg rfl (a8 (aA rfl (fun hb=>?_) (fun hb=>?_)))
    ·have hj0:j=0:=by
      have:(j:Int)<((1:Nat):Int):=ψ hb;omega
     subst hj0;refine aD (a8 (aC (sg rfl (aE mixed (ak 4 [(3,.rr (fB i a))] rfl (kc hc ?_))))));exact ak 2 [(6,.rr (fB i a))] rfl (az (ag [] rfl ⟨1,le_refl _,by dsimp only;omega,slG W (fun _ h=>by cases h) (h1:=Kn.app (Kn.of rfl) (Kn.app (Kn.of rfl) (Kn.app J (Kn.of rfl)))) (hh:=⟨⟨_,rfl,.var rfl⟩,⟨_,rfl,.var rfl⟩,⟨_,rfl,.arr⟩,⟨_,rfl,.arr⟩,⟨_,rfl,.rarrS q⟩,trivial⟩)⟩))
    exact aL (ag [] rfl ⟨i+1+1,by omega,by dsimp only;omega,slG W (fun _ h=>by cases h) (h1:=Kn.app (Kn.of rfl) (Kn.app (Kn.of rfl) (Kn.app J Kn.nil)))⟩)
  refine aL (sg rfl ?_);exact aF ⟨.inr rfl,aHc (hl:=oHl ks bs al) Z (by repeat (first | exact FarEq.raw Z | (refine FarEq.updL Z ?_) | (refine FarEq.upd Z ?_))) ⟨_,_,.cell rfl (tg rfl) rfl rfl rfl .nil,.cons .refl .nil,rfl⟩ (fun x hx=>.inl (bJ (show subset _ _=true from rfl) x hx)) (fun x hx=>.inr (eR x (by simpa [oHl,dI,AObj.refs] using hx))) (fun _ h=>by cases h) (fun _ h=>by cases h)⟩
end Go.Proofs.YtnjaiimffoninaaGreatDoor
