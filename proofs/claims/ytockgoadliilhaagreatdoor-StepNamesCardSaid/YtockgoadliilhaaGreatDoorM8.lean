/-
  Texts Ly2 to Lg10 in one.
-/
import Derived.Test.YtockgoadliilhaaGreatDoorM7
open List (all_eq_true append_assoc append_nil cons_append filter_cons flatMap_append flatten_cons foldl_append foldl_cons length_append length_cons length_drop length_eq_one_iff length_map length_nil length_set length_take map_append map_cons map_map map_nil map_set mem_append mem_cons mem_cons_of_mem mem_cons_self mem_flatMap mem_map mem_of_mem_take mem_singleton nil_append nodup_append nodup_nil set_cons_succ take_add_one take_append_drop take_length)
open Nat (add_assoc add_mul add_zero le_max_left le_max_right le_of_lt le_refl le_trans min_eq_left mul_le_mul_right mul_one sub_self sub_zero zero_add zero_le)
namespace Go.Proofs.YtockgoadliilhaaGreatDoor
open Go Go.AM
set_option maxRecDepth 20000
theorem aI1 {f:Int}{s:Str}{o:List Str}{x y:Str}(h:y∈gR f s o x):y∈o∨(y=x∧(¬f=5∨¬x=s)):=by
 unfold gR at h;split at h
 ·rename_i hx;rcases χ.1 h with h | h
  ·exact .inl h
  ·exact .inr ⟨Aa.1 h,hx.2⟩
 ·exact .inl h
theorem aD8 {f:Int}{s:Str}:∀{l o:List Str}{y:Str},y∈r8 f s o l→y∈o∨(y∈l∧(¬f=5∨¬y=s))
 | [],_,_,h=>.inl h
 | x::l,o,y,h=>by
  rcases aD8 (l:=l) (o:=gR f s o x) h with h | ⟨h,hs⟩
  ·rcases aI1 h with h | ⟨rfl,hs⟩
   ·exact .inl h
   ·exact .inr ⟨ζ,hs⟩
  ·exact .inr ⟨κ _ h,hs⟩
theorem aD6 {f:Int}{s:Str}:∀{l:List Ty}{o:List Str}{y:Str},y∈oP f s l o→y∈o∨∃u∈l,y∈tfR u∧(¬f=5∨¬y=s)
 | [],o,y,h=>by rw[oP] at h;exact .inl h
 | t::l,o,y,h=>by
  rw[oP] at h;rcases aD6 h with h | ⟨u,hu,h⟩
  ·rcases aD8 h with h | ⟨h,hs⟩
   ·exact .inl h
   ·exact .inr ⟨t,ζ,h,hs⟩
  ·exact .inr ⟨u,κ _ hu,h⟩
theorem aD4 {f:Int}{s:Str}:∀{l:List Ty}{o:List Str}{y:Str},y∈o→y∈oP f s l o
 | [],o,y,h=>by rw[oP];exact h
 | t::l,o,y,h=>by rw[oP];exact aD4 (qJ h)
theorem aD5 {f:Int}{s:Str}:∀{l:List Ty}{o:List Str}{u:Ty}{y:Str},u∈l→y∈tfR u→(¬f=5∨¬y=s)→y∈oP f s l o
 | t::l,o,u,y,h,hy,hs=>by
  rw[oP];rcases Ao.1 h with rfl | h
  ·exact aD4 (nN hy hs)
  ·exact aD5 h hy hs
theorem yM {f n:Int}{s:Str}{a:List Ty}{y:Str}(h2:¬f=2) (h:y∈tfR (.mk f n s a)):∃u∈a,y∈tfR u∧(¬f=5∨¬y=s):=by
 rw[tfR,φ h2] at h;rcases aD6 h with h | h
 ·cases h
 ·exact h
theorem qA {f n:Int}{s:Str}{a:List Ty}{u:Ty}{y:Str}(h2:¬f=2) (hu:u∈a) (hy:y∈tfR u) (hs:¬f=5∨¬y=s):y∈tfR (.mk f n s a):=by
 rw[tfR,φ h2];exact aD5 hu hy hs
theorem aOd {f:Int}{s:Str}{o:List Str}{x:Str}(h:o.Nodup):(gR f s o x).Nodup:=by
 unfold gR;split
 ·rename_i hx;rw[Co];exact⟨h,by simp,fun a ha b hb e=>by rw[Aa.1 hb] at e;subst e;exact hx.1 ha⟩
 ·exact h
theorem aI4 {f:Int}{s:Str}:∀{l o:List Str},o.Nodup→(r8 f s o l).Nodup
 | [],_,h=>h
 | x::l,o,h=>aI4 (l:=l) (o:=gR f s o x) (aOd h)
theorem aIy {f:Int}{s:Str}:∀{l:List Ty}{o:List Str},o.Nodup→(oP f s l o).Nodup
 | [],o,h=>by rw[oP];exact h
 | t::l,o,h=>by rw[oP];exact aIy (aI4 h)
theorem aBw (t:Ty):(tfR t).Nodup:=by
 obtain⟨f,n,s,a⟩:=t;rw[tfR];split
 ·simp
 ·exact aIy nodup_nil
theorem mN (l:List Str):¬aZ l∈l:=gU l
theorem aS7 {l:List (Str×Ty)}{x:Str}:x∈unC l↔∃p∈l,x∈tfR p.2:=by
 unfold unC;rw[Cb]
theorem aIu:∀(k:Nat) (t:Ty),tn t≤k→wfS t=true→∀(ps:List (Str×Ty)) (x:Str),x∈tfR (gP t ps)→(x∈tfR t∧¬x∈ps.map (·.1))∨∃p∈ps,p.1∈tfR t∧x∈tfR p.2:=by
 intro k
 induction k with
 | zero=>intro t h;have:=kJ t;omega
 | succ k ih=>
 intro t h hw ps x hx;obtain⟨f,n,s,a⟩:=t;obtain⟨_,Y,w4,w5,w0⟩:=nL hw;rw[tn] at h;rw[gP] at hx;by_cases h2:f=2
 ·subst h2;rw[ξ rfl] at hx;have hs:s∈tfR (.mk 2 n s a):=by rw[tfR,ξ rfl];simp
  cases J:ps.find? (fun p=>decide (p.1=s)) with
  | some p=>
   rw[J] at hx;have h1:p.1=s:=by simpa using List.find?_some J
   exact .inr ⟨p,Cn J,by rw[h1];exact hs,hx⟩
  | none=>
   rw[J] at hx;refine .inl ⟨hx,fun hm=>?_⟩;have O:x=s:=by
    have hx:x∈tfR (.mk 2 n s a):=hx;rw[tfR,ξ rfl] at hx;simpa using hx
   obtain⟨p,hp,e⟩:=Ad.1 hm;have:=List.find?_eq_none.1 J p hp;rw[e,O] at this;simp at this
 rw[φ h2] at hx;by_cases h4:f=4
 ·subst h4;obtain⟨rfl,rfl,u,v,rfl⟩:=w4 rfl;rw[tns,tns,tns] at h;rw[ξ rfl,fE,fE,fE] at hx;obtain⟨w,N,q,_⟩:=yM (by decide) hx;have key:∀W,W∈[u,v]→x∈tfR (gP W ps)→tn W≤k→(x∈tfR (.mk 4 0 [] [u,v])∧¬x∈ps.map (·.1))∨∃p∈ps,p.1∈tfR (.mk 4 0 [] [u,v])∧x∈tfR p.2:=fun W Z hxu hk=>by
   rcases ih W hk (Y W Z) ps x hxu with⟨h1,h2⟩ | ⟨p,hp,h1,h2⟩
   ·exact .inl ⟨qA (by decide) Z h1 (.inl (by decide)),h2⟩
   ·exact .inr ⟨p,hp,qA (by decide) Z h1 (.inl (by decide)),h2⟩
  rcases Ao.1 N with rfl | N
  ·exact key u (by simp) q (by omega)
  ·rw[Aa.1 N] at q;exact key v (by simp) q (by omega)
 rw[φ h4] at hx;by_cases h5:f=5
 ·subst h5;obtain⟨rfl,body,rfl⟩:=w5 rfl;rw[tns,tns] at h;rw[ξ rfl] at hx;have hx:x∈tfR (.mk 5 0 (unN s body ps) (fE [body] (unP s body ps))):=hx;rw[fE,fE] at hx;obtain⟨w,N,q,I⟩:=yM (by decide) hx;rw[Aa.1 N] at q;have I:¬x=unN s body ps:=I.resolve_left (fun h=>h rfl);by_cases hc:s∈unC (unF s body ps)
  ·have eN:unN s body ps=aZ (unC (unF s body ps)++tfR body):=by unfold unN;rw[ξ hc]
   have eP:unP s body ps=unF s body ps++[(s,.mk 2 0 (unN s body ps) [])]:=by unfold unP;rw[ξ hc]
   rcases ih body (by omega) (Y body (by simp)) (unP s body ps) x q with⟨h1,h2⟩ | ⟨p,hp,h1,h2⟩
   ·rw[eP] at h2;have O:¬x=s:=fun e=>h2 (by rw[e];simp)
    refine .inl ⟨qA (by decide) ζ h1 (.inr O),fun hm=>h2 ?_⟩;obtain⟨p,hp,e⟩:=Ad.1 hm;rw[Ar];exact χ.2 (.inl (Ad.2 ⟨p,gO.2 ⟨hp,by rw[e];exact O,by rw[e];exact h1⟩,e⟩))
   ·rw[eP] at hp;rcases χ.1 hp with hp | hp
    ·obtain⟨g1,g2,g3⟩:=gO.1 hp;exact .inr ⟨p,g1,qA (by decide) ζ g3 (.inr g2),h2⟩
    ·rw[Aa.1 hp] at h2;have h2:x∈tfR (.mk 2 0 (unN s body ps) []):=h2;rw[tfR,ξ rfl] at h2;exact absurd (Aa.1 h2) I
  ·have eN:unN s body ps=s:=by unfold unN;rw[φ hc]
   have eP:unP s body ps=unF s body ps:=by unfold unP;rw[φ hc]
   rw[eN] at I;rcases ih body (by omega) (Y body (by simp)) (unP s body ps) x q with⟨h1,h2⟩ | ⟨p,hp,h1,h2⟩
   ·rw[eP] at h2;refine .inl ⟨qA (by decide) ζ h1 (.inr I),fun hm=>h2 ?_⟩;obtain⟨p,hp,e⟩:=Ad.1 hm;exact Ad.2 ⟨p,gO.2 ⟨hp,by rw[e];exact I,by rw[e];exact h1⟩,e⟩
   ·rw[eP] at hp;obtain⟨g1,g2,g3⟩:=gO.1 hp;exact .inr ⟨p,g1,qA (by decide) ζ g3 (.inr g2),h2⟩
 rw[φ h5] at hx;rw[w0 h4 h5] at hx;obtain⟨u,hu,_⟩:=yM h2 hx;cases hu
structure Alg where
 z:Nat
 j:Nat→Nat→Nat
 u:Str→Nat→Nat
 b:Str→Nat→Nat
 jm:∀{x x' y y':Nat},x≤x'→y≤y'→j x y≤j x' y'
 um:∀{s:Str} {x x':Nat},x≤x'→u s x≤u s x'
 bm:∀{s:Str} {x x':Nat},x≤x'→b s x≤b s x'
 ul:∀{s s':Str} {x:Nat},s.length≤30→u s x≤u s' x
def fP (ρ:Str→Nat) (s:Str) (v:Nat):Str→Nat:=fun x=>if x=s then v else ρ x
mutual
def tW (A:Alg):Ty→(Str→Nat)→Nat
 | .mk f _ s a,ρ=>if f=2 then ρ s else if f=5 then A.u s (tWs A a (fP ρ s A.z)) else A.b s (tWs A a ρ)
def tWs (A:Alg):List Ty→(Str→Nat)→Nat
 | [],_=>0
 | t::l,ρ=>A.j (tW A t ρ) (tWs A l ρ)
end
theorem rD {A:Alg}:∀{l:List Ty}{ρ ρ':Str→Nat},(∀u∈l,tW A u ρ=tW A u ρ')→tWs A l ρ=tWs A l ρ'
 | [],_,_,_=>by rw[tWs,tWs]
 | t::l,ρ,ρ',h=>by rw[tWs,tWs,h t ζ,rD fun u hu=>h u (κ _ hu)]
theorem iP {A:Alg}:∀(k:Nat) (t:Ty),tn t≤k→∀{ρ ρ':Str→Nat},(∀x∈tfR t,ρ x=ρ' x)→tW A t ρ=tW A t ρ'
 | 0,t,h,_,_,_=>by have:=kJ t;omega
 | k+1,.mk f n s a,h,ρ,ρ',hx=>by
  rw[tn] at h;rw[tW,tW];by_cases h2:f=2
  ·rw[ξ h2,ξ h2];exact hx s (by rw[tfR,ξ h2];simp)
  rw[φ h2,φ h2];by_cases h5:f=5
  ·rw[ξ h5,ξ h5,rD fun u hu=>iP k u (by have:=kV hu;omega) fun x q=>?_];unfold fP;by_cases e:x=s
   ·rw[ξ e,ξ e]
   ·rw[φ e,φ e];exact hx x (qA h2 hu q (.inr e))
  ·rw[φ h5,φ h5,rD fun u hu=>iP k u (by have:=kV hu;omega) fun x q=>hx x (qA h2 hu q (.inl h5))]
mutual
theorem aBz {A:Alg}:∀(t:Ty) {ρ ρ':Str→Nat},(∀x,ρ x≤ρ' x)→tW A t ρ≤tW A t ρ'
 | .mk f n s a,ρ,ρ',h=>by
  rw[tW,tW];split
  ·exact h s
  ·split
   ·refine A.um (w7 a fun x=>?_);unfold fP;split
    ·exact le_refl _
    ·exact h x
   ·exact A.bm (w7 a h)
theorem w7 {A:Alg}:∀(l:List Ty) {ρ ρ':Str→Nat},(∀x,ρ x≤ρ' x)→tWs A l ρ≤tWs A l ρ'
 | [],_,_,_=>by rw[tWs];exact Aj _
 | t::l,ρ,ρ',h=>by rw[tWs,tWs];exact A.jm (aBz t h) (w7 l h)
end
def aJj (A:Alg) (ρ:Str→Nat) (ps:List (Str×Ty)):Str→Nat:=fun x=>match ps.find? (fun p=>decide (p.1=x)) with | some p=>tW A p.2 ρ | none=>ρ x
theorem sO {nm:Str}{body:Ty}{x:Str}(hx:¬x=nm) (hb:x∈tfR body):∀ps:List (Str×Ty),(unF nm body ps).find? (fun p=>decide (p.1=x))=ps.find? (fun p=>decide (p.1=x))
 | []=>rfl
 | p::ps=>by
  have q:=sO hx hb ps;by_cases e:p.1=x
  ·have hk:(!decide (p.1=nm)&&decide (p.1∈tfR body))=true:=by rw[e,Al hx,Ak hb];rfl
   unfold unF;rw[List.filter_cons_of_pos (p:=fun p:Str×Ty=>!decide (p.1=nm)&&decide (p.1∈tfR body)) hk,Ch (by simpa using e),Ch (by simpa using e)]
  ·rw[Ci (by simpa using e),←q];unfold unF;rw[Cw];split
   ·rw[Ci (by simpa using e)]
   ·rfl
theorem jO (l:List Str) (h:l.length≤540000000000):(aZ l).length≤30:=le_trans (jY l h) (by decide)
theorem PsOk.unl {ps:List (Str×Ty)}(h:PsOk ps) {nm:Str}{body:Ty}(hb:fvm body≤700000):(unC (unF nm body ps)++tfR body).length≤540000000000:=by
 have h3:=nM (l:=unF nm body ps) fun p hp=>(h.ok p (gO.1 hp).1).2
 have h4:=aBo (nm:=nm) (body:=body) h.nd;have h5:=iL body;have h6:(unF nm body ps).length*700000≤700000*700000:=Ay _ (by omega);rw[ω];omega
theorem aWf (A:Alg):∀(k:Nat) (t:Ty),tn t≤k→wfS t=true→fvm t≤700000→∀(ps:List (Str×Ty)),PsOk ps→∀ρ,tW A (gP t ps) ρ≤tW A t (aJj A ρ ps):=by
 intro k
 induction k with
 | zero=>intro t h;have:=kJ t;omega
 | succ k ih=>
 intro t h hw hf ps I ρ;obtain⟨f,n,s,a⟩:=t;obtain⟨_,J,w4,w5,w0⟩:=nL hw;have N:∀u∈a,fvm u≤700000:=fun u hu=>le_trans (sM hu) hf
 rw[tn] at h;rw[gP];by_cases h2:f=2
 ·subst h2;rw[ξ rfl,tW,ξ rfl];unfold aJj;cases ps.find? (fun p=>decide (p.1=s)) with
  | some p=>exact le_refl _
  | none=>
   show tW A (.mk 2 n s a) ρ≤_;rw[tW,ξ rfl];exact le_refl _
 rw[φ h2];by_cases h4:f=4
 ·subst h4;obtain⟨rfl,rfl,u,v,rfl⟩:=w4 rfl;rw[tns,tns,tns] at h;rw[ξ rfl,fE,fE,fE,tW,φ (by decide),φ (by decide),tW,φ (by decide),φ (by decide),tWs,tWs,tWs,tWs,tWs,tWs];exact A.bm (A.jm (ih u (by omega) (J u (by simp)) (N u (by simp)) ps I ρ) (A.jm (ih v (by omega) (J v (by simp)) (N v (by simp)) ps I ρ) (le_refl _)))
 rw[φ h4];by_cases h5:f=5
 ·subst h5;obtain⟨rfl,body,rfl⟩:=w5 rfl;rw[tns,tns] at h;have O:=N body (by simp);rw[ξ rfl];show tW A (.mk 5 0 (unN s body ps) (fE [body] (unP s body ps))) ρ≤_;rw[fE,fE,tW,φ (by decide),ξ rfl,tW,φ (by decide),ξ rfl,tWs,tWs,tWs,tWs];have hi:=ih body (by omega) (J body (by simp)) O (unP s body ps) (I.un s body O) (fP ρ (unN s body ps) A.z);have hcg:tW A body (aJj A (fP ρ (unN s body ps) A.z) (unP s body ps))=tW A body (fP (aJj A ρ ps) s A.z):=by
   refine iP (tn body) body (le_refl _) fun x hx=>?_
   have hout:∀p∈unF s body ps,¬unN s body ps∈tfR p.2:=fun p hp hin=>by
    have hm:unN s body ps∈unC (unF s body ps):=aS7.2 ⟨p,hp,hin⟩;unfold unN at hm;split at hm
    ·exact mN _ (χ.2 (.inl hm))
    ·rename_i hc;exact hc hm
   have W:∀p∈unF s body ps,tW A p.2 (fP ρ (unN s body ps) A.z)=tW A p.2 ρ:=fun p hp=>iP (tn p.2) p.2 (le_refl _) fun y hy=>by
    unfold fP;rw[φ fun e=>hout p hp (by rw[←e];exact hy)]
   by_cases q:x=s
   ·subst q;have e2:fP (aJj A ρ ps) x A.z x=A.z:=by unfold fP;rw[ξ rfl]
    rw[e2];have Y:¬x∈(unF x body ps).map (·.1):=fun hm=>by
     obtain⟨p,hp,e⟩:=Ad.1 hm;exact(gO.1 hp).2.1 e
    unfold aJj;by_cases hc:x∈unC (unF x body ps)
    ·have eP:unP x body ps=unF x body ps++[(x,.mk 2 0 (unN x body ps) [])]:=by unfold unP;rw[ξ hc]
     rw[eP,List.find?_append,lR Y];show(match (none:Option (Str×Ty)).or ([(x,Ty.mk 2 0 (unN x body ps) [])].find? fun p=>decide (p.1=x)) with | some p=>tW A p.2 (fP ρ (unN x body ps) A.z) | none=>fP ρ (unN x body ps) A.z x)=A.z;rw[Ch (by simp)];show tW A (.mk 2 0 (unN x body ps) []) (fP ρ (unN x body ps) A.z)=A.z;rw[tW,ξ rfl];unfold fP;rw[ξ rfl]
    ·have eP:unP x body ps=unF x body ps:=by unfold unP;rw[φ hc]
     have eN:unN x body ps=x:=by unfold unN;rw[φ hc]
     rw[eP,lR Y,eN];unfold fP;rw[ξ rfl]
   ·have e2:fP (aJj A ρ ps) s A.z x=aJj A ρ ps x:=by unfold fP;rw[φ q]
    rw[e2];have Z:=sO (nm:=s) (body:=body) q hx ps;have hfP:(unP s body ps).find? (fun p=>decide (p.1=x))=ps.find? (fun p=>decide (p.1=x)):=by
     rw[←Z];unfold unP;split
     ·rw[List.find?_append,Ci (by simpa using fun e=>q e.symm)];cases (unF s body ps).find? (fun p=>decide (p.1=x))<;>rfl
     ·rfl
    have hNx:¬x=unN s body ps:=fun e=>by
     unfold unN at e;split at e
     ·exact mN _ (χ.2 (.inr (by rw[←e];exact hx)))
     ·exact q e
    unfold aJj;rw[hfP];cases hfd:ps.find? (fun p=>decide (p.1=x)) with
    | some p=>
     have hp:p∈unF s body ps:=Cn (Z.trans hfd);exact W p hp
    | none=>
     show fP ρ (unN s body ps) A.z x=ρ x;unfold fP;rw[φ hNx]
  rw[hcg] at hi;have hN:A.u (unN s body ps) (A.j (tW A (gP body (unP s body ps)) (fP ρ (unN s body ps) A.z)) 0)≤A.u s (A.j (tW A (gP body (unP s body ps)) (fP ρ (unN s body ps) A.z)) 0):=by
   generalize A.j (tW A (gP body (unP s body ps)) (fP ρ (unN s body ps) A.z)) 0=y;unfold unN;split
   ·exact A.ul (jO _ (I.unl O))
   ·exact le_refl _
  exact le_trans hN (A.um (A.jm hi (le_refl _)))
 rw[φ h5,tW,φ h2,φ h5,tW,φ h2,φ h5,w0 h4 h5,tWs,tWs];exact le_refl _
def fD:Alg:=⟨0,max,fun _ x=>1+x,fun _ x=>x,fun h1 h2=>by omega,fun h=>by omega,fun h=>h,fun _=>le_refl _⟩
def r0:Str→Nat:=fun _=>0
theorem yQ (s:Str):fP r0 s 0=r0:=by
 funext x;unfold fP r0;split<;>rfl
theorem sL:∀(k:Nat) (t:Ty),tn t≤k→wfS t=true→fvm t≤(tfR t).length+tW fD t r0
 | 0,t,h,_=>by have:=kJ t;omega
 | k+1,.mk f n s a,h,hw=>by
  obtain⟨_,q,J,N,w0⟩:=nL hw;rw[tn] at h;by_cases h4:f=4
  ·subst h4;obtain⟨rfl,rfl,u,v,rfl⟩:=J rfl;rw[tns,tns,tns] at h;have h1:=sL k u (by omega) (q u (by simp));have h2:=sL k v (by omega) (q v (by simp));have e:tW fD (.mk 4 0 [] [u,v]) r0=max (tW fD u r0) (max (tW fD v r0) 0):=by rw[tW,φ (by decide),φ (by decide),tWs,tWs,tWs];rfl
   have g1:=fZ _ _ (aBw u) fun x hx=>qA (f:=4) (n:=0) (s:=[]) (a:=[u,v]) (by decide) (by simp) hx (.inl (by decide))
   have g2:=fZ _ _ (aBw v) fun x hx=>qA (f:=4) (n:=0) (s:=[]) (a:=[u,v]) (by decide) (by simp) hx (.inl (by decide))
   rw[fvm,e,aLz,aLz,aLz];omega
  ·by_cases h5:f=5
   ·subst h5;obtain⟨rfl,body,rfl⟩:=N rfl;rw[tns,tns] at h;have h1:=sL k body (by omega) (q body (by simp));have e:tW fD (.mk 5 0 s [body]) r0=1+max (tW fD body r0) 0:=by
     rw[tW,φ (by decide),ξ rfl,tWs,tWs];show 1+max (tW fD body (fP r0 s 0)) 0=_;rw[yQ]
    have g1:=fZ _ (s::tfR (.mk 5 0 s [body])) (aBw body) fun x hx=>by
     by_cases I:x=s
     ·rw[I];exact ζ
     ·exact κ _ (qA (by decide) (by simp) hx (.inr I))
    rw[Ag] at g1;rw[fvm,e,aLz,aLz];omega
   ·rw[fvm,w0 h4 h5,aLz];omega
def mg1 (G:Str→Bool) (o:List Str) (x:Str):List Str:=if(!G x&& !decide (x∈o))=true then o++[x] else o
def mg (G:Str→Bool) (o l:List Str):List Str:=l.foldl (mg1 G) o
def inG (g:List Str):Str→Bool:=fun x=>decide (x∈g)
theorem aT6 {G:Str→Bool}{o:List Str}{x y:Str}:y∈mg1 G o x↔y∈o∨(y=x∧G x=false):=by
 unfold mg1;cases h:G x<;>by_cases hx:x∈o
 ·simp[hx];rintro rfl;exact hx
 ·simp[hx]
 ·simp
 ·simp
theorem jF {G:Str→Bool}{y:Str}:∀{l o:List Str},y∈mg G o l↔y∈o∨(y∈l∧G y=false)
 | [],o=>by simp[mg]
 | x::l,o=>by
  show y∈mg G (mg1 G o x) l↔_;rw[jF,aT6,Ao];constructor
  ·rintro((h | ⟨rfl,h⟩) | ⟨h,q⟩)
   ·exact .inl h
   ·exact .inr ⟨.inl rfl,h⟩
   ·exact .inr ⟨.inr h,q⟩
  ·rintro(h | ⟨rfl | h,q⟩)
   ·exact .inl (.inl h)
   ·exact .inl (.inr ⟨rfl,q⟩)
   ·exact .inr ⟨h,q⟩
theorem aHf {G:Str→Bool}:∀{l o:List Str},o.Nodup→(mg G o l).Nodup
 | [],_,h=>h
 | x::l,o,h=>by
  refine aHf (l:=l) (o:=mg1 G o x) ?_;unfold mg1;split
  ·rename_i h1;rw[Co];refine⟨h,by simp,fun a ha b hb=>?_⟩;rw[Aa.1 hb];rintro rfl;simp[ha] at h1
  ·exact h
theorem aRq {G:Str→Bool}{o l m:List Str}:mg G o (l++m)=mg G (mg G o l) m:=B4
theorem aCk (G H:Str→Bool):∀(l acc o:List Str),mg G o (mg H acc l)=mg (fun x=>G x || H x) (mg G o acc) l
 | [],_,_=>rfl
 | x::l,acc,o=>by
  have e:mg G o (mg1 H acc x)=mg1 (fun x=>G x || H x) (mg G o acc) x:=by
   unfold mg1;cases q:H x
   ·by_cases hx:x∈acc
    ·cases I:G x
     ·have:x∈mg G o acc:=jF.2 (.inr ⟨hx,I⟩);simp[q,hx,this]
     ·simp[q,hx,I]
    ·rw[ξ (by simp[hx]),aRq];show mg1 G (mg G o acc) x=_;unfold mg1;simp[q]
   ·simp[q]
  show mg G o (mg H (mg1 H acc x) l)=mg _ (mg1 _ (mg G o acc) x) l;rw[aCk G H l,e]
theorem sC {l:List Str}(h:l.Nodup):mg (fun _=>false) [] l=l:=by
 have key:∀(l o:List Str),(o++l).Nodup→mg (fun _=>false) o l=o++l:=by
  intro l
  induction l with
  | nil=>intro o _;simp[mg]
  | cons x l q=>
   intro o h;have hx:¬x∈o:=fun hx=>by
    rw[Co] at h;exact h.2.2 x hx x ζ rfl
   show mg _ (mg1 _ o x) l=_;rw[show mg1 (fun _=>false) o x=o++[x] by unfold mg1;simp[hx]];rw[q _ (by rwa [At]),At];rfl
 simpa using key l [] (by simpa using h)
theorem aI5 (f:Int) (s:Str) (o l:List Str):r8 f s o l=mg (fun x=>decide (f=5)&&decide (x=s)) o l:=by
 unfold r8 mg;congr 1;funext o x;unfold gR mg1;by_cases hx:x∈o<;>by_cases h5:f=5<;>by_cases hs:x=s<;>simp[hx,h5,hs]
def rO (l:List Str):AObj:=.arr 9 1 (l.map bD) 1
def rV (l:List Str):V:=.one (.hs 900 0 l.length l.length)
theorem aLk (g:List Str) (s:Str):inG (g++[s])=fun x=>inG g x || decide (x=s):=by
 funext x;unfold inG;simp
theorem aBx {f:Int}{s x:Str}:∀{l:List Ty}{o:List Str},x∈tfL f s l o↔x∈o∨∃u∈l,x∈tfR u∧¬(f=5∧x=s)
 | [],o=>by simp[tfL]
 | t::l,o=>by
  show x∈tfL f s l (r8 f s o (tfR t))↔_;rw[aBx,aI5,jF,or_assoc];refine or_congr Iff.rfl ?_;simp
theorem aI7 {A:Alg}(hj:∀x y:Nat,x≤A.j x y∧y≤A.j x y) {ρ:Str→Nat}:∀{l:List Ty}{u:Ty},u∈l→tW A u ρ≤tWs A l ρ
 | t::l,u,h=>by
  rw[tWs];rcases Ao.1 h with rfl | h
  ·exact(hj _ _).1
  ·exact le_trans (aI7 hj h) (hj _ _).2
theorem xT {f n:Int}{s:Str}{a:List Ty}{u:Ty}(hf:¬f=2) (hu:u∈a):tW fD u r0+(if f=5 then 1 else 0)≤tW fD (.mk f n s a) r0:=by
 have h:=aI7 (A:=fD) (fun x y=>⟨C2 ..,Cy ..⟩) (ρ:=r0) hu;rw[tW,φ hf];by_cases h5:f=5
 ·rw[ξ h5,ξ h5];show _≤1+tWs fD a (fP r0 s 0);rw[yQ];omega
 ·rw[φ h5,φ h5];exact h
theorem a1h:∀(k:Nat) (t:Ty),tn t≤k→wfS t=true→∀(g o W:List Str),g.length+tW fD t r0≤1000000000000→W.length+tW fD t r0≤1000000000000→o.Nodup→(∀x∈o,x∈W)→(∀x∈tfR t,x∈W)→
  aU Tryz.prog 122 [tyV t,aY g,rV o] [(900,rO o)] (rV (mg (inG g) o (tfR t))) [(900,rO (mg (inG g) o (tfR t)))]:=by
 intro k
 induction k with
 | zero=>intro t h;have:=kJ t;omega
 | succ k ih=>
 intro t h hw g o W hg hW O Y Z;obtain⟨f,n,s,a⟩:=t;obtain⟨ha2,ae,w4,w5,w0⟩:=nL hw;rw[tn] at h;have hol:o.length≤W.length:=fZ _ _ O Y;have hhg:=kH g s (by unfold Fits;omega);have hho:=kH o s (by unfold Fits;omega);refine bO (n:=55) tok Tryz.func122 rfl rfl rfl ?_;refine sg rfl (a8 (sg rfl (aA rfl (fun hb=>?_) (fun hb=>?_))))
 ·have hf:f=2:=ψ hb;subst hf;rw[show mg (inG g) o (tfR (.mk 2 n s a))=mg1 (inG g) o s by rw[tfR,ξ rfl];rfl];refine AWp.sub (Sub.freeze (id:=900) rfl) ?_;refine a8 (a8 (agF 5 [(3,.pc (B (decide (s∈g)))),(8,.pc (B (decide (s∈o))))] rfl rfl rfl (aA rfl (fun hb=>?_) (fun hb=>?_))))
  ·have hm:mg1 (inG g) o s=o:=by
    unfold mg1 inG;cases h1:decide (s∈g)<;>cases h2:decide (s∈o)<;>simp[h1,h2] at hb ⊢
   rw[hm];exact sg rfl (aI rtT)
  ·have hm:mg1 (inG g) o s=o++[s]:=by
    unfold mg1 inG;cases h1:decide (s∈g)<;>cases h2:decide (s∈o)<;>simp[h1,h2] at hb ⊢
   rw[hm];refine aD (sg rfl (AWp.sub (st2:=mk [(6,rV (o++[s]))] [(900,rO (o++[s]))]) sl ?_));exact aI rtT
 ·have hf:¬f=2:=δ hb;refine aD ?_;have aa:tfR (.mk f n s a)=tfL f s a []:=by rw[tfR,φ hf,vY]
  rw[aa];have hnS:(if f=5 then [s] else []).length≤1:=by split<;>simp
  refine a8 (AWp.cut (mk [(1,aY (g++(if f=5 then [s] else []))),(2,rV o),(3,.one (.vp 3 0))] [(3,.var 33 ((b8 (.mk f n s a)).map R.c)),(900,rO o)]) ?_ ?_)
  ·refine sg rfl (aA rfl (fun hb=>?_) (fun hb=>?_))
   ·have h5:f=5:=ψ hb;rw[ξ h5];refine sg rfl (sg rfl (ag [] rfl (Sub.trans ?_ (Sub.trans (cv 1 ((g++[s]).map bD) (h3:=by rw[Ar];rfl)) (Sub.freeze (id:=33) rfl)))));exact sl
   ·have h5:¬f=5:=δ hb;rw[φ h5,A0];exact aD sl
  have J:inG (g++(if f=5 then [s] else []))=fun x=>inG g x || (decide (f=5)&&decide (x=s)):=by
   by_cases h5:f=5
   ·rw[ξ h5,aLk];funext x;simp[h5]
   ·rw[φ h5,A0];funext x;simp[h5]
  have ah:(g++(if f=5 then [s] else [])).length≤g.length+(if f=5 then 1 else 0):=by
   rw[ω];split<;>simp
  generalize g++(if f=5 then [s] else [])=ins at J ah ⊢;have ab:(eE a).length=a.length:=by rw[gY,θ]
  refine a8 (sg rfl (aC (aL (fun i:Nat=>mk [(1,aY ins),(2,rV (mg (inG g) o (tfL f s (a.take i) []))),(3,.one (.vp 3 0)),(8,I .i64 i)] [(3,.var 33 ((b8 (.mk f n s a)).map R.c)),(900,rO (mg (inG g) o (tfL f s (a.take i) [])))]) (fun i=>i≤a.length) (fun i=>a.length-i) 0 (Aj _) sl ?_)));intro i hi;refine a8 (sg rfl (aA rfl (fun hb=>?_) (fun hb=>?_)))
  ·have ac:=ltD hb ab;obtain⟨u,N⟩:=aJ ac;have q:=η N;have hui':(eE a)[i]?=some (b8 u):=by rw[gY];exact bM b8 N
   have ai:mg (inG g) o (tfL f s (a.take (i+1)) [])=mg (inG ins) (mg (inG g) o (tfL f s (a.take i) [])) (tfR u):=by
    rw[aD7 N,aI5,aCk,J]
   have hdp:=xT (n:=n) (s:=s) hf q;have hWl:(if f=5 then s::W else W).length=W.length+(if f=5 then 1 else 0):=by split<;>simp
   have ad:∀x∈W,x∈(if f=5 then s::W else W):=fun x hx=>by
    split
    ·exact κ _ hx
    ·exact hx
   have hc:=ih u (by have:=kV q;omega) (ae u q) ins (mg (inG g) o (tfL f s (a.take i) [])) (if f=5 then s::W else W) (by omega) (by omega) (aHf O) (fun x hx=>ad x (by
    rcases jF.1 hx with hx | ⟨hx,_⟩
    ·exact Y x hx
    ·refine Z x ?_;rw[aa,aBx];rw[aBx] at hx
     exact hx.imp id fun⟨u,h1,h2⟩=>⟨u,Bl h1,h2⟩)) (fun x hx=>by
    by_cases e:f=5∧x=s
    ·rw[ξ e.1,e.2];exact ζ
    ·refine ad x (Z x (qA hf q hx ?_));by_cases h5:f=5
     ·exact .inr fun h=>e ⟨h5,h⟩
     ·exact .inl h5)
   refine aD (a8 (aC (aE mixed (ak 7 [(3,.row i (b8 u))] rfl (kc hc ?_)))));refine kz 1 rfl (ag [] rfl ⟨i+1,ac,by dsimp only;omega,?_⟩);dsimp only;rw[ai];exact sl
  have aj:=geD hb ab hi;subst aj;refine aO ?_;rw[An];exact sg rfl (aI rtT)
def gm (c:Core):List (List (Str×List C)×List Core):=
 ((if c.form=5 then [(c.name,(aB c).drop 3)] else [])++c.binds.map (fun b=>(b.name,(bB b).drop 1)),c.kids++c.binds.map Bind.body)::c.alts.map fun a=>(a.vars.map (fun v=>(v,[])),[a.body])
def gmG (g:List (Str×List C)×List Core):List (List C)×List Core:=(g.1.map aH8,g.2)
theorem aPs (c:Core):gl c=(gm c).map gmG:=by
 obtain⟨f,n,s,t,ks,bs,al⟩:=c;unfold gl gm;rw[Am,A1];congr 1
 ·unfold gmG;rw[Ar,A1];congr 2;unfold nm0;split<;>rfl
 ·congr 1;funext a;unfold gmG;simp only[Function.comp,A1];rfl
def pfG (G:List Str) (o:List Str) (s:Str):List Str:=if s∈G then o else pQ o s
def pfP (G:List Str) (o l:List Str):List Str:=l.foldl (pfG G) o
def gvN (f:Int) (s:Str) (bs:List Bind):List Str:=(if f=5 then [s] else [])++bs.map Bind.name
mutual
def pfR:Core→List Str
 | .mk f _ s _ ks bs al=>if f=1 then [s] else jD al (kD (gvN f s bs) bs (jK (gvN f s bs) ks []))
def jK (G:List Str):List Core→List Str→List Str
 | [],o=>o
 | c::l,o=>jK G l (pfP G o (pfR c))
def kD (G:List Str):List Bind→List Str→List Str
 | [],o=>o
 | .mk _ _ c::l,o=>kD G l (pfP G o (pfR c))
def jD:List Alt→List Str→List Str
 | [],o=>o
 | .mk _ _ _ v c::l,o=>jD l (pfP v o (pfR c))
end
def pfL (G:List Str) (l:List Core) (o:List Str):List Str:=l.foldl (fun o c=>pfP G o (pfR c)) o
def pfM (L:List (List (Str×List C)×List Core)) (o:List Str):List Str:=L.foldl (fun o g=>pfL (g.1.map (·.1)) g.2 o) o
theorem rZ (G:List Str):∀(l:List Core) (o:List Str),jK G l o=pfL G l o
 | [],o=>by rw[jK];rfl
 | c::l,o=>by rw[jK,rZ G l];rfl
theorem wY (G:List Str):∀(l:List Bind) (o:List Str),kD G l o=pfL G (l.map Bind.body) o
 | [],o=>by rw[kD];rfl
 | .mk s t c::l,o=>by rw[kD,wY G l];rfl
theorem aKe:∀(l:List Alt) (o:List Str),jD l o=pfM (l.map fun a=>(a.vars.map (fun v=>(v,[])),[a.body])) o
 | [],o=>by rw[jD];rfl
 | .mk f n s v c::l,o=>by
  rw[jD,aKe l];have:(v.map (fun v=>((v,[]):Str×List C))).map (·.1)=v:=by rw[A1];exact List.map_id _
  show _=pfM _ (pfL ((v.map (fun v=>((v,[]):Str×List C))).map (·.1)) [c] o);rw[this];rfl
theorem a0j (c:Core) (h:¬c.form=1):pfR c=pfM (gm c) []:=by
 obtain⟨f,n,s,t,ks,bs,al⟩:=c;have h:¬f=1:=h;rw[pfR,φ h,aKe,wY,rZ];unfold gm;show _=pfM _ (pfL _ _ []);congr 1;unfold pfL;rw[B4];have:gvN f s bs=(((if f=5 then [((s,(aB (.mk f n s t ks bs al)).drop 3):Str×List C)] else [])++bs.map (fun b=>(b.name,(bB b).drop 1))).map (·.1)):=by
  unfold gvN;rw[Ar,A1];congr 1;split<;>rfl
 rw[this];rfl
theorem aT1 (G o:List Str) (s:Str):(pfG G o s).length≤o.length+1:=by
 unfold pfG;split
 ·omega
 ·exact aE7 o s
theorem wS (G o:List Str):∀l:List Str,(pfP G o l).length≤o.length+l.length:=by
 intro l
 induction l generalizing o with
 | nil=>exact le_refl _
 | cons s l q=>
  have h1:=q (pfG G o s);have h2:=aT1 G o s;show(pfP G (pfG G o s) l).length≤_;rw[Ag];omega
mutual
theorem aHb:∀c:Core,(pfR c).length≤b7 c
 | .mk f n s t ks bs al=>by
  rw[pfR,b7];split
  ·simp;omega
  ·have h1:=zI (gvN f s bs) ks [];have h2:=aEw (gvN f s bs) bs (jK (gvN f s bs) ks []);have h3:=aJ7 al (kD (gvN f s bs) bs (jK (gvN f s bs) ks []));simp only[length_nil] at h1;omega
theorem zI (G:List Str):∀(l:List Core) (o:List Str),(jK G l o).length≤o.length+bR l
 | [],o=>by rw[jK];omega
 | c::l,o=>by
  rw[jK,bR];have h1:=zI G l (pfP G o (pfR c));have h2:=wS G o (pfR c);have h3:=aHb c;omega
theorem aEw (G:List Str):∀(l:List Bind) (o:List Str),(kD G l o).length≤o.length+eT l
 | [],o=>by rw[kD];omega
 | .mk s t c::l,o=>by
  rw[kD,eT,bsize];have h1:=aEw G l (pfP G o (pfR c));have h2:=wS G o (pfR c);have h3:=aHb c;omega
theorem aJ7:∀(l:List Alt) (o:List Str),(jD l o).length≤o.length+eU l
 | [],o=>by rw[jD];omega
 | .mk f n s v c::l,o=>by
  rw[jD,eU,nK];have h1:=aJ7 l (pfP v o (pfR c));have h2:=wS v o (pfR c);have h3:=aHb c;omega
end
theorem aO6 (G o:List Str) {l:List Str}{i:Nat}{s:Str}(h:l[i]?=some s):pfP G o (l.take (i+1))=pfG G (pfP G o (l.take i)) s:=by
 unfold pfP;rw[dY h,B4];rfl
theorem wU (G o:List Str) {l:List Core}{i:Nat}{c:Core}(h:l[i]?=some c):pfL G (l.take (i+1)) o=pfP G (pfL G (l.take i) o) (pfR c):=by
 unfold pfL;rw[dY h,B4];rfl
theorem aO7 (o:List Str) {l:List (List (Str×List C)×List Core)}{i:Nat}{g:List (Str×List C)×List Core}(h:l[i]?=some g):pfM (l.take (i+1)) o=pfL (g.1.map (·.1)) g.2 (pfM (l.take i) o):=by
 unfold pfM;rw[dY h,B4];rfl
theorem aJ9 (G:List Str):∀(l:List Core) (o:List Str),(pfL G l o).length≤o.length+bR l:=fun l o=>by rw[←rZ];exact zI G l o
def gcs:List (List (Str×List C)×List Core)→Nat
 | []=>0
 | g::l=>bR g.2+gcs l
theorem aJ8:∀(L:List (List (Str×List C)×List Core)) (o:List Str),(pfM L o).length≤o.length+gcs L
 | [],o=>le_refl _
 | g::L,o=>by
  have h1:=aJ8 L (pfL (g.1.map (·.1)) g.2 o);have h2:=aJ9 (g.1.map (·.1)) g.2 o;show(pfM L (pfL (g.1.map (·.1)) g.2 o)).length≤_;rw[gcs];omega
theorem mT:∀a b:List Core,bR (a++b)=bR a+bR b
 | [],b=>by rw[Bd,bR,Be]
 | x::a,b=>by rw[Ba,bR,bR,mT a b,B8]
theorem aAj:∀l:List Bind,bR (l.map Bind.body)≤eT l
 | []=>by rw[Bs,bR];exact Aj _
 | .mk s t c::l=>by rw[Am,bR,eT,bsize];have:=aAj l;show b7 c+_≤_;omega
theorem aR3:∀l:List Alt,gcs (l.map fun a=>(a.vars.map (fun v=>(v,[])),[a.body]))≤eU l
 | []=>by rw[Bs,gcs];exact Aj _
 | .mk f n s v c::l=>by rw[Am,gcs,eU,nK,bR,bR];have:=aR3 l;show b7 c+0+_≤_;omega
theorem aYa (c:Core):gcs (gm c)≤b7 c:=by
 obtain⟨f,n,s,t,ks,bs,al⟩:=c;unfold gm;rw[gcs,b7];have h1:=mT ks (bs.map Bind.body);have h2:=aAj bs;have h3:=aR3 al;show bR (ks++bs.map Bind.body)+gcs (al.map fun a=>(a.vars.map (fun v=>(v,[])),[a.body]))≤_;omega
theorem aCq:∀a b,gcs (a++b)=gcs a+gcs b
 | [],b=>by rw[Bd,gcs,Be]
 | x::a,b=>by rw[Ba,gcs,gcs,aCq a b,B8]
theorem aYb {L:List (List (Str×List C)×List Core)}{i:Nat}{g:List (Str×List C)×List Core}(h:L[i]?=some g):gcs (L.take i)+bR g.2≤gcs L:=by
 have h1:=take_append_drop (i+1) L;have h2:=aCq (L.take (i+1)) (L.drop (i+1));rw[h1,dY h,aCq] at h2;simp only[gcs] at h2;omega
theorem aMe {l:List Core}{i:Nat}{c:Core}(h:l[i]?=some c):bR (l.take i)+b7 c≤bR l:=by
 have h1:=take_append_drop (i+1) l;have h2:=mT (l.take (i+1)) (l.drop (i+1));rw[h1,dY h,mT] at h2;simp only[bR] at h2;omega
def aGs (c:Core):Prop:=b7 c≤570000000000→aU Tryz.prog 125 [.pa (aB c)] [] (aY (pfR c)) []
theorem oF (c:Core) (ih:∀x,b7 x<b7 c→aGs x) (hsz:b7 c≤570000000000):aU Tryz.prog 125 [.pa (aB c)] [] (ouV (pfR c)) [(500,ouO (pfR c))]:=by
 by_cases h1:c.form=1
 ·obtain⟨f,n,s,t,ks,bs,al⟩:=c;have h1:f=1:=h1;subst h1;rw[pfR,ξ rfl];refine bO (n:=51) tok Tryz.func125 rfl rfl rfl ?_;exact sg rfl (a8 (sg rfl (aA rfl (fun _=>sgh [(2,.id 500)] rfl (aI rtT)) nofun)))
 have W:=aAt c hsz;have hpf:=a0j c h1;have hin:∀g∈gm c,∀x∈g.2,b7 x<b7 c:=fun g hg x hx=>aX8 (g:=gmG g) (by rw[aPs];exact Ad.2 ⟨g,hg,rfl⟩) hx
 obtain⟨hgl,hgm⟩:=aR1 c;rw[aPs,θ] at hgl;have Y:∀g∈gm c,g.2.length≤b7 c∧g.1.length≤b7 c:=fun g hg=>by
  have:=hgm (gmG g) (by rw[aPs];exact Ad.2 ⟨g,hg,rfl⟩);unfold gmG at this;rw[θ] at this;exact this
 have hgc:=aYa c;rw[pS,aPs,A1] at W;rw[hpf];clear hpf hgm;generalize gm c=L at W hin hgl Y hgc ⊢;have hkL:(L.map (kR∘gmG)).length=L.length:=θ _;refine bO (n:=51) tok Tryz.func125 rfl rfl rfl ?_;refine sg rfl (a8 (sg rfl (aA rfl (fun hb=>absurd (ψ hb) h1) (fun _=>aD (sg rfl (AWp.sub (Sub.fvar (id:=1) (l:=aB c) rfl (by simp[keys])) ?_))))));refine AWp.sub (st2:=mk [(1,.one (.c (.pt (aB c)))),(3,.one (.c .nl))] []) sl ?_;refine AWp.sub (Sub.own (t:=3) (id:=500) 9 1 rfl rfl) ?_;refine a8 (a8 (aE mixed (kc W ?_)));refine kz 2 rfl (aC (aL (fun i:Nat=>mk [(3,ouV (pfM (L.take i) [])),(16,.one (.c (.sl 2 (L.map (kR∘gmG))))),(17,I .i64 ((L.map (kR∘gmG)).length:Int)),(18,I .i64 i)] [(500,ouO (pfM (L.take i) []))]) (fun i=>i≤L.length) (fun i=>L.length-i) 0 (Aj _) sl ?_));intro i hi;refine sg rfl (a8 (aA rfl (fun hb=>?_) (fun hb=>?_)))
 ·have hlt:=ltD hb hkL;obtain⟨g,hg⟩:=aJ hlt;have hg':=bM (kR∘gmG) hg;have hgi:=η hg;obtain⟨hl1,hl2⟩:=Y g hgi;have O:=aO7 [] hg;have hml:=aJ8 (L.take i) [];have hga:=aYb hg;simp only[length_nil] at hml;have Z:=hin g hgi;have aa:(g.2.map iE).length=g.2.length:=θ _;obtain⟨G1,G⟩:=g;have hg':(L.map (kR∘gmG))[i]?=some [.sl 1 (G1.map aH8),.sl 1 (G.map iE)]:=hg';dsimp only at hl1 hl2 O aa hga Z;generalize hG0:G1.map (·.1)=G0 at O;generalize pfM (L.take i) []=x0 at O hml ⊢;refine aD (a8 (aC (sgh [(0,.row i [.sl 1 (G1.map aH8),.sl 1 (G.map iE)])] rfl (sg rfl (aC (aL (fun j:Nat=>mk [(3,ouV (pfL G0 (G.take j) x0)),(5,.one (.vp 5 0)),(16,.one (.c (.sl 2 (L.map (kR∘gmG))))),(17,I .i64 ((L.map (kR∘gmG)).length:Int)),(18,I .i64 i),(23,.one (.c (.sl 1 (G.map iE)))),(24,I .i64 ((G.map iE).length:Int)),(25,I .i64 j)] [(5,.var 126 [.c (.sl 1 (G1.map aH8)),.c (.sl 1 (G.map iE))]),(500,ouO (pfL G0 (G.take j) x0))]) (fun j=>j≤G.length) (fun j=>G.length-j) 0 (Aj _) sl ?_))))));intro j hj;refine sg rfl (a8 (aA rfl (fun hb=>?_) (fun hb=>?_)))
  ·have hlt2:=ltD hb aa;obtain⟨p,hp⟩:=aJ hlt2;have hp':=bM iE hp;have hpi:=η hp;have hpc:=Z p hpi;have hc:=ih p hpc (by omega);have J:=wU G0 x0 hp;have hml2:=aJ9 G0 (G.take j) x0;have hca:=aMe hp;have hple:=aHb p;generalize pfL G0 (G.take j) x0=x1 at J hml2 ⊢;generalize pfR p=F at hc J hple;have hkF:(F.map bD).length=F.length:=θ _;refine aD (a8 (aC (sgh [(0,.row j (iE p))] rfl (sgh [(3,.pc (aY F))] rfl (aC (aL (fun k:Nat=>mk [(3,ouV (pfP G0 x1 (F.take k))),(5,.one (.vp 5 0)),(16,.one (.c (.sl 2 (L.map (kR∘gmG))))),(17,I .i64 ((L.map (kR∘gmG)).length:Int)),(18,I .i64 i),(23,.one (.c (.sl 1 (G.map iE)))),(24,I .i64 ((G.map iE).length:Int)),(25,I .i64 j),(32,aY F),(33,I .i64 ((F.map bD).length:Int)),(34,I .i64 k)] [(5,.var 126 [.c (.sl 1 (G1.map aH8)),.c (.sl 1 (G.map iE))]),(500,ouO (pfP G0 x1 (F.take k)))]) (fun k=>k≤F.length) (fun k=>F.length-k) 0 (Aj _) sl ?_))))));intro k hk;refine sg rfl (a8 (aA rfl (fun hb=>?_) (fun hb=>?_)))
   ·have N:=ltD hb hkF;obtain⟨s,hs⟩:=aJ N;have hs':=bM bD hs;have q:=aO6 G0 x1 hs;have hml3:=wS G0 x1 (F.take k);rw[Au] at hml3;generalize pfP G0 x1 (F.take k)=x2 at q hml3 ⊢;have hcp:=aY7 G1 s (by omega);rw[hG0] at hcp;have hmo:=vB x2 [s] (by simp;omega);rw[show kM x2 [s]=pQ x2 s from rfl] at hmo;refine aD (a8 (aC (sgh [(0,.row k (bD s))] rfl (sk 3 rfl (kc hcp ?_)))));refine kz 1 rfl (aA rfl (fun hb=>?_) (fun hb=>?_))
    ·have hni:¬s∈G0:=by simpa using hb
     rw[pfG,φ hni] at q;refine aE mixed (ak 3 [(2,.all)] rfl (kc hmo ?_));refine kz 1 rfl (ag [] rfl ⟨k+1,N,by dsimp only;omega,?_⟩);dsimp only;rw[q];exact sl
    ·have hni:s∈G0:=by simpa using hb
     rw[pfG,ξ hni] at q;refine aD (ag [] rfl ⟨k+1,N,by dsimp only;omega,?_⟩);dsimp only;rw[q];exact sl
   have hge3:=geD hb hkF hk;subst hge3;rw[An,←J];exact aO (ag [] rfl ⟨j+1,hlt2,by dsimp only;omega,sl⟩)
  have hge2:=geD hb aa hj;subst hge2;rw[An,←O];exact aO (ag [] rfl ⟨i+1,hlt,by dsimp only;omega,sl⟩)
 have hge:=geD hb hkL hi;subst hge;rw[An];exact aO (sg rfl (aI rtT))
theorem aAq (c:Core) (I:∀x,b7 x<b7 c→aGs x):aGs c:=fun q=>(oF c I q).plain (θ _).symm
theorem pF:∀(n:Nat) (c:Core),b7 c≤n→aGs c
 | 0,c,h=>by have:=c9 c;omega
 | n+1,c,h=>aAq c fun x hx=>pF n x (by omega)
def vC (z:Str):Core:=.mk 1 0 z zTy [] [] []
section
variable (sb:Core→Str→Core→Core)
noncomputable def dS (far:List Str) (st:List Str×List Core×List Str) (n:Str):List Str×List Core×List Str:=
 if n∈far then(st.1++[aZ st.2.2],st.2.1.map (fun p=>sb p n (vC (aZ st.2.2))),st.2.2++[aZ st.2.2]) else(st.1++[n],st.2.1,st.2.2)
noncomputable def jN (far:List Str) (ns:List Str) (st:List Str×List Core×List Str):List Str×List Core×List Str:=ns.foldl (dS sb far) st
def zA (s:Str) (ns:List Str) (ps:List Core):Prop:=s∈ps.flatMap pfR∧¬s∈ns
open Classical in
noncomputable def bX (s:Str) (b:Core) (ns:List Str) (ps:List Core):List Str×List Core:=
 if zA s ns ps then
  ((jN sb (pfR b) ns ([],ps,ps.flatMap pfR++ns++pfR b)).1,(jN sb (pfR b) ns ([],ps,ps.flatMap pfR++ns++pfR b)).2.1.map (fun p=>sb p s b))
 else(ns,ps)
end
def mkB:List Ty→List Str→List Core→List Bind
 | t::ts,n::ns,p::ps=>.mk n t p::mkB ts ns ps
 | _,_,_=>[]
section
variable {sb:Core→Str→Core→Core}
theorem sI {far:List Str}{st:List Str×List Core×List Str}{n:Str}:(dS sb far st n).1.length=st.1.length+1∧(dS sb far st n).2.1.length=st.2.1.length∧(dS sb far st n).2.2.length≤st.2.2.length+1:=by
 unfold dS;split<;>simp
theorem qV {far:List Str}:∀{ns:List Str}{st:List Str×List Core×List Str},(jN sb far ns st).1.length=st.1.length+ns.length∧(jN sb far ns st).2.1.length=st.2.1.length∧(jN sb far ns st).2.2.length≤st.2.2.length+ns.length
 | [],st=>by simp[jN]
 | n::ns,st=>by
  have h:=qV (far:=far) (ns:=ns) (st:=dS sb far st n);obtain⟨g1,g2,g3⟩:=sI (sb:=sb) (far:=far) (st:=st) (n:=n);unfold jN at h ⊢;rw[foldl_cons,Ag];omega
theorem aAb {far ns:List Str}{st:List Str×List Core×List Str}{i:Nat}{n:Str}(h:ns[i]?=some n):jN sb far (ns.take (i+1)) st=dS sb far (jN sb far (ns.take i) st) n:=by
 unfold jN;rw[Bh,h,B4];rfl
theorem mH {s:Str}{b:Core}{ns:List Str}{ps:List Core}:(bX sb s b ns ps).1.length=ns.length∧(bX sb s b ns ps).2.length=ps.length:=by
 unfold bX;split
 ·obtain⟨h1,h2,_⟩:=qV (sb:=sb) (far:=pfR b) (ns:=ns) (st:=([],ps,ps.flatMap pfR++ns++pfR b));exact⟨by simpa using h1,by simpa using h2⟩
 ·exact⟨rfl,rfl⟩
end
def aHe (sb:Core→Core) (ps:List Core) (j:Nat):List Core:=(ps.take j).map sb++ps.drop j
theorem aPd {sb:Core→Core}{ps:List Core}{j:Nat}:(aHe sb ps j).length=ps.length:=by unfold aHe;simp;omega
theorem aT4 {sb:Core→Core}{ps:List Core}{j:Nat}{p:Core}(h:ps[j]?=some p):(aHe sb ps j)[j]?=some p:=by
 have q:j<ps.length:=(Ab.1 h).1
 unfold aHe;rw[A3 (by simp;omega),θ,Au,B5 (by omega),sub_self,Ap,Bw,h]
theorem aKx {sb:Core→Core}{ps:List Core}{j:Nat}{p:Core}(h:ps[j]?=some p):aHe sb ps (j+1)=(aHe sb ps j).set j (sb p):=by
 have q:j<ps.length:=(Ab.1 h).1
 unfold aHe;rw[pD h,rK (by simp;omega),Bh,h];simp
theorem aKw {sb:Core→Core}{ps:List Core}:aHe sb ps 0=ps:=by simp[aHe]
theorem aPe {sb:Core→Core}{ps:List Core}:aHe sb ps ps.length=ps.map sb:=by simp[aHe]
theorem pT (l:List Core) (j:Nat) (x:Core):(aM l).set j (aB x)=aM (l.set j x):=by
 rw[aR,aR,map_set]
theorem sB:∀{ts:List Ty}{ns:List Str}{ps:List Core}{j:Nat}{t:Ty}{n:Str}{p:Core},ts[j]?=some t→ns[j]?=some n→ps[j]?=some p→(mkB ts ns ps)[j]?=some (.mk n t p)
 | t'::ts,n'::ns,p'::ps,0,t,n,p,h1,h2,h3=>by
  simp at h1 h2 h3;subst h1 h2 h3;rfl
 | t'::ts,n'::ns,p'::ps,j+1,t,n,p,h1,h2,h3=>by
  simp only[Bj] at h1 h2 h3;simp only[mkB,Bj];exact sB h1 h2 h3
theorem oY:∀{ts:List Ty}{ns:List Str}{ps:List Core},ns.length=ts.length→ps.length=ts.length→(mkB ts ns ps).length=ts.length
 | [],_,_,_,_=>by unfold mkB;rfl
 | t::ts,n::ns,p::ps,h1,h2=>by
  simp only[Ag] at h1 h2;simp only[mkB,Ag,oY (ts:=ts) (ns:=ns) (ps:=ps) (by omega) (by omega)]
theorem aE8:∀{ts:List Ty}{ns:List Str}{ps:List Core}{j:Nat}{t:Ty}{n:Str}(x:Core),ts[j]?=some t→ns[j]?=some n→j<ps.length→(mkB ts ns ps).set j (.mk n t x)=mkB ts ns (ps.set j x)
 | t'::ts,n'::ns,p'::ps,0,t,n,x,h1,h2,_=>by
  simp at h1 h2;subst h1 h2;rfl
 | t'::ts,n'::ns,p'::ps,j+1,t,n,x,h1,h2,h3=>by
  simp only[Bj] at h1 h2;simp only[mkB,Cq];rw[aE8 x h1 h2 (by simpa using h3)]
theorem aE9:∀{ts:List Ty}{ns:List Str}{ps:List Core}{j:Nat}{t:Ty}{p:Core}(z:Str),ts[j]?=some t→ps[j]?=some p→j<ns.length→(mkB ts ns ps).set j (.mk z t p)=mkB ts (ns.set j z) ps
 | t'::ts,n'::ns,p'::ps,0,t,p,z,h1,h2,_=>by
  simp at h1 h2;subst h1 h2;rfl
 | t'::ts,n'::ns,p'::ps,j+1,t,p,z,h1,h2,h3=>by
  simp only[Bj] at h1 h2;simp only[mkB,Cq];rw[aE9 z h1 h2 (by simpa using h3)]
theorem jH (l:List Bind) (j:Nat) (x:Bind):(aS l).set j (bB x)=aS (l.set j x):=by
 rw[bI,bI,map_set]
theorem aYi {l:List Core}{j:Nat}{x:Core}(h:l[j]?=some x):(aM l)[j]?=some (aB x):=dG h
def grO (nG:List R) (pG:List R):AObj:=.var 126 [.ras nG.length 1 nG,.ras pG.length 1 pG]
def tH (tys:List Ty) (nk:Nat) (ns:List Str) (ps:List Core):List (Nat×AObj):=[(701,.arr 58 15 (aS (mkB tys ns (ps.drop nk))) 0),(702,.arr 37 10 (aM (ps.take nk)) 0)]
def tN (nb:Nat):List R:=(nR false nb nb).flatten
def tP (nk nb:Nat):List R:=(pR nk nb nb).flatten
theorem mP {es:Nat}:∀{l:List (List R)},(∀r∈l,r.length=es)→l.flatten.length=l.length*es
 | [],_=>by simp
 | r::l,h=>by
  rw[Bi,ω,mP fun q I=>h q (κ _ I),h r ζ,Ag,A5];omega
theorem aQ3 {nk nb:Nat}:(tP nk nb).length=nk+nb:=by unfold tP;rw[mP uN,aKg];omega
theorem aQ5 {nk nb j:Nat}(h:j<nk):((tP nk nb).drop (j*1)).take 1=[.ep 702 j 0 nk]:=eG uN j _ (aKi h)
theorem aQ4 {nk nb j:Nat}(h:j<nb):((tP nk nb).drop ((nk+j)*1)).take 1=[.ep 701 j 5 nb]:=eG uN _ _ (aKh h)
theorem aI9 {nb:Nat}:∀r∈nR false nb nb,r.length=1:=fun r q=>by
 unfold nR at q;exact rM (fun _=>rfl) r (by simpa [gNm] using q)
theorem aWl {nb:Nat}:(tN nb).length=nb:=by
 unfold tN;rw[mP aI9];unfold nR;rw[ω,fY];simp[gNm]
theorem aWm {nb j:Nat}(h:j<nb):((tN nb).drop (j*1)).take 1=[.ep 701 j 0 nb]:=eG aI9 j _ (by
 unfold nR;rw[A3 (by simp[gNm])];simp only[gNm,length_nil,sub_zero]
 exact aEn h)
theorem w8 {nk nb:Nat}:∀x∈R.refsL (tP nk nb),x=701∨x=702:=fun x hx=>by
 unfold tP at hx;rw[dE] at hx;unfold pR at hx;rw[jU] at hx;rcases χ.1 hx with hx | hx
 ·exact .inr (mG (L:=fun x=>x=702) (fun j x hx=>by simpa [R.refsL,R.refs] using hx) _ x hx)
 ·exact .inl (mG (L:=fun x=>x=701) (fun j x hx=>by simpa [R.refsL,R.refs] using hx) _ x hx)
theorem aI8 {nb:Nat}:∀x∈R.refsL (tN nb),x=701:=fun x hx=>by
 unfold tN at hx;rw[dE] at hx;unfold nR at hx;rw[jU] at hx;rcases χ.1 hx with hx | hx
 ·simp[gNm,c8] at hx
 ·exact mG (L:=fun x=>x=701) (fun j x hx=>by simpa [R.refsL,R.refs] using hx) _ x hx
theorem aB0 {nk nb:Nat}:∀x∈(grO (tN nb) (tP nk nb)).refs,x=701∨x=702:=fun x hx=>by
 have hx:x∈R.refsL (tN nb)++(R.refsL (tP nk nb)++[]):=hx;rw[A0] at hx;rcases χ.1 hx with hx | hx
 ·exact .inl (aI8 x hx)
 ·exact w8 x hx
abbrev tG (tys:List Ty) (nk:Nat) (ns:List Str) (ps:List Core):List (Nat×AObj):=(3,grO (tN tys.length) (tP nk tys.length))::tH tys nk ns ps
theorem tGW {tys:List Ty}{nk:Nat}{ns:List Str}{ps:List Core}:GW (tG tys nk ns ps) []:=⟨⟨fun _ h=>(by cases h),nodup_nil,fun _ h=>(by cases h)⟩,fun x hx=>by
 have hx:x∈(grO (tN tys.length) (tP nk tys.length)).refs++[]:=hx;rw[A0] at hx;rcases aB0 x hx with rfl | rfl
 ·exact .inl (by simp[tG,tH,keys])
 ·exact .inl (by simp[tG,tH,keys]),rfl,rfl⟩
theorem aSn (tys:List Ty) (nk:Nat) (ns:List Str) (ps:List Core) (nm:Str) (b:Core) (sb:Core→Core) (hn:ns.length=tys.length) (hp:ps.length=nk+tys.length) (hb:ps.length≤570000000000)
  (hs:∀p∈ps,aU Tryz.prog 106 [.pa (aB p),Go.AM.T nm,.pa (aB b)] [] (.pa (aB (sb p))) []):
  aU Tryz.prog 144 [Go.AM.T nm,.pa (aB b),.one (.vp 3 0)] (tG tys nk ns ps++[]) (.tup []) (tG tys nk ns (ps.map sb)++[]):=by
 have N:TF []:=tGW (tys:=tys) (nk:=nk) (ns:=ns) (ps:=ps).tf;have ar:=aQ3 (nk:=nk) (nb:=tys.length);have J:∀x∈R.refsL (tP nk tys.length),Kn [(4,.var 37 (bA b))] (tG tys nk ns ps) [] x:=fun x hx=>by
  rcases w8 x hx with rfl | rfl
  ·exact .inr (.inl (by simp[tG,tH,keys]))
  ·exact .inr (.inl (by simp[tG,tH,keys]))
 refine tM N (n:=23) tok Tryz.func144 rfl rfl rfl ?_;refine sg rfl (sg rfl (aC (aL (fun j:Nat=>mkt [(0,Go.AM.T nm),(2,.one (.vp 3 0)),(4,.one (.vp 4 0)),(8,.one (.ras (tP nk tys.length).length 1 (tP nk tys.length))),(9,I .i64 (((tP nk tys.length).length:Nat):Int)),(10,I .i64 j)] ([(4,.var 37 (bA b))]++tG tys nk ns (aHe sb ps j)) []) (fun j=>j≤(tP nk tys.length).length) (fun j=>(tP nk tys.length).length-j) 0 (Aj _) ?_ ?_)))
 ·rw[aKw];exact slG tGW (h1:=Kn.app Kn.nil (Kn.app (Kn.of rfl) (Kn.app (Kn.of rfl) (Kn.app J Kn.nil))))
 intro j hj;have J:∀ab,∀x∈R.refsL (tP nk tys.length),Kn [(4,.var 37 (bA b))] (tG tys nk ns ab) [] x:=fun ab x hx=>by
  rcases w8 x hx with rfl | rfl
  ·exact .inr (.inl (by simp[tG,tH,keys]))
  ·exact .inr (.inl (by simp[tG,tH,keys]))
 refine sg rfl (a8 (aA rfl (fun hb=>?_) (fun hb=>?_)))
 ·have ac:j<(tP nk tys.length).length:=by
   have:(j:Int)<((tP nk tys.length).length:Int):=ψ hb;omega
  obtain⟨p,O⟩:=aJ (show j<ps.length by omega);have hc:=hs p (η O);have W:=aT4 (sb:=sb) O;have Y:=aKx (sb:=sb) O;have ai:=aPd (sb:=sb) (ps:=ps) (j:=j);generalize aHe sb ps j=Z at W Y ai ⊢;have ap:nk=(aM (Z.take nk)).length:=by rw[aR,θ,Au];omega
  have aq:tys.length=(aS (mkB tys ns (Z.drop nk))).length:=by rw[bI,θ,oY hn (by rw[Bx];omega)]
  refine aD ?_;by_cases aa:j<nk
  ·have aj:=aQ5 (nb:=tys.length) aa;have ah:(aM (Z.take nk))[j]?=some (aB p):=aYi (by rw[Av,ξ aa,W]);refine a8 (aC (sgh [(0,.rowR j [.ep 702 j 0 nk])] rfl (aE mixed (ak 6 [(3,.row j (aB p))] rfl (kc hc ?_)))));refine ak 2 [(8,.row j (aB p))] rfl (az (ag [] rfl ⟨j+1,ac,by dsimp only;omega,?_⟩));dsimp only;rw[Y];refine slG tGW (fun i hi=>GW.kf i hi) (h1:=Kn.app Kn.nil (Kn.app (Kn.of rfl) (Kn.app (Kn.of rfl) (Kn.app (J _) Kn.nil)))) (hh:=⟨⟨_,rfl,.varS rfl⟩,⟨_,rfl,.varS rfl⟩,⟨_,rfl,.arrS ?_⟩,⟨_,rfl,.arrS ?_⟩,trivial⟩)
   ·rw[List.drop_set_of_lt aa]
   ·rw[List.take_set];exact pT _ _ _
  ·obtain⟨q,rfl⟩:∃q,j=nk+q:=⟨j-nk,by omega⟩
   have ad:q<tys.length:=by omega
   obtain⟨t,ht⟩:=aJ ad;obtain⟨n,ae⟩:=aJ (show q<ns.length by omega);have hd:(Z.drop nk)[q]?=some p:=by rw[Ap];exact W
   have aj:=aQ4 (nk:=nk) ad;have ah:(aS (mkB tys ns (Z.drop nk)))[q]?=some (bB (.mk n t p)):=bT (sB ht ae hd);refine a8 (aC (sgh [(0,.rowR (nk+q) [.ep 701 q 5 tys.length])] rfl (aE mixed (ak 6 [(3,.row q (bB (.mk n t p)))] rfl (kc hc ?_)))));refine ak 2 [(8,.row q (bB (.mk n t p)))] rfl (az (ag [] rfl ⟨nk+q+1,ac,by dsimp only;omega,?_⟩));dsimp only;rw[Y];refine slG tGW (fun i hi=>GW.kf i hi) (h1:=Kn.app Kn.nil (Kn.app (Kn.of rfl) (Kn.app (Kn.of rfl) (Kn.app (J _) Kn.nil)))) (hh:=⟨⟨_,rfl,.varS rfl⟩,⟨_,rfl,.varS rfl⟩,⟨_,rfl,.arrS ?_⟩,⟨_,rfl,.arrS ?_⟩,trivial⟩)
   ·rw[List.drop_set,φ (by omega),Nat.add_sub_cancel_left,←aE8 _ ht ae (by rw[Bx];omega),←jH];rfl
   ·rw[List.take_set_of_le (by omega)]
 have am:j=ps.length:=by
  have:¬(j:Int)<((tP nk tys.length).length:Int):=δ hb;omega
 subst am;rw[aPe];refine aO ?_;exact⟨.inl rfl,aCw (hl:=tG tys nk ns (ps.map sb)) N (by repeat (first | exact FarEq.raw N | (refine FarEq.updL N ?_) | (refine FarEq.upd N ?_))) ⟨[],[],.nil,.nil,rfl⟩ (fun _ h=>by cases h) tGW.refs (fun i hi=>GW.kf i hi) (fun p hp=>by rcases χ.1 hp with hp | hp;exact(A7.1 (tGW (tys:=tys) (nk:=nk) (ns:=ns) (ps:=ps)).plain) p hp;cases hp)⟩
theorem sV (s:Str):aU Tryz.prog 41 [Go.AM.T s] [] (.pa (aB (vC s))) []:=by
 refine bO (n:=5) tok Tryz.func41 rfl rfl rfl ?_;exact sg rfl (sg rfl (aI (rtC trw)))
theorem aUl {l:List Core}{j:Nat}{p:Core}(h:l[j]?=some p):(l.take (j+1)).flatMap pfR=(l.take j).flatMap pfR++pfR p:=by
 rw[Bh,h,Cl];simp
theorem aYh (l:List Core) (j:Nat):((l.take j).flatMap pfR).length≤(l.flatMap pfR).length:=by
 have:l.flatMap pfR=(l.take j).flatMap pfR++(l.drop j).flatMap pfR:=by rw[←Cl,take_append_drop]
 rw[this,ω];omega
structure PutOk (sb:Core→Str→Core→Core) (P:Core→Prop) (s:Str) (b:Core) (ps:List Core):Prop where
 in_:∀p∈ps,P p
 free:∀p∈ps,aU Tryz.prog 125 [.pa (aB p)] [] (aY (pfR p)) []
 far:aU Tryz.prog 125 [.pa (aB b)] [] (aY (pfR b)) []
 ren:∀p n z,P p→z.length≤30→P (sb p n (vC z))
 subz:∀p n z,P p→z.length≤30→aU Tryz.prog 106 [.pa (aB p),Go.AM.T n,.pa (aB (vC z))] [] (.pa (aB (sb p n (vC z)))) []
 subb:∀p,P p→aU Tryz.prog 106 [.pa (aB p),Go.AM.T s,.pa (aB b)] [] (.pa (aB (sb p s b))) []
 itoa:cQ 540000000000
noncomputable def gSt (sb:Core→Str→Core→Core) (b:Core) (ns:List Str) (ps:List Core) (i:Nat):List Str×List Core×List Str:=jN sb (pfR b) (ns.take i) ([],ps,ps.flatMap pfR++ns++pfR b)
noncomputable def gNs (sb:Core→Str→Core→Core) (b:Core) (ns:List Str) (ps:List Core) (i:Nat):List Str:=(gSt sb b ns ps i).1++ns.drop i
section
variable {sb:Core→Str→Core→Core}{b:Core}{ns:List Str}{ps:List Core}{i:Nat}{n:Str}
theorem iA (hi:i≤ns.length):(gSt sb b ns ps i).1.length=i∧(gSt sb b ns ps i).2.1.length=ps.length∧(gSt sb b ns ps i).2.2.length≤(ps.flatMap pfR++ns++pfR b).length+i:=by
 obtain⟨h1,h2,h3⟩:=qV (sb:=sb) (far:=pfR b) (ns:=ns.take i) (st:=([],ps,ps.flatMap pfR++ns++pfR b));rw[Au,B5 hi] at h1 h3;exact⟨by unfold gSt;simpa using h1,h2,h3⟩
theorem aLv (hi:i≤ns.length):(gNs sb b ns ps i).length=ns.length:=by
 unfold gNs;rw[ω,(iA hi).1,Bx];omega
theorem aR6 (h:ns[i]?=some n):(gNs sb b ns ps i)[i]?=some n:=by
 have q:i<ns.length:=(Ab.1 h).1
 unfold gNs;rw[A3 (by rw[(iA (le_of_lt q)).1];exact le_refl _),(iA (le_of_lt q)).1,sub_self,Ap,Bw,h]
theorem o5 (h:ns[i]?=some n):gSt sb b ns ps (i+1)=dS sb (pfR b) (gSt sb b ns ps i) n:=aAb h
theorem aR5 (h:ns[i]?=some n) (hf:n∈pfR b):gNs sb b ns ps (i+1)=(gNs sb b ns ps i).set i (aZ (gSt sb b ns ps i).2.2):=by
 have q:i<ns.length:=(Ab.1 h).1
 have hl:=(iA (sb:=sb) (b:=b) (ps:=ps) (le_of_lt q)).1
 unfold gNs;rw[o5 h,pD h,rK hl];unfold dS;rw[ξ hf];simp
theorem aLu (h:ns[i]?=some n) (hf:¬n∈pfR b):gNs sb b ns ps (i+1)=gNs sb b ns ps i:=by
 unfold gNs;rw[o5 h,pD h];unfold dS;rw[φ hf];simp
theorem aFr:gNs sb b ns ps 0=ns:=by unfold gNs gSt jN;simp
theorem xH:gSt sb b ns ps 0=([],ps,ps.flatMap pfR++ns++pfR b):=by unfold gSt jN;simp
theorem aLw:gNs sb b ns ps ns.length=(gSt sb b ns ps ns.length).1:=by unfold gNs;simp
theorem aLs:gSt sb b ns ps ns.length=jN sb (pfR b) ns ([],ps,ps.flatMap pfR++ns++pfR b):=by unfold gSt;rw[An]
theorem aLt {P:Core→Prop}{s:Str}(h:PutOk sb P s b ps):∀{i:Nat},i≤ns.length→(gSt sb b ns ps i).2.2.length≤540000000000→(∀j,j≤i→(gSt sb b ns ps j).2.2.length≤540000000000)→∀p∈(gSt sb b ns ps i).2.1,P p
 | 0,_,_,_=>by rw[xH];exact h.in_
 | i+1,hi,_,hb=>by
  obtain⟨n,hn⟩:=aJ (show i<ns.length by omega);have I:=aLt h (i:=i) (by omega) (hb i (by omega)) fun j hj=>hb j (by omega)
  rw[o5 hn];unfold dS;split
  ·intro p hp;obtain⟨q,J,rfl⟩:=Ad.1 hp;exact h.ren q n _ (I q J) (le_trans (jY _ (hb i (by omega))) (by omega))
  ·exact I
end
def tkA (l:List Str):AObj:=.arr 9 1 (l.map bD) 2
def tkV (l:List Str):V:=.one (.hs 720 0 l.length l.length)
def gpV (nG pG:List R):V:=.ma [.ras nG.length 1 nG,.ras pG.length 1 pG]
theorem tHW {tys:List Ty}{nk:Nat}{ns:List Str}{ps:List Core}:GW (tH tys nk ns ps) []:=⟨tGW (tys:=tys) (nk:=nk) (ns:=ns) (ps:=ps).tf,fun x hx=>(by cases hx),rfl,rfl⟩
theorem aEa {tys:List Ty}{nk:Nat}{ns:List Str}{ps:List Core}{n:Str}{l:List C}:kQ ([Go.AM.T n,.pa l]++List.map V.one [R.vp 3 0]) (tG tys nk ns ps++[])=true:=by
 refine nJ (tHW (tys:=tys) (nk:=nk) (ns:=ns) (ps:=ps)).tf (fun x hx=>.inl ?_) tGW.refs;have:x=3:=by simpa [V.refsL,V.refs,R.refs] using hx
 subst this;simp[tG,keys]
theorem aYw (tys:List Ty) (nk:Nat) (ns:List Str) (ps:List Core) (s:Str) (b:Core) (sb:Core→Str→Core→Core) (P:Core→Prop) (hn:ns.length=tys.length) (hp:ps.length=nk+tys.length) (hok:PutOk sb P s b ps)
  (hM:(ps.flatMap pfR).length+2*ns.length+(pfR b).length+ps.length≤540000000000):
  aU Tryz.prog 126 [gpV (tN tys.length) (tP nk tys.length),Go.AM.T s,.pa (aB b)] (tH tys nk ns ps++[]) (.tup []) (tH tys nk (bX sb s b ns ps).1 (bX sb s b ns ps).2++[]):=by
 have hF:TF []:=tHW (tys:=tys) (nk:=nk) (ns:=ns) (ps:=ps).tf;have hpl:=aQ3 (nk:=nk) (nb:=tys.length);have hnl:=aWl (nb:=tys.length);have hkp:∀ex ns' J,∀x∈R.refsL (tP nk tys.length),Kn ex (tH tys nk ns' J) [] x:=fun ex ns' J x hx=>by
  rcases w8 x hx with rfl | rfl
  ·exact .inr (.inl (by simp[tH,keys]))
  ·exact .inr (.inl (by simp[tH,keys]))
 have hkn:∀ex ns' J,∀x∈R.refsL (tN tys.length),Kn ex (tH tys nk ns' J) [] x:=fun ex ns' J x hx=>by
  have:=aI8 x hx;subst this;exact .inr (.inl (by simp[tH,keys]))
 have Z:∀ex ns' J,∀x∈(grO (tN tys.length) (tP nk tys.length)).refs,Kn ex (tH tys nk ns' J) [] x:=fun ex ns' J x hx=>by
  rcases aB0 x hx with rfl | rfl
  ·exact .inr (.inl (by simp[tH,keys]))
  ·exact .inr (.inl (by simp[tH,keys]))
 have hsz1:∀J:List Core,J.length=ps.length→nk=(aM (J.take nk)).length:=fun J h=>by rw[aR,θ,Au];omega
 have hsz2:∀(ns':List Str) (J:List Core),ns'.length=ns.length→J.length=ps.length→tys.length=(aS (mkB tys ns' (J.drop nk))).length:=fun ns' J h h'=>by rw[bI,θ,oY (by omega) (by rw[Bx];omega)]
 have hs1:=hsz1 ps rfl;have hs2:=hsz2 ns ps rfl rfl;refine tM hF (n:=92) tok Tryz.func126 rfl rfl rfl ?_;refine sg rfl (sg rfl (AWp.sub (Sub.own (t:=6) (id:=720) 9 1 rfl rfl) (AWp.sub (Sub.freeze (id:=720) rfl) ?_)));refine a8 (sg rfl (aC (aL (fun j:Nat=>mkt [(1,Go.AM.T s),(3,.one (.vp 3 0)),(5,.one (.vp 5 0)),(6,tkV ((ps.take j).flatMap pfR)),(17,.one (.ras (tP nk tys.length).length 1 (tP nk tys.length))),(18,I .i64 (((tP nk tys.length).length:Nat):Int)),(19,I .i64 j)] ([(3,grO (tN tys.length) (tP nk tys.length)),(5,.var 37 (bA b)),(720,tkA ((ps.take j).flatMap pfR))]++tH tys nk ns ps) []) (fun j=>j≤(tP nk tys.length).length) (fun j=>(tP nk tys.length).length-j) 0 (Aj _) ?_ ?_)))
 ·exact slG tHW (h1:=Kn.app Kn.nil (Kn.app (Kn.of rfl) (Kn.app (Kn.of rfl) (Kn.app (Kn.of rfl) (Kn.app (hkp _ _ _) Kn.nil))))) (h2:=⟨Z _ _ _,Kn.of rfl,Kn.of rfl,trivial⟩)
 ·intro j hj;refine sg rfl (a8 (aA rfl (fun hb=>?_) (fun hb=>?_)))
  ·have hlt:j<(tP nk tys.length).length:=by
    have:(j:Int)<((tP nk tys.length).length:Int):=ψ hb;omega
   obtain⟨p,Y⟩:=aJ (show j<ps.length by omega);have hf:=hok.free p (η Y);have hst:=aUl Y;have hl1:=aYh ps (j+1);rw[hst,ω] at hl1;have hq1:(((ps.take j).flatMap pfR).map bD).length=((ps.take j).flatMap pfR).length:=θ _;have hq2:((pfR p).map bD).length=(pfR p).length:=θ _;generalize (ps.take j).flatMap pfR=q at hst hl1 hq1 ⊢;refine aD ?_;by_cases hjk:j<nk
   ·have ht1:=aQ5 (nb:=tys.length) hjk;have hrow:(aM (ps.take nk))[j]?=some (aB p):=aYi (by rw[Av,ξ hjk,Y]);refine a8 (aC (sgh [(0,.rowR j [.ep 702 j 0 nk])] rfl (aE mixed (ak 4 [(3,.row j (aB p))] rfl (kc hf ?_)))));refine kz 2 rfl (AWp.sub (Sub.freeze (id:=720) rfl) ?_);refine ag [] rfl ⟨j+1,hlt,by dsimp only;omega,?_⟩;dsimp only;rw[hst];exact slG tHW (h1:=Kn.app Kn.nil (Kn.app (Kn.of rfl) (Kn.app (Kn.of rfl) (Kn.app (Kn.of rfl) (Kn.app (hkp _ _ _) Kn.nil))))) (h2:=⟨Z _ _ _,Kn.of rfl,Kn.of rfl,trivial⟩) (he:=⟨rfl,rfl,rfl,Go.AM.hs_ren (by simp) (by simp),congrArg some (V.ren_id _).symm,rfl,rfl,trivial⟩) (hh:=⟨⟨_,rfl,.varS rfl⟩,⟨_,rfl,.varS rfl⟩,⟨_,rfl,.arrS (by simp)⟩,⟨_,rfl,.arr⟩,⟨_,rfl,.arr⟩,trivial⟩)
   ·obtain⟨j',rfl⟩:∃j',j=nk+j':=⟨j-nk,by omega⟩
    have aa:j'<tys.length:=by omega
    obtain⟨t,ht⟩:=aJ aa;obtain⟨n,W⟩:=aJ (show j'<ns.length by omega);have hd:(ps.drop nk)[j']?=some p:=by rw[Ap];exact Y
    have ht1:=aQ4 (nk:=nk) aa;have hrow:(aS (mkB tys ns (ps.drop nk)))[j']?=some (bB (.mk n t p)):=bT (sB ht W hd);refine a8 (aC (sgh [(0,.rowR (nk+j') [.ep 701 j' 5 tys.length])] rfl (aE mixed (ak 4 [(3,.row j' (bB (.mk n t p)))] rfl (kc hf ?_)))));refine kz 2 rfl (AWp.sub (Sub.freeze (id:=720) rfl) ?_);refine ag [] rfl ⟨nk+j'+1,hlt,by dsimp only;omega,?_⟩;dsimp only;rw[hst];exact slG tHW (h1:=Kn.app Kn.nil (Kn.app (Kn.of rfl) (Kn.app (Kn.of rfl) (Kn.app (Kn.of rfl) (Kn.app (hkp _ _ _) Kn.nil))))) (h2:=⟨Z _ _ _,Kn.of rfl,Kn.of rfl,trivial⟩) (he:=⟨rfl,rfl,rfl,Go.AM.hs_ren (by simp) (by simp),congrArg some (V.ren_id _).symm,rfl,rfl,trivial⟩) (hh:=⟨⟨_,rfl,.varS rfl⟩,⟨_,rfl,.varS rfl⟩,⟨_,rfl,.arrS (by simp)⟩,⟨_,rfl,.arr⟩,⟨_,rfl,.arr⟩,trivial⟩)
  have hge:j=ps.length:=by
   have:¬(j:Int)<((tP nk tys.length).length:Int):=δ hb;omega
  subst hge;rw[An];refine aO ?_;have hct:=bW (ps.flatMap pfR) s (by omega);refine a8 (sk 2 rfl (kc hct ?_));refine kz 1 rfl (aA rfl (fun hb=>?_) (fun hb=>?_))
  ·have hno:¬s∈ps.flatMap pfR:=by
    intro h;have hb:(!decide (s∈ps.flatMap pfR))=true:=hb;rw[Ak h] at hb;cases hb
   have he:bX sb s b ns ps=(ns,ps):=by unfold bX;rw[φ fun h=>hno h.1]
   rw[he];exact aI ⟨.inr rfl,aCw hF (by repeat (first | exact FarEq.raw hF | (refine FarEq.updL hF ?_) | (refine FarEq.upd hF ?_))) ⟨[],[],.nil,.nil,rfl⟩ (fun _ h=>by cases h) tHW.refs (fun i hi=>GW.kf i hi) (fun p hp=>by rcases χ.1 hp with hp | hp;exact(A7.1 (tHW (tys:=tys) (nk:=nk) (ns:=ns) (ps:=ps)).plain) p hp;cases hp)⟩
  have hin:s∈ps.flatMap pfR:=by
   have hb:(!decide (s∈ps.flatMap pfR))=false:=hb;by_cases h:s∈ps.flatMap pfR
   ·exact h
   ·rw[Al h] at hb;cases hb
  refine aD (a8 (sg rfl (aC (aL (fun j:Nat=>mkt [(1,Go.AM.T s),(3,.one (.vp 3 0)),(5,.one (.vp 5 0)),(6,tkV (ps.flatMap pfR++ns.take j)),(35,.one (.ras (tN tys.length).length 1 (tN tys.length))),(36,I .i64 (((tN tys.length).length:Nat):Int)),(37,I .i64 j)] ([(3,grO (tN tys.length) (tP nk tys.length)),(5,.var 37 (bA b)),(720,tkA (ps.flatMap pfR++ns.take j))]++tH tys nk ns ps) []) (fun j=>j≤(tN tys.length).length∧¬s∈ns.take j) (fun j=>(tN tys.length).length-j) 0 ⟨Aj _,by simp⟩ ?_ ?_))))
  ·exact slG tHW (h1:=Kn.app Kn.nil (Kn.app (Kn.of rfl) (Kn.app (Kn.of rfl) (Kn.app (Kn.of rfl) (Kn.app (hkn _ _ _) Kn.nil))))) (h2:=⟨Z _ _ _,Kn.of rfl,Kn.of rfl,trivial⟩) (he:=⟨rfl,rfl,rfl,Go.AM.hs_ren (by simp) (by simp),congrArg some (V.ren_id _).symm,rfl,rfl,trivial⟩) (hh:=⟨⟨_,rfl,.varS rfl⟩,⟨_,rfl,.varS rfl⟩,⟨_,rfl,.arrS (by simp)⟩,⟨_,rfl,.arr⟩,⟨_,rfl,.arr⟩,trivial⟩)
  rintro j ⟨hj,hnos⟩;refine sg rfl (a8 (aA rfl (fun hb=>?_) (fun hb=>?_)))
  ·have hlt:j<(tN tys.length).length:=by
    have:(j:Int)<((tN tys.length).length:Int):=ψ hb;omega
   have aa:j<tys.length:=by omega
   obtain⟨t,ht⟩:=aJ aa;obtain⟨n,W⟩:=aJ (show j<ns.length by omega);obtain⟨p,Y⟩:=aJ (show nk+j<ps.length by omega);have hd:(ps.drop nk)[j]?=some p:=by rw[Ap];exact Y
   have ht1:=aWm aa;have hrow:(aS (mkB tys ns (ps.drop nk)))[j]?=some (bB (.mk n t p)):=bT (sB ht W hd);have hstp:ns.take (j+1)=ns.take j++[n]:=by rw[Bh,W];rfl
   have hq1:((ps.flatMap pfR++ns.take j).map bD).length=(ps.flatMap pfR++ns.take j).length:=θ _;have hql:(ps.flatMap pfR++ns.take j).length≤540000000000:=by rw[ω,Au];omega
   refine aD (a8 (aC (sgh [(0,.rowR j [.ep 701 j 0 tys.length])] rfl (a8 (sgh [(2,.row j (bB (.mk n t p)))] rfl (aA rfl (fun hb=>?_) (fun hb=>?_)))))))
   ·have hns:n=s:=ψ hb;have he:bX sb s b ns ps=(ns,ps):=by
     unfold bX;rw[φ fun h=>h.2 (hns▸η W)]
    rw[he];exact aI ⟨.inr rfl,aCw hF (by repeat (first | exact FarEq.raw hF | (refine FarEq.updL hF ?_) | (refine FarEq.upd hF ?_))) ⟨[],[],.nil,.nil,rfl⟩ (fun _ h=>by cases h) tHW.refs (fun i hi=>GW.kf i hi) (fun p hp=>by rcases χ.1 hp with hp | hp;exact(A7.1 (tHW (tys:=tys) (nk:=nk) (ns:=ns) (ps:=ps)).plain) p hp;cases hp)⟩
   have hns:¬n=s:=δ hb;refine aD ?_;generalize ps.flatMap pfR=fm at *;rw[show fm++ns.take j=fm++ns.take j from rfl];generalize hq:fm++ns.take j=q at *;refine ag [(3,.row j (bB (.mk n t p)))] rfl (AWp.sub (Sub.freeze (id:=720) rfl) ?_);refine ag [] rfl ⟨j+1,⟨hlt,?_⟩,by dsimp only;omega,?_⟩
   ·rw[hstp];intro h;rcases χ.1 h with h | h
    ·exact hnos h
    ·exact hns (Aa.1 h).symm
   dsimp only;rw[hstp,←At,hq];exact slG tHW (h1:=Kn.app Kn.nil (Kn.app (Kn.of rfl) (Kn.app (Kn.of rfl) (Kn.app (Kn.of rfl) (Kn.app (hkn _ _ _) Kn.nil))))) (h2:=⟨Z _ _ _,Kn.of rfl,Kn.of rfl,trivial⟩) (he:=⟨rfl,rfl,rfl,Go.AM.hs_ren (by simp) (by simp),congrArg some (V.ren_id _).symm,rfl,rfl,trivial⟩) (hh:=⟨⟨_,rfl,.varS rfl⟩,⟨_,rfl,.varS rfl⟩,⟨_,rfl,.arrS (by simp[bD,Bind.name])⟩,⟨_,rfl,.arr⟩,⟨_,rfl,.arr⟩,trivial⟩)
  have hge:j=ns.length:=by
   have:¬(j:Int)<((tN tys.length).length:Int):=δ hb;omega
  subst hge;rw[An] at hnos ⊢;have hput:bX sb s b ns ps=((gSt sb b ns ps ns.length).1,(gSt sb b ns ps ns.length).2.1.map fun p=>sb p s b):=by
   unfold bX;rw[ξ ⟨hin,hnos⟩,aLs]
  have hql:(ps.flatMap pfR++ns).length≤540000000000:=by rw[ω];omega
  have hq1:((ps.flatMap pfR++ns).map bD).length=(ps.flatMap pfR++ns).length:=θ _;have hq2:((pfR b).map bD).length=(pfR b).length:=θ _;have hfar:=hok.far;refine aO (sk 1 rfl (kc hfar ?_));refine kz 1 rfl ?_;have hlq:(ps.flatMap pfR++ns).length+(pfR b).length≤540000000000:=by rw[ω];omega
  refine sg rfl (AWp.sub (Sub.freeze (id:=720) rfl) ?_);refine sg rfl (a8 (sg rfl (aC ?_)));have hall:∀i,i≤ns.length→(gSt sb b ns ps i).2.2.length≤540000000000:=fun i hi=>by
   have h1:=(iA (sb:=sb) (b:=b) (ps:=ps) hi).2.2
   simp only[ω] at h1;omega
  refine aL (fun i:Nat=>mkt [(1,Go.AM.T s),(5,.one (.vp 5 0)),(6,tkV (gSt sb b ns ps i).2.2),(11,aY (pfR b)),(12,.one (.clo 144 [.vp 3 0])),(60,.one (.ras (tN tys.length).length 1 (tN tys.length))),(61,I .i64 (((tN tys.length).length:Nat):Int)),(62,I .i64 i)] ([(3,grO (tN tys.length) (tP nk tys.length)),(5,.var 37 (bA b)),(720,tkA (gSt sb b ns ps i).2.2)]++tH tys nk (gNs sb b ns ps i) (gSt sb b ns ps i).2.1) []) (fun i=>i≤(tN tys.length).length) (fun i=>(tN tys.length).length-i) 0 (Aj _) ?_ ?_
  ·rw[xH,aFr];exact slG tHW (h1:=Kn.app Kn.nil (Kn.app (Kn.of rfl) (Kn.app (Kn.of rfl) (Kn.app Kn.nil (Kn.app (Kn.of rfl) (Kn.app (hkn _ _ _) Kn.nil)))))) (h2:=⟨Z _ _ _,Kn.of rfl,Kn.of rfl,trivial⟩) (he:=⟨rfl,rfl,Go.AM.hs_ren (by simp only[ω,θ]) (by simp only[ω,θ]),rfl,rfl,congrArg some (V.ren_id _).symm,rfl,rfl,trivial⟩) (hh:=⟨⟨_,rfl,.varS rfl⟩,⟨_,rfl,.varS rfl⟩,⟨_,rfl,.arrS (by simp)⟩,⟨_,rfl,.arr⟩,⟨_,rfl,.arr⟩,trivial⟩)
  intro i hi;have hle:i≤ns.length:=by omega
  refine sg rfl (a8 (aA rfl (fun hb=>?_) (fun hb=>?_)))
  ·have hlt:i<(tN tys.length).length:=by
    have:(i:Int)<((tN tys.length).length:Int):=ψ hb;omega
   have aa:i<tys.length:=by omega
   obtain⟨t,ht⟩:=aJ aa;obtain⟨n,W⟩:=aJ (show i<ns.length by omega);obtain⟨hg1,hg2,hg3⟩:=iA (sb:=sb) (b:=b) (ps:=ps) hle;have hgl:=aLv (sb:=sb) (b:=b) (ps:=ps) hle;have hga:=aR6 (sb:=sb) (b:=b) (ps:=ps) W;have hP:=aLt hok hle (hall i hle) (fun j hj=>hall j (by omega));have hs3:=hsz1 _ hg2;have hs4:=hsz2 _ _ hgl hg2;have O:=o5 (sb:=sb) (b:=b) (ps:=ps) W;have hnin:=aR5 (sb:=sb) (b:=b) (ps:=ps) W;have hnout:=aLu (sb:=sb) (b:=b) (ps:=ps) W;have hall0:=hall i hle;have ht1:=aWm aa;have hcf:=bW (pfR b) n (by omega);have hcr:=xY (gSt sb b ns ps i).2.2 (by omega) fun k hk=>hok.itoa k (by omega)
   generalize gSt sb b ns ps i=G at *;generalize gNs sb b ns ps i=N at *;obtain⟨d0,qs,tk⟩:=G;dsimp only at *;obtain⟨p,Y⟩:=aJ (show nk+i<qs.length by omega);have hd:(qs.drop nk)[i]?=some p:=by rw[Ap];exact Y
   have hrow:(aS (mkB tys N (qs.drop nk)))[i]?=some (bB (.mk n t p)):=bT (sB ht hga hd);refine aD (a8 (aC (sgh [(0,.rowR i [.ep 701 i 0 tys.length])] rfl (skh 4 [(3,.row i (bB (.mk n t p)))] rfl (kc hcf ?_)))));refine az (aA rfl (fun hb=>?_) (fun hb=>?_))
   ·have hmem:n∈pfR b:=ψ hb;have hnin:=hnin hmem;unfold dS at O;rw[ξ hmem] at O;dsimp only at O;have hz:(aZ tk).length≤30:=le_trans (jY _ hall0) (by omega);have hca:=aSn tys nk N qs n (vC (aZ tk)) (fun p=>sb p n (vC (aZ tk))) (by omega) (by omega) (by omega) fun p hp=>hok.subz p n _ (hP p hp) hz
    have hcv:=sV (aZ tk);have hqt:(tk.map bD).length=tk.length:=θ _;generalize aZ tk=z at *;refine sk 1 rfl (kc hcr ?_);refine kz 1 rfl (sg rfl (AWp.sub (Sub.freeze (id:=720) rfl) ?_));refine skh 5 [(3,.row i (bB (.mk n t p)))] rfl (kc hcv ?_);refine kv (caps:=[.vp 3 0]) (args:=[Go.AM.T n,.pa (aB (vC z))]) hca ?_ (hok:=aEa);refine az ?_;have hml:(qs.map fun p=>sb p n (vC z)).length=ps.length:=by rw[θ];exact hg2
    have hd2:((qs.map fun p=>sb p n (vC z)).drop nk)[i]?=some (sb p n (vC z)):=by rw[Ap,Az,Y];rfl
    have hrow2:(aS (mkB tys N ((qs.map fun p=>sb p n (vC z)).drop nk)))[i]?=some (bB (.mk n t (sb p n (vC z)))):=bT (sB ht hga hd2);have hs5:=hsz1 _ hml;have hs6:=hsz2 _ _ hgl hml;refine ag [(3,.row i (bB (.mk n t (sb p n (vC z)))))] rfl (ag [] rfl ⟨i+1,hlt,by dsimp only;omega,?_⟩);dsimp only;rw[O,hnin];dsimp only;refine slG tHW (fun i hi=>GW.kf i hi) (h1:=Kn.app Kn.nil (Kn.app (Kn.of rfl) (Kn.app (Kn.of rfl) (Kn.app Kn.nil (Kn.app (Kn.of rfl) (Kn.app (hkn _ _ _) Kn.nil)))))) (h2:=⟨Z _ _ _,Kn.of rfl,Kn.of rfl,trivial⟩) (he:=⟨rfl,rfl,Go.AM.hs_ren (by simp) (by simp),rfl,rfl,congrArg some (V.ren_id _).symm,rfl,rfl,trivial⟩) (hh:=⟨⟨_,rfl,.varS rfl⟩,⟨_,rfl,.varS rfl⟩,⟨_,rfl,.arrS (by simp[bD])⟩,⟨_,rfl,.arrS ?_⟩,⟨_,rfl,.arr⟩,trivial⟩);rw[←aE9 z ht hd2 (by omega),←jH];rfl
   ·have hmem:¬n∈pfR b:=δ hb;unfold dS at O;rw[φ hmem] at O;dsimp only at O;refine aD (ag [] rfl ⟨i+1,hlt,by dsimp only;omega,?_⟩);dsimp only;rw[O,hnout hmem];exact slG tHW (fun i hi=>GW.kf i hi) (h1:=Kn.app Kn.nil (Kn.app (Kn.of rfl) (Kn.app (Kn.of rfl) (Kn.app Kn.nil (Kn.app (Kn.of rfl) (Kn.app (hkn _ _ _) Kn.nil)))))) (h2:=⟨Z _ _ _,Kn.of rfl,Kn.of rfl,trivial⟩)
  have hge:i=ns.length:=by
   have:¬(i:Int)<((tN tys.length).length:Int):=δ hb;omega
  subst hge;have hP:=aLt hok (le_refl ns.length) (hall _ (le_refl _)) (fun j hj=>hall j hj);obtain⟨hg1,hg2,_⟩:=iA (sb:=sb) (b:=b) (ps:=ps) (le_refl ns.length);rw[hput];rw[aLw];generalize gSt sb b ns ps ns.length=G at *;obtain⟨N,qs,tk⟩:=G;dsimp only at *;have hca:=aSn tys nk N qs s b (fun p=>sb p s b) (by omega) (by omega) (by omega) fun p hp=>hok.subb p (hP p hp)
  refine aO (aE mixed (ak 3 [] rfl (kv (caps:=[.vp 3 0]) (args:=[Go.AM.T s,.pa (aB b)]) hca ?_ (hok:=aEa))));exact az ⟨.inl rfl,aCw hF (FarEq.outs hF) ⟨[],[],.nil,.nil,rfl⟩ (fun _ h=>by cases h) tHW.refs (fun i hi=>GW.kf i hi) (fun p hp=>by rcases χ.1 hp with hp | hp;exact(A7.1 (tHW (tys:=tys) (nk:=nk) (ns:=ns) (ps:=ps)).plain) p hp;cases hp)⟩
def aEm (af an:Int) (anm:Str) (nv:Nat) (p:Core):List R:=[.c (.int .i64 af),.c (.int .i64 an),.c (.str anm),.hs 704 0 nv nv]++(aB p).map R.c
def aH (rs:List (List R)) (k:Nat) (af an:Int) (anm:Str) (nv:Nat) (ns:List Str) (p:Core):List (Nat×AObj):=[(703,.rarr 88 14 (rs.set k (aEm af an anm nv p))),(704,.arr 9 1 (ns.map bD) 0)]
def aN (nv:Nat):List R:=(rgR (fun j=>[.ep 704 j 0 nv]) nv).flatten
def aP (k na:Nat):List R:=[.rp 703 k 4 na]
theorem aSx {nv:Nat}:(aN nv).length=nv:=by
 unfold aN;rw[mP (rM fun _=>rfl),fY,mul_one]
theorem aZg {nv j:Nat}(h:j<nv):((aN nv).drop (j*1)).take 1=[.ep 704 j 0 nv]:=eG (rM fun _=>rfl) j _ (aEn h)
theorem aNm {nv:Nat}:∀x∈R.refsL (aN nv),x=704:=fun x hx=>by
 unfold aN at hx;rw[dE] at hx;exact mG (L:=fun x=>x=704) (fun j x hx=>by simpa [R.refsL,R.refs] using hx) _ x hx
theorem aDa {k q nv:Nat}:∀x∈(grO (aN nv) (aP k q)).refs,x=703∨x=704:=fun x hx=>by
 have hx:x∈R.refsL (aN nv)++(R.refsL (aP k q)++[]):=hx;rw[A0] at hx;rcases χ.1 hx with hx | hx
 ·exact .inr (aNm x hx)
 ·exact .inl (by simpa [aP,R.refsL,R.refs] using hx)
theorem yY {x:Nat}:∀{rs:List (List R)}{k:Nat}{r:List R},x∈c8 (rs.set k r)→x∈c8 rs∨x∈R.refsL r
 | [],_,_,h=>.inl h
 | q::rs,0,r,h=>by
  rcases χ.1 (show x∈R.refsL r++c8 rs from h) with h | h
  ·exact .inr h
  ·exact .inl (χ.2 (.inr h))
 | q::rs,k+1,r,h=>by
  rcases χ.1 (show x∈R.refsL q++c8 (rs.set k r) from h) with h | h
  ·exact .inl (χ.2 (.inl h))
  ·exact(yY h).imp (fun h=>χ.2 (.inr h)) id
theorem aJi {af an:Int}{anm:Str}{nv:Nat}{p:Core}{x:Nat}(h:x∈R.refsL (aEm af an anm nv p)):x=704:=by
 unfold aEm aB at h;simpa [R.refsL,R.refs] using h
abbrev aG (rs:List (List R)) (k:Nat) (af an:Int) (anm:Str) (nv:Nat) (ns:List Str) (p:Core):List (Nat×AObj):=(3,grO (aN nv) (aP k rs.length))::aH rs k af an anm nv ns p
section
variable {rs:List (List R)}{k:Nat}{af an:Int}{anm:Str}{nv:Nat}{ns:List Str}{p:Core}{F:List (Nat×AObj)}
theorem aHW (q:TF F) (I:∀x∈c8 rs,x∈keys F):GW (aH rs k af an anm nv ns p) F:=⟨q,fun x hx=>by
 have hx:x∈c8 (rs.set k (aEm af an anm nv p))++[]:=hx;rw[A0] at hx;rcases yY hx with h | h
 ·exact .inr (I x h)
 ·rw[aJi h];exact .inl (by simp[aH,keys]),rfl,rfl⟩
theorem aGW (q:TF F) (I:∀x∈c8 rs,x∈keys F):GW (aG rs k af an anm nv ns p) F:=⟨q,fun x hx=>by
 rcases χ.1 (show x∈(grO (aN nv) (aP k rs.length)).refs++dN (aH rs k af an anm nv ns p) from hx) with hx | hx
 ·rcases aDa x hx with rfl | rfl
  ·exact .inl (by simp[aG,aH,keys])
  ·exact .inl (by simp[aG,aH,keys])
 ·exact((aHW q I).refs x hx).imp (fun h=>κ _ h) id,rfl,rfl⟩
end
theorem aWy {rs:List (List R)}{k:Nat}{r r':List R}:(rs.set k r).set k r'=rs.set k r':=List.set_set ..
theorem aSo (rs:List (List R)) (k:Nat) (af an:Int) (anm:Str) (nv:Nat) (ns:List Str) (p:Core) (F:List (Nat×AObj)) (nm:Str) (b:Core) (sb:Core→Core) (J:TF F) (Z:∀x∈c8 rs,x∈keys F) (hk:k<rs.length)
  (hc:aU Tryz.prog 106 [.pa (aB p),Go.AM.T nm,.pa (aB b)] [] (.pa (aB (sb p))) []):
  aU Tryz.prog 144 [Go.AM.T nm,.pa (aB b),.one (.vp 3 0)] (aG rs k af an anm nv ns p++F) (.tup []) (aG rs k af an anm nv ns (sb p)++F):=by
 have W:∀p,GW (aG rs k af an anm nv ns p) F:=fun p=>aGW J Z
 have ab:rs.length=(rs.set k (aEm af an anm nv p)).length:=(B3 ..).symm;have aa:(rs.set k (aEm af an anm nv p))[k]?=some (aEm af an anm nv p):=Cj hk;refine tM J (n:=23) tok Tryz.func144 rfl rfl rfl ?_;refine sg rfl (sg rfl (aC (aL (fun j:Nat=>mkt [(0,Go.AM.T nm),(2,.one (.vp 3 0)),(4,.one (.vp 4 0)),(8,.one (.ras 1 1 (aP k rs.length))),(9,I .i64 ((1:Nat):Int)),(10,I .i64 j)] ([(4,.var 37 (bA b))]++aG rs k af an anm nv ns (if j=0 then p else sb p)) F) (fun j=>j≤1) (fun j=>1-j) 0 (Aj _) ?_ ?_)))
 ·exact slG (W _)
 intro j hj;refine sg rfl (a8 (aA rfl (fun hb=>?_) (fun hb=>?_)))
 ·have O:j=0:=by
   have:(j:Int)<((1:Nat):Int):=ψ hb;omega
  subst O;rw[ξ rfl];refine aD (a8 (aC (sg rfl (aE mixed (ak 6 [(3,.rr (aEm af an anm nv p))] rfl (kc hc ?_))))));refine ak 2 [(8,.rr (aEm af an anm nv p))] rfl (az (ag [] rfl ⟨1,le_refl _,by dsimp only;omega,?_⟩));dsimp only;rw[φ (by decide)];exact slG (W _) (fun i hi=>GW.kf i hi) (hh:=⟨⟨_,rfl,.varS rfl⟩,⟨_,rfl,.varS rfl⟩,⟨_,rfl,.rarrS aWy⟩,⟨_,rfl,.arr⟩,trivial⟩)
 have Y:j=1:=by
  have:¬(j:Int)<((1:Nat):Int):=δ hb;omega
 subst Y;rw[φ (by decide)];refine aO ?_;exact⟨.inl rfl,aCw J (by repeat (first | exact FarEq.raw J | (refine FarEq.updL J ?_) | (refine FarEq.upd J ?_))) ⟨[],[],.nil,.nil,rfl⟩ (fun _ h=>by cases h) (W _).refs (fun i hi=>GW.kf i hi) (fun q N=>by rcases χ.1 N with N | N;exact(A7.1 (W p).plain) q N;exact(J.ok q N).2)⟩
theorem aGp {rs:List (List R)}{k:Nat}{af an:Int}{anm:Str}{nv:Nat}{ns:List Str}{p:Core}{F:List (Nat×AObj)}(q:TF F) (I:∀x∈c8 rs,x∈keys F) {n:Str}{l:List C}:kQ ([Go.AM.T n,.pa l]++List.map V.one [R.vp 3 0]) (aG rs k af an anm nv ns p++F)=true:=by
 refine nJ q (fun x hx=>.inl ?_) (aGW q I).refs;have:x=3:=by simpa [V.refsL,V.refs,R.refs] using hx
 subst this;simp[aG,keys]
theorem aZf {rs:List (List R)}{k:Nat}{af an:Int}{anm:Str}{nv:Nat}{ns ns':List Str}{p p':Core}{F:List (Nat×AObj)}{h:cR}:eW (fun q=>q.1∈keys (aG rs k af an anm nv ns p++F)∨h q.1=none) (aG rs k af an anm nv ns' p'++F):=eW.of fun q I=>.inl (by
 have h1:q.1∈keys (aG rs k af an anm nv ns' p'++F):=Ad.2 ⟨q,I,rfl⟩
 exact h1)
theorem aYy (rs:List (List R)) (k:Nat) (af an:Int) (anm:Str) (nv:Nat) (ns:List Str) (p:Core) (F:List (Nat×AObj)) (s:Str) (b:Core) (sb:Core→Str→Core→Core) (P:Core→Prop) (J:TF F) (hr:∀x∈c8 rs,x∈keys F) (hk:k<rs.length) (hn:ns.length=nv) (hok:PutOk sb P s b [p])
  (hM:(pfR p).length+2*ns.length+(pfR b).length+1≤540000000000):
  ∃q,(bX sb s b ns [p]).2=[q]∧aU Tryz.prog 126 [gpV (aN nv) (aP k rs.length),Go.AM.T s,.pa (aB b)] (aH rs k af an anm nv ns p++F) (.tup []) (aH rs k af an anm nv (bX sb s b ns [p]).1 q++F):=by
 have hln:=(mH (sb:=sb) (s:=s) (b:=b) (ns:=ns) (ps:=[p])).2
 obtain⟨q,O⟩:∃q,(bX sb s b ns [p]).2=[q]:=Bk.1 hln;refine⟨q,O,?_⟩;have hnl:=aSx (nv:=nv);have W:∀ns p,GW (aH rs k af an anm nv ns p) F:=fun _ _=>aHW J hr
 have ad:∀ex ns' p',∀x∈R.refsL (aN nv),Kn ex (aH rs k af an anm nv ns' p') F x:=fun ex ns' p' x hx=>by
  have:=aNm x hx;subst this;exact .inr (.inl (by simp[aH,keys]))
 have aa:∀ex ns' p',∀x∈(grO (aN nv) (aP k rs.length)).refs,Kn ex (aH rs k af an anm nv ns' p') F x:=fun ex ns' p' x hx=>by
  rcases aDa x hx with rfl | rfl
  ·exact .inr (.inl (by simp[aH,keys]))
  ·exact .inr (.inl (by simp[aH,keys]))
 have hsz:∀p,rs.length=(rs.set k (aEm af an anm nv p)).length:=fun p=>(B3 ..).symm
 have hrow:∀p,(rs.set k (aEm af an anm nv p))[k]?=some (aEm af an anm nv p):=fun p=>Cj hk
 have hszp:=hsz p;have hrowp:=hrow p;have am:([p]:List Core).flatMap pfR=pfR p:=by simp
 have hkl:nv=(ns.map bD).length:=by rw[θ];exact hn.symm
 have hf:=hok.free p (by simp);have hq0:((pfR p).map bD).length=(pfR p).length:=θ _;refine tM J (n:=92) tok Tryz.func126 rfl rfl rfl ?_;refine sg rfl (sg rfl (AWp.sub (Sub.own (t:=6) (id:=720) 9 1 rfl rfl) (AWp.sub (Sub.freeze (id:=720) rfl) ?_)));refine a8 (sg rfl (aC (aL (fun j:Nat=>mkt [(1,Go.AM.T s),(3,.one (.vp 3 0)),(5,.one (.vp 5 0)),(6,tkV (if j=0 then [] else pfR p)),(17,.one (.ras 1 1 (aP k rs.length))),(18,I .i64 ((1:Nat):Int)),(19,I .i64 j)] ([(3,grO (aN nv) (aP k rs.length)),(5,.var 37 (bA b)),(720,tkA (if j=0 then [] else pfR p))]++aH rs k af an anm nv ns p) F) (fun j=>j≤1) (fun j=>1-j) 0 (Aj _) ?_ ?_)))
 ·exact slG (W _ _) (h2:=⟨aa _ _ _,Kn.of rfl,Kn.of rfl,trivial⟩)
 ·intro j hj;refine sg rfl (a8 (aA rfl (fun hb=>?_) (fun hb=>?_)))
  ·have hj0:j=0:=by
    have:(j:Int)<((1:Nat):Int):=ψ hb;omega
   subst hj0;rw[ξ rfl];refine aD (a8 (aC (sg rfl (aE mixed (ak 4 [(3,.rr (aEm af an anm nv p))] rfl (kc hf ?_))))));refine kz 2 rfl (AWp.sub (Sub.freeze (id:=720) rfl) ?_);refine ag [] rfl ⟨1,le_refl _,by dsimp only;omega,?_⟩;dsimp only;rw[φ (by decide)];exact slG (W _ _) (h2:=⟨aa _ _ _,Kn.of rfl,Kn.of rfl,trivial⟩) (he:=⟨rfl,rfl,rfl,Go.AM.hs_ren (by simp) (by simp),rfl,rfl,rfl,trivial⟩) (hh:=⟨⟨_,rfl,.varS rfl⟩,⟨_,rfl,.varS rfl⟩,⟨_,rfl,.arrS (by simp)⟩,⟨_,rfl,.rarrS rfl⟩,⟨_,rfl,.arr⟩,trivial⟩)
  have ae:j=1:=by
   have:¬(j:Int)<((1:Nat):Int):=δ hb;omega
  subst ae;rw[φ (by decide)];refine aO ?_;have hct:=bW (pfR p) s (by omega);refine a8 (sk 2 rfl (kc hct ?_));refine kz 1 rfl (aA rfl (fun hb=>?_) (fun hb=>?_))
  ·have hno:¬s∈pfR p:=by
    intro h;have hb:(!decide (s∈pfR p))=true:=hb;rw[Ak h] at hb;cases hb
   have he:bX sb s b ns [p]=(ns,[p]):=by unfold bX;rw[φ fun h=>hno (by have:=h.1;rwa [am] at this)]
   have hqp:q=p:=by rw[he] at O;exact(List.singleton_inj.1 O).symm
   rw[he,hqp];exact aI ⟨.inr rfl,aCw J (by repeat (first | exact FarEq.raw J | (refine FarEq.updL J ?_) | (refine FarEq.upd J ?_))) ⟨[],[],.nil,.nil,rfl⟩ (fun _ h=>by cases h) (W _ _).refs (fun i hi=>GW.kf i hi) (fun q O=>by rcases χ.1 O with O | O;exact(A7.1 (W ns p).plain) q O;exact(J.ok q O).2)⟩
  have hin:s∈pfR p:=by
   have hb:(!decide (s∈pfR p))=false:=hb;by_cases h:s∈pfR p
   ·exact h
   ·rw[Al h] at hb;cases hb
  refine aD (a8 (sg rfl (aC (aL (fun j:Nat=>mkt [(1,Go.AM.T s),(3,.one (.vp 3 0)),(5,.one (.vp 5 0)),(6,tkV (pfR p++ns.take j)),(35,.one (.ras (aN nv).length 1 (aN nv))),(36,I .i64 (((aN nv).length:Nat):Int)),(37,I .i64 j)] ([(3,grO (aN nv) (aP k rs.length)),(5,.var 37 (bA b)),(720,tkA (pfR p++ns.take j))]++aH rs k af an anm nv ns p) F) (fun j=>j≤(aN nv).length∧¬s∈ns.take j) (fun j=>(aN nv).length-j) 0 ⟨Aj _,by simp⟩ ?_ ?_))))
  ·exact slG (W _ _) (h1:=Kn.app Kn.nil (Kn.app (Kn.of rfl) (Kn.app (Kn.of rfl) (Kn.app (Kn.of rfl) (Kn.app (ad _ _ _) Kn.nil))))) (h2:=⟨aa _ _ _,Kn.of rfl,Kn.of rfl,trivial⟩) (he:=⟨rfl,rfl,rfl,Go.AM.hs_ren (by simp) (by simp),congrArg some (V.ren_id _).symm,rfl,rfl,trivial⟩) (hh:=⟨⟨_,rfl,.varS rfl⟩,⟨_,rfl,.varS rfl⟩,⟨_,rfl,.arrS (by simp)⟩,⟨_,rfl,.rarrS rfl⟩,⟨_,rfl,.arr⟩,trivial⟩)
  rintro j ⟨hj,ai⟩;refine sg rfl (a8 (aA rfl (fun hb=>?_) (fun hb=>?_)))
  ·have ap:j<(aN nv).length:=by
    have:(j:Int)<((aN nv).length:Int):=ψ hb;omega
   have hjb:j<nv:=by omega
   obtain⟨n,Z⟩:=aJ (show j<ns.length by omega);have ht1:=aZg hjb;have hrown:(ns.map bD)[j]?=some (bD n):=bM bD Z;have hstp:ns.take (j+1)=ns.take j++[n]:=by rw[Bh,Z];rfl
   have hq1:((pfR p++ns.take j).map bD).length=(pfR p++ns.take j).length:=θ _;have hql:(pfR p++ns.take j).length≤540000000000:=by rw[ω,Au];omega
   refine aD (a8 (aC (sgh [(0,.rowR j [.ep 704 j 0 nv])] rfl (a8 (sgh [(2,.row j (bD n))] rfl (aA rfl (fun hb=>?_) (fun hb=>?_)))))))
   ·have hns:n=s:=ψ hb;have he:bX sb s b ns [p]=(ns,[p]):=by
     unfold bX;rw[φ fun h=>h.2 (hns▸η Z)]
    have hqp:q=p:=by rw[he] at O;exact(List.singleton_inj.1 O).symm
    rw[he,hqp];exact aI ⟨.inr rfl,aCw J (by repeat (first | exact FarEq.raw J | (refine FarEq.updL J ?_) | (refine FarEq.upd J ?_))) ⟨[],[],.nil,.nil,rfl⟩ (fun _ h=>by cases h) (W _ _).refs (fun i hi=>GW.kf i hi) (fun q O=>by rcases χ.1 O with O | O;exact(A7.1 (W ns p).plain) q O;exact(J.ok q O).2)⟩
   have hns:¬n=s:=δ hb;refine aD ?_;generalize pfR p=fm at *;generalize hq2:fm++ns.take j=qq at *;refine ag [(3,.row j (bD n))] rfl (AWp.sub (Sub.freeze (id:=720) rfl) ?_);refine ag [] rfl ⟨j+1,⟨ap,?_⟩,by dsimp only;omega,?_⟩
   ·rw[hstp];intro h;rcases χ.1 h with h | h
    ·exact ai h
    ·exact hns (Aa.1 h).symm
   dsimp only;rw[hstp,←At,hq2];exact slG (W _ _) (h1:=Kn.app Kn.nil (Kn.app (Kn.of rfl) (Kn.app (Kn.of rfl) (Kn.app (Kn.of rfl) (Kn.app (ad _ _ _) Kn.nil))))) (h2:=⟨aa _ _ _,Kn.of rfl,Kn.of rfl,trivial⟩) (he:=⟨rfl,rfl,rfl,Go.AM.hs_ren (by simp) (by simp),congrArg some (V.ren_id _).symm,rfl,rfl,trivial⟩) (hh:=⟨⟨_,rfl,.varS rfl⟩,⟨_,rfl,.varS rfl⟩,⟨_,rfl,.arrS (by simp[bD])⟩,⟨_,rfl,.rarrS rfl⟩,⟨_,rfl,.arr⟩,trivial⟩)
  have ae:j=ns.length:=by
   have:¬(j:Int)<((aN nv).length:Int):=δ hb;omega
  subst ae;rw[An] at ai ⊢;have hput:bX sb s b ns [p]=((gSt sb b ns [p] ns.length).1,(gSt sb b ns [p] ns.length).2.1.map fun p=>sb p s b):=by
   unfold bX;rw[ξ ⟨by rw[am];exact hin,ai⟩,aLs]
  have hql:(pfR p++ns).length≤540000000000:=by rw[ω];omega
  have hq1:((pfR p++ns).map bD).length=(pfR p++ns).length:=θ _;have hq2:((pfR b).map bD).length=(pfR b).length:=θ _;have hfar:=hok.far;refine aO (sk 1 rfl (kc hfar ?_));refine kz 1 rfl ?_;have hlq:(pfR p++ns).length+(pfR b).length≤540000000000:=by rw[ω];omega
  refine sg rfl (AWp.sub (Sub.freeze (id:=720) rfl) ?_);refine sg rfl (a8 (sg rfl (aC ?_)));have ab:∀i,i≤ns.length→(gSt sb b ns [p] i).2.2.length≤540000000000:=fun i hi=>by
   have h1:=(iA (sb:=sb) (b:=b) (ps:=[p]) hi).2.2
   rw[am] at h1;simp only[ω] at h1;omega
  have hone:∀i,i≤ns.length→∃x,(gSt sb b ns [p] i).2.1=[x]:=fun i hi=>Bk.1 (iA (sb:=sb) (b:=b) (ps:=[p]) hi).2.1
  have hhd:∀i,i≤ns.length→(gSt sb b ns [p] i).2.1=[(gSt sb b ns [p] i).2.1.headD p]:=fun i hi=>by
   obtain⟨x,hx⟩:=hone i hi;rw[hx];rfl
  refine aL (fun i:Nat=>mkt [(1,Go.AM.T s),(5,.one (.vp 5 0)),(6,tkV (gSt sb b ns [p] i).2.2),(11,aY (pfR b)),(12,.one (.clo 144 [.vp 3 0])),(60,.one (.ras (aN nv).length 1 (aN nv))),(61,I .i64 (((aN nv).length:Nat):Int)),(62,I .i64 i)] ([(3,grO (aN nv) (aP k rs.length)),(5,.var 37 (bA b)),(720,tkA (gSt sb b ns [p] i).2.2)]++aH rs k af an anm nv (gNs sb b ns [p] i) ((gSt sb b ns [p] i).2.1.headD p)) F) (fun i=>i≤(aN nv).length) (fun i=>(aN nv).length-i) 0 (Aj _) ?_ ?_
  ·rw[xH,aFr,am];exact slG (W _ _) (h1:=Kn.app Kn.nil (Kn.app (Kn.of rfl) (Kn.app (Kn.of rfl) (Kn.app Kn.nil (Kn.app (Kn.of rfl) (Kn.app (ad _ _ _) Kn.nil)))))) (h2:=⟨aa _ _ _,Kn.of rfl,Kn.of rfl,trivial⟩) (he:=⟨rfl,rfl,Go.AM.hs_ren (by simp only[ω,θ]) (by simp only[ω,θ]),rfl,rfl,congrArg some (V.ren_id _).symm,rfl,rfl,trivial⟩) (hh:=⟨⟨_,rfl,.varS rfl⟩,⟨_,rfl,.varS rfl⟩,⟨_,rfl,.arrS (by simp)⟩,⟨_,rfl,.rarrS rfl⟩,⟨_,rfl,.arr⟩,trivial⟩)
  intro i hi;have hle:i≤ns.length:=by omega
  refine sg rfl (a8 (aA rfl (fun hb=>?_) (fun hb=>?_)))
  ·have ap:i<(aN nv).length:=by
    have:(i:Int)<((aN nv).length:Int):=ψ hb;omega
   have hjb:i<nv:=by omega
   obtain⟨n,Z⟩:=aJ (show i<ns.length by omega);obtain⟨hg1,hg2,hg3⟩:=iA (sb:=sb) (b:=b) (ps:=[p]) hle;have hgl:=aLv (sb:=sb) (b:=b) (ps:=[p]) hle;have hga:=aR6 (sb:=sb) (b:=b) (ps:=[p]) Z;have hP:=aLt hok hle (ab i hle) (fun j hj=>ab j (by omega));have Y:=o5 (sb:=sb) (b:=b) (ps:=[p]) Z;have aj:=aR5 (sb:=sb) (b:=b) (ps:=[p]) Z;have hnout:=aLu (sb:=sb) (b:=b) (ps:=[p]) Z;have hall0:=ab i hle;have ah:=hhd i hle;have ht1:=aZg hjb;have hcf:=bW (pfR b) n (by omega);have hcr:=xY (gSt sb b ns [p] i).2.2 (by omega) fun k hk=>hok.itoa k (by omega)
   generalize gSt sb b ns [p] i=G at *;generalize gNs sb b ns [p] i=N at *;obtain⟨d0,qs,tk⟩:=G;dsimp only at *;generalize qs.headD p=x at ah ⊢;subst ah;have hrown:(N.map bD)[i]?=some (bD n):=bM bD hga;have hkN:nv=(N.map bD).length:=by rw[θ];omega
   have hszx:=hsz x;have hrowx:=hrow x;refine aD (a8 (aC (sgh [(0,.rowR i [.ep 704 i 0 nv])] rfl (skh 4 [(3,.row i (bD n))] rfl (kc hcf ?_)))));refine az (aA rfl (fun hb=>?_) (fun hb=>?_))
   ·have ac:n∈pfR b:=ψ hb;have aj:=aj ac;unfold dS at Y;rw[ξ ac] at Y;dsimp only at Y;have hz:(aZ tk).length≤30:=le_trans (jY _ hall0) (by omega);have hca:=aSo rs k af an anm nv N x F n (vC (aZ tk)) (fun p=>sb p n (vC (aZ tk))) J hr hk (hok.subz x n _ (hP x (by simp)) hz);have hcv:=sV (aZ tk);have hqt:(tk.map bD).length=tk.length:=θ _;generalize aZ tk=z at *;refine sk 1 rfl (kc hcr ?_);refine kz 1 rfl (sg rfl (AWp.sub (Sub.freeze (id:=720) rfl) ?_));refine skh 5 [(3,.row i (bD n))] rfl (kc hcv ?_);refine kv (caps:=[.vp 3 0]) (args:=[Go.AM.T n,.pa (aB (vC z))]) hca ?_ (hin':=eW.app ⟨rfl,rfl,rfl,trivial⟩ (FarEq.all (by repeat (first | exact FarEq.raw J | (refine FarEq.updL J ?_) | (refine FarEq.upd J ?_))))) (hout':=aZf) (hok:=aGp J hr);refine az (AWp.sub (Sub.outsT J) ?_);refine ag [(3,.row i (bD n))] rfl (ag [] rfl ⟨i+1,ap,by dsimp only;omega,?_⟩);dsimp only;rw[Y,aj];dsimp only;refine slG (W _ _) (fun i hi=>GW.kf i hi) (by repeat (first | exact FarEq.bif J (FarEq.outs J) | (refine FarEq.updL J ?_) | (refine FarEq.upd J ?_))) (h1:=Kn.app Kn.nil (Kn.app (Kn.of rfl) (Kn.app (Kn.of rfl) (Kn.app Kn.nil (Kn.app (Kn.of rfl) (Kn.app (ad _ _ _) Kn.nil)))))) (h2:=⟨aa _ _ _,Kn.of rfl,Kn.of rfl,trivial⟩) (he:=⟨rfl,rfl,Go.AM.hs_ren (by simp) (by simp),rfl,rfl,congrArg some (V.ren_id _).symm,rfl,rfl,trivial⟩) (hh:=⟨⟨_,rfl,.varS rfl⟩,⟨_,rfl,.varS rfl⟩,⟨_,rfl,.arrS (by simp[bD])⟩,⟨_,rfl,.rarrS rfl⟩,⟨_,rfl,.arrS ?_⟩,trivial⟩);rw[map_set];rfl
   ·have ac:¬n∈pfR b:=δ hb;unfold dS at Y;rw[φ ac] at Y;dsimp only at Y;refine aD (ag [] rfl ⟨i+1,ap,by dsimp only;omega,?_⟩);dsimp only;rw[Y,hnout ac];exact slG (W _ _) (fun i hi=>GW.kf i hi) (h1:=Kn.app Kn.nil (Kn.app (Kn.of rfl) (Kn.app (Kn.of rfl) (Kn.app Kn.nil (Kn.app (Kn.of rfl) (Kn.app (ad _ _ _) Kn.nil)))))) (h2:=⟨aa _ _ _,Kn.of rfl,Kn.of rfl,trivial⟩)
  have ae:i=ns.length:=by
   have:¬(i:Int)<((aN nv).length:Int):=δ hb;omega
  subst ae;have hP:=aLt hok (le_refl ns.length) (ab _ (le_refl _)) (fun j hj=>ab j hj);have ah:=hhd _ (le_refl ns.length);rw[hput] at O ⊢;rw[aLw];generalize gSt sb b ns [p] ns.length=G at *;obtain⟨N,qs,tk⟩:=G;dsimp only at *;generalize qs.headD p=x at ah ⊢;subst ah;have hqx:q=sb x s b:=(List.singleton_inj.1 O).symm;subst hqx;have hca:=aSo rs k af an anm nv N x F s b (fun p=>sb p s b) J hr hk (hok.subb x (hP x (by simp)));refine aO (aE mixed (ak 3 [] rfl (kv (caps:=[.vp 3 0]) (args:=[Go.AM.T s,.pa (aB b)]) hca ?_ (hin':=eW.app ⟨rfl,rfl,rfl,trivial⟩ (FarEq.all (by repeat (first | exact FarEq.raw J | (refine FarEq.updL J ?_) | (refine FarEq.upd J ?_))))) (hout':=aZf) (hok:=aGp J hr))));refine az ⟨.inl rfl,aCw J (FarEq.outs J) ⟨[],[],.nil,.nil,rfl⟩ (fun _ h=>by cases h) (W _ _).refs (fun i hi=>GW.kf i hi) (fun q O=>by rcases χ.1 O with O | O;exact(A7.1 (W ns p).plain) q O;exact(J.ok q O).2)⟩
end Go.Proofs.YtockgoadliilhaaGreatDoor
