/-
  Texts Ly2 to Lg10 in one.
-/
import Derived.Test.YtockgoadliilhaaGreatDoorM8
open List (all_eq_true append_assoc append_nil cons_append filter_cons flatMap_append flatten_cons foldl_append foldl_cons length_append length_cons length_drop length_eq_one_iff length_map length_nil length_set length_take map_append map_cons map_id map_map map_nil map_set mem_append mem_cons mem_cons_of_mem mem_cons_self mem_flatMap mem_map mem_of_mem_take mem_singleton nil_append nodup_append nodup_nil set_cons_succ take_add_one take_append_drop take_length)
open Nat (add_assoc add_mul add_zero le_max_left le_max_right le_of_lt le_refl le_trans min_eq_left mul_le_mul_right mul_one sub_self sub_zero zero_add zero_le)
namespace Go.Proofs.YtockgoadliilhaaGreatDoor
open Go Go.AM
set_option maxRecDepth 20000
theorem aL6 {f:Int}{s:Str}{o:List Str}{x y:Str}(h:y∈iG f s o x):y∈o∨(y=x∧(¬f=5∨¬x=s)):=by
 unfold iG at h;split at h
 ·rename_i hx;rcases τ.1 h with h | h
  ·exact .inl h
  ·exact .inr ⟨ε.1 h,hx.2⟩
 ·exact .inl h
theorem aGp {f:Int}{s:Str}:∀{l o:List Str}{y:Str},y∈tK f s o l→y∈o∨(y∈l∧(¬f=5∨¬y=s))
 | [],_,_,h=>.inl h
 | x::l,o,y,h=>by
  rcases aGp (l:=l) (o:=iG f s o x) h with h | ⟨h,hs⟩
  ·rcases aL6 h with h | ⟨rfl,hs⟩
   ·exact .inl h
   ·exact .inr ⟨ζ,hs⟩
  ·exact .inr ⟨ω _ h,hs⟩
theorem aGn {f:Int}{s:Str}:∀{l:List Ty}{o:List Str}{y:Str},y∈qR f s l o→y∈o∨∃u∈l,y∈tfR u∧(¬f=5∨¬y=s)
 | [],o,y,h=>by rw[qR] at h;exact .inl h
 | t::l,o,y,h=>by
  rw[qR] at h;rcases aGn h with h | ⟨u,hu,h⟩
  ·rcases aGp h with h | ⟨h,hs⟩
   ·exact .inl h
   ·exact .inr ⟨t,ζ,h,hs⟩
  ·exact .inr ⟨u,ω _ hu,h⟩
theorem aGl {f:Int}{s:Str}:∀{l:List Ty}{o:List Str}{y:Str},y∈o→y∈qR f s l o
 | [],o,y,h=>by rw[qR];exact h
 | t::l,o,y,h=>by rw[qR];exact aGl (sE h)
theorem aGm {f:Int}{s:Str}:∀{l:List Ty}{o:List Str}{u:Ty}{y:Str},u∈l→y∈tfR u→(¬f=5∨¬y=s)→y∈qR f s l o
 | t::l,o,u,y,h,I,hs=>by
  rw[qR];rcases Ap.1 h with rfl | h
  ·exact aGl (pD I hs)
  ·exact aGm h I hs
theorem wC {f n:Int}{s:Str}{a:List Ty}{y:Str}(h2:¬f=2) (h:y∈tfR (.mk f n s a)):∃u∈a,y∈tfR u∧(¬f=5∨¬y=s):=by
 rw[tfR,φ h2] at h;rcases aGn h with h | h
 ·cases h
 ·exact h
theorem oP {f n:Int}{s:Str}{a:List Ty}{u:Ty}{y:Str}(h2:¬f=2) (hu:u∈a) (I:y∈tfR u) (hs:¬f=5∨¬y=s):y∈tfR (.mk f n s a):=by
 rw[tfR,φ h2];exact aGm hu I hs
theorem aSa {f:Int}{s:Str}{o:List Str}{x:Str}(h:o.Nodup):(iG f s o x).Nodup:=by
 unfold iG;split
 ·rename_i hx;rw[Ct];exact⟨h,by simp,fun a ha b hb e=>by rw[ε.1 hb] at e;subst e;exact hx.1 ha⟩
 ·exact h
theorem aL9 {f:Int}{s:Str}:∀{l o:List Str},o.Nodup→(tK f s o l).Nodup
 | [],_,h=>h
 | x::l,o,h=>aL9 (l:=l) (o:=iG f s o x) (aSa h)
theorem aL3 {f:Int}{s:Str}:∀{l:List Ty}{o:List Str},o.Nodup→(qR f s l o).Nodup
 | [],o,h=>by rw[qR];exact h
 | t::l,o,h=>by rw[qR];exact aL3 (aL9 h)
theorem aEb (t:Ty):(tfR t).Nodup:=by
 obtain⟨f,n,s,a⟩:=t;rw[tfR];split
 ·simp
 ·exact aL3 nodup_nil
theorem nZ (l:List Str):¬bA l∈l:=fY l
theorem aXj {l:List (Str×Ty)}{x:Str}:x∈unC l↔∃p∈l,x∈tfR p.2:=by
 unfold unC;rw[C6]
theorem aLw:∀(k:Nat) (t:Ty),tn t≤k→wfS t=true→∀(ps:List (Str×Ty)) (x:Str),x∈tfR (iD t ps)→(x∈tfR t∧¬x∈ps.map (·.1))∨∃p∈ps,p.1∈tfR t∧x∈tfR p.2:=by
 intro k
 induction k with
 | zero=>intro t h;have:=kJ t;omega
 | succ k ih=>
 intro t h hw ps x hx;obtain⟨f,n,s,a⟩:=t;obtain⟨_,aa,w4,w5,w0⟩:=oE hw;rw[tn] at h;rw[iD] at hx;by_cases h2:f=2
 ·subst h2;rw[ξ rfl] at hx;have hs:s∈tfR (.mk 2 n s a):=by rw[tfR,ξ rfl];simp
  cases N:ps.find? (fun p=>decide (p.1=s)) with
  | some p=>
   rw[N] at hx;have h1:p.1=s:=by simpa using List.find?_some N
   exact .inr ⟨p,Bp N,by rw[h1];exact hs,hx⟩
  | none=>
   rw[N] at hx;refine .inl ⟨hx,fun hm=>?_⟩;have Y:x=s:=by
    have hx:x∈tfR (.mk 2 n s a):=hx;rw[tfR,ξ rfl] at hx;simpa using hx
   obtain⟨p,hp,e⟩:=Af.1 hm;have:=List.find?_eq_none.1 N p hp;rw[e,Y] at this;simp at this
 rw[φ h2] at hx;by_cases h4:f=4
 ·subst h4;obtain⟨rfl,rfl,u,v,rfl⟩:=w4 rfl;rw[tns,tns,tns] at h;rw[ξ rfl,fO,fO,fO] at hx;obtain⟨w,O,I,_⟩:=wC (by decide) hx;have key:∀Z,Z∈[u,v]→x∈tfR (iD Z ps)→tn Z≤k→(x∈tfR (.mk 4 0 [] [u,v])∧¬x∈ps.map (·.1))∨∃p∈ps,p.1∈tfR (.mk 4 0 [] [u,v])∧x∈tfR p.2:=fun Z ab hxu hk=>by
   rcases ih Z hk (aa Z ab) ps x hxu with⟨h1,h2⟩ | ⟨p,hp,h1,h2⟩
   ·exact .inl ⟨oP (by decide) ab h1 (.inl (by decide)),h2⟩
   ·exact .inr ⟨p,hp,oP (by decide) ab h1 (.inl (by decide)),h2⟩
  rcases Ap.1 O with rfl | O
  ·exact key u (by simp) I (by omega)
  ·rw[ε.1 O] at I;exact key v (by simp) I (by omega)
 rw[φ h4] at hx;by_cases h5:f=5
 ·subst h5;obtain⟨rfl,body,rfl⟩:=w5 rfl;rw[tns,tns] at h;rw[ξ rfl] at hx;have hx:x∈tfR (.mk 5 0 (unN s body ps) (fO [body] (unP s body ps))):=hx;rw[fO,fO] at hx;obtain⟨w,O,I,J⟩:=wC (by decide) hx;rw[ε.1 O] at I;have J:¬x=unN s body ps:=J.resolve_left (fun h=>h rfl);by_cases hc:s∈unC (unF s body ps)
  ·have eN:unN s body ps=bA (unC (unF s body ps)++tfR body):=by unfold unN;rw[ξ hc]
   have eP:unP s body ps=unF s body ps++[(s,.mk 2 0 (unN s body ps) [])]:=by unfold unP;rw[ξ hc]
   rcases ih body (by omega) (aa body (by simp)) (unP s body ps) x I with⟨h1,h2⟩ | ⟨p,hp,h1,h2⟩
   ·rw[eP] at h2;have Y:¬x=s:=fun e=>h2 (by rw[e];simp)
    refine .inl ⟨oP (by decide) ζ h1 (.inr Y),fun hm=>h2 ?_⟩;obtain⟨p,hp,e⟩:=Af.1 hm;rw[At];exact τ.2 (.inl (Af.2 ⟨p,iF.2 ⟨hp,by rw[e];exact Y,by rw[e];exact h1⟩,e⟩))
   ·rw[eP] at hp;rcases τ.1 hp with hp | hp
    ·obtain⟨g1,g2,g3⟩:=iF.1 hp;exact .inr ⟨p,g1,oP (by decide) ζ g3 (.inr g2),h2⟩
    ·rw[ε.1 hp] at h2;have h2:x∈tfR (.mk 2 0 (unN s body ps) []):=h2;rw[tfR,ξ rfl] at h2;exact absurd (ε.1 h2) J
  ·have eN:unN s body ps=s:=by unfold unN;rw[φ hc]
   have eP:unP s body ps=unF s body ps:=by unfold unP;rw[φ hc]
   rw[eN] at J;rcases ih body (by omega) (aa body (by simp)) (unP s body ps) x I with⟨h1,h2⟩ | ⟨p,hp,h1,h2⟩
   ·rw[eP] at h2;refine .inl ⟨oP (by decide) ζ h1 (.inr J),fun hm=>h2 ?_⟩;obtain⟨p,hp,e⟩:=Af.1 hm;exact Af.2 ⟨p,iF.2 ⟨hp,by rw[e];exact J,by rw[e];exact h1⟩,e⟩
   ·rw[eP] at hp;obtain⟨g1,g2,g3⟩:=iF.1 hp;exact .inr ⟨p,g1,oP (by decide) ζ g3 (.inr g2),h2⟩
 rw[φ h5] at hx;rw[w0 h4 h5] at hx;obtain⟨u,hu,_⟩:=wC h2 hx;cases hu
structure Alg where
 z:Nat
 j:Nat→Nat→Nat
 u:Str→Nat→Nat
 b:Str→Nat→Nat
 jm:∀{x x' y y':Nat},x≤x'→y≤y'→j x y≤j x' y'
 um:∀{s:Str} {x x':Nat},x≤x'→u s x≤u s x'
 bm:∀{s:Str} {x x':Nat},x≤x'→b s x≤b s x'
 ul:∀{s s':Str} {x:Nat},s.length≤30→u s x≤u s' x
def fP (ρ:Str→Nat) (s:Str) (v:Nat):Str→Nat:=fun x=>if x=s then v else ρ x
mutual
def tW (A:Alg):Ty→(Str→Nat)→Nat
 | .mk f _ s a,ρ=>if f=2 then ρ s else if f=5 then A.u s (tWs A a (fP ρ s A.z)) else A.b s (tWs A a ρ)
def tWs (A:Alg):List Ty→(Str→Nat)→Nat
 | [],_=>0
 | t::l,ρ=>A.j (tW A t ρ) (tWs A l ρ)
end
theorem tQ {A:Alg}:∀{l:List Ty}{ρ ρ':Str→Nat},(∀u∈l,tW A u ρ=tW A u ρ')→tWs A l ρ=tWs A l ρ'
 | [],_,_,_=>by rw[tWs,tWs]
 | t::l,ρ,ρ',h=>by rw[tWs,tWs,h t ζ,tQ fun u hu=>h u (ω _ hu)]
theorem j6 {A:Alg}:∀(k:Nat) (t:Ty),tn t≤k→∀{ρ ρ':Str→Nat},(∀x∈tfR t,ρ x=ρ' x)→tW A t ρ=tW A t ρ'
 | 0,t,h,_,_,_=>by have:=kJ t;omega
 | k+1,.mk f n s a,h,ρ,ρ',hx=>by
  rw[tn] at h;rw[tW,tW];by_cases h2:f=2
  ·rw[ξ h2,ξ h2];exact hx s (by rw[tfR,ξ h2];simp)
  rw[φ h2,φ h2];by_cases h5:f=5
  ·rw[ξ h5,ξ h5,tQ fun u hu=>j6 k u (by have:=lY hu;omega) fun x I=>?_];unfold fP;by_cases e:x=s
   ·rw[ξ e,ξ e]
   ·rw[φ e,φ e];exact hx x (oP h2 hu I (.inr e))
  ·rw[φ h5,φ h5,tQ fun u hu=>j6 k u (by have:=lY hu;omega) fun x I=>hx x (oP h2 hu I (.inl h5))]
mutual
theorem aEd {A:Alg}:∀(t:Ty) {ρ ρ':Str→Nat},(∀x,ρ x≤ρ' x)→tW A t ρ≤tW A t ρ'
 | .mk f n s a,ρ,ρ',h=>by
  rw[tW,tW];split
  ·exact h s
  ·split
   ·refine A.um (y9 a fun x=>?_);unfold fP;split
    ·exact le_refl _
    ·exact h x
   ·exact A.bm (y9 a h)
theorem y9 {A:Alg}:∀(l:List Ty) {ρ ρ':Str→Nat},(∀x,ρ x≤ρ' x)→tWs A l ρ≤tWs A l ρ'
 | [],_,_,_=>by rw[tWs];exact Ag _
 | t::l,ρ,ρ',h=>by rw[tWs,tWs];exact A.jm (aEd t h) (y9 l h)
end
def aMt (A:Alg) (ρ:Str→Nat) (ps:List (Str×Ty)):Str→Nat:=fun x=>match ps.find? (fun p=>decide (p.1=x)) with | some p=>tW A p.2 ρ | none=>ρ x
theorem uR {nm:Str}{body:Ty}{x:Str}(hx:¬x=nm) (hb:x∈tfR body):∀ps:List (Str×Ty),(unF nm body ps).find? (fun p=>decide (p.1=x))=ps.find? (fun p=>decide (p.1=x))
 | []=>rfl
 | p::ps=>by
  have u:=uR hx hb ps;by_cases e:p.1=x
  ·have hk:(!decide (p.1=nm)&&decide (p.1∈tfR body))=true:=by rw[e,Ae hx,Ad hb];rfl
   unfold unF;rw[List.filter_cons_of_pos (p:=fun p:Str×Ty=>!decide (p.1=nm)&&decide (p.1∈tfR body)) hk,Cn (by simpa using e),Cn (by simpa using e)]
  ·rw[Co (by simpa using e),←u];unfold unF;rw[Cz];split
   ·rw[Co (by simpa using e)]
   ·rfl
theorem kH (l:List Str) (h:l.length≤540000000000):(bA l).length≤30:=le_trans (kT l h) (by decide)
theorem PsOk.unl {ps:List (Str×Ty)}(h:PsOk ps) {nm:Str}{body:Ty}(hb:fvm body≤700000):(unC (unF nm body ps)++tfR body).length≤540000000000:=by
 have h3:=pB (l:=unF nm body ps) fun p hp=>(h.ok p (iF.1 hp).1).2
 have h4:=aD0 (nm:=nm) (body:=body) h.nd;have h5:=j1 body;have h6:(unF nm body ps).length*700000≤700000*700000:=Aw _ (by omega);rw[κ];omega
theorem a0w (A:Alg):∀(k:Nat) (t:Ty),tn t≤k→wfS t=true→fvm t≤700000→∀(ps:List (Str×Ty)),PsOk ps→∀ρ,tW A (iD t ps) ρ≤tW A t (aMt A ρ ps):=by
 intro k
 induction k with
 | zero=>intro t h;have:=kJ t;omega
 | succ k ih=>
 intro t h hw hf ps J ρ;obtain⟨f,n,s,a⟩:=t;obtain⟨_,N,w4,w5,w0⟩:=oE hw;have O:∀u∈a,fvm u≤700000:=fun u hu=>le_trans (uQ hu) hf
 rw[tn] at h;rw[iD];by_cases h2:f=2
 ·subst h2;rw[ξ rfl,tW,ξ rfl];unfold aMt;cases ps.find? (fun p=>decide (p.1=s)) with
  | some p=>exact le_refl _
  | none=>
   show tW A (.mk 2 n s a) ρ≤_;rw[tW,ξ rfl];exact le_refl _
 rw[φ h2];by_cases h4:f=4
 ·subst h4;obtain⟨rfl,rfl,u,v,rfl⟩:=w4 rfl;rw[tns,tns,tns] at h;rw[ξ rfl,fO,fO,fO,tW,φ (by decide),φ (by decide),tW,φ (by decide),φ (by decide),tWs,tWs,tWs,tWs,tWs,tWs];exact A.bm (A.jm (ih u (by omega) (N u (by simp)) (O u (by simp)) ps J ρ) (A.jm (ih v (by omega) (N v (by simp)) (O v (by simp)) ps J ρ) (le_refl _)))
 rw[φ h4];by_cases h5:f=5
 ·subst h5;obtain⟨rfl,body,rfl⟩:=w5 rfl;rw[tns,tns] at h;have Y:=O body (by simp);rw[ξ rfl];show tW A (.mk 5 0 (unN s body ps) (fO [body] (unP s body ps))) ρ≤_;rw[fO,fO,tW,φ (by decide),ξ rfl,tW,φ (by decide),ξ rfl,tWs,tWs,tWs,tWs];have hi:=ih body (by omega) (N body (by simp)) Y (unP s body ps) (J.un s body Y) (fP ρ (unN s body ps) A.z);have hcg:tW A body (aMt A (fP ρ (unN s body ps) A.z) (unP s body ps))=tW A body (fP (aMt A ρ ps) s A.z):=by
   refine j6 (tn body) body (le_refl _) fun x hx=>?_
   have hout:∀p∈unF s body ps,¬unN s body ps∈tfR p.2:=fun p hp hin=>by
    have hm:unN s body ps∈unC (unF s body ps):=aXj.2 ⟨p,hp,hin⟩;unfold unN at hm;split at hm
    ·exact nZ _ (τ.2 (.inl hm))
    ·rename_i hc;exact hc hm
   have Z:∀p∈unF s body ps,tW A p.2 (fP ρ (unN s body ps) A.z)=tW A p.2 ρ:=fun p hp=>j6 (tn p.2) p.2 (le_refl _) fun y hy=>by
    unfold fP;rw[φ fun e=>hout p hp (by rw[←e];exact hy)]
   by_cases I:x=s
   ·subst I;have e2:fP (aMt A ρ ps) x A.z x=A.z:=by unfold fP;rw[ξ rfl]
    rw[e2];have aa:¬x∈(unF x body ps).map (·.1):=fun hm=>by
     obtain⟨p,hp,e⟩:=Af.1 hm;exact(iF.1 hp).2.1 e
    unfold aMt;by_cases hc:x∈unC (unF x body ps)
    ·have eP:unP x body ps=unF x body ps++[(x,.mk 2 0 (unN x body ps) [])]:=by unfold unP;rw[ξ hc]
     rw[eP,List.find?_append,n5 aa];show(match (none:Option (Str×Ty)).or ([(x,Ty.mk 2 0 (unN x body ps) [])].find? fun p=>decide (p.1=x)) with | some p=>tW A p.2 (fP ρ (unN x body ps) A.z) | none=>fP ρ (unN x body ps) A.z x)=A.z;rw[Cn (by simp)];show tW A (.mk 2 0 (unN x body ps) []) (fP ρ (unN x body ps) A.z)=A.z;rw[tW,ξ rfl];unfold fP;rw[ξ rfl]
    ·have eP:unP x body ps=unF x body ps:=by unfold unP;rw[φ hc]
     have eN:unN x body ps=x:=by unfold unN;rw[φ hc]
     rw[eP,n5 aa,eN];unfold fP;rw[ξ rfl]
   ·have e2:fP (aMt A ρ ps) s A.z x=aMt A ρ ps x:=by unfold fP;rw[φ I]
    rw[e2];have ab:=uR (nm:=s) (body:=body) I hx ps;have hfP:(unP s body ps).find? (fun p=>decide (p.1=x))=ps.find? (fun p=>decide (p.1=x)):=by
     rw[←ab];unfold unP;split
     ·rw[List.find?_append,Co (by simpa using fun e=>I e.symm)];cases (unF s body ps).find? (fun p=>decide (p.1=x))<;>rfl
     ·rfl
    have hNx:¬x=unN s body ps:=fun e=>by
     unfold unN at e;split at e
     ·exact nZ _ (τ.2 (.inr (by rw[←e];exact hx)))
     ·exact I e
    unfold aMt;rw[hfP];cases hfd:ps.find? (fun p=>decide (p.1=x)) with
    | some p=>
     have hp:p∈unF s body ps:=Bp (ab.trans hfd);exact Z p hp
    | none=>
     show fP ρ (unN s body ps) A.z x=ρ x;unfold fP;rw[φ hNx]
  rw[hcg] at hi;have hN:A.u (unN s body ps) (A.j (tW A (iD body (unP s body ps)) (fP ρ (unN s body ps) A.z)) 0)≤A.u s (A.j (tW A (iD body (unP s body ps)) (fP ρ (unN s body ps) A.z)) 0):=by
   generalize A.j (tW A (iD body (unP s body ps)) (fP ρ (unN s body ps) A.z)) 0=y;unfold unN;split
   ·exact A.ul (kH _ (J.unl Y))
   ·exact le_refl _
  exact le_trans hN (A.um (A.jm hi (le_refl _)))
 rw[φ h5,tW,φ h2,φ h5,tW,φ h2,φ h5,w0 h4 h5,tWs,tWs];exact le_refl _
def fH:Alg:=⟨0,max,fun _ x=>1+x,fun _ x=>x,fun h1 h2=>by omega,fun h=>by omega,fun h=>h,fun _=>le_refl _⟩
def r0:Str→Nat:=fun _=>0
theorem yM (s:Str):fP r0 s 0=r0:=by
 funext x;unfold fP r0;split<;>rfl
theorem uP:∀(k:Nat) (t:Ty),tn t≤k→wfS t=true→fvm t≤(tfR t).length+tW fH t r0
 | 0,t,h,_=>by have:=kJ t;omega
 | k+1,.mk f n s a,h,hw=>by
  obtain⟨_,I,N,O,w0⟩:=oE hw;rw[tn] at h;by_cases h4:f=4
  ·subst h4;obtain⟨rfl,rfl,u,v,rfl⟩:=N rfl;rw[tns,tns,tns] at h;have h1:=uP k u (by omega) (I u (by simp));have h2:=uP k v (by omega) (I v (by simp));have e:tW fH (.mk 4 0 [] [u,v]) r0=max (tW fH u r0) (max (tW fH v r0) 0):=by rw[tW,φ (by decide),φ (by decide),tWs,tWs,tWs];rfl
   have g1:=iA _ _ (aEb u) fun x hx=>oP (f:=4) (n:=0) (s:=[]) (a:=[u,v]) (by decide) (by simp) hx (.inl (by decide))
   have g2:=iA _ _ (aEb v) fun x hx=>oP (f:=4) (n:=0) (s:=[]) (a:=[u,v]) (by decide) (by simp) hx (.inl (by decide))
   rw[fvm,e,aPg,aPg,aPg];omega
  ·by_cases h5:f=5
   ·subst h5;obtain⟨rfl,body,rfl⟩:=O rfl;rw[tns,tns] at h;have h1:=uP k body (by omega) (I body (by simp));have e:tW fH (.mk 5 0 s [body]) r0=1+max (tW fH body r0) 0:=by
     rw[tW,φ (by decide),ξ rfl,tWs,tWs];show 1+max (tW fH body (fP r0 s 0)) 0=_;rw[yM]
    have g1:=iA _ (s::tfR (.mk 5 0 s [body])) (aEb body) fun x hx=>by
     by_cases J:x=s
     ·rw[J];exact ζ
     ·exact ω _ (oP (by decide) (by simp) hx (.inr J))
    rw[Ac] at g1;rw[fvm,e,aPg,aPg];omega
   ·rw[fvm,w0 h4 h5,aPg];omega
def mg1 (G:Str→Bool) (o:List Str) (x:Str):List Str:=if(!G x&& !decide (x∈o))=true then o++[x] else o
def mg (G:Str→Bool) (o l:List Str):List Str:=l.foldl (mg1 G) o
def inG (g:List Str):Str→Bool:=fun x=>decide (x∈g)
theorem aYl {G:Str→Bool}{o:List Str}{x y:Str}:y∈mg1 G o x↔y∈o∨(y=x∧G x=false):=by
 unfold mg1;cases h:G x<;>by_cases hx:x∈o
 ·simp[hx];rintro rfl;exact hx
 ·simp[hx]
 ·simp
 ·simp
theorem jZ {G:Str→Bool}{y:Str}:∀{l o:List Str},y∈mg G o l↔y∈o∨(y∈l∧G y=false)
 | [],o=>by simp[mg]
 | x::l,o=>by
  show y∈mg G (mg1 G o x) l↔_;rw[jZ,aYl,Ap];constructor
  ·rintro((h | ⟨rfl,h⟩) | ⟨h,u⟩)
   ·exact .inl h
   ·exact .inr ⟨.inl rfl,h⟩
   ·exact .inr ⟨.inr h,u⟩
  ·rintro(h | ⟨rfl | h,u⟩)
   ·exact .inl (.inl h)
   ·exact .inl (.inr ⟨rfl,u⟩)
   ·exact .inr ⟨h,u⟩
theorem aKc {G:Str→Bool}:∀{l o:List Str},o.Nodup→(mg G o l).Nodup
 | [],_,h=>h
 | x::l,o,h=>by
  refine aKc (l:=l) (o:=mg1 G o x) ?_;unfold mg1;split
  ·rename_i h1;rw[Ct];refine⟨h,by simp,fun a ha b hb=>?_⟩;rw[ε.1 hb];rintro rfl;simp[ha] at h1
  ·exact h
theorem aV0 {G:Str→Bool}{o l m:List Str}:mg G o (l++m)=mg G (mg G o l) m:=B9
theorem aEz (G H:Str→Bool):∀(l acc o:List Str),mg G o (mg H acc l)=mg (fun x=>G x || H x) (mg G o acc) l
 | [],_,_=>rfl
 | x::l,acc,o=>by
  have e:mg G o (mg1 H acc x)=mg1 (fun x=>G x || H x) (mg G o acc) x:=by
   unfold mg1;cases u:H x
   ·by_cases hx:x∈acc
    ·cases I:G x
     ·have:x∈mg G o acc:=jZ.2 (.inr ⟨hx,I⟩);simp[u,hx,this]
     ·simp[u,hx,I]
    ·rw[ξ (by simp[hx]),aV0];show mg1 G (mg G o acc) x=_;unfold mg1;simp[u]
   ·simp[u]
  show mg G o (mg H (mg1 H acc x) l)=mg _ (mg1 _ (mg G o acc) x) l;rw[aEz G H l,e]
theorem uI {l:List Str}(h:l.Nodup):mg (fun _=>false) [] l=l:=by
 have key:∀(l o:List Str),(o++l).Nodup→mg (fun _=>false) o l=o++l:=by
  intro l
  induction l with
  | nil=>intro o _;simp[mg]
  | cons x l u=>
   intro o h;have hx:¬x∈o:=fun hx=>by
    rw[Ct] at h;exact h.2.2 x hx x ζ rfl
   show mg _ (mg1 _ o x) l=_;rw[show mg1 (fun _=>false) o x=o++[x] by unfold mg1;simp[hx]];rw[u _ (by rwa [Ay]),Ay];rfl
 simpa using key l [] (by simpa using h)
theorem aMa (f:Int) (s:Str) (o l:List Str):tK f s o l=mg (fun x=>decide (f=5)&&decide (x=s)) o l:=by
 unfold tK mg;congr 1;funext o x;unfold iG mg1;by_cases hx:x∈o<;>by_cases h5:f=5<;>by_cases hs:x=s<;>simp[hx,h5,hs]
def rO (l:List Str):AObj:=.arr 9 1 (l.map b6) 1
def rV (l:List Str):V:=.one (.hs 900 0 l.length l.length)
theorem aOy (g:List Str) (s:Str):inG (g++[s])=fun x=>inG g x || decide (x=s):=by
 funext x;unfold inG;simp
theorem aEc {f:Int}{s x:Str}:∀{l:List Ty}{o:List Str},x∈tfL f s l o↔x∈o∨∃u∈l,x∈tfR u∧¬(f=5∧x=s)
 | [],o=>by simp[tfL]
 | t::l,o=>by
  show x∈tfL f s l (tK f s o (tfR t))↔_;rw[aEc,aMa,jZ,or_assoc];refine or_congr Iff.rfl ?_;simp
theorem aMb {A:Alg}(hj:∀x y:Nat,x≤A.j x y∧y≤A.j x y) {ρ:Str→Nat}:∀{l:List Ty}{u:Ty},u∈l→tW A u ρ≤tWs A l ρ
 | t::l,u,h=>by
  rw[tWs];rcases Ap.1 h with rfl | h
  ·exact(hj _ _).1
  ·exact le_trans (aMb hj h) (hj _ _).2
theorem zZ {f n:Int}{s:Str}{a:List Ty}{u:Ty}(hf:¬f=2) (hu:u∈a):tW fH u r0+(if f=5 then 1 else 0)≤tW fH (.mk f n s a) r0:=by
 have h:=aMb (A:=fH) (fun x y=>⟨C8 ..,C2 ..⟩) (ρ:=r0) hu;rw[tW,φ hf];by_cases h5:f=5
 ·rw[ξ h5,ξ h5];show _≤1+tWs fH a (fP r0 s 0);rw[yM];omega
 ·rw[φ h5,φ h5];exact h
theorem a6x:∀(k:Nat) (t:Ty),tn t≤k→wfS t=true→∀(g o W:List Str),g.length+tW fH t r0≤1000000000000→W.length+tW fH t r0≤1000000000000→o.Nodup→(∀x∈o,x∈W)→(∀x∈tfR t,x∈W)→
  aU Tryz.prog 122 [tyV t,aV g,rV o] [(900,rO o)] (rV (mg (inG g) o (tfR t))) [(900,rO (mg (inG g) o (tfR t)))]:=by
 intro k
 induction k with
 | zero=>intro t h;have:=kJ t;omega
 | succ k ih=>
 intro t h hw g o W hg hW Y Z aa;obtain⟨f,n,s,a⟩:=t;obtain⟨ha2,ah,w4,w5,w0⟩:=oE hw;rw[tn] at h;have hol:o.length≤W.length:=iA _ _ Y Z;have hhg:=kX g s (by unfold Fits;omega);have hho:=kX o s (by unfold Fits;omega);refine bQ (n:=55) tok Tryz.func122 rfl rfl rfl ?_;refine sg rfl (a8 (sg rfl (aA rfl (fun hb=>?_) (fun hb=>?_))))
 ·have hf:f=2:=ψ hb;subst hf;rw[show mg (inG g) o (tfR (.mk 2 n s a))=mg1 (inG g) o s by rw[tfR,ξ rfl];rfl];refine AWp.sub (Sub.freeze (id:=900) rfl) ?_;refine a8 (a8 (agF 5 [(3,.pc (B (decide (s∈g)))),(8,.pc (B (decide (s∈o))))] rfl rfl rfl (aA rfl (fun hb=>?_) (fun hb=>?_))))
  ·have hm:mg1 (inG g) o s=o:=by
    unfold mg1 inG;cases h1:decide (s∈g)<;>cases h2:decide (s∈o)<;>simp[h1,h2] at hb ⊢
   rw[hm];exact sg rfl (aE rtT)
  ·have hm:mg1 (inG g) o s=o++[s]:=by
    unfold mg1 inG;cases h1:decide (s∈g)<;>cases h2:decide (s∈o)<;>simp[h1,h2] at hb ⊢
   rw[hm];refine aD (sg rfl (AWp.sub (st2:=mk [(6,rV (o++[s]))] [(900,rO (o++[s]))]) sl ?_));exact aE rtT
 ·have hf:¬f=2:=χ hb;refine aD ?_;have ab:tfR (.mk f n s a)=tfL f s a []:=by rw[tfR,φ hf,y8]
  rw[ab];have hnS:(if f=5 then [s] else []).length≤1:=by split<;>simp
  refine a8 (AWp.cut (mk [(1,aV (g++(if f=5 then [s] else []))),(2,rV o),(3,.one (.vp 3 0))] [(3,.var 33 ((bD (.mk f n s a)).map R.c)),(900,rO o)]) ?_ ?_)
  ·refine sg rfl (aA rfl (fun hb=>?_) (fun hb=>?_))
   ·have h5:f=5:=ψ hb;rw[ξ h5];refine sg rfl (sg rfl (ag [] rfl (Sub.trans ?_ (Sub.trans (cv 1 ((g++[s]).map b6) (h3:=by rw[At];rfl)) (Sub.freeze (id:=33) rfl)))));exact sl
   ·have h5:¬f=5:=χ hb;rw[φ h5,Ax];exact aD sl
  have N:inG (g++(if f=5 then [s] else []))=fun x=>inG g x || (decide (f=5)&&decide (x=s)):=by
   by_cases h5:f=5
   ·rw[ξ h5,aOy];funext x;simp[h5]
   ·rw[φ h5,Ax];funext x;simp[h5]
  have ai:(g++(if f=5 then [s] else [])).length≤g.length+(if f=5 then 1 else 0):=by
   rw[κ];split<;>simp
  generalize g++(if f=5 then [s] else [])=ins at N ai ⊢;have ac:(eV a).length=a.length:=by rw[iK,θ]
  refine a8 (sg rfl (aC (aK (fun i:Nat=>mk [(1,aV ins),(2,rV (mg (inG g) o (tfL f s (a.take i) []))),(3,.one (.vp 3 0)),(8,I .i64 i)] [(3,.var 33 ((bD (.mk f n s a)).map R.c)),(900,rO (mg (inG g) o (tfL f s (a.take i) [])))]) (fun i=>i≤a.length) (fun i=>a.length-i) 0 (Ag _) sl ?_)));intro i hi;refine a8 (sg rfl (aA rfl (fun hb=>?_) (fun hb=>?_)))
  ·have ad:=ltD hb ac;obtain⟨u,O⟩:=aJ ad;have J:=η O;have hui':(eV a)[i]?=some (bD u):=by rw[iK];exact bW bD O
   have aj:mg (inG g) o (tfL f s (a.take (i+1)) [])=mg (inG ins) (mg (inG g) o (tfL f s (a.take i) [])) (tfR u):=by
    rw[aGo O,aMa,aEz,N]
   have hdp:=zZ (n:=n) (s:=s) hf J;have hWl:(if f=5 then s::W else W).length=W.length+(if f=5 then 1 else 0):=by split<;>simp
   have ae:∀x∈W,x∈(if f=5 then s::W else W):=fun x hx=>by
    split
    ·exact ω _ hx
    ·exact hx
   have hc:=ih u (by have:=lY J;omega) (ah u J) ins (mg (inG g) o (tfL f s (a.take i) [])) (if f=5 then s::W else W) (by omega) (by omega) (aKc Y) (fun x hx=>ae x (by
    rcases jZ.1 hx with hx | ⟨hx,_⟩
    ·exact Z x hx
    ·refine aa x ?_;rw[ab,aEc];rw[aEc] at hx
     exact hx.imp id fun⟨u,h1,h2⟩=>⟨u,Bb h1,h2⟩)) (fun x hx=>by
    by_cases e:f=5∧x=s
    ·rw[ξ e.1,e.2];exact ζ
    ·refine ae x (aa x (oP hf J hx ?_));by_cases h5:f=5
     ·exact .inr fun h=>e ⟨h5,h⟩
     ·exact .inl h5)
   refine aD (a8 (aC (aI mixed (ak 7 [(3,.row i (bD u))] rfl (kc hc ?_)))));refine kz 1 rfl (ag [] rfl ⟨i+1,ad,by dsimp only;omega,?_⟩);dsimp only;rw[aj];exact sl
  have am:=geD hb ac hi;subst am;refine aL ?_;rw[Al];exact sg rfl (aE rtT)
def gm (c:Core):List (List (Str×List C)×List Core):=
 ((if c.form=5 then [(c.name,(aB c).drop 3)] else [])++c.binds.map (fun b=>(b.name,(b8 b).drop 1)),c.kids++c.binds.map Bind.body)::c.alts.map fun a=>(a.vars.map (fun v=>(v,[])),[a.body])
def gmG (g:List (Str×List C)×List Core):List (List C)×List Core:=(g.1.map aK8,g.2)
theorem aTt (c:Core):gl c=(gm c).map gmG:=by
 obtain⟨f,n,s,t,ks,bs,al⟩:=c;unfold gl gm;rw[Am,A8];congr 1
 ·unfold gmG;rw[At,A8];congr 2;unfold nm0;split<;>rfl
 ·congr 1;funext a;unfold gmG;simp only[Function.comp,A8];rfl
def pfG (G:List Str) (o:List Str) (s:Str):List Str:=if s∈G then o else r8 o s
def pfP (G:List Str) (o l:List Str):List Str:=l.foldl (pfG G) o
def gvN (f:Int) (s:Str) (bs:List Bind):List Str:=(if f=5 then [s] else [])++bs.map Bind.name
mutual
def pfR:Core→List Str
 | .mk f _ s _ ks bs al=>if f=1 then [s] else jQ al (kP (gvN f s bs) bs (jS (gvN f s bs) ks []))
def jS (G:List Str):List Core→List Str→List Str
 | [],o=>o
 | c::l,o=>jS G l (pfP G o (pfR c))
def kP (G:List Str):List Bind→List Str→List Str
 | [],o=>o
 | .mk _ _ c::l,o=>kP G l (pfP G o (pfR c))
def jQ:List Alt→List Str→List Str
 | [],o=>o
 | .mk _ _ _ v c::l,o=>jQ l (pfP v o (pfR c))
end
def pfL (G:List Str) (l:List Core) (o:List Str):List Str:=l.foldl (fun o c=>pfP G o (pfR c)) o
def pfM (L:List (List (Str×List C)×List Core)) (o:List Str):List Str:=L.foldl (fun o g=>pfL (g.1.map (·.1)) g.2 o) o
theorem uB (G:List Str):∀(l:List Core) (o:List Str),jS G l o=pfL G l o
 | [],o=>by rw[jS];rfl
 | c::l,o=>by rw[jS,uB G l];rfl
theorem yZ (G:List Str):∀(l:List Bind) (o:List Str),kP G l o=pfL G (l.map Bind.body) o
 | [],o=>by rw[kP];rfl
 | .mk s t c::l,o=>by rw[kP,yZ G l];rfl
theorem aN0:∀(l:List Alt) (o:List Str),jQ l o=pfM (l.map fun a=>(a.vars.map (fun v=>(v,[])),[a.body])) o
 | [],o=>by rw[jQ];rfl
 | .mk f n s v c::l,o=>by
  rw[jQ,aN0 l];have:(v.map (fun v=>((v,[]):Str×List C))).map (·.1)=v:=by rw[A8];exact map_id _
  show _=pfM _ (pfL ((v.map (fun v=>((v,[]):Str×List C))).map (·.1)) [c] o);rw[this];rfl
theorem a5m (c:Core) (h:¬c.form=1):pfR c=pfM (gm c) []:=by
 obtain⟨f,n,s,t,ks,bs,al⟩:=c;have h:¬f=1:=h;rw[pfR,φ h,aN0,yZ,uB];unfold gm;show _=pfM _ (pfL _ _ []);congr 1;unfold pfL;rw[B9];have:gvN f s bs=(((if f=5 then [((s,(aB (.mk f n s t ks bs al)).drop 3):Str×List C)] else [])++bs.map (fun b=>(b.name,(b8 b).drop 1))).map (·.1)):=by
  unfold gvN;rw[At,A8];congr 1;split<;>rfl
 rw[this];rfl
theorem aYa (G o:List Str) (s:Str):(pfG G o s).length≤o.length+1:=by
 unfold pfG;split
 ·omega
 ·exact aHs o s
theorem yT (G o:List Str):∀l:List Str,(pfP G o l).length≤o.length+l.length:=by
 intro l
 induction l generalizing o with
 | nil=>exact le_refl _
 | cons s l u=>
  have h1:=u (pfG G o s);have h2:=aYa G o s;show(pfP G (pfG G o s) l).length≤_;rw[Ac];omega
mutual
theorem aJ4:∀c:Core,(pfR c).length≤aY c
 | .mk f n s t ks bs al=>by
  rw[pfR,aY];split
  ·simp;omega
  ·have h1:=aBx (gvN f s bs) ks [];have h2:=aHf (gvN f s bs) bs (jS (gvN f s bs) ks []);have h3:=aNw al (kP (gvN f s bs) bs (jS (gvN f s bs) ks []));simp only[length_nil] at h1;omega
theorem aBx (G:List Str):∀(l:List Core) (o:List Str),(jS G l o).length≤o.length+bM l
 | [],o=>by rw[jS];omega
 | c::l,o=>by
  rw[jS,bM];have h1:=aBx G l (pfP G o (pfR c));have h2:=yT G o (pfR c);have h3:=aJ4 c;omega
theorem aHf (G:List Str):∀(l:List Bind) (o:List Str),(kP G l o).length≤o.length+cB l
 | [],o=>by rw[kP];omega
 | .mk s t c::l,o=>by
  rw[kP,cB,bsize];have h1:=aHf G l (pfP G o (pfR c));have h2:=yT G o (pfR c);have h3:=aJ4 c;omega
theorem aNw:∀(l:List Alt) (o:List Str),(jQ l o).length≤o.length+bZ l
 | [],o=>by rw[jQ];omega
 | .mk f n s v c::l,o=>by
  rw[jQ,bZ,lL];have h1:=aNw l (pfP v o (pfR c));have h2:=yT v o (pfR c);have h3:=aJ4 c;omega
end
theorem aS4 (G o:List Str) {l:List Str}{i:Nat}{s:Str}(h:l[i]?=some s):pfP G o (l.take (i+1))=pfG G (pfP G o (l.take i)) s:=by
 unfold pfP;rw[eO h,B9];rfl
theorem yV (G o:List Str) {l:List Core}{i:Nat}{c:Core}(h:l[i]?=some c):pfL G (l.take (i+1)) o=pfP G (pfL G (l.take i) o) (pfR c):=by
 unfold pfL;rw[eO h,B9];rfl
theorem aS5 (o:List Str) {l:List (List (Str×List C)×List Core)}{i:Nat}{g:List (Str×List C)×List Core}(h:l[i]?=some g):pfM (l.take (i+1)) o=pfL (g.1.map (·.1)) g.2 (pfM (l.take i) o):=by
 unfold pfM;rw[eO h,B9];rfl
theorem aNy (G:List Str):∀(l:List Core) (o:List Str),(pfL G l o).length≤o.length+bM l:=fun l o=>by rw[←uB];exact aBx G l o
def gcs:List (List (Str×List C)×List Core)→Nat
 | []=>0
 | g::l=>bM g.2+gcs l
theorem aNx:∀(L:List (List (Str×List C)×List Core)) (o:List Str),(pfM L o).length≤o.length+gcs L
 | [],o=>le_refl _
 | g::L,o=>by
  have h1:=aNx L (pfL (g.1.map (·.1)) g.2 o);have h2:=aNy (g.1.map (·.1)) g.2 o;show(pfM L (pfL (g.1.map (·.1)) g.2 o)).length≤_;rw[gcs];omega
theorem o6:∀a b:List Core,bM (a++b)=bM a+bM b
 | [],b=>by rw[A0,bM,Bc]
 | x::a,b=>by rw[A3,bM,bM,o6 a b,Br]
theorem aCm:∀l:List Bind,bM (l.map Bind.body)≤cB l
 | []=>by rw[Bo,bM];exact Ag _
 | .mk s t c::l=>by rw[Am,bM,cB,bsize];have:=aCm l;show aY c+_≤_;omega
theorem aWg:∀l:List Alt,gcs (l.map fun a=>(a.vars.map (fun v=>(v,[])),[a.body]))≤bZ l
 | []=>by rw[Bo,gcs];exact Ag _
 | .mk f n s v c::l=>by rw[Am,gcs,bZ,lL,bM,bM];have:=aWg l;show aY c+0+_≤_;omega
theorem a2y (c:Core):gcs (gm c)≤aY c:=by
 obtain⟨f,n,s,t,ks,bs,al⟩:=c;unfold gm;rw[gcs,aY];have h1:=o6 ks (bs.map Bind.body);have h2:=aCm bs;have h3:=aWg al;show bM (ks++bs.map Bind.body)+gcs (al.map fun a=>(a.vars.map (fun v=>(v,[])),[a.body]))≤_;omega
theorem aE5:∀a b,gcs (a++b)=gcs a+gcs b
 | [],b=>by rw[A0,gcs,Bc]
 | x::a,b=>by rw[A3,gcs,gcs,aE5 a b,Br]
theorem a2z {L:List (List (Str×List C)×List Core)}{i:Nat}{g:List (Str×List C)×List Core}(h:L[i]?=some g):gcs (L.take i)+bM g.2≤gcs L:=by
 have h1:=take_append_drop (i+1) L;have h2:=aE5 (L.take (i+1)) (L.drop (i+1));rw[h1,eO h,aE5] at h2;simp only[gcs] at h2;omega
theorem aP0 {l:List Core}{i:Nat}{c:Core}(h:l[i]?=some c):bM (l.take i)+aY c≤bM l:=by
 have h1:=take_append_drop (i+1) l;have h2:=o6 (l.take (i+1)) (l.drop (i+1));rw[h1,eO h,o6] at h2;simp only[bM] at h2;omega
def aJm (c:Core):Prop:=aY c≤570000000000→aU Tryz.prog 125 [.pa (aB c)] [] (aV (pfR c)) []
theorem qG (c:Core) (ih:∀x,aY x<aY c→aJm x) (hsz:aY c≤570000000000):aU Tryz.prog 125 [.pa (aB c)] [] (ouV (pfR c)) [(500,ouO (pfR c))]:=by
 by_cases h1:c.form=1
 ·obtain⟨f,n,s,t,ks,bs,al⟩:=c;have h1:f=1:=h1;subst h1;rw[pfR,ξ rfl];refine bQ (n:=51) tok Tryz.func125 rfl rfl rfl ?_;exact sg rfl (a8 (sg rfl (aA rfl (fun _=>sgh [(2,.id 500)] rfl (aE rtT)) nofun)))
 have Z:=aCx c hsz;have hpf:=a5m c h1;have hin:∀g∈gm c,∀x∈g.2,aY x<aY c:=fun g J x hx=>a2w (g:=gmG g) (by rw[aTt];exact Af.2 ⟨g,J,rfl⟩) hx
 obtain⟨hgl,hgm⟩:=aWe c;rw[aTt,θ] at hgl;have aa:∀g∈gm c,g.2.length≤aY c∧g.1.length≤aY c:=fun g J=>by
  have:=hgm (gmG g) (by rw[aTt];exact Af.2 ⟨g,J,rfl⟩);unfold gmG at this;rw[θ] at this;exact this
 have hgc:=a2y c;rw[rY,aTt,A8] at Z;rw[hpf];clear hpf hgm;generalize gm c=L at Z hin hgl aa hgc ⊢;have hkL:(L.map (lV∘gmG)).length=L.length:=θ _;refine bQ (n:=51) tok Tryz.func125 rfl rfl rfl ?_;refine sg rfl (a8 (sg rfl (aA rfl (fun hb=>absurd (ψ hb) h1) (fun _=>aD (sg rfl (AWp.sub (Sub.fvar (id:=1) (l:=aB c) rfl (by simp[keys])) ?_))))));refine AWp.sub (st2:=mk [(1,.one (.c (.pt (aB c)))),(3,.one (.c .nl))] []) sl ?_;refine AWp.sub (Sub.own (t:=3) (id:=500) 9 1 rfl rfl) ?_;refine a8 (a8 (aI mixed (kc Z ?_)));refine kz 2 rfl (aC (aK (fun i:Nat=>mk [(3,ouV (pfM (L.take i) [])),(16,.one (.c (.sl 2 (L.map (lV∘gmG))))),(17,I .i64 ((L.map (lV∘gmG)).length:Int)),(18,I .i64 i)] [(500,ouO (pfM (L.take i) []))]) (fun i=>i≤L.length) (fun i=>L.length-i) 0 (Ag _) sl ?_));intro i hi;refine sg rfl (a8 (aA rfl (fun hb=>?_) (fun hb=>?_)))
 ·have hlt:=ltD hb hkL;obtain⟨g,J⟩:=aJ hlt;have hg':=bW (lV∘gmG) J;have hgi:=η J;obtain⟨hl1,hl2⟩:=aa g hgi;have Y:=aS5 [] J;have hml:=aNx (L.take i) [];have hga:=a2z J;simp only[length_nil] at hml;have ab:=hin g hgi;have ac:(g.2.map iT).length=g.2.length:=θ _;obtain⟨G1,G⟩:=g;have hg':(L.map (lV∘gmG))[i]?=some [.sl 1 (G1.map aK8),.sl 1 (G.map iT)]:=hg';dsimp only at hl1 hl2 Y ac hga ab;generalize hG0:G1.map (·.1)=G0 at Y;generalize pfM (L.take i) []=x0 at Y hml ⊢;refine aD (a8 (aC (sgh [(0,.row i [.sl 1 (G1.map aK8),.sl 1 (G.map iT)])] rfl (sg rfl (aC (aK (fun j:Nat=>mk [(3,ouV (pfL G0 (G.take j) x0)),(5,.one (.vp 5 0)),(16,.one (.c (.sl 2 (L.map (lV∘gmG))))),(17,I .i64 ((L.map (lV∘gmG)).length:Int)),(18,I .i64 i),(23,.one (.c (.sl 1 (G.map iT)))),(24,I .i64 ((G.map iT).length:Int)),(25,I .i64 j)] [(5,.var 126 [.c (.sl 1 (G1.map aK8)),.c (.sl 1 (G.map iT))]),(500,ouO (pfL G0 (G.take j) x0))]) (fun j=>j≤G.length) (fun j=>G.length-j) 0 (Ag _) sl ?_))))));intro j hj;refine sg rfl (a8 (aA rfl (fun hb=>?_) (fun hb=>?_)))
  ·have hlt2:=ltD hb ac;obtain⟨p,hp⟩:=aJ hlt2;have hp':=bW iT hp;have hpi:=η hp;have hpc:=ab p hpi;have hc:=ih p hpc (by omega);have N:=yV G0 x0 hp;have hml2:=aNy G0 (G.take j) x0;have hca:=aP0 hp;have hple:=aJ4 p;generalize pfL G0 (G.take j) x0=x1 at N hml2 ⊢;generalize pfR p=F at hc N hple;have hkF:(F.map b6).length=F.length:=θ _;refine aD (a8 (aC (sgh [(0,.row j (iT p))] rfl (sgh [(3,.pc (aV F))] rfl (aC (aK (fun k:Nat=>mk [(3,ouV (pfP G0 x1 (F.take k))),(5,.one (.vp 5 0)),(16,.one (.c (.sl 2 (L.map (lV∘gmG))))),(17,I .i64 ((L.map (lV∘gmG)).length:Int)),(18,I .i64 i),(23,.one (.c (.sl 1 (G.map iT)))),(24,I .i64 ((G.map iT).length:Int)),(25,I .i64 j),(32,aV F),(33,I .i64 ((F.map b6).length:Int)),(34,I .i64 k)] [(5,.var 126 [.c (.sl 1 (G1.map aK8)),.c (.sl 1 (G.map iT))]),(500,ouO (pfP G0 x1 (F.take k)))]) (fun k=>k≤F.length) (fun k=>F.length-k) 0 (Ag _) sl ?_))))));intro k hk;refine sg rfl (a8 (aA rfl (fun hb=>?_) (fun hb=>?_)))
   ·have O:=ltD hb hkF;obtain⟨s,hs⟩:=aJ O;have hs':=bW b6 hs;have u:=aS4 G0 x1 hs;have hml3:=yT G0 x1 (F.take k);rw[Ar] at hml3;generalize pfP G0 x1 (F.take k)=x2 at u hml3 ⊢;have hcp:=a35 G1 s (by omega);rw[hG0] at hcp;have hmo:=xM x2 [s] (by simp;omega);rw[show lQ x2 [s]=r8 x2 s from rfl] at hmo;refine aD (a8 (aC (sgh [(0,.row k (b6 s))] rfl (sk 3 rfl (kc hcp ?_)))));refine kz 1 rfl (aA rfl (fun hb=>?_) (fun hb=>?_))
    ·have hni:¬s∈G0:=by simpa using hb
     rw[pfG,φ hni] at u;refine aI mixed (ak 3 [(2,.all)] rfl (kc hmo ?_));refine kz 1 rfl (ag [] rfl ⟨k+1,O,by dsimp only;omega,?_⟩);dsimp only;rw[u];exact sl
    ·have hni:s∈G0:=by simpa using hb
     rw[pfG,ξ hni] at u;refine aD (ag [] rfl ⟨k+1,O,by dsimp only;omega,?_⟩);dsimp only;rw[u];exact sl
   have hge3:=geD hb hkF hk;subst hge3;rw[Al,←N];exact aL (ag [] rfl ⟨j+1,hlt2,by dsimp only;omega,sl⟩)
  have hge2:=geD hb ac hj;subst hge2;rw[Al,←Y];exact aL (ag [] rfl ⟨i+1,hlt,by dsimp only;omega,sl⟩)
 have hge:=geD hb hkL hi;subst hge;rw[Al];exact aL (sg rfl (aE rtT))
theorem aCu (c:Core) (I:∀x,aY x<aY c→aJm x):aJm c:=fun u=>(qG c I u).plain (θ _).symm
theorem rJ:∀(n:Nat) (c:Core),aY c≤n→aJm c
 | 0,c,h=>by have:=dX c;omega
 | n+1,c,h=>aCu c fun x hx=>rJ n x (by omega)
def vC (z:Str):Core:=.mk 1 0 z zTy [] [] []
section
variable (sb:Core→Str→Core→Core)
noncomputable def dS (far:List Str) (st:List Str×List Core×List Str) (n:Str):List Str×List Core×List Str:=
 if n∈far then(st.1++[bA st.2.2],st.2.1.map (fun p=>sb p n (vC (bA st.2.2))),st.2.2++[bA st.2.2]) else(st.1++[n],st.2.1,st.2.2)
noncomputable def jB (far:List Str) (ns:List Str) (st:List Str×List Core×List Str):List Str×List Core×List Str:=ns.foldl (dS sb far) st
def sB (s:Str) (ns:List Str) (ps:List Core):Prop:=s∈ps.flatMap pfR∧¬s∈ns
open Classical in
noncomputable def cE (s:Str) (b:Core) (ns:List Str) (ps:List Core):List Str×List Core:=
 if sB s ns ps then
  ((jB sb (pfR b) ns ([],ps,ps.flatMap pfR++ns++pfR b)).1,(jB sb (pfR b) ns ([],ps,ps.flatMap pfR++ns++pfR b)).2.1.map (fun p=>sb p s b))
 else(ns,ps)
end
def mkB:List Ty→List Str→List Core→List Bind
 | t::ts,n::ns,p::ps=>.mk n t p::mkB ts ns ps
 | _,_,_=>[]
section
variable {sb:Core→Str→Core→Core}
theorem uM {far:List Str}{st:List Str×List Core×List Str}{n:Str}:(dS sb far st n).1.length=st.1.length+1∧(dS sb far st n).2.1.length=st.2.1.length∧(dS sb far st n).2.2.length≤st.2.2.length+1:=by
 unfold dS;split<;>simp
theorem sV {far:List Str}:∀{ns:List Str}{st:List Str×List Core×List Str},(jB sb far ns st).1.length=st.1.length+ns.length∧(jB sb far ns st).2.1.length=st.2.1.length∧(jB sb far ns st).2.2.length≤st.2.2.length+ns.length
 | [],st=>by simp[jB]
 | n::ns,st=>by
  have h:=sV (far:=far) (ns:=ns) (st:=dS sb far st n);obtain⟨g1,g2,g3⟩:=uM (sb:=sb) (far:=far) (st:=st) (n:=n);unfold jB at h ⊢;rw[foldl_cons,Ac];omega
theorem aCf {far ns:List Str}{st:List Str×List Core×List Str}{i:Nat}{n:Str}(h:ns[i]?=some n):jB sb far (ns.take (i+1)) st=dS sb far (jB sb far (ns.take i) st) n:=by
 unfold jB;rw[Bh,h,B9];rfl
theorem nQ {s:Str}{b:Core}{ns:List Str}{ps:List Core}:(cE sb s b ns ps).1.length=ns.length∧(cE sb s b ns ps).2.length=ps.length:=by
 unfold cE;split
 ·obtain⟨h1,h2,_⟩:=sV (sb:=sb) (far:=pfR b) (ns:=ns) (st:=([],ps,ps.flatMap pfR++ns++pfR b));exact⟨by simpa using h1,by simpa using h2⟩
 ·exact⟨rfl,rfl⟩
end
def aKb (sb:Core→Core) (ps:List Core) (j:Nat):List Core:=(ps.take j).map sb++ps.drop j
theorem aTd {sb:Core→Core}{ps:List Core}{j:Nat}:(aKb sb ps j).length=ps.length:=by unfold aKb;simp;omega
theorem aYj {sb:Core→Core}{ps:List Core}{j:Nat}{p:Core}(h:ps[j]?=some p):(aKb sb ps j)[j]?=some p:=by
 have u:j<ps.length:=(Aa.1 h).1
 unfold aKb;rw[A6 (by simp;omega),θ,Ar,Cd (by omega),sub_self,Ao,By,h]
theorem aOg {sb:Core→Core}{ps:List Core}{j:Nat}{p:Core}(h:ps[j]?=some p):aKb sb ps (j+1)=(aKb sb ps j).set j (sb p):=by
 have u:j<ps.length:=(Aa.1 h).1
 unfold aKb;rw[rF h,tT (by simp;omega),Bh,h];simp
theorem aOf {sb:Core→Core}{ps:List Core}:aKb sb ps 0=ps:=by simp[aKb]
theorem aTe {sb:Core→Core}{ps:List Core}:aKb sb ps ps.length=ps.map sb:=by simp[aKb]
theorem rZ (l:List Core) (j:Nat) (x:Core):(aO l).set j (aB x)=aO (l.set j x):=by
 rw[aR,aR,map_set]
theorem uH:∀{ts:List Ty}{ns:List Str}{ps:List Core}{j:Nat}{t:Ty}{n:Str}{p:Core},ts[j]?=some t→ns[j]?=some n→ps[j]?=some p→(mkB ts ns ps)[j]?=some (.mk n t p)
 | t'::ts,u::ns,I::ps,0,t,n,p,h1,h2,h3=>by
  simp at h1 h2 h3;subst h1 h2 h3;rfl
 | t'::ts,u::ns,I::ps,j+1,t,n,p,h1,h2,h3=>by
  simp only[Bk] at h1 h2 h3;simp only[mkB,Bk];exact uH h1 h2 h3
theorem r9:∀{ts:List Ty}{ns:List Str}{ps:List Core},ns.length=ts.length→ps.length=ts.length→(mkB ts ns ps).length=ts.length
 | [],_,_,_,_=>by unfold mkB;rfl
 | t::ts,n::ns,p::ps,h1,h2=>by
  simp only[Ac] at h1 h2;simp only[mkB,Ac,r9 (ts:=ts) (ns:=ns) (ps:=ps) (by omega) (by omega)]
theorem aHu:∀{ts:List Ty}{ns:List Str}{ps:List Core}{j:Nat}{t:Ty}{n:Str}(x:Core),ts[j]?=some t→ns[j]?=some n→j<ps.length→(mkB ts ns ps).set j (.mk n t x)=mkB ts ns (ps.set j x)
 | t'::ts,u::ns,I::ps,0,t,n,x,h1,h2,_=>by
  simp at h1 h2;subst h1 h2;rfl
 | t'::ts,u::ns,I::ps,j+1,t,n,x,h1,h2,h3=>by
  simp only[Bk] at h1 h2;simp only[mkB,C5];rw[aHu x h1 h2 (by simpa using h3)]
theorem aHv:∀{ts:List Ty}{ns:List Str}{ps:List Core}{j:Nat}{t:Ty}{p:Core}(z:Str),ts[j]?=some t→ps[j]?=some p→j<ns.length→(mkB ts ns ps).set j (.mk z t p)=mkB ts (ns.set j z) ps
 | t'::ts,u::ns,I::ps,0,t,p,z,h1,h2,_=>by
  simp at h1 h2;subst h1 h2;rfl
 | t'::ts,u::ns,I::ps,j+1,t,p,z,h1,h2,h3=>by
  simp only[Bk] at h1 h2;simp only[mkB,C5];rw[aHv z h1 h2 (by simpa using h3)]
theorem k9 (l:List Bind) (j:Nat) (x:Bind):(aQ l).set j (b8 x)=aQ (l.set j x):=by
 rw[bH,bH,map_set]
theorem a3a {l:List Core}{j:Nat}{x:Core}(h:l[j]?=some x):(aO l)[j]?=some (aB x):=dB h
def grO (nG:List R) (pG:List R):AObj:=.var 126 [.ras nG.length 1 nG,.ras pG.length 1 pG]
def tH (tys:List Ty) (nk:Nat) (ns:List Str) (ps:List Core):List (Nat×AObj):=[(701,.arr 58 15 (aQ (mkB tys ns (ps.drop nk))) 0),(702,.arr 37 10 (aO (ps.take nk)) 0)]
def tN (nb:Nat):List R:=(nR false nb nb).flatten
def tP (nk nb:Nat):List R:=(pR nk nb nb).flatten
theorem o4 {es:Nat}:∀{l:List (List R)},(∀r∈l,r.length=es)→l.flatten.length=l.length*es
 | [],_=>by simp
 | r::l,h=>by
  rw[Bi,κ,o4 fun q u=>h q (ω _ u),h r ζ,Ac,A1];omega
theorem aVa {nk nb:Nat}:(tP nk nb).length=nk+nb:=by unfold tP;rw[o4 wV,aN1];omega
theorem aVc {nk nb j:Nat}(h:j<nk):((tP nk nb).drop (j*1)).take 1=[.ep 702 j 0 nk]:=fF wV j _ (aN3 h)
theorem aVb {nk nb j:Nat}(h:j<nb):((tP nk nb).drop ((nk+j)*1)).take 1=[.ep 701 j 5 nb]:=fF wV _ _ (aN2 h)
theorem aMd {nb:Nat}:∀r∈nR false nb nb,r.length=1:=fun r u=>by
 unfold nR at u;exact tV (fun _=>rfl) r (by simpa [gNm] using u)
theorem a06 {nb:Nat}:(tN nb).length=nb:=by
 unfold tN;rw[o4 aMd];unfold nR;rw[κ,i6];simp[gNm]
theorem a07 {nb j:Nat}(h:j<nb):((tN nb).drop (j*1)).take 1=[.ep 701 j 0 nb]:=fF aMd j _ (by
 unfold nR;rw[A6 (by simp[gNm])];simp only[gNm,length_nil,sub_zero]
 exact aG3 h)
theorem yA {nk nb:Nat}:∀x∈R.refsL (tP nk nb),x=701∨x=702:=fun x hx=>by
 unfold tP at hx;rw[dN] at hx;unfold pR at hx;rw[kL] at hx;rcases τ.1 hx with hx | hx
 ·exact .inr (nP (L:=fun x=>x=702) (fun j x hx=>by simpa [R.refsL,R.refs] using hx) _ x hx)
 ·exact .inl (nP (L:=fun x=>x=701) (fun j x hx=>by simpa [R.refsL,R.refs] using hx) _ x hx)
theorem aMc {nb:Nat}:∀x∈R.refsL (tN nb),x=701:=fun x hx=>by
 unfold tN at hx;rw[dN] at hx;unfold nR at hx;rw[kL] at hx;rcases τ.1 hx with hx | hx
 ·simp[gNm,cV] at hx
 ·exact nP (L:=fun x=>x=701) (fun j x hx=>by simpa [R.refsL,R.refs] using hx) _ x hx
theorem aEe {nk nb:Nat}:∀x∈(grO (tN nb) (tP nk nb)).refs,x=701∨x=702:=fun x hx=>by
 have hx:x∈R.refsL (tN nb)++(R.refsL (tP nk nb)++[]):=hx;rw[Ax] at hx;rcases τ.1 hx with hx | hx
 ·exact .inl (aMc x hx)
 ·exact yA x hx
abbrev tG (tys:List Ty) (nk:Nat) (ns:List Str) (ps:List Core):List (Nat×AObj):=(3,grO (tN tys.length) (tP nk tys.length))::tH tys nk ns ps
theorem tGW {tys:List Ty}{nk:Nat}{ns:List Str}{ps:List Core}:GW (tG tys nk ns ps) []:=⟨⟨fun _ h=>(by cases h),nodup_nil,fun _ h=>(by cases h)⟩,fun x hx=>by
 have hx:x∈(grO (tN tys.length) (tP nk tys.length)).refs++[]:=hx;rw[Ax] at hx;rcases aEe x hx with rfl | rfl
 ·exact .inl (by simp[tG,tH,keys])
 ·exact .inl (by simp[tG,tH,keys]),rfl,rfl⟩
theorem aW5 (tys:List Ty) (nk:Nat) (ns:List Str) (ps:List Core) (nm:Str) (b:Core) (sb:Core→Core) (hn:ns.length=tys.length) (hp:ps.length=nk+tys.length) (hb:ps.length≤570000000000)
  (hs:∀p∈ps,aU Tryz.prog 106 [.pa (aB p),Go.AM.T nm,.pa (aB b)] [] (.pa (aB (sb p))) []):
  aU Tryz.prog 144 [Go.AM.T nm,.pa (aB b),.one (.vp 3 0)] (tG tys nk ns ps++[]) (.tup []) (tG tys nk ns (ps.map sb)++[]):=by
 have N:TF []:=tGW (tys:=tys) (nk:=nk) (ns:=ns) (ps:=ps).tf;have hpl:=aVa (nk:=nk) (nb:=tys.length);have J:∀x∈R.refsL (tP nk tys.length),Kn [(4,.var 37 (aW b))] (tG tys nk ns ps) [] x:=fun x hx=>by
  rcases yA x hx with rfl | rfl
  ·exact .inr (.inl (by simp[tG,tH,keys]))
  ·exact .inr (.inl (by simp[tG,tH,keys]))
 refine vV N (n:=23) tok Tryz.func144 rfl rfl rfl ?_;refine sg rfl (sg rfl (aC (aK (fun j:Nat=>mkt [(0,Go.AM.T nm),(2,.one (.vp 3 0)),(4,.one (.vp 4 0)),(8,.one (.ras (tP nk tys.length).length 1 (tP nk tys.length))),(9,I .i64 (((tP nk tys.length).length:Nat):Int)),(10,I .i64 j)] ([(4,.var 37 (aW b))]++tG tys nk ns (aKb sb ps j)) []) (fun j=>j≤(tP nk tys.length).length) (fun j=>(tP nk tys.length).length-j) 0 (Ag _) ?_ ?_)))
 ·rw[aOf];exact slG tGW (h1:=Kn.app Kn.nil (Kn.app (Kn.of rfl) (Kn.app (Kn.of rfl) (Kn.app J Kn.nil))))
 intro j hj;have J:∀ps',∀x∈R.refsL (tP nk tys.length),Kn [(4,.var 37 (aW b))] (tG tys nk ns ps') [] x:=fun ps' x hx=>by
  rcases yA x hx with rfl | rfl
  ·exact .inr (.inl (by simp[tG,tH,keys]))
  ·exact .inr (.inl (by simp[tG,tH,keys]))
 refine sg rfl (a8 (aA rfl (fun hb=>?_) (fun hb=>?_)))
 ·have hlt:j<(tP nk tys.length).length:=by
   have:(j:Int)<((tP nk tys.length).length:Int):=ψ hb;omega
  obtain⟨p,O⟩:=aJ (show j<ps.length by omega);have hc:=hs p (η O);have Y:=aYj (sb:=sb) O;have Z:=aOg (sb:=sb) O;have hml:=aTd (sb:=sb) (ps:=ps) (j:=j);generalize aKb sb ps j=qs at Y Z hml ⊢;have hsz1:nk=(aO (qs.take nk)).length:=by rw[aR,θ,Ar];omega
  have hsz2:tys.length=(aQ (mkB tys ns (qs.drop nk))).length:=by rw[bH,θ,r9 hn (by rw[B6];omega)]
  refine aD ?_;by_cases hjk:j<nk
  ·have ht1:=aVc (nb:=tys.length) hjk;have hrow:(aO (qs.take nk))[j]?=some (aB p):=a3a (by rw[Au,ξ hjk,Y]);refine a8 (aC (sgh [(0,.rowR j [.ep 702 j 0 nk])] rfl (aI mixed (ak 6 [(3,.row j (aB p))] rfl (kc hc ?_)))));refine ak 2 [(8,.row j (aB p))] rfl (az (ag [] rfl ⟨j+1,hlt,by dsimp only;omega,?_⟩));dsimp only;rw[Z];refine slG tGW (fun i hi=>GW.kf i hi) (h1:=Kn.app Kn.nil (Kn.app (Kn.of rfl) (Kn.app (Kn.of rfl) (Kn.app (J _) Kn.nil)))) (hh:=⟨⟨_,rfl,.varS rfl⟩,⟨_,rfl,.varS rfl⟩,⟨_,rfl,.arrS ?_⟩,⟨_,rfl,.arrS ?_⟩,trivial⟩)
   ·rw[List.drop_set_of_lt hjk]
   ·rw[List.take_set];exact rZ _ _ _
  ·obtain⟨u,rfl⟩:∃u,j=nk+u:=⟨j-nk,by omega⟩
   have hjb:u<tys.length:=by omega
   obtain⟨t,ht⟩:=aJ hjb;obtain⟨n,hnn⟩:=aJ (show u<ns.length by omega);have hd:(qs.drop nk)[u]?=some p:=by rw[Ao];exact Y
   have ht1:=aVb (nk:=nk) hjb;have hrow:(aQ (mkB tys ns (qs.drop nk)))[u]?=some (b8 (.mk n t p)):=bX (uH ht hnn hd);refine a8 (aC (sgh [(0,.rowR (nk+u) [.ep 701 u 5 tys.length])] rfl (aI mixed (ak 6 [(3,.row u (b8 (.mk n t p)))] rfl (kc hc ?_)))));refine ak 2 [(8,.row u (b8 (.mk n t p)))] rfl (az (ag [] rfl ⟨nk+u+1,hlt,by dsimp only;omega,?_⟩));dsimp only;rw[Z];refine slG tGW (fun i hi=>GW.kf i hi) (h1:=Kn.app Kn.nil (Kn.app (Kn.of rfl) (Kn.app (Kn.of rfl) (Kn.app (J _) Kn.nil)))) (hh:=⟨⟨_,rfl,.varS rfl⟩,⟨_,rfl,.varS rfl⟩,⟨_,rfl,.arrS ?_⟩,⟨_,rfl,.arrS ?_⟩,trivial⟩)
   ·rw[List.drop_set,φ (by omega),Nat.add_sub_cancel_left,←aHu _ ht hnn (by rw[B6];omega),←k9];rfl
   ·rw[List.take_set_of_le (by omega)]
 have hge:j=ps.length:=by
  have:¬(j:Int)<((tP nk tys.length).length:Int):=χ hb;omega
 subst hge;rw[aTe];refine aL ?_;exact⟨.inl rfl,aFb (hl:=tG tys nk ns (ps.map sb)) N (by repeat (first | exact FarEq.raw N | (refine FarEq.updL N ?_) | (refine FarEq.upd N ?_))) ⟨[],[],.nil,.nil,rfl⟩ (fun _ h=>by cases h) tGW.refs (fun i hi=>GW.kf i hi) (fun p hp=>by rcases τ.1 hp with hp | hp;exact(A4.1 (tGW (tys:=tys) (nk:=nk) (ns:=ns) (ps:=ps)).plain) p hp;cases hp)⟩
theorem uY (s:Str):aU Tryz.prog 41 [Go.AM.T s] [] (.pa (aB (vC s))) []:=by
 refine bQ (n:=5) tok Tryz.func41 rfl rfl rfl ?_;exact sg rfl (sg rfl (aE (rtC trw)))
theorem aYx {l:List Core}{j:Nat}{p:Core}(h:l[j]?=some p):(l.take (j+1)).flatMap pfR=(l.take j).flatMap pfR++pfR p:=by
 rw[Bh,h,Cj];simp
theorem a27 (l:List Core) (j:Nat):((l.take j).flatMap pfR).length≤(l.flatMap pfR).length:=by
 have:l.flatMap pfR=(l.take j).flatMap pfR++(l.drop j).flatMap pfR:=by rw[←Cj,take_append_drop]
 rw[this,κ];omega
structure PutOk (sb:Core→Str→Core→Core) (P:Core→Prop) (s:Str) (b:Core) (ps:List Core):Prop where
 in_:∀p∈ps,P p
 free:∀p∈ps,aU Tryz.prog 125 [.pa (aB p)] [] (aV (pfR p)) []
 far:aU Tryz.prog 125 [.pa (aB b)] [] (aV (pfR b)) []
 ren:∀p n z,P p→z.length≤30→P (sb p n (vC z))
 subz:∀p n z,P p→z.length≤30→aU Tryz.prog 106 [.pa (aB p),Go.AM.T n,.pa (aB (vC z))] [] (.pa (aB (sb p n (vC z)))) []
 subb:∀p,P p→aU Tryz.prog 106 [.pa (aB p),Go.AM.T s,.pa (aB b)] [] (.pa (aB (sb p s b))) []
 itoa:dJ 540000000000
noncomputable def gSt (sb:Core→Str→Core→Core) (b:Core) (ns:List Str) (ps:List Core) (i:Nat):List Str×List Core×List Str:=jB sb (pfR b) (ns.take i) ([],ps,ps.flatMap pfR++ns++pfR b)
noncomputable def gNs (sb:Core→Str→Core→Core) (b:Core) (ns:List Str) (ps:List Core) (i:Nat):List Str:=(gSt sb b ns ps i).1++ns.drop i
section
variable {sb:Core→Str→Core→Core}{b:Core}{ns:List Str}{ps:List Core}{i:Nat}{n:Str}
theorem iR (hi:i≤ns.length):(gSt sb b ns ps i).1.length=i∧(gSt sb b ns ps i).2.1.length=ps.length∧(gSt sb b ns ps i).2.2.length≤(ps.flatMap pfR++ns++pfR b).length+i:=by
 obtain⟨h1,h2,h3⟩:=sV (sb:=sb) (far:=pfR b) (ns:=ns.take i) (st:=([],ps,ps.flatMap pfR++ns++pfR b));rw[Ar,Cd hi] at h1 h3;exact⟨by unfold gSt;simpa using h1,h2,h3⟩
theorem aPc (hi:i≤ns.length):(gNs sb b ns ps i).length=ns.length:=by
 unfold gNs;rw[κ,(iR hi).1,B6];omega
theorem aWi (h:ns[i]?=some n):(gNs sb b ns ps i)[i]?=some n:=by
 have u:i<ns.length:=(Aa.1 h).1
 unfold gNs;rw[A6 (by rw[(iR (le_of_lt u)).1];exact le_refl _),(iR (le_of_lt u)).1,sub_self,Ao,By,h]
theorem pV (h:ns[i]?=some n):gSt sb b ns ps (i+1)=dS sb (pfR b) (gSt sb b ns ps i) n:=aCf h
theorem aWh (h:ns[i]?=some n) (hf:n∈pfR b):gNs sb b ns ps (i+1)=(gNs sb b ns ps i).set i (bA (gSt sb b ns ps i).2.2):=by
 have u:i<ns.length:=(Aa.1 h).1
 have hl:=(iR (sb:=sb) (b:=b) (ps:=ps) (le_of_lt u)).1
 unfold gNs;rw[pV h,rF h,tT hl];unfold dS;rw[ξ hf];simp
theorem aPb (h:ns[i]?=some n) (hf:¬n∈pfR b):gNs sb b ns ps (i+1)=gNs sb b ns ps i:=by
 unfold gNs;rw[pV h,rF h];unfold dS;rw[φ hf];simp
theorem aId:gNs sb b ns ps 0=ns:=by unfold gNs gSt jB;simp
theorem zN:gSt sb b ns ps 0=([],ps,ps.flatMap pfR++ns++pfR b):=by unfold gSt jB;simp
theorem aPd:gNs sb b ns ps ns.length=(gSt sb b ns ps ns.length).1:=by unfold gNs;simp
theorem aO9:gSt sb b ns ps ns.length=jB sb (pfR b) ns ([],ps,ps.flatMap pfR++ns++pfR b):=by unfold gSt;rw[Al]
theorem aPa {P:Core→Prop}{s:Str}(h:PutOk sb P s b ps):∀{i:Nat},i≤ns.length→(gSt sb b ns ps i).2.2.length≤540000000000→(∀j,j≤i→(gSt sb b ns ps j).2.2.length≤540000000000)→∀p∈(gSt sb b ns ps i).2.1,P p
 | 0,_,_,_=>by rw[zN];exact h.in_
 | i+1,hi,_,hb=>by
  obtain⟨n,hn⟩:=aJ (show i<ns.length by omega);have u:=aPa h (i:=i) (by omega) (hb i (by omega)) fun j hj=>hb j (by omega)
  rw[pV hn];unfold dS;split
  ·intro p hp;obtain⟨q,I,rfl⟩:=Af.1 hp;exact h.ren q n _ (u q I) (le_trans (kT _ (hb i (by omega))) (by omega))
  ·exact u
end
def tkA (l:List Str):AObj:=.arr 9 1 (l.map b6) 2
def tkV (l:List Str):V:=.one (.hs 720 0 l.length l.length)
def gpV (nG pG:List R):V:=.ma [.ras nG.length 1 nG,.ras pG.length 1 pG]
theorem tHW {tys:List Ty}{nk:Nat}{ns:List Str}{ps:List Core}:GW (tH tys nk ns ps) []:=⟨tGW (tys:=tys) (nk:=nk) (ns:=ns) (ps:=ps).tf,fun x hx=>(by cases hx),rfl,rfl⟩
theorem aGr {tys:List Ty}{nk:Nat}{ns:List Str}{ps:List Core}{n:Str}{l:List C}:lS ([Go.AM.T n,.pa l]++List.map V.one [R.vp 3 0]) (tG tys nk ns ps++[])=true:=by
 refine p9 (tHW (tys:=tys) (nk:=nk) (ns:=ns) (ps:=ps)).tf (fun x hx=>.inl ?_) tGW.refs;have:x=3:=by simpa [V.refsL,V.refs,R.refs] using hx
 subst this;simp[tG,keys]
theorem a3t (tys:List Ty) (nk:Nat) (ns:List Str) (ps:List Core) (s:Str) (b:Core) (sb:Core→Str→Core→Core) (P:Core→Prop) (hn:ns.length=tys.length) (hp:ps.length=nk+tys.length) (hok:PutOk sb P s b ps)
  (hM:(ps.flatMap pfR).length+2*ns.length+(pfR b).length+ps.length≤540000000000):
  aU Tryz.prog 126 [gpV (tN tys.length) (tP nk tys.length),Go.AM.T s,.pa (aB b)] (tH tys nk ns ps++[]) (.tup []) (tH tys nk (cE sb s b ns ps).1 (cE sb s b ns ps).2++[]):=by
 have hF:TF []:=tHW (tys:=tys) (nk:=nk) (ns:=ns) (ps:=ps).tf;have hpl:=aVa (nk:=nk) (nb:=tys.length);have hnl:=a06 (nb:=tys.length);have hkp:∀ex O u,∀x∈R.refsL (tP nk tys.length),Kn ex (tH tys nk O u) [] x:=fun ex O u x hx=>by
  rcases yA x hx with rfl | rfl
  ·exact .inr (.inl (by simp[tH,keys]))
  ·exact .inr (.inl (by simp[tH,keys]))
 have hkn:∀ex O u,∀x∈R.refsL (tN tys.length),Kn ex (tH tys nk O u) [] x:=fun ex O u x hx=>by
  have:=aMc x hx;subst this;exact .inr (.inl (by simp[tH,keys]))
 have aa:∀ex O u,∀x∈(grO (tN tys.length) (tP nk tys.length)).refs,Kn ex (tH tys nk O u) [] x:=fun ex O u x hx=>by
  rcases aEe x hx with rfl | rfl
  ·exact .inr (.inl (by simp[tH,keys]))
  ·exact .inr (.inl (by simp[tH,keys]))
 have hsz1:∀u:List Core,u.length=ps.length→nk=(aO (u.take nk)).length:=fun u h=>by rw[aR,θ,Ar];omega
 have hsz2:∀(O:List Str) (u:List Core),O.length=ns.length→u.length=ps.length→tys.length=(aQ (mkB tys O (u.drop nk))).length:=fun O u h h'=>by rw[bH,θ,r9 (by omega) (by rw[B6];omega)]
 have hs1:=hsz1 ps rfl;have hs2:=hsz2 ns ps rfl rfl;refine vV hF (n:=92) tok Tryz.func126 rfl rfl rfl ?_;refine sg rfl (sg rfl (AWp.sub (Sub.own (t:=6) (id:=720) 9 1 rfl rfl) (AWp.sub (Sub.freeze (id:=720) rfl) ?_)));refine a8 (sg rfl (aC (aK (fun j:Nat=>mkt [(1,Go.AM.T s),(3,.one (.vp 3 0)),(5,.one (.vp 5 0)),(6,tkV ((ps.take j).flatMap pfR)),(17,.one (.ras (tP nk tys.length).length 1 (tP nk tys.length))),(18,I .i64 (((tP nk tys.length).length:Nat):Int)),(19,I .i64 j)] ([(3,grO (tN tys.length) (tP nk tys.length)),(5,.var 37 (aW b)),(720,tkA ((ps.take j).flatMap pfR))]++tH tys nk ns ps) []) (fun j=>j≤(tP nk tys.length).length) (fun j=>(tP nk tys.length).length-j) 0 (Ag _) ?_ ?_)))
 ·exact slG tHW (h1:=Kn.app Kn.nil (Kn.app (Kn.of rfl) (Kn.app (Kn.of rfl) (Kn.app (Kn.of rfl) (Kn.app (hkp _ _ _) Kn.nil))))) (h2:=⟨aa _ _ _,Kn.of rfl,Kn.of rfl,trivial⟩)
 ·intro j hj;refine sg rfl (a8 (aA rfl (fun hb=>?_) (fun hb=>?_)))
  ·have hlt:j<(tP nk tys.length).length:=by
    have:(j:Int)<((tP nk tys.length).length:Int):=ψ hb;omega
   obtain⟨p,Z⟩:=aJ (show j<ps.length by omega);have hf:=hok.free p (η Z);have hst:=aYx Z;have hl1:=a27 ps (j+1);rw[hst,κ] at hl1;have hq1:(((ps.take j).flatMap pfR).map b6).length=((ps.take j).flatMap pfR).length:=θ _;have hq2:((pfR p).map b6).length=(pfR p).length:=θ _;generalize (ps.take j).flatMap pfR=q at hst hl1 hq1 ⊢;refine aD ?_;by_cases hjk:j<nk
   ·have ht1:=aVc (nb:=tys.length) hjk;have hrow:(aO (ps.take nk))[j]?=some (aB p):=a3a (by rw[Au,ξ hjk,Z]);refine a8 (aC (sgh [(0,.rowR j [.ep 702 j 0 nk])] rfl (aI mixed (ak 4 [(3,.row j (aB p))] rfl (kc hf ?_)))));refine kz 2 rfl (AWp.sub (Sub.freeze (id:=720) rfl) ?_);refine ag [] rfl ⟨j+1,hlt,by dsimp only;omega,?_⟩;dsimp only;rw[hst];exact slG tHW (h1:=Kn.app Kn.nil (Kn.app (Kn.of rfl) (Kn.app (Kn.of rfl) (Kn.app (Kn.of rfl) (Kn.app (hkp _ _ _) Kn.nil))))) (h2:=⟨aa _ _ _,Kn.of rfl,Kn.of rfl,trivial⟩) (he:=⟨rfl,rfl,rfl,Go.AM.hs_ren (by simp) (by simp),congrArg some (V.ren_id _).symm,rfl,rfl,trivial⟩) (hh:=⟨⟨_,rfl,.varS rfl⟩,⟨_,rfl,.varS rfl⟩,⟨_,rfl,.arrS (by simp)⟩,⟨_,rfl,.arr⟩,⟨_,rfl,.arr⟩,trivial⟩)
   ·obtain⟨j',rfl⟩:∃j',j=nk+j':=⟨j-nk,by omega⟩
    have ab:j'<tys.length:=by omega
    obtain⟨t,ht⟩:=aJ ab;obtain⟨n,Y⟩:=aJ (show j'<ns.length by omega);have hd:(ps.drop nk)[j']?=some p:=by rw[Ao];exact Z
    have ht1:=aVb (nk:=nk) ab;have hrow:(aQ (mkB tys ns (ps.drop nk)))[j']?=some (b8 (.mk n t p)):=bX (uH ht Y hd);refine a8 (aC (sgh [(0,.rowR (nk+j') [.ep 701 j' 5 tys.length])] rfl (aI mixed (ak 4 [(3,.row j' (b8 (.mk n t p)))] rfl (kc hf ?_)))));refine kz 2 rfl (AWp.sub (Sub.freeze (id:=720) rfl) ?_);refine ag [] rfl ⟨nk+j'+1,hlt,by dsimp only;omega,?_⟩;dsimp only;rw[hst];exact slG tHW (h1:=Kn.app Kn.nil (Kn.app (Kn.of rfl) (Kn.app (Kn.of rfl) (Kn.app (Kn.of rfl) (Kn.app (hkp _ _ _) Kn.nil))))) (h2:=⟨aa _ _ _,Kn.of rfl,Kn.of rfl,trivial⟩) (he:=⟨rfl,rfl,rfl,Go.AM.hs_ren (by simp) (by simp),congrArg some (V.ren_id _).symm,rfl,rfl,trivial⟩) (hh:=⟨⟨_,rfl,.varS rfl⟩,⟨_,rfl,.varS rfl⟩,⟨_,rfl,.arrS (by simp)⟩,⟨_,rfl,.arr⟩,⟨_,rfl,.arr⟩,trivial⟩)
  have hge:j=ps.length:=by
   have:¬(j:Int)<((tP nk tys.length).length:Int):=χ hb;omega
  subst hge;rw[Al];refine aL ?_;have hct:=c9 (ps.flatMap pfR) s (by omega);refine a8 (sk 2 rfl (kc hct ?_));refine kz 1 rfl (aA rfl (fun hb=>?_) (fun hb=>?_))
  ·have hno:¬s∈ps.flatMap pfR:=by
    intro h;have hb:(!decide (s∈ps.flatMap pfR))=true:=hb;rw[Ad h] at hb;cases hb
   have he:cE sb s b ns ps=(ns,ps):=by unfold cE;rw[φ fun h=>hno h.1]
   rw[he];exact aE ⟨.inr rfl,aFb hF (by repeat (first | exact FarEq.raw hF | (refine FarEq.updL hF ?_) | (refine FarEq.upd hF ?_))) ⟨[],[],.nil,.nil,rfl⟩ (fun _ h=>by cases h) tHW.refs (fun i hi=>GW.kf i hi) (fun p hp=>by rcases τ.1 hp with hp | hp;exact(A4.1 (tHW (tys:=tys) (nk:=nk) (ns:=ns) (ps:=ps)).plain) p hp;cases hp)⟩
  have hin:s∈ps.flatMap pfR:=by
   have hb:(!decide (s∈ps.flatMap pfR))=false:=hb;by_cases h:s∈ps.flatMap pfR
   ·exact h
   ·rw[Ae h] at hb;cases hb
  refine aD (a8 (sg rfl (aC (aK (fun j:Nat=>mkt [(1,Go.AM.T s),(3,.one (.vp 3 0)),(5,.one (.vp 5 0)),(6,tkV (ps.flatMap pfR++ns.take j)),(35,.one (.ras (tN tys.length).length 1 (tN tys.length))),(36,I .i64 (((tN tys.length).length:Nat):Int)),(37,I .i64 j)] ([(3,grO (tN tys.length) (tP nk tys.length)),(5,.var 37 (aW b)),(720,tkA (ps.flatMap pfR++ns.take j))]++tH tys nk ns ps) []) (fun j=>j≤(tN tys.length).length∧¬s∈ns.take j) (fun j=>(tN tys.length).length-j) 0 ⟨Ag _,by simp⟩ ?_ ?_))))
  ·exact slG tHW (h1:=Kn.app Kn.nil (Kn.app (Kn.of rfl) (Kn.app (Kn.of rfl) (Kn.app (Kn.of rfl) (Kn.app (hkn _ _ _) Kn.nil))))) (h2:=⟨aa _ _ _,Kn.of rfl,Kn.of rfl,trivial⟩) (he:=⟨rfl,rfl,rfl,Go.AM.hs_ren (by simp) (by simp),congrArg some (V.ren_id _).symm,rfl,rfl,trivial⟩) (hh:=⟨⟨_,rfl,.varS rfl⟩,⟨_,rfl,.varS rfl⟩,⟨_,rfl,.arrS (by simp)⟩,⟨_,rfl,.arr⟩,⟨_,rfl,.arr⟩,trivial⟩)
  rintro j ⟨hj,hnos⟩;refine sg rfl (a8 (aA rfl (fun hb=>?_) (fun hb=>?_)))
  ·have hlt:j<(tN tys.length).length:=by
    have:(j:Int)<((tN tys.length).length:Int):=ψ hb;omega
   have ab:j<tys.length:=by omega
   obtain⟨t,ht⟩:=aJ ab;obtain⟨n,Y⟩:=aJ (show j<ns.length by omega);obtain⟨p,Z⟩:=aJ (show nk+j<ps.length by omega);have hd:(ps.drop nk)[j]?=some p:=by rw[Ao];exact Z
   have ht1:=a07 ab;have hrow:(aQ (mkB tys ns (ps.drop nk)))[j]?=some (b8 (.mk n t p)):=bX (uH ht Y hd);have hstp:ns.take (j+1)=ns.take j++[n]:=by rw[Bh,Y];rfl
   have hq1:((ps.flatMap pfR++ns.take j).map b6).length=(ps.flatMap pfR++ns.take j).length:=θ _;have hql:(ps.flatMap pfR++ns.take j).length≤540000000000:=by rw[κ,Ar];omega
   refine aD (a8 (aC (sgh [(0,.rowR j [.ep 701 j 0 tys.length])] rfl (a8 (sgh [(2,.row j (b8 (.mk n t p)))] rfl (aA rfl (fun hb=>?_) (fun hb=>?_)))))))
   ·have hns:n=s:=ψ hb;have he:cE sb s b ns ps=(ns,ps):=by
     unfold cE;rw[φ fun h=>h.2 (hns▸η Y)]
    rw[he];exact aE ⟨.inr rfl,aFb hF (by repeat (first | exact FarEq.raw hF | (refine FarEq.updL hF ?_) | (refine FarEq.upd hF ?_))) ⟨[],[],.nil,.nil,rfl⟩ (fun _ h=>by cases h) tHW.refs (fun i hi=>GW.kf i hi) (fun p hp=>by rcases τ.1 hp with hp | hp;exact(A4.1 (tHW (tys:=tys) (nk:=nk) (ns:=ns) (ps:=ps)).plain) p hp;cases hp)⟩
   have hns:¬n=s:=χ hb;refine aD ?_;generalize ps.flatMap pfR=fm at *;rw[show fm++ns.take j=fm++ns.take j from rfl];generalize hq:fm++ns.take j=q at *;refine ag [(3,.row j (b8 (.mk n t p)))] rfl (AWp.sub (Sub.freeze (id:=720) rfl) ?_);refine ag [] rfl ⟨j+1,⟨hlt,?_⟩,by dsimp only;omega,?_⟩
   ·rw[hstp];intro h;rcases τ.1 h with h | h
    ·exact hnos h
    ·exact hns (ε.1 h).symm
   dsimp only;rw[hstp,←Ay,hq];exact slG tHW (h1:=Kn.app Kn.nil (Kn.app (Kn.of rfl) (Kn.app (Kn.of rfl) (Kn.app (Kn.of rfl) (Kn.app (hkn _ _ _) Kn.nil))))) (h2:=⟨aa _ _ _,Kn.of rfl,Kn.of rfl,trivial⟩) (he:=⟨rfl,rfl,rfl,Go.AM.hs_ren (by simp) (by simp),congrArg some (V.ren_id _).symm,rfl,rfl,trivial⟩) (hh:=⟨⟨_,rfl,.varS rfl⟩,⟨_,rfl,.varS rfl⟩,⟨_,rfl,.arrS (by simp[b6,Bind.name])⟩,⟨_,rfl,.arr⟩,⟨_,rfl,.arr⟩,trivial⟩)
  have hge:j=ns.length:=by
   have:¬(j:Int)<((tN tys.length).length:Int):=χ hb;omega
  subst hge;rw[Al] at hnos ⊢;have hput:cE sb s b ns ps=((gSt sb b ns ps ns.length).1,(gSt sb b ns ps ns.length).2.1.map fun p=>sb p s b):=by
   unfold cE;rw[ξ ⟨hin,hnos⟩,aO9]
  have hql:(ps.flatMap pfR++ns).length≤540000000000:=by rw[κ];omega
  have hq1:((ps.flatMap pfR++ns).map b6).length=(ps.flatMap pfR++ns).length:=θ _;have hq2:((pfR b).map b6).length=(pfR b).length:=θ _;have hfar:=hok.far;refine aL (sk 1 rfl (kc hfar ?_));refine kz 1 rfl ?_;have hlq:(ps.flatMap pfR++ns).length+(pfR b).length≤540000000000:=by rw[κ];omega
  refine sg rfl (AWp.sub (Sub.freeze (id:=720) rfl) ?_);refine sg rfl (a8 (sg rfl (aC ?_)));have hall:∀i,i≤ns.length→(gSt sb b ns ps i).2.2.length≤540000000000:=fun i hi=>by
   have h1:=(iR (sb:=sb) (b:=b) (ps:=ps) hi).2.2
   simp only[κ] at h1;omega
  refine aK (fun i:Nat=>mkt [(1,Go.AM.T s),(5,.one (.vp 5 0)),(6,tkV (gSt sb b ns ps i).2.2),(11,aV (pfR b)),(12,.one (.clo 144 [.vp 3 0])),(60,.one (.ras (tN tys.length).length 1 (tN tys.length))),(61,I .i64 (((tN tys.length).length:Nat):Int)),(62,I .i64 i)] ([(3,grO (tN tys.length) (tP nk tys.length)),(5,.var 37 (aW b)),(720,tkA (gSt sb b ns ps i).2.2)]++tH tys nk (gNs sb b ns ps i) (gSt sb b ns ps i).2.1) []) (fun i=>i≤(tN tys.length).length) (fun i=>(tN tys.length).length-i) 0 (Ag _) ?_ ?_
  ·rw[zN,aId];exact slG tHW (h1:=Kn.app Kn.nil (Kn.app (Kn.of rfl) (Kn.app (Kn.of rfl) (Kn.app Kn.nil (Kn.app (Kn.of rfl) (Kn.app (hkn _ _ _) Kn.nil)))))) (h2:=⟨aa _ _ _,Kn.of rfl,Kn.of rfl,trivial⟩) (he:=⟨rfl,rfl,Go.AM.hs_ren (by simp only[κ,θ]) (by simp only[κ,θ]),rfl,rfl,congrArg some (V.ren_id _).symm,rfl,rfl,trivial⟩) (hh:=⟨⟨_,rfl,.varS rfl⟩,⟨_,rfl,.varS rfl⟩,⟨_,rfl,.arrS (by simp)⟩,⟨_,rfl,.arr⟩,⟨_,rfl,.arr⟩,trivial⟩)
  intro i hi;have hle:i≤ns.length:=by omega
  refine sg rfl (a8 (aA rfl (fun hb=>?_) (fun hb=>?_)))
  ·have hlt:i<(tN tys.length).length:=by
    have:(i:Int)<((tN tys.length).length:Int):=ψ hb;omega
   have ab:i<tys.length:=by omega
   obtain⟨t,ht⟩:=aJ ab;obtain⟨n,Y⟩:=aJ (show i<ns.length by omega);obtain⟨hg1,hg2,hg3⟩:=iR (sb:=sb) (b:=b) (ps:=ps) hle;have hgl:=aPc (sb:=sb) (b:=b) (ps:=ps) hle;have hga:=aWi (sb:=sb) (b:=b) (ps:=ps) Y;have hP:=aPa hok hle (hall i hle) (fun j hj=>hall j (by omega));have hs3:=hsz1 _ hg2;have hs4:=hsz2 _ _ hgl hg2;have J:=pV (sb:=sb) (b:=b) (ps:=ps) Y;have hnin:=aWh (sb:=sb) (b:=b) (ps:=ps) Y;have hnout:=aPb (sb:=sb) (b:=b) (ps:=ps) Y;have hall0:=hall i hle;have ht1:=a07 ab;have hcf:=c9 (pfR b) n (by omega);have hcr:=aAf (gSt sb b ns ps i).2.2 (by omega) fun k hk=>hok.itoa k (by omega)
   generalize gSt sb b ns ps i=G at *;generalize gNs sb b ns ps i=N at *;obtain⟨d0,qs,tk⟩:=G;dsimp only at *;obtain⟨p,Z⟩:=aJ (show nk+i<qs.length by omega);have hd:(qs.drop nk)[i]?=some p:=by rw[Ao];exact Z
   have hrow:(aQ (mkB tys N (qs.drop nk)))[i]?=some (b8 (.mk n t p)):=bX (uH ht hga hd);refine aD (a8 (aC (sgh [(0,.rowR i [.ep 701 i 0 tys.length])] rfl (skh 4 [(3,.row i (b8 (.mk n t p)))] rfl (kc hcf ?_)))));refine az (aA rfl (fun hb=>?_) (fun hb=>?_))
   ·have hmem:n∈pfR b:=ψ hb;have hnin:=hnin hmem;unfold dS at J;rw[ξ hmem] at J;dsimp only at J;have hz:(bA tk).length≤30:=le_trans (kT _ hall0) (by omega);have hca:=aW5 tys nk N qs n (vC (bA tk)) (fun p=>sb p n (vC (bA tk))) (by omega) (by omega) (by omega) fun p hp=>hok.subz p n _ (hP p hp) hz
    have hcv:=uY (bA tk);have hqt:(tk.map b6).length=tk.length:=θ _;generalize bA tk=z at *;refine sk 1 rfl (kc hcr ?_);refine kz 1 rfl (sg rfl (AWp.sub (Sub.freeze (id:=720) rfl) ?_));refine skh 5 [(3,.row i (b8 (.mk n t p)))] rfl (kc hcv ?_);refine kv (caps:=[.vp 3 0]) (args:=[Go.AM.T n,.pa (aB (vC z))]) hca ?_ (hok:=aGr);refine az ?_;have hml:(qs.map fun p=>sb p n (vC z)).length=ps.length:=by rw[θ];exact hg2
    have hd2:((qs.map fun p=>sb p n (vC z)).drop nk)[i]?=some (sb p n (vC z)):=by rw[Ao,A5,Z];rfl
    have hrow2:(aQ (mkB tys N ((qs.map fun p=>sb p n (vC z)).drop nk)))[i]?=some (b8 (.mk n t (sb p n (vC z)))):=bX (uH ht hga hd2);have hs5:=hsz1 _ hml;have hs6:=hsz2 _ _ hgl hml;refine ag [(3,.row i (b8 (.mk n t (sb p n (vC z)))))] rfl (ag [] rfl ⟨i+1,hlt,by dsimp only;omega,?_⟩);dsimp only;rw[J,hnin];dsimp only;refine slG tHW (fun i hi=>GW.kf i hi) (h1:=Kn.app Kn.nil (Kn.app (Kn.of rfl) (Kn.app (Kn.of rfl) (Kn.app Kn.nil (Kn.app (Kn.of rfl) (Kn.app (hkn _ _ _) Kn.nil)))))) (h2:=⟨aa _ _ _,Kn.of rfl,Kn.of rfl,trivial⟩) (he:=⟨rfl,rfl,Go.AM.hs_ren (by simp) (by simp),rfl,rfl,congrArg some (V.ren_id _).symm,rfl,rfl,trivial⟩) (hh:=⟨⟨_,rfl,.varS rfl⟩,⟨_,rfl,.varS rfl⟩,⟨_,rfl,.arrS (by simp[b6])⟩,⟨_,rfl,.arrS ?_⟩,⟨_,rfl,.arr⟩,trivial⟩);rw[←aHv z ht hd2 (by omega),←k9];rfl
   ·have hmem:¬n∈pfR b:=χ hb;unfold dS at J;rw[φ hmem] at J;dsimp only at J;refine aD (ag [] rfl ⟨i+1,hlt,by dsimp only;omega,?_⟩);dsimp only;rw[J,hnout hmem];exact slG tHW (fun i hi=>GW.kf i hi) (h1:=Kn.app Kn.nil (Kn.app (Kn.of rfl) (Kn.app (Kn.of rfl) (Kn.app Kn.nil (Kn.app (Kn.of rfl) (Kn.app (hkn _ _ _) Kn.nil)))))) (h2:=⟨aa _ _ _,Kn.of rfl,Kn.of rfl,trivial⟩)
  have hge:i=ns.length:=by
   have:¬(i:Int)<((tN tys.length).length:Int):=χ hb;omega
  subst hge;have hP:=aPa hok (le_refl ns.length) (hall _ (le_refl _)) (fun j hj=>hall j hj);obtain⟨hg1,hg2,_⟩:=iR (sb:=sb) (b:=b) (ps:=ps) (le_refl ns.length);rw[hput];rw[aPd];generalize gSt sb b ns ps ns.length=G at *;obtain⟨N,qs,tk⟩:=G;dsimp only at *;have hca:=aW5 tys nk N qs s b (fun p=>sb p s b) (by omega) (by omega) (by omega) fun p hp=>hok.subb p (hP p hp)
  refine aL (aI mixed (ak 3 [] rfl (kv (caps:=[.vp 3 0]) (args:=[Go.AM.T s,.pa (aB b)]) hca ?_ (hok:=aGr))));exact az ⟨.inl rfl,aFb hF (FarEq.outs hF) ⟨[],[],.nil,.nil,rfl⟩ (fun _ h=>by cases h) tHW.refs (fun i hi=>GW.kf i hi) (fun p hp=>by rcases τ.1 hp with hp | hp;exact(A4.1 (tHW (tys:=tys) (nk:=nk) (ns:=ns) (ps:=ps)).plain) p hp;cases hp)⟩
def aG2 (af an:Int) (anm:Str) (nv:Nat) (p:Core):List R:=[.c (.int .i64 af),.c (.int .i64 an),.c (.str anm),.hs 704 0 nv nv]++(aB p).map R.c
def aH (rs:List (List R)) (k:Nat) (af an:Int) (anm:Str) (nv:Nat) (ns:List Str) (p:Core):List (Nat×AObj):=[(703,.rarr 88 14 (rs.set k (aG2 af an anm nv p))),(704,.arr 9 1 (ns.map b6) 0)]
def aN (nv:Nat):List R:=(rgR (fun j=>[.ep 704 j 0 nv]) nv).flatten
def aP (k na:Nat):List R:=[.rp 703 k 4 na]
theorem aXd {nv:Nat}:(aN nv).length=nv:=by
 unfold aN;rw[o4 (tV fun _=>rfl),i6,mul_one]
theorem a4g {nv j:Nat}(h:j<nv):((aN nv).drop (j*1)).take 1=[.ep 704 j 0 nv]:=fF (tV fun _=>rfl) j _ (aG3 h)
theorem aRk {nv:Nat}:∀x∈R.refsL (aN nv),x=704:=fun x hx=>by
 unfold aN at hx;rw[dN] at hx;exact nP (L:=fun x=>x=704) (fun j x hx=>by simpa [R.refsL,R.refs] using hx) _ x hx
theorem aFo {k u nv:Nat}:∀x∈(grO (aN nv) (aP k u)).refs,x=703∨x=704:=fun x hx=>by
 have hx:x∈R.refsL (aN nv)++(R.refsL (aP k u)++[]):=hx;rw[Ax] at hx;rcases τ.1 hx with hx | hx
 ·exact .inr (aRk x hx)
 ·exact .inl (by simpa [aP,R.refsL,R.refs] using hx)
theorem aBk {x:Nat}:∀{rs:List (List R)}{k:Nat}{r:List R},x∈cV (rs.set k r)→x∈cV rs∨x∈R.refsL r
 | [],_,_,h=>.inl h
 | q::rs,0,r,h=>by
  rcases τ.1 (show x∈R.refsL r++cV rs from h) with h | h
  ·exact .inr h
  ·exact .inl (τ.2 (.inr h))
 | q::rs,k+1,r,h=>by
  rcases τ.1 (show x∈R.refsL q++cV (rs.set k r) from h) with h | h
  ·exact .inl (τ.2 (.inl h))
  ·exact(aBk h).imp (fun h=>τ.2 (.inr h)) id
theorem aMs {af an:Int}{anm:Str}{nv:Nat}{p:Core}{x:Nat}(h:x∈R.refsL (aG2 af an anm nv p)):x=704:=by
 unfold aG2 aB at h;simpa [R.refsL,R.refs] using h
abbrev aG (rs:List (List R)) (k:Nat) (af an:Int) (anm:Str) (nv:Nat) (ns:List Str) (p:Core):List (Nat×AObj):=(3,grO (aN nv) (aP k rs.length))::aH rs k af an anm nv ns p
section
variable {rs:List (List R)}{k:Nat}{af an:Int}{anm:Str}{nv:Nat}{ns:List Str}{p:Core}{F:List (Nat×AObj)}
theorem aHW (u:TF F) (I:∀x∈cV rs,x∈keys F):GW (aH rs k af an anm nv ns p) F:=⟨u,fun x hx=>by
 have hx:x∈cV (rs.set k (aG2 af an anm nv p))++[]:=hx;rw[Ax] at hx;rcases aBk hx with h | h
 ·exact .inr (I x h)
 ·rw[aMs h];exact .inl (by simp[aH,keys]),rfl,rfl⟩
theorem aGW (u:TF F) (I:∀x∈cV rs,x∈keys F):GW (aG rs k af an anm nv ns p) F:=⟨u,fun x hx=>by
 rcases τ.1 (show x∈(grO (aN nv) (aP k rs.length)).refs++dU (aH rs k af an anm nv ns p) from hx) with hx | hx
 ·rcases aFo x hx with rfl | rfl
  ·exact .inl (by simp[aG,aH,keys])
  ·exact .inl (by simp[aG,aH,keys])
 ·exact((aHW u I).refs x hx).imp (fun h=>ω _ h) id,rfl,rfl⟩
end
theorem a1f {rs:List (List R)}{k:Nat}{r r':List R}:(rs.set k r).set k r'=rs.set k r':=List.set_set ..
theorem aW6 (rs:List (List R)) (k:Nat) (af an:Int) (anm:Str) (nv:Nat) (ns:List Str) (p:Core) (F:List (Nat×AObj)) (nm:Str) (b:Core) (sb:Core→Core) (u:TF F) (Y:∀x∈cV rs,x∈keys F) (hk:k<rs.length)
  (hc:aU Tryz.prog 106 [.pa (aB p),Go.AM.T nm,.pa (aB b)] [] (.pa (aB (sb p))) []):
  aU Tryz.prog 144 [Go.AM.T nm,.pa (aB b),.one (.vp 3 0)] (aG rs k af an anm nv ns p++F) (.tup []) (aG rs k af an anm nv ns (sb p)++F):=by
 have W:∀p,GW (aG rs k af an anm nv ns p) F:=fun p=>aGW u Y
 have aa:rs.length=(rs.set k (aG2 af an anm nv p)).length:=(Cq ..).symm;have Z:(rs.set k (aG2 af an anm nv p))[k]?=some (aG2 af an anm nv p):=List.getElem?_set_self hk;refine vV u (n:=23) tok Tryz.func144 rfl rfl rfl ?_;refine sg rfl (sg rfl (aC (aK (fun j:Nat=>mkt [(0,Go.AM.T nm),(2,.one (.vp 3 0)),(4,.one (.vp 4 0)),(8,.one (.ras 1 1 (aP k rs.length))),(9,I .i64 ((1:Nat):Int)),(10,I .i64 j)] ([(4,.var 37 (aW b))]++aG rs k af an anm nv ns (if j=0 then p else sb p)) F) (fun j=>j≤1) (fun j=>1-j) 0 (Ag _) ?_ ?_)))
 ·exact slG (W _)
 intro j hj;refine sg rfl (a8 (aA rfl (fun hb=>?_) (fun hb=>?_)))
 ·have N:j=0:=by
   have:(j:Int)<((1:Nat):Int):=ψ hb;omega
  subst N;rw[ξ rfl];refine aD (a8 (aC (sg rfl (aI mixed (ak 6 [(3,.rr (aG2 af an anm nv p))] rfl (kc hc ?_))))));refine ak 2 [(8,.rr (aG2 af an anm nv p))] rfl (az (ag [] rfl ⟨1,le_refl _,by dsimp only;omega,?_⟩));dsimp only;rw[φ (by decide)];exact slG (W _) (fun i hi=>GW.kf i hi) (hh:=⟨⟨_,rfl,.varS rfl⟩,⟨_,rfl,.varS rfl⟩,⟨_,rfl,.rarrS a1f⟩,⟨_,rfl,.arr⟩,trivial⟩)
 have O:j=1:=by
  have:¬(j:Int)<((1:Nat):Int):=χ hb;omega
 subst O;rw[φ (by decide)];refine aL ?_;exact⟨.inl rfl,aFb u (by repeat (first | exact FarEq.raw u | (refine FarEq.updL u ?_) | (refine FarEq.upd u ?_))) ⟨[],[],.nil,.nil,rfl⟩ (fun _ h=>by cases h) (W _).refs (fun i hi=>GW.kf i hi) (fun q J=>by rcases τ.1 J with J | J;exact(A4.1 (W p).plain) q J;exact(u.ok q J).2)⟩
theorem aJi {rs:List (List R)}{k:Nat}{af an:Int}{anm:Str}{nv:Nat}{ns:List Str}{p:Core}{F:List (Nat×AObj)}(u:TF F) (I:∀x∈cV rs,x∈keys F) {n:Str}{l:List C}:lS ([Go.AM.T n,.pa l]++List.map V.one [R.vp 3 0]) (aG rs k af an anm nv ns p++F)=true:=by
 refine p9 u (fun x hx=>.inl ?_) (aGW u I).refs;have:x=3:=by simpa [V.refsL,V.refs,R.refs] using hx
 subst this;simp[aG,keys]
theorem a4f {rs:List (List R)}{k:Nat}{af an:Int}{anm:Str}{nv:Nat}{ns u:List Str}{p I:Core}{F:List (Nat×AObj)}{h:dC}:fL (fun q=>q.1∈keys (aG rs k af an anm nv ns p++F)∨h q.1=none) (aG rs k af an anm nv u I++F):=fL.of fun q J=>.inl (by
 have h1:q.1∈keys (aG rs k af an anm nv u I++F):=Af.2 ⟨q,J,rfl⟩
 exact h1)
theorem a3v (rs:List (List R)) (k:Nat) (af an:Int) (anm:Str) (nv:Nat) (ns:List Str) (p:Core) (F:List (Nat×AObj)) (s:Str) (b:Core) (sb:Core→Str→Core→Core) (P:Core→Prop) (u:TF F) (hr:∀x∈cV rs,x∈keys F) (hk:k<rs.length) (hn:ns.length=nv) (hok:PutOk sb P s b [p])
  (hM:(pfR p).length+2*ns.length+(pfR b).length+1≤540000000000):
  ∃q,(cE sb s b ns [p]).2=[q]∧aU Tryz.prog 126 [gpV (aN nv) (aP k rs.length),Go.AM.T s,.pa (aB b)] (aH rs k af an anm nv ns p++F) (.tup []) (aH rs k af an anm nv (cE sb s b ns [p]).1 q++F):=by
 have hln:=(nQ (sb:=sb) (s:=s) (b:=b) (ns:=ns) (ps:=[p])).2
 obtain⟨q,J⟩:∃q,(cE sb s b ns [p]).2=[q]:=Bm.1 hln;refine⟨q,J,?_⟩;have hnl:=aXd (nv:=nv);have W:∀ns p,GW (aH rs k af an anm nv ns p) F:=fun _ _=>aHW u hr
 have ac:∀ex ad p',∀x∈R.refsL (aN nv),Kn ex (aH rs k af an anm nv ad p') F x:=fun ex ad p' x hx=>by
  have:=aRk x hx;subst this;exact .inr (.inl (by simp[aH,keys]))
 have Z:∀ex ad p',∀x∈(grO (aN nv) (aP k rs.length)).refs,Kn ex (aH rs k af an anm nv ad p') F x:=fun ex ad p' x hx=>by
  rcases aFo x hx with rfl | rfl
  ·exact .inr (.inl (by simp[aH,keys]))
  ·exact .inr (.inl (by simp[aH,keys]))
 have hsz:∀p,rs.length=(rs.set k (aG2 af an anm nv p)).length:=fun p=>(Cq ..).symm
 have hrow:∀p,(rs.set k (aG2 af an anm nv p))[k]?=some (aG2 af an anm nv p):=fun p=>List.getElem?_set_self hk
 have hszp:=hsz p;have hrowp:=hrow p;have am:([p]:List Core).flatMap pfR=pfR p:=by simp
 have hkl:nv=(ns.map b6).length:=by rw[θ];exact hn.symm
 have hf:=hok.free p (by simp);have hq0:((pfR p).map b6).length=(pfR p).length:=θ _;refine vV u (n:=92) tok Tryz.func126 rfl rfl rfl ?_;refine sg rfl (sg rfl (AWp.sub (Sub.own (t:=6) (id:=720) 9 1 rfl rfl) (AWp.sub (Sub.freeze (id:=720) rfl) ?_)));refine a8 (sg rfl (aC (aK (fun j:Nat=>mkt [(1,Go.AM.T s),(3,.one (.vp 3 0)),(5,.one (.vp 5 0)),(6,tkV (if j=0 then [] else pfR p)),(17,.one (.ras 1 1 (aP k rs.length))),(18,I .i64 ((1:Nat):Int)),(19,I .i64 j)] ([(3,grO (aN nv) (aP k rs.length)),(5,.var 37 (aW b)),(720,tkA (if j=0 then [] else pfR p))]++aH rs k af an anm nv ns p) F) (fun j=>j≤1) (fun j=>1-j) 0 (Ag _) ?_ ?_)))
 ·exact slG (W _ _) (h2:=⟨Z _ _ _,Kn.of rfl,Kn.of rfl,trivial⟩)
 ·intro j hj;refine sg rfl (a8 (aA rfl (fun hb=>?_) (fun hb=>?_)))
  ·have hj0:j=0:=by
    have:(j:Int)<((1:Nat):Int):=ψ hb;omega
   subst hj0;rw[ξ rfl];refine aD (a8 (aC (sg rfl (aI mixed (ak 4 [(3,.rr (aG2 af an anm nv p))] rfl (kc hf ?_))))));refine kz 2 rfl (AWp.sub (Sub.freeze (id:=720) rfl) ?_);refine ag [] rfl ⟨1,le_refl _,by dsimp only;omega,?_⟩;dsimp only;rw[φ (by decide)];exact slG (W _ _) (h2:=⟨Z _ _ _,Kn.of rfl,Kn.of rfl,trivial⟩) (he:=⟨rfl,rfl,rfl,Go.AM.hs_ren (by simp) (by simp),rfl,rfl,rfl,trivial⟩) (hh:=⟨⟨_,rfl,.varS rfl⟩,⟨_,rfl,.varS rfl⟩,⟨_,rfl,.arrS (by simp)⟩,⟨_,rfl,.rarrS rfl⟩,⟨_,rfl,.arr⟩,trivial⟩)
  have ae:j=1:=by
   have:¬(j:Int)<((1:Nat):Int):=χ hb;omega
  subst ae;rw[φ (by decide)];refine aL ?_;have hct:=c9 (pfR p) s (by omega);refine a8 (sk 2 rfl (kc hct ?_));refine kz 1 rfl (aA rfl (fun hb=>?_) (fun hb=>?_))
  ·have hno:¬s∈pfR p:=by
    intro h;have hb:(!decide (s∈pfR p))=true:=hb;rw[Ad h] at hb;cases hb
   have he:cE sb s b ns [p]=(ns,[p]):=by unfold cE;rw[φ fun h=>hno (by have:=h.1;rwa [am] at this)]
   have hqp:q=p:=by rw[he] at J;exact(List.singleton_inj.1 J).symm
   rw[he,hqp];exact aE ⟨.inr rfl,aFb u (by repeat (first | exact FarEq.raw u | (refine FarEq.updL u ?_) | (refine FarEq.upd u ?_))) ⟨[],[],.nil,.nil,rfl⟩ (fun _ h=>by cases h) (W _ _).refs (fun i hi=>GW.kf i hi) (fun q J=>by rcases τ.1 J with J | J;exact(A4.1 (W ns p).plain) q J;exact(u.ok q J).2)⟩
  have hin:s∈pfR p:=by
   have hb:(!decide (s∈pfR p))=false:=hb;by_cases h:s∈pfR p
   ·exact h
   ·rw[Ae h] at hb;cases hb
  refine aD (a8 (sg rfl (aC (aK (fun j:Nat=>mkt [(1,Go.AM.T s),(3,.one (.vp 3 0)),(5,.one (.vp 5 0)),(6,tkV (pfR p++ns.take j)),(35,.one (.ras (aN nv).length 1 (aN nv))),(36,I .i64 (((aN nv).length:Nat):Int)),(37,I .i64 j)] ([(3,grO (aN nv) (aP k rs.length)),(5,.var 37 (aW b)),(720,tkA (pfR p++ns.take j))]++aH rs k af an anm nv ns p) F) (fun j=>j≤(aN nv).length∧¬s∈ns.take j) (fun j=>(aN nv).length-j) 0 ⟨Ag _,by simp⟩ ?_ ?_))))
  ·exact slG (W _ _) (h1:=Kn.app Kn.nil (Kn.app (Kn.of rfl) (Kn.app (Kn.of rfl) (Kn.app (Kn.of rfl) (Kn.app (ac _ _ _) Kn.nil))))) (h2:=⟨Z _ _ _,Kn.of rfl,Kn.of rfl,trivial⟩) (he:=⟨rfl,rfl,rfl,Go.AM.hs_ren (by simp) (by simp),congrArg some (V.ren_id _).symm,rfl,rfl,trivial⟩) (hh:=⟨⟨_,rfl,.varS rfl⟩,⟨_,rfl,.varS rfl⟩,⟨_,rfl,.arrS (by simp)⟩,⟨_,rfl,.rarrS rfl⟩,⟨_,rfl,.arr⟩,trivial⟩)
  rintro j ⟨hj,ai⟩;refine sg rfl (a8 (aA rfl (fun hb=>?_) (fun hb=>?_)))
  ·have ap:j<(aN nv).length:=by
    have:(j:Int)<((aN nv).length:Int):=ψ hb;omega
   have hjb:j<nv:=by omega
   obtain⟨n,Y⟩:=aJ (show j<ns.length by omega);have ht1:=a4g hjb;have hrown:(ns.map b6)[j]?=some (b6 n):=bW b6 Y;have hstp:ns.take (j+1)=ns.take j++[n]:=by rw[Bh,Y];rfl
   have hq1:((pfR p++ns.take j).map b6).length=(pfR p++ns.take j).length:=θ _;have hql:(pfR p++ns.take j).length≤540000000000:=by rw[κ,Ar];omega
   refine aD (a8 (aC (sgh [(0,.rowR j [.ep 704 j 0 nv])] rfl (a8 (sgh [(2,.row j (b6 n))] rfl (aA rfl (fun hb=>?_) (fun hb=>?_)))))))
   ·have hns:n=s:=ψ hb;have he:cE sb s b ns [p]=(ns,[p]):=by
     unfold cE;rw[φ fun h=>h.2 (hns▸η Y)]
    have hqp:q=p:=by rw[he] at J;exact(List.singleton_inj.1 J).symm
    rw[he,hqp];exact aE ⟨.inr rfl,aFb u (by repeat (first | exact FarEq.raw u | (refine FarEq.updL u ?_) | (refine FarEq.upd u ?_))) ⟨[],[],.nil,.nil,rfl⟩ (fun _ h=>by cases h) (W _ _).refs (fun i hi=>GW.kf i hi) (fun q J=>by rcases τ.1 J with J | J;exact(A4.1 (W ns p).plain) q J;exact(u.ok q J).2)⟩
   have hns:¬n=s:=χ hb;refine aD ?_;generalize pfR p=fm at *;generalize hq2:fm++ns.take j=qq at *;refine ag [(3,.row j (b6 n))] rfl (AWp.sub (Sub.freeze (id:=720) rfl) ?_);refine ag [] rfl ⟨j+1,⟨ap,?_⟩,by dsimp only;omega,?_⟩
   ·rw[hstp];intro h;rcases τ.1 h with h | h
    ·exact ai h
    ·exact hns (ε.1 h).symm
   dsimp only;rw[hstp,←Ay,hq2];exact slG (W _ _) (h1:=Kn.app Kn.nil (Kn.app (Kn.of rfl) (Kn.app (Kn.of rfl) (Kn.app (Kn.of rfl) (Kn.app (ac _ _ _) Kn.nil))))) (h2:=⟨Z _ _ _,Kn.of rfl,Kn.of rfl,trivial⟩) (he:=⟨rfl,rfl,rfl,Go.AM.hs_ren (by simp) (by simp),congrArg some (V.ren_id _).symm,rfl,rfl,trivial⟩) (hh:=⟨⟨_,rfl,.varS rfl⟩,⟨_,rfl,.varS rfl⟩,⟨_,rfl,.arrS (by simp[b6])⟩,⟨_,rfl,.rarrS rfl⟩,⟨_,rfl,.arr⟩,trivial⟩)
  have ae:j=ns.length:=by
   have:¬(j:Int)<((aN nv).length:Int):=χ hb;omega
  subst ae;rw[Al] at ai ⊢;have hput:cE sb s b ns [p]=((gSt sb b ns [p] ns.length).1,(gSt sb b ns [p] ns.length).2.1.map fun p=>sb p s b):=by
   unfold cE;rw[ξ ⟨by rw[am];exact hin,ai⟩,aO9]
  have hql:(pfR p++ns).length≤540000000000:=by rw[κ];omega
  have hq1:((pfR p++ns).map b6).length=(pfR p++ns).length:=θ _;have hq2:((pfR b).map b6).length=(pfR b).length:=θ _;have hfar:=hok.far;refine aL (sk 1 rfl (kc hfar ?_));refine kz 1 rfl ?_;have hlq:(pfR p++ns).length+(pfR b).length≤540000000000:=by rw[κ];omega
  refine sg rfl (AWp.sub (Sub.freeze (id:=720) rfl) ?_);refine sg rfl (a8 (sg rfl (aC ?_)));have aa:∀i,i≤ns.length→(gSt sb b ns [p] i).2.2.length≤540000000000:=fun i hi=>by
   have h1:=(iR (sb:=sb) (b:=b) (ps:=[p]) hi).2.2
   rw[am] at h1;simp only[κ] at h1;omega
  have hone:∀i,i≤ns.length→∃x,(gSt sb b ns [p] i).2.1=[x]:=fun i hi=>Bm.1 (iR (sb:=sb) (b:=b) (ps:=[p]) hi).2.1
  have hhd:∀i,i≤ns.length→(gSt sb b ns [p] i).2.1=[(gSt sb b ns [p] i).2.1.headD p]:=fun i hi=>by
   obtain⟨x,hx⟩:=hone i hi;rw[hx];rfl
  refine aK (fun i:Nat=>mkt [(1,Go.AM.T s),(5,.one (.vp 5 0)),(6,tkV (gSt sb b ns [p] i).2.2),(11,aV (pfR b)),(12,.one (.clo 144 [.vp 3 0])),(60,.one (.ras (aN nv).length 1 (aN nv))),(61,I .i64 (((aN nv).length:Nat):Int)),(62,I .i64 i)] ([(3,grO (aN nv) (aP k rs.length)),(5,.var 37 (aW b)),(720,tkA (gSt sb b ns [p] i).2.2)]++aH rs k af an anm nv (gNs sb b ns [p] i) ((gSt sb b ns [p] i).2.1.headD p)) F) (fun i=>i≤(aN nv).length) (fun i=>(aN nv).length-i) 0 (Ag _) ?_ ?_
  ·rw[zN,aId,am];exact slG (W _ _) (h1:=Kn.app Kn.nil (Kn.app (Kn.of rfl) (Kn.app (Kn.of rfl) (Kn.app Kn.nil (Kn.app (Kn.of rfl) (Kn.app (ac _ _ _) Kn.nil)))))) (h2:=⟨Z _ _ _,Kn.of rfl,Kn.of rfl,trivial⟩) (he:=⟨rfl,rfl,Go.AM.hs_ren (by simp only[κ,θ]) (by simp only[κ,θ]),rfl,rfl,congrArg some (V.ren_id _).symm,rfl,rfl,trivial⟩) (hh:=⟨⟨_,rfl,.varS rfl⟩,⟨_,rfl,.varS rfl⟩,⟨_,rfl,.arrS (by simp)⟩,⟨_,rfl,.rarrS rfl⟩,⟨_,rfl,.arr⟩,trivial⟩)
  intro i hi;have hle:i≤ns.length:=by omega
  refine sg rfl (a8 (aA rfl (fun hb=>?_) (fun hb=>?_)))
  ·have ap:i<(aN nv).length:=by
    have:(i:Int)<((aN nv).length:Int):=ψ hb;omega
   have hjb:i<nv:=by omega
   obtain⟨n,Y⟩:=aJ (show i<ns.length by omega);obtain⟨hg1,hg2,hg3⟩:=iR (sb:=sb) (b:=b) (ps:=[p]) hle;have hgl:=aPc (sb:=sb) (b:=b) (ps:=[p]) hle;have hga:=aWi (sb:=sb) (b:=b) (ps:=[p]) Y;have hP:=aPa hok hle (aa i hle) (fun j hj=>aa j (by omega));have O:=pV (sb:=sb) (b:=b) (ps:=[p]) Y;have aj:=aWh (sb:=sb) (b:=b) (ps:=[p]) Y;have hnout:=aPb (sb:=sb) (b:=b) (ps:=[p]) Y;have hall0:=aa i hle;have ah:=hhd i hle;have ht1:=a4g hjb;have hcf:=c9 (pfR b) n (by omega);have hcr:=aAf (gSt sb b ns [p] i).2.2 (by omega) fun k hk=>hok.itoa k (by omega)
   generalize gSt sb b ns [p] i=G at *;generalize gNs sb b ns [p] i=N at *;obtain⟨d0,qs,tk⟩:=G;dsimp only at *;generalize qs.headD p=x at ah ⊢;subst ah;have hrown:(N.map b6)[i]?=some (b6 n):=bW b6 hga;have hkN:nv=(N.map b6).length:=by rw[θ];omega
   have hszx:=hsz x;have hrowx:=hrow x;refine aD (a8 (aC (sgh [(0,.rowR i [.ep 704 i 0 nv])] rfl (skh 4 [(3,.row i (b6 n))] rfl (kc hcf ?_)))));refine az (aA rfl (fun hb=>?_) (fun hb=>?_))
   ·have ab:n∈pfR b:=ψ hb;have aj:=aj ab;unfold dS at O;rw[ξ ab] at O;dsimp only at O;have hz:(bA tk).length≤30:=le_trans (kT _ hall0) (by omega);have hca:=aW6 rs k af an anm nv N x F n (vC (bA tk)) (fun p=>sb p n (vC (bA tk))) u hr hk (hok.subz x n _ (hP x (by simp)) hz);have hcv:=uY (bA tk);have hqt:(tk.map b6).length=tk.length:=θ _;generalize bA tk=z at *;refine sk 1 rfl (kc hcr ?_);refine kz 1 rfl (sg rfl (AWp.sub (Sub.freeze (id:=720) rfl) ?_));refine skh 5 [(3,.row i (b6 n))] rfl (kc hcv ?_);refine kv (caps:=[.vp 3 0]) (args:=[Go.AM.T n,.pa (aB (vC z))]) hca ?_ (hin':=fL.app ⟨rfl,rfl,rfl,trivial⟩ (FarEq.all (by repeat (first | exact FarEq.raw u | (refine FarEq.updL u ?_) | (refine FarEq.upd u ?_))))) (hout':=a4f) (hok:=aJi u hr);refine az (AWp.sub (Sub.outsT u) ?_);refine ag [(3,.row i (b6 n))] rfl (ag [] rfl ⟨i+1,ap,by dsimp only;omega,?_⟩);dsimp only;rw[O,aj];dsimp only;refine slG (W _ _) (fun i hi=>GW.kf i hi) (by repeat (first | exact FarEq.bif u (FarEq.outs u) | (refine FarEq.updL u ?_) | (refine FarEq.upd u ?_))) (h1:=Kn.app Kn.nil (Kn.app (Kn.of rfl) (Kn.app (Kn.of rfl) (Kn.app Kn.nil (Kn.app (Kn.of rfl) (Kn.app (ac _ _ _) Kn.nil)))))) (h2:=⟨Z _ _ _,Kn.of rfl,Kn.of rfl,trivial⟩) (he:=⟨rfl,rfl,Go.AM.hs_ren (by simp) (by simp),rfl,rfl,congrArg some (V.ren_id _).symm,rfl,rfl,trivial⟩) (hh:=⟨⟨_,rfl,.varS rfl⟩,⟨_,rfl,.varS rfl⟩,⟨_,rfl,.arrS (by simp[b6])⟩,⟨_,rfl,.rarrS rfl⟩,⟨_,rfl,.arrS ?_⟩,trivial⟩);rw[map_set];rfl
   ·have ab:¬n∈pfR b:=χ hb;unfold dS at O;rw[φ ab] at O;dsimp only at O;refine aD (ag [] rfl ⟨i+1,ap,by dsimp only;omega,?_⟩);dsimp only;rw[O,hnout ab];exact slG (W _ _) (fun i hi=>GW.kf i hi) (h1:=Kn.app Kn.nil (Kn.app (Kn.of rfl) (Kn.app (Kn.of rfl) (Kn.app Kn.nil (Kn.app (Kn.of rfl) (Kn.app (ac _ _ _) Kn.nil)))))) (h2:=⟨Z _ _ _,Kn.of rfl,Kn.of rfl,trivial⟩)
  have ae:i=ns.length:=by
   have:¬(i:Int)<((aN nv).length:Int):=χ hb;omega
  subst ae;have hP:=aPa hok (le_refl ns.length) (aa _ (le_refl _)) (fun j hj=>aa j hj);have ah:=hhd _ (le_refl ns.length);rw[hput] at J ⊢;rw[aPd];generalize gSt sb b ns [p] ns.length=G at *;obtain⟨N,qs,tk⟩:=G;dsimp only at *;generalize qs.headD p=x at ah ⊢;subst ah;have hqx:q=sb x s b:=(List.singleton_inj.1 J).symm;subst hqx;have hca:=aW6 rs k af an anm nv N x F s b (fun p=>sb p s b) u hr hk (hok.subb x (hP x (by simp)));refine aL (aI mixed (ak 3 [] rfl (kv (caps:=[.vp 3 0]) (args:=[Go.AM.T s,.pa (aB b)]) hca ?_ (hin':=fL.app ⟨rfl,rfl,rfl,trivial⟩ (FarEq.all (by repeat (first | exact FarEq.raw u | (refine FarEq.updL u ?_) | (refine FarEq.upd u ?_))))) (hout':=a4f) (hok:=aJi u hr))));refine az ⟨.inl rfl,aFb u (FarEq.outs u) ⟨[],[],.nil,.nil,rfl⟩ (fun _ h=>by cases h) (W _ _).refs (fun i hi=>GW.kf i hi) (fun q J=>by rcases τ.1 J with J | J;exact(A4.1 (W ns p).plain) q J;exact(u.ok q J).2)⟩
end Go.Proofs.YtockgoadliilhaaGreatDoor
