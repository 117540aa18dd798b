/-
  Texts Ly1 to Lg10 in one.
-/
import Derived.Test.YtglfogjcijokpaaGreatDoorM7
open List (all_eq_true append_assoc append_nil cons_append filter_cons flatMap_append flatMap_cons flatten_cons foldl_append foldl_cons length_append length_cons length_drop length_eq_one_iff length_map length_nil length_pos_of_mem length_set length_take map_append map_cons map_map map_set mem_append mem_cons mem_cons_of_mem mem_cons_self mem_filter mem_flatMap mem_map mem_of_mem_take mem_singleton nil_append nodup_append nodup_cons nodup_nil set_cons_succ take_add_one take_append_drop take_length)
open Nat (add_assoc add_mul add_zero le_of_lt le_refl le_trans min_eq_left mul_le_mul_right mul_one sub_self sub_zero succ_mul zero_add zero_le)
namespace Go.Proofs.YtglfogjcijokpaaGreatDoor
open Go Go.AM
set_option maxRecDepth 20000
set_option maxHeartbeats 4000000
mutual
noncomputable def fL:Ty→List (Str×Ty)→Ty
 | .mk f n s a,ps=>
  if f=2 then(match ps.find? (fun p=>decide (p.1=s)) with | some p=>p.2 | none=>.mk f n s a)
  else if f=4 then .mk 4 0 [] (fW a ps)
  else if f=5 then .mk 5 0 (unN s (a.headD zTy) ps) (fW a (unP s (a.headD zTy) ps))
  else .mk f n s a
noncomputable def fW:List Ty→List (Str×Ty)→List Ty
 | [],_=>[]
 | t::l,ps=>fL t ps::fW l ps
end
structure PsOk (ps:List (Str×Ty)):Prop where
 nd:(ps.map (·.1)).Nodup
 ok:∀p∈ps,wfS p.2=true∧fvm p.2≤700000
 len:ps.length≤700000+1
theorem aOx:∀{ps:List (Str×Ty)}{s:Str}{u:Ty},(ps.map (·.1)).Nodup→(s,u)∈ps→ps.find? (fun p=>decide (p.1=s))=some (s,u)
 | p::ps,s,u,hn,h=>by
  rw[Al,Bt] at hn;rcases Ah.1 h with h | h
  ·subst h;rw[Cn (by simp)]
  ·have:¬p.1=s:=fun e=>hn.1 (Ad.2 ⟨_,h,e.symm⟩)
   rw[Co (by simpa using this)];exact aOx hn.2 h
theorem pA {ps:List (Str×Ty)}{s:Str}(h:¬s∈ps.map (·.1)):ps.find? (fun p=>decide (p.1=s))=none:=by
 rw[List.find?_eq_none];intro p hp hb;exact h (Ad.2 ⟨p,hp,by simpa using hb⟩)
theorem eO:∀(a b:List Str),a.Nodup→(∀x∈a,x∈b)→a.length≤b.length:=by
 intro a
 induction a with
 | nil=>intro b _ _;simp
 | cons x a I=>
  intro b hn hs;rw[Bt] at hn;have h1:=I (b.erase x) hn.2 fun y q=>(List.mem_erase_of_ne (by rintro rfl;exact hn.1 q)).2 (hs y (η _ q))
  have hx:=hs x φ;rw[List.length_erase_of_mem hx] at h1;have:=length_pos_of_mem hx;rw[Am];omega
theorem aUe {nm:Str}{body:Ty}{ps:List (Str×Ty)}(h:(ps.map (·.1)).Nodup):((unF nm body ps).map (·.1)).Nodup:=List.Sublist.nodup ((List.filter_sublist (l:=ps)).map _) h
theorem j8 {nm:Str}{body:Ty}{ps:List (Str×Ty)}{p:Str×Ty}:p∈unF nm body ps↔p∈ps∧¬p.1=nm∧p.1∈tfR body:=by
 unfold unF;rw[mem_filter,ε];simp
theorem aDm {nm:Str}{body:Ty}{ps:List (Str×Ty)}(h:(ps.map (·.1)).Nodup):(unF nm body ps).length≤(tfR body).length:=by
 have:=eO _ (tfR body) (aUe (nm:=nm) (body:=body) h) fun x hx=>by
  obtain⟨p,hp,rfl⟩:=Ad.1 hx;exact(j8.1 hp).2.2
 rwa [ζ] at this
theorem rD:∀{l:List (Str×Ty)},(∀p∈l,fvm p.2≤700000)→(unC l).length≤l.length*700000
 | [],_=>by simp[unC]
 | p::l,h=>by
  have h1:=rD (l:=l) fun q I=>h q (η _ I)
  have h2:=h p φ;have h3:=oY p.2;unfold unC at h1 ⊢;rw[Cg,Ab,Am,succ_mul];omega
theorem aOq {n:Int}{z:Str}:fvm (.mk 2 n z [])=1:=by
 rw[fvm,tfR,ξ rfl,aOp];rfl
theorem aKp {n:Int}{z:Str}:wfS (.mk 2 n z [])=true:=by
 rw[wfS,ψ (by decide),ψ (by decide),aI2];rfl
theorem PsOk.un {ps:List (Str×Ty)}(h:PsOk ps) (nm:Str) (body:Ty) (hb:fvm body≤700000):PsOk (unP nm body ps):=by
 have h1:=aUe (nm:=nm) (body:=body) h.nd;have h2:=aDm (nm:=nm) (body:=body) h.nd;have h3:=oY body;have h4:∀p∈unF nm body ps,wfS p.2=true∧fvm p.2≤700000:=fun p hp=>h.ok p (j8.1 hp).1
 unfold unP;split
 ·refine⟨?_,fun p hp=>?_,by rw[Ab];show _+1≤_;omega⟩
  ·rw[A6,C4];refine⟨h1,by simp,fun x hx y q=>?_⟩;have q:y=nm:=by simpa using q
   obtain⟨p,hp,rfl⟩:=Ad.1 hx;rw[q];exact(j8.1 hp).2.1
  ·rcases χ.1 hp with hp | hp
   ·exact h4 p hp
   ·rw[κ.1 hp];exact⟨aKp,by show fvm (.mk 2 0 _ [])≤_;rw[aOq];decide⟩
 ·exact⟨h1,h4,by omega⟩
theorem aV2 (hI:cE 540000000000):∀(k:Nat) (t:Ty),tn t≤k→wfS t=true→fvm t≤700000→∀ps,PsOk ps→wfS (fL t ps)=true∧aU Tryz.prog 28 [tyV t,bK (ps.map (·.1)),aZw (ps.map (·.2))] [] (tyV (fL t ps)) []:=by
 intro k
 induction k with
 | zero=>intro t h;have:=nM t;omega
 | succ k ih=>
 intro t h hw hf ps q;obtain⟨f,n,s,a⟩:=t;have J:=zI (tn (.mk f n s a)) (.mk f n s a) (le_refl _) hw;obtain⟨_,O,w4,w5,w0⟩:=sG hw;have W:∀u∈a,fvm u≤700000:=fun u hu=>le_trans (yW hu) hf
 rw[tn] at h;rw[fL];by_cases h2:f=2
 ·subst h2;rw[ξ rfl];have I:=aE4 (ps.map (·.1)) s (by rw[ζ];have:=q.len;omega);rcases wM s (ps.map (·.1)) 0 with⟨i,e1,Z⟩ | ⟨e1,Z⟩
  ·rw[Bo] at Z;obtain⟨⟨s',u⟩,hu,e3⟩:=Bp.1 Z;have e3:s'=s:=e3;subst e3;have hm:=δ hu;have hu':((ps.map (·.2)).map bH)[i]?=some (bH u):=bM bH (by rw[Bo,hu];rfl);obtain⟨g2,g3⟩:=q.ok _ hm;have ho:=zI (tn u) u (le_refl _) g2;rw[e1,Int.zero_add] at I;rw[aOx q.nd hm];refine⟨g2,?_⟩;dsimp only;refine bL (n:=48) tok Tryz.func28 rfl rfl rfl ?_;refine sg rfl (a8 (sg rfl (aC (sg rfl (aA rfl (fun _=>sk 3 rfl (kc I ?_)) nofun)))));refine kz 1 rfl (sg rfl (aA rfl (fun _=>skh 4 [(2,.row i (bH u))] rfl (kc ho ?_)) (fun hb=>absurd (Aa hb) (by omega))));exact kz 1 rfl (aF (rtC trw))
  ·rw[Z] at I;rw[pA e1];refine⟨hw,?_⟩;dsimp only;refine bL (n:=48) tok Tryz.func28 rfl rfl rfl ?_;refine sg rfl (a8 (sg rfl (aC (sg rfl (aA rfl (fun _=>sk 3 rfl (kc I ?_)) nofun)))));refine kz 1 rfl (sg rfl (aA rfl (fun hb=>absurd (θ hb) (by omega)) (fun _=>aD (sk 1 rfl (kc J ?_)))));exact kz 1 rfl (aF (rtC trw))
 rw[ψ h2];by_cases h4:f=4
 ·subst h4;obtain⟨rfl,rfl,u,v,rfl⟩:=w4 rfl;rw[tns,tns,tns] at h;obtain⟨a1,a4⟩:=ih u (by omega) (O u (by simp)) (W u (by simp)) ps q;obtain⟨b1,b4⟩:=ih v (by omega) (O v (by simp)) (W v (by simp)) ps q;rw[ξ rfl,fW,fW,fW];have cA:=aS8 (fL u ps) (fL v ps);generalize fL u ps=u' at *;generalize fL v ps=v' at *;have cA:aU Tryz.prog 65 [tyV u',tyV v'] [] (tyV (.mk 4 0 [] [u',v'])) []:=cA;refine⟨?_,?_⟩
  ·rw[wfS,ξ rfl,aI2,aI2,aI2,a1,b1];rfl
  ·refine bL (n:=48) tok Tryz.func28 rfl rfl rfl ?_;refine sg rfl (a8 (sg rfl (aC (sg rfl (aA rfl nofun (fun _=>sg rfl (aA rfl (fun _=>skh 6 [(2,.row 0 (bH u))] rfl (kc a4 ?_)) nofun)))))));refine ak 6 [(9,.row 1 (bH v))] rfl (kc b4 ?_);refine kc cA ?_;exact kz 1 rfl (aF (rtC trw))
 rw[ψ h4];by_cases h5:f=5
 ·subst h5;obtain⟨rfl,body,rfl⟩:=w5 rfl;rw[tns,tns] at h;have hwb:=O body (by simp);have Y:=W body (by simp);have hP:=q.un s body Y;obtain⟨a1,a4⟩:=ih body (by omega) hwb Y (unP s body ps) hP;rw[ξ rfl];show wfS (.mk 5 0 (unN s body ps) (fW [body] (unP s body ps)))=true∧aU Tryz.prog _ _ _ (tyV (.mk 5 0 (unN s body ps) (fW [body] (unP s body ps)))) _;rw[fW,fW];have hall:=aYx (unN s body ps) (fL body (unP s body ps)) (zI _ _ (le_refl _) a1);have hfl:=oY body;have hCl:∀l:List (Str×Ty),(∀p∈l,p∈ps)→l.length≤ps.length→(unC (unF s body l)).length≤540000000000:=fun l h1 h2=>by
   have h3:=rD (l:=unF s body l) fun p hp=>(q.ok p (h1 p (j8.1 hp).1)).2
   have h4:(unF s body l).length≤l.length:=List.length_filter_le _ _;have h5:=q.len;have h6:(unF s body l).length*700000≤(700000+1)*700000:=Ar _ (by omega);have h7:(700000+1)*700000≤540000000000:=by decide
   omega
  have hC1:=hCl ps (fun p hp=>hp) (le_refl _);have hU:(unC (unF s body ps)).length+(tfR body).length≤540000000000:=by
   have h3:=rD (l:=unF s body ps) fun p hp=>(q.ok p (j8.1 hp).1).2
   have h4:=aDm (nm:=s) (body:=body) q.nd;have h6:(unF s body ps).length*700000≤700000*700000:=Ar _ (by omega);have h7:700000*700000=490000000000:=by decide
   omega
  have cU:=aS6 s body (fL body (unP s body ps)) ps (by have:=q.len;omega) (pI _ body (le_refl _) hwb (le_trans Y (by decide))) (by omega) hall
   (fun p hp=>⟨pI _ p.2 (le_refl _) (q.ok p hp).1 (le_trans (q.ok p hp).2 (by decide)),le_trans (oY p.2) (le_trans (q.ok p hp).2 (by decide))⟩)
   ⟨hC1,fun i=>hCl (ps.take i) (fun p hp=>Br hp) (by rw[At];omega)⟩ (fun k hk=>hI k (by omega)) a4
  generalize fL body (unP s body ps)=b' at *;generalize unN s body ps=N at *;refine⟨?_,?_⟩
  ·rw[wfS,ψ (by decide),ξ rfl,aI2,aI2,a1];rfl
  ·refine bL (n:=48) tok Tryz.func28 rfl rfl rfl ?_;refine sg rfl (a8 (sg rfl (aC (sg rfl (aA rfl nofun (fun _=>sg rfl (aA rfl nofun (fun _=>sg rfl (aA rfl (fun _=>sk 3 rfl (kc cU ?_)) nofun)))))))));exact kz 1 rfl (aF (rtC trw))
 rw[ψ h5];refine⟨hw,?_⟩;refine bL (n:=48) tok Tryz.func28 rfl rfl rfl ?_;refine sg rfl (a8 (sg rfl (aC (sg rfl (aA rfl (fun hb=>absurd (θ hb) h2) (fun _=>sg rfl (aA rfl (fun hb=>absurd (θ hb) h4) (fun _=>sg rfl (aA rfl (fun hb=>absurd (θ hb) h5) (fun _=>aD (sk 1 rfl (kc J ?_))))))))))));exact kz 1 rfl (aF (rtC trw))
theorem aQ8 {nm:Str}{body:Ty}{ps:List (Str×Ty)}(h:∀p∈ps,p.1∈tfR body→p.1=nm):unN nm body ps=nm∧unP nm body ps=[]:=by
 have q:unF nm body ps=[]:=by
  unfold unF;rw[List.filter_eq_nil_iff];intro p hp hb;rw[ε] at hb;have h1:¬p.1=nm:=by simpa using hb.1
  exact h1 (h p hp (θ hb.2))
 have I:unC (unF nm body ps)=[]:=by rw[q];rfl
 exact⟨by unfold unN;rw[I,ψ (by simp)],by unfold unP;rw[I,ψ (by simp),q]⟩
theorem xM:∀(k:Nat) (t:Ty),tn t≤k→wfS t=true→∀ps:List (Str×Ty),(∀p∈ps,¬p.1∈tfR t)→fL t ps=t:=by
 intro k
 induction k with
 | zero=>intro t h;have:=nM t;omega
 | succ k J=>
 intro t h hw ps hp;obtain⟨f,n,s,a⟩:=t;obtain⟨_,I,W,Y,w0⟩:=sG hw;rw[tn] at h;rw[fL];by_cases h2:f=2
 ·subst h2
  rw[ξ rfl,pA fun hs=>by
   obtain⟨p,q,e⟩:=Ad.1 hs
   exact hp p q (by rw[tfR,ξ rfl,e];simp)]
 rw[ψ h2];by_cases h4:f=4
 ·subst h4;obtain⟨rfl,rfl,u,v,rfl⟩:=W rfl;rw[tns,tns,tns] at h;rw[ξ rfl,fW,fW,fW,J u (by omega) (I u (by simp)) ps fun p q hx=>hp p q (aWs hx),J v (by omega) (I v (by simp)) ps fun p q hx=>hp p q (aWr hx)]
 rw[ψ h4];by_cases h5:f=5
 ·subst h5;obtain⟨rfl,body,rfl⟩:=Y rfl;rw[tns,tns] at h;obtain⟨Z,e2⟩:=aQ8 (nm:=s) (body:=body) (ps:=ps) fun p q hx=>Classical.byContradiction fun O=>hp p q (a0u hx O)
  rw[ξ rfl];show Ty.mk 5 0 (unN s body ps) (fW [body] (unP s body ps))=_;rw[Z,e2,fW,fW,J body (by omega) (I body (by simp)) [] fun p q=>by cases q]
 rw[ψ h5]
theorem aV0 (q:cE 540000000000) (t:Ty) (hw:wfS t=true) (hf:fvm t≤700000):aU Tryz.prog 80 [tyV t] [] (tyV t) []:=by
 have h4:=(aV2 q (tn t) t (le_refl _) hw hf [] ⟨by simp,fun p hp=>(by cases hp),by simp⟩).2
 rw[xM (tn t) t (le_refl _) hw [] fun p hp=>by cases hp] at h4;refine bL (n:=5) tok Tryz.func80 rfl rfl rfl ?_;refine sg rfl (sk 1 rfl (kc h4 ?_));exact kz 1 rfl (aF (rtC trw))
theorem aLf {f:Int}{s:Str}{o:List Str}{x y:Str}(h:y∈iT f s o x):y∈o∨(y=x∧(¬f=5∨¬x=s)):=by
 unfold iT at h;split at h
 ·rename_i hx;rcases χ.1 h with h | h
  ·exact .inl h
  ·exact .inr ⟨κ.1 h,hx.2⟩
 ·exact .inl h
theorem aGj {f:Int}{s:Str}:∀{l o:List Str}{y:Str},y∈vK f s o l→y∈o∨(y∈l∧(¬f=5∨¬y=s))
 | [],_,_,h=>.inl h
 | x::l,o,y,h=>by
  rcases aGj (l:=l) (o:=iT f s o x) h with h | ⟨h,hs⟩
  ·rcases aLf h with h | ⟨rfl,hs⟩
   ·exact .inl h
   ·exact .inr ⟨φ,hs⟩
  ·exact .inr ⟨η _ h,hs⟩
theorem aGi {f:Int}{s:Str}:∀{l:List Ty}{o:List Str}{y:Str},y∈pT f s l o→y∈o∨∃u∈l,y∈tfR u∧(¬f=5∨¬y=s)
 | [],o,y,h=>by rw[pT] at h;exact .inl h
 | t::l,o,y,h=>by
  rw[pT] at h;rcases aGi h with h | ⟨u,hu,h⟩
  ·rcases aGj h with h | ⟨h,hs⟩
   ·exact .inl h
   ·exact .inr ⟨t,φ,h,hs⟩
  ·exact .inr ⟨u,η _ hu,h⟩
theorem aGg {f:Int}{s:Str}:∀{l:List Ty}{o:List Str}{y:Str},y∈o→y∈pT f s l o
 | [],o,y,h=>by rw[pT];exact h
 | t::l,o,y,h=>by rw[pT];exact aGg (rH h)
theorem aGh {f:Int}{s:Str}:∀{l:List Ty}{o:List Str}{u:Ty}{y:Str},u∈l→y∈tfR u→(¬f=5∨¬y=s)→y∈pT f s l o
 | t::l,o,u,y,h,q,hs=>by
  rw[pT];rcases Ah.1 h with rfl | h
  ·exact aGg (oH q hs)
  ·exact aGh h q hs
theorem sL {f n:Int}{s:Str}{a:List Ty}{y:Str}(h2:¬f=2) (h:y∈tfR (.mk f n s a)):∃u∈a,y∈tfR u∧(¬f=5∨¬y=s):=by
 rw[tfR,ψ h2] at h;rcases aGi h with h | h
 ·cases h
 ·exact h
theorem sM {f n:Int}{s:Str}{a:List Ty}{u:Ty}{y:Str}(h2:¬f=2) (hu:u∈a) (q:y∈tfR u) (hs:¬f=5∨¬y=s):y∈tfR (.mk f n s a):=by
 rw[tfR,ψ h2];exact aGh hu q hs
theorem aRf {f:Int}{s:Str}{o:List Str}{x:Str}(h:o.Nodup):(iT f s o x).Nodup:=by
 unfold iT;split
 ·rename_i hx;rw[C4];exact⟨h,by simp,fun a ha b hb e=>by rw[κ.1 hb] at e;subst e;exact hx.1 ha⟩
 ·exact h
theorem aLi {f:Int}{s:Str}:∀{l o:List Str},o.Nodup→(vK f s o l).Nodup
 | [],_,h=>h
 | x::l,o,h=>aLi (l:=l) (o:=iT f s o x) (aRf h)
theorem aLc {f:Int}{s:Str}:∀{l:List Ty}{o:List Str},o.Nodup→(pT f s l o).Nodup
 | [],o,h=>by rw[pT];exact h
 | t::l,o,h=>by rw[pT];exact aLc (aLi h)
theorem aLa (t:Ty):(tfR t).Nodup:=by
 obtain⟨f,n,s,a⟩:=t;rw[tfR];split
 ·simp
 ·exact aLc nodup_nil
theorem iH (l:List Str):¬b6 l∈l:=qE l
theorem aWq {l:List (Str×Ty)}{x:Str}:x∈unC l↔∃p∈l,x∈tfR p.2:=by
 unfold unC;rw[Bw]
theorem aK7:∀(k:Nat) (t:Ty),tn t≤k→wfS t=true→∀(ps:List (Str×Ty)) (x:Str),x∈tfR (fL t ps)→(x∈tfR t∧¬x∈ps.map (·.1))∨∃p∈ps,p.1∈tfR t∧x∈tfR p.2:=by
 intro k
 induction k with
 | zero=>intro t h;have:=nM t;omega
 | succ k ih=>
 intro t h hw ps x hx;obtain⟨f,n,s,a⟩:=t;obtain⟨_,Z,w4,w5,w0⟩:=sG hw;rw[tn] at h;rw[fL] at hx;by_cases h2:f=2
 ·subst h2;rw[ξ rfl] at hx;have hs:s∈tfR (.mk 2 n s a):=by rw[tfR,ξ rfl];simp
  cases J:ps.find? (fun p=>decide (p.1=s)) with
  | some p=>
   rw[J] at hx;have h1:p.1=s:=by simpa using List.find?_some J
   exact .inr ⟨p,List.mem_of_find?_eq_some J,by rw[h1];exact hs,hx⟩
  | none=>
   rw[J] at hx;refine .inl ⟨hx,fun hm=>?_⟩;have W:x=s:=by
    have hx:x∈tfR (.mk 2 n s a):=hx;rw[tfR,ξ rfl] at hx;simpa using hx
   obtain⟨p,hp,e⟩:=Ad.1 hm;have:=List.find?_eq_none.1 J p hp;rw[e,W] at this;simp at this
 rw[ψ h2] at hx;by_cases h4:f=4
 ·subst h4;obtain⟨rfl,rfl,u,v,rfl⟩:=w4 rfl;rw[tns,tns,tns] at h;rw[ξ rfl,fW,fW,fW] at hx;obtain⟨w,O,q,_⟩:=sL (by decide) hx;have key:∀Y,Y∈[u,v]→x∈tfR (fL Y ps)→tn Y≤k→(x∈tfR (.mk 4 0 [] [u,v])∧¬x∈ps.map (·.1))∨∃p∈ps,p.1∈tfR (.mk 4 0 [] [u,v])∧x∈tfR p.2:=fun Y aa hxu hk=>by
   rcases ih Y hk (Z Y aa) ps x hxu with⟨h1,h2⟩ | ⟨p,hp,h1,h2⟩
   ·exact .inl ⟨sM (by decide) aa h1 (.inl (by decide)),h2⟩
   ·exact .inr ⟨p,hp,sM (by decide) aa h1 (.inl (by decide)),h2⟩
  rcases Ah.1 O with rfl | O
  ·exact key u (by simp) q (by omega)
  ·rw[κ.1 O] at q;exact key v (by simp) q (by omega)
 rw[ψ h4] at hx;by_cases h5:f=5
 ·subst h5;obtain⟨rfl,body,rfl⟩:=w5 rfl;rw[tns,tns] at h;rw[ξ rfl] at hx;have hx:x∈tfR (.mk 5 0 (unN s body ps) (fW [body] (unP s body ps))):=hx;rw[fW,fW] at hx;obtain⟨w,O,q,I⟩:=sL (by decide) hx;rw[κ.1 O] at q;have I:¬x=unN s body ps:=I.resolve_left (fun h=>h rfl);by_cases hc:s∈unC (unF s body ps)
  ·have eN:unN s body ps=b6 (unC (unF s body ps)++tfR body):=by unfold unN;rw[ξ hc]
   have eP:unP s body ps=unF s body ps++[(s,.mk 2 0 (unN s body ps) [])]:=by unfold unP;rw[ξ hc]
   rcases ih body (by omega) (Z body (by simp)) (unP s body ps) x q with⟨h1,h2⟩ | ⟨p,hp,h1,h2⟩
   ·rw[eP] at h2;have W:¬x=s:=fun e=>h2 (by rw[e];simp)
    refine .inl ⟨sM (by decide) φ h1 (.inr W),fun hm=>h2 ?_⟩;obtain⟨p,hp,e⟩:=Ad.1 hm;rw[A6];exact χ.2 (.inl (Ad.2 ⟨p,j8.2 ⟨hp,by rw[e];exact W,by rw[e];exact h1⟩,e⟩))
   ·rw[eP] at hp;rcases χ.1 hp with hp | hp
    ·obtain⟨g1,g2,g3⟩:=j8.1 hp;exact .inr ⟨p,g1,sM (by decide) φ g3 (.inr g2),h2⟩
    ·rw[κ.1 hp] at h2;have h2:x∈tfR (.mk 2 0 (unN s body ps) []):=h2;rw[tfR,ξ rfl] at h2;exact absurd (κ.1 h2) I
  ·have eN:unN s body ps=s:=by unfold unN;rw[ψ hc]
   have eP:unP s body ps=unF s body ps:=by unfold unP;rw[ψ hc]
   rw[eN] at I;rcases ih body (by omega) (Z body (by simp)) (unP s body ps) x q with⟨h1,h2⟩ | ⟨p,hp,h1,h2⟩
   ·rw[eP] at h2;refine .inl ⟨sM (by decide) φ h1 (.inr I),fun hm=>h2 ?_⟩;obtain⟨p,hp,e⟩:=Ad.1 hm;exact Ad.2 ⟨p,j8.2 ⟨hp,by rw[e];exact I,by rw[e];exact h1⟩,e⟩
   ·rw[eP] at hp;obtain⟨g1,g2,g3⟩:=j8.1 hp;exact .inr ⟨p,g1,sM (by decide) φ g3 (.inr g2),h2⟩
 rw[ψ h5] at hx;rw[w0 h4 h5] at hx;obtain⟨u,hu,_⟩:=sL h2 hx;cases hu
structure Alg where
 z:Nat
 j:Nat→Nat→Nat
 u:Str→Nat→Nat
 b:Str→Nat→Nat
 jm:∀{x x' y y':Nat},x≤x'→y≤y'→j x y≤j x' y'
 um:∀{s:Str} {x x':Nat},x≤x'→u s x≤u s x'
 bm:∀{s:Str} {x x':Nat},x≤x'→b s x≤b s x'
 ul:∀{s s':Str} {x:Nat},s.length≤30→u s x≤u s' x
def gT (ρ:Str→Nat) (s:Str) (v:Nat):Str→Nat:=fun x=>if x=s then v else ρ x
mutual
def tW (A:Alg):Ty→(Str→Nat)→Nat
 | .mk f _ s a,ρ=>if f=2 then ρ s else if f=5 then A.u s (tWs A a (gT ρ s A.z)) else A.b s (tWs A a ρ)
def tWs (A:Alg):List Ty→(Str→Nat)→Nat
 | [],_=>0
 | t::l,ρ=>A.j (tW A t ρ) (tWs A l ρ)
end
theorem sP {A:Alg}:∀{l:List Ty}{ρ ρ':Str→Nat},(∀u∈l,tW A u ρ=tW A u ρ')→tWs A l ρ=tWs A l ρ'
 | [],_,_,_=>by rw[tWs,tWs]
 | t::l,ρ,ρ',h=>by rw[tWs,tWs,h t φ,sP fun u hu=>h u (η _ hu)]
theorem j3 {A:Alg}:∀(k:Nat) (t:Ty),tn t≤k→∀{ρ ρ':Str→Nat},(∀x∈tfR t,ρ x=ρ' x)→tW A t ρ=tW A t ρ'
 | 0,t,h,_,_,_=>by have:=nM t;omega
 | k+1,.mk f n s a,h,ρ,ρ',hx=>by
  rw[tn] at h;rw[tW,tW];by_cases h2:f=2
  ·rw[ξ h2,ξ h2];exact hx s (by rw[tfR,ξ h2];simp)
  rw[ψ h2,ψ h2];by_cases h5:f=5
  ·rw[ξ h5,ξ h5,sP fun u hu=>j3 k u (by have:=nZ hu;omega) fun x q=>?_];unfold gT;by_cases e:x=s
   ·rw[ξ e,ξ e]
   ·rw[ψ e,ψ e];exact hx x (sM h2 hu q (.inr e))
  ·rw[ψ h5,ψ h5,sP fun u hu=>j3 k u (by have:=nZ hu;omega) fun x q=>hx x (sM h2 hu q (.inl h5))]
mutual
theorem aDw {A:Alg}:∀(t:Ty) {ρ ρ':Str→Nat},(∀x,ρ x≤ρ' x)→tW A t ρ≤tW A t ρ'
 | .mk f n s a,ρ,ρ',h=>by
  rw[tW,tW];split
  ·exact h s
  ·split
   ·refine A.um (xO a fun x=>?_);unfold gT;split
    ·exact le_refl _
    ·exact h x
   ·exact A.bm (xO a h)
theorem xO {A:Alg}:∀(l:List Ty) {ρ ρ':Str→Nat},(∀x,ρ x≤ρ' x)→tWs A l ρ≤tWs A l ρ'
 | [],_,_,_=>by rw[tWs];exact Ak _
 | t::l,ρ,ρ',h=>by rw[tWs,tWs];exact A.jm (aDw t h) (xO l h)
end
def aL2 (A:Alg) (ρ:Str→Nat) (ps:List (Str×Ty)):Str→Nat:=fun x=>match ps.find? (fun p=>decide (p.1=x)) with | some p=>tW A p.2 ρ | none=>ρ x
theorem uB {nm:Str}{body:Ty}{x:Str}(hx:¬x=nm) (hb:x∈tfR body):∀ps:List (Str×Ty),(unF nm body ps).find? (fun p=>decide (p.1=x))=ps.find? (fun p=>decide (p.1=x))
 | []=>rfl
 | p::ps=>by
  have q:=uB hx hb ps;by_cases e:p.1=x
  ·have hk:(!decide (p.1=nm)&&decide (p.1∈tfR body))=true:=by rw[e,Ae hx,Af hb];rfl
   unfold unF;rw[List.filter_cons_of_pos (p:=fun p:Str×Ty=>!decide (p.1=nm)&&decide (p.1∈tfR body)) hk,Cn (by simpa using e),Cn (by simpa using e)]
  ·rw[Co (by simpa using e),←q];unfold unF;rw[Cu];split
   ·rw[Co (by simpa using e)]
   ·rfl
theorem o9 (l:List Str) (h:l.length≤540000000000):(b6 l).length≤30:=le_trans (kI l h) (by decide)
theorem PsOk.unl {ps:List (Str×Ty)}(h:PsOk ps) {nm:Str}{body:Ty}(hb:fvm body≤700000):(unC (unF nm body ps)++tfR body).length≤540000000000:=by
 have h3:=rD (l:=unF nm body ps) fun p hp=>(h.ok p (j8.1 hp).1).2
 have h4:=aDm (nm:=nm) (body:=body) h.nd;have h5:=oY body;have q:(unF nm body ps).length*700000≤700000*700000:=Ar _ (by omega);rw[Ab];omega
theorem a0r (A:Alg):∀(k:Nat) (t:Ty),tn t≤k→wfS t=true→fvm t≤700000→∀(ps:List (Str×Ty)),PsOk ps→∀ρ,tW A (fL t ps) ρ≤tW A t (aL2 A ρ ps):=by
 intro k
 induction k with
 | zero=>intro t h;have:=nM t;omega
 | succ k ih=>
 intro t h hw hf ps I ρ;obtain⟨f,n,s,a⟩:=t;obtain⟨_,J,w4,w5,w0⟩:=sG hw;have O:∀u∈a,fvm u≤700000:=fun u hu=>le_trans (yW hu) hf
 rw[tn] at h;rw[fL];by_cases h2:f=2
 ·subst h2;rw[ξ rfl,tW,ξ rfl];unfold aL2;cases ps.find? (fun p=>decide (p.1=s)) with
  | some p=>exact le_refl _
  | none=>
   show tW A (.mk 2 n s a) ρ≤_;rw[tW,ξ rfl];exact le_refl _
 rw[ψ h2];by_cases h4:f=4
 ·subst h4;obtain⟨rfl,rfl,u,v,rfl⟩:=w4 rfl;rw[tns,tns,tns] at h;rw[ξ rfl,fW,fW,fW,tW,ψ (by decide),ψ (by decide),tW,ψ (by decide),ψ (by decide),tWs,tWs,tWs,tWs,tWs,tWs];exact A.bm (A.jm (ih u (by omega) (J u (by simp)) (O u (by simp)) ps I ρ) (A.jm (ih v (by omega) (J v (by simp)) (O v (by simp)) ps I ρ) (le_refl _)))
 rw[ψ h4];by_cases h5:f=5
 ·subst h5;obtain⟨rfl,body,rfl⟩:=w5 rfl;rw[tns,tns] at h;have W:=O body (by simp);rw[ξ rfl];show tW A (.mk 5 0 (unN s body ps) (fW [body] (unP s body ps))) ρ≤_;rw[fW,fW,tW,ψ (by decide),ξ rfl,tW,ψ (by decide),ξ rfl,tWs,tWs,tWs,tWs];have hi:=ih body (by omega) (J body (by simp)) W (unP s body ps) (I.un s body W) (gT ρ (unN s body ps) A.z);have hcg:tW A body (aL2 A (gT ρ (unN s body ps) A.z) (unP s body ps))=tW A body (gT (aL2 A ρ ps) s A.z):=by
   refine j3 (tn body) body (le_refl _) fun x hx=>?_
   have hout:∀p∈unF s body ps,¬unN s body ps∈tfR p.2:=fun p hp hin=>by
    have hm:unN s body ps∈unC (unF s body ps):=aWq.2 ⟨p,hp,hin⟩;unfold unN at hm;split at hm
    ·exact iH _ (χ.2 (.inl hm))
    ·rename_i hc;exact hc hm
   have Y:∀p∈unF s body ps,tW A p.2 (gT ρ (unN s body ps) A.z)=tW A p.2 ρ:=fun p hp=>j3 (tn p.2) p.2 (le_refl _) fun y hy=>by
    unfold gT;rw[ψ fun e=>hout p hp (by rw[←e];exact hy)]
   by_cases q:x=s
   ·subst q;have e2:gT (aL2 A ρ ps) x A.z x=A.z:=by unfold gT;rw[ξ rfl]
    rw[e2];have Z:¬x∈(unF x body ps).map (·.1):=fun hm=>by
     obtain⟨p,hp,e⟩:=Ad.1 hm;exact(j8.1 hp).2.1 e
    unfold aL2;by_cases hc:x∈unC (unF x body ps)
    ·have eP:unP x body ps=unF x body ps++[(x,.mk 2 0 (unN x body ps) [])]:=by unfold unP;rw[ξ hc]
     rw[eP,List.find?_append,pA Z];show(match (none:Option (Str×Ty)).or ([(x,Ty.mk 2 0 (unN x body ps) [])].find? fun p=>decide (p.1=x)) with | some p=>tW A p.2 (gT ρ (unN x body ps) A.z) | none=>gT ρ (unN x body ps) A.z x)=A.z;rw[Cn (by simp)];show tW A (.mk 2 0 (unN x body ps) []) (gT ρ (unN x body ps) A.z)=A.z;rw[tW,ξ rfl];unfold gT;rw[ξ rfl]
    ·have eP:unP x body ps=unF x body ps:=by unfold unP;rw[ψ hc]
     have eN:unN x body ps=x:=by unfold unN;rw[ψ hc]
     rw[eP,pA Z,eN];unfold gT;rw[ξ rfl]
   ·have e2:gT (aL2 A ρ ps) s A.z x=aL2 A ρ ps x:=by unfold gT;rw[ψ q]
    rw[e2];have aa:=uB (nm:=s) (body:=body) q hx ps;have hfP:(unP s body ps).find? (fun p=>decide (p.1=x))=ps.find? (fun p=>decide (p.1=x)):=by
     rw[←aa];unfold unP;split
     ·rw[List.find?_append,Co (by simpa using fun e=>q e.symm)];cases (unF s body ps).find? (fun p=>decide (p.1=x))<;>rfl
     ·rfl
    have hNx:¬x=unN s body ps:=fun e=>by
     unfold unN at e;split at e
     ·exact iH _ (χ.2 (.inr (by rw[←e];exact hx)))
     ·exact q e
    unfold aL2;rw[hfP];cases hfd:ps.find? (fun p=>decide (p.1=x)) with
    | some p=>
     have hp:p∈unF s body ps:=List.mem_of_find?_eq_some (aa.trans hfd);exact Y p hp
    | none=>
     show gT ρ (unN s body ps) A.z x=ρ x;unfold gT;rw[ψ hNx]
  rw[hcg] at hi;have hN:A.u (unN s body ps) (A.j (tW A (fL body (unP s body ps)) (gT ρ (unN s body ps) A.z)) 0)≤A.u s (A.j (tW A (fL body (unP s body ps)) (gT ρ (unN s body ps) A.z)) 0):=by
   generalize A.j (tW A (fL body (unP s body ps)) (gT ρ (unN s body ps) A.z)) 0=y;unfold unN;split
   ·exact A.ul (o9 _ (I.unl W))
   ·exact le_refl _
  exact le_trans hN (A.um (A.jm hi (le_refl _)))
 rw[ψ h5,tW,ψ h2,ψ h5,tW,ψ h2,ψ h5,w0 h4 h5,tWs,tWs];exact le_refl _
def kQ:Alg:=⟨0,max,fun _ x=>1+x,fun _ x=>x,fun h1 h2=>by omega,fun h=>by omega,fun h=>h,fun _=>le_refl _⟩
def r0:Str→Nat:=fun _=>0
theorem aLu (s:Str):gT r0 s 0=r0:=by
 funext x;unfold gT r0;split<;>rfl
theorem u9:∀(k:Nat) (t:Ty),tn t≤k→wfS t=true→fvm t≤(tfR t).length+tW kQ t r0
 | 0,t,h,_=>by have:=nM t;omega
 | k+1,.mk f n s a,h,hw=>by
  obtain⟨_,q,J,O,w0⟩:=sG hw;rw[tn] at h;by_cases h4:f=4
  ·subst h4;obtain⟨rfl,rfl,u,v,rfl⟩:=J rfl;rw[tns,tns,tns] at h;have h1:=u9 k u (by omega) (q u (by simp));have h2:=u9 k v (by omega) (q v (by simp));have e:tW kQ (.mk 4 0 [] [u,v]) r0=max (tW kQ u r0) (max (tW kQ v r0) 0):=by rw[tW,ψ (by decide),ψ (by decide),tWs,tWs,tWs];rfl
   have g1:=eO _ _ (aLa u) fun x hx=>sM (f:=4) (n:=0) (s:=[]) (a:=[u,v]) (by decide) (by simp) hx (.inl (by decide))
   have g2:=eO _ _ (aLa v) fun x hx=>sM (f:=4) (n:=0) (s:=[]) (a:=[u,v]) (by decide) (by simp) hx (.inl (by decide))
   rw[fvm,e,aOp,aOp,aOp];omega
  ·by_cases h5:f=5
   ·subst h5;obtain⟨rfl,body,rfl⟩:=O rfl;rw[tns,tns] at h;have h1:=u9 k body (by omega) (q body (by simp));have e:tW kQ (.mk 5 0 s [body]) r0=1+max (tW kQ body r0) 0:=by
     rw[tW,ψ (by decide),ξ rfl,tWs,tWs];show 1+max (tW kQ body (gT r0 s 0)) 0=_;rw[aLu]
    have g1:=eO _ (s::tfR (.mk 5 0 s [body])) (aLa body) fun x hx=>by
     by_cases I:x=s
     ·rw[I];exact φ
     ·exact η _ (sM (by decide) (by simp) hx (.inr I))
    rw[Am] at g1;rw[fvm,e,aOp,aOp];omega
   ·rw[fvm,w0 h4 h5,aOp];omega
def gm (c:Core):List (List (Str×List C)×List Core):=
 ((if c.form=5 then [(c.name,(aB c).drop 3)] else [])++c.binds.map (fun b=>(b.name,(b8 b).drop 1)),c.kids++c.binds.map Bind.body)::c.alts.map fun a=>(a.vars.map (fun v=>(v,[])),[a.body])
def gmG (g:List (Str×List C)×List Core):List (List C)×List Core:=(g.1.map rR,g.2)
theorem aBx (c:Core):gl c=(gm c).map gmG:=by
 obtain⟨f,n,s,t,ks,bs,al⟩:=c;unfold gl gm;rw[Al,Az];congr 1
 ·unfold gmG;rw[A6,Az];congr 2;unfold nm0;split<;>rfl
 ·congr 1;funext a;unfold gmG;simp only[Function.comp,Az];rfl
def pfG (G:List Str) (o:List Str) (s:Str):List Str:=if s∈G then o else qX o s
def pfP (G:List Str) (o l:List Str):List Str:=l.foldl (pfG G) o
def gvN (f:Int) (s:Str) (bs:List Bind):List Str:=(if f=5 then [s] else [])++bs.map Bind.name
mutual
def pfR:Core→List Str
 | .mk f _ s _ ks bs al=>if f=1 then [s] else oP al (oE (gvN f s bs) bs (lU (gvN f s bs) ks []))
def lU (G:List Str):List Core→List Str→List Str
 | [],o=>o
 | c::l,o=>lU G l (pfP G o (pfR c))
def oE (G:List Str):List Bind→List Str→List Str
 | [],o=>o
 | .mk _ _ c::l,o=>oE G l (pfP G o (pfR c))
def oP:List Alt→List Str→List Str
 | [],o=>o
 | .mk _ _ _ v c::l,o=>oP l (pfP v o (pfR c))
end
def pfL (G:List Str) (l:List Core) (o:List Str):List Str:=l.foldl (fun o c=>pfP G o (pfR c)) o
def pfM (L:List (List (Str×List C)×List Core)) (o:List Str):List Str:=L.foldl (fun o g=>pfL (g.1.map (·.1)) g.2 o) o
theorem aMu (G:List Str):∀(l:List Core) (o:List Str),lU G l o=pfL G l o
 | [],o=>by rw[lU];rfl
 | c::l,o=>by rw[lU,aMu G l];rfl
theorem aMv (G:List Str):∀(l:List Bind) (o:List Str),oE G l o=pfL G (l.map Bind.body) o
 | [],o=>by rw[oE];rfl
 | .mk s t c::l,o=>by rw[oE,aMv G l];rfl
theorem aMw:∀(l:List Alt) (o:List Str),oP l o=pfM (l.map fun a=>(a.vars.map (fun v=>(v,[])),[a.body])) o
 | [],o=>by rw[oP];rfl
 | .mk f n s v c::l,o=>by
  rw[oP,aMw l];have:(v.map (fun v=>((v,[]):Str×List C))).map (·.1)=v:=by rw[Az];exact List.map_id _
  show _=pfM _ (pfL ((v.map (fun v=>((v,[]):Str×List C))).map (·.1)) [c] o);rw[this];rfl
theorem a5r (c:Core) (h:¬c.form=1):pfR c=pfM (gm c) []:=by
 obtain⟨f,n,s,t,ks,bs,al⟩:=c;have h:¬f=1:=h;rw[pfR,ψ h,aMw,aMv,aMu];unfold gm;show _=pfM _ (pfL _ _ []);congr 1;unfold pfL;rw[Bv];have:gvN f s bs=(((if f=5 then [((s,(aB (.mk f n s t ks bs al)).drop 3):Str×List C)] else [])++bs.map (fun b=>(b.name,(b8 b).drop 1))).map (·.1)):=by
  unfold gvN;rw[A6,Az];congr 1;split<;>rfl
 rw[this];rfl
theorem aXo (G o:List Str) (s:Str):(pfG G o s).length≤o.length+1:=by
 unfold pfG;split
 ·omega
 ·exact aHf o s
theorem aEe (G o:List Str):∀l:List Str,(pfP G o l).length≤o.length+l.length:=by
 intro l
 induction l generalizing o with
 | nil=>exact le_refl _
 | cons s l q=>
  have h1:=q (pfG G o s);have h2:=aXo G o s;show(pfP G (pfG G o s) l).length≤_;rw[Am];omega
mutual
theorem aEd:∀c:Core,(pfR c).length≤aV c
 | .mk f n s t ks bs al=>by
  rw[pfR,aV];split
  ·simp;omega
  ·have h1:=aU3 (gvN f s bs) ks [];have h2:=aU4 (gvN f s bs) bs (lU (gvN f s bs) ks []);have h3:=aU5 al (oE (gvN f s bs) bs (lU (gvN f s bs) ks []));simp only[length_nil] at h1;omega
theorem aU3 (G:List Str):∀(l:List Core) (o:List Str),(lU G l o).length≤o.length+dJ l
 | [],o=>by rw[lU];omega
 | c::l,o=>by
  rw[lU,dJ];have h1:=aU3 G l (pfP G o (pfR c));have h2:=aEe G o (pfR c);have h3:=aEd c;omega
theorem aU4 (G:List Str):∀(l:List Bind) (o:List Str),(oE G l o).length≤o.length+iC l
 | [],o=>by rw[oE];omega
 | .mk s t c::l,o=>by
  rw[oE,iC,bsize];have h1:=aU4 G l (pfP G o (pfR c));have h2:=aEe G o (pfR c);have h3:=aEd c;omega
theorem aU5:∀(l:List Alt) (o:List Str),(oP l o).length≤o.length+iD l
 | [],o=>by rw[oP];omega
 | .mk f n s v c::l,o=>by
  rw[oP,iD,qJ];have h1:=aU5 l (pfP v o (pfR c));have h2:=aEe v o (pfR c);have h3:=aEd c;omega
end
theorem aR9 (G o:List Str) {l:List Str}{i:Nat}{s:Str}(h:l[i]?=some s):pfP G o (l.take (i+1))=pfG G (pfP G o (l.take i)) s:=by
 unfold pfP;rw[gS h,Bv];rfl
theorem aSb (G o:List Str) {l:List Core}{i:Nat}{c:Core}(h:l[i]?=some c):pfL G (l.take (i+1)) o=pfP G (pfL G (l.take i) o) (pfR c):=by
 unfold pfL;rw[gS h,Bv];rfl
theorem aSa (o:List Str) {l:List (List (Str×List C)×List Core)}{i:Nat}{g:List (Str×List C)×List Core}(h:l[i]?=some g):pfM (l.take (i+1)) o=pfL (g.1.map (·.1)) g.2 (pfM (l.take i) o):=by
 unfold pfM;rw[gS h,Bv];rfl
theorem wT:∀a b:List Core,dJ (a++b)=dJ a+dJ b
 | [],b=>by rw[A4,dJ,Ba]
 | x::a,b=>by rw[A9,dJ,dJ,wT a b,Ci]
inductive NFr:Core→Prop
 | mk {f n:Int} {s:Str} {t:Ty} {ks:List Core} {bs:List Bind} {al:List Alt} (h:(pfR (.mk f n s t ks bs al)).length≤570000000000)
   (hk:∀x∈ks,NFr x) (hb:∀x∈bs,NFr x.body) (ha:∀x∈al,NFr x.body):NFr (.mk f n s t ks bs al)
theorem NFr.of:∀(k:Nat) (c:Core),aV c≤k→aV c≤570000000000→NFr c
 | 0,c,h,_=>by have:=bG c;omega
 | k+1,.mk f n s t ks bs al,h,hs=>by
  obtain⟨q,I,J,_⟩:= @c6 f n s t ks bs al;exact .mk (le_trans (aEd _) hs) (fun x hx=>NFr.of k x (by have:=q x hx;omega) (by have:=q x hx;omega)) (fun x hx=>NFr.of k x.body (by have:=I x hx;omega) (by have:=I x hx;omega)) fun x hx=>NFr.of k x.body (by have:=J x hx;omega) (by have:=J x hx;omega)
theorem NFr.len {c:Core}(h:NFr c):(pfR c).length≤570000000000:=by cases h;assumption
theorem a55 {c:Core}(h:NFr c):∀g∈gm c,∀x∈g.2,NFr x:=by
 cases h with
 | @mk f n s t ks bs al h hk hb ha=>
  intro g q x hx;rcases Ah.1 q with rfl | q
  ·rcases χ.1 hx with hx | hx
   ·exact hk x hx
   ·obtain⟨b,I,rfl⟩:=Ad.1 hx;exact hb b I
  ·obtain⟨a,J,rfl⟩:=Ad.1 q;rw[κ.1 hx];exact ha a J
theorem aXv (o:List Str) (s:Str):o.length≤(qX o s).length:=by unfold qX;split<;>simp
theorem a10 (G o:List Str) (s:Str):o.length≤(pfG G o s).length:=by
 unfold pfG;split
 ·exact le_refl _
 ·exact aXv o s
theorem aMr (G:List Str):∀(l o:List Str),o.length≤(pfP G o l).length
 | [],_=>le_refl _
 | s::l,o=>le_trans (a10 G o s) (aMr G l (pfG G o s))
theorem aMs (G:List Str):∀(l:List Core) (o:List Str),o.length≤(pfL G l o).length
 | [],_=>le_refl _
 | c::l,o=>le_trans (aMr G (pfR c) o) (aMs G l (pfP G o (pfR c)))
theorem aU6:∀(L:List (List (Str×List C)×List Core)) (o:List Str),o.length≤(pfM L o).length
 | [],_=>le_refl _
 | g::L,o=>le_trans (aMs _ g.2 o) (aU6 L (pfL (g.1.map (·.1)) g.2 o))
theorem aXl (G o l:List Str) (k:Nat):(pfP G o (l.take k)).length≤(pfP G o l).length:=by
 have e:pfP G o l=pfP G (pfP G o (l.take k)) (l.drop k):=by
  unfold pfP;rw[←Bv,take_append_drop]
 rw[e];exact aMr _ _ _
theorem aXn (G:List Str) (l:List Core) (o:List Str) (k:Nat):(pfL G (l.take k) o).length≤(pfL G l o).length:=by
 have e:pfL G l o=pfL G (l.drop k) (pfL G (l.take k) o):=by
  unfold pfL;rw[←Bv,take_append_drop]
 rw[e];exact aMs _ _ _
theorem aXm (L:List (List (Str×List C)×List Core)) (o:List Str) (k:Nat):(pfM (L.take k) o).length≤(pfM L o).length:=by
 have e:pfM L o=pfM (L.drop k) (pfM (L.take k) o):=by
  unfold pfM;rw[←Bv,take_append_drop]
 rw[e];exact aU6 _ _
def aI1 (c:Core):Prop:=LC c→NFr c→aU Tryz.prog 133 [.pa (aB c)] [] (bK (pfR c)) []
theorem pJ (c:Core) (ih:∀x,aV x<aV c→aI1 x) (hlc:LC c) (hfl:NFr c):aU Tryz.prog 133 [.pa (aB c)] [] (ouV (pfR c)) [(500,ouO (pfR c))]:=by
 by_cases h1:c.form=1
 ·obtain⟨f,n,s,t,ks,bs,al⟩:=c;have h1:f=1:=h1;subst h1;rw[pfR,ξ rfl];refine bL (n:=51) tok Tryz.func133 rfl rfl rfl ?_;exact sg rfl (a8 (sg rfl (aA rfl (fun _=>sgh [(2,.id 500)] rfl (aF rtT)) nofun)))
 have ac:aU Tryz.prog 40 [.one (.c (.pt (aB c)))] [] (.one (.c (.sl 2 (jH c)))) []:=by
  cases hlc with
  | mk a1 a2 a3=>exact uH _ a1 a2 a3
 have ad:=a5r c h1;have hin:∀g∈gm c,∀x∈g.2,aV x<aV c:=fun g W x hx=>aX6 (g:=gmG g) (by rw[aBx];exact Ad.2 ⟨g,W,rfl⟩) hx
 obtain⟨hgl,hgm⟩:=a2m hlc;rw[aBx,ζ] at hgl;have ae:∀g∈gm c,(g.2.length≤570000000000∧g.1.length≤570000000000)∧∀x∈g.2,LC x:=fun g W=>by
  have:=hgm (gmG g) (by rw[aBx];exact Ad.2 ⟨g,W,rfl⟩);unfold gmG at this;rw[ζ] at this;exact this
 have hgF:=a55 hfl;have hgc:(pfM (gm c) []).length≤570000000000:=by rw[←ad];exact hfl.len
 rw[mQ,aBx,Az] at ac;rw[ad];clear ad hgm;generalize gm c=L at ac hin hgl ae hgc hgF ⊢;have hkL:(L.map (iG∘gmG)).length=L.length:=ζ _;refine bL (n:=51) tok Tryz.func133 rfl rfl rfl ?_;refine sg rfl (a8 (sg rfl (aA rfl (fun hb=>absurd (θ hb) h1) (fun _=>aD (sg rfl (AWp.sub (Sub.fvar (id:=1) (l:=aB c) rfl (by simp[keys])) ?_))))));refine AWp.sub (st2:=mk [(1,.one (.c (.pt (aB c)))),(3,.one (.c .nl))] []) sl ?_;refine AWp.sub (Sub.own (t:=3) (id:=500) 9 1 rfl rfl) ?_;refine a8 (a8 (aE mixed (kc ac ?_)));refine kz 2 rfl (aC (aO (fun i:Nat=>mk [(3,ouV (pfM (L.take i) [])),(16,.one (.c (.sl 2 (L.map (iG∘gmG))))),(17,I .i64 ((L.map (iG∘gmG)).length:Int)),(18,I .i64 i)] [(500,ouO (pfM (L.take i) []))]) (fun i=>i≤L.length) (fun i=>L.length-i) 0 (Ak _) sl ?_));intro i hi;refine sg rfl (a8 (aA rfl (fun hb=>?_) (fun hb=>?_)))
 ·have hlt:=ltD hb hkL;obtain⟨g,W⟩:=aL hlt;have hg':=bM (iG∘gmG) W;have ah:=δ W;obtain⟨⟨hl1,hl2⟩,hl3⟩:=ae g ah;have O:=aSa [] W;have hml:=aXm L [] (i+1);have ai:=hin g ah;have Y:=hgF g ah;have aj:(g.2.map fC).length=g.2.length:=ζ _;obtain⟨G1,G⟩:=g;have hg':(L.map (iG∘gmG))[i]?=some [.sl 1 (G1.map rR),.sl 1 (G.map fC)]:=hg';dsimp only at hl1 hl2 hl3 O aj ai Y;generalize hG0:G1.map (·.1)=G0 at O;rw[O] at hml;generalize pfM (L.take i) []=x0 at O hml ⊢;refine aD (a8 (aC (sgh [(0,.row i [.sl 1 (G1.map rR),.sl 1 (G.map fC)])] rfl (sg rfl (aC (aO (fun j:Nat=>mk [(3,ouV (pfL G0 (G.take j) x0)),(5,.one (.vp 5 0)),(16,.one (.c (.sl 2 (L.map (iG∘gmG))))),(17,I .i64 ((L.map (iG∘gmG)).length:Int)),(18,I .i64 i),(23,.one (.c (.sl 1 (G.map fC)))),(24,I .i64 ((G.map fC).length:Int)),(25,I .i64 j)] [(5,.var 95 [.c (.sl 1 (G1.map rR)),.c (.sl 1 (G.map fC))]),(500,ouO (pfL G0 (G.take j) x0))]) (fun j=>j≤G.length) (fun j=>G.length-j) 0 (Ak _) sl ?_))))));intro j hj;refine sg rfl (a8 (aA rfl (fun hb=>?_) (fun hb=>?_)))
  ·have hlt2:=ltD hb aj;obtain⟨p,hp⟩:=aL hlt2;have hp':=bM fC hp;have ab:=δ hp;have hpc:=ai p ab;have hc:=ih p hpc (hl3 p ab) (Y p ab);have J:=aSb G0 x0 hp;have Z:=aXn G0 G x0 (j+1);have hple:=(Y p ab).len;rw[J] at Z;generalize pfL G0 (G.take j) x0=x1 at J Z ⊢;generalize pfR p=F at hc J hple Z;have hkF:(F.map bC).length=F.length:=ζ _;refine aD (a8 (aC (sgh [(0,.row j (fC p))] rfl (sgh [(3,.pc (bK F))] rfl (aC (aO (fun k:Nat=>mk [(3,ouV (pfP G0 x1 (F.take k))),(5,.one (.vp 5 0)),(16,.one (.c (.sl 2 (L.map (iG∘gmG))))),(17,I .i64 ((L.map (iG∘gmG)).length:Int)),(18,I .i64 i),(23,.one (.c (.sl 1 (G.map fC)))),(24,I .i64 ((G.map fC).length:Int)),(25,I .i64 j),(32,bK F),(33,I .i64 ((F.map bC).length:Int)),(34,I .i64 k)] [(5,.var 95 [.c (.sl 1 (G1.map rR)),.c (.sl 1 (G.map fC))]),(500,ouO (pfP G0 x1 (F.take k)))]) (fun k=>k≤F.length) (fun k=>F.length-k) 0 (Ak _) sl ?_))))));intro k hk;refine sg rfl (a8 (aA rfl (fun hb=>?_) (fun hb=>?_)))
   ·have aa:=ltD hb hkF;obtain⟨s,hs⟩:=aL aa;have hs':=bM bC hs;have q:=aR9 G0 x1 hs;have hml3:=aXl G0 x1 F k;generalize pfP G0 x1 (F.take k)=x2 at q hml3 ⊢;have hcp:=a3y G1 s (by omega);rw[hG0] at hcp;have hmo:=wW x2 [s] (by simp;omega);rw[show o6 x2 [s]=qX x2 s from rfl] at hmo;refine aD (a8 (aC (sgh [(0,.row k (bC s))] rfl (sk 3 rfl (kc hcp ?_)))));refine kz 1 rfl (aA rfl (fun hb=>?_) (fun hb=>?_))
    ·have hni:¬s∈G0:=by simpa using hb
     rw[pfG,ψ hni] at q;refine aE mixed (ak 3 [(2,.all)] rfl (kc hmo ?_));refine kz 1 rfl (ag [] rfl ⟨k+1,aa,by dsimp only;omega,?_⟩);dsimp only;rw[q];exact sl
    ·have hni:s∈G0:=by simpa using hb
     rw[pfG,ξ hni] at q;refine aD (ag [] rfl ⟨k+1,aa,by dsimp only;omega,?_⟩);dsimp only;rw[q];exact sl
   have hge3:=geD hb hkF hk;subst hge3;rw[As,←J];exact aM (ag [] rfl ⟨j+1,hlt2,by dsimp only;omega,sl⟩)
  have hge2:=geD hb aj hj;subst hge2;rw[As,←O];exact aM (ag [] rfl ⟨i+1,hlt,by dsimp only;omega,sl⟩)
 have hge:=geD hb hkL hi;subst hge;rw[As];exact aM (sg rfl (aF rtT))
theorem aCk (c:Core) (J:∀x,aV x<aV c→aI1 x):aI1 c:=fun q I=>(pJ c J q I).plain (ζ _).symm
theorem s9:∀(n:Nat) (c:Core),aV c≤n→aI1 c
 | 0,c,h=>by have:=bG c;omega
 | n+1,c,h=>aCk c fun x hx=>s9 n x (by omega)
theorem zJ (n:Nat) (c:Core) (h:aV c≤n) (hs:aV c≤570000000000):aU Tryz.prog 133 [.pa (aB c)] [] (bK (pfR c)) []:=s9 n c h (LC.of _ c (le_refl _) hs) (NFr.of _ c (le_refl _) hs)
def vC (z:Str):Core:=.mk 1 0 z zTy [] [] []
section
variable (sb:Core→Str→Core→Core)
noncomputable def dU (far:List Str) (st:List Str×List Core×List Str) (n:Str):List Str×List Core×List Str:=
 if n∈far then(st.1++[b6 st.2.2],st.2.1.map (fun p=>sb p n (vC (b6 st.2.2))),st.2.2++[b6 st.2.2]) else(st.1++[n],st.2.1,st.2.2)
noncomputable def jO (far:List Str) (ns:List Str) (st:List Str×List Core×List Str):List Str×List Core×List Str:=ns.foldl (dU sb far) st
def a1v (s:Str) (ns:List Str) (ps:List Core):Prop:=s∈ps.flatMap pfR∧¬s∈ns
open Classical in
noncomputable def cO (s:Str) (b:Core) (ns:List Str) (ps:List Core):List Str×List Core:=
 if a1v s ns ps then
  ((jO sb (pfR b) ns ([],ps,ps.flatMap pfR++ns++pfR b)).1,(jO sb (pfR b) ns ([],ps,ps.flatMap pfR++ns++pfR b)).2.1.map (fun p=>sb p s b))
 else(ns,ps)
end
def mkB:List Ty→List Str→List Core→List Bind
 | t::ts,n::ns,p::ps=>.mk n t p::mkB ts ns ps
 | _,_,_=>[]
section
variable {sb:Core→Str→Core→Core}
theorem oW {far:List Str}{st:List Str×List Core×List Str}{n:Str}:(dU sb far st n).1.length=st.1.length+1∧(dU sb far st n).2.1.length=st.2.1.length∧(dU sb far st n).2.2.length≤st.2.2.length+1:=by
 unfold dU;split<;>simp
theorem yV {far:List Str}:∀{ns:List Str}{st:List Str×List Core×List Str},(jO sb far ns st).1.length=st.1.length+ns.length∧(jO sb far ns st).2.1.length=st.2.1.length∧(jO sb far ns st).2.2.length≤st.2.2.length+ns.length
 | [],st=>by simp[jO]
 | n::ns,st=>by
  have h:=yV (far:=far) (ns:=ns) (st:=dU sb far st n);obtain⟨g1,g2,g3⟩:=oW (sb:=sb) (far:=far) (st:=st) (n:=n);unfold jO at h ⊢;rw[Ck,Am];omega
theorem aOl {far ns:List Str}{st:List Str×List Core×List Str}{i:Nat}{n:Str}(h:ns[i]?=some n):jO sb far (ns.take (i+1)) st=dU sb far (jO sb far (ns.take i) st) n:=by
 unfold jO;rw[Bh,h,Bv];rfl
theorem rN {s:Str}{b:Core}{ns:List Str}{ps:List Core}:(cO sb s b ns ps).1.length=ns.length∧(cO sb s b ns ps).2.length=ps.length:=by
 unfold cO;split
 ·obtain⟨h1,h2,_⟩:=yV (sb:=sb) (far:=pfR b) (ns:=ns) (st:=([],ps,ps.flatMap pfR++ns++pfR b));exact⟨by simpa using h1,by simpa using h2⟩
 ·exact⟨rfl,rfl⟩
end
def aJr (sb:Core→Core) (ps:List Core) (j:Nat):List Core:=(ps.take j).map sb++ps.drop j
theorem aSh {sb:Core→Core}{ps:List Core}{j:Nat}:(aJr sb ps j).length=ps.length:=by unfold aJr;simp;omega
theorem aXy {sb:Core→Core}{ps:List Core}{j:Nat}{p:Core}(h:ps[j]?=some p):(aJr sb ps j)[j]?=some p:=by
 have q:j<ps.length:=(τ.1 h).1
 unfold aJr;rw[A3 (by simp;omega),ζ,At,Ch (by omega),C6,An,B0,h]
theorem aNu {sb:Core→Core}{ps:List Core}{j:Nat}{p:Core}(h:ps[j]?=some p):aJr sb ps (j+1)=(aJr sb ps j).set j (sb p):=by
 have q:j<ps.length:=(τ.1 h).1
 unfold aJr;rw[qG h,sT (by simp;omega),Bh,h];simp
theorem aNt {sb:Core→Core}{ps:List Core}:aJr sb ps 0=ps:=by simp[aJr]
theorem aSi {sb:Core→Core}{ps:List Core}:aJr sb ps ps.length=ps.map sb:=by simp[aJr]
theorem r3 (l:List Core) (j:Nat) (x:Core):(aR l).set j (aB x)=aR (l.set j x):=by
 rw[bD,bD,map_set]
theorem wG:∀{ts:List Ty}{ns:List Str}{ps:List Core}{j:Nat}{t:Ty}{n:Str}{p:Core},ts[j]?=some t→ns[j]?=some n→ps[j]?=some p→(mkB ts ns ps)[j]?=some (.mk n t p)
 | t'::ts,q::ns,I::ps,0,t,n,p,h1,h2,h3=>by
  simp at h1 h2 h3;subst h1 h2 h3;rfl
 | t'::ts,q::ns,I::ps,j+1,t,n,p,h1,h2,h3=>by
  simp only[Bg] at h1 h2 h3;simp only[mkB,Bg];exact wG h1 h2 h3
theorem tY:∀{ts:List Ty}{ns:List Str}{ps:List Core},ns.length=ts.length→ps.length=ts.length→(mkB ts ns ps).length=ts.length
 | [],_,_,_,_=>by unfold mkB;rfl
 | t::ts,n::ns,p::ps,h1,h2=>by
  simp only[Am] at h1 h2;simp only[mkB,Am,tY (ts:=ts) (ns:=ns) (ps:=ps) (by omega) (by omega)]
theorem aHg:∀{ts:List Ty}{ns:List Str}{ps:List Core}{j:Nat}{t:Ty}{n:Str}(x:Core),ts[j]?=some t→ns[j]?=some n→j<ps.length→(mkB ts ns ps).set j (.mk n t x)=mkB ts ns (ps.set j x)
 | t'::ts,q::ns,I::ps,0,t,n,x,h1,h2,_=>by
  simp at h1 h2;subst h1 h2;rfl
 | t'::ts,q::ns,I::ps,j+1,t,n,x,h1,h2,h3=>by
  simp only[Bg] at h1 h2;simp only[mkB,Cp];rw[aHg x h1 h2 (by simpa using h3)]
theorem aHh:∀{ts:List Ty}{ns:List Str}{ps:List Core}{j:Nat}{t:Ty}{p:Core}(z:Str),ts[j]?=some t→ps[j]?=some p→j<ns.length→(mkB ts ns ps).set j (.mk z t p)=mkB ts (ns.set j z) ps
 | t'::ts,q::ns,I::ps,0,t,p,z,h1,h2,_=>by
  simp at h1 h2;subst h1 h2;rfl
 | t'::ts,q::ns,I::ps,j+1,t,p,z,h1,h2,h3=>by
  simp only[Bg] at h1 h2;simp only[mkB,Cp];rw[aHh z h1 h2 (by simpa using h3)]
theorem jW (l:List Bind) (j:Nat) (x:Bind):(aT l).set j (b8 x)=aT (l.set j x):=by
 rw[bN,bN,map_set]
theorem a2x {l:List Core}{j:Nat}{x:Core}(h:l[j]?=some x):(aR l)[j]?=some (aB x):=iI h
def grO (nG:List R) (pG:List R):AObj:=.var 95 [.ras nG.length 1 nG,.ras pG.length 1 pG]
def tH (tys:List Ty) (nk:Nat) (ns:List Str) (ps:List Core):List (Nat×AObj):=[(701,.arr 69 15 (aT (mkB tys ns (ps.drop nk))) 0),(702,.arr 34 10 (aR (ps.take nk)) 0)]
def tN (nb:Nat):List R:=(nR false nb nb).flatten
def tP (nk nb:Nat):List R:=(pR nk nb nb).flatten
theorem nB {es:Nat}:∀{l:List (List R)},(∀r∈l,r.length=es)→l.flatten.length=l.length*es
 | [],_=>by simp
 | r::l,h=>by
  rw[Bk,Ab,nB fun q I=>h q (η _ I),h r φ,Am,Av];omega
theorem aUj {nk nb:Nat}:(tP nk nb).length=nk+nb:=by unfold tP;rw[nB wC,aMy];omega
theorem aUl {nk nb j:Nat}(h:j<nk):((tP nk nb).drop (j*1)).take 1=[.ep 702 j 0 nk]:=eW wC j _ (aM0 h)
theorem aUk {nk nb j:Nat}(h:j<nb):((tP nk nb).drop ((nk+j)*1)).take 1=[.ep 701 j 5 nb]:=eW wC _ _ (aMz h)
theorem aLl {nb:Nat}:∀r∈nR false nb nb,r.length=1:=fun r q=>by
 unfold nR at q;exact sX (fun _=>rfl) r (by simpa [gNm] using q)
theorem a0x {nb:Nat}:(tN nb).length=nb:=by
 unfold tN;rw[nB aLl];unfold nR;rw[Ab,gU];simp[gNm]
theorem a0y {nb j:Nat}(h:j<nb):((tN nb).drop (j*1)).take 1=[.ep 701 j 0 nb]:=eW aLl j _ (by
 unfold nR;rw[A3 (by simp[gNm])];simp only[gNm,length_nil,sub_zero]
 exact aGx h)
theorem xP {nk nb:Nat}:∀x∈R.refsL (tP nk nb),x=701∨x=702:=fun x hx=>by
 unfold tP at hx;rw[dE] at hx;unfold pR at hx;rw[kB] at hx;rcases χ.1 hx with hx | hx
 ·exact .inr (mY (L:=fun x=>x=702) (fun j x hx=>by simpa [R.refsL,R.refs] using hx) _ x hx)
 ·exact .inl (mY (L:=fun x=>x=701) (fun j x hx=>by simpa [R.refsL,R.refs] using hx) _ x hx)
theorem aLk {nb:Nat}:∀x∈R.refsL (tN nb),x=701:=fun x hx=>by
 unfold tN at hx;rw[dE] at hx;unfold nR at hx;rw[kB] at hx;rcases χ.1 hx with hx | hx
 ·simp[gNm,bZ] at hx
 ·exact mY (L:=fun x=>x=701) (fun j x hx=>by simpa [R.refsL,R.refs] using hx) _ x hx
theorem aDx {nk nb:Nat}:∀x∈(grO (tN nb) (tP nk nb)).refs,x=701∨x=702:=fun x hx=>by
 have hx:x∈R.refsL (tN nb)++(R.refsL (tP nk nb)++[]):=hx;rw[A8] at hx;rcases χ.1 hx with hx | hx
 ·exact .inl (aLk x hx)
 ·exact xP x hx
abbrev tG (tys:List Ty) (nk:Nat) (ns:List Str) (ps:List Core):List (Nat×AObj):=(3,grO (tN tys.length) (tP nk tys.length))::tH tys nk ns ps
theorem tGW {tys:List Ty}{nk:Nat}{ns:List Str}{ps:List Core}:GW (tG tys nk ns ps) []:=⟨⟨fun _ h=>(by cases h),nodup_nil,fun _ h=>(by cases h)⟩,fun x hx=>by
 have hx:x∈(grO (tN tys.length) (tP nk tys.length)).refs++[]:=hx;rw[A8] at hx;rcases aDx x hx with rfl | rfl
 ·exact .inl (by simp[tG,tH,keys])
 ·exact .inl (by simp[tG,tH,keys]),rfl,rfl⟩
theorem aV6 (tys:List Ty) (nk:Nat) (ns:List Str) (ps:List Core) (nm:Str) (b:Core) (sb:Core→Core) (hn:ns.length=tys.length) (hp:ps.length=nk+tys.length) (hb:ps.length≤570000000000)
  (hs:∀p∈ps,aU Tryz.prog 99 [.pa (aB p),Go.AM.T nm,.pa (aB b)] [] (.pa (aB (sb p))) []):
  aU Tryz.prog 160 [Go.AM.T nm,.pa (aB b),.one (.vp 3 0)] (tG tys nk ns ps++[]) (.tup []) (tG tys nk ns (ps.map sb)++[]):=by
 have O:TF []:=tGW (tys:=tys) (nk:=nk) (ns:=ns) (ps:=ps).tf;have hpl:=aUj (nk:=nk) (nb:=tys.length);have J:∀x∈R.refsL (tP nk tys.length),Kn [(4,.var 34 (b7 b))] (tG tys nk ns ps) [] x:=fun x hx=>by
  rcases xP x hx with rfl | rfl
  ·exact .inr (.inl (by simp[tG,tH,keys]))
  ·exact .inr (.inl (by simp[tG,tH,keys]))
 refine uY O (n:=23) tok Tryz.func160 rfl rfl rfl ?_;refine sg rfl (sg rfl (aC (aO (fun j:Nat=>mkt [(0,Go.AM.T nm),(2,.one (.vp 3 0)),(4,.one (.vp 4 0)),(8,.one (.ras (tP nk tys.length).length 1 (tP nk tys.length))),(9,I .i64 (((tP nk tys.length).length:Nat):Int)),(10,I .i64 j)] ([(4,.var 34 (b7 b))]++tG tys nk ns (aJr sb ps j)) []) (fun j=>j≤(tP nk tys.length).length) (fun j=>(tP nk tys.length).length-j) 0 (Ak _) ?_ ?_)))
 ·rw[aNt];exact slG tGW (h1:=Kn.app Kn.nil (Kn.app (Kn.of rfl) (Kn.app (Kn.of rfl) (Kn.app J Kn.nil))))
 intro j hj;have J:∀ps',∀x∈R.refsL (tP nk tys.length),Kn [(4,.var 34 (b7 b))] (tG tys nk ns ps') [] x:=fun ps' x hx=>by
  rcases xP x hx with rfl | rfl
  ·exact .inr (.inl (by simp[tG,tH,keys]))
  ·exact .inr (.inl (by simp[tG,tH,keys]))
 refine sg rfl (a8 (aA rfl (fun hb=>?_) (fun hb=>?_)))
 ·have hlt:j<(tP nk tys.length).length:=by
   have:(j:Int)<((tP nk tys.length).length:Int):=θ hb;omega
  obtain⟨p,W⟩:=aL (show j<ps.length by omega);have hc:=hs p (δ W);have Y:=aXy (sb:=sb) W;have Z:=aNu (sb:=sb) W;have hml:=aSh (sb:=sb) (ps:=ps) (j:=j);generalize aJr sb ps j=qs at Y Z hml ⊢;have hsz1:nk=(aR (qs.take nk)).length:=by rw[bD,ζ,At];omega
  have hsz2:tys.length=(aT (mkB tys ns (qs.drop nk))).length:=by rw[bN,ζ,tY hn (by rw[B5];omega)]
  refine aD ?_;by_cases hjk:j<nk
  ·have ht1:=aUl (nb:=tys.length) hjk;have hrow:(aR (qs.take nk))[j]?=some (aB p):=a2x (by rw[Au,ξ hjk,Y]);refine a8 (aC (sgh [(0,.rowR j [.ep 702 j 0 nk])] rfl (aE mixed (ak 6 [(3,.row j (aB p))] rfl (kc hc ?_)))));refine ak 2 [(8,.row j (aB p))] rfl (az (ag [] rfl ⟨j+1,hlt,by dsimp only;omega,?_⟩));dsimp only;rw[Z];refine slG tGW (fun i hi=>GW.kf i hi) (h1:=Kn.app Kn.nil (Kn.app (Kn.of rfl) (Kn.app (Kn.of rfl) (Kn.app (J _) Kn.nil)))) (hh:=⟨⟨_,rfl,.varS rfl⟩,⟨_,rfl,.varS rfl⟩,⟨_,rfl,.arrS ?_⟩,⟨_,rfl,.arrS ?_⟩,trivial⟩)
   ·rw[List.drop_set_of_lt hjk]
   ·rw[List.take_set];exact r3 _ _ _
  ·obtain⟨q,rfl⟩:∃q,j=nk+q:=⟨j-nk,by omega⟩
   have hjb:q<tys.length:=by omega
   obtain⟨t,ht⟩:=aL hjb;obtain⟨n,hnn⟩:=aL (show q<ns.length by omega);have hd:(qs.drop nk)[q]?=some p:=by rw[An];exact Y
   have ht1:=aUk (nk:=nk) hjb;have hrow:(aT (mkB tys ns (qs.drop nk)))[q]?=some (b8 (.mk n t p)):=c9 (wG ht hnn hd);refine a8 (aC (sgh [(0,.rowR (nk+q) [.ep 701 q 5 tys.length])] rfl (aE mixed (ak 6 [(3,.row q (b8 (.mk n t p)))] rfl (kc hc ?_)))));refine ak 2 [(8,.row q (b8 (.mk n t p)))] rfl (az (ag [] rfl ⟨nk+q+1,hlt,by dsimp only;omega,?_⟩));dsimp only;rw[Z];refine slG tGW (fun i hi=>GW.kf i hi) (h1:=Kn.app Kn.nil (Kn.app (Kn.of rfl) (Kn.app (Kn.of rfl) (Kn.app (J _) Kn.nil)))) (hh:=⟨⟨_,rfl,.varS rfl⟩,⟨_,rfl,.varS rfl⟩,⟨_,rfl,.arrS ?_⟩,⟨_,rfl,.arrS ?_⟩,trivial⟩)
   ·rw[List.drop_set,ψ (by omega),Nat.add_sub_cancel_left,←aHg _ ht hnn (by rw[B5];omega),←jW];rfl
   ·rw[List.take_set_of_le (by omega)]
 have hge:j=ps.length:=by
  have:¬(j:Int)<((tP nk tys.length).length:Int):=Aa hb;omega
 subst hge;rw[aSi];refine aM ?_;exact⟨.inl rfl,aEu (hl:=tG tys nk ns (ps.map sb)) O (by repeat (first | exact FarEq.raw O | (refine FarEq.updL O ?_) | (refine FarEq.upd O ?_))) ⟨[],[],.nil,.nil,rfl⟩ (fun _ h=>by cases h) tGW.refs (fun i hi=>GW.kf i hi) (fun p hp=>by rcases χ.1 hp with hp | hp;exact(A5.1 (tGW (tys:=tys) (nk:=nk) (ns:=ns) (ps:=ps)).plain) p hp;cases hp)⟩
theorem uJ (s:Str):aU Tryz.prog 34 [Go.AM.T s] [] (.pa (aB (vC s))) []:=by
 refine bL (n:=5) tok Tryz.func34 rfl rfl rfl ?_;exact sg rfl (sg rfl (aF (rtC trw)))
theorem aYb {l:List Core}{j:Nat}{p:Core}(h:l[j]?=some p):(l.take (j+1)).flatMap pfR=(l.take j).flatMap pfR++pfR p:=by
 rw[Bh,h,flatMap_append];simp
theorem a2r (l:List Core) (j:Nat):((l.take j).flatMap pfR).length≤(l.flatMap pfR).length:=by
 have:l.flatMap pfR=(l.take j).flatMap pfR++(l.drop j).flatMap pfR:=by rw[←flatMap_append,take_append_drop]
 rw[this,Ab];omega
structure PutOk (sb:Core→Str→Core→Core) (P:Core→Prop) (s:Str) (b:Core) (ps:List Core):Prop where
 in_:∀p∈ps,P p
 free:∀p∈ps,aU Tryz.prog 133 [.pa (aB p)] [] (bK (pfR p)) []
 far:aU Tryz.prog 133 [.pa (aB b)] [] (bK (pfR b)) []
 ren:∀p n z,P p→z.length≤30→P (sb p n (vC z))
 subz:∀p n z,P p→z.length≤30→aU Tryz.prog 99 [.pa (aB p),Go.AM.T n,.pa (aB (vC z))] [] (.pa (aB (sb p n (vC z)))) []
 subb:∀p,P p→aU Tryz.prog 99 [.pa (aB p),Go.AM.T s,.pa (aB b)] [] (.pa (aB (sb p s b))) []
 itoa:cE 540000000000
noncomputable def gSt (sb:Core→Str→Core→Core) (b:Core) (ns:List Str) (ps:List Core) (i:Nat):List Str×List Core×List Str:=jO sb (pfR b) (ns.take i) ([],ps,ps.flatMap pfR++ns++pfR b)
noncomputable def gNs (sb:Core→Str→Core→Core) (b:Core) (ns:List Str) (ps:List Core) (i:Nat):List Str:=(gSt sb b ns ps i).1++ns.drop i
section
variable {sb:Core→Str→Core→Core}{b:Core}{ns:List Str}{ps:List Core}{i:Nat}{n:Str}
theorem iR (hi:i≤ns.length):(gSt sb b ns ps i).1.length=i∧(gSt sb b ns ps i).2.1.length=ps.length∧(gSt sb b ns ps i).2.2.length≤(ps.flatMap pfR++ns++pfR b).length+i:=by
 obtain⟨h1,h2,h3⟩:=yV (sb:=sb) (far:=pfR b) (ns:=ns.take i) (st:=([],ps,ps.flatMap pfR++ns++pfR b));rw[At,Ch hi] at h1 h3;exact⟨by unfold gSt;simpa using h1,h2,h3⟩
theorem aOj (hi:i≤ns.length):(gNs sb b ns ps i).length=ns.length:=by
 unfold gNs;rw[Ab,(iR hi).1,B5];omega
theorem aVp (h:ns[i]?=some n):(gNs sb b ns ps i)[i]?=some n:=by
 have q:i<ns.length:=(τ.1 h).1
 unfold gNs;rw[A3 (by rw[(iR (le_of_lt q)).1];exact le_refl _),(iR (le_of_lt q)).1,C6,An,B0,h]
theorem oX (h:ns[i]?=some n):gSt sb b ns ps (i+1)=dU sb (pfR b) (gSt sb b ns ps i) n:=aOl h
theorem aVo (h:ns[i]?=some n) (hf:n∈pfR b):gNs sb b ns ps (i+1)=(gNs sb b ns ps i).set i (b6 (gSt sb b ns ps i).2.2):=by
 have q:i<ns.length:=(τ.1 h).1
 have hl:=(iR (sb:=sb) (b:=b) (ps:=ps) (le_of_lt q)).1
 unfold gNs;rw[oX h,qG h,sT hl];unfold dU;rw[ξ hf];simp
theorem aOi (h:ns[i]?=some n) (hf:¬n∈pfR b):gNs sb b ns ps (i+1)=gNs sb b ns ps i:=by
 unfold gNs;rw[oX h,qG h];unfold dU;rw[ψ hf];simp
theorem aHz:gNs sb b ns ps 0=ns:=by unfold gNs gSt jO;simp
theorem yT:gSt sb b ns ps 0=([],ps,ps.flatMap pfR++ns++pfR b):=by unfold gSt jO;simp
theorem aOk:gNs sb b ns ps ns.length=(gSt sb b ns ps ns.length).1:=by unfold gNs;simp
theorem aOg:gSt sb b ns ps ns.length=jO sb (pfR b) ns ([],ps,ps.flatMap pfR++ns++pfR b):=by unfold gSt;rw[As]
theorem aOh {P:Core→Prop}{s:Str}(h:PutOk sb P s b ps):∀{i:Nat},i≤ns.length→(gSt sb b ns ps i).2.2.length≤540000000000→(∀j,j≤i→(gSt sb b ns ps j).2.2.length≤540000000000)→∀p∈(gSt sb b ns ps i).2.1,P p
 | 0,_,_,_=>by rw[yT];exact h.in_
 | i+1,hi,_,hb=>by
  obtain⟨n,hn⟩:=aL (show i<ns.length by omega);have I:=aOh h (i:=i) (by omega) (hb i (by omega)) fun j O=>hb j (by omega)
  rw[oX hn];unfold dU;split
  ·intro p hp;obtain⟨q,J,rfl⟩:=Ad.1 hp;exact h.ren q n _ (I q J) (le_trans (kI _ (hb i (by omega))) (by omega))
  ·exact I
end
def tkA (l:List Str):AObj:=.arr 9 1 (l.map bC) 2
def tkV (l:List Str):V:=.one (.hs 720 0 l.length l.length)
def gpV (nG pG:List R):V:=.ma [.ras nG.length 1 nG,.ras pG.length 1 pG]
theorem tHW {tys:List Ty}{nk:Nat}{ns:List Str}{ps:List Core}:GW (tH tys nk ns ps) []:=⟨tGW (tys:=tys) (nk:=nk) (ns:=ns) (ps:=ps).tf,fun x hx=>(by cases hx),rfl,rfl⟩
theorem aGl {tys:List Ty}{nk:Nat}{ns:List Str}{ps:List Core}{n:Str}{l:List C}:jJ ([Go.AM.T n,.pa l]++List.map V.one [R.vp 3 0]) (tG tys nk ns ps++[])=true:=by
 refine oB (tHW (tys:=tys) (nk:=nk) (ns:=ns) (ps:=ps)).tf (fun x hx=>.inl ?_) tGW.refs;have:x=3:=by simpa [V.refsL,V.refs,R.refs] using hx
 subst this;simp[tG,keys]
theorem a3j (tys:List Ty) (nk:Nat) (ns:List Str) (ps:List Core) (s:Str) (b:Core) (sb:Core→Str→Core→Core) (P:Core→Prop) (hn:ns.length=tys.length) (hp:ps.length=nk+tys.length) (hok:PutOk sb P s b ps)
  (hM:(ps.flatMap pfR).length+2*ns.length+(pfR b).length+ps.length≤540000000000):
  aU Tryz.prog 134 [gpV (tN tys.length) (tP nk tys.length),Go.AM.T s,.pa (aB b)] (tH tys nk ns ps++[]) (.tup []) (tH tys nk (cO sb s b ns ps).1 (cO sb s b ns ps).2++[]):=by
 have hF:TF []:=tHW (tys:=tys) (nk:=nk) (ns:=ns) (ps:=ps).tf;have hpl:=aUj (nk:=nk) (nb:=tys.length);have hnl:=a0x (nb:=tys.length);have hkp:∀ex W J,∀x∈R.refsL (tP nk tys.length),Kn ex (tH tys nk W J) [] x:=fun ex W J x hx=>by
  rcases xP x hx with rfl | rfl
  ·exact .inr (.inl (by simp[tH,keys]))
  ·exact .inr (.inl (by simp[tH,keys]))
 have hkn:∀ex W J,∀x∈R.refsL (tN tys.length),Kn ex (tH tys nk W J) [] x:=fun ex W J x hx=>by
  have:=aLk x hx;subst this;exact .inr (.inl (by simp[tH,keys]))
 have aa:∀ex W J,∀x∈(grO (tN tys.length) (tP nk tys.length)).refs,Kn ex (tH tys nk W J) [] x:=fun ex W J x hx=>by
  rcases aDx x hx with rfl | rfl
  ·exact .inr (.inl (by simp[tH,keys]))
  ·exact .inr (.inl (by simp[tH,keys]))
 have hsz1:∀J:List Core,J.length=ps.length→nk=(aR (J.take nk)).length:=fun J h=>by rw[bD,ζ,At];omega
 have hsz2:∀(W:List Str) (J:List Core),W.length=ns.length→J.length=ps.length→tys.length=(aT (mkB tys W (J.drop nk))).length:=fun W J h h'=>by rw[bN,ζ,tY (by omega) (by rw[B5];omega)]
 have hs1:=hsz1 ps rfl;have hs2:=hsz2 ns ps rfl rfl;refine uY hF (n:=92) tok Tryz.func134 rfl rfl rfl ?_;refine sg rfl (sg rfl (AWp.sub (Sub.own (t:=6) (id:=720) 9 1 rfl rfl) (AWp.sub (Sub.freeze (id:=720) rfl) ?_)));refine a8 (sg rfl (aC (aO (fun j:Nat=>mkt [(1,Go.AM.T s),(3,.one (.vp 3 0)),(5,.one (.vp 5 0)),(6,tkV ((ps.take j).flatMap pfR)),(17,.one (.ras (tP nk tys.length).length 1 (tP nk tys.length))),(18,I .i64 (((tP nk tys.length).length:Nat):Int)),(19,I .i64 j)] ([(3,grO (tN tys.length) (tP nk tys.length)),(5,.var 34 (b7 b)),(720,tkA ((ps.take j).flatMap pfR))]++tH tys nk ns ps) []) (fun j=>j≤(tP nk tys.length).length) (fun j=>(tP nk tys.length).length-j) 0 (Ak _) ?_ ?_)))
 ·exact slG tHW (h1:=Kn.app Kn.nil (Kn.app (Kn.of rfl) (Kn.app (Kn.of rfl) (Kn.app (Kn.of rfl) (Kn.app (hkp _ _ _) Kn.nil))))) (h2:=⟨aa _ _ _,Kn.of rfl,Kn.of rfl,trivial⟩)
 ·intro j hj;refine sg rfl (a8 (aA rfl (fun hb=>?_) (fun hb=>?_)))
  ·have hlt:j<(tP nk tys.length).length:=by
    have:(j:Int)<((tP nk tys.length).length:Int):=θ hb;omega
   obtain⟨p,Z⟩:=aL (show j<ps.length by omega);have hf:=hok.free p (δ Z);have hst:=aYb Z;have hl1:=a2r ps (j+1);rw[hst,Ab] at hl1;have hq1:(((ps.take j).flatMap pfR).map bC).length=((ps.take j).flatMap pfR).length:=ζ _;have hq2:((pfR p).map bC).length=(pfR p).length:=ζ _;generalize (ps.take j).flatMap pfR=q at hst hl1 hq1 ⊢;refine aD ?_;by_cases hjk:j<nk
   ·have ht1:=aUl (nb:=tys.length) hjk;have hrow:(aR (ps.take nk))[j]?=some (aB p):=a2x (by rw[Au,ξ hjk,Z]);refine a8 (aC (sgh [(0,.rowR j [.ep 702 j 0 nk])] rfl (aE mixed (ak 4 [(3,.row j (aB p))] rfl (kc hf ?_)))));refine kz 2 rfl (AWp.sub (Sub.freeze (id:=720) rfl) ?_);refine ag [] rfl ⟨j+1,hlt,by dsimp only;omega,?_⟩;dsimp only;rw[hst];exact slG tHW (h1:=Kn.app Kn.nil (Kn.app (Kn.of rfl) (Kn.app (Kn.of rfl) (Kn.app (Kn.of rfl) (Kn.app (hkp _ _ _) Kn.nil))))) (h2:=⟨aa _ _ _,Kn.of rfl,Kn.of rfl,trivial⟩) (he:=⟨rfl,rfl,rfl,Go.AM.hs_ren (by simp) (by simp),congrArg some (V.ren_id _).symm,rfl,rfl,trivial⟩) (hh:=⟨⟨_,rfl,.varS rfl⟩,⟨_,rfl,.varS rfl⟩,⟨_,rfl,.arrS (by simp)⟩,⟨_,rfl,.arr⟩,⟨_,rfl,.arr⟩,trivial⟩)
   ·obtain⟨j',rfl⟩:∃j',j=nk+j':=⟨j-nk,by omega⟩
    have ab:j'<tys.length:=by omega
    obtain⟨t,ht⟩:=aL ab;obtain⟨n,Y⟩:=aL (show j'<ns.length by omega);have hd:(ps.drop nk)[j']?=some p:=by rw[An];exact Z
    have ht1:=aUk (nk:=nk) ab;have hrow:(aT (mkB tys ns (ps.drop nk)))[j']?=some (b8 (.mk n t p)):=c9 (wG ht Y hd);refine a8 (aC (sgh [(0,.rowR (nk+j') [.ep 701 j' 5 tys.length])] rfl (aE mixed (ak 4 [(3,.row j' (b8 (.mk n t p)))] rfl (kc hf ?_)))));refine kz 2 rfl (AWp.sub (Sub.freeze (id:=720) rfl) ?_);refine ag [] rfl ⟨nk+j'+1,hlt,by dsimp only;omega,?_⟩;dsimp only;rw[hst];exact slG tHW (h1:=Kn.app Kn.nil (Kn.app (Kn.of rfl) (Kn.app (Kn.of rfl) (Kn.app (Kn.of rfl) (Kn.app (hkp _ _ _) Kn.nil))))) (h2:=⟨aa _ _ _,Kn.of rfl,Kn.of rfl,trivial⟩) (he:=⟨rfl,rfl,rfl,Go.AM.hs_ren (by simp) (by simp),congrArg some (V.ren_id _).symm,rfl,rfl,trivial⟩) (hh:=⟨⟨_,rfl,.varS rfl⟩,⟨_,rfl,.varS rfl⟩,⟨_,rfl,.arrS (by simp)⟩,⟨_,rfl,.arr⟩,⟨_,rfl,.arr⟩,trivial⟩)
  have hge:j=ps.length:=by
   have:¬(j:Int)<((tP nk tys.length).length:Int):=Aa hb;omega
  subst hge;rw[As];refine aM ?_;have hct:=bR (ps.flatMap pfR) s (by omega);refine a8 (sk 2 rfl (kc hct ?_));refine kz 1 rfl (aA rfl (fun hb=>?_) (fun hb=>?_))
  ·have hno:¬s∈ps.flatMap pfR:=by
    intro h;have hb:(!decide (s∈ps.flatMap pfR))=true:=hb;rw[Af h] at hb;cases hb
   have he:cO sb s b ns ps=(ns,ps):=by unfold cO;rw[ψ fun h=>hno h.1]
   rw[he];exact aF ⟨.inr rfl,aEu hF (by repeat (first | exact FarEq.raw hF | (refine FarEq.updL hF ?_) | (refine FarEq.upd hF ?_))) ⟨[],[],.nil,.nil,rfl⟩ (fun _ h=>by cases h) tHW.refs (fun i hi=>GW.kf i hi) (fun p hp=>by rcases χ.1 hp with hp | hp;exact(A5.1 (tHW (tys:=tys) (nk:=nk) (ns:=ns) (ps:=ps)).plain) p hp;cases hp)⟩
  have hin:s∈ps.flatMap pfR:=by
   have hb:(!decide (s∈ps.flatMap pfR))=false:=hb;by_cases h:s∈ps.flatMap pfR
   ·exact h
   ·rw[Ae h] at hb;cases hb
  refine aD (a8 (sg rfl (aC (aO (fun j:Nat=>mkt [(1,Go.AM.T s),(3,.one (.vp 3 0)),(5,.one (.vp 5 0)),(6,tkV (ps.flatMap pfR++ns.take j)),(35,.one (.ras (tN tys.length).length 1 (tN tys.length))),(36,I .i64 (((tN tys.length).length:Nat):Int)),(37,I .i64 j)] ([(3,grO (tN tys.length) (tP nk tys.length)),(5,.var 34 (b7 b)),(720,tkA (ps.flatMap pfR++ns.take j))]++tH tys nk ns ps) []) (fun j=>j≤(tN tys.length).length∧¬s∈ns.take j) (fun j=>(tN tys.length).length-j) 0 ⟨Ak _,by simp⟩ ?_ ?_))))
  ·exact slG tHW (h1:=Kn.app Kn.nil (Kn.app (Kn.of rfl) (Kn.app (Kn.of rfl) (Kn.app (Kn.of rfl) (Kn.app (hkn _ _ _) Kn.nil))))) (h2:=⟨aa _ _ _,Kn.of rfl,Kn.of rfl,trivial⟩) (he:=⟨rfl,rfl,rfl,Go.AM.hs_ren (by simp) (by simp),congrArg some (V.ren_id _).symm,rfl,rfl,trivial⟩) (hh:=⟨⟨_,rfl,.varS rfl⟩,⟨_,rfl,.varS rfl⟩,⟨_,rfl,.arrS (by simp)⟩,⟨_,rfl,.arr⟩,⟨_,rfl,.arr⟩,trivial⟩)
  rintro j ⟨hj,hnos⟩;refine sg rfl (a8 (aA rfl (fun hb=>?_) (fun hb=>?_)))
  ·have hlt:j<(tN tys.length).length:=by
    have:(j:Int)<((tN tys.length).length:Int):=θ hb;omega
   have ab:j<tys.length:=by omega
   obtain⟨t,ht⟩:=aL ab;obtain⟨n,Y⟩:=aL (show j<ns.length by omega);obtain⟨p,Z⟩:=aL (show nk+j<ps.length by omega);have hd:(ps.drop nk)[j]?=some p:=by rw[An];exact Z
   have ht1:=a0y ab;have hrow:(aT (mkB tys ns (ps.drop nk)))[j]?=some (b8 (.mk n t p)):=c9 (wG ht Y hd);have hstp:ns.take (j+1)=ns.take j++[n]:=by rw[Bh,Y];rfl
   have hq1:((ps.flatMap pfR++ns.take j).map bC).length=(ps.flatMap pfR++ns.take j).length:=ζ _;have hql:(ps.flatMap pfR++ns.take j).length≤540000000000:=by rw[Ab,At];omega
   refine aD (a8 (aC (sgh [(0,.rowR j [.ep 701 j 0 tys.length])] rfl (a8 (sgh [(2,.row j (b8 (.mk n t p)))] rfl (aA rfl (fun hb=>?_) (fun hb=>?_)))))))
   ·have hns:n=s:=θ hb;have he:cO sb s b ns ps=(ns,ps):=by
     unfold cO;rw[ψ fun h=>h.2 (hns▸δ Y)]
    rw[he];exact aF ⟨.inr rfl,aEu hF (by repeat (first | exact FarEq.raw hF | (refine FarEq.updL hF ?_) | (refine FarEq.upd hF ?_))) ⟨[],[],.nil,.nil,rfl⟩ (fun _ h=>by cases h) tHW.refs (fun i hi=>GW.kf i hi) (fun p hp=>by rcases χ.1 hp with hp | hp;exact(A5.1 (tHW (tys:=tys) (nk:=nk) (ns:=ns) (ps:=ps)).plain) p hp;cases hp)⟩
   have hns:¬n=s:=Aa hb;refine aD ?_;generalize ps.flatMap pfR=fm at *;rw[show fm++ns.take j=fm++ns.take j from rfl];generalize hq:fm++ns.take j=q at *;refine ag [(3,.row j (b8 (.mk n t p)))] rfl (AWp.sub (Sub.freeze (id:=720) rfl) ?_);refine ag [] rfl ⟨j+1,⟨hlt,?_⟩,by dsimp only;omega,?_⟩
   ·rw[hstp];intro h;rcases χ.1 h with h | h
    ·exact hnos h
    ·exact hns (κ.1 h).symm
   dsimp only;rw[hstp,←A0,hq];exact slG tHW (h1:=Kn.app Kn.nil (Kn.app (Kn.of rfl) (Kn.app (Kn.of rfl) (Kn.app (Kn.of rfl) (Kn.app (hkn _ _ _) Kn.nil))))) (h2:=⟨aa _ _ _,Kn.of rfl,Kn.of rfl,trivial⟩) (he:=⟨rfl,rfl,rfl,Go.AM.hs_ren (by simp) (by simp),congrArg some (V.ren_id _).symm,rfl,rfl,trivial⟩) (hh:=⟨⟨_,rfl,.varS rfl⟩,⟨_,rfl,.varS rfl⟩,⟨_,rfl,.arrS (by simp[bC,Bind.name])⟩,⟨_,rfl,.arr⟩,⟨_,rfl,.arr⟩,trivial⟩)
  have hge:j=ns.length:=by
   have:¬(j:Int)<((tN tys.length).length:Int):=Aa hb;omega
  subst hge;rw[As] at hnos ⊢;have hput:cO sb s b ns ps=((gSt sb b ns ps ns.length).1,(gSt sb b ns ps ns.length).2.1.map fun p=>sb p s b):=by
   unfold cO;rw[ξ ⟨hin,hnos⟩,aOg]
  have hql:(ps.flatMap pfR++ns).length≤540000000000:=by rw[Ab];omega
  have hq1:((ps.flatMap pfR++ns).map bC).length=(ps.flatMap pfR++ns).length:=ζ _;have hq2:((pfR b).map bC).length=(pfR b).length:=ζ _;have hfar:=hok.far;refine aM (sk 1 rfl (kc hfar ?_));refine kz 1 rfl ?_;have hlq:(ps.flatMap pfR++ns).length+(pfR b).length≤540000000000:=by rw[Ab];omega
  refine sg rfl (AWp.sub (Sub.freeze (id:=720) rfl) ?_);refine sg rfl (a8 (sg rfl (aC ?_)));have hall:∀i,i≤ns.length→(gSt sb b ns ps i).2.2.length≤540000000000:=fun i hi=>by
   have h1:=(iR (sb:=sb) (b:=b) (ps:=ps) hi).2.2
   simp only[Ab] at h1;omega
  refine aO (fun i:Nat=>mkt [(1,Go.AM.T s),(5,.one (.vp 5 0)),(6,tkV (gSt sb b ns ps i).2.2),(11,bK (pfR b)),(12,.one (.clo 160 [.vp 3 0])),(60,.one (.ras (tN tys.length).length 1 (tN tys.length))),(61,I .i64 (((tN tys.length).length:Nat):Int)),(62,I .i64 i)] ([(3,grO (tN tys.length) (tP nk tys.length)),(5,.var 34 (b7 b)),(720,tkA (gSt sb b ns ps i).2.2)]++tH tys nk (gNs sb b ns ps i) (gSt sb b ns ps i).2.1) []) (fun i=>i≤(tN tys.length).length) (fun i=>(tN tys.length).length-i) 0 (Ak _) ?_ ?_
  ·rw[yT,aHz];exact slG tHW (h1:=Kn.app Kn.nil (Kn.app (Kn.of rfl) (Kn.app (Kn.of rfl) (Kn.app Kn.nil (Kn.app (Kn.of rfl) (Kn.app (hkn _ _ _) Kn.nil)))))) (h2:=⟨aa _ _ _,Kn.of rfl,Kn.of rfl,trivial⟩) (he:=⟨rfl,rfl,Go.AM.hs_ren (by simp only[Ab,ζ]) (by simp only[Ab,ζ]),rfl,rfl,congrArg some (V.ren_id _).symm,rfl,rfl,trivial⟩) (hh:=⟨⟨_,rfl,.varS rfl⟩,⟨_,rfl,.varS rfl⟩,⟨_,rfl,.arrS (by simp)⟩,⟨_,rfl,.arr⟩,⟨_,rfl,.arr⟩,trivial⟩)
  intro i hi;have hle:i≤ns.length:=by omega
  refine sg rfl (a8 (aA rfl (fun hb=>?_) (fun hb=>?_)))
  ·have hlt:i<(tN tys.length).length:=by
    have:(i:Int)<((tN tys.length).length:Int):=θ hb;omega
   have ab:i<tys.length:=by omega
   obtain⟨t,ht⟩:=aL ab;obtain⟨n,Y⟩:=aL (show i<ns.length by omega);obtain⟨hg1,hg2,hg3⟩:=iR (sb:=sb) (b:=b) (ps:=ps) hle;have hgl:=aOj (sb:=sb) (b:=b) (ps:=ps) hle;have hga:=aVp (sb:=sb) (b:=b) (ps:=ps) Y;have hP:=aOh hok hle (hall i hle) (fun j hj=>hall j (by omega));have hs3:=hsz1 _ hg2;have hs4:=hsz2 _ _ hgl hg2;have O:=oX (sb:=sb) (b:=b) (ps:=ps) Y;have hnin:=aVo (sb:=sb) (b:=b) (ps:=ps) Y;have hnout:=aOi (sb:=sb) (b:=b) (ps:=ps) Y;have hall0:=hall i hle;have ht1:=a0y ab;have hcf:=bR (pfR b) n (by omega);have hcr:=zN (gSt sb b ns ps i).2.2 (by omega) fun k hk=>hok.itoa k (by omega)
   generalize gSt sb b ns ps i=G at *;generalize gNs sb b ns ps i=N at *;obtain⟨d0,qs,tk⟩:=G;dsimp only at *;obtain⟨p,Z⟩:=aL (show nk+i<qs.length by omega);have hd:(qs.drop nk)[i]?=some p:=by rw[An];exact Z
   have hrow:(aT (mkB tys N (qs.drop nk)))[i]?=some (b8 (.mk n t p)):=c9 (wG ht hga hd);refine aD (a8 (aC (sgh [(0,.rowR i [.ep 701 i 0 tys.length])] rfl (skh 4 [(3,.row i (b8 (.mk n t p)))] rfl (kc hcf ?_)))));refine az (aA rfl (fun hb=>?_) (fun hb=>?_))
   ·have hmem:n∈pfR b:=θ hb;have hnin:=hnin hmem;unfold dU at O;rw[ξ hmem] at O;dsimp only at O;have hz:(b6 tk).length≤30:=le_trans (kI _ hall0) (by omega);have hca:=aV6 tys nk N qs n (vC (b6 tk)) (fun p=>sb p n (vC (b6 tk))) (by omega) (by omega) (by omega) fun p hp=>hok.subz p n _ (hP p hp) hz
    have hcv:=uJ (b6 tk);have hqt:(tk.map bC).length=tk.length:=ζ _;generalize b6 tk=z at *;refine sk 1 rfl (kc hcr ?_);refine kz 1 rfl (sg rfl (AWp.sub (Sub.freeze (id:=720) rfl) ?_));refine skh 5 [(3,.row i (b8 (.mk n t p)))] rfl (kc hcv ?_);refine kv (caps:=[.vp 3 0]) (args:=[Go.AM.T n,.pa (aB (vC z))]) hca ?_ (hok:=aGl);refine az ?_;have hml:(qs.map fun p=>sb p n (vC z)).length=ps.length:=by rw[ζ];exact hg2
    have hd2:((qs.map fun p=>sb p n (vC z)).drop nk)[i]?=some (sb p n (vC z)):=by rw[An,Bo,Z];rfl
    have hrow2:(aT (mkB tys N ((qs.map fun p=>sb p n (vC z)).drop nk)))[i]?=some (b8 (.mk n t (sb p n (vC z)))):=c9 (wG ht hga hd2);have hs5:=hsz1 _ hml;have hs6:=hsz2 _ _ hgl hml;refine ag [(3,.row i (b8 (.mk n t (sb p n (vC z)))))] rfl (ag [] rfl ⟨i+1,hlt,by dsimp only;omega,?_⟩);dsimp only;rw[O,hnin];dsimp only;refine slG tHW (fun i hi=>GW.kf i hi) (h1:=Kn.app Kn.nil (Kn.app (Kn.of rfl) (Kn.app (Kn.of rfl) (Kn.app Kn.nil (Kn.app (Kn.of rfl) (Kn.app (hkn _ _ _) Kn.nil)))))) (h2:=⟨aa _ _ _,Kn.of rfl,Kn.of rfl,trivial⟩) (he:=⟨rfl,rfl,Go.AM.hs_ren (by simp) (by simp),rfl,rfl,congrArg some (V.ren_id _).symm,rfl,rfl,trivial⟩) (hh:=⟨⟨_,rfl,.varS rfl⟩,⟨_,rfl,.varS rfl⟩,⟨_,rfl,.arrS (by simp[bC])⟩,⟨_,rfl,.arrS ?_⟩,⟨_,rfl,.arr⟩,trivial⟩);rw[←aHh z ht hd2 (by omega),←jW];rfl
   ·have hmem:¬n∈pfR b:=Aa hb;unfold dU at O;rw[ψ hmem] at O;dsimp only at O;refine aD (ag [] rfl ⟨i+1,hlt,by dsimp only;omega,?_⟩);dsimp only;rw[O,hnout hmem];exact slG tHW (fun i hi=>GW.kf i hi) (h1:=Kn.app Kn.nil (Kn.app (Kn.of rfl) (Kn.app (Kn.of rfl) (Kn.app Kn.nil (Kn.app (Kn.of rfl) (Kn.app (hkn _ _ _) Kn.nil)))))) (h2:=⟨aa _ _ _,Kn.of rfl,Kn.of rfl,trivial⟩)
  have hge:i=ns.length:=by
   have:¬(i:Int)<((tN tys.length).length:Int):=Aa hb;omega
  subst hge;have hP:=aOh hok (le_refl ns.length) (hall _ (le_refl _)) (fun j hj=>hall j hj);obtain⟨hg1,hg2,_⟩:=iR (sb:=sb) (b:=b) (ps:=ps) (le_refl ns.length);rw[hput];rw[aOk];generalize gSt sb b ns ps ns.length=G at *;obtain⟨N,qs,tk⟩:=G;dsimp only at *;have hca:=aV6 tys nk N qs s b (fun p=>sb p s b) (by omega) (by omega) (by omega) fun p hp=>hok.subb p (hP p hp)
  refine aM (aE mixed (ak 3 [] rfl (kv (caps:=[.vp 3 0]) (args:=[Go.AM.T s,.pa (aB b)]) hca ?_ (hok:=aGl))));exact az ⟨.inl rfl,aEu hF (FarEq.outs hF) ⟨[],[],.nil,.nil,rfl⟩ (fun _ h=>by cases h) tHW.refs (fun i hi=>GW.kf i hi) (fun p hp=>by rcases χ.1 hp with hp | hp;exact(A5.1 (tHW (tys:=tys) (nk:=nk) (ns:=ns) (ps:=ps)).plain) p hp;cases hp)⟩
def aGv (af an:Int) (anm:Str) (nv:Nat) (p:Core):List R:=[.c (.int .i64 af),.c (.int .i64 an),.c (.str anm),.hs 704 0 nv nv]++(aB p).map R.c
def aH (rs:List (List R)) (k:Nat) (af an:Int) (anm:Str) (nv:Nat) (ns:List Str) (p:Core):List (Nat×AObj):=[(703,.rarr 71 14 (rs.set k (aGv af an anm nv p))),(704,.arr 9 1 (ns.map bC) 0)]
def aN (nv:Nat):List R:=(rgR (fun j=>[.ep 704 j 0 nv]) nv).flatten
def aP (k na:Nat):List R:=[.rp 703 k 4 na]
theorem aWe {nv:Nat}:(aN nv).length=nv:=by
 unfold aN;rw[nB (sX fun _=>rfl),gU,mul_one]
theorem a4g {nv j:Nat}(h:j<nv):((aN nv).drop (j*1)).take 1=[.ep 704 j 0 nv]:=eW (sX fun _=>rfl) j _ (aGx h)
theorem aQf {nv:Nat}:∀x∈R.refsL (aN nv),x=704:=fun x hx=>by
 unfold aN at hx;rw[dE] at hx;exact mY (L:=fun x=>x=704) (fun j x hx=>by simpa [R.refsL,R.refs] using hx) _ x hx
theorem aFd {k q nv:Nat}:∀x∈(grO (aN nv) (aP k q)).refs,x=703∨x=704:=fun x hx=>by
 have hx:x∈R.refsL (aN nv)++(R.refsL (aP k q)++[]):=hx;rw[A8] at hx;rcases χ.1 hx with hx | hx
 ·exact .inr (aQf x hx)
 ·exact .inl (by simpa [aP,R.refsL,R.refs] using hx)
theorem aA0 {x:Nat}:∀{rs:List (List R)}{k:Nat}{r:List R},x∈bZ (rs.set k r)→x∈bZ rs∨x∈R.refsL r
 | [],_,_,h=>.inl h
 | q::rs,0,r,h=>by
  rcases χ.1 (show x∈R.refsL r++bZ rs from h) with h | h
  ·exact .inr h
  ·exact .inl (χ.2 (.inr h))
 | q::rs,k+1,r,h=>by
  rcases χ.1 (show x∈R.refsL q++bZ (rs.set k r) from h) with h | h
  ·exact .inl (χ.2 (.inl h))
  ·exact(aA0 h).imp (fun h=>χ.2 (.inr h)) id
theorem aL0 {af an:Int}{anm:Str}{nv:Nat}{p:Core}{x:Nat}(h:x∈R.refsL (aGv af an anm nv p)):x=704:=by
 unfold aGv aB at h;simpa [R.refsL,R.refs] using h
abbrev aG (rs:List (List R)) (k:Nat) (af an:Int) (anm:Str) (nv:Nat) (ns:List Str) (p:Core):List (Nat×AObj):=(3,grO (aN nv) (aP k rs.length))::aH rs k af an anm nv ns p
section
variable {rs:List (List R)}{k:Nat}{af an:Int}{anm:Str}{nv:Nat}{ns:List Str}{p:Core}{F:List (Nat×AObj)}
theorem aHW (q:TF F) (I:∀x∈bZ rs,x∈keys F):GW (aH rs k af an anm nv ns p) F:=⟨q,fun x hx=>by
 have hx:x∈bZ (rs.set k (aGv af an anm nv p))++[]:=hx;rw[A8] at hx;rcases aA0 hx with h | h
 ·exact .inr (I x h)
 ·rw[aL0 h];exact .inl (by simp[aH,keys]),rfl,rfl⟩
theorem aGW (q:TF F) (I:∀x∈bZ rs,x∈keys F):GW (aG rs k af an anm nv ns p) F:=⟨q,fun x hx=>by
 rcases χ.1 (show x∈(grO (aN nv) (aP k rs.length)).refs++dO (aH rs k af an anm nv ns p) from hx) with hx | hx
 ·rcases aFd x hx with rfl | rfl
  ·exact .inl (by simp[aG,aH,keys])
  ·exact .inl (by simp[aG,aH,keys])
 ·exact((aHW q I).refs x hx).imp (fun h=>η _ h) id,rfl,rfl⟩
end
theorem a08 {rs:List (List R)}{k:Nat}{r r':List R}:(rs.set k r).set k r'=rs.set k r':=List.set_set ..
theorem aV7 (rs:List (List R)) (k:Nat) (af an:Int) (anm:Str) (nv:Nat) (ns:List Str) (p:Core) (F:List (Nat×AObj)) (nm:Str) (b:Core) (sb:Core→Core) (J:TF F) (hr:∀x∈bZ rs,x∈keys F) (hk:k<rs.length)
  (hc:aU Tryz.prog 99 [.pa (aB p),Go.AM.T nm,.pa (aB b)] [] (.pa (aB (sb p))) []):
  aU Tryz.prog 160 [Go.AM.T nm,.pa (aB b),.one (.vp 3 0)] (aG rs k af an anm nv ns p++F) (.tup []) (aG rs k af an anm nv ns (sb p)++F):=by
 have W:∀p,GW (aG rs k af an anm nv ns p) F:=fun p=>aGW J hr
 have hsz:rs.length=(rs.set k (aGv af an anm nv p)).length:=(Cd ..).symm;have hrow:(rs.set k (aGv af an anm nv p))[k]?=some (aGv af an anm nv p):=List.getElem?_set_self hk;refine uY J (n:=23) tok Tryz.func160 rfl rfl rfl ?_;refine sg rfl (sg rfl (aC (aO (fun j:Nat=>mkt [(0,Go.AM.T nm),(2,.one (.vp 3 0)),(4,.one (.vp 4 0)),(8,.one (.ras 1 1 (aP k rs.length))),(9,I .i64 ((1:Nat):Int)),(10,I .i64 j)] ([(4,.var 34 (b7 b))]++aG rs k af an anm nv ns (if j=0 then p else sb p)) F) (fun j=>j≤1) (fun j=>1-j) 0 (Ak _) ?_ ?_)))
 ·exact slG (W _)
 intro j hj;refine sg rfl (a8 (aA rfl (fun hb=>?_) (fun hb=>?_)))
 ·have Y:j=0:=by
   have:(j:Int)<((1:Nat):Int):=θ hb;omega
  subst Y;rw[ξ rfl];refine aD (a8 (aC (sg rfl (aE mixed (ak 6 [(3,.rr (aGv af an anm nv p))] rfl (kc hc ?_))))));refine ak 2 [(8,.rr (aGv af an anm nv p))] rfl (az (ag [] rfl ⟨1,le_refl _,by dsimp only;omega,?_⟩));dsimp only;rw[ψ (by decide)];exact slG (W _) (fun i hi=>GW.kf i hi) (hh:=⟨⟨_,rfl,.varS rfl⟩,⟨_,rfl,.varS rfl⟩,⟨_,rfl,.rarrS a08⟩,⟨_,rfl,.arr⟩,trivial⟩)
 have Z:j=1:=by
  have:¬(j:Int)<((1:Nat):Int):=Aa hb;omega
 subst Z;rw[ψ (by decide)];refine aM ?_;exact⟨.inl rfl,aEu J (by repeat (first | exact FarEq.raw J | (refine FarEq.updL J ?_) | (refine FarEq.upd J ?_))) ⟨[],[],.nil,.nil,rfl⟩ (fun _ h=>by cases h) (W _).refs (fun i hi=>GW.kf i hi) (fun q O=>by rcases χ.1 O with O | O;exact(A5.1 (W p).plain) q O;exact(J.ok q O).2)⟩
theorem aIz {rs:List (List R)}{k:Nat}{af an:Int}{anm:Str}{nv:Nat}{ns:List Str}{p:Core}{F:List (Nat×AObj)}(q:TF F) (I:∀x∈bZ rs,x∈keys F) {n:Str}{l:List C}:jJ ([Go.AM.T n,.pa l]++List.map V.one [R.vp 3 0]) (aG rs k af an anm nv ns p++F)=true:=by
 refine oB q (fun x hx=>.inl ?_) (aGW q I).refs;have:x=3:=by simpa [V.refsL,V.refs,R.refs] using hx
 subst this;simp[aG,keys]
theorem a4f {rs:List (List R)}{k:Nat}{af an:Int}{anm:Str}{nv:Nat}{ns I:List Str}{p J:Core}{F:List (Nat×AObj)}{h:cK}:eJ (fun q=>q.1∈keys (aG rs k af an anm nv ns p++F)∨h q.1=none) (aG rs k af an anm nv I J++F):=eJ.of fun q O=>.inl (by
 have h1:q.1∈keys (aG rs k af an anm nv I J++F):=Ad.2 ⟨q,O,rfl⟩
 exact h1)
theorem a3l (rs:List (List R)) (k:Nat) (af an:Int) (anm:Str) (nv:Nat) (ns:List Str) (p:Core) (F:List (Nat×AObj)) (s:Str) (b:Core) (sb:Core→Str→Core→Core) (P:Core→Prop) (J:TF F) (hr:∀x∈bZ rs,x∈keys F) (hk:k<rs.length) (hn:ns.length=nv) (hok:PutOk sb P s b [p])
  (hM:(pfR p).length+2*ns.length+(pfR b).length+1≤540000000000):
  ∃q,(cO sb s b ns [p]).2=[q]∧aU Tryz.prog 134 [gpV (aN nv) (aP k rs.length),Go.AM.T s,.pa (aB b)] (aH rs k af an anm nv ns p++F) (.tup []) (aH rs k af an anm nv (cO sb s b ns [p]).1 q++F):=by
 have hln:=(rN (sb:=sb) (s:=s) (b:=b) (ns:=ns) (ps:=[p])).2
 obtain⟨q,O⟩:∃q,(cO sb s b ns [p]).2=[q]:=Bm.1 hln;refine⟨q,O,?_⟩;have hnl:=aWe (nv:=nv);have W:∀ns p,GW (aH rs k af an anm nv ns p) F:=fun _ _=>aHW J hr
 have ad:∀ex ae p',∀x∈R.refsL (aN nv),Kn ex (aH rs k af an anm nv ae p') F x:=fun ex ae p' x hx=>by
  have:=aQf x hx;subst this;exact .inr (.inl (by simp[aH,keys]))
 have aa:∀ex ae p',∀x∈(grO (aN nv) (aP k rs.length)).refs,Kn ex (aH rs k af an anm nv ae p') F x:=fun ex ae p' x hx=>by
  rcases aFd x hx with rfl | rfl
  ·exact .inr (.inl (by simp[aH,keys]))
  ·exact .inr (.inl (by simp[aH,keys]))
 have hsz:∀p,rs.length=(rs.set k (aGv af an anm nv p)).length:=fun p=>(Cd ..).symm
 have hrow:∀p,(rs.set k (aGv af an anm nv p))[k]?=some (aGv af an anm nv p):=fun p=>List.getElem?_set_self hk
 have hszp:=hsz p;have hrowp:=hrow p;have ap:([p]:List Core).flatMap pfR=pfR p:=by simp
 have hkl:nv=(ns.map bC).length:=by rw[ζ];exact hn.symm
 have hf:=hok.free p (by simp);have hq0:((pfR p).map bC).length=(pfR p).length:=ζ _;refine uY J (n:=92) tok Tryz.func134 rfl rfl rfl ?_;refine sg rfl (sg rfl (AWp.sub (Sub.own (t:=6) (id:=720) 9 1 rfl rfl) (AWp.sub (Sub.freeze (id:=720) rfl) ?_)));refine a8 (sg rfl (aC (aO (fun j:Nat=>mkt [(1,Go.AM.T s),(3,.one (.vp 3 0)),(5,.one (.vp 5 0)),(6,tkV (if j=0 then [] else pfR p)),(17,.one (.ras 1 1 (aP k rs.length))),(18,I .i64 ((1:Nat):Int)),(19,I .i64 j)] ([(3,grO (aN nv) (aP k rs.length)),(5,.var 34 (b7 b)),(720,tkA (if j=0 then [] else pfR p))]++aH rs k af an anm nv ns p) F) (fun j=>j≤1) (fun j=>1-j) 0 (Ak _) ?_ ?_)))
 ·exact slG (W _ _) (h2:=⟨aa _ _ _,Kn.of rfl,Kn.of rfl,trivial⟩)
 ·intro j hj;refine sg rfl (a8 (aA rfl (fun hb=>?_) (fun hb=>?_)))
  ·have hj0:j=0:=by
    have:(j:Int)<((1:Nat):Int):=θ hb;omega
   subst hj0;rw[ξ rfl];refine aD (a8 (aC (sg rfl (aE mixed (ak 4 [(3,.rr (aGv af an anm nv p))] rfl (kc hf ?_))))));refine kz 2 rfl (AWp.sub (Sub.freeze (id:=720) rfl) ?_);refine ag [] rfl ⟨1,le_refl _,by dsimp only;omega,?_⟩;dsimp only;rw[ψ (by decide)];exact slG (W _ _) (h2:=⟨aa _ _ _,Kn.of rfl,Kn.of rfl,trivial⟩) (he:=⟨rfl,rfl,rfl,Go.AM.hs_ren (by simp) (by simp),rfl,rfl,rfl,trivial⟩) (hh:=⟨⟨_,rfl,.varS rfl⟩,⟨_,rfl,.varS rfl⟩,⟨_,rfl,.arrS (by simp)⟩,⟨_,rfl,.rarrS rfl⟩,⟨_,rfl,.arr⟩,trivial⟩)
  have ah:j=1:=by
   have:¬(j:Int)<((1:Nat):Int):=Aa hb;omega
  subst ah;rw[ψ (by decide)];refine aM ?_;have hct:=bR (pfR p) s (by omega);refine a8 (sk 2 rfl (kc hct ?_));refine kz 1 rfl (aA rfl (fun hb=>?_) (fun hb=>?_))
  ·have hno:¬s∈pfR p:=by
    intro h;have hb:(!decide (s∈pfR p))=true:=hb;rw[Af h] at hb;cases hb
   have he:cO sb s b ns [p]=(ns,[p]):=by unfold cO;rw[ψ fun h=>hno (by have:=h.1;rwa [ap] at this)]
   have hqp:q=p:=by rw[he] at O;exact(List.singleton_inj.1 O).symm
   rw[he,hqp];exact aF ⟨.inr rfl,aEu J (by repeat (first | exact FarEq.raw J | (refine FarEq.updL J ?_) | (refine FarEq.upd J ?_))) ⟨[],[],.nil,.nil,rfl⟩ (fun _ h=>by cases h) (W _ _).refs (fun i hi=>GW.kf i hi) (fun q O=>by rcases χ.1 O with O | O;exact(A5.1 (W ns p).plain) q O;exact(J.ok q O).2)⟩
  have hin:s∈pfR p:=by
   have hb:(!decide (s∈pfR p))=false:=hb;by_cases h:s∈pfR p
   ·exact h
   ·rw[Ae h] at hb;cases hb
  refine aD (a8 (sg rfl (aC (aO (fun j:Nat=>mkt [(1,Go.AM.T s),(3,.one (.vp 3 0)),(5,.one (.vp 5 0)),(6,tkV (pfR p++ns.take j)),(35,.one (.ras (aN nv).length 1 (aN nv))),(36,I .i64 (((aN nv).length:Nat):Int)),(37,I .i64 j)] ([(3,grO (aN nv) (aP k rs.length)),(5,.var 34 (b7 b)),(720,tkA (pfR p++ns.take j))]++aH rs k af an anm nv ns p) F) (fun j=>j≤(aN nv).length∧¬s∈ns.take j) (fun j=>(aN nv).length-j) 0 ⟨Ak _,by simp⟩ ?_ ?_))))
  ·exact slG (W _ _) (h1:=Kn.app Kn.nil (Kn.app (Kn.of rfl) (Kn.app (Kn.of rfl) (Kn.app (Kn.of rfl) (Kn.app (ad _ _ _) Kn.nil))))) (h2:=⟨aa _ _ _,Kn.of rfl,Kn.of rfl,trivial⟩) (he:=⟨rfl,rfl,rfl,Go.AM.hs_ren (by simp) (by simp),congrArg some (V.ren_id _).symm,rfl,rfl,trivial⟩) (hh:=⟨⟨_,rfl,.varS rfl⟩,⟨_,rfl,.varS rfl⟩,⟨_,rfl,.arrS (by simp)⟩,⟨_,rfl,.rarrS rfl⟩,⟨_,rfl,.arr⟩,trivial⟩)
  rintro j ⟨hj,aj⟩;refine sg rfl (a8 (aA rfl (fun hb=>?_) (fun hb=>?_)))
  ·have aq:j<(aN nv).length:=by
    have:(j:Int)<((aN nv).length:Int):=θ hb;omega
   have hjb:j<nv:=by omega
   obtain⟨n,Z⟩:=aL (show j<ns.length by omega);have ht1:=a4g hjb;have hrown:(ns.map bC)[j]?=some (bC n):=bM bC Z;have hstp:ns.take (j+1)=ns.take j++[n]:=by rw[Bh,Z];rfl
   have hq1:((pfR p++ns.take j).map bC).length=(pfR p++ns.take j).length:=ζ _;have hql:(pfR p++ns.take j).length≤540000000000:=by rw[Ab,At];omega
   refine aD (a8 (aC (sgh [(0,.rowR j [.ep 704 j 0 nv])] rfl (a8 (sgh [(2,.row j (bC n))] rfl (aA rfl (fun hb=>?_) (fun hb=>?_)))))))
   ·have hns:n=s:=θ hb;have he:cO sb s b ns [p]=(ns,[p]):=by
     unfold cO;rw[ψ fun h=>h.2 (hns▸δ Z)]
    have hqp:q=p:=by rw[he] at O;exact(List.singleton_inj.1 O).symm
    rw[he,hqp];exact aF ⟨.inr rfl,aEu J (by repeat (first | exact FarEq.raw J | (refine FarEq.updL J ?_) | (refine FarEq.upd J ?_))) ⟨[],[],.nil,.nil,rfl⟩ (fun _ h=>by cases h) (W _ _).refs (fun i hi=>GW.kf i hi) (fun q O=>by rcases χ.1 O with O | O;exact(A5.1 (W ns p).plain) q O;exact(J.ok q O).2)⟩
   have hns:¬n=s:=Aa hb;refine aD ?_;generalize pfR p=fm at *;generalize hq2:fm++ns.take j=qq at *;refine ag [(3,.row j (bC n))] rfl (AWp.sub (Sub.freeze (id:=720) rfl) ?_);refine ag [] rfl ⟨j+1,⟨aq,?_⟩,by dsimp only;omega,?_⟩
   ·rw[hstp];intro h;rcases χ.1 h with h | h
    ·exact aj h
    ·exact hns (κ.1 h).symm
   dsimp only;rw[hstp,←A0,hq2];exact slG (W _ _) (h1:=Kn.app Kn.nil (Kn.app (Kn.of rfl) (Kn.app (Kn.of rfl) (Kn.app (Kn.of rfl) (Kn.app (ad _ _ _) Kn.nil))))) (h2:=⟨aa _ _ _,Kn.of rfl,Kn.of rfl,trivial⟩) (he:=⟨rfl,rfl,rfl,Go.AM.hs_ren (by simp) (by simp),congrArg some (V.ren_id _).symm,rfl,rfl,trivial⟩) (hh:=⟨⟨_,rfl,.varS rfl⟩,⟨_,rfl,.varS rfl⟩,⟨_,rfl,.arrS (by simp[bC])⟩,⟨_,rfl,.rarrS rfl⟩,⟨_,rfl,.arr⟩,trivial⟩)
  have ah:j=ns.length:=by
   have:¬(j:Int)<((aN nv).length:Int):=Aa hb;omega
  subst ah;rw[As] at aj ⊢;have hput:cO sb s b ns [p]=((gSt sb b ns [p] ns.length).1,(gSt sb b ns [p] ns.length).2.1.map fun p=>sb p s b):=by
   unfold cO;rw[ξ ⟨by rw[ap];exact hin,aj⟩,aOg]
  have hql:(pfR p++ns).length≤540000000000:=by rw[Ab];omega
  have hq1:((pfR p++ns).map bC).length=(pfR p++ns).length:=ζ _;have hq2:((pfR b).map bC).length=(pfR b).length:=ζ _;have hfar:=hok.far;refine aM (sk 1 rfl (kc hfar ?_));refine kz 1 rfl ?_;have hlq:(pfR p++ns).length+(pfR b).length≤540000000000:=by rw[Ab];omega
  refine sg rfl (AWp.sub (Sub.freeze (id:=720) rfl) ?_);refine sg rfl (a8 (sg rfl (aC ?_)));have ab:∀i,i≤ns.length→(gSt sb b ns [p] i).2.2.length≤540000000000:=fun i hi=>by
   have h1:=(iR (sb:=sb) (b:=b) (ps:=[p]) hi).2.2
   rw[ap] at h1;simp only[Ab] at h1;omega
  have hone:∀i,i≤ns.length→∃x,(gSt sb b ns [p] i).2.1=[x]:=fun i hi=>Bm.1 (iR (sb:=sb) (b:=b) (ps:=[p]) hi).2.1
  have hhd:∀i,i≤ns.length→(gSt sb b ns [p] i).2.1=[(gSt sb b ns [p] i).2.1.headD p]:=fun i hi=>by
   obtain⟨x,hx⟩:=hone i hi;rw[hx];rfl
  refine aO (fun i:Nat=>mkt [(1,Go.AM.T s),(5,.one (.vp 5 0)),(6,tkV (gSt sb b ns [p] i).2.2),(11,bK (pfR b)),(12,.one (.clo 160 [.vp 3 0])),(60,.one (.ras (aN nv).length 1 (aN nv))),(61,I .i64 (((aN nv).length:Nat):Int)),(62,I .i64 i)] ([(3,grO (aN nv) (aP k rs.length)),(5,.var 34 (b7 b)),(720,tkA (gSt sb b ns [p] i).2.2)]++aH rs k af an anm nv (gNs sb b ns [p] i) ((gSt sb b ns [p] i).2.1.headD p)) F) (fun i=>i≤(aN nv).length) (fun i=>(aN nv).length-i) 0 (Ak _) ?_ ?_
  ·rw[yT,aHz,ap];exact slG (W _ _) (h1:=Kn.app Kn.nil (Kn.app (Kn.of rfl) (Kn.app (Kn.of rfl) (Kn.app Kn.nil (Kn.app (Kn.of rfl) (Kn.app (ad _ _ _) Kn.nil)))))) (h2:=⟨aa _ _ _,Kn.of rfl,Kn.of rfl,trivial⟩) (he:=⟨rfl,rfl,Go.AM.hs_ren (by simp only[Ab,ζ]) (by simp only[Ab,ζ]),rfl,rfl,congrArg some (V.ren_id _).symm,rfl,rfl,trivial⟩) (hh:=⟨⟨_,rfl,.varS rfl⟩,⟨_,rfl,.varS rfl⟩,⟨_,rfl,.arrS (by simp)⟩,⟨_,rfl,.rarrS rfl⟩,⟨_,rfl,.arr⟩,trivial⟩)
  intro i hi;have hle:i≤ns.length:=by omega
  refine sg rfl (a8 (aA rfl (fun hb=>?_) (fun hb=>?_)))
  ·have aq:i<(aN nv).length:=by
    have:(i:Int)<((aN nv).length:Int):=θ hb;omega
   have hjb:i<nv:=by omega
   obtain⟨n,Z⟩:=aL (show i<ns.length by omega);obtain⟨hg1,hg2,hg3⟩:=iR (sb:=sb) (b:=b) (ps:=[p]) hle;have hgl:=aOj (sb:=sb) (b:=b) (ps:=[p]) hle;have hga:=aVp (sb:=sb) (b:=b) (ps:=[p]) Z;have hP:=aOh hok hle (ab i hle) (fun j hj=>ab j (by omega));have Y:=oX (sb:=sb) (b:=b) (ps:=[p]) Z;have am:=aVo (sb:=sb) (b:=b) (ps:=[p]) Z;have hnout:=aOi (sb:=sb) (b:=b) (ps:=[p]) Z;have hall0:=ab i hle;have ai:=hhd i hle;have ht1:=a4g hjb;have hcf:=bR (pfR b) n (by omega);have hcr:=zN (gSt sb b ns [p] i).2.2 (by omega) fun k hk=>hok.itoa k (by omega)
   generalize gSt sb b ns [p] i=G at *;generalize gNs sb b ns [p] i=N at *;obtain⟨d0,qs,tk⟩:=G;dsimp only at *;generalize qs.headD p=x at ai ⊢;subst ai;have hrown:(N.map bC)[i]?=some (bC n):=bM bC hga;have hkN:nv=(N.map bC).length:=by rw[ζ];omega
   have hszx:=hsz x;have hrowx:=hrow x;refine aD (a8 (aC (sgh [(0,.rowR i [.ep 704 i 0 nv])] rfl (skh 4 [(3,.row i (bC n))] rfl (kc hcf ?_)))));refine az (aA rfl (fun hb=>?_) (fun hb=>?_))
   ·have ac:n∈pfR b:=θ hb;have am:=am ac;unfold dU at Y;rw[ξ ac] at Y;dsimp only at Y;have hz:(b6 tk).length≤30:=le_trans (kI _ hall0) (by omega);have hca:=aV7 rs k af an anm nv N x F n (vC (b6 tk)) (fun p=>sb p n (vC (b6 tk))) J hr hk (hok.subz x n _ (hP x (by simp)) hz);have hcv:=uJ (b6 tk);have hqt:(tk.map bC).length=tk.length:=ζ _;generalize b6 tk=z at *;refine sk 1 rfl (kc hcr ?_);refine kz 1 rfl (sg rfl (AWp.sub (Sub.freeze (id:=720) rfl) ?_));refine skh 5 [(3,.row i (bC n))] rfl (kc hcv ?_);refine kv (caps:=[.vp 3 0]) (args:=[Go.AM.T n,.pa (aB (vC z))]) hca ?_ (hin':=eJ.app ⟨rfl,rfl,rfl,trivial⟩ (FarEq.all (by repeat (first | exact FarEq.raw J | (refine FarEq.updL J ?_) | (refine FarEq.upd J ?_))))) (hout':=a4f) (hok:=aIz J hr);refine az (AWp.sub (Sub.outsT J) ?_);refine ag [(3,.row i (bC n))] rfl (ag [] rfl ⟨i+1,aq,by dsimp only;omega,?_⟩);dsimp only;rw[Y,am];dsimp only;refine slG (W _ _) (fun i hi=>GW.kf i hi) (by repeat (first | exact FarEq.bif J (FarEq.outs J) | (refine FarEq.updL J ?_) | (refine FarEq.upd J ?_))) (h1:=Kn.app Kn.nil (Kn.app (Kn.of rfl) (Kn.app (Kn.of rfl) (Kn.app Kn.nil (Kn.app (Kn.of rfl) (Kn.app (ad _ _ _) Kn.nil)))))) (h2:=⟨aa _ _ _,Kn.of rfl,Kn.of rfl,trivial⟩) (he:=⟨rfl,rfl,Go.AM.hs_ren (by simp) (by simp),rfl,rfl,congrArg some (V.ren_id _).symm,rfl,rfl,trivial⟩) (hh:=⟨⟨_,rfl,.varS rfl⟩,⟨_,rfl,.varS rfl⟩,⟨_,rfl,.arrS (by simp[bC])⟩,⟨_,rfl,.rarrS rfl⟩,⟨_,rfl,.arrS ?_⟩,trivial⟩);rw[map_set];rfl
   ·have ac:¬n∈pfR b:=Aa hb;unfold dU at Y;rw[ψ ac] at Y;dsimp only at Y;refine aD (ag [] rfl ⟨i+1,aq,by dsimp only;omega,?_⟩);dsimp only;rw[Y,hnout ac];exact slG (W _ _) (fun i hi=>GW.kf i hi) (h1:=Kn.app Kn.nil (Kn.app (Kn.of rfl) (Kn.app (Kn.of rfl) (Kn.app Kn.nil (Kn.app (Kn.of rfl) (Kn.app (ad _ _ _) Kn.nil)))))) (h2:=⟨aa _ _ _,Kn.of rfl,Kn.of rfl,trivial⟩)
  have ah:i=ns.length:=by
   have:¬(i:Int)<((aN nv).length:Int):=Aa hb;omega
  subst ah;have hP:=aOh hok (le_refl ns.length) (ab _ (le_refl _)) (fun j hj=>ab j hj);have ai:=hhd _ (le_refl ns.length);rw[hput] at O ⊢;rw[aOk];generalize gSt sb b ns [p] ns.length=G at *;obtain⟨N,qs,tk⟩:=G;dsimp only at *;generalize qs.headD p=x at ai ⊢;subst ai;have hqx:q=sb x s b:=(List.singleton_inj.1 O).symm;subst hqx;have hca:=aV7 rs k af an anm nv N x F s b (fun p=>sb p s b) J hr hk (hok.subb x (hP x (by simp)));refine aM (aE mixed (ak 3 [] rfl (kv (caps:=[.vp 3 0]) (args:=[Go.AM.T s,.pa (aB b)]) hca ?_ (hin':=eJ.app ⟨rfl,rfl,rfl,trivial⟩ (FarEq.all (by repeat (first | exact FarEq.raw J | (refine FarEq.updL J ?_) | (refine FarEq.upd J ?_))))) (hout':=a4f) (hok:=aIz J hr))));refine az ⟨.inl rfl,aEu J (FarEq.outs J) ⟨[],[],.nil,.nil,rfl⟩ (fun _ h=>by cases h) (W _ _).refs (fun i hi=>GW.kf i hi) (fun q O=>by rcases χ.1 O with O | O;exact(A5.1 (W ns p).plain) q O;exact(J.ok q O).2)⟩
end Go.Proofs.YtglfogjcijokpaaGreatDoor
