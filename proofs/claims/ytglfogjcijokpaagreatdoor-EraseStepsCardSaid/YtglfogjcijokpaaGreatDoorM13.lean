/-
  Texts Lm7 to Lf1 in one.
-/
import Derived.Test.YtglfogjcijokpaaGreatDoorM12
import Derived.Laws.MakeOwn
open List (append_assoc append_nil cons_append drop_left drop_zero flatMap_cons flatMap_nil length_append length_cons length_map length_range length_take length_zip map_append map_congr_left map_cons map_map map_nil mem_append mem_cons mem_cons_of_mem mem_cons_self mem_flatMap mem_map mem_of_mem_drop mem_of_mem_take mem_range mem_singleton nil_append nodup_range not_mem_nil set_cons_zero sum_cons sum_nil take_add_one take_left take_length take_of_length_le take_zero)
open Nat (add_mul le_add_right le_max_right le_mul_of_pos_right le_refl le_trans max_le mul_le_mul mul_le_mul_right mul_one not_lt sub_self sub_zero succ_mul zero_add zero_le)
namespace Go.Proofs.YtglfogjcijokpaaGreatDoor
open Go Go.AM
set_option maxRecDepth 20000
set_option maxHeartbeats 4000000
section
variable {bd:List Bind}{i:Int}{s:Str}{t:Ty}{a b:Core}{ks:List Core}{bs:List Bind}{al:List Alt}{p:CE}
theorem a6n {I:Int}{s':Str}{t':Ty}{x r:Core}(q:aU Tryz.prog 99 [.pa (aB x),Go.AM.T s',.pa (aB b)] [] (.pa (aB r)) []):aU Tryz.prog 43 [.pa (mN bd),.pa (aB (.mk 4 i s t [.mk 5 I s' t' [x] [] [],b] [] []))] [] (dP (r,0)) []:=by
 refine bL (n:=113) tok Tryz.func43 rfl rfl rfl ?_;refine sg rfl (sg rfl (a8 (sg rfl (aC (sg rfl (aA rfl (fun hb=>absurd hb (by simp[Core.form])) (fun _=>sg rfl (aA rfl (fun _=>sgh [(2,.row 0 (aB (.mk 5 I s' t' [x] [] [])))] rfl (aC (sg rfl (aA rfl (fun _=>skh 10 [(2,.row 0 (aB x)),(8,.row 1 (aB b))] rfl (kc q ?_)) (fun hb=>absurd hb (by simp[Core.form])))))) (fun hb=>absurd hb (by simp[Core.form]))))))))));exact kz 2 rfl (aF (fM trw))
theorem a6o (hf:¬a.form=5) (q:aU Tryz.prog 42 [.pa (aB a)] [] (B (shE a)) []) (J:shE a=false→aU Tryz.prog 43 [.pa (mN bd),.pa (aB a)] [] (dP p) []):
  aU Tryz.prog 43 [.pa (mN bd),.pa (aB (.mk 4 i s t [a,b] [] []))] [] (dP (if ¬shE a=true then jT false p (j4 (.mk 4 i s t [a,b] [] []) 0) else(zC,51))) []:=by
 refine bL (n:=113) tok Tryz.func43 rfl rfl rfl ?_;refine sg rfl (sg rfl (a8 (sg rfl (aC (sg rfl (aA rfl (fun hb=>absurd hb (by simp[Core.form])) (fun _=>sg rfl (aA rfl (fun _=>sgh [(2,.row 0 (aB a))] rfl (aC (sg rfl (aA rfl (fun hb=>absurd (θ hb) hf) (fun _=>sk 1 rfl (kc q ?_)))))) (fun hb=>absurd hb (by simp[Core.form]))))))))));refine kz 2 rfl ?_;cases hs:shE a with
 | false=>
  have hw:=pF bd (.mk 4 i s t [a,b] [] []) a 0 p rfl (show 2≤600000000000 by decide) (J hs);unfold maO at hw;rw[ξ Ao];refine aA rfl (fun _=>sk 1 rfl (kv (args:=[I .i64 ((0:Nat):Int)]) hw ?_)) (fun hb=>absurd hb (by simp));exact kz 4 rfl (aF (fM trw))
 | true=>
  rw[ψ (fun h=>h rfl)];exact aA rfl (fun hb=>absurd hb (by simp)) (fun _=>aD (sg rfl (aF (fM trw))))
theorem a7u {r:Core}(I:bs.length≤12) (q:aU Tryz.prog 135 [.pa (aB a),bK (bs.map Bind.name),.one (.c (.sl 10 ((bs.map (fK bs)).map aB)))] [] (.pa (aB r)) []):
  aU Tryz.prog 43 [.pa (mN bd),.pa (aB (.mk 8 i s t [a] bs []))] [] (dP (r,0)) []:=by
 have hu:=aO8 i s t a r bs I q;refine bL (n:=113) tok Tryz.func43 rfl rfl rfl ?_;refine sg rfl (sg rfl (a8 (sg rfl (aC (sg rfl (aA rfl (fun hb=>absurd hb (by simp[Core.form])) (fun _=>sg rfl (aA rfl (fun hb=>absurd hb (by simp[Core.form])) (fun _=>sg rfl (aA rfl (fun _=>sk 1 rfl (kc hu ?_)) (fun hb=>absurd hb (by simp[Core.form]))))))))))));exact kz 2 rfl (aF (fM trw))
theorem a7v (hm:bd.length≤1000000000):aU Tryz.prog 43 [.pa (mN bd),.pa (aB (.mk 1 i s t ks bs al))] [] (dP (match bd.find? fun b=>decide (b.name=s) with | some b=>(b.body,0) | none=>(zC,51))) []:=by
 have q:=aTg bd hm 1 i s t ks bs al;rcases u4 (fun b:Bind=>decide (b.name=s)) bd 0 with⟨k,b,h1,h2,h3⟩ | ⟨h1,h3⟩
 ·rw[h1,Ba] at q;rw[h3];have I:=bM b8 h2;have J:=(τ.1 h2).1
  refine bL (n:=113) tok Tryz.func43 rfl rfl rfl ?_;refine sg rfl (sg rfl (a8 (sg rfl (aC (sg rfl (aA rfl (fun _=>sk 3 rfl (kc q ?_)) (fun hb=>absurd hb (by simp[Core.form]))))))));exact kz 1 rfl (sg rfl (aA rfl (fun _=>sgh [(3,.row k (b8 b))] rfl (aF (fM trw))) (fun hb=>absurd (Aa hb) (by omega))))
 ·rw[h1] at q;rw[h3];refine bL (n:=113) tok Tryz.func43 rfl rfl rfl ?_;refine sg rfl (sg rfl (a8 (sg rfl (aC (sg rfl (aA rfl (fun _=>sk 3 rfl (kc q ?_)) (fun hb=>absurd hb (by simp[Core.form]))))))));exact kz 1 rfl (sg rfl (aA rfl (fun hb=>absurd hb (by decide)) (fun _=>aD (sg rfl (aF (fM trw))))))
theorem a7t {r:CE}(J:aU Tryz.prog 42 [.pa (aB a)] [] (B (shE a)) []) (O:shE a=false→aU Tryz.prog 43 [.pa (mN bd),.pa (aB a)] [] (dP p) [])
  (q:shE a=true→aU Tryz.prog 101 [.one (.c (.sl 14 (bP al))),.pa (aB a)] [] (dP r) []):
  aU Tryz.prog 43 [.pa (mN bd),.pa (aB (.mk 9 i s t [a] [] al))] [] (dP (if ¬shE a=true then jT false p (j4 (.mk 9 i s t [a] [] al) 0) else r)) []:=by
 refine bL (n:=113) tok Tryz.func43 rfl rfl rfl ?_;refine sg rfl (sg rfl (a8 (sg rfl (aC (sg rfl (aA rfl (fun hb=>absurd hb (by simp[Core.form])) (fun _=>sg rfl (aA rfl (fun hb=>absurd hb (by simp[Core.form])) (fun _=>sg rfl (aA rfl (fun hb=>absurd hb (by simp[Core.form])) (fun _=>sg rfl (aA rfl (fun _=>a8 (skh 4 [(2,.row 0 (aB a))] rfl (kc J ?_))) (fun hb=>absurd hb (by simp[Core.form]))))))))))))));refine kz 1 rfl ?_;cases hs:shE a with
 | false=>
  have hw:=pF bd (.mk 9 i s t [a] [] al) a 0 p rfl (show 1≤600000000000 by decide) (O hs);unfold maO at hw;rw[ξ Ao];refine aA rfl (fun _=>sk 1 rfl (kv (args:=[I .i64 ((0:Nat):Int)]) hw ?_)) (fun hb=>absurd hb (by decide));exact kz 4 rfl (aF (fM trw))
 | true=>
  have q:=q hs;rw[ψ (fun h=>h rfl)];refine aA rfl (fun hb=>absurd hb (by decide)) (fun _=>aD (skh 6 [(4,.row 0 (aB a))] rfl (kc q ?_)));exact kz 4 rfl (aF (fM trw))
theorem a6p {q:CE}(J:aU Tryz.prog 42 [.pa (aB a)] [] (B (shE a)) []) (O:aU Tryz.prog 42 [.pa (aB b)] [] (B (shE b)) [])
  (W:shE a=false→aU Tryz.prog 43 [.pa (mN bd),.pa (aB a)] [] (dP p) []) (Y:shE b=false→aU Tryz.prog 43 [.pa (mN bd),.pa (aB b)] [] (dP q) []):
  aU Tryz.prog 43 [.pa (mN bd),.pa (aB (.mk 10 i s t [a,b] [] []))] [] (dP (if ¬shE a=true then jT false p (j4 (.mk 10 i s t [a,b] [] []) 0) else if ¬shE b=true then jT false q (j4 (.mk 10 i s t [a,b] [] []) 1) else if a.form=3∧b.form=3 then dM s a.n b.n else(zC,51))) []:=by
 have Z:=aY3 bd i s t a b;refine bL (n:=113) tok Tryz.func43 rfl rfl rfl ?_;refine sg rfl (sg rfl (a8 (sg rfl (aC (sg rfl (aA rfl (fun hb=>absurd hb (by simp[Core.form])) (fun _=>sg rfl (aA rfl (fun hb=>absurd hb (by simp[Core.form])) (fun _=>sg rfl (aA rfl (fun hb=>absurd hb (by simp[Core.form])) (fun _=>sg rfl (aA rfl (fun hb=>absurd hb (by simp[Core.form])) (fun _=>sg rfl (aA rfl (fun _=>a8 (aC (skh 4 [(2,.row 0 (aB a))] rfl (kc J ?_)))) (fun hb=>absurd hb (by simp[Core.form]))))))))))))))));refine kz 2 rfl ?_;cases hs:shE a with
 | false=>
  have hw:=pF bd (.mk 10 i s t [a,b] [] []) a 0 p rfl (show 2≤600000000000 by decide) (W hs);unfold maO at hw;rw[ξ Ao];refine aA rfl (fun _=>sk 1 rfl (kv (args:=[I .i64 ((0:Nat):Int)]) hw ?_)) (fun hb=>absurd hb (by decide));exact kz 4 rfl (aF (fM trw))
 | true=>
  rw[ψ (fun h=>h rfl)];refine aA rfl (fun hb=>absurd hb (by decide)) (fun _=>skh 4 [(2,.row 1 (aB b))] rfl (kc O ?_));refine kz 2 rfl ?_;cases aa:shE b with
  | false=>
   have hw:=pF bd (.mk 10 i s t [a,b] [] []) b 1 q rfl (show 2≤600000000000 by decide) (Y aa);unfold maO at hw;rw[ξ Ao];refine aA rfl (fun _=>sk 1 rfl (kv (args:=[I .i64 ((1:Nat):Int)]) hw ?_)) (fun hb=>absurd hb (by decide));exact kz 4 rfl (aF (fM trw))
  | true=>
   rw[ψ (fun h=>h rfl)];refine aA rfl (fun hb=>absurd hb (by decide)) (fun _=>aD (sk 2 rfl (kc Z ?_)));exact kz 4 rfl (aF (fM trw))
theorem a7s {f:Int}(h1:¬f=1) (h4:¬f=4) (J:¬f=8) (O:¬f=9) (I:¬f=10):aU Tryz.prog 43 [.pa (mN bd),.pa (aB (.mk f i s t ks bs al))] [] (dP (if f=11 then(zC,52) else(zC,51))) []:=by
 refine bL (n:=113) tok Tryz.func43 rfl rfl rfl ?_;refine sg rfl (sg rfl (a8 (sg rfl (aC (sg rfl (aA rfl (fun hb=>absurd (θ hb) h1) (fun _=>sg rfl (aA rfl (fun hb=>absurd (θ hb) h4) (fun _=>sg rfl (aA rfl (fun hb=>absurd (θ hb) J) (fun _=>sg rfl (aA rfl (fun hb=>absurd (θ hb) O) (fun _=>sg rfl (aA rfl (fun hb=>absurd (θ hb) I) (fun _=>sg rfl ?_)))))))))))))));by_cases q:f=11
 ·rw[ξ q];exact aA rfl (fun _=>sg rfl (aF (fM trw))) (fun hb=>absurd q (Aa hb))
 ·rw[ψ q];exact aA rfl (fun hb=>absurd (θ hb) q) (fun _=>aD (sg rfl (aF (fM trw))))
end
def whE (sf:Core→CE):Nat→Nat→Core→Core×Nat×Int
 | 0,n,c=>if shE c=true then(c,n,0) else(zC,0,3)
 | k+1,n,c=>if shE c=true then(c,n,0) else
  if(sf c).2=0 then(if 6000<eZ (sf c).1 then(zC,0,2) else whE sf k (n+1) (sf c).1) else(zC,0,(sf c).2)
def a6y (w:Core×Nat×Int):V:=.tup [.pa (aB w.1),I .i64 w.2.1,I .i64 w.2.2]
theorem a33 (c:Core) (h:aU Tryz.prog 74 [.pa (aB c)] [] (.pa (aB c)) []):aU Tryz.prog 36 [.pa (aB c),.one (.c (.sl 10 []))] [] (.pa (aB c)) []:=by
 refine bL (n:=23) tok Tryz.func36 rfl rfl rfl ?_;refine sg rfl (sgh [(1,.pc (.pa (aB c)))] rfl (a8 (sg rfl (aC (aO (fun _:Unit=>mk [(4,.one (.vp 4 0)),(5,.one (.vp 5 0)),(11,I .i64 0),(12,I .i64 0)] [(4,.var 34 bI),(5,.var 34 (b7 c))]) (fun _=>True) (fun _=>0) () trivial sl ?_)))));intro _ _;exact sg rfl (a8 (aA rfl nofun (fun _=>aM (sg rfl (aF (rtC trw))))))
theorem aZc (q:Core→CE) (bd:List Bind) (F:Nat) (Iv:Nat→Core→Prop) (c:Core) (hF:F≤1000) (h0:Iv 0 c)
  (hI:∀j x,j≤F→Iv j x→bE (QL 403) x∧aV x≤570000000000∧aU Tryz.prog 74 [.pa (aB x)] [] (.pa (aB x)) [])
  (hS:∀j x,j<F→Iv j x→shE x=false→aU Tryz.prog 43 [.pa (mN bd),.pa (aB x)] [] (dP (q x)) []∧((q x).2=0→(LC (q x).1∧eZ (q x).1≤9000000000000000000)∧(¬6000<eZ (q x).1→Iv (j+1) (q x).1))):
  aU Tryz.prog 14 [.one (.c (.sl 15 (bd.map b8))),.pa (aB c),I .i64 F] [] (a6y (whE q F 0 c)) []:=by
 refine bL (n:=43) tok Tryz.func14 rfl rfl rfl ?_;refine sg rfl (sk 1 rfl (kc a3r ?_));refine kz 3 rfl (sg rfl (a8 (aC (aO (fun p:Nat×Core=>mk [(2,I .i64 F),(4,.one (.vp 4 0)),(6,.one (.vp 6 0)),(9,.one (.vp 9 0)),(10,I .i64 p.1)] [(9,.var 99 ((mN bd).map .c)),(4,.var 34 (b7 p.2)),(6,.var 34 bI)]) (fun p=>p.1≤F∧Iv p.1 p.2∧whE q F 0 c=whE q (F-p.1) p.1 p.2) (fun p=>F-p.1) (0,c) ⟨Ak _,h0,rfl⟩ sl ?_))));rintro⟨j,x⟩ ⟨hj,hx,hw⟩;dsimp only at hj hx hw ⊢;obtain⟨hq,hcs,Z⟩:=hI j x hj hx;have hsh:=aIj 403 x hq hcs;refine a8 (sk 1 rfl (kc hsh ?_));refine kz 1 rfl ?_;cases hs:shE x with
 | true=>
  have e:whE q F 0 c=(x,j,0):=by
   rw[hw];cases F-j with
   | zero=>rw[whE,ξ hs]
   | succ k=>rw[whE,ξ hs]
  have hap:=a33 x Z;rw[e];refine aA rfl (fun hb=>absurd hb (by decide)) (fun _=>aM (sk 1 rfl (kc hap ?_)));exact kz 4 rfl (aF (a4s trw))
 | false=>
  have W:¬shE x=true:=by rw[hs];exact Ao
  refine aA rfl (fun _=>aD (a8 (aC (a8 (sg rfl (aA rfl (fun hb=>?_) (fun hb=>?_))))))) (fun hb=>absurd hb (by decide))
  ·have O:j=F:=by have:=θ hb;omega
   have e:whE q F 0 c=(zC,0,3):=by rw[hw,O,C6,whE,ψ W]
   rw[e];exact sg rfl (aF (a4s trw))
  have O:j<F:=by have:=Aa hb;omega
  obtain⟨k,hk⟩:∃k,F-j=k+1:=⟨F-j-1,by omega⟩
  obtain⟨hst,hok⟩:=hS j x O hx hs;rw[hk,whE,ψ W] at hw;generalize q x=p at *;obtain⟨r,e⟩:=p;dsimp only at hok hw ⊢;refine aD (sk 2 rfl (kc hst ?_));refine kz 6 rfl (a8 (sg rfl ?_));by_cases he:e=0
  ·subst he;obtain⟨Y,aa⟩:=hok rfl;have hze:=aE0 (aV r) r (le_refl _) Y.1 Y.2;rw[ξ rfl] at hw;refine aA rfl (fun hb=>absurd hb (by simp)) (fun _=>aD (sg rfl (sk 1 rfl (kc hze ?_))));refine kz 1 rfl ?_;by_cases J:6000<eZ r
   ·rw[ξ J] at hw;rw[hw];exact aA rfl (fun _=>sg rfl (aF (a4s trw))) (fun hb=>absurd hb (by simp;omega))
   ·rw[ψ J] at hw;exact aA rfl (fun hb=>absurd hb (by simp;omega)) (fun _=>aD (ag [] rfl ⟨(j+1,r),⟨O,aa J,by rw[hw];congr 1;omega⟩,by dsimp only;omega,sl⟩))
  ·rw[ψ he] at hw;rw[hw];exact aA rfl (fun _=>sg rfl (aF (a4s trw))) (fun hb=>absurd hb (by simp[he]))
def iO (ρ:Str→Nat) (L:List Str):Str→Nat:=fun x=>if x∈L then 1+w30 x else ρ x
mutual
def wS (ρ:Str→Nat):Core→Nat
 | .mk f _ s _ ks bs al=>(if f=1 then ρ s else 1+w30 s)+wSs (iO ρ (gvN f s bs)) ks+wSb (iO ρ (gvN f s bs)) bs+wSa ρ al
def wSs (ρ:Str→Nat):List Core→Nat
 | []=>0
 | c::l=>wS ρ c+wSs ρ l
def wSb (ρ:Str→Nat):List Bind→Nat
 | []=>0
 | .mk s _ c::l=>1+w30 s+wS ρ c+wSb ρ l
def wSa (ρ:Str→Nat):List Alt→Nat
 | []=>0
 | .mk _ _ s vs c::l=>1+w30 s+(vs.map fun v=>1+w30 v).sum+wS (iO ρ vs) c+wSa ρ l
end
theorem tQ {ρ ρ':Str→Nat}(h:∀x,ρ x≤ρ' x) (L:List Str) (x:Str):iO ρ L x≤iO ρ' L x:=by
 unfold iO;split
 ·exact le_refl _
 ·exact h x
mutual
theorem lV {ρ ρ':Str→Nat}(h:∀x,ρ x≤ρ' x):∀c:Core,wS ρ c≤wS ρ' c
 | .mk f n s t ks bs al=>by
  rw[wS,wS];have h1:=aFm (tQ h (gvN f s bs)) ks;have h2:=aFo (tQ h (gvN f s bs)) bs;have h3:=aFq h al;have h4:=h s;split<;>omega
theorem aFm {ρ ρ':Str→Nat}(h:∀x,ρ x≤ρ' x):∀l:List Core,wSs ρ l≤wSs ρ' l
 | []=>by rw[wSs,wSs];exact le_refl _
 | c::l=>by rw[wSs,wSs];have:=lV h c;have:=aFm h l;omega
theorem aFo {ρ ρ':Str→Nat}(h:∀x,ρ x≤ρ' x):∀l:List Bind,wSb ρ l≤wSb ρ' l
 | []=>by rw[wSb,wSb];exact le_refl _
 | .mk s t c::l=>by rw[wSb,wSb];have:=lV h c;have:=aFo h l;omega
theorem aFq {ρ ρ':Str→Nat}(h:∀x,ρ x≤ρ' x):∀l:List Alt,wSa ρ l≤wSa ρ' l
 | []=>by rw[wSa,wSa];exact le_refl _
 | .mk f n s vs c::l=>by rw[wSa,wSa];have:=lV (tQ h vs) c;have:=aFq h l;omega
end
theorem aEg {ρ:Str→Nat}(h:∀x,ρ x=1+w30 x) (L:List Str) (x:Str):iO ρ L x=1+w30 x:=by
 unfold iO;split
 ·rfl
 ·exact h x
mutual
theorem aAd {ρ:Str→Nat}(h:∀x,ρ x=1+w30 x):∀c:Core,wS ρ c=m30 c
 | .mk f n s t ks bs al=>by
  rw[wS,m30,aKq (aEg h (gvN f s bs)) ks,aKr (aEg h (gvN f s bs)) bs,aKs h al,h s,ite_self]
theorem aKq {ρ:Str→Nat}(h:∀x,ρ x=1+w30 x):∀l:List Core,wSs ρ l=bV l
 | []=>by rw[wSs,bV]
 | c::l=>by rw[wSs,bV,aAd h c,aKq h l]
theorem aKr {ρ:Str→Nat}(h:∀x,ρ x=1+w30 x):∀l:List Bind,wSb ρ l=eU l
 | []=>by rw[wSb,eU]
 | .mk s t c::l=>by rw[wSb,eU,aAd h c,aKr h l]
theorem aKs {ρ:Str→Nat}(h:∀x,ρ x=1+w30 x):∀l:List Alt,wSa ρ l=fQ l
 | []=>by rw[wSa,fQ]
 | .mk f n s vs c::l=>by rw[wSa,fQ,aAd (aEg h vs) c,aKs h l]
end
theorem aM5 {ρ ρ':Str→Nat}{L:List Str}{x:Str}(h:¬x∈L→ρ x=ρ' x):iO ρ L x=iO ρ' L x:=by
 unfold iO;split
 ·rfl
 ·rename_i hx;exact h hx
mutual
theorem pS {X:Nat}:∀c:Core,bE (QL X) c→∀ρ ρ':Str→Nat,(∀x∈pfR c,ρ x=ρ' x)→wS ρ c=wS ρ' c
 | .mk f n s t ks bs al,h,ρ,ρ',hp=>by
  obtain⟨_,O,W,Y⟩:=aJ.1 h;rw[wS,wS];by_cases h1:f=1
  ·obtain⟨rfl,rfl,rfl⟩:=lS h h1;rw[ξ h1,ξ h1,hp s (by rw[pfR,ξ h1];exact κ.2 rfl)];simp only[wSs,wSb,wSa]
  ·rw[ψ h1,ψ h1];have J:∀p∈ks++bs.map Bind.body,∀x∈pfR p,iO ρ (gvN f s bs) x=iO ρ' (gvN f s bs) x:=fun p q x hx=>aM5 fun I=>hp x ((dC h1).2 (.inl ⟨p,q,hx,I⟩))
   have ha:∀a∈al,∀x∈pfR a.body,iO ρ a.vars x=iO ρ' a.vars x:=fun a ha x hx=>aM5 fun I=>hp x ((dC h1).2 (.inr ⟨a,ha,hx,I⟩))
   rw[aFn ks O _ _ fun p q=>J p (χ.2 (.inl q)),aFp bs W _ _ fun b hb=>J b.body (χ.2 (.inr (Ad.2 ⟨b,hb,rfl⟩))),aFr al Y _ _ ha]
theorem aFn {X:Nat}:∀l:List Core,(∀c∈l,bE (QL X) c)→∀ρ ρ':Str→Nat,(∀c∈l,∀x∈pfR c,ρ x=ρ' x)→wSs ρ l=wSs ρ' l
 | [],_,_,_,_=>by rw[wSs,wSs]
 | c::l,h,ρ,ρ',hp=>by rw[wSs,wSs,pS c (h c φ) ρ ρ' (hp c φ),aFn l (fun x hx=>h x (η _ hx)) ρ ρ' fun x hx=>hp x (η _ hx)]
theorem aFp {X:Nat}:∀l:List Bind,(∀c∈l,bE (QL X) c.body)→∀ρ ρ':Str→Nat,(∀c∈l,∀x∈pfR c.body,ρ x=ρ' x)→wSb ρ l=wSb ρ' l
 | [],_,_,_,_=>by rw[wSb,wSb]
 | .mk s t c::l,h,ρ,ρ',hp=>by rw[wSb,wSb,pS c (h _ φ) ρ ρ' (hp _ φ),aFp l (fun x hx=>h x (η _ hx)) ρ ρ' fun x hx=>hp x (η _ hx)]
theorem aFr {X:Nat}:∀l:List Alt,(∀c∈l,bE (QL X) c.body)→∀ρ ρ':Str→Nat,(∀c∈l,∀x∈pfR c.body,iO ρ c.vars x=iO ρ' c.vars x)→wSa ρ l=wSa ρ' l
 | [],_,_,_,_=>by rw[wSa,wSa]
 | .mk f n s vs c::l,h,ρ,ρ',hp=>by rw[wSa,wSa,pS c (h _ φ) (iO ρ vs) (iO ρ' vs) (hp _ φ),aFr l (fun x hx=>h x (η _ hx)) ρ ρ' fun x hx=>hp x (η _ hx)]
end
def otN (s:Str) (n:Nat):Str:=s++64::Lib.decDigits n
theorem a27 (n:Nat):¬(64:UInt8)∈Lib.decDigits n:=by
 induction n using Nat.strongRecOn with
 | _ n q=>
  rw[Lib.decDigits];split
  ·rename_i h;intro hm;have:n<10:=h
   match n,this with
   | 0,_ | 1,_ | 2,_ | 3,_ | 4,_ | 5,_ | 6,_ | 7,_ | 8,_ | 9,_=>simp_all (config:={ decide:=true })
  ·rename_i h;intro hm;rcases χ.1 hm with hm | hm
   ·exact q (n/10) (by omega) hm
   ·have:n%10<10:=Nat.mod_lt _ (by decide);generalize n%10=d at hm this
    match d,this with
    | 0,_ | 1,_ | 2,_ | 3,_ | 4,_ | 5,_ | 6,_ | 7,_ | 8,_ | 9,_=>simp_all (config:={ decide:=true })
theorem a4c {a q d I:Str}(h:a++64::d=q++64::I) (hd:¬(64:UInt8)∈d) (J:¬(64:UInt8)∈I):a=q∧d=I:=by
 induction a generalizing q with
 | nil=>
  cases q with
  | nil=>simp at h;exact⟨rfl,h⟩
  | cons x q=>
   simp only[A4,A9,List.cons.injEq] at h;exact absurd (by rw[h.2];simp) hd
 | cons y a O=>
  cases q with
  | nil=>
   simp only[A4,A9,List.cons.injEq] at h;exact absurd (by rw[←h.2];simp) J
  | cons x q=>
   simp only[A9,List.cons.injEq] at h;obtain⟨h1,h2⟩:=O h.2;exact⟨by rw[h.1,h1],h2⟩
theorem aM9 {s s':Str}{n q:Nat}(h:otN s n=otN s' q):s=s'∧n=q:=by
 obtain⟨h1,h2⟩:=a4c h (a27 n) (a27 q);exact⟨h1,aO4 _ _ h2⟩
theorem aNe (tk:List Str) (s:Str) (m:Nat):∃n,m≤n∧n≤m+tk.length∧¬otN s n∈tk∧∀k,m≤k→k<n→otN s k∈tk:=by
 have h1:∃n,m≤n∧n≤m+tk.length∧¬otN s n∈tk:=by
  refine Classical.byContradiction fun I=>?_
  have J:∀k,k≤tk.length→otN s (m+k)∈tk:=fun k hk=>Classical.byContradiction fun h=>I ⟨m+k,by omega,by omega,h⟩
  have O:((List.range (tk.length+1)).map fun k=>otN s (m+k)).Nodup:=by
   rw[List.Nodup,List.pairwise_map];exact List.Pairwise.imp (fun h e=>h (by have:=(aM9 e).2;omega)) nodup_range
  have:=eO _ tk O fun x hx=>by
   obtain⟨k,hk,rfl⟩:=Ad.1 hx;exact J k (by have:=mem_range.1 hk;omega)
  rw[ζ,length_range] at this;omega
 obtain⟨n,Z,aa,W⟩:=h1;have key:∀d n,n=m+d→¬otN s n∈tk→∃q,m≤q∧q≤n∧¬otN s q∈tk∧∀k,m≤k→k<q→otN s k∈tk:=by
  intro d
  induction d using Nat.strongRecOn with
  | _ d Y=>
   intro n hn I;by_cases h:∃k,m≤k∧k<n∧¬otN s k∈tk
   ·obtain⟨k,h1,h2,h3⟩:=h;obtain⟨q,g1,g2,g3,g4⟩:=Y (k-m) (by omega) k (by omega) h3;exact⟨q,g1,by omega,g3,g4⟩
   ·exact⟨n,by omega,le_refl _,I,fun k h1 h2=>Classical.byContradiction fun h3=>h ⟨k,h1,h2,h3⟩⟩
 obtain⟨q,g1,g2,g3,g4⟩:=key (n-m) n (by omega) W;exact⟨q,g1,by omega,g3,g4⟩
noncomputable def mD (tk:List Str) (s:Str) (m:Nat):Nat:=Classical.choose (aNe tk s m)
theorem j6 (tk:List Str) (s:Str) (m:Nat):m≤mD tk s m∧mD tk s m≤m+tk.length∧¬otN s (mD tk s m)∈tk∧∀k,m≤k→k<mD tk s m→otN s k∈tk:=By (aNe tk s m)
noncomputable def n6 (tk:List Str):List Str→Nat→List Str
 | [],_=>[]
 | s::l,m=>otN s (mD tk s m)::n6 tk l (mD tk s m+1)
def dA (c:Core) (names:List Str) (l:List Core):List Str:=pfR c++names++l.flatMap pfR
noncomputable def aAb (c:Core) (names:List Str) (l:List Core):Core:=fY (dL c (names.zip (n6 (dA c names l) names 0))) ((n6 (dA c names l) names 0).zip l)
def rL (ρ:Str→Nat) (s:Str) (w:Nat):Str→Nat:=fun x=>if x=s then w else ρ x
theorem aWp {X:Nat}{c:Core}(h:bE (QL X) c) {ρ ρ':Str→Nat}(hp:∀x∈pfR c,ρ x≤ρ' x):wS ρ c≤wS ρ' c:=by
 have e:wS ρ c=wS (fun x=>if x∈pfR c then ρ x else 0) c:=pS c h _ _ (fun x hx=>by rw[ξ hx]);rw[e];refine lV (fun x=>?_) c;by_cases hx:x∈pfR c
 ·rw[ξ hx];exact hp x hx
 ·rw[ψ hx];exact Ak _
theorem a0j (ρ:Str→Nat) (z:Str):wS ρ (vC z)=ρ z:=by
 unfold vC;rw[wS,ξ rfl,wSs,wSb,wSa];rfl
theorem aM4 {ρ ρ':Str→Nat}{L L':List Str}{x:Str}(h1:x∈L→x∈L'∨1+w30 x≤ρ' x) (h2:¬x∈L→¬x∈L'→ρ x≤ρ' x) (h3:¬x∈L→x∈L'→ρ x≤1+w30 x):iO ρ L x≤iO ρ' L' x:=by
 unfold iO;by_cases a:x∈L
 ·rw[ξ a];by_cases b:x∈L'
  ·rw[ξ b];exact le_refl _
  ·rw[ψ b];exact(h1 a).resolve_left b
 ·rw[ψ a];by_cases b:x∈L'
  ·rw[ξ b];exact h3 a b
  ·rw[ψ b];exact h2 a b
section
variable {sb:Core→Str→Core→Core}{P:Core→Prop}
theorem u5 {far:List Str}{Q:Str→Prop}:∀{ns:List Str}{st:List Str×List Core×List Str},(∀x∈far,x∈st.2.2)→(∀x,Q x→x∈st.2.2)→(∀x∈st.1,¬x∈far∧¬Q x)→(∀x∈ns,¬Q x)→∀x∈(jO sb far ns st).1,¬x∈far∧¬Q x
 | [],st,_,_,h3,_=>h3
 | n::ns,st,h1,h2,h3,h4=>by
  have e:jO sb far (n::ns) st=jO sb far ns (dU sb far st n):=rfl;rw[e];have h4':∀x∈ns,¬Q x:=fun x hx=>h4 x (η _ hx)
  by_cases hn:n∈far
  ·have es:dU sb far st n=(st.1++[b6 st.2.2],st.2.1.map (fun p=>sb p n (vC (b6 st.2.2))),st.2.2++[b6 st.2.2]):=by unfold dU;rw[ξ hn]
   rw[es];refine u5 (fun x hx=>χ.2 (.inl (h1 x hx))) (fun x hx=>χ.2 (.inl (h2 x hx))) (fun x hx=>?_) h4';rcases χ.1 hx with hx | hx
   ·exact h3 x hx
   ·rw[κ.1 hx];exact⟨fun h=>iH _ (h1 _ h),fun h=>iH _ (h2 _ h)⟩
  ·have es:dU sb far st n=(st.1++[n],st.2.1,st.2.2):=by unfold dU;rw[ψ hn]
   rw[es];refine u5 h1 h2 (fun x hx=>?_) h4';rcases χ.1 hx with hx | hx
   ·exact h3 x hx
   ·rw[κ.1 hx];exact⟨hn,h4 n φ⟩
theorem aOm {X:Nat}{far:List Str}(Z:∀p,P p→bE (QL X) p) (hz:∀p n z,P p→z.length≤30→P (sb p n (vC z))∧(∀x∈pfR (sb p n (vC z)),x∈pfR p∨x=z)∧∀ρ,wS ρ (sb p n (vC z))≤wS (rL ρ n (ρ z)) p):
  ∀{ns:List Str} {st:List Str×List Core×List Str},st.2.2.length+ns.length≤540000000000→(∀p∈st.2.1,P p∧∀x∈pfR p,x∈st.2.2)→A2 (fun p q=>P q∧∀ρ,wS (iO ρ (jO sb far ns st).1) q≤wS (iO ρ (st.1++ns)) p) st.2.1 (jO sb far ns st).2.1
 | [],st,_,W=>by
  show A2 (fun p q=>P q∧∀ρ,wS (iO ρ st.1) q≤wS (iO ρ (st.1++[])) p) st.2.1 st.2.1;rw[A8];have key:∀l:List Core,(∀p∈l,P p)→A2 (fun p q=>P q∧∀ρ,wS (iO ρ st.1) q≤wS (iO ρ st.1) p) l l:=by
   intro l
   induction l with
   | nil=>intro _;exact .nil
   | cons p l ih=>intro h;exact .cons ⟨h p φ,fun _=>le_refl _⟩ (ih fun q Y=>h q (η _ Y))
  exact key _ fun p hp=>(W p hp).1
 | n::ns,st,hl,W=>by
  simp only[Am] at hl;have hg:=oW (sb:=sb) (far:=far) (st:=st) (n:=n);have e:jO sb far (n::ns) st=jO sb far ns (dU sb far st n):=rfl;rw[e];have hf:(b6 st.2.2).length≤30:=o9 _ (by omega);by_cases hn:n∈far
  ·have es:dU sb far st n=(st.1++[b6 st.2.2],st.2.1.map (fun p=>sb p n (vC (b6 st.2.2))),st.2.2++[b6 st.2.2]):=by unfold dU;rw[ξ hn]
   rw[es] at hg ⊢;have hP2:∀p∈st.2.1.map (fun p=>sb p n (vC (b6 st.2.2))),P p∧∀x∈pfR p,x∈st.2.2++[b6 st.2.2]:=fun p hp=>by
    obtain⟨q,Y,rfl⟩:=Ad.1 hp;obtain⟨z1,z2,_⟩:=hz q n _ (W q Y).1 hf;refine⟨z1,fun x hx=>χ.2 ?_⟩;rcases z2 x hx with h | h
    ·exact .inl ((W q Y).2 x h)
    ·exact .inr (κ.2 h)
   have J:=aOm Z hz (far:=far) (ns:=ns) (st:=(st.1++[b6 st.2.2],st.2.1.map (fun p=>sb p n (vC (b6 st.2.2))),st.2.2++[b6 st.2.2])) (by omega) hP2;generalize jO sb far ns (st.1++[b6 st.2.2],st.2.1.map (fun p=>sb p n (vC (b6 st.2.2))),st.2.2++[b6 st.2.2])=r at J ⊢;dsimp only at J;have hno:=iH st.2.2;generalize b6 st.2.2=z at *;have key:∀(l:List Core) (m:List Core),(∀p∈l,P p∧∀x∈pfR p,x∈st.2.2)→A2 (fun p q=>P q∧∀ρ,wS (iO ρ r.1) q≤wS (iO ρ (st.1++[z]++ns)) p) (l.map (fun p=>sb p n (vC z))) m→A2 (fun p q=>P q∧∀ρ,wS (iO ρ r.1) q≤wS (iO ρ (st.1++n::ns)) p) l m:=by
    intro l
    induction l with
    | nil=>intro m _ h;cases h;exact .nil
    | cons p l ih2=>
     intro m hp h;cases h with
     | cons h1 h2=>
      obtain⟨p1,p2⟩:=hp p φ;obtain⟨_,_,z3⟩:=hz p n z p1 hf;refine .cons ⟨h1.1,fun ρ=>le_trans (h1.2 ρ) (le_trans (z3 _) (aWp (Z p p1) fun x hx=>?_))⟩ (ih2 _ (fun q Y=>hp q (η _ Y)) h2);have hxz:¬x=z:=fun e=>hno (by rw[←e];exact p2 x hx)
      unfold rL;by_cases O:x=n
      ·rw[ξ O];have e1:iO ρ (st.1++[z]++ns) z=1+w30 z:=by unfold iO;rw[ξ (by simp)]
       have e2:iO ρ (st.1++n::ns) x=1+w30 x:=by unfold iO;rw[ξ (by rw[O];simp)]
       rw[e1,e2];unfold w30;omega
      ·rw[ψ O];refine aM4 (fun h=>.inl ?_) (fun _ _=>le_refl _) (fun h I=>?_)
       ·simp only[χ,Ah,Ca,C8] at h ⊢;rcases h with(h | h) | h
        ·exact .inl h
        ·exact absurd h hxz
        ·exact .inr (.inr h)
       ·exfalso;simp only[χ,Ah,Ca,C8] at h I;rcases I with I | I | I
        ·exact h (.inl (.inl I))
        ·exact O I
        ·exact h (.inr I)
   exact key _ _ W J
  ·have es:dU sb far st n=(st.1++[n],st.2.1,st.2.2):=by unfold dU;rw[ψ hn]
   rw[es] at hg ⊢;have J:=aOm Z hz (far:=far) (ns:=ns) (st:=(st.1++[n],st.2.1,st.2.2)) (by omega) W;have e2:(st.1++[n])++ns=st.1++n::ns:=by simp
   dsimp only at J;rw[e2] at J;exact J
def WB (s:Str) (b:Core) (ns out:List Str) (p q:Core):Prop:=∀ρ,wS (iO ρ out) q≤wS (iO (rL ρ s (wS ρ b)) ns) p
theorem aUv {X:Nat}{s:Str}{b:Core}{ns:List Str}{ps:List Core}(Y:bE (QL X) b) (Z:∀p∈ps,P p) (J:∀p,P p→bE (QL X) p)
  (hz:∀p n z,P p→z.length≤30→P (sb p n (vC z))∧(∀x∈pfR (sb p n (vC z)),x∈pfR p∨x=z)∧∀ρ,wS ρ (sb p n (vC z))≤wS (rL ρ n (ρ z)) p)
  (hs:∀p,P p→∀ρ,wS ρ (sb p s b)≤wS (rL ρ s (wS ρ b)) p)
  (hl:(ps.flatMap pfR).length+2*ns.length+(pfR b).length≤540000000000):A2 (WB s b ns (cO sb s b ns ps).1) ps (cO sb s b ns ps).2:=by
 unfold cO;split
 ·rename_i hin;have O:=aOm (sb:=sb) J hz (far:=pfR b) (ns:=ns) (st:=([],ps,ps.flatMap pfR++ns++pfR b)) (by simp only[Ab];omega) (fun p hp=>⟨Z p hp,fun x hx=>χ.2 (.inl (χ.2 (.inl (Bw.2 ⟨p,hp,hx⟩))))⟩);have W:=u5 (sb:=sb) (far:=pfR b) (Q:=fun x=>x=s) (ns:=ns) (st:=([],ps,ps.flatMap pfR++ns++pfR b)) (fun x hx=>χ.2 (.inr hx)) (fun x hx=>by rw[hx];exact χ.2 (.inl (χ.2 (.inl hin.1)))) (fun x hx=>by cases hx) (fun x hx e=>hin.2 (by rw[←e];exact hx));generalize jO sb (pfR b) ns ([],ps,ps.flatMap pfR++ns++pfR b)=r at O W ⊢;dsimp only[A4] at O ⊢;have key:∀(l m:List Core),A2 (fun p q=>P q∧∀ρ,wS (iO ρ r.1) q≤wS (iO ρ ns) p) l m→A2 (WB s b ns r.1) l (m.map fun p=>sb p s b):=by
   intro l m h
   induction h with
   | nil=>exact .nil
   | cons h1 _ I=>
    refine .cons (fun ρ=>?_) I;have e1:wS (iO ρ r.1) b=wS ρ b:=pS b Y _ _ fun x hx=>by
     unfold iO;rw[ψ fun h=>(W x h).1 hx]
    have e2:rL (iO ρ r.1) s (wS ρ b)=iO (rL ρ s (wS ρ b)) r.1:=by
     funext x;unfold rL iO;dsimp only;by_cases hx:x=s
     ·rw[ξ hx,ψ fun h=>(W x h).2 hx,ξ hx]
     ·rw[ψ hx,ψ hx]
    have h2:=hs _ h1.1 (iO ρ r.1);rw[e1,e2] at h2;exact le_trans h2 (h1.2 _)
  exact key _ _ O
 ·rename_i hin;have key:∀l:List Core,(∀p∈l,p∈ps)→A2 (WB s b ns ns) l l:=by
   intro l
   induction l with
   | nil=>intro _;exact .nil
   | cons p l I=>
    intro h;refine .cons (fun ρ=>aWp (J p (Z p (h p φ))) fun x hx=>aM4 (fun h=>.inl h) (fun hn _=>?_) (fun hn h'=>absurd h' hn)) (I fun q hq=>h q (η _ hq));unfold rL;rw[ψ fun e=>hin ⟨Bw.2 ⟨p,h p φ,by rw[←e];exact hx⟩,by rw[←e];exact hn⟩];exact le_refl _
  exact key ps fun p hp=>hp
end
theorem a0g {ρ ρ':Str→Nat}{l m:List Core}(h:A2 (fun p q=>wS ρ q≤wS ρ' p) l m):wSs ρ m≤wSs ρ' l:=by
 induction h with
 | nil=>exact le_refl _
 | cons r _ I=>rw[wSs,wSs];omega
theorem aVd {ρ ρ':Str→Nat}:∀{ts:List Ty}{ns:List Str}{ps:List Core}{bs:List Bind},A2 (fun(b:Bind) n=>w30 n≤w30 b.name) bs ns→A2 (fun(b:Bind) p=>wS ρ p≤wS ρ' b.body) bs ps→wSb ρ (mkB ts ns ps)≤wSb ρ' bs
 | [],_,_,_,_,_=>by unfold mkB;rw[wSb];exact Ak _
 | t::ts,_,_,_,.nil,.nil=>by unfold mkB;rw[wSb];exact le_refl _
 | t::ts,n::ns,p::ps,.mk s ty c::bs,.cons h1 h2,.cons h3 h4=>by
  unfold mkB;rw[wSb,wSb];have:=aVd (ts:=ts) h2 h4;have h1:w30 n≤w30 s:=h1;have h3:wS ρ p≤wS ρ' c:=h3;omega
section
variable {sb:Core→Str→Core→Core}{X:Nat}{s:Str}{b:Core}{f n:Int}{nm:Str}{t:Ty}{ks:List Core}{bs:List Bind}{al:List Alt}
theorem a4d (Z:f≠1) (hq:bE (QL X) (.mk f n nm t ks bs al)) (hn:A2 NR (gvN f nm bs) (cO sb s b (gvN f nm bs) (ks++bs.map Bind.body)).1)
  (hg:A2 (WB s b (gvN f nm bs) (cO sb s b (gvN f nm bs) (ks++bs.map Bind.body)).1) (ks++bs.map Bind.body) (cO sb s b (gvN f nm bs) (ks++bs.map Bind.body)).2)
  (ha:∀a∈al,A2 NR a.vars (cO sb s b a.vars [a.body]).1∧A2 (WB s b a.vars (cO sb s b a.vars [a.body]).1) [a.body] (cO sb s b a.vars [a.body]).2) (ρ:Str→Nat):
  wS ρ (nE sb s b (.mk f n nm t ks bs al))≤wS (rL ρ s (wS ρ b)) (.mk f n nm t ks bs al):=by
 have hA:∀a∈al,WB s b a.vars (jM sb s b a).vars a.body (jM sb s b a).body∧A2 NR a.vars (jM sb s b a).vars:=fun a ha'=>by
  obtain⟨g2,g1⟩:=ha a ha';refine⟨?_,g2⟩;show WB s b a.vars (cO sb s b a.vars [a.body]).1 a.body ((cO sb s b a.vars [a.body]).2.headD a.body);cases hx:(cO sb s b a.vars [a.body]).2 with
  | nil=>rw[hx] at g1;cases g1
  | cons y l'=>
   rw[hx] at g1;cases g1 with
   | cons h _=>exact h
 have W:f=5→bs=[]:=fun h5=>(dG hq (.inl h5)).2.1
 rw[nE];unfold zNm zKs zBs;generalize cO sb s b (gvN f nm bs) (ks++bs.map Bind.body)=r at hg hn ⊢;obtain⟨J,Y⟩:=r;dsimp only at *;have hK:=hg.take ks.length;rw[take_left] at hK;have hB:=hg.drop ks.length;rw[drop_left] at hB;have hBl:(Y.drop ks.length).length=bs.length:=by rw[hB.length,ζ]
 have I:=hn.length;have hgv:gvN f (if f=5 then J.headD nm else nm) (mkB (bs.map Bind.ty) J (Y.drop ks.length))=J:=by
  by_cases h5:f=5
  ·have:=W h5;subst this;unfold gvN at hn I ⊢;rw[ξ h5] at hn I;rw[ξ h5,ξ h5]
   match J,I with
   | [y],_=>show [y]++(mkB [] [y] _).map Bind.name=[y];unfold mkB;rfl
  ·unfold gvN at I ⊢;rw[ψ h5,A4] at I;rw[ζ] at I;rw[ψ h5,A4,mF (by rw[ζ];exact I) (by rw[ζ];exact hBl)]
 rw[wS,wS,ψ Z,ψ Z,hgv];have e1:w30 (if f=5 then J.headD nm else nm)≤w30 nm:=by
  split
  ·rename_i hf;unfold gvN at hn;rw[ξ hf] at hn;cases hn with
   | cons h _=>exact h.w
  ·exact le_refl _
 have e2:wSs (iO ρ J) (Y.take ks.length)≤wSs (iO (rL ρ s (wS ρ b)) (gvN f nm bs)) ks:=a0g (A2.mono (fun p q h=>h ρ) hK);have e3:wSb (iO ρ J) (mkB (bs.map Bind.ty) J (Y.drop ks.length))≤wSb (iO (rL ρ s (wS ρ b)) (gvN f nm bs)) bs:=by
  by_cases hf:f=5
  ·have:=W hf;subst this;show wSb _ (mkB [] _ _)≤_;unfold mkB;rw[wSb];exact Ak _
  ·have h4:=hn;have e0:gvN f nm bs=bs.map Bind.name:=by unfold gvN;rw[ψ hf,A4]
   rw[e0] at h4;exact aVd (A2.mapL (A2.mono (fun a b h=>h.w) h4)) (A2.mapL (A2.mono (fun p q h=>h ρ) hB))
 have e4:wSa ρ (al.map (jM sb s b))≤wSa (rL ρ s (wS ρ b)) al:=by
  clear ha hq
  induction al with
  | nil=>rw[Bj,wSa,wSa];exact le_refl _
  | cons a l ihl=>
   obtain⟨af,an,anm,vs,O⟩:=a;obtain⟨g1,g2⟩:=hA _ φ;have:=ihl fun x hx=>hA x (η _ hx)
   have g3:=g1 ρ;have g4:=aAn g2;have e:jM sb s b (Alt.mk af an anm vs O)=.mk af an anm (jM sb s b (Alt.mk af an anm vs O)).vars (jM sb s b (Alt.mk af an anm vs O)).body:=rfl;have g3:wS (iO ρ (jM sb s b (Alt.mk af an anm vs O)).vars) (jM sb s b (Alt.mk af an anm vs O)).body≤wS (iO (rL ρ s (wS ρ b)) vs) O:=g3;have g4:((jM sb s b (Alt.mk af an anm vs O)).vars.map fun v=>1+w30 v).sum≤(vs.map fun v=>1+w30 v).sum:=g4;rw[Al,e,wSa,wSa];omega
 omega
end
theorem aM6 {σ:Str→Nat}{B:Nat}(q:1≤B) (h:∀x,σ x≤(1+w30 x)*B) (L:List Str) (x:Str):iO σ L x≤(1+w30 x)*B:=by
 unfold iO;split
 ·exact Ay _ q
 ·exact h x
mutual
theorem a4p {σ:Str→Nat}{B:Nat}(q:1≤B) (h:∀x,σ x≤(1+w30 x)*B):∀c:Core,wS σ c≤m30 c*B
 | .mk f n s t ks bs al=>by
  rw[m30,wS,Av,Av,Av];have h1:=a0f q (aM6 q h (gvN f s bs)) ks;have h2:=a0h q (aM6 q h (gvN f s bs)) bs;have h3:=a0i q h al;have h4:=h s;have h5:1+w30 s≤(1+w30 s)*B:=Ay _ q;split<;>omega
theorem a0f {σ:Str→Nat}{B:Nat}(q:1≤B) (h:∀x,σ x≤(1+w30 x)*B):∀l:List Core,wSs σ l≤bV l*B
 | []=>by rw[wSs];exact Ak _
 | c::l=>by rw[wSs,bV,Av];have:=a4p q h c;have:=a0f q h l;omega
theorem a0h {σ:Str→Nat}{B:Nat}(q:1≤B) (h:∀x,σ x≤(1+w30 x)*B):∀l:List Bind,wSb σ l≤eU l*B
 | []=>by rw[wSb];exact Ak _
 | .mk s t c::l=>by
  rw[wSb,eU,Av,Av];have:=a4p q h c;have:=a0h q h l;have h5:1+w30 s≤(1+w30 s)*B:=Ay _ q;omega
theorem a0i {σ:Str→Nat}{B:Nat}(q:1≤B) (h:∀x,σ x≤(1+w30 x)*B):∀l:List Alt,wSa σ l≤fQ l*B
 | []=>by rw[wSa];exact Ak _
 | .mk f n s vs c::l=>by
  rw[wSa,fQ,Av,Av,Av];have:=a4p q (aM6 q h vs) c;have:=a0i q h l;have h5:1+w30 s≤(1+w30 s)*B:=Ay _ q;have I:(vs.map fun v=>1+w30 v).sum≤(vs.map fun v=>1+w30 v).sum*B:=Ay _ q;omega
end
theorem a2f {σ:Str→Nat}(h:∀x,1+w30 x≤σ x) (c:Core):m30 c≤wS σ c:=by
 rw[←aAd (ρ:=fun x=>1+w30 x) (fun _=>rfl) c];exact lV h c
def aGw (own:List Str) (B:Nat):Str→Nat:=fun x=>if x∈own then max (31*B) (1+w30 x) else 1+w30 x
def aUo (names own:List Str) (B:Nat):Str→Nat:=fun x=>if x∈names then(1+w30 x)*B else aGw own B x
theorem aW3 {own:List Str}{B:Nat}(x:Str):1+w30 x≤aGw own B x:=by
 unfold aGw;split
 ·exact Cf _ _
 ·exact le_refl _
theorem aL3 {own:List Str}{B:Nat}(q:1≤B) (x:Str):aGw own B x≤(1+w30 x)*B:=by
 have h5:1+w30 x≤(1+w30 x)*B:=Ay _ q;unfold aGw;split
 ·refine max_le.2 ⟨Ar _ ?_,h5⟩;have:=fR x;omega
 ·exact h5
theorem aWy {names own:List Str}{B:Nat}(q:1≤B) (x:Str):aUo names own B x≤(1+w30 x)*B:=by
 unfold aUo;split
 ·exact le_refl _
 ·exact aL3 q x
theorem aW2 {names own:List Str}{B:Nat}(q:1≤B) (x:Str):aGw own B x≤aUo names own B x:=by
 unfold aUo;split
 ·exact aL3 q x
 ·exact le_refl _
theorem yD (tk:List Str):∀(l:List Str) (m:Nat),(n6 tk l m).length=l.length
 | [],_=>rfl
 | s::l,m=>by rw[n6,Am,Am,yD]
noncomputable def uR (tk:List Str):List Str→Nat→Nat→Nat
 | _,m,0=>m
 | [],m,_+1=>m
 | s::l,m,i+1=>uR tk l (mD tk s m+1) i
theorem yE (tk:List Str):∀(l:List Str) (m i:Nat) (s:Str),l[i]?=some s→(n6 tk l m)[i]?=some (otN s (mD tk s (uR tk l m i)))∧uR tk l m (i+1)=mD tk s (uR tk l m i)+1
 | [],m,i,s,h=>by cases h
 | x::l,m,0,s,h=>by
  have e:x=s:=by simpa using h
  subst e;refine⟨by rw[n6,uR];rfl,?_⟩;rw[uR,uR,uR]
 | x::l,m,i+1,s,h=>by
  have q:l[i]?=some s:=by simpa using h
  obtain⟨h1,h2⟩:=yE tk l (mD tk x m+1) i s q;refine⟨by rw[n6,uR,Bg];exact h1,?_⟩;rw[uR,uR];exact h2
theorem aEh (tk:List Str):∀(l:List Str) (m i:Nat),uR tk l m i≤m+i*(tk.length+1)
 | _,m,0=>by rw[uR];omega
 | [],m,i+1=>by rw[uR];omega
 | s::l,m,i+1=>by
  rw[uR];have h1:=aEh tk l (mD tk s m+1) i;have h2:=(j6 tk s m).2.1
  rw[succ_mul];omega
structure OtO (tk names own:List Str) (K:Nat):Prop where
 len:own.length=names.length
 at_:∀(i:Nat) (s o:Str),names[i]?=some s→own[i]?=some o→∃n,n≤K∧o=otN s n
 out:∀o∈own,¬o∈tk
theorem aEi (tk names:List Str):OtO tk names (n6 tk names 0) (names.length*(tk.length+1)):=by
 refine⟨yD tk names 0,fun i s o h1 h2=>?_,fun o q=>?_⟩
 ·obtain⟨g1,g2⟩:=yE tk names 0 i s h1;rw[g1] at h2;have hi:i+1≤names.length:=(τ.1 h1).1
  have g3:=aEh tk names 0 (i+1);rw[g2] at g3;have g4:(i+1)*(tk.length+1)≤names.length*(tk.length+1):=Ar _ hi;exact⟨_,by omega,(Option.some.inj h2).symm⟩
 ·obtain⟨i,hi⟩:=List.mem_iff_getElem?.1 q;have hl:i<names.length:=by
   have:=(τ.1 hi).1
   rwa [yD] at this
  obtain⟨s,hs⟩:=aL hl;obtain⟨g1,_⟩:=yE tk names 0 i s hs;rw[g1] at hi;rw[←Option.some.inj hi];exact(j6 tk s _).2.2.1
theorem aEj {s:Str}{n:Nat}(h:n<10^12):(otN s n).length≤s.length+13:=by
 have:=aIf 11 n h;unfold otN;rw[Ab,Am];omega
section
variable {D M X B:Nat}{c:Core}{l:List Core}{names own tk:List Str}
end
end Go.Proofs.YtglfogjcijokpaaGreatDoor
namespace Go.AM
open Go
theorem nO {S:Sto}{c:C}{v:Value}(h:Rep S c v):∀m:Nat,cB S (List.replicate m c) (List.replicate m v)
 | 0=>by simp[cB]
 | m+1=>by
  rw[List.replicate_succ,List.replicate_succ];simp only[cB];exact⟨v,_,rfl,h,nO h m⟩
theorem yO (v:Value) (m:Nat):(madeCells #[v] m).toList=List.replicate m v:=by
 refine List.eq_replicate_iff.2 ⟨by simp[madeCells],fun x hx=>?_⟩;simp only[madeCells,Array.toList_map,Ad] at hx;obtain⟨i,_,rfl⟩:=hx;simp[Nat.mod_one]
section
variable {P:Program}{n:Nat}
theorem aA4 {o:Oper}{st:St}{d:Nat}{T:TT}{t e:TypeId}{i ei:TI}{x y:Operand}{m:Nat}{c:C}{Y Z:IntKind}(id:Nat) (hT:Tok P T) (ho:o.op=.makeSlice t x y) (hd:o.dst=some d) (hdn:d<n)
  (hi:T[t]?=some (some i)) (hk:i.k=.sl e) (hei:T[e]?=some (some ei)) (O:ei.size=1) (hz:ei.zero=[c]) (hx:opv st x=some (I Y m)) (hy:opv st y=some (I Z m)) (hm:m≤1000000) (hb:ei.bytes*m≤281474976710656) (hid:st.h id=none):
  Step P n o st ⟨opr x++opr y,[id]⟩ ⟨some (d,some (.one (.hs id 0 m m))),[(id,some (.arr e ei.size (List.replicate m [c]) 0))]⟩:=by
 refine Step.new hd hdn hid (by simp) fun st' ha hid' G S μ a w hs=>?_
 obtain⟨inf,dd,z,g1,g2,g3,g4,g5,g6,g7,g8,g9⟩:=(hT.get hei).ex;have vx:=aQ hs hx fun t ht=>ha.1 t (by simp[ht])
 have vy:=aQ hs hy fun t ht=>ha.1 t (by simp[ht])
 simp only[aZ,b9,Rep] at vx vy;have q:cB S ei.zero z.cells.toList:=iJ (S:=S) g7;rw[hz] at q;simp only[cB] at q;obtain⟨v,us,hzv,hv,hus⟩:=q;subst hus;have hzc:z.cells= #[v]:=by rw[←Array.toList_inj,hzv]
 have hb':(inf.bytes:Int)*(m:Int)≤281474976710656:=by
  rw[g4];have h:((ei.bytes*m:Nat):Int)≤281474976710656:=by omega
  rwa [Int.natCast_mul] at h
 have J:=run_make (P:=P) w t e inf z ((hT.get hi).slice hk) g1 g6 Y Z (m:Int) (m:Int) (by omega) (Int.le_refl _) hb' (by omega);rw[g3,O,mul_one,Int.toNat_natCast,hzc] at J;have W:=yO v m;generalize madeCells #[v] m=out at J W;refine⟨_,_,.slice (some ⟨w.heap.size,0,none⟩) m m,(0,m),?_,WChg.alloc w (.cells out e),?_,?_⟩
 ·simp only[execOp,ho,vx,vy,Ag,J,ω,Ai]
 ·refine⟨fun r hr=>by rw[(List.mem_replicate.1 hr).2,O];rfl,.inr ⟨w.heap.size,0,m,out.toList,aI _ _ _,Bz w _,by simp[W,O],by simp,?_,?_,fun _ o _=>fI hs.inv o,fun o _=>fI hs.inv o,fun e=>by cases e⟩⟩
  ·have:(1000000:Nat)≤maxLen:=by decide
   exact⟨by omega,oT hs.inv⟩
  ·rw[W,O];simp only[B4,List.length_replicate,mul_one];rw[Ax (by simp),List.flatten_replicate_singleton];exact nO hv m
 ·simp only[aZ,b9];exact⟨⟨_,_,_,rfl⟩,.inr ⟨e,ei.size,_,0,aI _ _ _,by simp,fun _=>⟨by simp,.inr ⟨w.heap.size,0,m,aI _ _ _,by simp⟩⟩⟩⟩
end
end Go.AM
namespace Go.Proofs.YtglfogjcijokpaaGreatDoor
open Go Go.AM
set_option maxRecDepth 20000
set_option maxHeartbeats 4000000
def arrE (own:List Str) (k i:Nat) (cur:Str):List Str:=own.take i++cur::List.replicate (k-i-1) []
def aFb (own:List Str) (k i:Nat):List Str:=own.take i++List.replicate (k-i) []
theorem a6s (own:List Str) (k:Nat):aFb own k 0=List.replicate k []:=by unfold aFb;rw[Cr,A4,sub_zero]
theorem a6v {own:List Str}{k i:Nat}(h:i<k):aFb own k i=arrE own k i []:=by
 unfold aFb arrE;obtain⟨d,hd⟩:∃d,k-i=d+1:=⟨k-i-1,by omega⟩
 rw[hd,List.replicate_succ];rfl
theorem a6t {own:List Str}{k i:Nat}{o:Str}(h:own[i]?=some o):arrE own k i o=aFb own k (i+1):=by
 unfold aFb arrE;rw[Bh,h,A0];show _=own.take i++(o::List.replicate (k-(i+1)) []);rw[Nat.sub_sub]
theorem a6u {own:List Str}{k:Nat}(h:own.length=k):aFb own k k=own:=by
 unfold aFb;rw[C6,List.replicate_zero,A8,←h,As]
theorem aZm {own:List Str}{k i:Nat}(h:own.length=k) (hi:i<k) (x:Str):(arrE own k i x).length=k:=by
 unfold arrE;rw[Ab,At,Am,List.length_replicate];omega
theorem aTv {own:List Str}{k i:Nat}(h:own.length=k) (hi:i≤k):(aFb own k i).length=k:=by
 unfold aFb;rw[Ab,At,List.length_replicate];omega
theorem a4e {own:List Str}{k i:Nat}(h:own.length=k) (hi:i<k) (x:Str):(arrE own k i x)[i]?=some x:=by
 unfold arrE;have hl:(own.take i).length=i:=by rw[At];omega
 rw[A3 (by omega),hl,C6];rfl
theorem aZl {own:List Str}{k i:Nat}(h:own.length=k) (hi:i<k) (x y:Str):(arrE own k i x).set i y=arrE own k i y:=by
 unfold arrE;have hl:(own.take i).length=i:=by rw[At];omega
 rw[List.set_append_right _ _ (by omega),hl,C6,set_cons_zero]
def aQ1 (s:Str) (m0 m:Nat):Str:=if m=m0 then [] else otN s (m-1)
theorem a3i (hI:cE 540000000000) (c:Core) (names:List Str) (l:List Core) (hl:names.length=l.length) (hl2:l.length≤12) (hnl:∀s∈names,s.length≤380)
  (hfr:aU Tryz.prog 133 [.pa (aB c)] [] (ouV (pfR c)) [(500,ouO (pfR c))]) (hfB:∀b∈l,aU Tryz.prog 133 [.pa (aB b)] [] (bK (pfR b)) [])
  (hpfc:(pfR c).length≤10000000000) (hfl:∀i,((l.take i).flatMap pfR).length≤10000000000)
  (hS1:∀(i:Nat) (s o:Str),names[i]?=some s→(n6 (dA c names l) names 0)[i]?=some o→aU Tryz.prog 99 [.pa (aB (dL c ((names.zip (n6 (dA c names l) names 0)).take i))),Go.AM.T s,.pa (aB (vC o))] [] (.pa (aB (bW (m30 (dL c ((names.zip (n6 (dA c names l) names 0)).take i))) (dL c ((names.zip (n6 (dA c names l) names 0)).take i)) s (vC o)))) [])
  (hS2:∀(i:Nat) (s:Str) (b:Core),(n6 (dA c names l) names 0)[i]?=some s→l[i]?=some b→aU Tryz.prog 99 [.pa (aB (fY (dL c (names.zip (n6 (dA c names l) names 0))) (((n6 (dA c names l) names 0).zip l).take i))),Go.AM.T s,.pa (aB b)] [] (.pa (aB (bW (m30 (fY (dL c (names.zip (n6 (dA c names l) names 0))) (((n6 (dA c names l) names 0).zip l).take i))) (fY (dL c (names.zip (n6 (dA c names l) names 0))) (((n6 (dA c names l) names 0).zip l).take i)) s b))) []):
  aU Tryz.prog 135 [.pa (aB c),bK names,.one (.c (.sl 10 (l.map aB)))] [] (.pa (aB (aAb c names l))) []:=by
 have hkL:(l.map aB).length=l.length:=ζ _;have O:(names.map bC).length=names.length:=ζ _;have hTK:pfR c++names++(l.take l.length).flatMap pfR=dA c names l:=by rw[As];rfl
 have htkl:(dA c names l).length≤20000000012:=by rw[←hTK,Ab,Ab];have:=hfl l.length;omega
 have hnt:∀x∈names,x∈dA c names l:=fun x hx=>χ.2 (.inl (χ.2 (.inr hx)))
 have htk:∀b∈l,∀x∈pfR b,x∈dA c names l:=fun b hb x hx=>χ.2 (.inr (Bw.2 ⟨b,hb,hx⟩))
 have hot0:=aEi (dA c names l) names;have hK:names.length*((dA c names l).length+1)≤12*20000000013:=Ce (by omega) (by omega);have hat:∀i s,names[i]?=some s→(n6 (dA c names l) names 0)[i]?=some (otN s (mD (dA c names l) s (uR (dA c names l) names 0 i)))∧uR (dA c names l) names 0 (i+1)=mD (dA c names l) s (uR (dA c names l) names 0 i)+1:=fun i s h=>yE _ names 0 i s h
 have hNle:∀i,i≤names.length→uR (dA c names l) names 0 i≤12*20000000013:=fun i hi=>by
  have h1:=aEh (dA c names l) names 0 i;have h2:i*((dA c names l).length+1)≤12*20000000013:=Ce (by omega) (by omega);omega
 have hN0:uR (dA c names l) names 0 0=0:=by rw[uR]
 have hnx:∀s m,m≤mD (dA c names l) s m∧¬otN s (mD (dA c names l) s m)∈dA c names l∧∀k,m≤k→k<mD (dA c names l) s m→otN s k∈dA c names l:=fun s m=>⟨(j6 _ s m).1,(j6 _ s m).2.2.1,(j6 _ s m).2.2.2⟩
 have hputE:aAb c names l=fY (dL c (names.zip (n6 (dA c names l) names 0))) ((n6 (dA c names l) names 0).zip l):=rfl;rw[hputE];generalize n6 (dA c names l) names 0=own at *;generalize uR (dA c names l) names 0=cnt at *;generalize mD (dA c names l)=nx at *;generalize hTKe:dA c names l=TK at *;have J:=hot0.len;have hzn:(names.zip own).take names.length=names.zip own:=by
  rw[Ax];rw[length_zip];omega
 refine bL (n:=89) tok Tryz.func135 rfl rfl rfl ?_;refine sg rfl (sk 1 rfl (kc hfr ?_));refine kz 3 rfl ?_;have hnl1:names.length≤12:=by omega
 refine a8 (sg rfl (aC (aO (fun i:Nat=>mk [(1,bK names),(2,.one (.c (.sl 10 (l.map aB)))),(3,.one (.vp 3 0)),(6,.one (.vp 6 0)),(7,ouV (pfR c++names++(l.take i).flatMap pfR)),(19,.one (.c (.sl 10 (l.map aB)))),(20,I .i64 ((l.map aB).length:Int)),(21,I .i64 i)] [(3,.var 34 (b7 c)),(6,.var 34 bI),(500,ouO (pfR c++names++(l.take i).flatMap pfR))]) (fun i=>i≤l.length) (fun i=>l.length-i) 0 (Ak _) ?_ ?_)))
 ·rw[Cr,C3,A8];exact sl (he:=⟨rfl,rfl,rfl,rfl,Go.AM.hs_ren (by simp) (by simp),rfl,rfl,rfl,trivial⟩) (hh:=⟨⟨_,rfl,.varS rfl⟩,⟨_,rfl,.varS rfl⟩,⟨_,rfl,.arrS (by simp)⟩,trivial⟩)
 intro i hi;refine sg rfl (a8 (aA rfl (fun hb=>?_) (fun hb=>?_)))
 ·have q:=ltD hb hkL;obtain⟨b,Y⟩:=aL q;have hb':=bM aB Y;have hbm:=δ Y;have hfb:=hfB b hbm;have W:=qU Y;have h1:=hfl i;have h2:=hfl (i+1);rw[W,Ab] at h2;have hx0:(pfR c++names++(l.take i).flatMap pfR).length≤510000000000:=by rw[Ab,Ab];omega
  generalize hG:(l.take i).flatMap pfR=G at W hx0;generalize pfR b=F at hfb W h2;have hkF:(F.map bC).length=F.length:=ζ _;have hkx:((pfR c++names++G).map bC).length=(pfR c++names++G).length:=ζ _;refine aD (a8 (aC (sgh [(0,.row i (aB b))] rfl (aE mixed (ak 2 [] rfl (kc hfb ?_))))));refine kz 2 rfl (ag [] rfl ⟨i+1,q,by dsimp only;omega,?_⟩);dsimp only;rw[W,←A0];exact sl (he:=⟨rfl,rfl,rfl,rfl,Go.AM.hs_ren (by simp;omega) (by simp;omega),rfl,rfl,rfl,trivial⟩) (hh:=⟨⟨_,rfl,.varS rfl⟩,⟨_,rfl,.varS rfl⟩,⟨_,rfl,.arrS (by simp)⟩,trivial⟩)
 have Z:=geD hb hkL hi;subst Z;rw[hTK];refine aM (AWp.sub (Sub.freeze (id:=500) rfl) ?_);have hz0:List.replicate (names.map bC).length [C.str []]=(aFb own names.length 0).map bC:=by rw[a6s,List.map_replicate,O];rfl
 refine sk 2 rfl (k_ (g_ rfl rfl (aA4 (m:=(names.map bC).length) (c:=.str []) (id:=720) tok rfl rfl (fU rfl) (tg rfl) rfl (tg rfl) rfl rfl rfl rfl (by omega) (by rw[O];show 16*names.length≤_;omega) rfl)) ?_);refine kz 1 rfl (sg rfl (a8 (sg rfl ?_)));have hzl0:=aTv (i:=0) J (Ak _);refine aC (aO (fun i:Nat=>mk [(1,bK names),(2,.one (.c (.sl 10 (l.map aB)))),(3,.one (.vp 3 0)),(6,.one (.vp 6 0)),(7,ouV TK),(10,.one (.hs 720 0 (aFb own names.length i).length (aFb own names.length i).length)),(11,I .i64 (cnt i:Int)),(33,bK names),(34,I .i64 ((names.map bC).length:Int)),(35,I .i64 i)] [(3,.var 34 (b7 (dL c ((names.zip own).take i)))),(6,.var 34 bI),(500,.arr 9 1 (TK.map bC) 2),(720,.arr 9 1 ((aFb own names.length i).map bC) 0)]) (fun i=>i≤names.length) (fun i=>names.length-i) 0 (Ak _) ?_ ?_)
 ·rw[hN0];exact sl (he:=⟨rfl,rfl,rfl,rfl,rfl,Go.AM.hs_ren (by rw[hzl0,O]) (by rw[hzl0,O]),rfl,rfl,rfl,rfl,trivial⟩) (hh:=⟨⟨_,rfl,.varS rfl⟩,⟨_,rfl,.varS rfl⟩,⟨_,rfl,.arrS rfl⟩,⟨_,rfl,.arrS hz0⟩,trivial⟩)
 intro i hi;refine sg rfl (a8 (aA rfl (fun hb=>?_) (fun hb=>?_)))
 ·have q:=ltD hb O;obtain⟨s,hs⟩:=aL q;have hs':=bM bC hs;have hsn:=hnl s (δ hs);obtain⟨ho1,hcn⟩:=hat i s hs;have hci:=hNle i hi;have hci1:=hNle (i+1) q;obtain⟨n1,n2,n3⟩:=hnx s (cnt i);rw[hcn] at hci1;generalize nx s (cnt i)=N at *;generalize hm0:cnt i=m0 at *;rw[a6v q];have hM:600000000000≤maxLen:=by decide
  refine aD (a8 (aC (sgh [(1,.row i (bC s))] rfl ?_)));have hc0:aQ1 s m0 m0=[]:=ξ rfl;have hcu:∀m,m0≤m→aQ1 s m0 (m+1)=otN s m:=fun m h=>by unfold aQ1;rw[ψ (by omega),Nat.add_sub_cancel]
  refine a8 (aC (aO (fun m:Nat=>mk [(1,bK names),(2,.one (.c (.sl 10 (l.map aB)))),(3,.one (.vp 3 0)),(6,.one (.vp 6 0)),(7,ouV TK),(10,.one (.hs 720 0 (arrE own names.length i (aQ1 s m0 m)).length (arrE own names.length i (aQ1 s m0 m)).length)),(11,I .i64 (m:Int)),(12,I .i64 i),(13,Go.AM.T s),(33,bK names),(34,I .i64 ((names.map bC).length:Int)),(35,I .i64 i)] [(3,.var 34 (b7 (dL c ((names.zip own).take i)))),(6,.var 34 bI),(500,.arr 9 1 (TK.map bC) 2),(720,.arr 9 1 ((arrE own names.length i (aQ1 s m0 m)).map bC) 0)]) (fun m=>m0≤m∧m≤N+1) (fun m=>N+1-m) m0 ⟨le_refl _,by omega⟩ (by rw[hc0];exact sl) ?_));intro m ⟨hm1,hm2⟩;have hal:=aZm J q (aQ1 s m0 m);have aQx:=bM bC (a4e J q (aQ1 s m0 m));have hset:=aZl J q (aQ1 s m0 m);generalize hcur:aQ1 s m0 m=cur at *;generalize hL:arrE own names.length i cur=L at *;have hkA:(L.map bC).length=L.length:=ζ _;have hitm:=hI m (by omega);have hdl:=zG m (by omega);refine a8 (a8 (AWp.cut (mk [(1,bK names),(2,.one (.c (.sl 10 (l.map aB)))),(3,.one (.vp 3 0)),(6,.one (.vp 6 0)),(7,ouV TK),(10,.one (.hs 720 0 L.length L.length)),(11,I .i64 (m:Int)),(12,I .i64 i),(13,Go.AM.T s),(33,bK names),(34,I .i64 ((names.map bC).length:Int)),(35,I .i64 i),(52,Go.AM.B (decide (m≤N)))] [(3,.var 34 (b7 (dL c ((names.zip own).take i)))),(6,.var 34 bI),(500,.arr 9 1 (TK.map bC) 2),(720,.arr 9 1 (L.map bC) 0)]) ?_ ?_))
  ·by_cases hme:m=m0
   ·have hcn0:cur=[]:=by rw[←hcur,hme,hc0]
    have e:decide (m≤N)=true:=Af (by omega);rw[e];subst hcn0;exact ag [(3,.row i (bC [])),(5,.bv true),(12,.bv true)] rfl sl
   ·obtain⟨m',rfl⟩:∃m',m=m'+1:=⟨m-1,by omega⟩
    have hcm:cur=otN s m':=by rw[←hcur];exact hcu m' (by omega)
    have hne:decide (cur=[])=false:=Ae (by rw[hcm];unfold otN;simp);have hct:=bR TK cur (by omega);have e:decide (m'+1≤N)=decide (cur∈TK):=by
     rw[hcm];by_cases h:m'+1≤N
     ·rw[Af h,Af (n3 m' (by omega) (by omega))]
     ·have:m'=N:=by omega
      rw[Ae h,this,Ae n2]
    rw[e];refine aE mixed (ak 11 [(3,.row i (bC cur)),(5,.bv false),(10,.row i (bC cur))] rfl (kcG hct ?_));exact ak 1 [(5,.bv false),(12,.bv false)] rfl (az sl)
  refine aA rfl (fun hb=>?_) (fun hb=>?_)
  ·have hmN:m≤N:=θ hb;refine aD (aC (sk 5 rfl ?_ (hc:=by repeat (first | exact trivial | refine⟨by first | rfl | omega | (simp;omega),?_⟩))));refine kc hitm ?_;refine ak 3 [(8,.row i (bC cur))] rfl ?_ (hc:=by repeat (first | exact trivial | refine⟨by first | rfl | omega | (simp;omega),?_⟩));refine az (ag [] rfl ?_);have hce:=hcu m hm1;refine⟨m+1,⟨by omega,by omega⟩,by dsimp only;omega,?_⟩;dsimp only;rw[hce,←hset (otN s m)];exact sl
  ·have hmN:m=N+1:=by have:=Aa hb;omega
   subst hmN;have hce:=hcu N n1;rw[hcur] at hce;have hce2:own[i]?=some cur:=by rw[hce];exact ho1
   have hL2:L=aFb own names.length (i+1):=by rw[←hL];exact a6t hce2
   have hS:=hS1 i s cur hs hce2;have W:dL c ((names.zip own).take (i+1))=bW (m30 (dL c ((names.zip own).take i))) (dL c ((names.zip own).take i)) s (vC cur):=by
    unfold dL;rw[jG _ _ hs hce2]
   refine aM (aE mixed (ak 6 [(5,.row i (bC cur))] rfl (kc (uJ cur) ?_)));refine kc hS ?_;refine kz 1 rfl (ag [] rfl ⟨i+1,q,by dsimp only;omega,?_⟩);dsimp only;rw[hcn,W,←hL2];exact sl
 have Z:=geD hb O hi;subst Z;rw[hzn,a6u J];refine aM (AWp.sub (Sub.freeze (id:=720) rfl) ?_);refine a8 (sg rfl (aC (aO (fun i:Nat=>mk [(2,.one (.c (.sl 10 (l.map aB)))),(3,.one (.vp 3 0)),(6,.one (.vp 6 0)),(10,.one (.hs 720 0 own.length own.length)),(73,I .i64 ((names.map bC).length:Int)),(74,I .i64 i)] [(3,.var 34 (b7 (fY (dL c (names.zip own)) ((own.zip l).take i)))),(6,.var 34 bI),(720,.arr 9 1 (own.map bC) 2)]) (fun i=>i≤names.length) (fun i=>names.length-i) 0 (Ak _) sl ?_)));intro i hi;refine sg rfl (a8 (aA rfl (fun hb=>?_) (fun hb=>?_)))
 ·have q:=ltD hb O;obtain⟨s,hs⟩:=aL (show i<own.length by omega);obtain⟨b,Y⟩:=aL (show i<l.length by omega);have hs':=bM bC hs;have hb':=bM aB Y;have hkO:(own.map bC).length=own.length:=ζ _;have hS:=hS2 i s b hs Y;have W:fY (dL c (names.zip own)) ((own.zip l).take (i+1))=bW (m30 (fY (dL c (names.zip own)) ((own.zip l).take i))) (fY (dL c (names.zip own)) ((own.zip l).take i)) s b:=by
   generalize dL c (names.zip own)=c1;unfold fY;rw[jG _ _ hs Y]
  refine aD (a8 (aC (sg rfl (aE mixed (ak 9 [(4,.row i (bC s)),(7,.row i (aB b))] rfl (kc hS ?_))))));refine kz 1 rfl (ag [] rfl ⟨i+1,q,by dsimp only;omega,?_⟩);dsimp only;rw[W];exact sl
 have Z:=geD hb O hi;subst Z;have hzo:(own.zip l).take names.length=own.zip l:=by
  rw[Ax];rw[length_zip];omega
 rw[hzo];exact aM (sg rfl (aF (rtC trw)))
noncomputable def fX (bd:List Bind):Nat→Core→CE
 | 0,_=>(zC,51)
 | k+1,.mk f i s t ks bs al=>
  if f=1 then(match bd.find? fun b=>decide (b.name=s) with | some b=>(b.body,0) | none=>(zC,51))
  else if f=4 then
   (if(ks.headD zC).form=5 then(bW (m30 ((ks.headD zC).kids.headD zC)) ((ks.headD zC).kids.headD zC) (ks.headD zC).name (ks.getD 1 zC),0)
   else if ¬shE (ks.headD zC)=true then jT false (fX bd k (ks.headD zC)) (j4 (.mk f i s t ks bs al) 0)
   else(zC,51))
  else if f=8 then(aAb (ks.headD zC) (bs.map Bind.name) (bs.map (fK bs)),0)
  else if f=9 then
   (if ¬shE (ks.headD zC)=true then jT false (fX bd k (ks.headD zC)) (j4 (.mk f i s t ks bs al) 0)
   else(match al.findSome? fun a=>tkE aAb a (ks.headD zC) with | some r=>(r,0) | none=>(zC,52)))
  else if f=10 then
   (if ¬shE (ks.headD zC)=true then jT false (fX bd k (ks.headD zC)) (j4 (.mk f i s t ks bs al) 0)
   else if ¬shE (ks.getD 1 zC)=true then jT false (fX bd k (ks.getD 1 zC)) (j4 (.mk f i s t ks bs al) 1)
   else if(ks.headD zC).form=3∧(ks.getD 1 zC).form=3 then dM s (ks.headD zC).n (ks.getD 1 zC).n
   else(zC,51))
  else if f=11 then(zC,52)
  else(zC,51)
theorem a5t {s:Str}{q:List (Str×Ty)}{I:List (Str×List Str)}(h:lw s q I≤403) {p:Str×Ty}(hp:p∈q):p.1.length≤380:=by
 unfold lw at h;have h1:=kR (g:=fun p:Str×Ty=>1+w30 p.1) hp;have h2:=fR s;have h3:p.1.length≤w30 p.1:=Cf _ _;omega
theorem a5v {s:Str}{I:List (Str×Ty)}{q:List (Str×List Str)}(h:lw s I q≤403) {p:Str×List Str}(hp:p∈q) {v:Str}(J:v∈p.2):v.length≤380:=by
 unfold lw at h;have h1:=kR (g:=fun p:Str×List Str=>1+w30 p.1+(p.2.map fun v=>1+w30 v).sum) hp;have h2:=kR (g:=fun v:Str=>1+w30 v) J;have h3:=fR s;have h4:v.length≤w30 v:=Cf _ _;omega
theorem aRo {X:Nat}(j:Nat):∀(c:Core) (s:Str) (b:Core),bE (QL X) c→¬s∈pfR c→bW (j+1) c s b=c
 | .mk f n nm t ks bs al,s,b,hw,hs=>by
  rw[bW,ψ (fun h:(Core.mk f n nm t ks bs al).form=7∧s∈pfR (Core.mk f n nm t ks bs al)=>hs h.2)];by_cases h1:f=1
  ·obtain⟨rfl,rfl,rfl⟩:=lS hw h1;have I:¬nm=s:=fun h=>hs (by rw[pfR,ξ h1,h];exact φ)
   rw[ψ (fun h:(Core.mk f n nm t [] [] []).form=1∧(Core.mk f n nm t [] [] []).name=s=>I h.2),nE];unfold zNm zKs zBs;rw[ψ (show ¬f=5 by omega)];have q:cO (bW j) s b (gvN f nm []) ([]++([]:List Bind).map Bind.body)=(gvN f nm [],[]):=by
    unfold cO;rw[ψ]
    ·rfl
    ·exact fun h=>by cases h.1
   rw[q];rfl
  ·rw[ψ (fun h:(Core.mk f n nm t ks bs al).form=1∧_=>h1 h.1),nE];unfold zNm zKs zBs;have q:cO (bW j) s b (gvN f nm bs) (ks++bs.map Bind.body)=(gvN f nm bs,ks++bs.map Bind.body):=by
    unfold cO;rw[ψ];exact fun h=>hs (aXj h1 h.1 h.2)
   rw[q];have J:al.map (jM (bW j) s b)=al:=by
    conv=>rhs;rw[←List.map_id al]
    refine Aw fun a ha=>?_
    have O:cO (bW j) s b a.vars [a.body]=(a.vars,[a.body]):=by
     unfold cO;rw[ψ];exact fun h=>hs (a1z h1 ha (by simpa using h.1) h.2)
    unfold jM;rw[O];cases a;rfl
   rw[J];dsimp only;rw[take_left,drop_left];by_cases h5:f=5
   ·obtain⟨_,rfl,rfl⟩:=dG hw (.inl h5);rw[ξ h5];have:(gvN f nm []).headD nm=nm:=by unfold gvN;rw[ξ h5];rfl
    rw[this];rfl
   ·rw[ψ h5];have:gvN f nm bs=bs.map Bind.name:=by unfold gvN;rw[ψ h5,A4]
    rw[this,aBl]
def laE (r:Core×Nat×Int):Core×Nat×Int:=(r.1,if r.2.2=0 then r.2.1+1 else r.2.1,r.2.2)
theorem aAc (q:Core→CE):∀(k n:Nat) (c:Core),whE q k (n+1) c=laE (whE q k n c)
 | 0,n,c=>by
  rw[whE,whE];split<;>rfl
 | k+1,n,c=>by
  rw[whE,whE];by_cases h1:shE c=true
  ·rw[ξ h1,ξ h1];rfl
  ·rw[ψ h1,ψ h1];by_cases h2:(q c).2=0
   ·rw[ξ h2,ξ h2];by_cases h3:6000<eZ (q c).1
    ·rw[ξ h3,ξ h3];rfl
    ·rw[ψ h3,ψ h3];exact aAc q k (n+1) _
   ·rw[ψ h2,ψ h2];unfold laE;dsimp only;rw[ψ h2]
theorem aQ3 (q:Core→CE) {k:Nat}{x c:Core}(h1:shE x=false) (h2:q x=(c,0)) (h3:eZ c≤6000):whE q (k+1) 0 x=laE (whE q k 0 c):=by
 rw[whE,ψ (by rw[h1];exact Ao),h2,ξ rfl,ψ (not_lt.2 h3),←aAc]
theorem a0a (q:Core→CE):∀(k n:Nat) (c:Core),(whE q k n c).2.1≤n+k
 | 0,n,c=>by
  rw[whE];split
  ·exact le_refl _
  ·exact Ak _
 | k+1,n,c=>by
  rw[whE];split
  ·exact le_add_right _ _
  split
  ·split
   ·exact Ak _
   ·have:=a0a q k (n+1) (q c).1;omega
  ·exact Ak _
noncomputable def sfE (bd:List Bind) (c:Core):CE:=fX bd (m30 c) c
structure TM (V:List Str) (k:Nat) (t:Ty):Prop where
 wf:wfS t=true
 w:∀E ρ,(∀x,ρ x≤E)→tW kQ t ρ≤k+E
 v:∀x∈tfR t,x∈V
structure MW (V:List Str) (c:Core):Prop where
 q:bE (QL 403) c
 w:∀E ρ,(∀x,ρ x≤E)→cw kQ E c ρ≤3+E
 v:∀x∈tyR c,x∈V
section
variable {V:List Str}{k:Nat}
theorem TM.var {s:Str}(h:s∈V):TM V k (.mk 2 0 s []):=⟨rfl,fun E ρ q=>by rw[tW,ξ rfl];have:=q s;omega,fun x hx=>by
 have:tfR (.mk 2 0 s [])=[s]:=by rw[tfR,ξ rfl]
 rw[this] at hx;rw[κ.1 hx];exact h⟩
theorem TM.con {s:Str}:TM V k (.mk 3 0 s []):=⟨rfl,fun E ρ q=>by
 have:tW kQ (.mk 3 0 s []) ρ=0:=by rw[tW,ψ (by decide),ψ (by decide),tWs];rfl
 omega,fun x hx=>by
 obtain⟨u,hu,_⟩:=sL (by decide) hx
 cases hu⟩
theorem TM.z:TM V k zTy:=⟨rfl,fun E ρ q=>by
 have:tW kQ zTy ρ=0:=by unfold zTy;rw[tW,ψ (by decide),ψ (by decide),tWs];rfl
 omega,fun x hx=>by
 have:tfR zTy=[]:=rfl
 rw[this] at hx;cases hx⟩
theorem TM.app {a b:Ty}(ha:TM V k a) (hb:TM V k b):TM V k (.mk 4 0 [] [a,b]):=⟨by rw[wfS,aI2,aI2,aI2,ha.wf,hb.wf];rfl,fun E ρ q=>by
 have h1:=ha.w E ρ q;have h2:=hb.w E ρ q;have:tW kQ (.mk 4 0 [] [a,b]) ρ=max (tW kQ a ρ) (max (tW kQ b ρ) 0):=by rw[tW,ψ (by decide),ψ (by decide),tWs,tWs,tWs];rfl
 omega,fun x hx=>by
 obtain⟨u,hu,I,_⟩:=sL (by decide) hx;have:u=a∨u=b:=by simpa using hu
 rcases this with rfl | rfl
 ·exact ha.v x I
 ·exact hb.v x I⟩
theorem qM {f n:Int}{s:Str}{t:Ty}{ks:List Core}{bs:List Bind}{al:List Alt}(O:QL 403 f s t ks.length (bs.map bhd) (al.map ahd)) (ht:TM V 3 t) (hk:∀x∈ks,MW V x) (hb:∀b∈bs,TM V 3 b.ty∧MW V b.body) (ha:∀a∈al,MW V a.body):MW V (.mk f n s t ks bs al):=by
 refine⟨aJ.2 ⟨O,fun x hx=>(hk x hx).q,fun x hx=>(hb x hx).2.q,fun x hx=>(ha x hx).q⟩,fun E ρ I=>gR.2 ⟨by rw[dK];omega,ht.w E ρ I,fun x hx=>(hk x hx).w E _ fun y=>?_,fun x hx=>⟨(hb x hx).1.w E ρ I,(hb x hx).2.w E ρ I⟩,fun x hx=>(ha x hx).w E ρ I⟩,fun x hx=>?_⟩
 ·split
  ·unfold gT;split
   ·exact le_refl _
   ·exact I y
  ·exact I y
 ·rcases bF.1 hx with h | ⟨y,J,h,_⟩ | ⟨y,J,h | h⟩ | ⟨y,J,h⟩
  ·exact ht.v x h
  ·exact(hk y J).v x h
  ·exact(hb y J).1.v x h
  ·exact(hb y J).2.v x h
  ·exact(ha y J).v x h
theorem aQ7 {s:Str}(h:s.length≤30):w30 s=30:=by unfold w30;omega
theorem i6 {f:Int}{s:Str}{t:Ty}{nk:Nat}(hf:okF f nk 0 0=true) (q:f=7→t=zTy∧¬s=[]) (ht:wfS t=true) (hs:s.length≤30) (h5:f=5→nh s):QL 403 f s t nk [] []:=
 ⟨hf,q,ht,by simp,by unfold lw;rw[aQ7 hs];decide,h5,by simp,by simp⟩
theorem ST.of {c:Core}(h:MW V c) (ht:tlC c≤6000) (hs:m30 c≤3500000) (n:Nat):ST n V c:=
 ⟨h.q,fun E _=>h.w E r0 fun _=>Ak _,h.v,ht,hs⟩
end
theorem aMm:∀s∈aR8,s.length≤30:=by decide
end Go.Proofs.YtglfogjcijokpaaGreatDoor
namespace Go.Proofs.YtglfogjcijokpaaGreatDoor
open Go Go.AM Go.Shelf
set_option maxRecDepth 20000
def gr8:Ren:=⟨fun f=>if f=4 then 162 else f,fun t=>if t=22 then 64 else if t=25 then 9 else t,fun g=>g⟩
theorem gl8:Lays8.n4 Tryz.prog gr8 where
 mixed:=mixed
 f4:=⟨Tryz.f162.name,by kernel_rfl,by kernel_rfl⟩
 t0:=by kernel_rfl
 a0:=fun w=>by kernel_rfl
 z0:=fun w=>by kernel_rfl
 v0:=fun w=>by kernel_rfl
 t3:=by kernel_rfl
 a3:=fun w=>by kernel_rfl
 z3:=fun w=>by kernel_rfl
 v3:=fun w=>by kernel_rfl
 t4:=by kernel_rfl
 a4:=fun w=>by kernel_rfl
 z4:=fun w=>by kernel_rfl
 v4:=fun w=>by kernel_rfl
 t9:=by kernel_rfl
 a9:=fun w=>by kernel_rfl
 z9:=fun w=>by kernel_rfl
 v9:=fun w=>by kernel_rfl
 t20:=by kernel_rfl
 a20:=fun w=>by kernel_rfl
 z20:=fun w=>by kernel_rfl
 v20:=fun w=>by kernel_rfl
 t22:=by kernel_rfl
 a22:=fun w=>by kernel_rfl
 z22:=fun w=>by kernel_rfl
 v22:=fun w=>by kernel_rfl
theorem a3w (k:Nat) (h:k≤4000000):aU Tryz.prog 162 [.one (.c .nl),I .i64 (k:Int)] [] (.one (.hs 720 0 0 0)) [(720,.arr 9 1 [] 0)]:=
 aSs (ρ:=gr8) (ei:=⟨.str,1,16,[.str []]⟩) gl8 tok (tg rfl) rfl k (by show k*16≤_;omega) (by omega)
theorem aTk (a b:List Str) (h:a.length+b.length≤4000000):aU Tryz.prog 137 [.one (.c (.sl 1 [[.sl 1 (a.map bC)],[.sl 1 (b.map bC)]]))] [] (bK (a++b)) []:=by
 have Z:=a3w (a.length+b.length) h;have O:(a.map bC).length=a.length:=ζ _;have W:(b.map bC).length=b.length:=ζ _;refine bL (n:=36) tok Tryz.func137 rfl rfl rfl ?_;refine sg rfl (sg rfl (a8 (sg rfl (aC (aO (fun i:Nat=>mk [(0,.one (.c (.sl 1 [[.sl 1 (a.map bC)],[.sl 1 (b.map bC)]]))),(3,I .i64 ((if i=0 then 0 else if i=1 then a.length else a.length+b.length:Nat):Int)),(9,.one (.c (.sl 1 [[.sl 1 (a.map bC)],[.sl 1 (b.map bC)]]))),(10,I .i64 2),(11,I .i64 i)] []) (fun i=>i≤2) (fun i=>2-i) 0 (Ak _) sl ?_)))));intro i hi;refine sg rfl (a8 (aA rfl (fun hb=>?_) (fun hb=>?_)))
 ·have Y:i<2:=by
   have:(i:Int)<2:=θ hb;omega
  refine aD (a8 (aC ?_));have q:i=0∨i=1:=by omega
  rcases q with rfl | rfl
  ·refine sg rfl (a8 (agN [] rfl (sg rfl (aA rfl (fun hb=>?_) (fun _=>?_)))))
   ·exfalso;have:((0+(a.map bC).length:Nat):Int)<0:=θ hb;omega
   refine aD (ag [] rfl ⟨1,by omega,by dsimp only;omega,sl (he:=⟨rfl,?_,rfl,rfl,rfl,trivial⟩)⟩);show some (I .i64 ((0+(a.map bC).length:Nat):Int))=some (I .i64 ((a.length:Nat):Int));rw[O,Ba]
  ·refine sg rfl (a8 (agN [] rfl (sg rfl (aA rfl (fun hb=>?_) (fun _=>?_)))))
   ·exfalso;have:((a.length+(b.map bC).length:Nat):Int)<0:=θ hb;omega
   refine aD (ag [] rfl ⟨2,by omega,by dsimp only;omega,sl (he:=⟨rfl,?_,rfl,rfl,rfl,trivial⟩)⟩);show some (I .i64 ((a.length+(b.map bC).length:Nat):Int))=some (I .i64 ((a.length+b.length:Nat):Int));rw[W]
 have J:i=2:=by
  have:¬(i:Int)<2:=Aa hb;omega
 subst J;refine aM (sk 1 rfl (kc Z ?_));refine kz 1 rfl (a8 (sg rfl (aC (aO (fun i:Nat=>mk [(6,.one (.hs 720 0 (if i=0 then 0 else if i=1 then a.length else a.length+b.length) (if i=0 then 0 else if i=1 then a.length else a.length+b.length))),(25,.one (.c (.sl 1 [[.sl 1 (a.map bC)],[.sl 1 (b.map bC)]]))),(26,I .i64 2),(27,I .i64 i)] [(720,.arr 9 1 (if i=0 then [] else if i=1 then a.map bC else a.map bC++b.map bC) 0)]) (fun i=>i≤2) (fun i=>2-i) 0 (Ak _) sl ?_))));intro i hi;refine sg rfl (a8 (aA rfl (fun hb=>?_) (fun hb=>?_)))
 ·have Y:i<2:=by
   have:(i:Int)<2:=θ hb;omega
  refine aD (a8 (aC ?_));have q:i=0∨i=1:=by omega
  rcases q with rfl | rfl
  ·exact sg rfl (ag [] rfl (ag [] rfl ⟨1,by omega,by dsimp only;omega,sl⟩))
  ·exact sg rfl (ag [] rfl (ag [] rfl ⟨2,by omega,by dsimp only;omega,sl⟩))
 have J:i=2:=by
  have:¬(i:Int)<2:=Aa hb;omega
 subst J;refine aM (sg rfl (AWp.sub (Sub.freeze (id:=720) rfl) ?_));exact aF (rtT (hc:=hs_all rfl rfl (by simp) (by simp)))
def gvV (ns:List Str):V:=.pa [.sl 1 (ns.map bC),.sl 1 []]
def plF (ns:List Str) (s:Str):Nat→Nat→Int
 | 0,_=> -1
 | m+1,i=>if ns[ns.length-1-i]?=some s then((ns.length-1-i:Nat):Int) else plF ns s m (i+1)
theorem aY4 (ns:List Str) (s:Str) (h:ns.length≤1000000000):aU Tryz.prog 106 [gvV ns,Go.AM.T s] [] (I .i64 (plF ns s ns.length 0)) []:=by
 have hk:(ns.map bC).length=ns.length:=ζ _;refine bL (n:=28) tok Tryz.func106 rfl rfl rfl ?_;refine sg rfl (a8 (sg rfl (aC (aO (fun i:Nat=>mk [(1,Go.AM.T s),(2,.one (.vp 2 0)),(9,I .i64 ((ns.map bC).length:Int)),(10,I .i64 i)] [(2,.var 104 [.c (.sl 1 (ns.map bC)),.c (.sl 1 [])])]) (fun i=>i≤ns.length∧plF ns s ns.length 0=plF ns s (ns.length-i) i) (fun i=>ns.length-i) 0 ⟨Ak _,rfl⟩ sl ?_))));intro i hi;obtain⟨hi,he⟩:=hi;refine sg rfl (a8 (aA rfl (fun hb=>?_) (fun hb=>?_)))
 ·have J:=ltD hb hk;have O:ns.length-1-i<ns.length:=by omega
  obtain⟨n,hn⟩:=aL O;have Z:=bM bC hn;have Y:ns.length-i=(ns.length-(i+1))+1:=by omega
  rw[Y,plF,hn] at he;refine aD (a8 (aC (sg rfl (sg rfl ?_))));have e0:(((ns.map bC).length:Int)-1)-(i:Int)=((ns.length-1-i:Nat):Int):=by rw[hk];omega
  refine AWp.sub (st2:=mk [(1,Go.AM.T s),(2,.one (.vp 2 0)),(6,I .i64 ((ns.length-1-i:Nat):Int)),(9,I .i64 ((ns.map bC).length:Int)),(10,I .i64 i)] [(2,.var 104 [.c (.sl 1 (ns.map bC)),.c (.sl 1 [])])]) (sl (he:=⟨rfl,rfl,congrArg (fun x=>some (I .i64 x)) e0,rfl,rfl,trivial⟩)) ?_;refine sgh [(3,.row (ns.length-1-i) (bC n))] rfl (aA rfl (fun hb=>?_) (fun hb=>?_))
  ·have q:n=s:=θ hb;rw[ξ (by rw[q])] at he;rw[he];exact sg rfl (aF rtT)
  ·have q:¬n=s:=Aa hb;rw[ψ (fun h=>q (by simpa using h))] at he;exact aD (ag [] rfl ⟨i+1,⟨J,he⟩,by dsimp only;omega,sl⟩)
 have W:=geD hb hk hi;subst W;rw[he,C6,plF];exact aM (sg rfl (aF rtT))
theorem aTl (t:Ty) (ns:List Str):aU Tryz.prog 105 [gvV ns,tyV t] [] (tyV t) []:=by
 refine bL (n:=26) tok Tryz.func105 rfl rfl rfl ?_;refine sg rfl (a8 (sg rfl (aC (aO (fun _:Unit=>mk [(3,.one (.vp 3 0)),(4,.one (.vp 4 0)),(8,I .i64 0),(9,I .i64 0)] [(3,.var 30 ((bH t).map R.c)),(4,.var 30 [.c (.int .i64 0),.c (.int .i64 0),.c (.str []),.c .nl])]) (fun _=>True) (fun _=>0) () trivial sl ?_))));intro _ _;exact sg rfl (a8 (aA rfl nofun (fun _=>aM (sg rfl (aF (rtC trw))))))
theorem a3b (ns:List Str) (L:List (Str×List C)) (h:ns.length+L.length≤1000000000):aU Tryz.prog 107 [gvV ns,.one (.c (.sl 1 (L.map rR))),bK []] [] (gvV (ns++L.map (·.1))) []:=by
 have Z:=iS (ns.map bC) (by rw[ζ];omega);have aa:=aTk [] [] (by decide);have J:(L.map rR).length=L.length:=ζ _;have ac:(ns.map bC).length=ns.length:=ζ _;refine bL (n:=35) tok Tryz.func107 rfl rfl rfl ?_;refine sg rfl (sk 2 rfl (kc Z ?_));refine ak 4 [(6,.all)] rfl (kc aa ?_);refine kz 4 rfl (a8 (sg rfl (aC (aO (fun i:Nat=>mk [(3,.one (.vp 3 0)),(6,.one (.vp 6 0)),(19,.one (.c (.sl 1 (L.map rR)))),(20,I .i64 ((L.map rR).length:Int)),(21,I .i64 i)] [(3,.var 104 [.hs 710 0 ((ns.map bC).length+i) ((ns.map bC).length+i),.c (.sl 1 [])]),(6,.var 104 [.c .nl,.c .nl]),(710,.arr 9 1 (ns.map bC++(L.take i).map fun p=>bC p.1) 0)]) (fun i=>i≤L.length) (fun i=>L.length-i) 0 (Ak _) ?_ ?_))))
 ·exact sl (hh:=⟨⟨_,rfl,.var rfl⟩,⟨_,rfl,.var rfl⟩,⟨_,rfl,.arrS (by simp)⟩,trivial⟩)
 ·intro i hi;refine sg rfl (a8 (aA rfl (fun hb=>?_) (fun hb=>?_)))
  ·have O:=ltD hb J;obtain⟨p,hp⟩:=aL O;have ad:=bM rR hp;have W:ns.map bC++(L.take i).map (fun p=>bC p.1)++[bC p.1]=ns.map bC++(L.take (i+1)).map (fun p=>bC p.1):=by rw[gS hp,A6,A0];rfl
   have q:(ns.map bC++(L.take i).map (fun p=>bC p.1)).length=(ns.map bC).length+i:=by simp;omega
   exact aD (a8 (aC (sgh [(0,.row i (rR p))] rfl (ag [] rfl (ag [] rfl ⟨i+1,O,by dsimp only;omega,sl (hh:=⟨⟨_,rfl,.varS (by rw[q];rfl)⟩,⟨_,rfl,.var rfl⟩,⟨_,rfl,.arrS W⟩,trivial⟩)⟩)))))
  have ab:=geD hb J hi;subst ab;rw[As];have q:(ns.map bC).length+L.length=(ns.map bC++L.map (fun p=>bC p.1)).length:=by simp
  have Y:gvV (ns++L.map (·.1))=.pa [.sl 1 (ns.map bC++L.map (fun p=>bC p.1)),.sl 1 []]:=by unfold gvV;rw[A6,Az];rfl
  rw[Y];refine aM (AWp.sub (Sub.freeze (id:=710) rfl) ?_);refine AWp.sub (Sub.varPure (x:=3) rfl (.hs rfl q (by rw[B4,q,As]) (.c .refl .nil))) ?_;exact sg rfl (aF (rtC trw))
end Go.Proofs.YtglfogjcijokpaaGreatDoor
namespace Go.Proofs.YtglfogjcijokpaaGreatDoor
open Go Go.AM
set_option maxRecDepth 20000
mutual
theorem uZ:∀c:Core,bE (QL 403) c→MW [] (aK c)∧m30 (aK c)≤m30 c
 | .mk f n s t ks bs al,h=>by
  obtain⟨⟨q1,q2,q3,q4,q5,q6,q7,q8⟩,hk,hb,ha⟩:=aJ.1 h;obtain⟨W,k2,k3⟩:=aVt ks hk;obtain⟨Y,b2,b3⟩:=aVu bs hb;obtain⟨a1,a2,a3⟩:=aVv al ha;rw[aK];by_cases q:f=6∨f=7
  ·obtain⟨⟨k,rfl⟩,rfl,rfl⟩:=dG h (.inr q);rw[ξ ⟨q,by simp⟩];have e:cQ [k]=[aK k]:=by rw[cQ,cQ]
   rw[e] at W k2 ⊢;refine⟨W (aK k) φ,?_⟩;rw[bV,bV,bV,bV] at k2;rw[m30,bV,bV];show m30 (aK k)≤_;omega
  ·rw[ψ (fun h=>q h.1)];have Z:((cR bs).map bhd).map (·.1)=(bs.map bhd).map (·.1):=by
    rw[Az,Az];exact b3
   have ebl:((cR bs).map bhd).length=(bs.map bhd).length:=by
    have:=congrArg List.length Z;simpa using this
   have O:∀p∈(cR bs).map bhd,p.2=zTy∧∃J∈bs.map bhd,J.1=p.1:=fun p hp=>by
    obtain⟨b,I,rfl⟩:=Ad.1 hp;refine⟨(Y b I).1,?_⟩;have:(bhd b).1∈(bs.map bhd).map (·.1):=by
     rw[←Z];exact Ad.2 ⟨bhd b,hp,rfl⟩
    obtain⟨J,h1,h2⟩:=Ad.1 this;exact⟨J,h1,h2⟩
   refine⟨qM ⟨by rw[ebl,a3,k3];exact q1,fun e=>absurd (.inr e) q,rfl,fun p hp=>by rw[(O p hp).1];rfl,le_trans (rX (le_refl _) Z a3) q5,q6,fun p hp=>?_,by rw[a3];exact q8⟩ .z W (fun b I=>⟨by rw[(Y b I).1];exact .z,(Y b I).2⟩) a1,?_⟩
   ·obtain⟨_,J,h1,h2⟩:=O p hp;rw[←h2];exact q7 J h1
   ·rw[m30,m30];omega
theorem aVt:∀l:List Core,(∀x∈l,bE (QL 403) x)→(∀x∈cQ l,MW [] x)∧bV (cQ l)≤bV l∧(cQ l).length=l.length
 | [],_=>by rw[cQ];exact⟨by simp,le_refl _,rfl⟩
 | c::l,h=>by
  obtain⟨h1,h2⟩:=uZ c (h c φ);obtain⟨g1,g2,g3⟩:=aVt l fun x hx=>h x (η _ hx)
  rw[cQ];refine⟨fun x hx=>?_,by rw[bV,bV];omega,by rw[Am,Am,g3]⟩;rcases Ah.1 hx with rfl | hx
  ·exact h1
  ·exact g1 x hx
theorem aVu:∀l:List Bind,(∀x∈l,bE (QL 403) x.body)→(∀x∈cR l,x.ty=zTy∧MW [] x.body)∧eU (cR l)≤eU l∧(cR l).map Bind.name=l.map Bind.name
 | [],_=>by rw[cR];exact⟨by simp,le_refl _,rfl⟩
 | .mk s t c::l,h=>by
  obtain⟨h1,h2⟩:=uZ c (h _ φ);obtain⟨g1,g2,g3⟩:=aVu l fun x hx=>h x (η _ hx)
  rw[cR,lQ];refine⟨fun x hx=>?_,by rw[eU,eU];omega,by rw[Al,Al,g3];rfl⟩;rcases Ah.1 hx with rfl | hx
  ·exact⟨rfl,h1⟩
  ·exact g1 x hx
theorem aVv:∀l:List Alt,(∀x∈l,bE (QL 403) x.body)→(∀x∈eT l,MW [] x.body)∧fQ (eT l)≤fQ l∧(eT l).map ahd=l.map ahd
 | [],_=>by rw[eT];exact⟨by simp,le_refl _,rfl⟩
 | .mk f n s v c::l,h=>by
  obtain⟨h1,h2⟩:=uZ c (h _ φ);obtain⟨g1,g2,g3⟩:=aVv l fun x hx=>h x (η _ hx)
  rw[eT,eC];refine⟨fun x hx=>?_,by rw[fQ,fQ];omega,by rw[Al,Al,g3];rfl⟩;rcases Ah.1 hx with rfl | hx
  ·exact h1
  ·exact g1 x hx
end
theorem aS7:aU Tryz.prog 136 [tyV zTy,tyV zTy,bK [],bK []] [] (B true) []:=by
 refine bL (n:=116) tok Tryz.func136 rfl rfl rfl ?_;refine sg rfl (a8 (sgh [(5,.bv false),(11,.bv false),(12,.bv false),(20,.bv false)] rfl (aA rfl (fun hb=>by simp at hb) (fun _=>aD (a8 (sg rfl (aC (sg rfl (aA rfl nofun (fun _=>sg rfl (aA rfl nofun (fun _=>aD (a8 (sg rfl (aA rfl nofun (fun _=>aD (a8 (sg rfl (aC (aO (fun _:Unit=>mk [(97,I .i64 0),(98,I .i64 0)] []) (fun _=>True) (fun _=>0) () trivial sl ?_))))))))))))))))))));intro _ _;exact sg rfl (a8 (aA rfl nofun (fun _=>aM (sg rfl (aF rtT)))))
theorem aS9:aU Tryz.prog 104 [tyV zTy,tyV zTy] [] (B true) []:=by
 have h:=aS7;refine bL (n:=8) tok Tryz.func104 rfl rfl rfl ?_;refine sg rfl (sk 2 rfl (kc h ?_));exact kz 1 rfl (aF rtT)
def gvO (ns:List Str):AObj:=.var 104 [.c (.sl 1 (ns.map bC)),.c (.sl 1 [])]
theorem aZb (ns:List Str):aU Tryz.prog 103 ([tyV zTy,tyV zTy]++([.vp 6 0,.vp 7 0]:List R).map V.one) [(6,gvO ns),(7,gvO ns)] (B true) [(6,gvO ns),(7,gvO ns)]:=by
 have q:=aTl zTy ns;have hs:=aS9;refine bL (n:=14) tok Tryz.func103 rfl rfl rfl ?_;refine sg rfl (sk 2 rfl (kc q ?_));refine ak 2 [] rfl (kc q ?_);refine kc hs ?_;exact kz 1 rfl (aF rtT)
theorem a2k {c:Core}{g:List (Str×List C)×List Core}(q:g∈gm c) {x:Core}(hx:x∈g.2):x∈c.kids∨(∃b∈c.binds,x=b.body)∨∃a∈c.alts,x=a.body:=by
 unfold gm at q;rcases Ah.1 q with rfl | q
 ·rcases χ.1 hx with hx | hx
  ·exact .inl hx
  ·obtain⟨b,hb,rfl⟩:=Ad.1 hx;exact .inr (.inl ⟨b,hb,rfl⟩)
 ·obtain⟨a,ha,rfl⟩:=Ad.1 q;exact .inr (.inr ⟨a,ha,κ.1 hx⟩)
theorem aCt:∀l:List Bind,dJ (l.map Bind.body)+l.length≤iC l
 | []=>by rw[Bj,dJ];exact Ak _
 | .mk s t c::l=>by
  rw[Al,dJ,iC,bsize,Am];have:=aCt l;show aV c+_+_≤_;omega
theorem a0l:∀l:List Str,l.length≤(l.map fun v=>1+v.length).sum
 | []=>Ak _
 | v::l=>by
  simp only[Al,Cc,Am];have:=a0l l;omega
theorem aCb:∀{l:List Core}{x:Core},x∈l→aV x≤dJ l
 | c::l,x,h=>by
  rw[dJ];rcases Ah.1 h with rfl | h
  ·omega
  ·have:=aCb h;omega
theorem aC4:∀{l:List Alt}{a:Alt},a∈l→aV a.body+a.vars.length≤iD l
 | .mk f n s v c::l,a,h=>by
  rw[iD,qJ];have:=a0l v;rcases Ah.1 h with rfl | h
  ·show aV c+v.length≤_;omega
  ·have:=aC4 h;omega
theorem a54 {c:Core}{g:List (Str×List C)×List Core}(q:g∈gm c) {x:Core}(hx:x∈g.2):aV x+g.1.length≤aV c:=by
 obtain⟨f,n,s,t,ks,bs,al⟩:=c;rw[aV];unfold gm at q;rcases Ah.1 q with rfl | q
 ·have h1:=aCt bs;have h2:=aCb hx;have h3:=wT ks (bs.map Bind.body);have h4:aV x≤dJ ks+dJ (bs.map Bind.body):=by rw[←h3];exact h2
  have h5:((if f=5 then [((s,(aB (.mk f n s t ks bs al)).drop 3):Str×List C)] else [])++bs.map (fun b=>(b.name,(b8 b).drop 1))).length≤1+bs.length:=by
   rw[Ab,ζ];split
   ·exact le_refl _
   ·simp
  show aV x+((if f=5 then [((s,(aB (.mk f n s t ks bs al)).drop 3):Str×List C)] else [])++bs.map (fun b=>(b.name,(b8 b).drop 1))).length≤_;omega
 ·obtain⟨a,ha,rfl⟩:=Ad.1 q;have ha:a∈al:=ha;have h1:=aC4 ha;have hx:x=a.body:=κ.1 hx;subst hx;show aV a.body+(a.vars.map fun v=>((v,[]):Str×List C)).length≤_;rw[ζ];omega
def aQi (c:Core):Prop:=z0R c=true→wfE c=true→∀ns:List Str,ns.length+aV c≤400000000→aU Tryz.prog 46 [.pa (aB c),.pa (aB c),gvV ns,gvV ns] [] (B true) []
theorem aE2 (c:Core) (ih:∀x,aV x<aV c→aQi x):aQi c:=by
 intro hz hw ns hsz;have hin:∀g∈gm c,∀x∈g.2,aV x<aV c∧z0R x=true∧wfE x=true:=fun g J x hx=>by
  refine⟨aX6 (g:=gmG g) (by rw[aBx];exact Ad.2 ⟨g,J,rfl⟩) hx,?_⟩;obtain⟨f,n,s,t,ks,bs,al⟩:=c;simp only[z0R,ε] at hz;obtain⟨_,hzk,Y,hza⟩:=hz;obtain⟨_,_,w2,w3,w4⟩:=aUb hw;rcases a2k J hx with h | ⟨b,hb,rfl⟩ | ⟨a,ha,rfl⟩
  ·exact⟨aFi hzk x h,w2 x h⟩
  ·exact⟨(xD Y b hb).2,w3 b hb⟩
  ·exact⟨aFj hza a ha,w4 a ha⟩
 have W:=aPk c (by omega);obtain⟨hgl,hgm⟩:=a2l c;rw[aBx,ζ] at hgl;have Z:∀g∈gm c,g.2.length≤aV c∧g.1.length≤aV c:=fun g J=>by
  have:=hgm (gmG g) (by rw[aBx];exact Ad.2 ⟨g,J,rfl⟩);unfold gmG at this;rw[ζ] at this;exact this
 have hgc:∀g∈gm c,∀x∈g.2,aV x+g.1.length≤aV c:=fun g J x hx=>a54 J hx
 rw[mQ,aBx,Az] at W;obtain⟨f,n,s,t,ks,bs,al⟩:=c;obtain⟨h7,_,_,_,_⟩:=aUb hw;simp only[z0R,ε] at hz;obtain⟨ht,hzk,Y,hza⟩:=hz;have ht:=a0n ht;subst ht;generalize gm (.mk f n s zTy ks bs al)=L at W hin hgl Z hgc;have hkL:(L.map (iG∘gmG)).length=L.length:=ζ _;have hkB:(aT bs).length=bs.length:=by rw[bN,ζ]
 have hkA:(bP al).length=al.length:=by rw[bT,ζ]
 have hal:=aZb ns;obtain⟨_,_,_,hkl,hbl,hall⟩:= @c6 f n s zTy ks bs al;have hbl':bs.length≤400000000:=by omega
 have hal':al.length≤400000000:=by omega
 have hLl:L.length≤400000001:=by omega
 have hpl:=aY4 ns s (by omega);refine bL (n:=237) tok Tryz.func46 rfl rfl rfl ?_;refine sg rfl (a8 (sgh [(5,.bv false),(11,.bv false),(12,.bv false),(20,.bv false),(21,.bv false),(29,.bv false),(30,.bv false),(38,.bv false)] rfl (aA rfl (fun hb=>by simp at hb) (fun _=>aD (sg rfl (a8 (sg rfl ((AWp.cut (mk [(4,.one (.vp 4 0)),(5,.one (.vp 5 0)),(6,.one (.vp 6 0)),(7,.one (.vp 7 0)),(9,.one (.clo 103 [.vp 6 0,.vp 7 0]))] [(4,.var 34 (b7 (.mk f n s zTy ks bs al))),(5,.var 34 (b7 (.mk f n s zTy ks bs al))),(6,gvO ns),(7,gvO ns)]) ?_ ?_)))))))))
 ·refine aC (sg rfl (aA rfl (fun hb=>?_) (fun hb=>?_)))
  ·refine sk 3 rfl (kc hpl ?_);refine ak 3 [] rfl (kc hpl ?_);refine kz 2 rfl ?_;generalize plF ns s ns.length 0=k;by_cases hk:0≤k
   ·have e1:decide (k≥0)=true:=Af hk;exact sgh [(3,.bv true),(6,.bv true),(12,.bv true),(13,.bv true)] rfl (aF rtT)
   ·have e1:decide (k≥0)=false:=Ae hk;have e2:some (B (decide (s=s)))=some (B true):=by rw[Af (rfl:s=s)]
    refine a8 (AWp.cut (mk [(8,B true)] []) (ag [(3,.bv true),(6,.bv false),(12,.bv false),(13,.bv true)] rfl (sl (he:=⟨e2,trivial⟩))) ?_);exact aF rtT
  exact sg rfl (aA rfl (fun _=>aD sl) (fun _=>sg rfl (aA rfl (fun hb=>absurd (θ hb) h7) (fun _=>sg rfl (aA rfl (fun hb=>by simp at hb) (fun _=>aD sl))))))
 refine a8 (sk 5 rfl (kv (args:=[tyV zTy,tyV zTy]) hal ?_));refine kz 1 rfl (aA rfl nofun (fun _=>aD (a8 (sg rfl (aC (aO (fun i:Nat=>mk [(4,.one (.vp 4 0)),(5,.one (.vp 5 0)),(6,.one (.vp 6 0)),(7,.one (.vp 7 0)),(9,.one (.clo 103 [.vp 6 0,.vp 7 0])),(116,I .i64 ((aT bs).length:Int)),(117,I .i64 i)] [(4,.var 34 (b7 (.mk f n s zTy ks bs al))),(5,.var 34 (b7 (.mk f n s zTy ks bs al))),(6,gvO ns),(7,gvO ns)]) (fun i=>i≤bs.length) (fun i=>bs.length-i) 0 (Ak _) sl ?_))))));intro i hi;refine sg rfl (a8 (aA rfl (fun hb=>?_) (fun hb=>?_)))
 ·have q:=ltD hb hkB;obtain⟨b,hbi⟩:=aL q;have hbi':=c9 hbi;have hm:=δ hbi;obtain⟨aa,_⟩:=xD Y b hm;obtain⟨s',t',c'⟩:=b;have aa:t'=zTy:=aa;subst aa;refine aD (a8 (aC (sg rfl (skh 13 [(4,.row i (b8 (.mk s' zTy c'))),(10,.row i (b8 (.mk s' zTy c')))] rfl (kv (args:=[tyV zTy,tyV zTy]) hal ?_)))));exact kz 1 rfl (aA rfl nofun (fun _=>aD (ag [] rfl ⟨i+1,q,by dsimp only;omega,sl⟩)))
 have O:=geD hb hkB hi;subst O;refine aM (a8 (sg rfl (aC (aO (fun i:Nat=>mk [(4,.one (.vp 4 0)),(5,.one (.vp 5 0)),(6,.one (.vp 6 0)),(7,.one (.vp 7 0)),(138,I .i64 ((bP al).length:Int)),(139,I .i64 i)] [(4,.var 34 (b7 (.mk f n s zTy ks bs al))),(5,.var 34 (b7 (.mk f n s zTy ks bs al))),(6,gvO ns),(7,gvO ns)]) (fun i=>i≤al.length) (fun i=>al.length-i) 0 (Ak _) sl ?_))));intro i hi;refine sg rfl (a8 (aA rfl (fun hb=>?_) (fun hb=>?_)))
 ·have q:=ltD hb hkA;obtain⟨a,hai⟩:=aL q;have hai':=nD hai;exact aD (a8 (aC (sg rfl (sgh [(3,.row i (cD a)),(8,.row i (cD a))] rfl (sgh [(5,.bv false),(11,.bv false),(12,.bv false),(18,.bv false),(19,.bv false),(27,.bv false)] rfl (aA rfl (fun hb=>by simp at hb) (fun _=>aD (ag [] rfl ⟨i+1,q,by dsimp only;omega,sl⟩))))))))
 have O:=geD hb hkA hi;subst O;refine aM (AWp.sub (Sub.fvar (id:=4) (l:=aB (.mk f n s zTy ks bs al)) rfl (by simp[keys])) ?_);refine AWp.sub (Sub.fvar (id:=5) (l:=aB (.mk f n s zTy ks bs al)) rfl (by simp[keys])) ?_;refine AWp.sub (st2:=mk [(4,.one (.c (.pt (aB (.mk f n s zTy ks bs al))))),(5,.one (.c (.pt (aB (.mk f n s zTy ks bs al))))),(6,.one (.vp 6 0)),(7,.one (.vp 7 0))] [(6,gvO ns),(7,gvO ns)]) sl ?_;generalize Core.mk f n s zTy ks bs al=c0 at *;refine a8 (aE mixed (kc W ?_));refine kc W ?_;refine kz 2 rfl (a8 (sg rfl (aC (aO (fun i:Nat=>mk [(6,.one (.vp 6 0)),(7,.one (.vp 7 0)),(16,.one (.c (.sl 2 (L.map (iG∘gmG))))),(17,.one (.c (.sl 2 (L.map (iG∘gmG))))),(184,I .i64 ((L.map (iG∘gmG)).length:Int)),(185,I .i64 i)] [(6,gvO ns),(7,gvO ns)]) (fun i=>i≤L.length) (fun i=>L.length-i) 0 (Ak _) sl ?_))));intro i hi;refine sg rfl (a8 (aA rfl (fun hb=>?_) (fun hb=>?_)))
 ·have q:=ltD hb hkL;obtain⟨g,J⟩:=aL q;have hg':=bM (iG∘gmG) J;have ab:=δ J;obtain⟨hl1,hl2⟩:=Z g ab;have ac:=hin g ab;have ad:=hgc g ab;have ae:(g.2.map fC).length=g.2.length:=ζ _;obtain⟨G1,G⟩:=g;have hg':(L.map (iG∘gmG))[i]?=some [.sl 1 (G1.map rR),.sl 1 (G.map fC)]:=hg';dsimp only at hl1 hl2 ae ac ad;have ah:=a3b ns G1 (by omega);have hnl:(ns++G1.map (·.1)).length=ns.length+G1.length:=by rw[Ab,ζ]
  generalize ns++G1.map (·.1)=ai at ah hnl;refine aD (a8 (aC (sg rfl (skh 6 [(3,.row i [.sl 1 (G1.map rR),.sl 1 (G.map fC)])] rfl (kc ah ?_)))));refine ak 6 [(10,.row i [.sl 1 (G1.map rR),.sl 1 (G.map fC)])] rfl (kc ah ?_);refine kz 4 rfl (sgh [(2,.row i [.sl 1 (G1.map rR),.sl 1 (G.map fC)])] rfl (aC (aO (fun j:Nat=>mk [(6,.one (.vp 6 0)),(7,.one (.vp 7 0)),(16,.one (.c (.sl 2 (L.map (iG∘gmG))))),(17,.one (.c (.sl 2 (L.map (iG∘gmG))))),(18,I .i64 i),(19,.one (.vp 19 0)),(20,.one (.vp 20 0)),(184,I .i64 ((L.map (iG∘gmG)).length:Int)),(185,I .i64 i),(207,I .i64 ((G.map fC).length:Int)),(208,I .i64 j)] [(6,gvO ns),(7,gvO ns),(19,gvO ai),(20,gvO ai)]) (fun j=>j≤G.length) (fun j=>G.length-j) 0 (Ak _) sl ?_)));intro j hj;refine sg rfl (a8 (aA rfl (fun hb=>?_) (fun hb=>?_)))
  ·have aj:=ltD hb ae;obtain⟨p,hp⟩:=aL aj;have hp':=bM fC hp;have hpi:=δ hp;obtain⟨hp1,hp2,hp3⟩:=ac p hpi;have hps:=ad p hpi;have hc:=ih p hp1 hp2 hp3 ai (by omega);refine aD (a8 (aC (sg rfl (skh 22 [(2,.row i [.sl 1 (G1.map rR),.sl 1 (G.map fC)]),(6,.row j (fC p)),(12,.row i [.sl 1 (G1.map rR),.sl 1 (G.map fC)]),(16,.row j (fC p))] rfl (kc hc ?_)))));exact kz 1 rfl (aA rfl nofun (fun _=>aD (ag [] rfl ⟨j+1,aj,by dsimp only;omega,sl⟩)))
  have hge2:=geD hb ae hj;subst hge2;exact aM (ag [] rfl ⟨i+1,q,by dsimp only;omega,sl⟩)
 have O:=geD hb hkL hi;subst O;exact aM (sg rfl (aF rtT))
theorem aV3:∀(n:Nat) (c:Core),aV c≤n→aQi c
 | 0,c,h=>by have:=bG c;omega
 | n+1,c,h=>aE2 c fun x hx=>aV3 n x (by omega)
theorem a36 (c:Core) (q:z0R c=true) (hw:wfE c=true) (hs:aV c≤400000000):aU Tryz.prog 16 [.pa (aB c),.pa (aB c)] [] (B true) []:=by
 have h:=aV3 _ c (le_refl _) q hw [] (by simpa using hs);refine bL (n:=10) tok Tryz.func16 rfl rfl rfl ?_;refine sg rfl (sk 4 rfl (kc h ?_));exact kz 1 rfl (aF rtT)
def ZL:Loc:=fun f _ t _ bh _=>¬f=7∧t=zTy∧∀p∈bh,p.2=zTy
theorem a4h (z:Str):bE ZL (vC z):=aJ.2 ⟨⟨by decide,rfl,by simp⟩,by simp,by simp,by simp⟩
theorem uQ {f n:Int}{s:Str}(h:¬f=7):bE ZL (.mk f n s zTy [] [] []):=aJ.2 ⟨⟨h,rfl,by simp⟩,by simp,by simp,by simp⟩
section
variable {sb:Core→Str→Core→Core}{Q:Core→Prop}
theorem aVq (I:∀p n z,Q p→Q (sb p n (vC z))) {far:List Str}:∀{ns:List Str}{st:List Str×List Core×List Str},(∀p∈st.2.1,Q p)→∀p∈(jO sb far ns st).2.1,Q p
 | [],_,h=>h
 | n::ns,st,h=>by
  have e:jO sb far (n::ns) st=jO sb far ns (dU sb far st n):=rfl;rw[e];refine aVq I fun p hp=>?_
  unfold dU at hp;split at hp
  ·obtain⟨q,J,rfl⟩:=Ad.1 hp;exact I q n _ (h q J)
  ·exact h p hp
theorem aUw {s:Str}{b:Core}{ns:List Str}{ps:List Core}(I:∀p n z,Q p→Q (sb p n (vC z))) (hs:∀p,Q p→Q (sb p s b)) (h:∀p∈ps,Q p):∀p∈(cO sb s b ns ps).2,Q p:=by
 unfold cO;split
 ·intro p hp;obtain⟨q,J,rfl⟩:=Ad.1 hp;exact hs q (aVq I (st:=([],ps,ps.flatMap pfR++ns++pfR b)) h q J)
 ·exact h
end
theorem aOb {Q:Core→Prop}{l:List Core}{d:Core}(h:∀x∈l,Q x) (hd:Q d):Q (l.headD d):=by
 cases l with
 | nil=>exact hd
 | cons x l=>exact h x φ
theorem a00:∀(k:Nat) (c:Core) (s:Str) (b:Core),bE ZL c→bE ZL b→bE ZL (bW k c s b):=by
 intro k
 induction k with
 | zero=>intro c s b h _;exact h
 | succ k I=>
 intro c s b h hb;obtain⟨f,n,nm,t,ks,bs,al⟩:=c;obtain⟨⟨J,ht,O⟩,hk,W,ha⟩:=aJ.1 h;rw[bW];split
 ·exact hb
 rw[ψ (fun h:(Core.mk f n nm t ks bs al).form=7∧_=>J h.1),nE];unfold zNm zKs zBs;have Y:∀p m z,bE ZL p→bE ZL (bW k p m (vC z)):=fun p m z hp=>I p m (vC z) hp (a4h z)
 have hs:∀p,bE ZL p→bE ZL (bW k p s b):=fun p hp=>I p s b hp hb
 have h1:=aUw (ns:=gvN f nm bs) (ps:=ks++bs.map Bind.body) Y hs fun p hp=>by
  rcases χ.1 hp with hp | hp
  ·exact hk p hp
  ·obtain⟨x,hx,rfl⟩:=Ad.1 hp;exact W x hx
 refine aJ.2 ⟨⟨J,ht,fun p hp=>?_⟩,fun x hx=>h1 x (Br hx),fun x hx=>h1 _ (Cl (kY hx).1),fun x hx=>?_⟩
 ·obtain⟨x,hx,rfl⟩:=Ad.1 hp;obtain⟨y,Z,e⟩:=Ad.1 (kY hx).2;show x.ty=zTy;rw[←e];exact O (bhd y) (Ad.2 ⟨y,Z,rfl⟩)
 ·obtain⟨a,q,rfl⟩:=Ad.1 hx;exact aOb (aUw (ns:=a.vars) (ps:=[a.body]) Y hs fun p hp=>by rw[κ.1 hp];exact ha a q) (ha a q)
theorem a1x (s:Str) (a b:Int):bE ZL (dM s a b).1:=by
 have hi:∀m,bE ZL (iQ m):=fun m=>uQ (by decide)
 have ht:∀c,bE ZL (qR c):=fun c=>by cases c<;>exact uQ (by decide)
 have q:bE ZL zC:=uQ (by decide);unfold dM
 repeat' split
 all_goals first | exact hi _ | exact ht _ | exact q
mutual
theorem aTy {X:Nat}:∀c:Core,bE ZL c→bE (QL X) c→z0R c=true∧wfE c=true
 | .mk f n s t ks bs al,h,q=>by
  obtain⟨⟨Z,ht,I⟩,hk,J,ha⟩:=aJ.1 h;obtain⟨_,qk,qb,qa⟩:=aJ.1 q;have O:=aWf ks hk qk;have W:=aWg bs (fun b hb=>I (bhd b) (Ad.2 ⟨b,hb,rfl⟩)) J qb;have Y:=aWh al ha qa;refine⟨by rw[z0R,ht,O.1,W.1,Y.1];rfl,a0e Z (fun h5=>dG q (.inl h5)) O.2 W.2 Y.2⟩
theorem aWf {X:Nat}:∀l:List Core,(∀x∈l,bE ZL x)→(∀x∈l,bE (QL X) x)→aZt l=true∧∀x∈l,wfE x=true
 | [],_,_=>⟨rfl,by simp⟩
 | c::l,h,q=>by
  obtain⟨g1,g2⟩:=aTy c (h c φ) (q c φ);obtain⟨g3,g4⟩:=aWf l (fun x hx=>h x (η _ hx)) fun x hx=>q x (η _ hx)
  refine⟨by rw[aZt,g1,g3];rfl,fun x hx=>?_⟩;rcases Ah.1 hx with rfl | hx
  ·exact g2
  ·exact g4 x hx
theorem aWg {X:Nat}:∀l:List Bind,(∀x∈l,x.ty=zTy)→(∀x∈l,bE ZL x.body)→(∀x∈l,bE (QL X) x.body)→aZu l=true∧∀x∈l,wfE x.body=true
 | [],_,_,_=>⟨rfl,by simp⟩
 | .mk s t c::l,ht,h,q=>by
  obtain⟨g1,g2⟩:=aTy c (h _ φ) (q _ φ);obtain⟨g3,g4⟩:=aWg l (fun x hx=>ht x (η _ hx)) (fun x hx=>h x (η _ hx)) fun x hx=>q x (η _ hx)
  have g5:t=zTy:=ht _ φ;refine⟨by rw[aZu,g1,g3,g5];rfl,fun x hx=>?_⟩;rcases Ah.1 hx with rfl | hx
  ·exact g2
  ·exact g4 x hx
theorem aWh {X:Nat}:∀l:List Alt,(∀x∈l,bE ZL x.body)→(∀x∈l,bE (QL X) x.body)→aZv l=true∧∀x∈l,wfE x.body=true
 | [],_,_=>⟨rfl,by simp⟩
 | .mk f n s v c::l,h,q=>by
  obtain⟨g1,g2⟩:=aTy c (h _ φ) (q _ φ);obtain⟨g3,g4⟩:=aWh l (fun x hx=>h x (η _ hx)) fun x hx=>q x (η _ hx)
  refine⟨by rw[aZv,g1,g3];rfl,fun x hx=>?_⟩;rcases Ah.1 hx with rfl | hx
  ·exact g2
  ·exact g4 x hx
end
set_option maxHeartbeats 4000000
inductive FLn (F:Nat):Core→Prop
 | mk {f n:Int} {s:Str} {t:Ty} {ks:List Core} {bs:List Bind} {al:List Alt} (h:(pfR (.mk f n s t ks bs al)).length≤F)
   (hk:∀x∈ks,FLn F x) (hb:∀x∈bs,FLn F x.body) (ha:∀x∈al,FLn F x.body):FLn F (.mk f n s t ks bs al)
theorem FLn.len {F:Nat}{c:Core}(h:FLn F c):(pfR c).length≤F:=by cases h;assumption
theorem FLn.of {F:Nat}:∀(k:Nat) (c:Core),aV c≤k→aV c≤F→FLn F c
 | 0,c,h,_=>by have:=bG c;omega
 | k+1,.mk f n s t ks bs al,h,hs=>by
  obtain⟨q,I,J,_⟩:= @c6 f n s t ks bs al;exact .mk (le_trans (aEd _) hs) (fun x hx=>FLn.of k x (by have:=q x hx;omega) (by have:=q x hx;omega)) (fun x hx=>FLn.of k x.body (by have:=I x hx;omega) (by have:=I x hx;omega)) fun x hx=>FLn.of k x.body (by have:=J x hx;omega) (by have:=J x hx;omega)
theorem FLn.mono {F F':Nat}(h:F≤F'):∀(k:Nat) (c:Core),aV c≤k→FLn F c→FLn F' c
 | 0,c,hk,_=>by have:=bG c;omega
 | k+1,.mk f n s t ks bs al,hk,hc=>by
  obtain⟨q,I,J,_⟩:= @c6 f n s t ks bs al;cases hc with
  | mk O a2 a3 a4=>exact .mk (le_trans O h) (fun x hx=>FLn.mono h k x (by have:=q x hx;omega) (a2 x hx)) (fun x hx=>FLn.mono h k x.body (by have:=I x hx;omega) (a3 x hx)) fun x hx=>FLn.mono h k x.body (by have:=J x hx;omega) (a4 x hx)
theorem FLn.up {F F':Nat}{c:Core}(hc:FLn F c) (h:F≤F'):FLn F' c:=FLn.mono h _ c (le_refl _) hc
theorem FLn.fl {F:Nat}(h:F≤570000000000):∀(k:Nat) (c:Core),aV c≤k→FLn F c→NFr c
 | 0,c,hk,_=>by have:=bG c;omega
 | k+1,.mk f n s t ks bs al,hk,hc=>by
  obtain⟨q,I,J,_⟩:= @c6 f n s t ks bs al;cases hc with
  | mk O a2 a3 a4=>exact .mk (le_trans O h) (fun x hx=>FLn.fl h k x (by have:=q x hx;omega) (a2 x hx)) (fun x hx=>FLn.fl h k x.body (by have:=I x hx;omega) (a3 x hx)) fun x hx=>FLn.fl h k x.body (by have:=J x hx;omega) (a4 x hx)
theorem aDi {X:Nat}(q:X≤1000000000):∀(k:Nat) (c:Core),aV c≤k→bE (QL X) c→LC c
 | 0,c,h,_=>by have:=bG c;omega
 | k+1,.mk f n s t ks bs al,h,J=>by
  obtain⟨O,z2,z3,_⟩:= @c6 f n s t ks bs al;obtain⟨⟨I,_,_,_,W,_⟩,Y,Z,k3⟩:=aJ.1 J;have hk:ks.length≤2:=by
   unfold okF at I
   repeat' split at I
   all_goals
    have:=θ I;omega
  have e1:=aRk (bs.map bhd);have hs:=fR s;unfold lw at W;have e2:∀l:List (Str×List Str),31*l.length≤(l.map fun p=>1+w30 p.1+(p.2.map fun v=>1+w30 v).sum).sum:=by
   intro l
   induction l with
   | nil=>exact le_refl _
   | cons p l ih=>simp only[Al,Cc,Am];have:=fR p.1;omega
  have e3:=e2 (al.map ahd);rw[ζ] at e1 e3;refine .mk (by omega) (by omega) (fun a ha=>?_) (fun x hx=>aDi q k x (by have:=O x hx;omega) (Y x hx)) (fun x hx=>aDi q k x.body (by have:=z2 x hx;omega) (Z x hx)) fun x hx=>aDi q k x.body (by have:=z3 x hx;omega) (k3 x hx)
  have g1:=kR (g:=fun p:Str×List Str=>1+w30 p.1+(p.2.map fun v=>1+w30 v).sum) (Ad.2 ⟨a,ha,rfl⟩:ahd a∈al.map ahd);have g2:=pU a.vars;have g3:(ahd a).2=a.vars:=rfl;rw[g3] at g1;omega
theorem zX {p:Ty→Prop}(hp:p zTy):∀(k:Nat) (c:Core),aV c≤k→bE ZL c→allT p c
 | 0,c,h,_=>by have:=bG c;omega
 | k+1,.mk f n s t ks bs al,h,q=>by
  obtain⟨I,z2,z3,_⟩:= @c6 f n s t ks bs al;obtain⟨⟨_,J,O⟩,W,Y,Z⟩:=aJ.1 q;rw[allT];refine⟨by rw[J];exact hp,pM.2 fun x hx=>zX hp k x (by have:=I x hx;omega) (W x hx),pN.2 fun x hx=>⟨?_,zX hp k x.body (by have:=z2 x hx;omega) (Y x hx)⟩,pO.2 fun x hx=>zX hp k x.body (by have:=z3 x hx;omega) (Z x hx)⟩;have:x.ty=zTy:=O (bhd x) (Ad.2 ⟨x,hx,rfl⟩);rw[this];exact hp
structure CF (X F:Nat) (c:Core):Prop where
 q:bE (QL X) c
 z:bE ZL c
 fl:FLn F c
section
variable {X F:Nat}{f n:Int}{s:Str}{t:Ty}{ks:List Core}{bs:List Bind}{al:List Alt}
theorem CF.kid (h:CF X F (.mk f n s t ks bs al)) {x:Core}(hx:x∈ks):CF X F x:=⟨(aJ.1 h.q).2.1 x hx,(aJ.1 h.z).2.1 x hx,by cases h.fl with | mk _ a _ _=>exact a x hx⟩
theorem CF.bind (h:CF X F (.mk f n s t ks bs al)) {x:Bind}(hx:x∈bs):CF X F x.body:=⟨(aJ.1 h.q).2.2.1 x hx,(aJ.1 h.z).2.2.1 x hx,by cases h.fl with | mk _ _ a _=>exact a x hx⟩
theorem CF.alt (h:CF X F (.mk f n s t ks bs al)) {x:Alt}(hx:x∈al):CF X F x.body:=⟨(aJ.1 h.q).2.2.2 x hx,(aJ.1 h.z).2.2.2 x hx,by cases h.fl with | mk _ _ _ a=>exact a x hx⟩
end
theorem CF.vX {X F:Nat}{z:Str}(I:1+w30 z≤X) (q:1≤F):CF X F (vC z):=by
 have hw:=fR z;refine⟨aJ.2 ⟨⟨rfl,fun h=>by omega,rfl,fun p hp=>(by cases hp),?_,fun h=>by omega,fun p hp=>(by cases hp),fun p hp=>(by cases hp)⟩,fun x hx=>(by cases hx),fun x hx=>(by cases hx),fun x hx=>(by cases hx)⟩,a4h z,.mk q (fun x hx=>by cases hx) (fun x hx=>by cases hx) (fun x hx=>by cases hx)⟩;show lw z [] []≤X;unfold lw;simp only[Bj,sum_nil];omega
theorem a0k {z:Str}(h:z.length≤30):w30 z=30:=by unfold w30;omega
theorem CF.vC {X F:Nat}{z:Str}(q:z.length≤30) (I:31≤X) (J:1≤F):CF X F (vC z):=CF.vX (by rw[a0k q];exact I) J
theorem CF.tyG (q:cE 540000000000) {X F:Nat}{c:Core}(h:CF X F c):allT TyG c:=zX (aV0 q zTy rfl (by decide)) _ c (le_refl _) h.z
theorem CF.free {X F:Nat}(I:X≤1000000000) (J:F≤570000000000) {c:Core}(h:CF X F c):aU Tryz.prog 133 [.pa (aB c)] [] (bK (pfR c)) []:=s9 _ c (le_refl _) (aDi I _ c (le_refl _) h.q) (h.fl.fl J _ c (le_refl _))
theorem CF.up {X F F':Nat}{c:Core}(h:CF X F c) (I:F≤F'):CF X F' c:=⟨h.q,h.z,h.fl.up I⟩
theorem aEt {F:Nat}:∀{l:List Core},(∀x∈l,(pfR x).length≤F)→(l.flatMap pfR).length≤l.length*F
 | [],_=>by simp
 | x::l,h=>by
  rw[Cg,Ab,Am,succ_mul];have:=h x φ;have:=aEt (l:=l) fun y q=>h y (η _ q)
  omega
end Go.Proofs.YtglfogjcijokpaaGreatDoor
