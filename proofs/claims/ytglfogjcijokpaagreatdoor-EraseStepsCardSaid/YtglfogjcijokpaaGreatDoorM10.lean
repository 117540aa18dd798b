/-
  Texts Lc1 to Ly5 in one.
-/
import Derived.Test.YtglfogjcijokpaaGreatDoorM9
open List (append_nil drop_left flatMap_cons flatMap_nil isEmpty_iff length_append length_cons length_eq_one_iff length_eq_zero_iff length_map length_nil map_cons map_map map_nil mem_append mem_cons mem_cons_of_mem mem_cons_self mem_flatMap mem_map mem_of_mem_drop mem_of_mem_take mem_singleton nil_append nodup_append nodup_nil not_mem_nil sum_cons sum_nil take_left)
open Nat (add_mul add_zero le_add_left le_add_right le_max_left le_max_right le_mul_of_pos_right le_of_eq le_refl le_trans lt_of_le_of_lt max_le mul_le_mul_right mul_one zero_add zero_le)
namespace Go.Proofs.YtglfogjcijokpaaGreatDoor
open Go Go.AM
set_option maxRecDepth 20000
def tlf (t:Ty):Bool:=decide (t.form≠4)&&(decide (t.form≠5)&&t.args.isEmpty)
theorem a3c (f n:Int) (s:Str):aU Tryz.prog 64 [tyV (.mk f n s [])] [] (tyV (.mk f n s [])) []:=by
 refine bL (n:=22) tok Tryz.func64 rfl rfl rfl ?_;refine sg rfl (sg rfl (a8 (sg rfl (aC (aO (fun _:Unit=>mk [(1,.one (.vp 1 0)),(2,.one (.vp 2 0)),(3,.one (.c .nl)),(8,I .i64 0),(9,I .i64 0)] [(1,.var 30 ((bH (.mk f n s [])).map R.c)),(2,.var 30 [.c (.int .i64 0),.c (.int .i64 0),.c (.str []),.c .nl])]) (fun _=>True) (fun _=>0) () trivial sl ?_)))));intro _ _;exact sg rfl (a8 (aA rfl nofun (fun _=>aM (sg rfl (sg rfl (aF (rtC trw)))))))
theorem aPn (t:Ty) (h:tlf t=true):aU Tryz.prog 28 [tyV t,.one (.c .nl),.one (.c .nl)] [] (tyV t) []:=by
 obtain⟨f,n,s,a⟩:=t;simp only[tlf,ε,isEmpty_iff] at h;obtain⟨h4,h5,q⟩:=h;have q:a=[]:=q;subst q;have h4:¬f=4:=θ h4;have h5:¬f=5:=θ h5;have J:=a3c f n s;have hi:aU Tryz.prog 63 [bK [],Go.AM.T s] [] (I .i64 (-1)) []:=aE4 [] s (by simp);refine bL (n:=48) tok Tryz.func28 rfl rfl rfl ?_;refine sg rfl (a8 (sg rfl (aC (sg rfl (aA rfl (fun hb=>?_) (fun hb=>?_))))))
 ·exact sgh [(3,.pc (I .i64 (-1)))] rfl (sg rfl (aA rfl nofun (fun _=>aD (sgh [(1,.pc (tyV (.mk f n s [])))] rfl (aF (rtC trw))))))
 ·exact sg rfl (aA rfl (fun hb=>absurd (θ hb) h4) (fun _=>sg rfl (aA rfl (fun hb=>absurd (θ hb) h5) (fun _=>aD (sgh [(1,.pc (tyV (.mk f n s [])))] rfl (aF (rtC trw)))))))
theorem aPm (t:Ty) (h:tlf t=true):aU Tryz.prog 80 [tyV t] [] (tyV t) []:=by
 have hs:=aPn t h;obtain⟨f,n,s,a⟩:=t;refine bL (n:=5) tok Tryz.func80 rfl rfl rfl ?_;refine sg rfl (sk 1 rfl (kc hs ?_));exact kz 1 rfl (aF (rtC trw))
theorem aYv (s:Str):aU Tryz.prog 48 [Go.AM.T s] [] (tyV (.mk 2 0 s [])) []:=by
 refine bL (n:=5) tok Tryz.func48 rfl rfl rfl ?_;exact sg rfl (sg rfl (aF (rtC trw)))
theorem aYw (s:Str):aU Tryz.prog 33 [Go.AM.T s] [] (tyV (.mk 3 0 s [])) []:=by
 refine bL (n:=5) tok Tryz.func33 rfl rfl rfl ?_;exact sg rfl (sg rfl (aF (rtC trw)))
theorem a3x (s:Str):aU Tryz.prog 34 [Go.AM.T s] [] (.pa (aB (.mk 1 0 s zTy [] [] []))) []:=by
 refine bL (n:=5) tok Tryz.func34 rfl rfl rfl ?_;exact sg rfl (sg rfl (aF (rtC trw)))
theorem aV5 (n:Int):aU Tryz.prog 35 [I .i64 n] [] (.pa (aB (.mk 3 n [] zTy [] [] []))) []:=by
 refine bL (n:=5) tok Tryz.func35 rfl rfl rfl ?_;exact sg rfl (sg rfl (aF (rtC trw)))
def pD (f n:Int) (s:Str) (t:Ty) (nk nb na:Nat):List R:=[.c (.int .i64 f),.c (.int .i64 n),.c (.str s),.c (.int .i64 t.form),.c (.int .i64 t.n),.c (.str t.name),.c (.sl 4 (iW t)),.hs 702 0 nk nk,.hs 701 0 nb nb,.hs 703 0 na na]
mutual
def aXr:Core→Bool
 | .mk f _ _ _ ks bs al=>(if f=6∨f=7 then decide (ks.length=1)&&(bs.isEmpty&&al.isEmpty) else true)&&(aJn ks&&(aJo bs&&aJp al))
def aJn:List Core→Bool
 | []=>true
 | c::l=>aXr c&&aJn l
def aJo:List Bind→Bool
 | []=>true
 | .mk _ _ c::l=>aXr c&&aJo l
def aJp:List Alt→Bool
 | []=>true
 | .mk _ _ _ _ c::l=>aXr c&&aJp l
end
theorem aNq {o:List Str}{s:Str}(h:o.Nodup):(qX o s).Nodup:=by
 unfold qX;split
 ·exact h
 ·rename_i hs;rw[C4];exact⟨h,by simp,fun a ha b hb e=>by rw[κ.1 hb] at e;subst e;exact hs ha⟩
theorem aG5 (G:List Str):∀(l o:List Str),o.Nodup→(pfP G o l).Nodup
 | [],_,h=>h
 | s::l,o,h=>by
  show(pfP G (pfG G o s) l).Nodup;refine aG5 G l _ ?_;unfold pfG;split
  ·exact h
  ·exact aNq h
theorem aG6:∀(l o:List Str),(o++l).Nodup→pfP [] o l=o++l
 | [],o,_=>(A8 o).symm
 | s::l,o,h=>by
  have hs:¬s∈o:=fun hm=>by
   rw[C4] at h;exact h.2.2 s hm s φ rfl
  show pfP [] (pfG [] o s) l=_;rw[show pfG [] o s=o++[s] by simp[pfG,qX,hs]];rw[aG6 l (o++[s]) (by simpa using h)];simp
mutual
theorem y5:∀c:Core,(pfR c).Nodup
 | .mk f n s t ks bs al=>by
  rw[pfR];split
  ·simp
  ·exact aU2 al _ (aU1 _ bs _ (aU0 _ ks _ nodup_nil))
theorem aU0 (G:List Str):∀(l:List Core) (o:List Str),o.Nodup→(lU G l o).Nodup
 | [],_,h=>by rw[lU];exact h
 | c::l,o,h=>by rw[lU];exact aU0 G l _ (aG5 G _ _ h)
theorem aU1 (G:List Str):∀(l:List Bind) (o:List Str),o.Nodup→(oE G l o).Nodup
 | [],_,h=>by rw[oE];exact h
 | .mk s t c::l,o,h=>by rw[oE];exact aU1 G l _ (aG5 G _ _ h)
theorem aU2:∀(l:List Alt) (o:List Str),o.Nodup→(oP l o).Nodup
 | [],_,h=>by rw[oP];exact h
 | .mk f n s v c::l,o,h=>by rw[oP];exact aU2 l _ (aG5 v _ _ h)
end
theorem aOc (f:Int) (s:Str) (bs:List Bind):gvN f s (cR bs)=gvN f s bs:=by
 unfold gvN;congr 1
 induction bs with
 | nil=>rw[cR]
 | cons b l q=>
  obtain⟨s',t',c'⟩:=b;rw[cR,lQ,Al,Al,q];rfl
mutual
theorem rP:∀c:Core,aXr c=true→pfR (aK c)=pfR c
 | .mk f n s t ks bs al,h=>by
  simp only[aXr,ε] at h;obtain⟨h1,h2,h3,h4⟩:=h;have hk:=aBd ks h2;by_cases q:f=6∨f=7
  ·rw[ξ q] at h1;simp only[ε,Bu,isEmpty_iff] at h1;obtain⟨I,J,O⟩:=h1;subst J O;obtain⟨k,rfl⟩:=Bm.1 I;have hk:=hk [] [];rw[aK,ξ ⟨q,by simp⟩,cQ];rw[cQ,cQ,lU,lU,lU,lU,aG6 _ [] (by simpa using y5 _),aG6 _ [] (by simpa using y5 _)] at hk;rw[pfR,ψ (by omega),oP,oE,lU,lU];have W:gvN f s []=[]:=by unfold gvN;rw[ψ (by omega)];rfl
   rw[W,aG6 _ [] (by simpa using y5 _)];exact hk
  ·rw[aK,ψ (fun h=>q h.1),pfR,pfR];split
   ·rfl
   ·rw[aOc,hk,aBe bs h3,aBf al h4]
theorem aBd:∀l:List Core,aJn l=true→∀(G o:List Str),lU G (cQ l) o=lU G l o
 | [],_,G,o=>by rw[cQ]
 | c::l,h,G,o=>by
  rw[aJn,ε] at h;rw[cQ,lU,lU,rP c h.1,aBd l h.2]
theorem aBe:∀l:List Bind,aJo l=true→∀(G o:List Str),oE G (cR l) o=oE G l o
 | [],_,G,o=>by rw[cR]
 | .mk s t c::l,h,G,o=>by
  rw[aJo,ε] at h;rw[cR,lQ,oE,oE,rP c h.1,aBe l h.2]
theorem aBf:∀l:List Alt,aJp l=true→∀(o:List Str),oP (eT l) o=oP l o
 | [],_,o=>by rw[eT]
 | .mk f n s v c::l,h,o=>by
  rw[aJp,ε] at h;rw[eT,eC,oP,oP,rP c h.1,aBf l h.2]
end
mutual
theorem aHb:∀c:Core,wfC c=true→aXr c=true
 | .mk f n s t ks bs al,h=>by
  obtain⟨h1,h2,h3,h4⟩:=aUc h;rw[aXr,aNb ks h2,aNc bs h3,aNd al h4];by_cases q:f=6∨f=7
  ·obtain⟨⟨k,rfl⟩,rfl,rfl⟩:=h1 (.inr q);rw[ξ q];simp
  ·rw[ψ q];rfl
theorem aNb:∀l:List Core,(∀x∈l,wfC x=true)→aJn l=true
 | [],_=>rfl
 | c::l,h=>by rw[aJn,aHb c (h c φ),aNb l fun x hx=>h x (η _ hx)];rfl
theorem aNc:∀l:List Bind,(∀x∈l,wfC x.body=true)→aJo l=true
 | [],_=>rfl
 | .mk s t c::l,h=>by rw[aJo,aHb c (h _ φ),aNc l fun x hx=>h x (η _ hx)];rfl
theorem aNd:∀l:List Alt,(∀x∈l,wfC x.body=true)→aJp l=true
 | [],_=>rfl
 | .mk f n s vs c::l,h=>by rw[aJp,aHb c (h _ φ),aNd l fun x hx=>h x (η _ hx)];rfl
end
theorem aXk {c:Core}(h:wfC c=true):pfR (aK c)=pfR c:=rP c (aHb c h)
theorem aXw {o:List Str}{x y:Str}(h:y∈o):y∈qX o x:=by
 unfold qX;split
 ·exact h
 ·exact χ.2 (.inl h)
theorem aSg {o:List Str}{x:Str}:x∈qX o x:=by
 unfold qX;split
 ·assumption
 ·exact χ.2 (.inr (by simp))
theorem a11 {G o:List Str}{x y:Str}(h:y∈o):y∈pfG G o x:=by
 unfold pfG;split
 ·exact h
 ·exact aXw h
theorem aBg {G:List Str}:∀{l o:List Str}{y:Str},y∈o→y∈pfP G o l
 | [],_,_,h=>h
 | x::l,o,_,h=>aBg (G:=G) (l:=l) (o:=pfG G o x) (a11 h)
theorem tM {G:List Str}:∀{l o:List Str}{y:Str},y∈l→¬y∈G→y∈pfP G o l
 | x::l,o,y,h,q=>by
  rcases Ah.1 h with rfl | h
  ·refine aBg (G:=G) (l:=l) (o:=pfG G o y) ?_;unfold pfG;rw[ψ q];exact aSg
  ·exact tM (l:=l) (o:=pfG G o x) h q
theorem aMt {G:List Str}:∀{l:List Core}{o:List Str}{y:Str},y∈o→y∈lU G l o
 | [],_,_,h=>by rw[lU];exact h
 | c::l,o,y,h=>by rw[lU];exact aMt (aBg h)
theorem y9 {G:List Str}:∀{l:List Bind}{o:List Str}{y:Str},y∈o→y∈oE G l o
 | [],_,_,h=>by rw[oE];exact h
 | .mk s t c::l,o,y,h=>by rw[oE];exact y9 (aBg h)
theorem yB:∀{l:List Alt}{o:List Str}{y:Str},y∈o→y∈oP l o
 | [],_,_,h=>by rw[oP];exact h
 | .mk f n s vs c::l,o,y,h=>by rw[oP];exact yB (aBg h)
theorem y7 {G:List Str}:∀{l:List Core}{o:List Str}{y:Str}{c:Core},c∈l→y∈pfR c→¬y∈G→y∈lU G l o
 | d::l,o,y,c,h,q,I=>by
  rw[lU];rcases Ah.1 h with rfl | h
  ·exact aMt (tM q I)
  ·exact y7 h q I
theorem y8 {G:List Str}:∀{l:List Bind}{o:List Str}{y:Str}{c:Bind},c∈l→y∈pfR c.body→¬y∈G→y∈oE G l o
 | .mk s t d::l,o,y,c,h,q,I=>by
  rw[oE];rcases Ah.1 h with rfl | h
  ·exact y9 (tM q I)
  ·exact y8 h q I
theorem yA:∀{l:List Alt}{o:List Str}{y:Str}{c:Alt},c∈l→y∈pfR c.body→¬y∈c.vars→y∈oP l o
 | .mk f n s vs d::l,o,y,c,h,q,I=>by
  rw[oP];rcases Ah.1 h with rfl | h
  ·exact yB (tM q I)
  ·exact yA h q I
theorem aXj {f n:Int}{nm:Str}{t:Ty}{ks:List Core}{bs:List Bind}{al:List Alt}(hf:f≠1) {y:Str}(h:y∈(ks++bs.map Bind.body).flatMap pfR) (q:¬y∈gvN f nm bs):y∈pfR (.mk f n nm t ks bs al):=by
 rw[pfR,ψ hf];refine yB ?_;obtain⟨c,hc,I⟩:=Bw.1 h;rcases χ.1 hc with hc | hc
 ·exact y9 (y7 hc I q)
 ·obtain⟨b,hb,rfl⟩:=Ad.1 hc;exact y8 hb I q
theorem a1z {f n:Int}{nm:Str}{t:Ty}{ks:List Core}{bs:List Bind}{al:List Alt}(hf:f≠1) {a:Alt}(ha:a∈al) {y:Str}(h:y∈pfR a.body) (q:¬y∈a.vars):y∈pfR (.mk f n nm t ks bs al):=by
 rw[pfR,ψ hf];exact yA ha h q
section
variable {sb sb':Core→Str→Core→Core}{P:Core→Prop}{e:Core→Core}
end
structure PK (B:Nat) (T:Ty→Prop) (ns:List Str) (ps:List Core) (r:List Str×List Core):Prop where
 len1:r.1.length=ns.length
 len2:r.2.length=ps.length
 wf:∀q∈r.2,wfC q=true∧allT T q
 sm:A2 (fun p q=>m30 q≤m30 p*B) ps r.2
 nm:A2 NR ns r.1
theorem tE {sb:Core→Str→Core→Core}{P:Core→Prop}{B:Nat}{T:Ty→Prop}{s:Str}{b:Core}{ns:List Str}{ps:List Core}(hB:1≤B) (Y:∀p∈ps,P p)
  (hz:∀p n z,P p→z.length≤30→P (sb p n (vC z))∧m30 (sb p n (vC z))≤m30 p) (hPQ:∀p,P p→wfC p=true∧allT T p) (hs:∀p,P p→wfC (sb p s b)=true∧allT T (sb p s b)∧m30 (sb p s b)≤m30 p*B)
  (hl:(ps.flatMap pfR).length+2*ns.length+(pfR b).length≤540000000000):PK B T ns ps (cO sb s b ns ps):=by
 obtain⟨Z,l2⟩:=rN (sb:=sb) (s:=s) (b:=b) (ns:=ns) (ps:=ps);obtain⟨⟨J,h1,h2⟩,h3⟩:=xZ (sb:=sb) (Rel:=fun p q=>P p→(P q∧m30 q≤m30 p)) (fun p h=>⟨h,le_refl _⟩)
  (fun p q r O hqr h=>by
   obtain⟨a1,a2⟩:=O h;obtain⟨b1,b2⟩:=hqr a1
   exact⟨b1,le_trans b2 a2⟩) (s:=s) (b:=b) (ns:=ns) (ps:=ps) (fun p n z hzl h=>hz p n z h hzl) hl
 have I:∀q∈J,P q:=fun q I=>by
  obtain⟨p,hp,O⟩:=h1.mem q I;exact(O (Y p hp)).1
 have hA:A2 (fun p q=>m30 q≤m30 p) ps J:=by
  clear h2 I hl h3 Z l2
  induction h1 with
  | nil=>exact .nil
  | cons r _ ih2=>exact .cons (r (Y _ φ)).2 (ih2 fun p hp=>Y p (η _ hp))
 have hup:∀k:Nat,k≤k*B:=fun k=>Ay _ hB
 refine⟨Z,l2,fun x hx=>?_,?_,h3⟩
 ·rcases h2 with h2 | h2
  ·rw[h2] at hx;exact hPQ x (I x hx)
  ·rw[h2] at hx;obtain⟨q,W,rfl⟩:=Ad.1 hx;exact⟨(hs q (I q W)).1,(hs q (I q W)).2.1⟩
 ·rcases h2 with h2 | h2
  ·rw[h2];exact A2.mono (fun p q h=>le_trans h (hup _)) hA
  ·rw[h2];clear h2 h3 Z l2 hl h1;have key:∀{ps J:List Core},A2 (fun p q=>m30 q≤m30 p) ps J→(∀q∈J,P q)→A2 (fun p q=>m30 q≤m30 p*B) ps (J.map fun p=>sb p s b):=by
    intro ps J h
    induction h with
    | nil=>intro _;exact .nil
    | cons r _ ih=>exact fun I=>.cons (le_trans (hs _ (I _ φ)).2.2 (Ar _ r)) (ih fun q h=>I q (η _ h))
   exact key hA I
theorem aHp {B:Nat}{ps I:List Core}(h:A2 (fun p q=>m30 q≤m30 p*B) ps I):bV I≤bV ps*B:=by
 induction h with
 | nil=>rw[bV];exact Ak _
 | cons r _ J=>rw[bV,bV,Av];omega
theorem aHi {B:Nat}(q:1≤B):∀{ts:List Ty}{ns:List Str}{ps:List Core}{bs:List Bind},A2 (fun(b:Bind) n=>w30 n≤w30 b.name) bs ns→A2 (fun(b:Bind) p=>m30 p≤m30 b.body*B) bs ps→eU (mkB ts ns ps)≤eU bs*B
 | [],_,_,_,_,_=>by unfold mkB;rw[eU];exact Ak _
 | t::ts,_,_,_,.nil,.nil=>by unfold mkB;rw[eU];exact Ak _
 | t::ts,n::ns,p::ps,.mk s ty c::bs,.cons h1 h2,.cons h3 h4=>by
  unfold mkB;rw[eU,eU];have:=aHi q (ts:=ts) h2 h4;have h1:w30 n≤w30 s:=h1;have h3:m30 p≤m30 c*B:=h3;have h5:1+w30 s≤(1+w30 s)*B:=Ay _ q;rw[Av,Av];omega
section
variable {sb:Core→Str→Core→Core}{B:Nat}{T:Ty→Prop}{f n:Int}{nm:Str}{t:Ty}{ks:List Core}{bs:List Bind}{al:List Alt}{s:Str}{b:Core}
theorem aSe (O:1≤B) {l:List Alt}(h:∀a∈l,A2 (fun p q=>m30 q≤m30 p*B) [a.body] (cO sb s b a.vars [a.body]).2∧A2 NR a.vars (cO sb s b a.vars [a.body]).1):fQ (l.map (jM sb s b))≤fQ l*B:=by
 induction l with
 | nil=>exact Ak _
 | cons a l J=>
  obtain⟨af,an,anm,vs,I⟩:=a;obtain⟨g1,g2⟩:=h _ φ;have:=J fun x hx=>h x (η _ hx)
  have g1:A2 (fun p q=>m30 q≤m30 p*B) [I] (cO sb s b vs [I]).2:=g1;have g2:A2 NR vs (cO sb s b vs [I]).1:=g2;have g4:=aAn g2;have g3:m30 ((cO sb s b vs [I]).2.headD I)≤m30 I*B:=by
   cases hx:(cO sb s b vs [I]).2 with
   | nil=>rw[hx] at g1;cases g1
   | cons y l'=>
    rw[hx] at g1;cases g1 with
    | cons h _=>exact h
  have e:jM sb s b (Alt.mk af an anm vs I)=.mk af an anm (cO sb s b vs [I]).1 ((cO sb s b vs [I]).2.headD I):=rfl;rw[Al,e,fQ,fQ];have g5:1+w30 anm+(vs.map fun v=>1+w30 v).sum≤(1+w30 anm+(vs.map fun v=>1+w30 v).sum)*B:=Ay _ O;rw[Av,Av (1+w30 anm+_)];omega
theorem aC3 (W:1≤B) (Z:PK B T (gvN f nm bs) (ks++bs.map Bind.body) (cO sb s b (gvN f nm bs) (ks++bs.map Bind.body))) (ha:∀a∈al,PK B T a.vars [a.body] (cO sb s b a.vars [a.body]))
  (h0:T t) (hb:∀x∈bs,T x.ty) (w1:f=5∨f=6∨f=7→(∃k,ks=[k])∧bs=[]∧al=[]) (w0:f=1→ks=[]∧bs=[]∧al=[]):
  wfC (nE sb s b (.mk f n nm t ks bs al))=true∧allT T (nE sb s b (.mk f n nm t ks bs al))∧m30 (nE sb s b (.mk f n nm t ks bs al))≤m30 (.mk f n nm t ks bs al)*B:=by
 have hN:∀a∈al,wfC (jM sb s b a).body=true∧allT T (jM sb s b a).body:=fun a q=>by
  show wfC ((cO sb s b a.vars [a.body]).2.headD a.body)=true∧allT T ((cO sb s b a.vars [a.body]).2.headD a.body);obtain⟨y,I⟩:=Bm.1 (ha a q).len2;rw[I];exact(ha a q).wf y (by rw[I];exact κ.2 rfl)
 have e4:fQ (al.map (jM sb s b))≤fQ al*B:=aSe W fun a q=>⟨(ha a q).sm,(ha a q).nm⟩
 rw[nE];unfold zNm zKs zBs;generalize cO sb s b (gvN f nm bs) (ks++bs.map Bind.body)=r at Z ⊢;obtain⟨r1,Y⟩:=r;obtain⟨l1,l2,J,q1,O⟩:=Z;dsimp only at *;refine⟨aUd (fun hf=>?_) (fun hf=>?_) (fun x hx=>(J x (Br hx)).1) (fun x hx=>(J _ (Cl (kY hx).1)).1) (fun x hx=>?_),?_,?_⟩
 ·obtain⟨⟨y,rfl⟩,rfl,rfl⟩:=w1 hf;obtain⟨y',rfl⟩:=Bm.1 (show Y.length=1 from l2);exact⟨⟨y',rfl⟩,rfl,rfl⟩
 ·obtain⟨rfl,rfl,rfl⟩:=w0 hf;exact⟨rfl,rfl,rfl⟩
 ·obtain⟨a,q,rfl⟩:=Ad.1 hx;exact(hN a q).1
 ·rw[allT];refine⟨h0,pM.2 fun x hx=>(J x (Br hx)).2,pN.2 fun x hx=>?_,pO.2 fun x hx=>?_⟩
  ·obtain⟨h1,h2⟩:=kY hx;obtain⟨y,I,hyt⟩:=Ad.1 h2;exact⟨by rw[←hyt];exact hb y I,(J _ (Cl h1)).2⟩
  ·obtain⟨a,q,rfl⟩:=Ad.1 hx;exact(hN a q).2
 ·rw[m30,m30];have e1:w30 (if f=5 then r1.headD nm else nm)≤w30 nm:=by
   split
   ·rename_i hf;unfold gvN at O;rw[ξ hf] at O;cases O with
    | cons h _=>exact h.w
   ·exact le_refl _
  have e2:bV (Y.take ks.length)≤bV ks*B:=by
   have:=(q1.take ks.length)
   rw[take_left] at this;exact aHp this
  have e3:eU (mkB (bs.map Bind.ty) r1 (Y.drop ks.length))≤eU bs*B:=by
   by_cases hf:f=5
   ·obtain⟨_,rfl,_⟩:=w1 (.inl hf);show eU (mkB [] _ _)≤_;unfold mkB;rw[eU];exact Ak _
   ·have h4:=O;unfold gvN at h4;rw[ψ hf,A4] at h4;have h5:=q1.drop ks.length;rw[drop_left] at h5;exact aHi W (A2.mapL (A2.mono (fun a b h=>h.w) h4)) (A2.mapL h5)
  have e5:1+w30 nm≤(1+w30 nm)*B:=Ay _ W;rw[Av,Av,Av];omega
end
abbrev Loc:Type:=Int→Str→Ty→Nat→List (Str×Ty)→List (Str×List Str)→Prop
def bhd (b:Bind):Str×Ty:=(b.name,b.ty)
def ahd (a:Alt):Str×List Str:=(a.name,a.vars)
mutual
def bE (q:Loc):Core→Prop
 | .mk f _ s t ks bs al=>q f s t ks.length (bs.map bhd) (al.map ahd)∧aQa q ks∧aQb q bs∧aQc q al
def aQa (q:Loc):List Core→Prop
 | []=>True
 | c::l=>bE q c∧aQa q l
def aQb (q:Loc):List Bind→Prop
 | []=>True
 | .mk _ _ c::l=>bE q c∧aQb q l
def aQc (q:Loc):List Alt→Prop
 | []=>True
 | .mk _ _ _ _ c::l=>bE q c∧aQc q l
end
theorem aDd {q:Loc}:∀{l:List Core},aQa q l↔∀x∈l,bE q x
 | []=>by simp[aQa]
 | c::l=>by rw[aQa,aDd (l:=l)];simp
theorem aDe {q:Loc}:∀{l:List Bind},aQb q l↔∀x∈l,bE q x.body
 | []=>by simp[aQb]
 | .mk s t c::l=>by rw[aQb,aDe (l:=l)];simp[Bind.body]
theorem aDf {q:Loc}:∀{l:List Alt},aQc q l↔∀x∈l,bE q x.body
 | []=>by simp[aQc]
 | .mk f n s v c::l=>by rw[aQc,aDf (l:=l)];simp[Alt.body]
theorem aJ {q:Loc}{f n:Int}{s:Str}{t:Ty}{ks:List Core}{bs:List Bind}{al:List Alt}:
  bE q (.mk f n s t ks bs al)↔q f s t ks.length (bs.map bhd) (al.map ahd)∧(∀x∈ks,bE q x)∧(∀x∈bs,bE q x.body)∧∀x∈al,bE q x.body:=by
 rw[bE,aDd,aDe,aDf]
def okF (f:Int) (nk nb na:Nat):Bool:=
 if f=4∨f=10 then decide (nk=2∧nb=0∧na=0)
 else if f=5∨f=6∨f=7 then decide (nk=1∧nb=0∧na=0)
 else if f=8 then decide (nk=1∧na=0)
 else if f=9 then decide (nk=1∧nb=0)
 else decide (nk=0∧nb=0∧na=0)
def lw (s:Str) (bh:List (Str×Ty)) (ah:List (Str×List Str)):Nat:=
 1+w30 s+(bh.map fun p=>1+w30 p.1).sum+(ah.map fun p=>1+w30 p.1+(p.2.map fun v=>1+w30 v).sum).sum
theorem aJw (n:Nat):¬bQ n=[]:=by unfold bQ;split<;>simp
theorem yY (l:List Str):¬b6 l=[]:=aJw _
def QL (X:Nat):Loc:=fun f s t nk bh ah=>okF f nk bh.length ah.length=true∧(f=7→t=zTy∧¬s=[])∧wfS t=true∧(∀p∈bh,wfS p.2=true)∧lw s bh ah≤X∧(f=5→nh s)∧(∀p∈bh,nh p.1)∧∀p∈ah,∀v∈p.2,nh v
theorem aU8 {f:Int}{nk nb q:Nat}(h:okF f nk nb q=true):(f=5∨f=6∨f=7→nk=1∧nb=0∧q=0)∧(f=1→nk=0∧nb=0∧q=0):=by
 unfold okF at h;refine⟨fun hf=>?_,fun hf=>?_⟩
 ·rw[ψ (by omega),ξ hf] at h;exact θ h
 ·rw[ψ (by omega),ψ (by omega),ψ (by omega),ψ (by omega)] at h;exact θ h
section
variable {X:Nat}{f n:Int}{s:Str}{t:Ty}{ks:List Core}{bs:List Bind}{al:List Alt}
theorem dG (h:bE (QL X) (.mk f n s t ks bs al)) (hf:f=5∨f=6∨f=7):(∃k,ks=[k])∧bs=[]∧al=[]:=by
 obtain⟨h1,_⟩:=aJ.1 h;obtain⟨g1,g2,g3⟩:=(aU8 h1.1).1 hf;rw[ζ] at g2 g3;exact⟨Bm.1 g1,Bi.1 g2,Bi.1 g3⟩
theorem lS (h:bE (QL X) (.mk f n s t ks bs al)) (hf:f=1):ks=[]∧bs=[]∧al=[]:=by
 obtain⟨h1,_⟩:=aJ.1 h;obtain⟨g1,g2,g3⟩:=(aU8 h1.1).2 hf;rw[ζ] at g2 g3;exact⟨Bi.1 g1,Bi.1 g2,Bi.1 g3⟩
end
mutual
theorem lR {X:Nat}:∀c:Core,bE (QL X) c→wfC c=true
 | .mk f n s t ks bs al,h=>by
  obtain⟨h1,h2,h3,h4⟩:=aJ.1 h;exact aUd (fun hf=>dG h hf) (fun hf=>lS h hf) (fun x hx=>aQn ks h2 x hx) (fun x hx=>aQo bs h3 x hx) (fun x hx=>aQp al h4 x hx)
theorem aQn {X:Nat}:∀l:List Core,(∀x∈l,bE (QL X) x)→∀x∈l,wfC x=true
 | c::l,h,x,hx=>by
  rcases Ah.1 hx with e | hx
  ·rw[e];exact lR c (h _ φ)
  ·exact aQn l (fun x hx=>h x (η _ hx)) x hx
theorem aQo {X:Nat}:∀l:List Bind,(∀x∈l,bE (QL X) x.body)→∀x∈l,wfC x.body=true
 | .mk s t c::l,h,x,hx=>by
  rcases Ah.1 hx with e | hx
  ·rw[e];exact lR c (h _ φ)
  ·exact aQo l (fun x hx=>h x (η _ hx)) x hx
theorem aQp {X:Nat}:∀l:List Alt,(∀x∈l,bE (QL X) x.body)→∀x∈l,wfC x.body=true
 | .mk f n s v c::l,h,x,hx=>by
  rcases Ah.1 hx with e | hx
  ·rw[e];exact lR c (h _ φ)
  ·exact aQp l (fun x hx=>h x (η _ hx)) x hx
end
theorem yL {o:List Str}{x y:Str}:y∈qX o x↔y∈o∨y=x:=by
 unfold qX;split
 ·rename_i h;exact⟨.inl,fun q=>q.elim id fun e=>by rw[e];exact h⟩
 ·rw[χ,κ]
theorem n9 {y:Str}:∀{l o:List Str},y∈o6 o l↔y∈o∨y∈l
 | [],o=>by simp[o6]
 | x::l,o=>by
  show y∈o6 (qX o x) l↔_;rw[n9 (l:=l),yL,Ah,or_assoc]
theorem aF9 {f:Int}{s y:Str}:∀{l o:List Str},y∈aDn f s o l↔y∈o∨(y∈l∧(¬f=7∨¬y=s))
 | [],o=>by simp[aDn]
 | x::l,o=>by
  show y∈aDn f s (oF f s o x) l↔_;rw[aF9 (l:=l)];unfold oF;split
  ·rename_i h;rw[n9,κ,Ah];constructor
   ·rintro((h1 | h1) | h1)
    ·exact .inl h1
    ·exact .inr ⟨.inl h1,by rw[h1];exact h⟩
    ·exact .inr ⟨.inr h1.1,h1.2⟩
   ·rintro(h1 | ⟨h1 | h1,h2⟩)
    ·exact .inl (.inl h1)
    ·exact .inl (.inr h1)
    ·exact .inr ⟨h1,h2⟩
  ·rename_i h;rw[Ah];constructor
   ·rintro(h1 | h1)
    ·exact .inl h1
    ·exact .inr ⟨.inr h1.1,h1.2⟩
   ·rintro(h1 | ⟨h1 | h1,h2⟩)
    ·exact .inl h1
    ·exact absurd (by rw[←h1];exact h2) h
    ·exact .inr ⟨h1,h2⟩
theorem aF7 {f:Int}{s y:Str}:∀{l:List Core}{o:List Str},y∈pP f s l o↔y∈o∨∃k∈l,y∈tyR k∧(¬f=7∨¬y=s)
 | [],o=>by rw[pP];simp
 | c::l,o=>by
  rw[pP,aF7 (l:=l),aF9,or_assoc];simp
theorem aGa {y:Str}:∀{l:List Bind}{o:List Str},y∈nX l o↔y∈o∨∃b∈l,y∈tfR b.ty∨y∈tyR b.body
 | [],o=>by rw[nX];simp
 | .mk s t c::l,o=>by
  rw[nX,aGa (l:=l),n9,n9];simp only[Ah,exists_eq_or_imp,Bind.ty,Bind.body,or_assoc]
theorem aGb {y:Str}:∀{l:List Alt}{o:List Str},y∈oD l o↔y∈o∨∃a∈l,y∈tyR a.body
 | [],o=>by rw[oD];simp
 | .mk f n s v c::l,o=>by
  rw[oD,aGb (l:=l),n9];simp only[Ah,exists_eq_or_imp,Alt.body,or_assoc]
theorem bF {f n:Int}{s:Str}{t:Ty}{ks:List Core}{bs:List Bind}{al:List Alt}{y:Str}:
  y∈tyR (.mk f n s t ks bs al)↔y∈tfR t∨(∃k∈ks,y∈tyR k∧(¬f=7∨¬y=s))∨(∃b∈bs,y∈tfR b.ty∨y∈tyR b.body)∨∃a∈al,y∈tyR a.body:=by
 rw[tyR,aGb,aGa,aF7,n9];simp[or_assoc]
theorem q9:∀{l o:List Str},o.Nodup→(o6 o l).Nodup
 | [],_,h=>h
 | x::l,o,h=>q9 (l:=l) (o:=qX o x) (aNq h)
theorem aK2 {f:Int}{s:Str}:∀{l o:List Str},o.Nodup→(aDn f s o l).Nodup
 | [],_,h=>h
 | x::l,o,h=>aK2 (l:=l) (o:=oF f s o x) (by unfold oF;split;exact q9 h;exact h)
theorem aK0 {f:Int}{s:Str}:∀{l:List Core}{o:List Str},o.Nodup→(pP f s l o).Nodup
 | [],o,h=>by rw[pP];exact h
 | c::l,o,h=>by rw[pP];exact aK0 (aK2 h)
theorem aK4:∀{l:List Bind}{o:List Str},o.Nodup→(nX l o).Nodup
 | [],o,h=>by rw[nX];exact h
 | .mk s t c::l,o,h=>by rw[nX];exact aK4 (q9 (q9 h))
theorem aK5:∀{l:List Alt}{o:List Str},o.Nodup→(oD l o).Nodup
 | [],o,h=>by rw[oD];exact h
 | .mk f n s v c::l,o,h=>by rw[oD];exact aK5 (q9 h)
theorem a43 (c:Core):(tyR c).Nodup:=by
 obtain⟨f,n,s,t,ks,bs,al⟩:=c;rw[tyR];exact aK5 (aK4 (aK0 (q9 nodup_nil)))
theorem dS {a:List Str}{c:Core}(h:∀x∈tyR c,x∈a):(tyR c).length≤a.length:=eO _ _ (a43 c) h
mutual
def tlC:Core→Nat
 | .mk f _ _ _ ks bs al=>(if f=7 then 1 else 0)+max (kP ks) (max (rG bs) (qS al))
def kP:List Core→Nat
 | []=>0
 | c::l=>max (tlC c) (kP l)
def rG:List Bind→Nat
 | []=>0
 | .mk _ _ c::l=>max (tlC c) (rG l)
def qS:List Alt→Nat
 | []=>0
 | .mk _ _ _ _ c::l=>max (tlC c) (qS l)
end
theorem aDr {K:Nat}:∀{l:List Core},kP l≤K↔∀x∈l,tlC x≤K
 | []=>by simp[kP]
 | c::l=>by rw[kP,max_le,aDr (l:=l)];simp
theorem aDs {K:Nat}:∀{l:List Bind},rG l≤K↔∀x∈l,tlC x.body≤K
 | []=>by simp[rG]
 | .mk s t c::l=>by rw[rG,max_le,aDs (l:=l)];simp[Bind.body]
theorem aDt {K:Nat}:∀{l:List Alt},qS l≤K↔∀x∈l,tlC x.body≤K
 | []=>by simp[qS]
 | .mk f n s v c::l=>by rw[qS,max_le,aDt (l:=l)];simp[Alt.body]
theorem aAj {K:Nat}{f n:Int}{s:Str}{t:Ty}{ks:List Core}{bs:List Bind}{al:List Alt}:
  tlC (.mk f n s t ks bs al)≤(if f=7 then 1 else 0)+K↔(∀x∈ks,tlC x≤K)∧(∀x∈bs,tlC x.body≤K)∧∀x∈al,tlC x.body≤K:=by
 rw[tlC,Nat.add_le_add_iff_left,max_le,max_le,aDr,aDs,aDt]
theorem nN {f n:Int}{s:Str}{t:Ty}{ks:List Core}{bs:List Bind}{al:List Alt}:
  (∀x∈ks,tlC x+(if f=7 then 1 else 0)≤tlC (.mk f n s t ks bs al))∧(∀x∈bs,tlC x.body≤tlC (.mk f n s t ks bs al))∧∀x∈al,tlC x.body≤tlC (.mk f n s t ks bs al):=by
 have h:=(aAj (K:=max (kP ks) (max (rG bs) (qS al))) (f:=f) (n:=n) (s:=s) (t:=t) (ks:=ks) (bs:=bs) (al:=al)).1 (by rw[tlC];exact le_refl _)
 rw[tlC];exact⟨fun x hx=>by have:=h.1 x hx;omega,fun x hx=>by have:=h.2.1 x hx;omega,fun x hx=>by have:=h.2.2 x hx;omega⟩
def Alg.k (A:Alg):Nat:=tW A zTy r0
mutual
def cw (A:Alg) (E:Nat):Core→(Str→Nat)→Nat
 | .mk f _ s t ks bs al,ρ=>max A.k (max (tW A t ρ) (max (cws A E ks (if f=7 then gT ρ s E else ρ)) (max (cwb A E bs ρ) (cwa A E al ρ))))
def cws (A:Alg) (E:Nat):List Core→(Str→Nat)→Nat
 | [],_=>0
 | c::l,ρ=>max (cw A E c ρ) (cws A E l ρ)
def cwb (A:Alg) (E:Nat):List Bind→(Str→Nat)→Nat
 | [],_=>0
 | .mk _ t c::l,ρ=>max (max (tW A t ρ) (cw A E c ρ)) (cwb A E l ρ)
def cwa (A:Alg) (E:Nat):List Alt→(Str→Nat)→Nat
 | [],_=>0
 | .mk _ _ _ _ c::l,ρ=>max (cw A E c ρ) (cwa A E l ρ)
end
section
variable {A:Alg}{E K:Nat}{ρ ρ':Str→Nat}
theorem aVx:∀{l:List Core},cws A E l ρ≤K↔∀x∈l,cw A E x ρ≤K
 | []=>by simp[cws]
 | c::l=>by rw[cws,max_le,aVx (l:=l)];simp
theorem aVy:∀{l:List Bind},cwb A E l ρ≤K↔∀x∈l,tW A x.ty ρ≤K∧cw A E x.body ρ≤K
 | []=>by simp[cwb]
 | .mk s t c::l=>by rw[cwb,max_le,max_le,aVy (l:=l)];simp[Bind.body,Bind.ty]
theorem aVz:∀{l:List Alt},cwa A E l ρ≤K↔∀x∈l,cw A E x.body ρ≤K
 | []=>by simp[cwa]
 | .mk f n s v c::l=>by rw[cwa,max_le,aVz (l:=l)];simp[Alt.body]
theorem gR {f n:Int}{s:Str}{t:Ty}{ks:List Core}{bs:List Bind}{al:List Alt}:
  cw A E (.mk f n s t ks bs al) ρ≤K↔A.k≤K∧tW A t ρ≤K∧(∀x∈ks,cw A E x (if f=7 then gT ρ s E else ρ)≤K)∧(∀x∈bs,tW A x.ty ρ≤K∧cw A E x.body ρ≤K)∧∀x∈al,cw A E x.body ρ≤K:=by
 rw[cw,max_le,max_le,max_le,max_le,aVx,aVy,aVz]
end
theorem a63 {A:Alg}{E:Nat}{ρ:Str→Nat}(c:Core):A.k≤cw A E c ρ:=by cases c;exact(gR.1 (le_refl _)).1
theorem mR {A:Alg}{E:Nat}:∀(k:Nat) (c:Core),aV c≤k→∀{ρ ρ':Str→Nat}{K:Nat},(∀x∈tyR c,ρ x=ρ' x)→cw A E c ρ'≤K→cw A E c ρ≤K
 | 0,c,h,_,_,_,_,_=>by have:=bG c;omega
 | k+1,.mk f n s t ks bs al,h,ρ,ρ',K,hx,Y=>by
  obtain⟨J,O,W,_⟩:= @c6 f n s t ks bs al;obtain⟨g0,g1,g2,g3,g4⟩:=gR.1 Y;refine gR.2 ⟨g0,?_,fun x hm=>?_,fun x hm=>⟨?_,?_⟩,fun x hm=>?_⟩
  ·rw[j3 (tn t) t (le_refl _) fun y q=>hx y (bF.2 (.inl q))];exact g1
  ·refine mR k x (by have:=J x hm;omega) (fun y q=>?_) (g2 x hm);by_cases I:f=7
   ·rw[ξ I,ξ I];unfold gT;by_cases e:y=s
    ·rw[ξ e,ξ e]
    ·rw[ψ e,ψ e];exact hx y (bF.2 (.inr (.inl ⟨x,hm,q,.inr e⟩)))
   ·rw[ψ I,ψ I];exact hx y (bF.2 (.inr (.inl ⟨x,hm,q,.inl I⟩)))
  ·rw[j3 (tn x.ty) x.ty (le_refl _) fun y q=>hx y (bF.2 (.inr (.inr (.inl ⟨x,hm,.inl q⟩))))];exact(g3 x hm).1
  ·exact mR k x.body (by have:=O x hm;omega) (fun y q=>hx y (bF.2 (.inr (.inr (.inl ⟨x,hm,.inr q⟩))))) (g3 x hm).2
  ·exact mR k x.body (by have:=W x hm;omega) (fun y q=>hx y (bF.2 (.inr (.inr (.inr ⟨x,hm,q⟩))))) (g4 x hm)
theorem pC {A:Alg}{E:Nat}{c:Core}{ρ ρ':Str→Nat}(h:∀x∈tyR c,ρ x=ρ' x):cw A E c ρ=cw A E c ρ':=
 Nat.le_antisymm (mR _ c (le_refl _) h (le_refl _)) (mR _ c (le_refl _) (fun x hx=>(h x hx).symm) (le_refl _))
theorem s8 {A:Alg}{E E':Nat}(q:E≤E'):∀(k:Nat) (c:Core),aV c≤k→∀{ρ ρ':Str→Nat}{K:Nat},(∀x,ρ x≤ρ' x)→cw A E' c ρ'≤K→cw A E c ρ≤K
 | 0,c,h,_,_,_,_,_=>by have:=bG c;omega
 | k+1,.mk f n s t ks bs al,h,ρ,ρ',K,hx,Y=>by
  obtain⟨J,O,W,_⟩:= @c6 f n s t ks bs al;obtain⟨g0,g1,g2,g3,g4⟩:=gR.1 Y;refine gR.2 ⟨g0,le_trans (aDw t hx) g1,fun x hm=>?_,fun x hm=>⟨le_trans (aDw x.ty hx) (g3 x hm).1,?_⟩,fun x hm=>?_⟩
  ·refine s8 q k x (by have:=J x hm;omega) (fun y=>?_) (g2 x hm);by_cases I:f=7
   ·rw[ξ I,ξ I];unfold gT;split
    ·exact q
    ·exact hx y
   ·rw[ψ I,ψ I];exact hx y
  ·exact s8 q k x.body (by have:=O x hm;omega) hx (g3 x hm).2
  ·exact s8 q k x.body (by have:=W x hm;omega) hx (g4 x hm)
theorem uE {A:Alg}{E E':Nat}(q:E≤E') {c:Core}{ρ ρ':Str→Nat}(h:∀x,ρ x≤ρ' x):cw A E c ρ≤cw A E' c ρ':=s8 q _ c (le_refl _) h (le_refl _)
set_option maxHeartbeats 4000000
structure CG (D M X:Nat) (c:Core):Prop where
 q:bE (QL X) c
 dep:cw kQ 0 c r0≤D
 sc:(tyR c).length+2*tlC c≤M
 sz:m30 c≤Big
section
variable {D M X:Nat}{f n:Int}{s:Str}{t:Ty}{ks:List Core}{bs:List Bind}{al:List Alt}
theorem a5z (p:Prop) [Decidable p]:(if p then gT r0 s 0 else r0)=r0:=by split;exact aLu s;rfl
theorem CG.kid (h:CG D M X (.mk f n s t ks bs al)) {x:Core}(hx:x∈ks):CG D M X x∧((tyR x).length+2*tlC x+(if f=7 then 1 else 0)≤M)∧m30 x<m30 (.mk f n s t ks bs al):=by
 obtain⟨h1,h2,h3,h4⟩:=h;have g:=dQ hx;have gl:m30 x<m30 (.mk f n s t ks bs al):=by rw[m30];omega
 have g2:=(nN (f:=f) (n:=n) (s:=s) (t:=t) (ks:=ks) (bs:=bs) (al:=al)).1 x hx;have g3:=(gR.1 h2).2.2.1 x hx;rw[a5z] at g3;have g4:(tyR x).length≤(tyR (.mk f n s t ks bs al)).length+(if f=7 then 1 else 0):=by
  by_cases q:f=7
  ·rw[ξ q];refine dS (a:=s::tyR (.mk f n s t ks bs al)) fun y I=>?_
   by_cases e:y=s
   ·rw[e];exact φ
   ·exact η _ (bF.2 (.inr (.inl ⟨x,hx,I,.inr e⟩)))
  ·rw[ψ q];exact dS fun y I=>bF.2 (.inr (.inl ⟨x,hx,I,.inl q⟩))
 have g5:(tyR x).length+2*tlC x+(if f=7 then 1 else 0)≤M:=by split at g2<;>split at g4<;>simp_all<;>omega
 exact⟨⟨(aJ.1 h1).2.1 x hx,g3,by omega,by omega⟩,g5,gl⟩
theorem CG.bind (h:CG D M X (.mk f n s t ks bs al)) {x:Bind}(hx:x∈bs):CG D M X x.body∧m30 x.body<m30 (.mk f n s t ks bs al):=by
 obtain⟨h1,h2,h3,h4⟩:=h;have g:=gY hx;have gl:m30 x.body<m30 (.mk f n s t ks bs al):=by rw[m30];omega
 have g2:=(nN (f:=f) (n:=n) (s:=s) (t:=t) (ks:=ks) (bs:=bs) (al:=al)).2.1 x hx;have g4:(tyR x.body).length≤(tyR (.mk f n s t ks bs al)).length:=dS fun y q=>bF.2 (.inr (.inr (.inl ⟨x,hx,.inr q⟩)))
 exact⟨⟨(aJ.1 h1).2.2.1 x hx,((gR.1 h2).2.2.2.1 x hx).2,by omega,by omega⟩,gl⟩
theorem CG.alt (h:CG D M X (.mk f n s t ks bs al)) {x:Alt}(hx:x∈al):CG D M X x.body∧m30 x.body<m30 (.mk f n s t ks bs al):=by
 obtain⟨h1,h2,h3,h4⟩:=h;have g:=eS hx;have gl:m30 x.body<m30 (.mk f n s t ks bs al):=by rw[m30];omega
 have g2:=(nN (f:=f) (n:=n) (s:=s) (t:=t) (ks:=ks) (bs:=bs) (al:=al)).2.2 x hx;have g4:(tyR x.body).length≤(tyR (.mk f n s t ks bs al)).length:=dS fun y q=>bF.2 (.inr (.inr (.inr ⟨x,hx,q⟩)))
 exact⟨⟨(aJ.1 h1).2.2.2 x hx,(gR.1 h2).2.2.2.2 x hx,by omega,by omega⟩,gl⟩
theorem CG.ty (h:CG D M X (.mk f n s t ks bs al)):wfS t=true∧fvm t≤M+D∧∀b∈bs,wfS b.ty=true∧fvm b.ty≤M+D:=by
 obtain⟨h1,h2,h3,h4⟩:=h;obtain⟨⟨_,_,I,O,_⟩,_⟩:=aJ.1 h1;obtain⟨_,c1,_,W,_⟩:=gR.1 h2;refine⟨I,?_,fun b hb=>?_⟩
 ·have g1:=u9 (tn t) t (le_refl _) I;have g2:(tfR t).length≤(tyR (.mk f n s t ks bs al)).length:=eO _ _ (aLa t) fun y q=>bF.2 (.inl q)
  omega
 ·have J:=O (bhd b) (Ad.2 ⟨b,hb,rfl⟩);have g1:=u9 (tn b.ty) b.ty (le_refl _) J;have g2:(tfR b.ty).length≤(tyR (.mk f n s t ks bs al)).length:=eO _ _ (aLa b.ty) fun y q=>bF.2 (.inr (.inr (.inl ⟨b,hb,.inl q⟩)))
  have g3:=(W b hb).1
  exact⟨J,by omega⟩
end
theorem aKv {K:Nat}:∀{l:List Core},(∀x∈l,tyM x≤K)→aUg l≤K
 | [],_=>by rw[aUg];exact Ak _
 | c::l,h=>by
  rw[aUg];have:=h c φ;have:=aKv (l:=l) fun x hx=>h x (η _ hx)
  omega
theorem aKw {K:Nat}:∀{l:List Bind},(∀x∈l,fw x.ty≤K∧tyM x.body≤K)→aKx l≤K
 | [],_=>by rw[aKx];exact Ak _
 | .mk s t c::l,h=>by
  rw[aKx];have h1:fw t≤K∧tyM c≤K:=h _ φ;have:=aKw (l:=l) fun x hx=>h x (η _ hx)
  omega
theorem aKy {K:Nat}:∀{l:List Alt},(∀x∈l,tyM x.body≤K)→aRb l≤K
 | [],_=>by rw[aRb];exact Ak _
 | .mk f n s v c::l,h=>by
  rw[aRb];have h1:tyM c≤K:=h _ φ;have:=aKy (l:=l) fun x hx=>h x (η _ hx)
  omega
theorem CG.tyM {D M X:Nat}:∀(k:Nat) (c:Core),m30 c≤k→CG D M X c→tyM c≤M+D
 | 0,c,h,_=>by have:=dB c;omega
 | k+1,.mk f n s t ks bs al,h,hc=>by
  obtain⟨h1,h2,h3⟩:=hc.ty;have g1:=aVr h1;have g2:=hc.sc;have g3:=aKv (K:=M+D) (l:=ks) fun x hx=>CG.tyM k x (by have:=(hc.kid hx).2.2;omega) (hc.kid hx).1
  have g4:=aKw (K:=M+D) (l:=bs) fun x hx=>⟨le_trans (aVr (h3 x hx).1) (h3 x hx).2,CG.tyM k x.body (by have:=(hc.bind hx).2;omega) (hc.bind hx).1⟩
  have g5:=aKy (K:=M+D) (l:=al) fun x hx=>CG.tyM k x.body (by have:=(hc.alt hx).2;omega) (hc.alt hx).1
  rw[Go.Proofs.YtglfogjcijokpaaGreatDoor.tyM];omega
theorem CG.allT {D M X:Nat}{p:Ty→Prop}(hp:∀t,wfS t=true→fvm t≤M+D→p t):∀(k:Nat) (c:Core),m30 c≤k→CG D M X c→allT p c
 | 0,c,h,_=>by have:=dB c;omega
 | k+1,.mk f n s t ks bs al,h,hc=>by
  obtain⟨h1,h2,h3⟩:=hc.ty;rw[Go.Proofs.YtglfogjcijokpaaGreatDoor.allT]
  exact⟨hp t h1 h2,pM.2 fun x hx=>CG.allT hp k x (by have:=(hc.kid hx).2.2;omega) (hc.kid hx).1,
   pN.2 fun x hx=>⟨hp x.ty (h3 x hx).1 (h3 x hx).2,CG.allT hp k x.body (by have:=(hc.bind hx).2;omega) (hc.bind hx).1⟩,
   pO.2 fun x hx=>CG.allT hp k x.body (by have:=(hc.alt hx).2;omega) (hc.alt hx).1⟩
theorem CG.tyG {D M X:Nat}(q:cE 540000000000) (I:M+D≤700000) {c:Core}(hc:CG D M X c):Go.Proofs.YtglfogjcijokpaaGreatDoor.allT TyG c:=hc.allT (fun t h1 h2=>aV0 q t h1 (by omega)) _ c (le_refl _)
theorem CG.types {D M X:Nat}(q:M+D≤700000) {c:Core}(hc:CG D M X c):aU Tryz.prog 76 [.pa (aB c)] [] (bK (tyR c)) []∧(tyR c).length≤700000:=by
 have h1:=hc.tyM _ c (le_refl _);have h2:=bU c;have h3:=hc.sz;have h4:Big=250000000000:=rfl;exact⟨aCo _ c (le_refl _) (by omega) (by omega),by have:=hc.sc;omega⟩
noncomputable def sTR:Nat→Core→Str→Ty→Core
 | 0,c,_,_=>c
 | k+1,.mk f n nm t ks bs al,name,u=>
  if f=7∧(nm=name∨¬name∈tyR (.mk f n nm t ks bs al)) then .mk f n nm t ks bs al
  else if f=7∧nm∈tfR u then
   gH (fun t=>fL t [(name,u)]) (fun x=>sTR k x name u) (.mk f n (b6 (tfR u++ks.flatMap tyR)) t (ks.map fun x=>sTR k x nm (vT (b6 (tfR u++ks.flatMap tyR)))) bs al)
  else gH (fun t=>fL t [(name,u)]) (fun x=>sTR k x name u) (.mk f n nm t ks bs al)
structure UOk (u:Ty):Prop where
 wf:wfS u=true
 fv:fvm u≤700000
theorem UOk.ps {u:Ty}(h:UOk u) (name:Str):PsOk [(name,u)]:=⟨by simp,fun p hp=>by rw[κ.1 hp];exact⟨h.wf,h.fv⟩,by simp⟩
theorem UOk.var (z:Str):UOk (vT z):=⟨aKp,by unfold vT;rw[aOq];decide⟩
theorem jP (ps:List (Str×Ty)):fL zTy ps=zTy:=xM (tn zTy) zTy (le_refl _) rfl ps fun p _ h=>by
 have:tfR zTy=[]:=rfl;rw[this] at h;cases h
theorem a5c (A:Alg) (ρ:Str→Nat) (name:Str) (u:Ty):aL2 A ρ [(name,u)]=gT ρ name (tW A u ρ):=by
 funext x;unfold aL2 gT;by_cases e:x=name
 ·rw[ξ e,Cn (by simp[e])]
 ·rw[ψ e,Co (by simp;exact fun h=>e h.symm)];rfl
structure SB (X:Nat) (c:Core) (name:Str) (u:Ty) (r:Core):Prop where
 imp:aU Tryz.prog 32 [.pa (aB c),Go.AM.T name,tyV u] [] (.pa (aB r)) []
 q:bE (QL X) r
 cw:∀(A:Alg) (E:Nat) (ρ:Str→Nat),cw A E r ρ≤cw A E c (gT ρ name (tW A u ρ))
 ty:∀x∈tyR r,x∈tyR c∨x∈tfR u
 tl:tlC r≤tlC c
 sz:m30 r≤m30 c
theorem rX {s s':Str}{J q:List (Str×Ty)}{O I:List (Str×List Str)}(hs:w30 s'≤w30 s) (hb:q.map (·.1)=J.map (·.1)) (ha:I=O):lw s' q I≤lw s J O:=by
 subst ha;unfold lw;have e:∀l:List (Str×Ty),(l.map fun p=>1+w30 p.1)=(l.map (·.1)).map fun x=>1+w30 x:=fun l=>by rw[Az];rfl
 rw[e J,e q,hb];omega
section
variable {X:Nat}{ts:Ty→Ty}{sb:Core→Core}{f n:Int}{nm nm1:Str}{t:Ty}{ks ks1:List Core}{bs:List Bind}{al:List Alt}
theorem aI0 (h:QL X f nm t ks.length (bs.map bhd) (al.map ahd)) (hn:w30 nm1≤w30 nm) (W:f=5→nm1=nm) (Y:f=7→¬nm1=[]) (hk:ks1.length=ks.length) (hz:ts zTy=zTy) (h0:wfS (ts t)=true) (hb:∀b∈bs,wfS (ts b.ty)=true)
  (h1:∀x∈ks1,bE (QL X) (sb x)) (h2:∀b∈bs,bE (QL X) (sb b.body)) (h3:∀a∈al,bE (QL X) (sb a.body)):bE (QL X) (gH ts sb (.mk f n nm1 t ks1 bs al)):=by
 obtain⟨g1,g2,g3,g4,g5,g6,g7,g8⟩:=h;rw[gH];have Z:(al.map fun a=>Alt.mk a.form a.n a.name a.vars (sb a.body)).map ahd=al.map ahd:=by rw[Az];rfl
 have eb:((bs.map fun b=>Bind.mk b.name (ts b.ty) (sb b.body)).map bhd).map (·.1)=(bs.map bhd).map (·.1):=by rw[Az,Az,Az];rfl
 refine aJ.2 ⟨⟨?_,fun h7=>⟨by rw[(g2 h7).1];exact hz,Y h7⟩,h0,fun p hp=>?_,le_trans (rX hn eb Z) g5,fun h5=>by rw[W h5];exact g6 h5,fun p hp=>?_,by rw[Z];exact g8⟩,fun x hx=>?_,fun x hx=>?_,fun x hx=>?_⟩
 ·rw[ζ,ζ,ζ,ζ,ζ,hk];rw[ζ,ζ] at g1;exact g1
 ·obtain⟨b,q,rfl⟩:=Ad.1 hp;obtain⟨O,I,rfl⟩:=Ad.1 q;exact hb O I
 ·obtain⟨b,q,rfl⟩:=Ad.1 hp;obtain⟨O,I,rfl⟩:=Ad.1 q;exact g7 (bhd O) (Ad.2 ⟨O,I,rfl⟩)
 ·obtain⟨y,J,rfl⟩:=Ad.1 hx;exact h1 y J
 ·obtain⟨y,J,rfl⟩:=Ad.1 hx;exact h2 y J
 ·obtain⟨y,J,rfl⟩:=Ad.1 hx;exact h3 y J
theorem aGd (hf:tlC (.mk f n nm1 t ks1 bs al)≤tlC (.mk f n nm t ks bs al)) (h1:∀x∈ks1,tlC (sb x)≤tlC x) (h2:∀b∈bs,tlC (sb b.body)≤tlC b.body) (h3:∀a∈al,tlC (sb a.body)≤tlC a.body):
  tlC (gH ts sb (.mk f n nm1 t ks1 bs al))≤tlC (.mk f n nm t ks bs al):=by
 refine le_trans ?_ hf;rw[gH]
 conv=>rhs;rw[tlC]
 refine aAj.2 ⟨fun x hx=>?_,fun x hx=>?_,fun x hx=>?_⟩
 ·obtain⟨y,q,rfl⟩:=Ad.1 hx;exact le_trans (h1 y q) (le_trans (aDr.1 (le_refl _) y q) (C7 ..))
 ·obtain⟨y,q,rfl⟩:=Ad.1 hx;exact le_trans (h2 y q) (le_trans (aDs.1 (le_refl _) y q) (le_trans (C7 ..) (Cf ..)))
 ·obtain⟨y,q,rfl⟩:=Ad.1 hx;exact le_trans (h3 y q) (le_trans (aDt.1 (le_refl _) y q) (le_trans (Cf ..) (Cf ..)))
end
theorem aAk {z:Str}:tfR (vT z)=[z]:=by unfold vT;rw[tfR,ξ rfl]
theorem aE3 (hI:cE 540000000000) {D M X:Nat}(hMD:M+D≤700000):∀(k:Nat) (c:Core),m30 c≤k→CG D M X c→∀(name:Str) (u:Ty),UOk u→SB X c name u (sTR k c name u):=by
 intro k
 induction k with
 | zero=>intro c h;have:=dB c;omega
 | succ k ih=>
 intro c h hc name u hu;have hTG:=hc.tyG hI hMD;obtain⟨hty,htl⟩:=hc.types hMD;have hcs:=bU c;have hsz:=hc.sz;have hBig:Big=250000000000:=rfl;have hfr:=pI (tn u) u (le_refl _) hu.wf (le_trans hu.fv (by decide));have hfl:=oY u;have hufv:=hu.fv;obtain⟨f,n,nm,t,ks,bs,al⟩:=c;obtain⟨ht0,ht1,Z⟩:=hc.ty;have hq:=hc.q;obtain⟨q1,q2,q3,q4⟩:=aJ.1 hq;rw[sTR];have hps:=hu.ps name;have htt:∀v,wfS v=true→fvm v≤M+D→wfS (fL v [(name,u)])=true∧aU Tryz.prog 28 [tyV v,bK [name],.one (.c (.sl 4 [bH u]))] [] (tyV (fL v [(name,u)])) []:=fun v h1 h2=>aV2 hI (tn v) v (le_refl _) h1 (by omega) _ hps
 have hcwt:∀v,wfS v=true→fvm v≤M+D→∀A ρ,tW A (fL v [(name,u)]) ρ≤tW A v (gT ρ name (tW A u ρ)):=fun v h1 h2 A ρ=>by
  have:=a0r A (tn v) v (le_refl _) h1 (by omega) _ hps ρ;rwa [a5c] at this
 have htft:∀v,wfS v=true→∀x∈tfR (fL v [(name,u)]),x∈tfR v∨x∈tfR u:=fun v h1 x hx=>by
  rcases aK7 (tn v) v (le_refl _) h1 _ x hx with h | ⟨p,hp,_,h⟩
  ·exact .inl h.1
  ·rw[κ.1 hp] at h;exact .inr h
 by_cases h7:f=7
 ·subst h7;obtain⟨⟨kid,rfl⟩,rfl,rfl⟩:=dG hq (.inr (.inr rfl));obtain⟨g1,g2,g3⟩:=hc.kid (x:=kid) φ;rw[ξ rfl] at g2;obtain rfl:t=zTy:=(q1.2.1 rfl).1
  have hz0:tfR zTy=[]:=rfl;by_cases hs:nm=name∨¬name∈tyR (.mk 7 n nm zTy [kid] [] [])
  ·rw[ξ ⟨rfl,hs⟩];have hno:¬name∈tyR (.mk 7 n nm zTy [kid] [] []):=by
    rcases hs with rfl | hs
    ·intro hin;rcases bF.1 hin with h | ⟨x,_,_,h | h⟩ | ⟨b,hb,_⟩ | ⟨a,ha,_⟩
     ·rw[hz0] at h;cases h
     ·exact h rfl
     ·exact h rfl
     ·cases hb
     ·cases ha
    ·exact hs
   refine⟨aPd 7 n nm name zTy u [kid] [] [] (by omega) hTG rfl ?_,hq,fun A E ρ=>?_,fun x hx=>.inl hx,le_refl _,le_refl _⟩
   ·by_cases e:nm=name
    ·exact .inl e
    ·exact .inr ⟨e,_,hty,hno,by omega⟩
   ·refine le_of_eq (pC fun x hx=>?_);unfold gT;rw[ψ fun e=>hno (by rw[←e];exact hx)]
  have hne:nm≠name:=fun e=>hs (.inl e)
  have hin:name∈tyR (.mk 7 n nm zTy [kid] [] []):=Classical.byContradiction fun e=>hs (.inr e)
  have hink:name∈tyR kid:=by
   rcases bF.1 hin with h | ⟨x,hx,h,_⟩ | ⟨b,hb,_⟩ | ⟨a,ha,_⟩
   ·rw[hz0] at h;cases h
   ·rw[←κ.1 hx];exact h
   ·cases hb
   ·cases ha
  rw[ψ fun e=>hs e.2];obtain⟨hkty,hktl⟩:=g1.types hMD;have hend:∀(nm1:Str) (I:Core),w30 nm1≤w30 nm→CG D M X I→m30 I≤m30 kid→tlC I≤tlC kid→(∀x∈tyR I,x=nm1∨x∈tyR kid∨x∈tfR u)→(∀x∈tyR I,x=nm→nm1=nm∨nm∈tfR u)→¬nm1∈tfR u→¬nm1=[]→
    (∀(A:Alg) (E:Nat) (ρ:Str→Nat),cw A E I (gT (gT ρ nm1 E) name (tW A u ρ))≤cw A E kid (gT (gT ρ name (tW A u ρ)) nm E))→
    aU Tryz.prog 77 [.one (.vp 700 0),bK (tfR u)] (gHl 7 n nm zTy [kid] [] []) (.tup []) (gHl 7 n nm1 zTy [I] [] [])→
    SB X (.mk 7 n nm zTy [kid] [] []) name u (gH (fun t=>fL t [(name,u)]) (fun x=>sTR k x name u) (.mk 7 n nm1 zTy [I] [] [])):=fun nm1 I hw hk1 hkm hkt hkx hky hno hn1 hkc himp=>by
   have hS:=ih I (by omega) hk1 name u hu;refine⟨aCi 7 n nm nm1 name zTy u [kid] [I] [] [] (fun t=>fL t [(name,u)]) (fun x=>sTR k x name u) (by omega) hTG rfl (fun _=>⟨hne,rfl,rfl,_,_,hty,hin,by omega,hfr,himp⟩) (fun e=>absurd rfl e) (fun v hv=>?_) (fun x hx=>?_),?_,fun A E ρ=>?_,fun x hx=>?_,?_,?_⟩
   ·rcases hv with rfl | ⟨b,hb,_⟩
    ·exact(htt zTy rfl ht1).2
    ·cases hb
   ·rcases hx with hx | ⟨b,hb,_⟩ | ⟨a,ha,_⟩
    ·rw[κ.1 hx];exact hS.imp
    ·cases hb
    ·cases ha
   ·exact aI0 (ks:=[kid]) (nm:=nm) q1 hw (fun e=>absurd e (by decide)) (fun _=>hn1) rfl (jP _) (by rw[jP];rfl) (fun b hb=>by cases hb) (fun x hx=>by rw[κ.1 hx];exact hS.q) (fun b hb=>by cases hb) (fun a ha=>by cases ha)
   ·rw[gH];obtain⟨c0,c1,c2,_,_⟩:=gR.1 (le_refl (cw A E (.mk 7 n nm zTy [kid] [] []) (gT ρ name (tW A u ρ))));refine gR.2 ⟨c0,by rw[jP];exact le_trans (le_of_eq (j3 (tn zTy) zTy (le_refl _) fun x hx=>by rw[hz0] at hx;cases hx)) c1,fun x hx=>?_,fun b hb=>(by cases hb),fun a ha=>(by cases ha)⟩;obtain⟨y,J,rfl⟩:=Ad.1 hx;rw[κ.1 J,ξ rfl];have c2:=c2 kid φ;rw[ξ rfl] at c2;refine le_trans (hS.cw A E (gT ρ nm1 E)) (le_trans ?_ c2);have e:tW A u (gT ρ nm1 E)=tW A u ρ:=j3 (tn u) u (le_refl _) fun y J=>by
     unfold gT;rw[ψ fun e=>hno (by rw[←e];exact J)]
    rw[e];exact hkc A E ρ
   ·rw[gH] at hx;rcases bF.1 hx with h | ⟨y,J,h,hne'⟩ | ⟨b,hb,_⟩ | ⟨a,ha,_⟩
    ·rw[jP,hz0] at h;cases h
    ·obtain⟨Y,O,rfl⟩:=Ad.1 J;rw[κ.1 O] at h;have hne':¬x=nm1:=hne'.resolve_left (fun e=>e rfl);rcases hS.ty x h with h | h
     ·rcases hkx x h with h' | h' | h'
      ·exact absurd h' hne'
      ·by_cases e:x=nm
       ·rcases hky x h e with e2 | e2
        ·exact absurd (e.trans e2.symm) hne'
        ·exact .inr (by rw[e];exact e2)
       ·exact .inl (bF.2 (.inr (.inl ⟨kid,φ,h',.inr e⟩)))
      ·exact .inr h'
     ·exact .inr h
    ·cases hb
    ·cases ha
   ·refine aGd ?_ (fun x hx=>by rw[κ.1 hx];exact hS.tl) (fun b hb=>by cases hb) (fun a ha=>by cases ha);rw[tlC,tlC,kP,kP,kP,kP];omega
   ·exact aN5 hw (by rw[bV,bV,bV,bV];omega) (fun x hx=>by rw[κ.1 hx];exact hS.sz) (fun b hb=>by cases hb) (fun a ha=>by cases ha)
  by_cases hnf:nm∈tfR u
  ·rw[ξ ⟨rfl,hnf⟩];have efm:[kid].flatMap tyR=tyR kid:=by simp
   rw[efm,Al,Bj];have hzo:=iH (tfR u++tyR kid);have hz30:(b6 (tfR u++tyR kid)).length≤30:=o9 _ (by rw[Ab];omega);have hzn:=yY (tfR u++tyR kid);generalize hze:b6 (tfR u++tyR kid)=z at hzo hz30 hzn;have W:=ih kid (by omega) g1 nm (vT z) (UOk.var z);have hkid1:CG D M X (sTR k kid nm (vT z)):=by
    refine⟨W.q,?_,?_,le_trans W.sz g1.sz⟩
    ·have:=W.cw kQ 0 r0;have e:tW kQ (vT z) r0=0:=rfl;rw[e,aLu] at this;exact le_trans this g1.dep
    ·have h1:=dS (a:=z::tyR kid) (c:=sTR k kid nm (vT z)) fun x hx=>by
      rcases W.ty x hx with h | h
      ·exact η _ h
      ·rw[aAk] at h;rw[κ.1 h];exact φ
     rw[Am] at h1;have h2:=W.tl;omega
   have hcl:=aIn n nm zTy kid (sTR k kid nm (vT z)) (tfR u) (by omega) hnf hI hkty (by omega) (by rw[hze];exact W.imp);rw[hze] at hcl;refine hend z _ (aI3 hz30) hkid1 W.sz W.tl (fun x hx=>?_) (fun _ _ _=>.inr hnf) (fun h=>hzo (χ.2 (.inl h))) hzn (fun A E ρ=>?_) hcl
   ·rcases W.ty x hx with h | h
    ·exact .inr (.inl h)
    ·rw[aAk] at h;exact .inl (κ.1 h)
   ·refine le_trans (W.cw A E _) (le_of_eq (pC fun x hx=>?_));have hzn:¬z=name:=fun e=>hzo (by rw[e];exact χ.2 (.inr hink))
    have e:tW A (vT z) (gT (gT ρ z E) name (tW A u ρ))=E:=by
     unfold vT;rw[tW,ξ rfl];unfold gT;rw[ψ hzn,ξ rfl]
    rw[e];unfold gT;by_cases e1:x=nm
    ·rw[ξ e1,ξ e1]
    ·rw[ψ e1,ψ e1];by_cases e2:x=name
     ·rw[ξ e2,ξ e2]
     ·rw[ψ e2,ψ e2,ψ fun e3=>hzo (by rw[←e3];exact χ.2 (.inr hx))]
  ·rw[ψ fun e=>hnf e.2];refine hend nm kid (le_refl _) g1 (le_refl _) (le_refl _) (fun x hx=>.inr (.inl hx)) (fun _ _ _=>.inl rfl) hnf (q1.2.1 rfl).2 (fun A E ρ=>?_) (aIo n nm zTy kid (tfR u) (by omega) hnf);refine le_of_eq (pC fun x _=>?_);unfold gT;by_cases e1:x=nm
   ·rw[ξ e1,ξ e1,ψ fun e2=>hne (e1.symm.trans e2)]
   ·rw[ψ e1,ψ e1]
 ·rw[ψ fun e=>h7 e.1,ψ fun e=>h7 e.1];have hk:∀x∈ks,SB X x name u (sTR k x name u):=fun x hx=>ih x (by have:=(hc.kid hx).2.2;omega) (hc.kid hx).1 name u hu
  have hb:∀x∈bs,SB X x.body name u (sTR k x.body name u):=fun x hx=>ih x.body (by have:=(hc.bind hx).2;omega) (hc.bind hx).1 name u hu
  have ha:∀x∈al,SB X x.body name u (sTR k x.body name u):=fun x hx=>ih x.body (by have:=(hc.alt hx).2;omega) (hc.alt hx).1 name u hu
  refine⟨aCi f n nm nm name t u ks ks bs al (fun t=>fL t [(name,u)]) (fun x=>sTR k x name u) (by omega) hTG rfl (fun e=>absurd e h7) (fun _=>⟨rfl,rfl⟩) (fun v hv=>?_) (fun x hx=>?_),?_,fun A E ρ=>?_,fun x hx=>?_,?_,?_⟩
  ·rcases hv with rfl | ⟨b,aa,rfl⟩
   ·exact(htt _ ht0 ht1).2
   ·exact(htt _ (Z b aa).1 (Z b aa).2).2
  ·rcases hx with hx | ⟨b,aa,rfl⟩ | ⟨a,ha',rfl⟩
   ·exact(hk x hx).imp
   ·exact(hb b aa).imp
   ·exact(ha a ha').imp
  ·exact aI0 q1 (le_refl _) (fun _=>rfl) (fun e=>absurd e h7) rfl (jP _) (htt t ht0 ht1).1 (fun b aa=>(htt b.ty (Z b aa).1 (Z b aa).2).1) (fun x hx=>(hk x hx).q) (fun x hx=>(hb x hx).q) (fun x hx=>(ha x hx).q)
  ·rw[gH];obtain⟨c0,c1,c2,c3,c4⟩:=gR.1 (le_refl (cw A E (.mk f n nm t ks bs al) (gT ρ name (tW A u ρ))));refine gR.2 ⟨c0,le_trans (hcwt t ht0 ht1 A ρ) c1,fun x hx=>?_,fun x hx=>?_,fun x hx=>?_⟩
   ·obtain⟨y,J,rfl⟩:=Ad.1 hx;have:=c2 y J;rw[ψ h7] at this ⊢;exact le_trans ((hk y J).cw A E ρ) this
   ·obtain⟨y,J,rfl⟩:=Ad.1 hx;exact⟨le_trans (hcwt y.ty (Z y J).1 (Z y J).2 A ρ) (c3 y J).1,le_trans ((hb y J).cw A E ρ) (c3 y J).2⟩
   ·obtain⟨y,J,rfl⟩:=Ad.1 hx;exact le_trans ((ha y J).cw A E ρ) (c4 y J)
  ·rw[gH] at hx;rcases bF.1 hx with h | ⟨y,J,h,_⟩ | ⟨y,J,h⟩ | ⟨y,J,h⟩
   ·exact(htft t ht0 x h).imp (fun h=>bF.2 (.inl h)) id
   ·obtain⟨Y,O,rfl⟩:=Ad.1 J;exact((hk Y O).ty x h).imp (fun h=>bF.2 (.inr (.inl ⟨Y,O,h,.inl h7⟩))) id
   ·obtain⟨Y,O,rfl⟩:=Ad.1 J;rcases h with h | h
    ·exact(htft Y.ty (Z Y O).1 x h).imp (fun h=>bF.2 (.inr (.inr (.inl ⟨Y,O,.inl h⟩)))) id
    ·exact((hb Y O).ty x h).imp (fun h=>bF.2 (.inr (.inr (.inl ⟨Y,O,.inr h⟩)))) id
   ·obtain⟨Y,O,rfl⟩:=Ad.1 J;exact((ha Y O).ty x h).imp (fun h=>bF.2 (.inr (.inr (.inr ⟨Y,O,h⟩)))) id
  ·exact aGd (le_refl _) (fun x hx=>(hk x hx).tl) (fun x hx=>(hb x hx).tl) (fun x hx=>(ha x hx).tl)
  ·exact aN5 (le_refl _) (le_refl _) (fun x hx=>(hk x hx).sz) (fun x hx=>(hb x hx).sz) (fun x hx=>(ha x hx).sz)
noncomputable def aYq:Core→List Str→Core
 | .mk f n nm t ks bs al,far=>if nm∈far then .mk f n (b6 (far++ks.flatMap tyR)) t (ks.map fun x=>sTR (m30 x) x nm (vT (b6 (far++ks.flatMap tyR)))) bs al else .mk f n nm t ks bs al
open Classical in
noncomputable def bW:Nat→Core→Str→Core→Core
 | 0,c,_,_=>c
 | k+1,c,s,b=>if c.form=1∧c.name=s then b else nE (bW k) s b (if c.form=7∧s∈pfR c then aYq c (tyR b) else c)
structure RX (X:Nat) (b p r:Core):Prop where
 q:bE (QL X) r
 cw:∀(A:Alg) (E:Nat) (ρ:Str→Nat),cw A E r ρ≤max (cw A E p ρ) (cw A E b ρ)
 ty:∀x∈tyR r,x∈tyR p∨x∈tyR b
 tl:tlC r≤tlC p+tlC b
structure R0 (p q:Core):Prop where
 cw:∀(A:Alg) (E:Nat) (ρ:Str→Nat),cw A E q ρ≤cw A E p ρ
 ty:∀x∈tyR q,x∈tyR p
 tl:tlC q≤tlC p
 sz:m30 q≤m30 p
theorem R0.refl (p:Core):R0 p p:=⟨fun _ _ _=>le_refl _,fun _ h=>h,le_refl _,le_refl _⟩
theorem R0.trans {p q r:Core}(h:R0 p q) (k:R0 q r):R0 p r:=⟨fun A E ρ=>le_trans (k.cw A E ρ) (h.cw A E ρ),fun x hx=>h.ty x (k.ty x hx),le_trans k.tl h.tl,le_trans k.sz h.sz⟩
theorem R0.rx {X:Nat}{b p q r:Core}(h:R0 p q) (k:RX X b q r):RX X b p r:=
 ⟨k.q,fun A E ρ=>le_trans (k.cw A E ρ) (by have:=h.cw A E ρ;omega),fun x hx=>(k.ty x hx).imp (h.ty x) id,by have:=k.tl;have:=h.tl;omega⟩
theorem R0.cg {D M X:Nat}{p q:Core}(h:R0 p q) (hp:CG D M X p) (I:bE (QL X) q):CG D M X q:=
 ⟨I,le_trans (h.cw kQ 0 r0) hp.dep,by have:=hp.sc;have:=h.tl;have:=dS (a:=tyR p) h.ty;omega,le_trans h.sz hp.sz⟩
structure TB (X:Nat) (c:Core) (s:Str) (b r:Core):Prop where
 imp:aU Tryz.prog 99 [.pa (aB c),Go.AM.T s,.pa (aB b)] [] (.pa (aB r)) []
 rx:RX X b c r
 sz:∀B,1≤B→m30 b≤31*B→m30 r≤m30 c*B
theorem aRa {z:Str}:tyR (vC z)=[]:=rfl
theorem a0s {z:Str}:tlC (vC z)=0:=rfl
theorem a3a {A:Alg}{E:Nat}{ρ:Str→Nat}{z:Str}:cw A E (vC z) ρ=A.k:=by
 refine Nat.le_antisymm (gR.2 ⟨le_refl _,?_,fun x hx=>(by cases hx),fun x hx=>(by cases hx),fun x hx=>(by cases hx)⟩) (a63 _)
 exact le_of_eq (j3 (tn zTy) zTy (le_refl _) fun x hx=>by
  have:tfR zTy=[]:=rfl
  rw[this] at hx;cases hx)
theorem TB.r0 {X:Nat}{c:Core}{s z:Str}{r:Core}(q:z.length≤30) (h:TB X c s (vC z) r):R0 c r:=
 ⟨fun A E ρ=>by have:=h.rx.cw A E ρ;rw[a3a] at this;have:=a63 (A:=A) (E:=E) (ρ:=ρ) c;omega,
  fun x hx=>(h.rx.ty x hx).resolve_right (by rw[aRa];exact Ca),by have:=h.rx.tl;rw[a0s] at this;omega,
  by have:=h.sz 1 (le_refl _) (by rw[aVj q];exact le_refl _);rwa [mul_one] at this⟩
theorem CG.vC {D M X:Nat}{z:Str}(q:z.length≤30) (I:31≤X):CG D M X (vC z):=by
 refine⟨aJ.2 ⟨⟨rfl,fun h=>by omega,rfl,fun p hp=>(by cases hp),?_,fun h=>by omega,fun p hp=>(by cases hp),fun p hp=>(by cases hp)⟩,fun x hx=>(by cases hx),fun x hx=>(by cases hx),fun x hx=>(by cases hx)⟩,?_,?_,?_⟩
 ·show lw z [] []≤X;unfold lw w30;simp only[Bj,sum_nil];omega
 ·rw[a3a];exact Ak _
 ·rw[aRa,a0s];exact Ak _
 ·rw[aVj q];decide
section
variable {sb:Core→Str→Core→Core}{P:Core→Prop}{X:Nat}{s:Str}{b:Core}
theorem o5 {ns:List Str}{ps:List Core}(Z:∀p∈ps,P p) (J:∀p,P p→bE (QL X) p) (hz:∀p n z,P p→z.length≤30→P (sb p n (vC z))∧R0 p (sb p n (vC z))) (hs:∀p,P p→RX X b p (sb p s b))
  (hl:(ps.flatMap pfR).length+2*ns.length+(pfR b).length≤540000000000):A2 (RX X b) ps (cO sb s b ns ps).2∧A2 NR ns (cO sb s b ns ps).1:=by
 obtain⟨⟨I,h1,h2⟩,h3⟩:=xZ (sb:=sb) (Rel:=fun p q=>P p→(P q∧R0 p q)) (fun p h=>⟨h,R0.refl p⟩)
  (fun p q r O W h=>by
   obtain⟨a1,a2⟩:=O h;obtain⟨b1,b2⟩:=W a1
   exact⟨b1,a2.trans b2⟩) (s:=s) (b:=b) (ns:=ns) (ps:=ps) (fun p n z Y h=>hz p n z h Y) hl
 have key:∀{ps I:List Core},A2 (fun p q=>P p→(P q∧R0 p q)) ps I→(∀p∈ps,P p)→A2 (RX X b) ps I∧A2 (RX X b) ps (I.map fun p=>sb p s b):=by
  intro ps I h
  induction h with
  | nil=>intro _;exact⟨.nil,.nil⟩
  | cons r _ ih=>
   intro hp;obtain⟨i1,i2⟩:=ih fun p h=>hp p (η _ h)
   obtain⟨g1,g2⟩:=r (hp _ φ);exact⟨.cons ⟨J _ g1,fun A E ρ=>le_trans (g2.cw A E ρ) (C7 ..),fun x hx=>.inl (g2.ty x hx),le_trans g2.tl (le_add_right _ _)⟩ i1,.cons (g2.rx (hs _ g1)) i2⟩
 obtain⟨k1,k2⟩:=key h1 Z;refine⟨?_,h3⟩;rcases h2 with h2 | h2
 ·rw[h2];exact k1
 ·rw[h2];exact k2
end
mutual
theorem jK:∀c:Core,allT (fun _=>True) c
 | .mk _ _ _ _ ks bs al=>⟨trivial,x9 ks,xA bs,xB al⟩
theorem x9:∀l:List Core,aC9 (fun _=>True) l
 | []=>trivial
 | c::l=>⟨jK c,x9 l⟩
theorem xA:∀l:List Bind,aDa (fun _=>True) l
 | []=>trivial
 | .mk _ _ c::l=>⟨trivial,jK c,xA l⟩
theorem xB:∀l:List Alt,aDc (fun _=>True) l
 | []=>trivial
 | .mk _ _ _ _ c::l=>⟨jK c,xB l⟩
end
theorem mF:∀{ts:List Ty}{ns:List Str}{ps:List Core},ns.length=ts.length→ps.length=ts.length→(mkB ts ns ps).map Bind.name=ns
 | [],[],_,_,_=>by unfold mkB;rfl
 | t::ts,n::ns,p::ps,h1,h2=>by
  simp only[Am] at h1 h2;rw[mkB,Al,mF (ts:=ts) (by omega) (by omega)];rfl
section
variable {sb:Core→Str→Core→Core}{X:Nat}{s:Str}{b:Core}{f n:Int}{nm:Str}{t:Ty}{ks:List Core}{bs:List Bind}{al:List Alt}
theorem aP5 (h7:f≠7) (hq:bE (QL X) (.mk f n nm t ks bs al)) (hg:A2 (RX X b) (ks++bs.map Bind.body) (cO sb s b (gvN f nm bs) (ks++bs.map Bind.body)).2) (hn:A2 NR (gvN f nm bs) (cO sb s b (gvN f nm bs) (ks++bs.map Bind.body)).1)
  (ha:∀a∈al,A2 (RX X b) [a.body] (cO sb s b a.vars [a.body]).2∧A2 NR a.vars (cO sb s b a.vars [a.body]).1):RX X b (.mk f n nm t ks bs al) (nE sb s b (.mk f n nm t ks bs al)):=by
 obtain⟨⟨q1,q2,q3,q4,q5,q6,q7,q8⟩,qk,qb,qa⟩:=aJ.1 hq;have Z:∀a∈al,RX X b a.body (jM sb s b a).body∧A2 NR a.vars (jM sb s b a).vars∧(jM sb s b a).name=a.name:=fun a I=>by
  obtain⟨g1,g2⟩:=ha a I;refine⟨?_,g2,rfl⟩;show RX X b a.body ((cO sb s b a.vars [a.body]).2.headD a.body);cases hx:(cO sb s b a.vars [a.body]).2 with
  | nil=>rw[hx] at g1;cases g1
  | cons y l'=>
   rw[hx] at g1;cases g1 with
   | cons h _=>exact h
 have hone:f=5→bs=[]:=fun h5=>(dG hq (.inl h5)).2.1
 rw[nE];unfold zNm zKs zBs;generalize cO sb s b (gvN f nm bs) (ks++bs.map Bind.body)=r at hg hn ⊢;obtain⟨W,Y⟩:=r;dsimp only at *;have hK:A2 (RX X b) ks (Y.take ks.length):=by
  have:=hg.take ks.length;rwa [take_left] at this
 have hB:A2 (RX X b) (bs.map Bind.body) (Y.drop ks.length):=by
  have:=hg.drop ks.length;rwa [drop_left] at this
 have hBl:(Y.drop ks.length).length=bs.length:=by rw[hB.length,ζ]
 have aa:∀x∈mkB (bs.map Bind.ty) W (Y.drop ks.length),∃y∈bs,RX X b y.body x.body:=fun x hx=>by
  obtain⟨p,hp,h⟩:=hB.mem x.body (kY hx).1;obtain⟨y,J,rfl⟩:=Ad.1 hp;exact⟨y,J,h⟩
 have hmT:∀x∈mkB (bs.map Bind.ty) W (Y.drop ks.length),∃y∈bs,y.ty=x.ty:=fun x hx=>Ad.1 (kY hx).2
 have O:=hn.length;have hbn:((mkB (bs.map Bind.ty) W (Y.drop ks.length)).map fun x=>1+w30 x.name).sum≤(bs.map fun x=>1+w30 x.name).sum∧(mkB (bs.map Bind.ty) W (Y.drop ks.length)).length=bs.length:=by
  by_cases h5:f=5
  ·have:=hone h5;subst this;show((mkB [] W _).map _).sum≤_∧(mkB [] W _).length=_;unfold mkB;exact⟨le_refl _,rfl⟩
  ·unfold gvN at hn O;rw[ψ h5,A4] at hn O;rw[ζ] at O;have e1:∀l:List Bind,(l.map fun x=>1+w30 x.name)=(l.map Bind.name).map fun v=>1+w30 v:=fun l=>by rw[Az];rfl
   rw[e1,e1,mF (by rw[ζ];exact O) (by rw[ζ];exact hBl)];exact⟨aAn hn,by rw[tY (by rw[ζ];exact O) (by rw[ζ];exact hBl),ζ]⟩
 have hbh:∀x∈mkB (bs.map Bind.ty) W (Y.drop ks.length),nh x.name:=fun x hx=>by
  by_cases h5:f=5
  ·have:=hone h5;subst this;have hx:x∈mkB [] W (Y.drop ks.length):=hx;unfold mkB at hx;cases hx
  ·have hn2:=hn;unfold gvN at hn2 O;rw[ψ h5,A4] at hn2 O;rw[ζ] at O;have hxm:x.name∈(mkB (bs.map Bind.ty) W (Y.drop ks.length)).map Bind.name:=Ad.2 ⟨x,hx,rfl⟩;rw[mF (by rw[ζ];exact O) (by rw[ζ];exact hBl)] at hxm;obtain⟨v,hv,hr⟩:=hn2.mem _ hxm;obtain⟨y,J,rfl⟩:=Ad.1 hv;exact hr.nh (q7 (bhd y) (Ad.2 ⟨y,J,rfl⟩))
 have hnm:w30 (if f=5 then W.headD nm else nm)≤w30 nm:=by
  split
  ·rename_i hf;unfold gvN at hn;rw[ξ hf] at hn;cases hn with
   | cons h _=>exact h.w
  ·exact le_refl _
 refine⟨aJ.2 ⟨⟨?_,fun h=>absurd h h7,q3,fun p hp=>?_,?_,fun h5=>?_,fun p hp=>?_,fun p hp v hv=>?_⟩,fun x hx=>?_,fun x hx=>?_,fun x hx=>?_⟩,fun A E ρ=>?_,fun x hx=>?_,?_⟩
 ·rw[ζ,ζ,ζ,hbn.2,hK.length];rw[ζ,ζ] at q1;exact q1
 ·obtain⟨x,hx,rfl⟩:=Ad.1 hp;obtain⟨y,J,e⟩:=hmT x hx;have:=q4 (bhd y) (Ad.2 ⟨y,J,rfl⟩);show wfS x.ty=true;rw[←e];exact this
 ·refine le_trans ?_ q5;unfold lw;rw[Az,Az,Az,Az,Az];have ea:(al.map (((fun p:Str×List Str=>1+w30 p.1+(p.2.map fun v=>1+w30 v).sum)∘ahd)∘jM sb s b)).sum≤(al.map ((fun p:Str×List Str=>1+w30 p.1+(p.2.map fun v=>1+w30 v).sum)∘ahd)).sum:=by
   clear ha q1 q5 hq qa q8
   induction al with
   | nil=>exact le_refl _
   | cons a l ih=>
    have h1:=ih fun x hx=>Z x (η _ hx)
    obtain⟨_,h2,h3⟩:=Z a φ;have h2:=aAn h2;simp only[Al,Cc,Function.comp,ahd] at h1 ⊢;rw[h3];omega
  have eb:=hbn.1;have ec:∀l:List Bind,(l.map ((fun p:Str×Ty=>1+w30 p.1)∘bhd)).sum=(l.map fun x=>1+w30 x.name).sum:=fun l=>rfl
  rw[ec,ec];omega
 ·rw[ξ h5];unfold gvN at hn;rw[ξ h5] at hn;cases hn with
  | cons h _=>exact h.nh (q6 h5)
 ·obtain⟨x,hx,rfl⟩:=Ad.1 hp;exact hbh x hx
 ·obtain⟨a,I,rfl⟩:=Ad.1 hp;obtain⟨a0,ha0,rfl⟩:=Ad.1 I;obtain⟨w,hw,hr⟩:=(Z a0 ha0).2.1.mem v hv;exact hr.nh (q8 (ahd a0) (Ad.2 ⟨a0,ha0,rfl⟩) w hw)
 ·obtain⟨p,_,h⟩:=hK.mem x hx;exact h.q
 ·obtain⟨y,_,h⟩:=aa x hx;exact h.q
 ·obtain⟨a,I,rfl⟩:=Ad.1 hx;exact(Z a I).1.q
 ·obtain⟨c0,c1,c2,c3,c4⟩:=gR.1 (le_refl (cw A E (.mk f n nm t ks bs al) ρ));rw[ψ h7] at c2;generalize cw A E (.mk f n nm t ks bs al) ρ=K at *;refine gR.2 ⟨by omega,by omega,fun x hx=>?_,fun x hx=>⟨?_,?_⟩,fun x hx=>?_⟩
  ·obtain⟨p,hp,h⟩:=hK.mem x hx;rw[ψ h7];have h1:=h.cw A E ρ;have h2:=c2 p hp;omega
  ·obtain⟨y,J,e⟩:=hmT x hx;rw[←e];have:=(c3 y J).1
   omega
  ·obtain⟨y,J,h⟩:=aa x hx;have h1:=h.cw A E ρ;have h2:=(c3 y J).2
   omega
  ·obtain⟨a,I,rfl⟩:=Ad.1 hx;have h1:=(Z a I).1.cw A E ρ;have h2:=c4 a I;omega
 ·rcases bF.1 hx with h | ⟨y,J,h,_⟩ | ⟨y,J,h⟩ | ⟨y,J,h⟩
  ·exact .inl (bF.2 (.inl h))
  ·obtain⟨p,hp,g⟩:=hK.mem y J;exact(g.ty x h).imp (fun h=>bF.2 (.inr (.inl ⟨p,hp,h,.inl h7⟩))) id
  ·rcases h with h | h
   ·obtain⟨z,hz,e⟩:=hmT y J;exact .inl (bF.2 (.inr (.inr (.inl ⟨z,hz,.inl (by rw[e];exact h)⟩))))
   ·obtain⟨z,hz,g⟩:=aa y J;exact(g.ty x h).imp (fun h=>bF.2 (.inr (.inr (.inl ⟨z,hz,.inr h⟩)))) id
  ·obtain⟨a,I,rfl⟩:=Ad.1 J;exact((Z a I).1.ty x h).imp (fun h=>bF.2 (.inr (.inr (.inr ⟨a,I,h⟩)))) id
 ·obtain⟨d1,d2,d3⟩:=nN (f:=f) (n:=n) (s:=nm) (t:=t) (ks:=ks) (bs:=bs) (al:=al);rw[ψ h7] at d1;generalize tlC (.mk f n nm t ks bs al)=K at *;have:=(aAj (K:=K+tlC b) (f:=f) (n:=n) (s:=(if f=5 then W.headD nm else nm)) (t:=t) (ks:=Y.take ks.length) (bs:=mkB (bs.map Bind.ty) W (Y.drop ks.length)) (al:=al.map (jM sb s b))).2 ⟨fun x hx=>?_,fun x hx=>?_,fun x hx=>?_⟩
  ·rwa [ψ h7,Ba] at this
  ·obtain⟨p,hp,h⟩:=hK.mem x hx;have:=h.tl;have:=d1 p hp;omega
  ·obtain⟨y,J,h⟩:=aa x hx;have:=h.tl;have:=d2 y J;omega
  ·obtain⟨a,I,rfl⟩:=Ad.1 hx;have:=(Z a I).1.tl;have:=d3 a I;omega
end
theorem aCh (hI:cE 540000000000) {D M X:Nat}(ah:M+D≤700000) (hX:31≤X):∀(k:Nat) (c:Core),m30 c≤k→CG D M X c→∀(s:Str) (b:Core),CG D M X b→TB X c s b (bW k c s b):=by
 intro k
 induction k with
 | zero=>intro c h;have:=dB c;omega
 | succ k ih=>
 intro c h hc s b hb;have hTG:=hc.tyG hI ah;have hTGb:=hb.tyG hI ah;have hcs:=bU c;have hbs:=bU b;have hsz:=hc.sz;have hszb:=hb.sz;have hBig:Big=250000000000:=rfl;have hpfb:=kE b;have hpfc:=kE c;have ai:=zJ (aV c) c (le_refl _) (by omega);have hfreeb:=zJ (aV b) b (le_refl _) (by omega);obtain⟨hbty,hbtl⟩:=hb.types ah;have hm31:=dB c;have hb31:=dB b;obtain⟨f,n,nm,t,ks,bs,al⟩:=c;have hq:=hc.q;rw[bW];by_cases hv:f=1∧nm=s
 ·rw[ξ (show(Core.mk f n nm t ks bs al).form=1∧(Core.mk f n nm t ks bs al).name=s from hv)];exact⟨aPa f n nm t ks bs al s b hv (by omega) hTGb,⟨hb.q,fun A E ρ=>Cf ..,fun x hx=>.inr hx,le_add_left _ _⟩,fun B _ hb'=>le_trans hb' (Ar _ hm31)⟩
 rw[ψ (show ¬((Core.mk f n nm t ks bs al).form=1∧(Core.mk f n nm t ks bs al).name=s) from hv)]
 let P:Core→Prop:=fun x=>m30 x<m30 (.mk f n nm t ks bs al)∧CG D M X x
 have aa:∀p,P p→∀n' b',CG D M X b'→TB X p n' b' (bW k p n' b'):=fun p hp n' b' hb'=>ih p (by have:=hp.1;omega) hp.2 n' b' hb'
 have hz:∀p m z,P p→z.length≤30→P (bW k p m (vC z))∧R0 p (bW k p m (vC z)):=fun p m z hp W=>by
  have h1:=aa p hp m (vC z) (CG.vC W hX);have h2:=h1.r0 W;exact⟨⟨C1 h2.sz hp.1,h2.cg hp.2 h1.rx.q⟩,h2⟩
 have hfree:∀p,P p→aU Tryz.prog 133 [.pa (aB p)] [] (bK (pfR p)) []:=fun p hp=>zJ (aV p) p (le_refl _) (by have:=bU p;have:=hp.1;omega)
 have hok:∀ps,(∀p∈ps,P p)→PutOk (bW k) P s b ps:=fun ps hps=>⟨hps,fun p hp=>hfree p (hps p hp),hfreeb,fun p m z hp W=>(hz p m z hp W).1,fun p m z hp W=>(aa p hp m (vC z) (CG.vC W hX)).imp,fun p hp=>(aa p hp s b hb).imp,hI⟩
 have hPq:∀p,P p→bE (QL X) p:=fun p hp=>hp.2.q
 have hS:∀p,P p→RX X b p (bW k p s b):=fun p hp=>(aa p hp s b hb).rx
 have hSB:∀B,1≤B→m30 b≤31*B→∀p,P p→wfC (bW k p s b)=true∧allT (fun _=>True) (bW k p s b)∧m30 (bW k p s b)≤m30 p*B:=fun B Z ac p hp=>by
  have h1:=aa p hp s b hb;exact⟨lR _ h1.rx.q,jK _,h1.sz B Z ac⟩
 have hPQ:∀p,P p→wfC p=true∧allT (fun _=>True) p:=fun p hp=>⟨lR _ hp.2.q,jK _⟩
 have hzs:∀p m z,P p→z.length≤30→P (bW k p m (vC z))∧m30 (bW k p m (vC z))≤m30 p:=fun p m z hp W=>⟨(hz p m z hp W).1,(hz p m z hp W).2.sz⟩
 by_cases h7:f=7
 ·subst h7;obtain⟨⟨kid,rfl⟩,rfl,rfl⟩:=dG hq (.inr (.inr rfl));obtain⟨g1,g2,g3⟩:=hc.kid (x:=kid) φ;rw[ξ rfl] at g2;obtain⟨q1,_⟩:=aJ.1 hq;have hnmn:¬nm=[]:=(q1.2.1 rfl).2
  obtain rfl:t=zTy:=(q1.2.1 rfl).1
  have hz0:tfR zTy=[]:=rfl;have ab:∀ad,gvN 7 ad []=[]:=fun ad=>by unfold gvN;rw[ψ (by decide)];rfl
  have easm:∀ad I,nE (bW k) s b (.mk 7 n ad zTy [I] [] [])=.mk 7 n ad zTy ((cO (bW k) s b [] [I]).2.take 1) [] []:=fun ad I=>by
   rw[nE];unfold zNm zKs zBs;rw[ab,ψ (by decide)];rfl
  have hpk:P kid:=⟨g3,g1⟩
  have hpfk:pfR (.mk 7 n nm zTy [kid] [] [])=pfP [] [] (pfR kid):=by
   rw[pfR,ψ (by decide),lU,lU,oE,oP,ab]
  have hmem:∀x,x∈pfR (.mk 7 n nm zTy [kid] [] [])↔x∈pfR kid:=fun x=>by
   rw[hpfk];constructor
   ·intro hx;have key:∀(l o:List Str),x∈pfP [] o l→x∈o∨x∈l:=by
     intro l
     induction l with
     | nil=>intro o h;exact .inl h
     | cons y l ih2=>
      intro o h;rcases ih2 (pfG [] o y) h with h | h
      ·unfold pfG at h;rw[ψ (by simp)] at h;rcases yL.1 h with h | h
       ·exact .inl h
       ·exact .inr (by rw[h];exact φ)
      ·exact .inr (η _ h)
    rcases key _ _ hx with h | h
    ·cases h
    ·exact h
   ·exact fun hx=>tM hx (by simp)
  have hlk:∀I,P I→(([I]:List Core).flatMap pfR).length+2*(gvN 7 nm []).length+(pfR b).length≤540000000000:=fun I Y=>by
   rw[ab];have:=kE I;have:=Y.1;simp only[Cg,C3,A8,length_nil];omega
  by_cases hin:s∈pfR (.mk 7 n nm zTy [kid] [] [])
  ·rw[ξ (show(Core.mk 7 n nm zTy [kid] [] []).form=7∧_ from⟨rfl,hin⟩)];have hink:=(hmem s).1 hin;have hend:∀(nm1:Str) (I:Core),w30 nm1≤w30 nm→P I→m30 I≤m30 kid→tlC I≤tlC kid→(∀x∈tyR I,x=nm1∨x∈tyR kid)→(∀x∈tyR I,x=nm→nm1=nm∨nm∈tyR b)→¬nm1∈tyR b→¬nm1=[]→
     (∀(A:Alg) (E:Nat) (ρ:Str→Nat),cw A E I (gT ρ nm1 E)≤cw A E kid (gT ρ nm E))→
     aU Tryz.prog 77 [.one (.vp 700 0),bK (tyR b)] (gHl 7 n nm zTy [kid] [] []) (.tup []) (gHl 7 n nm1 zTy [I] [] [])→
     TB X (.mk 7 n nm zTy [kid] [] []) s b (nE (bW k) s b (.mk 7 n nm1 zTy [I] [] [])):=fun nm1 I hw Y hkm hkt hkx hky hno hn1 hkc himp=>by
    have J:=qH (bW k) P 7 n nm nm1 zTy [kid] [I] [] [] s b (by omega) hTG hv rfl (fun e=>absurd e (by decide)) (fun _=>⟨rfl,rfl,_,ai,by omega,fun _=>⟨_,hbty,himp⟩,fun e=>absurd hin e⟩) (fun e=>absurd rfl e)
     (hok _ fun p hp=>by
      have:p=I:=by simpa using hp
      rw[this];exact Y) (fun a ha=>by cases ha) (by
      have h1:=hlk I Y;rw[ab] at h1;simp only[Bj,A8,length_nil,Am] at h1 ⊢;have:=kE I;have:=Y.1;simp only[Cg,C3,A8] at h1 ⊢
      omega) (fun a ha=>by cases ha)
    obtain⟨hA,_⟩:=o5 (sb:=bW k) (P:=P) (X:=X) (s:=s) (b:=b) (ns:=[]) (ps:=[I]) (fun p hp=>by rw[κ.1 hp];exact Y) hPq hz hS (by have:=hlk I Y;rwa [ab] at this);rw[easm] at J ⊢;have hszB:∀B,1≤B→m30 b≤31*B→m30 (.mk 7 n nm1 zTy ((cO (bW k) s b [] [I]).2.take 1) [] [])≤m30 (.mk 7 n nm zTy [kid] [] [])*B:=fun B Z ac=>by
     have hg:=tE (sb:=bW k) (P:=P) (T:=fun _=>True) (s:=s) (b:=b) (ns:=[]) (ps:=[I]) Z (fun p hp=>by rw[κ.1 hp];exact Y) hzs hPQ (hSB B Z ac) (by have:=hlk I Y;rwa [ab] at this);have hsm:=aHp (hg.sm.take 1);have e:([I]:List Core).take 1=[I]:=rfl;rw[e,bV,bV,B0] at hsm;rw[m30,m30,eU,fQ,bV,bV,B0,B0,B0,Av];have h5:1+w30 nm1≤(1+w30 nm)*B:=le_trans (by omega) (Ay _ Z);have h6:m30 I*B≤m30 kid*B:=Ar _ hkm;omega
    cases hx:(cO (bW k) s b [] [I]).2 with
    | nil=>rw[hx] at hA;cases hA
    | cons y l'=>
     rw[hx] at hA J hszB;cases hA with
     | cons hy _=>
      refine⟨J,⟨aJ.2 ⟨⟨rfl,fun _=>⟨rfl,hn1⟩,rfl,fun p hp=>(by cases hp),?_⟩,fun x hx=>?_,fun x hx=>(by cases hx),fun x hx=>(by cases hx)⟩,fun A E ρ=>?_,fun x hx=>?_,?_⟩,hszB⟩
      ·exact⟨le_trans (rX hw rfl rfl) q1.2.2.2.2.1,fun e=>absurd e (by decide),fun p hp=>(by cases hp),fun p hp=>(by cases hp)⟩
      ·have:x=y:=by simpa using hx
       rw[this];exact hy.q
      ·obtain⟨c0,c1,c2,_,_⟩:=gR.1 (le_refl (cw A E (.mk 7 n nm zTy [kid] [] []) ρ));have c2:=c2 kid φ;rw[ξ rfl] at c2;refine gR.2 ⟨by omega,by omega,fun x hx=>?_,fun x hx=>(by cases hx),fun x hx=>(by cases hx)⟩;have:x=y:=by simpa using hx
       rw[this,ξ rfl];have h1:=hy.cw A E (gT ρ nm1 E);have h2:=hkc A E ρ;have h3:cw A E b (gT ρ nm1 E)=cw A E b ρ:=pC fun y hy=>by
        unfold gT;rw[ψ fun e=>hno (by rw[←e];exact hy)]
       omega
      ·rcases bF.1 hx with h | ⟨z,aj,h,ag⟩ | ⟨z,aj,_⟩ | ⟨z,aj,_⟩
       ·rw[hz0] at h;cases h
       ·have:z=y:=by simpa using aj
        rw[this] at h;have ag:¬x=nm1:=ag.resolve_left (fun e=>e rfl);rcases hy.ty x h with h | h
        ·rcases hkx x h with h' | h'
         ·exact absurd h' ag
         ·by_cases e:x=nm
          ·rcases hky x h e with e2 | e2
           ·exact absurd (e.trans e2.symm) ag
           ·exact .inr (by rw[e];exact e2)
          ·exact .inl (bF.2 (.inr (.inl ⟨kid,φ,h',.inr e⟩)))
        ·exact .inr h
       ·cases aj
       ·cases aj
      ·have d1:=hy.tl;show tlC (.mk 7 n nm1 zTy [y] [] [])≤tlC (.mk 7 n nm zTy [kid] [] [])+tlC b;rw[tlC,tlC,kP,kP,kP,kP,rG,qS];omega
   rw[aYq];by_cases ae:nm∈tyR b
   ·rw[ξ ae];have efm:[kid].flatMap tyR=tyR kid:=by simp
    rw[efm,Al,Bj];obtain⟨hkty,hktl⟩:=g1.types ah;have hzo:=iH (tyR b++tyR kid);have hz30:(b6 (tyR b++tyR kid)).length≤30:=o9 _ (by rw[Ab];omega);have hzn:=yY (tyR b++tyR kid);generalize hze:b6 (tyR b++tyR kid)=z at hzo hz30 hzn;have O:=aE3 hI ah (m30 kid) kid (le_refl _) g1 nm (vT z) (UOk.var z);have hkid1:CG D M X (sTR (m30 kid) kid nm (vT z)):=by
     refine⟨O.q,?_,?_,le_trans O.sz g1.sz⟩
     ·have:=O.cw kQ 0 r0;have e:tW kQ (vT z) r0=0:=rfl;rw[e,aLu] at this;exact le_trans this g1.dep
     ·have h1:=dS (a:=z::tyR kid) (c:=sTR (m30 kid) kid nm (vT z)) fun x hx=>by
       rcases O.ty x hx with h | h
       ·exact η _ h
       ·rw[aAk] at h;rw[κ.1 h];exact φ
      rw[Am] at h1;have h2:=O.tl;omega
    have hcl:=aIn n nm zTy kid (sTR (m30 kid) kid nm (vT z)) (tyR b) (by omega) ae hI hkty (by omega) (by rw[hze];exact O.imp);rw[hze] at hcl;refine hend z _ (aI3 hz30) ⟨C1 O.sz g3,hkid1⟩ O.sz O.tl (fun x hx=>?_) (fun _ _ _=>.inr ae) (fun h=>hzo (χ.2 (.inl h))) hzn (fun A E ρ=>?_) hcl
    ·rcases O.ty x hx with h | h
     ·exact .inr h
     ·rw[aAk] at h;exact .inl (κ.1 h)
    ·refine le_trans (O.cw A E _) (le_of_eq (pC fun x hx=>?_));have e:tW A (vT z) (gT ρ z E)=E:=by
      unfold vT;rw[tW,ξ rfl];unfold gT;rw[ξ rfl]
     rw[e];unfold gT;by_cases e1:x=nm
     ·rw[ξ e1,ξ e1]
     ·rw[ψ e1,ψ e1,ψ fun e3=>hzo (by rw[←e3];exact χ.2 (.inr hx))]
   ·rw[ψ ae];exact hend nm kid (le_refl _) hpk (le_refl _) (le_refl _) (fun x hx=>.inr hx) (fun _ _ _=>.inl rfl) ae hnmn (fun A E ρ=>le_refl _) (aIo n nm zTy kid (tyR b) (by omega) ae)
  ·rw[ψ (show ¬((Core.mk 7 n nm zTy [kid] [] []).form=7∧s∈pfR (Core.mk 7 n nm zTy [kid] [] [])) from fun h=>hin h.2)];have hnk:¬s∈pfR kid:=fun h=>hin ((hmem s).2 h)
   have J:=qH (bW k) P 7 n nm nm zTy [kid] [kid] [] [] s b (by omega) hTG hv rfl (fun e=>absurd e (by decide)) (fun _=>⟨rfl,rfl,_,ai,by omega,fun e=>absurd e hin,fun _=>⟨rfl,rfl⟩⟩) (fun e=>absurd rfl e)
    (hok _ fun p hp=>by
     have:p=kid:=by simpa using hp
     rw[this];exact hpk) (fun a ha=>by cases ha) (by
     have h1:=hlk kid hpk;rw[ab] at h1;simp only[Bj,A8,length_nil,Am] at h1 ⊢;have:=kE kid;have:=hpk.1;simp only[Cg,C3,A8] at h1 ⊢
     omega) (fun a ha=>by cases ha)
   have e5:cO (bW k) s b [] [kid]=([],[kid]):=by
    unfold cO;rw[ψ];exact fun h=>hnk (by simpa using h.1)
   rw[easm,e5] at J ⊢;have J:aU Tryz.prog 99 [.pa (aB (.mk 7 n nm zTy [kid] [] [])),Go.AM.T s,.pa (aB b)] [] (.pa (aB (.mk 7 n nm zTy [kid] [] []))) []:=J;show TB X (.mk 7 n nm zTy [kid] [] []) s b (.mk 7 n nm zTy [kid] [] []);exact⟨J,⟨hq,fun A E ρ=>C7 ..,fun x hx=>.inl hx,le_add_right _ _⟩,fun B Z _=>Ay _ Z⟩
 ·rw[ψ (show ¬((Core.mk f n nm t ks bs al).form=7∧s∈pfR (Core.mk f n nm t ks bs al)) from fun h=>h7 h.1)];have hP1:∀x∈ks,P x:=fun x hx=>⟨(hc.kid hx).2.2,(hc.kid hx).1⟩
  have hP2:∀x∈bs,P x.body:=fun x hx=>⟨(hc.bind hx).2,(hc.bind hx).1⟩
  have hP3:∀x∈al,P x.body:=fun x hx=>⟨(hc.alt hx).2,(hc.alt hx).1⟩
  have hPs:∀p∈ks++bs.map Bind.body,P p:=fun p hp=>by
   rcases χ.1 hp with hp | hp
   ·exact hP1 p hp
   ·obtain⟨x,hx,rfl⟩:=Ad.1 hp;exact hP2 x hx
  have hm:=hsz;rw[m30] at hm;have hfm:=aH5 (ks++bs.map Bind.body);rw[yP] at hfm;have hbsb:=u2 bs;have hksl:=aHo ks;have hgv:=aEo (f:=f) (nm:=nm) (bs:=bs);have hla:∀a∈al,(pfR a.body).length+2*a.vars.length+(pfR b).length+1≤540000000000:=fun a ha=>by
   have h1:=eS ha;have h2:=pU a.vars;have h3:=kE a.body;omega
  have hM:((ks++bs.map Bind.body).flatMap pfR).length+2*(1+bs.length)+(pfR b).length+(ks.length+bs.length)≤540000000000:=by omega
  have J:=qH (bW k) P f n nm nm t ks ks bs al s b (by omega) hTG hv rfl (fun hf=>dG hq (.inl hf)) (fun e=>absurd e h7) (fun _=>⟨rfl,rfl⟩) (hok _ hPs) (fun a ha=>hok _ fun p hp=>by rw[κ.1 hp];exact hP3 a ha) hM hla;have hgl:((ks++bs.map Bind.body).flatMap pfR).length+2*(gvN f nm bs).length+(pfR b).length≤540000000000:=by omega
  have hal':∀a∈al,(([a.body]:List Core).flatMap pfR).length+2*a.vars.length+(pfR b).length≤540000000000:=fun a ha=>by
   have:=hla a ha;simp only[Cg,C3,A8];omega
  obtain⟨hA,hN⟩:=o5 (sb:=bW k) (P:=P) (X:=X) (s:=s) (b:=b) (ns:=gvN f nm bs) hPs hPq hz hS hgl;have hAa:∀a∈al,A2 (RX X b) [a.body] (cO (bW k) s b a.vars [a.body]).2∧A2 NR a.vars (cO (bW k) s b a.vars [a.body]).1:=fun a ha=>
   o5 (sb:=bW k) (P:=P) (X:=X) (s:=s) (b:=b) (fun p hp=>by rw[κ.1 hp];exact hP3 a ha) hPq hz hS (hal' a ha)
  refine⟨J,aP5 h7 hq hA hN hAa,fun B Z ac=>?_⟩;have hg:=tE (sb:=bW k) (P:=P) (T:=fun _=>True) (s:=s) (b:=b) (ns:=gvN f nm bs) Z hPs hzs hPQ (hSB B Z ac) hgl;have hga:∀a∈al,PK B (fun _=>True) a.vars [a.body] (cO (bW k) s b a.vars [a.body]):=fun a ha=>tE Z (fun p hp=>by rw[κ.1 hp];exact hP3 a ha) hzs hPQ (hSB B Z ac) (hal' a ha)
  exact(aC3 (n:=n) (nm:=nm) Z hg hga trivial (fun x hx=>trivial) (fun hf=>dG hq hf) (fun hf=>lS hq hf)).2.2
end Go.Proofs.YtglfogjcijokpaaGreatDoor
