/-
  Texts Ld2 to Lg13 in one.
-/
import Derived.Test.YtockgoadliilhaaGreatDoorM7
open List (all_eq_true append_assoc append_nil cons_append flatMap_append flatMap_cons flatten_cons foldl_append foldl_cons length_append length_cons length_drop length_eq_one_iff length_map length_nil length_set length_take map_append map_cons map_id map_map map_nil map_set mem_append mem_cons mem_cons_of_mem mem_cons_self mem_map mem_singleton nil_append nodup_nil set_cons_succ sum_cons take_add_one take_append_drop take_length)
open Nat (add_assoc add_mul add_zero le_max_left le_max_right le_of_lt le_refl le_trans min_eq_left mul_one sub_self sub_zero zero_add zero_le)
namespace Go.Proofs.YtockgoadliilhaaGreatDoor
open Go Go.AM
set_option maxRecDepth 20000
def gm (c:Core):List (List (Str×List C)×List Core):=
 ((if c.form=5 then [(c.name,(aB c).drop 3)] else [])++c.binds.map (fun b=>(b.name,(bC b).drop 1)),c.kids++c.binds.map Bind.body)::c.alts.map fun a=>(a.vars.map (fun v=>(v,[])),[a.body])
def gmG (g:List (Str×List C)×List Core):List (List C)×List Core:=(g.1.map aG9,g.2)
theorem aOz (c:Core):gl c=(gm c).map gmG:=by
 obtain⟨f,n,s,t,ks,bs,al⟩:=c;unfold gl gm;rw[Al,A1];congr 1
 ·unfold gmG;rw[As,A1];congr 2;unfold nm0;split<;>rfl
 ·congr 1;funext a;unfold gmG;simp only[Function.comp,A1];rfl
def pfG (G:List Str) (o:List Str) (s:Str):List Str:=if s∈G then o else rK o s
def pfP (G:List Str) (o l:List Str):List Str:=l.foldl (pfG G) o
def gvN (f:Int) (s:Str) (bs:List Bind):List Str:=(if f=5 then [s] else [])++bs.map Bind.name
mutual
def pfR:Core→List Str
 | .mk f _ s _ ks bs al=>if f=1 then [s] else pJ al (oX (gvN f s bs) bs (o5 (gvN f s bs) ks []))
def o5 (G:List Str):List Core→List Str→List Str
 | [],o=>o
 | c::l,o=>o5 G l (pfP G o (pfR c))
def oX (G:List Str):List Bind→List Str→List Str
 | [],o=>o
 | .mk _ _ c::l,o=>oX G l (pfP G o (pfR c))
def pJ:List Alt→List Str→List Str
 | [],o=>o
 | .mk _ _ _ v c::l,o=>pJ l (pfP v o (pfR c))
end
def pfL (G:List Str) (l:List Core) (o:List Str):List Str:=l.foldl (fun o c=>pfP G o (pfR c)) o
def pfM (L:List (List (Str×List C)×List Core)) (o:List Str):List Str:=L.foldl (fun o g=>pfL (g.1.map (·.1)) g.2 o) o
theorem aBl (G:List Str):∀(l:List Core) (o:List Str),o5 G l o=pfL G l o
 | [],o=>by rw[o5];rfl
 | c::l,o=>by rw[o5,aBl G l];rfl
theorem aJb (G:List Str):∀(l:List Bind) (o:List Str),oX G l o=pfL G (l.map Bind.body) o
 | [],o=>by rw[oX];rfl
 | .mk s t c::l,o=>by rw[oX,aJb G l];rfl
theorem aJd:∀(l:List Alt) (o:List Str),pJ l o=pfM (l.map fun a=>(a.vars.map (fun v=>(v,[])),[a.body])) o
 | [],o=>by rw[pJ];rfl
 | .mk f n s v c::l,o=>by
  rw[pJ,aJd l];have:(v.map (fun v=>((v,[]):Str×List C))).map (·.1)=v:=by rw[A1];exact map_id _
  show _=pfM _ (pfL ((v.map (fun v=>((v,[]):Str×List C))).map (·.1)) [c] o);rw[this];rfl
theorem aZc (c:Core) (h:¬c.form=1):pfR c=pfM (gm c) []:=by
 obtain⟨f,n,s,t,ks,bs,al⟩:=c;have h:¬f=1:=h;rw[pfR,ψ h,aJd,aJb,aBl];unfold gm;show _=pfM _ (pfL _ _ []);congr 1;unfold pfL;rw[B6];have:gvN f s bs=(((if f=5 then [((s,(aB (.mk f n s t ks bs al)).drop 3):Str×List C)] else [])++bs.map (fun b=>(b.name,(bC b).drop 1))).map (·.1)):=by
  unfold gvN;rw[As,A1];congr 1;split<;>rfl
 rw[this];rfl
theorem aS1 (G o:List Str) (s:Str):(pfG G o s).length≤o.length+1:=by
 unfold pfG;split
 ·omega
 ·exact aD8 o s
theorem vY (G o:List Str):∀l:List Str,(pfP G o l).length≤o.length+l.length:=by
 intro l
 induction l generalizing o with
 | nil=>exact le_refl _
 | cons s l I=>
  have h1:=I (pfG G o s);have h2:=aS1 G o s;show(pfP G (pfG G o s) l).length≤_;rw[Aj];omega
mutual
theorem aGa:∀c:Core,(pfR c).length≤aU c
 | .mk f n s t ks bs al=>by
  rw[pfR,aU];split
  ·simp;omega
  ·have h1:=aI5 (gvN f s bs) ks [];have h2:=aQq (gvN f s bs) bs (o5 (gvN f s bs) ks []);have h3:=aQr al (oX (gvN f s bs) bs (o5 (gvN f s bs) ks []));simp only[length_nil] at h1;omega
theorem aI5 (G:List Str):∀(l:List Core) (o:List Str),(o5 G l o).length≤o.length+bW l
 | [],o=>by rw[o5];omega
 | c::l,o=>by
  rw[o5,bW];have h1:=aI5 G l (pfP G o (pfR c));have h2:=vY G o (pfR c);have h3:=aGa c;omega
theorem aQq (G:List Str):∀(l:List Bind) (o:List Str),(oX G l o).length≤o.length+fW l
 | [],o=>by rw[oX];omega
 | .mk s t c::l,o=>by
  rw[oX,fW,bsize];have h1:=aQq G l (pfP G o (pfR c));have h2:=vY G o (pfR c);have h3:=aGa c;omega
theorem aQr:∀(l:List Alt) (o:List Str),(pJ l o).length≤o.length+fX l
 | [],o=>by rw[pJ];omega
 | .mk f n s v c::l,o=>by
  rw[pJ,fX,pM];have h1:=aQr l (pfP v o (pfR c));have h2:=vY v o (pfR c);have h3:=aGa c;omega
end
theorem aOc (G o:List Str) {l:List Str}{i:Nat}{s:Str}(h:l[i]?=some s):pfP G o (l.take (i+1))=pfG G (pfP G o (l.take i)) s:=by
 unfold pfP;rw[eC h,B6];rfl
theorem aOe (G o:List Str) {l:List Core}{i:Nat}{c:Core}(h:l[i]?=some c):pfL G (l.take (i+1)) o=pfP G (pfL G (l.take i) o) (pfR c):=by
 unfold pfL;rw[eC h,B6];rfl
theorem aOd (o:List Str) {l:List (List (Str×List C)×List Core)}{i:Nat}{g:List (Str×List C)×List Core}(h:l[i]?=some g):pfM (l.take (i+1)) o=pfL (g.1.map (·.1)) g.2 (pfM (l.take i) o):=by
 unfold pfM;rw[eC h,B6];rfl
theorem aI7 (G:List Str):∀(l:List Core) (o:List Str),(pfL G l o).length≤o.length+bW l:=fun l o=>by rw[←aBl];exact aI5 G l o
def gcs:List (List (Str×List C)×List Core)→Nat
 | []=>0
 | g::l=>bW g.2+gcs l
theorem aI6:∀(L:List (List (Str×List C)×List Core)) (o:List Str),(pfM L o).length≤o.length+gcs L
 | [],o=>le_refl _
 | g::L,o=>by
  have h1:=aI6 L (pfL (g.1.map (·.1)) g.2 o);have h2:=aI7 (g.1.map (·.1)) g.2 o;show(pfM L (pfL (g.1.map (·.1)) g.2 o)).length≤_;rw[gcs];omega
theorem mE:∀a b:List Core,bW (a++b)=bW a+bW b
 | [],b=>by rw[Be,bW,Bd]
 | x::a,b=>by rw[A9,bW,bW,mE a b,Cc]
theorem zF:∀l:List Bind,bW (l.map Bind.body)≤fW l
 | []=>by rw[By,bW];exact Ak _
 | .mk s t c::l=>by rw[Al,bW,fW,bsize];have:=zF l;show aU c+_≤_;omega
theorem aRb:∀l:List Alt,gcs (l.map fun a=>(a.vars.map (fun v=>(v,[])),[a.body]))≤fX l
 | []=>by rw[By,gcs];exact Ak _
 | .mk f n s v c::l=>by rw[Al,gcs,fX,pM,bW,bW];have:=aRb l;show aU c+0+_≤_;omega
theorem aW6 (c:Core):gcs (gm c)≤aU c:=by
 obtain⟨f,n,s,t,ks,bs,al⟩:=c;unfold gm;rw[gcs,aU];have h1:=mE ks (bs.map Bind.body);have h2:=zF bs;have h3:=aRb al;show bW (ks++bs.map Bind.body)+gcs (al.map fun a=>(a.vars.map (fun v=>(v,[])),[a.body]))≤_;omega
theorem aBs:∀a b,gcs (a++b)=gcs a+gcs b
 | [],b=>by rw[Be,gcs,Bd]
 | x::a,b=>by rw[A9,gcs,gcs,aBs a b,Cc]
theorem aW7 {L:List (List (Str×List C)×List Core)}{i:Nat}{g:List (Str×List C)×List Core}(h:L[i]?=some g):gcs (L.take i)+bW g.2≤gcs L:=by
 have h1:=take_append_drop (i+1) L;have h2:=aBs (L.take (i+1)) (L.drop (i+1));rw[h1,eC h,aBs] at h2;simp only[gcs] at h2;omega
theorem aLe {l:List Core}{i:Nat}{c:Core}(h:l[i]?=some c):bW (l.take i)+aU c≤bW l:=by
 have h1:=take_append_drop (i+1) l;have h2:=mE (l.take (i+1)) (l.drop (i+1));rw[h1,eC h,mE] at h2;simp only[bW] at h2;omega
def aFs (c:Core):Prop:=aU c≤570000000000→aW Tryz.prog 125 [.pa (aB c)] [] (bN (pfR c)) []
theorem nW (c:Core) (ih:∀x,aU x<aU c→aFs x) (hsz:aU c≤570000000000):aW Tryz.prog 125 [.pa (aB c)] [] (ouV (pfR c)) [(500,ouO (pfR c))]:=by
 by_cases h1:c.form=1
 ·obtain⟨f,n,s,t,ks,bs,al⟩:=c;have h1:f=1:=h1;subst h1;rw[pfR,θ rfl];refine bT (n:=51) tok Tryz.func125 rfl rfl rfl ?_;exact sg rfl (a8 (sg rfl (aA rfl (fun _=>sgh [(2,.id 500)] rfl (aI rtT)) nofun)))
 have Y:=aLs c hsz;have hpf:=aZc c h1;have hin:∀g∈gm c,∀x∈g.2,aU x<aU c:=fun g hg x hx=>aW4 (g:=gmG g) (by rw[aOz];exact Ad.2 ⟨g,hg,rfl⟩) hx
 obtain⟨hgl,hgm⟩:=aW3 c;rw[aOz,ξ] at hgl;have Z:∀g∈gm c,g.2.length≤aU c∧g.1.length≤aU c:=fun g hg=>by
  have:=hgm (gmG g) (by rw[aOz];exact Ad.2 ⟨g,hg,rfl⟩);unfold gmG at this;rw[ξ] at this;exact this
 have hgc:=aW6 c;rw[oZ,aOz,A1] at Y;rw[hpf];clear hpf hgm;generalize gm c=L at Y hin hgl Z hgc ⊢;have hkL:(L.map (kA∘gmG)).length=L.length:=ξ _;refine bT (n:=51) tok Tryz.func125 rfl rfl rfl ?_;refine sg rfl (a8 (sg rfl (aA rfl (fun hb=>absurd (φ hb) h1) (fun _=>aD (sg rfl (AWp.sub (Sub.fvar (id:=1) (l:=aB c) rfl (by simp[keys])) ?_))))));refine AWp.sub (st2:=mk [(1,.one (.c (.pt (aB c)))),(3,.one (.c .nl))] []) sl ?_;refine AWp.sub (Sub.own (t:=3) (id:=500) 9 1 rfl rfl) ?_;refine a8 (a8 (aE mixed (kc Y ?_)));refine kz 2 rfl (aC (aL (fun i:Nat=>mk [(3,ouV (pfM (L.take i) [])),(16,.one (.c (.sl 2 (L.map (kA∘gmG))))),(17,I .i64 ((L.map (kA∘gmG)).length:Int)),(18,I .i64 i)] [(500,ouO (pfM (L.take i) []))]) (fun i=>i≤L.length) (fun i=>L.length-i) 0 (Ak _) sl ?_));intro i hi;refine sg rfl (a8 (aA rfl (fun hb=>?_) (fun hb=>?_)))
 ·have hlt:=ltD hb hkL;obtain⟨g,hg⟩:=aK hlt;have hg':=bJ (kA∘gmG) hg;have hgi:=η hg;obtain⟨hl1,hl2⟩:=Z g hgi;have W:=aOd [] hg;have hml:=aI6 (L.take i) [];have hga:=aW7 hg;simp only[length_nil] at hml;have aa:=hin g hgi;have ab:(g.2.map gT).length=g.2.length:=ξ _;obtain⟨G1,G⟩:=g;have hg':(L.map (kA∘gmG))[i]?=some [.sl 1 (G1.map aG9),.sl 1 (G.map gT)]:=hg';dsimp only at hl1 hl2 W ab hga aa;generalize hG0:G1.map (·.1)=G0 at W;generalize pfM (L.take i) []=x0 at W hml ⊢;refine aD (a8 (aC (sgh [(0,.row i [.sl 1 (G1.map aG9),.sl 1 (G.map gT)])] rfl (sg rfl (aC (aL (fun j:Nat=>mk [(3,ouV (pfL G0 (G.take j) x0)),(5,.one (.vp 5 0)),(16,.one (.c (.sl 2 (L.map (kA∘gmG))))),(17,I .i64 ((L.map (kA∘gmG)).length:Int)),(18,I .i64 i),(23,.one (.c (.sl 1 (G.map gT)))),(24,I .i64 ((G.map gT).length:Int)),(25,I .i64 j)] [(5,.var 126 [.c (.sl 1 (G1.map aG9)),.c (.sl 1 (G.map gT))]),(500,ouO (pfL G0 (G.take j) x0))]) (fun j=>j≤G.length) (fun j=>G.length-j) 0 (Ak _) sl ?_))))));intro j hj;refine sg rfl (a8 (aA rfl (fun hb=>?_) (fun hb=>?_)))
  ·have hlt2:=ltD hb ab;obtain⟨p,hp⟩:=aK hlt2;have hp':=bJ gT hp;have hpi:=η hp;have hpc:=aa p hpi;have hc:=ih p hpc (by omega);have N:=aOe G0 x0 hp;have hml2:=aI7 G0 (G.take j) x0;have hca:=aLe hp;have hple:=aGa p;generalize pfL G0 (G.take j) x0=x1 at N hml2 ⊢;generalize pfR p=F at hc N hple;have hkF:(F.map bO).length=F.length:=ξ _;refine aD (a8 (aC (sgh [(0,.row j (gT p))] rfl (sgh [(3,.pc (bN F))] rfl (aC (aL (fun k:Nat=>mk [(3,ouV (pfP G0 x1 (F.take k))),(5,.one (.vp 5 0)),(16,.one (.c (.sl 2 (L.map (kA∘gmG))))),(17,I .i64 ((L.map (kA∘gmG)).length:Int)),(18,I .i64 i),(23,.one (.c (.sl 1 (G.map gT)))),(24,I .i64 ((G.map gT).length:Int)),(25,I .i64 j),(32,bN F),(33,I .i64 ((F.map bO).length:Int)),(34,I .i64 k)] [(5,.var 126 [.c (.sl 1 (G1.map aG9)),.c (.sl 1 (G.map gT))]),(500,ouO (pfP G0 x1 (F.take k)))]) (fun k=>k≤F.length) (fun k=>F.length-k) 0 (Ak _) sl ?_))))));intro k hk;refine sg rfl (a8 (aA rfl (fun hb=>?_) (fun hb=>?_)))
   ·have O:=ltD hb hkF;obtain⟨s,hs⟩:=aK O;have hs':=bJ bO hs;have J:=aOc G0 x1 hs;have hml3:=vY G0 x1 (F.take k);rw[At] at hml3;generalize pfP G0 x1 (F.take k)=x2 at J hml3 ⊢;have hcp:=aXz G1 s (by omega);rw[hG0] at hcp;have hmo:=uH x2 [s] (by simp;omega);rw[show mW x2 [s]=rK x2 s from rfl] at hmo;refine aD (a8 (aC (sgh [(0,.row k (bO s))] rfl (sk 3 rfl (kc hcp ?_)))));refine kz 1 rfl (aA rfl (fun hb=>?_) (fun hb=>?_))
    ·have hni:¬s∈G0:=by simpa using hb
     rw[pfG,ψ hni] at J;refine aE mixed (ak 3 [(2,.all)] rfl (kc hmo ?_));refine kz 1 rfl (ag [] rfl ⟨k+1,O,by dsimp only;omega,?_⟩);dsimp only;rw[J];exact sl
    ·have hni:s∈G0:=by simpa using hb
     rw[pfG,θ hni] at J;refine aD (ag [] rfl ⟨k+1,O,by dsimp only;omega,?_⟩);dsimp only;rw[J];exact sl
   have hge3:=geD hb hkF hk;subst hge3;rw[Au,←N];exact aM (ag [] rfl ⟨j+1,hlt2,by dsimp only;omega,sl⟩)
  have hge2:=geD hb ab hj;subst hge2;rw[Au,←W];exact aM (ag [] rfl ⟨i+1,hlt,by dsimp only;omega,sl⟩)
 have hge:=geD hb hkL hi;subst hge;rw[Au];exact aM (sg rfl (aI rtT))
theorem zL (c:Core) (J:∀x,aU x<aU c→aFs x):aFs c:=fun I=>(nW c J I).plain (ξ _).symm
theorem oN:∀(n:Nat) (c:Core),aU c≤n→aFs c
 | 0,c,h=>by have:=bR c;omega
 | n+1,c,h=>zL c fun x hx=>oN n x (by omega)
def vC (z:Str):Core:=.mk 1 0 z zTy [] [] []
section
variable (sb:Core→Str→Core→Core)
noncomputable def eG (far:List Str) (st:List Str×List Core×List Str) (n:Str):List Str×List Core×List Str:=
 if n∈far then(st.1++[bA st.2.2],st.2.1.map (fun p=>sb p n (vC (bA st.2.2))),st.2.2++[bA st.2.2]) else(st.1++[n],st.2.1,st.2.2)
noncomputable def kC (far:List Str) (ns:List Str) (st:List Str×List Core×List Str):List Str×List Core×List Str:=ns.foldl (eG sb far) st
def aWf (s:Str) (ns:List Str) (ps:List Core):Prop:=s∈ps.flatMap pfR∧¬s∈ns
open Classical in
noncomputable def cD (s:Str) (b:Core) (ns:List Str) (ps:List Core):List Str×List Core:=
 if aWf s ns ps then
  ((kC sb (pfR b) ns ([],ps,ps.flatMap pfR++ns++pfR b)).1,(kC sb (pfR b) ns ([],ps,ps.flatMap pfR++ns++pfR b)).2.1.map (fun p=>sb p s b))
 else(ns,ps)
end
def mkB:List Ty→List Str→List Core→List Bind
 | t::ts,n::ns,p::ps=>.mk n t p::mkB ts ns ps
 | _,_,_=>[]
section
variable {sb:Core→Str→Core→Core}
theorem rR {far:List Str}{st:List Str×List Core×List Str}{n:Str}:(eG sb far st n).1.length=st.1.length+1∧(eG sb far st n).2.1.length=st.2.1.length∧(eG sb far st n).2.2.length≤st.2.2.length+1:=by
 unfold eG;split<;>simp
theorem wU {far:List Str}:∀{ns:List Str}{st:List Str×List Core×List Str},(kC sb far ns st).1.length=st.1.length+ns.length∧(kC sb far ns st).2.1.length=st.2.1.length∧(kC sb far ns st).2.2.length≤st.2.2.length+ns.length
 | [],st=>by simp[kC]
 | n::ns,st=>by
  have h:=wU (far:=far) (ns:=ns) (st:=eG sb far st n);obtain⟨g1,g2,g3⟩:=rR (sb:=sb) (far:=far) (st:=st) (n:=n);unfold kC at h ⊢;rw[foldl_cons,Aj];omega
theorem aKt {far ns:List Str}{st:List Str×List Core×List Str}{i:Nat}{n:Str}(h:ns[i]?=some n):kC sb far (ns.take (i+1)) st=eG sb far (kC sb far (ns.take i) st) n:=by
 unfold kC;rw[Bh,h,B6];rfl
theorem pV {s:Str}{b:Core}{ns:List Str}{ps:List Core}:(cD sb s b ns ps).1.length=ns.length∧(cD sb s b ns ps).2.length=ps.length:=by
 unfold cD;split
 ·obtain⟨h1,h2,_⟩:=wU (sb:=sb) (far:=pfR b) (ns:=ns) (st:=([],ps,ps.flatMap pfR++ns++pfR b));exact⟨by simpa using h1,by simpa using h2⟩
 ·exact⟨rfl,rfl⟩
end
def aGd (sb:Core→Core) (ps:List Core) (j:Nat):List Core:=(ps.take j).map sb++ps.drop j
theorem aOk {sb:Core→Core}{ps:List Core}{j:Nat}:(aGd sb ps j).length=ps.length:=by unfold aGd;simp;omega
theorem aS5 {sb:Core→Core}{ps:List Core}{j:Nat}{p:Core}(h:ps[j]?=some p):(aGd sb ps j)[j]?=some p:=by
 have I:j<ps.length:=(ε.1 h).1
 unfold aGd;rw[Ay (by simp;omega),ξ,At,B8 (by omega),sub_self,An,Bu,h]
theorem aJu {sb:Core→Core}{ps:List Core}{j:Nat}{p:Core}(h:ps[j]?=some p):aGd sb ps (j+1)=(aGd sb ps j).set j (sb p):=by
 have I:j<ps.length:=(ε.1 h).1
 unfold aGd;rw[oL h,qZ (by simp;omega),Bh,h];simp
theorem aJt {sb:Core→Core}{ps:List Core}:aGd sb ps 0=ps:=by simp[aGd]
theorem aOl {sb:Core→Core}{ps:List Core}:aGd sb ps ps.length=ps.map sb:=by simp[aGd]
theorem p9 (l:List Core) (j:Nat) (x:Core):(aQ l).set j (aB x)=aQ (l.set j x):=by
 rw[aZ,aZ,map_set]
theorem u0:∀{ts:List Ty}{ns:List Str}{ps:List Core}{j:Nat}{t:Ty}{n:Str}{p:Core},ts[j]?=some t→ns[j]?=some n→ps[j]?=some p→(mkB ts ns ps)[j]?=some (.mk n t p)
 | t'::ts,n'::ns,p'::ps,0,t,n,p,h1,h2,h3=>by
  simp at h1 h2 h3;subst h1 h2 h3;rfl
 | t'::ts,n'::ns,p'::ps,j+1,t,n,p,h1,h2,h3=>by
  simp only[Bj] at h1 h2 h3;simp only[mkB,Bj];exact u0 h1 h2 h3
theorem rL:∀{ts:List Ty}{ns:List Str}{ps:List Core},ns.length=ts.length→ps.length=ts.length→(mkB ts ns ps).length=ts.length
 | [],_,_,_,_=>by unfold mkB;rfl
 | t::ts,n::ns,p::ps,h1,h2=>by
  simp only[Aj] at h1 h2;simp only[mkB,Aj,rL (ts:=ts) (ns:=ns) (ps:=ps) (by omega) (by omega)]
theorem aD9:∀{ts:List Ty}{ns:List Str}{ps:List Core}{j:Nat}{t:Ty}{n:Str}(x:Core),ts[j]?=some t→ns[j]?=some n→j<ps.length→(mkB ts ns ps).set j (.mk n t x)=mkB ts ns (ps.set j x)
 | t'::ts,n'::ns,p'::ps,0,t,n,x,h1,h2,_=>by
  simp at h1 h2;subst h1 h2;rfl
 | t'::ts,n'::ns,p'::ps,j+1,t,n,x,h1,h2,h3=>by
  simp only[Bj] at h1 h2;simp only[mkB,Cp];rw[aD9 x h1 h2 (by simpa using h3)]
theorem aEa:∀{ts:List Ty}{ns:List Str}{ps:List Core}{j:Nat}{t:Ty}{p:Core}(z:Str),ts[j]?=some t→ps[j]?=some p→j<ns.length→(mkB ts ns ps).set j (.mk z t p)=mkB ts (ns.set j z) ps
 | t'::ts,n'::ns,p'::ps,0,t,p,z,h1,h2,_=>by
  simp at h1 h2;subst h1 h2;rfl
 | t'::ts,n'::ns,p'::ps,j+1,t,p,z,h1,h2,h3=>by
  simp only[Bj] at h1 h2;simp only[mkB,Cp];rw[aEa z h1 h2 (by simpa using h3)]
theorem iZ (l:List Bind) (j:Nat) (x:Bind):(aR l).set j (bC x)=aR (l.set j x):=by
 rw[bP,bP,map_set]
theorem aXd {l:List Core}{j:Nat}{x:Core}(h:l[j]?=some x):(aQ l)[j]?=some (aB x):=iP h
def grO (nG:List R) (pG:List R):AObj:=.var 126 [.ras nG.length 1 nG,.ras pG.length 1 pG]
def tH (tys:List Ty) (nk:Nat) (ns:List Str) (ps:List Core):List (Nat×AObj):=[(701,.arr 58 15 (aR (mkB tys ns (ps.drop nk))) 0),(702,.arr 37 10 (aQ (ps.take nk)) 0)]
def tN (nb:Nat):List R:=(nR false nb nb).flatten
def tP (nk nb:Nat):List R:=(pR nk nb nb).flatten
theorem mC {es:Nat}:∀{l:List (List R)},(∀r∈l,r.length=es)→l.flatten.length=l.length*es
 | [],_=>by simp
 | r::l,h=>by
  rw[Bi,Aa,mC fun q I=>h q (κ _ I),h r ζ,Aj,A0];omega
theorem aQe {nk nb:Nat}:(tP nk nb).length=nk+nb:=by unfold tP;rw[mC tV,aJf];omega
theorem aQg {nk nb j:Nat}(h:j<nk):((tP nk nb).drop (j*1)).take 1=[.ep 702 j 0 nk]:=eD tV j _ (aJh h)
theorem aQf {nk nb j:Nat}(h:j<nb):((tP nk nb).drop ((nk+j)*1)).take 1=[.ep 701 j 5 nb]:=eD tV _ _ (aJg h)
theorem aH6 {nb:Nat}:∀r∈nR false nb nb,r.length=1:=fun r I=>by
 unfold nR at I;exact r4 (fun _=>rfl) r (by simpa [gNm] using I)
theorem aVg {nb:Nat}:(tN nb).length=nb:=by
 unfold tN;rw[mC aH6];unfold nR;rw[Aa,fP];simp[gNm]
theorem aVh {nb j:Nat}(h:j<nb):((tN nb).drop (j*1)).take 1=[.ep 701 j 0 nb]:=eD aH6 j _ (by
 unfold nR;rw[Ay (by simp[gNm])];simp only[gNm,length_nil,sub_zero]
 exact aDr h)
theorem vA {nk nb:Nat}:∀x∈R.refsL (tP nk nb),x=701∨x=702:=fun x hx=>by
 unfold tP at hx;rw[dB] at hx;unfold pR at hx;rw[j7] at hx;rcases ω.1 hx with hx | hx
 ·exact .inr (lR (L:=fun x=>x=702) (fun j x hx=>by simpa [R.refsL,R.refs] using hx) _ x hx)
 ·exact .inl (lR (L:=fun x=>x=701) (fun j x hx=>by simpa [R.refsL,R.refs] using hx) _ x hx)
theorem aH5 {nb:Nat}:∀x∈R.refsL (tN nb),x=701:=fun x hx=>by
 unfold tN at hx;rw[dB] at hx;unfold nR at hx;rw[j7] at hx;rcases ω.1 hx with hx | hx
 ·simp[gNm,c7] at hx
 ·exact lR (L:=fun x=>x=701) (fun j x hx=>by simpa [R.refsL,R.refs] using hx) _ x hx
theorem aA4 {nk nb:Nat}:∀x∈(grO (tN nb) (tP nk nb)).refs,x=701∨x=702:=fun x hx=>by
 have hx:x∈R.refsL (tN nb)++(R.refsL (tP nk nb)++[]):=hx;rw[A8] at hx;rcases ω.1 hx with hx | hx
 ·exact .inl (aH5 x hx)
 ·exact vA x hx
abbrev tG (tys:List Ty) (nk:Nat) (ns:List Str) (ps:List Core):List (Nat×AObj):=(3,grO (tN tys.length) (tP nk tys.length))::tH tys nk ns ps
theorem tGW {tys:List Ty}{nk:Nat}{ns:List Str}{ps:List Core}:GW (tG tys nk ns ps) []:=⟨⟨fun _ h=>(by cases h),nodup_nil,fun _ h=>(by cases h)⟩,fun x hx=>by
 have hx:x∈(grO (tN tys.length) (tP nk tys.length)).refs++[]:=hx;rw[A8] at hx;rcases aA4 x hx with rfl | rfl
 ·exact .inl (by simp[tG,tH,keys])
 ·exact .inl (by simp[tG,tH,keys]),rfl,rfl⟩
theorem aRr (tys:List Ty) (nk:Nat) (ns:List Str) (ps:List Core) (nm:Str) (b:Core) (sb:Core→Core) (hn:ns.length=tys.length) (hp:ps.length=nk+tys.length) (hb:ps.length≤570000000000)
  (hs:∀p∈ps,aW Tryz.prog 106 [.pa (aB p),Go.AM.T nm,.pa (aB b)] [] (.pa (aB (sb p))) []):
  aW Tryz.prog 144 [Go.AM.T nm,.pa (aB b),.one (.vp 3 0)] (tG tys nk ns ps++[]) (.tup []) (tG tys nk ns (ps.map sb)++[]):=by
 have O:TF []:=tGW (tys:=tys) (nk:=nk) (ns:=ns) (ps:=ps).tf;have hpl:=aQe (nk:=nk) (nb:=tys.length);have N:∀x∈R.refsL (tP nk tys.length),Kn [(4,.var 37 (b9 b))] (tG tys nk ns ps) [] x:=fun x hx=>by
  rcases vA x hx with rfl | rfl
  ·exact .inr (.inl (by simp[tG,tH,keys]))
  ·exact .inr (.inl (by simp[tG,tH,keys]))
 refine sO O (n:=23) tok Tryz.func144 rfl rfl rfl ?_;refine sg rfl (sg rfl (aC (aL (fun j:Nat=>mkt [(0,Go.AM.T nm),(2,.one (.vp 3 0)),(4,.one (.vp 4 0)),(8,.one (.ras (tP nk tys.length).length 1 (tP nk tys.length))),(9,I .i64 (((tP nk tys.length).length:Nat):Int)),(10,I .i64 j)] ([(4,.var 37 (b9 b))]++tG tys nk ns (aGd sb ps j)) []) (fun j=>j≤(tP nk tys.length).length) (fun j=>(tP nk tys.length).length-j) 0 (Ak _) ?_ ?_)))
 ·rw[aJt];exact slG tGW (h1:=Kn.app Kn.nil (Kn.app (Kn.of rfl) (Kn.app (Kn.of rfl) (Kn.app N Kn.nil))))
 intro j hj;have N:∀ps',∀x∈R.refsL (tP nk tys.length),Kn [(4,.var 37 (b9 b))] (tG tys nk ns ps') [] x:=fun ps' x hx=>by
  rcases vA x hx with rfl | rfl
  ·exact .inr (.inl (by simp[tG,tH,keys]))
  ·exact .inr (.inl (by simp[tG,tH,keys]))
 refine sg rfl (a8 (aA rfl (fun hb=>?_) (fun hb=>?_)))
 ·have hlt:j<(tP nk tys.length).length:=by
   have:(j:Int)<((tP nk tys.length).length:Int):=φ hb;omega
  obtain⟨p,W⟩:=aK (show j<ps.length by omega);have hc:=hs p (η W);have Y:=aS5 (sb:=sb) W;have Z:=aJu (sb:=sb) W;have hml:=aOk (sb:=sb) (ps:=ps) (j:=j);generalize aGd sb ps j=qs at Y Z hml ⊢;have hsz1:nk=(aQ (qs.take nk)).length:=by rw[aZ,ξ,At];omega
  have hsz2:tys.length=(aR (mkB tys ns (qs.drop nk))).length:=by rw[bP,ξ,rL hn (by rw[Bw];omega)]
  refine aD ?_;by_cases hjk:j<nk
  ·have ht1:=aQg (nb:=tys.length) hjk;have hrow:(aQ (qs.take nk))[j]?=some (aB p):=aXd (by rw[Av,θ hjk,Y]);refine a8 (aC (sgh [(0,.rowR j [.ep 702 j 0 nk])] rfl (aE mixed (ak 6 [(3,.row j (aB p))] rfl (kc hc ?_)))));refine ak 2 [(8,.row j (aB p))] rfl (az (ag [] rfl ⟨j+1,hlt,by dsimp only;omega,?_⟩));dsimp only;rw[Z];refine slG tGW (fun i hi=>GW.kf i hi) (h1:=Kn.app Kn.nil (Kn.app (Kn.of rfl) (Kn.app (Kn.of rfl) (Kn.app (N _) Kn.nil)))) (hh:=⟨⟨_,rfl,.varS rfl⟩,⟨_,rfl,.varS rfl⟩,⟨_,rfl,.arrS ?_⟩,⟨_,rfl,.arrS ?_⟩,trivial⟩)
   ·rw[List.drop_set_of_lt hjk]
   ·rw[List.take_set];exact p9 _ _ _
  ·obtain⟨J,rfl⟩:∃J,j=nk+J:=⟨j-nk,by omega⟩
   have hjb:J<tys.length:=by omega
   obtain⟨t,ht⟩:=aK hjb;obtain⟨n,hnn⟩:=aK (show J<ns.length by omega);have hd:(qs.drop nk)[J]?=some p:=by rw[An];exact Y
   have ht1:=aQf (nk:=nk) hjb;have hrow:(aR (mkB tys ns (qs.drop nk)))[J]?=some (bC (.mk n t p)):=dJ (u0 ht hnn hd);refine a8 (aC (sgh [(0,.rowR (nk+J) [.ep 701 J 5 tys.length])] rfl (aE mixed (ak 6 [(3,.row J (bC (.mk n t p)))] rfl (kc hc ?_)))));refine ak 2 [(8,.row J (bC (.mk n t p)))] rfl (az (ag [] rfl ⟨nk+J+1,hlt,by dsimp only;omega,?_⟩));dsimp only;rw[Z];refine slG tGW (fun i hi=>GW.kf i hi) (h1:=Kn.app Kn.nil (Kn.app (Kn.of rfl) (Kn.app (Kn.of rfl) (Kn.app (N _) Kn.nil)))) (hh:=⟨⟨_,rfl,.varS rfl⟩,⟨_,rfl,.varS rfl⟩,⟨_,rfl,.arrS ?_⟩,⟨_,rfl,.arrS ?_⟩,trivial⟩)
   ·rw[List.drop_set,ψ (by omega),Nat.add_sub_cancel_left,←aD9 _ ht hnn (by rw[Bw];omega),←iZ];rfl
   ·rw[List.take_set_of_le (by omega)]
 have hge:j=ps.length:=by
  have:¬(j:Int)<((tP nk tys.length).length:Int):=δ hb;omega
 subst hge;rw[aOl];refine aM ?_;exact⟨.inl rfl,aBx (hl:=tG tys nk ns (ps.map sb)) O (by repeat (first | exact FarEq.raw O | (refine FarEq.updL O ?_) | (refine FarEq.upd O ?_))) ⟨[],[],.nil,.nil,rfl⟩ (fun _ h=>by cases h) tGW.refs (fun i hi=>GW.kf i hi) (fun p hp=>by rcases ω.1 hp with hp | hp;exact(A3.1 (tGW (tys:=tys) (nk:=nk) (ns:=ns) (ps:=ps)).plain) p hp;cases hp)⟩
theorem s7 (s:Str):aW Tryz.prog 41 [Go.AM.T s] [] (.pa (aB (vC s))) []:=by
 refine bT (n:=5) tok Tryz.func41 rfl rfl rfl ?_;exact sg rfl (sg rfl (aI (rtC trw)))
theorem aTm {l:List Core}{j:Nat}{p:Core}(h:l[j]?=some p):(l.take (j+1)).flatMap pfR=(l.take j).flatMap pfR++pfR p:=by
 rw[Bh,h,flatMap_append];simp
theorem aXc (l:List Core) (j:Nat):((l.take j).flatMap pfR).length≤(l.flatMap pfR).length:=by
 have:l.flatMap pfR=(l.take j).flatMap pfR++(l.drop j).flatMap pfR:=by rw[←flatMap_append,take_append_drop]
 rw[this,Aa];omega
structure PutOk (sb:Core→Str→Core→Core) (P:Core→Prop) (s:Str) (b:Core) (ps:List Core):Prop where
 in_:∀p∈ps,P p
 free:∀p∈ps,aW Tryz.prog 125 [.pa (aB p)] [] (bN (pfR p)) []
 far:aW Tryz.prog 125 [.pa (aB b)] [] (bN (pfR b)) []
 ren:∀p n z,P p→z.length≤30→P (sb p n (vC z))
 subz:∀p n z,P p→z.length≤30→aW Tryz.prog 106 [.pa (aB p),Go.AM.T n,.pa (aB (vC z))] [] (.pa (aB (sb p n (vC z)))) []
 subb:∀p,P p→aW Tryz.prog 106 [.pa (aB p),Go.AM.T s,.pa (aB b)] [] (.pa (aB (sb p s b))) []
 itoa:cK 540000000000
noncomputable def gSt (sb:Core→Str→Core→Core) (b:Core) (ns:List Str) (ps:List Core) (i:Nat):List Str×List Core×List Str:=kC sb (pfR b) (ns.take i) ([],ps,ps.flatMap pfR++ns++pfR b)
noncomputable def gNs (sb:Core→Str→Core→Core) (b:Core) (ns:List Str) (ps:List Core) (i:Nat):List Str:=(gSt sb b ns ps i).1++ns.drop i
section
variable {sb:Core→Str→Core→Core}{b:Core}{ns:List Str}{ps:List Core}{i:Nat}{n:Str}
theorem gJ (hi:i≤ns.length):(gSt sb b ns ps i).1.length=i∧(gSt sb b ns ps i).2.1.length=ps.length∧(gSt sb b ns ps i).2.2.length≤(ps.flatMap pfR++ns++pfR b).length+i:=by
 obtain⟨h1,h2,h3⟩:=wU (sb:=sb) (far:=pfR b) (ns:=ns.take i) (st:=([],ps,ps.flatMap pfR++ns++pfR b));rw[At,B8 hi] at h1 h3;exact⟨by unfold gSt;simpa using h1,h2,h3⟩
theorem aKr (hi:i≤ns.length):(gNs sb b ns ps i).length=ns.length:=by
 unfold gNs;rw[Aa,(gJ hi).1,Bw];omega
theorem aRd (h:ns[i]?=some n):(gNs sb b ns ps i)[i]?=some n:=by
 have I:i<ns.length:=(ε.1 h).1
 unfold gNs;rw[Ay (by rw[(gJ (le_of_lt I)).1];exact le_refl _),(gJ (le_of_lt I)).1,sub_self,An,Bu,h]
theorem nL (h:ns[i]?=some n):gSt sb b ns ps (i+1)=eG sb (pfR b) (gSt sb b ns ps i) n:=aKt h
theorem aRc (h:ns[i]?=some n) (hf:n∈pfR b):gNs sb b ns ps (i+1)=(gNs sb b ns ps i).set i (bA (gSt sb b ns ps i).2.2):=by
 have I:i<ns.length:=(ε.1 h).1
 have hl:=(gJ (sb:=sb) (b:=b) (ps:=ps) (le_of_lt I)).1
 unfold gNs;rw[nL h,oL h,qZ hl];unfold eG;rw[θ hf];simp
theorem aKq (h:ns[i]?=some n) (hf:¬n∈pfR b):gNs sb b ns ps (i+1)=gNs sb b ns ps i:=by
 unfold gNs;rw[nL h,oL h];unfold eG;rw[ψ hf];simp
theorem aEs:gNs sb b ns ps 0=ns:=by unfold gNs gSt kC;simp
theorem wS:gSt sb b ns ps 0=([],ps,ps.flatMap pfR++ns++pfR b):=by unfold gSt kC;simp
theorem aKs:gNs sb b ns ps ns.length=(gSt sb b ns ps ns.length).1:=by unfold gNs;simp
theorem aKo:gSt sb b ns ps ns.length=kC sb (pfR b) ns ([],ps,ps.flatMap pfR++ns++pfR b):=by unfold gSt;rw[Au]
theorem aKp {P:Core→Prop}{s:Str}(h:PutOk sb P s b ps):∀{i:Nat},i≤ns.length→(gSt sb b ns ps i).2.2.length≤540000000000→(∀j,j≤i→(gSt sb b ns ps j).2.2.length≤540000000000)→∀p∈(gSt sb b ns ps i).2.1,P p
 | 0,_,_,_=>by rw[wS];exact h.in_
 | i+1,hi,_,hb=>by
  obtain⟨n,hn⟩:=aK (show i<ns.length by omega);have I:=aKp h (i:=i) (by omega) (hb i (by omega)) fun j hj=>hb j (by omega)
  rw[nL hn];unfold eG;split
  ·intro p hp;obtain⟨q,J,rfl⟩:=Ad.1 hp;exact h.ren q n _ (I q J) (le_trans (jB _ (hb i (by omega))) (by omega))
  ·exact I
end
def tkA (l:List Str):AObj:=.arr 9 1 (l.map bO) 2
def tkV (l:List Str):V:=.one (.hs 720 0 l.length l.length)
def gpV (nG pG:List R):V:=.ma [.ras nG.length 1 nG,.ras pG.length 1 pG]
theorem tHW {tys:List Ty}{nk:Nat}{ns:List Str}{ps:List Core}:GW (tH tys nk ns ps) []:=⟨tGW (tys:=tys) (nk:=nk) (ns:=ns) (ps:=ps).tf,fun x hx=>(by cases hx),rfl,rfl⟩
theorem aDf {tys:List Ty}{nk:Nat}{ns:List Str}{ps:List Core}{n:Str}{l:List C}:k9 ([Go.AM.T n,.pa l]++List.map V.one [R.vp 3 0]) (tG tys nk ns ps++[])=true:=by
 refine n6 (tHW (tys:=tys) (nk:=nk) (ns:=ns) (ps:=ps)).tf (fun x hx=>.inl ?_) tGW.refs;have:x=3:=by simpa [V.refsL,V.refs,R.refs] using hx
 subst this;simp[tG,keys]
theorem aXp (tys:List Ty) (nk:Nat) (ns:List Str) (ps:List Core) (s:Str) (b:Core) (sb:Core→Str→Core→Core) (P:Core→Prop) (hn:ns.length=tys.length) (hp:ps.length=nk+tys.length) (hok:PutOk sb P s b ps)
  (hM:(ps.flatMap pfR).length+2*ns.length+(pfR b).length+ps.length≤540000000000):
  aW Tryz.prog 126 [gpV (tN tys.length) (tP nk tys.length),Go.AM.T s,.pa (aB b)] (tH tys nk ns ps++[]) (.tup []) (tH tys nk (cD sb s b ns ps).1 (cD sb s b ns ps).2++[]):=by
 have hF:TF []:=tHW (tys:=tys) (nk:=nk) (ns:=ns) (ps:=ps).tf;have hpl:=aQe (nk:=nk) (nb:=tys.length);have hnl:=aVg (nb:=tys.length);have hkp:∀ex ns' J,∀x∈R.refsL (tP nk tys.length),Kn ex (tH tys nk ns' J) [] x:=fun ex ns' J x hx=>by
  rcases vA x hx with rfl | rfl
  ·exact .inr (.inl (by simp[tH,keys]))
  ·exact .inr (.inl (by simp[tH,keys]))
 have hkn:∀ex ns' J,∀x∈R.refsL (tN tys.length),Kn ex (tH tys nk ns' J) [] x:=fun ex ns' J x hx=>by
  have:=aH5 x hx;subst this;exact .inr (.inl (by simp[tH,keys]))
 have Z:∀ex ns' J,∀x∈(grO (tN tys.length) (tP nk tys.length)).refs,Kn ex (tH tys nk ns' J) [] x:=fun ex ns' J x hx=>by
  rcases aA4 x hx with rfl | rfl
  ·exact .inr (.inl (by simp[tH,keys]))
  ·exact .inr (.inl (by simp[tH,keys]))
 have hsz1:∀J:List Core,J.length=ps.length→nk=(aQ (J.take nk)).length:=fun J h=>by rw[aZ,ξ,At];omega
 have hsz2:∀(ns':List Str) (J:List Core),ns'.length=ns.length→J.length=ps.length→tys.length=(aR (mkB tys ns' (J.drop nk))).length:=fun ns' J h h'=>by rw[bP,ξ,rL (by omega) (by rw[Bw];omega)]
 have hs1:=hsz1 ps rfl;have hs2:=hsz2 ns ps rfl rfl;refine sO hF (n:=92) tok Tryz.func126 rfl rfl rfl ?_;refine sg rfl (sg rfl (AWp.sub (Sub.own (t:=6) (id:=720) 9 1 rfl rfl) (AWp.sub (Sub.freeze (id:=720) rfl) ?_)));refine a8 (sg rfl (aC (aL (fun j:Nat=>mkt [(1,Go.AM.T s),(3,.one (.vp 3 0)),(5,.one (.vp 5 0)),(6,tkV ((ps.take j).flatMap pfR)),(17,.one (.ras (tP nk tys.length).length 1 (tP nk tys.length))),(18,I .i64 (((tP nk tys.length).length:Nat):Int)),(19,I .i64 j)] ([(3,grO (tN tys.length) (tP nk tys.length)),(5,.var 37 (b9 b)),(720,tkA ((ps.take j).flatMap pfR))]++tH tys nk ns ps) []) (fun j=>j≤(tP nk tys.length).length) (fun j=>(tP nk tys.length).length-j) 0 (Ak _) ?_ ?_)))
 ·exact slG tHW (h1:=Kn.app Kn.nil (Kn.app (Kn.of rfl) (Kn.app (Kn.of rfl) (Kn.app (Kn.of rfl) (Kn.app (hkp _ _ _) Kn.nil))))) (h2:=⟨Z _ _ _,Kn.of rfl,Kn.of rfl,trivial⟩)
 ·intro j hj;refine sg rfl (a8 (aA rfl (fun hb=>?_) (fun hb=>?_)))
  ·have hlt:j<(tP nk tys.length).length:=by
    have:(j:Int)<((tP nk tys.length).length:Int):=φ hb;omega
   obtain⟨p,Y⟩:=aK (show j<ps.length by omega);have hf:=hok.free p (η Y);have hst:=aTm Y;have hl1:=aXc ps (j+1);rw[hst,Aa] at hl1;have hq1:(((ps.take j).flatMap pfR).map bO).length=((ps.take j).flatMap pfR).length:=ξ _;have hq2:((pfR p).map bO).length=(pfR p).length:=ξ _;generalize (ps.take j).flatMap pfR=q at hst hl1 hq1 ⊢;refine aD ?_;by_cases hjk:j<nk
   ·have ht1:=aQg (nb:=tys.length) hjk;have hrow:(aQ (ps.take nk))[j]?=some (aB p):=aXd (by rw[Av,θ hjk,Y]);refine a8 (aC (sgh [(0,.rowR j [.ep 702 j 0 nk])] rfl (aE mixed (ak 4 [(3,.row j (aB p))] rfl (kc hf ?_)))));refine kz 2 rfl (AWp.sub (Sub.freeze (id:=720) rfl) ?_);refine ag [] rfl ⟨j+1,hlt,by dsimp only;omega,?_⟩;dsimp only;rw[hst];exact slG tHW (h1:=Kn.app Kn.nil (Kn.app (Kn.of rfl) (Kn.app (Kn.of rfl) (Kn.app (Kn.of rfl) (Kn.app (hkp _ _ _) Kn.nil))))) (h2:=⟨Z _ _ _,Kn.of rfl,Kn.of rfl,trivial⟩) (he:=⟨rfl,rfl,rfl,Go.AM.hs_ren (by simp) (by simp),congrArg some (V.ren_id _).symm,rfl,rfl,trivial⟩) (hh:=⟨⟨_,rfl,.varS rfl⟩,⟨_,rfl,.varS rfl⟩,⟨_,rfl,.arrS (by simp)⟩,⟨_,rfl,.arr⟩,⟨_,rfl,.arr⟩,trivial⟩)
   ·obtain⟨j',rfl⟩:∃j',j=nk+j':=⟨j-nk,by omega⟩
    have aa:j'<tys.length:=by omega
    obtain⟨t,ht⟩:=aK aa;obtain⟨n,W⟩:=aK (show j'<ns.length by omega);have hd:(ps.drop nk)[j']?=some p:=by rw[An];exact Y
    have ht1:=aQf (nk:=nk) aa;have hrow:(aR (mkB tys ns (ps.drop nk)))[j']?=some (bC (.mk n t p)):=dJ (u0 ht W hd);refine a8 (aC (sgh [(0,.rowR (nk+j') [.ep 701 j' 5 tys.length])] rfl (aE mixed (ak 4 [(3,.row j' (bC (.mk n t p)))] rfl (kc hf ?_)))));refine kz 2 rfl (AWp.sub (Sub.freeze (id:=720) rfl) ?_);refine ag [] rfl ⟨nk+j'+1,hlt,by dsimp only;omega,?_⟩;dsimp only;rw[hst];exact slG tHW (h1:=Kn.app Kn.nil (Kn.app (Kn.of rfl) (Kn.app (Kn.of rfl) (Kn.app (Kn.of rfl) (Kn.app (hkp _ _ _) Kn.nil))))) (h2:=⟨Z _ _ _,Kn.of rfl,Kn.of rfl,trivial⟩) (he:=⟨rfl,rfl,rfl,Go.AM.hs_ren (by simp) (by simp),congrArg some (V.ren_id _).symm,rfl,rfl,trivial⟩) (hh:=⟨⟨_,rfl,.varS rfl⟩,⟨_,rfl,.varS rfl⟩,⟨_,rfl,.arrS (by simp)⟩,⟨_,rfl,.arr⟩,⟨_,rfl,.arr⟩,trivial⟩)
  have hge:j=ps.length:=by
   have:¬(j:Int)<((tP nk tys.length).length:Int):=δ hb;omega
  subst hge;rw[Au];refine aM ?_;have hct:=bU (ps.flatMap pfR) s (by omega);refine a8 (sk 2 rfl (kc hct ?_));refine kz 1 rfl (aA rfl (fun hb=>?_) (fun hb=>?_))
  ·have hno:¬s∈ps.flatMap pfR:=by
    intro h;have hb:(!decide (s∈ps.flatMap pfR))=true:=hb;rw[Ai h] at hb;cases hb
   have he:cD sb s b ns ps=(ns,ps):=by unfold cD;rw[ψ fun h=>hno h.1]
   rw[he];exact aI ⟨.inr rfl,aBx hF (by repeat (first | exact FarEq.raw hF | (refine FarEq.updL hF ?_) | (refine FarEq.upd hF ?_))) ⟨[],[],.nil,.nil,rfl⟩ (fun _ h=>by cases h) tHW.refs (fun i hi=>GW.kf i hi) (fun p hp=>by rcases ω.1 hp with hp | hp;exact(A3.1 (tHW (tys:=tys) (nk:=nk) (ns:=ns) (ps:=ps)).plain) p hp;cases hp)⟩
  have hin:s∈ps.flatMap pfR:=by
   have hb:(!decide (s∈ps.flatMap pfR))=false:=hb;by_cases h:s∈ps.flatMap pfR
   ·exact h
   ·rw[Am h] at hb;cases hb
  refine aD (a8 (sg rfl (aC (aL (fun j:Nat=>mkt [(1,Go.AM.T s),(3,.one (.vp 3 0)),(5,.one (.vp 5 0)),(6,tkV (ps.flatMap pfR++ns.take j)),(35,.one (.ras (tN tys.length).length 1 (tN tys.length))),(36,I .i64 (((tN tys.length).length:Nat):Int)),(37,I .i64 j)] ([(3,grO (tN tys.length) (tP nk tys.length)),(5,.var 37 (b9 b)),(720,tkA (ps.flatMap pfR++ns.take j))]++tH tys nk ns ps) []) (fun j=>j≤(tN tys.length).length∧¬s∈ns.take j) (fun j=>(tN tys.length).length-j) 0 ⟨Ak _,by simp⟩ ?_ ?_))))
  ·exact slG tHW (h1:=Kn.app Kn.nil (Kn.app (Kn.of rfl) (Kn.app (Kn.of rfl) (Kn.app (Kn.of rfl) (Kn.app (hkn _ _ _) Kn.nil))))) (h2:=⟨Z _ _ _,Kn.of rfl,Kn.of rfl,trivial⟩) (he:=⟨rfl,rfl,rfl,Go.AM.hs_ren (by simp) (by simp),congrArg some (V.ren_id _).symm,rfl,rfl,trivial⟩) (hh:=⟨⟨_,rfl,.varS rfl⟩,⟨_,rfl,.varS rfl⟩,⟨_,rfl,.arrS (by simp)⟩,⟨_,rfl,.arr⟩,⟨_,rfl,.arr⟩,trivial⟩)
  rintro j ⟨hj,hnos⟩;refine sg rfl (a8 (aA rfl (fun hb=>?_) (fun hb=>?_)))
  ·have hlt:j<(tN tys.length).length:=by
    have:(j:Int)<((tN tys.length).length:Int):=φ hb;omega
   have aa:j<tys.length:=by omega
   obtain⟨t,ht⟩:=aK aa;obtain⟨n,W⟩:=aK (show j<ns.length by omega);obtain⟨p,Y⟩:=aK (show nk+j<ps.length by omega);have hd:(ps.drop nk)[j]?=some p:=by rw[An];exact Y
   have ht1:=aVh aa;have hrow:(aR (mkB tys ns (ps.drop nk)))[j]?=some (bC (.mk n t p)):=dJ (u0 ht W hd);have hstp:ns.take (j+1)=ns.take j++[n]:=by rw[Bh,W];rfl
   have hq1:((ps.flatMap pfR++ns.take j).map bO).length=(ps.flatMap pfR++ns.take j).length:=ξ _;have hql:(ps.flatMap pfR++ns.take j).length≤540000000000:=by rw[Aa,At];omega
   refine aD (a8 (aC (sgh [(0,.rowR j [.ep 701 j 0 tys.length])] rfl (a8 (sgh [(2,.row j (bC (.mk n t p)))] rfl (aA rfl (fun hb=>?_) (fun hb=>?_)))))))
   ·have hns:n=s:=φ hb;have he:cD sb s b ns ps=(ns,ps):=by
     unfold cD;rw[ψ fun h=>h.2 (hns▸η W)]
    rw[he];exact aI ⟨.inr rfl,aBx hF (by repeat (first | exact FarEq.raw hF | (refine FarEq.updL hF ?_) | (refine FarEq.upd hF ?_))) ⟨[],[],.nil,.nil,rfl⟩ (fun _ h=>by cases h) tHW.refs (fun i hi=>GW.kf i hi) (fun p hp=>by rcases ω.1 hp with hp | hp;exact(A3.1 (tHW (tys:=tys) (nk:=nk) (ns:=ns) (ps:=ps)).plain) p hp;cases hp)⟩
   have hns:¬n=s:=δ hb;refine aD ?_;generalize ps.flatMap pfR=fm at *;rw[show fm++ns.take j=fm++ns.take j from rfl];generalize hq:fm++ns.take j=q at *;refine ag [(3,.row j (bC (.mk n t p)))] rfl (AWp.sub (Sub.freeze (id:=720) rfl) ?_);refine ag [] rfl ⟨j+1,⟨hlt,?_⟩,by dsimp only;omega,?_⟩
   ·rw[hstp];intro h;rcases ω.1 h with h | h
    ·exact hnos h
    ·exact hns (Ac.1 h).symm
   dsimp only;rw[hstp,←Aw,hq];exact slG tHW (h1:=Kn.app Kn.nil (Kn.app (Kn.of rfl) (Kn.app (Kn.of rfl) (Kn.app (Kn.of rfl) (Kn.app (hkn _ _ _) Kn.nil))))) (h2:=⟨Z _ _ _,Kn.of rfl,Kn.of rfl,trivial⟩) (he:=⟨rfl,rfl,rfl,Go.AM.hs_ren (by simp) (by simp),congrArg some (V.ren_id _).symm,rfl,rfl,trivial⟩) (hh:=⟨⟨_,rfl,.varS rfl⟩,⟨_,rfl,.varS rfl⟩,⟨_,rfl,.arrS (by simp[bO,Bind.name])⟩,⟨_,rfl,.arr⟩,⟨_,rfl,.arr⟩,trivial⟩)
  have hge:j=ns.length:=by
   have:¬(j:Int)<((tN tys.length).length:Int):=δ hb;omega
  subst hge;rw[Au] at hnos ⊢;have hput:cD sb s b ns ps=((gSt sb b ns ps ns.length).1,(gSt sb b ns ps ns.length).2.1.map fun p=>sb p s b):=by
   unfold cD;rw[θ ⟨hin,hnos⟩,aKo]
  have hql:(ps.flatMap pfR++ns).length≤540000000000:=by rw[Aa];omega
  have hq1:((ps.flatMap pfR++ns).map bO).length=(ps.flatMap pfR++ns).length:=ξ _;have hq2:((pfR b).map bO).length=(pfR b).length:=ξ _;have hfar:=hok.far;refine aM (sk 1 rfl (kc hfar ?_));refine kz 1 rfl ?_;have hlq:(ps.flatMap pfR++ns).length+(pfR b).length≤540000000000:=by rw[Aa];omega
  refine sg rfl (AWp.sub (Sub.freeze (id:=720) rfl) ?_);refine sg rfl (a8 (sg rfl (aC ?_)));have hall:∀i,i≤ns.length→(gSt sb b ns ps i).2.2.length≤540000000000:=fun i hi=>by
   have h1:=(gJ (sb:=sb) (b:=b) (ps:=ps) hi).2.2
   simp only[Aa] at h1;omega
  refine aL (fun i:Nat=>mkt [(1,Go.AM.T s),(5,.one (.vp 5 0)),(6,tkV (gSt sb b ns ps i).2.2),(11,bN (pfR b)),(12,.one (.clo 144 [.vp 3 0])),(60,.one (.ras (tN tys.length).length 1 (tN tys.length))),(61,I .i64 (((tN tys.length).length:Nat):Int)),(62,I .i64 i)] ([(3,grO (tN tys.length) (tP nk tys.length)),(5,.var 37 (b9 b)),(720,tkA (gSt sb b ns ps i).2.2)]++tH tys nk (gNs sb b ns ps i) (gSt sb b ns ps i).2.1) []) (fun i=>i≤(tN tys.length).length) (fun i=>(tN tys.length).length-i) 0 (Ak _) ?_ ?_
  ·rw[wS,aEs];exact slG tHW (h1:=Kn.app Kn.nil (Kn.app (Kn.of rfl) (Kn.app (Kn.of rfl) (Kn.app Kn.nil (Kn.app (Kn.of rfl) (Kn.app (hkn _ _ _) Kn.nil)))))) (h2:=⟨Z _ _ _,Kn.of rfl,Kn.of rfl,trivial⟩) (he:=⟨rfl,rfl,Go.AM.hs_ren (by simp only[Aa,ξ]) (by simp only[Aa,ξ]),rfl,rfl,congrArg some (V.ren_id _).symm,rfl,rfl,trivial⟩) (hh:=⟨⟨_,rfl,.varS rfl⟩,⟨_,rfl,.varS rfl⟩,⟨_,rfl,.arrS (by simp)⟩,⟨_,rfl,.arr⟩,⟨_,rfl,.arr⟩,trivial⟩)
  intro i hi;have hle:i≤ns.length:=by omega
  refine sg rfl (a8 (aA rfl (fun hb=>?_) (fun hb=>?_)))
  ·have hlt:i<(tN tys.length).length:=by
    have:(i:Int)<((tN tys.length).length:Int):=φ hb;omega
   have aa:i<tys.length:=by omega
   obtain⟨t,ht⟩:=aK aa;obtain⟨n,W⟩:=aK (show i<ns.length by omega);obtain⟨hg1,hg2,hg3⟩:=gJ (sb:=sb) (b:=b) (ps:=ps) hle;have hgl:=aKr (sb:=sb) (b:=b) (ps:=ps) hle;have hga:=aRd (sb:=sb) (b:=b) (ps:=ps) W;have hP:=aKp hok hle (hall i hle) (fun j hj=>hall j (by omega));have hs3:=hsz1 _ hg2;have hs4:=hsz2 _ _ hgl hg2;have O:=nL (sb:=sb) (b:=b) (ps:=ps) W;have hnin:=aRc (sb:=sb) (b:=b) (ps:=ps) W;have hnout:=aKq (sb:=sb) (b:=b) (ps:=ps) W;have hall0:=hall i hle;have ht1:=aVh aa;have hcf:=bU (pfR b) n (by omega);have hcr:=xE (gSt sb b ns ps i).2.2 (by omega) fun k hk=>hok.itoa k (by omega)
   generalize gSt sb b ns ps i=G at *;generalize gNs sb b ns ps i=N at *;obtain⟨d0,qs,tk⟩:=G;dsimp only at *;obtain⟨p,Y⟩:=aK (show nk+i<qs.length by omega);have hd:(qs.drop nk)[i]?=some p:=by rw[An];exact Y
   have hrow:(aR (mkB tys N (qs.drop nk)))[i]?=some (bC (.mk n t p)):=dJ (u0 ht hga hd);refine aD (a8 (aC (sgh [(0,.rowR i [.ep 701 i 0 tys.length])] rfl (skh 4 [(3,.row i (bC (.mk n t p)))] rfl (kc hcf ?_)))));refine az (aA rfl (fun hb=>?_) (fun hb=>?_))
   ·have hmem:n∈pfR b:=φ hb;have hnin:=hnin hmem;unfold eG at O;rw[θ hmem] at O;dsimp only at O;have hz:(bA tk).length≤30:=le_trans (jB _ hall0) (by omega);have hca:=aRr tys nk N qs n (vC (bA tk)) (fun p=>sb p n (vC (bA tk))) (by omega) (by omega) (by omega) fun p hp=>hok.subz p n _ (hP p hp) hz
    have hcv:=s7 (bA tk);have hqt:(tk.map bO).length=tk.length:=ξ _;generalize bA tk=z at *;refine sk 1 rfl (kc hcr ?_);refine kz 1 rfl (sg rfl (AWp.sub (Sub.freeze (id:=720) rfl) ?_));refine skh 5 [(3,.row i (bC (.mk n t p)))] rfl (kc hcv ?_);refine kv (caps:=[.vp 3 0]) (args:=[Go.AM.T n,.pa (aB (vC z))]) hca ?_ (hok:=aDf);refine az ?_;have hml:(qs.map fun p=>sb p n (vC z)).length=ps.length:=by rw[ξ];exact hg2
    have hd2:((qs.map fun p=>sb p n (vC z)).drop nk)[i]?=some (sb p n (vC z)):=by rw[An,A5,Y];rfl
    have hrow2:(aR (mkB tys N ((qs.map fun p=>sb p n (vC z)).drop nk)))[i]?=some (bC (.mk n t (sb p n (vC z)))):=dJ (u0 ht hga hd2);have hs5:=hsz1 _ hml;have hs6:=hsz2 _ _ hgl hml;refine ag [(3,.row i (bC (.mk n t (sb p n (vC z)))))] rfl (ag [] rfl ⟨i+1,hlt,by dsimp only;omega,?_⟩);dsimp only;rw[O,hnin];dsimp only;refine slG tHW (fun i hi=>GW.kf i hi) (h1:=Kn.app Kn.nil (Kn.app (Kn.of rfl) (Kn.app (Kn.of rfl) (Kn.app Kn.nil (Kn.app (Kn.of rfl) (Kn.app (hkn _ _ _) Kn.nil)))))) (h2:=⟨Z _ _ _,Kn.of rfl,Kn.of rfl,trivial⟩) (he:=⟨rfl,rfl,Go.AM.hs_ren (by simp) (by simp),rfl,rfl,congrArg some (V.ren_id _).symm,rfl,rfl,trivial⟩) (hh:=⟨⟨_,rfl,.varS rfl⟩,⟨_,rfl,.varS rfl⟩,⟨_,rfl,.arrS (by simp[bO])⟩,⟨_,rfl,.arrS ?_⟩,⟨_,rfl,.arr⟩,trivial⟩);rw[←aEa z ht hd2 (by omega),←iZ];rfl
   ·have hmem:¬n∈pfR b:=δ hb;unfold eG at O;rw[ψ hmem] at O;dsimp only at O;refine aD (ag [] rfl ⟨i+1,hlt,by dsimp only;omega,?_⟩);dsimp only;rw[O,hnout hmem];exact slG tHW (fun i hi=>GW.kf i hi) (h1:=Kn.app Kn.nil (Kn.app (Kn.of rfl) (Kn.app (Kn.of rfl) (Kn.app Kn.nil (Kn.app (Kn.of rfl) (Kn.app (hkn _ _ _) Kn.nil)))))) (h2:=⟨Z _ _ _,Kn.of rfl,Kn.of rfl,trivial⟩)
  have hge:i=ns.length:=by
   have:¬(i:Int)<((tN tys.length).length:Int):=δ hb;omega
  subst hge;have hP:=aKp hok (le_refl ns.length) (hall _ (le_refl _)) (fun j hj=>hall j hj);obtain⟨hg1,hg2,_⟩:=gJ (sb:=sb) (b:=b) (ps:=ps) (le_refl ns.length);rw[hput];rw[aKs];generalize gSt sb b ns ps ns.length=G at *;obtain⟨N,qs,tk⟩:=G;dsimp only at *;have hca:=aRr tys nk N qs s b (fun p=>sb p s b) (by omega) (by omega) (by omega) fun p hp=>hok.subb p (hP p hp)
  refine aM (aE mixed (ak 3 [] rfl (kv (caps:=[.vp 3 0]) (args:=[Go.AM.T s,.pa (aB b)]) hca ?_ (hok:=aDf))));exact az ⟨.inl rfl,aBx hF (FarEq.outs hF) ⟨[],[],.nil,.nil,rfl⟩ (fun _ h=>by cases h) tHW.refs (fun i hi=>GW.kf i hi) (fun p hp=>by rcases ω.1 hp with hp | hp;exact(A3.1 (tHW (tys:=tys) (nk:=nk) (ns:=ns) (ps:=ps)).plain) p hp;cases hp)⟩
def aDq (af an:Int) (anm:Str) (nv:Nat) (p:Core):List R:=[.c (.int .i64 af),.c (.int .i64 an),.c (.str anm),.hs 704 0 nv nv]++(aB p).map R.c
def aH (rs:List (List R)) (k:Nat) (af an:Int) (anm:Str) (nv:Nat) (ns:List Str) (p:Core):List (Nat×AObj):=[(703,.rarr 88 14 (rs.set k (aDq af an anm nv p))),(704,.arr 9 1 (ns.map bO) 0)]
def aN (nv:Nat):List R:=(rgR (fun j=>[.ep 704 j 0 nv]) nv).flatten
def aP (k na:Nat):List R:=[.rp 703 k 4 na]
theorem aR0 {nv:Nat}:(aN nv).length=nv:=by
 unfold aN;rw[mC (r4 fun _=>rfl),fP,mul_one]
theorem aX9 {nv j:Nat}(h:j<nv):((aN nv).drop (j*1)).take 1=[.ep 704 j 0 nv]:=eD (r4 fun _=>rfl) j _ (aDr h)
theorem aMr {nv:Nat}:∀x∈R.refsL (aN nv),x=704:=fun x hx=>by
 unfold aN at hx;rw[dB] at hx;exact lR (L:=fun x=>x=704) (fun j x hx=>by simpa [R.refsL,R.refs] using hx) _ x hx
theorem aCf {k I nv:Nat}:∀x∈(grO (aN nv) (aP k I)).refs,x=703∨x=704:=fun x hx=>by
 have hx:x∈R.refsL (aN nv)++(R.refsL (aP k I)++[]):=hx;rw[A8] at hx;rcases ω.1 hx with hx | hx
 ·exact .inr (aMr x hx)
 ·exact .inl (by simpa [aP,R.refsL,R.refs] using hx)
theorem yD {x:Nat}:∀{rs:List (List R)}{k:Nat}{r:List R},x∈c7 (rs.set k r)→x∈c7 rs∨x∈R.refsL r
 | [],_,_,h=>.inl h
 | q::rs,0,r,h=>by
  rcases ω.1 (show x∈R.refsL r++c7 rs from h) with h | h
  ·exact .inr h
  ·exact .inl (ω.2 (.inr h))
 | q::rs,k+1,r,h=>by
  rcases ω.1 (show x∈R.refsL q++c7 (rs.set k r) from h) with h | h
  ·exact .inl (ω.2 (.inl h))
  ·exact(yD h).imp (fun h=>ω.2 (.inr h)) id
theorem aIh {af an:Int}{anm:Str}{nv:Nat}{p:Core}{x:Nat}(h:x∈R.refsL (aDq af an anm nv p)):x=704:=by
 unfold aDq aB at h;simpa [R.refsL,R.refs] using h
abbrev aG (rs:List (List R)) (k:Nat) (af an:Int) (anm:Str) (nv:Nat) (ns:List Str) (p:Core):List (Nat×AObj):=(3,grO (aN nv) (aP k rs.length))::aH rs k af an anm nv ns p
section
variable {rs:List (List R)}{k:Nat}{af an:Int}{anm:Str}{nv:Nat}{ns:List Str}{p:Core}{F:List (Nat×AObj)}
theorem aHW (I:TF F) (J:∀x∈c7 rs,x∈keys F):GW (aH rs k af an anm nv ns p) F:=⟨I,fun x hx=>by
 have hx:x∈c7 (rs.set k (aDq af an anm nv p))++[]:=hx;rw[A8] at hx;rcases yD hx with h | h
 ·exact .inr (J x h)
 ·rw[aIh h];exact .inl (by simp[aH,keys]),rfl,rfl⟩
theorem aGW (I:TF F) (J:∀x∈c7 rs,x∈keys F):GW (aG rs k af an anm nv ns p) F:=⟨I,fun x hx=>by
 rcases ω.1 (show x∈(grO (aN nv) (aP k rs.length)).refs++dM (aH rs k af an anm nv ns p) from hx) with hx | hx
 ·rcases aCf x hx with rfl | rfl
  ·exact .inl (by simp[aG,aH,keys])
  ·exact .inl (by simp[aG,aH,keys])
 ·exact((aHW I J).refs x hx).imp (fun h=>κ _ h) id,rfl,rfl⟩
end
theorem aVs {rs:List (List R)}{k:Nat}{r r':List R}:(rs.set k r).set k r'=rs.set k r':=List.set_set ..
theorem aRs (rs:List (List R)) (k:Nat) (af an:Int) (anm:Str) (nv:Nat) (ns:List Str) (p:Core) (F:List (Nat×AObj)) (nm:Str) (b:Core) (sb:Core→Core) (J:TF F) (Z:∀x∈c7 rs,x∈keys F) (hk:k<rs.length)
  (hc:aW Tryz.prog 106 [.pa (aB p),Go.AM.T nm,.pa (aB b)] [] (.pa (aB (sb p))) []):
  aW Tryz.prog 144 [Go.AM.T nm,.pa (aB b),.one (.vp 3 0)] (aG rs k af an anm nv ns p++F) (.tup []) (aG rs k af an anm nv ns (sb p)++F):=by
 have W:∀p,GW (aG rs k af an anm nv ns p) F:=fun p=>aGW J Z
 have ab:rs.length=(rs.set k (aDq af an anm nv p)).length:=(B0 ..).symm;have aa:(rs.set k (aDq af an anm nv p))[k]?=some (aDq af an anm nv p):=Cj hk;refine sO J (n:=23) tok Tryz.func144 rfl rfl rfl ?_;refine sg rfl (sg rfl (aC (aL (fun j:Nat=>mkt [(0,Go.AM.T nm),(2,.one (.vp 3 0)),(4,.one (.vp 4 0)),(8,.one (.ras 1 1 (aP k rs.length))),(9,I .i64 ((1:Nat):Int)),(10,I .i64 j)] ([(4,.var 37 (b9 b))]++aG rs k af an anm nv ns (if j=0 then p else sb p)) F) (fun j=>j≤1) (fun j=>1-j) 0 (Ak _) ?_ ?_)))
 ·exact slG (W _)
 intro j hj;refine sg rfl (a8 (aA rfl (fun hb=>?_) (fun hb=>?_)))
 ·have O:j=0:=by
   have:(j:Int)<((1:Nat):Int):=φ hb;omega
  subst O;rw[θ rfl];refine aD (a8 (aC (sg rfl (aE mixed (ak 6 [(3,.rr (aDq af an anm nv p))] rfl (kc hc ?_))))));refine ak 2 [(8,.rr (aDq af an anm nv p))] rfl (az (ag [] rfl ⟨1,le_refl _,by dsimp only;omega,?_⟩));dsimp only;rw[ψ (by decide)];exact slG (W _) (fun i hi=>GW.kf i hi) (hh:=⟨⟨_,rfl,.varS rfl⟩,⟨_,rfl,.varS rfl⟩,⟨_,rfl,.rarrS aVs⟩,⟨_,rfl,.arr⟩,trivial⟩)
 have Y:j=1:=by
  have:¬(j:Int)<((1:Nat):Int):=δ hb;omega
 subst Y;rw[ψ (by decide)];refine aM ?_;exact⟨.inl rfl,aBx J (by repeat (first | exact FarEq.raw J | (refine FarEq.updL J ?_) | (refine FarEq.upd J ?_))) ⟨[],[],.nil,.nil,rfl⟩ (fun _ h=>by cases h) (W _).refs (fun i hi=>GW.kf i hi) (fun q N=>by rcases ω.1 N with N | N;exact(A3.1 (W p).plain) q N;exact(J.ok q N).2)⟩
theorem aFp {rs:List (List R)}{k:Nat}{af an:Int}{anm:Str}{nv:Nat}{ns:List Str}{p:Core}{F:List (Nat×AObj)}(I:TF F) (J:∀x∈c7 rs,x∈keys F) {n:Str}{l:List C}:k9 ([Go.AM.T n,.pa l]++List.map V.one [R.vp 3 0]) (aG rs k af an anm nv ns p++F)=true:=by
 refine n6 I (fun x hx=>.inl ?_) (aGW I J).refs;have:x=3:=by simpa [V.refsL,V.refs,R.refs] using hx
 subst this;simp[aG,keys]
theorem aX8 {rs:List (List R)}{k:Nat}{af an:Int}{anm:Str}{nv:Nat}{ns ns':List Str}{p p':Core}{F:List (Nat×AObj)}{h:cO}:eQ (fun q=>q.1∈keys (aG rs k af an anm nv ns p++F)∨h q.1=none) (aG rs k af an anm nv ns' p'++F):=eQ.of fun q I=>.inl (by
 have h1:q.1∈keys (aG rs k af an anm nv ns' p'++F):=Ad.2 ⟨q,I,rfl⟩
 exact h1)
theorem aXr (rs:List (List R)) (k:Nat) (af an:Int) (anm:Str) (nv:Nat) (ns:List Str) (p:Core) (F:List (Nat×AObj)) (s:Str) (b:Core) (sb:Core→Str→Core→Core) (P:Core→Prop) (J:TF F) (hr:∀x∈c7 rs,x∈keys F) (hk:k<rs.length) (hn:ns.length=nv) (hok:PutOk sb P s b [p])
  (hM:(pfR p).length+2*ns.length+(pfR b).length+1≤540000000000):
  ∃q,(cD sb s b ns [p]).2=[q]∧aW Tryz.prog 126 [gpV (aN nv) (aP k rs.length),Go.AM.T s,.pa (aB b)] (aH rs k af an anm nv ns p++F) (.tup []) (aH rs k af an anm nv (cD sb s b ns [p]).1 q++F):=by
 have hln:=(pV (sb:=sb) (s:=s) (b:=b) (ns:=ns) (ps:=[p])).2
 obtain⟨q,O⟩:∃q,(cD sb s b ns [p]).2=[q]:=Bp.1 hln;refine⟨q,O,?_⟩;have hnl:=aR0 (nv:=nv);have W:∀ns p,GW (aH rs k af an anm nv ns p) F:=fun _ _=>aHW J hr
 have ad:∀ex ns' p',∀x∈R.refsL (aN nv),Kn ex (aH rs k af an anm nv ns' p') F x:=fun ex ns' p' x hx=>by
  have:=aMr x hx;subst this;exact .inr (.inl (by simp[aH,keys]))
 have aa:∀ex ns' p',∀x∈(grO (aN nv) (aP k rs.length)).refs,Kn ex (aH rs k af an anm nv ns' p') F x:=fun ex ns' p' x hx=>by
  rcases aCf x hx with rfl | rfl
  ·exact .inr (.inl (by simp[aH,keys]))
  ·exact .inr (.inl (by simp[aH,keys]))
 have hsz:∀p,rs.length=(rs.set k (aDq af an anm nv p)).length:=fun p=>(B0 ..).symm
 have hrow:∀p,(rs.set k (aDq af an anm nv p))[k]?=some (aDq af an anm nv p):=fun p=>Cj hk
 have hszp:=hsz p;have hrowp:=hrow p;have am:([p]:List Core).flatMap pfR=pfR p:=by simp
 have hkl:nv=(ns.map bO).length:=by rw[ξ];exact hn.symm
 have hf:=hok.free p (by simp);have hq0:((pfR p).map bO).length=(pfR p).length:=ξ _;refine sO J (n:=92) tok Tryz.func126 rfl rfl rfl ?_;refine sg rfl (sg rfl (AWp.sub (Sub.own (t:=6) (id:=720) 9 1 rfl rfl) (AWp.sub (Sub.freeze (id:=720) rfl) ?_)));refine a8 (sg rfl (aC (aL (fun j:Nat=>mkt [(1,Go.AM.T s),(3,.one (.vp 3 0)),(5,.one (.vp 5 0)),(6,tkV (if j=0 then [] else pfR p)),(17,.one (.ras 1 1 (aP k rs.length))),(18,I .i64 ((1:Nat):Int)),(19,I .i64 j)] ([(3,grO (aN nv) (aP k rs.length)),(5,.var 37 (b9 b)),(720,tkA (if j=0 then [] else pfR p))]++aH rs k af an anm nv ns p) F) (fun j=>j≤1) (fun j=>1-j) 0 (Ak _) ?_ ?_)))
 ·exact slG (W _ _) (h2:=⟨aa _ _ _,Kn.of rfl,Kn.of rfl,trivial⟩)
 ·intro j hj;refine sg rfl (a8 (aA rfl (fun hb=>?_) (fun hb=>?_)))
  ·have hj0:j=0:=by
    have:(j:Int)<((1:Nat):Int):=φ hb;omega
   subst hj0;rw[θ rfl];refine aD (a8 (aC (sg rfl (aE mixed (ak 4 [(3,.rr (aDq af an anm nv p))] rfl (kc hf ?_))))));refine kz 2 rfl (AWp.sub (Sub.freeze (id:=720) rfl) ?_);refine ag [] rfl ⟨1,le_refl _,by dsimp only;omega,?_⟩;dsimp only;rw[ψ (by decide)];exact slG (W _ _) (h2:=⟨aa _ _ _,Kn.of rfl,Kn.of rfl,trivial⟩) (he:=⟨rfl,rfl,rfl,Go.AM.hs_ren (by simp) (by simp),rfl,rfl,rfl,trivial⟩) (hh:=⟨⟨_,rfl,.varS rfl⟩,⟨_,rfl,.varS rfl⟩,⟨_,rfl,.arrS (by simp)⟩,⟨_,rfl,.rarrS rfl⟩,⟨_,rfl,.arr⟩,trivial⟩)
  have ae:j=1:=by
   have:¬(j:Int)<((1:Nat):Int):=δ hb;omega
  subst ae;rw[ψ (by decide)];refine aM ?_;have hct:=bU (pfR p) s (by omega);refine a8 (sk 2 rfl (kc hct ?_));refine kz 1 rfl (aA rfl (fun hb=>?_) (fun hb=>?_))
  ·have hno:¬s∈pfR p:=by
    intro h;have hb:(!decide (s∈pfR p))=true:=hb;rw[Ai h] at hb;cases hb
   have he:cD sb s b ns [p]=(ns,[p]):=by unfold cD;rw[ψ fun h=>hno (by have:=h.1;rwa [am] at this)]
   have hqp:q=p:=by rw[he] at O;exact(List.singleton_inj.1 O).symm
   rw[he,hqp];exact aI ⟨.inr rfl,aBx J (by repeat (first | exact FarEq.raw J | (refine FarEq.updL J ?_) | (refine FarEq.upd J ?_))) ⟨[],[],.nil,.nil,rfl⟩ (fun _ h=>by cases h) (W _ _).refs (fun i hi=>GW.kf i hi) (fun q O=>by rcases ω.1 O with O | O;exact(A3.1 (W ns p).plain) q O;exact(J.ok q O).2)⟩
  have hin:s∈pfR p:=by
   have hb:(!decide (s∈pfR p))=false:=hb;by_cases h:s∈pfR p
   ·exact h
   ·rw[Am h] at hb;cases hb
  refine aD (a8 (sg rfl (aC (aL (fun j:Nat=>mkt [(1,Go.AM.T s),(3,.one (.vp 3 0)),(5,.one (.vp 5 0)),(6,tkV (pfR p++ns.take j)),(35,.one (.ras (aN nv).length 1 (aN nv))),(36,I .i64 (((aN nv).length:Nat):Int)),(37,I .i64 j)] ([(3,grO (aN nv) (aP k rs.length)),(5,.var 37 (b9 b)),(720,tkA (pfR p++ns.take j))]++aH rs k af an anm nv ns p) F) (fun j=>j≤(aN nv).length∧¬s∈ns.take j) (fun j=>(aN nv).length-j) 0 ⟨Ak _,by simp⟩ ?_ ?_))))
  ·exact slG (W _ _) (h1:=Kn.app Kn.nil (Kn.app (Kn.of rfl) (Kn.app (Kn.of rfl) (Kn.app (Kn.of rfl) (Kn.app (ad _ _ _) Kn.nil))))) (h2:=⟨aa _ _ _,Kn.of rfl,Kn.of rfl,trivial⟩) (he:=⟨rfl,rfl,rfl,Go.AM.hs_ren (by simp) (by simp),congrArg some (V.ren_id _).symm,rfl,rfl,trivial⟩) (hh:=⟨⟨_,rfl,.varS rfl⟩,⟨_,rfl,.varS rfl⟩,⟨_,rfl,.arrS (by simp)⟩,⟨_,rfl,.rarrS rfl⟩,⟨_,rfl,.arr⟩,trivial⟩)
  rintro j ⟨hj,ai⟩;refine sg rfl (a8 (aA rfl (fun hb=>?_) (fun hb=>?_)))
  ·have ap:j<(aN nv).length:=by
    have:(j:Int)<((aN nv).length:Int):=φ hb;omega
   have hjb:j<nv:=by omega
   obtain⟨n,Z⟩:=aK (show j<ns.length by omega);have ht1:=aX9 hjb;have hrown:(ns.map bO)[j]?=some (bO n):=bJ bO Z;have hstp:ns.take (j+1)=ns.take j++[n]:=by rw[Bh,Z];rfl
   have hq1:((pfR p++ns.take j).map bO).length=(pfR p++ns.take j).length:=ξ _;have hql:(pfR p++ns.take j).length≤540000000000:=by rw[Aa,At];omega
   refine aD (a8 (aC (sgh [(0,.rowR j [.ep 704 j 0 nv])] rfl (a8 (sgh [(2,.row j (bO n))] rfl (aA rfl (fun hb=>?_) (fun hb=>?_)))))))
   ·have hns:n=s:=φ hb;have he:cD sb s b ns [p]=(ns,[p]):=by
     unfold cD;rw[ψ fun h=>h.2 (hns▸η Z)]
    have hqp:q=p:=by rw[he] at O;exact(List.singleton_inj.1 O).symm
    rw[he,hqp];exact aI ⟨.inr rfl,aBx J (by repeat (first | exact FarEq.raw J | (refine FarEq.updL J ?_) | (refine FarEq.upd J ?_))) ⟨[],[],.nil,.nil,rfl⟩ (fun _ h=>by cases h) (W _ _).refs (fun i hi=>GW.kf i hi) (fun q O=>by rcases ω.1 O with O | O;exact(A3.1 (W ns p).plain) q O;exact(J.ok q O).2)⟩
   have hns:¬n=s:=δ hb;refine aD ?_;generalize pfR p=fm at *;generalize hq2:fm++ns.take j=qq at *;refine ag [(3,.row j (bO n))] rfl (AWp.sub (Sub.freeze (id:=720) rfl) ?_);refine ag [] rfl ⟨j+1,⟨ap,?_⟩,by dsimp only;omega,?_⟩
   ·rw[hstp];intro h;rcases ω.1 h with h | h
    ·exact ai h
    ·exact hns (Ac.1 h).symm
   dsimp only;rw[hstp,←Aw,hq2];exact slG (W _ _) (h1:=Kn.app Kn.nil (Kn.app (Kn.of rfl) (Kn.app (Kn.of rfl) (Kn.app (Kn.of rfl) (Kn.app (ad _ _ _) Kn.nil))))) (h2:=⟨aa _ _ _,Kn.of rfl,Kn.of rfl,trivial⟩) (he:=⟨rfl,rfl,rfl,Go.AM.hs_ren (by simp) (by simp),congrArg some (V.ren_id _).symm,rfl,rfl,trivial⟩) (hh:=⟨⟨_,rfl,.varS rfl⟩,⟨_,rfl,.varS rfl⟩,⟨_,rfl,.arrS (by simp[bO])⟩,⟨_,rfl,.rarrS rfl⟩,⟨_,rfl,.arr⟩,trivial⟩)
  have ae:j=ns.length:=by
   have:¬(j:Int)<((aN nv).length:Int):=δ hb;omega
  subst ae;rw[Au] at ai ⊢;have hput:cD sb s b ns [p]=((gSt sb b ns [p] ns.length).1,(gSt sb b ns [p] ns.length).2.1.map fun p=>sb p s b):=by
   unfold cD;rw[θ ⟨by rw[am];exact hin,ai⟩,aKo]
  have hql:(pfR p++ns).length≤540000000000:=by rw[Aa];omega
  have hq1:((pfR p++ns).map bO).length=(pfR p++ns).length:=ξ _;have hq2:((pfR b).map bO).length=(pfR b).length:=ξ _;have hfar:=hok.far;refine aM (sk 1 rfl (kc hfar ?_));refine kz 1 rfl ?_;have hlq:(pfR p++ns).length+(pfR b).length≤540000000000:=by rw[Aa];omega
  refine sg rfl (AWp.sub (Sub.freeze (id:=720) rfl) ?_);refine sg rfl (a8 (sg rfl (aC ?_)));have ab:∀i,i≤ns.length→(gSt sb b ns [p] i).2.2.length≤540000000000:=fun i hi=>by
   have h1:=(gJ (sb:=sb) (b:=b) (ps:=[p]) hi).2.2
   rw[am] at h1;simp only[Aa] at h1;omega
  have hone:∀i,i≤ns.length→∃x,(gSt sb b ns [p] i).2.1=[x]:=fun i hi=>Bp.1 (gJ (sb:=sb) (b:=b) (ps:=[p]) hi).2.1
  have hhd:∀i,i≤ns.length→(gSt sb b ns [p] i).2.1=[(gSt sb b ns [p] i).2.1.headD p]:=fun i hi=>by
   obtain⟨x,hx⟩:=hone i hi;rw[hx];rfl
  refine aL (fun i:Nat=>mkt [(1,Go.AM.T s),(5,.one (.vp 5 0)),(6,tkV (gSt sb b ns [p] i).2.2),(11,bN (pfR b)),(12,.one (.clo 144 [.vp 3 0])),(60,.one (.ras (aN nv).length 1 (aN nv))),(61,I .i64 (((aN nv).length:Nat):Int)),(62,I .i64 i)] ([(3,grO (aN nv) (aP k rs.length)),(5,.var 37 (b9 b)),(720,tkA (gSt sb b ns [p] i).2.2)]++aH rs k af an anm nv (gNs sb b ns [p] i) ((gSt sb b ns [p] i).2.1.headD p)) F) (fun i=>i≤(aN nv).length) (fun i=>(aN nv).length-i) 0 (Ak _) ?_ ?_
  ·rw[wS,aEs,am];exact slG (W _ _) (h1:=Kn.app Kn.nil (Kn.app (Kn.of rfl) (Kn.app (Kn.of rfl) (Kn.app Kn.nil (Kn.app (Kn.of rfl) (Kn.app (ad _ _ _) Kn.nil)))))) (h2:=⟨aa _ _ _,Kn.of rfl,Kn.of rfl,trivial⟩) (he:=⟨rfl,rfl,Go.AM.hs_ren (by simp only[Aa,ξ]) (by simp only[Aa,ξ]),rfl,rfl,congrArg some (V.ren_id _).symm,rfl,rfl,trivial⟩) (hh:=⟨⟨_,rfl,.varS rfl⟩,⟨_,rfl,.varS rfl⟩,⟨_,rfl,.arrS (by simp)⟩,⟨_,rfl,.rarrS rfl⟩,⟨_,rfl,.arr⟩,trivial⟩)
  intro i hi;have hle:i≤ns.length:=by omega
  refine sg rfl (a8 (aA rfl (fun hb=>?_) (fun hb=>?_)))
  ·have ap:i<(aN nv).length:=by
    have:(i:Int)<((aN nv).length:Int):=φ hb;omega
   have hjb:i<nv:=by omega
   obtain⟨n,Z⟩:=aK (show i<ns.length by omega);obtain⟨hg1,hg2,hg3⟩:=gJ (sb:=sb) (b:=b) (ps:=[p]) hle;have hgl:=aKr (sb:=sb) (b:=b) (ps:=[p]) hle;have hga:=aRd (sb:=sb) (b:=b) (ps:=[p]) Z;have hP:=aKp hok hle (ab i hle) (fun j hj=>ab j (by omega));have Y:=nL (sb:=sb) (b:=b) (ps:=[p]) Z;have aj:=aRc (sb:=sb) (b:=b) (ps:=[p]) Z;have hnout:=aKq (sb:=sb) (b:=b) (ps:=[p]) Z;have hall0:=ab i hle;have ah:=hhd i hle;have ht1:=aX9 hjb;have hcf:=bU (pfR b) n (by omega);have hcr:=xE (gSt sb b ns [p] i).2.2 (by omega) fun k hk=>hok.itoa k (by omega)
   generalize gSt sb b ns [p] i=G at *;generalize gNs sb b ns [p] i=N at *;obtain⟨d0,qs,tk⟩:=G;dsimp only at *;generalize qs.headD p=x at ah ⊢;subst ah;have hrown:(N.map bO)[i]?=some (bO n):=bJ bO hga;have hkN:nv=(N.map bO).length:=by rw[ξ];omega
   have hszx:=hsz x;have hrowx:=hrow x;refine aD (a8 (aC (sgh [(0,.rowR i [.ep 704 i 0 nv])] rfl (skh 4 [(3,.row i (bO n))] rfl (kc hcf ?_)))));refine az (aA rfl (fun hb=>?_) (fun hb=>?_))
   ·have ac:n∈pfR b:=φ hb;have aj:=aj ac;unfold eG at Y;rw[θ ac] at Y;dsimp only at Y;have hz:(bA tk).length≤30:=le_trans (jB _ hall0) (by omega);have hca:=aRs rs k af an anm nv N x F n (vC (bA tk)) (fun p=>sb p n (vC (bA tk))) J hr hk (hok.subz x n _ (hP x (by simp)) hz);have hcv:=s7 (bA tk);have hqt:(tk.map bO).length=tk.length:=ξ _;generalize bA tk=z at *;refine sk 1 rfl (kc hcr ?_);refine kz 1 rfl (sg rfl (AWp.sub (Sub.freeze (id:=720) rfl) ?_));refine skh 5 [(3,.row i (bO n))] rfl (kc hcv ?_);refine kv (caps:=[.vp 3 0]) (args:=[Go.AM.T n,.pa (aB (vC z))]) hca ?_ (hin':=eQ.app ⟨rfl,rfl,rfl,trivial⟩ (FarEq.all (by repeat (first | exact FarEq.raw J | (refine FarEq.updL J ?_) | (refine FarEq.upd J ?_))))) (hout':=aX8) (hok:=aFp J hr);refine az (AWp.sub (Sub.outsT J) ?_);refine ag [(3,.row i (bO n))] rfl (ag [] rfl ⟨i+1,ap,by dsimp only;omega,?_⟩);dsimp only;rw[Y,aj];dsimp only;refine slG (W _ _) (fun i hi=>GW.kf i hi) (by repeat (first | exact FarEq.bif J (FarEq.outs J) | (refine FarEq.updL J ?_) | (refine FarEq.upd J ?_))) (h1:=Kn.app Kn.nil (Kn.app (Kn.of rfl) (Kn.app (Kn.of rfl) (Kn.app Kn.nil (Kn.app (Kn.of rfl) (Kn.app (ad _ _ _) Kn.nil)))))) (h2:=⟨aa _ _ _,Kn.of rfl,Kn.of rfl,trivial⟩) (he:=⟨rfl,rfl,Go.AM.hs_ren (by simp) (by simp),rfl,rfl,congrArg some (V.ren_id _).symm,rfl,rfl,trivial⟩) (hh:=⟨⟨_,rfl,.varS rfl⟩,⟨_,rfl,.varS rfl⟩,⟨_,rfl,.arrS (by simp[bO])⟩,⟨_,rfl,.rarrS rfl⟩,⟨_,rfl,.arrS ?_⟩,trivial⟩);rw[map_set];rfl
   ·have ac:¬n∈pfR b:=δ hb;unfold eG at Y;rw[ψ ac] at Y;dsimp only at Y;refine aD (ag [] rfl ⟨i+1,ap,by dsimp only;omega,?_⟩);dsimp only;rw[Y,hnout ac];exact slG (W _ _) (fun i hi=>GW.kf i hi) (h1:=Kn.app Kn.nil (Kn.app (Kn.of rfl) (Kn.app (Kn.of rfl) (Kn.app Kn.nil (Kn.app (Kn.of rfl) (Kn.app (ad _ _ _) Kn.nil)))))) (h2:=⟨aa _ _ _,Kn.of rfl,Kn.of rfl,trivial⟩)
  have ae:i=ns.length:=by
   have:¬(i:Int)<((aN nv).length:Int):=δ hb;omega
  subst ae;have hP:=aKp hok (le_refl ns.length) (ab _ (le_refl _)) (fun j hj=>ab j hj);have ah:=hhd _ (le_refl ns.length);rw[hput] at O ⊢;rw[aKs];generalize gSt sb b ns [p] ns.length=G at *;obtain⟨N,qs,tk⟩:=G;dsimp only at *;generalize qs.headD p=x at ah ⊢;subst ah;have hqx:q=sb x s b:=(List.singleton_inj.1 O).symm;subst hqx;have hca:=aRs rs k af an anm nv N x F s b (fun p=>sb p s b) J hr hk (hok.subb x (hP x (by simp)));refine aM (aE mixed (ak 3 [] rfl (kv (caps:=[.vp 3 0]) (args:=[Go.AM.T s,.pa (aB b)]) hca ?_ (hin':=eQ.app ⟨rfl,rfl,rfl,trivial⟩ (FarEq.all (by repeat (first | exact FarEq.raw J | (refine FarEq.updL J ?_) | (refine FarEq.upd J ?_))))) (hout':=aX8) (hok:=aFp J hr))));refine az ⟨.inl rfl,aBx J (FarEq.outs J) ⟨[],[],.nil,.nil,rfl⟩ (fun _ h=>by cases h) (W _ _).refs (fun i hi=>GW.kf i hi) (fun q O=>by rcases ω.1 O with O | O;exact(A3.1 (W ns p).plain) q O;exact(J.ok q O).2)⟩
abbrev lH (n:Int) (t:Ty) (x:Str) (k:Core):List (Nat×AObj):=gHl 5 n x t [k] [] []
def lN:List R:=[.vp 700 2]
def lP:List R:=[.ep 702 0 0 1]
abbrev lG (n:Int) (t:Ty) (x:Str) (k:Core):List (Nat×AObj):=(3,grO lN lP)::lH n t x k
theorem lHW {n:Int}{t:Ty}{x:Str}{k:Core}:GW (lH n t x k) []:=gW
theorem lGW {n:Int}{t:Ty}{x:Str}{k:Core}:GW (lG n t x k) []:=⟨lHW (n:=n) (t:=t) (x:=x) (k:=k).tf,fun y hy=>by
 rcases ω.1 (show y∈(grO lN lP).refs++dM (lH n t x k) from hy) with hy | hy
 ·have:y=700∨y=702:=by simpa [grO,lN,lP,AObj.refs,R.refsL,R.refs] using hy
  rcases this with rfl | rfl
  ·exact .inl (by simp[lG,gHl,keys])
  ·exact .inl (by simp[lG,gHl,keys])
 ·exact(lHW.refs y hy).imp (fun h=>κ _ h) id,rfl,rfl⟩
theorem aLw (n:Int) (t:Ty) (x:Str) (k:Core) (nm:Str) (b:Core) (sb:Core→Core)
  (hc:aW Tryz.prog 106 [.pa (aB k),Go.AM.T nm,.pa (aB b)] [] (.pa (aB (sb k))) []):
  aW Tryz.prog 144 [Go.AM.T nm,.pa (aB b),.one (.vp 3 0)] (lG n t x k++[]) (.tup []) (lG n t x (sb k)++[]):=by
 have J:TF []:=lHW (n:=n) (t:=t) (x:=x) (k:=k).tf;refine sO J (n:=23) tok Tryz.func144 rfl rfl rfl ?_;refine sg rfl (sg rfl (aC (aL (fun j:Nat=>mkt [(0,Go.AM.T nm),(2,.one (.vp 3 0)),(4,.one (.vp 4 0)),(8,.one (.ras 1 1 lP)),(9,I .i64 ((1:Nat):Int)),(10,I .i64 j)] ([(4,.var 37 (b9 b))]++lG n t x (if j=0 then k else sb k)) []) (fun j=>j≤1) (fun j=>1-j) 0 (Ak _) ?_ ?_)))
 ·exact slG lGW
 intro j hj;refine sg rfl (a8 (aA rfl (fun hb=>?_) (fun hb=>?_)))
 ·have O:j=0:=by
   have:(j:Int)<((1:Nat):Int):=φ hb;omega
  subst O;rw[θ rfl];refine aD (a8 (aC (sg rfl (aE mixed (ak 6 [(3,.row 0 (aB k))] rfl (kc hc ?_))))));refine ak 2 [(8,.row 0 (aB k))] rfl (az (ag [] rfl ⟨1,le_refl _,by dsimp only;omega,?_⟩));dsimp only;rw[ψ (by decide)];exact slG lGW (fun i hi=>GW.kf i hi)
 have W:j=1:=by
  have:¬(j:Int)<((1:Nat):Int):=δ hb;omega
 subst W;rw[ψ (by decide)];refine aM ?_;exact⟨.inl rfl,aBx J (by repeat (first | exact FarEq.raw J | (refine FarEq.updL J ?_) | (refine FarEq.upd J ?_))) ⟨[],[],.nil,.nil,rfl⟩ (fun _ h=>by cases h) lGW.refs (fun i hi=>GW.kf i hi) (fun q N=>by rcases ω.1 N with N | N;exact(A3.1 (lGW (n:=n) (t:=t) (x:=x) (k:=k)).plain) q N;cases N)⟩
theorem aXq (n:Int) (t:Ty) (x:Str) (k:Core) (s:Str) (b:Core) (sb:Core→Str→Core→Core) (P:Core→Prop) (hok:PutOk sb P s b [k])
  (hM:(pfR k).length+2+(pfR b).length+1≤540000000000):
  ∃x' q,cD sb s b [x] [k]=([x'],[q])∧aW Tryz.prog 126 [gpV lN lP,Go.AM.T s,.pa (aB b)] (lH n t x k++[]) (.tup []) (lH n t x' q++[]):=by
 have W:TF []:=lHW (n:=n) (t:=t) (x:=x) (k:=k).tf;have ab:([k]:List Core).flatMap pfR=pfR k:=by simp
 have hf:=hok.free k (by simp);have hq0:((pfR k).map bO).length=(pfR k).length:=ξ _;have hk0:k=k:=rfl;have ac:s∉pfR k∨s=x→cD sb s b [x] [k]=([x],[k]):=fun h=>by
  unfold cD;rw[ψ];rintro⟨h1,h2⟩;rw[ab] at h1;rcases h with h | h
  ·exact h h1
  ·exact h2 (by simp[h])
 by_cases hin:s∈pfR k
 case neg=>
  refine⟨x,k,ac (.inl hin),?_⟩;refine sO W (n:=92) tok Tryz.func126 rfl rfl rfl ?_;refine sg rfl (sg rfl (AWp.sub (Sub.own (t:=6) (id:=720) 9 1 rfl rfl) (AWp.sub (Sub.freeze (id:=720) rfl) ?_)));refine a8 (sg rfl (aC (aL (fun j:Nat=>mkt [(1,Go.AM.T s),(3,.one (.vp 3 0)),(5,.one (.vp 5 0)),(6,tkV (if j=0 then [] else pfR k)),(17,.one (.ras 1 1 lP)),(18,I .i64 ((1:Nat):Int)),(19,I .i64 j)] ([(3,grO lN lP),(5,.var 37 (b9 b)),(720,tkA (if j=0 then [] else pfR k))]++lH n t x k) []) (fun j=>j≤1) (fun j=>1-j) 0 (Ak _) (slG lHW) ?_)));intro j hj;refine sg rfl (a8 (aA rfl (fun hb=>?_) (fun hb=>?_)))
  ·have O:j=0:=by
    have:(j:Int)<((1:Nat):Int):=φ hb;omega
   subst O;rw[θ rfl];refine aD (a8 (aC (sg rfl (aE mixed (ak 4 [(3,.row 0 (aB k))] rfl (kc hf ?_))))));refine kz 2 rfl (AWp.sub (Sub.freeze (id:=720) rfl) ?_);refine ag [] rfl ⟨1,le_refl _,by dsimp only;omega,?_⟩;dsimp only;rw[ψ (by decide)];exact slG lHW (he:=⟨rfl,rfl,rfl,Go.AM.hs_ren (by simp) (by simp),rfl,rfl,rfl,trivial⟩) (hh:=⟨⟨_,rfl,.varS rfl⟩,⟨_,rfl,.varS rfl⟩,⟨_,rfl,.arrS (by simp)⟩,⟨_,rfl,.varS rfl⟩,⟨_,rfl,.arr⟩,⟨_,rfl,.arr⟩,⟨_,rfl,.rarrS rfl⟩,trivial⟩)
  have J:j=1:=by
   have:¬(j:Int)<((1:Nat):Int):=δ hb;omega
  subst J;rw[ψ (by decide)];refine aM ?_;have Y:=bU (pfR k) s (by omega);rw[Am hin] at Y;refine a8 (sk 2 rfl (kc Y ?_));refine kz 1 rfl (aA rfl (fun hb=>?_) nofun);exact aI ⟨.inr rfl,aBx W (by repeat (first | exact FarEq.raw W | (refine FarEq.updL W ?_) | (refine FarEq.upd W ?_))) ⟨[],[],.nil,.nil,rfl⟩ (fun _ h=>by cases h) lHW.refs (fun i hi=>GW.kf i hi) (fun q N=>by rcases ω.1 N with N | N;exact(A3.1 (lHW (n:=n) (t:=t) (x:=x) (k:=k)).plain) q N;cases N)⟩
 by_cases Z:s=x
 case pos=>
  refine⟨x,k,ac (.inr Z),?_⟩;refine sO W (n:=92) tok Tryz.func126 rfl rfl rfl ?_;refine sg rfl (sg rfl (AWp.sub (Sub.own (t:=6) (id:=720) 9 1 rfl rfl) (AWp.sub (Sub.freeze (id:=720) rfl) ?_)));refine a8 (sg rfl (aC (aL (fun j:Nat=>mkt [(1,Go.AM.T s),(3,.one (.vp 3 0)),(5,.one (.vp 5 0)),(6,tkV (if j=0 then [] else pfR k)),(17,.one (.ras 1 1 lP)),(18,I .i64 ((1:Nat):Int)),(19,I .i64 j)] ([(3,grO lN lP),(5,.var 37 (b9 b)),(720,tkA (if j=0 then [] else pfR k))]++lH n t x k) []) (fun j=>j≤1) (fun j=>1-j) 0 (Ak _) (slG lHW) ?_)));intro j hj;refine sg rfl (a8 (aA rfl (fun hb=>?_) (fun hb=>?_)))
  ·have O:j=0:=by
    have:(j:Int)<((1:Nat):Int):=φ hb;omega
   subst O;rw[θ rfl];refine aD (a8 (aC (sg rfl (aE mixed (ak 4 [(3,.row 0 (aB k))] rfl (kc hf ?_))))));refine kz 2 rfl (AWp.sub (Sub.freeze (id:=720) rfl) ?_);refine ag [] rfl ⟨1,le_refl _,by dsimp only;omega,?_⟩;dsimp only;rw[ψ (by decide)];exact slG lHW (he:=⟨rfl,rfl,rfl,Go.AM.hs_ren (by simp) (by simp),rfl,rfl,rfl,trivial⟩) (hh:=⟨⟨_,rfl,.varS rfl⟩,⟨_,rfl,.varS rfl⟩,⟨_,rfl,.arrS (by simp)⟩,⟨_,rfl,.varS rfl⟩,⟨_,rfl,.arr⟩,⟨_,rfl,.arr⟩,⟨_,rfl,.rarrS rfl⟩,trivial⟩)
  have J:j=1:=by
   have:¬(j:Int)<((1:Nat):Int):=δ hb;omega
  subst J;rw[ψ (by decide)];refine aM ?_;have Y:=bU (pfR k) s (by omega);rw[Ai hin] at Y;refine a8 (sk 2 rfl (kc Y ?_));refine kz 1 rfl (aA rfl nofun (fun hb=>aD (a8 (sg rfl (aC (aL (fun _:Unit=>mkt [(1,Go.AM.T s),(3,.one (.vp 3 0)),(5,.one (.vp 5 0)),(6,tkV (pfR k)),(35,.one (.ras 1 1 lN)),(36,I .i64 ((1:Nat):Int)),(37,I .i64 (0:Nat))] ([(3,grO lN lP),(5,.var 37 (b9 b)),(720,tkA (pfR k))]++lH n t x k) []) (fun _=>True) (fun _=>0) () trivial (slG lHW) ?_))))));intro _ _;refine sg rfl (a8 (aA rfl (fun hb=>aD (a8 (aC (sg rfl (a8 (sg rfl (aA rfl (fun hb=>?_) (fun hb=>absurd Z.symm (δ hb))))))))) nofun));exact aI ⟨.inr rfl,aBx W (by repeat (first | exact FarEq.raw W | (refine FarEq.updL W ?_) | (refine FarEq.upd W ?_))) ⟨[],[],.nil,.nil,rfl⟩ (fun _ h=>by cases h) lHW.refs (fun i hi=>GW.kf i hi) (fun q N=>by rcases ω.1 N with N | N;exact(A3.1 (lHW (n:=n) (t:=t) (x:=x) (k:=k)).plain) q N;cases N)⟩
 have hq1:((pfR k++[x]).map bO).length=(pfR k++[x]).length:=ξ _;have hq2:((pfR b).map bO).length=(pfR b).length:=ξ _;have hlx:(pfR k++[x]).length=(pfR k).length+1:=by simp
 have ah:=hok.far;have hP:=hok.in_ k (by simp);have Y:=bU (pfR k) s (by omega);rw[Ai hin] at Y;have ad:=bU (pfR b) x (by omega);have ai:aWf s [x] [k]:=⟨by rw[ab];exact hin,by simpa using Z⟩
 by_cases ae:x∈pfR b
 case pos=>
  have htl:(pfR k++[x]++pfR b).length≤540000000000:=by rw[Aa];omega
  have hz:(bA (pfR k++[x]++pfR b)).length≤30:=le_trans (jB _ htl) (by omega);have hcr:=xE (pfR k++[x]++pfR b) (by omega) fun k hk=>hok.itoa k (by omega)
  refine⟨bA (pfR k++[x]++pfR b),sb (sb k x (vC (bA (pfR k++[x]++pfR b)))) s b,?_,?_⟩
  ·unfold cD;rw[θ ai,ab];unfold kC;simp only[foldl_cons,List.foldl_nil];unfold eG;rw[θ ae];rfl
  rw[Ai ae] at ad;have hqt:((pfR k++[x]++pfR b).map bO).length=(pfR k++[x]++pfR b).length:=ξ _;have hqa:(pfR k++[x]++pfR b).length=(pfR k).length+1+(pfR b).length:=by rw[Aa,hlx]
  have hca:=aLw n t x k x (vC (bA (pfR k++[x]++pfR b))) (fun p=>sb p x (vC (bA (pfR k++[x]++pfR b)))) (hok.subz k x _ hP hz);have aa:=aLw n t (bA (pfR k++[x]++pfR b)) (sb k x (vC (bA (pfR k++[x]++pfR b)))) s b (fun p=>sb p s b) (hok.subb _ (hok.ren k x _ hP hz));have hcv:=s7 (bA (pfR k++[x]++pfR b));generalize hzz:bA (pfR k++[x]++pfR b)=z at *;refine sO W (n:=92) tok Tryz.func126 rfl rfl rfl ?_;refine sg rfl (sg rfl (AWp.sub (Sub.own (t:=6) (id:=720) 9 1 rfl rfl) (AWp.sub (Sub.freeze (id:=720) rfl) ?_)));refine a8 (sg rfl (aC (aL (fun j:Nat=>mkt [(1,Go.AM.T s),(3,.one (.vp 3 0)),(5,.one (.vp 5 0)),(6,tkV (if j=0 then [] else pfR k)),(17,.one (.ras 1 1 lP)),(18,I .i64 ((1:Nat):Int)),(19,I .i64 j)] ([(3,grO lN lP),(5,.var 37 (b9 b)),(720,tkA (if j=0 then [] else pfR k))]++lH n t x k) []) (fun j=>j≤1) (fun j=>1-j) 0 (Ak _) (slG lHW) ?_)));intro j hj;refine sg rfl (a8 (aA rfl (fun hb=>?_) (fun hb=>?_)))
  ·have O:j=0:=by
    have:(j:Int)<((1:Nat):Int):=φ hb;omega
   subst O;rw[θ rfl];refine aD (a8 (aC (sg rfl (aE mixed (ak 4 [(3,.row 0 (aB k))] rfl (kc hf ?_))))));refine kz 2 rfl (AWp.sub (Sub.freeze (id:=720) rfl) ?_);refine ag [] rfl ⟨1,le_refl _,by dsimp only;omega,?_⟩;dsimp only;rw[ψ (by decide)];exact slG lHW (he:=⟨rfl,rfl,rfl,Go.AM.hs_ren (by simp) (by simp),rfl,rfl,rfl,trivial⟩) (hh:=⟨⟨_,rfl,.varS rfl⟩,⟨_,rfl,.varS rfl⟩,⟨_,rfl,.arrS (by simp)⟩,⟨_,rfl,.varS rfl⟩,⟨_,rfl,.arr⟩,⟨_,rfl,.arr⟩,⟨_,rfl,.rarrS rfl⟩,trivial⟩)
  have J:j=1:=by
   have:¬(j:Int)<((1:Nat):Int):=δ hb;omega
  subst J;rw[ψ (by decide)];refine aM (a8 (sk 2 rfl (kc Y ?_)));refine kz 1 rfl (aA rfl nofun (fun hb=>aD (a8 (sg rfl (aC (aL (fun j:Nat=>mkt [(1,Go.AM.T s),(3,.one (.vp 3 0)),(5,.one (.vp 5 0)),(6,tkV (if j=0 then pfR k else pfR k++[x])),(35,.one (.ras 1 1 lN)),(36,I .i64 ((1:Nat):Int)),(37,I .i64 j)] ([(3,grO lN lP),(5,.var 37 (b9 b)),(720,tkA (if j=0 then pfR k else pfR k++[x]))]++lH n t x k) []) (fun j=>j≤1) (fun j=>1-j) 0 (Ak _) (slG lHW) ?_))))));intro j hj;refine sg rfl (a8 (aA rfl (fun hb=>?_) (fun hb=>?_)))
  ·have O:j=0:=by
    have:(j:Int)<((1:Nat):Int):=φ hb;omega
   subst O;rw[θ rfl];refine aD (a8 (aC (sg rfl (a8 (sg rfl (aA rfl (fun hb=>absurd (φ hb).symm Z) (fun hb=>aD (ag [] rfl (AWp.sub (Sub.freeze (id:=720) rfl) ?_)))))))));refine ag [] rfl ⟨1,le_refl _,by dsimp only;omega,?_⟩;dsimp only;rw[ψ (by decide)];exact slG lHW (he:=⟨rfl,rfl,rfl,Go.AM.hs_ren (by simp) (by simp),rfl,rfl,rfl,trivial⟩) (hh:=⟨⟨_,rfl,.varS rfl⟩,⟨_,rfl,.varS rfl⟩,⟨_,rfl,.arrS (by simp[bO])⟩,⟨_,rfl,.varS rfl⟩,⟨_,rfl,.arr⟩,⟨_,rfl,.arr⟩,⟨_,rfl,.rarrS rfl⟩,trivial⟩)
  have J:j=1:=by
   have:¬(j:Int)<((1:Nat):Int):=δ hb;omega
  subst J;rw[ψ (by decide)];refine aM (sk 1 rfl (kc ah ?_));refine kz 1 rfl (sg rfl (AWp.sub (Sub.freeze (id:=720) rfl) ?_));refine sg rfl (a8 (sg rfl (aC (aL (fun i:Nat=>mkt [(1,Go.AM.T s),(5,.one (.vp 5 0)),(6,tkV (if i=0 then pfR k++[x]++pfR b else pfR k++[x]++pfR b++[z])),(11,bN (pfR b)),(12,.one (.clo 144 [.vp 3 0])),(60,.one (.ras 1 1 lN)),(61,I .i64 ((1:Nat):Int)),(62,I .i64 i)] ([(3,grO lN lP),(5,.var 37 (b9 b)),(720,tkA (if i=0 then pfR k++[x]++pfR b else pfR k++[x]++pfR b++[z]))]++lH n t (if i=0 then x else z) (if i=0 then k else sb k x (vC z))) []) (fun i=>i≤1) (fun i=>1-i) 0 (Ak _) ?_ ?_))))
  ·rw[θ rfl,θ rfl,θ rfl];exact slG lHW (he:=⟨rfl,rfl,Go.AM.hs_ren (by simp only[Aa,ξ]) (by simp only[Aa,ξ]),rfl,rfl,rfl,rfl,rfl,trivial⟩) (hh:=⟨⟨_,rfl,.varS rfl⟩,⟨_,rfl,.varS rfl⟩,⟨_,rfl,.arrS (by simp)⟩,⟨_,rfl,.varS rfl⟩,⟨_,rfl,.arr⟩,⟨_,rfl,.arr⟩,⟨_,rfl,.rarrS rfl⟩,trivial⟩)
  intro i hi;refine sg rfl (a8 (aA rfl (fun hb=>?_) (fun hb=>?_)))
  ·have aj:i=0:=by
    have:(i:Int)<((1:Nat):Int):=φ hb;omega
   subst aj;rw[θ rfl,θ rfl,θ rfl];generalize pfR k++[x]++pfR b=tk at *;refine aD (a8 (aC (sg rfl (sk 4 rfl (kc ad ?_)))));refine az (aA rfl (fun hb=>sk 1 rfl (kc hcr ?_)) nofun);refine kz 1 rfl (sg rfl (AWp.sub (Sub.freeze (id:=720) rfl) ?_));refine sk 5 rfl (kc hcv ?_);refine kv (caps:=[.vp 3 0]) (args:=[Go.AM.T x,.pa (aB (vC z))]) hca ?_;refine az (ag [] rfl (ag [] rfl ⟨1,le_refl _,by dsimp only;omega,?_⟩));dsimp only;rw[ψ (by decide),ψ (by decide),ψ (by decide)];exact slG lHW (fun i hi=>GW.kf i hi) (he:=⟨rfl,rfl,Go.AM.hs_ren (by simp) (by simp),rfl,rfl,rfl,rfl,rfl,trivial⟩) (hh:=⟨⟨_,rfl,.varS rfl⟩,⟨_,rfl,.varS rfl⟩,⟨_,rfl,.arrS (by simp[bO])⟩,⟨_,rfl,.varS rfl⟩,⟨_,rfl,.arr⟩,⟨_,rfl,.arr⟩,⟨_,rfl,.rarrS rfl⟩,trivial⟩)
  have J:i=1:=by
   have:¬(i:Int)<((1:Nat):Int):=δ hb;omega
  subst J;rw[ψ (by decide),ψ (by decide),ψ (by decide)];refine aM (aE mixed (ak 3 [] rfl (kv (caps:=[.vp 3 0]) (args:=[Go.AM.T s,.pa (aB b)]) aa ?_)));exact az ⟨.inl rfl,aBx W (FarEq.outs W) ⟨[],[],.nil,.nil,rfl⟩ (fun _ h=>by cases h) lHW.refs (fun i hi=>GW.kf i hi) (fun q N=>by rcases ω.1 N with N | N;exact(A3.1 (lHW (n:=n) (t:=t) (x:=x) (k:=k)).plain) q N;cases N)⟩
 refine⟨x,sb k s b,?_,?_⟩
 ·unfold cD;rw[θ ai,ab];unfold kC;simp only[foldl_cons,List.foldl_nil];unfold eG;rw[ψ ae];rfl
 rw[Am ae] at ad;have aa:=aLw n t x k s b (fun p=>sb p s b) (hok.subb _ hP);refine sO W (n:=92) tok Tryz.func126 rfl rfl rfl ?_;refine sg rfl (sg rfl (AWp.sub (Sub.own (t:=6) (id:=720) 9 1 rfl rfl) (AWp.sub (Sub.freeze (id:=720) rfl) ?_)));refine a8 (sg rfl (aC (aL (fun j:Nat=>mkt [(1,Go.AM.T s),(3,.one (.vp 3 0)),(5,.one (.vp 5 0)),(6,tkV (if j=0 then [] else pfR k)),(17,.one (.ras 1 1 lP)),(18,I .i64 ((1:Nat):Int)),(19,I .i64 j)] ([(3,grO lN lP),(5,.var 37 (b9 b)),(720,tkA (if j=0 then [] else pfR k))]++lH n t x k) []) (fun j=>j≤1) (fun j=>1-j) 0 (Ak _) (slG lHW) ?_)));intro j hj;refine sg rfl (a8 (aA rfl (fun hb=>?_) (fun hb=>?_)))
 ·have O:j=0:=by
   have:(j:Int)<((1:Nat):Int):=φ hb;omega
  subst O;rw[θ rfl];refine aD (a8 (aC (sg rfl (aE mixed (ak 4 [(3,.row 0 (aB k))] rfl (kc hf ?_))))));refine kz 2 rfl (AWp.sub (Sub.freeze (id:=720) rfl) ?_);refine ag [] rfl ⟨1,le_refl _,by dsimp only;omega,?_⟩;dsimp only;rw[ψ (by decide)];exact slG lHW (he:=⟨rfl,rfl,rfl,Go.AM.hs_ren (by simp) (by simp),rfl,rfl,rfl,trivial⟩) (hh:=⟨⟨_,rfl,.varS rfl⟩,⟨_,rfl,.varS rfl⟩,⟨_,rfl,.arrS (by simp)⟩,⟨_,rfl,.varS rfl⟩,⟨_,rfl,.arr⟩,⟨_,rfl,.arr⟩,⟨_,rfl,.rarrS rfl⟩,trivial⟩)
 have J:j=1:=by
  have:¬(j:Int)<((1:Nat):Int):=δ hb;omega
 subst J;rw[ψ (by decide)];refine aM (a8 (sk 2 rfl (kc Y ?_)));refine kz 1 rfl (aA rfl nofun (fun hb=>aD (a8 (sg rfl (aC (aL (fun j:Nat=>mkt [(1,Go.AM.T s),(3,.one (.vp 3 0)),(5,.one (.vp 5 0)),(6,tkV (if j=0 then pfR k else pfR k++[x])),(35,.one (.ras 1 1 lN)),(36,I .i64 ((1:Nat):Int)),(37,I .i64 j)] ([(3,grO lN lP),(5,.var 37 (b9 b)),(720,tkA (if j=0 then pfR k else pfR k++[x]))]++lH n t x k) []) (fun j=>j≤1) (fun j=>1-j) 0 (Ak _) (slG lHW) ?_))))));intro j hj;refine sg rfl (a8 (aA rfl (fun hb=>?_) (fun hb=>?_)))
 ·have O:j=0:=by
   have:(j:Int)<((1:Nat):Int):=φ hb;omega
  subst O;rw[θ rfl];refine aD (a8 (aC (sg rfl (a8 (sg rfl (aA rfl (fun hb=>absurd (φ hb).symm Z) (fun hb=>aD (ag [] rfl (AWp.sub (Sub.freeze (id:=720) rfl) ?_)))))))));refine ag [] rfl ⟨1,le_refl _,by dsimp only;omega,?_⟩;dsimp only;rw[ψ (by decide)];exact slG lHW (he:=⟨rfl,rfl,rfl,Go.AM.hs_ren (by simp) (by simp),rfl,rfl,rfl,trivial⟩) (hh:=⟨⟨_,rfl,.varS rfl⟩,⟨_,rfl,.varS rfl⟩,⟨_,rfl,.arrS (by simp[bO])⟩,⟨_,rfl,.varS rfl⟩,⟨_,rfl,.arr⟩,⟨_,rfl,.arr⟩,⟨_,rfl,.rarrS rfl⟩,trivial⟩)
 have J:j=1:=by
  have:¬(j:Int)<((1:Nat):Int):=δ hb;omega
 subst J;rw[ψ (by decide)];refine aM (sk 1 rfl (kc ah ?_));refine kz 1 rfl (sg rfl (AWp.sub (Sub.freeze (id:=720) rfl) ?_));refine sg rfl (a8 (sg rfl (aC (aL (fun i:Nat=>mkt [(1,Go.AM.T s),(5,.one (.vp 5 0)),(11,bN (pfR b)),(12,.one (.clo 144 [.vp 3 0])),(60,.one (.ras 1 1 lN)),(61,I .i64 ((1:Nat):Int)),(62,I .i64 i)] ([(3,grO lN lP),(5,.var 37 (b9 b))]++lH n t x k) []) (fun i=>i≤1) (fun i=>1-i) 0 (Ak _) (slG lHW) ?_))));intro i hi;refine sg rfl (a8 (aA rfl (fun hb=>?_) (fun hb=>?_)))
 ·have aj:i=0:=by
   have:(i:Int)<((1:Nat):Int):=φ hb;omega
  subst aj;refine aD (a8 (aC (sg rfl (sk 4 rfl (kc ad ?_)))));exact az (aA rfl nofun (fun hb=>aD (ag [] rfl ⟨1,le_refl _,by dsimp only;omega,slG lHW⟩)))
 have J:i=1:=by
  have:¬(i:Int)<((1:Nat):Int):=δ hb;omega
 subst J;refine aM (aE mixed (ak 3 [] rfl (kv (caps:=[.vp 3 0]) (args:=[Go.AM.T s,.pa (aB b)]) aa ?_)));exact az ⟨.inl rfl,aBx W (FarEq.outs W) ⟨[],[],.nil,.nil,rfl⟩ (fun _ h=>by cases h) lHW.refs (fun i hi=>GW.kf i hi) (fun q N=>by rcases ω.1 N with N | N;exact(A3.1 (lHW (n:=n) (t:=t) (x:=x) (k:=k)).plain) q N;cases N)⟩
def w30 (s:Str):Nat:=max 30 s.length
mutual
def m30:Core→Nat
 | .mk _ _ s _ ks bs al=>1+w30 s+cE ks+fF bs+gP al
def cE:List Core→Nat
 | []=>0
 | c::l=>m30 c+cE l
def fF:List Bind→Nat
 | []=>0
 | .mk s _ c::l=>1+w30 s+m30 c+fF l
def gP:List Alt→Nat
 | []=>0
 | .mk _ _ s vs c::l=>1+w30 s+(vs.map fun v=>1+w30 v).sum+m30 c+gP l
end
theorem aCo (s:Str):s.length≤w30 s:=le_max_right ..
theorem jT (s:Str):30≤w30 s:=le_max_left ..
theorem xT {z s:Str}(h:z.length≤30):w30 z≤w30 s:=by unfold w30;omega
theorem aVm:∀vs:List Str,(vs.map fun v=>1+v.length).sum≤(vs.map fun v=>1+w30 v).sum
 | []=>le_refl _
 | v::vs=>by
  simp only[Al,Cb];have:=aVm vs;have:=aCo v;omega
mutual
theorem bZ:∀c:Core,aU c≤m30 c
 | .mk _ _ s _ ks bs al=>by
  rw[aU,m30];have:=uE ks;have:=uJ bs;have:=uO al;have:=aCo s;omega
theorem uE:∀l:List Core,bW l≤cE l
 | []=>by rw[bW,cE];exact le_refl _
 | c::l=>by
  rw[bW,cE];have:=bZ c;have:=uE l;omega
theorem uJ:∀l:List Bind,fW l≤fF l
 | []=>by rw[fW,fF];exact le_refl _
 | .mk s _ c::l=>by
  rw[fW,bsize,fF];have:=bZ c;have:=uJ l;have:=aCo s;omega
theorem uO:∀l:List Alt,fX l≤gP l
 | []=>by rw[fX,gP];exact le_refl _
 | .mk _ _ s vs c::l=>by
  rw[fX,pM,gP];have:=bZ c;have:=uO l;have:=aCo s;have:=aVm vs;omega
end
theorem dX (c:Core):31≤m30 c:=by obtain⟨_,_,s,_,ks,bs,al⟩:=c;rw[m30];have:=jT s;omega
theorem fE:∀{l:List Core}{c:Core},c∈l→m30 c≤cE l
 | d::l,c,h=>by
  rw[cE];rcases Ao.1 h with rfl | h
  ·omega
  ·have:=fE h;omega
theorem lY:∀{l:List Bind}{b:Bind},b∈l→m30 b.body≤fF l
 | .mk s t c::l,b,h=>by
  rw[fF];rcases Ao.1 h with rfl | h
  ·show m30 c≤_;omega
  ·have:=lY h;omega
theorem i7:∀{l:List Alt}{a:Alt},a∈l→m30 a.body+(a.vars.map fun v=>1+w30 v).sum≤gP l
 | .mk f n s vs c::l,a,h=>by
  rw[gP];rcases Ao.1 h with rfl | h
  ·show m30 c+(vs.map fun v=>1+w30 v).sum≤_;omega
  ·have:=i7 h;omega
theorem wJ:∀a b:List Core,cE (a++b)=cE a+cE b
 | [],b=>by rw[cE];simp
 | c::a,b=>by rw[A9,cE,cE,wJ a b];omega
theorem wI:∀l:List Bind,cE (l.map Bind.body)+31*l.length≤fF l
 | []=>by rw[By,cE,fF];simp
 | .mk s t c::l=>by
  rw[Al,cE,fF];have:=wI l;have:=jT s;show m30 c+_+_≤_;rw[Aj];omega
theorem aEh:∀l:List Core,31*l.length≤cE l
 | []=>by simp
 | c::l=>by rw[cE,Aj];have:=aEh l;have:=dX c;omega
theorem aK1:∀ps:List Core,(ps.flatMap pfR).length≤cE ps
 | []=>by simp
 | p::ps=>by
  rw[Ci,Aa,cE];have:=aGa p;have:=bZ p;have:=aK1 ps;omega
theorem jX (c:Core):(pfR c).length≤m30 c:=le_trans (aGa c) (bZ c)
theorem vG:∀vs:List Str,31*vs.length≤(vs.map fun v=>1+w30 v).sum
 | []=>le_refl _
 | v::vs=>by simp only[Al,Cb,Aj];have:=vG vs;have:=jT v;omega
inductive A2 {α β:Type}(R:α→β→Prop):List α→List β→Prop
 | nil:A2 R [] []
 | cons {a b l m}:R a b→A2 R l m→A2 R (a::l) (b::m)
theorem A2.refl {α:Type}{R:α→α→Prop}(h:∀a,R a a):∀l,A2 R l l
 | []=>.nil
 | a::l=>.cons (h a) (A2.refl h l)
theorem A2.trans {α:Type}{R:α→α→Prop}(h:∀a b c,R a b→R b c→R a c) {l m k:List α}(h1:A2 R l m):A2 R m k→A2 R l k:=by
 induction h1 generalizing k with
 | nil=>intro h2;cases h2;exact .nil
 | cons r _ I=>intro h2;cases h2 with | cons r' h2=>exact .cons (h _ _ _ r r') (I h2)
theorem A2.map {α:Type}{R:α→α→Prop}{f:α→α}(h:∀a,R a (f a)):∀l,A2 R l (l.map f)
 | []=>.nil
 | a::l=>.cons (h a) (A2.map h l)
theorem A2.length {α β:Type}{R:α→β→Prop}{l:List α}{m:List β}(h:A2 R l m):m.length=l.length:=by
 induction h with
 | nil=>rfl
 | cons _ _ I=>simp[I]
theorem A2.take {α β:Type}{R:α→β→Prop}{l:List α}{m:List β}(h:A2 R l m):∀n:Nat,A2 R (l.take n) (m.take n):=by
 induction h with
 | nil=>intro n;simp;exact .nil
 | cons r _ I=>
  intro n;cases n with
  | zero=>exact .nil
  | succ n=>exact .cons r (I n)
theorem A2.drop {α β:Type}{R:α→β→Prop}{l:List α}{m:List β}(h:A2 R l m):∀n:Nat,A2 R (l.drop n) (m.drop n):=by
 induction h with
 | nil=>intro n;simp;exact .nil
 | cons r h I=>
  intro n;cases n with
  | zero=>exact .cons r h
  | succ n=>exact I n
theorem A2.mono {α β:Type}{R R':α→β→Prop}(hm:∀a b,R a b→R' a b) {l:List α}{m:List β}(h:A2 R l m):A2 R' l m:=by
 induction h with
 | nil=>exact .nil
 | cons r _ I=>exact .cons (hm _ _ r) I
def nh (s:Str):Prop:=s.head?≠some 37∧s.head?≠some 35
theorem aGi (n:Nat):nh (bQ n):=by
 have key:∀m:_root_.Fin 26,UInt8.ofNat (97+m.val)≠37∧UInt8.ofNat (97+m.val)≠35:=by decide
 have h:UInt8.ofNat (97+n%26)≠37∧UInt8.ofNat (97+n%26)≠35:=key ⟨n%26,Nat.mod_lt _ (by decide)⟩;unfold nh bQ;split
 ·simpa using h
 ·simpa using h
theorem aEw (l:List Str):nh (bA l):=aGi _
def NR (n n':Str):Prop:=n'=n∨(n'.length≤30∧nh n')
theorem NR.w {n n':Str}(h:NR n n'):w30 n'≤w30 n:=by
 rcases h with rfl | ⟨h,_⟩
 ·exact le_refl _
 ·exact xT h
theorem NR.nh {n n':Str}(h:NR n n') (hn:nh n):nh n':=by
 rcases h with rfl | ⟨_,h⟩
 ·exact hn
 ·exact h
section
variable {sb:Core→Str→Core→Core}
theorem aEt {Rel:Core→Core→Prop}(I:∀p,Rel p p) (ht:∀p q r,Rel p q→Rel q r→Rel p r) {far:List Str}(hz:∀p n z,z.length≤30→Rel p (sb p n (vC z))):
  ∀{ns:List Str} {st:List Str×List Core×List Str},st.2.2.length+ns.length≤540000000000→
   A2 Rel st.2.1 (kC sb far ns st).2.1∧∃ns',(kC sb far ns st).1=st.1++ns'∧A2 NR ns ns'
 | [],st,_=>⟨A2.refl I _,[],by show st.1=_;simp,.nil⟩
 | n::ns,st,hl=>by
  simp only[Aj] at hl;have hg:=rR (sb:=sb) (far:=far) (st:=st) (n:=n);obtain⟨h1,ns',h2,h3⟩:=aEt I ht hz (far:=far) (ns:=ns) (st:=eG sb far st n) (by omega);have e:kC sb far (n::ns) st=kC sb far ns (eG sb far st n):=rfl;rw[e];have hf:(bA st.2.2).length≤30:=le_trans (jB _ (by omega)) (by omega);by_cases hn:n∈far
  ·have es:eG sb far st n=(st.1++[bA st.2.2],st.2.1.map (fun p=>sb p n (vC (bA st.2.2))),st.2.2++[bA st.2.2]):=by unfold eG;rw[θ hn]
   rw[es] at h1 h2 ⊢;refine⟨A2.trans ht (A2.map (fun p=>hz p n _ hf) _) h1,bA st.2.2::ns',?_,.cons (.inr ⟨hf,aEw _⟩) h3⟩;rw[h2,Aw];rfl
  ·have es:eG sb far st n=(st.1++[n],st.2.1,st.2.2):=by unfold eG;rw[ψ hn]
   rw[es] at h1 h2 ⊢;refine⟨h1,n::ns',?_,.cons (.inl rfl) h3⟩;rw[h2,Aw];rfl
theorem aDx {Rel:Core→Core→Prop}(J:∀p,Rel p p) (ht:∀p q r,Rel p q→Rel q r→Rel p r) {s:Str}{b:Core}{ns:List Str}{ps:List Core}(hz:∀p n z,z.length≤30→Rel p (sb p n (vC z)))
  (hl:(ps.flatMap pfR).length+2*ns.length+(pfR b).length≤540000000000):(∃I,A2 Rel ps I∧((cD sb s b ns ps).2=I∨(cD sb s b ns ps).2=I.map fun p=>sb p s b))∧A2 NR ns (cD sb s b ns ps).1:=by
 unfold cD;split
 ·obtain⟨h1,ns',h2,h3⟩:=aEt J ht hz (far:=pfR b) (ns:=ns) (st:=([],ps,ps.flatMap pfR++ns++pfR b)) (by simp only[Aa];omega);exact⟨⟨_,h1,.inr rfl⟩,by rw[h2];exact h3⟩
 ·exact⟨⟨ps,A2.refl J _,.inl rfl⟩,A2.refl (fun _=>.inl rfl) _⟩
end
theorem A2.mem {α β:Type}{R:α→β→Prop}{l:List α}{m:List β}(h:A2 R l m):∀b∈m,∃a∈l,R a b:=by
 induction h with
 | nil=>intro b hb;cases hb
 | cons r _ J=>
  intro b hb;rcases Ao.1 hb with rfl | hb
  ·exact⟨_,ζ,r⟩
  ·obtain⟨a,ha,I⟩:=J b hb;exact⟨a,κ _ ha,I⟩
theorem A2.mapL {α β γ:Type}{R:β→γ→Prop}{f:α→β}:∀{l:List α}{m:List γ},A2 R (l.map f) m→A2 (fun a c=>R (f a) c) l m
 | [],m,h=>by cases h;exact .nil
 | a::l,m,h=>by
  cases h with
  | cons r h=>exact .cons r (A2.mapL h)
theorem mX:∀{ts:List Ty}{ns:List Str}{ps:List Core}{x:Bind},x∈mkB ts ns ps→x.body∈ps∧x.ty∈ts
 | t::ts,n::ns,p::ps,x,h=>by
  unfold mkB at h;rcases Ao.1 h with rfl | h
  ·exact⟨ζ,ζ⟩
  ·obtain⟨h1,h2⟩:=mX h;exact⟨κ _ h1,κ _ h2⟩
 | [],_,_,x,h=>by unfold mkB at h;cases h
 | _::_,[],_,x,h=>by unfold mkB at h;cases h
 | _::_,_::_,[],x,h=>by unfold mkB at h;cases h
theorem sE {T:Ty→Prop}:∀{l:List Core},aAg T l↔∀x∈l,allT T x
 | []=>by simp[aAg]
 | c::l=>by rw[aAg,sE (l:=l)];simp
theorem sF {T:Ty→Prop}:∀{l:List Bind},aAh T l↔∀x∈l,T x.ty∧allT T x.body
 | []=>by simp[aAh]
 | .mk _ t c::l=>by rw[aAh,sF (l:=l)];simp[Bind.body,Bind.ty,and_assoc]
theorem sH {T:Ty→Prop}:∀{l:List Alt},aAi T l↔∀x∈l,allT T x.body
 | []=>by simp[aAi]
 | .mk _ _ _ _ c::l=>by rw[aAi,sH (l:=l)];simp[Alt.body]
def Big:Nat:=250000000000
theorem aQ2 {z:Str}(h:z.length≤30):m30 (vC z)=31:=by
 unfold vC;rw[m30,cE,fF,gP];unfold w30;omega
theorem aKh {f:Int}{nm:Str}{bs:List Bind}:(gvN f nm bs).length≤1+bs.length:=by unfold gvN;split<;>simp;omega
theorem aDh {vs vs':List Str}(h:A2 NR vs vs'):(vs'.map fun v=>1+w30 v).sum≤(vs.map fun v=>1+w30 v).sum:=by
 induction h with
 | nil=>exact le_refl _
 | cons r _ I=>
  simp only[Al,Cb];have:=r.w;omega
section
variable {clr:Core→List Str→Core}{T:Ty→Prop}
end
end Go.Proofs.YtockgoadliilhaaGreatDoor
