/-
  ReadLimits: how many things there may be, and how deep, is told as the document says, whatever the numbers.
-/
import Derived.Test.YtpmheldmadendaaGreatDoorM13
import Derived.Test.YtpmheldmadendaaGreatDoorCards
import Derived.Test.YtpmheldmadendaaGreatDoorTie
import Derived.ProofKit
import Derived.Lib.LaidTab
import Derived.Stop.LaidErr
import Derived.OpenShut
import Derived.LaidMore
import Derived.Lay
import Derived.SevenTiedAt
import Derived.Stop.Joined
open List (all_eq_true append_assoc append_nil cons_append length_append length_cons length_map length_nil length_take map_append map_cons map_nil mem_cons nil_append sum_cons take_length take_succ_cons take_zero)
open Nat (le_refl zero_le)
namespace Go.Proofs.YtpmheldmadendaaGreatDoor
open Go Go.AM
set_option maxRecDepth 20000
set_option maxHeartbeats 4000000
mutual
def esz:Ex→Nat
 | .mk _ _ _ _ ks _ bs _=>zW ks+aJt bs+1
def zW:List Ex→Nat
 | []=>0
 | e::l=>esz e+zW l
def bsz:Bd→Nat
 | .mk _ _ _ _ e=>esz e+1
def aJt:List Bd→Nat
 | []=>0
 | b::l=>bsz b+aJt l
end
theorem xI:∀{l:List Ex}{p:Ex},p∈l→esz p≤zW l
 | [],p,h=>by cases h
 | a::l,p,h=>by
  rw[zW];rcases Ap.1 h with rfl | h
  ·omega
  ·have:=xI h;omega
theorem xT:∀{l:List Bd}{p:Bd},p∈l→bsz p≤aJt l
 | [],p,h=>by cases h
 | a::l,p,h=>by
  rw[aJt];rcases Ap.1 h with rfl | h
  ·omega
  ·have:=xT h;omega
theorem qB:∀{l:List Ex},oC l→∀p∈l,n7 p
 | a::l,h,p,hp=>by
  rcases Ap.1 hp with rfl | hp
  ·exact h.1
  ·exact qB h.2 p hp
theorem xM {s:Sch}(h:SchOk s):b8 Tryz.prog 44 [.pa (eH s),.pa (eH s)] [] (B true) []:=
 aKv s h.t.2 (fun p hp=>(h.p p hp).2) (by have:=h.l;omega) (by have:=h.v;omega)
def aA7 (k:Nat):Prop:=∀e:Ex,esz e≤k→n7 e→b8 Tryz.prog 103 [.pa (bN e),.pa (bN e)] [] (B true) []
def aG8 (k:Nat):Prop:=∀l:List Bd,l.length≤100000→aJt l≤k→dZ l→b8 Tryz.prog 46 [.one (.c (.sl 33 (eD l))),.one (.c (.sl 33 (eD l)))] [] (B true) []
theorem qI {k:Nat}(B:aA7 k):aG8 (k+1):=by
 intro l hl M hB;have A:(eD l).length=l.length:=by rw[eN,η]
 have d0:=j7 ((eD l).length:Int);refine bM (n:=107) tok Tryz.func46 rfl rfl rfl ?_;refine sg rfl (aA (sg rfl (aB rfl (fun hb=>absurd (hb.symm.trans d0) Bool.noConfusion) (fun _=>aD (aA (sg rfl (aF (aK (fun i:Nat=>mk [(0,.one (.c (.sl 33 (eD l)))),(1,.one (.c (.sl 33 (eD l)))),(5,I .i64 (i:Nat))] []) (fun i=>i≤l.length) (fun i=>l.length-i) 0 (Ac _) sl ?_))))))));intro i hi;refine aA (sg rfl (aB rfl (fun hb=>?_) (fun hb=>?_)))
 ·have r:=ltD hb A;obtain⟨b,u⟩:=aN r;have J:(eD l)[i]?=some (aW b):=by rw[eN];exact aY aW u
  have hm:=Ag u;have y:=gM.1 hB b hm;have hsz:=xT hm;obtain⟨q,pl,has,j,e⟩:=b;rw[bsz] at hsz;have hs:=xM y.1;have E:=xM SchOk.z;have he:=B e (by omega) y.2;have d1:=j7 q;have d2:=j7 pl;have d3:=j7 has;have d4:=j7 (0:Int);refine aD (aA (aF (aA (sgh [(11,.bv false),(23,.bv false),(24,.bv false),(36,.bv false),(37,.bv false),(49,.bv false),(2,.row i (aW (.mk q pl has j e))),(7,.row i (aW (.mk q pl has j e))),(14,.row i (aW (.mk q pl has j e))),(19,.row i (aW (.mk q pl has j e))),(27,.row i (aW (.mk q pl has j e))),(32,.row i (aW (.mk q pl has j e))),(40,.row i (aW (.mk q pl has j e))),(45,.row i (aW (.mk q pl has j e)))] rfl (aB rfl (fun hb=>Bool.noConfusion hb) (fun _=>aD (skh 10 [(12,.bv false),(25,.bv false),(26,.bv false),(39,.bv false),(2,.row i (aW (.mk q pl has j e))),(7,.row i (aW (.mk q pl has j e)))] rfl (kc hs ?_))))))));refine ak 12 [(12,.bv false),(25,.bv false),(26,.bv false),(39,.bv false),(15,.row i (aW (.mk q pl has j e))),(20,.row i (aW (.mk q pl has j e)))] rfl (kcG E ?_);refine ak 13 [(12,.bv false),(25,.bv false),(26,.bv false),(39,.bv false),(29,.row i (aW (.mk q pl has j e))),(34,.row i (aW (.mk q pl has j e)))] rfl (kcG he ?_);exact ak 2 [(12,.bv false),(25,.bv false),(26,.bv false),(39,.bv false)] rfl (az (aB rfl (fun hb=>Bool.noConfusion hb) (fun _=>aD (agN [] rfl ⟨i+1,r,by dsimp only;omega,sl⟩))))
 ·exact aH (sg rfl (aE rtT))
theorem aFy {k:Nat}(hE:aA7 k) (u:aG8 k):aA7 (k+1):=by
 intro x hk hB;have A:∃y,y=x:=⟨x,rfl⟩
 obtain⟨f,pl,n,s,ks,ps,q,j⟩:=x;obtain⟨y,hy⟩:=A;rw[esz] at hk;obtain⟨⟨hl1,hl2,hl3⟩,B,_,E,J,M⟩:=hB;have hs:=xM B;have O:=u q (by omega) (by omega) M;have U:(oD (.mk f pl n s ks ps q j)).length=ks.length:=by rw[kK,η];rfl
 have Y:(ps.map bG).length=ps.length:=η _;have d1:=j7 f;have d2:=j7 pl;have d3:=j7 n;have d4:=j7 s;have d5:=j7 ((oD (.mk f pl n s ks ps q j)).length:Int);have d6:=j7 ((ps.map bG).length:Int);have d7:=j7 ((([]:List (List C)).length:Nat):Int);refine bM (n:=130) tok Tryz.func103 rfl rfl rfl ?_;refine sg rfl (aA (sgh [(5,.bv false),(11,.bv false),(12,.bv false),(18,.bv false),(19,.bv false),(25,.bv false),(26,.bv false),(34,.bv false),(35,.bv false),(43,.bv false),(44,.bv false),(52,.bv false)] rfl (aB rfl (fun hb=>Bool.noConfusion (hb.symm.trans d7)) (fun _=>aD (aA (sg rfl (aF (aK (fun _:Nat=>mk [(2,.one (.vp 2 0)),(3,.one (.vp 3 0)),(5,I .i64 0)] [(2,.var 61 ((bN (.mk f pl n s ks ps q j)).map .c)),(3,.var 61 ((bN (.mk f pl n s ks ps q j)).map .c))]) (fun _=>True) (fun _=>0) 0 trivial sl ?_))))))))
 ·intro i _;refine aA (sg rfl (aB rfl (fun hb=>absurd hb (by decide)) (fun _=>aH (aA (sg rfl (aF (aK (fun i:Nat=>mk [(2,.one (.vp 2 0)),(3,.one (.vp 3 0)),(6,I .i64 (i:Nat))] [(2,.var 61 ((bN (.mk f pl n s ks ps q j)).map .c)),(3,.var 61 ((bN (.mk f pl n s ks ps q j)).map .c))]) (fun i=>i≤ks.length) (fun i=>ks.length-i) 0 (Ac _) sl ?_)))))));intro i hi;refine aA (sg rfl (aB rfl (fun hb=>?_) (fun hb=>?_)))
  ·have r:=ltD hb U;obtain⟨x,hx⟩:=aN r;have aa:(oD (.mk f pl n s ks ps q j))[i]?=some (bN x):=by rw[kK];exact aY bN hx
   have hm:=Ag hx;have hc:=hE x (by have:=xI hm;omega) (qB J x hm);refine aD (aA (aF (skh 10 [(3,.row i (bN x)),(8,.row i (bN x))] rfl (kc hc ?_))));exact kz 1 rfl (aB rfl (fun hb=>Bool.noConfusion hb) (fun _=>aD (agN [] rfl ⟨i+1,r,by dsimp only;omega,sl⟩)))
  refine aH (aA (sg rfl (aF (aK (fun i:Nat=>mk [(2,.one (.vp 2 0)),(3,.one (.vp 3 0)),(7,I .i64 (i:Nat))] [(2,.var 61 ((bN (.mk f pl n s ks ps q j)).map .c)),(3,.var 61 ((bN (.mk f pl n s ks ps q j)).map .c))]) (fun i=>i≤ps.length) (fun i=>ps.length-i) 0 (Ac _) sl ?_))));intro i hi;refine aA (sg rfl (aB rfl (fun hb=>?_) (fun hb=>?_)))
  ·have r:=ltD hb Y;obtain⟨x,hx⟩:=aN r;have aa:=aY bG hx;have hm:=Ag hx;have hc:=vF (psz x) x (le_refl _) (kF E x hm);refine aD (aA (aF (skh 10 [(3,.row i (bG x)),(8,.row i (bG x))] rfl (kc hc ?_))));exact kz 1 rfl (aB rfl (fun hb=>Bool.noConfusion hb) (fun _=>aD (agN [] rfl ⟨i+1,r,by dsimp only;omega,sl⟩)))
  refine aH (sk 4 rfl (kc O ?_));refine ak 5 [(5,.bv true),(11,.bv true)] rfl (kcG hs ?_);exact ak 2 [(5,.bv true),(11,.bv true)] rfl (az (aE rtT))
theorem oG:∀k,aA7 k∧aG8 k
 | 0=>⟨fun e h=>by cases e;rw[esz] at h;omega,fun l hl h hB=>by
   cases l with
   | nil=>exact qI (k:=0) (fun e h=>by cases e;rw[esz] at h;omega) [] hl (Ac _) hB
   | cons b l=>cases b;rw[aJt,bsz] at h;omega⟩
 | k+1=>⟨aFy (oG k).1 (oG k).2,qI (oG k).1⟩
theorem nY (l:List Bd) (hl:l.length≤100000) (hB:dZ l):b8 Tryz.prog 46 [.one (.c (.sl 33 (l.map aW))),.one (.c (.sl 33 (l.map aW)))] [] (B true) []:=by
 rw[←eN];exact(oG (aJt l)).2 l hl (le_refl _) hB
def tI:Str:=[32,58,32]
def eqP:Str:=[32,61,32]
def aRe:Str:=[108,101,116,32]
def inP:Str:=[32,105,110,32]
def aRl:Str:=[99,97,115,101,32]
def ofP:Str:=[32,111,102,32]
def aRf:Str:=[92,32]
def opn (f:Int):Bool:=decide (f=5) || (decide (f=6) || (decide (f=7) || decide (f=8)))
def aE2:List (Int×Str)→Str
 | []=>[]
 | x::_=>x.2
def aTa:List (Int×Str)→Str
 | a::b::_=>brk (opn a.1) a.2++[32]++brk (opn b.1 || decide (b.1=4)) b.2
 | _=>[]
def aSw:List (Int×Str)→Str
 | []=>[]
 | a::_=>brk (opn a.1) a.2
def kX:List Pt→List (Int×Str)→List Str
 | p::ps,x::xs=>(prP p++arrS++x.2)::kX ps xs
 | _,_=>[]
mutual
def prE:Ex→Str
 | .mk f _ n s ks ps bs g=>
  if f=3 then aRj n
  else if f=4 then aTa (fJ ks)
  else if f=5 then aRf++Lib.join (ps.map prP) [32]++arrS++aE2 (fJ ks)
  else if f=6 then aRe++aJv (lB bs)++inP++aE2 (fJ ks)
  else if f=7 then aRl++aE2 (fJ ks)++ofP++aJv (kX ps (fJ ks).tail)
  else if f=8 then aSw (fJ ks)++tI++tR g
  else s
def fJ:List Ex→List (Int×Str)
 | []=>[]
 | e::l=>(e.form,prE e)::fJ l
def prB:Bd→List Str
 | .mk s _ h g e=>(if h=true then [s++tI++tR g] else [])++[s++eqP++prE e]
def lB:List Bd→List Str
 | []=>[]
 | b::l=>prB b++lB l
end
mutual
def exP:Ex→Prop
 | .mk _ _ n _ ks ps bs g=>aBw n∧qP ps∧SchP g∧aRh ks∧aQw bs
def aRh:List Ex→Prop
 | []=>True
 | e::l=>exP e∧aRh l
def bdP:Bd→Prop
 | .mk _ _ _ g e=>SchP g∧exP e
def aQw:List Bd→Prop
 | []=>True
 | b::l=>bdP b∧aQw l
end
mutual
def exW:Ex→Nat
 | .mk _ _ _ s ks ps bs g=>s.length+64+u5 ps+wF ks+aNi bs+2*aNz g
def wF:List Ex→Nat
 | []=>0
 | e::l=>exW e+wF l
def bdW:Bd→Nat
 | .mk s _ _ g e=>2*s.length+32+2*aNz g+exW e
def aNi:List Bd→Nat
 | []=>0
 | b::l=>bdW b+aNi l
end
theorem sL:∀{l:List Ex},aRh l→∀p∈l,exP p
 | a::l,h,p,hp=>by
  rcases Ap.1 hp with rfl | hp
  ·exact h.1
  ·exact sL h.2 p hp
theorem aAx:∀{l:List Bd},aQw l→∀p∈l,bdP p
 | a::l,h,p,hp=>by
  rcases Ap.1 hp with rfl | hp
  ·exact h.1
  ·exact aAx h.2 p hp
theorem zV:∀{l:List Ex}{p:Ex},p∈l→exW p≤wF l
 | a::l,p,h=>by
  rw[wF];rcases Ap.1 h with rfl | h
  ·omega
  ·have:=zV h;omega
theorem aAw:∀{l:List Bd}{p:Bd},p∈l→bdW p≤aNi l
 | a::l,p,h=>by
  rw[aNi];rcases Ap.1 h with rfl | h
  ·omega
  ·have:=aAw h;omega
theorem yN:∀l:List Pt,u5 l=(l.map ptW).sum
 | []=>rfl
 | p::l=>by rw[u5,Av,B3,yN l]
theorem s6 {l:List Pt}(h:qP l):(Lib.join (l.map prP) [32]).length≤u5 l:=by
 have h1:=join_le [32] (l.map prP);rw[List.map_map,η,show([32]:Str).length=1 from rfl] at h1;have h2:=aDg (fun p=>(prP p).length+3) ptW l fun p hp=>u9 p (fX h p hp)
 have j:(l.map fun p=>(prP p).length+3).sum=(l.map ((fun s:Str=>s.length)∘prP)).sum+3*l.length:=by
  clear h h1 h2
  induction l with
  | nil=>rfl
  | cons p l c=>
   rw[Av,Av,B3,B3,c,ε];show(prP p).length+3+_=(prP p).length+_+_;omega
 rw[yN];omega
theorem aAu (l:List Str):(aJv l).length≤(l.map (fun s:Str=>s.length)).sum+3*l.length+4:=by
 have h:=join_le [32,59,32] l;rw[show([32,59,32]:Str).length=3 from rfl] at h;unfold aJv;split
 ·show 3≤_;omega
 ·rw[ζ,ζ,show([123,32]:Str).length=2 from rfl,show([32,125]:Str).length=2 from rfl];omega
def kW (l:List (Int×Str)):Nat:=(l.map fun x=>x.2.length+8).sum
theorem aMf (l:List (Int×Str)):(aE2 l).length≤kW l:=by
 cases l with
 | nil=>exact Ac _
 | cons x l=>unfold kW;rw[Av,B3];show x.2.length≤_;omega
theorem aG4:∀(ps:List Pt) (xs:List (Int×Str)),qP ps→((kX ps xs).map (fun s:Str=>s.length)).sum+3*(kX ps xs).length≤u5 ps+kW xs
 | [],xs,_=>by cases xs<;>exact Ac _
 | p::ps,[],_=>Ac _
 | p::ps,x::xs,h=>by
  have h1:=aG4 ps xs h.2;have h2:=u9 p h.1;rw[kX,Av,B3,ε,u5];unfold kW at h1 ⊢;rw[Av,B3,ζ,ζ,show arrS.length=4 from rfl];omega
mutual
theorem jL:∀e:Ex,exP e→(prE e).length+8≤exW e
 | .mk f pl n s ks ps c g,h=>by
  obtain⟨hn,hp,j,q,hb⟩:=h;have h1:=wS ks q;have h2:=wT c hb;have r:=s6 hp;have u:=yE j;have y:=aAb hn;have A:=aAu (lB c);have B:=aAu (kX ps (fJ ks).tail);have E:=aG4 ps (fJ ks).tail hp;have I:=aMf (fJ ks);rw[prE,exW];split
  ·omega
  split
  ·clear h2 r u y A B E I;generalize fJ ks=l at h1;unfold kW at h1
   match l,h1 with
   | [],_=>show 0+8≤_;omega
   | [_],_=>show 0+8≤_;omega
   | a::b::l,h1=>
    have J:=dR (opn a.1) a.2;have M:=dR (opn b.1 || decide (b.1=4)) b.2;rw[Av,Av,B3,B3] at h1;rw[aTa,ζ,ζ,ε,length_nil];omega
  split
  ·rw[ζ,ζ,ζ,show aRf.length=2 from rfl,show arrS.length=4 from rfl];omega
  split
  ·rw[ζ,ζ,ζ,show aRe.length=4 from rfl,show inP.length=4 from rfl];omega
  split
  ·have ht:kW (fJ ks).tail+(aE2 (fJ ks)).length≤kW (fJ ks):=by
    cases fJ ks with
    | nil=>exact le_refl _
    | cons x l=>unfold kW;rw[Av,B3];show _+x.2.length≤_;rw[List.tail_cons];omega
   rw[ζ,ζ,ζ,show aRl.length=5 from rfl,show ofP.length=4 from rfl];omega
  split
  ·have ha:(aSw (fJ ks)).length≤kW (fJ ks)+2:=by
    cases fJ ks with
    | nil=>exact Ac _
    | cons x l=>
     have:=dR (opn x.1) x.2;unfold kW;rw[Av,B3,aSw];omega
   rw[ζ,ζ,show tI.length=3 from rfl];omega
  ·omega
theorem wS:∀l:List Ex,aRh l→kW (fJ l)≤wF l
 | [],_=>le_refl _
 | e::l,h=>by
  have h1:=jL e h.1;have h2:=wS l h.2;rw[fJ,wF];unfold kW at h2 ⊢;rw[Av,B3];dsimp only;omega
theorem aPe:∀b:Bd,bdP b→((prB b).map (fun s:Str=>s.length)).sum+3*(prB b).length≤bdW b
 | .mk s pl h g e,hb=>by
  have h1:=jL e hb.2;have h2:=yE hb.1;rw[prB,bdW];cases h with
  | true=>
   rw[θ rfl];simp only[Bl,Br,Av,map_nil,B3,List.sum_nil,ε,length_nil,ζ,show tI.length=3 from rfl,show eqP.length=3 from rfl];omega
  | false=>
   rw[ξ ω];simp only[Br,Av,map_nil,B3,List.sum_nil,ε,length_nil,ζ,show eqP.length=3 from rfl];omega
theorem wT:∀l:List Bd,aQw l→((lB l).map (fun s:Str=>s.length)).sum+3*(lB l).length≤aNi l
 | [],_=>le_refl _
 | b::l,h=>by
  have h1:=aPe b h.1;have h2:=wT l h.2;rw[lB,aNi,Ai,List.sum_append,ζ];omega
end
theorem yU:∀(l m:List Bd),lB (l++m)=lB l++lB m
 | [],m=>by rw[lB];rfl
 | b::l,m=>by rw[Bl,lB,lB,yU l m,As]
theorem xQ (e:Ex):b8 Tryz.prog 70 [.pa (bN e)] [] (B (opn e.form)) []:=by
 unfold opn;refine bM (n:=21) tok Tryz.func70 rfl rfl rfl ?_;refine sg rfl ?_;by_cases c:e.form=5
 ·have d5:decide (e.form=5)=true:=φ c;rw[d5,Bx];exact sgh [(3,.bv true),(7,.bv true),(8,.bv true),(12,.bv true),(13,.bv true),(17,.bv true)] rfl (aE rtT)
 have d5:decide (e.form=5)=false:=ψ c;by_cases j:e.form=6
 ·have d6:decide (e.form=6)=true:=φ j;rw[d5,d6,Az,Bx];exact sgh [(3,.bv false),(7,.bv false),(8,.bv true),(12,.bv true),(13,.bv true),(17,.bv true)] rfl (aE rtT)
 have d6:decide (e.form=6)=false:=ψ j;by_cases q:e.form=7
 ·have d7:decide (e.form=7)=true:=φ q;rw[d5,d6,d7,Az,Az,Bx];exact sgh [(3,.bv false),(7,.bv false),(8,.bv false),(12,.bv false),(13,.bv true),(17,.bv true)] rfl (aE rtT)
 have d7:decide (e.form=7)=false:=ψ q;rw[d5,d6,d7,Az,Az,Az];exact sgh [(3,.bv false),(7,.bv false),(8,.bv false),(12,.bv false),(13,.bv false),(17,.bv false)] rfl (aE rtT)
theorem xO (l:List Pt) (A:qP l) (hB:u6 l) (hl:l.length≤4002) (hW:u5 l≤400000000):b8 Tryz.prog 71 [.one (.c (.sl 10 (l.map bG)))] [] (Go.AM.T (Lib.join (l.map prP) [32])) []:=by
 have hM:3000000000≤maxLen:=by decide
 have B:(l.map bG).length=l.length:=η _;refine bM (n:=20) tok Tryz.func71 rfl rfl rfl ?_;refine sg rfl (sg rfl (AWp.sub (Sub.own (t:=3) (id:=500) 9 1 rfl rfl) ?_));refine aA (sg rfl (aF (aK (fun i:Nat=>mk [(3,.one (.hs 500 0 (l.take i).length (l.take i).length)),(6,.one (.c (.sl 10 (l.map bG)))),(7,I .i64 ((l.map bG).length:Nat)),(8,I .i64 (i:Nat))] [(500,.arr 9 1 (((l.take i).map prP).map bE) 0)]) (fun i=>i≤l.length) (fun i=>l.length-i) 0 (Ac _) sl ?_)));intro i hi;have M:(l.take i).length=i:=by rw[Am];omega
 refine sg rfl (aA (aB rfl (fun hb=>?_) (fun hb=>?_)))
 ·have j:=ltD hb B;obtain⟨p,hp⟩:=aN j;have O:=aY bG hp;have hm:=Ag hp;have U:=oI hm;have hc:=lU (psz p) p (le_refl _) (fX A p hm) (kF hB p hm) (by omega);have q:(((l.take i).map prP).map bE).length=(l.take i).length:=by rw[η,η]
  have r:l.take (i+1)=l.take i++[p]:=i7 hp;have u:(l.take (i+1)).length=(l.take i).length+1:=by rw[r,ζ];rfl
  have y:(((l.take i).map prP).map bE)++[[.str (prP p)]]=((l.take (i+1)).map prP).map bE:=by rw[r,Ai,Ai];rfl
  refine aD (aA (aF (sgh [(0,.row i (bG p))] rfl (aC mixed (ak 2 [] rfl (kc hc ?_))))));exact ak 3 [(3,.all)] rfl (az (agN [] rfl ⟨i+1,j,by dsimp only;omega,sl (he:=⟨Go.AM.hs_ren (by rw[u,←q];rfl) (by rw[u,←q];rfl),rfl,rfl,rfl,trivial⟩) (hh:=⟨⟨_,rfl,.arrS y⟩,trivial⟩)⟩))
 ·have E:=geD hb B hi;subst E;refine aH ?_;rw[Aq];have Y:=s6 A;have J:=aF3 (l.map prP) [32] (by rw[η];omega) (by omega);have aa:((l.map prP).map bE).length=l.length:=by rw[η,η]
  refine AWp.sub (Sub.freeze (id:=500) rfl) ?_;refine AWp.sub (st2:=mk [(3,cM (l.map prP))] []) ?_ ?_
  ·refine Sub.trans ?_ (cv 3 ((l.map prP).map bE));exact sl
  refine sk 1 rfl (kc J ?_);exact kz 1 rfl (aE rtT)
def PES (k:Nat):Prop:=∀e:Ex,esz e≤k→exP e→n7 e→exW e≤400000000→b8 Tryz.prog 28 [.pa (bN e)] [] (Go.AM.T (prE e)) []
def PBS (k:Nat):Prop:=∀l:List Bd,l.length≤4002→aJt l≤k→aQw l→dZ l→aNi l≤400000000→b8 Tryz.prog 59 [.one (.c (.sl 33 (eD l)))] [] (cM (lB l)) []
theorem s5:∀l:List Bd,(lB l).length≤2*l.length
 | []=>le_refl _
 | .mk s pl h g e::l=>by
  have:=s5 l;rw[lB,prB,ζ,ζ,ε,ε,length_nil];split
  ·rw[ε,length_nil];omega
  ·rw[length_nil];omega
theorem aAr {k:Nat}(hE:PES k):PBS (k+1):=by
 intro l hl hk hP hB hW;have hM:3000000000≤maxLen:=by decide
 have U:(eD l).length=l.length:=by rw[eN,η]
 refine bM (n:=36) tok Tryz.func59 rfl rfl rfl ?_;refine sg rfl (sg rfl (AWp.sub (Sub.own (t:=3) (id:=500) 9 1 rfl rfl) ?_));refine aA (sg rfl (aF (aK (fun i:Nat=>mk [(3,.one (.hs 500 0 (lB (l.take i)).length (lB (l.take i)).length)),(6,.one (.c (.sl 33 (eD l)))),(7,I .i64 ((eD l).length:Nat)),(8,I .i64 (i:Nat))] [(500,.arr 9 1 ((lB (l.take i)).map bE) 0)]) (fun i=>i≤l.length) (fun i=>l.length-i) 0 (Ac _) sl ?_)));intro i hi;have hti:(l.take i).length=i:=by rw[Am];omega
 have Y:=s5 (l.take i);refine sg rfl (aA (aB rfl (fun hb=>?_) (fun hb=>?_)))
 ·have B:=ltD hb U;obtain⟨b,E⟩:=aN B;have hx':(eD l)[i]?=some (aW b):=by rw[eN];exact aY aW E
  have hm:=Ag E;have aa:=gM.1 hB b hm;have y:=aAx hP b hm;have hsz:=xT hm;have ab:=aAw hm;have ac:l.take (i+1)=l.take i++[b]:=i7 E;obtain⟨q,pl,has,j,e⟩:=b;have hnm:List.length (Bd.name (.mk q pl has j e))=q.length:=rfl;rw[bsz] at hsz;rw[bdW] at ab;have hs:=rB y.1 (by omega);have hsl:=yE y.1;have he:=hE e (by omega) y.2 aa.2 (by omega);have hel:=jL e y.2;have r:lB (l.take (i+1))=lB (l.take i)++prB (.mk q pl has j e):=by rw[ac,yU,lB,lB,Cc]
  have hc3:tI.length=3:=rfl;have hq3:eqP.length=3:=rfl;generalize lB (l.take i)=P at Y r;have A:(P.map bE).length=P.length:=η _;refine aD (aA (aF (sgh [(0,.row i (aW (.mk q pl has j e)))] rfl (aA (sg rfl ?_)))));cases has with
  | true=>
   refine aB rfl (fun _=>aC mixed (ak 6 [] rfl (kc hs ?_))) nofun;refine ak 4 [(8,.all)] rfl (az ?_);have u:(P.map bE)++[[.str (q++tI++tR j)]]=(P++[q++tI++tR j]).map bE:=by rw[Ai];rfl
   have hle:(P++[q++tI++tR j]).length=P.length+1:=by rw[ζ];rfl
   have O:((P++[q++tI++tR j]).map bE)++[[.str (q++eqP++prE e)]]=(lB (l.take (i+1))).map bE:=by rw[r,prB,θ rfl,←As];simp[bE]
   have J:(lB (l.take (i+1))).length=(P++[q++tI++tR j]).length+1:=by rw[r,prB,θ rfl,←As];simp
   have M:((P++[q++tI++tR j]).map bE).length=(P++[q++tI++tR j]).length:=η _;refine AWp.sub (st2:=mk [(3,.one (.hs 500 0 (P++[q++tI++tR j]).length (P++[q++tI++tR j]).length)),(5,.one (.vp 5 0)),(6,.one (.c (.sl 33 (eD l)))),(7,I .i64 ((eD l).length:Nat)),(8,I .i64 (i:Nat))] [(500,.arr 9 1 ((P++[q++tI++tR j]).map bE) 0),(5,.var 99 ((aW (.mk q pl true j e)).map .c))]) (sl (he:=⟨Go.AM.hs_ren (by rw[hle,←A];rfl) (by rw[hle,←A];rfl),rfl,rfl,rfl,rfl,trivial⟩) (hh:=⟨⟨_,rfl,.arrS u⟩,⟨_,rfl,.var rfl⟩,trivial⟩)) ?_;generalize P++[q++tI++tR j]=P2 at *;refine aC mixed (ak 6 [] rfl (kc he ?_));exact ak 4 [(8,.all)] rfl (az (agN [] rfl ⟨i+1,B,by dsimp only;omega,sl (he:=⟨Go.AM.hs_ren (by rw[J,←M];rfl) (by rw[J,←M];rfl),rfl,rfl,rfl,trivial⟩) (hh:=⟨⟨_,rfl,.arrS O⟩,trivial⟩)⟩))
  | false=>
   refine aB rfl nofun (fun _=>aD (aC mixed (ak 6 [] rfl (kc he ?_))));refine ak 4 [(8,.all)] rfl (az ?_);have u:(P.map bE)++[[.str (q++eqP++prE e)]]=(lB (l.take (i+1))).map bE:=by rw[r,prB,ξ ω,Br,Ai];rfl
   have hle:(lB (l.take (i+1))).length=P.length+1:=by rw[r,prB,ξ ω,Br,ζ];rfl
   exact agN [] rfl ⟨i+1,B,by dsimp only;omega,sl (he:=⟨Go.AM.hs_ren (by rw[hle,←A];rfl) (by rw[hle,←A];rfl),rfl,rfl,rfl,trivial⟩) (hh:=⟨⟨_,rfl,.arrS u⟩,trivial⟩)⟩
 ·have ad:=geD hb U hi;subst ad;refine aH ?_;rw[Aq];refine sg rfl (AWp.sub (Sub.freeze (id:=500) rfl) ?_);exact aE (rtH (hsz:=(η _).symm) (hlen:=(η _).symm))
theorem wA:∀(ps:List Pt) (xs:List (Int×Str)) (i:Nat) (p:Pt) (x:Int×Str),ps[i]?=some p→xs[i]?=some x→kX (ps.take (i+1)) xs=kX (ps.take i) xs++[prP p++arrS++x.2]
 | [],_,i,_,_,h,_=>by cases h
 | _::_,[],i,_,_,_,h=>by cases h
 | p::ps,x::xs,0,j,q,h,c=>by
  injection h with h;injection c with c;subst h;subst c;rw[A8,take_zero,kX,take_zero];cases xs<;>(simp[kX])
 | p::ps,x::xs,i+1,j,q,h,c=>by
  rw[A8,A8,kX,kX,wA ps xs i j q h c];rfl
theorem yT:∀{l:List Ex}{i:Nat}{e:Ex},l[i]?=some e→(fJ l)[i]?=some (e.form,prE e)
 | _::_,0,_,h=>by injection h with h;subst h;rw[fJ];rfl
 | _::l,i+1,e,h=>by rw[fJ];exact yT (l:=l) (i:=i) h
theorem tA:∀(ps:List Pt) (xs:List (Int×Str)),ps.length≤xs.length→(kX ps xs).length=ps.length
 | [],xs,_=>by cases xs<;>simp[kX]
 | p::ps,[],h=>by rw[ε,length_nil] at h;omega
 | p::ps,x::xs,h=>by rw[kX,ε,ε,tA ps xs (by rw[ε,ε] at h;omega)]
theorem yS:∀l:List Ex,(fJ l).length=l.length
 | []=>rfl
 | _::l=>by rw[fJ,ε,ε,yS l]
theorem aI8 {k:Nat}(E:PES k) (hBS:PBS k):PES (k+1):=by
 intro x hk hP hO hW;obtain⟨f,pl,n,s,ks,ps,r,g⟩:=x;have hM:3000000000≤maxLen:=by decide
 have j:=jL _ hP;have hx0:∃X,X=Ex.mk f pl n s ks ps r g:=⟨_,rfl⟩
 obtain⟨X,hX⟩:=hx0;rw[esz] at hk;rw[exW] at hW j;obtain⟨hn,y,hg,q,hbp⟩:=hP;obtain⟨⟨hl1,hl2,hl3⟩,hsg,⟨ar1,ar2,ar3⟩,hps,u,hbs⟩:=hO;refine bM (n:=124) tok Tryz.func28 rfl rfl rfl ?_;refine sg rfl (aA (sg rfl (aF (sg rfl ?_))));rw[prE] at j ⊢;by_cases h3:f=3
 ·have d3:decide (f=3)=true:=φ h3;rw[θ h3];have hi:=aF4 hn;refine aB rfl (fun _=>sk 2 rfl (kc hi ?_)) (fun hb=>Bool.noConfusion (hb.symm.trans d3));exact kz 1 rfl (aE rtT)
 have d3:decide (f=3)=false:=ψ h3;rw[ξ h3] at j ⊢;refine aB rfl (fun hb=>Bool.noConfusion (hb.symm.trans d3)) (fun _=>sg rfl ?_);by_cases h4:f=4
 ·have d4:decide (f=4)=true:=φ h4;rw[θ h4] at j ⊢;have h2:=ar1 h4
  match ks,h2 with
  | [a,b],_=>
   rw[zW,zW,zW] at hk;rw[wF,wF,wF] at hW j;have ha:=E a (by omega) q.1 u.1 (by omega);have hb:=E b (by omega) q.2.1 u.2.1 (by omega);have la:=jL a q.1;have lb:=jL b q.2.1;have M:=xQ a;have O:=xQ b;have U:=eP (prE a) (opn a.form) (by omega);have lba:=dR (opn a.form) (prE a);show AWp _ _ _ _ _ _ (lW _ (aOg _ _ _ _ _ fun ex st=>(ex=.normal∨ex=.ret)∧Fin _ _ st _ (Go.AM.T (brk (opn a.form) (prE a)++[32]++brk (opn b.form || decide (b.form=4)) (prE b))) _));refine aB rfl (fun _=>sgh [(2,.row 0 (bN a)),(6,.row 1 (bN b))] rfl ?_) (fun hb=>Bool.noConfusion (hb.symm.trans d4));cases hop:opn b.form with
   | true=>
    rw[hop] at O;rw[Bx];have hbb:=eP (prE b) true (by omega);have lbb:=dR true (prE b);generalize brk (opn a.form) (prE a)=A at *;generalize brk true (prE b)=B0 at *;refine sk 1 rfl (kc ha ?_);refine ak 1 [] rfl (kc M ?_);refine kc U ?_;refine ak 2 [] rfl (kc hb ?_);refine ak 1 [] rfl (kc O ?_);refine ak 5 [(10,.bv true),(14,.bv true)] rfl (kc hbb ?_);exact kz 2 rfl (aE rtT)
   | false=>
    rw[hop] at O;rw[Az];have hbb:=eP (prE b) (decide (b.form=4)) (by omega);have lbb:=dR (decide (b.form=4)) (prE b);generalize brk (opn a.form) (prE a)=A at *;generalize brk (decide (b.form=4)) (prE b)=B0 at *;refine sk 1 rfl (kc ha ?_);refine ak 1 [] rfl (kc M ?_);refine kc U ?_;refine ak 2 [] rfl (kc hb ?_);refine ak 1 [] rfl (kc O ?_);refine ak 5 [(10,.bv false),(14,.bv false)] rfl (kc hbb ?_);exact kz 2 rfl (aE rtT)
 have d4:decide (f=4)=false:=ψ h4;rw[ξ h4] at j ⊢;refine aB rfl (fun hb=>Bool.noConfusion (hb.symm.trans d4)) (fun _=>sg rfl ?_);by_cases h5:f=5
 ·have d5:decide (f=5)=true:=φ h5;rw[θ h5] at j ⊢;have h2:=ar2 (.inl h5)
  match ks,h2 with
  | [a],_=>
   rw[zW,zW] at hk;rw[wF,wF] at hW j;have ha:=E a (by omega) q.1 u.1 (by omega);have la:=jL a q.1;have hpt:=xO ps y hps hl2 (by omega);have lpt:=s6 y;have l2:aRf.length=2:=rfl;have l4:arrS.length=4:=rfl;show AWp _ _ _ _ _ _ (lW _ (aOg _ _ _ _ _ fun ex st=>(ex=.normal∨ex=.ret)∧Fin _ _ st _ (Go.AM.T (aRf++Lib.join (ps.map prP) [32]++arrS++prE a)) _));generalize Lib.join (ps.map prP) [32]=J at *;refine aB rfl (fun _=>sk 2 rfl (kc hpt ?_)) (fun hb=>Bool.noConfusion (hb.symm.trans d5));refine ak 6 [(7,.row 0 (bN a))] rfl (kc ha ?_);exact kz 2 rfl (aE rtT)
 have d5:decide (f=5)=false:=ψ h5;rw[ξ h5] at j ⊢;refine aB rfl (fun hb=>Bool.noConfusion (hb.symm.trans d5)) (fun _=>sg rfl ?_);by_cases h6:f=6
 ·have d6:decide (f=6)=true:=φ h6;rw[θ h6] at j ⊢;have h2:=ar2 (.inr (.inl h6))
  match ks,h2 with
  | [a],_=>
   rw[zW,zW] at hk;rw[wF,wF] at hW j;have ha:=E a (by omega) q.1 u.1 (by omega);have la:=jL a q.1;have hbd:=hBS r hl3 (by omega) hbp hbs (by omega);have lbn:=s5 r;have lbw:=wT r hbp;have lbj:=join_le [32,59,32] (lB r);rw[show([32,59,32]:Str).length=3 from rfl] at lbj;have hbk:=aAq (lB r) (by omega) (by omega);have lbk:=aAu (lB r);have l2:aRe.length=4:=rfl;have l4:inP.length=4:=rfl;show AWp _ _ _ _ _ _ (lW _ (aOg _ _ _ _ _ fun ex st=>(ex=.normal∨ex=.ret)∧Fin _ _ st _ (Go.AM.T (aRe++aJv (lB r)++inP++prE a)) _));generalize aJv (lB r)=J at *;refine aB rfl (fun _=>sk 2 rfl (kc hbd ?_)) (fun hb=>Bool.noConfusion (hb.symm.trans d6));refine kc hbk ?_;refine ak 6 [(8,.row 0 (bN a))] rfl (kc ha ?_);exact kz 2 rfl (aE rtT)
 have d6:decide (f=6)=false:=ψ h6;rw[ξ h6] at j ⊢;refine aB rfl (fun hb=>Bool.noConfusion (hb.symm.trans d6)) (fun _=>sg rfl ?_);by_cases h7:f=7
 ·have d7:decide (f=7)=true:=φ h7;rw[θ h7] at j ⊢;have h2:=ar3 h7;have hkA:(oD (.mk f pl n s ks ps r g)).length=ks.length:=by rw[kK,η];rfl
  have hkP:(ps.map bG).length=ps.length:=η _
  match ks,h2 with
  | [],h2=>rw[length_nil] at h2;omega
  | a::ks,h2=>
   have h2:ks.length=ps.length:=by rw[ε] at h2;omega
   rw[zW] at hk;rw[wF] at hW j;have ha:=E a (by omega) q.1 u.1 (by omega);have la:=jL a q.1;have hxl:(fJ ks).length=ks.length:=yS ks;have lalt:=aG4 ps (fJ ks) y;have lkw:=wS ks q.2;have l5:aRl.length=5:=rfl;have l4:ofP.length=4:=rfl;have l4':arrS.length=4:=rfl;show AWp _ _ _ _ _ _ (lW _ (aOg _ _ _ _ _ fun ex st=>(ex=.normal∨ex=.ret)∧Fin _ _ st _ (Go.AM.T (aRl++prE a++ofP++aJv (kX ps (fJ ks)))) _));refine aB rfl (fun _=>sg rfl (AWp.sub (Sub.own (t:=5) (id:=500) 9 1 rfl rfl) ?_)) (fun hb=>Bool.noConfusion (hb.symm.trans d7));refine aA (sg rfl (aF (aK (fun i:Nat=>mk [(1,.one (.vp 1 0)),(5,.one (.hs 500 0 (kX (ps.take i) (fJ ks)).length (kX (ps.take i) (fJ ks)).length)),(72,.one (.c (.sl 10 (ps.map bG)))),(73,I .i64 ((ps.map bG).length:Nat)),(74,I .i64 (i:Nat))] [(1,.var 61 ((bN (.mk f pl n s (a::ks) ps r g)).map .c)),(500,.arr 9 1 ((kX (ps.take i) (fJ ks)).map bE) 0)]) (fun i=>i≤ps.length) (fun i=>ps.length-i) 0 (Ac _) (sl (he:=⟨rfl,by rw[take_zero];cases fJ ks<;>rfl,rfl,rfl,rfl,trivial⟩) (hh:=⟨⟨_,rfl,.var rfl⟩,⟨_,rfl,.arrS (by rw[take_zero];cases fJ ks<;>rfl)⟩,trivial⟩)) ?_)));intro i hi;have hti:(ps.take i).length=i:=by rw[Am];omega
   have hal:(kX (ps.take i) (fJ ks)).length=i:=by rw[tA _ _ (by omega),hti]
   refine sg rfl (aA (aB rfl (fun hb=>?_) (fun hb=>?_)))
   ·have hlt:=ltD hb hkP;obtain⟨p,hp⟩:=aN hlt;obtain⟨e,he⟩:=aN (l:=ks) (k:=i) (by omega);have hp':=aY bG hp;have he':(oD (.mk f pl n s (a::ks) ps r g))[i+1]?=some (bN e):=by rw[kK];exact aY bN (show(a::ks)[i+1]?=some e from he)
    have Y:=Ag hp;have B:=Ag he;have wp:=oI Y;have we:=zV B;have ze:=xI B;have hcp:=lU (psz p) p (le_refl _) (fX y p Y) (kF hps p Y) (by omega);have hce:=E e (by omega) (sL q.2 e B) (qB u.2 e B) (by omega);have lp:=u9 p (fX y p Y);have le:=jL e (sL q.2 e B);have hsn:=wA ps (fJ ks) i p (e.form,prE e) hp (yT he);have hrow:((kX (ps.take i) (fJ ks)).map bE)++[[.str (prP p++arrS++prE e)]]=(kX (ps.take (i+1)) (fJ ks)).map bE:=by rw[hsn,Ai];rfl
    have hle:(kX (ps.take (i+1)) (fJ ks)).length=(kX (ps.take i) (fJ ks)).length+1:=by rw[hsn,ζ];rfl
    have hln:((kX (ps.take i) (fJ ks)).map bE).length=(kX (ps.take i) (fJ ks)).length:=η _;have hkA1:(oD (.mk f pl n s (a::ks) ps r g)).length=ks.length+1:=hkA;refine aD (aA (aF (sgh [(1,.row i (bG p))] rfl (aC mixed (ak 2 [] rfl (kc hcp ?_))))));refine akN 7 [(8,.row (i+1) (bN e))] rfl (kc hce ?_);exact ak 4 [(12,.all)] rfl (az (agN [] rfl ⟨i+1,hlt,by dsimp only;omega,sl (he:=⟨rfl,Go.AM.hs_ren (by rw[hle,←hln];rfl) (by rw[hle,←hln];rfl),rfl,rfl,rfl,trivial⟩) (hh:=⟨⟨_,rfl,.var rfl⟩,⟨_,rfl,.arrS hrow⟩,trivial⟩)⟩))
   ·have hge:=geD hb hkP hi;subst hge;refine aH ?_;rw[Aq];have laj:=join_le [32,59,32] (kX ps (fJ ks));rw[show([32,59,32]:Str).length=3 from rfl] at laj;have hal2:(kX ps (fJ ks)).length=ps.length:=tA ps (fJ ks) (by omega);have hbk:=aAq (kX ps (fJ ks)) (by omega) (by omega);have lbk:=aAu (kX ps (fJ ks));refine AWp.sub (Sub.freeze (id:=500) rfl) ?_;refine AWp.sub (st2:=mk [(1,.one (.vp 1 0)),(5,cM (kX ps (fJ ks)))] [(1,.var 61 ((bN (.mk f pl n s (a::ks) ps r g)).map .c))]) ?_ ?_
    ·refine Sub.trans ?_ (cv 5 ((kX ps (fJ ks)).map bE));exact sl
    generalize kX ps (fJ ks)=J at *;refine skh 4 [(2,.row 0 (bN a))] rfl (kc ha ?_);refine ak 3 [] rfl (kc hbk ?_);exact kz 2 rfl (aE rtT)
 have d7:decide (f=7)=false:=ψ h7;rw[ξ h7] at j ⊢;refine aB rfl (fun hb=>Bool.noConfusion (hb.symm.trans d7)) (fun _=>sg rfl ?_);by_cases h8:f=8
 ·have d8:decide (f=8)=true:=φ h8;rw[θ h8] at j ⊢;have h2:=ar2 (.inr (.inr h8))
  match ks,h2 with
  | [a],_=>
   rw[zW,zW] at hk;rw[wF,wF] at hW j;have ha:=E a (by omega) q.1 u.1 (by omega);have la:=jL a q.1;have M:=xQ a;have U:=eP (prE a) (opn a.form) (by omega);have lba:=dR (opn a.form) (prE a);have hsc:=rB hg (by omega);have lsc:=yE hg;have l3:tI.length=3:=rfl;show AWp _ _ _ _ _ _ (lW _ (aOg _ _ _ _ _ fun ex st=>(ex=.normal∨ex=.ret)∧Fin _ _ st _ (Go.AM.T (brk (opn a.form) (prE a)++tI++tR g)) _));generalize brk (opn a.form) (prE a)=A at *;refine aB rfl (fun _=>skh 4 [(2,.row 0 (bN a))] rfl (kc ha ?_)) (fun hb=>Bool.noConfusion (hb.symm.trans d8));refine ak 4 [(7,.row 0 (bN a))] rfl (kc M ?_);refine kc U ?_;refine ak 3 [] rfl (kc hsc ?_);exact kz 2 rfl (aE rtT)
 have d8:decide (f=8)=false:=ψ h8;rw[ξ h8] at j ⊢;exact aB rfl (fun hb=>Bool.noConfusion (hb.symm.trans d8)) (fun _=>aD (sg rfl (aE rtT)))
theorem mE:∀k,PES k∧PBS k
 | 0=>⟨fun e h=>by cases e;rw[esz] at h;omega,fun l hl h c hB j=>by
   cases l with
   | nil=>exact aAr (k:=0) (fun e h=>by cases e;rw[esz] at h;omega) [] hl (Ac _) c hB j
   | cons b l=>cases b;rw[aJt,bsz] at h;omega⟩
 | k+1=>⟨aI8 (mE k).1 (mE k).2,aAr (mE k).1⟩
theorem xS (e:Ex) (c:exP e) (hO:n7 e) (j:exW e≤400000000):b8 Tryz.prog 28 [.pa (bN e)] [] (Go.AM.T (prE e)) []:=(mE (esz e)).1 e (le_refl _) c hO j
def pgV (p:Pg):AObj:=.var 29 ((mI p).map .c)
theorem aI6 (p:Pg) (hp:PgOk 60 p):b8 Tryz.prog 10 [.pa (mI p),.pa (mI p)] [] (B true) []:=by
 have hkD:(p.datas.map fM).length=p.datas.length:=η _;have hkC:(p.classes.map fN).length=p.classes.length:=η _;have hkI:(p.insts.map iD).length=p.insts.length:=η _;have hlD:=hp.d.1;have hlC:=hp.c.1;have hlI:=hp.i.1;have d1:=j7 ((p.datas.map fM).length:Int);have d2:=j7 ((p.classes.map fN).length:Int);have d3:=j7 ((p.insts.map iD).length:Int);have d0:=j7 (0:Int);refine bM (n:=353) tok Tryz.func10 rfl rfl rfl ?_;refine sg rfl (aA (sgh [(7,.bv false),(15,.bv false),(16,.bv false),(24,.bv false)] rfl (aB rfl (fun hb=>Bool.noConfusion (hb.symm.trans d3)) (fun _=>aD ?_))));clear d1 d2 d3;refine aA (sg rfl (aF (aK (fun i:Nat=>mk [(2,.one (.vp 2 0)),(3,.one (.vp 3 0)),(5,I .i64 (i:Nat))] [(2,pgV p),(3,pgV p)]) (fun i=>i≤p.datas.length) (fun i=>p.datas.length-i) 0 (Ac _) sl ?_)));intro i hi;refine aA (sg rfl (aB rfl (fun hb=>?_) (fun hb=>?_)))
 ·have y:=ltD hb hkD;obtain⟨x,hx⟩:=aN y;have ab:=aY fM hx;have hm:=Ag hx;have hok:=hp.d.2 x hm;clear hb;obtain⟨u,pl,vars,cons⟩:=x;have M:=oP vars (by have:=hok.v;dsimp only at this;omega);have O:(cons.map fE).length=cons.length:=η _;have U:=hok.c.1;have E:=hok.c.2;dsimp only at U E;have d1:=j7 u;have d2:=j7 pl;have d3:=j7 ((cons.map fE).length:Int);refine aD (aA (aF (sgh [(3,.row i (fM ⟨u,pl,vars,cons⟩))] rfl (sgh [(3,.row i (fM ⟨u,pl,vars,cons⟩))] rfl (aA (skh 17 [(5,.bv false),(11,.bv false),(12,.bv false),(19,.bv false),(20,.bv false),(25,.bv false),(26,.bv false),(34,.bv false)] rfl (kcG M ?_)))))));refine ak 17 [(5,.bv false),(11,.bv false),(12,.bv false),(19,.bv false),(20,.bv false),(25,.bv false),(26,.bv false),(34,.bv false)] rfl (az (aB rfl (fun hb=>Bool.noConfusion (hb.symm.trans d3)) (fun _=>aD ?_)));clear d1 d2 d3 M;refine sg rfl (aF (aK (fun k:Nat=>mk [(2,.one (.vp 2 0)),(3,.one (.vp 3 0)),(5,I .i64 (i:Nat)),(6,.one (.vp 6 0)),(7,.one (.vp 7 0)),(8,I .i64 (k:Nat))] [(2,pgV p),(3,pgV p),(6,.var 81 ((fM ⟨u,pl,vars,cons⟩).map .c)),(7,.var 81 ((fM ⟨u,pl,vars,cons⟩).map .c))]) (fun k=>k≤cons.length) (fun k=>cons.length-k) 0 (Ac _) sl ?_));intro k hk;refine aA (sg rfl (aB rfl (fun hb=>?_) (fun hb=>?_)))
  ·have J:=ltD hb O;obtain⟨c,hc⟩:=aN J;have hc':=aY fE hc;have A:=E c (Ag hc);clear hb;obtain⟨j,r,fs⟩:=c;have hkF:(fs.map bL).length=fs.length:=η _;obtain⟨hlF,ac⟩:=A;dsimp only at hlF ac;have d1:=j7 j;have d2:=j7 r;have d3:=j7 ((fs.map bL).length:Int);refine aD (aA (aF (aA (sgh [(13,.bv false),(27,.bv false),(28,.bv false),(44,.bv false),(3,.row k (fE ⟨j,r,fs⟩)),(9,.row k (fE ⟨j,r,fs⟩)),(17,.row k (fE ⟨j,r,fs⟩)),(23,.row k (fE ⟨j,r,fs⟩)),(32,.row k (fE ⟨j,r,fs⟩)),(39,.row k (fE ⟨j,r,fs⟩))] rfl (aB rfl (fun hb=>Bool.noConfusion (hb.symm.trans d3)) (fun _=>aD ?_))))));clear d1 d2 d3;refine sg rfl (aF (aK (fun q:Nat=>mk [(2,.one (.vp 2 0)),(3,.one (.vp 3 0)),(5,I .i64 (i:Nat)),(6,.one (.vp 6 0)),(7,.one (.vp 7 0)),(8,I .i64 (k:Nat)),(9,I .i64 (q:Nat))] [(2,pgV p),(3,pgV p),(6,.var 81 ((fM ⟨u,pl,vars,cons⟩).map .c)),(7,.var 81 ((fM ⟨u,pl,vars,cons⟩).map .c))]) (fun q=>q≤fs.length) (fun q=>fs.length-q) 0 (Ac _) sl ?_));intro q hq;refine aA (sgh [(4,.row k (fE ⟨j,r,fs⟩))] rfl (aB rfl (fun hb=>?_) (fun hb=>?_)))
   ·have ad:=ltD hb hkF;obtain⟨t,ht⟩:=aN ad;have ht':=aY bL ht;have hte:=aAl t (by have:=(ac t (Ag ht)).2;omega);clear hb;refine aD (aA (aF (skh 18 [(3,.row k (fE ⟨j,r,fs⟩)),(7,.row q (bL t)),(12,.row k (fE ⟨j,r,fs⟩)),(16,.row q (bL t))] rfl (kc hte ?_))));exact kz 1 rfl (aB rfl (fun hb=>Bool.noConfusion hb) (fun _=>aD (agN [] rfl ⟨q+1,ad,by dsimp only;omega,sl⟩)))
   ·exact aH (agN [] rfl ⟨k+1,J,by dsimp only;omega,sl⟩)
  ·exact aH (agN [] rfl ⟨i+1,y,by dsimp only;omega,sl⟩)
 refine aH (aA (sg rfl (aF (aK (fun i:Nat=>mk [(2,.one (.vp 2 0)),(3,.one (.vp 3 0)),(10,I .i64 (i:Nat))] [(2,pgV p),(3,pgV p)]) (fun i=>i≤p.classes.length) (fun i=>p.classes.length-i) 0 (Ac _) sl ?_))));intro i hi;refine aA (sg rfl (aB rfl (fun hb=>?_) (fun hb=>?_)))
 ·have y:=ltD hb hkC;obtain⟨x,hx⟩:=aN y;have ab:=aY fN hx;have hm:=Ag hx;have hok:=hp.c.2 x hm;clear hb;obtain⟨u,pl,Y,sup,ms⟩:=x;have M:=oP sup (by have:=hok.s;dsimp only at this;omega);have O:(ms.map c6).length=ms.length:=η _;have U:=hok.m.1;have E:=hok.m.2;dsimp only at U E;have d1:=j7 u;have d2:=j7 pl;have d4:=j7 Y;have d3:=j7 ((ms.map c6).length:Int);refine aD (aA (aF (sgh [(3,.row i (fN ⟨u,pl,Y,sup,ms⟩))] rfl (sgh [(3,.row i (fN ⟨u,pl,Y,sup,ms⟩))] rfl (aA (skh 24 [(5,.bv false),(11,.bv false),(12,.bv false),(18,.bv false),(19,.bv false),(26,.bv false),(27,.bv false),(33,.bv false),(34,.bv false),(42,.bv false)] rfl (kcG M ?_)))))));refine ak 18 [(5,.bv false),(11,.bv false),(12,.bv false),(18,.bv false),(19,.bv false),(26,.bv false),(27,.bv false),(33,.bv false),(34,.bv false),(42,.bv false)] rfl (az (aB rfl (fun hb=>Bool.noConfusion (hb.symm.trans d3)) (fun _=>aD ?_)));clear d1 d2 d3 d4 M;refine sg rfl (aF (aK (fun k:Nat=>mk [(2,.one (.vp 2 0)),(3,.one (.vp 3 0)),(10,I .i64 (i:Nat)),(11,.one (.vp 11 0)),(12,.one (.vp 12 0)),(13,I .i64 (k:Nat))] [(2,pgV p),(3,pgV p),(11,.var 90 ((fN ⟨u,pl,Y,sup,ms⟩).map .c)),(12,.var 90 ((fN ⟨u,pl,Y,sup,ms⟩).map .c))]) (fun k=>k≤ms.length) (fun k=>ms.length-k) 0 (Ac _) sl ?_));intro k hk;refine aA (sg rfl (aB rfl (fun hb=>?_) (fun hb=>?_)))
  ·have J:=ltD hb O;obtain⟨c,hc⟩:=aN J;have hc':=aY c6 hc;have A:=E c (Ag hc);clear hb;obtain⟨j,r,s⟩:=c;have hs:=aKv s A.2.1 (fun p hp=>(A.2.2.1 p hp).2) (by have:=A.2.2.2.1;dsimp only at this;omega) (by have:=A.2.2.2.2;dsimp only at this;omega);have d1:=j7 j;have d2:=j7 r;refine aD (aA (aF (skh 41 [(13,.bv false),(27,.bv false),(28,.bv false),(43,.bv false),(3,.row k (c6 ⟨j,r,s⟩)),(9,.row k (c6 ⟨j,r,s⟩)),(17,.row k (c6 ⟨j,r,s⟩)),(23,.row k (c6 ⟨j,r,s⟩)),(32,.row k (c6 ⟨j,r,s⟩)),(38,.row k (c6 ⟨j,r,s⟩))] rfl (kcG hs ?_))));exact ak 2 [(13,.bv false),(27,.bv false),(28,.bv false),(43,.bv false)] rfl (az (aB rfl (fun hb=>Bool.noConfusion hb) (fun _=>aD (agN [] rfl ⟨k+1,J,by dsimp only;omega,sl⟩))))
  ·exact aH (agN [] rfl ⟨i+1,y,by dsimp only;omega,sl⟩)
 refine aH (aA (sg rfl (aF (aK (fun i:Nat=>mk [(2,.one (.vp 2 0)),(3,.one (.vp 3 0)),(14,I .i64 (i:Nat))] [(2,pgV p),(3,pgV p)]) (fun i=>i≤p.insts.length) (fun i=>p.insts.length-i) 0 (Ac _) sl ?_))));intro i hi;refine aA (sg rfl (aB rfl (fun hb=>?_) (fun hb=>?_)))
 ·have y:=ltD hb hkI;obtain⟨x,hx⟩:=aN y;have ab:=aY iD hx;have hm:=Ag hx;have hok:=hp.i.2 x hm;clear hb;obtain⟨cl,pl,j,vars,preds,binds⟩:=x;have M:=oP vars (by have:=hok.v;dsimp only at this;omega);have hpr:=aAo preds (by have:=hok.p.1;dsimp only at this;omega) (fun p hp=>(hok.p.2 p hp).2);have aa:=nY binds (by have:=hok.b.1;dsimp only at this;omega) hok.b.2;have d1:=j7 cl;have d2:=j7 pl;have d3:=j7 j;refine aD (aA (aF (sgh [(3,.row i (iD ⟨cl,pl,j,vars,preds,binds⟩))] rfl (sgh [(3,.row i (iD ⟨cl,pl,j,vars,preds,binds⟩))] rfl (skh 24 [(5,.bv false),(11,.bv false),(12,.bv false),(18,.bv false),(19,.bv false),(26,.bv false),(27,.bv false),(34,.bv false),(35,.bv false),(42,.bv false)] rfl (kcG M ?_))))));refine ak 7 [(5,.bv false),(11,.bv false),(12,.bv false),(18,.bv false),(19,.bv false),(26,.bv false),(27,.bv false),(34,.bv false),(35,.bv false),(42,.bv false)] rfl (kcG hpr ?_);refine ak 7 [(5,.bv false),(11,.bv false),(12,.bv false),(18,.bv false),(19,.bv false),(26,.bv false),(27,.bv false),(34,.bv false),(35,.bv false),(42,.bv false)] rfl (kcG aa ?_);exact ak 2 [(5,.bv false),(11,.bv false),(12,.bv false),(18,.bv false),(19,.bv false),(26,.bv false),(27,.bv false),(34,.bv false),(35,.bv false),(42,.bv false)] rfl (az (aB rfl (fun hb=>Bool.noConfusion hb) (fun _=>aD (agN [] rfl ⟨i+1,y,by dsimp only;omega,sl⟩))))
 refine aH ?_;have aa:=nY p.binds (by have:=hp.b.1;omega) hp.b.2;refine sk 4 rfl (kc aa ?_);exact kz 1 rfl (aE rtT)
end Go.Proofs.YtpmheldmadendaaGreatDoor
namespace Go.AM
open Go
section
variable {P:Program}{T:TT}{n:Nat}{o:Oper}{st:St}{d:Nat}
theorem aDv {c ty:TypeId}{i:TI}{fs:List (Nat×TypeId)}{x y:Operand}{j q:List C}(E:Tok P T) (hq:aHb P c) (ho:o.op=.binOp .neq c x y ty) (J:o.dst=some d) (I:d<n) (hi:T[c]?=some (some i)) (M:i.k=.st fs)
  (hx:opv st x=some (.pa j)) (hy:opv st y=some (.pa q)) (hs:scalars T 0 fs j q=true):Step P n o st ⟨opr x++opr y,[]⟩ ⟨some (d,some (B (!aC4 j q))),[]⟩:=by
 refine Step.value J I fun _ ha _ S μ ac w r=>?_
 have h1:=aL r hx (cI ha).1;have h2:=aL r hy (cI ha).2;simp only[aO] at h1 h2;obtain⟨us,h1,O⟩:=h1;obtain⟨vs,h2,U⟩:=h2;obtain⟨fields,hu,A⟩:=(E.get hi).struct M;unfold aHb aHb.check at hq;simp only[hu,τ,Be] at hq;obtain⟨⟨Y,q2⟩,q3⟩:=hq;have u:P.fieldsOf c=fields:=by simp[Program.fieldsOf,hu]
 have hn : ∀ f ∈ fields.toList, f.name ≠ "_" := fun f A => by
  have:=(A3.1 Y) f A;simpa using this
 refine⟨.bool (!aC4 j q),wL ho h1 h2 ?_ rfl ?_,by simp[aO,aT,Rep]⟩
 ·have hp:(program:Sem Program).run P w=.ok P w:=rfl;simp only[eqGuard];simp[hp,q3]
 ·rw[run_equalIn_struct w 9999 c _ _ (by rw[u,hu]) q2,u];exact nR E ⟨us⟩ ⟨vs⟩ 9998 w fields.toList 0 j q (by rw[←A];exact hs) hn (by simpa using O) (by simpa using U)
end
end Go.AM
namespace Go.Proofs.YtpmheldmadendaaGreatDoor
open Go Go.AM
set_option maxRecDepth 20000
set_option maxHeartbeats 4000000
def aSl:Str:=[102,32,120,32,61,32,103,32,40,120,32,58,32,73,110,116,41]
def aTf:Str:=[92,32,120,32,45,62,32,103,32,40,120,32,58,32,73,110,116,41]
def aN8:Ex:=.mk 5 2 0 [] [.mk 4 6 0 [] [.mk 1 6 0 [103] [] [] [] nQ,.mk 8 9 0 [] [.mk 1 9 0 [120] [] [] [] nQ] [] [] ⟨[],[],.mk 3 0 [73,110,116] []⟩] [] [] nQ] [.mk 2 2 0 [120] []] [] nQ
def aS6:Bd:=.mk [102] 0 false nQ aN8
theorem aPj:dK aSl=(⟨[],[],[],[aS6]⟩,0,0):=by kernel_rfl
theorem aPi:prE aN8=aTf:=by kernel_rfl
theorem aN7 (n:Int) (h:n=0):aBw n:=by unfold aBw;omega
theorem SchP.z:SchP nQ:=⟨.leaf 0 [] (.inl rfl),fun p hp=>(by cases hp),Ac _⟩
theorem aPk:exP aN8∧n7 aN8∧exW aN8≤400000000:=by
 have hs:SchP ⟨[],[],.mk 3 0 [73,110,116] []⟩:=⟨.leaf 3 _ (.inr (.inr rfl)),fun p hp=>(by cases hp),Ac _⟩
 have ho:SchOk ⟨[],[],.mk 3 0 [73,110,116] []⟩:=⟨⟨⟨rfl,rfl⟩,by rw[tn,tns];decide⟩,fun p hp=>(by cases hp),Ac _,Ac _⟩
 refine⟨⟨aN7 _ rfl,⟨⟨aN7 _ rfl,trivial⟩,trivial⟩,.z,⟨⟨aN7 _ rfl,trivial,.z,⟨⟨aN7 _ rfl,trivial,.z,trivial,trivial⟩,⟨aN7 _ rfl,trivial,hs,⟨⟨aN7 _ rfl,trivial,.z,trivial,trivial⟩,trivial⟩,trivial⟩,trivial⟩,trivial⟩,trivial⟩,trivial⟩,?_,by decide⟩;have ar:∀(f:Int) (a b:Nat),(f=1)→(f=4→a=2)∧(f=5∨f=6∨f=8→a=1)∧(f=7→a=b):=fun f a b h=>⟨fun k=>by omega,fun k=>by omega,fun k=>by omega⟩
 exact⟨⟨by decide,by decide,by decide⟩,.z,⟨fun h=>by omega,fun _=>rfl,fun h=>by omega⟩,⟨⟨Ac _,trivial⟩,trivial⟩,⟨⟨⟨by decide,by decide,by decide⟩,.z,⟨fun _=>rfl,fun h=>by omega,fun h=>by omega⟩,trivial,⟨⟨⟨Ac _,Ac _,Ac _⟩,.z,ar 1 _ _ rfl,trivial,trivial,trivial⟩,⟨⟨by decide,by decide,by decide⟩,ho,⟨fun h=>by omega,fun _=>rfl,fun h=>by omega⟩,trivial,⟨⟨⟨Ac _,Ac _,Ac _⟩,.z,ar 1 _ _ rfl,trivial,trivial,trivial⟩,trivial⟩,trivial⟩,trivial⟩,trivial⟩,trivial⟩,trivial⟩
theorem aMr:b8 Tryz.prog 11 [] [] (B true) []:=by
 have hp:=lG aSl (aK0 aSl);rw[aPj] at hp;obtain⟨c,j,q⟩:=aPk;have he:=xS aN8 c j q;rw[aPi] at he;refine bM (n:=36) tok Tryz.func11 rfl rfl rfl ?_;refine sg rfl (aA (aC mixed (kc hp ?_)));refine kz 7 rfl (aA (sk 2 rfl (k_ (g_ rfl rfl (aDv tok (by unfold aHb;kernel_rfl) rfl rfl (by decide) (tg rfl) rfl rfl rfl rfl)) ?_)));refine ak 6 [(3,.bv false),(8,.bv false)] rfl (az (aB rfl nofun (fun _=>aD (sgh [(2,.row 0 (aW aS6))] rfl (skh 11 [(3,.bv true),(8,.bv true),(9,.bv true)] rfl (kcG he ?_))))));exact ak 3 [(9,.bv true),(13,.bv true)] rfl (az (aE rtT))
theorem aA9 (n:Nat):UInt8.ofNat (IntKind.u8.wrap ((48+n%10:Nat):Int)).toNat=UInt8.ofNat (48+n%10):=by
 have h:n%10<10:=Nat.mod_lt _ (by omega);have:IntKind.u8.wrap ((48+n%10:Nat):Int)=((48+n%10:Nat):Int):=by
  simp[IntKind.wrap,IntKind.signed,IntKind.bits];omega
 rw[this];rfl
theorem aKy (n:Nat):n≤600000000000→b8 Tryz.prog 14 [I .i64 (n:Int)] [] (Go.AM.T (Lib.decDigits n)) []:=by
 induction n using Nat.strongRecOn with
 | ind n r=>
  intro hn;refine bM (n:=32) tok Tryz.func14 rfl rfl rfl ?_;refine sg rfl (aA (agN [] rfl (aA (sg rfl (aB rfl (fun hb=>?_) (fun hb=>?_))))))
  ·exfalso;have:((n%10:Nat):Int)<0:=by simpa using hb
   omega
  ·refine aD (aA (agN [] rfl (AWp.sub (st2:=mk [(0,I .i64 (n:Int)),(4,Go.AM.T [UInt8.ofNat (48+n%10)])] []) (.list (fun i=>i) ⟨rfl,?_,trivial⟩ trivial rfl) ?_)))
   ·show some (V.one (R.c (C.str [UInt8.ofNat (IntKind.u8.wrap ((48+n%10:Nat):Int)).toNat])))=_;rw[aA9];rfl
   refine aA (aA (agF 3 [] rfl rfl rfl (aB rfl (fun hb=>?_) (fun hb=>?_))))
   ·have j:n<10:=by
     simp at hb;omega
    refine aA (sg rfl (aB rfl (fun hb=>?_) (fun hb=>?_)))
    ·exfalso;have:(n:Int)<0:=by simpa using hb
     omega
    ·refine aD (sg rfl ?_);rw[Lib.decDigits,dif_pos j,Nat.mod_eq_of_lt j];exact aE (rtT (hc:=.refl))
   ·have q:¬n<10:=by
     intro j;simp at hb;omega
    have hc:=r (n/10) (by omega) (by omega);have hl:=qE (n/10) (by omega);have u:1000000000≤maxLen:=by decide
    refine aD (aA (aC mixed (akN 2 [] rfl (kc hc ?_))));refine kz 3 rfl ?_;rw[Lib.decDigits,dif_neg q];exact aE (rtT (hc:=.refl))
theorem wrap_u8 (m:Nat) (h:m<256):IntKind.u8.wrap (m:Int)=(m:Int):=by
 simp[IntKind.wrap,IntKind.signed,IntKind.bits];omega
theorem aCf (n:Nat) (hn:n≤600000000000):b8 Tryz.prog 13 [I .i64 n] [] (Go.AM.T (kJ n)) []:=by
 have j:=aKy (n/26) (by omega);have q:=qE (n/26) (by omega);have r:600000000000≤maxLen:=by decide
 refine bM (n:=18) tok Tryz.func13 rfl rfl rfl ?_;refine sg rfl (aA (agN [(4,.all)] rfl (AWp.sub (st2:=mk [(0,I .i64 (n:Int)),(3,Go.AM.T [UInt8.ofNat (97+n%26)])] []) (.list (fun i=>i) ⟨rfl,?_,trivial⟩ trivial rfl) ?_)))
 ·show some (V.one (R.c (C.str [UInt8.ofNat (IntKind.u8.wrap ((97+n%26:Nat):Int)).toNat])))=_;rw[wrap_u8 _ (by omega)];rfl
 refine aA (sg rfl (aB rfl (fun hb=>?_) (fun hb=>?_)))
 ·have h:n<26:=by have:=χ hb;omega
  unfold kJ;rw[θ h];exact sg rfl (aE rtT)
 ·have h:¬n<26:=by have:=Ad hb;omega
  unfold kJ;rw[ξ h];refine aD (aA (aC mixed (akN 3 [] rfl (kc j ?_))));refine ak 2 [] rfl ?_ (hc:=by repeat (first | exact trivial | refine⟨by first | rfl | omega | (simp;omega),?_⟩));exact az (aE rtT)
theorem aIf (s:Str):PgOk 60 (dK s).1:=by
 obtain⟨c,hwt,_,_⟩:=mS s;obtain⟨_,h2⟩:=lM (jR hwt (cL s).2.R.length) hwt c;unfold dK fU;split
 ·split
  ·exact h2
  ·exact .z 60
 ·split
  ·exact .z 60
  ·exact .z 60
theorem sY (n:Int) (k:Nat) (c:0<k):∃a:Nat,kC n k=a∧a<k:=by
 obtain⟨h1,h2⟩:=aGz n (k:=(k:Int)) (by omega);exact⟨(kC n k).toNat,by omega,by omega⟩
theorem wX (n:Nat) (h:n≤100):(kJ n).length≤21:=by
 have:=qE (n/26) (by omega);unfold kJ;split
 ·show 1≤21;decide
 ·rw[ζ,ε,length_nil];omega
theorem vK (n m k d:Int) (hn:i64 n) (hm:i64 m) (U:i64 k) (Y:i64 d):b8 Tryz.prog 4 [I .i64 n,I .i64 m,I .i64 k,I .i64 d] [] (B true) []:=by
 have hM:3000000000≤maxLen:=by decide
 obtain⟨a1,e1,q1⟩:=sY n 5 (by decide);obtain⟨a2,e2,q2⟩:=sY m 5 (by decide);obtain⟨a3,e3,q3⟩:=sY k 5 (by decide);obtain⟨a4,e4,q4⟩:=sY d 6 (by decide);have q:=oQ n 5 hn (by decide);have r:=oQ m 5 hm (by decide);have u:=oQ k 5 U (by decide);have A:=oQ d 6 Y (by decide);rw[show kC n 5=(a1:Int) from e1] at q;rw[show kC m 5=(a2:Int) from e2] at r;rw[show kC k 5=(a3:Int) from e3] at u;rw[show kC d 6=(a4:Int) from e4] at A;refine bM (n:=130) tok Tryz.func4 rfl rfl rfl ?_;refine sg rfl (sg rfl (aA (sk 1 rfl (kc q ?_))));refine akN 2 [] rfl (az (aF (aK (fun p:Nat×Str=>mk [(1,I .i64 m),(2,I .i64 k),(3,I .i64 d),(9,Go.AM.T p.2),(10,I .i64 (p.1:Nat))] []) (fun p=>p.1≤10∧p.2.length≤22*(10-p.1)) (fun p=>p.1) (6+a1,[]) ⟨by dsimp only;omega,Ac _⟩ sl ?_)));rintro⟨i,N⟩ ⟨hi,E⟩;dsimp only at hi E ⊢;refine aA (sg rfl (aB rfl (fun hb=>?_) (fun hb=>?_)))
 ·have h0:0<i:=by have:=χ hb;omega
  have hl:=aCf i (by omega);have hll:=wX i (by omega);refine aD (aA (aF (aC mixed (ak 3 [] rfl (kc hl ?_)))));exact kz 2 rfl (ag [] rfl ⟨(i-1,N++[32]++kJ i),⟨by dsimp only;omega,by dsimp only;rw[ζ,ζ,ε,length_nil];omega⟩,by dsimp only;omega,sl (he:=⟨rfl,rfl,rfl,rfl,by rw[show((i-1:Nat):Int)=(i:Int)-1 by omega];rfl,trivial⟩)⟩)
 refine aH ?_;have E:N.length≤220:=by omega
 clear hi hb e1 q1 q hn;refine sg rfl (aA (sk 1 rfl (kc r ?_)));refine akN 2 [] rfl (az (aF (aK (fun p:Nat×Str=>mk [(2,I .i64 k),(3,I .i64 d),(9,Go.AM.T N),(11,Go.AM.T p.2),(12,I .i64 (p.1:Nat))] []) (fun p=>p.1≤17∧p.2.length≤11+24*(17-p.1)) (fun p=>p.1) (13+a2,[100,97,116,97,32,84,32,61,32,75,49]) ⟨by dsimp only;omega,by dsimp only;simp⟩ sl ?_)));rintro⟨i,K⟩ ⟨hi,J⟩;dsimp only at hi J ⊢;refine aA (sg rfl (aB rfl (fun hb=>?_) (fun hb=>?_)))
 ·have h0:0<i:=by have:=χ hb;omega
  have hl:=aKy i (by omega);have hll:=qE i (by omega);refine aD (aA (aF (aC mixed (ak 3 [] rfl (kc hl ?_)))));exact kz 2 rfl (ag [] rfl ⟨(i-1,K++[32,124,32,65]++Lib.decDigits i),⟨by dsimp only;omega,by dsimp only;rw[ζ,ζ,ε,ε,ε,ε,length_nil];omega⟩,by dsimp only;omega,sl (he:=⟨rfl,rfl,rfl,rfl,by rw[show((i-1:Nat):Int)=(i:Int)-1 by omega];rfl,trivial⟩)⟩)
 refine aH ?_;have J:K.length≤419:=by omega
 clear hi hb e2 q2 r hm;refine sg rfl (aA (sk 1 rfl (kc u ?_)));refine akN 2 [] rfl (az (aF (aK (fun p:Nat×Str=>mk [(3,I .i64 d),(9,Go.AM.T N),(11,Go.AM.T K),(13,Go.AM.T p.2),(14,I .i64 (p.1:Nat))] []) (fun p=>p.1≤62∧p.2.length≤8*(62-p.1)) (fun p=>p.1) (58+a3,[]) ⟨by dsimp only;omega,Ac _⟩ sl ?_)));rintro⟨i,C⟩ ⟨hi,hC⟩;dsimp only at hi hC ⊢;refine aA (sg rfl (aB rfl (fun hb=>?_) (fun hb=>?_)))
 ·have h0:0<i:=by have:=χ hb;omega
  exact aD (aA (aF (ag [] rfl (ag [] rfl ⟨(i-1,C++[32,59,32,102,32,61,32,49]),⟨by dsimp only;omega,by dsimp only;rw[ζ];show C.length+8≤_;omega⟩,by dsimp only;omega,sl (he:=⟨rfl,rfl,rfl,rfl,by rw[show((i-1:Nat):Int)=(i:Int)-1 by omega];rfl,trivial⟩)⟩))))
 refine aH ?_;have hC:C.length≤496:=by omega
 clear hi hb e3 q3 u U;refine sg rfl (sg rfl (aA (sk 1 rfl (kc A ?_))));refine akN 2 [] rfl (az (aF (aK (fun p:Nat×Str×Str=>mk [(9,Go.AM.T N),(11,Go.AM.T K),(13,Go.AM.T C),(15,Go.AM.T p.2.1),(16,Go.AM.T p.2.2),(17,I .i64 (p.1:Nat))] []) (fun p=>p.1≤43∧p.2.1.length≤1+2*(43-p.1)∧p.2.2.length≤1+2*(43-p.1)) (fun p=>p.1) (38+a4,[49],[120]) ⟨by dsimp only;omega,by dsimp only;simp,by dsimp only;simp⟩ sl ?_)));rintro⟨i,D,P⟩ ⟨hi,M,O⟩;dsimp only at hi M O ⊢;refine aA (sg rfl (aB rfl (fun hb=>?_) (fun hb=>?_)))
 ·have h0:0<i:=by have:=χ hb;omega
  exact aD (aA (aF (sg rfl (ag [] rfl (ag [] rfl ⟨(i-1,[40]++D++[41],[40]++P++[41]),⟨by dsimp only;omega,by dsimp only;rw[ζ,ζ,ε,ε,length_nil];omega,by dsimp only;rw[ζ,ζ,ε,ε,length_nil];omega⟩,by dsimp only;omega,sl (he:=⟨rfl,rfl,rfl,rfl,rfl,by rw[show((i-1:Nat):Int)=(i:Int)-1 by omega];rfl,trivial⟩)⟩)))))
 refine aH ?_;have M:D.length≤87:=by omega
 have O:P.length≤87:=by omega
 clear hi hb e4 q4 A Y;refine sgh [(27,.all)] rfl ?_;have hx:∃L:List Str,L=[[102]++N++[32,61,32,49],[102,32,61,32,92]++N++[32,45,62,32,49],[100,97,116,97,32,84]++N++[32,61,32,75],[100,97,116,97,32,84,32,61,32,75]++N,[105,110,115,116,97,110,99,101,32,69,32,40,84]++N++[41,32,123,32,125],K,C,[102,32,61,32,108,101,116,32,123]++C++[32,125,32,105,110,32,50],[102,32,61,32]++D,[102,32,61,32,99,97,115,101,32,49,32,111,102,32,123,32]++P++[32,45,62,32,50,32,125],[102,32,61,32,108,101,116,32,123,32,103,32,121,32,61,32]++D++[32,125,32,105,110,32,49]]∧L.length=11:=⟨_,rfl,rfl⟩
 obtain⟨L,hL,hL11⟩:=hx;refine AWp.sub (st2:=mk [(18,cM L)] []) (sl (he:=⟨by rw[hL];rfl,trivial⟩)) ?_;clear hL E J hC M O;have hkL:(L.map bE).length=L.length:=η _;refine aA (sg rfl (aF (aK (fun i:Nat=>mk [(18,cM L),(19,I .i64 (i:Nat))] []) (fun i=>i≤L.length) (fun i=>L.length-i) 0 (Ac _) sl ?_)));intro i hi;refine aA (sg rfl (aB rfl (fun hb=>?_) (fun hb=>?_)))
 ·have c:=ltD hb hkL;obtain⟨s,hs⟩:=aN c;have hs':=aY bE hs;have hp:=lG s (aK0 s);have hr:=aCl s;have j:=aI6 (dK s).1 (aIf s);have dat:(!aC4 [.int .i64 (dK s).2.1,.int .i64 (dK s).2.2] [.int .i64 (dK s).2.1,.int .i64 (dK s).2.2])=false:=by simp[aC4,ceq]
  generalize dK s=y at *;obtain⟨pg,e,p⟩:=y;dsimp only at hp hr j dat;refine aD (aA (aF (skh 4 [(2,.row i (bE s))] rfl (kc hp ?_))));refine kz 7 rfl (skh 4 [(2,.row i (bE s))] rfl (kc hr ?_));refine kz 7 rfl (sk 2 rfl (k_ (g_ rfl rfl (aDv tok (by unfold aHb;kernel_rfl) rfl rfl (by decide) (tg rfl) rfl rfl rfl rfl)) ?_));refine ak 3 [(3,.bv false)] rfl (kcG j ?_);exact ak 2 [(3,.bv false),(8,.bv false)] rfl (az (aB rfl nofun (fun _=>aD (agN [] rfl ⟨i+1,c,by dsimp only;omega,sl⟩))))
 refine aH ?_;have hv:=aMr;refine aA (aC mixed (kc hv ?_));exact kz 1 rfl (aE rtT)
end Go.Proofs.YtpmheldmadendaaGreatDoor
namespace Go.Proofs.YtpmheldmadendaaGreatDoor
open Go Go.ChangeShapes Go.WideShapes Go.ChangeAt Go.RowKit Go.AM
theorem Tryz.own:ownKnob Tryz.prog.godebug=none:=by kernel_rfl
theorem aHs:Rows.laid_internal_strconv_uint64pow10 (H:=Unit)=Lib.tabData .u64 Lib.pow10Tab:=by kernel_rfl
theorem aOp {W:World}(h:laidMetH Tryz.prog Rows.readLimitsRow.laid W):aJ9 W:=by
 rw [MakeChecks.laidMetH_plain _ _ _ (by kernel_rfl)] at h;have c := laidMet.tail (laidMet.tail h);rw [aHs] at c;have ht := Lib.tabIs_of_head (g := 1) (t := 260) (e := 239) (n := 20) (by kernel_rfl) (by kernel_rfl) (by kernel_rfl) (by kernel_rfl) (by kernel_rfl) (by kernel_rfl) c;intro g j;cases j;unfold Lib.TabIs World.var? at ht;rw [show Tryz.prog.globalNamed "internal/strconv.uint64pow10" = some 1 by kernel_rfl] at ht;simp only [B8] at ht;split at ht
 ·rename_i cs t q hq;simp only[Option.some.injEq] at ht;subst ht;exact⟨bV hq,t,q,hq⟩
 ·cases ht
theorem zL {n:Int}(h:(Lit.int .i64 n).wf=true):i64 n:=by
 simp only[Lit.wf,τ,decide_eq_true_eq] at h;exact h
set_option maxRecDepth 100000 in
theorem nH (os:Os) (started:os.Started) (H:Type) (enc:TypeId×Value→H):
  ReturnsInHanded {} Tryz.checked os 4 .any (fun w args=>(Rows.readLimitsSpec.pre enc Tryz.prog Tryz.f4 Rows.readLimitsRow.domain false w args∧laidMetH Tryz.prog Rows.readLimitsRow.laid w)∧sizedMet enc Tryz.prog Tryz.f4 (OpenSpec.ofChange Rows.readLimitsSpec) false w args)
   (Rows.readLimitsSpec.post enc Tryz.prog Tryz.f4 false true false false):=by
 refine returnsInHanded_of_change_and (C:=Tryz.checked) (X:=fun w _=>laidMetH Tryz.prog Rows.readLimitsRow.laid w) (fun _ _ _ hh h=>h.of_heap hh) Tryz.own started (by kernel_rfl) Tryz.func4
  (ChangeSpec.witness_shaped (enc:=enc) (C:=Tryz.checked) (os:=os) (X:=fun w _=>laidMetH Tryz.prog Rows.readLimitsRow.laid w) false (World.laidAll Tryz.prog os Rows.readLimitsRow.laid) #[.int .i64 0,.int .i64 0,.int .i64 0,.int .i64 0] 8 (World.laidAll_os _ _ _)
   (World.shaped_of_ZipB (by kernel_rfl) (by kernel_rfl)) (by kernel_rfl) (by kernel_rfl) (by kernel_rfl)
   (by rw[MakeChecks.laidMetH_plain _ _ _ (by kernel_rfl)];exact laidMet_laidAll _ (by kernel_rfl) (by kernel_rfl))) ?_
 intro W base args ds gs before r J hcnd hwt hL _
 have c:∀(j:Nat) t v,Tryz.f4.params[j]?=some t→args[j]?=some v→Value.okWide Tryz.prog W .any base t v:=r
 have u:=J
 obtain⟨p,q,y,hV,rfl,hfz,hnd⟩:=J
 have M:DataW.TrodAll enc Tryz.prog W 0 (fun _=>true) true Tryz.f4.params.toList args.toList ds p:=y
 rw[Tryz.params4] at M c
 obtain⟨v0,v1,v2,v3,d0,d1,d2,d3,p0,p1,p2,p3,rfl,rfl,rfl,h0,h1,h2,h3⟩:=trodAll_four M
 obtain⟨rfl,rfl⟩:=trodVars_none hV
 obtain⟨A,rfl,rfl,rfl,w0⟩:=open_int Tryz.underlying3 (c 0 3 v0 rfl rfl) h0
 obtain⟨B,rfl,rfl,rfl,O⟩:=open_int Tryz.underlying3 (c 1 3 v1 rfl rfl) h1
 obtain⟨E,rfl,rfl,rfl,U⟩:=open_int Tryz.underlying3 (c 2 3 v2 rfl rfl) h2
 obtain⟨I,rfl,rfl,rfl,Y⟩:=open_int Tryz.underlying3 (c 3 3 v3 rfl rfl) h3
 clear y r
 simp only[Cc] at u
 have hwt':(DataW.weightsEach Tryz.prog (Tryz.f4.params.toList++Rows.readLimitsSpec.plain.varTypes Tryz.prog) ([.lit (.int .i64 A),.lit (.int .i64 B),.lit (.int .i64 E),.lit (.int .i64 I)]++[])).all (· ≤reachBytes)=true:=hwt
 refine(aE1 (vK A B E I (zL w0) (zL O) (zL U) (zL Y)) W (vals:=[.int .i64 A,.int .i64 B,.int .i64 E,.int .i64 I]) ⟨_,_,rfl,rfl,⟨_,_,rfl,rfl,⟨_,_,rfl,rfl,⟨_,_,rfl,rfl,rfl⟩⟩⟩⟩ (ht:=aOp hL)).mono fun e W' ⟨v,S,μ,he,aa,hv⟩=>?_
 subst he
 rw[aNh hv]
 exact⟨_,rfl,⟨_,_,_,[],_,[],u,trodAll_mk1 (shut_bool Tryz.underlying4 true),trodAll_mk4 (shut_int Tryz.underlying3 w0) (shut_int Tryz.underlying3 O) (shut_int Tryz.underlying3 U) (shut_int Tryz.underlying3 Y),rfl,aa.frame _,fun h=>by cases h⟩⟩
theorem o7:Rows.ReadLimitsSaid:=
 OpenClaim.holds_of_wide 4 Tryz.f4 rfl rfl rfl rfl rfl rfl rfl ⟨rfl,rfl,rfl,rfl,rfl⟩ rfl rfl rfl rfl rfl (by kernel_rfl) Tryz.func4 (by kernel_rfl)
  (χ (by kernel_rfl)) (by unfold Func.isWrapper;first | (rw[θ (by decide+kernel)];kernel_rfl) | (rw[ξ (by decide+kernel)];exact⟨rfl,rfl⟩))
  (fun os started H enc _=>nH os started H enc)
theorem readLimits_card_holds:Rows.ReadLimitsCardSaid:=
 Claim7.holds_tied_plain_at .later [] [.data, .data, .data] true (true, "b08ef535e29a9b6e90379598c943ca8c3713ad18c93c0347aef6146b5595303c") true o7 (fun _ h => by cases h) (by kernel_rfl) (fun _ h => by cases h) readLimits_row_tie rfl ⟨rfl, rfl⟩ (by kernel_rfl) rfl
  (fun f fn r q=>by
   obtain rfl : f = 4 := Option.some.inj ((show Tryz.prog.funcNamed "fugue/fuguelaw06.ReadLimits" = some 4 by kernel_rfl).symm.trans r) |>.symm;obtain rfl : fn = Tryz.f4 := (Option.some.inj (Tryz.func4.symm.trans q)).symm
   exact⟨by kernel_rfl,fun j t ht=>by
    rw[Tryz.params4] at ht;have hm:t∈[3]:=by
     have:=Array.mem_of_getElem? ht;simp at this;simp
     first | omega | (rcases this with h | h | h<;>simp[h])
    have c:([3].all fun u=>!Tryz.prog.wantsStandIn u)=true:=by kernel_rfl
    exact(show Tryz.prog.wantsStandIn t=false by simpa using A3.1 c t hm)⟩)
  (by kernel_rfl)
end Go.Proofs.YtpmheldmadendaaGreatDoor
