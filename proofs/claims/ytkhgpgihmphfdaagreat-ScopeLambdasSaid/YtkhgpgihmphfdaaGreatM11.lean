/-
  Texts Rd53 to Am49 in one.
-/
import Derived.Test.YtkhgpgihmphfdaaGreatM10
import Derived.RecoverIn
open List (drop_eq_getElem_cons drop_eq_nil_of_le drop_length drop_zero length_append length_map length_pos_iff length_set map_append map_set mem_map set_append_right)
open Nat (eq_of_beq_eq_true le_of_ble_eq_true le_refl le_trans lt_irrefl lt_succ_self sub_self succ_pos zero_add zero_le)
namespace Go.Proofs.YtkhgpgihmphfdaaGreat
open Go Go.AM
set_option maxRecDepth 20000
set_option maxHeartbeats 4000000
def aQ7 (s:Sg):AObj:=.var 121 ((cT s).map .c)
theorem aPs (x:Bd) (s:Sg):aV Tryz.prog 152 ([.pa (b8 x)]++[R.vp 6 0].map V.one) [(6,aQ7 s)] (B (decide (x.name=s.name))) [(6,aQ7 s)]:=by
 refine bF (n:=9) tok Tryz.func152 rfl rfl rfl ?_;exact sgh [(0,.id 12)] rfl (sg rfl (aF rtT))
theorem aK1 (b:List Bd) (hl:b.length≤4001) (s:Sg):aV Tryz.prog 151 [hsV 511 b.length,.one (.clo 152 [.vp 6 0])] [(511,bdA b 0),(6,aQ7 s)] (I .i64 (aCt (fun x=>decide (x.name=s.name)) b 0)) [(511,bdA b 0),(6,aQ7 s)]:=by
 have B:(b.map b8).length=b.length:=χ _;refine bF (n:=19) tok Tryz.func151 rfl rfl rfl ?_;refine sg rfl (aA (sg rfl (aE (aL (fun i:Nat=>mk [(0,hsV 511 b.length),(1,.one (.clo 152 [.vp 6 0])),(7,I .i64 (b.length:Int)),(8,I .i64 i)] [(511,bdA b 0),(6,aQ7 s)]) (fun i=>i≤b.length∧aCt (fun x=>decide (x.name=s.name)) b 0=aCt (fun x=>decide (x.name=s.name)) b i) (fun i=>b.length-i) 0 ⟨Ad _,rfl⟩ sl ?_))));intro i ⟨hi,g⟩;refine sg rfl (aA (aB rfl (fun hb=>?_) (fun hb=>?_)))
 ·have q:i<b.length:=by have:=κ hb;omega
  obtain⟨x,u⟩:=aM q;have A:=bB b8 u;have hc:=aPs x s;rw[vD _ u] at g;refine aD (aA (aE (sg rfl (skh 5 [(4,.row i (b8 x))] rfl (kv (args:=[.pa (b8 x)]) hc ?_)))));refine az (aB rfl (fun hb=>?_) (fun hb=>?_))
  ·rw[θ hb] at g;rw[g];exact sg rfl (aF rtT)
  ·rw[ξ (by rw[show decide (x.name=s.name)=false from hb];exact ω)] at g;exact aD (ag [] rfl ⟨i+1,⟨q,g⟩,by dsimp only;omega,sl⟩)
 have y:i=b.length:=by have:=Ae hb;omega
 subst y;rw[aAs] at g;rw[g];exact aG (sg rfl (aF rtT))
def aRd (n:Nat) (y:List Bd×Z):Except Value (V×List (Nat×AObj)):=if y.2.e=0 then .ok (hsV 511 n,[(511,bdA y.1 0)]) else .error (rE y.2.e y.2.p)
theorem mP {l:List Sg}{b:List Bd}{z:Z}(h:¬z.e=0):(cO l b z).2=z:=by
 cases l with
 | nil=>rfl
 | cons s l=>rw[cO,ξ h]
theorem aG5 (sigs:List Sg) (binds:List Bd) {z:Z}(he:z.e=0) (h1:sigs.length≤4001) (h2:binds.length≤4001):
  bE Tryz.prog 98 [.one (.c (.sl 9 (sigs.map cT))),hsV 511 binds.length] [(511,bdA binds 0)] (aRd binds.length (cO sigs binds z)):=by
 have hsl:(sigs.map cT).length=sigs.length:=χ _;have g:∃W,W=cO sigs binds z:=⟨_,rfl⟩
 obtain⟨W,g⟩:=g;rw[←g];refine mB (n:=43) tok Tryz.func98 rfl rfl rfl rfl ?_;refine sg rfl (aA (sg rfl (aE (aL (fun q:Nat×List Bd=>mk [(1,hsV 511 binds.length),(8,.one (.c (.sl 9 (sigs.map cT)))),(9,I .i64 ((sigs.map cT).length:Nat)),(10,I .i64 (q.1:Nat))] [(511,bdA q.2 0)]) (fun q=>q.1≤sigs.length∧q.2.length=binds.length∧W=cO (sigs.drop q.1) q.2 z) (fun q=>sigs.length-q.1) (0,binds) ⟨Ad _,rfl,g⟩ sl ?_))));clear g;rintro⟨i,b⟩ ⟨hi,y,g⟩;dsimp only at hi y g ⊢;have M:(b.map b8).length=b.length:=χ _;refine sg rfl (aA (aB rfl (fun hb=>?_) (fun hb=>?_)))
 case refine_2=>
  have hge:i=sigs.length:=by have:=Ae hb;omega
  rw[drop_eq_nil_of_le (by omega),cO] at g;refine aG (sg rfl ?_);rw[g];unfold aRd;rw[θ he];exact aF rtT
 have E:i<sigs.length:=by have:=κ hb;omega
 obtain⟨s,hs⟩:=aM E;have hs':=bB cT hs;have O:sigs.drop i=s::sigs.drop (i+1):=by
  obtain⟨k1,k2⟩:=Af.1 hs;rw[←k2];exact A7 k1
 rw[O,cO,θ he] at g;have A:=aK1 b (by omega) s;have U:aCt (fun x=>decide (x.name=s.name)) b 0=match b.findIdx? (fun x=>decide (x.name=s.name)) with | none=> -1 | some d=>(d:Int):=by
  unfold aCt;rw[B0];cases b.findIdx? _ with
  | none=>rfl
  | some d=>simp
 rw[U,y] at A;unfold aQ7 at A;refine aD (aA (aE (sgh [(0,.row i (cT s))] rfl (sk 2 rfl (kc A ?_)))));refine kz 1 rfl ?_;cases J:b.findIdx? (fun x=>decide (x.name=s.name)) with
 | none=>
  rw[J] at g;dsimp only at g ⊢;have hm:=bL 21 s.pl;have B:W.2=⟨z.R,21,s.pl⟩:=by
   unfold bR at g;rw[θ he] at g;rw[g,mP (show ¬(21:Int)=0 by decide)]
  unfold aRd;rw[B,ξ (show ¬(21:Int)=0 by decide)];exact sk 4 rfl (kp hm)
 | some k=>
  rw[J] at g;dsimp only at g ⊢;have Y:=nR J;obtain⟨x,hx⟩:=aM Y;have hx':=bB b8 hx;rw[hx] at g;dsimp only at g;have dk:decide ((0:Int)≤(k:Int))=true:=φ (by omega);have hm:=bK 21 s.pl;refine sk 4 rfl ?_;rw[dk];refine kc hm ?_;refine az ?_;cases u:x.has with
  | true=>
   rw[θ u] at g;have hm:=bL 20 s.pl;have B:W.2=⟨z.R,20,s.pl⟩:=by
    unfold bR at g;rw[θ he] at g;rw[g,mP (show ¬(20:Int)=0 by decide)]
   unfold aRd;rw[B,ξ (show ¬(20:Int)=0 by decide)];refine skh 8 [(4,.row k (b8 x))] rfl ?_;rw[u];refine kpD (.tup []) [] hm ?_;exact az trivial
  | false=>
   rw[ξ (by rw[u];exact ω)] at g;have hm:=bK 20 s.pl;refine skh 8 [(4,.row k (b8 x))] rfl ?_;rw[u];refine kc hm ?_;refine az ?_;have hs1:(b.map b8).set k (b8 (.mk x.name x.pl true x.sig x.body))=(b.set k (.mk x.name x.pl true x.sig x.body)).map b8:=by rw[map_set]
   have aa:((b.map b8).set k (b8 (.mk x.name x.pl true x.sig x.body))).set k (b8 (j6 x s.ty))=(b.set k (j6 x s.ty)).map b8:=by rw[List.set_set,map_set]
   have hx2:((b.map b8).set k (b8 (.mk x.name x.pl true x.sig x.body)))[k]?=some (b8 (.mk x.name x.pl true x.sig x.body)):=by rw[List.getElem?_set_self (by rw[M];exact Y)]
   exact ag [(8,.row k (b8 x)),(11,.row k (b8 (.mk x.name x.pl true x.sig x.body)))] rfl (agN [] rfl ⟨(i+1,b.set k (j6 x s.ty)),⟨E,by dsimp only;rw[length_set,y],g⟩,by dsimp only;omega,sl (hh:=⟨⟨_,rfl,.arrS aa⟩,trivial⟩)⟩)
def zBd:Bd:=.mk [] 0 false iJ zEx
def y3 (sigs:List Sg) (binds:List Bd):List (Nat×AObj):=[(7,.var 116 [.hs 510 0 sigs.length sigs.length]),(8,.var 25 [.hs 511 0 binds.length binds.length]),(510,sgA sigs 0),(511,bdA binds 0)]
def dtA (l:List Dt):AObj:=.arr 172 5 (l.map sT) 0
def clA (l:List Cl):AObj:=.arr 118 6 (l.map qG) 0
def inA (l:List In):AObj:=.arr 176 6 (l.map sS) 0
def aFy (p:Pg) (sigs:List Sg):List (Nat×AObj):=[(4,.var 116 [.hs 510 0 sigs.length sigs.length]),(3,.var 75 [.hs 512 0 p.datas.length p.datas.length,.hs 513 0 p.classes.length p.classes.length,.hs 514 0 p.insts.length p.insts.length,.hs 511 0 p.binds.length p.binds.length]),(510,sgA sigs 0),(511,bdA p.binds 0),(512,dtA p.datas),(513,clA p.classes),(514,inA p.insts)]
section
variable {L:List Tk}{ex:Nat→Z→Ex×Z}{N:Nat}(hB:tQ ex) (hS:aNs L ex N) (hZ:nZ L) (hwt:wt L≤30000)
include hB hS hZ hwt
theorem aTi (sigs:List Sg) (binds:List Bd) (deep:Nat) {z:Z}(h:ZA L z) (he:z.e=0) (hN:z.R.length≤N) (hd:deep≤41) (h1:sigs.length≤4001) (h2:binds.length≤4001):
  bE Tryz.prog 97 [rP,.one (.vp 7 0),.one (.vp 8 0),I .i64 (deep:Nat)] ((600,rO L z)::y3 sigs binds) (fU L (.tup []) (aS ex sigs binds deep z).2 (y3 (aS ex sigs binds deep z).1.1 (aS ex sigs binds deep z).1.2)):=by
 have hw:=gN h he 1 (by decide);have U:=h.word (k:=1) (by decide);have l1:=Ze.word 1 z;have hsl:(sigs.map cT).length=sigs.length:=χ _;have O:(binds.map b8).length=binds.length:=χ _;unfold aS;generalize b5 1 z=w at hw U l1 ⊢;obtain⟨A,M⟩:=w;dsimp only at hw U l1 ⊢;refine mB (n:=39) tok Tryz.func97 rfl rfl rfl rfl ?_;by_cases g:M.e=0
 case neg=>
  have hp:=bE.err hw g;rw[kH g];dsimp only;rw[ξ ω];have hb:(dP ex A deep M).2=M:=by
   unfold dP fH;dsimp only;rw[kG g,dV g,bH g];exact hB _ _ g
  dsimp only;rw[hb,aJ g];exact sk 1 rfl (kp hp)
 have hw:=bE.ok hw g;have hm:=eS U g eP;have Y:=U.may eP;have l2:=Ze.may eP M;have J:=(gV eP M).trans g;generalize bP eP M=m at hm Y l2 J ⊢;obtain⟨b,z2⟩:=m;dsimp only at hm Y l2 J ⊢;refine sk 1 rfl (kc hw ?_);refine ak 2 [(2,.id 40)] rfl (az (aA (sk 1 rfl (kc hm ?_))));refine az ?_;cases b with
 | true=>
  rw[θ rfl];have B:=kS Y J hZ hwt;generalize bN z2=y at B ⊢;obtain⟨s,z3⟩:=y;dsimp only at B ⊢;refine aB rfl (fun _=>?_) (fun hb=>Bool.noConfusion hb);by_cases q:z3.e=0
  case neg=>
   have hp:=bE.err B q;rw[aJ q];refine sk 9 rfl (kpD (.pa (mD iJ)) [(600,rO L z2)] hp ?_);exact ak 5 [(11,.all)] rfl (az trivial)
  have B:=bE.ok B q;rw[b9 q];have u:sigs.map cT++[cT ⟨A.text,A.pl,s⟩]=(sigs++[(⟨A.text,A.pl,s⟩:Sg)]).map cT:=by rw[Ai];rfl
  have hle:(sigs++[(⟨A.text,A.pl,s⟩:Sg)]).length=sigs.length+1:=by rw[η];rfl
  generalize sigs++[(⟨A.text,A.pl,s⟩:Sg)]=S at u hle ⊢;refine sk 9 rfl (kc B ?_);refine ak 5 [(11,.all)] rfl (az (AWp.sub (st2:=mk [] ((600,rO L z3)::y3 S binds)) (sl (hh:=⟨⟨_,rfl,.var rfl⟩,⟨_,rfl,.var (by rw[hle,←hsl];rfl)⟩,⟨_,rfl,.var rfl⟩,⟨_,rfl,.arrS u⟩,⟨_,rfl,Go.AM.Ole.arr⟩,trivial⟩)) ?_));exact aF rtN
 | false=>
  rw[ξ ω];have E:=tF hB hS A deep Y J (le_trans (l1.trans l2) hN) hd;generalize dP ex A deep z2=y at E ⊢;obtain⟨bd,z3⟩:=y;dsimp only at E ⊢;have hz0:(binds.map b8++[(b8 zBd)])[binds.length]?=some (b8 zBd):=by rw[A9 (by omega),O,Cb];rfl
  refine aB rfl (fun hb=>Bool.noConfusion hb) (fun _=>aD ?_);by_cases q:z3.e=0
  case neg=>
   have hp:=bE.err E q;rw[aJ q];refine aC mixed (ak 6 [] rfl (kpD (.pa (b8 zBd)) [(600,rO L z2)] hp ?_));exact ak 7 [(8,.all),(11,.row binds.length (b8 zBd))] rfl (az trivial)
  have E:=bE.ok E q;rw[b9 q];have u:(binds.map b8++[(b8 zBd)]).set binds.length (b8 bd)=(binds++[bd]).map b8:=by
   rw[set_append_right _ _ (by omega),O,Cb,Ai];rfl
  have hle:(binds++[bd]).length=binds.length+1:=by rw[η];rfl
  refine aC mixed (ak 6 [] rfl (kc E ?_));refine ak 7 [(8,.all),(11,.row binds.length (b8 zBd))] rfl (az ?_);generalize hSe:binds++[bd]=S at u hle ⊢;exact rtN (ho:=⟨⟨_,rfl,.var rfl⟩,⟨_,rfl,.var rfl⟩,⟨_,rfl,.var (by rw[hle,←O];rfl)⟩,⟨_,rfl,Go.AM.Ole.arr⟩,⟨_,rfl,.arrS u⟩,trivial⟩)
theorem aTh (p:Pg) (sigs:List Sg) (deep:Nat) {z:Z}(h:ZA L z) (he:z.e=0) (hN:z.R.length≤N) (hd:deep≤41) (h1:sigs.length≤4001) (h2:p.binds.length≤4001):
  bE Tryz.prog 97 [rP,.one (.vp 4 0),.one (.vp 3 3),I .i64 (deep:Nat)] ((600,rO L z)::aFy p sigs) (fU L (.tup []) (aS ex sigs p.binds deep z).2 (aFy ⟨p.datas,p.classes,p.insts,(aS ex sigs p.binds deep z).1.2⟩ (aS ex sigs p.binds deep z).1.1)):=by
 have hw:=gN h he 1 (by decide);have U:=h.word (k:=1) (by decide);have l1:=Ze.word 1 z;have hsl:(sigs.map cT).length=sigs.length:=χ _;have O:(p.binds.map b8).length=p.binds.length:=χ _;unfold aS;generalize b5 1 z=w at hw U l1 ⊢;obtain⟨A,M⟩:=w;dsimp only at hw U l1 ⊢;refine mB (n:=39) tok Tryz.func97 rfl rfl rfl rfl ?_;by_cases g:M.e=0
 case neg=>
  have hp:=bE.err hw g;rw[kH g];dsimp only;rw[ξ ω];have hb:(dP ex A deep M).2=M:=by
   unfold dP fH;dsimp only;rw[kG g,dV g,bH g];exact hB _ _ g
  dsimp only;rw[hb,aJ g];exact sk 1 rfl (kp hp)
 have hw:=bE.ok hw g;have hm:=eS U g eP;have Y:=U.may eP;have l2:=Ze.may eP M;have J:=(gV eP M).trans g;generalize bP eP M=m at hm Y l2 J ⊢;obtain⟨b,z2⟩:=m;dsimp only at hm Y l2 J ⊢;refine sk 1 rfl (kc hw ?_);refine ak 2 [(2,.id 40)] rfl (az (aA (sk 1 rfl (kc hm ?_))));refine az ?_;cases b with
 | true=>
  rw[θ rfl];have B:=kS Y J hZ hwt;generalize bN z2=y at B ⊢;obtain⟨s,z3⟩:=y;dsimp only at B ⊢;refine aB rfl (fun _=>?_) (fun hb=>Bool.noConfusion hb);by_cases q:z3.e=0
  case neg=>
   have hp:=bE.err B q;rw[aJ q];refine sk 9 rfl (kpD (.pa (mD iJ)) [(600,rO L z2)] hp ?_);exact ak 5 [(11,.all)] rfl (az trivial)
  have B:=bE.ok B q;rw[b9 q];have u:sigs.map cT++[cT ⟨A.text,A.pl,s⟩]=(sigs++[(⟨A.text,A.pl,s⟩:Sg)]).map cT:=by rw[Ai];rfl
  have hle:(sigs++[(⟨A.text,A.pl,s⟩:Sg)]).length=sigs.length+1:=by rw[η];rfl
  generalize sigs++[(⟨A.text,A.pl,s⟩:Sg)]=S at u hle ⊢;refine sk 9 rfl (kc B ?_);refine ak 5 [(11,.all)] rfl (az (AWp.sub (st2:=mk [] ((600,rO L z3)::aFy ⟨p.datas,p.classes,p.insts,p.binds⟩ S)) (sl (hh:=⟨⟨_,rfl,.var rfl⟩,⟨_,rfl,.var (by rw[hle,←hsl];rfl)⟩,⟨_,rfl,.var rfl⟩,⟨_,rfl,.arrS u⟩,⟨_,rfl,Go.AM.Ole.arr⟩,⟨_,rfl,Go.AM.Ole.arr⟩,⟨_,rfl,Go.AM.Ole.arr⟩,⟨_,rfl,Go.AM.Ole.arr⟩,trivial⟩)) ?_));exact aF rtN
 | false=>
  rw[ξ ω];have E:=tF hB hS A deep Y J (le_trans (l1.trans l2) hN) hd;generalize dP ex A deep z2=y at E ⊢;obtain⟨bd,z3⟩:=y;dsimp only at E ⊢;have hz0:(p.binds.map b8++[(b8 zBd)])[p.binds.length]?=some (b8 zBd):=by rw[A9 (by omega),O,Cb];rfl
  refine aB rfl (fun hb=>Bool.noConfusion hb) (fun _=>aD ?_);by_cases q:z3.e=0
  case neg=>
   have hp:=bE.err E q;rw[aJ q];refine aC mixed (ak 6 [] rfl (kpD (.pa (b8 zBd)) [(600,rO L z2)] hp ?_));exact ak 7 [(8,.all),(11,.row p.binds.length (b8 zBd))] rfl (az trivial)
  have E:=bE.ok E q;rw[b9 q];have u:(p.binds.map b8++[(b8 zBd)]).set p.binds.length (b8 bd)=(p.binds++[bd]).map b8:=by
   rw[set_append_right _ _ (by omega),O,Cb,Ai];rfl
  have hle:(p.binds++[bd]).length=p.binds.length+1:=by rw[η];rfl
  refine aC mixed (ak 6 [] rfl (kc E ?_));refine ak 7 [(8,.all),(11,.row p.binds.length (b8 zBd))] rfl (az ?_);generalize hSe:p.binds++[bd]=S at u hle ⊢;exact rtN (ho:=⟨⟨_,rfl,.var rfl⟩,⟨_,rfl,.var rfl⟩,⟨_,rfl,.var (by rw[hle,←O];rfl)⟩,⟨_,rfl,Go.AM.Ole.arr⟩,⟨_,rfl,.arrS u⟩,⟨_,rfl,Go.AM.Ole.arr⟩,⟨_,rfl,Go.AM.Ole.arr⟩,⟨_,rfl,Go.AM.Ole.arr⟩,trivial⟩)
end
section
variable {σ:Type}(sh:Str) (step:σ→Z→σ×Z)
def lpZ:Nat→Nat→σ→Z→σ×Z
 | 0,_,s,z=>(s,z)
 | f+1,n,s,z=>if(bI sh n z).1=true then lpZ f (n+1) (step s (bI sh n z).2).1 (step s (bI sh n z).2).2 else(s,(bI sh n z).2)
def tU (s:σ) (z:Z):σ×Z:=
 ((lpZ bA step ((aQ dQ z).R.length+1) 0 s (aQ dQ z)).1,aQ bA (lpZ bA step ((aQ dQ z).R.length+1) 0 s (aQ dQ z)).2)
end
theorem fQ {σ:Type}{sh:Str}{step:σ→Z→σ×Z}{f n:Nat}{s:σ}{z:Z}(h:¬z.e=0):lpZ sh step f n s z=(s,z):=by
 cases f with
 | zero=>rfl
 | succ f=>rw[lpZ,aLo h,ξ ω]
theorem pC (s:Str) (z:Z):moreA s 0 z=z:=ξ fun k=>Cm 0 k.1
theorem sD {σ:Type}{L:List Tk}{sh:Str}{step:σ→Z→σ×Z}{Inv:Nat→σ→Prop}(q:∀n s z,Inv n s→n<60→ZA L z→z.e=0→ZA L (step s z).2∧Inv (n+1) (step s z).1∧((step s z).2.e=0→(step s z).2.R.length<z.R.length)∧Ze z (step s z).2):
  ∀(f n:Nat) (s:σ) (z:Z),n≤60→Inv n s→ZA L z→ZA L (lpZ sh step f n s z).2∧(∃m,m≤60∧Inv m (lpZ sh step f n s z).1)∧Ze z (lpZ sh step f n s z).2
 | 0,n,s,z,hn,g,h=>⟨h,⟨n,hn,g⟩,Ze.refl z⟩
 | f+1,n,s,z,hn,g,h=>by
  rw[lpZ];split
  ·rename_i hm;obtain⟨e,u⟩:=fF hm;obtain⟨y,A,_,B⟩:=q n s _ g (by omega) (h.more sh n) e;obtain⟨E,I,J⟩:=sD q f (n+1) _ _ u A y;exact⟨E,I,((Ze.more sh n z).trans B).trans J⟩
  ·exact⟨h.more _ _,⟨n,hn,g⟩,Ze.more _ _ _⟩
theorem aFs (ex:Nat→Z→Ex×Z) (deep:Nat):∀(f n:Nat) (sigs:List Sg) (binds:List Bd) (z:Z),eO ex deep f n sigs binds z=lpZ bA (fun(s:List Sg×List Bd) z=>aS ex s.1 s.2 deep z) f n (sigs,binds) z
 | 0,_,_,_,_=>rfl
 | f+1,n,sigs,binds,z=>by
  rw[eO,lpZ];split
  ·exact aFs ex deep f _ _ _ _
  ·rfl
def pR:AObj:=.var 107 [.vp 600 0]
def dO (deep:Nat):AObj:=.var 3 [.c (.int .i64 (deep:Nat))]
theorem nW {L:List Tk}{z:Z}(h:ZA L z):aV Tryz.prog 189 ([]++[R.vp 2 0].map V.one) [(600,rO L z),(2,pR)] (B (dH bA z)) [(600,rO L z),(2,pR)]:=by
 have hi:=lC h bA;have e:dH bA z=isZ bA z:=ξ (fun k=>by cases k);rw[e];refine bF (n:=4) tok Tryz.func189 rfl rfl rfl ?_;refine sg rfl (sk 1 rfl (kc hi ?_));exact kz 1 rfl (aF rtT)
theorem aPu (deep:Nat) {step:(List Sg×List Bd)→Z→(List Sg×List Bd)×Z}{Inv:Nat→(List Sg×List Bd)→Prop}{L:List Tk}{N:Nat}
  (hone:∀n s z,Inv n s→n<60→ZA L z→z.e=0→z.R.length≤N→bE Tryz.prog 225 ([]++[R.vp 3 0,R.vp 7 0,R.vp 8 0,R.vp 5 0].map V.one) ((600,rO L z)::(3,pR)::(5,dO deep)::y3 s.1 s.2) (fU L (.tup []) (step s z).2 ((3,pR)::(5,dO deep)::y3 (step s z).1.1 (step s z).1.2)))
  (hst:∀n s z,Inv n s→n<60→ZA L z→z.e=0→ZA L (step s z).2∧Inv (n+1) (step s z).1∧((step s z).2.e=0→(step s z).2.R.length<z.R.length)∧Ze z (step s z).2)
  {z:Z} (h:ZA L z) (he:z.e=0) (hN:z.R.length≤N) {s:(List Sg×List Bd)} (hI:Inv 0 s):
  bE Tryz.prog 90 [rP,.one (.clo 189 [R.vp 2 0]),.one (.clo 225 [R.vp 3 0,R.vp 7 0,R.vp 8 0,R.vp 5 0])] ((600,rO L z)::(2,pR)::(3,pR)::(5,dO deep)::y3 s.1 s.2) (fU L (.tup []) (lpZ bA step (z.R.length+1) 0 s z).2 ((2,pR)::(3,pR)::(5,dO deep)::y3 (lpZ bA step (z.R.length+1) 0 s z).1.1 (lpZ bA step (z.R.length+1) 0 s z).1.2)):=by
 have u:∃W,W=lpZ bA step (z.R.length+1) 0 s z:=⟨_,rfl⟩
 obtain⟨W,u⟩:=u;rw[←u];refine mB (n:=35) tok Tryz.func90 rfl rfl rfl rfl ?_;refine sg rfl (aE (aL (fun q:Nat×(List Sg×List Bd)×Z×Nat=>mk [(0,rP),(1,.one (.clo 189 [R.vp 2 0])),(2,.one (.clo 225 [R.vp 3 0,R.vp 7 0,R.vp 8 0,R.vp 5 0])),(6,I .i64 (q.1:Nat))] ((600,rO L q.2.2.1)::(2,pR)::(3,pR)::(5,dO deep)::y3 q.2.1.1 q.2.1.2)) (fun q=>Inv q.1 q.2.1∧q.1≤60∧ZA L q.2.2.1∧q.2.2.1.e=0∧q.2.2.1.R.length≤N∧q.2.2.1.R.length<q.2.2.2∧moreA bA q.1 q.2.2.1=q.2.2.1∧W=lpZ bA step q.2.2.2 q.1 q.2.1 q.2.2.1) (fun q=>q.2.2.1.R.length) (0,s,z,z.R.length+1) ⟨hI,Ad _,h,he,hN,B5 _,pC _ _,u⟩ sl ?_));clear u h he hN hI;rintro⟨n,s,z,f⟩ ⟨hI,hn,h,he,hN,hf,hA,u⟩;dsimp only at hI hn h he hN hf hA u;refine aE (aA (aE (aL (fun y:Z=>mk [(0,rP),(1,.one (.clo 189 [R.vp 2 0])),(2,.one (.clo 225 [R.vp 3 0,R.vp 7 0,R.vp 8 0,R.vp 5 0])),(6,I .i64 (n:Nat))] ((600,rO L y)::(2,pR)::(3,pR)::(5,dO deep)::y3 s.1 s.2)) (fun y=>ZA L y∧y.e=0∧cL z=cL y∧y.R.length≤z.R.length) (fun y=>y.R.length) z ⟨h,he,rfl,le_refl _⟩ sl ?_)));rintro y ⟨h2,B,e2,hle2⟩

 have hm:=eS h2 B cC;obtain⟨m1,m2,m3⟩:=kP h2;have O:=h2.may cC;have he3:=(gV cC y).trans B;generalize bP cC y=m at hm m1 m2 m3 O he3;obtain⟨b,z3⟩:=m;dsimp only at m1 m2 m3 O he3;refine aA (sk 1 rfl (kc hm ?_));refine az (aB rfl (fun hb=>?_) (fun hb=>?_))
 ·have hb:b=true:=hb;have:=m3 hb;exact aD (aE (aD ⟨z3,⟨O,he3,e2.trans m1.symm,by omega⟩,m3 hb,sl⟩))
 have hb:b=false:=hb;obtain⟨g1,g2⟩:=m2 hb;subst g1;have e3:cL z=z3:=e2.trans g2;clear m1 m2 m3 O e2 hm;have hf0:∃g,f=g+1:=⟨f-1,by omega⟩
 obtain⟨f,rfl⟩:=hf0;rw[lpZ] at u;unfold bI at u;rw[hA,e3] at u;have hs3:=nW h2;have hn3:=dS h2;refine aG (aA (sk 1 rfl (kv (args:=[]) hs3 ?_)));refine az (aB rfl (fun hb=>?_) (fun hb=>?_))
 ·have hb:dH bA z3=true:=hb;rw[θ (show ¬z3.e=0∨dH bA z3=true from .inr hb)] at u;rw[ξ ω] at u;rw[u,b9 B];exact aF rtN
 have hb:dH bA z3=false:=hb;have hnb:¬(¬z3.e=0∨dH bA z3=true):=fun k=>k.elim (fun k=>k B) fun k=>by rw[hb] at k;cases k
 rw[ξ hnb] at u;refine aD ?_;by_cases hn60:n<60
 case neg=>
  have d:decide (((n:Nat):Int)<60)=false:=ψ (by omega);rw[fJ (by omega) B] at u;dsimp only at u;rw[ψ cG,ξ ω] at u;rw[u,aJ cG];have hmn:=bL 2 (b4 z3).pl;refine sk 5 rfl (kc hn3 ?_);refine ak 1 [] rfl ?_;rw[d];exact kp hmn
 have d:decide (((n:Nat):Int)<60)=true:=φ (by omega);rw[fI (by omega),φ B,θ rfl] at u;have hmo:=bK 2 (b4 z3).pl;refine sk 5 rfl (kc hn3 ?_);refine ak 1 [] rfl ?_;rw[d];refine kc hmo ?_;refine az ?_;have ho:=hone n s z3 hI hn60 h2 B (by omega);obtain⟨E,k2,k3,_⟩:=hst n s z3 hI hn60 h2 B;generalize step s z3=y at ho E k2 k3 u;obtain⟨s4,z4⟩:=y;dsimp only at ho E k2 k3 u;by_cases A:z4.e=0
 case neg=>
  have hp:=bE.err ho A;rw[fQ A] at u;rw[u,aJ A];exact sk 1 rfl (kpv (args:=[]) hp)
 have ho:=bE.ok ho A;have k3:=k3 A;refine sk 1 rfl (kv (args:=[]) ho ?_);refine az (aA (agN [] rfl ?_));have hlp:=E.lp;have J:=lC E cC;have hn4:=dS E;have U:=nW E;have hmo4:=bK 12 (b4 z4).pl;cases Y:isZ cC z4 with
 | true=>
  rw[Y] at J;have M:moreA bA (n+1) z4=z4:=ξ fun k=>by rw[Y] at k;cases k.2.2.1
  refine aC mixed (ak 1 [] rfl (kc J ?_));refine ak 7 [(2,.bv true),(5,.bv true)] rfl (kc hn4 ?_);refine ak 1 [(2,.bv true),(5,.bv true)] rfl (kc hmo4 ?_);exact az ⟨(n+1,s4,z4,f),⟨k2,by omega,E,A,by dsimp only;omega,by dsimp only;omega,M,u⟩,by dsimp only;omega,sl⟩
 | false=>
  rw[Y] at J;cases aa:dH bA z4 with
  | true=>
   rw[aa] at U;have M:moreA bA (n+1) z4=z4:=ξ fun k=>by rw[aa] at k;cases k.2.2.2
   refine aC mixed (ak 1 [] rfl (kc J ?_));refine ak 2 [(2,.bv false)] rfl (kvG (args:=[]) U ?_);refine ak 4 [(2,.bv false),(5,.bv false)] rfl (kc hn4 ?_);refine ak 1 [(2,.bv false),(5,.bv false)] rfl (kc hmo4 ?_);exact az ⟨(n+1,s4,z4,f),⟨k2,by omega,E,A,by dsimp only;omega,by dsimp only;omega,M,u⟩,by dsimp only;omega,sl⟩
  | false=>
   rw[aa] at U;have hmn4:=bL 12 (b4 z4).pl;have M:moreA bA (n+1) z4=⟨z4.R,12,(b4 z4).pl⟩:=(θ ⟨succ_pos n,A,Y,aa⟩).trans (θ A);have h12:¬(12:Int)=0:=by decide
   have hWb:W.2=⟨z4.R,12,(b4 z4).pl⟩:=by
    obtain⟨f,rfl⟩:∃g,f=g+1:=⟨f-1,by omega⟩
    rw[lpZ] at u;unfold bI at u;rw[M,kU h12,θ (show ¬(Z.mk z4.R 12 (b4 z4).pl).e=0∨_ from .inl h12),ξ ω] at u;rw[u]
   rw[hWb,aJ h12];refine aC mixed (ak 1 [] rfl (kc J ?_));refine ak 2 [(2,.bv false)] rfl (kvG (args:=[]) U ?_);refine ak 4 [(2,.bv false),(5,.bv false)] rfl (kc hn4 ?_);refine ak 1 [(2,.bv false),(5,.bv false)] rfl (kpD (.tup []) [] hmn4 ?_);exact az trivial
theorem aK5 (deep:Nat) {step:(List Sg×List Bd)→Z→(List Sg×List Bd)×Z}{Inv:Nat→(List Sg×List Bd)→Prop}{L:List Tk}{N:Nat}
  (I:∀n s z,Inv n s→n<60→ZA L z→z.e=0→z.R.length≤N→bE Tryz.prog 225 ([]++[R.vp 3 0,R.vp 7 0,R.vp 8 0,R.vp 5 0].map V.one) ((600,rO L z)::(3,pR)::(5,dO deep)::y3 s.1 s.2) (fU L (.tup []) (step s z).2 ((3,pR)::(5,dO deep)::y3 (step s z).1.1 (step s z).1.2)))
  (E:∀n s z,Inv n s→n<60→ZA L z→z.e=0→ZA L (step s z).2∧Inv (n+1) (step s z).1∧((step s z).2.e=0→(step s z).2.R.length<z.R.length)∧Ze z (step s z).2)
  {z:Z} (h:ZA L z) (he:z.e=0) (hN:z.R.length≤N) {s:(List Sg×List Bd)} (J:Inv 0 s):
  bE Tryz.prog 143 [rP,.one (.clo 225 [R.vp 3 0,R.vp 7 0,R.vp 8 0,R.vp 5 0])] ((600,rO L z)::(3,pR)::(5,dO deep)::y3 s.1 s.2) (fU L (.tup []) (tU step s z).2 ((3,pR)::(5,dO deep)::y3 (tU step s z).1.1 (tU step s z).1.2)):=by
 have g:=cU h he dQ;have h1:=h.need dQ;have M:=Ze.need dQ z;unfold tU;generalize aQ dQ z=B at g h1 M ⊢;have U:B.R.length≤z.R.length:=M;refine mB (n:=12) tok Tryz.func143 rfl rfl rfl rfl ?_;refine sg rfl ?_;by_cases q:B.e=0
 case neg=>
  have hp:=bE.err g q;rw[fQ q];dsimp only;rw[bH q,aJ q];exact sk 1 rfl (kp hp)
 have g:=bE.ok g q;refine sk 1 rfl (kc g ?_);refine az ?_;have u:=aPu deep (step:=step) (Inv:=Inv) (L:=L) (N:=N) I E h1 q (by omega) J;have hok:=(sD (sh:=bA) E (B.R.length+1) 0 s B (Ad _) J h1).1
 generalize lpZ bA step (B.R.length+1) 0 s B=W at u hok ⊢;obtain⟨s2,O⟩:=W;dsimp only at u hok ⊢;by_cases y:O.e=0
 case neg=>
  have hp:=bE.err u y;rw[bH y,aJ y];exact sk 3 rfl (kp hp)
 have u:=bE.ok u y;refine sk 3 rfl (kc u ?_);refine az ?_;have g:=cU hok y bA;generalize aQ bA O=z3 at g ⊢;by_cases A:z3.e=0
 case neg=>
  have hp:=bE.err g A;rw[aJ A];exact aC mixed (ak 1 [] rfl (kp hp))
 have g:=bE.ok g A;rw[b9 A];refine aC mixed (ak 1 [] rfl (kc g ?_));exact az rtN
theorem jV:∀{l:List Sg}{b:List Bd}{z:Z},(cO l b z).2.e=0→(cO l b z).2=z
 | [],b,z,_=>rfl
 | s::l,b,z,h=>by
  rw[cO] at h ⊢;by_cases he:z.e=0
  case neg=>rw[ξ he]
  rw[θ he] at h ⊢;have hb:∀e p:Int,¬e=0→(cO l b (bR e p z)).2.e=0→False:=fun e p g h0=>by
   have u:bR e p z=⟨z.R,e,p⟩:=θ he;rw[u,mP (show ¬(Z.mk z.R e p).e=0 from g)] at h0;exact g h0
  cases q:b.findIdx? (fun x=>decide (x.name=s.name)) with
  | none=>rw[q] at h;exact(hb 21 _ (by decide) h).elim
  | some k=>
   rw[q] at h;dsimp only at h ⊢;cases hx:b[k]? with
   | none=>rfl
   | some x=>
    rw[hx] at h;dsimp only at h ⊢;by_cases hh:x.has=true
    ·rw[θ hh] at h;exact(hb 20 _ (by decide) h).elim
    ·rw[ξ hh] at h ⊢;exact jV h
section
variable {L:List Tk}{ex:Nat→Z→Ex×Z}{N:Nat}(hB:tQ ex) (hS:aNs L ex N) (hZ:nZ L) (hwt:wt L≤30000)
include hB hS hZ hwt
theorem aTs (sigs:List Sg) (binds:List Bd) (deep:Nat) {z:Z}(h:ZA L z) (he:z.e=0) (hN:z.R.length≤N) (u:deep≤40) (h1:sigs.length≤4001) (h2:binds.length≤4001):
  bE Tryz.prog 225 ([]++[R.vp 3 0,R.vp 7 0,R.vp 8 0,R.vp 5 0].map V.one) ((600,rO L z)::(3,pR)::(5,dO deep)::y3 sigs binds) (fU L (.tup []) (aS ex sigs binds (deep+1) z).2 ((3,pR)::(5,dO deep)::y3 (aS ex sigs binds (deep+1) z).1.1 (aS ex sigs binds (deep+1) z).1.2)):=by
 have hs:=aTi hB hS hZ hwt sigs binds (deep+1) h he hN (by omega) h1 h2;generalize aS ex sigs binds (deep+1) z=y at hs ⊢;obtain⟨⟨S,Bs⟩,q⟩:=y;dsimp only at hs ⊢;refine mB (n:=8) tok Tryz.func225 rfl rfl rfl rfl ?_;by_cases g:q.e=0
 case neg=>
  have hp:=bE.err hs g;rw[aJ g];exact aC mixed (akN 3 [] rfl (kp hp))
 have hs:=bE.ok hs g;rw[b9 g];refine aC mixed (akN 3 [] rfl (kc hs ?_));exact az rtN
omit hB hS hZ hwt
theorem aJ3 (deep:Nat) (z:Z):l8 ex deep z=lpZ bA (fun(s:List Sg×List Bd) z=>aS ex s.1 s.2 (deep+1) z) ((aQ dQ z).R.length+1) 0 ([],[]) (aQ dQ z):=aFs ex (deep+1) _ _ _ _ _
include hB hS hZ hwt
theorem aTr (hO:ExO L ex) (a:Int) (deep:Nat) {z:Z}(h:ZA L z) (he:z.e=0) (hN:z.R.length≤N) (hd:deep≤40):bE Tryz.prog 216 [rP,I .i64 a,I .i64 (deep:Nat)] [(600,rO L z)] (fU L (.pa (bC (r1 ex a deep z).1)) (r1 ex a deep z).2 []):=by
 have hst:∀(n:Nat) (s:List Sg×List Bd) (z:Z),(fS s.1∧eY s.2∧s.1.length≤n∧s.2.length≤n)→n<60→ZA L z→z.e=0→ZA L (aS ex s.1 s.2 (deep+1) z).2∧(fS (aS ex s.1 s.2 (deep+1) z).1.1∧eY (aS ex s.1 s.2 (deep+1) z).1.2∧(aS ex s.1 s.2 (deep+1) z).1.1.length≤n+1∧(aS ex s.1 s.2 (deep+1) z).1.2.length≤n+1)∧((aS ex s.1 s.2 (deep+1) z).2.e=0→(aS ex s.1 s.2 (deep+1) z).2.R.length<z.R.length)∧Ze z (aS ex s.1 s.2 (deep+1) z).2:=fun n s z J hn h he=>by
  obtain⟨k1,k2,k3,k4,k5,k6,k7⟩:=iC hO hwt s.1 s.2 (deep+1) h J.1 J.2.1;exact⟨k1,⟨k2,k3,by have:=J.2.2.1;omega,by have:=J.2.2.2;omega⟩,k6,k7⟩
 have hI0:fS ([]:List Sg)∧eY ([]:List Bd)∧([]:List Sg).length≤0∧([]:List Bd).length≤0:=⟨fun s hs=>(by cases hs),trivial,le_refl _,le_refl _⟩
 have q:=aK5 deep (step:=fun(s:List Sg×List Bd) z=>aS ex s.1 s.2 (deep+1) z) (Inv:=fun n s=>fS s.1∧eY s.2∧s.1.length≤n∧s.2.length≤n) (L:=L) (N:=N) (fun n s z J hn h he hN=>aTs hB hS hZ hwt s.1 s.2 deep h he hN hd (by have:=J.2.2.1;omega) (by have:=J.2.2.2;omega)) hst h he hN (s:=([],[])) hI0;have hok:=sD (sh:=bA) (Inv:=fun n (s:List Sg×List Bd)=>fS s.1∧eY s.2∧s.1.length≤n∧s.2.length≤n) hst ((aQ dQ z).R.length+1) 0 ([],[]) (aQ dQ z) (Ad _) hI0 (h.need dQ);unfold tU at q;unfold r1;rw[aJ3];unfold aCo;have l0:(aQ dQ z).R.length≤z.R.length:=Ze.need dQ z;generalize aQ dQ z=z1 at q hok l0 ⊢;generalize lpZ bA (fun(s:List Sg×List Bd) z=>aS ex s.1 s.2 (deep+1) z) (z1.R.length+1) 0 ([],[]) z1=W at q hok ⊢;obtain⟨⟨sigs,binds⟩,U⟩:=W;dsimp only at q hok ⊢;obtain⟨g1,⟨m,hm60,hs,hb,hsl,hbl'⟩,g3⟩:=hok

 have h3:=g1.need bA;have l3:(aQ bA U).R.length≤U.R.length:=Ze.need bA U;have g3:U.R.length≤z1.R.length:=g3;generalize aQ bA U=z3 at q h3 l3 ⊢;refine mB (n:=25) tok Tryz.func216 rfl rfl rfl rfl ?_;refine sg rfl (sg rfl (sg rfl (AWp.sub (Sub.ownCell (x:=7) (k:=0) (id:=510) 121 9 rfl rfl rfl) ?_)));refine AWp.sub (Sub.ownCell (x:=8) (k:=0) (id:=511) 103 33 rfl rfl rfl) ?_;by_cases u:z3.e=0
 case neg=>
  have hp:=bE.err q u;rw[mP u,bH u,hB _ _ u,aJ u];exact sk 2 rfl (kp hp)
 have q:=bE.ok q u;refine sk 2 rfl (kc q ?_);refine az ?_;have g:=aG5 sigs binds u (by omega) (by omega);obtain⟨p1,p2,p3,p4⟩:=fT sigs binds z3 h3 hs hb;have Y:= @jV sigs binds z3;generalize cO sigs binds z3=y at g p1 p2 p3 p4 Y ⊢;obtain⟨Bs,O⟩:=y;dsimp only at g p1 p2 p3 p4 Y ⊢;have p4:O.R.length≤z3.R.length:=p4;unfold aRd at g;dsimp only at g;refine AWp.sub (Sub.freeze (id:=510) rfl) ?_;by_cases A:O.e=0
 case neg=>
  rw[ξ A] at g;have hp:aBw _ _ _ _ _:=g;rw[bH A,hB _ _ A,aJ A];exact sk 2 rfl (kp hp)
 rw[θ A] at g;have g:aV _ _ _ _ _ _:=g;obtain rfl:=Y A;have hBl:binds.length=(Bs.map b8).length:=by rw[χ,p3]
 refine sk 2 rfl (kc g ?_);refine kz 1 rfl ?_;have B:=cU p1 A inS;have h7:=p1.need inS;have l7:(aQ inS O).R.length≤O.R.length:=Ze.need inS O;generalize aQ inS O=z7 at B h7 l7 ⊢;by_cases E:z7.e=0
 case neg=>
  have hp:=bE.err B E;rw[hB _ _ E,aJ E];exact sk 1 rfl (kp hp)
 have B:=bE.ok B E;refine sk 1 rfl (kc B ?_);refine az ?_;have hex:=hS (deep+1) z7 h7 E (by omega) (by omega);generalize ex (deep+1) z7=y at hex ⊢;obtain⟨e,z8⟩:=y;dsimp only at hex ⊢;refine AWp.sub (Sub.freeze (id:=511) rfl) ?_;by_cases M:z8.e=0
 case neg=>
  have hp:=bE.err hex M;rw[aJ M];refine aA (aC mixed (akN 5 [] rfl (kpD (.pa (bC zEx)) [(600,rO L z7)] hp ?_)));exact ak 3 [(6,.all)] rfl (az trivial)
 have hex:=bE.ok hex M;rw[b9 M];refine aA (aC mixed (akN 5 [] rfl (kc hex ?_)));refine ak 3 [(6,.all)] rfl (az ?_);unfold bC;rw[aAz];exact aF (rtC trw (hc:=.agg (.c .refl (.c .refl (.c .refl (.c .refl (.c .refl (.c .nl (.hs rfl hBl (Go.AM.take_all hBl) (.c .nl (.c .nl (.c .nl (.c .refl (.c .refl (.c .refl (.c .nl (.c .nl .nil)))))))))))))))))
end
def aCs (a:Int) (ps:List Pt) (ks:List Ex):List (Nat×AObj):=[(7,.var 35 [.c (.int .i64 7),.c (.int .i64 a),.c (.int .i64 0),.c (.str []),.hs 520 0 ks.length ks.length,.hs 521 0 ps.length ps.length,.c .nl,.c .nl,.c .nl,.c .nl,.c (.int .i64 0),.c (.int .i64 0),.c (.str []),.c .nl,.c .nl]),(520,.arr 35 15 (ks.map bC) 0),(521,.arr 43 10 (ps.map bO) 0)]
def x9 (ex:Nat→Z→Ex×Z) (deep:Nat) (s:List Pt×List Ex) (z:Z):(List Pt×List Ex)×Z:=
 ((s.1++[(gF (3*z.R.length+1) 0 z).1],s.2++[(ex (deep+1) (aQ arrow (gF (3*z.R.length+1) 0 z).2)).1]),(ex (deep+1) (aQ arrow (gF (3*z.R.length+1) 0 z).2)).2)
theorem aIf (ex:Nat→Z→Ex×Z) (deep:Nat):∀(f n:Nat) (ps:List Pt) (ks:List Ex) (z:Z),eN ex deep f n ps ks z=lpZ bA (x9 ex deep) f n (ps,ks) z
 | 0,_,_,_,_=>rfl
 | f+1,n,ps,ks,z=>by
  rw[eN,lpZ];split
  ·exact aIf ex deep f _ _ _ _
  ·rfl
theorem aOr {s:Str}{z:Z}(h:(aQ s z).e=0):aQ s z=tlZ z∧¬(b4 z).kind=6∧z.e=0:=by
 have he:=aU h;unfold aQ at h ⊢;rw[aOu he] at h ⊢;by_cases hi:isZ s z=true
 ·rw[θ hi,θ rfl];exact⟨rfl,iV hi,he⟩
 ·rw[ξ hi,ξ ω] at h;exact(cS (by decide) h).elim
theorem aPy (a:Int) (deep:Nat) {step:(List Pt×List Ex)→Z→(List Pt×List Ex)×Z}{Inv:Nat→(List Pt×List Ex)→Prop}{L:List Tk}{N:Nat}
  (hone:∀n s z,Inv n s→n<60→ZA L z→z.e=0→z.R.length≤N→bE Tryz.prog 226 ([]++[R.vp 7 0,R.vp 3 0,R.vp 5 0].map V.one) ((600,rO L z)::(3,pR)::(5,dO deep)::aCs a s.1 s.2) (fU L (.tup []) (step s z).2 ((3,pR)::(5,dO deep)::aCs a (step s z).1.1 (step s z).1.2)))
  (hst:∀n s z,Inv n s→n<60→ZA L z→z.e=0→ZA L (step s z).2∧Inv (n+1) (step s z).1∧((step s z).2.e=0→(step s z).2.R.length<z.R.length)∧Ze z (step s z).2)
  {z:Z} (h:ZA L z) (he:z.e=0) (hN:z.R.length≤N) {s:(List Pt×List Ex)} (hI:Inv 0 s):
  bE Tryz.prog 90 [rP,.one (.clo 189 [R.vp 2 0]),.one (.clo 226 [R.vp 7 0,R.vp 3 0,R.vp 5 0])] ((600,rO L z)::(2,pR)::(3,pR)::(5,dO deep)::aCs a s.1 s.2) (fU L (.tup []) (lpZ bA step (z.R.length+1) 0 s z).2 ((2,pR)::(3,pR)::(5,dO deep)::aCs a (lpZ bA step (z.R.length+1) 0 s z).1.1 (lpZ bA step (z.R.length+1) 0 s z).1.2)):=by
 have u:∃W,W=lpZ bA step (z.R.length+1) 0 s z:=⟨_,rfl⟩
 obtain⟨W,u⟩:=u;rw[←u];refine mB (n:=35) tok Tryz.func90 rfl rfl rfl rfl ?_;refine sg rfl (aE (aL (fun q:Nat×(List Pt×List Ex)×Z×Nat=>mk [(0,rP),(1,.one (.clo 189 [R.vp 2 0])),(2,.one (.clo 226 [R.vp 7 0,R.vp 3 0,R.vp 5 0])),(6,I .i64 (q.1:Nat))] ((600,rO L q.2.2.1)::(2,pR)::(3,pR)::(5,dO deep)::aCs a q.2.1.1 q.2.1.2)) (fun q=>Inv q.1 q.2.1∧q.1≤60∧ZA L q.2.2.1∧q.2.2.1.e=0∧q.2.2.1.R.length≤N∧q.2.2.1.R.length<q.2.2.2∧moreA bA q.1 q.2.2.1=q.2.2.1∧W=lpZ bA step q.2.2.2 q.1 q.2.1 q.2.2.1) (fun q=>q.2.2.1.R.length) (0,s,z,z.R.length+1) ⟨hI,Ad _,h,he,hN,B5 _,pC _ _,u⟩ sl ?_));clear u h he hN hI;rintro⟨n,s,z,f⟩ ⟨hI,hn,h,he,hN,hf,hA,u⟩;dsimp only at hI hn h he hN hf hA u;refine aE (aA (aE (aL (fun y:Z=>mk [(0,rP),(1,.one (.clo 189 [R.vp 2 0])),(2,.one (.clo 226 [R.vp 7 0,R.vp 3 0,R.vp 5 0])),(6,I .i64 (n:Nat))] ((600,rO L y)::(2,pR)::(3,pR)::(5,dO deep)::aCs a s.1 s.2)) (fun y=>ZA L y∧y.e=0∧cL z=cL y∧y.R.length≤z.R.length) (fun y=>y.R.length) z ⟨h,he,rfl,le_refl _⟩ sl ?_)));rintro y ⟨h2,B,e2,hle2⟩

 have hm:=eS h2 B cC;obtain⟨m1,m2,m3⟩:=kP h2;have O:=h2.may cC;have he3:=(gV cC y).trans B;generalize bP cC y=m at hm m1 m2 m3 O he3;obtain⟨b,z3⟩:=m;dsimp only at m1 m2 m3 O he3;refine aA (sk 1 rfl (kc hm ?_));refine az (aB rfl (fun hb=>?_) (fun hb=>?_))
 ·have hb:b=true:=hb;have:=m3 hb;exact aD (aE (aD ⟨z3,⟨O,he3,e2.trans m1.symm,by omega⟩,m3 hb,sl⟩))
 have hb:b=false:=hb;obtain⟨g1,g2⟩:=m2 hb;subst g1;have e3:cL z=z3:=e2.trans g2;clear m1 m2 m3 O e2 hm;have hf0:∃g,f=g+1:=⟨f-1,by omega⟩
 obtain⟨f,rfl⟩:=hf0;rw[lpZ] at u;unfold bI at u;rw[hA,e3] at u;have hs3:=nW h2;have hn3:=dS h2;refine aG (aA (sk 1 rfl (kv (args:=[]) hs3 ?_)));refine az (aB rfl (fun hb=>?_) (fun hb=>?_))
 ·have hb:dH bA z3=true:=hb;rw[θ (show ¬z3.e=0∨dH bA z3=true from .inr hb)] at u;rw[ξ ω] at u;rw[u,b9 B];exact aF rtN
 have hb:dH bA z3=false:=hb;have hnb:¬(¬z3.e=0∨dH bA z3=true):=fun k=>k.elim (fun k=>k B) fun k=>by rw[hb] at k;cases k
 rw[ξ hnb] at u;refine aD ?_;by_cases hn60:n<60
 case neg=>
  have d:decide (((n:Nat):Int)<60)=false:=ψ (by omega);rw[fJ (by omega) B] at u;dsimp only at u;rw[ψ cG,ξ ω] at u;rw[u,aJ cG];have hmn:=bL 2 (b4 z3).pl;refine sk 5 rfl (kc hn3 ?_);refine ak 1 [] rfl ?_;rw[d];exact kp hmn
 have d:decide (((n:Nat):Int)<60)=true:=φ (by omega);rw[fI (by omega),φ B,θ rfl] at u;have hmo:=bK 2 (b4 z3).pl;refine sk 5 rfl (kc hn3 ?_);refine ak 1 [] rfl ?_;rw[d];refine kc hmo ?_;refine az ?_;have ho:=hone n s z3 hI hn60 h2 B (by omega);obtain⟨E,k2,k3,_⟩:=hst n s z3 hI hn60 h2 B;generalize step s z3=y at ho E k2 k3 u;obtain⟨s4,z4⟩:=y;dsimp only at ho E k2 k3 u;by_cases A:z4.e=0
 case neg=>
  have hp:=bE.err ho A;rw[fQ A] at u;rw[u,aJ A];exact sk 1 rfl (kpv (args:=[]) hp)
 have ho:=bE.ok ho A;have k3:=k3 A;refine sk 1 rfl (kv (args:=[]) ho ?_);refine az (aA (agN [] rfl ?_));have hlp:=E.lp;have J:=lC E cC;have hn4:=dS E;have U:=nW E;have hmo4:=bK 12 (b4 z4).pl;cases Y:isZ cC z4 with
 | true=>
  rw[Y] at J;have M:moreA bA (n+1) z4=z4:=ξ fun k=>by rw[Y] at k;cases k.2.2.1
  refine aC mixed (ak 1 [] rfl (kc J ?_));refine ak 7 [(2,.bv true),(5,.bv true)] rfl (kc hn4 ?_);refine ak 1 [(2,.bv true),(5,.bv true)] rfl (kc hmo4 ?_);exact az ⟨(n+1,s4,z4,f),⟨k2,by omega,E,A,by dsimp only;omega,by dsimp only;omega,M,u⟩,by dsimp only;omega,sl⟩
 | false=>
  rw[Y] at J;cases aa:dH bA z4 with
  | true=>
   rw[aa] at U;have M:moreA bA (n+1) z4=z4:=ξ fun k=>by rw[aa] at k;cases k.2.2.2
   refine aC mixed (ak 1 [] rfl (kc J ?_));refine ak 2 [(2,.bv false)] rfl (kvG (args:=[]) U ?_);refine ak 4 [(2,.bv false),(5,.bv false)] rfl (kc hn4 ?_);refine ak 1 [(2,.bv false),(5,.bv false)] rfl (kc hmo4 ?_);exact az ⟨(n+1,s4,z4,f),⟨k2,by omega,E,A,by dsimp only;omega,by dsimp only;omega,M,u⟩,by dsimp only;omega,sl⟩
  | false=>
   rw[aa] at U;have hmn4:=bL 12 (b4 z4).pl;have M:moreA bA (n+1) z4=⟨z4.R,12,(b4 z4).pl⟩:=(θ ⟨succ_pos n,A,Y,aa⟩).trans (θ A);have h12:¬(12:Int)=0:=by decide
   have hWb:W.2=⟨z4.R,12,(b4 z4).pl⟩:=by
    obtain⟨f,rfl⟩:∃g,f=g+1:=⟨f-1,by omega⟩
    rw[lpZ] at u;unfold bI at u;rw[M,kU h12,θ (show ¬(Z.mk z4.R 12 (b4 z4).pl).e=0∨_ from .inl h12),ξ ω] at u;rw[u]
   rw[hWb,aJ h12];refine aC mixed (ak 1 [] rfl (kc J ?_));refine ak 2 [(2,.bv false)] rfl (kvG (args:=[]) U ?_);refine ak 4 [(2,.bv false),(5,.bv false)] rfl (kc hn4 ?_);refine ak 1 [(2,.bv false),(5,.bv false)] rfl (kpD (.tup []) [] hmn4 ?_);exact az trivial
theorem aK8 (a:Int) (deep:Nat) {step:(List Pt×List Ex)→Z→(List Pt×List Ex)×Z}{Inv:Nat→(List Pt×List Ex)→Prop}{L:List Tk}{N:Nat}
  (I:∀n s z,Inv n s→n<60→ZA L z→z.e=0→z.R.length≤N→bE Tryz.prog 226 ([]++[R.vp 7 0,R.vp 3 0,R.vp 5 0].map V.one) ((600,rO L z)::(3,pR)::(5,dO deep)::aCs a s.1 s.2) (fU L (.tup []) (step s z).2 ((3,pR)::(5,dO deep)::aCs a (step s z).1.1 (step s z).1.2)))
  (E:∀n s z,Inv n s→n<60→ZA L z→z.e=0→ZA L (step s z).2∧Inv (n+1) (step s z).1∧((step s z).2.e=0→(step s z).2.R.length<z.R.length)∧Ze z (step s z).2)
  {z:Z} (h:ZA L z) (he:z.e=0) (hN:z.R.length≤N) {s:(List Pt×List Ex)} (J:Inv 0 s):
  bE Tryz.prog 143 [rP,.one (.clo 226 [R.vp 7 0,R.vp 3 0,R.vp 5 0])] ((600,rO L z)::(3,pR)::(5,dO deep)::aCs a s.1 s.2) (fU L (.tup []) (tU step s z).2 ((3,pR)::(5,dO deep)::aCs a (tU step s z).1.1 (tU step s z).1.2)):=by
 have g:=cU h he dQ;have h1:=h.need dQ;have M:=Ze.need dQ z;unfold tU;generalize aQ dQ z=B at g h1 M ⊢;have U:B.R.length≤z.R.length:=M;refine mB (n:=12) tok Tryz.func143 rfl rfl rfl rfl ?_;refine sg rfl ?_;by_cases q:B.e=0
 case neg=>
  have hp:=bE.err g q;rw[fQ q];dsimp only;rw[bH q,aJ q];exact sk 1 rfl (kp hp)
 have g:=bE.ok g q;refine sk 1 rfl (kc g ?_);refine az ?_;have u:=aPy a deep (step:=step) (Inv:=Inv) (L:=L) (N:=N) I E h1 q (by omega) J;have hok:=(sD (sh:=bA) E (B.R.length+1) 0 s B (Ad _) J h1).1
 generalize lpZ bA step (B.R.length+1) 0 s B=W at u hok ⊢;obtain⟨s2,O⟩:=W;dsimp only at u hok ⊢;by_cases y:O.e=0
 case neg=>
  have hp:=bE.err u y;rw[bH y,aJ y];exact sk 3 rfl (kp hp)
 have u:=bE.ok u y;refine sk 3 rfl (kc u ?_);refine az ?_;have g:=cU hok y bA;generalize aQ bA O=z3 at g ⊢;by_cases A:z3.e=0
 case neg=>
  have hp:=bE.err g A;rw[aJ A];exact aC mixed (ak 1 [] rfl (kp hp))
 have g:=bE.ok g A;rw[b9 A];refine aC mixed (ak 1 [] rfl (kc g ?_));exact az rtN
section
variable {L:List Tk}{ex:Nat→Z→Ex×Z}{N:Nat}(hB:tQ ex) (hS:aNs L ex N) (hNm:aL6 L)
include hB hS hNm
theorem aP9 (a:Int) (ps:List Pt) (ks:List Ex) (deep:Nat) {z:Z}(h:ZA L z) (he:z.e=0) (hN:z.R.length≤N) (hd:deep≤40) (h1:ps.length≤4001) (h2:ks.length≤4001):
  bE Tryz.prog 226 ([]++[R.vp 7 0,R.vp 3 0,R.vp 5 0].map V.one) ((600,rO L z)::(3,pR)::(5,dO deep)::aCs a ps ks) (fU L (.tup []) (x9 ex deep (ps,ks) z).2 ((3,pR)::(5,dO deep)::aCs a (x9 ex deep (ps,ks) z).1.1 (x9 ex deep (ps,ks) z).1.2)):=by
 have J:(ps.map bO).length=ps.length:=χ _;have M:(ks.map bC).length=ks.length:=χ _;have hz1:(ps.map bO++[(bO zPt)])[ps.length]?=some (bO zPt):=by rw[A9 (by omega),J,Cb];rfl
 have hz2:(ks.map bC++[(bC zEx)])[ks.length]?=some (bC zEx):=by rw[A9 (by omega),M,Cb];rfl
 have hp:=(aVy L hNm (3*z.R.length+1)).2 _ (le_refl _) 0 z h he (le_refl _) (by omega);obtain⟨O,_,_,U⟩:=(gE L (3*z.R.length+1)).2.1 0 z h;unfold x9;dsimp only;generalize gF (3*z.R.length+1) 0 z=y at hp O U ⊢;obtain⟨q,E⟩:=y;dsimp only at hp O U ⊢;have U:E.R.length≤z.R.length:=U;refine mB (n:=25) tok Tryz.func226 rfl rfl rfl rfl ?_;by_cases u:E.e=0
 case neg=>
  have hp:=bE.err hp u;rw[bH u,hB _ _ u,aJ u];refine sk 3 rfl (kpD (.pa (bO zPt)) [(600,rO L z)] hp ?_);exact ak 7 [(5,.all),(8,.row ps.length (bO zPt))] rfl (az trivial)
 have hp:=bE.ok hp u;have g:(ps.map bO++[(bO zPt)]).set ps.length (bO q)=(ps++[q]).map bO:=by
  rw[set_append_right _ _ (by omega),J,Cb,Ai];rfl
 have hle:(ps++[q]).length=ps.length+1:=by rw[η];rfl
 refine sk 3 rfl (kc hp ?_);refine ak 7 [(5,.all),(8,.row ps.length (bO zPt))] rfl (az ?_);generalize ps++[q]=P at g hle ⊢;refine AWp.sub (st2:=mk [(0,.one (.vp 7 0)),(1,.one (.vp 3 0)),(2,.one (.vp 5 0))] ((600,rO L E)::(3,pR)::(5,dO deep)::aCs a P ks)) (sl (hh:=⟨⟨_,rfl,.var rfl⟩,⟨_,rfl,.var rfl⟩,⟨_,rfl,.var rfl⟩,⟨_,rfl,.var (by rw[hle,←J];rfl)⟩,⟨_,rfl,Go.AM.Ole.arr⟩,⟨_,rfl,.arrS g⟩,trivial⟩)) ?_;have A:=cU O u arrow;have g2:=O.need arrow;have l2:(aQ arrow E).R.length≤E.R.length:=Ze.need arrow E;generalize aQ arrow E=Y at A g2 l2 ⊢;by_cases B:Y.e=0
 case neg=>
  have hp:=bE.err A B;rw[hB _ _ B,aJ B];exact sk 1 rfl (kp hp)
 have A:=bE.ok A B;refine sk 1 rfl (kc A ?_);refine az ?_;have hx:=hS (deep+1) Y g2 B (by omega) (by omega);generalize ex (deep+1) Y=y at hx ⊢;obtain⟨e,z3⟩:=y;dsimp only at hx ⊢;by_cases I:z3.e=0
 case neg=>
  have hp:=bE.err hx I;rw[aJ I];refine aC mixed (akN 5 [] rfl (kpD (.pa (bC zEx)) [(600,rO L Y)] hp ?_));exact ak 7 [(7,.all),(10,.row ks.length (bC zEx))] rfl (az trivial)
 have hx:=bE.ok hx I;rw[b9 I];have g:(ks.map bC++[(bC zEx)]).set ks.length (bC e)=(ks++[e]).map bC:=by
  rw[set_append_right _ _ (by omega),M,Cb,Ai];rfl
 have hle:(ks++[e]).length=ks.length+1:=by rw[η];rfl
 refine aC mixed (akN 5 [] rfl (kc hx ?_));refine ak 7 [(7,.all),(10,.row ks.length (bC zEx))] rfl (az ?_);generalize ks++[e]=K at g hle ⊢;exact rtN (ho:=⟨⟨_,rfl,.var rfl⟩,⟨_,rfl,.var rfl⟩,⟨_,rfl,.var rfl⟩,⟨_,rfl,.var (by rw[hle,←M];rfl)⟩,⟨_,rfl,.arrS g⟩,⟨_,rfl,Go.AM.Ole.arr⟩,trivial⟩)
theorem aP8 (hO:ExO L ex) (a:Int) (deep:Nat) {z:Z}(h:ZA L z) (he:z.e=0) (hN:z.R.length≤N) (hd:deep≤40):bE Tryz.prog 217 [rP,I .i64 a,I .i64 (deep:Nat)] [(600,rO L z)] (fU L (.pa (bC (gM ex a deep z).1)) (gM ex a deep z).2 []):=by
 have hx:=hS (deep+1) z h he hN (by omega);obtain⟨Y,o0,_,m0⟩:=hO (deep+1) z h;unfold gM fM cP;rw[aIf];dsimp only;generalize ex (deep+1) z=y at hx Y o0 m0 ⊢;obtain⟨e0,z0⟩:=y;dsimp only at hx Y o0 m0 ⊢;have m0:z0.R.length≤z.R.length:=m0;refine mB (n:=40) tok Tryz.func217 rfl rfl rfl rfl ?_;refine sg rfl ?_;by_cases g:z0.e=0
 case neg=>
  have hp:=bE.err hx g;rw[bH g,bH g,fQ g];dsimp only;rw[bH g,fD g];have hb:(if([]:List Pt)=[] then z0 else z0)=z0:=θ rfl;rw[hb,aJ g];exact aA (aC mixed (akN 4 [] rfl (kp hp)))
 have hx:=bE.ok hx g;refine aA (aC mixed (akN 4 [] rfl (kc hx ?_)));refine ak 4 [(5,.id 520)] rfl (az (AWp.sub (Sub.ownCell (x:=7) (k:=5) (id:=521) 43 10 rfl rfl rfl) ?_));have B:=cU Y g ofS;have h1:=Y.need ofS;have l1:(aQ ofS z0).R.length≤z0.R.length:=Ze.need ofS z0;generalize aQ ofS z0=J at B h1 l1 ⊢;by_cases u:J.e=0
 case neg=>
  have hp:=bE.err B u;rw[bH u,fQ u];dsimp only;rw[bH u,fD u];have hb:(if([]:List Pt)=[] then J else J)=J:=θ rfl;rw[hb,aJ u];exact sk 1 rfl (kp hp)
 have B:=bE.ok B u;refine sk 1 rfl (kc B ?_);refine az ?_;have hst:∀(n:Nat) (s:List Pt×List Ex) (z:Z),(x5 s.1∧o8 s.2∧s.1.length=n∧s.2.length=n+1)→n<60→ZA L z→z.e=0→ZA L (x9 ex deep s z).2∧(x5 (x9 ex deep s z).1.1∧o8 (x9 ex deep s z).1.2∧(x9 ex deep s z).1.1.length=n+1∧(x9 ex deep s z).1.2.length=n+1+1)∧((x9 ex deep s z).2.e=0→(x9 ex deep s z).2.R.length<z.R.length)∧Ze z (x9 ex deep s z).2:=fun n s z M hn h he=>by
  obtain⟨q1,q2,q3,q4⟩:=(gE L (3*z.R.length+1)).2.1 0 z h;obtain⟨m1,m2,m3,m4⟩:=hO (deep+1) _ (q1.need arrow);have l1:(aQ arrow (gF (3*z.R.length+1) 0 z).2).R.length≤(gF (3*z.R.length+1) 0 z).2.R.length:=Ze.need _ _;have q4':(gF (3*z.R.length+1) 0 z).2.R.length≤z.R.length:=q4;unfold x9;exact⟨m1,⟨oE M.1 q2,pN M.2.1 m2,by dsimp only;rw[η,M.2.2.1];rfl,by dsimp only;rw[η,M.2.2.2];rfl⟩,fun h0=>by have:=m3 h0;dsimp only;omega,(q4.trans (Ze.need _ _)).trans m4⟩
 have hI0:x5 ([]:List Pt)∧o8 [e0]∧([]:List Pt).length=0∧[e0].length=0+1:=⟨trivial,⟨o0,trivial⟩,rfl,rfl⟩
 have q:=aK8 a deep (step:=x9 ex deep) (Inv:=fun n s=>x5 s.1∧o8 s.2∧s.1.length=n∧s.2.length=n+1) (L:=L) (N:=N) (fun n s z M hn h he hN=>aP9 hB hS hNm a s.1 s.2 deep h he hN hd (by have:=M.2.2.1;omega) (by have:=M.2.2.2;omega)) hst h1 u (by omega) (s:=([],[e0])) hI0;have hok:=sD (sh:=bA) (Inv:=fun n (s:List Pt×List Ex)=>x5 s.1∧o8 s.2∧s.1.length=n∧s.2.length=n+1) hst ((aQ dQ J).R.length+1) 0 ([],[e0]) (aQ dQ J) (Ad _) hI0 (h1.need dQ);unfold tU at q;generalize aQ dQ J=z2 at q hok ⊢;generalize lpZ bA (x9 ex deep) (z2.R.length+1) 0 ([],[e0]) z2=W at q hok ⊢;obtain⟨⟨ps,ks⟩,E⟩:=W;dsimp only at q hok ⊢;obtain⟨gB,⟨m,hm60,hp,hk,hpl,hkl⟩,_⟩:=hok

 have hpe:(ps.map bO).length=ps.length:=χ _;have hke:(ks.map bC).length=ks.length:=χ _;have hne:= @aOr bA E;generalize aQ bA E=z3 at q hne ⊢;by_cases A:z3.e=0
 case neg=>
  have hp:=bE.err q A;rw[fD A];have hb:(if ps=[] then z3 else z3)=z3:=by split<;>rfl
  rw[hb,aJ A];exact sk 2 rfl (kp hp)
 have q:=bE.ok q A;refine sk 2 rfl (kc q ?_);refine az ?_;obtain⟨e3,hk6,heB⟩:=hne A;subst e3;have U:=aJt gB hk6;have hLl:=gB.l;have hlt:=gB.lt;have hrow:=bB aI gB.now;unfold rO at U;unfold rO;rw[U];have hLk:(L.map aI).length=L.length:=χ _;by_cases O:ps=[]
 ·have hmn:=bL 12 (b4 E).pl;have d:decide ((0:Int)<((ps.length:Nat):Int))=false:=by subst O;rfl
  rw[θ O];unfold bR;rw[θ A,aJ (show ¬(12:Int)=0 by decide)];refine aA (aC mixed (akN 15 [] rfl ?_));rw[Nat.add_sub_cancel];refine ak 3 [(15,.row (L.length-E.R.length) (aI (b4 E)))] rfl ?_;rw[d];refine kpD (.tup []) [] hmn ?_;exact az trivial
 have hmo:=bK 12 (b4 E).pl;have d:decide ((0:Int)<((ps.length:Nat):Int))=true:=φ (by have:=length_pos_iff.2 O;omega);rw[ξ O,b9 A];unfold rO;rw[U];refine aA (aC mixed (akN 15 [] rfl ?_));rw[Nat.add_sub_cancel];refine ak 3 [(15,.row (L.length-E.R.length) (aI (b4 E)))] rfl ?_;rw[d];refine kc hmo ?_;refine az (AWp.sub (Sub.freeze (id:=520) rfl) ?_);refine AWp.sub (Sub.freeze (id:=521) rfl) ?_;refine sg rfl ?_;unfold bC;rw[kQ (aKl _ _ _)];exact aF (rtC trw (hc:=.agg (.c .refl (.c .refl (.c .refl (.c .refl (.hs rfl hke.symm (Go.AM.take_all hke.symm) (.hs rfl hpe.symm (Go.AM.take_all hpe.symm) (.c .nl (.c .nl (.c .nl (.c .nl (.c .refl (.c .refl (.c .refl (.c .nl (.c .nl .nil)))))))))))))))))
end
theorem tJ {ex:Nat→Z→Ex×Z}{deep:Nat}{a:Int}{f:Nat}{e:Ex}{z:Z}(h:¬z.e=0):eZ ex deep a f e z=(e,z):=by
 cases f with
 | zero=>rfl
 | succ f=>rw[eZ,ξ h]
theorem yJ {a:Int}{e:Ex}{z:Z}(h:¬z.e=0):pZ a (e,z)=(e,z):=by
 unfold pZ;dsimp only;rw[kH h,ξ ω]
section
variable {L:List Tk}{ex:Nat→Z→Ex×Z}{N:Nat}(hO:ExO L ex) (hB:tQ ex) (hS:aNs L ex N) (hZ:nZ L) (hNm:aL6 L) (hwt:wt L≤30000)
include hO hB hS hZ hNm hwt
theorem aT1 (deep:Nat) {z:Z}(h:ZA L z) (he:z.e=0) (hN:z.R.length≤N+1) (hd:deep≤41):bE Tryz.prog 192 [rP,I .i64 (deep:Nat)] [(600,rO L z)] (fU L (.pa (bC (vJ ex deep z).1)) (vJ ex deep z).2 []):=by
 have hn:=dS h;unfold vJ;rw[ξ (fun k=>k he)];refine mB (n:=77) tok Tryz.func192 rfl rfl rfl rfl ?_;refine sg rfl (sk 3 rfl (kc hn ?_));refine kz 2 rfl ?_;by_cases hd40:40<deep
 ·have d:decide (((deep:Nat):Int)≤40)=false:=ψ (by omega);have hmn:=bL 13 (b4 z).pl;rw[θ hd40];unfold bR;rw[θ he,aJ (show ¬(13:Int)=0 by decide)];refine sk 4 rfl ?_;rw[d];exact kp hmn
 have d:decide (((deep:Nat):Int)≤40)=true:=φ (by omega);have hmo:=bK 13 (b4 z).pl;rw[ξ hd40];refine sk 4 rfl ?_;rw[d];refine kc hmo ?_;refine az ?_;have A:=eS h he v8;have B:=eR (s:=v8) h;have E:=h.may v8;have J:= @jX v8 z;have M:=(gV v8 z).trans he;have u:=fun e=>aTu hB hS (b4 z).pl deep E M (by have:=B e;omega) (by omega)
 generalize bP v8 z=m at A B E J M u ⊢;obtain⟨b,z1⟩:=m;dsimp only at A B E J M u ⊢;refine aA (aE (sk 1 rfl (kc A ?_)));refine kz 1 rfl ?_;cases b with
 | true=>
  rw[θ rfl];have u:=u rfl;generalize r2 ex (b4 z).pl deep z1=y at u ⊢;obtain⟨e,z2⟩:=y;dsimp only at u ⊢;refine aB rfl (fun _=>?_) (fun hb=>Bool.noConfusion hb);by_cases O:z2.e=0
  case neg=>
   have hp:=bE.err u O;rw[aJ O];exact sk 4 rfl (kp hp)
  have u:=bE.ok u O;rw[b9 O];refine sk 4 rfl (kc u ?_);exact kz 1 rfl (aF (rtC trw))
 | false=>
 obtain rfl:=J rfl;rw[ξ ω];clear A B E u J M;refine aB rfl (fun hb=>Bool.noConfusion hb) (fun _=>?_);have A:=eS h he v7;have B:=eR (s:=v7) h;have E:=h.may v7;have J:= @jX v7 z1;have M:=(gV v7 z1).trans he;have u:=fun e=>aTr hB hS hZ hwt hO (b4 z1).pl deep E M (by have:=B e;omega) (by omega)
 generalize bP v7 z1=m at A B E J M u ⊢;obtain⟨b,z2⟩:=m;dsimp only at A B E J M u ⊢;refine sk 1 rfl (kc A ?_);refine kz 1 rfl ?_;cases b with
 | true=>
  rw[θ rfl];have u:=u rfl;generalize r1 ex (b4 z1).pl deep z2=y at u ⊢;obtain⟨e,z3⟩:=y;dsimp only at u ⊢;refine aB rfl (fun _=>?_) (fun hb=>Bool.noConfusion hb);by_cases O:z3.e=0
  case neg=>
   have hp:=bE.err u O;rw[aJ O];exact sk 4 rfl (kp hp)
  have u:=bE.ok u O;rw[b9 O];refine sk 4 rfl (kc u ?_);exact kz 1 rfl (aF (rtC trw))
 | false=>
 obtain rfl:=J rfl;rw[ξ ω];clear A B E u J M;refine aB rfl (fun hb=>Bool.noConfusion hb) (fun _=>?_);have A:=eS h he kD;have B:=eR (s:=kD) h;have E:=h.may kD;have J:= @jX kD z2;have M:=(gV kD z2).trans he;have u:=fun e=>aP8 hB hS hNm hO (b4 z2).pl deep E M (by have:=B e;omega) (by omega)
 generalize bP kD z2=m at A B E J M u ⊢;obtain⟨b,z3⟩:=m;dsimp only at A B E J M u ⊢;refine sk 1 rfl (kc A ?_);refine kz 1 rfl ?_;cases b with
 | true=>
  rw[θ rfl];have u:=u rfl;generalize gM ex (b4 z2).pl deep z3=y at u ⊢;obtain⟨e,z4⟩:=y;dsimp only at u ⊢;refine aB rfl (fun _=>?_) (fun hb=>Bool.noConfusion hb);by_cases O:z4.e=0
  case neg=>
   have hp:=bE.err u O;rw[aJ O];exact sk 4 rfl (kp hp)
  have u:=bE.ok u O;rw[b9 O];refine sk 4 rfl (kc u ?_);exact kz 1 rfl (aF (rtC trw))
 | false=>
 obtain rfl:=J rfl;rw[ξ ω];clear A B E u J M;refine aB rfl (fun hb=>Bool.noConfusion hb) (fun _=>aD ?_);have U:=aG6 hO hS deep h he hN (by omega);obtain⟨o1,_,o3,o4⟩:=iR hO deep h;have hlz:=h.lp;generalize hT:b4 z3=t at hn ⊢;unfold fE;rw[hT];generalize gS ex deep z3=y at U o1 o3 o4 ⊢;obtain⟨⟨e0,b0⟩,z4⟩:=y;dsimp only at U o1 o3 o4 ⊢;have o4:z4.R.length≤z3.R.length:=o4;by_cases Y:z4.e=0
 case neg=>
  have hp:=bE.err U Y;rw[fD Y];have hb:(if b0=false then z4 else z4)=z4:=by split<;>rfl
  rw[hb,tJ Y,yJ Y,aJ Y];exact sk 2 rfl (kp hp)
 have U:=bE.ok U Y;refine sk 2 rfl (kc U ?_);refine kz 6 rfl ?_;cases b0 with
 | false=>
  have hmn:=bL 12 t.pl;have h12:¬(12:Int)=0:=by decide
  rw[θ rfl];unfold bR;rw[θ Y,tJ (show ¬(Z.mk z4.R 12 t.pl).e=0 from h12),yJ (show ¬(Z.mk z4.R 12 t.pl).e=0 from h12),aJ (show ¬(Z.mk z4.R 12 t.pl).e=0 from h12)];exact sk 3 rfl (kp hmn)
 | true=>
 have hmo:=bK 12 t.pl;have o3:=o3 rfl Y;rw[ξ (show ¬(true=false) from fun k=>Bool.noConfusion k)];refine sk 3 rfl (kc hmo ?_);refine az ?_;have hWx:∃W,W=eZ ex deep t.pl (z3.R.length+1) e0 z4:=⟨_,rfl⟩
 obtain⟨W,hW⟩:=hWx;rw[←hW];refine aA (aE (aL (fun q:Ex×Z×Nat=>mk [(0,rP),(1,I .i64 (deep:Nat)),(4,.one (.vp 4 0)),(5,.one (.vp 5 0)),(6,.one (.vp 6 0))] [(600,rO L q.2.1),(4,.var 35 (aIu.map .c)),(5,.var 167 ((aI t).map .c)),(6,.var 35 ((bC q.1).map .c))]) (fun q=>ZA L q.2.1∧q.2.1.e=0∧q.2.1.R.length≤z3.R.length∧q.2.1.R.length<q.2.2∧W=eZ ex deep t.pl q.2.2 q.1 q.2.1) (fun q=>q.2.1.R.length+1) (e0,z4,z3.R.length+1) ⟨o1,Y,o4,by dsimp only;omega,hW⟩ sl ?_));clear hW U o1 o3 o4 Y;rintro⟨e,z6,f⟩ ⟨h6,he6,l6,hf,hW⟩;dsimp only at h6 he6 l6 hf hW ⊢;obtain⟨f,rfl⟩:∃g,f=g+1:=⟨f-1,by omega⟩
 rw[eZ,θ he6] at hW;have U:=aG6 hO hS deep h6 he6 (by omega) (by omega);obtain⟨o1,_,o3,o4⟩:=iR hO deep h6;generalize gS ex deep z6=y at U o1 o3 o4 hW;obtain⟨⟨a,b⟩,z7⟩:=y;dsimp only at U o1 o3 o4 hW;have o4:z7.R.length≤z6.R.length:=o4;by_cases he7:z7.e=0
 case neg=>
  have hp:=bE.err U he7;have hw:∃e,W=(e,z7):=by
   rw[tJ he7] at hW;rw[hW];split<;>exact⟨_,rfl⟩
  obtain⟨e,hw⟩:=hw;rw[hw,yJ he7,aJ he7];exact aE (sk 2 rfl (kp hp))
 have U:=bE.ok U he7;refine aE (sk 2 rfl (kc U ?_));refine kz 6 rfl (aA (sg rfl ?_));cases b with
 | false=>
  rw[θ rfl] at hW;refine aB rfl (fun _=>aG ?_) (fun hb=>Bool.noConfusion hb);subst hW;have hm:=eS o1 he7 eP;have g2:=o1.may eP;have he8:=(gV eP z7).trans he7;unfold pZ;dsimp only;generalize bP eP z7=m at hm g2 he8 ⊢;obtain⟨b,z8⟩:=m;dsimp only at hm g2 he8 ⊢;refine aA (sk 1 rfl (kc hm ?_));refine az ?_;cases b with
  | true=>
   rw[θ rfl];have hsc:=kS g2 he8 hZ hwt;generalize bN z8=y at hsc ⊢;obtain⟨s,z9⟩:=y;dsimp only at hsc ⊢;refine aB rfl (fun _=>?_) (fun hb=>Bool.noConfusion hb);by_cases he9:z9.e=0
   case neg=>
    have hp:=bE.err hsc he9;rw[aJ he9];refine skh 5 [(3,.all)] rfl (kpD (.pa (mD iJ)) [(600,rO L z8)] hp ?_);exact kz 2 rfl trivial
   have hsc:=bE.ok hsc he9;rw[b9 he9];refine skh 5 [(3,.all)] rfl (kc hsc ?_);exact kz 2 rfl (aF (rtC trw))
  | false=>
   rw[ξ ω];dsimp only;rw[b9 he8];exact aB rfl (fun hb=>Bool.noConfusion hb) (fun _=>aD (sg rfl (aF (rtC trw))))
 | true=>
  rw[ξ (show ¬(true=false) from fun k=>Bool.noConfusion k)] at hW;have o3:=o3 rfl he7;refine aB rfl (fun hb=>Bool.noConfusion hb) (fun _=>aD (ag [(4,.all)] rfl ⟨(aL1 t.pl e a,z7,f),⟨o1,he7,by dsimp only;omega,by dsimp only;omega,hW⟩,by dsimp only;omega,Sub.trans ?_ (vp 6 (bC (aL1 t.pl e a)))⟩));exact sl
end
theorem aPc {L:List Tk}(hwt:wt L≤30000) (hZ:nZ L) (hNm:aL6 L):∀f,aNs L (aCw f) f
 | 0=>fun deep z h _ hN _=>by have:=h.lp;omega
 | f+1=>fun deep z h he hN g=>aT1 (k8 hwt f) (sP f) (aPc hwt hZ hNm f) hZ hNm hwt deep h he hN g
def aCq (x:In) (bs:List Bd):List (Nat×AObj):=[(1,pR),(5,.var 176 [.c (.str x.cls),.c (.int .i64 x.pl),.c (.str x.con),.c (.sl 1 (x.vars.map aX)),.c (.sl 5 (x.preds.map aR)),.hs 511 0 bs.length bs.length]),(511,bdA bs 0)]
def ibS (ex:Nat→Z→Ex×Z) (s:List Bd) (z:Z):List Bd×Z:=(s++[(dP ex (b5 1 z).1 0 (b5 1 z).2).1],(dP ex (b5 1 z).1 0 (b5 1 z).2).2)
theorem pK (ex:Nat→Z→Ex×Z):∀(f n:Nat) (s:List Bd) (z:Z),fL ex f n s z=lpZ bA (ibS ex) f n s z
 | 0,_,_,_=>rfl
 | f+1,n,s,z=>by
  rw[fL,lpZ];split
  ·exact pK ex f _ _ _
  ·rfl
theorem mR {a:Int}:∀{l:List Prd}{z:Z},¬z.e=0→hD a l z=z
 | [],z,_=>rfl
 | p::l,z,h=>by rw[hD,ξ (fun k=>h k.1)];exact mR h
theorem iH {b:Bool}{z:Z}(h:¬z.e=0):(instV b z).2=z:=by
 unfold instV;split
 ·rw[kG h];exact bH h
 ·rfl
theorem mQ {ex:Nat→Z→Ex×Z}{y:List Prd×Tk×Bool×Tk×Z}{w:List Str×Z}(h:¬w.2.e=0):aQ bA (aFv ex (vA y w)).2=w.2:=by
 unfold vA aFv;rw[ξ h,mR h,bH h,pK,fQ h];exact bH h
theorem aLq {ex:Nat→Z→Ex×Z}(hB:tQ ex) {g:Tk}{deep:Nat}{z:Z}(h:¬z.e=0):(dP ex g deep z).2=z:=by
 unfold dP fH;dsimp only;rw[kG h,dV h,bH h];exact hB _ _ h
def wY:Prop:=∃(L:List Tk) (z z2:Z) (t:Tk) (b:Bd),aV Tryz.prog 150 [rP,tkV t,I .i64 0] [(600,rO L z)] (.pa (b8 b)) [(600,rO L z2)]
theorem aPw (x:In) {step:(List Bd)→Z→(List Bd)×Z}{Inv:Nat→(List Bd)→Prop}{L:List Tk}{N:Nat}
  (hone:∀n s z,Inv n s→n<60→ZA L z→z.e=0→z.R.length≤N→bE Tryz.prog 149 ([]++[R.vp 5 0,R.vp 1 0].map V.one) ((600,rO L z)::aCq x s) (fU L (.tup []) (step s z).2 (aCq x (step s z).1)))
  (hst:∀n s z,Inv n s→n<60→ZA L z→z.e=0→ZA L (step s z).2∧Inv (n+1) (step s z).1∧((step s z).2.e=0→(step s z).2.R.length<z.R.length)∧Ze z (step s z).2)
  {z:Z} (h:ZA L z) (he:z.e=0) (hN:z.R.length≤N) {s:(List Bd)} (hI:Inv 0 s):
  bE Tryz.prog 90 [rP,.one (.clo 189 [R.vp 2 0]),.one (.clo 149 [R.vp 5 0,R.vp 1 0])] ((600,rO L z)::(2,pR)::aCq x s) (fU L (.tup []) (lpZ bA step (z.R.length+1) 0 s z).2 ((2,pR)::aCq x (lpZ bA step (z.R.length+1) 0 s z).1)):=by
 have u:∃W,W=lpZ bA step (z.R.length+1) 0 s z:=⟨_,rfl⟩
 obtain⟨W,u⟩:=u;rw[←u];refine mB (n:=35) tok Tryz.func90 rfl rfl rfl rfl ?_;refine sg rfl (aE (aL (fun q:Nat×(List Bd)×Z×Nat=>mk [(0,rP),(1,.one (.clo 189 [R.vp 2 0])),(2,.one (.clo 149 [R.vp 5 0,R.vp 1 0])),(6,I .i64 (q.1:Nat))] ((600,rO L q.2.2.1)::(2,pR)::aCq x q.2.1)) (fun q=>Inv q.1 q.2.1∧q.1≤60∧ZA L q.2.2.1∧q.2.2.1.e=0∧q.2.2.1.R.length≤N∧q.2.2.1.R.length<q.2.2.2∧moreA bA q.1 q.2.2.1=q.2.2.1∧W=lpZ bA step q.2.2.2 q.1 q.2.1 q.2.2.1) (fun q=>q.2.2.1.R.length) (0,s,z,z.R.length+1) ⟨hI,Ad _,h,he,hN,B5 _,pC _ _,u⟩ sl ?_));clear u h he hN hI;rintro⟨n,s,z,f⟩ ⟨hI,hn,h,he,hN,hf,hA,u⟩;dsimp only at hI hn h he hN hf hA u;refine aE (aA (aE (aL (fun y:Z=>mk [(0,rP),(1,.one (.clo 189 [R.vp 2 0])),(2,.one (.clo 149 [R.vp 5 0,R.vp 1 0])),(6,I .i64 (n:Nat))] ((600,rO L y)::(2,pR)::aCq x s)) (fun y=>ZA L y∧y.e=0∧cL z=cL y∧y.R.length≤z.R.length) (fun y=>y.R.length) z ⟨h,he,rfl,le_refl _⟩ sl ?_)));rintro y ⟨h2,B,e2,hle2⟩

 have hm:=eS h2 B cC;obtain⟨m1,m2,m3⟩:=kP h2;have O:=h2.may cC;have he3:=(gV cC y).trans B;generalize bP cC y=m at hm m1 m2 m3 O he3;obtain⟨b,z3⟩:=m;dsimp only at m1 m2 m3 O he3;refine aA (sk 1 rfl (kc hm ?_));refine az (aB rfl (fun hb=>?_) (fun hb=>?_))
 ·have hb:b=true:=hb;have:=m3 hb;exact aD (aE (aD ⟨z3,⟨O,he3,e2.trans m1.symm,by omega⟩,m3 hb,sl⟩))
 have hb:b=false:=hb;obtain⟨g1,g2⟩:=m2 hb;subst g1;have e3:cL z=z3:=e2.trans g2;clear m1 m2 m3 O e2 hm;have hf0:∃g,f=g+1:=⟨f-1,by omega⟩
 obtain⟨f,rfl⟩:=hf0;rw[lpZ] at u;unfold bI at u;rw[hA,e3] at u;have hs3:=nW h2;have hn3:=dS h2;refine aG (aA (sk 1 rfl (kv (args:=[]) hs3 ?_)));refine az (aB rfl (fun hb=>?_) (fun hb=>?_))
 ·have hb:dH bA z3=true:=hb;rw[θ (show ¬z3.e=0∨dH bA z3=true from .inr hb)] at u;rw[ξ ω] at u;rw[u,b9 B];exact aF rtN
 have hb:dH bA z3=false:=hb;have hnb:¬(¬z3.e=0∨dH bA z3=true):=fun k=>k.elim (fun k=>k B) fun k=>by rw[hb] at k;cases k
 rw[ξ hnb] at u;refine aD ?_;by_cases hn60:n<60
 case neg=>
  have d:decide (((n:Nat):Int)<60)=false:=ψ (by omega);rw[fJ (by omega) B] at u;dsimp only at u;rw[ψ cG,ξ ω] at u;rw[u,aJ cG];have hmn:=bL 2 (b4 z3).pl;refine sk 5 rfl (kc hn3 ?_);refine ak 1 [] rfl ?_;rw[d];exact kp hmn
 have d:decide (((n:Nat):Int)<60)=true:=φ (by omega);rw[fI (by omega),φ B,θ rfl] at u;have hmo:=bK 2 (b4 z3).pl;refine sk 5 rfl (kc hn3 ?_);refine ak 1 [] rfl ?_;rw[d];refine kc hmo ?_;refine az ?_;have ho:=hone n s z3 hI hn60 h2 B (by omega);obtain⟨E,k2,k3,_⟩:=hst n s z3 hI hn60 h2 B;generalize step s z3=y at ho E k2 k3 u;obtain⟨s4,z4⟩:=y;dsimp only at ho E k2 k3 u;by_cases A:z4.e=0
 case neg=>
  have hp:=bE.err ho A;rw[fQ A] at u;rw[u,aJ A];exact sk 1 rfl (kpv (args:=[]) hp)
 have ho:=bE.ok ho A;have k3:=k3 A;refine sk 1 rfl (kv (args:=[]) ho ?_);refine az (aA (agN [] rfl ?_));have hlp:=E.lp;have J:=lC E cC;have hn4:=dS E;have U:=nW E;have hmo4:=bK 12 (b4 z4).pl;cases Y:isZ cC z4 with
 | true=>
  rw[Y] at J;have M:moreA bA (n+1) z4=z4:=ξ fun k=>by rw[Y] at k;cases k.2.2.1
  refine aC mixed (ak 1 [] rfl (kc J ?_));refine ak 7 [(2,.bv true),(5,.bv true)] rfl (kc hn4 ?_);refine ak 1 [(2,.bv true),(5,.bv true)] rfl (kc hmo4 ?_);exact az ⟨(n+1,s4,z4,f),⟨k2,by omega,E,A,by dsimp only;omega,by dsimp only;omega,M,u⟩,by dsimp only;omega,sl⟩
 | false=>
  rw[Y] at J;cases aa:dH bA z4 with
  | true=>
   rw[aa] at U;have M:moreA bA (n+1) z4=z4:=ξ fun k=>by rw[aa] at k;cases k.2.2.2
   refine aC mixed (ak 1 [] rfl (kc J ?_));refine ak 2 [(2,.bv false)] rfl (kvG (args:=[]) U ?_);refine ak 4 [(2,.bv false),(5,.bv false)] rfl (kc hn4 ?_);refine ak 1 [(2,.bv false),(5,.bv false)] rfl (kc hmo4 ?_);exact az ⟨(n+1,s4,z4,f),⟨k2,by omega,E,A,by dsimp only;omega,by dsimp only;omega,M,u⟩,by dsimp only;omega,sl⟩
  | false=>
   rw[aa] at U;have hmn4:=bL 12 (b4 z4).pl;have M:moreA bA (n+1) z4=⟨z4.R,12,(b4 z4).pl⟩:=(θ ⟨succ_pos n,A,Y,aa⟩).trans (θ A);have h12:¬(12:Int)=0:=by decide
   have hWb:W.2=⟨z4.R,12,(b4 z4).pl⟩:=by
    obtain⟨f,rfl⟩:∃g,f=g+1:=⟨f-1,by omega⟩
    rw[lpZ] at u;unfold bI at u;rw[M,kU h12,θ (show ¬(Z.mk z4.R 12 (b4 z4).pl).e=0∨_ from .inl h12),ξ ω] at u;rw[u]
   rw[hWb,aJ h12];refine aC mixed (ak 1 [] rfl (kc J ?_));refine ak 2 [(2,.bv false)] rfl (kvG (args:=[]) U ?_);refine ak 4 [(2,.bv false),(5,.bv false)] rfl (kc hn4 ?_);refine ak 1 [(2,.bv false),(5,.bv false)] rfl (kpD (.tup []) [] hmn4 ?_);exact az trivial
theorem aK7 (x:In) {step:(List Bd)→Z→(List Bd)×Z}{Inv:Nat→(List Bd)→Prop}{L:List Tk}{N:Nat}
  (I:∀n s z,Inv n s→n<60→ZA L z→z.e=0→z.R.length≤N→bE Tryz.prog 149 ([]++[R.vp 5 0,R.vp 1 0].map V.one) ((600,rO L z)::aCq x s) (fU L (.tup []) (step s z).2 (aCq x (step s z).1)))
  (E:∀n s z,Inv n s→n<60→ZA L z→z.e=0→ZA L (step s z).2∧Inv (n+1) (step s z).1∧((step s z).2.e=0→(step s z).2.R.length<z.R.length)∧Ze z (step s z).2)
  {z:Z} (h:ZA L z) (he:z.e=0) (hN:z.R.length≤N) {s:(List Bd)} (J:Inv 0 s):
  bE Tryz.prog 143 [rP,.one (.clo 149 [R.vp 5 0,R.vp 1 0])] ((600,rO L z)::aCq x s) (fU L (.tup []) (tU step s z).2 (aCq x (tU step s z).1)):=by
 have g:=cU h he dQ;have h1:=h.need dQ;have M:=Ze.need dQ z;unfold tU;generalize aQ dQ z=B at g h1 M ⊢;have U:B.R.length≤z.R.length:=M;refine mB (n:=12) tok Tryz.func143 rfl rfl rfl rfl ?_;refine sg rfl ?_;by_cases q:B.e=0
 case neg=>
  have hp:=bE.err g q;rw[fQ q];dsimp only;rw[bH q,aJ q];exact sk 1 rfl (kp hp)
 have g:=bE.ok g q;refine sk 1 rfl (kc g ?_);refine az ?_;have u:=aPw x (step:=step) (Inv:=Inv) (L:=L) (N:=N) I E h1 q (by omega) J;have hok:=(sD (sh:=bA) E (B.R.length+1) 0 s B (Ad _) J h1).1
 generalize lpZ bA step (B.R.length+1) 0 s B=W at u hok ⊢;obtain⟨s2,O⟩:=W;dsimp only at u hok ⊢;by_cases y:O.e=0
 case neg=>
  have hp:=bE.err u y;rw[bH y,aJ y];exact sk 3 rfl (kp hp)
 have u:=bE.ok u y;refine sk 3 rfl (kc u ?_);refine az ?_;have g:=cU hok y bA;generalize aQ bA O=z3 at g ⊢;by_cases A:z3.e=0
 case neg=>
  have hp:=bE.err g A;rw[aJ A];exact aC mixed (ak 1 [] rfl (kp hp))
 have g:=bE.ok g A;rw[b9 A];refine aC mixed (ak 1 [] rfl (kc g ?_));exact az rtN
section
variable {L:List Tk}{ex:Nat→Z→Ex×Z}{N:Nat}(hB:tQ ex) (hS:aNs L ex N) (hX:wY)
include hB hS hX
theorem aP1 (x:In) (g:List Bd) {z:Z}(h:ZA L z) (he:z.e=0) (hN:z.R.length≤N) (h2:g.length≤4001):
  bE Tryz.prog 149 ([]++[R.vp 5 0,R.vp 1 0].map V.one) ((600,rO L z)::aCq x g) (fU L (.tup []) (ibS ex g z).2 (aCq x (ibS ex g z).1)):=by
 have E:(g.map b8).length=g.length:=χ _;have hz0:(g.map b8++[b8 zBd])[g.length]?=some (b8 zBd):=by rw[A9 (by omega),E,Cb];rfl
 have hw:=gN h he 1 (by decide);have J:=h.word (k:=1) (by decide);have O:(b5 1 z).2.R.length≤z.R.length:=Ze.word 1 z;unfold ibS;generalize b5 1 z=w at hw J O ⊢;obtain⟨U,M⟩:=w;dsimp only at hw J O ⊢;refine mB (n:=13) tok Tryz.func149 rfl rfl rfl rfl ?_;by_cases u:M.e=0
 case neg=>
  have hp:=bE.err hw u;obtain⟨L',z',z2',t',b',Y⟩:=hX;rw[aLq hB u,aJ u];refine aC mixed (ak 4 [] rfl (kpD (tkV t') [(600,rO L' z')] hp ?_));refine kc Y ?_;exact ak 7 [(7,.all),(10,.row g.length (b8 zBd))] rfl (az trivial)
 have hw:=bE.ok hw u;have q:=tF hB hS U 0 J u (by omega) (by omega);generalize dP ex U 0 M=y at q ⊢;obtain⟨I,z3⟩:=y;dsimp only at q ⊢;by_cases A:z3.e=0
 case neg=>
  have hp:=bE.err q A;rw[aJ A];refine aC mixed (ak 4 [] rfl (kc hw ?_));refine kpD (.pa (b8 zBd)) [(600,rO L M)] hp ?_;exact ak 7 [(7,.all),(10,.row g.length (b8 zBd))] rfl (az trivial)
 have q:=bE.ok q A;rw[b9 A];have B:(g.map b8++[b8 zBd]).set g.length (b8 I)=(g++[I]).map b8:=by
  rw[set_append_right _ _ (by omega),E,Cb,Ai];rfl
 have hle:(g++[I]).length=g.length+1:=by rw[η];rfl
 refine aC mixed (ak 4 [] rfl (kc hw ?_));refine kc q ?_;refine ak 7 [(7,.all),(10,.row g.length (b8 zBd))] rfl (az ?_);generalize hSe:g++[I]=S at B hle ⊢;exact rtN (ho:=⟨⟨_,rfl,.var rfl⟩,⟨_,rfl,.var rfl⟩,⟨_,rfl,.var (by rw[hle,←E];rfl)⟩,⟨_,rfl,.arrS B⟩,trivial⟩)
theorem aP0 (hO:ExO L ex) (hZ:nZ L) (hwt:wt L≤30000) {z:Z}(h:ZA L z) (he:z.e=0) (hN:z.R.length≤N):bE Tryz.prog 96 [rP] [(600,rO L z)] (fU L (.pa (sS (pJ ex z).1)) (pJ ex z).2 []):=by
 unfold pJ;have hV:∀b y,instV b y=if b=true then((aZ y).1.map (·.text),aQ lX (aZ y).2) else([],y):=fun _ _=>rfl
 have hBy:∀y w,vA y w=aQ dQ (hD y.2.1.pl y.1 (if w.2.e=0 then cI w.1.length 8 y.2.1.pl w.2 else w.2)):=fun _ _=>rfl
 have hA:gW z=((bT z).1,(b5 2 (bT z).2).1,(bP cE (b5 2 (bT z).2).2).1,(b5 2 (bP cE (b5 2 (bT z).2).2).2).1,(b5 2 (bP cE (b5 2 (bT z).2).2).2).2):=rfl;rw[hA];have hp:=wB h he hZ;obtain⟨h1,hpl,l1⟩:=m7 h hwt;generalize bT z=y at hp h1 hpl l1 ⊢;obtain⟨ps,z1⟩:=y;dsimp only at hp h1 hpl l1 ⊢;refine mB (n:=59) tok Tryz.func96 rfl rfl rfl rfl ?_;refine sg rfl ?_;by_cases A:z1.e=0
 case neg=>
  have hp:=bE.err hp A;rw[kT A,kH A];dsimp only;rw[kT A,mQ (by rw[iH A];exact A),iH A,aJ A];exact sk 1 rfl (kp hp)
 have hp:=bE.ok hp A;refine sk 1 rfl (kc hp ?_);refine kz 1 rfl ?_;have hw:=gN h1 A 2 (by decide);have h2:=h1.word (k:=2) (by decide);have l2:=l1.trans (Ze.word 2 z1);generalize b5 2 z1=y at hw h2 l2 ⊢;obtain⟨u,z2⟩:=y;dsimp only at hw h2 l2 ⊢;by_cases B:z2.e=0
 case neg=>
  have hp:=bE.err hw B;rw[kH B];dsimp only;rw[kT B,mQ (by rw[iH B];exact B),iH B,aJ B];exact sk 1 rfl (kp hp)
 have hw:=bE.ok hw B;refine sk 1 rfl (kc hw ?_);refine kz 2 rfl (sg rfl ?_);have hm:=eS h2 B cE;have h3:=h2.may cE;have l3:=l2.trans (Ze.may cE z2);have he3:=(gV cE z2).trans B;generalize bP cE z2=y at hm h3 l3 he3 ⊢;obtain⟨br,z3⟩:=y;dsimp only at hm h3 l3 he3 ⊢;have O:=gN h3 he3 2 (by decide);have h4:=h3.word (k:=2) (by decide);have l4:=l3.trans (Ze.word 2 z3);generalize b5 2 z3=y at O h4 l4 ⊢;obtain⟨cn,z4⟩:=y;dsimp only at O h4 l4 ⊢;by_cases q:z4.e=0
 case neg=>
  have hp:=bE.err O q;rw[mQ (by rw[iH q];exact q),iH q,aJ q];refine aA (sk 1 rfl (kc hm ?_));refine az ?_;cases br with
  | true=>
   exact aB rfl (fun _=>sk 1 rfl (kp hp)) (fun hb=>Bool.noConfusion hb)
  | false=>
   exact aB rfl (fun hb=>Bool.noConfusion hb) (fun _=>aC mixed (ak 1 [] rfl (kp hp)))
 have O:=bE.ok O q;obtain⟨h5,hvl,l5⟩:=aAm br h4;have g:=hV br z4;generalize instV br z4=y at h5 hvl l5 g ⊢;obtain⟨vs,z5⟩:=y;dsimp only at h5 hvl l5 ⊢;by_cases E:z5.e=0
 case neg=>
  rw[mQ E];dsimp only;rw[aJ E];refine aA (sk 1 rfl (kc hm ?_));refine az ?_;cases br with
  | false=>
   rw[ξ ω] at g;obtain⟨rfl,rfl⟩:=Prod.mk.inj g;exact absurd q E
  | true=>
   rw[θ rfl] at g;have U:=mJ h4 q;have g1:=h4.words;have Y:=eT h4;have aa:(aZ z4).2.e=0:=by unfold aZ;rw[θ q];exact q
   generalize aZ z4=y at U g1 Y g aa;obtain⟨l,z45⟩:=y;dsimp only at U g1 Y g aa;have htx:=tA l Y;have hnd:=cU g1 aa lX;obtain⟨rfl,rfl⟩:=Prod.mk.inj g;have hp:=bE.err hnd E;refine aB rfl (fun _=>sk 1 rfl (kc O ?_)) (fun hb=>Bool.noConfusion hb);refine kz 3 rfl (sk 1 rfl (kc U ?_));refine kc htx ?_;exact kz 2 rfl (aC mixed (ak 1 [] rfl (kp hp)))
 have hvk:(vs.map aX).length=vs.length:=χ _;have hpk:(ps.map aR).length=ps.length:=χ _;refine aA (AWp.cut (mk [(1,.one (.vp 1 0)),(2,.one (.vp 2 0)),(3,.one (.c (.sl 5 (ps.map aR)))),(4,.one (.vp 4 0)),(5,.one (.vp 5 0))] [(600,rO L z5),(1,pR),(2,.var 176 (aWx.map .c)),(4,.var 167 ((aI u).map .c)),(5,.var 176 [.c (.str u.text),.c (.int .i64 u.pl),.c (.str cn.text),.c (.sl 1 (vs.map aX)),.c (.sl 5 (ps.map aR)),.c .nl])]) ?_ ?_)
 ·refine sk 1 rfl (kc hm ?_);refine az ?_;cases br with
  | true=>
   rw[θ rfl] at g;have U:=mJ h4 q;have g1:=h4.words;have Y:=eT h4;have aa:(aZ z4).2.e=0:=by unfold aZ;rw[θ q];exact q
   generalize aZ z4=y at U g1 Y g aa;obtain⟨l,z45⟩:=y;dsimp only at U g1 Y g aa;have htx:=tA l Y;have hnd:=cU g1 aa lX;obtain⟨rfl,rfl⟩:=Prod.mk.inj g;have hnd:=bE.ok hnd E;refine aB rfl (fun _=>sk 1 rfl (kc O ?_)) (fun hb=>Bool.noConfusion hb);refine kz 3 rfl (sk 1 rfl (kc U ?_));refine kc htx ?_;refine kz 2 rfl (aC mixed (ak 1 [] rfl (kc hnd ?_)));exact az sl
  | false=>
   rw[ξ ω] at g;obtain⟨rfl,rfl⟩:=Prod.mk.inj g;refine aB rfl (fun hb=>Bool.noConfusion hb) (fun _=>aC mixed (ak 1 [] rfl (kc O ?_)));refine kz 3 rfl (Sub.trans ?_ (vp 5 [.str u.text,.int .i64 u.pl,.str cn.text,.sl 1 [],.sl 5 (ps.map aR),.nl]));exact sl
 have hBz:=hBy (ps,u,br,cn,z4) (vs,z5);dsimp only at hBz;rw[θ E] at hBz;rw[hBz];have hC:∀y,aFv ex y=lpZ bA (ibS ex) (y.R.length+1) 0 [] y:=fun y=>pK ex _ _ _ _
 rw[hC];clear hBz hC hV hBy hA hm hw O hp g;by_cases hv8:vs.length≤8
 case neg=>
  have d:decide (((vs.length:Nat):Int)≤8)=false:=ψ (by omega);have hm:=bL 2 u.pl;rw[fJ hv8 E,mR cG,bH cG,fQ cG];dsimp only;rw[bH cG,aJ cG];refine sk 6 rfl ?_;rw[hvk,d];exact kp hm
 have d:decide (((vs.length:Nat):Int)≤8)=true:=φ (by omega);have hm:=bK 2 u.pl;rw[fI hv8];refine sk 6 rfl ?_;rw[hvk,d];refine kc hm ?_;refine az ?_;have M:∃F,F=hD u.pl ps z5:=⟨_,rfl⟩
 obtain⟨F,M⟩:=M;rw[←M];refine aA (sg rfl (aE (aL (fun i:Nat=>mk [(1,.one (.vp 1 0)),(2,.one (.vp 2 0)),(4,.one (.vp 4 0)),(5,.one (.vp 5 0)),(41,.one (.c (.sl 5 (ps.map aR)))),(42,I .i64 ((ps.map aR).length:Nat)),(43,I .i64 (i:Nat))] [(600,rO L z5),(1,pR),(2,.var 176 (aWx.map .c)),(4,.var 167 ((aI u).map .c)),(5,.var 176 [.c (.str u.text),.c (.int .i64 u.pl),.c (.str cn.text),.c (.sl 1 (vs.map aX)),.c (.sl 5 (ps.map aR)),.c .nl])]) (fun i=>i≤ps.length∧F=hD u.pl (ps.drop i) z5) (fun i=>ps.length-i) 0 ⟨Ad _,M⟩ sl ?_)));clear M;rintro i ⟨hi,M⟩;refine sg rfl (aA (aB rfl (fun hb=>?_) (fun hb=>?_)))
 ·have hlt:=ltD hb hpk;obtain⟨p,hpi⟩:=aM hlt;have hpi':=bB aR hpi;have hds:ps.drop i=p::ps.drop (i+1):=by
   obtain⟨k1,k2⟩:=Af.1 hpi;rw[←k2];exact A7 k1
  rw[hds,hD] at M;refine aD (aA (aE (sgh [(0,.row i (aR p))] rfl ?_)));by_cases hf2:p.ty.form=2
  case neg=>
   have d:decide (p.ty.form=2)=false:=ψ hf2;have hmn:=bL 12 u.pl;have h12:¬(12:Int)=0:=by decide
   rw[θ ⟨E,hf2⟩] at M;unfold bR at M;rw[θ E,mR h12] at M;subst M;rw[bH h12,fQ h12];dsimp only;rw[bH h12,aJ h12];refine aC mixed (ak 6 [] rfl ?_);rw[d];exact kp hmn
  have d:decide (p.ty.form=2)=true:=φ hf2;have hmo:=bK 12 u.pl;rw[ξ (fun k=>k.2 hf2)] at M;refine aC mixed (ak 6 [] rfl ?_);rw[d];refine kc hmo ?_;exact az (agN [] rfl ⟨i+1,⟨hlt,M⟩,by dsimp only;omega,sl⟩)
 have hge:=geD hb hpk hi;subst hge;rw[Ct,hD] at M;subst M;refine aG (AWp.sub (Sub.ownCell (x:=5) (k:=5) (id:=511) 103 33 rfl rfl rfl) ?_);have hst:∀(n:Nat) (s:List Bd) (z:Z),(eY s∧s.length=n)→n<60→ZA L z→z.e=0→ZA L (ibS ex s z).2∧(eY (ibS ex s z).1∧(ibS ex s z).1.length=n+1)∧((ibS ex s z).2.e=0→(ibS ex s z).2.R.length<z.R.length)∧Ze z (ibS ex s z).2:=fun n s z hI hn h he=>by
  have g1:=h.word (k:=1) (by decide);obtain⟨k1,k2,k3,k4⟩:=tH hO (b5 1 z).1 0 g1;have l1:(b5 1 z).2.R.length≤z.R.length:=Ze.word 1 z;unfold ibS;exact⟨k1,⟨mO hI.1 k2,by dsimp only;rw[η,hI.2];rfl⟩,fun h0=>by have:=k3 h0;dsimp only;omega,(Ze.word 1 z).trans k4⟩
 have hI0:eY ([]:List Bd)∧([]:List Bd).length=0:=⟨trivial,rfl⟩
 have l5N:F.R.length≤N:=le_trans (l4.trans l5) hN;have J:=aK7 ⟨u.text,u.pl,cn.text,vs,ps,[]⟩ (step:=ibS ex) (Inv:=fun n s=>eY s∧s.length=n) (L:=L) (N:=N) (fun n s z hI hn h he hN=>aP1 hB hS hX _ s h he hN (by have:=hI.2;omega)) hst h5 E l5N (s:=[]) hI0;have hok:=sD (sh:=bA) (Inv:=fun n (s:List Bd)=>eY s∧s.length=n) hst ((aQ dQ F).R.length+1) 0 [] (aQ dQ F) (Ad _) hI0 (h5.need dQ);unfold tU aCq at J;dsimp only at J;generalize aQ dQ F=z7 at J hok ⊢;generalize lpZ bA (ibS ex) (z7.R.length+1) 0 [] z7=W at J hok ⊢;obtain⟨bs,zB⟩:=W;dsimp only at J hok ⊢;have hbk:(bs.map b8).length=bs.length:=χ _;generalize aQ bA zB=z8 at J ⊢;by_cases he8:z8.e=0
 case neg=>
  have hp:=bE.err J he8;rw[aJ he8];exact sk 2 rfl (kp hp)
 have J:=bE.ok J he8;rw[b9 he8];refine sk 2 rfl (kc J ?_);refine az (AWp.sub (Sub.freeze (id:=511) rfl) ?_);exact sg rfl (aF (rtC trw (hc:=.agg (.c .refl (.c .refl (.c .refl (.c .refl (.c .refl (.hs rfl hbk.symm (Go.AM.take_all hbk.symm) .nil)))))))))
end
def qH (ex:Nat→Z→Ex×Z) (s:Pg×List Sg) (z:Z):(Pg×List Sg)×Z:=jH ex s.1 s.2 z
theorem aFa (ex:Nat→Z→Ex×Z):∀(f n:Nat) (p:Pg) (sigs:List Sg) (z:Z),m6 ex f n p sigs z=lpZ [] (qH ex) f n (p,sigs) z
 | 0,_,_,_,_=>rfl
 | f+1,n,p,sigs,z=>by
  rw[m6,lpZ];split
  ·exact aFa ex f _ _ _ _
  ·rfl
theorem aM8 {L:List Tk}{z:Z}(h:ZA L z):aV Tryz.prog 91 ([]++[R.vp 1 0].map V.one) [(600,rO L z),(1,pR)] (B (dH [] z)) [(600,rO L z),(1,pR)]:=by
 have hn:=dS h;have e:dH [] z=decide ((b4 z).kind=6):=θ rfl;rw[e];refine bF (n:=8) tok Tryz.func91 rfl rfl rfl ?_;refine sg rfl (sk 3 rfl (kc hn ?_));exact kz 3 rfl (aF rtT)
def aQ3 (L:List Tk) (N:Nat):Prop:=∀z,ZA L z→z.e=0→z.R.length≤N→bE Tryz.prog 95 [rP] [(600,rO L z)] (fU L (.pa (qG (iD z).1)) (iD z).2 [])
theorem aPx {step:(Pg×List Sg)→Z→(Pg×List Sg)×Z}{Inv:Nat→(Pg×List Sg)→Prop}{L:List Tk}{N:Nat}
  (hone:∀n s z,Inv n s→n<60→ZA L z→z.e=0→z.R.length≤N→bE Tryz.prog 92 ([]++[R.vp 1 0,R.vp 3 0,R.vp 4 0].map V.one) ((600,rO L z)::(1,pR)::aFy s.1 s.2) (fU L (.tup []) (step s z).2 ((1,pR)::aFy (step s z).1.1 (step s z).1.2)))
  (hst:∀n s z,Inv n s→n<60→ZA L z→z.e=0→ZA L (step s z).2∧Inv (n+1) (step s z).1∧((step s z).2.e=0→(step s z).2.R.length<z.R.length)∧Ze z (step s z).2)
  {z:Z} (h:ZA L z) (he:z.e=0) (hN:z.R.length≤N) {s:(Pg×List Sg)} (hI:Inv 0 s):
  bE Tryz.prog 90 [rP,.one (.clo 91 [R.vp 1 0]),.one (.clo 92 [R.vp 1 0,R.vp 3 0,R.vp 4 0])] ((600,rO L z)::(1,pR)::aFy s.1 s.2) (fU L (.tup []) (lpZ [] step (z.R.length+1) 0 s z).2 ((1,pR)::aFy (lpZ [] step (z.R.length+1) 0 s z).1.1 (lpZ [] step (z.R.length+1) 0 s z).1.2)):=by
 have u:∃W,W=lpZ [] step (z.R.length+1) 0 s z:=⟨_,rfl⟩
 obtain⟨W,u⟩:=u;rw[←u];refine mB (n:=35) tok Tryz.func90 rfl rfl rfl rfl ?_;refine sg rfl (aE (aL (fun q:Nat×(Pg×List Sg)×Z×Nat=>mk [(0,rP),(1,.one (.clo 91 [R.vp 1 0])),(2,.one (.clo 92 [R.vp 1 0,R.vp 3 0,R.vp 4 0])),(6,I .i64 (q.1:Nat))] ((600,rO L q.2.2.1)::(1,pR)::aFy q.2.1.1 q.2.1.2)) (fun q=>Inv q.1 q.2.1∧q.1≤60∧ZA L q.2.2.1∧q.2.2.1.e=0∧q.2.2.1.R.length≤N∧q.2.2.1.R.length<q.2.2.2∧moreA [] q.1 q.2.2.1=q.2.2.1∧W=lpZ [] step q.2.2.2 q.1 q.2.1 q.2.2.1) (fun q=>q.2.2.1.R.length) (0,s,z,z.R.length+1) ⟨hI,Ad _,h,he,hN,B5 _,pC _ _,u⟩ sl ?_));clear u h he hN hI;rintro⟨n,s,z,f⟩ ⟨hI,hn,h,he,hN,hf,hA,u⟩;dsimp only at hI hn h he hN hf hA u;refine aE (aA (aE (aL (fun y:Z=>mk [(0,rP),(1,.one (.clo 91 [R.vp 1 0])),(2,.one (.clo 92 [R.vp 1 0,R.vp 3 0,R.vp 4 0])),(6,I .i64 (n:Nat))] ((600,rO L y)::(1,pR)::aFy s.1 s.2)) (fun y=>ZA L y∧y.e=0∧cL z=cL y∧y.R.length≤z.R.length) (fun y=>y.R.length) z ⟨h,he,rfl,le_refl _⟩ sl ?_)));rintro y ⟨h2,B,e2,hle2⟩

 have hm:=eS h2 B cC;obtain⟨m1,m2,m3⟩:=kP h2;have O:=h2.may cC;have he3:=(gV cC y).trans B;generalize bP cC y=m at hm m1 m2 m3 O he3;obtain⟨b,z3⟩:=m;dsimp only at m1 m2 m3 O he3;refine aA (sk 1 rfl (kc hm ?_));refine az (aB rfl (fun hb=>?_) (fun hb=>?_))
 ·have hb:b=true:=hb;have:=m3 hb;exact aD (aE (aD ⟨z3,⟨O,he3,e2.trans m1.symm,by omega⟩,m3 hb,sl⟩))
 have hb:b=false:=hb;obtain⟨g1,g2⟩:=m2 hb;subst g1;have e3:cL z=z3:=e2.trans g2;clear m1 m2 m3 O e2 hm;have hf0:∃g,f=g+1:=⟨f-1,by omega⟩
 obtain⟨f,rfl⟩:=hf0;rw[lpZ] at u;unfold bI at u;rw[hA,e3] at u;have hs3:=aM8 h2;have hn3:=dS h2;refine aG (aA (sk 1 rfl (kv (args:=[]) hs3 ?_)));refine az (aB rfl (fun hb=>?_) (fun hb=>?_))
 ·have hb:dH [] z3=true:=hb;rw[θ (show ¬z3.e=0∨dH [] z3=true from .inr hb)] at u;rw[ξ ω] at u;rw[u,b9 B];exact aF rtN
 have hb:dH [] z3=false:=hb;have hnb:¬(¬z3.e=0∨dH [] z3=true):=fun k=>k.elim (fun k=>k B) fun k=>by rw[hb] at k;cases k
 rw[ξ hnb] at u;refine aD ?_;by_cases hn60:n<60
 case neg=>
  have d:decide (((n:Nat):Int)<60)=false:=ψ (by omega);rw[fJ (by omega) B] at u;dsimp only at u;rw[ψ cG,ξ ω] at u;rw[u,aJ cG];have hmn:=bL 2 (b4 z3).pl;refine sk 5 rfl (kc hn3 ?_);refine ak 1 [] rfl ?_;rw[d];exact kp hmn
 have d:decide (((n:Nat):Int)<60)=true:=φ (by omega);rw[fI (by omega),φ B,θ rfl] at u;have hmo:=bK 2 (b4 z3).pl;refine sk 5 rfl (kc hn3 ?_);refine ak 1 [] rfl ?_;rw[d];refine kc hmo ?_;refine az ?_;have ho:=hone n s z3 hI hn60 h2 B (by omega);obtain⟨E,k2,k3,_⟩:=hst n s z3 hI hn60 h2 B;generalize step s z3=y at ho E k2 k3 u;obtain⟨s4,z4⟩:=y;dsimp only at ho E k2 k3 u;by_cases A:z4.e=0
 case neg=>
  have hp:=bE.err ho A;rw[fQ A] at u;rw[u,aJ A];exact sk 1 rfl (kpv (args:=[]) hp)
 have ho:=bE.ok ho A;have k3:=k3 A;refine sk 1 rfl (kv (args:=[]) ho ?_);refine az (aA (agN [] rfl ?_));have hlp:=E.lp;have J:=lC E cC;have hn4:=dS E;have U:=aM8 E;have hmo4:=bK 12 (b4 z4).pl;cases Y:isZ cC z4 with
 | true=>
  rw[Y] at J;have M:moreA [] (n+1) z4=z4:=ξ fun k=>by rw[Y] at k;cases k.2.2.1
  refine aC mixed (ak 1 [] rfl (kc J ?_));refine ak 7 [(2,.bv true),(5,.bv true)] rfl (kc hn4 ?_);refine ak 1 [(2,.bv true),(5,.bv true)] rfl (kc hmo4 ?_);exact az ⟨(n+1,s4,z4,f),⟨k2,by omega,E,A,by dsimp only;omega,by dsimp only;omega,M,u⟩,by dsimp only;omega,sl⟩
 | false=>
  rw[Y] at J;cases aa:dH [] z4 with
  | true=>
   rw[aa] at U;have M:moreA [] (n+1) z4=z4:=ξ fun k=>by rw[aa] at k;cases k.2.2.2
   refine aC mixed (ak 1 [] rfl (kc J ?_));refine ak 2 [(2,.bv false)] rfl (kvG (args:=[]) U ?_);refine ak 4 [(2,.bv false),(5,.bv false)] rfl (kc hn4 ?_);refine ak 1 [(2,.bv false),(5,.bv false)] rfl (kc hmo4 ?_);exact az ⟨(n+1,s4,z4,f),⟨k2,by omega,E,A,by dsimp only;omega,by dsimp only;omega,M,u⟩,by dsimp only;omega,sl⟩
  | false=>
   rw[aa] at U;have hmn4:=bL 12 (b4 z4).pl;have M:moreA [] (n+1) z4=⟨z4.R,12,(b4 z4).pl⟩:=(θ ⟨succ_pos n,A,Y,aa⟩).trans (θ A);have h12:¬(12:Int)=0:=by decide
   have hWb:W.2=⟨z4.R,12,(b4 z4).pl⟩:=by
    obtain⟨f,rfl⟩:∃g,f=g+1:=⟨f-1,by omega⟩
    rw[lpZ] at u;unfold bI at u;rw[M,kU h12,θ (show ¬(Z.mk z4.R 12 (b4 z4).pl).e=0∨_ from .inl h12),ξ ω] at u;rw[u]
   rw[hWb,aJ h12];refine aC mixed (ak 1 [] rfl (kc J ?_));refine ak 2 [(2,.bv false)] rfl (kvG (args:=[]) U ?_);refine ak 4 [(2,.bv false),(5,.bv false)] rfl (kc hn4 ?_);refine ak 1 [(2,.bv false),(5,.bv false)] rfl (kpD (.tup []) [] hmn4 ?_);exact az trivial
section
variable {L:List Tk}{ex:Nat→Z→Ex×Z}{N:Nat}(hB:tQ ex) (hS:aNs L ex N) (hX:wY) (hO:ExO L ex) (hZ:nZ L) (hwt:wt L≤30000) (hC:aQ3 L N)
include hB hS hX hO hZ hwt hC
theorem aTk (n:Nat) (p:Pg) (sigs:List Sg) {z:Z}(h:ZA L z) (he:z.e=0) (hN:z.R.length≤N) (hn:n<60) (hp:PgOk n p) (hs:fS sigs∧sigs.length≤n):
  bE Tryz.prog 92 ([]++[R.vp 1 0,R.vp 3 0,R.vp 4 0].map V.one) ((600,rO L z)::(1,pR)::aFy p sigs) (fU L (.tup []) (jH ex p sigs z).2 ((1,pR)::aFy (jH ex p sigs z).1.1 (jH ex p sigs z).1.2)):=by
 obtain⟨Y,aa,ab,J⟩:=hp;have M:(p.datas.map sT).length=p.datas.length:=χ _;have O:(p.classes.map qG).length=p.classes.length:=χ _;have U:(p.insts.map sS).length=p.insts.length:=χ _;refine mB (n:=36) tok Tryz.func92 rfl rfl rfl rfl ?_;unfold jH;have hm:=eS h he nH;have hl:=eR (s:=nH) h;have ha:=h.may nH;have u:= @jX nH z;have hx:=(gV nH z).trans he;have g:=fun(_:(bP nH z).2.R.length≤N)=>aP6 ha hx hZ
 generalize bP nH z=m at hm hl ha u hx g ⊢;obtain⟨b,I⟩:=m;dsimp only at hm hl ha u hx g ⊢;refine aE (sk 1 rfl (kc hm ?_));refine kz 1 rfl ?_;cases b with
 | true=>
  rw[θ rfl];have g:=g (by have:=hl rfl;omega);generalize oA I=y at g ⊢;obtain⟨e,E⟩:=y;dsimp only at g ⊢;refine aB rfl (fun _=>?_) (fun hb=>Bool.noConfusion hb);by_cases q:E.e=0
  case neg=>
   have hp:=bE.err g q;rw[aJ q];refine aC mixed (ak 3 [] rfl (kpD (.pa (sT ⟨[],0,[],[]⟩)) [(600,rO L I)] hp ?_));exact ak 4 [(4,.all)] rfl (az trivial)
  have g:=bE.ok g q;rw[b9 q];have A:p.datas.map sT++[sT e]=(p.datas++[e]).map sT:=by rw[Ai];rfl
  have hle:(p.datas++[e]).length=p.datas.length+1:=by rw[η];rfl
  refine aC mixed (ak 3 [] rfl (kc g ?_));refine ak 4 [(4,.all)] rfl (az ?_);generalize p.datas++[e]=S at A hle ⊢;exact rtN (ho:=⟨⟨_,rfl,.var rfl⟩,⟨_,rfl,.var rfl⟩,⟨_,rfl,.var rfl⟩,⟨_,rfl,.var (by rw[hle,←M];rfl)⟩,⟨_,rfl,Go.AM.Ole.arr⟩,⟨_,rfl,Go.AM.Ole.arr⟩,⟨_,rfl,.arrS A⟩,⟨_,rfl,Go.AM.Ole.arr⟩,⟨_,rfl,Go.AM.Ole.arr⟩,trivial⟩)
 | false=>
 obtain rfl:=u rfl;rw[ξ ω];clear hm hl ha u hx g;refine aB rfl (fun hb=>Bool.noConfusion hb) (fun _=>?_);have hm:=eS h he iE;have hl:=eR (s:=iE) h;have ha:=h.may iE;have u:= @jX iE I;have hx:=(gV iE I).trans he;have g:=fun(k:(bP iE I).2.R.length≤N)=>hC _ ha hx k
 generalize bP iE I=m at hm hl ha u hx g ⊢;obtain⟨b,E⟩:=m;dsimp only at hm hl ha u hx g ⊢;refine sk 1 rfl (kc hm ?_);refine kz 1 rfl ?_;cases b with
 | true=>
  rw[θ rfl];have g:=g (by have:=hl rfl;omega);generalize iD E=y at g ⊢;obtain⟨e,z3⟩:=y;dsimp only at g ⊢;refine aB rfl (fun _=>?_) (fun hb=>Bool.noConfusion hb);by_cases q:z3.e=0
  case neg=>
   have hp:=bE.err g q;rw[aJ q];refine aC mixed (ak 3 [] rfl (kpD (.pa (qG ⟨[],0,[],[],[]⟩)) [(600,rO L E)] hp ?_));exact ak 4 [(4,.all)] rfl (az trivial)
  have g:=bE.ok g q;rw[b9 q];have A:p.classes.map qG++[qG e]=(p.classes++[e]).map qG:=by rw[Ai];rfl
  have hle:(p.classes++[e]).length=p.classes.length+1:=by rw[η];rfl
  refine aC mixed (ak 3 [] rfl (kc g ?_));refine ak 4 [(4,.all)] rfl (az ?_);generalize p.classes++[e]=S at A hle ⊢;exact rtN (ho:=⟨⟨_,rfl,.var rfl⟩,⟨_,rfl,.var rfl⟩,⟨_,rfl,.var rfl⟩,⟨_,rfl,.var (by rw[hle,←O];rfl)⟩,⟨_,rfl,Go.AM.Ole.arr⟩,⟨_,rfl,Go.AM.Ole.arr⟩,⟨_,rfl,Go.AM.Ole.arr⟩,⟨_,rfl,.arrS A⟩,⟨_,rfl,Go.AM.Ole.arr⟩,trivial⟩)
 | false=>
 obtain rfl:=u rfl;rw[ξ ω];clear hm hl ha u hx g;refine aB rfl (fun hb=>Bool.noConfusion hb) (fun _=>?_);have hm:=eS h he nB;have hl:=eR (s:=nB) h;have ha:=h.may nB;have u:= @jX nB E;have hx:=(gV nB E).trans he;have g:=fun(k:(bP nB E).2.R.length≤N)=>aP0 hB hS hX hO hZ hwt ha hx k
 generalize bP nB E=m at hm hl ha u hx g ⊢;obtain⟨b,z3⟩:=m;dsimp only at hm hl ha u hx g ⊢;refine sk 1 rfl (kc hm ?_);refine kz 1 rfl ?_;cases b with
 | true=>
  rw[θ rfl];have g:=g (by have:=hl rfl;omega);generalize pJ ex z3=y at g ⊢;obtain⟨e,z4⟩:=y;dsimp only at g ⊢;refine aB rfl (fun _=>?_) (fun hb=>Bool.noConfusion hb);by_cases q:z4.e=0
  case neg=>
   have hp:=bE.err g q;rw[aJ q];refine aC mixed (ak 3 [] rfl (kpD (.pa (sS ⟨[],0,[],[],[],[]⟩)) [(600,rO L z3)] hp ?_));exact ak 4 [(4,.all)] rfl (az trivial)
  have g:=bE.ok g q;rw[b9 q];have A:p.insts.map sS++[sS e]=(p.insts++[e]).map sS:=by rw[Ai];rfl
  have hle:(p.insts++[e]).length=p.insts.length+1:=by rw[η];rfl
  refine aC mixed (ak 3 [] rfl (kc g ?_));refine ak 4 [(4,.all)] rfl (az ?_);generalize p.insts++[e]=S at A hle ⊢;exact rtN (ho:=⟨⟨_,rfl,.var rfl⟩,⟨_,rfl,.var rfl⟩,⟨_,rfl,.var rfl⟩,⟨_,rfl,.var (by rw[hle,←U];rfl)⟩,⟨_,rfl,Go.AM.Ole.arr⟩,⟨_,rfl,Go.AM.Ole.arr⟩,⟨_,rfl,Go.AM.Ole.arr⟩,⟨_,rfl,Go.AM.Ole.arr⟩,⟨_,rfl,.arrS A⟩,trivial⟩)
 | false=>
 obtain rfl:=u rfl;rw[ξ ω];clear hm hl ha u hx g;refine aB rfl (fun hb=>Bool.noConfusion hb) (fun _=>?_);have B:=aTh hB hS hZ hwt p sigs 0 h he hN (by omega) (by have:=hs.2;omega) (by have:=J.1;omega);generalize aS ex sigs p.binds 0 z3=y at B ⊢;obtain⟨⟨S,Bs⟩,z4⟩:=y;dsimp only at B ⊢;by_cases q:z4.e=0
 case neg=>
  have hp:=bE.err B q;rw[aJ q];exact aC mixed (ak 2 [] rfl (kp hp))
 have B:=bE.ok B q;rw[b9 q];refine aC mixed (ak 2 [] rfl (kc B ?_));exact az rtN
theorem aC5 {z:Z}(h:ZA L z) (he:z.e=0) (hN:z.R.length≤N):bE Tryz.prog 54 [rP] [(600,rO L z)] (fU L (.pa (mF (kK ex z).1)) (kK ex z).2 []):=by
 have M:∀(n:Nat) (s:Pg×List Sg) (z:Z),(PgOk n s.1∧fS s.2∧s.2.length≤n)→n<60→ZA L z→z.e=0→ZA L (qH ex s z).2∧(PgOk (n+1) (qH ex s z).1.1∧fS (qH ex s z).1.2∧(qH ex s z).1.2.length≤n+1)∧((qH ex s z).2.e=0→(qH ex s z).2.R.length<z.R.length)∧Ze z (qH ex s z).2:=fun n s z E hn h he=>by
  obtain⟨a,b,c,d,e⟩:=aA3 hO hwt h E.1 E.2;exact⟨a,⟨b,c⟩,d,e⟩
 have O:PgOk 0 zPg∧fS ([]:List Sg)∧([]:List Sg).length≤0:=⟨⟨⟨le_refl _,fun d B=>(by cases B)⟩,⟨le_refl _,fun d B=>(by cases B)⟩,⟨le_refl _,fun d B=>(by cases B)⟩,⟨le_refl _,trivial⟩⟩,fun d B=>(by cases B),le_refl _⟩
 have q:=aPx (step:=qH ex) (Inv:=fun n s=>PgOk n s.1∧fS s.2∧s.2.length≤n) (L:=L) (N:=N) (fun n s z E hn h he hN=>aTk hB hS hX hO hZ hwt hC n s.1 s.2 h he hN hn E.1 E.2) M h he hN (s:=(zPg,[])) O;have hok:=sD (sh:=[]) (Inv:=fun n (s:Pg×List Sg)=>PgOk n s.1∧fS s.2∧s.2.length≤n) M (z.R.length+1) 0 (zPg,[]) z (Ad _) O h;unfold kK;rw[aFa];unfold zV;generalize lpZ [] (qH ex) (z.R.length+1) 0 (zPg,[]) z=W at q hok ⊢;obtain⟨⟨p,sigs⟩,J⟩:=W;dsimp only at q hok ⊢;obtain⟨g1,⟨m,hm60,hp,hs,hsl⟩,_⟩:=hok;refine mB (n:=15) tok Tryz.func54 rfl rfl rfl rfl ?_;refine sg rfl (sg rfl (sg rfl (AWp.sub (Sub.ownCell (x:=3) (k:=0) (id:=512) 172 5 rfl rfl rfl) ?_)));refine AWp.sub (Sub.ownCell (x:=3) (k:=1) (id:=513) 118 6 rfl rfl rfl) ?_;refine AWp.sub (Sub.ownCell (x:=3) (k:=2) (id:=514) 176 6 rfl rfl rfl) ?_;refine AWp.sub (Sub.ownCell (x:=3) (k:=3) (id:=511) 103 33 rfl rfl rfl) ?_;refine AWp.sub (Sub.ownCell (x:=4) (k:=0) (id:=510) 121 9 rfl rfl rfl) ?_;by_cases u:J.e=0
 case neg=>
  have hp:=bE.err q u;rw[mP u,aJ u];exact sk 3 rfl (kp hp)
 have q:=bE.ok q u;refine sk 3 rfl (kc q ?_);refine az ?_;have hsk:sigs.length≤m:=hsl;have g:=aG5 sigs p.binds u (by omega) (by have:p.binds.length≤m:=hp.b.1;omega);obtain⟨p1,p2,p3,p4⟩:=fT sigs p.binds J g1 hs hp.b.2;have I:= @jV sigs p.binds J;generalize cO sigs p.binds J=y at g p1 p2 p3 p4 I ⊢;obtain⟨Bs,z6⟩:=y;dsimp only at g p1 p2 p3 p4 I ⊢;unfold aRd at g;dsimp only at g;refine AWp.sub (Sub.freeze (id:=510) rfl) ?_;by_cases A:z6.e=0
 case neg=>
  rw[ξ A] at g;have hpx:aBw _ _ _ _ _:=g;rw[aJ A];exact sk 3 rfl (kp hpx)
 rw[θ A] at g;have g:aV _ _ _ _ _ _:=g;obtain rfl:=I A;rw[b9 A];have U:p.datas.length=(p.datas.map sT).length:=(χ _).symm;have Y:p.classes.length=(p.classes.map qG).length:=(χ _).symm;have aa:p.insts.length=(p.insts.map sS).length:=(χ _).symm;have ab:p.binds.length=(Bs.map b8).length:=by rw[χ,p3]
 refine sk 3 rfl (kc g ?_);refine kz 2 rfl (AWp.sub (Sub.freeze (id:=511) rfl) ?_);refine AWp.sub (Sub.freeze (id:=512) rfl) ?_;refine AWp.sub (Sub.freeze (id:=513) rfl) ?_;refine AWp.sub (Sub.freeze (id:=514) rfl) ?_;exact sg rfl (aF (rtC trw (hc:=.agg (.hs rfl U (Go.AM.take_all U) (.hs rfl Y (Go.AM.take_all Y) (.hs rfl aa (Go.AM.take_all aa) (.hs rfl ab (Go.AM.take_all ab) .nil)))))))
end
end Go.Proofs.YtkhgpgihmphfdaaGreat
namespace Go.AM
open Go
def pM (a:Act) (D:List Deferred):Act:=⟨a.tmps,a.defers++D⟩
theorem y9 (a:Act) (D:List Deferred) (d:Option Nat) (v:Value):(pM a D).put d v=pM (a.put d v) D:=by cases d<;>rfl
theorem aAv (a:Act) (D:List Deferred):(pM a D).eval=a.eval:=by funext x;cases x<;>rfl
section
variable {F:Fence}{m:Nat}{P:Program}{o:Oper}{a:Act}{w:World}{K K':Act→World→Prop}{Q Q':Exit→Act→World→Prop}{D:List Deferred}
theorem aIy (g:∀a w,K a w→K' (pM a D) w) (hq:∀e a w,Q e a w→Q' e (pM a D) w) {r:Result Next}(h:o.uponIn F m P a K Q r):o.uponIn F m P (pM a D) K' Q' r:=by
 have hl:LetsOut Q→LetsOut Q':=fun⟨a,w,h⟩=>⟨_,w,hq _ a w h⟩
 have hp:∀d v w,K (a.put d v) w→K' ((pM a D).put d v) w:=fun d v w h=>by rw[y9];exact g _ _ h
 cases r with
 | ok x w'=>
  cases x<;>simp only[Oper.uponIn] at h ⊢<;>
   first
    | exact hp _ _ _ h
    | exact⟨h.1,CallsIn.mono h.2 (fun e q he=>by cases e<;>first | exact hp _ _ _ he | exact hq _ _ _ he | exact hl he)⟩
    | exact⟨h.1,RowsIn.mono h.2 (fun _ _ he=>hp _ _ _ he)⟩
    | exact⟨h.1,RoundIn.mono h.2 (fun e q he=>by cases e<;>first | exact hp _ _ _ he | exact hq _ _ _ he | exact hl he)⟩
    | (have:=g _ _ h;rw[←y9] at this;exact this)
    | exact h
 | halt x w'=>cases x<;>simp only[Oper.uponIn] at h ⊢<;>first | exact hq _ _ _ h | exact h
theorem aIw (g:∀a w,K a w→K' (pM a D) w) (hq:∀e a w,Q e a w→Q' e (pM a D) w) (h:o.wpIn F m P a w K Q):o.wpIn F m P (pM a D) w K' Q':=by
 unfold Oper.wpIn at h ⊢;rw[aAv];exact⟨h.1,aIy g hq h.2⟩
theorem yT {ops:Array Oper}{i:Nat}(g:∀a w,K a w→K' (pM a D) w) (hq:∀e a w,Q e a w→Q' e (pM a D) w) (h:wpOpIn F m P ops Q i K a w):wpOpIn F m P ops Q' i K' (pM a D) w:=by
 unfold wpOpIn at h ⊢;cases ho:ops[i]? with
 | none=>rw[ho] at h;exact g _ _ h
 | some o=>
  rw[ho] at h;dsimp only at h ⊢;rw[show(pM a D).tmps=a.tmps from rfl,aAv];split
  ·rename_i hw;rw[θ hw] at h;exact aIw g hq h
  ·rename_i hw;rw[ξ hw] at h;exact⟨h.1,by rw[y9];exact g _ _ h.2⟩
end
section
variable {P:Program}{n:Nat}{ops:Array Oper}{D:List Deferred}{Q':Exit→Act→World→Prop}
end
theorem aEe {n:Nat}{args:List V}{hin:List (Nat×AObj)}{S:Sto}{μ:Mu}{w:World}{vals:List Value}{k:Nat}(hk:k=n) (hle:Nat.ble args.length n=true) (I:Inv ⟨w,S,i3 μ (look hin),μ,look hin⟩ S μ (look hin) w) (g:aT S μ (look hin) args vals):
  Sim ⟨w,S,i3 μ (look hin),μ,look hin⟩ n S μ (mk (x8 0 args) hin) ⟨(⟨vals⟩:Array Value)++Array.replicate (k-(⟨vals⟩:Array Value).size) undef,[]⟩ w:=by
 have E:=aT.length g;have J:=Am hle;refine⟨I,by simp;omega,rfl,fun t v M=>?_⟩;have key:∀(l:List V) (us:List Value) (k:Nat),aT S μ (look hin) l us→look (x8 k l) t=some v→∃j,t=k+j∧∃u,us[j]?=some u∧aN S μ (look hin) v u:=by
  intro l
  induction l with
  | nil=>intro us k _ h;simp[x8,look] at h
  | cons x l O=>
   intro us k q hl;simp only[aT] at q;obtain⟨u,y,rfl,h1,h2⟩:=q;simp only[x8,look] at hl;split at hl
   ·rename_i A;cases hl;exact⟨0,by rw[δ A];rfl,u,rfl,h1⟩
   ·obtain⟨j,B,U,Y,h5⟩:=O y (k+1) h2 hl;exact⟨j+1,by omega,U,by simpa using Y,h5⟩
 obtain⟨j,h1,u,h2,B⟩:=key args vals 0 g M;rw[Ba] at h1;subst h1;have hj:t<vals.length:=(Af.1 h2).1
 have:((⟨vals⟩:Array Value)++Array.replicate (k-(⟨vals⟩:Array Value).size) undef).getD t undef=u:=by
  rw[Ac,Cc (by simpa using hj)];simp[h2]
 show aN S μ (look hin) v (((⟨vals⟩:Array Value)++Array.replicate (k-(⟨vals⟩:Array Value).size) undef).getD t undef);rw[this];exact B
theorem aF9 {P:Program}{T:TT}{fn:Func}{n:Nat}{S S':Sto}{μ μ':Mu}{w w':World}{hin hout:List (Nat×AObj)}{res:V}{st:St}{a:Act}(M:Tok P T) (hs:Sim ⟨w,S,i3 μ (look hin),μ,look hin⟩ n S' μ' st a w') (O:Fin T fn st hin res hout):
  ∃v,(results fn a.tmps).run P w'=.ok v w'∧Inv ⟨w,S,i3 μ (look hin),μ,look hin⟩ S' μ' (look hout) w'∧aN S' μ' (look hout) res v:=by
 obtain⟨⟨vs,vs',U,hc,E⟩,q,hok⟩:=O;simp only[ε] at hok;obtain⟨⟨⟨⟨⟨Y,k2⟩,k3⟩,k4⟩,k5⟩,k6⟩:=hok;obtain⟨us,h1,h2⟩:=oT M hs U;refine⟨_,h1,?_⟩;have g:=hc.rel hs.inv.obj h2;have y:∀i∈keys hout,Good st.h (look hout) (fun i=>i) i:=by
  intro i hi;obtain⟨o',A⟩:=bZ hi;obtain⟨o,g1,g2⟩:=q.mem _ (b6 A);exact⟨o,o',g1,A,g2⟩
 have I:aN S' μ' st.h res (aD3 us):=by
  rw[←E]
  match vs',us,g with
  | [],us,g=>simp only[aT] at g;subst g;simp[aI0,aD3,aN,aT]
  | [v],us,g=>
   simp only[aT] at g;obtain⟨u,J,rfl,h5,rfl⟩:=g;exact h5
  | v::v'::l,us,g=>
   have B:=g;simp only[aT] at B;obtain⟨u,J,rfl,_,u',us'',rfl,_,_⟩:=B;simp only[aI0,aD3,aN];exact⟨_,rfl,g⟩
 refine⟨hs.inv.keep q k2 fun id o ho=>bM k4 id (mem_map.2 ⟨_,b6 (show look hin id=some o from ho),rfl⟩),?_⟩;have:=aN.ren (H:=st.h) (H':=look hout) (σ:=fun i=>i) res _ (fun i hi=>y i (bM Y i hi)) (by rw[V.ren_id];exact I);exact this
end Go.AM
