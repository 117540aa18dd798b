/-
  Texts Rd45 to Rd56 in one.
-/
import Derived.Test.YtkhgpgihmphfdaaGreatM9
import Derived.Lib.Join
import Derived.Tactics2
import Derived.LoopTactic
open List (append_assoc append_nil cons_append dropWhile_cons drop_eq_getElem_cons drop_eq_nil_of_le drop_zero length_append length_cons length_drop length_map length_nil length_pos_iff length_set length_take map_append map_set mem_cons mem_singleton nil_append set_append_right takeWhile_cons take_add_one take_length)
open Nat (le_refl le_trans lt_irrefl lt_succ_self sub_self succ_pos zero_le)
namespace Go.Proofs.YtkhgpgihmphfdaaGreat
open Go Go.AM
set_option maxRecDepth 20000
set_option maxHeartbeats 4000000
theorem aGc {t:Tk}{R:List Tk}(h:mY R):mY (t::R):=by
 obtain⟨p,e,rfl,he⟩:=h;exact⟨t::p,e,rfl,he⟩
theorem aFj {c:UInt8}{r:Str}{k:Int}{t:Str}{v:Int}(h:gJ (c::r)=.ok (k,t,v)):(k=4→v=0)∧1≤k∧k≤5:=by
 rw[gJ] at h;split at h
 ·split at h
  ·cases h
  ·cases h;exact⟨fun e=>by omega,by decide,by decide⟩
 split at h
 ·unfold mC at h;split at h
  ·cases h
  split at h
  ·cases h;exact⟨fun e=>by omega,by decide,by decide⟩
  split at h
  ·cases h;exact⟨fun e=>by omega,by decide,by decide⟩
  ·cases h;exact⟨fun e=>by omega,by decide,by decide⟩
 split at h
 ·cases h
 ·cases h;exact⟨fun _=>rfl,by decide,by decide⟩
structure LOk (L:List Tk) (n:Nat):Prop where
 e:mY L
 w:wt L≤7*n+6
 l:L.length≤n+1
 z:o7 L
theorem xX:∀(f a:Nat) (s:Str) (l:List Tk),jO f a s=.ok l→LOk l s.length
 | 0,a,s,l,h=>by
  rw[jO] at h;cases h;refine⟨⟨[],_,rfl,rfl⟩,by rw[cB];show 0+6+0≤_;omega,by simp,fun t g=>?_⟩;rw[As.1 g];exact fun _=>rfl
 | f+1,a,[],l,h=>by
  rw[jO] at h;cases h;refine⟨⟨[],_,rfl,rfl⟩,by rw[cB];exact le_refl _,by simp,fun t g=>?_⟩;rw[As.1 g];exact fun _=>rfl
 | f+1,a,c::r,l,h=>by
  rw[jO] at h;split at h
  ·rename_i hb;obtain⟨q,A,B,E⟩:=xX f _ _ l h;rw[Bc] at A B;exact⟨q,by omega,by omega,E⟩
  ·cases ho:gJ (c::r) with
   | error e=>rw[ho] at h;cases h
   | ok y=>
    obtain⟨k,t,v⟩:=y;rw[ho] at h;dsimp only at h;cases I:jO f (a+t.length) ((c::r).drop t.length) with
    | error e=>rw[I,tF] at h;cases h
    | ok J=>
     rw[I,tF] at h;cases h;obtain⟨q,A,B,E⟩:=xX f _ _ J I;obtain⟨O,U⟩:=kQ ho;obtain⟨M,Y,k5⟩:=aFj ho;rw[Bc] at A B;refine⟨aGc q,?_,?_,fun u hu=>?_⟩
     ·rw[cB];show t.length+6+wt J≤_;omega
     ·rw[Aa];omega
     ·rcases Ar.1 hu with rfl | hu
      ·exact M
      ·exact E u hu
theorem aOz {s:Str}{l:List Tk}(h:nE s=.ok l):LOk l s.length∧s.length≤4000:=by
 unfold nE at h;split at h
 ·cases h
 ·exact⟨xX _ _ _ _ h,by omega⟩
theorem sQ:∀(f a:Nat) (s:Str) (e p:Int),jO f a s=.error (e,p)→¬e=0
 | 0,a,s,e,p,h=>by rw[jO] at h;cases h
 | f+1,a,[],e,p,h=>by rw[jO] at h;cases h
 | f+1,a,c::r,e,p,h=>by
  rw[jO] at h;split at h
  ·exact sQ f _ _ e p h
  ·cases ho:gJ (c::r) with
   | error e'=>
    rw[ho] at h;dsimp only at h;cases h;exact sK ho
   | ok y=>
    obtain⟨k,t,v⟩:=y;rw[ho] at h;dsimp only at h;cases g:jO f (a+t.length) ((c::r).drop t.length) with
    | error e'=>obtain⟨e',q⟩:=e';rw[g,tF] at h;cases h;exact sQ f _ _ e p g
    | ok u=>rw[g,tF] at h;cases h
theorem sR {s:Str}{e p:Int}(h:nE s=.error (e,p)):¬e=0:=by
 unfold nE at h;split at h
 ·cases h;decide
 ·exact sQ _ _ _ _ _ h
def vS:Tk:=⟨6,[],0,0⟩
def bP (s:Str):List Tk×Z:=match nE s with
 | .ok l=>(l,⟨l,0,0⟩)
 | .error (e,p)=>([vS],⟨[vS],e,p⟩)
theorem fK (s:Str):ZA (bP s).1 (bP s).2∧wt (bP s).1≤30000∧o7 (bP s).1∧(bP s).1=(bP s).2.R:=by
 unfold bP;cases h:nE s with
 | ok l=>
  obtain⟨⟨h1,h2,u,g⟩,y⟩:=aOz h;refine⟨⟨?_,h1,by dsimp only;omega⟩,by dsimp only;omega,g,rfl⟩;show l.drop (l.length-l.length)=l;rw[B8];rfl
 | error e=>
  obtain⟨e,p⟩:=e;refine⟨⟨rfl,⟨[],vS,rfl,rfl⟩,by show 1≤_;decide⟩,?_,?_,rfl⟩
  ·show wt [vS]≤30000;decide
  ·intro t q;rw[As.1 q];exact fun _=>rfl
theorem aBh (s:Str):aU Tryz.prog 19 [Go.AM.T s] [] xP [(700,zO (bP s).1 (bP s).2)]:=by
 have q:=aUc s;unfold bP;have g:= @sR s;generalize nE s=w at q g ⊢;refine bC (n:=21) tok Tryz.func19 rfl rfl rfl ?_;refine sg rfl (sk 1 rfl (kc q ?_));cases w with
 | ok l=>
  unfold aDx atV;refine kz 6 rfl (aA (sg rfl (aB rfl (fun hb=>Bool.noConfusion hb) (fun _=>aD (sgh [(2,.id 700)] rfl ?_)))));have e:zO l ⟨l,0,0⟩=.var 60 [.c (.sl 4 (l.map aI)),.c (.int .i64 0),.c (.int .i64 0),.c (.int .i64 0)]:=by unfold zO;dsimp only;rw[B8];rfl
  dsimp only;rw[e];exact aF rtT
 | error e=>
  obtain⟨e,p⟩:=e;have he:=g rfl;have d0:(!decide (e=0))=true:=by rw[ψ he];rfl
  unfold aDx atV;exact kz 6 rfl (aA (sg rfl (aB rfl (fun _=>sgh [(1,.all),(4,.id 700)] rfl (aF rtT)) (fun hb=>absurd (hb.symm.trans d0) Bool.noConfusion))))
theorem ZA.endz {L:List Tk}{z:Z}(h:ZA L z):ZA L (iZ z):=by
 unfold iZ;split
 ·exact h.fail _ _
 ·exact h
theorem aM8 {L:List Tk}{z:Z}(h:ZA L z):aU Tryz.prog 21 [xP] [(700,zO L z)] (.tup []) [(700,zO L (iZ z))]:=by
 have ho:=gZ L z;have hn:=fU h;have q:=eL L z 12 (b4 z).pl;unfold iZ;refine bC (n:=15) tok Tryz.func21 rfl rfl rfl ?_;by_cases he:z.e=0
 case neg=>
  rw[ξ (fun k=>he k.1)];rw[ψ he] at ho;refine sk 1 rfl (kc ho ?_);exact ak 6 [(2,.bv false),(7,.bv false)] rfl (az (aB rfl (fun hb=>Bool.noConfusion hb) (fun _=>aD rtN)))
 rw[φ he] at ho;refine sk 1 rfl (kc ho ?_);refine ak 2 [(2,.bv true)] rfl (kcG hn ?_);refine ak 3 [(2,.bv true),(7,.bv true)] rfl (az ?_);by_cases g:(b4 z).kind=6
 ·rw[ξ (fun k=>k.2 g)];have d:(!decide ((b4 z).kind=6))=false:=by rw[φ g];rfl
  exact aB rfl (fun hb=>absurd (hb.symm.trans d) Bool.noConfusion) (fun _=>aD rtN)
 ·rw[θ ⟨he,g⟩];have d:(!decide ((b4 z).kind=6))=true:=by rw[ψ g];rfl
  refine aB rfl (fun _=>aC mixed (ak 2 [] rfl (kc hn ?_))) (fun hb=>absurd (hb.symm.trans d) Bool.noConfusion);refine ak 1 [] rfl (kc q ?_);exact az rtN
def iA (s:Str):Pg×Z:=if(bP s).2.e=0 then kO (aC2 (bP s).2.R.length) (bP s).2 else(zPg,(bP s).2)
def iB (s:Str):Pg×Int×Int:=if(iZ (iA s).2).e=0 then((iA s).1,(iZ (iA s).2).e,(iZ (iA s).2).p) else(zPg,(iZ (iA s).2).e,(iZ (iA s).2).p)
theorem zZ {L:List Tk}{ex:Nat→Z→Ex×Z}(hO:ExO L ex) (hwt:wt L≤30000):∀(f n:Nat) (p:Pg) (sigs:List Sg) (z:Z),ZA L z→PgOk n p→(fX sigs∧sigs.length≤n)→n≤60→ZA L (m9 ex f n p sigs z).2∧PgOk 60 (m9 ex f n p sigs z).1.1∧(fX (m9 ex f n p sigs z).1.2∧(m9 ex f n p sigs z).1.2.length≤60)
 | 0,n,p,sigs,z,h,hp,hs,hn=>by
  rw[m9];exact⟨h,⟨⟨le_trans hp.d.1 hn,hp.d.2⟩,⟨le_trans hp.c.1 hn,hp.c.2⟩,⟨le_trans hp.i.1 hn,hp.i.2⟩,⟨le_trans hp.b.1 hn,hp.b.2⟩⟩,⟨hs.1,le_trans hs.2 hn⟩⟩
 | f+1,n,p,sigs,z,h,hp,hs,hn=>by
  rw[m9];split
  ·rename_i hm;obtain⟨_,g⟩:=fH hm;obtain⟨q,u,y,_,_⟩:=aA6 hO hwt (h.more [] n) hp hs;exact zZ hO hwt f (n+1) _ _ _ q u y g
  ·exact⟨h.more _ _,⟨⟨le_trans hp.d.1 hn,hp.d.2⟩,⟨le_trans hp.c.1 hn,hp.c.2⟩,⟨le_trans hp.i.1 hn,hp.i.2⟩,⟨le_trans hp.b.1 hn,hp.b.2⟩⟩,⟨hs.1,le_trans hs.2 hn⟩⟩
theorem PgOk.z (n:Nat):PgOk n zPg:=⟨⟨Ac _,fun d g=>(by cases g)⟩,⟨Ac _,fun d g=>(by cases g)⟩,⟨Ac _,fun d g=>(by cases g)⟩,⟨Ac _,trivial⟩⟩
theorem xR {L:List Tk}{ex:Nat→Z→Ex×Z}(hO:ExO L ex) (hwt:wt L≤30000) {z:Z}(h:ZA L z):ZA L (kO ex z).2∧PgOk 60 (kO ex z).1:=by
 obtain⟨q,g,u⟩:=zZ hO hwt (z.R.length+1) 0 zPg [] z h (.z 0) ⟨fun s hs=>(by cases hs),le_refl _⟩ (Ac _);obtain⟨y,A,B,_⟩:=fY (m9 ex (z.R.length+1) 0 zPg [] z).1.2 (m9 ex (z.R.length+1) 0 zPg [] z).1.1.binds _ q u.1 g.b.2;exact⟨y,⟨g.d,g.c,g.i,⟨by show(cS _ _ _).1.length≤_;rw[B];exact g.b.1,A⟩⟩⟩
mutual
def exB:Ex→Prop
 | .mk f _ _ _ ks _ bs _=>(f=6∨bs=[])∧aM3 ks∧aBr bs
def aM3:List Ex→Prop
 | []=>True
 | e::l=>exB e∧aM3 l
def bdB:Bd→Prop
 | .mk _ _ _ _ e=>exB e
def aBr:List Bd→Prop
 | []=>True
 | b::l=>bdB b∧aBr l
end
theorem aA1:∀{l:List Ex}{p:Ex},aM3 l→exB p→aM3 (l++[p])
 | [],_,_,h=>⟨h,trivial⟩
 | _::_,_,h,k=>⟨h.1,aA1 h.2 k⟩
theorem aBq:∀{l:List Bd}{p:Bd},aBr l→bdB p→aBr (l++[p])
 | [],_,_,h=>⟨h,trivial⟩
 | _::_,_,h,k=>⟨h.1,aBq h.2 k⟩
theorem aA0:∀{l:List Ex},aM3 l→∀e∈l,exB e
 | a::l,h,e,he=>by
  rcases Ar.1 he with rfl | he
  ·exact h.1
  ·exact aA0 h.2 e he
theorem aBp:∀{l:List Bd},aBr l→∀b∈l,bdB b
 | a::l,h,e,he=>by
  rcases Ar.1 he with rfl | he
  ·exact h.1
  ·exact aBp h.2 e he
theorem aB4:exB zEx:=⟨.inr rfl,trivial,trivial⟩
theorem aAc:∀(l:List Sg) (b:List Bd) (z:Z),aBr b→aBr (cS l b z).1
 | [],b,z,hb=>by rw[cS];exact hb
 | s::l,b,z,hb=>by
  rw[cS];split
  ·split
   ·exact aAc l b _ hb
   ·rename_i k _;split
    ·exact hb
    ·rename_i x hx;split
     ·exact aAc l b _ hb
     ·have q:∀(b:List Bd) (k:Nat) (x:Bd),b[k]?=some x→aBr b→aBr (b.set k (jB x s.ty)):=fun b=>by
       induction b with
       | nil=>intro k x hx;cases hx
       | cons a b u=>
        intro k x hx hb;cases k with
        | zero=>
         injection hx with hx;subst hx;cases a with
         | mk y pl h g e=>exact⟨hb.1,hb.2⟩
        | succ k=>exact⟨hb.1,u k x hx hb.2⟩
      exact aAc l _ z (q b k x hx hb)
  ·exact hb
def ExB (ex:Nat→Z→Ex×Z):Prop:=∀deep z,exB (ex deep z).1
section
variable {ex:Nat→Z→Ex×Z}(hV:ExB ex)
include hV
theorem aSj (deep:Nat) (z:Z):exB (gU ex deep z).1.1:=by
 unfold gU;split
 ·exact aB4
 split
 ·unfold nM;split<;>exact⟨.inr rfl,trivial,trivial⟩
 split
 ·exact aB4
 ·exact hV _ _
theorem aNl (deep:Nat) (a:Int):∀(f:Nat) (e:Ex) (z:Z),exB e→exB (fB ex deep a f e z).1
 | 0,e,z,he=>he
 | f+1,e,z,he=>by
  rw[fB];split
  ·split
   ·exact he
   ·exact aNl deep a f _ _ ⟨.inr rfl,⟨he,aSj hV deep z,trivial⟩,trivial⟩
  ·exact he
theorem aV4 (a:Int) (deep:Nat) (z:Z):exB (rB ex a deep z).1:=⟨.inr rfl,⟨hV _ _,trivial⟩,trivial⟩
theorem aUg (g:Tk) (deep:Nat) (z:Z):bdB (dR ex g deep z).1:=by
 show exB (wK (fJ g z).1 (ex deep (fJ g z).2).1);unfold wK;split
 ·exact hV _ _
 ·exact⟨.inr rfl,⟨hV _ _,trivial⟩,trivial⟩
theorem aKj (sigs:List Sg) (binds:List Bd) (deep:Nat) (z:Z) (hb:aBr binds):aBr (aT ex sigs binds deep z).1.2:=by
 unfold aT;split
 ·exact hb
 ·exact aBq hb (aUg hV _ _ _)
theorem aMx (deep:Nat):∀(f n:Nat) (sigs:List Sg) (binds:List Bd) (z:Z),aBr binds→aBr (eP ex deep f n sigs binds z).1.2
 | 0,n,sigs,binds,z,hb=>hb
 | f+1,n,sigs,binds,z,hb=>by
  rw[eP];split
  ·exact aMx deep f (n+1) _ _ _ (aKj hV sigs binds deep _ hb)
  ·exact hb
theorem aV2 (a:Int) (deep:Nat) (z:Z):exB (rA ex a deep z).1:=by
 have h1:exB (ex (deep+1) (aQ inS (aCu (lC ex deep z)).2)).1:=hV _ _;have h2:aBr (lC ex deep z).1.2:=aMx hV (deep+1) _ 0 [] [] _ trivial;exact⟨.inl rfl,⟨h1,trivial⟩,aAc _ _ _ h2⟩
theorem aNo (deep:Nat):∀(f n:Nat) (ps:List Pt) (ks:List Ex) (z:Z),aM3 ks→aM3 (eO ex deep f n ps ks z).1.2
 | 0,n,ps,ks,z,g=>g
 | f+1,n,ps,ks,z,g=>by
  rw[eO];split
  ·exact aNo deep f (n+1) _ _ _ (aA1 g (hV _ _))
  ·exact g
theorem aTd (a:Int) (deep:Nat) (z:Z):exB (gQ ex a deep z).1:=by
 have h1:exB (cT ex deep z).1:=hV _ _;have h2:aM3 (fQ ex deep (cT ex deep z)).1.2:=aNo hV deep _ 0 [] [(cT ex deep z).1] _ ⟨h1,trivial⟩;exact⟨.inr rfl,h2,trivial⟩
theorem aOm (deep:Nat) (z:Z):exB (fG ex deep z).1:=by
 unfold fG;exact aNl hV deep _ _ _ _ (aSj hV deep z)
omit hV in
theorem aWo (a:Int) (y:Ex×Z) (he:exB y.1):exB (qG a y).1:=by
 unfold qG;split
 ·exact⟨.inr rfl,⟨he,trivial⟩,trivial⟩
 ·exact he
theorem aS5:ExB (vR ex):=fun deep z=>by
 unfold vR;split
 ·exact aB4
 split
 ·exact aB4
 split
 ·exact aV4 hV _ deep _
 split
 ·exact aV2 hV _ deep _
 split
 ·exact aTd hV _ deep _
 exact aWo _ _ (aOm hV deep z)
end
theorem aM1:∀f,ExB (aC2 f)
 | 0=>fun _ _=>aB4
 | f+1=>aS5 (aM1 f)
mutual
def vaR:Pt→List Str
 | .mk f _ _ s l=>(if f=2 then [s] else [])++hY l
def hY:List Pt→List Str
 | []=>[]
 | p::l=>vaR p++hY l
end
theorem rV:∀(l:List Pt) (p:Pt),hY (l++[p])=hY l++vaR p
 | [],p=>by rw[A9,hY,hY,hY,Az,A9]
 | a::l,p=>by rw[A1,hY,hY,rV l p,Am]
def bnR (bs:List Bd):List Str:=bs.map Bd.name
def gvR (f:Int) (ps:List Pt) (nb:List Str) (i:Nat):List Str:=
 if f=6 then nb else if f=7∧0<i then((ps[i-1]?).map vaR).getD [] else if f=5 then ps.map Pt.name else []
mutual
def tdE:Ex→List Str→List Ex
 | .mk f pl n s ks ps bs g,inn=>(if f=1∧¬s∈inn then [.mk f pl n s ks ps bs g] else [])++tdB bs (inn++bnR bs)++tdK f ps (bnR bs) 0 ks inn
def tdB:List Bd→List Str→List Ex
 | [],_=>[]
 | .mk _ _ _ _ e::l,inn=>tdE e inn++tdB l inn
def tdK (f:Int) (ps:List Pt) (nb:List Str):Nat→List Ex→List Str→List Ex
 | _,[],_=>[]
 | i,k::l,inn=>tdE k (inn++gvR f ps nb i)++tdK f ps nb (i+1) l inn
end
theorem rY:∀(l:List Bd) (b:Bd) (g:List Str),tdB (l++[b]) g=tdB l g++tdE b.body g
 | [],.mk _ _ _ _ e,g=>by rw[A9,tdB,tdB,tdB,Az,A9];rfl
 | .mk _ _ _ _ e::l,b,g=>by rw[A1,tdB,tdB,rY l b g,Am]
theorem rX (f:Int) (ps:List Pt) (q:List Str):∀(l:List Ex) (k:Ex) (i:Nat) (g:List Str),tdK f ps q i (l++[k]) g=tdK f ps q i l g++tdE k (g++gvR f ps q (i+l.length))
 | [],k,i,g=>by rw[A9,tdK,tdK,tdK,Az,A9];rfl
 | a::l,k,i,g=>by
  rw[A1,tdK,tdK,rX f ps q l k (i+1) g,Am,Aa,show i+1+l.length=i+(l.length+1) by omega]
def ddS (out:List Str) (s:Str):List Str:=if s∈out then out else out++[s]
def frR (e:Ex):List Str:=((tdE e []).map Ex.name).foldl ddS []
theorem aGk (x:Str):∀(l out:List Str),x∈l.foldl ddS out↔x∈out∨x∈l
 | [],out=>by simp
 | a::l,out=>by
  rw[List.foldl_cons,aGk x l];have:x∈ddS out a↔x∈out∨x=a:=by
   unfold ddS;split
   ·rename_i h;exact⟨.inl,fun k=>k.elim id fun k=>by rw[k];exact h⟩
   ·simp
  rw[this,Ar];constructor
  ·rintro((h | h) | h)
   ·exact .inl h
   ·exact .inr (.inl h)
   ·exact .inr (.inr h)
  ·rintro(h | h | h)
   ·exact .inl (.inl h)
   ·exact .inl (.inr h)
   ·exact .inr h
inductive PT:Ty→Prop where
 | leaf (f:Int) (s:Str) (h:f=0∨f=2∨f=3):PT (.mk f 0 s [])
 | app {a b:Ty} (ha:PT a) (hb:PT b):PT (qI a b)
mutual
def tyW:Ty→Nat
 | .mk _ _ s a=>s.length+8+aMe a
def aMe:List Ty→Nat
 | []=>0
 | t::l=>tyW t+aMe l
end
theorem xH (a b:Ty):tyW (qI a b)=8+(tyW a+tyW b):=by unfold qI;rw[tyW,aMe,aMe,aMe];simp
def aWy (p:Prd):Nat:=p.cls.length+8+tyW p.ty
def jK (l:List Prd):Nat:=(l.map aWy).sum
def aDu (s:Sch):Nat:=jK s.preds+8+tyW s.ty
structure SchP (s:Sch):Prop where
 t:PT s.ty
 p:∀p∈s.preds,PT p.ty
 l:s.preds.length≤100000
end Go.Proofs.YtkhgpgihmphfdaaGreat
namespace Go.Proofs.YtkhgpgihmphfdaaGreat
open Go
section
set_option maxRecDepth 100000
set_option maxHeartbeats 4000000
def rN (e p:Int):Value:=.iface 161 (.agg #[.int .i64 e,.int .i64 p])
theorem uR (e p:Int) (w:World):Calls Tryz.prog 134 #[.int .i64 e,.int .i64 p] w fun g w'=>g=.panicked [{ v:=rN e p,recovered:=false }]∧w=w':=by
 go_enter Tryz.func134,Tryz.ntmps134
 go_wp2
 all_goals exact⟨rfl,⟨rfl,rfl⟩⟩
end
open Go.AM
theorem aKu (e p:Int):aB2 Tryz.prog 134 [I .i64 e,I .i64 p] [] (rN e p):=by
 intro S μ w vals u q;have g:vals=[.int .i64 e,.int .i64 p]:=by
  simp only[aV] at q;obtain⟨v,vs,rfl,h1,v2,y,rfl,h2,rfl⟩:=q;simp only[aN,aX,Rep] at h1 h2;subst h1 h2;rfl
 subst g;refine(uR e p w).mono fun A w' ⟨h1,h2⟩=>?_
 subst h2;exact⟨S,μ,[],h1,fun id o ho=>(by cases ho),u⟩
theorem bL (e p:Int):aU Tryz.prog 88 [B true,I .i64 e,I .i64 p] [] (.tup []) []:=by
 refine bC (n:=11) tok Tryz.func88 rfl rfl rfl ?_;exact sg rfl (aB rfl (fun hb=>Bool.noConfusion hb) (fun _=>aD rtN))
theorem bM (e p:Int):aB2 Tryz.prog 88 [B false,I .i64 e,I .i64 p] [] (rN e p):=by
 have g:=aKu e p;refine aPa (n:=11) Tryz.func88 rfl rfl rfl rfl ?_;exact sg rfl (aB rfl (fun _=>aC mixed (ak 2 [] rfl (kp g))) (fun hb=>Bool.noConfusion hb))
def rP:V:=.one (.vp 600 0)
def rO (L:List Tk) (z:Z):AObj:=.var 166 [.c (.sl 4 (L.map aI)),.c (.int .i64 ((L.length-z.R.length:Nat):Int))]
def fZ (L:List Tk) (res:V) (z:Z) (hs:List (Nat×AObj)):Except Value (V×List (Nat×AObj)):=if z.e=0 then .ok (res,(600,rO L z)::hs) else .error (rN z.e z.p)
theorem bA {L:List Tk}{res:V}{z:Z}{hs:List (Nat×AObj)}(h:z.e=0):fZ L res z hs=.ok (res,(600,rO L z)::hs):=θ h
theorem aJ {L:List Tk}{res:V}{z:Z}{hs:List (Nat×AObj)}(h:¬z.e=0):fZ L res z hs=.error (rN z.e z.p):=ξ h
theorem bF.ok {P:Program}{f:FuncId}{args:List V}{hin:List (Nat×AObj)}{L:List Tk}{res:V}{z:Z}{hs:List (Nat×AObj)}(h:bF P f args hin (fZ L res z hs)) (he:z.e=0):aU P f args hin res ((600,rO L z)::hs):=by rw[bA he] at h;exact h
theorem bF.err {P:Program}{f:FuncId}{args:List V}{hin:List (Nat×AObj)}{L:List Tk}{res:V}{z:Z}{hs:List (Nat×AObj)}(h:bF P f args hin (fZ L res z hs)) (he:¬z.e=0):aB2 P f args hin (rN z.e z.p):=by rw[aJ he] at h;exact h
theorem dU {L:List Tk}{z:Z}(h:ZA L z):aU Tryz.prog 89 [rP] [(600,rO L z)] (tkV (b4 z)) [(600,rO L z)]:=by
 have hl:=b9 aI h.now;have g:(L.map aI).length=L.length:=κ _;have q:=h.lt;have u:=h.l;refine bC (n:=13) tok Tryz.func89 rfl rfl rfl ?_;exact sg rfl (sgh [(8,.row (L.length-z.R.length) (aI (b4 z)))] rfl (aF (rtC trw)))
theorem lG {L:List Tk}{z:Z}(h:ZA L z) (s:Str):aU Tryz.prog 135 [rP,Go.AM.T s] [(600,rO L z)] (B (isZ s z)) [(600,rO L z)]:=by
 have hn:=dU h;unfold isZ;generalize b4 z=t at hn ⊢;unfold isK;refine bC (n:=24) tok Tryz.func135 rfl rfl rfl ?_;refine sg rfl (sk 3 rfl (kc hn ?_));refine kz 2 rfl ?_;by_cases g:t.kind=4
 ·have d4:decide (t.kind=4)=true:=φ g;rw[d4,Bool.true_or,Cq];exact sgh [(3,.bv true),(7,.bv true),(8,.bv true),(13,.bv true)] rfl (aF rtT)
 have d4:decide (t.kind=4)=false:=ψ g;rw[d4,B0];by_cases q:t.kind=5
 ·have d5:decide (t.kind=5)=true:=φ q;rw[d5,Cq];exact sgh [(3,.bv false),(7,.bv false),(8,.bv true),(13,.bv true)] rfl (aF rtT)
 ·have d5:decide (t.kind=5)=false:=ψ q;rw[d5,Co];exact sgh [(3,.bv false),(7,.bv false),(8,.bv false),(13,.bv false)] rfl (aF rtT)
theorem eT {L:List Tk}{z:Z}(h:ZA L z) (he:z.e=0) (s:Str):aU Tryz.prog 93 [rP,Go.AM.T s] [(600,rO L z)] (B (bQ s z).1) [(600,rO L (bQ s z).2)]:=by
 have hi:=lG h s;have g:= @iX s (b4 z);have y:=h.l;refine bC (n:=20) tok Tryz.func93 rfl rfl rfl ?_;refine sg rfl (sk 2 rfl (kc hi ?_));refine kz 1 rfl (aA (sg rfl ?_));unfold bQ;cases u:isZ s z with
 | false=>
  rw[ξ (fun h=>by cases h.2)];exact aB rfl (fun hb=>Bool.noConfusion hb) (fun _=>aD (sg rfl (aF rtT)))
 | true=>
  rw[θ ⟨he,rfl⟩];have q:isK s (b4 z)=true:=u;obtain⟨_,hn⟩:=h.tl (g q) z.e z.p;unfold rO;dsimp only;rw[hn];exact aB rfl (fun _=>agN [] rfl (sg rfl (aF rtT))) (fun hb=>Bool.noConfusion hb)
theorem cY {L:List Tk}{z:Z}(h:ZA L z) (he:z.e=0) (s:Str):bF Tryz.prog 139 [rP,Go.AM.T s] [(600,rO L z)] (fZ L (.tup []) (aQ s z) []):=by
 have hm:=eT h he s;have q:= @kB s z;have h1:=h.may s;have u:=gX s z;have hn:=dU h1;have y:aQ s z=if(bQ s z).1=true then(bQ s z).2 else bS 12 (b4 z).pl z:=rfl
 rw[y];generalize bQ s z=m at hm q h1 hn u ⊢;obtain⟨b,g⟩:=m;dsimp only at hm q h1 hn u ⊢;cases b with
 | true=>
  have A:=bL 12 (b4 g).pl;rw[θ rfl,bA (u.trans he)];refine bC (n:=13) tok Tryz.func139 rfl rfl rfl ?_;refine aC mixed (ak 2 [] rfl (kc hm ?_));refine ak 3 [] rfl (kc hn ?_);refine ak 1 [] rfl (kc A ?_);exact az rtN
 | false=>
  obtain rfl:=q rfl;have B:=bM 12 (b4 g).pl;have E:bS 12 (b4 g).pl g=⟨g.R,12,(b4 g).pl⟩:=θ he;rw[ξ ω,E,aJ (show ¬(12:Int)=0 by decide)];refine aPa (n:=13) Tryz.func139 rfl rfl rfl rfl ?_;refine aC mixed (ak 2 [] rfl (kc hm ?_));refine ak 3 [] rfl (kc hn ?_);refine ak 1 [] rfl (kpD (.tup []) [] B ?_);exact az trivial
end Go.Proofs.YtkhgpgihmphfdaaGreat
namespace Go.Proofs.YtkhgpgihmphfdaaGreat
open Go Go.AM
set_option maxRecDepth 20000
set_option maxHeartbeats 4000000
theorem gR {L:List Tk}{z:Z}(h:ZA L z) (he:z.e=0) (k:Int) (A:¬k=6):bF Tryz.prog 136 [rP,I .i64 k] [(600,rO L z)] (fZ L (tkV (b5 k z).1) (b5 k z).2 []):=by
 have hn:=dU h;have q:=h.tl;have B:=h.l;unfold b5;by_cases g:(b4 z).kind=k
 ·have d:decide ((b4 z).kind=k)=true:=φ g;have hm:=bL 12 (b4 z).pl;rw[θ ⟨he,g⟩];dsimp only;rw[bA (show(Z.mk z.R.tail z.e z.p).e=0 from he)];obtain⟨_,u⟩:=q (by rw[g];exact A) z.e z.p;unfold rO;dsimp only;rw[u];refine bC (n:=27) tok Tryz.func136 rfl rfl rfl ?_;refine sg rfl (sk 3 rfl (kc hn ?_));refine kz 2 rfl (sk 6 rfl ?_);rw[d];refine kc hm ?_;exact az (aA (agN [] rfl (sg rfl (aF (rtC trw)))))
 ·have d:decide ((b4 z).kind=k)=false:=ψ g;have hm:=bM 12 (b4 z).pl;have y:bS 12 (b4 z).pl z=⟨z.R,12,(b4 z).pl⟩:=θ he;rw[ξ (fun h=>g h.2),y];dsimp only;rw[aJ (show ¬(12:Int)=0 by decide)];refine aPa (n:=27) Tryz.func136 rfl rfl rfl rfl ?_;refine sg rfl (sk 3 rfl (kc hn ?_));refine kz 2 rfl (sk 6 rfl ?_);rw[d];exact kp hm
theorem mM {L:List Tk}{z:Z}(h:ZA L z) (he:z.e=0):aU Tryz.prog 137 [rP] [(600,rO L z)] (.one (.c (.sl 4 ((aZ z).1.map aI)))) [(600,rO L (aZ z).2)]:=by
 refine bC (n:=16) tok Tryz.func137 rfl rfl rfl ?_;refine sg rfl (sg rfl (AWp.sub (Sub.own (t:=3) (id:=500) 167 4 rfl rfl) ?_));refine aA (aE (aL (fun q:List Tk×Z=>mk [(0,rP),(3,.one (.hs 500 0 q.1.length q.1.length))] [(600,rO L q.2),(500,.arr 167 4 (q.1.map aI) 0)]) (fun q=>ZA L q.2∧q.2.e=0∧q.1.length+q.2.R.length≤4001∧q.1++(aZ q.2).1=(aZ z).1∧(aZ q.2).2=(aZ z).2) (fun q=>q.2.R.length) ([],z) ⟨h,he,by dsimp only;have:=h.len;rw[length_nil];omega,rfl,rfl⟩ sl ?_));clear he;rintro⟨out,O⟩ ⟨g,he,hlen,E,I⟩;dsimp only at g he hlen E I ⊢;rw[←E,←I];clear E I;have hout:(out.map aI).length=out.length:=κ _;have hn:=dU g;have hw:=gR g he 1 (by decide);obtain⟨R,e,p⟩:=O;obtain⟨t,R,rfl⟩:=g.e.ne;have he:e=0:=he;have B:b4 (Z.mk (t::R) e p)=t:=rfl;rw[B] at hn;refine aA (sk 3 rfl (kc hn ?_));refine kz 2 rfl (aB rfl (fun hb=>?_) (fun hb=>?_))
 ·have u:t.kind=1:=χ hb;have hl:qN t=true:=hb;have U:b5 1 (Z.mk (t::R) e p)=(t,⟨R,e,p⟩):=by unfold b5;rw[θ ⟨he,u⟩];rfl
  rw[U] at hw;have hw:=bF.ok (z:=⟨R,e,p⟩) hw he;have h2:ZA L ⟨R,e,p⟩:=(g.tl (by rw[B,u];decide) e p).1
  have J:aZ ⟨t::R,e,p⟩=(t::(aZ ⟨R,e,p⟩).1,(aZ ⟨R,e,p⟩).2):=by
   unfold aZ;rw[θ he,θ he];show((t::R).takeWhile qN,Z.mk ((t::R).dropWhile qN) _ _)=_;rw[takeWhile_cons,θ hl,B4,θ hl]
  have M:out.length+(R.length+1)≤4001:=hlen;refine aD (aE (aC mixed (ak 2 [] rfl (kc hw ?_))));refine ak 3 [(3,.all)] rfl (az ?_);have A:out.map aI++[aI t]=(out++[t]).map aI:=by rw[Ai];rfl
  have y:(out++[t]).length=out.length+1:=by rw[ζ];rfl
  refine⟨(out++[t],⟨R,e,p⟩),⟨h2,he,by dsimp only;rw[y];omega,by rw[J];simp,by rw[J]⟩,B2 _,?_⟩;exact sl (he:=⟨rfl,Go.AM.hs_ren (by rw[y,←hout];rfl) (by rw[y,←hout];rfl),trivial⟩) (hh:=⟨⟨_,rfl,.var rfl⟩,⟨_,rfl,.arrS A⟩,trivial⟩)
 ·have u:¬qN t=true:=fun h=>by rw[show qN t=false from hb] at h;cases h
  refine aG (AWp.sub (Sub.freeze (id:=500) rfl) ?_);refine sg rfl ?_;unfold aZ;rw[θ he];dsimp only;rw[takeWhile_cons,ξ u,Az,B4,ξ u];exact aF (rtH (hsz:=hout.symm) (hlen:=hout.symm))
theorem tI (l:List Tk) (hl:l.length≤4001):aU Tryz.prog 138 [.one (.c (.sl 4 (l.map aI)))] [] (bI (l.map (·.text))) []:=by
 have q:(l.map aI).length=l.length:=κ _;refine bC (n:=19) tok Tryz.func138 rfl rfl rfl ?_;refine sg rfl (sg rfl (AWp.sub (Sub.own (t:=3) (id:=500) 9 1 rfl rfl) ?_));refine aA (sg rfl (aE (aL (fun i:Nat=>mk [(3,.one (.hs 500 0 i i)),(6,.one (.c (.sl 4 (l.map aI)))),(7,I .i64 ((l.map aI).length:Nat)),(8,I .i64 (i:Nat))] [(500,.arr 9 1 (((l.take i).map (·.text)).map aR) 0)]) (fun i=>i≤l.length) (fun i=>l.length-i) 0 (Ac _) sl ?_)));intro i hi;have g:(((l.take i).map (·.text)).map aR).length=i:=by rw[κ,κ,Aj];omega
 refine sg rfl (aA (aB rfl (fun hb=>?_) (fun hb=>?_)))
 ·have u:=ltD hb q;obtain⟨t,y⟩:=aM u;have E:=b9 aI y;have A:((l.take (i+1)).map (·.text)).map aR=((l.take i).map (·.text)).map aR++[[.str t.text]]:=by rw[Be,y,Ai,Ai];rfl
  exact aD (aA (aE (sgh [(0,.row i (aI t))] rfl (ag [(3,.all)] rfl (agN [] rfl ⟨i+1,u,by dsimp only;omega,sl (he:=⟨Go.AM.hs_ren (congrArg (· +1) g) (congrArg (· +1) g),rfl,rfl,rfl,trivial⟩) (hh:=⟨⟨_,rfl,.arrS A.symm⟩,trivial⟩)⟩)))))
 ·have B:=geD hb q hi;subst B;rw[Ao] at g ⊢;refine aG (AWp.sub (Sub.freeze (id:=500) rfl) ?_);exact sg rfl (aF (rtH (hsz:=g.symm) (hlen:=g.symm)))
theorem aLf {L:List Tk}{z:Z}(h:ZA L z) (he:z.e=0) (hZ:o7 L):bF Tryz.prog 141 [rP] [(600,rO L z)] (fZ L (tyV (gT z).1) (gT z).2 []):=by
 have g:=aLe L hZ z.R _ h;have q:=eN (3*z.R.length) 0 z.R;unfold gT;generalize cP (3*z.R.length) 0 z.R=w at g q ⊢;cases w with
 | error e=>
  obtain⟨e,p⟩:=e;have u:=q e p rfl;have hm:=bM e p;have d:decide (e=0)=false:=ψ u;unfold tpV atV at g;dsimp only[atZ];rw[aJ (show ¬(Z.mk z.R e p).e=0 from u)];refine aPa (n:=35) Tryz.func141 rfl rfl rfl rfl ?_;refine sg rfl (sk 10 rfl (kc g ?_));refine kz 9 rfl (sk 7 rfl ?_);rw[d];exact kp hm
 | ok y=>
  obtain⟨x,R'⟩:=y;have hm:=bL 0 0;rw[jA] at g;unfold atV at g;dsimp only[atZ];rw[bA (show(Z.mk R' z.e z.p).e=0 from he)];refine bC (n:=35) tok Tryz.func141 rfl rfl rfl ?_;refine sg rfl (sk 10 rfl (kc g ?_));refine kz 9 rfl (sk 7 rfl (kc hm ?_));exact az (sg rfl (sg rfl (aF (rtC trw))))
theorem wE {L:List Tk}{z:Z}(h:ZA L z) (he:z.e=0) (hZ:o7 L):bF Tryz.prog 142 [rP] [(600,rO L z)] (fZ L (.one (.c (.sl 5 ((bT z).1.map aS)))) (bT z).2 []):=by
 have g:=tP L hZ z.R _ h;have q:= @iF z.R;unfold bT;rw[θ he];generalize cU z.R=w at g q ⊢;cases w with
 | error e=>
  obtain⟨e,p⟩:=e;have u:=q rfl;have hm:=bM e p;have d:decide (e=0)=false:=ψ u;unfold aRb atV at g;dsimp only[aVv];rw[aJ (show ¬(Z.mk z.R e p).e=0 from u)];refine aPa (n:=35) Tryz.func142 rfl rfl rfl rfl ?_;refine sg rfl (sk 10 rfl (kc g ?_));refine kz 8 rfl (sk 7 rfl ?_);rw[d];exact kp hm
 | ok y=>
  obtain⟨x,R'⟩:=y;have hm:=bL 0 0;rw[nD] at g;unfold atV at g;dsimp only[aVv];rw[bA (show(Z.mk R' z.e z.p).e=0 from he)];refine bC (n:=35) tok Tryz.func142 rfl rfl rfl ?_;refine sg rfl (sk 10 rfl (kc g ?_));refine kz 8 rfl (sk 7 rfl (kc hm ?_));exact az (sg rfl (sg rfl (aF rtT)))
theorem kV {L:List Tk}{z:Z}(h:ZA L z) (he:z.e=0) (hZ:o7 L) (hwt:wt L≤30000):bF Tryz.prog 145 [rP] [(600,rO L z)] (fZ L (.pa (mH (bO z).1)) (bO z).2 []):=by
 have g:=aHo L hZ z.R _ h hwt;have q:= @n7 z.R;unfold bO;rw[θ he];generalize cI z.R=w at g q ⊢;cases w with
 | error e=>
  obtain⟨e,p⟩:=e;have u:=q rfl;have hm:=bM e p;have d:decide (e=0)=false:=ψ u;unfold spV atV at g;dsimp only[aRq];rw[aJ (show ¬(Z.mk z.R e p).e=0 from u)];refine aPa (n:=35) Tryz.func145 rfl rfl rfl rfl ?_;refine sg rfl (sk 10 rfl (kc g ?_));refine kz 9 rfl (sk 7 rfl ?_);rw[d];exact kp hm
 | ok y=>
  obtain⟨x,R'⟩:=y;have hm:=bL 0 0;rw[aMi] at g;unfold atV at g;dsimp only[aRq];rw[bA (show(Z.mk R' z.e z.p).e=0 from he)];refine bC (n:=35) tok Tryz.func145 rfl rfl rfl ?_;refine sg rfl (sk 10 rfl (kc g ?_));refine kz 9 rfl (sk 7 rfl (kc hm ?_));exact az (sg rfl (sg rfl (aF (rtC trw))))
theorem aHm {L:List Tk}{z:Z}(h:ZA L z):aU Tryz.prog 140 [rP] [(600,rO L z)] (B (aUi z)) [(600,rO L z)]:=by
 have hn:=dU h;have hi:=lG h cE;unfold aUi;refine bC (n:=19) tok Tryz.func140 rfl rfl rfl ?_;refine sg rfl (sk 3 rfl (kc hn ?_));refine kz 2 rfl ?_;by_cases h1:(b4 z).kind=1
 ·have d1:decide ((b4 z).kind=1)=true:=φ h1;rw[d1,Bool.true_or];exact sgh [(2,.bv true),(5,.bv true),(6,.bv true),(9,.bv true)] rfl (aF rtT)
 have d1:decide ((b4 z).kind=1)=false:=ψ h1;rw[d1,B0];by_cases h2:(b4 z).kind=2
 ·have d2:decide ((b4 z).kind=2)=true:=φ h2;rw[d2,Bool.true_or];exact sgh [(2,.bv false),(5,.bv false),(6,.bv true),(9,.bv true)] rfl (aF rtT)
 ·have d2:decide ((b4 z).kind=2)=false:=ψ h2;rw[d2,B0];refine skh 8 [(2,.bv false),(5,.bv false),(6,.bv false)] rfl (kcG hi ?_);exact ak 2 [(6,.bv false),(9,.bv false)] rfl (az (aF rtT))
section
variable {z:Z}(h:¬z.e=0)
include h
theorem kL {s:Str}:bQ s z=(false,z):=ξ fun k=>h k.1
theorem kW {k:Int}:(b5 k z).2=z:=by
 unfold b5;rw[ξ (fun k=>h k.1)];exact fF h
theorem kK:aZ z=([],z):=ξ h
theorem dX {n m:Nat}{a:Int}:cK n m a z=z:=by
 unfold cK;split
 ·exact fF h
 ·rfl
theorem rL:bO z=(jP,z):=ξ h
theorem rM {f:Nat}{out:List Ty}:cQ f out z=(out,z):=nW fun k=>h k.1
theorem aHr {s:Str}{n:Nat}:moreA s n z=z:=ξ fun k=>h k.2.1
theorem kX:cO z=z:=ξ h
theorem aLp {s:Str}{n:Nat}:bJ s n z=(false,z):=by
 unfold bJ;rw[aHr h,kX h,θ (.inl h)]
end
theorem fM {n m:Nat}{a:Int}{z:Z}(h:n≤m):cK n m a z=z:=ξ (by omega)
theorem fN {n m:Nat}{a:Int}{z:Z}(h:¬n≤m) (he:z.e=0):cK n m a z=⟨z.R,2,a⟩:=(θ (by omega)).trans (θ he)
theorem cH:¬(2:Int)=0:=by decide
theorem wO {W:List Cn×Z}{f:Nat}{a g:Int}{out:List Cn}{fs:List Ty}{z:Z}{m:Nat}(h:¬z.e=0)
  (q:W=if(bQ aDg (cK m 16 a (cK fs.length 8 g z))).1=true then mK f a out (bQ aDg (cK m 16 a (cK fs.length 8 g z))).2 else(out,(bQ aDg (cK m 16 a (cK fs.length 8 g z))).2)):W.2=z:=by
 rw[dX h,dX h,kL h,ξ ω] at q;rw[q]
def aW9:List (Nat×V):=[(0,rP),(2,.one (.vp 2 0)),(3,.one (.vp 3 0)),(5,.one (.vp 5 0)),(7,.one (.vp 7 0)),(8,.one (.vp 8 0))]
def aW8 (L:List Tk) (z:Z) (nm:Tk) (vs:List Tk) (out:List Cn) (cn:Tk) (fs:List Ty):List (Nat×AObj):=[(600,rO L z),(2,.var 172 [.c (.str []),.c (.int .i64 0),.c .nl,.c .nl,.c .nl]),(3,.var 167 ((aI nm).map .c)),(5,.var 172 [.c (.str nm.text),.c (.int .i64 nm.pl),.c (.sl 1 ((vs.map (·.text)).map aR)),.c .nl,.hs 502 0 out.length out.length]),(7,.var 167 ((aI cn).map .c)),(8,.var 188 [.c (.str cn.text),.c (.int .i64 cn.pl),.hs 501 0 fs.length fs.length]),(501,.arr 31 4 (fs.map cF) 0),(502,.arr 188 3 (out.map yD) 0)]
theorem aP7 {L:List Tk}{z:Z}(h:ZA L z) (he:z.e=0) (hZ:o7 L):bF Tryz.prog 94 [rP] [(600,rO L z)] (fZ L (.pa (tD (oE z).1)) (oE z).2 []):=by
 have hw:=gR h he 2 (by decide);have h1:=h.word (k:=2) (by decide);unfold oE lO;generalize b5 2 z=x1 at hw h1 ⊢;obtain⟨A,E⟩:=x1;dsimp only at hw h1 ⊢;refine mE (n:=68) tok Tryz.func94 rfl rfl rfl rfl ?_;refine sg rfl ?_;by_cases y:E.e=0
 case neg=>
  have hp:=bF.err hw y;have hb:(lP (A,(aZ E).1,aQ eqS (cK (aZ E).1.length 8 A.pl (aZ E).2))).2=E:=by
   rw[kK y,dX y,bH y];unfold lP;dsimp only;rw[ξ y]
  rw[hb,aJ y];exact sk 1 rfl (kp hp)
 have hw:=bF.ok hw y;have ac:=mM h1 y;have h2:=h1.words;have ab:(aZ E).2.e=0:=by unfold aZ;rw[θ y];exact y
 have ae:=eU h1;generalize aZ E=x2 at ac h2 ae ab ⊢;obtain⟨vs,z2⟩:=x2;dsimp only at ac h2 ae ab ⊢;have hvk:(vs.map aI).length=vs.length:=κ _;refine sk 1 rfl (kc hw ?_);refine kz 2 rfl (sk 1 rfl (kc ac ?_));refine kz 1 rfl ?_;by_cases hv8:vs.length≤8
 case neg=>
  have d:decide (((vs.length:Nat):Int)≤8)=false:=ψ (by omega);have hb:(lP (A,vs,aQ eqS (cK vs.length 8 A.pl z2))).2=⟨z2.R,2,A.pl⟩:=by
   rw[fN hv8 ab,bH cH];unfold lP;dsimp only;rw[ξ cH]
  rw[hb,aJ cH];have hm:=bM 2 A.pl;refine sk 5 rfl ?_;rw[hvk,d];exact kp hm
 have d:decide (((vs.length:Nat):Int)≤8)=true:=φ (by omega);have hm:=bL 2 A.pl;rw[fM hv8];refine sk 5 rfl ?_;rw[hvk,d];refine kc hm ?_;refine az ?_;have htx:=tI vs ae;refine sk 5 rfl (kc htx ?_);refine kz 3 rfl ?_;have aa:=cY h2 ab eqS;have h4:=h2.need eqS;generalize aQ eqS z2=z4 at aa h4 ⊢;by_cases U:z4.e=0
 case neg=>
  have hp:=bF.err aa U;have hb:(lP (A,vs,z4)).2=z4:=by unfold lP;dsimp only;rw[ξ U]
  rw[hb,aJ U];exact sk 1 rfl (kp hp)
 have aa:=bF.ok aa U;refine sk 1 rfl (kc aa ?_);refine az (aA (sg rfl (AWp.sub (Sub.ownCell (x:=5) (k:=4) (id:=502) 188 3 rfl rfl rfl) ?_)));have hWx:∃W,W=lP (A,vs,z4):=⟨_,rfl⟩
 obtain⟨W,u⟩:=hWx;rw[←u];have hlen4:=h4.len;have u:W=mK (z4.R.length+1) A.pl [] z4:=by rw[u];exact θ U
 refine aE (aL (fun q:Bool×List Cn×Z×Nat=>mk [(0,rP),(2,.one (.vp 2 0)),(3,.one (.vp 3 0)),(5,.one (.vp 5 0)),(6,B q.1)] [(600,rO L q.2.2.1),(2,.var 172 [.c (.str []),.c (.int .i64 0),.c .nl,.c .nl,.c .nl]),(3,.var 167 ((aI A).map .c)),(5,.var 172 [.c (.str A.text),.c (.int .i64 A.pl),.c (.sl 1 ((vs.map (·.text)).map aR)),.c .nl,.hs 502 0 q.2.1.length q.2.1.length]),(502,.arr 188 3 (q.2.1.map yD) 0)]) (fun q=>ZA L q.2.2.1∧q.2.2.1.e=0∧((q.1=true∧W=mK q.2.2.2 A.pl q.2.1 q.2.2.1∧q.2.2.1.R.length<q.2.2.2∧q.2.1.length+q.2.2.1.R.length≤4001)∨(q.1=false∧W=(q.2.1,q.2.2.1)))) (fun q=>if q.1=true then q.2.2.1.R.length+1 else 0) (true,[],z4,z4.R.length+1) ⟨h4,U,.inl ⟨rfl,u,by dsimp only;omega,by dsimp only;rw[length_nil];omega⟩⟩ sl ?_);clear u hw h1 ac h2 htx h4 U ab y aa hm h he hlen4;rintro⟨more,out,z0,f⟩ ⟨h,he,hinv⟩;dsimp only at h he hinv ⊢;have hout:(out.map yD).length=out.length:=κ _;refine aA (sg rfl ?_);rcases hinv with⟨hm,u,hf,hol⟩ | ⟨hm,u⟩
 case inr=>
  subst hm;refine aB rfl (fun hb=>absurd hb (by decide)) (fun _=>aG (AWp.sub (Sub.freeze (id:=502) rfl) ?_));refine sg rfl ?_;rw[u,bA he];exact aF (rtC trw)
 subst hm;obtain⟨f,rfl⟩:∃g,f=g+1:=⟨f-1,by omega⟩
 rw[mK] at u;unfold tG at u;have hw:=gR h he 2 (by decide);have h1:=h.word (k:=2) (by decide);have l1:=Ze.word 2 z0;generalize b5 2 z0=x1 at hw h1 l1 u;obtain⟨I,E⟩:=x1;dsimp only at hw h1 l1 u;refine aB rfl (fun _=>aD ?_) (fun hb=>absurd hb (by decide));by_cases y:E.e=0
 case neg=>
  have hp:=bF.err hw y;rw[rM y] at u;rw[wO y u,aJ y];exact aA (aE (sk 1 rfl (kp hp)))
 have hw:=bF.ok hw y;refine aA (aE (sk 1 rfl (kc hw ?_)));refine kz 2 rfl (sg rfl (AWp.sub (Sub.ownCell (x:=8) (k:=2) (id:=501) 31 4 rfl rfl rfl) ?_));have hlen1:=h1.len;have hFx:∃F,F=cQ (E.R.length+1) [] E:=⟨_,rfl⟩
 obtain⟨F,J⟩:=hFx;rw[←J] at u;refine aA (aE (aL (fun q:List Ty×Z×Nat=>mk aW9 (aW8 L q.2.1 A vs out I q.1)) (fun q=>ZA L q.2.1∧q.2.1.e=0∧F=cQ q.2.2 q.1 q.2.1∧q.2.1.R.length<q.2.2∧q.1.length+q.2.1.R.length≤4001∧q.2.1.R.length≤E.R.length) (fun q=>q.2.1.R.length+1) ([],E,E.R.length+1) ⟨h1,y,J,by dsimp only;omega,by dsimp only;rw[length_nil];omega,le_refl _⟩ sl ?_));clear J hw h1 hlen1 y h he;rintro⟨fs,z,g⟩ ⟨h,he,J,hg,hol2,hk4⟩;dsimp only at h he J hg hol2 hk4 ⊢;have af:(fs.map cF).length=fs.length:=κ _;have hbg:=aHm h;refine aA (sk 1 rfl (kc hbg ?_));refine az (aB rfl (fun hb=>?_) (fun hb=>?_))
 ·have ha:=aLf h he hZ;obtain⟨g1,g2,g3,g4,g5⟩:=aBv h;obtain⟨g,rfl⟩:∃k,g=k+1:=⟨g-1,by omega⟩
  rw[cQ,θ ⟨he,hb⟩] at J;have hlp:=h.lp;generalize gT z=x at ha g1 g2 g3 g4 g5 J;obtain⟨x,z'⟩:=x;dsimp only at ha g1 g2 g3 g4 g5 J;refine aD ?_;by_cases Y:z'.e=0
  case neg=>
   have hp:=bF.err ha Y;rw[rM Y] at J;rw[J] at u;rw[wO Y u,aJ Y];refine aE (aC mixed (ak 3 [] rfl (kpD (tyV zTy) [(600,rO L z)] hp ?_)));exact ak 4 [(1,.all)] rfl (az trivial)
  have ha:=bF.ok ha Y;refine aE (aC mixed (ak 3 [] rfl (kc ha ?_)));refine ak 4 [(1,.all)] rfl (az ?_);have M:fs.map cF++[cF x]=(fs++[x]).map cF:=by rw[Ai];rfl
  have hle:(fs++[x]).length=fs.length+1:=by rw[ζ];rfl
  have g5':z'.R.length≤z.R.length:=g5;have hlt:=g4 Y;refine⟨(fs++[x],z',g),⟨g1,Y,J,by dsimp only;omega,by dsimp only;rw[hle];omega,by dsimp only;omega⟩,by dsimp only;omega,?_⟩;exact sl (he:=⟨rfl,rfl,rfl,rfl,rfl,rfl,trivial⟩) (hh:=⟨⟨_,rfl,.var rfl⟩,⟨_,rfl,.var rfl⟩,⟨_,rfl,.var rfl⟩,⟨_,rfl,.var rfl⟩,⟨_,rfl,.var rfl⟩,⟨_,rfl,.var (by rw[hle,←af];rfl)⟩,⟨_,rfl,.arrS M⟩,⟨_,rfl,Go.AM.Ole.arr⟩,trivial⟩)
 ·have hb':¬(z.e=0∧aUi z=true):=fun hh=>by rw[hh.2] at hb;cases hb
  rw[nW hb'] at J;subst J;dsimp only at u;refine aG (AWp.sub (Sub.freeze (id:=501) rfl) ?_);refine AWp.sub (vp 8 [.str I.text,.int .i64 I.pl,.sl 4 (fs.map cF)] (hp:=.c .refl (.c .refl (.hs rfl af.symm (Go.AM.take_all af.symm) .nil)))) ?_;by_cases hf8:fs.length≤8
  case neg=>
   have d:decide ((((fs.map cF).length:Nat):Int)≤8)=false:=ψ (by omega);rw[fN hf8 he,dX cH,kL cH,ξ ω] at u;rw[u,aJ cH];have hm:=bM 2 I.pl;refine sk 6 rfl ?_;rw[d];exact kp hm
  rw[fM hf8] at u;have d:decide ((((fs.map cF).length:Nat):Int)≤8)=true:=φ (by omega);have hm:=bL 2 I.pl;refine sk 6 rfl ?_;rw[d];refine kc hm ?_;refine az ?_;have M:out.map yD++[[.str I.text,.int .i64 I.pl,.sl 4 (fs.map cF)]]=(out++[(⟨I.text,I.pl,fs⟩:Cn)]).map yD:=by rw[Ai];rfl
  have hle:(out++[(⟨I.text,I.pl,fs⟩:Cn)]).length=out.length+1:=by rw[ζ];rfl
  generalize hO:out++[(⟨I.text,I.pl,fs⟩:Cn)]=O at u M hle;refine sgh [(3,.all)] rfl (AWp.sub (st2:=mk [(0,rP),(2,.one (.vp 2 0)),(3,.one (.vp 3 0)),(5,.one (.vp 5 0))] [(600,rO L z),(2,.var 172 [.c (.str []),.c (.int .i64 0),.c .nl,.c .nl,.c .nl]),(3,.var 167 ((aI A).map .c)),(5,.var 172 [.c (.str A.text),.c (.int .i64 A.pl),.c (.sl 1 ((vs.map (·.text)).map aR)),.c .nl,.hs 502 0 O.length O.length]),(502,.arr 188 3 (O.map yD) 0)]) (sl (hh:=⟨⟨_,rfl,.var rfl⟩,⟨_,rfl,.var rfl⟩,⟨_,rfl,.var rfl⟩,⟨_,rfl,.var (by rw[hle,←hout];rfl)⟩,⟨_,rfl,.arrS M⟩,trivial⟩)) ?_);by_cases ho:O.length≤16
  case neg=>
   have d:decide (((O.length:Nat):Int)≤16)=false:=ψ (by omega);rw[fN ho he,kL cH,ξ ω] at u;rw[u,aJ cH];have hm:=bM 2 A.pl;refine aC mixed (ak 6 [] rfl ?_);rw[d];exact kp hm
  rw[fM ho] at u;have d:decide (((O.length:Nat):Int)≤16)=true:=φ (by omega);have hm:=bL 2 A.pl;refine aC mixed (ak 6 [] rfl ?_);rw[d];refine kc hm ?_;refine az ?_;have hm:=eT h he aDg;have h7:=h.may aDg;have ad:=(gX aDg z).trans he;have l7:=eS h (s:=aDg);generalize bQ aDg z=m at hm h7 l7 u ad;obtain⟨b,z7⟩:=m;dsimp only at hm h7 l7 u ad;refine aC mixed (ak 1 [] rfl (kc hm ?_));refine kz 1 rfl ?_;have l1':E.R.length≤z0.R.length:=l1;cases b with
  | true=>
   rw[θ rfl] at u;have:=l7 rfl;exact⟨(true,O,z7,f),⟨h7,ad,.inl ⟨rfl,u,by dsimp only;omega,by dsimp only;omega⟩⟩,by dsimp only;rw[θ rfl,θ rfl];omega,sl⟩
  | false=>
   rw[ξ (by decide)] at u;exact⟨(false,O,z7,f),⟨h7,ad,.inr ⟨rfl,u⟩⟩,by dsimp only;rw[ξ (by decide),θ rfl];omega,sl⟩
def aL7 (L:List Tk):Prop:=∀t∈L,¬t.kind=3→t.n=0
theorem aJw {c:UInt8}{r:Str}{k:Int}{t:Str}{v:Int}(h:gJ (c::r)=.ok (k,t,v)) (g:¬k=3):v=0:=by
 rw[gJ] at h;split at h
 ·split at h
  ·cases h
  ·cases h;exact absurd rfl g
 split at h
 ·unfold mC at h;split at h
  ·cases h
  split at h
  ·cases h;rfl
  split at h
  ·cases h;rfl
  ·cases h;rfl
 split at h
 ·cases h
 ·cases h;rfl
theorem sP:∀(f a:Nat) (s:Str) (l:List Tk),jO f a s=.ok l→aL7 l
 | 0,a,s,l,h=>by
  rw[jO] at h;cases h;intro t g;rw[As.1 g];exact fun _=>rfl
 | f+1,a,[],l,h=>by
  rw[jO] at h;cases h;intro t g;rw[As.1 g];exact fun _=>rfl
 | f+1,a,c::r,l,h=>by
  rw[jO] at h;split at h
  ·exact sP f _ _ l h
  ·cases ho:gJ (c::r) with
   | error e=>rw[ho] at h;cases h
   | ok y=>
    obtain⟨k,t,v⟩:=y;rw[ho] at h;dsimp only at h;cases q:jO f (a+t.length) ((c::r).drop t.length) with
    | error e=>rw[q,tF] at h;cases h
    | ok A=>
     rw[q,tF] at h;cases h;intro u hu;rcases Ar.1 hu with rfl | hu
     ·exact aJw ho
     ·exact sP f _ _ A q u hu
theorem ZA.mem {L:List Tk}{z:Z}(h:ZA L z):b4 z∈L:=by
 obtain⟨R,e',g⟩:=z;obtain⟨t,R,rfl⟩:=h.e.ne;exact At.mem h
def aWz (z:Z):Pt:=.mk 0 (b4 z).pl 0 (b4 z).text []
def aI9 (y:(Pt×Bool)×Z) (z:Z):Pt:=if y.1.2=true then y.1.1 else aWz z
def aIk (L:List Tk) (f:Nat):Prop:=∀(o:Nat) (z:Z),ZA L z→z.e=0→3*z.R.length≤f→o≤40→bF Tryz.prog 231 [rP,I .i64 (o:Nat)] [(600,rO L z)] (fZ L (.tup [.pa (bK (aI9 (b8 f o z) z)),B (b8 f o z).1.2]) (b8 f o z).2 [])
def aQ1 (L:List Tk) (f:Nat):Prop:=∀(o:Nat) (z:Z),ZA L z→z.e=0→3*z.R.length+1≤f→o≤40→bF Tryz.prog 227 [rP,I .i64 (o:Nat)] [(600,rO L z)] (fZ L (.pa (bK (fS f o z).1)) (fS f o z).2 [])
theorem aJu {L:List Tk}{z:Z}(h:ZA L z) (q:¬(b4 z).kind=6):rO L (tlZ z)=.var 166 [.c (.sl 4 (L.map aI)),.c (.int .i64 ((L.length-z.R.length+1:Nat):Int))]:=by
 obtain⟨_,g⟩:=h.tl q z.e z.p;unfold rO tlZ;dsimp only;rw[g]
theorem aG4 (L:List Tk) (hN:aL7 L) (f:Nat) (ih:aQ1 L f):aIk L (f+1):=by
 intro o z h he hf ho40;rw[b8,ξ (fun k=>k he)];have hn:=dU h;have J:=hN _ h.mem;have u:=fun hk=>aJu h hk
 have hLl:=h.l;have hm:=lG h xG;have hi:=lG h cE;have U:bQ xG z=if isZ xG z=true then(true,tlZ z) else(false,z):=by
  unfold bQ;by_cases hu:isZ xG z=true
  ·rw[θ ⟨he,hu⟩,θ hu];rfl
  ·rw[ξ (fun k=>hu k.2),ξ hu]
 have Y:isZ xG z=true→¬(b4 z).kind=6:=iX;have aa:isZ cE z=true→¬(b4 z).kind=6:=iX;have A:isZ cE z=true→aQ cE z=tlZ z:=aFn he;have h1:=h.need cE;have hle:(aQ cE z).e=0∨isZ cE z=false:=by
  cases hb:isZ cE z with
  | true=>left;rw[A hb];exact he
  | false=>exact .inr rfl
 have htl:=oX h;have ab:aWz z=.mk 0 (b4 z).pl 0 (b4 z).text []:=rfl;refine mE (n:=77) tok Tryz.func231 rfl rfl rfl rfl ?_;refine sg rfl (sk 3 rfl (kc hn ?_));refine kz 2 rfl (sg rfl ?_);rw[U];generalize ht:b4 z=t at J ab u Y aa ⊢;clear hn U;refine aA (aE (sg rfl ?_));by_cases M:t.kind=1
 ·have d:decide (t.kind=1)=true:=φ M;have B:¬t.kind=6:=by omega
  rw[θ (show 0<t.kind∧t.kind<4 by omega)];unfold aI9;dsimp only;rw[θ rfl,bA (show(tlZ z).e=0 from he),u B,J (by omega)];unfold jD gI;rw[θ M,ξ (by omega)];unfold rO;exact aB rfl (fun _=>ag [] rfl (aA (agN [] rfl (sg rfl (aF oH))))) (fun hb=>absurd (hb.symm.trans d) Bool.noConfusion)
 refine aB rfl (fun hb=>absurd (χ hb) M) (fun _=>sg rfl ?_);by_cases O:t.kind=2
 ·have d:decide (t.kind=2)=true:=φ O;have B:¬t.kind=6:=by omega
  rw[θ (show 0<t.kind∧t.kind<4 by omega)];unfold aI9;dsimp only;rw[θ rfl,bA (show(tlZ z).e=0 from he),u B,J (by omega)];unfold jD gI;rw[ξ M,θ O,ξ (by omega)];unfold rO;exact aB rfl (fun _=>ag [] rfl (aA (agN [] rfl (sg rfl (aF oH))))) (fun hb=>absurd (hb.symm.trans d) Bool.noConfusion)
 refine aB rfl (fun hb=>absurd (χ hb) O) (fun _=>sg rfl ?_);by_cases k3:t.kind=3
 ·have d:decide (t.kind=3)=true:=φ k3;have B:¬t.kind=6:=by omega
  rw[θ (show 0<t.kind∧t.kind<4 by omega)];unfold aI9;dsimp only;rw[θ rfl,bA (show(tlZ z).e=0 from he),u B];unfold jD gI;rw[ξ M,ξ O,θ k3];unfold rO;exact aB rfl (fun _=>ag [] rfl (aA (agN [] rfl (sg rfl (aF oH))))) (fun hb=>absurd (hb.symm.trans d) Bool.noConfusion)
 refine aB rfl (fun hb=>absurd (χ hb) k3) (fun _=>?_);rw[ξ (show ¬(0<t.kind∧t.kind<4) by omega)];refine sk 1 rfl (kc hm ?_);refine kz 1 rfl ?_;cases hu:isZ xG z with
 | true=>
  rw[θ rfl,θ rfl];unfold aI9;dsimp only;rw[θ rfl,bA (show(tlZ z).e=0 from he),u (Y hu)];unfold rO;exact aB rfl (fun _=>ag [] rfl (aA (agN [] rfl (sg rfl (aF oH))))) (fun hb=>Bool.noConfusion hb)
 | false=>
 rw[ξ ω];dsimp only;rw[ξ ω];refine aB rfl (fun hb=>Bool.noConfusion hb) (fun _=>sk 1 rfl (kc hi ?_));refine kz 1 rfl ?_;cases hl:isZ cE z with
 | false=>
  rw[θ rfl];unfold aI9;dsimp only;rw[ξ ω,bA he,ab];exact aB rfl (fun hb=>Bool.noConfusion hb) (fun _=>sg rfl (aF oH))
 | true=>
 rw[ξ (by decide)];have A:=A hl;refine aB rfl (fun _=>?_) (fun hb=>Bool.noConfusion hb);by_cases ho:40≤o
 ·have d:decide (((o:Nat):Int)<40)=false:=ψ (by omega);have hmn:=bM 13 t.pl;rw[θ ho];unfold bS;rw[θ he];dsimp only;rw[aJ (show ¬(13:Int)=0 by decide)];refine sk 4 rfl ?_;rw[d];exact kp hmn
 have d:decide (((o:Nat):Int)<40)=true:=φ (by omega);have hmo:=bL 13 t.pl;rw[ξ ho];refine sk 4 rfl ?_;rw[d];refine kc hmo ?_;refine az ?_;rw[A];rw[A] at h1;have hp:=ih (o+1) (tlZ z) h1 he (by omega) (by omega);obtain⟨g1,_⟩:=(eV L f).2.1 (o+1) (tlZ z) h1;have ac:=u (aa hl);unfold rO at ac;unfold rO;refine aA (agN [] rfl ?_);unfold rO at hp;rw[ac] at hp;generalize fS f (o+1) (tlZ z)=y at hp g1 ⊢;obtain⟨q,z2⟩:=y;dsimp only at hp g1 ⊢;unfold aI9;dsimp only;rw[θ rfl];by_cases E:z2.e=0
 case neg=>
  have hp:=bF.err hp E;rw[bH E,aJ E];exact aA (aC mixed (akN 3 [] rfl (kp hp)))
 have hp:=bF.ok hp E;refine aA (aC mixed (akN 3 [] rfl (kc hp ?_)));refine akN 1 [] rfl (az ?_);have g:=cY g1 E lZ;generalize aQ lZ z2=z3 at g ⊢;by_cases I:z3.e=0
 case neg=>
  have hp:=bF.err g I;rw[aJ I];exact sk 1 rfl (kp hp)
 have g:=bF.ok g I;rw[bA I];refine sk 1 rfl (kc g ?_);exact az (sg rfl (aF oH))
theorem aLq {f o:Nat}{out:List Pt}{z:Z}(h:¬z.e=0):dY f o out z=(out,z):=by
 cases f with
 | zero=>rfl
 | succ f=>rw[dY,ξ h]
theorem aTl (L:List Tk) (hN:aL7 L) (f:Nat) (ihS:∀g,g≤f→aIk L g):aQ1 L (f+1):=by
 intro o z h he hf J;have hn:=dU h;have hnm:=hN _ h.mem;have hlp:=h.lp;rw[fS];refine mE (n:=58) tok Tryz.func227 rfl rfl rfl rfl ?_;refine sg rfl (sk 3 rfl (kc hn ?_));refine kz 2 rfl (aA (sg rfl ?_));by_cases E:(b4 z).kind=2
 ·obtain⟨f,rfl⟩:∃g,f=g+1:=⟨f-1,by omega⟩
  have M:b8 (f+1) o z=((.mk (jD (b4 z)) (b4 z).pl (b4 z).n (gI (b4 z)) [],true),tlZ z):=by
   rw[b8,ξ (fun k=>k he),θ (by omega)]
  rw[M,ξ (show ¬(true=false) from fun k=>Bool.noConfusion k),θ ⟨E,he⟩];have h1:=h.tlp (by rw[E];decide);have hrt:=aJu h (by rw[E];decide);have htl:=oX h;have hlen:=h.len;have hLl:=h.l;have u:∃W,W=dY (f+1) o [] (tlZ z):=⟨_,rfl⟩
  obtain⟨W,u⟩:=u;rw[←u,hnm (by omega)];generalize b4 z=t at hn E M hnm ⊢;have d:(!decide (t.kind=2))=false:=by rw[φ E];rfl
  refine aB rfl (fun hb=>absurd (hb.symm.trans d) Bool.noConfusion) (fun _=>aD ?_);unfold rO;refine aA (agN [] rfl ?_);rw[←hrt];refine sg rfl (AWp.sub (Sub.ownCell (x:=8) (k:=4) (id:=501) 43 10 rfl rfl rfl) ?_);refine aE (aL (fun q:List Pt×Z×Nat=>mk [(0,rP),(1,I .i64 (o:Nat)),(4,.one (.vp 4 0)),(8,.one (.vp 8 0))] [(600,rO L q.2.1),(4,.var 43 (aQ5.map .c)),(8,.var 43 [.c (.int .i64 4),.c (.int .i64 t.pl),.c (.int .i64 0),.c (.str t.text),.hs 501 0 q.1.length q.1.length,.c (.int .i64 0),.c (.int .i64 0),.c (.str []),.c .nl,.c .nl]),(501,.arr 43 10 (q.1.map bK) 0)]) (fun q=>ZA L q.2.1∧q.2.1.e=0∧W=dY q.2.2 o q.1 q.2.1∧q.2.2≤f+1∧3*q.2.1.R.length+1≤q.2.2∧q.1.length+q.2.1.R.length≤4001) (fun q=>q.2.1.R.length+1) ([],tlZ z,f+1) ⟨h1,he,u,le_refl _,by dsimp only;omega,by dsimp only;rw[length_nil];omega⟩ sl ?_);clear u hn M htl h1 hrt hlp hlen he hf h;rintro⟨out,U,g⟩ ⟨Y,O,u,hgf,hg,hol⟩;dsimp only at Y O u hgf hg hol ⊢;have hout:(out.map bK).length=out.length:=κ _;obtain⟨g,rfl⟩:∃k,g=k+1:=⟨g-1,by omega⟩
  rw[dY,θ O] at u;have hs:=ihS g (by omega) o U Y O (by omega) J;obtain⟨g1,_,g3,g4⟩:=(eV L g).1 o U Y;have hlp:=Y.lp;unfold aI9 at hs;generalize b8 g o U=y at hs g1 g3 g4 u;obtain⟨⟨q,b⟩,z2⟩:=y;dsimp only at hs g1 g3 g4 u;by_cases A:z2.e=0
  case neg=>
   have hp:=bF.err hs A;have hb:W.2=z2:=by
    rw[aLq A] at u;rw[u];split<;>rfl
   rw[hb,aJ A];exact aE (sk 2 rfl (kp hp))
  have hs:=bF.ok hs A;refine aE (sk 2 rfl (kc hs ?_));refine kz 6 rfl (aA (sg rfl ?_));cases b with
  | false=>
   rw[θ rfl] at u;refine aB rfl (fun _=>AWp.sub (Sub.freeze (id:=501) rfl) ?_) (fun hb=>Bool.noConfusion hb);refine sg rfl ?_;rw[u];dsimp only;rw[bA A];unfold bK;rw[j4 (Pt.mk _ _ _ _ _)];exact aF (rtC trw (hc:=.agg (.c .refl (.c .refl (.c .refl (.c .refl (.hs rfl hout.symm (Go.AM.take_all hout.symm) (.c .refl (.c .refl (.c .refl (.c .nl (.c .nl .nil))))))))))))
  | true=>
   rw[ξ (show ¬(true=false) from fun k=>Bool.noConfusion k)] at u;have hrows:out.map bK++[bK q]=(out++[q]).map bK:=by rw[Ai];rfl
   have hle:(out++[q]).length=out.length+1:=by rw[ζ];rfl
   have g4':z2.R.length≤U.R.length:=g4;have g3':=g3 rfl A;rw[θ rfl];refine aB rfl (fun hb=>Bool.noConfusion hb) (fun _=>aD (ag [(3,.all)] rfl ⟨(out++[q],z2,g),⟨g1,A,u,by dsimp only;omega,by dsimp only;omega,by dsimp only;rw[hle];omega⟩,by dsimp only;omega,?_⟩));exact sl (he:=⟨rfl,rfl,rfl,rfl,trivial⟩) (hh:=⟨⟨_,rfl,.var rfl⟩,⟨_,rfl,.var rfl⟩,⟨_,rfl,.var (by rw[hle,←hout];rfl)⟩,⟨_,rfl,.arrS hrows⟩,trivial⟩)
 have d:(!decide ((b4 z).kind=2))=true:=by rw[ψ E];rfl
 refine aB rfl (fun _=>?_) (fun hb=>absurd (hb.symm.trans d) Bool.noConfusion);rw[ξ (show ¬((b4 z).kind=2∧z.e=0) from fun k=>E k.1)];have hs:=ihS f (le_refl _) o z h he (by omega) J;unfold aI9 at hs;generalize b8 f o z=y at hs ⊢;obtain⟨⟨q,b⟩,z1⟩:=y;dsimp only at hs ⊢;by_cases B:z1.e=0
 case neg=>
  have hp:=bF.err hs B;have hb:(if b=false then(zPt,bS 12 (b4 z).pl z1) else(q,z1)).2=z1:=by
   rw[fF B];split<;>rfl
  rw[hb,aJ B];exact sk 2 rfl (kp hp)
 have hs:=bF.ok hs B;refine sk 2 rfl (kc hs ?_);refine kz 6 rfl ?_;cases b with
 | false=>
  have hm:=bM 12 (b4 z).pl;rw[θ rfl];unfold bS;rw[θ B];dsimp only;rw[aJ (show ¬(12:Int)=0 by decide)];exact sk 3 rfl (kp hm)
 | true=>
  have hm:=bL 12 (b4 z).pl;rw[ξ (show ¬(true=false) from fun k=>Bool.noConfusion k),θ rfl];dsimp only;rw[bA B];refine sk 3 rfl (kc hm ?_);exact az (sg rfl (aF (rtC trw)))
theorem aVw (L:List Tk) (hN:aL7 L):∀f,(∀g,g≤f→aIk L g)∧∀g,g≤f→aQ1 L g:=by
 intro f
 induction f with
 | zero=>exact⟨fun g u o z h he y ho=>by have:=h.lp;omega,fun g u o z h he y ho=>by have:=h.lp;omega⟩
 | succ f q=>
  refine⟨fun g u=>?_,fun g u=>?_⟩
  ·by_cases h:g≤f
   ·exact q.1 g h
   ·rw[show g=f+1 by omega];exact aG4 L hN f (q.2 f (le_refl _))
  ·by_cases h:g≤f
   ·exact q.2 g h
   ·rw[show g=f+1 by omega];exact aTl L hN f q.1
theorem aBc (l:List Tk) (hl:l.length≤4001):aU Tryz.prog 193 [.one (.c (.sl 4 (l.map aI)))] [] (.one (.c (.sl 10 ((fW l).map bK)))) []:=by
 have q:(l.map aI).length=l.length:=κ _;refine bC (n:=22) tok Tryz.func193 rfl rfl rfl ?_;refine sg rfl (sg rfl (AWp.sub (Sub.own (t:=3) (id:=500) 43 10 rfl rfl) ?_));refine aA (sg rfl (aE (aL (fun i:Nat=>mk [(3,.one (.hs 500 0 i i)),(6,.one (.c (.sl 4 (l.map aI)))),(7,I .i64 ((l.map aI).length:Nat)),(8,I .i64 (i:Nat))] [(500,.arr 43 10 ((fW (l.take i)).map bK) 0)]) (fun i=>i≤l.length) (fun i=>l.length-i) 0 (Ac _) sl ?_)));intro i hi;have g:((fW (l.take i)).map bK).length=i:=by rw[κ,oT,Aj];omega
 refine sg rfl (aA (aB rfl (fun hb=>?_) (fun hb=>?_)))
 ·have u:=ltD hb q;obtain⟨t,y⟩:=aM u;have E:=b9 aI y;have A:(fW (l.take (i+1))).map bK=(fW (l.take i)).map bK++[bK (.mk 2 t.pl 0 t.text [])]:=by
   unfold fW;rw[Be,y,Ai,Ai];rfl
  exact aD (aA (aE (sgh [(0,.row i (aI t))] rfl (ag [(6,.all)] rfl (agN [] rfl ⟨i+1,u,by dsimp only;omega,sl (he:=⟨Go.AM.hs_ren (congrArg (· +1) g) (congrArg (· +1) g),rfl,rfl,rfl,trivial⟩) (hh:=⟨⟨_,rfl,.arrS A.symm⟩,trivial⟩)⟩)))))
 ·have B:=geD hb q hi;subst B;rw[Ao] at g ⊢;refine aG (AWp.sub (Sub.freeze (id:=500) rfl) ?_);exact sg rfl (aF (rtH (hsz:=g.symm) (hlen:=g.symm)))
def aNr (L:List Tk) (ex:Nat→Z→Ex×Z) (N:Nat):Prop:=∀(deep:Nat) (z:Z),ZA L z→z.e=0→z.R.length≤N→deep≤41→bF Tryz.prog 192 [rP,I .i64 (deep:Nat)] [(600,rO L z)] (fZ L (.pa (bD (ex deep z).1)) (ex deep z).2 [])
def tZ (ex:Nat→Z→Ex×Z):Prop:=∀(deep:Nat) (z:Z),¬z.e=0→(ex deep z).2=z
theorem tA:∀f,tZ (aC2 f)
 | 0=>fun _ _ h=>fF h
 | f+1=>fun deep z h=>by
  show(vR (aC2 f) deep z).2=z;unfold vR;rw[θ h]
theorem aOv {s:Str}{z:Z}(he:z.e=0):bQ s z=if isZ s z=true then(true,tlZ z) else(false,z):=by
 unfold bQ;by_cases hu:isZ s z=true
 ·rw[θ ⟨he,hu⟩,θ hu];rfl
 ·rw[ξ (fun k=>hu k.2),ξ hu]
section
variable {L:List Tk}{ex:Nat→Z→Ex×Z}{N:Nat}(hO:ExO L ex) (hB:tZ ex) (hS:aNr L ex N)
include hO hS
theorem aG9 (deep:Nat) {z:Z}(h:ZA L z) (he:z.e=0) (hN:z.R.length≤N+1) (hd:deep≤40):bF Tryz.prog 218 [rP,I .i64 (deep:Nat)] [(600,rO L z)] (fZ L (.tup [.pa (bD (gU ex deep z).1.1),B (gU ex deep z).1.2]) (gU ex deep z).2 []):=by
 unfold gU;rw[ξ (fun k=>k he)];have hn:=dU h;have hm:=eT h he cE;have hLl:=h.l;have u:=fun hk=>aJu h hk
 refine mE (n:=73) tok Tryz.func218 rfl rfl rfl rfl ?_;refine sg rfl (sk 3 rfl (kc hn ?_));refine kz 2 rfl (aA (sg rfl ?_));generalize ht:b4 z=t at u ⊢;refine aE (sg rfl ?_);by_cases M:t.kind=1
 ·have d:decide (t.kind=1)=true:=φ M;rw[θ (show 0<t.kind∧t.kind<4 by omega)];dsimp only;rw[bA (show(tlZ z).e=0 from he),u (by omega)];have O:nM t=.mk 1 t.pl 0 t.text [] [] [] jP:=by unfold nM;rw[ξ (by omega),M]
  rw[O];unfold rO;exact aB rfl (fun _=>aA (agN [] rfl (sg rfl (aF oH)))) (fun hb=>absurd (hb.symm.trans d) Bool.noConfusion)
 refine aB rfl (fun hb=>absurd (χ hb) M) (fun _=>sg rfl ?_);by_cases U:t.kind=2
 ·have d:decide (t.kind=2)=true:=φ U;rw[θ (show 0<t.kind∧t.kind<4 by omega)];dsimp only;rw[bA (show(tlZ z).e=0 from he),u (by omega)];have O:nM t=.mk 2 t.pl 0 t.text [] [] [] jP:=by unfold nM;rw[ξ (by omega),U]
  rw[O];unfold rO;exact aB rfl (fun _=>aA (agN [] rfl (sg rfl (aF oH)))) (fun hb=>absurd (hb.symm.trans d) Bool.noConfusion)
 refine aB rfl (fun hb=>absurd (χ hb) U) (fun _=>sg rfl ?_);by_cases Y:t.kind=3
 ·have d:decide (t.kind=3)=true:=φ Y;rw[θ (show 0<t.kind∧t.kind<4 by omega)];dsimp only;rw[bA (show(tlZ z).e=0 from he),u (by omega)];unfold nM;rw[θ Y];unfold rO;exact aB rfl (fun _=>aA (agN [] rfl (sg rfl (aF oH)))) (fun hb=>absurd (hb.symm.trans d) Bool.noConfusion)
 refine aB rfl (fun hb=>absurd (χ hb) Y) (fun _=>aD ?_);rw[ξ (show ¬(0<t.kind∧t.kind<4) by omega)];have h1:=h.may cE;have J:=eS h (s:=cE);have e1:=(gX cE z).trans he;have E:= @kB cE z;generalize bQ cE z=m at hm h1 J e1 E ⊢;obtain⟨b,z1⟩:=m;dsimp only at hm h1 J e1 E ⊢;refine aA (sk 1 rfl (kc hm ?_));refine kz 1 rfl ?_;cases b with
 | false=>
  obtain rfl:=E rfl;rw[θ rfl];dsimp only;rw[bA he];exact aB rfl (fun _=>sg rfl (aF oH)) (fun hb=>Bool.noConfusion hb)
 | true=>
  rw[ξ (by decide)];have J:=J rfl;have hx:=hS (deep+1) z1 h1 e1 (by omega) (by omega);obtain⟨g1,_⟩:=hO (deep+1) z1 h1;generalize ex (deep+1) z1=y at hx g1 ⊢;obtain⟨b,z2⟩:=y;dsimp only at hx g1 ⊢;refine aB rfl (fun hb=>Bool.noConfusion hb) (fun _=>aD ?_);by_cases g:z2.e=0
  case neg=>
   have hp:=bF.err hx g;rw[bH g,aJ g];exact aA (aC mixed (akN 3 [] rfl (kp hp)))
  have hx:=bF.ok hx g;refine aA (aC mixed (akN 3 [] rfl (kc hx ?_)));refine akN 2 [] rfl (az ?_);have q:=cY g1 g lZ;generalize aQ lZ z2=z3 at q ⊢;by_cases A:z3.e=0
  case neg=>
   have hp:=bF.err q A;rw[aJ A];exact sk 1 rfl (kp hp)
  have q:=bF.ok q A;rw[bA A];refine sk 1 rfl (kc q ?_);exact az (sg rfl (aF oH))
omit hO
include hB
theorem aTt (a:Int) (deep:Nat) {z:Z}(h:ZA L z) (he:z.e=0) (hN:z.R.length≤N) (hd:deep≤40):bF Tryz.prog 215 [rP,I .i64 a,I .i64 (deep:Nat)] [(600,rO L z)] (fZ L (.pa (bD (rB ex a deep z).1)) (rB ex a deep z).2 []):=by
 obtain⟨u,O,g3⟩:=y1 a h;have q:=hS (deep+1) (rC a z).2 u;have g:=hB (deep+1) (rC a z).2;have A:(rC a z).2.R.length≤N:=le_trans g3 hN;unfold rB;generalize hy:ex (deep+1) (rC a z).2=y at q g ⊢;obtain⟨b,z6⟩:=y;dsimp only at q g ⊢;unfold rC at q g u O A ⊢;dsimp only at q g u O A ⊢;have U:=mM h he;have h1:=h.words;have B:(aZ z).2.e=0:=by unfold aZ;rw[θ he];exact he
 generalize aZ z=w at q g u O A U h1 B ⊢;obtain⟨l,z1⟩:=w;dsimp only at q g u O A U h1 B ⊢;have hn:=dU h1;have Y:(l.map aI).length=l.length:=κ _;have hv:=aBc l O;refine mE (n:=35) tok Tryz.func215 rfl rfl rfl rfl ?_;refine sg rfl (sk 1 rfl (kc U ?_));refine kz 1 rfl ?_;by_cases hl:l=[]
 ·subst hl;rw[θ rfl] at g;unfold bS at g;rw[θ B,dX (show ¬(12:Int)=0 by decide),bH (show ¬(12:Int)=0 by decide)] at g;rw[g (show ¬(12:Int)=0 by decide),aJ (show ¬(12:Int)=0 by decide)];have hm:=bM 12 (b4 z1).pl;refine sk 6 rfl (kc hn ?_);exact ak 1 [] rfl (kp hm)
 rw[ξ hl] at q g u A;have d0:decide ((0:Int)<((l.length:Nat):Int))=true:=φ (by have:=length_pos_iff.2 hl;omega);have hm:=bL 12 (b4 z1).pl;refine sk 6 rfl (kc hn ?_);refine ak 1 [] rfl ?_;rw[Y,d0];refine kc hm ?_;refine az ?_;by_cases aa:l.length≤8
 case neg=>
  have d:decide (((l.length:Nat):Int)≤8)=false:=ψ (by omega);rw[fN aa B,bH cH] at g;rw[g cH,aJ cH];have hm:=bM 2 a;refine sk 4 rfl ?_;rw[Y,d];exact kp hm
 have d:decide (((l.length:Nat):Int)≤8)=true:=φ (by omega);have hm:=bL 2 a;rw[fM aa] at q g u A;refine sk 4 rfl ?_;rw[Y,d];refine kc hm ?_;refine az ?_;have E:=cY h1 B arrow;generalize aQ arrow z1=z3 at E q g u A;by_cases J:z3.e=0
 case neg=>
  have hp:=bF.err E J;rw[g J,aJ J];exact sk 1 rfl (kp hp)
 have E:=bF.ok E J;refine sk 1 rfl (kc E ?_);refine az ?_;have q:=q J A (by omega);refine sk 2 rfl (kc hv ?_);refine akN 3 [] rfl ?_;by_cases M:z6.e=0
 case neg=>
  have hp:=bF.err q M;rw[aJ M];exact kp hp
 have q:=bF.ok q M;rw[bA M];refine kc q ?_;exact ak 3 [(7,.all)] rfl (az (aF (rtC trw)))
theorem tO (u:Tk) (deep:Nat) {z:Z}(h:ZA L z) (he:z.e=0) (hN:z.R.length≤N) (hd:deep≤41):bF Tryz.prog 150 [rP,tkV u,I .i64 (deep:Nat)] [(600,rO L z)] (fZ L (.pa (b6 (dR ex u deep z).1)) (dR ex u deep z).2 []):=by
 obtain⟨E,U,g3⟩:=tR u h;have q:=hS deep (fJ u z).2 E;have g:=hB deep (fJ u z).2;have J:(fJ u z).2.R.length≤N:=le_trans g3 hN;unfold dR;generalize hy:ex deep (fJ u z).2=y at q g ⊢;obtain⟨b,z6⟩:=y;dsimp only at q g ⊢;unfold fJ at q g E U J ⊢;dsimp only at q g E U J ⊢;have Y:=mM h he;have h1:=h.words;have M:(aZ z).2.e=0:=by unfold aZ;rw[θ he];exact he
 generalize aZ z=w at q g E U J Y h1 M ⊢;obtain⟨l,z1⟩:=w;dsimp only at q g E U J Y h1 M ⊢;have aa:(l.map aI).length=l.length:=κ _;have hv:=aBc l U;refine mE (n:=40) tok Tryz.func150 rfl rfl rfl rfl ?_;refine sg rfl (sk 1 rfl (kc Y ?_));refine kz 1 rfl ?_;by_cases ab:l.length≤8
 case neg=>
  have d:decide (((l.length:Nat):Int)≤8)=false:=ψ (by omega);rw[fN ab M,bH cH] at g;rw[g cH,aJ cH];have hm:=bM 2 u.pl;refine sk 5 rfl ?_;rw[aa,d];exact kp hm
 have d:decide (((l.length:Nat):Int)≤8)=true:=φ (by omega);have hm:=bL 2 u.pl;rw[fM ab] at q g E J;refine sk 5 rfl ?_;rw[aa,d];refine kc hm ?_;refine az ?_;have A:=cY h1 M eqS;generalize aQ eqS z1=z3 at A q g E J;by_cases B:z3.e=0
 case neg=>
  have hp:=bF.err A B;rw[g B,aJ B];exact sk 1 rfl (kp hp)
 have A:=bF.ok A B;refine sk 1 rfl (kc A ?_);refine az ?_;have q:=q B J hd;by_cases O:z6.e=0
 case neg=>
  have hp:=bF.err q O;rw[aJ O];exact sk 2 rfl (kp hp)
 have q:=bF.ok q O;rw[bA O];refine sk 2 rfl (kc q ?_);refine kz 2 rfl (aA (sg rfl ?_));cases l with
 | nil=>
  exact aB rfl (fun hb=>Bool.noConfusion hb) (fun _=>aD (sg rfl (aF (rtC trw))))
 | cons t l=>
  have d0:decide ((0:Int)<(((t::l).map aI).length:Int))=true:=φ (by rw[aa,Aa];omega);have ht:((t::l).map aI)[0]?=some (aI t):=rfl;refine aB rfl (fun _=>aC mixed (ak 5 [(1,.row 0 (aI t))] rfl (kc hv ?_))) (fun hb=>absurd (hb.symm.trans d0) Bool.noConfusion);exact ak 4 [(7,.all)] rfl (az (sg rfl (aF (rtC trw))))
end
def aQ7 (s:Sg):AObj:=.var 121 ((cX s).map .c)
theorem aPs (x:Bd) (s:Sg):aU Tryz.prog 152 ([.pa (b6 x)]++[R.vp 6 0].map V.one) [(6,aQ7 s)] (B (decide (x.name=s.name))) [(6,aQ7 s)]:=by
 refine bC (n:=9) tok Tryz.func152 rfl rfl rfl ?_;exact sgh [(0,.id 12)] rfl (sg rfl (aF rtT))
theorem aK4 (b:List Bd) (hl:b.length≤4001) (s:Sg):aU Tryz.prog 151 [hsV 511 b.length,.one (.clo 152 [.vp 6 0])] [(511,bdA b 0),(6,aQ7 s)] (I .i64 (aCz (fun x=>decide (x.name=s.name)) b 0)) [(511,bdA b 0),(6,aQ7 s)]:=by
 have B:(b.map b6).length=b.length:=κ _;refine bC (n:=19) tok Tryz.func151 rfl rfl rfl ?_;refine sg rfl (aA (sg rfl (aE (aL (fun i:Nat=>mk [(0,hsV 511 b.length),(1,.one (.clo 152 [.vp 6 0])),(7,I .i64 (b.length:Int)),(8,I .i64 i)] [(511,bdA b 0),(6,aQ7 s)]) (fun i=>i≤b.length∧aCz (fun x=>decide (x.name=s.name)) b 0=aCz (fun x=>decide (x.name=s.name)) b i) (fun i=>b.length-i) 0 ⟨Ac _,rfl⟩ sl ?_))));intro i ⟨hi,g⟩;refine sg rfl (aA (aB rfl (fun hb=>?_) (fun hb=>?_)))
 ·have q:i<b.length:=by have:=χ hb;omega
  obtain⟨x,u⟩:=aM q;have A:=b9 b6 u;have hc:=aPs x s;rw[vL _ u] at g;refine aD (aA (aE (sg rfl (skh 5 [(4,.row i (b6 x))] rfl (kv (args:=[.pa (b6 x)]) hc ?_)))));refine az (aB rfl (fun hb=>?_) (fun hb=>?_))
  ·rw[θ hb] at g;rw[g];exact sg rfl (aF rtT)
  ·rw[ξ (by rw[show decide (x.name=s.name)=false from hb];exact ω)] at g;exact aD (ag [] rfl ⟨i+1,⟨q,g⟩,by dsimp only;omega,sl⟩)
 have y:i=b.length:=by have:=Ad hb;omega
 subst y;rw[aAu] at g;rw[g];exact aG (sg rfl (aF rtT))
def aRd (n:Nat) (y:List Bd×Z):Except Value (V×List (Nat×AObj)):=if y.2.e=0 then .ok (hsV 511 n,[(511,bdA y.1 0)]) else .error (rN y.2.e y.2.p)
theorem mT {l:List Sg}{b:List Bd}{z:Z}(h:¬z.e=0):(cS l b z).2=z:=by
 cases l with
 | nil=>rfl
 | cons s l=>rw[cS,ξ h]
theorem aG8 (sigs:List Sg) (binds:List Bd) {z:Z}(he:z.e=0) (h1:sigs.length≤4001) (h2:binds.length≤4001):
  bF Tryz.prog 98 [.one (.c (.sl 9 (sigs.map cX))),hsV 511 binds.length] [(511,bdA binds 0)] (aRd binds.length (cS sigs binds z)):=by
 have hsl:(sigs.map cX).length=sigs.length:=κ _;have g:∃W,W=cS sigs binds z:=⟨_,rfl⟩
 obtain⟨W,g⟩:=g;rw[←g];refine mE (n:=43) tok Tryz.func98 rfl rfl rfl rfl ?_;refine sg rfl (aA (sg rfl (aE (aL (fun q:Nat×List Bd=>mk [(1,hsV 511 binds.length),(8,.one (.c (.sl 9 (sigs.map cX)))),(9,I .i64 ((sigs.map cX).length:Nat)),(10,I .i64 (q.1:Nat))] [(511,bdA q.2 0)]) (fun q=>q.1≤sigs.length∧q.2.length=binds.length∧W=cS (sigs.drop q.1) q.2 z) (fun q=>sigs.length-q.1) (0,binds) ⟨Ac _,rfl,g⟩ sl ?_))));clear g;rintro⟨i,b⟩ ⟨hi,y,g⟩;dsimp only at hi y g ⊢;have M:(b.map b6).length=b.length:=κ _;refine sg rfl (aA (aB rfl (fun hb=>?_) (fun hb=>?_)))
 case refine_2=>
  have hge:i=sigs.length:=by have:=Ad hb;omega
  rw[drop_eq_nil_of_le (by omega),cS] at g;refine aG (sg rfl ?_);rw[g];unfold aRd;rw[θ he];exact aF rtT
 have E:i<sigs.length:=by have:=χ hb;omega
 obtain⟨s,hs⟩:=aM E;have hs':=b9 cX hs;have O:sigs.drop i=s::sigs.drop (i+1):=by
  obtain⟨k1,k2⟩:=Ag.1 hs;rw[←k2];exact A5 k1
 rw[O,cS,θ he] at g;have A:=aK4 b (by omega) s;have U:aCz (fun x=>decide (x.name=s.name)) b 0=match b.findIdx? (fun x=>decide (x.name=s.name)) with | none=> -1 | some d=>(d:Int):=by
  unfold aCz;rw[Bv];cases b.findIdx? _ with
  | none=>rfl
  | some d=>simp
 rw[U,y] at A;unfold aQ7 at A;refine aD (aA (aE (sgh [(0,.row i (cX s))] rfl (sk 2 rfl (kc A ?_)))));refine kz 1 rfl ?_;cases J:b.findIdx? (fun x=>decide (x.name=s.name)) with
 | none=>
  rw[J] at g;dsimp only at g ⊢;have hm:=bM 21 s.pl;have B:W.2=⟨z.R,21,s.pl⟩:=by
   unfold bS at g;rw[θ he] at g;rw[g,mT (show ¬(21:Int)=0 by decide)]
  unfold aRd;rw[B,ξ (show ¬(21:Int)=0 by decide)];exact sk 4 rfl (kp hm)
 | some k=>
  rw[J] at g;dsimp only at g ⊢;have Y:=nV J;obtain⟨x,hx⟩:=aM Y;have hx':=b9 b6 hx;rw[hx] at g;dsimp only at g;have dk:decide ((0:Int)≤(k:Int))=true:=φ (by omega);have hm:=bL 21 s.pl;refine sk 4 rfl ?_;rw[dk];refine kc hm ?_;refine az ?_;cases u:x.has with
  | true=>
   rw[θ u] at g;have hm:=bM 20 s.pl;have B:W.2=⟨z.R,20,s.pl⟩:=by
    unfold bS at g;rw[θ he] at g;rw[g,mT (show ¬(20:Int)=0 by decide)]
   unfold aRd;rw[B,ξ (show ¬(20:Int)=0 by decide)];refine skh 8 [(4,.row k (b6 x))] rfl ?_;rw[u];refine kpD (.tup []) [] hm ?_;exact az trivial
  | false=>
   rw[ξ (by rw[u];exact ω)] at g;have hm:=bL 20 s.pl;refine skh 8 [(4,.row k (b6 x))] rfl ?_;rw[u];refine kc hm ?_;refine az ?_;have hs1:(b.map b6).set k (b6 (.mk x.name x.pl true x.sig x.body))=(b.set k (.mk x.name x.pl true x.sig x.body)).map b6:=by rw[map_set]
   have aa:((b.map b6).set k (b6 (.mk x.name x.pl true x.sig x.body))).set k (b6 (jB x s.ty))=(b.set k (jB x s.ty)).map b6:=by rw[List.set_set,map_set]
   have hx2:((b.map b6).set k (b6 (.mk x.name x.pl true x.sig x.body)))[k]?=some (b6 (.mk x.name x.pl true x.sig x.body)):=by rw[List.getElem?_set_self (by rw[M];exact Y)]
   exact ag [(8,.row k (b6 x)),(11,.row k (b6 (.mk x.name x.pl true x.sig x.body)))] rfl (agN [] rfl ⟨(i+1,b.set k (jB x s.ty)),⟨E,by dsimp only;rw[length_set,y],g⟩,by dsimp only;omega,sl (hh:=⟨⟨_,rfl,.arrS aa⟩,trivial⟩)⟩)
def zBd:Bd:=.mk [] 0 false jP zEx
def y6 (sigs:List Sg) (binds:List Bd):List (Nat×AObj):=[(7,.var 116 [.hs 510 0 sigs.length sigs.length]),(8,.var 25 [.hs 511 0 binds.length binds.length]),(510,sgA sigs 0),(511,bdA binds 0)]
def dtA (l:List Dt):AObj:=.arr 172 5 (l.map tD) 0
def clA (l:List Cl):AObj:=.arr 118 6 (l.map qP) 0
def inA (l:List In):AObj:=.arr 176 6 (l.map tC) 0
def aF1 (p:Pg) (sigs:List Sg):List (Nat×AObj):=[(4,.var 116 [.hs 510 0 sigs.length sigs.length]),(3,.var 75 [.hs 512 0 p.datas.length p.datas.length,.hs 513 0 p.classes.length p.classes.length,.hs 514 0 p.insts.length p.insts.length,.hs 511 0 p.binds.length p.binds.length]),(510,sgA sigs 0),(511,bdA p.binds 0),(512,dtA p.datas),(513,clA p.classes),(514,inA p.insts)]
section
variable {L:List Tk}{ex:Nat→Z→Ex×Z}{N:Nat}(hB:tZ ex) (hS:aNr L ex N) (hZ:o7 L) (hwt:wt L≤30000)
include hB hS hZ hwt
theorem aTh (sigs:List Sg) (binds:List Bd) (deep:Nat) {z:Z}(h:ZA L z) (he:z.e=0) (hN:z.R.length≤N) (hd:deep≤41) (h1:sigs.length≤4001) (h2:binds.length≤4001):
  bF Tryz.prog 97 [rP,.one (.vp 7 0),.one (.vp 8 0),I .i64 (deep:Nat)] ((600,rO L z)::y6 sigs binds) (fZ L (.tup []) (aT ex sigs binds deep z).2 (y6 (aT ex sigs binds deep z).1.1 (aT ex sigs binds deep z).1.2)):=by
 have hw:=gR h he 1 (by decide);have U:=h.word (k:=1) (by decide);have l1:=Ze.word 1 z;have hsl:(sigs.map cX).length=sigs.length:=κ _;have O:(binds.map b6).length=binds.length:=κ _;unfold aT;generalize b5 1 z=w at hw U l1 ⊢;obtain⟨A,M⟩:=w;dsimp only at hw U l1 ⊢;refine mE (n:=39) tok Tryz.func97 rfl rfl rfl rfl ?_;by_cases g:M.e=0
 case neg=>
  have hp:=bF.err hw g;rw[kL g];dsimp only;rw[ξ ω];have hb:(dR ex A deep M).2=M:=by
   unfold dR fJ;dsimp only;rw[kK g,dX g,bH g];exact hB _ _ g
  dsimp only;rw[hb,aJ g];exact sk 1 rfl (kp hp)
 have hw:=bF.ok hw g;have hm:=eT U g eQ;have Y:=U.may eQ;have l2:=Ze.may eQ M;have J:=(gX eQ M).trans g;generalize bQ eQ M=m at hm Y l2 J ⊢;obtain⟨b,z2⟩:=m;dsimp only at hm Y l2 J ⊢;refine sk 1 rfl (kc hw ?_);refine ak 2 [(2,.id 40)] rfl (az (aA (sk 1 rfl (kc hm ?_))));refine az ?_;cases b with
 | true=>
  rw[θ rfl];have B:=kV Y J hZ hwt;generalize bO z2=y at B ⊢;obtain⟨s,z3⟩:=y;dsimp only at B ⊢;refine aB rfl (fun _=>?_) (fun hb=>Bool.noConfusion hb);by_cases q:z3.e=0
  case neg=>
   have hp:=bF.err B q;rw[aJ q];refine sk 9 rfl (kpD (.pa (mH jP)) [(600,rO L z2)] hp ?_);exact ak 5 [(11,.all)] rfl (az trivial)
  have B:=bF.ok B q;rw[bA q];have u:sigs.map cX++[cX ⟨A.text,A.pl,s⟩]=(sigs++[(⟨A.text,A.pl,s⟩:Sg)]).map cX:=by rw[Ai];rfl
  have hle:(sigs++[(⟨A.text,A.pl,s⟩:Sg)]).length=sigs.length+1:=by rw[ζ];rfl
  generalize sigs++[(⟨A.text,A.pl,s⟩:Sg)]=S at u hle ⊢;refine sk 9 rfl (kc B ?_);refine ak 5 [(11,.all)] rfl (az (AWp.sub (st2:=mk [] ((600,rO L z3)::y6 S binds)) (sl (hh:=⟨⟨_,rfl,.var rfl⟩,⟨_,rfl,.var (by rw[hle,←hsl];rfl)⟩,⟨_,rfl,.var rfl⟩,⟨_,rfl,.arrS u⟩,⟨_,rfl,Go.AM.Ole.arr⟩,trivial⟩)) ?_));exact aF rtN
 | false=>
  rw[ξ ω];have E:=tO hB hS A deep Y J (le_trans (l1.trans l2) hN) hd;generalize dR ex A deep z2=y at E ⊢;obtain⟨bd,z3⟩:=y;dsimp only at E ⊢;have hz0:(binds.map b6++[(b6 zBd)])[binds.length]?=some (b6 zBd):=by rw[A7 (by omega),O,B8];rfl
  refine aB rfl (fun hb=>Bool.noConfusion hb) (fun _=>aD ?_);by_cases q:z3.e=0
  case neg=>
   have hp:=bF.err E q;rw[aJ q];refine aC mixed (ak 6 [] rfl (kpD (.pa (b6 zBd)) [(600,rO L z2)] hp ?_));exact ak 7 [(8,.all),(11,.row binds.length (b6 zBd))] rfl (az trivial)
  have E:=bF.ok E q;rw[bA q];have u:(binds.map b6++[(b6 zBd)]).set binds.length (b6 bd)=(binds++[bd]).map b6:=by
   rw[set_append_right _ _ (by omega),O,B8,Ai];rfl
  have hle:(binds++[bd]).length=binds.length+1:=by rw[ζ];rfl
  refine aC mixed (ak 6 [] rfl (kc E ?_));refine ak 7 [(8,.all),(11,.row binds.length (b6 zBd))] rfl (az ?_);generalize hSe:binds++[bd]=S at u hle ⊢;exact rtN (ho:=⟨⟨_,rfl,.var rfl⟩,⟨_,rfl,.var rfl⟩,⟨_,rfl,.var (by rw[hle,←O];rfl)⟩,⟨_,rfl,Go.AM.Ole.arr⟩,⟨_,rfl,.arrS u⟩,trivial⟩)
theorem aTg (p:Pg) (sigs:List Sg) (deep:Nat) {z:Z}(h:ZA L z) (he:z.e=0) (hN:z.R.length≤N) (hd:deep≤41) (h1:sigs.length≤4001) (h2:p.binds.length≤4001):
  bF Tryz.prog 97 [rP,.one (.vp 4 0),.one (.vp 3 3),I .i64 (deep:Nat)] ((600,rO L z)::aF1 p sigs) (fZ L (.tup []) (aT ex sigs p.binds deep z).2 (aF1 ⟨p.datas,p.classes,p.insts,(aT ex sigs p.binds deep z).1.2⟩ (aT ex sigs p.binds deep z).1.1)):=by
 have hw:=gR h he 1 (by decide);have U:=h.word (k:=1) (by decide);have l1:=Ze.word 1 z;have hsl:(sigs.map cX).length=sigs.length:=κ _;have O:(p.binds.map b6).length=p.binds.length:=κ _;unfold aT;generalize b5 1 z=w at hw U l1 ⊢;obtain⟨A,M⟩:=w;dsimp only at hw U l1 ⊢;refine mE (n:=39) tok Tryz.func97 rfl rfl rfl rfl ?_;by_cases g:M.e=0
 case neg=>
  have hp:=bF.err hw g;rw[kL g];dsimp only;rw[ξ ω];have hb:(dR ex A deep M).2=M:=by
   unfold dR fJ;dsimp only;rw[kK g,dX g,bH g];exact hB _ _ g
  dsimp only;rw[hb,aJ g];exact sk 1 rfl (kp hp)
 have hw:=bF.ok hw g;have hm:=eT U g eQ;have Y:=U.may eQ;have l2:=Ze.may eQ M;have J:=(gX eQ M).trans g;generalize bQ eQ M=m at hm Y l2 J ⊢;obtain⟨b,z2⟩:=m;dsimp only at hm Y l2 J ⊢;refine sk 1 rfl (kc hw ?_);refine ak 2 [(2,.id 40)] rfl (az (aA (sk 1 rfl (kc hm ?_))));refine az ?_;cases b with
 | true=>
  rw[θ rfl];have B:=kV Y J hZ hwt;generalize bO z2=y at B ⊢;obtain⟨s,z3⟩:=y;dsimp only at B ⊢;refine aB rfl (fun _=>?_) (fun hb=>Bool.noConfusion hb);by_cases q:z3.e=0
  case neg=>
   have hp:=bF.err B q;rw[aJ q];refine sk 9 rfl (kpD (.pa (mH jP)) [(600,rO L z2)] hp ?_);exact ak 5 [(11,.all)] rfl (az trivial)
  have B:=bF.ok B q;rw[bA q];have u:sigs.map cX++[cX ⟨A.text,A.pl,s⟩]=(sigs++[(⟨A.text,A.pl,s⟩:Sg)]).map cX:=by rw[Ai];rfl
  have hle:(sigs++[(⟨A.text,A.pl,s⟩:Sg)]).length=sigs.length+1:=by rw[ζ];rfl
  generalize sigs++[(⟨A.text,A.pl,s⟩:Sg)]=S at u hle ⊢;refine sk 9 rfl (kc B ?_);refine ak 5 [(11,.all)] rfl (az (AWp.sub (st2:=mk [] ((600,rO L z3)::aF1 ⟨p.datas,p.classes,p.insts,p.binds⟩ S)) (sl (hh:=⟨⟨_,rfl,.var rfl⟩,⟨_,rfl,.var (by rw[hle,←hsl];rfl)⟩,⟨_,rfl,.var rfl⟩,⟨_,rfl,.arrS u⟩,⟨_,rfl,Go.AM.Ole.arr⟩,⟨_,rfl,Go.AM.Ole.arr⟩,⟨_,rfl,Go.AM.Ole.arr⟩,⟨_,rfl,Go.AM.Ole.arr⟩,trivial⟩)) ?_));exact aF rtN
 | false=>
  rw[ξ ω];have E:=tO hB hS A deep Y J (le_trans (l1.trans l2) hN) hd;generalize dR ex A deep z2=y at E ⊢;obtain⟨bd,z3⟩:=y;dsimp only at E ⊢;have hz0:(p.binds.map b6++[(b6 zBd)])[p.binds.length]?=some (b6 zBd):=by rw[A7 (by omega),O,B8];rfl
  refine aB rfl (fun hb=>Bool.noConfusion hb) (fun _=>aD ?_);by_cases q:z3.e=0
  case neg=>
   have hp:=bF.err E q;rw[aJ q];refine aC mixed (ak 6 [] rfl (kpD (.pa (b6 zBd)) [(600,rO L z2)] hp ?_));exact ak 7 [(8,.all),(11,.row p.binds.length (b6 zBd))] rfl (az trivial)
  have E:=bF.ok E q;rw[bA q];have u:(p.binds.map b6++[(b6 zBd)]).set p.binds.length (b6 bd)=(p.binds++[bd]).map b6:=by
   rw[set_append_right _ _ (by omega),O,B8,Ai];rfl
  have hle:(p.binds++[bd]).length=p.binds.length+1:=by rw[ζ];rfl
  refine aC mixed (ak 6 [] rfl (kc E ?_));refine ak 7 [(8,.all),(11,.row p.binds.length (b6 zBd))] rfl (az ?_);generalize hSe:p.binds++[bd]=S at u hle ⊢;exact rtN (ho:=⟨⟨_,rfl,.var rfl⟩,⟨_,rfl,.var rfl⟩,⟨_,rfl,.var (by rw[hle,←O];rfl)⟩,⟨_,rfl,Go.AM.Ole.arr⟩,⟨_,rfl,.arrS u⟩,⟨_,rfl,Go.AM.Ole.arr⟩,⟨_,rfl,Go.AM.Ole.arr⟩,⟨_,rfl,Go.AM.Ole.arr⟩,trivial⟩)
end
section
variable {σ:Type}(sh:Str) (step:σ→Z→σ×Z)
def lpZ:Nat→Nat→σ→Z→σ×Z
 | 0,_,s,z=>(s,z)
 | f+1,n,s,z=>if(bJ sh n z).1=true then lpZ f (n+1) (step s (bJ sh n z).2).1 (step s (bJ sh n z).2).2 else(s,(bJ sh n z).2)
def u6 (s:σ) (z:Z):σ×Z:=
 ((lpZ bB step ((aQ dS z).R.length+1) 0 s (aQ dS z)).1,aQ bB (lpZ bB step ((aQ dS z).R.length+1) 0 s (aQ dS z)).2)
end
theorem fV {σ:Type}{sh:Str}{step:σ→Z→σ×Z}{f n:Nat}{s:σ}{z:Z}(h:¬z.e=0):lpZ sh step f n s z=(s,z):=by
 cases f with
 | zero=>rfl
 | succ f=>rw[lpZ,aLp h,ξ ω]
theorem pJ (s:Str) (z:Z):moreA s 0 z=z:=ξ fun k=>Ch 0 k.1
theorem sO {σ:Type}{L:List Tk}{sh:Str}{step:σ→Z→σ×Z}{Inv:Nat→σ→Prop}(q:∀n s z,Inv n s→n<60→ZA L z→z.e=0→ZA L (step s z).2∧Inv (n+1) (step s z).1∧((step s z).2.e=0→(step s z).2.R.length<z.R.length)∧Ze z (step s z).2):
  ∀(f n:Nat) (s:σ) (z:Z),n≤60→Inv n s→ZA L z→ZA L (lpZ sh step f n s z).2∧(∃m,m≤60∧Inv m (lpZ sh step f n s z).1)∧Ze z (lpZ sh step f n s z).2
 | 0,n,s,z,hn,g,h=>⟨h,⟨n,hn,g⟩,Ze.refl z⟩
 | f+1,n,s,z,hn,g,h=>by
  rw[lpZ];split
  ·rename_i hm;obtain⟨e,u⟩:=fH hm;obtain⟨y,A,_,B⟩:=q n s _ g (by omega) (h.more sh n) e;obtain⟨E,I,J⟩:=sO q f (n+1) _ _ u A y;exact⟨E,I,((Ze.more sh n z).trans B).trans J⟩
  ·exact⟨h.more _ _,⟨n,hn,g⟩,Ze.more _ _ _⟩
theorem aFv (ex:Nat→Z→Ex×Z) (deep:Nat):∀(f n:Nat) (sigs:List Sg) (binds:List Bd) (z:Z),eP ex deep f n sigs binds z=lpZ bB (fun(s:List Sg×List Bd) z=>aT ex s.1 s.2 deep z) f n (sigs,binds) z
 | 0,_,_,_,_=>rfl
 | f+1,n,sigs,binds,z=>by
  rw[eP,lpZ];split
  ·exact aFv ex deep f _ _ _ _
  ·rfl
def pR:AObj:=.var 107 [.vp 600 0]
def dO (deep:Nat):AObj:=.var 3 [.c (.int .i64 (deep:Nat))]
theorem o6 {L:List Tk}{z:Z}(h:ZA L z):aU Tryz.prog 189 ([]++[R.vp 2 0].map V.one) [(600,rO L z),(2,pR)] (B (dJ bB z)) [(600,rO L z),(2,pR)]:=by
 have hi:=lG h bB;have e:dJ bB z=isZ bB z:=ξ (fun k=>by cases k);rw[e];refine bC (n:=4) tok Tryz.func189 rfl rfl rfl ?_;refine sg rfl (sk 1 rfl (kc hi ?_));exact kz 1 rfl (aF rtT)
theorem aPu (deep:Nat) {step:(List Sg×List Bd)→Z→(List Sg×List Bd)×Z}{Inv:Nat→(List Sg×List Bd)→Prop}{L:List Tk}{N:Nat}
  (hone:∀n s z,Inv n s→n<60→ZA L z→z.e=0→z.R.length≤N→bF Tryz.prog 225 ([]++[R.vp 3 0,R.vp 7 0,R.vp 8 0,R.vp 5 0].map V.one) ((600,rO L z)::(3,pR)::(5,dO deep)::y6 s.1 s.2) (fZ L (.tup []) (step s z).2 ((3,pR)::(5,dO deep)::y6 (step s z).1.1 (step s z).1.2)))
  (hst:∀n s z,Inv n s→n<60→ZA L z→z.e=0→ZA L (step s z).2∧Inv (n+1) (step s z).1∧((step s z).2.e=0→(step s z).2.R.length<z.R.length)∧Ze z (step s z).2)
  {z:Z} (h:ZA L z) (he:z.e=0) (hN:z.R.length≤N) {s:(List Sg×List Bd)} (hI:Inv 0 s):
  bF Tryz.prog 90 [rP,.one (.clo 189 [R.vp 2 0]),.one (.clo 225 [R.vp 3 0,R.vp 7 0,R.vp 8 0,R.vp 5 0])] ((600,rO L z)::(2,pR)::(3,pR)::(5,dO deep)::y6 s.1 s.2) (fZ L (.tup []) (lpZ bB step (z.R.length+1) 0 s z).2 ((2,pR)::(3,pR)::(5,dO deep)::y6 (lpZ bB step (z.R.length+1) 0 s z).1.1 (lpZ bB step (z.R.length+1) 0 s z).1.2)):=by
 have u:∃W,W=lpZ bB step (z.R.length+1) 0 s z:=⟨_,rfl⟩
 obtain⟨W,u⟩:=u;rw[←u];refine mE (n:=35) tok Tryz.func90 rfl rfl rfl rfl ?_;refine sg rfl (aE (aL (fun q:Nat×(List Sg×List Bd)×Z×Nat=>mk [(0,rP),(1,.one (.clo 189 [R.vp 2 0])),(2,.one (.clo 225 [R.vp 3 0,R.vp 7 0,R.vp 8 0,R.vp 5 0])),(6,I .i64 (q.1:Nat))] ((600,rO L q.2.2.1)::(2,pR)::(3,pR)::(5,dO deep)::y6 q.2.1.1 q.2.1.2)) (fun q=>Inv q.1 q.2.1∧q.1≤60∧ZA L q.2.2.1∧q.2.2.1.e=0∧q.2.2.1.R.length≤N∧q.2.2.1.R.length<q.2.2.2∧moreA bB q.1 q.2.2.1=q.2.2.1∧W=lpZ bB step q.2.2.2 q.1 q.2.1 q.2.2.1) (fun q=>q.2.2.1.R.length) (0,s,z,z.R.length+1) ⟨hI,Ac _,h,he,hN,B2 _,pJ _ _,u⟩ sl ?_));clear u h he hN hI;rintro⟨n,s,z,f⟩ ⟨hI,hn,h,he,hN,hf,hA,u⟩;dsimp only at hI hn h he hN hf hA u;refine aE (aA (aE (aL (fun y:Z=>mk [(0,rP),(1,.one (.clo 189 [R.vp 2 0])),(2,.one (.clo 225 [R.vp 3 0,R.vp 7 0,R.vp 8 0,R.vp 5 0])),(6,I .i64 (n:Nat))] ((600,rO L y)::(2,pR)::(3,pR)::(5,dO deep)::y6 s.1 s.2)) (fun y=>ZA L y∧y.e=0∧cO z=cO y∧y.R.length≤z.R.length) (fun y=>y.R.length) z ⟨h,he,rfl,le_refl _⟩ sl ?_)));rintro y ⟨h2,B,e2,hle2⟩

 have hm:=eT h2 B cC;obtain⟨m1,m2,m3⟩:=kU h2;have O:=h2.may cC;have he3:=(gX cC y).trans B;generalize bQ cC y=m at hm m1 m2 m3 O he3;obtain⟨b,z3⟩:=m;dsimp only at m1 m2 m3 O he3;refine aA (sk 1 rfl (kc hm ?_));refine az (aB rfl (fun hb=>?_) (fun hb=>?_))
 ·have hb:b=true:=hb;have:=m3 hb;exact aD (aE (aD ⟨z3,⟨O,he3,e2.trans m1.symm,by omega⟩,m3 hb,sl⟩))
 have hb:b=false:=hb;obtain⟨g1,g2⟩:=m2 hb;subst g1;have e3:cO z=z3:=e2.trans g2;clear m1 m2 m3 O e2 hm;have hf0:∃g,f=g+1:=⟨f-1,by omega⟩
 obtain⟨f,rfl⟩:=hf0;rw[lpZ] at u;unfold bJ at u;rw[hA,e3] at u;have hs3:=o6 h2;have hn3:=dU h2;refine aG (aA (sk 1 rfl (kv (args:=[]) hs3 ?_)));refine az (aB rfl (fun hb=>?_) (fun hb=>?_))
 ·have hb:dJ bB z3=true:=hb;rw[θ (show ¬z3.e=0∨dJ bB z3=true from .inr hb)] at u;rw[ξ ω] at u;rw[u,bA B];exact aF rtN
 have hb:dJ bB z3=false:=hb;have hnb:¬(¬z3.e=0∨dJ bB z3=true):=fun k=>k.elim (fun k=>k B) fun k=>by rw[hb] at k;cases k
 rw[ξ hnb] at u;refine aD ?_;by_cases hn60:n<60
 case neg=>
  have d:decide (((n:Nat):Int)<60)=false:=ψ (by omega);rw[fN (by omega) B] at u;dsimp only at u;rw[ψ cH,ξ ω] at u;rw[u,aJ cH];have hmn:=bM 2 (b4 z3).pl;refine sk 5 rfl (kc hn3 ?_);refine ak 1 [] rfl ?_;rw[d];exact kp hmn
 have d:decide (((n:Nat):Int)<60)=true:=φ (by omega);rw[fM (by omega),φ B,θ rfl] at u;have hmo:=bL 2 (b4 z3).pl;refine sk 5 rfl (kc hn3 ?_);refine ak 1 [] rfl ?_;rw[d];refine kc hmo ?_;refine az ?_;have ho:=hone n s z3 hI hn60 h2 B (by omega);obtain⟨E,k2,k3,_⟩:=hst n s z3 hI hn60 h2 B;generalize step s z3=y at ho E k2 k3 u;obtain⟨s4,z4⟩:=y;dsimp only at ho E k2 k3 u;by_cases A:z4.e=0
 case neg=>
  have hp:=bF.err ho A;rw[fV A] at u;rw[u,aJ A];exact sk 1 rfl (kpv (args:=[]) hp)
 have ho:=bF.ok ho A;have k3:=k3 A;refine sk 1 rfl (kv (args:=[]) ho ?_);refine az (aA (agN [] rfl ?_));have hlp:=E.lp;have J:=lG E cC;have hn4:=dU E;have U:=o6 E;have hmo4:=bL 12 (b4 z4).pl;cases Y:isZ cC z4 with
 | true=>
  rw[Y] at J;have M:moreA bB (n+1) z4=z4:=ξ fun k=>by rw[Y] at k;cases k.2.2.1
  refine aC mixed (ak 1 [] rfl (kc J ?_));refine ak 7 [(2,.bv true),(5,.bv true)] rfl (kc hn4 ?_);refine ak 1 [(2,.bv true),(5,.bv true)] rfl (kc hmo4 ?_);exact az ⟨(n+1,s4,z4,f),⟨k2,by omega,E,A,by dsimp only;omega,by dsimp only;omega,M,u⟩,by dsimp only;omega,sl⟩
 | false=>
  rw[Y] at J;cases aa:dJ bB z4 with
  | true=>
   rw[aa] at U;have M:moreA bB (n+1) z4=z4:=ξ fun k=>by rw[aa] at k;cases k.2.2.2
   refine aC mixed (ak 1 [] rfl (kc J ?_));refine ak 2 [(2,.bv false)] rfl (kvG (args:=[]) U ?_);refine ak 4 [(2,.bv false),(5,.bv false)] rfl (kc hn4 ?_);refine ak 1 [(2,.bv false),(5,.bv false)] rfl (kc hmo4 ?_);exact az ⟨(n+1,s4,z4,f),⟨k2,by omega,E,A,by dsimp only;omega,by dsimp only;omega,M,u⟩,by dsimp only;omega,sl⟩
  | false=>
   rw[aa] at U;have hmn4:=bM 12 (b4 z4).pl;have M:moreA bB (n+1) z4=⟨z4.R,12,(b4 z4).pl⟩:=(θ ⟨succ_pos n,A,Y,aa⟩).trans (θ A);have h12:¬(12:Int)=0:=by decide
   have hWb:W.2=⟨z4.R,12,(b4 z4).pl⟩:=by
    obtain⟨f,rfl⟩:∃g,f=g+1:=⟨f-1,by omega⟩
    rw[lpZ] at u;unfold bJ at u;rw[M,kX h12,θ (show ¬(Z.mk z4.R 12 (b4 z4).pl).e=0∨_ from .inl h12),ξ ω] at u;rw[u]
   rw[hWb,aJ h12];refine aC mixed (ak 1 [] rfl (kc J ?_));refine ak 2 [(2,.bv false)] rfl (kvG (args:=[]) U ?_);refine ak 4 [(2,.bv false),(5,.bv false)] rfl (kc hn4 ?_);refine ak 1 [(2,.bv false),(5,.bv false)] rfl (kpD (.tup []) [] hmn4 ?_);exact az trivial
theorem aK8 (deep:Nat) {step:(List Sg×List Bd)→Z→(List Sg×List Bd)×Z}{Inv:Nat→(List Sg×List Bd)→Prop}{L:List Tk}{N:Nat}
  (I:∀n s z,Inv n s→n<60→ZA L z→z.e=0→z.R.length≤N→bF Tryz.prog 225 ([]++[R.vp 3 0,R.vp 7 0,R.vp 8 0,R.vp 5 0].map V.one) ((600,rO L z)::(3,pR)::(5,dO deep)::y6 s.1 s.2) (fZ L (.tup []) (step s z).2 ((3,pR)::(5,dO deep)::y6 (step s z).1.1 (step s z).1.2)))
  (E:∀n s z,Inv n s→n<60→ZA L z→z.e=0→ZA L (step s z).2∧Inv (n+1) (step s z).1∧((step s z).2.e=0→(step s z).2.R.length<z.R.length)∧Ze z (step s z).2)
  {z:Z} (h:ZA L z) (he:z.e=0) (hN:z.R.length≤N) {s:(List Sg×List Bd)} (J:Inv 0 s):
  bF Tryz.prog 143 [rP,.one (.clo 225 [R.vp 3 0,R.vp 7 0,R.vp 8 0,R.vp 5 0])] ((600,rO L z)::(3,pR)::(5,dO deep)::y6 s.1 s.2) (fZ L (.tup []) (u6 step s z).2 ((3,pR)::(5,dO deep)::y6 (u6 step s z).1.1 (u6 step s z).1.2)):=by
 have g:=cY h he dS;have h1:=h.need dS;have M:=Ze.need dS z;unfold u6;generalize aQ dS z=B at g h1 M ⊢;have U:B.R.length≤z.R.length:=M;refine mE (n:=12) tok Tryz.func143 rfl rfl rfl rfl ?_;refine sg rfl ?_;by_cases q:B.e=0
 case neg=>
  have hp:=bF.err g q;rw[fV q];dsimp only;rw[bH q,aJ q];exact sk 1 rfl (kp hp)
 have g:=bF.ok g q;refine sk 1 rfl (kc g ?_);refine az ?_;have u:=aPu deep (step:=step) (Inv:=Inv) (L:=L) (N:=N) I E h1 q (by omega) J;have hok:=(sO (sh:=bB) E (B.R.length+1) 0 s B (Ac _) J h1).1
 generalize lpZ bB step (B.R.length+1) 0 s B=W at u hok ⊢;obtain⟨s2,O⟩:=W;dsimp only at u hok ⊢;by_cases y:O.e=0
 case neg=>
  have hp:=bF.err u y;rw[bH y,aJ y];exact sk 3 rfl (kp hp)
 have u:=bF.ok u y;refine sk 3 rfl (kc u ?_);refine az ?_;have g:=cY hok y bB;generalize aQ bB O=z3 at g ⊢;by_cases A:z3.e=0
 case neg=>
  have hp:=bF.err g A;rw[aJ A];exact aC mixed (ak 1 [] rfl (kp hp))
 have g:=bF.ok g A;rw[bA A];refine aC mixed (ak 1 [] rfl (kc g ?_));exact az rtN
theorem k9:∀{l:List Sg}{b:List Bd}{z:Z},(cS l b z).2.e=0→(cS l b z).2=z
 | [],b,z,_=>rfl
 | s::l,b,z,h=>by
  rw[cS] at h ⊢;by_cases he:z.e=0
  case neg=>rw[ξ he]
  rw[θ he] at h ⊢;have hb:∀e p:Int,¬e=0→(cS l b (bS e p z)).2.e=0→False:=fun e p g h0=>by
   have u:bS e p z=⟨z.R,e,p⟩:=θ he;rw[u,mT (show ¬(Z.mk z.R e p).e=0 from g)] at h0;exact g h0
  cases q:b.findIdx? (fun x=>decide (x.name=s.name)) with
  | none=>rw[q] at h;exact(hb 21 _ (by decide) h).elim
  | some k=>
   rw[q] at h;dsimp only at h ⊢;cases hx:b[k]? with
   | none=>rfl
   | some x=>
    rw[hx] at h;dsimp only at h ⊢;by_cases hh:x.has=true
    ·rw[θ hh] at h;exact(hb 20 _ (by decide) h).elim
    ·rw[ξ hh] at h ⊢;exact k9 h
section
variable {L:List Tk}{ex:Nat→Z→Ex×Z}{N:Nat}(hB:tZ ex) (hS:aNr L ex N) (hZ:o7 L) (hwt:wt L≤30000)
include hB hS hZ hwt
theorem aTr (sigs:List Sg) (binds:List Bd) (deep:Nat) {z:Z}(h:ZA L z) (he:z.e=0) (hN:z.R.length≤N) (u:deep≤40) (h1:sigs.length≤4001) (h2:binds.length≤4001):
  bF Tryz.prog 225 ([]++[R.vp 3 0,R.vp 7 0,R.vp 8 0,R.vp 5 0].map V.one) ((600,rO L z)::(3,pR)::(5,dO deep)::y6 sigs binds) (fZ L (.tup []) (aT ex sigs binds (deep+1) z).2 ((3,pR)::(5,dO deep)::y6 (aT ex sigs binds (deep+1) z).1.1 (aT ex sigs binds (deep+1) z).1.2)):=by
 have hs:=aTh hB hS hZ hwt sigs binds (deep+1) h he hN (by omega) h1 h2;generalize aT ex sigs binds (deep+1) z=y at hs ⊢;obtain⟨⟨S,Bs⟩,q⟩:=y;dsimp only at hs ⊢;refine mE (n:=8) tok Tryz.func225 rfl rfl rfl rfl ?_;by_cases g:q.e=0
 case neg=>
  have hp:=bF.err hs g;rw[aJ g];exact aC mixed (akN 3 [] rfl (kp hp))
 have hs:=bF.ok hs g;rw[bA g];refine aC mixed (akN 3 [] rfl (kc hs ?_));exact az rtN
omit hB hS hZ hwt
theorem aJ4 (deep:Nat) (z:Z):lC ex deep z=lpZ bB (fun(s:List Sg×List Bd) z=>aT ex s.1 s.2 (deep+1) z) ((aQ dS z).R.length+1) 0 ([],[]) (aQ dS z):=aFv ex (deep+1) _ _ _ _ _
include hB hS hZ hwt
theorem aTq (hO:ExO L ex) (a:Int) (deep:Nat) {z:Z}(h:ZA L z) (he:z.e=0) (hN:z.R.length≤N) (hd:deep≤40):bF Tryz.prog 216 [rP,I .i64 a,I .i64 (deep:Nat)] [(600,rO L z)] (fZ L (.pa (bD (rA ex a deep z).1)) (rA ex a deep z).2 []):=by
 have hst:∀(n:Nat) (s:List Sg×List Bd) (z:Z),(fX s.1∧fA s.2∧s.1.length≤n∧s.2.length≤n)→n<60→ZA L z→z.e=0→ZA L (aT ex s.1 s.2 (deep+1) z).2∧(fX (aT ex s.1 s.2 (deep+1) z).1.1∧fA (aT ex s.1 s.2 (deep+1) z).1.2∧(aT ex s.1 s.2 (deep+1) z).1.1.length≤n+1∧(aT ex s.1 s.2 (deep+1) z).1.2.length≤n+1)∧((aT ex s.1 s.2 (deep+1) z).2.e=0→(aT ex s.1 s.2 (deep+1) z).2.R.length<z.R.length)∧Ze z (aT ex s.1 s.2 (deep+1) z).2:=fun n s z J hn h he=>by
  obtain⟨k1,k2,k3,k4,k5,k6,k7⟩:=iG hO hwt s.1 s.2 (deep+1) h J.1 J.2.1;exact⟨k1,⟨k2,k3,by have:=J.2.2.1;omega,by have:=J.2.2.2;omega⟩,k6,k7⟩
 have hI0:fX ([]:List Sg)∧fA ([]:List Bd)∧([]:List Sg).length≤0∧([]:List Bd).length≤0:=⟨fun s hs=>(by cases hs),trivial,le_refl _,le_refl _⟩
 have q:=aK8 deep (step:=fun(s:List Sg×List Bd) z=>aT ex s.1 s.2 (deep+1) z) (Inv:=fun n s=>fX s.1∧fA s.2∧s.1.length≤n∧s.2.length≤n) (L:=L) (N:=N) (fun n s z J hn h he hN=>aTr hB hS hZ hwt s.1 s.2 deep h he hN hd (by have:=J.2.2.1;omega) (by have:=J.2.2.2;omega)) hst h he hN (s:=([],[])) hI0;have hok:=sO (sh:=bB) (Inv:=fun n (s:List Sg×List Bd)=>fX s.1∧fA s.2∧s.1.length≤n∧s.2.length≤n) hst ((aQ dS z).R.length+1) 0 ([],[]) (aQ dS z) (Ac _) hI0 (h.need dS);unfold u6 at q;unfold rA;rw[aJ4];unfold aCu;have l0:(aQ dS z).R.length≤z.R.length:=Ze.need dS z;generalize aQ dS z=z1 at q hok l0 ⊢;generalize lpZ bB (fun(s:List Sg×List Bd) z=>aT ex s.1 s.2 (deep+1) z) (z1.R.length+1) 0 ([],[]) z1=W at q hok ⊢;obtain⟨⟨sigs,binds⟩,U⟩:=W;dsimp only at q hok ⊢;obtain⟨g1,⟨m,hm60,hs,hb,hsl,hbl'⟩,g3⟩:=hok

 have h3:=g1.need bB;have l3:(aQ bB U).R.length≤U.R.length:=Ze.need bB U;have g3:U.R.length≤z1.R.length:=g3;generalize aQ bB U=z3 at q h3 l3 ⊢;refine mE (n:=25) tok Tryz.func216 rfl rfl rfl rfl ?_;refine sg rfl (sg rfl (sg rfl (AWp.sub (Sub.ownCell (x:=7) (k:=0) (id:=510) 121 9 rfl rfl rfl) ?_)));refine AWp.sub (Sub.ownCell (x:=8) (k:=0) (id:=511) 103 33 rfl rfl rfl) ?_;by_cases u:z3.e=0
 case neg=>
  have hp:=bF.err q u;rw[mT u,bH u,hB _ _ u,aJ u];exact sk 2 rfl (kp hp)
 have q:=bF.ok q u;refine sk 2 rfl (kc q ?_);refine az ?_;have g:=aG8 sigs binds u (by omega) (by omega);obtain⟨p1,p2,p3,p4⟩:=fY sigs binds z3 h3 hs hb;have Y:= @k9 sigs binds z3;generalize cS sigs binds z3=y at g p1 p2 p3 p4 Y ⊢;obtain⟨Bs,O⟩:=y;dsimp only at g p1 p2 p3 p4 Y ⊢;have p4:O.R.length≤z3.R.length:=p4;unfold aRd at g;dsimp only at g;refine AWp.sub (Sub.freeze (id:=510) rfl) ?_;by_cases A:O.e=0
 case neg=>
  rw[ξ A] at g;have hp:aB2 _ _ _ _ _:=g;rw[bH A,hB _ _ A,aJ A];exact sk 2 rfl (kp hp)
 rw[θ A] at g;have g:aU _ _ _ _ _ _:=g;obtain rfl:=Y A;have hBl:binds.length=(Bs.map b6).length:=by rw[κ,p3]
 refine sk 2 rfl (kc g ?_);refine kz 1 rfl ?_;have B:=cY p1 A inS;have h7:=p1.need inS;have l7:(aQ inS O).R.length≤O.R.length:=Ze.need inS O;generalize aQ inS O=z7 at B h7 l7 ⊢;by_cases E:z7.e=0
 case neg=>
  have hp:=bF.err B E;rw[hB _ _ E,aJ E];exact sk 1 rfl (kp hp)
 have B:=bF.ok B E;refine sk 1 rfl (kc B ?_);refine az ?_;have hex:=hS (deep+1) z7 h7 E (by omega) (by omega);generalize ex (deep+1) z7=y at hex ⊢;obtain⟨e,z8⟩:=y;dsimp only at hex ⊢;refine AWp.sub (Sub.freeze (id:=511) rfl) ?_;by_cases M:z8.e=0
 case neg=>
  have hp:=bF.err hex M;rw[aJ M];refine aA (aC mixed (akN 5 [] rfl (kpD (.pa (bD zEx)) [(600,rO L z7)] hp ?_)));exact ak 3 [(6,.all)] rfl (az trivial)
 have hex:=bF.ok hex M;rw[bA M];refine aA (aC mixed (akN 5 [] rfl (kc hex ?_)));refine ak 3 [(6,.all)] rfl (az ?_);unfold bD;rw[aA2];exact aF (rtC trw (hc:=.agg (.c .refl (.c .refl (.c .refl (.c .refl (.c .refl (.c .nl (.hs rfl hBl (Go.AM.take_all hBl) (.c .nl (.c .nl (.c .nl (.c .refl (.c .refl (.c .refl (.c .nl (.c .nl .nil)))))))))))))))))
end
end Go.Proofs.YtkhgpgihmphfdaaGreat
