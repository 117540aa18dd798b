/-
  Texts Lg14 to Ly3 in one.
-/
import Derived.Test.YtockgoadliilhaaGreatDoorM8
open List (append_nil cons_append drop_left filter_cons flatMap_cons flatMap_nil flatten_cons length_append length_cons length_drop length_eq_one_iff length_eq_zero_iff length_map length_nil length_set length_take map_congr_left map_cons map_map map_nil mem_append mem_cons mem_cons_of_mem mem_cons_self mem_filter mem_flatMap mem_map mem_of_mem_drop mem_of_mem_take mem_singleton nil_append nodup_append nodup_nil not_mem_nil set_cons_succ take_add_one take_left take_length take_of_length_le)
open Nat (add_assoc add_mul add_zero beq_refl eq_of_beq_eq_true le_mul_of_pos_right le_of_ble_eq_true le_refl le_trans max_le min_eq_left mul_le_mul_right mul_one sub_self zero_add zero_le)
namespace Go.Proofs.YtockgoadliilhaaGreatDoor
open Go Go.AM
set_option maxRecDepth 20000
def uA (i:Nat) (al:List Alt):List (Nat×AObj):=(fam 0 al).filter fun p=>!Nat.beq p.1 (i+800)
theorem uK {a b:Nat}(h:a≠b):Nat.beq a b=false:=by
 cases hb:Nat.beq a b with
 | false=>rfl
 | true=>exact absurd (Ab hb) h
theorem x4 {i:Nat}{al:List Alt}{p:Nat×AObj}(h:p∈uA i al):p∈fam 0 al∧p.1≠i+800:=by
 obtain⟨h1,h2⟩:=mem_filter.1 h;refine⟨h1,fun e=>?_⟩;rw[e,B4] at h2;cases h2
theorem aBy {i:Nat}{al:List Alt}:TF (uA i al):=⟨fun p hp=>fD.far p (x4 hp).1,by
 have:((uA i al).map (·.1)).Sublist ((fam 0 al).map (·.1)):=(List.filter_sublist ..).map _
 exact List.Nodup.sublist this kZ,fun p hp=>fD.arr p (x4 hp).1⟩
theorem pH:∀{l:List Alt}{k i x:Nat},x∈c7 ((aT k l).set i [])→∃j,j<l.length∧j≠i∧x=k+j+800
 | [],_,_,_,h=>by simp[aT,c7] at h
 | a::l,k,0,x,h=>by
  have h:x∈c7 (aT (k+1) l):=by simpa [aT,c7,R.refsL] using h
  obtain⟨p,hp,e⟩:=Ad.1 (cV x h);obtain⟨j,b,hj,rfl⟩:=n5 hp;have I:j<l.length:=(ε.1 hj).1
  exact⟨j+1,by simp;exact I,by omega,by rw[←e];show k+1+j+800=_;omega⟩
 | a::l,k,i+1,x,h=>by
  rcases ω.1 (show x∈R.refsL (dL k a)++c7 ((aT (k+1) l).set i []) from h) with h | h
  ·exact⟨0,by simp,by omega,by rw[pA h]⟩
  ·obtain⟨j,h1,h2,h3⟩:=pH h;exact⟨j+1,by simp;exact h1,by omega,by omega⟩
theorem aO7 {i j:Nat}{al:List Alt}(h:j<al.length) (I:j≠i):0+j+800∈keys (uA i al):=by
 obtain⟨a,ha⟩:=aK h;exact Ad.2 ⟨_,mem_filter.2 ⟨zE ha,by simp only[uK (show 0+j+800≠i+800 by omega)];rfl⟩,rfl⟩
theorem vE {i j:Nat}(h:j≠704) (I:j≠i+800):swp 704 (i+800) j=j:=by unfold swp;rw[uK h,uK I];rfl
theorem tJ {σ:Nat→Nat}:∀{l:List Alt}{k i:Nat}{a:Alt}{r:List R},l[i]?=some a→(∀j,j<l.length→j≠i→σ (k+j+800)=k+j+800)→R.renL σ r=dL (k+i) a→mI σ ((aT k l).set i r)=aT k l
 | b::l,k,0,a,r,h,hσ,I=>by
  simp at h;subst h;show R.renL σ r::mI σ (aT (k+1) l)=_;have key:∀(l:List Alt) (k:Nat),(∀j,j<l.length→σ (k+j+800)=k+j+800)→mI σ (aT k l)=aT k l:=by
   intro l
   induction l with
   | nil=>intro _ _;rfl
   | cons c l J=>
    intro k hk;simp only[aT,mI]
    rw[jM,show σ (k+800)=k+800 from hk 0 (by simp),J (k+1) fun j hj=>by
     have:=hk (j+1) (by simp;exact hj)
     rwa [show k+(j+1)+800=k+1+j+800 by omega] at this];rfl
  rw[I,key l (k+1) fun j hj=>by
   have:=hσ (j+1) (by simp;exact hj) (by omega)
   rwa [show k+(j+1)+800=k+1+j+800 by omega] at this];rfl
 | b::l,k,i+1,a,r,h,hσ,I=>by
  show R.renL σ (dL k b)::mI σ ((aT (k+1) l).set i r)=_
  rw[jM,show σ (k+800)=k+800 from hσ 0 (by simp) (by omega),tJ (l:=l) (k:=k+1) (a:=a) (by simpa using h) (fun j hj N=>by
   have:=hσ (j+1) (by simp;exact hj) (by omega)
   rwa [show k+(j+1)+800=k+1+j+800 by omega] at this) (by rw[I,show k+1+i=k+(i+1) by omega])];rfl
theorem aJ9 {i:Nat}{al:List Alt}{j:Nat}(h:j≠i+800):Go.AM.look (uA i al) j=Go.AM.look (fam 0 al) j:=by
 unfold uA;generalize fam 0 al=F
 induction F with
 | nil=>rfl
 | cons p F I=>
  obtain⟨k,o⟩:=p;rw[Cu];simp only[Go.AM.look];by_cases hk:k=i+800
  ·rw[hk,B4];simp only[Bool.not_true,Bc,Bt];rw[I,uK h];rfl
  ·rw[uK hk];simp only[Bool.not_false,Cn,Go.AM.look];cases Nat.beq j k
   ·simpa using I
   ·rfl
theorem aO6 {i:Nat}{al:List Alt}:renH (swp 704 (i+800)) (uA i al)=uA i al:=by
 have key:∀F:List (Nat×AObj),(∀p∈F,p∈uA i al)→renH (swp 704 (i+800)) F=F:=by
  intro F
  induction F with
  | nil=>intro _;rfl
  | cons p F I=>
   intro h;have hp:=x4 (h p ζ);obtain⟨te,es,l,z,e⟩:=fD.arr p hp.1;have J:=fD.far p hp.1;show(swp 704 (i+800) p.1,p.2.ren _)::renH _ F=_;rw[I fun q N=>h q (κ _ N),vE (by omega) hp.2,e];show(p.1,AObj.arr te es l z)::F=_;rw[←e]
 exact key _ fun _ h=>h
abbrev aX (i:Nat) (al:List Alt) (a:Alt) (nv:Nat):List (Nat×AObj):=aH ((aT 0 al).set i []) i a.form a.n a.name nv a.vars a.body++uA i al
theorem aKa {i:Nat}{al:List Alt}{a:Alt}(J:al[i]?=some a):Go.AM.look (renH (swp 704 (i+800)) (aX i al a a.vars.length))=Go.AM.look ((703,.rarr 88 14 (aT 0 al))::fam 0 al):=by
 have N:renH (swp 704 (i+800)) (aX i al a a.vars.length)=(703,.rarr 88 14 (aT 0 al))::(i+800,.arr 9 1 (a.vars.map bO) 0)::uA i al:=by
  unfold aX aH;show(swp 704 (i+800) 703,AObj.rarr _ _ (mI _ _))::(swp 704 (i+800) 704,AObj.arr _ _ _ _)::renH _ (uA i al)=_;rw[aO6,vE (by omega) (by omega),aVs];have I:swp 704 (i+800) 704=i+800:=by unfold swp;rw[B4];rfl
  rw[I,tJ J (fun j hj O=>vE (by omega) (by omega)) ?_];unfold aDq dL;simp only[A9,Be,R.renL,R.ren,aIl,I,Bd]
 rw[N];funext j;by_cases h1:j=703
 ·subst h1;rw[dG,dG]
 rw[dQ h1,dQ h1];by_cases h2:j=i+800
 ·subst h2;rw[dG];have:=oH (kZ (l:=al) (k:=0)) _ (zE J);rw[Bd] at this;exact this.symm
 ·rw[dQ h2,aJ9 h2]
theorem mP:∀{l:List Alt}{k i:Nat}{I:Alt},(aT k (l.set i I)).set i []=(aT k l).set i []
 | [],_,_,_=>rfl
 | b::l,k,0,I=>rfl
 | b::l,k,i+1,I=>by
  simp only[Cp,aT];rw[mP]
theorem aO5 {i:Nat}{al:List Alt}{I:Alt}:uA i (al.set i I)=uA i al:=by
 unfold uA;have key:∀(l:List Alt) (k j:Nat),k+j=i→((fam k (l.set j I)).filter fun p=>!Nat.beq p.1 (i+800))=(fam k l).filter fun p=>!Nat.beq p.1 (i+800):=by
  intro l
  induction l with
  | nil=>intro _ _ _;rfl
  | cons b l J=>
   intro k j h;cases j with
   | zero=>
    have e:k=i:=by omega
    subst e;simp only[List.set_cons_zero,fam,Cu,B4,Bool.not_true];rfl
   | succ j=>
    simp only[Cp,fam,Cu];rw[J (k+1) j (by omega)]
 exact key al 0 i (by omega)
theorem aT3 (al:List Alt) (i:Nat) (a:Alt) (J:al[i]?=some a) (s:Str) (b:Core) (sb:Core→Str→Core→Core) (P:Core→Prop) (hok:PutOk sb P s b [a.body])
  (hM:(pfR a.body).length+2*a.vars.length+(pfR b).length+1≤540000000000) (nv:Nat) (W:nv=a.vars.length) (Y:Nat) (Z:Y=al.length):
  ∃q,(cD sb s b a.vars [a.body]).2=[q]∧aW Tryz.prog 126 [.ma [.ras nv 1 (vR i nv nv).flatten,.ras 1 1 [.rp 703 i 4 Y]],Go.AM.T s,.pa (aB b)] ((703,.rarr 88 14 (aT 0 al))::fam 0 al) (.tup [])
   ((703,.rarr 88 14 (aT 0 (al.set i (.mk a.form a.n a.name (cD sb s b a.vars [a.body]).1 q))))::fam 0 (al.set i (.mk a.form a.n a.name (cD sb s b a.vars [a.body]).1 q))):=by
 subst W;subst Z;have aa:i<al.length:=(ε.1 J).1
 have ab:((aT 0 al).set i []).length=al.length:=by rw[B0,dS]
 have hr:∀x∈c7 ((aT 0 al).set i []),x∈keys (uA i al):=fun x hx=>by
  obtain⟨j,h1,h2,rfl⟩:=pH hx;exact aO7 h1 h2
 obtain⟨q,hq,h⟩:=aXr ((aT 0 al).set i []) i a.form a.n a.name a.vars.length a.vars a.body (uA i al) s b sb P aBy hr (by omega) rfl hok hM;refine⟨q,hq,?_⟩;have hl1:=(pV (sb:=sb) (s:=s) (b:=b) (ns:=a.vars) (ps:=[a.body])).1
 rw[ab] at h;have I:∀(ns:List Str) (p:Core),subset (dM (aH ((aT 0 al).set i []) i a.form a.n a.name a.vars.length ns p++uA i al)) (keys (aH ((aT 0 al).set i []) i a.form a.n a.name a.vars.length ns p++uA i al))=true:=fun ns p=>eE (nA aBy (aHW aBy hr).refs)
 have h2:=aW.swap 704 (i+800) h (I _ _) (eE fun x hx=>by
  have hx:x∈(grO (aN a.vars.length) (aP i al.length)).refs++([]++([]++[])):=hx;rw[A8,A8,A8] at hx;rcases aCf x hx with rfl | rfl
  ·simp[aH,keys]
  ·simp[aH,keys]) (I _ _) rfl
 have ea:V.renL (swp 704 (i+800)) [gpV (aN a.vars.length) (aP i al.length),Go.AM.T s,.pa (aB b)]=[.ma [.ras a.vars.length 1 (vR i a.vars.length a.vars.length).flatten,.ras 1 1 [.rp 703 i 4 al.length]],Go.AM.T s,.pa (aB b)]:=by
  have N:swp 704 (i+800) 704=i+800:=by unfold swp;rw[B4];rfl
  have en:R.renL (swp 704 (i+800)) (aN a.vars.length)=(vR i a.vars.length a.vars.length).flatten:=by
   unfold aN vR rgR;generalize List.range a.vars.length=rg
   induction rg with
   | nil=>rfl
   | cons j rg ih=>
    simp only[Al,Bi,List.singleton_append,R.renL,R.ren,N] at ih ⊢;rw[ih]
  unfold gpV aP;simp only[V.renL,V.ren,R.renL,R.ren,en,aR0,vE (show 703≠704 by omega) (show 703≠i+800 by omega)];rfl
 rw[ea] at h2;refine aW.row h2 (aKa J).symm ?_;have O:(al.set i (.mk a.form a.n a.name (cD sb s b a.vars [a.body]).1 q))[i]?=some (.mk a.form a.n a.name (cD sb s b a.vars [a.body]).1 q):=Cj aa;have h3:=aKa O;unfold aX at h3;rw[mP,aO5] at h3;rw[←h3];show Go.AM.look (renH _ (aH _ i a.form a.n a.name (cD sb s b a.vars [a.body]).1.length _ _++uA i al))=_;rw[hl1];rfl
def gG (h:cO):Prop:=∀i,800≤i→h i=none
theorem gG.nil:gG (Go.AM.look []):=fun _ _=>rfl
theorem gG.upd {h:cO}{k:Nat}{x:Option AObj}(hf:gG h) (hk:Nat.blt k 800=true:=by rfl):gG (upd h k x):=fun i hi=>by
 have:=Ap hk;rw[b8 _ _ _ (by omega)];exact hf i hi
theorem aEd:∀bs:List Bind,mkB (bs.map Bind.ty) (bs.map Bind.name) (bs.map Bind.body)=bs
 | []=>rfl
 | .mk s t c::bs=>by
  show Bind.mk s t c::mkB _ _ _=_;rw[aEd bs]
theorem aZl {b:Bool}{nk nb:Nat}(h:b=false):oI b nk nb=[.ras (tN nb).length 1 (tN nb),.ras (tP nk nb).length 1 (tP nk nb)]:=by
 subst h;have I:(nR false nb nb).length=(tN nb).length:=by unfold tN;rw[mC aH6,mul_one]
 have J:(pR nk nb nb).length=(tP nk nb).length:=by unfold tP;rw[mC tV,mul_one]
 unfold oI;rw[I,J];rfl
section
variable {clr:Core→List Str→Core}{k:Nat}
noncomputable def lV (sb:Core→Str→Core→Core) (s:Str) (b:Core) (a:Alt):Alt:=.mk a.form a.n a.name (cD sb s b a.vars [a.body]).1 ((cD sb s b a.vars [a.body]).2.headD a.body)
noncomputable def sC (sb:Core→Str→Core→Core) (s:Str) (b:Core) (al:List Alt) (i:Nat):List Alt:=(al.take i).map (lV sb s b)++al.drop i
theorem xK {sb:Core→Str→Core→Core}{s:Str}{b:Core}{al:List Alt}{i:Nat}:(sC sb s b al i).length=al.length:=by unfold sC;simp;omega
theorem aUj {sb:Core→Str→Core→Core}{s:Str}{b:Core}{al:List Alt}{i:Nat}{a:Alt}(h:al[i]?=some a):(sC sb s b al i)[i]?=some a:=by
 have I:i<al.length:=(ε.1 h).1
 unfold sC;rw[Ay (by simp;omega),ξ,At,B8 (by omega),sub_self,An,Bu,h]
theorem aMi {sb:Core→Str→Core→Core}{s:Str}{b:Core}{al:List Alt}{i:Nat}{a:Alt}(h:al[i]?=some a):sC sb s b al (i+1)=(sC sb s b al i).set i (lV sb s b a):=by
 have I:i<al.length:=(ε.1 h).1
 unfold sC;rw[oL h,qZ (by simp;omega),Bh,h];simp
theorem aMh {sb:Core→Str→Core→Core}{s:Str}{b:Core}{al:List Alt}:sC sb s b al 0=al:=by simp[sC]
theorem aPv {sb:Core→Str→Core→Core}{s:Str}{b:Core}{al:List Alt}:sC sb s b al al.length=al.map (lV sb s b):=by simp[sC]
noncomputable def zNm (sb:Core→Str→Core→Core) (f:Int) (nm:Str) (s:Str) (b:Core) (ks:List Core) (bs:List Bind):Nat→Str
 | 0=>nm
 | _+1=>if f=5 then(cD sb s b (gvN f nm bs) (ks++bs.map Bind.body)).1.headD nm else nm
noncomputable def zKs (sb:Core→Str→Core→Core) (f:Int) (nm:Str) (s:Str) (b:Core) (ks:List Core) (bs:List Bind):Nat→List Core
 | 0=>ks
 | _+1=>(cD sb s b (gvN f nm bs) (ks++bs.map Bind.body)).2.take ks.length
noncomputable def zBs (sb:Core→Str→Core→Core) (f:Int) (nm:Str) (s:Str) (b:Core) (ks:List Core) (bs:List Bind):Nat→List Bind
 | 0=>bs
 | _+1=>mkB (bs.map Bind.ty) (cD sb s b (gvN f nm bs) (ks++bs.map Bind.body)).1 ((cD sb s b (gvN f nm bs) (ks++bs.map Bind.body)).2.drop ks.length)
noncomputable def zAs (sb:Core→Str→Core→Core) (s:Str) (b:Core) (al:List Alt):Nat→List Alt
 | 0=>al
 | i+1=>sC sb s b al i
theorem x3:∀{l m:List Alt}{k:Nat},l.length=m.length→keys (fam k l)=keys (fam k m)
 | [],[],_,_=>rfl
 | a::l,c::m,k,h=>by
  show(k+800)::keys (fam (k+1) l)=(k+800)::keys (fam (k+1) m);rw[x3 (by simpa using h)]
end
def vT (z:Str):Ty:=.mk 2 0 z []
theorem aFd (n:Int) (nm:Str) (t:Ty) (kid:Core) (far:List Str) (N:far.length≤540000000000) (J:¬nm∈far):
  aW Tryz.prog 75 [.one (.vp 700 0),bN far] (gHl 7 n nm t [kid] [] []) (.tup []) (gHl 7 n nm t [kid] [] []):=by
 have I:=bU far nm (by omega);rw[Am J] at I;refine bT (n:=44) tok Tryz.func75 rfl rfl rfl ?_;refine sk 5 rfl (kc I ?_);exact az (aA rfl nofun (fun hb=>aD ⟨.inl rfl,⟨[],[],.nil,.nil,rfl⟩,⟨⟨_,rfl,.var rfl⟩,⟨_,rfl,.arr⟩,⟨_,rfl,.arr⟩,⟨_,rfl,.rarr rfl⟩,trivial⟩,rfl⟩))
theorem aFc (n:Int) (nm:Str) (t:Ty) (kid I:Core) (far:List Str) (Y:far.length≤540000000000) (hin:nm∈far) (Z:cK 540000000000) (O:aW Tryz.prog 74 [.pa (aB kid)] [] (bN (tyR kid)) []) (ab:far.length+(tyR kid).length≤540000000000)
  (hs:aW Tryz.prog 31 [.pa (aB kid),Go.AM.T nm,tyV (vT (bA (far++tyR kid)))] [] (.pa (aB I)) []):
  aW Tryz.prog 75 [.one (.vp 700 0),bN far] (gHl 7 n nm t [kid] [] []) (.tup []) (gHl 7 n (bA (far++tyR kid)) t [I] [] []):=by
 have J:=bU far nm (by omega);rw[Ai hin] at J;have W:=mN (far.map bO) (by rw[ξ];omega);have ac:(far.map bO).length=far.length:=ξ _;have aa:((tyR kid).map bO).length=(tyR kid).length:=ξ _;have N:=xE (far++tyR kid) (by rw[Aa];omega) fun k hk=>Z k (by rw[Aa] at hk;omega)
 generalize bA (far++tyR kid)=z at hs N ⊢;refine bT (n:=44) tok Tryz.func75 rfl rfl rfl ?_;refine sk 5 rfl (kc J ?_);refine az (aA rfl (fun hb=>sk 1 rfl (kc W ?_)) nofun);refine ak 6 [(7,.row 0 (aB kid))] rfl (kc O ?_);refine ak 1 [(9,.fz)] rfl (kc N ?_);refine kz 1 rfl (skh 15 [(9,.row 0 (aB kid))] rfl (kc (aRl z) ?_));refine kc hs ?_;exact ak 2 [(18,.row 0 (aB kid))] rfl (az (ag [] rfl ⟨.inl rfl,⟨[],[],.nil,.nil,rfl⟩,⟨⟨_,rfl,.var rfl⟩,⟨_,rfl,.arr⟩,⟨_,rfl,.arr⟩,⟨_,rfl,.rarr rfl⟩,trivial⟩,rfl⟩))
theorem aZu (name:Str) (I t t':Ty) (h:aW Tryz.prog 78 [tyV t,bN [name],.one (.c (.sl 4 [bD I]))] [] (tyV t') []):
  aW Tryz.prog 77 [tyV t,.one (.vp 4 0),.one (.vp 5 0)] [(4,.var 9 [.c (.str name)]),(5,.var 33 ((bD I).map R.c))] (tyV t') [(4,.var 9 [.c (.str name)]),(5,.var 33 ((bD I).map R.c))]:=by
 refine bT (n:=11) tok Tryz.func77 rfl rfl rfl ?_;refine sgh [(0,.id 730),(1,.id 731)] rfl (skh 5 [(2,.all),(4,.all)] rfl (kc h ?_));exact kz 1 rfl (aI (rtC trw))
def gU (ts:Ty→Ty) (sb:Core→Core):Core→Core
 | .mk f n nm t ks bs al=>.mk f n nm (ts t) (ks.map sb) (bs.map fun b=>.mk b.name (ts b.ty) (sb b.body)) (al.map fun a=>.mk a.form a.n a.name a.vars (sb a.body))
def tsB (ts:Ty→Ty) (b:Bind):Bind:=.mk b.name (ts b.ty) b.body
section
variable {α:Type}{g:α→α}
def kT (g:α→α) (bs:List α) (j:Nat):List α:=(bs.take j).map g++bs.drop j
theorem lX {bs:List α}{j:Nat}:(kT g bs j).length=bs.length:=by unfold kT;simp;omega
theorem wH {bs:List α}{j:Nat}{b:α}(h:bs[j]?=some b):(kT g bs j)[j]?=some b:=by
 have I:j<bs.length:=(ε.1 h).1
 unfold kT;rw[Ay (by simp;omega),ξ,At,B8 (by omega),sub_self,An,Bu,h]
theorem nJ {bs:List α}{j:Nat}{b:α}(h:bs[j]?=some b):kT g bs (j+1)=(kT g bs j).set j (g b):=by
 have I:j<bs.length:=(ε.1 h).1
 unfold kT;rw[oL h,qZ (by simp;omega),Bh,h];simp
theorem kS {bs:List α}:kT g bs 0=bs:=by simp[kT]
theorem aOm {bs:List α}:kT g bs bs.length=bs.map g:=by simp[kT]
theorem wG {bs:List α}{j:Nat}(h:bs.length≤j):kT g bs j=bs.map g:=by unfold kT;rw[Ba h,List.drop_eq_nil_of_le h,A8]
end
def sbB (sb:Core→Core) (b:Bind):Bind:=.mk b.name b.ty (sb b.body)
def sbA (sb:Core→Core) (a:Alt):Alt:=.mk a.form a.n a.name a.vars (sb a.body)
theorem sB:∀{l:List Alt}{k i:Nat}{a:Alt},aT k (l.set i a)=(aT k l).set i (dL (k+i) a)
 | [],_,_,_=>rfl
 | b::l,k,0,a=>rfl
 | b::l,k,i+1,a=>by
  simp only[Cp,aT];rw[sB (l:=l) (k:=k+1),show k+1+i=k+(i+1) by omega]
theorem aE0 (sb:Core→Core):∀(l:List Alt) (k j:Nat),fam k (kT (sbA sb) l j)=fam k l
 | [],_,_=>by simp[kT]
 | a::l,k,0=>by rw[kS]
 | a::l,k,j+1=>by
  have e:kT (sbA sb) (a::l) (j+1)=sbA sb a::kT (sbA sb) l j:=rfl;rw[e];show(k+800,AObj.arr 9 1 (a.vars.map bO) 0)::fam (k+1) _=_;rw[aE0 sb l (k+1) j];rfl
theorem aNo {f n:Int}{nm:Str}{t:Ty}{ks:List Core}{bs:List Bind}{al:List Alt}{r v:Nat}
  (hr:Nat.blt r 700=true) (hv:Nat.blt v 700=true) {I:St} (hF:FarEq I.h (fam 0 al)) (he:eQ (fun p:Nat×V=>I.e p.1=some (p.2.ren (fun i=>i))) [(r,V.one (.vp r 0)),(v,V.one (.vp 700 0))])
  (hh:eQ (fun p:Nat×AObj=>∃o,I.h p.1=some o∧Ole (fun i=>i) o p.2) (gHl f n nm t ks bs al)) (h6:∃o,I.h r=some o∧Ole (fun i=>i) o (.var 37 bM)) (hd:I.d=[]) (N:r≠v):
  Sub [] (mk [(r,.one (.vp r 0)),(v,.one (.vp 700 0))] [(r,.var 37 bM),(700,.var 37 (b9 (.mk f n nm t ks bs al)))]) I:=by
 have hr':=Ap hr;have hv':=Ap hv;have Z:TF (fam 0 al):=fD;have O:∀x∈nC [(r,V.one (.vp r 0)),(v,V.one (.vp 700 0))],x=r∨x=700:=fun x hx=>by simpa [nC,V.refs,R.refs] using hx
 have J:Go.AM.distinct (List.map (fun p:Nat×AObj=>p.1) (oHl ks bs al++[(700,.var 37 (dU f n nm t ks.length bs.length al.length)),(r,.var 37 bM)]))=true:=by
  refine fG ?_;simp[oHl];omega
 have Y:((oHl ks bs al++[(700,AObj.var 37 (dU f n nm t ks.length bs.length al.length)),(r,.var 37 bM)]).all fun p=>Nat.blt p.1 800)=true:=by
  simp[oHl,aGt (show r<800 by omega)]
 have s1:Sub [] (mkt [(r,.one (.vp r 0)),(v,.one (.vp 700 0))] (oHl ks bs al++[(700,.var 37 (dU f n nm t ks.length bs.length al.length)),(r,.var 37 bM)]) (fam 0 al)) I:=by
  obtain⟨h0,h1,h2,h3,_⟩:=hh;refine slT Z hF (fun x hx=>.inl ?_) (fun x hx=>?_) (fun _ h=>by cases h) (he:=he) (hh:=⟨h1,h2,h3,h0,h6,trivial⟩) (hd:=hd) (h3:=J) (h3':=Y)
  ·rcases O x hx with rfl | rfl<;>simp[oHl,keys]
  ·rw[iG] at hx;rcases ω.1 hx with hx | hx
   ·exact .inr (cV x (by simpa [oHl,dM,AObj.refs] using hx))
   ·refine .inl ?_;have hx:x=702∨x=701∨x=703:=by simpa [dM,AObj.refs,dU,bM,R.refsL,R.refs] using hx
    rcases hx with rfl | rfl | rfl<;>simp[oHl,keys]
 have s2:=oA (kf:=[]) (el:=[(r,.one (.vp r 0)),(v,.one (.vp 700 0))]) (ex:=[(700,.var 37 (dU f n nm t ks.length bs.length al.length)),(r,.var 37 bM)]) (ks:=ks) (bs:=bs) (al:=al) (by simp)
  (fun x hx=>by
    rcases O x hx with rfl | rfl
    ·exact .inr (.inl (by simp[keys]))
    ·exact .inr (.inl (by simp[keys])))
  ⟨fun x hx=>by
    have hx:x=702∨x=701∨x=703:=by simpa [AObj.refs,dU,R.refsL,R.refs] using hx
    rcases hx with rfl | rfl | rfl<;>exact .inl (by simp[oHl,keys]),fun x hx=>by simp[AObj.refs,bM,R.refsL,R.refs] at hx,trivial⟩
  (fun _ h=>by cases h) J (by simp[aGt (show r<800 by omega)]) (by simp;exact N) (fun p hp=>by
   rcases Ao.1 hp with rfl | hp
   ·rfl
   ·rw[Ac.1 hp];rfl)
 have e1:fzH 703 (.ra al.length 14 (aT 0 al).flatten) ([(701,.arr 58 15 (aR bs) 2),(702,.arr 37 10 (aQ ks) 2)]++[(700,.var 37 (dU f n nm t ks.length bs.length al.length)),(r,.var 37 bM)])
   =[(701,.arr 58 15 (aR bs) 2),(702,.arr 37 10 (aQ ks) 2),(700,.var 37 (j1 f n nm t ks.length bs.length al)),(r,.var 37 bM)]:=by
  unfold dU j1;show [(701,_),(702,_),(700,AObj.var _ (R.fzL _ _ _)),(r,AObj.var _ (R.fzL _ _ _))]=_;simp only[R.fzL,R.fz,B4,Cn,Bool.and_self];rfl
 have e2:fzE 703 (.ra al.length 14 (aT 0 al).flatten) [(r,.one (.vp r 0)),(v,.one (.vp 700 0))]=[(r,.one (.vp r 0)),(v,.one (.vp 700 0))]:=rfl;rw[e1,e2] at s2;have aa:TF (wX (fam 0 al)):=Z.frz;have ab:(([(701,AObj.arr 58 15 (aR bs) 2),(702,.arr 37 10 (aQ ks) 2),(700,.var 37 (j1 f n nm t ks.length bs.length al)),(r,.var 37 bM)]:List (Nat×AObj)).all fun p=>Nat.blt p.1 800)=true:=by simp[aGt (show r<800 by omega)]
 obtain⟨ids,hp⟩:=r9 (h:=(mkt [(r,.one (.vp r 0)),(v,.one (.vp 700 0))] [(701,.arr 58 15 (aR bs) 2),(702,.arr 37 10 (aQ ks) 2),(700,.var 37 (j1 f n nm t ks.length bs.length al)),(r,.var 37 bM)] (wX (fam 0 al))).h) (f:=f) (n:=n) (s:=nm) (t:=t) (ks:=ks) (bs:=bs) (al:=al) rfl rfl (FarEq.mkt aa ab);have s3:=Sub.varPure (kf:=[]) (st:=mkt [(r,.one (.vp r 0)),(v,.one (.vp 700 0))] [(701,.arr 58 15 (aR bs) 2),(702,.arr 37 10 (aQ ks) 2),(700,.var 37 (j1 f n nm t ks.length bs.length al)),(r,.var 37 bM)] (wX (fam 0 al))) (x:=700) (tv:=37) rfl hp;refine Sub.trans ?_ (Sub.trans s3 (Sub.trans s2 s1));have W:r≠700:=by omega
 refine Sub.list (fun i=>i) ?_ ?_ ?_
 ·have hrv:Nat.beq v r=false:=uK (Ne.symm N);refine⟨?_,?_,trivial⟩
  ·show Go.AM.look [(r,V.one (.vp r 0)),(v,V.one (.vp 700 0))] r=_;rw[dG];rfl
  ·show Go.AM.look [(r,V.one (.vp r 0)),(v,V.one (.vp 700 0))] v=_;rw[dQ (Ne.symm N),dG];rfl
 ·refine⟨⟨.var 37 bM,?_,.var rfl⟩,⟨.var 37 (b9 (.mk f n nm t ks bs al)),?_,.var (aIl _).symm⟩,trivial⟩
  ·show upd _ 700 _ r=_;rw[b8 _ _ _ W];show(match Go.AM.look [(701,AObj.arr 58 15 (aR bs) 2),(702,.arr 37 10 (aQ ks) 2),(700,.var 37 (j1 f n nm t ks.length bs.length al)),(r,.var 37 bM)] r with | some x=>some x | none=>_)=_;rw[dQ (by omega),dQ (by omega),dQ (by omega),dG]
  ·dsimp only;rw[aJ];rfl
 ·simp only[aUu,Ah];refine⟨⟨⟨⟨⟨eE fun x hx=>?_,eE fun x hx=>?_⟩,fG ?_⟩,rfl⟩,rfl⟩,rfl⟩
  ·rcases O x hx with rfl | rfl<;>simp
  ·have:x∈R.refsL bM++(R.refsL (b9 (.mk f n nm t ks bs al))++[]):=hx;simp[bM,b9,aB,R.refsL,R.refs] at this
  ·simp;exact W
theorem aLl (f n:Int) (nm name:Str) (t N:Ty) (ks:List Core) (bs:List Bind) (al:List Alt)
  (O:aU (.mk f n nm t ks bs al)≤570000000000) (Z:allT TyG (.mk f n nm t ks bs al)) (h7:f=7)
  (hs:nm=name∨(nm≠name∧∃tl:List Str,aW Tryz.prog 74 [.pa (aB (.mk f n nm t ks bs al))] [] (bN tl) []∧¬name∈tl∧tl.length≤540000000000)):
  aW Tryz.prog 31 [.pa (aB (.mk f n nm t ks bs al)),Go.AM.T name,tyV N] [] (.pa (aB (.mk f n nm t ks bs al))) []:=by
 have I:=pB (aU (.mk f n nm t ks bs al)) _ (le_refl _) O Z;have I:aW Tryz.prog 47 [.pa (aB (.mk f n nm t ks bs al))] [] (.pa (aB (.mk f n nm t ks bs al))) []:=I;have W:decide (f=7)=true:=Ai h7;refine bT (n:=84) tok Tryz.func31 rfl rfl rfl ?_;refine sg rfl (sk 1 rfl (kc I ?_));refine kz 2 rfl (a8 (sg rfl (aA rfl (fun _=>?_) (fun hb=>?_))))
 ·refine a8 (a8 ?_);rcases hs with h | ⟨h,tl,Y,hn,hl⟩
  ·have hd:decide (nm=name)=true:=Ai h;exact ag [(4,.bv true),(10,.bv true)] rfl (aA rfl (fun _=>sg rfl (aI (rtC trw))) nofun)
  ·have hd:decide (nm=name)=false:=Am h;have J:=bU tl name (by omega);rw[Am hn] at J;refine aE mixed (ak 6 [(4,.bv false)] rfl (kcG Y ?_));refine ak 1 [(4,.bv false)] rfl (kcG J ?_);exact ak 2 [(4,.bv false),(10,.bv false)] rfl (az (aA rfl (fun _=>sg rfl (aI (rtC trw))) nofun))
 ·exact absurd (show decide (f=7)=false from hb) (by rw[W];decide)
def gHm (f n:Int) (s:Str) (t:Ty) (nk nb na:Nat) (ks:List Core) (bs:List Bind) (al:List Alt):List (Nat×AObj):=
 [(700,.var 37 (dU f n s t nk nb na)),(701,.arr 58 15 (aR bs) 0),(702,.arr 37 10 (aQ ks) 0),(703,.rarr 88 14 (aT 0 al))]
theorem gWm {f n:Int}{s:Str}{t:Ty}{nk nb I:Nat}{ks:List Core}{bs:List Bind}{al A:List Alt}(h:fam 0 A=fam 0 al):GW (gHm f n s t nk nb I ks bs A) (fam 0 al):=by
 rw[←h];refine⟨fD,fun x hx=>?_,rfl,rfl⟩;simp only[gHm,dM,AObj.refs,dU,R.refsL,R.refs,Be,A8,ω,Ao,not_mem_nil,or_false,false_or] at hx;rcases hx with(rfl | rfl | rfl) | hx
 ·exact .inl (by simp[gHm,keys])
 ·exact .inl (by simp[gHm,keys])
 ·exact .inl (by simp[gHm,keys])
 ·exact .inr (cV x hx)
def gK (sb:Core→Core) (ks:List Core):Nat→List Core
 | 0=>ks
 | _+1=>ks.map sb
def gB (sb:Core→Core) (bs:List Bind):Nat→List Bind
 | 0=>bs
 | _+1=>bs.map (sbB sb)
def gA (sb:Core→Core) (al:List Alt):Nat→List Alt
 | 0=>al
 | i+1=>kT (sbA sb) al i
theorem aKu {sb:Core→Core}{al:List Alt}:∀g,fam 0 (gA sb al g)=fam 0 al
 | 0=>rfl
 | i+1=>aE0 sb al 0 i
theorem kbE (l:List Bind):l.length=(aR l).length:=by rw[bP,ξ]
theorem kcE (l:List Core):l.length=(aQ l).length:=by rw[aZ,ξ]
theorem zK (f n:Int) (nm nm1 name:Str) (t J:Ty) (ks ks1:List Core) (bs:List Bind) (al:List Alt) (ts:Ty→Ty) (sb:Core→Core)
  (hcs:aU (.mk f n nm t ks bs al)≤570000000000) (hT:allT TyG (.mk f n nm t ks bs al)) (hkl:ks1.length=ks.length)
  (h7:f=7→nm≠name∧bs=[]∧al=[]∧∃tl fr:List Str,aW Tryz.prog 74 [.pa (aB (.mk f n nm t ks bs al))] [] (bN tl) []∧name∈tl∧tl.length≤540000000000∧aW Tryz.prog 76 [tyV J] [] (bN fr) []∧
   aW Tryz.prog 75 [.one (.vp 700 0),bN fr] (gHl f n nm t ks [] []) (.tup []) (gHl f n nm1 t ks1 [] []))
  (hn7:f≠7→nm1=nm∧ks1=ks)
  (hts:∀u,(u=t∨∃b∈bs,u=b.ty)→aW Tryz.prog 78 [tyV u,bN [name],.one (.c (.sl 4 [bD J]))] [] (tyV (ts u)) [])
  (ae:∀x,(x∈ks1∨(∃b∈bs,x=b.body)∨∃a∈al,x=a.body)→aW Tryz.prog 31 [.pa (aB x),Go.AM.T name,tyV J] [] (.pa (aB (sb x))) []):
  aW Tryz.prog 31 [.pa (aB (.mk f n nm t ks bs al)),Go.AM.T name,tyV J] [] (.pa (aB (gU ts sb (.mk f n nm1 t ks1 bs al)))) []:=by
 have ab:=aRp (.mk f n nm t ks bs al) hcs hT;have ab:aW Tryz.prog 47 [.pa (aB (.mk f n nm t ks bs al))] [] (.ma (dU f n nm t ks.length bs.length al.length)) (oHl ks bs al++fam 0 al):=ab;have O:TF (fam 0 al):=fD;refine bT (n:=84) tok Tryz.func31 rfl rfl rfl ?_;refine sg rfl (sk 1 rfl (kc ab ?_ (hout':=eQ.app ⟨.inr rfl,.inr rfl,.inr rfl,trivial⟩ (eQ.of fun p hp=>.inr ((show gG _ by repeat (first | exact gG.nil | (refine gG.updL ?_) | (refine gG.upd ?_))) p.1 (O.far p hp))))));rw[qE O];refine ak 2 [(2,.id 700)] rfl (az (AWp.sub (st2:=mkt [(3,.one (.vp 3 0)),(4,.one (.vp 4 0)),(5,.one (.vp 5 0)),(6,.one (.vp 6 0)),(7,.one (.vp 700 0))] ([(3,.var 37 (b9 (.mk f n nm t ks bs al))),(4,.var 9 [.c (.str name)]),(5,.var 33 ((bD J).map R.c)),(6,.var 37 bM)]++gHl f n nm t ks bs al) (fam 0 al)) (slG gW (fun _ h=>by cases h) (by repeat (first | exact FarEq.bif O (FarEq.outs O) | (refine FarEq.updL O ?_) | (refine FarEq.upd O ?_)))) ?_));refine a8 (AWp.cut (mkt [(4,.one (.vp 4 0)),(5,.one (.vp 5 0)),(6,.one (.vp 6 0)),(7,.one (.vp 700 0))] ([(4,.var 9 [.c (.str name)]),(5,.var 33 ((bD J).map R.c)),(6,.var 37 bM)]++gHl f n nm1 t ks1 bs al) (fam 0 al)) ?_ ?_)
 ·refine sg rfl (aA rfl (fun hb=>?_) (fun hb=>?_))
  ·have hf:f=7:=φ (show decide (f=7)=true from hb);obtain⟨hne,rfl,rfl,tl,fr,hty,hin,hl,hfr,hcl⟩:=h7 hf;have hd:decide (nm=name)=false:=Am hne;have hct:=bU tl name (by omega);rw[Ai hin] at hct;refine a8 (skh 6 [(4,.bv false)] rfl (kcG hty ?_));refine ak 1 [(4,.bv false)] rfl (kcG hct ?_);refine ak 2 [(4,.bv false),(10,.bv false)] rfl (az (aA rfl nofun (fun _=>aD (aE mixed (ak 1 [] rfl (kc hfr ?_))))));refine kc hcl ?_;exact az (slG gW (fun _ h=>by cases h) (fun p hp=>by cases hp))
  ·have hf:f≠7:=δ (show decide (f=7)=false from hb);obtain⟨rfl,rfl⟩:=hn7 hf;exact aD (slG gW (fun _ h=>by cases h) (by repeat (first | exact FarEq.raw O | (refine FarEq.updL O ?_) | (refine FarEq.upd O ?_))))
 have hbK:∀j,(kT (fun b:Bind=>tsB ts b) bs j).length=bs.length:=fun j=>lX
 have h1:∀u,(u=t∨∃b∈bs,u=b.ty)→aW Tryz.prog 77 ([tyV u]++[R.vp 4 0,R.vp 5 0].map V.one) [(4,.var 9 [.c (.str name)]),(5,.var 33 ((bD J).map R.c))] (tyV (ts u)) [(4,.var 9 [.c (.str name)]),(5,.var 33 ((bD J).map R.c))]:=fun u hu=>aZu name J u (ts u) (hts u hu)
 have ht:=h1 t (.inl rfl);have hbE:=kbE bs;obtain⟨ihk,ihb,iha,hkl',hbl,hal⟩:= @dW f n nm t ks bs al;have hbl':bs.length≤570000000000:=by omega
 refine sg rfl (sk 3 rfl (kv (args:=[tyV t]) ht ?_));refine kz 2 rfl (a8 (sg rfl (aC ?_)));have hm0:kT (fun b:Bind=>tsB ts b) bs 0=bs:=kS;refine aL (fun i:Nat=>mkt [(4,.one (.vp 4 0)),(5,.one (.vp 5 0)),(6,.one (.vp 6 0)),(7,.one (.vp 700 0)),(8,.one (.clo 77 [.vp 4 0,.vp 5 0])),(42,I .i64 ((bs.length:Nat):Int)),(43,I .i64 i)] ([(4,.var 9 [.c (.str name)]),(5,.var 33 ((bD J).map R.c)),(6,.var 37 bM)]++gHl f n nm1 (ts t) ks1 (kT (fun b:Bind=>tsB ts b) bs i) al) (fam 0 al)) (fun i=>i≤bs.length) (fun i=>bs.length-i) 0 (Ak _) ?_ ?_
 ·rw[hm0];exact slG gW (fun _ h=>by cases h) (by repeat (first | exact FarEq.raw O | (refine FarEq.updL O ?_) | (refine FarEq.upd O ?_)))
 intro i hi;have hBl:=lX (g:=fun b:Bind=>tsB ts b) (bs:=bs) (j:=i);have hBe:=kbE (kT (fun b:Bind=>tsB ts b) bs i);refine sg rfl (a8 (aA rfl (fun hb=>?_) (fun hb=>?_)))
 ·have ah:i<bs.length:=by
   have:(i:Int)<(bs.length:Int):=φ hb;omega
  obtain⟨b,Y⟩:=aK ah;have hat:=dJ (wH (g:=fun b:Bind=>tsB ts b) Y);have aa:=nJ (g:=fun b:Bind=>tsB ts b) Y;have hl2:=lX (g:=fun b:Bind=>tsB ts b) (bs:=bs) (j:=i+1);have hbt:=h1 b.ty (.inr ⟨b,η Y,rfl⟩);rw[aa] at hl2;generalize kT (fun b:Bind=>tsB ts b) bs i=B at *;have hltB:i<B.length:=by omega
  refine aD (a8 (aC (sg rfl (aE mixed (ak 10 [(9,.row i (bC b))] rfl (kv (args:=[tyV b.ty]) hbt ?_))))));refine ak 3 [(13,.row i (bC b))] rfl (az (ag [] rfl ⟨i+1,ah,by dsimp only;omega,?_⟩));dsimp only;rw[aa];refine slG gW (fun _ h=>by cases h) (hh:=⟨⟨_,rfl,.var rfl⟩,⟨_,rfl,.var rfl⟩,⟨_,rfl,.var rfl⟩,⟨_,rfl,.varS ?_⟩,⟨_,rfl,.arrS ?_⟩,⟨_,rfl,.arr⟩,⟨_,rfl,.rarrS rfl⟩,trivial⟩)
  ·rw[B0]
  ·exact iZ B i (tsB ts b)
 refine aM ?_;have ai:bs.length≤i:=by
  have:¬(i:Int)<(bs.length:Int):=δ hb;omega
 rw[wG ai] at hBl hBe ⊢;have hsbB:∀x∈bs.map (fun b:Bind=>tsB ts b),aW Tryz.prog 31 [.pa (aB x.body),Go.AM.T name,tyV J] [] (.pa (aB (sb x.body))) []:=fun x hx=>by
  obtain⟨b,hb,rfl⟩:=Ad.1 hx;exact ae b.body (.inr (.inl ⟨b,hb,rfl⟩))
 have eR:aB (gU ts sb (.mk f n nm1 t ks1 bs al))=aB (.mk f n nm1 (ts t) (ks1.map sb) ((bs.map fun b:Bind=>tsB ts b).map (sbB sb)) (al.map (sbA sb))):=by
  rw[A1];rfl
 rw[eR];have hB1l:(bs.map fun b:Bind=>tsB ts b).length≤570000000000:=by rw[ξ];exact hbl'
 clear hBl ai hb hbK hm0 ht h1 ab eR hbE;generalize (bs.map fun b:Bind=>tsB ts b)=B1 at *;generalize ts t=t1 at *;have hk1l:ks1.length≤570000000000:=by omega
 have hal':al.length≤570000000000:=by omega
 have hgr:=s6 (decide (f=5)) f n nm1 t1 ks1 B1 al rfl (by omega) (by omega) (by omega) (fun a ha=>by
  have hav:=eV ha;have hvl:=mQ a
  rw[aU] at hcs;omega)
 have ac:=mY (f:=f) (n:=n) (s:=nm1) (t:=t1) (ks:=ks1) (bs:=B1) (al:=al) (decide (f=5)) al.length;rw[Au] at ac;have hgl:(bY (decide (f=5)) ks1.length B1.length al.length al).length=1+al.length:=aTj;have hra:gfo f n nm1 t1 ks1 B1 al (R.refsL (bY (decide (f=5)) ks1.length B1.length al.length al).flatten):=by rw[dB];exact ac
 have aj:(bY (decide (f=5)) ks1.length B1.length al.length al)[0]?=some (oI (decide (f=5)) ks1.length B1.length):=aTl;have hgA:∀i a,al[i]?=some a→(bY (decide (f=5)) ks1.length B1.length al.length al)[i+1]?=some (lM al.length i a):=fun i a h=>aTk h
 have am:∀k r,(bY (decide (f=5)) ks1.length B1.length al.length al)[k]?=some r→((bY (decide (f=5)) ks1.length B1.length al.length al).flatten.drop (k*2)).take 2=r:=eD aBt;generalize bY (decide (f=5)) ks1.length B1.length al.length al=G at hgr hgl hra aj hgA am;generalize decide (f=5)=b5 at aj;refine a8 (a8 (aE mixed (kc hgr ?_ (hin':=eQ.app ⟨rfl,rfl,rfl,rfl,trivial⟩ (FarEq.raw O).all) (hout':=eQ.of fun p hp=>.inl (Ad.2 ⟨p,hp,rfl⟩)) (hok:=n6 O (fun x hx=>.inl (bL (show subset _ _=true from rfl) x hx)) qC))));refine kz 2 rfl (AWp.sub (Sub.outsT O) ?_);refine aC ?_;have W:∀K B A ex,∀x∈R.refsL G.flatten,Kn ex (gHm f n nm1 t1 ks1.length B1.length al.length K B A) (fam 0 al) x:=fun K B A ex=>Kn.gf hra
 refine aL (fun g:Nat=>mkt [(4,.one (.vp 4 0)),(5,.one (.vp 5 0)),(6,.one (.vp 6 0)),(7,.one (.vp 700 0)),(60,.one (.ras G.length 2 G.flatten)),(61,I .i64 ((G.length:Nat):Int)),(62,I .i64 g)] ([(4,.var 9 [.c (.str name)]),(5,.var 33 ((bD J).map R.c)),(6,.var 37 bM)]++gHm f n nm1 t1 ks1.length B1.length al.length (gK sb ks1 g) (gB sb B1 g) (gA sb al g)) (fam 0 al)) (fun g=>g≤G.length) (fun g=>G.length-g) 0 (Ak _) (slG (gWm rfl) (fun _ h=>by cases h) (FarEq.bif O (FarEq.outs O)) (h1:=Kn.app (Kn.of rfl) (Kn.app (Kn.of rfl) (Kn.app (Kn.of rfl) (Kn.app (Kn.of rfl) (Kn.app (W _ _ _ _) Kn.nil)))))) ?_;intro g hg;refine sg rfl (a8 (aA rfl (fun hb=>?_) (fun hb=>?_)))
 ·have ah:g<G.length:=by
   have:(g:Int)<(G.length:Int):=φ hb;omega
  refine aD ?_;cases g with
  | zero=>
   have ht0:=am 0 _ aj;have hpl:(pR ks1.length B1.length B1.length).length=ks1.length+B1.length:=aJf;have hpr0:gfo f n nm1 t1 ks1 B1 al (R.refsL (pR ks1.length B1.length B1.length).flatten):=by rw[dB];exact aM7 _ _ _
   have ap:∀K B A ex,∀x∈R.refsL (pR ks1.length B1.length B1.length).flatten,Kn ex (gHm f n nm1 t1 ks1.length B1.length al.length K B A) (fam 0 al) x:=fun K B A ex=>Kn.gf hpr0
   have hpt:∀k r,(pR ks1.length B1.length B1.length)[k]?=some r→((pR ks1.length B1.length B1.length).flatten.drop (k*1)).take 1=r:=eD tV;have hp1:∀j,j<ks1.length→(pR ks1.length B1.length B1.length)[j]?=some [.ep 702 j 0 ks1.length]:=fun j h=>aJh h
   have hp2:∀j,j<B1.length→(pR ks1.length B1.length B1.length)[ks1.length+j]?=some [.ep 701 j 5 B1.length]:=fun j h=>aJg h
   refine a8 (aC (sgh [(0,.rowR 0 (oI b5 ks1.length B1.length))] rfl (sg rfl (aC ?_))));have e0K:kT sb ks1 0=ks1:=kS;have e0B:kT (sbB sb) B1 (0-ks1.length)=B1:=by rw[Nat.zero_sub];exact kS
   refine aL (fun j:Nat=>mkt [(4,.one (.vp 4 0)),(5,.one (.vp 5 0)),(6,.one (.vp 6 0)),(7,.one (.vp 700 0)),(60,.one (.ras G.length 2 G.flatten)),(61,I .i64 ((G.length:Nat):Int)),(62,I .i64 (0:Nat)),(67,.one (.ras (pR ks1.length B1.length B1.length).length 1 (pR ks1.length B1.length B1.length).flatten)),(68,I .i64 (((pR ks1.length B1.length B1.length).length:Nat):Int)),(69,I .i64 j)] ([(4,.var 9 [.c (.str name)]),(5,.var 33 ((bD J).map R.c)),(6,.var 37 bM)]++gHm f n nm1 t1 ks1.length B1.length al.length (kT sb ks1 j) (kT (sbB sb) B1 (j-ks1.length)) al) (fam 0 al)) (fun j=>j≤(pR ks1.length B1.length B1.length).length) (fun j=>(pR ks1.length B1.length B1.length).length-j) 0 (Ak _) ?_ ?_
   ·rw[e0K,e0B];exact slG (gWm rfl) (fun _ h=>by cases h) (h1:=Kn.app (Kn.of rfl) (Kn.app (Kn.of rfl) (Kn.app (Kn.of rfl) (Kn.app (Kn.of rfl) (Kn.app (W _ _ _ _) (Kn.app Kn.nil (Kn.app Kn.nil (Kn.app (ap _ _ _ _) Kn.nil))))))))
   intro j hj;refine sg rfl (a8 (aA rfl (fun hb=>?_) (fun hb=>?_)))
   ·have aq:j<(pR ks1.length B1.length B1.length).length:=by
     have:(j:Int)<((pR ks1.length B1.length B1.length).length:Int):=φ hb;omega
    refine aD ?_;by_cases hjk:j<ks1.length
    ·obtain⟨k,ar⟩:=aK hjk;have hki':=iP (wH (g:=sb) ar);have aa:=nJ (g:=sb) ar;have hc:=ae k (.inl (η ar));have ht1:=hpt j _ (hp1 j hjk);have hle:=(lX (g:=sb) (bs:=ks1) (j:=j)).symm.trans (kcE (kT sb ks1 j));have au:j+1-ks1.length=j-ks1.length:=by omega
     have Z:=p9 (kT sb ks1 j) j (sb k);refine a8 (aC (sgh [(0,.rowR j [.ep 702 j 0 ks1.length])] rfl (aE mixed (ak 6 [(3,.row j (aB k))] rfl (kc hc ?_)))));refine ak 2 [(8,.row j (aB k))] rfl (az (ag [] rfl ⟨j+1,aq,by dsimp only;omega,?_⟩));dsimp only;rw[au,aa];exact slG (gWm rfl) (fun _ h=>by cases h) (h1:=Kn.app (Kn.of rfl) (Kn.app (Kn.of rfl) (Kn.app (Kn.of rfl) (Kn.app (Kn.of rfl) (Kn.app (W _ _ _ _) (Kn.app Kn.nil (Kn.app Kn.nil (Kn.app (ap _ _ _ _) Kn.nil)))))))) (hh:=⟨⟨_,rfl,.var rfl⟩,⟨_,rfl,.var rfl⟩,⟨_,rfl,.var rfl⟩,⟨_,rfl,.var rfl⟩,⟨_,rfl,.arr⟩,⟨_,rfl,.arrS Z⟩,⟨_,rfl,.rarrS rfl⟩,trivial⟩)
    ·obtain⟨N,rfl⟩:∃N,j=ks1.length+N:=⟨j-ks1.length,by omega⟩
     have hjb:N<B1.length:=by omega
     obtain⟨x,Y⟩:=aK hjb;have eK:∀N,kT sb ks1 (ks1.length+N)=ks1.map sb:=fun N=>wG (by omega)
     have e1:ks1.length+N-ks1.length=N:=by omega
     have e2:ks1.length+N+1-ks1.length=N+1:=by omega
     have hbi':=dJ (wH (g:=sbB sb) Y);have aa:=nJ (g:=sbB sb) Y;have hc:=hsbB x (η Y);have ht1:=hpt (ks1.length+N) _ (hp2 N hjb);have hle:=(lX (g:=sbB sb) (bs:=B1) (j:=N)).symm.trans (kbE (kT (sbB sb) B1 N));have Z:=iZ (kT (sbB sb) B1 N) N (sbB sb x);rw[e1];refine a8 (aC (sgh [(0,.rowR (ks1.length+N) [.ep 701 N 5 B1.length])] rfl (aE mixed (ak 6 [(3,.row N (bC x))] rfl (kc hc ?_)))));refine ak 2 [(8,.row N (bC x))] rfl (az (ag [] rfl ⟨ks1.length+N+1,aq,by dsimp only;omega,?_⟩));dsimp only;rw[e2,aa,eK,Cc,eK];refine slG (gWm rfl) (fun _ h=>by cases h) (h1:=Kn.app (Kn.of rfl) (Kn.app (Kn.of rfl) (Kn.app (Kn.of rfl) (Kn.app (Kn.of rfl) (Kn.app (W _ _ _ _) (Kn.app Kn.nil (Kn.app Kn.nil (Kn.app (ap _ _ _ _) Kn.nil)))))))) (hh:=⟨⟨_,rfl,.var rfl⟩,⟨_,rfl,.var rfl⟩,⟨_,rfl,.var rfl⟩,⟨_,rfl,.var rfl⟩,⟨_,rfl,.arrS Z⟩,⟨_,rfl,.arr⟩,⟨_,rfl,.rarrS rfl⟩,trivial⟩)
   refine aM ?_;have ai:j=ks1.length+B1.length:=by
    have:¬(j:Int)<((pR ks1.length B1.length B1.length).length:Int):=δ hb;omega
   have eK:kT sb ks1 j=ks1.map sb:=wG (by omega);have eB:kT (sbB sb) B1 (j-ks1.length)=B1.map (sbB sb):=wG (by omega);have eA:gA sb al 1=al:=kS;rw[eK,eB];refine ag [] rfl ⟨1,by omega,by dsimp only;omega,?_⟩;dsimp only;rw[eA];exact slG (gWm rfl) (fun _ h=>by cases h) (h1:=Kn.app (Kn.of rfl) (Kn.app (Kn.of rfl) (Kn.app (Kn.of rfl) (Kn.app (Kn.of rfl) (Kn.app (W _ _ _ _) Kn.nil)))))
  | succ i=>
   have hia:i<al.length:=by omega
   obtain⟨a,ad⟩:=aK hia;have ht0:=am (i+1) _ (hgA i a ad);have hf1:fam 0 (gA sb al (i+1))=fam 0 al:=aKu (i+1);have hf2:fam 0 (gA sb al (i+1+1))=fam 0 al:=aKu (i+1+1);have hrow:(aT 0 (gA sb al (i+1)))[i]?=some (dL i a):=by
    have:=mF (k:=0) (wH (g:=sbA sb) ad);rwa [Bd] at this
   have hle:al.length=(aT 0 (gA sb al (i+1))).length:=by rw[dS];exact(lX (g:=sbA sb)).symm
   have hc:=ae a.body (.inr (.inr ⟨a,η ad,rfl⟩));have Z:aT 0 (gA sb al (i+1+1))=(aT 0 (gA sb al (i+1))).set i (dL i (sbA sb a)):=by
    show aT 0 (kT (sbA sb) al (i+1))=_;rw[nJ ad,sB,Bd];rfl
   have z1:gK sb ks1 (i+1+1)=gK sb ks1 (i+1):=rfl;have z2:gB sb B1 (i+1+1)=gB sb B1 (i+1):=rfl;refine a8 (aC (sgh [(0,.rowR (i+1) (lM al.length i a))] rfl (sg rfl (aC (aL (fun j:Nat=>mkt [(4,.one (.vp 4 0)),(5,.one (.vp 5 0)),(6,.one (.vp 6 0)),(7,.one (.vp 700 0)),(60,.one (.ras G.length 2 G.flatten)),(61,I .i64 ((G.length:Nat):Int)),(62,I .i64 ((i+1:Nat):Int)),(67,.one (.ras 1 1 [.rp 703 i 4 al.length])),(68,I .i64 ((1:Nat):Int)),(69,I .i64 j)] ([(4,.var 9 [.c (.str name)]),(5,.var 33 ((bD J).map R.c)),(6,.var 37 bM)]++gHm f n nm1 t1 ks1.length B1.length al.length (gK sb ks1 (i+1)) (gB sb B1 (i+1)) (gA sb al (i+1+j))) (fam 0 al)) (fun j=>j≤1) (fun j=>1-j) 0 (Ak _) (slG (gWm hf1) (fun _ h=>by cases h) (h1:=Kn.app (Kn.of rfl) (Kn.app (Kn.of rfl) (Kn.app (Kn.of rfl) (Kn.app (Kn.of rfl) (Kn.app (W _ _ _ _) (Kn.of rfl))))))) ?_)))));intro j hj;refine sg rfl (a8 (aA rfl (fun hb=>?_) (fun hb=>?_)))
   ·have au:j=0:=by
     have:(j:Int)<((1:Nat):Int):=φ hb;omega
    subst au;refine aD (a8 (aC (sg rfl (aE mixed (ak 6 [(3,.rr (dL i a))] rfl (kc hc ?_))))));refine ak 2 [(8,.rr (dL i a))] rfl (az (ag [] rfl ⟨1,le_refl _,by dsimp only;omega,?_⟩));exact slG (gWm hf2) (fun _ h=>by cases h) (h1:=Kn.app (Kn.of rfl) (Kn.app (Kn.of rfl) (Kn.app (Kn.of rfl) (Kn.app (Kn.of rfl) (Kn.app (W _ _ _ _) (Kn.of rfl)))))) (hh:=⟨⟨_,rfl,.var rfl⟩,⟨_,rfl,.var rfl⟩,⟨_,rfl,.var rfl⟩,⟨_,rfl,.var rfl⟩,⟨_,rfl,.arr⟩,⟨_,rfl,.arr⟩,⟨_,rfl,.rarrS Z.symm⟩,trivial⟩)
   refine aM ?_;have hj1:j=1:=by
    have:¬(j:Int)<((1:Nat):Int):=δ hb;omega
   subst hj1;refine ag [] rfl ⟨i+1+1,by omega,by dsimp only;omega,?_⟩;exact slG (gWm hf2) (fun _ h=>by cases h) (h1:=Kn.app (Kn.of rfl) (Kn.app (Kn.of rfl) (Kn.app (Kn.of rfl) (Kn.app (Kn.of rfl) (Kn.app (W _ _ _ _) Kn.nil)))))
 have hgs:g=al.length+1:=by
  have:¬(g:Int)<(G.length:Int):=δ hb;omega
 subst hgs;refine aM ?_;have eA:gA sb al (al.length+1)=al.map (sbA sb):=aOm;have eF:fam 0 (al.map (sbA sb))=fam 0 al:=by rw[←eA];exact aKu _
 have lA:(al.map (sbA sb)).length=al.length:=ξ _;have lB:(B1.map (sbB sb)).length=B1.length:=ξ _;have lK:(ks1.map sb).length=ks1.length:=ξ _;rw[eA];have z1:gK sb ks1 (al.length+1)=ks1.map sb:=rfl;have z2:gB sb B1 (al.length+1)=B1.map (sbB sb):=rfl;rw[z1,z2];generalize al.map (sbA sb)=A2 at *;generalize B1.map (sbB sb)=B2 at *;generalize ks1.map sb=K2 at *;refine AWp.sub (aNo (f:=f) (n:=n) (nm:=nm1) (t:=t1) (ks:=K2) (bs:=B2) (al:=A2) (r:=6) (v:=7) rfl rfl (by rw[eF];repeat (first | exact FarEq.raw O | (refine FarEq.updL O ?_) | (refine FarEq.upd O ?_))) ⟨rfl,rfl,trivial⟩ ⟨⟨_,rfl,.varS (by rw[lK,lB,lA])⟩,⟨_,rfl,.arr⟩,⟨_,rfl,.arr⟩,⟨_,rfl,.rarrS rfl⟩,trivial⟩ ⟨_,rfl,.var rfl⟩ rfl (by decide)) ?_;exact sg rfl (aI (rtC trw))
mutual
def skT:Core→Core
 | .mk f n s _ ks bs al=>.mk f n (if f=7 then [] else s) zTy (aUr ks) (aNs bs) (aUs al)
def aUr:List Core→List Core
 | []=>[]
 | c::l=>skT c::aUr l
def aNs:List Bind→List Bind
 | []=>[]
 | .mk s _ c::l=>.mk s zTy (skT c)::aNs l
def aUs:List Alt→List Alt
 | []=>[]
 | .mk f n s vs c::l=>.mk f n s vs (skT c)::aUs l
end
def skB (b:Bind):Bind:=.mk b.name zTy (skT b.body)
def skA (a:Alt):Alt:=.mk a.form a.n a.name a.vars (skT a.body)
theorem vJ:∀l:List Core,aUr l=l.map skT
 | []=>rfl
 | c::l=>by rw[aUr,vJ l];rfl
theorem vK:∀l:List Bind,aNs l=l.map skB
 | []=>rfl
 | .mk s t c::l=>by rw[aNs,vK l];rfl
theorem vL:∀l:List Alt,aUs l=l.map skA
 | []=>rfl
 | .mk f n s vs c::l=>by rw[aUs,vL l];rfl
mutual
def wfC:Core→Bool
 | .mk f _ _ _ ks bs al=>(!decide (f=5∨f=6∨f=7) || (ks.length==1&&bs.isEmpty&&al.isEmpty))&&(!decide (f=1) || (ks.isEmpty&&bs.isEmpty&&al.isEmpty))&&aU4 ks&&aU5 bs&&aU6 al
def aU4:List Core→Bool
 | []=>true
 | c::l=>wfC c&&aU4 l
def aU5:List Bind→Bool
 | []=>true
 | .mk _ _ c::l=>wfC c&&aU5 l
def aU6:List Alt→Bool
 | []=>true
 | .mk _ _ _ _ c::l=>wfC c&&aU6 l
end
theorem aCl:∀{l:List Core},aU4 l=true↔∀x∈l,wfC x=true
 | []=>by simp[aU4]
 | c::l=>by rw[aU4,Ah,aCl (l:=l)];simp
theorem aCm:∀{l:List Bind},aU5 l=true↔∀x∈l,wfC x.body=true
 | []=>by simp[aU5]
 | .mk s t c::l=>by rw[aU5,Ah,aCm (l:=l)];simp[Bind.body]
theorem aCn:∀{l:List Alt},aU6 l=true↔∀x∈l,wfC x.body=true
 | []=>by simp[aU6]
 | .mk f n s vs c::l=>by rw[aU6,Ah,aCn (l:=l)];simp[Alt.body]
theorem aP2 {f n:Int}{nm:Str}{t:Ty}{ks:List Core}{bs:List Bind}{al:List Alt}(h1:f=5∨f=6∨f=7→(∃k,ks=[k])∧bs=[]∧al=[]) (h0:f=1→ks=[]∧bs=[]∧al=[])
  (h3:∀x∈ks,wfC x=true) (h4:∀x∈bs,wfC x.body=true) (h5:∀x∈al,wfC x.body=true):wfC (.mk f n nm t ks bs al)=true:=by
 rw[wfC,Ah,Ah,Ah,Ah];refine⟨⟨⟨⟨?_,?_⟩,aCl.2 h3⟩,aCm.2 h4⟩,aCn.2 h5⟩
 ·by_cases hf:f=5∨f=6∨f=7
  ·obtain⟨⟨k,rfl⟩,rfl,rfl⟩:=h1 hf;simp
  ·rw[Am hf];rfl
 ·by_cases hf:f=1
  ·obtain⟨rfl,rfl,rfl⟩:=h0 hf;simp
  ·rw[Am hf];rfl
theorem tA:∀l:List Bind,(aNs l).map Bind.name=l.map Bind.name
 | []=>rfl
 | .mk s t c::l=>by rw[aNs,Al,Al,tA l];rfl
theorem aZh (f:Int) (s:Str) (bs:List Bind):gvN f (if f=7 then [] else s) (aNs bs)=gvN f s bs:=by
 unfold gvN;rw[tA];by_cases h5:f=5
 ·rw[ψ (show ¬f=7 by omega)]
 ·rw[ψ h5,ψ h5]
mutual
theorem aI4:∀c:Core,pfR (skT c)=pfR c
 | .mk f n s t ks bs al=>by
  rw[skT,pfR,pfR,aZh,aQn _ ks,aQo _ bs,aQp al];by_cases h1:f=1
  ·rw[θ h1,θ h1,ψ (show ¬f=7 by omega)]
  ·rw[ψ h1,ψ h1]
theorem aQn (G:List Str):∀(l:List Core) (o:List Str),o5 G (aUr l) o=o5 G l o
 | [],_=>rfl
 | c::l,o=>by rw[aUr,o5,o5,aI4 c,aQn G l]
theorem aQo (G:List Str):∀(l:List Bind) (o:List Str),oX G (aNs l) o=oX G l o
 | [],_=>rfl
 | .mk s t c::l,o=>by rw[aNs,oX,oX,aI4 c,aQo G l]
theorem aQp:∀(l:List Alt) (o:List Str),pJ (aUs l) o=pJ l o
 | [],_=>rfl
 | .mk f n s vs c::l,o=>by rw[aUs,pJ,pJ,aI4 c,aQp l]
end
theorem aIa {ts:Ty→Ty}{sb:Core→Core}{f n:Int}{nm nm1:Str}{t:Ty}{ks ks1:List Core}{bs:List Bind}{al:List Alt}(hn:f≠7→nm1=nm) (hk:ks1.map skT=ks.map skT)
  (h1:∀x∈ks1,skT (sb x)=skT x) (h2:∀b∈bs,skT (sb b.body)=skT b.body) (h3:∀a∈al,skT (sb a.body)=skT a.body):
  skT (gU ts sb (.mk f n nm1 t ks1 bs al))=skT (.mk f n nm t ks bs al):=by
 rw[gU,skT,skT,vJ,vJ,vK,vK,vL,vL,A1,A1,A1];have I:ks1.map (skT∘sb)=ks.map skT:=by rw[←hk];exact A6 h1
 have J:bs.map (skB∘fun b=>Bind.mk b.name (ts b.ty) (sb b.body))=bs.map skB:=A6 fun b hb=>by
  show Bind.mk b.name zTy (skT (sb b.body))=_;rw[h2 b hb];rfl
 have N:al.map (skA∘fun a=>Alt.mk a.form a.n a.name a.vars (sb a.body))=al.map skA:=A6 fun a ha=>by
  show Alt.mk a.form a.n a.name a.vars (skT (sb a.body))=_;rw[h3 a ha];rfl
 rw[I,J,N];by_cases h7:f=7
 ·rw[θ h7,θ h7]
 ·rw[ψ h7,ψ h7,hn h7]
theorem aEg {g:Core→Core}:∀{l:List Core},(∀x∈l,m30 (g x)≤m30 x)→cE (l.map g)≤cE l
 | [],_=>le_refl _
 | c::l,h=>by
  rw[Al,cE,cE];have:=h c ζ;have:=aEg (l:=l) fun x hx=>h x (κ _ hx)
  omega
theorem aEj {ts:Ty→Ty}{g:Core→Core}:∀{l:List Bind},(∀x∈l,m30 (g x.body)≤m30 x.body)→fF (l.map fun b=>.mk b.name (ts b.ty) (g b.body))≤fF l
 | [],_=>le_refl _
 | .mk s t c::l,h=>by
  rw[Al,fF,fF];have h1:=h _ ζ;have h2:=aEj (ts:=ts) (l:=l) fun x hx=>h x (κ _ hx)
  simp only[Bind.body,Bind.name] at h1 h2 ⊢;omega
theorem aEk {g:Core→Core}:∀{l:List Alt},(∀x∈l,m30 (g x.body)≤m30 x.body)→gP (l.map fun a=>.mk a.form a.n a.name a.vars (g a.body))≤gP l
 | [],_=>le_refl _
 | .mk f n s vs c::l,h=>by
  rw[Al,gP,gP];have h1:=h _ ζ;have h2:=aEk (l:=l) fun x hx=>h x (κ _ hx)
  simp only[Alt.body,Alt.name,Alt.vars] at h1 h2 ⊢;omega
theorem aJ8 {ts:Ty→Ty}{sb:Core→Core}{f n:Int}{nm nm1:Str}{t:Ty}{ks ks1:List Core}{bs:List Bind}{al:List Alt}(hn:w30 nm1≤w30 nm) (hk:cE ks1≤cE ks)
  (h1:∀x∈ks1,m30 (sb x)≤m30 x) (h2:∀b∈bs,m30 (sb b.body)≤m30 b.body) (h3:∀a∈al,m30 (sb a.body)≤m30 a.body):
  m30 (gU ts sb (.mk f n nm1 t ks1 bs al))≤m30 (.mk f n nm t ks bs al):=by
 rw[gU,m30,m30];have:=aEg h1;have:=aEj (ts:=ts) h2;have:=aEk h3;omega
noncomputable def oQ (sb:Core→Str→Core→Core) (s:Str) (b:Core):Core→Core
 | .mk f n nm t ks bs al=>.mk f n (zNm sb f nm s b ks bs 1) t (zKs sb f nm s b ks bs 1) (zBs sb f nm s b ks bs 1) (al.map (lV sb s b))
theorem aLj (f n:Int) (nm:Str) (t:Ty) (ks:List Core) (bs:List Bind) (al:List Alt) (s:Str) (b:Core) (hv:f=1∧nm=s) (J:aU b≤570000000000) (N:allT TyG b):
  aW Tryz.prog 106 [.pa (aB (.mk f n nm t ks bs al)),Go.AM.T s,.pa (aB b)] [] (.pa (aB b)) []:=by
 have I:=pB (aU b) b (le_refl _) J N;have I:aW Tryz.prog 47 [.pa (aB b)] [] (.pa (aB b)) []:=I;have W:decide (f=1)=true:=Ai hv.1;have O:decide (nm=s)=true:=Ai hv.2;refine bT (n:=47) tok Tryz.func106 rfl rfl rfl ?_;refine sg rfl (a8 (sgh [(3,.bv true),(8,.bv true)] rfl (aA rfl (fun _=>?_) (fun hb=>?_))))
 ·refine sk 1 rfl (kc I ?_);exact kz 1 rfl (aI (rtC trw))
 ·exact absurd (show decide (nm=s)=false from hb) (by rw[O];decide)
theorem oM (sb:Core→Str→Core→Core) (P:Core→Prop) (f n:Int) (nm0 nm:Str) (t:Ty) (J ks:List Core) (bs:List Bind) (al:List Alt) (s:Str) (b:Core)
  (hcs:aU (.mk f n nm0 t J bs al)≤570000000000) (hT:allT TyG (.mk f n nm0 t J bs al)) (hv:¬(f=1∧nm0=s)) (hkl0:ks.length=J.length)
  (w2:f=5→(∃k,ks=[k])∧bs=[]∧al=[])
  (h7:f=7→bs=[]∧al=[]∧∃fl:List Str,aW Tryz.prog 125 [.pa (aB (.mk f n nm0 t J bs al))] [] (bN fl) []∧fl.length≤540000000000∧
   (s∈fl→∃tl:List Str,aW Tryz.prog 74 [.pa (aB b)] [] (bN tl) []∧aW Tryz.prog 75 [.one (.vp 700 0),bN tl] (gHl f n nm0 t J [] []) (.tup []) (gHl f n nm t ks [] []))∧
   (¬s∈fl→nm=nm0∧ks=J))
  (hn7:f≠7→nm=nm0∧ks=J)
  (hok:PutOk sb P s b (ks++bs.map Bind.body)) (hokA:∀a∈al,PutOk sb P s b [a.body])
  (hM:((ks++bs.map Bind.body).flatMap pfR).length+2*(1+bs.length)+(pfR b).length+(ks.length+bs.length)≤540000000000)
  (hMA:∀a∈al,(pfR a.body).length+2*a.vars.length+(pfR b).length+1≤540000000000):
  aW Tryz.prog 106 [.pa (aB (.mk f n nm0 t J bs al)),Go.AM.T s,.pa (aB b)] [] (.pa (aB (oQ sb s b (.mk f n nm t ks bs al)))) []:=by
 have ar:=aRp _ hcs hT;have ar:aW Tryz.prog 47 [.pa (aB (.mk f n nm0 t J bs al))] [] (.ma (dU f n nm0 t J.length bs.length al.length)) (oHl J bs al++fam 0 al):=ar;refine bT (n:=47) tok Tryz.func106 rfl rfl rfl ?_;refine sg rfl (a8 (AWp.cut (mk [(1,Go.AM.T s),(3,.one (.vp 3 0)),(5,.one (.vp 5 0)),(6,.one (.vp 6 0))] [(3,.var 37 (b9 (.mk f n nm0 t J bs al))),(5,.var 37 (b9 b)),(6,.var 37 bM)]) ?_ ?_))
 ·by_cases au:f=1
  ·have hd1:decide (f=1)=true:=Ai au;have hd2:decide (nm0=s)=false:=Am fun h=>hv ⟨au,h⟩
   exact sgh [(3,.bv true),(8,.bv true)] rfl (aA rfl (fun hb=>absurd (show decide (nm0=s)=true from hb) (by rw[hd2];decide)) (fun _=>aD sl))
  ·have hd1:decide (f=1)=false:=Am au;exact sgh [(3,.bv false),(8,.bv false)] rfl (aA rfl nofun (fun _=>aD sl))
 have N:TF (fam 0 al):=fD;refine sk 1 rfl (kc ar ?_ (hout':=eQ.app ⟨.inr rfl,.inr rfl,.inr rfl,trivial⟩ (eQ.of fun p hp=>.inr ((show gG _ by repeat (first | exact gG.nil | (refine gG.updL ?_) | (refine gG.upd ?_))) p.1 (N.far p hp)))));rw[qE N];refine ak 2 [(2,.id 700)] rfl (az (AWp.sub (st2:=mkt [(1,Go.AM.T s),(3,.one (.vp 3 0)),(5,.one (.vp 5 0)),(6,.one (.vp 6 0)),(7,.one (.vp 700 0))] ([(3,.var 37 (b9 (.mk f n nm0 t J bs al))),(5,.var 37 (b9 b)),(6,.var 37 bM)]++gHl f n nm0 t J bs al) (fam 0 al)) (slG gW (fun _ h=>by cases h) (by repeat (first | exact FarEq.bif N (FarEq.outs N) | (refine FarEq.updL N ?_) | (refine FarEq.upd N ?_)))) ?_));refine a8 (AWp.cut (mkt [(1,Go.AM.T s),(3,.one (.vp 3 0)),(5,.one (.vp 5 0)),(6,.one (.vp 6 0)),(7,.one (.vp 700 0))] ([(3,.var 37 (b9 (.mk f n nm0 t J bs al))),(5,.var 37 (b9 b)),(6,.var 37 bM)]++gHl f n nm t ks bs al) (fam 0 al)) ?_ ?_)
 ·by_cases ah:f=7
  ·have hd7:decide (f=7)=true:=Ai ah;obtain⟨rfl,rfl,fl,hfr,hfl,hy,hn⟩:=h7 ah;have ai:=bU fl s (by omega);refine skh 5 [(3,.bv true)] rfl (kcG hfr ?_);refine ak 1 [(3,.bv true)] rfl ?_;by_cases hin:s∈fl
   ·rw[Ai hin] at ai;obtain⟨tl,hty,hcl⟩:=hy hin;refine kcG ai ?_;refine ak 1 [(3,.bv true),(8,.bv true)] rfl (az (aA rfl (fun _=>aE mixed (ak 1 [] rfl (kc hty ?_))) nofun));refine kc hcl ?_;exact az (slG gW (fun _ h=>by cases h) (fun p hp=>by cases hp))
   ·rw[Am hin] at ai;obtain⟨rfl,rfl⟩:=hn hin;refine kcG ai ?_;exact ak 1 [(3,.bv true),(8,.bv true)] rfl (az (aA rfl nofun (fun _=>aD (slG gW (fun _ h=>by cases h) (fun p hp=>by cases hp)))))
  ·have hd7:decide (f=7)=false:=Am ah;obtain⟨rfl,rfl⟩:=hn7 ah;refine sgh [(3,.bv false),(8,.bv false)] rfl (aA rfl nofun (fun _=>?_));exact aD (slG gW (fun _ h=>by cases h) (by repeat (first | exact FarEq.raw N | (refine FarEq.updL N ?_) | (refine FarEq.upd N ?_))))
 have hR:=pV (sb:=sb) (s:=s) (b:=b) (ns:=gvN f nm bs) (ps:=ks++bs.map Bind.body);have hN1:∀g,(zKs sb f nm s b ks bs g).length=ks.length:=fun g=>by
  cases g with
  | zero=>rfl
  | succ g=>show(List.take _ _).length=_;rw[At,hR.2,Aa];omega
 have av:(bs.map Bind.ty).length=bs.length:=ξ _;have hN2:∀g,(zBs sb f nm s b ks bs g).length=bs.length:=fun g=>by
  cases g with
  | zero=>rfl
  | succ g=>
   show(mkB _ _ _).length=_;by_cases aa:f=5
   ·obtain⟨_,rfl,_⟩:=w2 aa;rfl
   ·rw[rL,av]
    ·rw[hR.1];unfold gvN;rw[ψ aa];simp
    ·rw[Bw,hR.2,Aa];simp
 have aw:∀g,(zAs sb s b al g).length=al.length:=fun g=>by
  cases g with
  | zero=>rfl
  | succ g=>exact xK
 have hcm:=hcs;rw[aU] at hcm;have hkl:=jE J;have hbl:=jG bs;have hall:=jH al
 have hgr:=s6 (decide (f=5)) f n nm t ks bs al rfl (by omega) (by omega) (by omega) (fun a ha=>by
  have hav:=eV ha;have hvl:=mQ a
  omega)
 have aj:=mY (f:=f) (n:=n) (s:=nm) (t:=t) (ks:=ks) (bs:=bs) (al:=al) (decide (f=5)) al.length;rw[Au] at aj;have hgl:(bY (decide (f=5)) ks.length bs.length al.length al).length=1+al.length:=aTj;have hra:gfo f n nm t ks bs al (R.refsL (bY (decide (f=5)) ks.length bs.length al.length al).flatten):=by rw[dB];exact aj
 have ax:(bY (decide (f=5)) ks.length bs.length al.length al)[0]?=some (oI (decide (f=5)) ks.length bs.length):=aTl;have hgA:∀i a,al[i]?=some a→(bY (decide (f=5)) ks.length bs.length al.length al)[i+1]?=some (lM al.length i a):=fun i a h=>aTk h
 have ay:∀k r,(bY (decide (f=5)) ks.length bs.length al.length al)[k]?=some r→((bY (decide (f=5)) ks.length bs.length al.length al).flatten.drop (k*2)).take 2=r:=eD aBt;generalize bY (decide (f=5)) ks.length bs.length al.length al=G at hgr hgl hra ax hgA ay;refine a8 (a8 (aE mixed (kc hgr ?_ (hin':=eQ.app ⟨rfl,rfl,rfl,rfl,trivial⟩ (FarEq.raw N).all) (hout':=eQ.of fun p hp=>.inl (Ad.2 ⟨p,hp,rfl⟩)) (hok:=n6 N (fun x hx=>.inl (bL (show subset _ _=true from rfl) x hx)) qC))));refine kz 2 rfl (AWp.sub (Sub.outsT N) ?_);refine aC ?_;have am:∀g ex,∀x∈R.refsL G.flatten,Kn ex (gHl f n (zNm sb f nm s b ks bs g) t (zKs sb f nm s b ks bs g) (zBs sb f nm s b ks bs g) (zAs sb s b al g)) (fam 0 (zAs sb s b al g)) x:=fun g ex x hx=>by
  rcases hra x hx with h | h
  ·exact .inr (.inl (by simpa [gHl,keys] using h))
  ·exact .inr (.inr (by rw[x3 (aw g)];exact h))
 have hTF:∀g,TF (fam 0 (zAs sb s b al g)):=fun g=>fD
 refine aL (fun g:Nat=>mkt [(1,Go.AM.T s),(5,.one (.vp 5 0)),(6,.one (.vp 6 0)),(7,.one (.vp 700 0)),(35,.one (.ras G.length 2 G.flatten)),(36,I .i64 ((G.length:Nat):Int)),(37,I .i64 g)] ([(5,.var 37 (b9 b)),(6,.var 37 bM)]++gHl f n (zNm sb f nm s b ks bs g) t (zKs sb f nm s b ks bs g) (zBs sb f nm s b ks bs g) (zAs sb s b al g)) (fam 0 (zAs sb s b al g))) (fun g=>g≤G.length) (fun g=>G.length-g) 0 (Ak _) (slG gW (fun _ h=>by cases h) (FarEq.bif N (FarEq.outs N)) (h1:=Kn.app Kn.nil (Kn.app (Kn.of rfl) (Kn.app (Kn.of rfl) (Kn.app (Kn.of rfl) (Kn.app (am 0 _) Kn.nil)))))) ?_;intro g hg;have Y:=hTF g;refine sg rfl (a8 (aA rfl (fun hb=>?_) (fun hb=>?_)))
 ·have hlt:g<G.length:=by
   have:(g:Int)<(G.length:Int):=φ hb;omega
  refine aD ?_;cases g with
  | zero=>
   have ap:=ay 0 _ ax;by_cases aa:f=5
   ·have hd5:decide (f=5)=true:=Ai aa;obtain⟨⟨x,rfl⟩,rfl,rfl⟩:=w2 aa;subst aa;have hM':=hM;simp only[By,A8,Ci,Cy,Aj,length_nil] at hM';obtain⟨x',q,hq,O⟩:=aXq n t nm x s b sb _ hok (by omega);have ad:gvN 5 nm []=[nm]:=rfl;have e1:zNm sb 5 nm s b [x] [] 1=x':=by
     show(if(5:Int)=5 then(cD sb s b (gvN 5 nm []) ([x]++[].map Bind.body)).1.headD nm else nm)=x';rw[θ rfl,ad];show(cD sb s b [nm] [x]).1.headD nm=x';rw[hq];rfl
    have e2:zKs sb 5 nm s b [x] [] 1=[q]:=by
     show(cD sb s b (gvN 5 nm []) ([x]++[].map Bind.body)).2.take 1=[q];rw[ad];show(cD sb s b [nm] [x]).2.take 1=[q];rw[hq];rfl
    have e3:zBs sb 5 nm s b [x] [] 1=[]:=rfl;have e4:zAs sb s b [] 1=[]:=rfl;refine a8 (aC (sgh [(0,.rowR 0 (oI true 1 0))] rfl (aE mixed (ak 3 [] rfl (kc O ?_)))));refine az (ag [] rfl ⟨1,hlt,by dsimp only;omega,?_⟩);have ab:=am 1;rw[e1,e2,e3,e4] at ab;dsimp only;rw[e1,e2,e3,e4];exact slG gW (fun _ h=>by cases h) (fun p hp=>by cases hp) (h1:=Kn.app Kn.nil (Kn.app (Kn.of rfl) (Kn.app (Kn.of rfl) (Kn.app (Kn.of rfl) (Kn.app (ab _) Kn.nil)))))
   ·have hd5:decide (f=5)=false:=Am aa;have ad:gvN f nm bs=bs.map Bind.name:=by unfold gvN;rw[ψ aa];rfl
    have O:=aXp (bs.map Bind.ty) ks.length (bs.map Bind.name) (ks++bs.map Bind.body) s b sb _ (by simp) (by simp) hok (by simp only[ξ,Aa];omega);have eH:tH (bs.map Bind.ty) ks.length (bs.map Bind.name) (ks++bs.map Bind.body)=[(701,.arr 58 15 (aR bs) 0),(702,.arr 37 10 (aQ ks) 0)]:=by
     unfold tH;rw[drop_left,take_left,aEd]
    rw[eH,av] at O;have hr0:oI (decide (f=5)) ks.length bs.length=[.ras (tN bs.length).length 1 (tN bs.length),.ras (tP ks.length bs.length).length 1 (tP ks.length bs.length)]:=aZl hd5;rw[hr0] at ax ap;have eB:aR (zBs sb f nm s b ks bs 1)=aR (mkB (bs.map Bind.ty) (cD sb s b (bs.map Bind.name) (ks++bs.map Bind.body)).1 ((cD sb s b (bs.map Bind.name) (ks++bs.map Bind.body)).2.drop ks.length)):=by
     show aR (mkB _ _ _)=_;rw[ad]
    have eK:aQ (zKs sb f nm s b ks bs 1)=aQ ((cD sb s b (bs.map Bind.name) (ks++bs.map Bind.body)).2.take ks.length):=by
     show aQ (List.take _ _)=_;rw[ad]
    have eN:zNm sb f nm s b ks bs 1=nm:=by show(if f=5 then _ else nm)=nm;rw[ψ aa]
    have eA:zAs sb s b al 1=al:=aMh;have l1:=hN1 1;have l2:=hN2 1;refine a8 (aC (sgh [(0,.rowR 0 [.ras (tN bs.length).length 1 (tN bs.length),.ras (tP ks.length bs.length).length 1 (tP ks.length bs.length)])] rfl (aE mixed (ak 3 [] rfl (kc O ?_ (hok:=?_))))));refine az (ag [] rfl ⟨1,hlt,by dsimp only;omega,?_⟩);have ab:=am 1;dsimp only;rw[eN,eA] at ab ⊢;refine slG gW (fun _ h=>by cases h) (by repeat (first | exact FarEq.raw N | (refine FarEq.updL N ?_) | (refine FarEq.upd N ?_))) (h1:=Kn.app Kn.nil (Kn.app (Kn.of rfl) (Kn.app (Kn.of rfl) (Kn.app (Kn.of rfl) (Kn.app (ab _) Kn.nil))))) (hh:=⟨⟨_,rfl,.varS rfl⟩,⟨_,rfl,.varS rfl⟩,⟨_,rfl,.varS ?_⟩,⟨_,rfl,.arrS ?_⟩,⟨_,rfl,.arrS ?_⟩,⟨_,rfl,.rarrS rfl⟩,trivial⟩)
    ·rw[l1,l2];rfl
    ·exact eB.symm
    ·exact eK.symm
    ·refine n6 (F:=[]) ⟨fun _ h=>(by cases h),nodup_nil,fun _ h=>(by cases h)⟩ (fun x hx=>.inl ?_) (fun x hx=>by cases hx);have hx:x∈(grO (tN bs.length) (tP ks.length bs.length)).refs:=by simpa [grO,gpV,AObj.refs,V.refsL,V.refs,R.refsL,R.refs] using hx
     rcases aA4 x hx with rfl | rfl
     ·simp[keys]
     ·simp[keys]
  | succ i=>
   have hia:i<al.length:=by omega
   obtain⟨a,aq⟩:=aK hia;have ap:=ay (i+1) _ (hgA i a aq);have hm:=η aq;have hok:=hokA a hm;have hMa:=hMA a hm;have hz1:zAs sb s b al (i+1)=sC sb s b al i:=rfl;have hz2:zAs sb s b al (i+1+1)=(sC sb s b al i).set i (lV sb s b a):=aMi aq;have hz3:zNm sb f nm s b ks bs (i+1+1)=zNm sb f nm s b ks bs (i+1):=rfl;have hz4:zKs sb f nm s b ks bs (i+1+1)=zKs sb f nm s b ks bs (i+1):=rfl;have hz5:zBs sb f nm s b ks bs (i+1+1)=zBs sb f nm s b ks bs (i+1):=rfl;obtain⟨q,hq,O⟩:=aT3 (sC sb s b al i) i a (aUj aq) s b sb _ hok (by omega) (vR i a.vars.length a.vars.length).length (fP _ _) al.length xK.symm;have hnew:(Alt.mk a.form a.n a.name (cD sb s b a.vars [a.body]).1 q)=lV sb s b a:=by unfold lV;rw[hq];rfl
   rw[hnew] at O;have hvl:(vR i a.vars.length a.vars.length).length=a.vars.length:=fP _ _;have ae:=am (i+1+1);have ac:=hTF (i+1+1);have hA3:=aw (i+1+1);rw[hz2] at ae ac hA3;rw[hz3,hz4,hz5] at ae;have hA4:(sC sb s b al i).length=al.length:=xK;generalize hNm:zNm sb f nm s b ks bs (i+1)=nm1 at *;generalize hKs:zKs sb f nm s b ks bs (i+1)=ks1 at *;generalize hBs:zBs sb f nm s b ks bs (i+1)=Z at *;rw[hz1] at Y ⊢;have halR:lM al.length i a=[.ras (vR i a.vars.length a.vars.length).length 1 (vR i a.vars.length a.vars.length).flatten,.ras 1 1 [.rp 703 i 4 al.length]]:=rfl;rw[halR] at ap;rw[hvl] at ap O;refine a8 (aC (sgh [(0,.rowR (i+1) [.ras a.vars.length 1 (vR i a.vars.length a.vars.length).flatten,.ras 1 1 [.rp 703 i 4 al.length]])] rfl (aE mixed (ak 3 [] rfl (kc O ?_ (hin':=⟨rfl,FarEq.all (by repeat (first | exact FarEq.raw Y | (refine FarEq.updL Y ?_) | (refine FarEq.upd Y ?_)))⟩) (hout':=?_) (hok:=?_))))))
   ·have hcons:∀(o:AObj) (F:List (Nat×AObj)),((703,o)::F)=[(703,o)]++F:=fun _ _=>rfl
    rw[hcons,qE ac];refine az (ag [] rfl ⟨i+1+1,by omega,by dsimp only;omega,?_⟩);dsimp only;rw[hz2,hz3,hz4,hz5];refine slG gW (fun _ h=>by cases h) (FarEq.bif ac (FarEq.outs ac)) (h1:=Kn.app Kn.nil (Kn.app (Kn.of rfl) (Kn.app (Kn.of rfl) (Kn.app (Kn.of rfl) (Kn.app (ae _) Kn.nil))))) (hh:=⟨⟨_,rfl,.varS rfl⟩,⟨_,rfl,.varS rfl⟩,⟨_,rfl,.varS ?_⟩,⟨_,rfl,.arr⟩,⟨_,rfl,.arr⟩,⟨_,rfl,.rarrS rfl⟩,trivial⟩);rw[hA3,hA4]
   ·refine eQ.of fun p hp=>.inl ?_
    have hp1:p.1∈keys ((703,AObj.rarr 88 14 (aT 0 ((sC sb s b al i).set i (lV sb s b a))))::fam 0 ((sC sb s b al i).set i (lV sb s b a))):=Ad.2 ⟨p,hp,rfl⟩;show p.1∈703::keys (fam 0 (sC sb s b al i));rw[x3 (m:=(sC sb s b al i).set i (lV sb s b a)) (by rw[B0])];exact hp1
   ·refine n6 (hl:=[(703,.rarr 88 14 (aT 0 (sC sb s b al i)))]) Y (fun x hx=>?_) (fun x hx=>.inr (cV x (by simpa [dM,AObj.refs] using hx)));have hx:x∈R.refsL (vR i a.vars.length a.vars.length).flatten++[703]:=by simpa [V.refsL,V.refs,R.refsL,R.refs] using hx
    rcases ω.1 hx with hx | hx
    ·rw[dB] at hx;have:=lR (L:=fun x=>x=i+800) (fun j x hx=>by simpa [R.refsL,R.refs] using hx) _ x hx;rw[this];have hk:=aK4 (l:=sC sb s b al i) (k:=0) (i:=i) (by omega);rw[Bd] at hk;exact .inr hk
    ·rw[Ac.1 hx];exact .inl (by simp[keys])
 have hge:g=1+al.length:=by
  have:¬(g:Int)<(G.length:Int):=δ hb;omega
 have hgs:g=al.length+1:=by omega
 subst hgs;clear hge hb;have e:oQ sb s b (.mk f n nm t ks bs al)=.mk f n (zNm sb f nm s b ks bs (al.length+1)) t (zKs sb f nm s b ks bs (al.length+1)) (zBs sb f nm s b ks bs (al.length+1)) (zAs sb s b al (al.length+1)):=by
  rw[oQ];show _=Core.mk _ _ _ _ _ _ (sC sb s b al al.length);rw[aPv];rfl
 rw[e];have m1:=hN1 (al.length+1);have m2:=hN2 (al.length+1);have m3:=aw (al.length+1);generalize zNm sb f nm s b ks bs (al.length+1)=nm1 at *;generalize zKs sb f nm s b ks bs (al.length+1)=ks1 at *;generalize zBs sb f nm s b ks bs (al.length+1)=Z at *;generalize zAs sb s b al (al.length+1)=W at *;refine aM (AWp.sub (st2:=mkt [(6,.one (.vp 6 0)),(7,.one (.vp 700 0))] (oHl ks1 Z W++[(700,.var 37 (dU f n nm1 t ks1.length Z.length W.length)),(6,.var 37 bM)]) (fam 0 W)) (slT Y (by repeat (first | exact FarEq.raw Y | (refine FarEq.updL Y ?_) | (refine FarEq.upd Y ?_))) (fun x hx=>.inl (bL (show subset _ _=true from rfl) x hx)) (fun x hx=>?_) (fun _ h=>by cases h)) ?_)
 ·rw[iG] at hx;rcases ω.1 hx with hx | hx
  ·exact .inr (cV x (by simpa [oHl,dM,AObj.refs] using hx))
  ·refine .inl ?_;have hx:x=702∨x=701∨x=703:=by simpa [dM,AObj.refs,dU,bM,R.refsL,R.refs] using hx
   rcases hx with rfl | rfl | rfl<;>simp[oHl,keys]
 refine AWp.sub (oA (by simp[keys]) (Kn.of rfl) ⟨Kn.of rfl,Kn.of rfl,trivial⟩ (fun _ h=>by cases h) rfl rfl (by simp) (fun p hp=>by
  rcases Ao.1 hp with rfl | hp
  ·rfl
  ·rw[Ac.1 hp];rfl)) ?_
 have e1:fzH 703 (.ra W.length 14 (aT 0 W).flatten) ([(701,.arr 58 15 (aR Z) 2),(702,.arr 37 10 (aQ ks1) 2)]++[(700,.var 37 (dU f n nm1 t ks1.length Z.length W.length)),(6,.var 37 bM)])
   =[(701,.arr 58 15 (aR Z) 2),(702,.arr 37 10 (aQ ks1) 2),(700,.var 37 (j1 f n nm1 t ks1.length Z.length W)),(6,.var 37 bM)]:=by
  unfold dU j1;show [(701,_),(702,_),(700,AObj.var _ (R.fzL _ _ _)),(6,AObj.var _ (R.fzL _ _ _))]=_;simp only[R.fzL,R.fz,B4,Cn,Bool.and_self];rfl
 rw[e1];have hFz:TF (wX (fam 0 W)):=Y.frz;obtain⟨ids,hp⟩:=r9 (h:=(mkt [] [(701,.arr 58 15 (aR Z) 2),(702,.arr 37 10 (aQ ks1) 2),(700,.var 37 (j1 f n nm1 t ks1.length Z.length W)),(6,.var 37 bM)] (wX (fam 0 W))).h) (f:=f) (n:=n) (s:=nm1) (t:=t) (ks:=ks1) (bs:=Z) (al:=W) rfl rfl (FarEq.mkt hFz rfl);refine AWp.sub (Sub.varPure (x:=700) rfl hp) ?_;exact sg rfl (aI (rtC trw))
theorem aTz (s:Str):aW Tryz.prog 40 [Go.AM.T s] [] (tyV (.mk 3 0 s [])) []:=by
 refine bT (n:=5) tok Tryz.func40 rfl rfl rfl ?_;exact sg rfl (sg rfl (aI (rtC trw)))
theorem aLu (n:Int):aW Tryz.prog 42 [I .i64 n] [] (.pa (aB (.mk 3 n [] zTy [] [] []))) []:=by
 refine bT (n:=5) tok Tryz.func42 rfl rfl rfl ?_;exact sg rfl (sg rfl (aI (rtC trw)))
def nQ (f n:Int) (s:Str) (t:Ty) (nk nb na:Nat):List R:=[.c (.int .i64 f),.c (.int .i64 n),.c (.str s),.c (.int .i64 t.form),.c (.int .i64 t.n),.c (.str t.name),.c (.sl 4 (gC t)),.hs 702 0 nk nk,.hs 701 0 nb nb,.hs 703 0 na na]
theorem aS2 {o:List Str}{s:Str}(h:o.Nodup):(rK o s).Nodup:=by
 unfold rK;split
 ·exact h
 ·rename_i hs;rw[nodup_append];exact⟨h,by simp,fun a ha b hb e=>by rw[Ac.1 hb] at e;subst e;exact hs ha⟩
theorem aS3 {o:List Str}{x y:Str}(h:y∈o):y∈rK o x:=by
 unfold rK;split
 ·exact h
 ·exact ω.2 (.inl h)
theorem aOj {o:List Str}{x:Str}:x∈rK o x:=by
 unfold rK;split
 ·assumption
 ·exact ω.2 (.inr (by simp))
theorem aWk {G o:List Str}{x y:Str}(h:y∈o):y∈pfG G o x:=by
 unfold pfG;split
 ·exact h
 ·exact aS3 h
theorem yN {G:List Str}:∀{l o:List Str}{y:Str},y∈o→y∈pfP G o l
 | [],_,_,h=>h
 | x::l,o,y,h=>yN (G:=G) (l:=l) (o:=pfG G o x) (aWk h)
theorem rD {G:List Str}:∀{l o:List Str}{y:Str},y∈l→¬y∈G→y∈pfP G o l
 | x::l,o,y,h,I=>by
  rcases Ao.1 h with rfl | h
  ·refine yN (G:=G) (l:=l) (o:=pfG G o y) ?_;unfold pfG;rw[ψ I];exact aOj
  ·exact rD (l:=l) (o:=pfG G o x) h I
theorem aI9 {G:List Str}:∀{l:List Core}{o:List Str}{y:Str},y∈o→y∈o5 G l o
 | [],_,_,h=>by rw[o5];exact h
 | c::l,o,y,h=>by rw[o5];exact aI9 (yN h)
theorem w7 {G:List Str}:∀{l:List Bind}{o:List Str}{y:Str},y∈o→y∈oX G l o
 | [],_,_,h=>by rw[oX];exact h
 | .mk s t c::l,o,y,h=>by rw[oX];exact w7 (yN h)
theorem w9:∀{l:List Alt}{o:List Str}{y:Str},y∈o→y∈pJ l o
 | [],_,_,h=>by rw[pJ];exact h
 | .mk f n s vs c::l,o,y,h=>by rw[pJ];exact w9 (yN h)
theorem w3 {G:List Str}:∀{l:List Core}{o:List Str}{y:Str}{c:Core},c∈l→y∈pfR c→¬y∈G→y∈o5 G l o
 | d::l,o,y,c,h,hy,I=>by
  rw[o5];rcases Ao.1 h with rfl | h
  ·exact aI9 (rD hy I)
  ·exact w3 h hy I
theorem w6 {G:List Str}:∀{l:List Bind}{o:List Str}{y:Str}{c:Bind},c∈l→y∈pfR c.body→¬y∈G→y∈oX G l o
 | .mk s t d::l,o,y,c,h,hy,I=>by
  rw[oX];rcases Ao.1 h with rfl | h
  ·exact w7 (rD hy I)
  ·exact w6 h hy I
theorem w8:∀{l:List Alt}{o:List Str}{y:Str}{c:Alt},c∈l→y∈pfR c.body→¬y∈c.vars→y∈pJ l o
 | .mk f n s vs d::l,o,y,c,h,hy,I=>by
  rw[pJ];rcases Ao.1 h with rfl | h
  ·exact w9 (rD hy I)
  ·exact w8 h hy I
theorem aS0 {f n:Int}{nm:Str}{t:Ty}{ks:List Core}{bs:List Bind}{al:List Alt}(hf:f≠1) {y:Str}(h:y∈(ks++bs.map Bind.body).flatMap pfR) (I:¬y∈gvN f nm bs):y∈pfR (.mk f n nm t ks bs al):=by
 rw[pfR,ψ hf];refine w9 ?_;obtain⟨c,hc,hy⟩:=Ck.1 h;rcases ω.1 hc with hc | hc
 ·exact w7 (w3 hc hy I)
 ·obtain⟨b,hb,rfl⟩:=Ad.1 hc;exact w6 hb hy I
theorem aWj {f n:Int}{nm:Str}{t:Ty}{ks:List Core}{bs:List Bind}{al:List Alt}(hf:f≠1) {a:Alt}(ha:a∈al) {y:Str}(h:y∈pfR a.body) (I:¬y∈a.vars):y∈pfR (.mk f n nm t ks bs al):=by
 rw[pfR,ψ hf];exact w8 ha h I
section
variable {sb sb':Core→Str→Core→Core}{P:Core→Prop}{e:Core→Core}
end
structure PK (B:Nat) (T:Ty→Prop) (ns:List Str) (ps:List Core) (r:List Str×List Core):Prop where
 len1:r.1.length=ns.length
 len2:r.2.length=ps.length
 wf:∀q∈r.2,wfC q=true∧allT T q
 sm:A2 (fun p q=>m30 q≤m30 p*B) ps r.2
 nm:A2 NR ns r.1
theorem aBj {sb:Core→Str→Core→Core}{P:Core→Prop}{B:Nat}{T:Ty→Prop}{s:Str}{b:Core}{ns:List Str}{ps:List Core}(hB:1≤B) (W:∀p∈ps,P p)
  (hz:∀p n z,P p→z.length≤30→P (sb p n (vC z))∧m30 (sb p n (vC z))≤m30 p) (aa:∀p,P p→wfC p=true∧allT T p) (hs:∀p,P p→wfC (sb p s b)=true∧allT T (sb p s b)∧m30 (sb p s b)≤m30 p*B)
  (hl:(ps.flatMap pfR).length+2*ns.length+(pfR b).length≤540000000000):PK B T ns ps (cD sb s b ns ps):=by
 obtain⟨Y,Z⟩:=pV (sb:=sb) (s:=s) (b:=b) (ns:=ns) (ps:=ps);obtain⟨⟨J,h1,h2⟩,h3⟩:=aDx (sb:=sb) (Rel:=fun p q=>P p→(P q∧m30 q≤m30 p)) (fun p h=>⟨h,le_refl _⟩)
  (fun p q r N ab h=>by
   obtain⟨a1,a2⟩:=N h;obtain⟨b1,b2⟩:=ab a1
   exact⟨b1,le_trans b2 a2⟩) (s:=s) (b:=b) (ns:=ns) (ps:=ps) (fun p n z ac h=>hz p n z h ac) hl
 have I:∀q∈J,P q:=fun q I=>by
  obtain⟨p,hp,N⟩:=h1.mem q I;exact(N (W p hp)).1
 have hA:A2 (fun p q=>m30 q≤m30 p) ps J:=by
  clear h2 I hl h3 Y Z
  induction h1 with
  | nil=>exact .nil
  | cons r _ ih2=>exact .cons (r (W _ ζ)).2 (ih2 fun p hp=>W p (κ _ hp))
 have hup:∀k:Nat,k≤k*B:=fun k=>Bg _ hB
 refine⟨Y,Z,fun x hx=>?_,?_,h3⟩
 ·rcases h2 with h2 | h2
  ·rw[h2] at hx;exact aa x (I x hx)
  ·rw[h2] at hx;obtain⟨q,O,rfl⟩:=Ad.1 hx;exact⟨(hs q (I q O)).1,(hs q (I q O)).2.1⟩
 ·rcases h2 with h2 | h2
  ·rw[h2];exact A2.mono (fun p q h=>le_trans h (hup _)) hA
  ·rw[h2];clear h2 h3 Y Z hl h1;have key:∀{ps J:List Core},A2 (fun p q=>m30 q≤m30 p) ps J→(∀q∈J,P q)→A2 (fun p q=>m30 q≤m30 p*B) ps (J.map fun p=>sb p s b):=by
    intro ps J h
    induction h with
    | nil=>intro _;exact .nil
    | cons r _ ih=>exact fun I=>.cons (le_trans (hs _ (I _ ζ)).2.2 (Ax _ r)) (ih fun q h=>I q (κ _ h))
   exact key hA I
theorem aEi {B:Nat}{ps I:List Core}(h:A2 (fun p q=>m30 q≤m30 p*B) ps I):cE I≤cE ps*B:=by
 induction h with
 | nil=>rw[cE];exact Ak _
 | cons r _ J=>rw[cE,cE,A0];omega
theorem aEc {B:Nat}(I:1≤B):∀{ts:List Ty}{ns:List Str}{ps:List Core}{bs:List Bind},A2 (fun(b:Bind) n=>w30 n≤w30 b.name) bs ns→A2 (fun(b:Bind) p=>m30 p≤m30 b.body*B) bs ps→fF (mkB ts ns ps)≤fF bs*B
 | [],_,_,_,_,_=>by unfold mkB;rw[fF];exact Ak _
 | t::ts,_,_,_,.nil,.nil=>by unfold mkB;rw[fF];exact Ak _
 | t::ts,n::ns,p::ps,.mk s ty c::bs,.cons h1 h2,.cons h3 h4=>by
  unfold mkB;rw[fF,fF];have:=aEc I (ts:=ts) h2 h4;have h1:w30 n≤w30 s:=h1;have h3:m30 p≤m30 c*B:=h3;have h5:1+w30 s≤(1+w30 s)*B:=Bg _ I;rw[A0,A0];omega
section
variable {sb:Core→Str→Core→Core}{B:Nat}{T:Ty→Prop}{f n:Int}{nm:Str}{t:Ty}{ks:List Core}{bs:List Bind}{al:List Alt}{s:Str}{b:Core}
theorem aOh (N:1≤B) {l:List Alt}(h:∀a∈l,A2 (fun p q=>m30 q≤m30 p*B) [a.body] (cD sb s b a.vars [a.body]).2∧A2 NR a.vars (cD sb s b a.vars [a.body]).1):gP (l.map (lV sb s b))≤gP l*B:=by
 induction l with
 | nil=>exact Ak _
 | cons a l J=>
  obtain⟨af,an,anm,vs,I⟩:=a;obtain⟨g1,g2⟩:=h _ ζ;have:=J fun x hx=>h x (κ _ hx)
  have g1:A2 (fun p q=>m30 q≤m30 p*B) [I] (cD sb s b vs [I]).2:=g1;have g2:A2 NR vs (cD sb s b vs [I]).1:=g2;have g4:=aDh g2;have g3:m30 ((cD sb s b vs [I]).2.headD I)≤m30 I*B:=by
   cases hx:(cD sb s b vs [I]).2 with
   | nil=>rw[hx] at g1;cases g1
   | cons y l'=>
    rw[hx] at g1;cases g1 with
    | cons h _=>exact h
  have e:lV sb s b (Alt.mk af an anm vs I)=.mk af an anm (cD sb s b vs [I]).1 ((cD sb s b vs [I]).2.headD I):=rfl;rw[Al,e,gP,gP];have g5:1+w30 anm+(vs.map fun v=>1+w30 v).sum≤(1+w30 anm+(vs.map fun v=>1+w30 v).sum)*B:=Bg _ N;rw[A0,A0 (1+w30 anm+_)];omega
theorem aMf (N:1≤B) (hg:PK B T (gvN f nm bs) (ks++bs.map Bind.body) (cD sb s b (gvN f nm bs) (ks++bs.map Bind.body))) (ha:∀a∈al,PK B T a.vars [a.body] (cD sb s b a.vars [a.body]))
  (h0:T t) (hb:∀x∈bs,T x.ty) (W:f=5∨f=6∨f=7→(∃k,ks=[k])∧bs=[]∧al=[]) (w0:f=1→ks=[]∧bs=[]∧al=[]):
  wfC (oQ sb s b (.mk f n nm t ks bs al))=true∧allT T (oQ sb s b (.mk f n nm t ks bs al))∧m30 (oQ sb s b (.mk f n nm t ks bs al))≤m30 (.mk f n nm t ks bs al)*B:=by
 have Y:∀a∈al,wfC (lV sb s b a).body=true∧allT T (lV sb s b a).body:=fun a ha'=>by
  show wfC ((cD sb s b a.vars [a.body]).2.headD a.body)=true∧allT T ((cD sb s b a.vars [a.body]).2.headD a.body);obtain⟨y,hy⟩:=Bp.1 (ha a ha').len2;rw[hy];exact(ha a ha').wf y (by rw[hy];exact Ac.2 rfl)
 have e4:gP (al.map (lV sb s b))≤gP al*B:=aOh N fun a ha'=>⟨(ha a ha').sm,(ha a ha').nm⟩
 rw[oQ];unfold zNm zKs zBs;generalize cD sb s b (gvN f nm bs) (ks++bs.map Bind.body)=r at hg ⊢;obtain⟨Z,O⟩:=r;obtain⟨l1,l2,I,q1,J⟩:=hg;dsimp only at *;refine⟨aP2 (fun hf=>?_) (fun hf=>?_) (fun x hx=>(I x (Bs hx)).1) (fun x hx=>(I _ (Cx (mX hx).1)).1) (fun x hx=>?_),?_,?_⟩
 ·obtain⟨⟨y,rfl⟩,rfl,rfl⟩:=W hf;obtain⟨y',rfl⟩:=Bp.1 (show O.length=1 from l2);exact⟨⟨y',rfl⟩,rfl,rfl⟩
 ·obtain⟨rfl,rfl,rfl⟩:=w0 hf;exact⟨rfl,rfl,rfl⟩
 ·obtain⟨a,ha',rfl⟩:=Ad.1 hx;exact(Y a ha').1
 ·rw[allT];refine⟨h0,sE.2 fun x hx=>(I x (Bs hx)).2,sF.2 fun x hx=>?_,sH.2 fun x hx=>?_⟩
  ·obtain⟨h1,h2⟩:=mX hx;obtain⟨y,hy,hyt⟩:=Ad.1 h2;exact⟨by rw[←hyt];exact hb y hy,(I _ (Cx h1)).2⟩
  ·obtain⟨a,ha',rfl⟩:=Ad.1 hx;exact(Y a ha').2
 ·rw[m30,m30];have e1:w30 (if f=5 then Z.headD nm else nm)≤w30 nm:=by
   split
   ·rename_i hf;unfold gvN at J;rw[θ hf] at J;cases J with
    | cons h _=>exact h.w
   ·exact le_refl _
  have e2:cE (O.take ks.length)≤cE ks*B:=by
   have:=(q1.take ks.length)
   rw[take_left] at this;exact aEi this
  have e3:fF (mkB (bs.map Bind.ty) Z (O.drop ks.length))≤fF bs*B:=by
   by_cases hf:f=5
   ·obtain⟨_,rfl,_⟩:=W (.inl hf);show fF (mkB [] _ _)≤_;unfold mkB;rw[fF];exact Ak _
   ·have h4:=J;unfold gvN at h4;rw[ψ hf,Be] at h4;have h5:=q1.drop ks.length;rw[drop_left] at h5;exact aEc N (A2.mapL (A2.mono (fun a b h=>h.w) h4)) (A2.mapL h5)
  have e5:1+w30 nm≤(1+w30 nm)*B:=Bg _ N;rw[A0,A0,A0];omega
end
abbrev Loc:Type:=Int→Str→Ty→Nat→List (Str×Ty)→List (Str×List Str)→Prop
def bhd (b:Bind):Str×Ty:=(b.name,b.ty)
def ahd (a:Alt):Str×List Str:=(a.name,a.vars)
mutual
def cB (q:Loc):Core→Prop
 | .mk f _ s t ks bs al=>q f s t ks.length (bs.map bhd) (al.map ahd)∧aMl q ks∧aMm q bs∧aMn q al
def aMl (q:Loc):List Core→Prop
 | []=>True
 | c::l=>cB q c∧aMl q l
def aMm (q:Loc):List Bind→Prop
 | []=>True
 | .mk _ _ c::l=>cB q c∧aMm q l
def aMn (q:Loc):List Alt→Prop
 | []=>True
 | .mk _ _ _ _ c::l=>cB q c∧aMn q l
end
theorem aAj {q:Loc}:∀{l:List Core},aMl q l↔∀x∈l,cB q x
 | []=>by simp[aMl]
 | c::l=>by rw[aMl,aAj (l:=l)];simp
theorem aAk {q:Loc}:∀{l:List Bind},aMm q l↔∀x∈l,cB q x.body
 | []=>by simp[aMm]
 | .mk s t c::l=>by rw[aMm,aAk (l:=l)];simp[Bind.body]
theorem aAl {q:Loc}:∀{l:List Alt},aMn q l↔∀x∈l,cB q x.body
 | []=>by simp[aMn]
 | .mk f n s v c::l=>by rw[aMn,aAl (l:=l)];simp[Alt.body]
theorem aS {q:Loc}{f n:Int}{s:Str}{t:Ty}{ks:List Core}{bs:List Bind}{al:List Alt}:
  cB q (.mk f n s t ks bs al)↔q f s t ks.length (bs.map bhd) (al.map ahd)∧(∀x∈ks,cB q x)∧(∀x∈bs,cB q x.body)∧∀x∈al,cB q x.body:=by
 rw[cB,aAj,aAk,aAl]
def okF (f:Int) (nk nb na:Nat):Bool:=
 if f=4∨f=10 then decide (nk=2∧nb=0∧na=0)
 else if f=5∨f=6∨f=7 then decide (nk=1∧nb=0∧na=0)
 else if f=8 then decide (nk=1∧na=0)
 else if f=9 then decide (nk=1∧nb=0)
 else decide (nk=0∧nb=0∧na=0)
def lw (s:Str) (bh:List (Str×Ty)) (ah:List (Str×List Str)):Nat:=
 1+w30 s+(bh.map fun p=>1+w30 p.1).sum+(ah.map fun p=>1+w30 p.1+(p.2.map fun v=>1+w30 v).sum).sum
theorem aGj (n:Nat):¬bQ n=[]:=by unfold bQ;split<;>simp
theorem wY (l:List Str):¬bA l=[]:=aGj _
def QL (X:Nat):Loc:=fun f s t nk bh ah=>okF f nk bh.length ah.length=true∧(f=7→t=zTy∧¬s=[])∧wfS t=true∧(∀p∈bh,wfS p.2=true)∧lw s bh ah≤X∧(f=5→nh s)∧(∀p∈bh,nh p.1)∧∀p∈ah,∀v∈p.2,nh v
theorem aQt {f:Int}{nk nb I:Nat}(h:okF f nk nb I=true):(f=5∨f=6∨f=7→nk=1∧nb=0∧I=0)∧(f=1→nk=0∧nb=0∧I=0):=by
 unfold okF at h;refine⟨fun hf=>?_,fun hf=>?_⟩
 ·rw[ψ (by omega),θ hf] at h;exact φ h
 ·rw[ψ (by omega),ψ (by omega),ψ (by omega),ψ (by omega)] at h;exact φ h
section
variable {X:Nat}{f n:Int}{s:Str}{t:Ty}{ks:List Core}{bs:List Bind}{al:List Alt}
theorem dD (h:cB (QL X) (.mk f n s t ks bs al)) (hf:f=5∨f=6∨f=7):(∃k,ks=[k])∧bs=[]∧al=[]:=by
 obtain⟨h1,_⟩:=aS.1 h;obtain⟨g1,g2,g3⟩:=(aQt h1.1).1 hf;rw[ξ] at g2 g3;exact⟨Bp.1 g1,Bl.1 g2,Bl.1 g3⟩
theorem sI (h:cB (QL X) (.mk f n s t ks bs al)) (hf:f=1):ks=[]∧bs=[]∧al=[]:=by
 obtain⟨h1,_⟩:=aS.1 h;obtain⟨g1,g2,g3⟩:=(aQt h1.1).2 hf;rw[ξ] at g2 g3;exact⟨Bl.1 g1,Bl.1 g2,Bl.1 g3⟩
end
mutual
theorem aAn {X:Nat}:∀c:Core,cB (QL X) c→wfC c=true
 | .mk f n s t ks bs al,h=>by
  obtain⟨h1,h2,h3,h4⟩:=aS.1 h;exact aP2 (fun hf=>dD h hf) (fun hf=>sI h hf) (fun x hx=>aMx ks h2 x hx) (fun x hx=>aMy bs h3 x hx) (fun x hx=>aMz al h4 x hx)
theorem aMx {X:Nat}:∀l:List Core,(∀x∈l,cB (QL X) x)→∀x∈l,wfC x=true
 | c::l,h,x,hx=>by
  rcases Ao.1 hx with e | hx
  ·rw[e];exact aAn c (h _ ζ)
  ·exact aMx l (fun x hx=>h x (κ _ hx)) x hx
theorem aMy {X:Nat}:∀l:List Bind,(∀x∈l,cB (QL X) x.body)→∀x∈l,wfC x.body=true
 | .mk s t c::l,h,x,hx=>by
  rcases Ao.1 hx with e | hx
  ·rw[e];exact aAn c (h _ ζ)
  ·exact aMy l (fun x hx=>h x (κ _ hx)) x hx
theorem aMz {X:Nat}:∀l:List Alt,(∀x∈l,cB (QL X) x.body)→∀x∈l,wfC x.body=true
 | .mk f n s v c::l,h,x,hx=>by
  rcases Ao.1 hx with e | hx
  ·rw[e];exact aAn c (h _ ζ)
  ·exact aMz l (fun x hx=>h x (κ _ hx)) x hx
end
theorem wF {o:List Str}{x y:Str}:y∈rK o x↔y∈o∨y=x:=by
 unfold rK;split
 ·rename_i h;exact⟨.inl,fun I=>I.elim id fun e=>by rw[e];exact h⟩
 ·rw[ω,Ac]
theorem lW {y:Str}:∀{l o:List Str},y∈mW o l↔y∈o∨y∈l
 | [],o=>by simp[mW]
 | x::l,o=>by
  show y∈mW (rK o x) l↔_;rw[lW (l:=l),wF,Ao,or_assoc]
theorem aC5 {f:Int}{s y:Str}:∀{l o:List Str},y∈aAp f s o l↔y∈o∨(y∈l∧(¬f=7∨¬y=s))
 | [],o=>by simp[aAp]
 | x::l,o=>by
  show y∈aAp f s (n7 f s o x) l↔_;rw[aC5 (l:=l)];unfold n7;split
  ·rename_i h;rw[lW,Ac,Ao];constructor
   ·rintro((h1 | h1) | h1)
    ·exact .inl h1
    ·exact .inr ⟨.inl h1,by rw[h1];exact h⟩
    ·exact .inr ⟨.inr h1.1,h1.2⟩
   ·rintro(h1 | ⟨h1 | h1,h2⟩)
    ·exact .inl (.inl h1)
    ·exact .inl (.inr h1)
    ·exact .inr ⟨h1,h2⟩
  ·rename_i h;rw[Ao];constructor
   ·rintro(h1 | h1)
    ·exact .inl h1
    ·exact .inr ⟨.inr h1.1,h1.2⟩
   ·rintro(h1 | ⟨h1 | h1,h2⟩)
    ·exact .inl h1
    ·exact absurd (by rw[←h1];exact h2) h
    ·exact .inr ⟨h1,h2⟩
theorem aC3 {f:Int}{s y:Str}:∀{l:List Core}{o:List Str},y∈mR f s l o↔y∈o∨∃k∈l,y∈tyR k∧(¬f=7∨¬y=s)
 | [],o=>by rw[mR];simp
 | c::l,o=>by
  rw[mR,aC3 (l:=l),aC5,or_assoc];simp
theorem aC6 {y:Str}:∀{l:List Bind}{o:List Str},y∈lQ l o↔y∈o∨∃b∈l,y∈tfR b.ty∨y∈tyR b.body
 | [],o=>by rw[lQ];simp
 | .mk s t c::l,o=>by
  rw[lQ,aC6 (l:=l),lW,lW];simp only[Ao,exists_eq_or_imp,Bind.ty,Bind.body,or_assoc]
theorem aC7 {y:Str}:∀{l:List Alt}{o:List Str},y∈mH l o↔y∈o∨∃a∈l,y∈tyR a.body
 | [],o=>by rw[mH];simp
 | .mk f n s v c::l,o=>by
  rw[mH,aC7 (l:=l),lW];simp only[Ao,exists_eq_or_imp,Alt.body,or_assoc]
theorem bI {f n:Int}{s:Str}{t:Ty}{ks:List Core}{bs:List Bind}{al:List Alt}{y:Str}:
  y∈tyR (.mk f n s t ks bs al)↔y∈tfR t∨(∃k∈ks,y∈tyR k∧(¬f=7∨¬y=s))∨(∃b∈bs,y∈tfR b.ty∨y∈tyR b.body)∨∃a∈al,y∈tyR a.body:=by
 rw[tyR,aC7,aC6,aC3,lW];simp[or_assoc]
theorem oG:∀{l o:List Str},o.Nodup→(mW o l).Nodup
 | [],_,h=>h
 | x::l,o,h=>oG (l:=l) (o:=rK o x) (aS2 h)
theorem aHo {f:Int}{s:Str}:∀{l o:List Str},o.Nodup→(aAp f s o l).Nodup
 | [],_,h=>h
 | x::l,o,h=>aHo (l:=l) (o:=n7 f s o x) (by unfold n7;split;exact oG h;exact h)
theorem aHm {f:Int}{s:Str}:∀{l:List Core}{o:List Str},o.Nodup→(mR f s l o).Nodup
 | [],o,h=>by rw[mR];exact h
 | c::l,o,h=>by rw[mR];exact aHm (aHo h)
theorem aHq:∀{l:List Bind}{o:List Str},o.Nodup→(lQ l o).Nodup
 | [],o,h=>by rw[lQ];exact h
 | .mk s t c::l,o,h=>by rw[lQ];exact aHq (oG (oG h))
theorem aHr:∀{l:List Alt}{o:List Str},o.Nodup→(mH l o).Nodup
 | [],o,h=>by rw[mH];exact h
 | .mk f n s v c::l,o,h=>by rw[mH];exact aHr (oG h)
theorem aYs (c:Core):(tyR c).Nodup:=by
 obtain⟨f,n,s,t,ks,bs,al⟩:=c;rw[tyR];exact aHr (aHq (aHm (oG nodup_nil)))
theorem dO {a:List Str}{c:Core}(h:∀x∈tyR c,x∈a):(tyR c).length≤a.length:=iW _ _ (aYs c) h
mutual
def tlC:Core→Nat
 | .mk f _ _ _ ks bs al=>(if f=7 then 1 else 0)+max (iU ks) (max (pQ bs) (oV al))
def iU:List Core→Nat
 | []=>0
 | c::l=>max (tlC c) (iU l)
def pQ:List Bind→Nat
 | []=>0
 | .mk _ _ c::l=>max (tlC c) (pQ l)
def oV:List Alt→Nat
 | []=>0
 | .mk _ _ _ _ c::l=>max (tlC c) (oV l)
end
theorem aAx {K:Nat}:∀{l:List Core},iU l≤K↔∀x∈l,tlC x≤K
 | []=>by simp[iU]
 | c::l=>by rw[iU,max_le,aAx (l:=l)];simp
theorem aAy {K:Nat}:∀{l:List Bind},pQ l≤K↔∀x∈l,tlC x.body≤K
 | []=>by simp[pQ]
 | .mk s t c::l=>by rw[pQ,max_le,aAy (l:=l)];simp[Bind.body]
theorem aAz {K:Nat}:∀{l:List Alt},oV l≤K↔∀x∈l,tlC x.body≤K
 | []=>by simp[oV]
 | .mk f n s v c::l=>by rw[oV,max_le,aAz (l:=l)];simp[Alt.body]
theorem xY {K:Nat}{f n:Int}{s:Str}{t:Ty}{ks:List Core}{bs:List Bind}{al:List Alt}:
  tlC (.mk f n s t ks bs al)≤(if f=7 then 1 else 0)+K↔(∀x∈ks,tlC x≤K)∧(∀x∈bs,tlC x.body≤K)∧∀x∈al,tlC x.body≤K:=by
 rw[tlC,Nat.add_le_add_iff_left,max_le,max_le,aAx,aAy,aAz]
theorem mL {f n:Int}{s:Str}{t:Ty}{ks:List Core}{bs:List Bind}{al:List Alt}:
  (∀x∈ks,tlC x+(if f=7 then 1 else 0)≤tlC (.mk f n s t ks bs al))∧(∀x∈bs,tlC x.body≤tlC (.mk f n s t ks bs al))∧∀x∈al,tlC x.body≤tlC (.mk f n s t ks bs al):=by
 have h:=(xY (K:=max (iU ks) (max (pQ bs) (oV al))) (f:=f) (n:=n) (s:=s) (t:=t) (ks:=ks) (bs:=bs) (al:=al)).1 (by rw[tlC];exact le_refl _)
 rw[tlC];exact⟨fun x hx=>by have:=h.1 x hx;omega,fun x hx=>by have:=h.2.1 x hx;omega,fun x hx=>by have:=h.2.2 x hx;omega⟩
def Alg.k (A:Alg):Nat:=tW A zTy r0
mutual
def cw (A:Alg) (E:Nat):Core→(Str→Nat)→Nat
 | .mk f _ s t ks bs al,ρ=>max A.k (max (tW A t ρ) (max (cws A E ks (if f=7 then fO ρ s E else ρ)) (max (cwb A E bs ρ) (cwa A E al ρ))))
def cws (A:Alg) (E:Nat):List Core→(Str→Nat)→Nat
 | [],_=>0
 | c::l,ρ=>max (cw A E c ρ) (cws A E l ρ)
def cwb (A:Alg) (E:Nat):List Bind→(Str→Nat)→Nat
 | [],_=>0
 | .mk _ t c::l,ρ=>max (max (tW A t ρ) (cw A E c ρ)) (cwb A E l ρ)
def cwa (A:Alg) (E:Nat):List Alt→(Str→Nat)→Nat
 | [],_=>0
 | .mk _ _ _ _ c::l,ρ=>max (cw A E c ρ) (cwa A E l ρ)
end
section
variable {A:Alg}{E K:Nat}{ρ ρ':Str→Nat}
theorem aRi:∀{l:List Core},cws A E l ρ≤K↔∀x∈l,cw A E x ρ≤K
 | []=>by simp[cws]
 | c::l=>by rw[cws,max_le,aRi (l:=l)];simp
theorem aRj:∀{l:List Bind},cwb A E l ρ≤K↔∀x∈l,tW A x.ty ρ≤K∧cw A E x.body ρ≤K
 | []=>by simp[cwb]
 | .mk s t c::l=>by rw[cwb,max_le,max_le,aRj (l:=l)];simp[Bind.body,Bind.ty]
theorem aRk:∀{l:List Alt},cwa A E l ρ≤K↔∀x∈l,cw A E x.body ρ≤K
 | []=>by simp[cwa]
 | .mk f n s v c::l=>by rw[cwa,max_le,aRk (l:=l)];simp[Alt.body]
theorem eZ {f n:Int}{s:Str}{t:Ty}{ks:List Core}{bs:List Bind}{al:List Alt}:
  cw A E (.mk f n s t ks bs al) ρ≤K↔A.k≤K∧tW A t ρ≤K∧(∀x∈ks,cw A E x (if f=7 then fO ρ s E else ρ)≤K)∧(∀x∈bs,tW A x.ty ρ≤K∧cw A E x.body ρ≤K)∧∀x∈al,cw A E x.body ρ≤K:=by
 rw[cw,max_le,max_le,max_le,max_le,aRi,aRj,aRk]
end
theorem a0a {A:Alg}{E:Nat}{ρ:Str→Nat}(c:Core):A.k≤cw A E c ρ:=by cases c;exact(eZ.1 (le_refl _)).1
theorem lD {A:Alg}{E:Nat}:∀(k:Nat) (c:Core),aU c≤k→∀{ρ ρ':Str→Nat}{K:Nat},(∀x∈tyR c,ρ x=ρ' x)→cw A E c ρ'≤K→cw A E c ρ≤K
 | 0,c,h,_,_,_,_,_=>by have:=bR c;omega
 | k+1,.mk f n s t ks bs al,h,ρ,ρ',K,hx,O=>by
  obtain⟨I,J,N,_⟩:= @dW f n s t ks bs al;obtain⟨g0,g1,g2,g3,g4⟩:=eZ.1 O;refine eZ.2 ⟨g0,?_,fun x hm=>?_,fun x hm=>⟨?_,?_⟩,fun x hm=>?_⟩
  ·rw[i6 (tn t) t (le_refl _) fun y hy=>hx y (bI.2 (.inl hy))];exact g1
  ·refine lD k x (by have:=I x hm;omega) (fun y hy=>?_) (g2 x hm);by_cases h7:f=7
   ·rw[θ h7,θ h7];unfold fO;by_cases e:y=s
    ·rw[θ e,θ e]
    ·rw[ψ e,ψ e];exact hx y (bI.2 (.inr (.inl ⟨x,hm,hy,.inr e⟩)))
   ·rw[ψ h7,ψ h7];exact hx y (bI.2 (.inr (.inl ⟨x,hm,hy,.inl h7⟩)))
  ·rw[i6 (tn x.ty) x.ty (le_refl _) fun y hy=>hx y (bI.2 (.inr (.inr (.inl ⟨x,hm,.inl hy⟩))))];exact(g3 x hm).1
  ·exact lD k x.body (by have:=J x hm;omega) (fun y hy=>hx y (bI.2 (.inr (.inr (.inl ⟨x,hm,.inr hy⟩))))) (g3 x hm).2
  ·exact lD k x.body (by have:=N x hm;omega) (fun y hy=>hx y (bI.2 (.inr (.inr (.inr ⟨x,hm,hy⟩))))) (g4 x hm)
theorem nP {A:Alg}{E:Nat}{c:Core}{ρ ρ':Str→Nat}(h:∀x∈tyR c,ρ x=ρ' x):cw A E c ρ=cw A E c ρ':=
 Nat.le_antisymm (lD _ c (le_refl _) h (le_refl _)) (lD _ c (le_refl _) (fun x hx=>(h x hx).symm) (le_refl _))
theorem qF {A:Alg}{E E':Nat}(I:E≤E'):∀(k:Nat) (c:Core),aU c≤k→∀{ρ ρ':Str→Nat}{K:Nat},(∀x,ρ x≤ρ' x)→cw A E' c ρ'≤K→cw A E c ρ≤K
 | 0,c,h,_,_,_,_,_=>by have:=bR c;omega
 | k+1,.mk f n s t ks bs al,h,ρ,ρ',K,hx,W=>by
  obtain⟨J,N,O,_⟩:= @dW f n s t ks bs al;obtain⟨g0,g1,g2,g3,g4⟩:=eZ.1 W;refine eZ.2 ⟨g0,le_trans (aA3 t hx) g1,fun x hm=>?_,fun x hm=>⟨le_trans (aA3 x.ty hx) (g3 x hm).1,?_⟩,fun x hm=>?_⟩
  ·refine qF I k x (by have:=J x hm;omega) (fun y=>?_) (g2 x hm);by_cases h7:f=7
   ·rw[θ h7,θ h7];unfold fO;split
    ·exact I
    ·exact hx y
   ·rw[ψ h7,ψ h7];exact hx y
  ·exact qF I k x.body (by have:=N x hm;omega) hx (g3 x hm).2
  ·exact qF I k x.body (by have:=O x hm;omega) hx (g4 x hm)
theorem s4 {A:Alg}{E E':Nat}(I:E≤E') {c:Core}{ρ ρ':Str→Nat}(h:∀x,ρ x≤ρ' x):cw A E c ρ≤cw A E' c ρ':=qF I _ c (le_refl _) h (le_refl _)
end Go.Proofs.YtockgoadliilhaaGreatDoor
