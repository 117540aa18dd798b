/-
  Texts Kn33 to Kt6 in one.
-/
import Derived.Test.YtnjaiimffoninaaGreatDoorM14
open List (all_append all_cons all_eq_true append_assoc cons_append count_le_length drop_left foldl_cons length_append length_cons length_drop length_eq_zero_iff length_map length_nil length_pos_of_mem length_set length_singleton length_take map_cons map_map map_nil mem_append mem_cons mem_cons_of_mem mem_cons_self mem_flatMap mem_map mem_or_eq_of_mem_set mem_singleton nil_append nodup_cons nodup_nil not_mem_nil set_cons_succ sum_nil take_length take_zero)
open Nat (add_assoc le_add_right le_of_lt le_refl lt_of_lt_of_le lt_trans mul_le_mul_left not_lt zero_add zero_le)
namespace Go.Proofs.YtnjaiimffoninaaGreatDoor
open Go Go.AM
set_option maxRecDepth 20000
theorem aMn (G:Str→Bool) {f n:Int}{s:Str}{t:Ty}{ks:List Core}{bs:List Bind}{al:List Alt}(h0:¬(f=5∨f=7∨f=6)) (h1:¬f=1):
  eZ (.mk f n s t ks bs al) G=((decide (t.form=0)&& !bs.any mB)&&(dC f s ks bs al).all fun p=>eZ p.2 (ext G p.1)):=by
 rw[eZ];by_cases ht:t.form=0
 ·rw[θ (by omega),θ h1,rB,rA,rC];unfold dC;rw[Dd,Dd,List.all_map,List.all_map,List.all_map,Ae ht,Db];have hb:(bs.all fun c=>eZ c.body (ext G (gvs f s bs))&&decide (c.ty.form=0))=(!bs.any mB&&bs.all ((fun p:List Str×Core=>eZ p.2 (ext G p.1))∘fun b=>(gvs f s bs,b.body))):=by
   generalize gvs f s bs=g
   induction bs with
   | nil=>rfl
   | cons b bs q=>
    rw[all_cons,q,List.any_cons,all_cons];unfold mB;show _=(_&&(eZ b.body (ext G g)&&_));cases eZ b.body (ext G g)<;>cases decide (b.ty.form=0)<;>simp
  rw[hb,Bool.and_assoc];simp only[Function.comp_def,aHg]
 ·rw[κ (by simp[ht]),Ag ht];rfl
theorem aFc (c:Core) (ih:∀x,aQ x<aQ c→aB7 x):aB7 c:=by
 intro m hm hsz;have hm0:∀s,0≤cnt m s:=fun s=>(hm s).1
 obtain⟨f,n,s,t,ks,bs,al⟩:=c;have hbox:∀b:Bool,eZ (.mk f n s t ks bs al) (dW m)=b→(f=5∨f=7∨f=6)∨f=1→∃Y,tK m Y∧aW Tryz.prog 44 [.one (.mr 800),.pa (aB (.mk f n s t ks bs al))] [(800,eX m)] (B (eZ (.mk f n s t ks bs al) (dW m))) [(800,eX Y)]:=by
  intro b hbe hf;refine⟨m,fun _=>rfl,?_⟩;have hmo:=nO m;have hlm:=uU m s;have h0:=hm0 s;refine bZ (n:=50) tok Tryz.func44 rfl rfl rfl ?_;refine sgh [(1,.id 700)] rfl (a8 (sg rfl (aC (a8 (sg rfl (aA rfl (fun q=>?_) (fun q=>?_)))))))
  ·have h5:f=5:=ψ q;rw[show eZ (.mk f n s t ks bs al) (dW m)=false by rw[eZ,κ (.inl h5)]];exact aD (aA rfl (fun hb=>sg rfl (aF rtT)) (fun hb=>absurd h5 (π hb)))
  have h5:¬f=5:=π q;refine sg rfl (aA rfl (fun q=>?_) (fun q=>?_))
  ·have h7:f=7:=ψ q;rw[show eZ (.mk f n s t ks bs al) (dW m)=false by rw[eZ,κ (.inr (.inl h7))]];exact aD (aA rfl (fun hb=>sg rfl (aF rtT)) (fun hb=>absurd h7 (π hb)))
  have h7:¬f=7:=π q;refine ag [] rfl (aA rfl (fun q=>?_) (fun q=>?_))
  ·have h6:f=6:=ψ q;rw[show eZ (.mk f n s t ks bs al) (dW m)=false by rw[eZ,κ (.inr (.inr (.inl h6)))]];exact sg rfl (aF rtT)
  have h6:¬f=6:=π q;have h1:f=1:=by omega
  refine sg rfl (aA rfl (fun hb=>?_) (fun hb=>absurd h1 (π hb)));by_cases hc:0<cnt m s
  ·have hc':decide (cnt m s>0)=true:=Ae hc
   rw[show eZ (.mk f n s t ks bs al) (dW m)=decide (t.form=0) by
    rw[eZ];by_cases ht:t.form=0
    ·rw[θ (by omega),κ h1,Ae ht];exact hc'
    ·rw[κ (by simp[ht]),Ag ht]]
   exact sgh [(3,.pc (I .i64 (cnt m s))),(5,.bv true),(10,.bv true)] rfl (aF rtT)
  ·have hc':decide (cnt m s>0)=false:=Ag hc
   rw[show eZ (.mk f n s t ks bs al) (dW m)=false by
    rw[eZ];by_cases ht:t.form=0
    ·rw[θ (by omega),κ h1];exact hc'
    ·rw[κ (by simp[ht])]]
   exact sgh [(3,.pc (I .i64 (cnt m s))),(5,.bv false),(10,.bv false)] rfl (aF rtT)
 by_cases h0:f=5∨f=7∨f=6
 ·exact hbox _ rfl (.inl h0)
 by_cases h1:f=1
 ·exact hbox _ rfl (.inr h1)
 clear hbox;rw[aMn (dW m) h0 h1];have hin:∀p∈dC f s ks bs al,_:=fun p hp=> @sS f n s t ks bs al p hp
 have hat:= @pH f s ks bs al;have hcp:=aBu f n s t ks bs al hsz;have ab:∀x∈(aJt (fN f s ks bs al)).refs,x∈iA.refs:=fM;have hN:(fN f s ks bs al).length=(dC f s ks bs al).length:=by rw[iX,qV]
 have hpl:=iX f s ks bs al;obtain⟨hkl,hbl,hal⟩:ks.length<4000000∧bs.length<4000000∧al.length<4000000:=by
  obtain⟨_,_,_,q1,q2,q3⟩:= @dL f n s t ks bs al;omega
 have hrl:(fN f s ks bs al).length≤12000000:=by omega
 have hcb:aW Tryz.prog 103 [.one (.c (.sl 15 (aR bs))),.one (.clo 104 [])] [] (B (bs.any mB)) []:=by rw[bC];exact qI bs (by omega)
 have hPN:(dC f s ks bs al).take (fN f s ks bs al).length=dC f s ks bs al:=by rw[hN,As]
 have hst:∀i p,(dC f s ks bs al)[i]?=some p→(((decide (t.form=0)&& !bs.any mB)&&((dC f s ks bs al).take (i+1)).all fun p=>eZ p.2 (ext (dW m) p.1))=(((decide (t.form=0)&& !bs.any mB)&&((dC f s ks bs al).take i).all fun p=>eZ p.2 (ext (dW m) p.1))&&eZ p.2 (ext (dW m) p.1))):=fun i p h=>by rw[aLf _ h,Bool.and_assoc,Bool.and_assoc,Bool.and_assoc]
 rw[←hPN];generalize hOK:(fun i=>(decide (t.form=0)&& !bs.any mB)&&((dC f s ks bs al).take i).all fun p=>eZ p.2 (ext (dW m) p.1))=OK;have hOKi:∀i,((decide (t.form=0)&& !bs.any mB)&&((dC f s ks bs al).take i).all fun p=>eZ p.2 (ext (dW m) p.1))=OK i:=fun i=>congrFun hOK i
 have hO0:(decide (t.form=0)&& !bs.any mB)=OK 0:=by rw[←hOKi 0,Cd];simp
 simp only[hOKi] at hst ⊢;generalize dC f s ks bs al=L at hN hin hat hst ⊢;generalize fN f s ks bs al=rows at hN hat hcp ab hrl hpl ⊢
 obtain⟨sq,hs0,hsP,hsR⟩:=nW (P:=fun _ x=>tK m x) (R:=fun i x y=>∀p,L[i]?=some p→∃Y,y=decs p.1 Y∧tK (k9 p.1 x) Y∧(OK i=false→Y=k9 p.1 x)∧(OK i=true→aW Tryz.prog 44 [.one (.mr 800),.pa (aB p.2)] [(800,eX (k9 p.1 x))] (B (eZ p.2 (ext (dW m) p.1))) [(800,eX Y)])) m (fun _=>rfl) (fun i x hx=>by
  cases hp:L[i]? with
  | none=>exact⟨x,hx,fun p h=>by cases h⟩
  | some p=>
   cases hok:OK i with
   | false=>exact⟨decs p.1 (k9 p.1 x),fun s=>by rw[hx s];exact tK.decs (fun _=>rfl) s,fun p' h=>by cases h;exact⟨k9 p.1 x,rfl,fun _=>rfl,fun _=>rfl,fun h=>by cases h⟩⟩
   | true=>
    obtain⟨q1,q2⟩:=hin p (δ hp);have hx0:∀s,0≤cnt x s:=fun s=>by rw[←hx s];exact hm0 s
    obtain⟨Y,g1,g2⟩:=ih p.2 q1 (k9 p.1 x) (fun s=>by
     have h1:=hm s;have h2:=hx s;have h3:=eI s p.1 x;have h4:0≤times s p.1∧times s p.1≤p.1.length:=by
      unfold times;have:=Bp (a:=s) (l:=p.1);omega
     omega) (by omega)
    rw[n5 hx0,←pQ hx] at g2
    exact⟨decs p.1 Y,fun s=>by rw[hx s];exact tK.decs g1 s,fun p' h=>by cases h;exact⟨Y,rfl,g1,(fun h=>by cases h),fun _=>g2⟩⟩)
 refine⟨sq rows.length,hsP _,?_⟩;refine bZ (n:=50) tok Tryz.func44 rfl rfl rfl ?_;refine sgh [(1,.id 700)] rfl (a8 (sg rfl (aC (a8 (sg rfl (aA rfl (fun hb=>by have:f=5:=ψ hb;omega) (fun _=>sg rfl (aA rfl (fun hb=>by have:f=7:=ψ hb;omega) (fun _=>ag [] rfl (aA rfl (fun hb=>by have:f=6:=ψ hb;omega) (fun _=>sg rfl (aA rfl (fun hb=>absurd (ψ hb) h1) (fun _=>aD (a8 (AWp.cut (mk [(2,.one (.vp 2 0)),(3,.one (.vp 700 0)),(5,.one (.vp 5 0))] [(2,.var mT [.mr 800]),(5,.var aFk [.c (.bool (OK 0))]),(700,.var 30 (bF (.mk f n s t ks bs al))),(800,eX m)]) ?_ ?_)))))))))))))))
 ·by_cases ht:t.form=0
  ·have ht':decide (t.form=0)=true:=Ae ht;rw[←hO0,ht',Db];refine aE mixed (ak 7 [(4,.bv true)] rfl (kcG hcb ?_ (hw:=ht')));exact ak 4 [(4,.bv true),(9,.bv true)] rfl (az sl)
  ·have ht':decide (t.form=0)=false:=Ag ht;rw[←hO0,ht',Bool.false_and];exact ag [(4,.bv false),(9,.bv false)] rfl sl
 refine a8 (a8 (aE mixed (kc hcp ?_)));refine kz 2 rfl (aC (aK (fun i:Nat=>mk [(2,.one (.vp 2 0)),(5,.one (.vp 5 0)),(37,.one (.ra 704 0 rows.length rows.length)),(38,I .i64 ((rows.length:Nat):Int)),(39,I .i64 i)] ((704,aJt rows)::[(2,.var mT [.mr 800]),(5,.var aFk [.c (.bool (OK i))]),(701,.arr 35 15 (aR bs) 0),(702,.arr 30 10 (aT ks) 0),(703,.arr 73 14 (bP al) 0),(800,eX (sq i))])) (fun i=>i≤rows.length) (fun i=>rows.length-i) 0 (Al _) (by rw[hs0];exact slR iA ab ⟨_,rfl,.rarrS rfl⟩) ?_));intro i hi;refine sg rfl (a8 (aA rfl (fun hb=>?_) (fun hb=>?_)))
 ·have hlt:i<rows.length:=by
   have:(i:Int)<(rows.length:Int):=ψ hb;omega
  refine aD (a8 (aC ?_));rcases hat hlt with⟨j,b,hb',hro,J,_⟩ | ⟨j,k,hk',hro,J,_⟩ | ⟨j,al',ha',hro,J,_⟩
  ·obtain⟨Y,e1,e2,e3,e4⟩:=hsR i _ J;obtain⟨q1,q2⟩:=hin _ (δ J);have hx:=hsP i;have O:=hst i _ J;dsimp only at e1 e2 e3 e4 q1 q2 O;have Z:=aRz (ks:=ks) (bs:=bs) (al:=al) (gvs f s bs) hb' (OK i) e3 e4;rw[←O] at Z
   have aa:=gG (gvs f s bs) (sq i) Y _ _ [800,5,2,7,701,702,703] (by omega) (fun u=>by have:=hm u;have:=hx u;omega) (fun u=>by
    have h1:=hm u;have h2:=hx u;have h3:=e2 u;rw[eI] at h3;have h4:0≤times u (gvs f s bs)∧times u (gvs f s bs)≤(gvs f s bs).length:=by
     unfold times;have:=Bp (a:=u) (l:=gvs f s bs);omega
    omega) (aLn _ _ _ _ _ _ (by simp[R.refs])) (aLn _ _ _ _ _ _ (by simp[R.refs])) rfl (by kernel_rfl) Z
   rw[←e1] at aa;refine sgh [(1,.rr (rU 701 5 bs.length (gvs f s bs) j))] rfl (aE mixed (ak 4 [] rfl (kc aa ?_)));exact az (ag [] rfl ⟨i+1,hlt,by dsimp only;omega,slR iA ab ⟨_,rfl,.rarrS rfl⟩⟩)
  ·obtain⟨Y,e1,e2,e3,e4⟩:=hsR i _ J;obtain⟨q1,q2⟩:=hin _ (δ J);have hx:=hsP i;have O:=hst i _ J;dsimp only at e1 e2 e3 e4 q1 q2 O;have Z:=aRy (ks:=ks) (bs:=bs) (al:=al) (gvs f s bs) hk' (OK i) e3 e4;rw[←O] at Z
   have aa:=gG (gvs f s bs) (sq i) Y _ _ [800,5,2,7,701,702,703] (by omega) (fun u=>by have:=hm u;have:=hx u;omega) (fun u=>by
    have h1:=hm u;have h2:=hx u;have h3:=e2 u;rw[eI] at h3;have h4:0≤times u (gvs f s bs)∧times u (gvs f s bs)≤(gvs f s bs).length:=by
     unfold times;have:=Bp (a:=u) (l:=gvs f s bs);omega
    omega) (aLn _ _ _ _ _ _ (by simp[R.refs])) (aLn _ _ _ _ _ _ (by simp[R.refs])) rfl (by kernel_rfl) Z
   rw[←e1] at aa;refine sgh [(1,.rr (rU 702 0 ks.length (gvs f s bs) j))] rfl (aE mixed (ak 4 [] rfl (kc aa ?_)));exact az (ag [] rfl ⟨i+1,hlt,by dsimp only;omega,slR iA ab ⟨_,rfl,.rarrS rfl⟩⟩)
  ·obtain⟨Y,e1,e2,e3,e4⟩:=hsR i _ J;obtain⟨q1,q2⟩:=hin _ (δ J);have hx:=hsP i;have O:=hst i _ J;dsimp only at e1 e2 e3 e4 q1 q2 O;have Z:=aR0 (ks:=ks) (bs:=bs) (al:=al) (gvs f s bs++al'.vars) ha' (OK i) e3 e4;rw[←O] at Z
   have aa:=gG (gvs f s bs++al'.vars) (sq i) Y _ _ [800,5,2,7,701,702,703] (by omega) (fun u=>by have:=hm u;have:=hx u;omega) (fun u=>by
    have h1:=hm u;have h2:=hx u;have h3:=e2 u;rw[eI] at h3;have h4:0≤times u (gvs f s bs++al'.vars)∧times u (gvs f s bs++al'.vars)≤(gvs f s bs++al'.vars).length:=by
     unfold times;have:=Bp (a:=u) (l:=gvs f s bs++al'.vars);omega
    omega) (aLn _ _ _ _ _ _ (by simp[R.refs])) (aLn _ _ _ _ _ _ (by simp[R.refs])) rfl (by kernel_rfl) Z
   rw[←e1] at aa;refine sgh [(1,.rr (rU 703 4 al.length (gvs f s bs++al'.vars) j))] rfl (aE mixed (ak 4 [] rfl (kc aa ?_)));exact az (ag [] rfl ⟨i+1,hlt,by dsimp only;omega,slR iA ab ⟨_,rfl,.rarrS rfl⟩⟩)
 have hge:i=rows.length:=by
  have:¬(i:Int)<(rows.length:Int):=π hb;omega
 subst hge;exact aL (sg rfl (aF rtT))
theorem aRn:∀(n:Nat) (c:Core),aQ c≤n→aB7 c
 | 0,c,h=>by have:=bH c;omega
 | n+1,c,h=>aFc c fun x hx=>aRn n x (by omega)
def seen:List Str→List Str→List Str
 | [],o=>o
 | s::l,o=>seen l (if s∈o then o else o++[s])
theorem aI4 (s:Str):∀l o:List Str,seen (l++[s]) o=if s∈seen l o then seen l o else seen l o++[s]
 | [],_=>rfl
 | x::l,o=>by rw[A1,seen,aI4 s l];rfl
theorem zU:∀l o:List Str,(seen l o).length≤o.length+l.length
 | [],o=>by simp[seen]
 | s::l,o=>by
  rw[seen,Ai];by_cases h:s∈o
  ·rw[κ h];have:=zU l o;omega
  ·rw[θ h];have:=zU l (o++[s]);rw[ε,Ct] at this;omega
theorem aN5:∀l o:List Str,decide ((seen l o).length=o.length+l.length)=(hJ l&&l.all fun s=>!decide (s∈o))
 | [],o=>by simp[seen,hJ]
 | s::l,o=>by
  rw[seen,hJ,all_cons,Ai];by_cases h:s∈o
  ·rw[κ h];have:=zU l o;rw[Ag (by omega),Ae h];simp
  ·rw[θ h];have q:=aN5 l (o++[s]);rw[ε,Ct,Cq,Nat.add_comm 1] at q;rw[q,Ag h];have:(l.all fun u=>!decide (u∈o++[s]))=(!decide (s∈l)&&l.all fun u=>!decide (u∈o)):=by
    clear q h
    induction l with
    | nil=>rfl
    | cons u l q=>
     rw[all_cons,all_cons,q];by_cases h1:u=s
     ·subst h1;simp
     ·have h2:¬s=u:=fun e=>h1 e.symm
      have y:decide (u∈o++[s])=decide (u∈o):=by simp[h1]
      have I:decide (s∈u::l)=decide (s∈l):=by simp[h2]
      rw[y,I];cases decide (u∈o)<;>cases decide (s∈l)<;>simp
   rw[this];cases hJ l<;>cases decide (s∈l)<;>simp
theorem aN4 (l:List Str):decide ((seen l []).length=l.length)=hJ l:=by
 have:=aN5 l [];simp only[length_nil,Be] at this;rw[this];simp
theorem aD4 (s:Str):∀o:List Str,qO s [] (o.map bA)=(if s∈o then o else o++[s]).map bA
 | []=>rfl
 | x::o=>by
  have q:=aD4 s o;simp only[At,bA,qO] at q ⊢;by_cases h:x=s
  ·subst h;simp[bA]
  ·have h2:¬s=x:=fun e=>h e.symm
   rw[θ h,q];by_cases h3:s∈o<;>simp[h2,h3,bA]
theorem aD2:∀o:List Str,iF (o.map bA)
 | []=>trivial
 | _::o=>aD2 o
theorem aX9 (l:List Str) (hl:l.length≤1000000000):aW Tryz.prog 41 [bV l] [] (B (hJ l)) []:=by
 have q:(l.map bA).length=l.length:=φ _;rw[←aN4];refine bZ (n:=22) tok Tryz.func41 rfl rfl rfl ?_;refine sg rfl (sgh [(0,.id 800)] rfl (a8 (sg rfl (aC (aK (fun i:Nat=>mk [(0,bV l),(3,.one (.mr 800)),(7,bV l),(8,I .i64 ((l.map bA).length:Int)),(9,I .i64 i)] [(800,.map true ((seen (l.take i) []).map bA))]) (fun i=>i≤l.length) (fun i=>l.length-i) 0 (Al _) sl ?_)))));intro i hi;have Y:=aD2 (seen (l.take i) []);have y:=zU (l.take i) [];rw[Ap,length_nil] at y;refine sg rfl (a8 (aA rfl (fun hb=>?_) (fun hb=>?_)))
 ·have J:=ltD hb q;obtain⟨s,hs⟩:=aJ J;have ac:=bT bA hs;have Z:seen (l.take (i+1)) []=if s∈seen (l.take i) [] then seen (l.take i) [] else seen (l.take i) []++[s]:=by rw[cB hs,aI4]
  have aa:=aD4 s (seen (l.take i) []);rw[←Z] at aa;exact aD (a8 (aC (sgh [(0,.row i (bA s))] rfl (ag [] rfl (ag [] rfl ⟨i+1,J,by dsimp only;omega,sl⟩)))))
 have ab:=geD hb q hi;subst ab;rw[As] at Y y ⊢;refine aL (sg rfl ?_);have O:decide ((((seen l []).map bA).length:Int)=((l.map bA).length:Int))=decide ((seen l []).length=l.length):=by
  rw[φ,φ];exact decide_eq_decide.2 Int.ofNat_inj
 rw[←O];exact aF rtT
def a8u:Nat:=85
def a8v (x:Sup):List R:=[.c (.str x.name),.c (.sl 1 (x.params.map bA))]++bF x.body
theorem a5o {m q:CM}{x:Sup}{ok r:Bool}(hx:x.params.length≤1000000000) (hm:(ok&&hJ x.params)=false→q=m)
  (y:(ok&&hJ x.params)=true→aW Tryz.prog 44 [.one (.mr 800),.pa (aB x.body)] [(800,eX m)] (B r) [(800,eX q)]):
  aW Tryz.prog 43 ([R.vp 6 0,R.vp 4 0,R.vp 7 0].map V.one) [(800,eX m),(6,.var aFk [.c (.bool ok)]),(4,.var a8u (a8v x)),(7,.var mT [.mr 800])] (.tup []) [(800,eX q),(6,.var aFk [.c (.bool (ok&&(hJ x.params&&r)))]),(4,.var a8u (a8v x)),(7,.var mT [.mr 800])]:=by
 have I:=aX9 x.params hx;generalize hJ x.params=o at hm y I ⊢;cases ok with
 | false=>
  rw[hm rfl];refine bZ (n:=15) tok Tryz.func43 rfl rfl rfl ?_;exact ag [] rfl ⟨.inl rfl,⟨_,_,.nil,.nil,rfl⟩,⟨⟨_,rfl,.map⟩,⟨_,rfl,.var rfl⟩,⟨_,rfl,.var rfl⟩,⟨_,rfl,.var rfl⟩,trivial⟩,rfl⟩
 | true=>
  refine bZ (n:=15) tok Tryz.func43 rfl rfl rfl ?_;refine aE mixed (ak 4 [] rfl (kcG I ?_));cases o with
  | false=>
   rw[hm rfl];exact kz 8 rfl ⟨.inl rfl,⟨_,_,.nil,.nil,rfl⟩,⟨⟨_,rfl,.map⟩,⟨_,rfl,.var rfl⟩,⟨_,rfl,.var rfl⟩,⟨_,rfl,.var rfl⟩,trivial⟩,rfl⟩
  | true=>
   refine ak 5 [] rfl (kcG (y rfl) ?_);exact kz 2 rfl ⟨.inl rfl,⟨_,_,.nil,.nil,rfl⟩,⟨⟨_,rfl,.map⟩,⟨_,rfl,.var rfl⟩,⟨_,rfl,.var rfl⟩,⟨_,rfl,.var rfl⟩,trivial⟩,rfl⟩
def a9c (l:List Sup):Prop:=∀x∈l,aQ x.body≤4000000∧x.params.length≤200000
theorem a8l (l:List Sup) (hl:l.length≤100000) (h:a9c l) (m:CM) (hm:∀s,0≤cnt m s∧cnt m s≤100000) (ok:Bool):∃q,tK m q∧
  aW Tryz.prog 42 ([R.vp 1 0,R.vp 7 0,R.vp 6 0].map V.one) [(800,eX m),(1,.var 36 [.c (.sl 12 (l.map dA))]),(7,.var mT [.mr 800]),(6,.var aFk [.c (.bool ok)])] (.tup [])
   [(800,eX q),(1,.var 36 [.c (.sl 12 (l.map dA))]),(7,.var mT [.mr 800]),(6,.var aFk [.c (.bool (ok&&l.all fun x=>hJ x.params&&eZ x.body (ext (dW m) x.params)))])]:=by
 have hm0:∀s,0≤cnt m s:=fun s=>(hm s).1
 have Y:(l.map dA).length=l.length:=φ _;generalize hOK:(fun i=>ok&&(l.take i).all fun x=>hJ x.params&&eZ x.body (ext (dW m) x.params))=OK;have J:∀i,(ok&&(l.take i).all fun x=>hJ x.params&&eZ x.body (ext (dW m) x.params))=OK i:=fun i=>congrFun hOK i
 have hst:∀i x,l[i]?=some x→OK (i+1)=(OK i&&(hJ x.params&&eZ x.body (ext (dW m) x.params))):=fun i x h=>by rw[←J,←J,aLf _ h,Bool.and_assoc]
 have hO0:OK 0=ok:=by rw[←J 0,Cd];simp
 have hON:(ok&&l.all fun x=>hJ x.params&&eZ x.body (ext (dW m) x.params))=OK l.length:=by rw[←J,As]
 rw[hON]
 obtain⟨sq,hs0,Z,hsR⟩:=nW (P:=fun _ x=>tK m x) (R:=fun i x y=>∀p,l[i]?=some p→∃q,y=decs p.params q∧tK (k9 p.params x) q∧((OK i&&hJ p.params)=false→q=k9 p.params x)∧((OK i&&hJ p.params)=true→aW Tryz.prog 44 [.one (.mr 800),.pa (aB p.body)] [(800,eX (k9 p.params x))] (B (eZ p.body (ext (dW m) p.params))) [(800,eX q)])) m (fun _=>rfl) (fun i x hx=>by
  cases hp:l[i]? with
  | none=>exact⟨x,hx,fun p h=>by cases h⟩
  | some p=>
   cases hok:(OK i&&hJ p.params) with
   | false=>exact⟨decs p.params (k9 p.params x),fun s=>by rw[hx s];exact tK.decs (fun _=>rfl) s,fun p' h=>by cases h;rw[hok];exact⟨k9 p.params x,rfl,fun _=>rfl,fun _=>rfl,fun h=>by cases h⟩⟩
   | true=>
    obtain⟨q1,q2⟩:=h p (δ hp);have hx0:∀s,0≤cnt x s:=fun s=>by rw[←hx s];exact hm0 s
    obtain⟨q,g1,g2⟩:=aRn _ p.body (le_refl _) (k9 p.params x) (fun s=>by
     have h1:=hm s;have h2:=hx s;have h3:=eI s p.params x;have h4:0≤times s p.params∧times s p.params≤p.params.length:=by
      unfold times;have:=Bp (a:=s) (l:=p.params);omega
     omega) (by omega)
    rw[n5 hx0,←pQ hx] at g2
    exact⟨decs p.params q,fun s=>by rw[hx s];exact tK.decs g1 s,fun p' h=>by cases h;rw[hok];exact⟨q,rfl,g1,(fun h=>by cases h),fun _=>g2⟩⟩)
 refine⟨sq l.length,Z _,?_⟩;refine bZ (n:=17) tok Tryz.func42 rfl rfl rfl ?_;refine sg rfl (aC (aK (fun i:Nat=>mk [(1,.one (.vp 7 0)),(2,.one (.vp 6 0)),(5,.one (.c (.sl 12 (l.map dA)))),(6,I .i64 ((l.map dA).length:Int)),(7,I .i64 i)] [(1,.var 36 [.c (.sl 12 (l.map dA))]),(6,.var aFk [.c (.bool (OK i))]),(7,.var mT [.mr 800]),(800,eX (sq i))]) (fun i=>i≤l.length) (fun i=>l.length-i) 0 (Al _) (by rw[hs0,hO0];exact sl) ?_));intro i hi;refine sg rfl (a8 (aA rfl (fun hb=>?_) (fun hb=>?_)))
 ·have aa:=ltD hb Y;obtain⟨x,O⟩:=aJ aa;have hxi':=bT dA O;obtain⟨q1,q2⟩:=h x (δ O);obtain⟨q,e1,e2,e3,e4⟩:=hsR i x O;have hx:=Z i;have ab:=a5o (by omega) e3 e4;rw[←hst i x O] at ab
  have ac:=gG x.params (sq i) q _ _ [800,6,4,7] (by omega) (fun u=>by have:=hm u;have:=hx u;omega) (fun u=>by
   have h1:=hm u;have h2:=hx u;have h3:=e2 u;rw[eI] at h3;have h4:0≤times u x.params∧times u x.params≤x.params.length:=by
    unfold times;have:=Bp (a:=u) (l:=x.params);omega
   omega) (fun x=>⟨rfl,by kernel_rfl⟩) (fun x=>⟨rfl,by kernel_rfl⟩) rfl (by kernel_rfl) ab
  rw[←e1] at ac;refine aD (a8 (aC (sgh [(0,.row i (dA x))] rfl (aE mixed (ak 4 [] rfl (kc ac ?_))))));exact az (ag [] rfl ⟨i+1,aa,by dsimp only;omega,sl⟩)
 have hge:=geD hb Y hi;subst hge;exact aL ⟨.inl rfl,⟨_,_,.nil,.nil,rfl⟩,⟨⟨_,rfl,.map⟩,⟨_,rfl,.var rfl⟩,⟨_,rfl,.var rfl⟩,⟨_,rfl,.var rfl⟩,trivial⟩,rfl⟩
theorem aR6 (l:List Sup) (hl:l.length≤100000) (h:a9c l):aW Tryz.prog 12 [.one (.c (.sl 12 (l.map dA)))] [] (B (yM l)) []:=by
 have q:(l.map dA).length=l.length:=φ _;have ho:=aX9 (l.map (·.name)) (by rw[φ];omega);have y:∀s,0≤times s (l.map (·.name))∧times s (l.map (·.name))≤100000:=fun s=>by
  have:=kJ s (l.map (·.name)) (l.map (·.name)).length;rw[As,φ] at this;omega
 have J:∀u,cnt (k9 (l.map (·.name)) []) u=times u (l.map (·.name)):=fun u=>by rw[eI];show(0:Int)+_=_;omega
 obtain⟨m',hs,hc⟩:=a8l l hl h (k9 (l.map (·.name)) []) (fun s=>by rw[J];exact y s) (hJ (l.map (·.name)));rw[iB] at hc;rw[show yM l=(hJ (l.map (·.name))&&l.all fun x=>hJ x.params&&eZ x.body (ext (fun s=>decide (s∈l.map (·.name))) x.params)) from rfl];generalize (hJ (l.map (·.name))&&l.all fun x=>hJ x.params&&eZ x.body (ext (fun s=>decide (s∈l.map (·.name))) x.params))=r at hc ⊢
 have O:=gG (l.map (·.name)) [] m' _ _ [800,1,7,6] (by rw[φ];omega) (fun u=>by show(0:Int)≤(0:Int)∧(0:Int)≤_;omega) (fun u=>by
  have:=y u;have:=hs u;rw[J u] at this
  omega) (fun x=>⟨rfl,by kernel_rfl⟩) (fun x=>⟨rfl,by kernel_rfl⟩) rfl (by kernel_rfl) hc
 refine bZ (n:=28) tok Tryz.func12 rfl rfl rfl ?_;refine sg rfl (sg rfl (AWp.sub (Sub.own (t:=3) (id:=500) 9 1 rfl rfl) ?_));refine a8 (sg rfl (aC (aK (fun i:Nat=>mk [(1,.one (.vp 1 0)),(3,.one (.hs 500 0 i i)),(8,.one (.c (.sl 12 (l.map dA)))),(9,I .i64 ((l.map dA).length:Int)),(10,I .i64 i)] [(1,.var 36 [.c (.sl 12 (l.map dA))]),(500,.arr 9 1 (((l.take i).map (·.name)).map bA) 0)]) (fun i=>i≤l.length) (fun i=>l.length-i) 0 (Al _) sl ?_)));intro i hi;have Y:((l.take i).map (·.name)).length=i:=by rw[φ,Ap];omega
 refine sg rfl (a8 (aA rfl (fun hb=>?_) (fun hb=>?_)))
 ·have Z:=ltD hb q;obtain⟨x,aa⟩:=aJ Z;have hxi':=bT dA aa;have ac:((l.take i).map (·.name)).map bA++[[.str x.name]]=((l.take (i+1)).map (·.name)).map bA:=by rw[cB aa];simp[bA]
  exact aD (a8 (aC (sgh [(0,.row i (dA x))] rfl (ag [] rfl (ag [] rfl ⟨i+1,Z,by dsimp only;omega,sl⟩)))))
 have ab:=geD hb q hi;subst ab;rw[As] at Y ⊢;generalize l.map (·.name)=N at Y O ho ⊢;refine aL (AWp.sub (Sub.freeze (id:=500) rfl) (AWp.sub (cv 3 (N.map bA)) ?_));refine sgh [(1,.pc (B (hJ N)))] rfl (sgh [(0,.id 800)] rfl (sk 3 rfl (kc O ?_)));exact az (sg rfl (aF rtT))
theorem c_v (s:Str):aW Tryz.prog 10 [Go.AM.T s] [] (.pa (aB (varC s))) []:=by
 refine bZ (n:=5) tok Tryz.func10 rfl rfl rfl ?_;exact sg rfl (sg rfl (aF (rtC trw)))
theorem aHs (a b:Core):aW Tryz.prog 46 [.pa (aB a),.pa (aB b)] [] (.pa (aB (aCf a b))) []:=by
 refine bZ (n:=9) tok Tryz.func46 rfl rfl rfl ?_;exact sg rfl (sgh [(2,.all)] rfl (aF (rtC trw)))
def aTh (a b:Core):Core:=.mk 10 0 [97,100,100] zTy [a,b] [] []
theorem a0w (a b:Core):aW Tryz.prog 47 [.pa (aB a),.pa (aB b)] [] (.pa (aB (aTh a b))) []:=by
 refine bZ (n:=9) tok Tryz.func47 rfl rfl rfl ?_;exact sg rfl (sgh [(2,.all)] rfl (aF (rtC trw)))
theorem aRq (s:Str) (a:Core):aW Tryz.prog 45 [Go.AM.T s,.pa (aB a)] [] (.pa (aB (oE s a))) []:=by
 refine bZ (n:=9) tok Tryz.func45 rfl rfl rfl ?_;exact sg rfl (sgh [(2,.all)] rfl (aF (rtC trw)))
def v7 (n:Int):Core:=.mk 3 n [] zTy [] [] []
def a4r:Core:=oE [120] (aCf (oE [121] (aTh (varC [120]) (varC [121]))) (v7 1))
def a4q:List Bind:=[.mk [102] zTy a4r]
def exF:Str:=[102,64,102,49]
def exS:List Sup:=[⟨[102],[[120]],aCf (aCf (varC exF) (varC [120])) (v7 1)⟩,⟨exF,[[120],[121]],aTh (varC [120]) (varC [121])⟩]
theorem a0b:fD a4q=exS:=by kernel_rfl
theorem aVn:yM exS=true:=by kernel_rfl
theorem a0s:aW Tryz.prog 13 [] [] (B true) []:=by
 have hL:=aYd a4q (by decide) (fun b hb=>by
  rw[Ab.1 hb]
  exact⟨⟨by kernel_rfl,by decide,by decide⟩,.inr ⟨by kernel_rfl,fun s hs=>by
   have:s∈[([120]:Str)]:=ψ hs
   rw[Ab.1 this];decide⟩,by decide,by decide⟩)
 rw[a0b] at hL
 have y:=a8f exS (by decide) (fun x hx=>by
  rcases Ac.1 hx with rfl | hx
  ·exact⟨by kernel_rfl,by decide,by decide⟩
  ·rw[Ab.1 hx];exact⟨by kernel_rfl,by decide,by decide⟩)
 have q:=aR6 exS (by decide) (fun x hx=>by
  rcases Ac.1 hx with rfl | hx
  ·exact⟨by decide,by decide⟩
  ·rw[Ab.1 hx];exact⟨by decide,by decide⟩)
 rw[aVn] at q;have v1:=c_v [120];have v2:=c_v [121];have v3:=c_v exF;have a1:=a0w (varC [120]) (varC [121]);have I:=aRq [121] (aTh (varC [120]) (varC [121]));have a2:=aHs (oE [121] (aTh (varC [120]) (varC [121]))) (v7 1);have J:=aRq [120] (aCf (oE [121] (aTh (varC [120]) (varC [121]))) (v7 1));have a3:=aHs (varC exF) (varC [120]);have a4:=aHs (aCf (varC exF) (varC [120])) (v7 1);refine bZ (n:=35) tok Tryz.func13 rfl rfl rfl ?_;refine sg rfl (sg rfl (skh 9 [(0,.pc (.pa (aB (varC [120])))),(1,.pc (.pa (aB (varC [121])))),(2,.pc (.pa (aB (aTh (varC [120]) (varC [121]))))),(3,.pc (.pa (aB (oE [121] (aTh (varC [120]) (varC [121])))))),(5,.pc (.pa (aB (aCf (oE [121] (aTh (varC [120]) (varC [121]))) (v7 1))))),(6,.pc (.pa (aB a4r))),(8,.all)] rfl (kc hL ?_)));refine kz 1 rfl (AWp.sub (Sub.freeze (id:=500) rfl) (AWp.sub (cv 2 (exS.map dA)) ?_));exact a8 (agN [(0,.all),(1,.pc (.pa (aB (varC exF)))),(2,.pc (.pa (aB (varC [120])))),(3,.pc (.pa (aB (aCf (varC exF) (varC [120]))))),(5,.pc (.pa (aB (aCf (aCf (varC exF) (varC [120])) (v7 1))))),(7,.all),(8,.pc (.pa (aB (varC [120])))),(9,.pc (.pa (aB (varC [121])))),(10,.pc (.pa (aB (aTh (varC [120]) (varC [121]))))),(12,.all)] rfl (sgh [(2,.pc (B true)),(5,.pc (B true))] rfl (aF rtT)))
def qN:List Sup→Nat
 | []=>0
 | x::l=>aQ x.body+qN l
theorem aJ1:∀a b:List Sup,qN (a++b)=qN a+qN b
 | [],b=>by rw[A3,qN,Be]
 | x::a,b=>by rw[A1,qN,qN,aJ1 a b,Cq]
theorem aJz (c:Core):∀(l:List Sup) (k:Nat),qN (setBody l k c)≤qN l+aQ c
 | [],k=>by rw[setBody];exact B6 _ _
 | x::l,0=>by rw[setBody,qN,qN];dsimp only;omega
 | x::l,k+1=>by rw[setBody,qN,qN];have:=aJz c l k;omega
theorem aJ0:∀{l:List Sup}{x:Sup},x∈l→aQ x.body≤qN l
 | y::l,x,h=>by
  rw[qN];rcases Ac.1 h with rfl | h
  ·omega
  ·have:=aJ0 h;omega
def a9a (l:List Str):Prop:=∀s∈l,s.length≤40
theorem uK:∀(l:List Str) (i:Nat),(∀s∈l,s∈nm6)→a9a (dJ i l)
 | [],_,_=>by rw[dJ];intro s hs;simp at hs
 | s::l,i,h=>by
  have q:=uK l (i+1) fun x hx=>h x (χ _ hx)
  have h1:=kE s (h s η);have h2:=rF i;rw[dJ];intro x hx;rcases Ac.1 hx with rfl | hx
  ·split
   ·simp only[ε,Ai,length_nil];omega
   ·omega
  ·exact q x hx
def aB8 (l:List Sup):Prop:=∀x∈l,x.params.length≤200000∧a9a x.params
theorem aB8.app {a b:List Sup}(ha:aB8 a) (hb:aB8 b):aB8 (a++b):=fun x hx=>(ω.1 hx).elim (ha x) (hb x)
theorem aB8.set (c:Core):∀{l:List Sup}(k:Nat),aB8 l→aB8 (setBody l k c)
 | [],k,h=>by rw[setBody];exact h
 | x::l,0,h=>by
  rw[setBody];intro y q;rcases Ac.1 q with rfl | q
  ·exact h x η
  ·exact h y (χ _ q)
 | x::l,k+1,h=>by
  rw[setBody];intro y q;rcases Ac.1 q with rfl | q
  ·exact h _ η
  ·exact aB8.set c (l:=l) k (fun z hz=>h z (χ _ hz)) y q
theorem sB:∀(l:List Str) (c:Core),(∀s∈l,s∈nm6)→aQ (gC c l)≤aQ c+5*l.length
 | [],c,_=>by rw[gC];exact B6 _ _
 | s::l,c,h=>by
  have h1:=sB l (aCf c (varC s)) fun x hx=>h x (χ _ hx)
  have h2:=kE s (h s η);have h3:aQ (aCf c (varC s))=aQ c+s.length+2:=by
   unfold aCf varC;rw[aQ,bM,bM,bM,c9,cK,aQ,bM,c9,cK];simp;omega
  rw[gC,Ai];omega
theorem aMv {ks:List Core}(hw:fE ks=true) (hn:sU ks=true):(∀s∈dN ks,s∈nm6)∧(dN ks).length≤bK ks:=by
 cases ks with
 | nil=>rw[dN];exact⟨by simp,by simp⟩
 | cons k ks=>
  rw[fE,ζ] at hw;rw[sU,ζ] at hn;obtain⟨h1,_,h3⟩:=sT _ k (le_refl _) hw.1 hn.1;rw[dN,bK];exact⟨h1,by omega⟩
def Sml (of:Str):Prop:=of.length≤10
def AIn (A:Str→Bool):Prop:=∀s,A s=true→s∈nm6
theorem AIn.ext {A:Str→Bool}(h:AIn A) {l:List Str}(hl:∀s∈l,s∈nm6):AIn (ext A l):=fun s hs=>by
 simp only[YtnjaiimffoninaaGreatDoor.ext,Bi,A4] at hs;exact hs.elim (h s) (hl s)
mutual
theorem uG {of:Str}(q:Sml of):∀(c:Core) (ch:Bool) (A:Str→Bool) (made:List Sup),wfR c=true→nmR c=true→bX c≤100000→AIn A→aB8 made→
  aQ (bO of ch c A made).1+qN (bO of ch c A made).2≤aQ c+qN made+100*bX c∧aB8 (bO of ch c A made).2
 | .mk f n s t ks bs al,ch,A,made,hw,hn,hl,y,hp=>by
  have hw0:=hw;have Z:=hn;simp only[wfR,ζ] at hw;simp only[nmR,ζ] at hn;rw[bX] at hl ⊢;rw[bO];by_cases h5:f=5
  ·rw[κ h5] at hl hw hn ⊢;rw[κ h5];have Y:ks≠[]:=fun e=>by subst e;simp at hw
   cases ch with
   | true=>
    rw[κ rfl];obtain⟨k1,k2⟩:=aJq q ks A made Y hw.2.1 hn.2.1 (by omega) y hp;rw[aQ];exact⟨by omega,k2⟩
   | false=>
    rw[θ An];dsimp only;have aa:=pW A (.mk f n s t ks bs al) (fun _=>false) [] (fun s hs=>by simp at hs);have ab:=jC A (.mk f n s t ks bs al) (fun _=>false) [] nodup_nil;have I:∀x∈eG A (.mk f n s t ks bs al) (fun _=>false) [],x∈nm6:=fun x hx=>y x (aa x hx)
    have ac:=uO nm6 _ ab I;have hnl:nm6.length=6:=rfl;obtain⟨c1,c2⟩:=aMv hw.2.1 hn.2.1;generalize eG A (.mk f n s t ks bs al) (fun _=>false) []=free at I ac ⊢;have J:∀x∈free++(s::dN ks),x∈nm6:=fun x hx=>by
     rcases ω.1 hx with hx | hx
     ·exact I x hx
     ·rcases Ac.1 hx with rfl | hx
      ·exact ψ hn.1
      ·exact c1 x hx
    have ad:(free++(s::dN ks)).length≤200000:=by rw[ε,Ai];omega
    generalize free++(s::dN ks)=all at J ad ⊢;have hpl:(bG all).length=all.length:=iW all 0;obtain⟨k1,k2⟩:=aJq q ks (fun x=>decide (x∈all)) (made++[⟨dX of made.length,bG all,gO⟩]) Y hw.2.1 hn.2.1 (by omega) (fun x hx=>J x (ψ hx)) (hp.app fun x hx=>by rw[Ab.1 hx];exact⟨by show(bG all).length≤200000;omega,uK all 0 J⟩);rw[aJ1] at k1;have e1:qN [⟨dX of made.length,bG all,gO⟩]=1:=by simp[qN,gO,aQ,bM,c9,cK]
    rw[e1] at k1;generalize gQ of ks (fun x=>decide (x∈all)) (made++[⟨dX of made.length,bG all,gO⟩])=r at k1 k2 ⊢;have hs:=aJz r.1 r.2 made.length;have ha:=sB free (varC (dX of made.length)) I;have hd:=rF (made.length+1);have hv:aQ (varC (dX of made.length))≤33:=by
     unfold varC dX;unfold Sml at q;simp only[aQ,bM,c9,cK,ε];simp;omega
    refine⟨?_,aB8.set r.1 made.length k2⟩;rw[aQ];omega
  ·rw[θ h5] at hl ⊢;rw[θ h5];have hg:=aJu Z;have O:=y.ext hg;obtain⟨b1,b2⟩:=aDo q bs (ext A (gvs f s bs)) made hw.2.2.1 hn.2.2.1 (by omega) O hp;obtain⟨k1,k2⟩:=aDi q ks (ext A (gvs f s bs)) (bL of bs (ext A (gvs f s bs)) made).2 hw.2.1 hn.2.1 (by omega) O b2;obtain⟨a1,a2⟩:=aDu q al (ext A (gvs f s bs)) (bW of ks (ext A (gvs f s bs)) (bL of bs (ext A (gvs f s bs)) made).2).2 hw.2.2.2 hn.2.2.2 (by omega) O k2;refine⟨?_,a2⟩;dsimp only;rw[aQ,aQ];omega
theorem aJq {of:Str}(q:Sml of):∀(l:List Core) (A:Str→Bool) (made:List Sup),l≠[]→fE l=true→sU l=true→bK l≤100000→AIn A→aB8 made→
  aQ (gQ of l A made).1+qN (gQ of l A made).2≤bM l+qN made+100*bK l∧aB8 (gQ of l A made).2
 | [],_,_,h,_,_,_,_,_=>absurd rfl h
 | c::l,A,made,_,hw,hn,hl,y,hp=>by
  rw[fE,ζ] at hw;rw[sU,ζ] at hn;rw[bK] at hl ⊢;rw[gQ,bM];obtain⟨h1,h2⟩:=uG q c true A made hw.1 hn.1 (by omega) y hp;exact⟨by omega,h2⟩
theorem aDi {of:Str}(q:Sml of):∀(l:List Core) (A:Str→Bool) (made:List Sup),fE l=true→sU l=true→bK l≤100000→AIn A→aB8 made→
  bM (bW of l A made).1+qN (bW of l A made).2≤bM l+qN made+100*bK l∧aB8 (bW of l A made).2
 | [],_,_,_,_,_,_,hp=>by rw[bW];exact⟨by dsimp only;rw[bK];omega,hp⟩
 | c::l,A,made,hw,hn,hl,y,hp=>by
  rw[fE,ζ] at hw;rw[sU,ζ] at hn;rw[bK] at hl ⊢;rw[bW];obtain⟨h1,h2⟩:=uG q c false A made hw.1 hn.1 (by omega) y hp;obtain⟨h3,h4⟩:=aDi q l A (bO of false c A made).2 hw.2 hn.2 (by omega) y h2;refine⟨?_,h4⟩;dsimp only;rw[bM,bM];omega
theorem aDo {of:Str}(q:Sml of):∀(l:List Bind) (A:Str→Bool) (made:List Sup),zF l=true→aAp l=true→c8 l≤100000→AIn A→aB8 made→
  c9 (bL of l A made).1+qN (bL of l A made).2≤c9 l+qN made+100*c8 l∧aB8 (bL of l A made).2
 | [],_,_,_,_,_,_,hp=>by rw[bL];exact⟨by dsimp only;rw[c8];omega,hp⟩
 | .mk s t c::l,A,made,hw,hn,hl,y,hp=>by
  simp only[zF,ζ] at hw;simp only[aAp,ζ] at hn;rw[c8] at hl ⊢;rw[bL];obtain⟨h1,h2⟩:=uG q c false A made hw.1.2 hn.1.2 (by omega) y hp;obtain⟨h3,h4⟩:=aDo q l A (bO of false c A made).2 hw.2 hn.2 (by omega) y h2;refine⟨?_,h4⟩;dsimp only;rw[c9,c9,bsize,bsize];omega
theorem aDu {of:Str}(q:Sml of):∀(l:List Alt) (A:Str→Bool) (made:List Sup),zG l=true→aAq l=true→bY l≤100000→AIn A→aB8 made→
  cK (cD of l A made).1+qN (cD of l A made).2≤cK l+qN made+100*bY l∧aB8 (cD of l A made).2
 | [],_,_,_,_,_,_,hp=>by rw[cD];exact⟨by dsimp only;rw[bY];omega,hp⟩
 | .mk f n s v c::l,A,made,hw,hn,hl,y,hp=>by
  rw[zG,ζ] at hw;simp only[aAq,ζ] at hn;rw[bY] at hl ⊢;rw[cD];obtain⟨h1,h2⟩:=uG q c false (ext A v) made hw.1 hn.1.2 (by omega) (y.ext fun x hx=>ψ (Au.1 hn.1.1 x hx)) hp;obtain⟨h3,h4⟩:=aDu q l A (bO of false c (ext A v) made).2 hw.2 hn.2 (by omega) y h2;refine⟨?_,h4⟩;dsimp only;rw[cK,cK,kZ,kZ];omega
end
theorem wX:∀(l:List Str) (c:Core),j6 c=true→j6 (gC c l)=true
 | [],_,h=>h
 | s::l,c,h=>by
  rw[gC];refine wX l _ ?_;simp only[aCf,varC,j6,jF,lW,lX,h];rfl
def aTj (l:List Sup):Prop:=∀x∈l,j6 x.body=true
mutual
theorem uF (of:Str):∀(c:Core) (ch:Bool) (A:Str→Bool) (made:List Sup),j6 c=true→aTj made→j6 (bO of ch c A made).1=true∧aTj (bO of ch c A made).2
 | .mk f n s t ks bs al,ch,A,made,h,hm=>by
  have h0:=h;simp only[j6,ζ] at h;obtain⟨h1,h2,h3,h4⟩:=h;rw[bO];split
  ·split
   ·exact aJp of ks A made h2 hm
   ·have hp:=aJp of ks (fun x=>decide (x∈eG A (.mk f n s t ks bs al) (fun _=>false) []++(s::dN ks))) (made++[⟨dX of made.length,bG (eG A (.mk f n s t ks bs al) (fun _=>false) []++(s::dN ks)),gO⟩]) h2 (by
     intro x hx;rcases ω.1 hx with hx | hx
     ·exact hm x hx
     ·simp only[Ab] at hx;subst hx;rfl)
    exact⟨wX _ _ rfl,oH hp.2 fun x _=>hp.1⟩
  ·have q:=aDn of bs (ext A (gvs f s bs)) made h3 hm;have y:=aDh of ks (ext A (gvs f s bs)) _ h2 q.2;have I:=aDt of al (ext A (gvs f s bs)) _ h4 y.2;refine⟨?_,I.2⟩;dsimp only;rw[j6,h1,q.1,y.1,I.1];rfl
theorem aJp (of:Str):∀(l:List Core) (A:Str→Bool) (made:List Sup),jF l=true→aTj made→j6 (gQ of l A made).1=true∧aTj (gQ of l A made).2
 | [],_,made,_,hm=>by rw[gQ];exact⟨rfl,hm⟩
 | c::l,A,made,h,hm=>by
  rw[jF,ζ] at h;rw[gQ];exact uF of c true A made h.1 hm
theorem aDh (of:Str):∀(l:List Core) (A:Str→Bool) (made:List Sup),jF l=true→aTj made→jF (bW of l A made).1=true∧aTj (bW of l A made).2
 | [],_,made,_,hm=>by rw[bW];exact⟨rfl,hm⟩
 | c::l,A,made,h,hm=>by
  rw[jF,ζ] at h;rw[bW];have h1:=uF of c false A made h.1 hm;have h2:=aDh of l A _ h.2 h1.2;exact⟨by dsimp only;rw[jF,h1.1,h2.1];rfl,h2.2⟩
theorem aDn (of:Str):∀(l:List Bind) (A:Str→Bool) (made:List Sup),lW l=true→aTj made→lW (bL of l A made).1=true∧aTj (bL of l A made).2
 | [],_,made,_,hm=>by rw[bL];exact⟨rfl,hm⟩
 | .mk s t c::l,A,made,h,hm=>by
  simp only[lW,ζ] at h;rw[bL];have h1:=uF of c false A made h.1.2 hm;have h2:=aDn of l A _ h.2 h1.2;exact⟨by dsimp only;rw[lW,h.1.1,h1.1,h2.1];rfl,h2.2⟩
theorem aDt (of:Str):∀(l:List Alt) (A:Str→Bool) (made:List Sup),lX l=true→aTj made→lX (cD of l A made).1=true∧aTj (cD of l A made).2
 | [],_,made,_,hm=>by rw[cD];exact⟨rfl,hm⟩
 | .mk f n s vs c::l,A,made,h,hm=>by
  simp only[lX,ζ] at h;rw[cD];have h1:=uF of c false (ext A vs) made h.1 hm;have h2:=aDt of l A _ h.2 h1.2;exact⟨by dsimp only;rw[lX,h1.1,h2.1];rfl,h2.2⟩
end
theorem aU5 {l:List Bind}(h:∀b∈l,j6 b.body=true):∀x∈fD l,j6 x.body=true:=by
 intro x hx;obtain⟨b,hb,q⟩:=Ce.1 hx;have:=uF b.name b.body true (fun x=>decide (x∈aU b.body)) [] (h b hb) (fun x hx=>by simp at hx);rcases Ac.1 q with rfl | q
 ·exact this.1
 ·exact this.2 x q
mutual
theorem nX:∀c:Core,j6 (aZ c)=true
 | .mk f n s t ks bs al=>by
  have hk:=vK ks;rw[aZ];split
  ·cases ks with
   | nil=>rename_i h;simp at h
   | cons k ks=>rw[dM] at hk ⊢;rw[jF,ζ] at hk;exact hk.1
  ·rw[j6,hk,vL bs,vM al];rfl
theorem vK:∀l:List Core,jF (dM l)=true
 | []=>by rw[dM,jF]
 | c::l=>by rw[dM,jF,nX c,vK l];rfl
theorem vL:∀l:List Bind,lW (eM l)=true
 | []=>by rw[eM,lW]
 | .mk s t c::l=>by rw[eM,iC,lW,nX c,vL l];rfl
theorem vM:∀l:List Alt,lX (eQ l)=true
 | []=>by rw[eQ,lX]
 | .mk f n s v c::l=>by rw[eQ,pZ,lX,nX c,vM l];rfl
end
theorem aYs:∀l:List Str,(∀s∈l,s∈nm6)→l.length≤2→(l.map fun v=>1+v.length).sum≤8:=by
 intro l h hl
 match l,hl with
 | [],_=>simp
 | [a],_=>have:=kE a (h a (by simp));simp;omega
 | [a,b],_=>have:=kE a (h a (by simp));have:=kE b (h b (by simp));simp;omega
theorem aC9:∀s∈aUk,s.length≤3:=by decide
theorem a8r {vs:List Str}(h:∀x∈vs,x∈nm6):vs.all (fun s=>decide (s∈nm6))=true:=Au.2 fun x hx=>Ae (h x hx)
theorem GC.facts {z:Bool}{L:List Str}{m:Nat}{c:Core}(h:GC z L m c):aQ c≤m∧aQ (aZ c)≤m∧wfR (aZ c)=true∧nmR (aZ c)=true∧4*bX (aZ c)≤m:=by
 induction h with
 | var h _=>have:=kE _ h;simp[aZ,dM,eM,eQ,aQ,bM,c9,cK,wfR,fE,zF,zG,nmR,sU,aAp,aAq,bX,bK,c8,bY];omega
 | con h=>simp[aZ,dM,eM,eQ,aQ,bM,c9,cK,wfR,fE,zF,zG,nmR,sU,aAp,aAq,bX,bK,c8,bY];omega
 | int h=>simp[aZ,dM,eM,eQ,aQ,bM,c9,cK,wfR,fE,zF,zG,nmR,sU,aAp,aAq,bX,bK,c8,bY]
 | app ha hb q i2=>
  obtain⟨a1,a2,a3,a4,a5⟩:=q;obtain⟨b1,b2,y,I,J⟩:=i2;simp[aZ,dM,eM,eQ,aQ,bM,c9,cK,wfR,fE,zF,zG,nmR,sU,aAp,aAq,bX,bK,c8,bY,a3,a4,y,I];omega
 | lam h ht hk ha q=>
  obtain⟨a1,a2,a3,a4,a5⟩:=q;have:=kE _ h;simp[aZ,dM,eM,eQ,aQ,bM,c9,cK,wfR,fE,zF,zG,nmR,sU,aAp,aAq,bX,bK,c8,bY,a3,a4,h];omega
 | tc h ht hk=>simp[aZ,dM,eM,eQ,aQ,bM,c9,cK,wfR,fE,zF,zG,nmR,sU,aAp,aAq,bX,bK,c8,bY];omega
 | tc2 h hu hj ht hk=>simp[aZ,dM,eM,eQ,aQ,bM,c9,cK,wfR,fE,zF,zG,nmR,sU,aAp,aAq,bX,bK,c8,bY];omega
 | tr hu hj hs hx ht hk ha hb q i2=>
  obtain⟨a1,a2,a3,a4,a5⟩:=q;obtain⟨b1,b2,y,I,J⟩:=i2;have:=kE _ hx;have:=a63 _ hs;simp[aZ,dM,eM,eQ,aQ,bM,c9,cK,wfR,fE,zF,zG,nmR,sU,aAp,aAq,bX,bK,c8,bY,a3,a4,y,I,hx];omega
 | tlam hz h ha q=>
  obtain⟨a1,a2,a3,a4,a5⟩:=q;have:=a63 _ h;simp[aZ,dM,aQ,bM,c9,cK,a3,a4];omega
 | lt h ht hk ha hb q i2=>
  obtain⟨a1,a2,a3,a4,a5⟩:=q;obtain⟨b1,b2,y,I,J⟩:=i2;have:=kE _ h;simp[aZ,dM,eM,iC,eQ,aQ,bM,bsize,c9,cK,wfR,fE,zF,zG,nmR,sU,aAp,aAq,bX,bK,c8,bY,a3,a4,y,I,h,show a1r zTy=true from rfl];omega
 | case1 ht hk ha hb h1 h2 h3 h4 h5 h6 q i2=>
  obtain⟨a1,a2,a3,a4,a5⟩:=q;obtain⟨b1,b2,y,I,J⟩:=i2;have Y:=aYs _ h4 h5;have O:=a8r h4;simp[aZ,dM,eM,eQ,pZ,aQ,bM,c9,kZ,cK,wfR,fE,zF,zG,nmR,sU,aAp,aAq,bX,bK,c8,bY,a3,a4,y,I,O] at Y ⊢;exact⟨by omega,by omega,by omega⟩
 | case2 ht hk ha hb hc h1 h2 h3 h4 h5 h6 h1' h2' h3' h4' h5' h6' q i2 i3=>
  obtain⟨a1,a2,a3,a4,a5⟩:=q;obtain⟨b1,b2,y,I,J⟩:=i2;obtain⟨c1,c2,c3,c4,c5⟩:=i3;have Y:=aYs _ h4 h5;have O:=a8r h4;have aa:=aYs _ h4' h5';have Z:=a8r h4';simp[aZ,dM,eM,eQ,pZ,aQ,bM,c9,kZ,cK,wfR,fE,zF,zG,nmR,sU,aAp,aAq,bX,bK,c8,bY,a3,a4,y,I,c3,c4,O,Z] at Y aa ⊢;exact⟨by omega,by omega,by omega⟩
 | prim h ha hb q i2=>
  obtain⟨a1,a2,a3,a4,a5⟩:=q;obtain⟨b1,b2,y,I,J⟩:=i2;have:=aC9 _ h;simp[aZ,dM,eM,eQ,aQ,bM,c9,cK,wfR,fE,zF,zG,nmR,sU,aAp,aAq,bX,bK,c8,bY,a3,a4,y,I];omega
 | fail ht hk=>simp[aZ,dM,eM,eQ,aQ,bM,c9,cK,wfR,fE,zF,zG,nmR,sU,aAp,aAq,bX,bK,c8,bY]
structure EB (b:Bind):Prop where
 sz:aQ b.body≤110000
 wf:wfR b.body=true
 nm:nmR b.body=true
 z0:j6 b.body=true
 lams:bX b.body≤27500
 len:b.name.length≤8
theorem EB.pok {b:Bind}(h:EB b):POk b:=by
 obtain⟨q,y,I⟩:=sT _ b.body (le_refl _) h.wf h.nm;have h1:=h.sz;have h2:=h.lams;have h3:=h.len;exact⟨⟨h.wf,by omega,by omega⟩,.inr ⟨y,fun s hs=>q s (ψ hs)⟩,by omega,by omega⟩
theorem EB.lift {b:Bind}(h:EB b):(kS b).length≤27501∧∀x∈kS b,j6 x.body=true∧aQ x.body≤4000000∧x.params.length≤200000:=by
 have hz:=aU5 (l:=[b]) (fun x hx=>by rw[Ab.1 hx];exact h.z0);have I:fD [b]=kS b:=by unfold fD;simp
 rw[I] at hz;obtain⟨y,J⟩:=And.intro h.wf h.nm;obtain⟨O,Y,c3⟩:=sT _ b.body (le_refl _) y J;obtain⟨x1,Z,x3,x4,x5,x6⟩:=sL _ b.body (le_refl _) y;have hs:=h.sz;have hl:=h.lams;have q:=pI b.name (bR b.body) false (fun x=>decide (x∈aU b.body)) [];obtain⟨k1,k2⟩:=uG (of:=b.name) (by have:=h.len;unfold Sml;omega) (bR b.body) false (fun x=>decide (x∈aU b.body)) [] Z Y (by omega) (fun x hx=>O x (ψ hx)) (fun x hx=>by simp at hx);rw[aA3 y] at hz ⊢;generalize bO b.name false (bR b.body) (fun x=>decide (x∈aU b.body)) []=r at k1 k2 q hz ⊢;rw[qN] at k1;simp only[length_nil] at q;refine⟨by rw[Ai];omega,fun x hx=>⟨hz x hx,?_⟩⟩;rcases Ac.1 hx with rfl | hx
 ·have aa:(bG (aU b.body)).length=(aU b.body).length:=iW _ 0;exact⟨by show aQ r.1≤_;omega,by show(bG (aU b.body)).length≤_;omega⟩
 ·have:=aJ0 hx;have:=(k2 x hx).1
  exact⟨by omega,by omega⟩
set_option maxHeartbeats 4000000
def LQ (N:Str→Prop):Loc:=fun f s t nk bh ah=>QN N 403 f s t nk bh ah∧ZL f s t nk bh ah∧¬f=6
section
variable {N:Str→Prop}
theorem sK {c:Core}(h:bU (LQ N) c):bU (QN N 403) c:=iP (fun _ _ _ _ _ _ h=>h.1) _ c (le_refl _) h
theorem a9b {c:Core}(h:bU (LQ N) c):bU ZL c:=iP (fun _ _ _ _ _ _ h=>h.2.1) _ c (le_refl _) h
theorem oA {c:Core}(h:bU (LQ N) c):bU (QL 403) c:=aWn (sK h)
theorem aYm {N':Str→Prop}(q:∀s,N s→N' s) {f:Int}{s:Str}{t:Ty}{nk:Nat}{y:List (Str×Ty)}{I:List (Str×List Str)}(h:LQ N f s t nk y I):LQ N' f s t nk y I:=⟨⟨h.1.1,fun e=>q _ (h.1.2.1 e),fun p hp=>q _ (h.1.2.2.1 p hp),fun p hp v J=>q _ (h.1.2.2.2 p hp v J)⟩,h.2⟩
theorem a6c {f n:Int}{s:Str}{t:Ty}{ks:List Core}{bs:List Bind}{al:List Alt}(h:bU (LQ N) (.mk f n s t ks bs al)) {a:Alt}(ha:a∈al):gvN f s bs=[]∧f=9:=by
 obtain⟨⟨⟨⟨g,_⟩,_⟩,_⟩,_⟩:=aM.1 h;have hl:0<al.length:=length_pos_of_mem ha;rw[φ,φ] at g;unfold okF at g;by_cases h1:f=4∨f=10
 ·rw[κ h1] at g;have:=ψ g;omega
 rw[θ h1] at g;by_cases h2:f=5∨f=6∨f=7
 ·rw[κ h2] at g;have:=ψ g;omega
 rw[θ h2] at g;by_cases h3:f=8
 ·rw[κ h3] at g;have:=ψ g;omega
 rw[θ h3] at g;by_cases h4:f=9
 ·rw[κ h4] at g;have:=ψ g;have hb:bs=[]:=Bc.1 this.2;subst hb;exact⟨by unfold gvN;rw[θ (by omega)];rfl,h4⟩
 ·rw[θ h4] at g;have:=ψ g;omega
theorem zB {n:Int}{s:Str}{t:Ty}{ks:List Core}{bs:List Bind}{al:List Alt}(h:bU (LQ N) (.mk 5 n s t ks bs al)):(∃k,ks=[k])∧bs=[]∧al=[]∧N s:=by
 obtain⟨h1,h2,h3⟩:=nH (oA h) (.inl rfl);obtain⟨⟨⟨_,q,_⟩,_⟩,_⟩:=aM.1 h;exact⟨h1,h2,h3,q rfl⟩
theorem aLj {n:Int}{s:Str}{t:Ty}{ks:List Core}{bs:List Bind}{al:List Alt}(h:bU (LQ N) (.mk 1 n s t ks bs al)):ks=[]∧bs=[]∧al=[]:=by
 obtain⟨⟨⟨⟨g,_⟩,_⟩,_⟩,_⟩:=aM.1 h;obtain⟨a,b,c⟩:=(aPd g).2 rfl;rw[φ] at b c;exact⟨Bc.1 a,Bc.1 b,Bc.1 c⟩
theorem fold_iff {α:Type}{g:α→List Str→List Str}{P:α→Prop}{x:Str}:∀(l:List α) (out:List Str),(∀c∈l,∀out,x∈g c out↔x∈out∨P c)→(x∈l.foldl (fun o c=>g c o) out↔x∈out∨∃c∈l,P c)
 | [],out,_=>by simp
 | c::l,out,h=>by
  rw[Cm,fold_iff l _ fun d hd=>h d (χ _ hd),h c η];constructor
  ·rintro((h1 | h1) | ⟨d,hd,h1⟩)
   ·exact .inl h1
   ·exact .inr ⟨c,η,h1⟩
   ·exact .inr ⟨d,χ _ hd,h1⟩
  ·rintro(h1 | ⟨d,hd,h1⟩)
   ·exact .inl (.inl h1)
   ·rcases Ac.1 hd with rfl | hd
    ·exact .inl (.inr h1)
    ·exact .inr ⟨d,hd,h1⟩
theorem rY {G:Str→Bool}{l:List Str}{x:Str}:ext G l x=false↔G x=false∧¬x∈l:=by unfold ext;simp
theorem pU {A:Str→Bool}:∀(k:Nat) (c:Core),aQ c≤k→bU (LQ N) c→∀(G:Str→Bool) (out:List Str) (x:Str),x∈eG A c G out↔x∈out∨(x∈pfR c∧A x=true∧G x=false)
 | 0,c,h,_=>by have:=bH c;omega
 | k+1,.mk f n s t ks bs al,h,q=>by
  intro G out x;obtain⟨y,I,J,_⟩:= @dL f n s t ks bs al;obtain⟨_,Y,Z,q4⟩:=aM.1 q;by_cases h1:f=1
  ·rw[eG,κ h1,pfR,κ h1];by_cases hc:(A s&& !G s&& !decide (s∈out))=true
   ·rw[κ hc];simp only[ζ,B1,Br] at hc;simp only[ω,Ab];constructor
    ·rintro(h | rfl)
     ·exact .inl h
     ·exact .inr ⟨rfl,hc.1.1,hc.1.2⟩
    ·rintro(h | ⟨rfl,_⟩)
     ·exact .inl h
     ·exact .inr rfl
   ·rw[θ hc];simp only[ζ,B1,Br,not_and,Classical.not_not] at hc;simp only[Ab];constructor
    ·exact .inl
    ·rintro(h | ⟨rfl,ha,hg⟩)
     ·exact h
     ·exact hc ⟨ha,hg⟩
  ·rw[eG,θ h1,oQ,oO,oP];rw[fold_iff (P:=fun a:Alt=>x∈pfR a.body∧A x=true∧ext (ext G (gvs f s bs)) a.vars x=false) al _ fun a ha out=>pU k a.body (by have:=J a ha;omega) (q4 a ha) _ out x];rw[fold_iff (P:=fun c:Core=>x∈pfR c∧A x=true∧ext G (gvs f s bs) x=false) ks _ fun c hc out=>pU k c (by have:=y c hc;omega) (Y c hc) _ out x];rw[fold_iff (P:=fun b:Bind=>x∈pfR b.body∧A x=true∧ext G (gvs f s bs) x=false) bs _ fun b hb out=>pU k b.body (by have:=I b hb;omega) (Z b hb) _ out x];rw[cZ h1];have O:gvs f s bs=gvN f s bs:=rfl;rw[O];constructor
   ·rintro(((h | ⟨b,hb,h2,h3,h4⟩) | ⟨c,hc,h2,h3,h4⟩) | ⟨a,ha,h2,h3,h4⟩)
    ·exact .inl h
    ·obtain⟨g1,g2⟩:=rY.1 h4;exact .inr ⟨.inl ⟨b.body,ω.2 (.inr (Ah.2 ⟨b,hb,rfl⟩)),h2,g2⟩,h3,g1⟩
    ·obtain⟨g1,g2⟩:=rY.1 h4;exact .inr ⟨.inl ⟨c,ω.2 (.inl hc),h2,g2⟩,h3,g1⟩
    ·obtain⟨g1,g2⟩:=rY.1 h4;obtain⟨g3,_⟩:=rY.1 g1;exact .inr ⟨.inr ⟨a,ha,h2,g2⟩,h3,g3⟩
   ·rintro(h | ⟨(⟨p,hp,h2,h3⟩ | ⟨a,ha,h2,h3⟩),h4,h5⟩)
    ·exact .inl (.inl (.inl h))
    ·rcases ω.1 hp with hp | hp
     ·exact .inl (.inr ⟨p,hp,h2,h4,rY.2 ⟨h5,h3⟩⟩)
     ·obtain⟨b,hb,rfl⟩:=Ah.1 hp;exact .inl (.inl (.inr ⟨b,hb,h2,h4,rY.2 ⟨h5,h3⟩⟩))
    ·exact .inr ⟨a,ha,h2,h4,rY.2 ⟨rY.2 ⟨h5,by rw[(a6c q ha).1];simp⟩,h3⟩⟩
theorem qB:∀(k:Nat) (c:Core),aQ c≤k→bU (LQ N) c→∀x,x∈pfR c↔x∈pfR (bR c)∧¬x∈aU c
 | 0,c,h,_=>by have:=bH c;omega
 | k+1,.mk f n s t ks bs al,h,y=>by
  intro x;by_cases h5:f=5
  ·subst h5;obtain⟨⟨q,rfl⟩,rfl,rfl,_⟩:=zB y;obtain⟨I,_⟩:= @dL 5 n s t [q] [] [];have J:=qB k q (by have:=I q η;omega) ((aM.1 y).2.1 q η) x;rw[bR,κ rfl,kI,aU,κ rfl,dN,cZ (by decide)];constructor
   ·rintro(⟨p,hp,h1,h2⟩ | ⟨a,ha,_⟩)
    ·have hp:p=q:=by simpa using hp
     subst hp;obtain⟨g1,g2⟩:=J.1 h1;exact⟨g1,fun hm=>(Ac.1 hm).elim (fun e=>h2 (by rw[e];simp[gvN])) g2⟩
    ·cases ha
   ·rintro⟨g1,g2⟩;exact .inl ⟨q,by simp,J.2 ⟨g1,fun hm=>g2 (χ _ hm)⟩,by simp[gvN];exact fun e=>g2 (by rw[e];exact η)⟩
  ·rw[bR,θ h5,aU,θ h5];simp
theorem aHm:∀(k:Nat) (c:Core),aQ c≤k→bU (LQ N) c→bU (LQ N) (bR c)∧(∀x∈aU c,N x)∧(aU c).length≤aQ c∧aQ (bR c)≤aQ c
 | 0,c,h,_=>by have:=bH c;omega
 | k+1,.mk f n s t ks bs al,h,y=>by
  by_cases h5:f=5
  ·subst h5;obtain⟨⟨q,rfl⟩,rfl,rfl,hs⟩:=zB y;obtain⟨I,_⟩:= @dL 5 n s t [q] [] [];have hk:=I q η;obtain⟨g1,g2,g3,g4⟩:=aHm k q (by omega) ((aM.1 y).2.1 q η);rw[bR,κ rfl,kI,aU,κ rfl,dN];exact⟨g1,fun x hx=>(Ac.1 hx).elim (fun e=>by rw[e];exact hs) (g2 x),by rw[Ai];omega,by omega⟩
  ·rw[bR,θ h5,aU,θ h5];exact⟨y,by simp,by simp,le_refl _⟩
end
theorem a0h (k:Nat):1≤(dec k).length:=rE 19 k
theorem aG0 {x:Str}(hx:N6 x) (k:Nat):¬N6 (x++[64,112]++dec k):=fun h=>by
 have h1:=pL _ h;have h2:=a0h k;have h3:=List.length_pos_iff.2 (aF8 hx).1;simp only[ε,Ai,length_nil] at h1;omega
theorem a8x {x:Str}(hx:N6 x) (k:Nat):¬Fc (x++[64,112]++dec k):=fun h=>aWq h (.inr ⟨x,k,hx,rfl⟩)
theorem a7q {x y:Str}{i k:Nat}(hi:i<1000000000) (hk:k<1000000000) (h:x++[64,112]++dec i=y++[64,112]++dec k):i=k:=by
 have h:x++64::112::dec i=y++64::112::dec k:=by simpa using h
 obtain⟨_,e⟩:=aSo h (aRa i) (aRa k);exact aQ9 hi hk (List.cons.inj e).2
theorem oI:∀(l:List Str) (i:Nat) (s:Str),(∀x∈l,N6 x)→s∈dJ i l→(N6 s∧s∈l)∨∃x k,N6 x∧i≤k∧k<i+l.length∧s=x++[64,112]++dec k
 | x::l,i,s,hl,h=>by
  rw[dJ] at h;rcases Ac.1 h with h | h
  ·split at h
   ·exact .inr ⟨x,i,hl x η,le_refl _,by simp,h⟩
   ·subst h;exact .inl ⟨hl _ η,η⟩
  ·rcases oI l (i+1) s (fun y q=>hl y (χ _ q)) h with⟨h1,h2⟩ | ⟨y,k,h0,h1,h2,h3⟩
   ·exact .inl ⟨h1,χ _ h2⟩
   ·exact .inr ⟨y,k,h0,by omega,by simp;omega,h3⟩
theorem oJ:∀(l:List Str) (i:Nat),(∀x∈l,N6 x)→i+l.length<1000000000→(dJ i l).Nodup
 | [],_,_,_=>by simp[dJ]
 | x::l,i,hl,hi=>by
  rw[dJ,Bq];have I:i+(l.length+1)<1000000000:=by simpa using hi
  refine⟨fun h=>?_,oJ l (i+1) (fun y q=>hl y (χ _ q)) (by omega)⟩;rcases oI l (i+1) _ (fun y q=>hl y (χ _ q)) h with⟨h1,h2⟩ | ⟨y,k,h0,h1,h2,h3⟩
  ·split at h1
   ·exact aG0 (hl x η) _ h1
   ·rename_i hx;rw[θ hx] at h2;exact hx h2
  ·split at h3
   ·have:=a7q (by omega) (by omega) h3;omega
   ·exact aG0 h0 k (by rw[←h3];exact hl x η)
theorem aDz {l:List Str}(hl:∀x∈l,N6 x):∀p∈bG l,N7 p:=fun p hp=>by
 rcases oI l 0 p hl hp with⟨h,_⟩ | ⟨x,k,h0,_,_,h⟩
 ·exact .inl h
 ·exact .inr ⟨x,k,h0,h⟩
theorem xV:∀(l m:List Str) (i:Nat),l.Nodup→(∀x∈l,¬x∈m)→dJ i (l++m)=l++dJ (i+l.length) m
 | [],m,i,_,_=>rfl
 | x::l,m,i,hn,hd=>by
  obtain⟨h1,h2⟩:=Bq.1 hn;rw[A1,dJ,θ fun h=>(ω.1 h).elim h1 (hd x η),xV l m (i+1) h2 fun y q=>hd y (χ _ q),Ai,show i+1+l.length=i+(l.length+1) by omega];rfl
theorem RL.self {W:Wt}(hW:WOk W) {x y:Core}{p:Str}(hp:¬Fc p) (h:RL W x y):RL W x (YtnjaiimffoninaaGreatDoor.nS y p (vC p)):=by
 induction h with
 | var z=>
  rw[YtnjaiimffoninaaGreatDoor.nS,κ rfl];by_cases e:z=p
  ·rw[κ e,←e];exact .var z
  ·rw[θ e];exact .var z
 | @node f n z t t' ks ks' bs bs' al al' h1 h5 k1 k2 b1 b2 a1 a2 a3 aa ab ac=>
  rw[kP h1];have O:∀(i:Nat) (x y:Alt),al[i]?=some x→(al'.map (nSA p (vC p)))[i]?=some y→AHd x y∧RL W x.body y.body:=fun i x y hx I=>by
   rw[Aq] at I;obtain⟨y',J,rfl⟩:=Ar.1 I;refine⟨a2 i x y' hx J,?_⟩;show RL W x.body (if p∈y'.vars then y'.body else YtnjaiimffoninaaGreatDoor.nS y'.body p (vC p));by_cases e2:p∈y'.vars
   ·rw[κ e2];exact a3 i x y' hx J
   ·rw[θ e2];exact ac i x y' hx J
  by_cases e:p∈gvN f z bs'
  ·simp only[κ e];exact .node h1 h5 k1 k2 b1 b2 (by rw[φ];exact a1) (fun i x y hx I=>(O i x y hx I).1) fun i x y hx I=>(O i x y hx I).2
  ·simp only[θ e];refine .node h1 h5 (by rw[φ];exact k1) (fun i x y hx I=>?_) (by rw[Bn];exact b1) (fun i x y hx I=>?_) (by rw[φ];exact a1) (fun i x y hx I=>(O i x y hx I).1) fun i x y hx I=>(O i x y hx I).2
   ·rw[Aq] at I;obtain⟨y',J,rfl⟩:=Ar.1 I;exact aa i x y' hx J
   ·rw[Aq] at I;obtain⟨y',J,rfl⟩:=Ar.1 I;exact ab i x y' hx J
 | @lam n n' z z' t t' d d' hz hd ih=>
  rw[aUr];by_cases e:p=z'
  ·rw[κ e];exact .lam hz hd
  ·rw[θ e];refine .lam (hz.imp id fun⟨h1,h2,h3⟩=>⟨h1,fun Z=>?_,h3⟩) ih;rcases pF _ d' (le_refl _) Z with⟨g,_⟩ | g
   ·exact h2 g
   ·rw[wH,Ab] at g;exact e g.symm
 | @comb x f args ps b0 Y hl ha hY ih=>
  obtain⟨w1,w2,w3,w4⟩:=hW.ok f ps b0 Y;have e:args.map (fun a=>YtnjaiimffoninaaGreatDoor.nS a p (vC p))=args:=by
   refine Bg fun j=>?_
   rw[Aq];cases hc:args[j]? with
   | none=>rfl
   | some c=>
    obtain⟨q,hq⟩:=aJ (lt_trans (ξ.1 hc).1 hl);show some (YtnjaiimffoninaaGreatDoor.nS c p (vC p))=some c;rcases ha j q c hq hc with rfl | h
    ·rw[aMe];by_cases e:q=p
     ·rw[κ e,e]
     ·rw[θ e]
    ·rw[kG _ c (le_refl _) fun Z=>hp (h p Z)]
  rw[aH2,aMe,θ fun e=>hp (by rw[←e];exact w1),e];exact .comb Y hl ha hY
theorem RL.selfs {W:Wt}(hW:WOk W) {x:Core}:∀(l:List Str) (y:Core),(∀p∈l,¬Fc p)→RL W x y→RL W x (fS y (l.map fun p=>(p,vC p)))
 | [],_,_,h=>h
 | p::l,_,hl,h=>RL.selfs hW l _ (fun q I=>hl q (χ _ I)) (h.self hW (hl p η))
theorem vJ {z:Str}:∀(l:List Str) (y:Core),z∈pfR (fS y (l.map fun p=>(p,vC p)))→z∈pfR y∨z∈l
 | [],y,h=>.inl h
 | p::l,y,h=>by
  rcases vJ l (nS y p (vC p)) h with h | h
  ·rcases pF _ y (le_refl _) h with⟨g,_⟩ | g
   ·exact .inl g
   ·rw[wH] at g;exact .inr (Ac.2 (.inl (Ab.1 g)))
  ·exact .inr (χ _ h)
theorem uY {W:Wt}:∀(k:Nat) (c:Core),aQ c≤k→bU (LQ N6) c→∀(b':Core) (j:Nat),RL W (bR c) b'→(∀z∈pfR b',N6 z∨Fc z)→RL W c (eW b' (dJ j (aU c)))
 | 0,c,h,_=>by have:=bH c;omega
 | k+1,.mk f n s t ks bs al,h,O=>by
  intro b' j y hb;by_cases h5:f=5
  ·subst h5;obtain⟨⟨q,rfl⟩,rfl,rfl,hs⟩:=zB O;obtain⟨Y,_⟩:= @dL 5 n s t [q] [] [];have hk:=Y q η;have I:=(aM.1 O).2.1 q η;rw[bR,κ rfl,kI] at y;have Z:=uY k q (by omega) I b' (j+1) y hb;rw[aU,κ rfl,dN,dJ,eW];refine .lam ?_ Z;by_cases hm:s∈aU q
   ·rw[κ hm];refine .inr ⟨fun J=>((qB _ q (le_refl _) I s).1 J).2 hm,fun J=>?_,a8x hs j⟩;rcases hb _ ((oM _ _).1 J).1 with g | g
    ·exact aG0 hs j g
    ·exact a8x hs j g
   ·rw[θ hm];exact .inl rfl
  ·rw[bR,θ h5] at y;rw[aU,θ h5];exact y
def SP (x:Sup):Prop:=Fc x.name∧x.params.Nodup∧(∀p∈x.params,N7 p)∧(∀z∈pfR x.body,z∈x.params∨Fc z)∧bU (LQ N7) x.body
def WS (W:Wt) (l:List Sup):Prop:=∀x∈l,W x.name=some (x.params,x.body)
def nJ (W:Wt) (p q:Prop) (made out:List Sup):Prop:=∃new,out=made++new∧p∧(∀x∈new,SP x)∧(WS W new→q)
theorem nJ.trans {W:Wt}{p q y I:Prop}{a b c:List Sup}(h:nJ W p q a b) (k:nJ W y I b c):nJ W (p∧y) (q∧I) a c:=by
 obtain⟨J,rfl,h2,h3,h4⟩:=h;obtain⟨O,rfl,k2,Y,Z⟩:=k;exact⟨J++O,by rw[Aw],⟨h2,k2⟩,fun x hx=>(ω.1 hx).elim (h3 x) (Y x),fun hw=>⟨h4 fun x hx=>hw x (ω.2 (.inl hx)),Z fun x hx=>hw x (ω.2 (.inr hx))⟩⟩
theorem nJ.imp {W:Wt}{p q y I:Prop}{a b:List Sup}(h:nJ W p q a b) (hp:p→y) (J:p→q→I):nJ W y I a b:=by
 obtain⟨n,h1,h2,h3,h4⟩:=h;exact⟨n,h1,hp h2,h3,fun hw=>J h2 (h4 hw)⟩
theorem nJ.nil {W:Wt}{p q:Prop}{a:List Sup}(hp:p) (y:q):nJ W p q a a:=⟨[],by simp,hp,by simp,fun _=>y⟩
def PLq (c c':Core):Prop:=bU (LQ N7) c'∧∀z∈pfR c',z∈pfR c∨Fc z
def LR (R:Core→Core→Prop) (l l':List Core):Prop:=l.length=l'.length∧∀(i:Nat) (x y:Core),l[i]?=some x→l'[i]?=some y→R x y
def BR (R:Core→Core→Prop) (l l':List Bind):Prop:=l.map bhd=l'.map bhd∧∀(i:Nat) (x y:Bind),l[i]?=some x→l'[i]?=some y→R x.body y.body
def AR (R:Core→Core→Prop) (l l':List Alt):Prop:=l.length=l'.length∧(∀(i:Nat) (x y:Alt),l[i]?=some x→l'[i]?=some y→AHd x y)∧∀(i:Nat) (x y:Alt),l[i]?=some x→l'[i]?=some y→R x.body y.body
theorem LR.cons {R:Core→Core→Prop}{x y:Core}{l l':List Core}(h:R x y) (k:LR R l l'):LR R (x::l) (y::l'):=⟨by rw[Ai,Ai,k.1],fun i a b ha hb=>by
 cases i with
 | zero=>cases ha;cases hb;exact h
 | succ i=>exact k.2 i a b (by simpa using ha) (by simpa using hb)⟩
theorem BR.cons {R:Core→Core→Prop}{s:Str}{t:Ty}{x y:Core}{l l':List Bind}(h:R x y) (k:BR R l l'):BR R (.mk s t x::l) (.mk s t y::l'):=⟨by rw[At,At,k.1];rfl,fun i a b ha hb=>by
 cases i with
 | zero=>cases ha;cases hb;exact h
 | succ i=>exact k.2 i a b (by simpa using ha) (by simpa using hb)⟩
theorem AR.cons {R:Core→Core→Prop}{f n:Int}{s:Str}{v:List Str}{x y:Core}{l l':List Alt}(h:R x y) (k:AR R l l'):AR R (.mk f n s v x::l) (.mk f n s v y::l'):=⟨by rw[Ai,Ai,k.1],fun i a b ha hb=>by
 cases i with
 | zero=>cases ha;cases hb;exact⟨rfl,rfl,rfl,rfl⟩
 | succ i=>exact k.2.1 i a b (by simpa using ha) (by simpa using hb),fun i a b ha hb=>by
 cases i with
 | zero=>cases ha;cases hb;exact h
 | succ i=>exact k.2.2 i a b (by simpa using ha) (by simpa using hb)⟩
theorem AR.ahd {R:Core→Core→Prop}:∀{l l':List Alt},AR R l l'→l.map ahd=l'.map ahd:=by
 intro l l' h;refine Bg fun i=>?_
 rw[Aq,Aq];cases hx:l[i]? with
 | none=>
  have:=Cf.1 hx;rw[Cf.2 (by rw[←h.1];exact this)]
 | some x=>
  obtain⟨y,q⟩:=aJ (l:=l') (k:=i) (by rw[←h.1];exact(ξ.1 hx).1);rw[q];obtain⟨_,_,g3,g4⟩:=h.2.1 i x y hx q;show some (YtnjaiimffoninaaGreatDoor.ahd x)=some (YtnjaiimffoninaaGreatDoor.ahd y);unfold YtnjaiimffoninaaGreatDoor.ahd;rw[g3,g4]
theorem nU {α β:Type}{l:List α}{l':List β}(h:l.length=l'.length) {i:Nat}{y:β}(q:l'[i]?=some y):∃x,l[i]?=some x:=aJ (by rw[h];exact(ξ.1 q).1)
theorem nD:∀(l:List Str) (c:Core),gC c l=yY c (l.map vC)
 | [],_=>rfl
 | s::l,c=>by rw[gC,nD l];rfl
theorem aPe {W:Wt}{f n:Int}{s:Str}{t:Ty}{ks ks':List Core}{bs bs':List Bind}{al al':List Alt}(h1:¬f=1) (h5:¬f=5) (O:bU (LQ N6) (.mk f n s t ks bs al)) (hb:BR PLq bs bs') (hk:LR PLq ks ks') (ha:AR PLq al al'):
  PLq (.mk f n s t ks bs al) (.mk f n s t ks' bs' al')∧(BR (RL W) bs bs'→LR (RL W) ks ks'→AR (RL W) al al'→RL W (.mk f n s t ks bs al) (.mk f n s t ks' bs' al')):=by
 have I:bs.length=bs'.length:=by have:=congrArg List.length hb.1;rwa [φ,φ] at this
 have J:bs.map Bind.name=bs'.map Bind.name:=by
  have:=congrArg (List.map (·.1)) hb.1;rwa [Bn,Bn] at this
 obtain⟨Y,_⟩:=aM.1 O;refine⟨⟨aM.2 ⟨?_,fun y q=>?_,fun y q=>?_,fun y q=>?_⟩,fun z hz=>?_⟩,fun g1 g2 g3=>.node h1 h5 g2.1 g2.2 J g1.2 g3.1 g3.2.1 g3.2.2⟩
 ·rw[←hk.1,←hb.1,←ha.ahd];exact aYm (fun s h=>.inl h) Y
 ·obtain⟨i,hi⟩:=Bf q;obtain⟨x,hx⟩:=nU hk.1 hi;exact(hk.2 i x y hx hi).1
 ·obtain⟨i,hi⟩:=Bf q;obtain⟨x,hx⟩:=nU I hi;exact(hb.2 i x y hx hi).1
 ·obtain⟨i,hi⟩:=Bf q;obtain⟨x,hx⟩:=nU ha.1 hi;exact(ha.2.2 i x y hx hi).1
 ·rcases(cZ h1).1 hz with⟨p,hp,h2,h3⟩ | ⟨a,hm,h2,h3⟩
  ·rw[←tC J] at h3;rcases ω.1 hp with hp | hp
   ·obtain⟨i,hi⟩:=Bf hp;obtain⟨x,hx⟩:=nU hk.1 hi;exact((hk.2 i x p hx hi).2 z h2).imp (fun g=>(cZ h1).2 (.inl ⟨x,ω.2 (.inl (δ hx)),g,h3⟩)) id
   ·obtain⟨y,q,rfl⟩:=Ah.1 hp;obtain⟨i,hi⟩:=Bf q;obtain⟨x,hx⟩:=nU I hi;exact((hb.2 i x y hx hi).2 z h2).imp (fun g=>(cZ h1).2 (.inl ⟨x.body,ω.2 (.inr (Ah.2 ⟨x,δ hx,rfl⟩)),g,h3⟩)) id
  ·obtain⟨i,hi⟩:=Bf hm;obtain⟨x,hx⟩:=nU ha.1 hi;obtain⟨_,_,_,g4⟩:=ha.2.1 i x a hx hi;exact((ha.2.2 i x a hx hi).2 z h2).imp (fun g=>(cZ h1).2 (.inr ⟨x,δ hx,g,by rw[g4];exact h3⟩)) id
theorem a1m {N:Str→Prop}{z:Str}(hz:z.length≤30):bU (LQ N) (vC z):=by
 have h:=aWm (N:=N) (X:=403) (by decide) hz;have h2:=a1h z;unfold vC at h h2 ⊢;exact aM.2 ⟨⟨(aM.1 h).1,(aM.1 h2).1,by decide⟩,by simp,by simp,by simp⟩
theorem a6b {N:Str→Prop}{a b:Core}(ha:bU (LQ N) a) (hb:bU (LQ N) b):bU (LQ N) (.mk 4 0 [] zTy [a,b] [] []):=by
 refine aM.2 ⟨⟨⟨⟨rfl,fun e=>absurd e (by decide),rfl,by simp,by decide,fun e=>absurd e (by decide),by simp,by simp⟩,fun e=>absurd e (by decide),by simp,by simp⟩,⟨by decide,rfl,by simp⟩,by decide⟩,fun x hx=>?_,by simp,by simp⟩;have:x=a∨x=b:=by simpa using hx
 rcases this with rfl | rfl
 ·exact ha
 ·exact hb
theorem aCc {N:Str→Prop}:∀(l:List Core) (h:Core),bU (LQ N) h→(∀x∈l,bU (LQ N) x)→bU (LQ N) (yY h l)
 | [],_,hh,_=>hh
 | a::l,_,hh,hl=>aCc l _ (a6b hh (hl a η)) fun x hx=>hl x (χ _ hx)
theorem aCb:∀(k:Nat) (c:Core),aQ c≤k→bU (LQ N6) c→bU (LQ N7) c:=fun k c hk h=>iP (fun _ _ _ _ _ _ h=>aYm (fun _ h=>.inl h) h) k c hk h
theorem aCg:∀(l m:List Str),(l++m).zip (l.map vC)=l.map fun p=>(p,vC p)
 | [],m=>by simp
 | x::l,m=>by rw[A1,At,List.zip_cons_cons,aCg l m];rfl
theorem a58 {l:List Str}(hn:l.Nodup) (h:∀x∈l,N6 x):l.length≤6:=lJ l nm6 hn h
theorem aVj {of:Str}(h:Fc of) (i:Nat):Fc (dX of i):=by
 unfold Fc;rw[yD (fun e=>by rw[e] at h;rcases h with h | h<;>cases h)];exact h
structure OfOk (W:Wt) (of:Str):Prop where
 f:Fc of
 l:of.length≤8
 w:WOk W
section
variable {W:Wt}{of:Str}
mutual
theorem qX (J:OfOk W of):∀(c:Core) (ch:Bool) (A:Str→Bool) (made:List Sup),bU (LQ N6) c→aQ c<1000000→(∀z∈pfR (if ch=true then bR c else c),A z=true)→(∀s,A s=true→N6 s)→
  nJ W (PLq (if ch=true then bR c else c) (bO of ch c A made).1) (RL W (if ch=true then bR c else c) (bO of ch c A made).1) made (bO of ch c A made).2
 | .mk f n s t ks bs al,ch,A,made,h,Y,I,O=>by
  have hsz':=Y;rw[aQ] at hsz';by_cases h5:f=5
  ·subst h5;obtain⟨⟨k,hks⟩,hbs,hal,hs⟩:=zB h;cases ks with
   | nil=>cases hks
   | cons q ks=>
    obtain⟨rfl,rfl⟩:=List.cons.inj hks;subst hbs hal;have hk:=(aM.1 h).2.1 q η;rw[bM] at hsz';have hN:aU (.mk 5 n s t [q] [] [])=s::aU q:=by rw[aU,κ rfl,dN]
    have hB:bR (.mk 5 n s t [q] [] [])=bR q:=by rw[bR,κ rfl,kI]
    cases ch with
    | true=>
     rw[κ rfl,hB] at I ⊢;rw[bO,κ rfl,κ rfl,gQ];have:=qX J q true A made hk (by omega) (by rw[κ rfl];exact I) O;rwa [κ rfl] at this
    | false=>
     rw[θ An] at I ⊢;rw[bO,κ rfl,θ An];dsimp only[gQ,dN];have Z:∀x,x∈eG A (.mk 5 n s t [q] [] []) (fun _=>false) []↔x∈pfR (.mk 5 n s t [q] [] []):=fun x=>by
      rw[pU _ _ (le_refl _) h];constructor
      ·rintro(h' | h')
       ·cases h'
       ·exact h'.1
      ·exact fun h'=>.inr ⟨h',I x h',rfl⟩
     have hfo:=jC A (.mk 5 n s t [q] [] []) (fun _=>false) [] nodup_nil;generalize eG A (.mk 5 n s t [q] [] []) (fun _=>false) []=free at Z hfo ⊢;have aa:∀x∈free,N6 x:=fun x hx=>O x (I x ((Z x).1 hx))
     have hfl:=a58 hfo aa;obtain⟨q1,q2,q3,q4⟩:=aHm _ q (le_refl _) hk;have hcp:=qB _ _ (le_refl _) h;rw[hN,hB] at hcp;have hc6:∀x∈s::aU q,N6 x:=fun x hx=>(Ac.1 hx).elim (fun e=>by rw[e];exact hs) (q2 x)
     have hdis:∀x∈free,¬x∈s::aU q:=fun x hx=>((hcp x).1 ((Z x).1 hx)).2
     have ac:∀x∈free++s::aU q,N6 x:=fun x hx=>(ω.1 hx).elim (aa x) (hc6 x)
     have hin:∀z∈pfR (bR q),z∈free++s::aU q:=fun z hz=>by
      by_cases hm:z∈s::aU q
      ·exact ω.2 (.inr hm)
      ·exact ω.2 (.inl ((Z z).2 ((hcp z).2 ⟨hz,hm⟩)))
     have hpa:bG (free++s::aU q)=free++dJ (0+free.length) (s::aU q):=xV free _ 0 hfo hdis;obtain⟨new,e1,⟨p1,p2⟩,hsp,hrl⟩:=qX J q true (fun x=>decide (x∈free++s::aU q)) (made++[⟨dX of made.length,bG (free++s::aU q),gO⟩]) hk (by omega) (by rw[κ rfl];exact fun z hz=>Ae (hin z hz)) (fun x hx=>ac x (ψ hx));rw[κ rfl] at p2 hrl;have hpl:(bG (free++s::aU q)).length=free.length+(1+(aU q).length):=by
      have:=iW (free++s::aU q) 0;rw[ε,Ai] at this;show(dJ 0 _).length=_;omega
     rw[e1,qT];generalize (bO of true q (fun x=>decide (x∈free++s::aU q)) (made++[⟨dX of made.length,bG (free++s::aU q),gO⟩])).1=r at p1 p2 hrl ⊢;have hfF:=aVj J.f made.length;have hfn:(dX of made.length).length≤30:=by
      have:=rF (made.length+1);have hol:=J.l;unfold dX;simp only[ε,Ai,length_nil];omega
     refine⟨[⟨dX of made.length,bG (free++s::aU q),r⟩]++new,by rw[Aw],⟨?_,fun z hz=>?_⟩,fun x hx=>?_,fun hw=>?_⟩
     ·rw[nD];refine aCc _ _ (a1m hfn) fun x hx=>?_
      obtain⟨y,hy,rfl⟩:=Ah.1 hx;exact a1m (by have:=pL y (aa y hy);omega)
     ·rw[nD,oT] at hz;rcases hz with hz | ⟨a,ha,hz⟩
      ·rw[show varC (dX of made.length)=vC (dX of made.length) from rfl,wH,Ab] at hz;exact .inr (by rw[hz];exact hfF)
      ·obtain⟨y,hy,rfl⟩:=Ah.1 ha;rw[wH,Ab] at hz;exact .inl (by rw[hz];exact(Z y).1 hy)
     ·rcases ω.1 hx with hx | hx
      ·rw[Ab.1 hx];exact⟨hfF,oJ _ 0 ac (by rw[ε,Ai];omega),aDz ac,fun z hz=>(p2 z hz).imp (fun g=>iV _ 0 z (hin z g)) id,p1⟩
      ·exact hsp x hx
     ·have hw0:=hw ⟨dX of made.length,bG (free++s::aU q),r⟩ η;have hr:=hrl fun x hx=>hw x (ω.2 (.inr hx))
      rw[nD];refine .comb hw0 (by rw[φ,hpl];omega) (fun i p a hp ha=>?_) ?_
      ·rw[Aq] at ha;obtain⟨y,hy,rfl⟩:=Ar.1 ha;rw[hpa,Ax (ξ.1 hy).1,hy] at hp;exact .inl (by rw[Option.some.inj hp])
      ·rw[φ,hpa,aCg,drop_left,←hN];refine uY _ _ (le_refl _) h _ _ ?_ fun z hz=>?_
       ·rw[hB];exact RL.selfs J.w free r (fun p hp=>(aF8 (aa p hp)).2) hr
       ·rcases vJ free r hz with g | g
        ·exact(p2 z g).imp (fun g=>ac z (hin z g)) id
        ·exact .inl (aa z g)
  ·have hcB:(if ch=true then bR (.mk f n s t ks bs al) else(.mk f n s t ks bs al))=.mk f n s t ks bs al:=by
    split
    ·rw[bR,θ h5]
    ·rfl
   rw[hcB] at I ⊢;rw[bO,θ h5];by_cases h1:f=1
   ·subst h1;obtain⟨rfl,rfl,rfl⟩:=aLj h;simp only[bW,bL,cD];exact nJ.nil ⟨aCb _ _ (le_refl _) h,fun z hz=>.inl hz⟩ (.var s)
   ·obtain⟨⟨⟨_,_,qb,qa⟩,_⟩,q2,q3,q4⟩:=aM.1 h;have hg:∀x∈gvs f s bs,N6 x:=fun x hx=>(aM8 (sK h)).1 x hx
    have ab:∀x,ext A (gvs f s bs) x=true→N6 x:=fun x hx=>by
     unfold ext at hx;simp only[Bi,A4] at hx;exact hx.elim (O x) (hg x)
    have hin:∀{p:Core} {z:Str},p∈ks++bs.map Bind.body→z∈pfR p→ext A (gvs f s bs) z=true:=fun {p z} hp hz=>by
     unfold ext;simp only[Bi,A4];by_cases e:z∈gvs f s bs
     ·exact .inr e
     ·exact .inl (I z ((cZ h1).2 (.inl ⟨p,hp,hz,e⟩)))
    have g1:=aDs J bs (ext A (gvs f s bs)) made q3 (by omega) (fun x hx z hz=>hin (ω.2 (.inr (Ah.2 ⟨x,hx,rfl⟩))) hz) ab;have g2:=aDm J ks (ext A (gvs f s bs)) (bL of bs (ext A (gvs f s bs)) made).2 q2 (by omega) (fun x hx z hz=>hin (ω.2 (.inl hx)) hz) ab
    have g3:=aDy J al (ext A (gvs f s bs)) (bW of ks (ext A (gvs f s bs)) (bL of bs (ext A (gvs f s bs)) made).2).2 q4 (fun x hx=>(aM8 (sK h)).2 x hx) (by omega) (fun x hx z hz=>by
     unfold ext;simp only[Bi,A4];by_cases e:z∈x.vars
     ·exact .inr e
     ·exact .inl (.inl (I z ((cZ h1).2 (.inr ⟨x,hx,hz,e⟩))))) ab
    have g:=g1.trans (g2.trans g3);exact g.imp (fun⟨a,b,c⟩=>(aPe (W:=W) h1 h5 h a b c).1) fun⟨a,b,c⟩ ⟨a',b',c'⟩=>(aPe (W:=W) h1 h5 h a b c).2 a' b' c'
theorem aDm (J:OfOk W of):∀(l:List Core) (A:Str→Bool) (made:List Sup),(∀x∈l,bU (LQ N6) x)→bM l<1000000→(∀x∈l,∀z∈pfR x,A z=true)→(∀s,A s=true→N6 s)→
  nJ W (LR PLq l (bW of l A made).1) (LR (RL W) l (bW of l A made).1) made (bW of l A made).2
 | [],A,made,_,_,_,_=>by
  rw[bW];exact nJ.nil ⟨rfl,fun i x y hx=>by cases hx⟩ ⟨rfl,fun i x y hx=>by cases hx⟩
 | c::l,A,made,h,Y,I,O=>by
  rw[bM] at Y;rw[bW];have g1:=qX J c false A made (h c η) (by omega) (by rw[θ An];exact I c η) O;rw[θ An] at g1;have g2:=aDm J l A (bO of false c A made).2 (fun x hx=>h x (χ _ hx)) (by omega) (fun x hx=>I x (χ _ hx)) O;exact(g1.trans g2).imp (fun⟨a,b⟩=>LR.cons a b) fun _ ⟨a,b⟩=>LR.cons a b
theorem aDs (J:OfOk W of):∀(l:List Bind) (A:Str→Bool) (made:List Sup),(∀x∈l,bU (LQ N6) x.body)→c9 l<1000000→(∀x∈l,∀z∈pfR x.body,A z=true)→(∀s,A s=true→N6 s)→
  nJ W (BR PLq l (bL of l A made).1) (BR (RL W) l (bL of l A made).1) made (bL of l A made).2
 | [],A,made,_,_,_,_=>by
  rw[bL];exact nJ.nil ⟨rfl,fun i x y hx=>by cases hx⟩ ⟨rfl,fun i x y hx=>by cases hx⟩
 | .mk s t c::l,A,made,h,Y,I,O=>by
  rw[c9,bsize] at Y;rw[bL];have g1:=qX J c false A made (h (.mk s t c) η) (by omega) (by rw[θ An];exact I (.mk s t c) η) O;rw[θ An] at g1;have g2:=aDs J l A (bO of false c A made).2 (fun x hx=>h x (χ _ hx)) (by omega) (fun x hx=>I x (χ _ hx)) O;exact(g1.trans g2).imp (fun⟨a,b⟩=>BR.cons a b) fun _ ⟨a,b⟩=>BR.cons a b
theorem aDy (J:OfOk W of):∀(l:List Alt) (A:Str→Bool) (made:List Sup),(∀x∈l,bU (LQ N6) x.body)→(∀x∈l,∀v∈x.vars,N6 v)→cK l<1000000→(∀x∈l,∀z∈pfR x.body,ext A x.vars z=true)→(∀s,A s=true→N6 s)→
  nJ W (AR PLq l (cD of l A made).1) (AR (RL W) l (cD of l A made).1) made (cD of l A made).2
 | [],A,made,_,_,_,_,_=>by
  rw[cD];exact nJ.nil ⟨rfl,fun i x y hx=>(by cases hx),fun i x y hx=>(by cases hx)⟩ ⟨rfl,fun i x y hx=>(by cases hx),fun i x y hx=>(by cases hx)⟩
 | .mk f n s vs c::l,A,made,h,hv,Y,I,O=>by
  rw[cK,kZ] at Y;rw[cD];have ab:∀x,ext A vs x=true→N6 x:=fun x hx=>by
   unfold ext at hx;simp only[Bi,A4] at hx;exact hx.elim (O x) (hv (.mk f n s vs c) η x)
  have g1:=qX J c false (ext A vs) made (h (.mk f n s vs c) η) (by omega) (by rw[θ An];exact I (.mk f n s vs c) η) ab;rw[θ An] at g1;have g2:=aDy J l A (bO of false c (ext A vs) made).2 (fun x hx=>h x (χ _ hx)) (fun x hx=>hv x (χ _ hx)) (by omega) (fun x hx=>I x (χ _ hx)) O;exact(g1.trans g2).imp (fun⟨a,b⟩=>AR.cons a b) fun _ ⟨a,b⟩=>AR.cons a b
end
end
theorem a6f:∀(k:Nat) (c:Core),aQ c≤k→bU ZL c→tyR c=[]
 | 0,c,h,_=>by have:=bH c;omega
 | k+1,.mk f n s t ks bs al,h,Y=>by
  obtain⟨I,J,O,_⟩:= @dL f n s t ks bs al;obtain⟨⟨_,ht,hb⟩,Z,q3,q4⟩:=aM.1 Y;refine List.eq_nil_iff_forall_not_mem.2 fun x hx=>?_
  have hz:∀{y:Str},¬y∈tfR zTy:=fun h=>by
   have:tfR zTy=[]:=rfl;rw[this] at h;cases h
  rcases rT.1 hx with g | ⟨c,hc,g,_⟩ | ⟨b,q,g | g⟩ | ⟨a,ha,g⟩
  ·rw[ht] at g;exact hz g
  ·rw[a6f k c (by have:=I c hc;omega) (Z c hc)] at g;cases g
  ·have:=hb (bhd b) (Ah.2 ⟨b,q,rfl⟩);rw[show b.ty=(bhd b).2 from rfl,this] at g;exact hz g
  ·rw[a6f k b.body (by have:=J b q;omega) (q3 b q)] at g;cases g
  ·rw[a6f k a.body (by have:=O a ha;omega) (q4 a ha)] at g;cases g
theorem aS6 {N:Str→Prop}{c:Core}(h:bU (LQ N) c):tyR c=[]:=a6f _ c (le_refl _) (a9b h)
theorem jS {c:Core}{j:Nat}(h:m30 c≤j):∃i,j=i+1:=⟨j-1,by have:=jM c;omega⟩
theorem shN {f n:Int}{s:Str}{t:Ty}{ks:List Core}{bs:List Bind}{al:List Alt}(h5:¬f=5) (h3:¬f=3) (h4:¬f=4) (h2:¬f=2):shE (.mk f n s t ks bs al)=false:=by
 unfold shE;rw[spH,θ h4];show(decide (f=5) || (decide (f=3) || decide (f=2)))=false;rw[Ag h5,Ag h3,Ag h2];rfl
theorem zR {n:Int}{s:Str}{t:Ty}{a b:Core}{bs:List Bind}{al:List Alt}:spH (.mk 4 n s t [a,b] bs al)=spH a:=by rw[spH,κ rfl,a6l]
theorem shA {n:Int}{s:Str}{t:Ty}{a b:Core}{bs:List Bind}{al:List Alt}:shE (.mk 4 n s t [a,b] bs al)=decide ((spH a).form=2):=by
 unfold shE;rw[zR];show(decide ((4:Int)=5) || (decide ((4:Int)=3) || _))=_;rfl
theorem aY4 {a:Core}(h:shE a=false):¬a.form=5∧¬a.form=3∧¬(spH a).form=2:=by
 unfold shE at h;simp only[Bool.or_eq_false_iff,Br] at h;exact⟨h.1,h.2.1,h.2.2⟩
def Det (bd:List Bind) (c:Core) (p:CE):Prop:=∀j,m30 c≤j→iJ bd j c=p
theorem Det.sf {bd:List Bind}{c:Core}{p:CE}(h:Det bd c p):sfE bd c=p:=h _ (le_refl _)
section
variable {w:List Bind}
theorem mW {f n:Int}{s:Str}{t:Ty}{ks:List Core}{bs:List Bind}{al:List Alt}{x:Core}(hx:x∈ks) {i:Nat}(h:m30 (.mk f n s t ks bs al)≤i+1):m30 x≤i:=by
 rw[m30] at h;have:=iR hx;omega
structure Ctx1 (w:List Bind) (C:Core→Core):Prop where
 sh:∀a,shE a=false→shE (C a)=false
 st:∀a p,shE a=false→Det w a p→Det w (C a) (sI false p C)
 sz:∀a,eO a≤eO (C a)
theorem a5t (n:Int) (s:Str) (t:Ty) (b:Core):Ctx1 w (fun a=>.mk 4 n s t [a,b] [] []):=by
 refine⟨fun a h=>by rw[shA];exact Ag (aY4 h).2.2,fun a p h hd j hj=>?_,fun a=>by simp only[eO,dO];omega⟩;obtain⟨i,rfl⟩:=jS hj;have hi:=hd i (mW η hj);rw[iJ,θ (by decide),κ rfl];show(if a.form=5 then _ else if ¬shE a=true then sI false (iJ w i a) _ else _)=_;rw[θ (aY4 h).1,κ (by rw[h];exact An),hi];rfl
theorem a0z (n:Int) (s:Str) (t:Ty) (al:List Alt):Ctx1 w (fun a=>.mk 9 n s t [a] [] al):=by
 refine⟨fun a h=>shN (by decide) (by decide) (by decide) (by decide),fun a p h hd j hj=>?_,fun a=>by simp only[eO,dO];omega⟩;obtain⟨i,rfl⟩:=jS hj;have hi:=hd i (mW η hj);rw[iJ,θ (by decide),θ (by decide),θ (by decide),κ rfl];show(if ¬shE a=true then sI false (iJ w i a) _ else _)=_;rw[κ (by rw[h];exact An),hi];rfl
theorem aV8 (n:Int) (s:Str) (t:Ty) (b:Core):Ctx1 w (fun a=>.mk 10 n s t [a,b] [] []):=by
 refine⟨fun a h=>shN (by decide) (by decide) (by decide) (by decide),fun a p h hd j hj=>?_,fun a=>by simp only[eO,dO];omega⟩;obtain⟨i,rfl⟩:=jS hj;have hi:=hd i (mW η hj);rw[iJ,θ (by decide),θ (by decide),θ (by decide),θ (by decide),κ rfl];show(if ¬shE a=true then sI false (iJ w i a) _ else _)=_;rw[κ (by rw[h];exact An),hi];rfl
theorem aK5 (n:Int) (s:Str) (t:Ty) {v:Core}(q:shE v=true):Ctx1 w (fun a=>.mk 10 n s t [v,a] [] []):=by
 refine⟨fun a h=>shN (by decide) (by decide) (by decide) (by decide),fun a p h hd j hj=>?_,fun a=>by simp only[eO,dO];omega⟩;obtain⟨i,rfl⟩:=jS hj;have hi:=hd i (mW (χ _ η) hj);rw[iJ,θ (by decide),θ (by decide),θ (by decide),θ (by decide),κ rfl];show(if ¬shE v=true then _ else if ¬shE a=true then sI false (iJ w i a) _ else _)=_;rw[θ (by rw[q];simp),κ (by rw[h];exact An),hi];rfl
inductive Rto (w:List Bind) (P:Core→Prop):Core→Prop
 | done {y:Core} (h:P y):Rto w P y
 | long {y d:Core} (hs:shE y=false) (hd:Det w y (d,0)) (hb:6000<eO d):Rto w P y
 | step {y d:Core} (hs:shE y=false) (hd:Det w y (d,0)) (hb:eO d≤6000) (h:Rto w P d):Rto w P y
theorem Rto.bind {P Q:Core→Prop}{y:Core}(h:Rto w P y) (hk:∀z,P z→Rto w Q z):Rto w Q y:=by
 induction h with
 | done h=>exact hk _ h
 | long hs hd hb=>exact .long hs hd hb
 | step hs hd hb _ q=>exact .step hs hd hb q
theorem Rto.imp {P Q:Core→Prop}{y:Core}(h:Rto w P y) (hk:∀z,P z→Q z):Rto w Q y:=h.bind fun z hz=>.done (hk z hz)
theorem Rto.one {P:Core→Prop}{y d:Core}(hs:shE y=false) (hd:Det w y (d,0)) (h:eO d≤6000→Rto w P d):Rto w P y:=by
 by_cases hb:eO d≤6000
 ·exact .step hs hd hb (h hb)
 ·exact .long hs hd (by omega)
theorem v8:∀(args:List Core) {h d:Core},shE h=false→Det w h (d,0)→shE (yY h args)=false∧Det w (yY h args) (yY d args,0)
 | [],_,_,hs,hd=>⟨hs,hd⟩
 | a::l,h,_,hs,hd=>v8 l ((a5t (w:=w) 0 [] zTy a).sh h hs) ((a5t (w:=w) 0 [] zTy a).st h _ hs hd)
theorem aBm {N:Str→Prop}{n n':Int}{s s':Str}{t t':Ty}{d a:Core}(hd:bU (QN N 403) d) (ha:∀z∈pfR a,¬N z) (q:tyR a=[]):Det w (.mk 4 n s t [.mk 5 n' s' t' [d] [] [],a] [] []) (nS d s' a,0):=by
 intro j hj;obtain⟨i,rfl⟩:=jS hj;rw[iJ,θ (by decide),κ rfl];show(if(5:Int)=5 then(fR (m30 d) d s' a,(0:Int)) else _)=_;rw[κ rfl,zP ha q (m30 d) d (le_refl _) hd]
theorem aN2 {n n':Int}{s s':Str}{t t':Ty}{d a:Core}:shE (.mk 4 n s t [.mk 5 n' s' t' [d] [] [],a] [] [])=false:=by
 rw[shA,spH,θ (by decide)];rfl
structure YO (y:Core):Prop where
 q:bU (LQ N7) y
 c:ClF y
 m:m30 y≤500000000
theorem YO.of {y:Core}(q:bU (LQ N7) y) (c:ClF y) (h:eO y≤6000):YO y:=⟨q,c,by have:=kR y (oA q);have:403*eO y≤403*6000:=Cy _ h;omega⟩
theorem YO.kid {f n:Int}{s:Str}{t:Ty}{ks:List Core}{bs:List Bind}{al:List Alt}(h:YO (.mk f n s t ks bs al)) (h1:¬f=1) (y:gvN f s bs=[]) {x:Core}(hx:x∈ks):YO x:=
 ⟨(aM.1 h.q).2.1 x hx,fun z hz=>h.c z ((cZ h1).2 (.inl ⟨x,ω.2 (.inl hx),hz,by rw[y];simp⟩)),by have:=iR hx;have:=h.m;rw[m30] at this;omega⟩
theorem ClF.n7 {y:Core}(h:ClF y):∀z∈pfR y,¬N7 z:=fun z hz=>aWq (h z hz)
theorem a1n {N:Str→Prop}{c b:Core}{x:Str}(hc:bU (LQ N) c) (hb:bU (LQ N) b):bU (LQ N) (nS c x b):=nF hb _ c (le_refl _) hc
theorem a57 {s:Str}(h:N7 s):nh s∧s.length≤30:=by
 have h6:∀x,N6 x→nh x:=fun x hx=>by
  have:x=[120]∨x=[121]∨x=[97]∨x=[98]∨x=[122,64,49]∨x=[112]:=by
   have:x∈nm6:=hx;simp only[nm6,nmL,A1,A3,Ac,C1,or_false] at this;exact this
  rcases this with rfl | rfl | rfl | rfl | rfl | rfl<;>(unfold nh;decide)
 rcases h with h | ⟨x,k,h,rfl⟩
 ·exact⟨h6 s h,by have:=pL s h;omega⟩
 ·have h1:=h6 x h;have h2:=pL x h;have h3:=rF k;refine⟨?_,by simp only[ε,Ai,length_nil];omega⟩;have q:=(aF8 h).1
  cases x with
  | nil=>exact absurd rfl q
  | cons a x=>exact h1
theorem aNi {s:Str}(h:s.length≤30):w30 s≤30:=by unfold w30;omega
theorem a1o {p:Str}{b:Core}(hp:N7 p) (hb:bU (LQ N7) b):bU (LQ N7) (.mk 5 0 p zTy [b] [] []):=by
 obtain⟨h1,h2⟩:=a57 hp;have h3:=aNi h2;refine aM.2 ⟨⟨⟨⟨rfl,fun e=>absurd e (by decide),rfl,by simp,?_,fun _=>h1,by simp,by simp⟩,fun _=>hp,by simp,by simp⟩,⟨by decide,rfl,by simp⟩,by decide⟩,fun x hx=>?_,by simp,by simp⟩
 ·unfold lw;simp only[Co,sum_nil];omega
 ·rw[Ab.1 hx];exact hb
theorem rP:∀{ps:List Str}{b:Core},(∀p∈ps,N7 p)→bU (LQ N7) b→bU (LQ N7) (eW b ps)
 | [],_,_,h=>h
 | p::_,_,hp,h=>a1o (hp p η) (rP (fun q y=>hp q (χ _ y)) h)
theorem aK6:∀(args:List Core) (ps:List Str) (b:Core),ps.Nodup→args.length≤ps.length→(∀p∈ps,N7 p)→YO (yY (eW b ps) args)→(∀a∈args,ClF a∧bU (LQ N7) a)→bU (LQ N7) b→Rto w (fun z=>z=eW (fS b (ps.zip args)) (ps.drop args.length)∧YO z) (yY (eW b ps) args)
 | [],ps,b,_,_,_,J,_,_=>.done ⟨by rw[List.zip_nil_right];rfl,J⟩
 | a::l,[],b,_,h,_,_,_,_=>by simp at h
 | a::l,p::ps,b,O,hl,hp,J,ha,hb=>by
  obtain⟨h1,h2⟩:=Bq.1 O;obtain⟨a1,a2⟩:=ha a η;have hL:=rP (fun q y=>hp q (χ _ y)) hb;have e:nS (eW b ps) p a=eW (nS b p a) ps:=by rw[aG4,θ h1]
  have hd:Det w (.mk 4 0 [] zTy [.mk 5 0 p zTy [eW b ps] [] [],a] [] []) (eW (nS b p a) ps,0):=by rw[←e];exact aBm (sK hL) a1.n7 (aS6 a2)
  obtain⟨g1,g2⟩:=v8 l aN2 hd;have I:=a1n (x:=p) hb a2;refine .one g1 g2 fun Y=>?_
  have Z:ClF (yY (eW (nS b p a) ps) l):=fun z hz=>by
   refine J.c z ((oT _ _).2 ?_);rcases(oT _ _).1 hz with g | ⟨c,hc,g⟩
   ·obtain⟨g3,g4⟩:=(oM _ _).1 g;rcases pF _ b (le_refl _) g3 with⟨g5,g6⟩ | g5
    ·exact .inl ((oM _ _).2 ⟨g5,fun hm=>(Ac.1 hm).elim g6 g4⟩)
    ·exact .inr ⟨a,η,g5⟩
   ·exact .inr ⟨c,χ _ hc,g⟩
  have ih:=aK6 l ps (nS b p a) h2 (by simpa using hl) (fun q y=>hp q (χ _ y)) (.of (aCc _ _ (rP (fun q y=>hp q (χ _ y)) I) fun c hc=>(ha c (χ _ hc)).2) Z Y) (fun c hc=>ha c (χ _ hc)) I;exact ih
structure WBk (W:Wt) (w:List Bind):Prop where
 ok:WOk W
 n7:∀f ps b,W f=some (ps,b)→(∀p∈ps,N7 p)∧bU (LQ N7) b
 fd:∀f ps b,W f=some (ps,b)→∃x,w.find? (fun b=>decide (b.name=f))=some x∧x.body=eW b ps
theorem aHl {f:Str}{x:Bind}(h:w.find? (fun b=>decide (b.name=f))=some x):Det w (vC f) (x.body,0):=by
 intro j hj;obtain⟨i,rfl⟩:=jS hj;unfold vC;rw[iJ,κ rfl,h]
theorem aLd {N:Str→Prop}:∀(l:List Core) (h:Core),bU (LQ N) (yY h l)→bU (LQ N) h∧∀a∈l,bU (LQ N) a
 | [],h,hh=>⟨hh,by simp⟩
 | a::l,h,hh=>by
  obtain⟨g1,g2⟩:=aLd l _ hh;have g3:=(aM.1 g1).2.1
  exact⟨g3 h (by simp),fun c hc=>(Ac.1 hc).elim (fun e=>by rw[e];exact g3 a (by simp)) (g2 c)⟩
theorem aEb:∀{l:List Str}{c:Core},l≠[]→(eW c l).form=5
 | [],_,h=>absurd rfl h
 | _::_,_,_=>rfl
theorem aKy {W:Wt}(hW:WBk W w) {x y:Core}(h:RL W x y) (hx:x.form=5) (Y:YO y):Rto w (fun z=>z.form=5∧RL W x z∧YO z) y:=by
 cases h with
 | var s=>cases hx
 | node h1 h5=>exact absurd hx h5
 | lam hs hb=>exact .done ⟨rfl,.lam hs hb,Y⟩
 | @comb _ f args ps b I hl ha hY=>
  obtain⟨w1,w2,w3,w4⟩:=hW.ok.ok f ps b I;obtain⟨Z,n2⟩:=hW.n7 f ps b I;obtain⟨bd,e1,e2⟩:=hW.fd f ps b I;obtain⟨_,q2⟩:=aLd _ _ Y.q;have J:∀a∈args,ClF a∧bU (LQ N7) a:=fun a O=>⟨fun z hz=>Y.c z ((oT _ _).2 (.inr ⟨a,O,hz⟩)),q2 a O⟩
  have hd:=aHl e1;rw[e2] at hd;have hsv:shE (vC f)=false:=shN (by decide) (by decide) (by decide) (by decide);obtain⟨g1,g2⟩:=v8 args hsv hd;refine .one g1 g2 fun hsz=>?_
  have hy2:YO (yY (eW b ps) args):=.of (aCc _ _ (rP Z n2) fun a ha=>(J a ha).2) (fun z hz=>by
   rcases(oT _ _).1 hz with g | ⟨c,hc,g⟩
   ·obtain⟨g3,g4⟩:=(oM _ _).1 g;exact(w4 z g3).elim (fun g=>absurd g g4) id
   ·exact(J c hc).1 z g) hsz
  refine(aK6 args ps b w2 (le_of_lt hl) Z hy2 J n2).imp fun z ⟨hz,hzy⟩=>?_
  subst hz;refine⟨aEb fun e=>?_,hY,hzy⟩;have:=congrArg List.length e;rw[Bk,length_nil] at this;omega
end
mutual
def iN:Core→Prop
 | .mk f n _ _ ks bs al=>(f=3→i64 n)∧iNs ks∧iNb bs∧iNa al
def iNs:List Core→Prop
 | []=>True
 | c::l=>iN c∧iNs l
def iNb:List Bind→Prop
 | []=>True
 | .mk _ _ c::l=>iN c∧iNb l
def iNa:List Alt→Prop
 | []=>True
 | .mk f _ _ v c::l=>(f=1∨v=[])∧iN c∧iNa l
end
theorem aP8:∀{l:List Core},iNs l↔∀x∈l,iN x
 | []=>by simp[iNs]
 | c::l=>by rw[iNs,aP8 (l:=l)];simp
theorem aP9:∀{l:List Bind},iNb l↔∀x∈l,iN x.body
 | []=>by simp[iNb]
 | .mk s t c::l=>by rw[iNb,aP9 (l:=l)];simp[Bind.body]
theorem aQa:∀{l:List Alt},iNa l↔∀x∈l,(x.form=1∨x.vars=[])∧iN x.body
 | []=>by simp[iNa]
 | .mk f n s v c::l=>by rw[iNa,aQa (l:=l)];simp[Alt.body,Alt.form,Alt.vars,and_assoc]
theorem jP {f n:Int}{s:Str}{t:Ty}{ks:List Core}{bs:List Bind}{al:List Alt}:iN (.mk f n s t ks bs al)↔(f=3→i64 n)∧(∀x∈ks,iN x)∧(∀x∈bs,iN x.body)∧∀x∈al,(x.form=1∨x.vars=[])∧iN x.body:=by rw[iN,aP8,aP9,aQa]
theorem aQb {x:Str}{b:Core}(hb:iN b):∀(k:Nat) (c:Core),aQ c≤k→iN c→iN (nS c x b)
 | 0,c,h,_=>by have:=bH c;omega
 | k+1,.mk f n nm t ks bs al,h,J=>by
  obtain⟨O,Y,Z,_⟩:= @dL f n nm t ks bs al;obtain⟨q1,q2,q3,I⟩:=jP.1 J;by_cases h1:f=1
  ·rw[nS,κ h1];split
   ·exact hb
   ·exact J
  ·rw[kP h1];refine jP.2 ⟨q1,fun y q=>?_,fun y q=>?_,fun y q=>?_⟩
   ·split at q
    ·exact q2 y q
    ·obtain⟨z,hz,rfl⟩:=Ah.1 q;exact aQb hb k z (by have:=O z hz;omega) (q2 z hz)
   ·split at q
    ·exact q3 y q
    ·obtain⟨z,hz,rfl⟩:=Ah.1 q;exact aQb hb k z.body (by have:=Y z hz;omega) (q3 z hz)
   ·obtain⟨z,hz,rfl⟩:=Ah.1 q;refine⟨(I z hz).1,?_⟩;show iN (if x∈z.vars then z.body else nS z.body x b);split
    ·exact(I z hz).2
    ·exact aQb hb k z.body (by have:=Z z hz;omega) (I z hz).2
theorem a4b:∀(l:List (Str×Core)) (c:Core),iN c→(∀p∈l,iN p.2)→iN (fS c l)
 | [],_,h,_=>h
 | p::l,c,h,hl=>a4b l _ (aQb (hl p η) _ c (le_refl _) h) fun q y=>hl q (χ _ y)
structure XO (x:Core):Prop where
 q:bU (LQ N6) x
 c:pfR x=[]
 m:m30 x≤500000000
 i:iN x
theorem XO.of {x:Core}(q:bU (LQ N6) x) (c:pfR x=[]) (i:iN x) (h:eO x≤6000):XO x:=⟨q,c,by have:=kR x (oA q);have:403*eO x≤403*6000:=Cy _ h;omega,i⟩
theorem pM {l:List Str}(h:∀z,¬z∈l):l=[]:=List.eq_nil_iff_forall_not_mem.2 h
theorem XO.kid {f n:Int}{s:Str}{t:Ty}{ks:List Core}{bs:List Bind}{al:List Alt}(h:XO (.mk f n s t ks bs al)) (h1:¬f=1) (y:gvN f s bs=[]) {x:Core}(hx:x∈ks):XO x:=
 ⟨(aM.1 h.q).2.1 x hx,pM fun z hz=>by
  have:z∈pfR (.mk f n s t ks bs al):=(cZ h1).2 (.inl ⟨x,ω.2 (.inl hx),hz,by rw[y];simp⟩)
  rw[h.c] at this;exact absurd this (by simp),by have:=iR hx;have:=h.m;rw[m30] at this;omega,(jP.1 h.i).2.1 x hx⟩
structure NdR (W:Wt) (ks ks':List Core) (bs bs':List Bind) (al al':List Alt):Prop where
 k:LR (RL W) ks ks'
 bn:bs.map Bind.name=bs'.map Bind.name
 b:∀(i:Nat) (x y:Bind),bs[i]?=some x→bs'[i]?=some y→RL W x.body y.body
 a:AR (RL W) al al'
theorem NdR.rl {W:Wt}{f n:Int}{s:Str}{t t':Ty}{ks ks':List Core}{bs bs':List Bind}{al al':List Alt}(h:NdR W ks ks' bs bs' al al') (h1:¬f=1) (h5:¬f=5):RL W (.mk f n s t ks bs al) (.mk f n s t' ks' bs' al'):=.node h1 h5 h.k.1 h.k.2 h.bn h.b h.a.1 h.a.2.1 h.a.2.2
theorem RL.form5 {W:Wt}{x y:Core}(h:RL W x y) (q:y.form=5):x.form=5:=by
 cases h with
 | var s=>exact q
 | node h1 h5=>exact absurd q h5
 | lam=>rfl
 | comb hW hl ha hY=>
  rename_i f args ps b;rcases vZ args (vC f) (.inl rfl) with g | g<;>rw[g] at q<;>exact absurd q (by decide)
theorem RL.inv {W:Wt}{f n:Int}{s:Str}{t:Ty}{ks:List Core}{bs:List Bind}{al:List Alt}{y:Core}(h:RL W (.mk f n s t ks bs al) y) (h1:¬f=1) (h5:¬f=5):∃t' ks' bs' al',y=.mk f n s t' ks' bs' al'∧NdR W ks ks' bs bs' al al':=by
 cases h with
 | var s=>exact absurd rfl h1
 | node _ _ k1 k2 b1 b2 a1 a2 a3=>exact⟨_,_,_,_,rfl,⟨k1,k2⟩,b1,b2,a1,a2,a3⟩
 | lam=>exact absurd rfl h5
 | comb hW hl ha hY=>
  rename_i f' args ps b;have:=hY.form5 (aEb fun e=>by have:=congrArg List.length e;rw[Bk,length_nil] at this;omega);exact absurd this h5
theorem LR.one {R:Core→Core→Prop}{x:Core}{l:List Core}(h:LR R [x] l):∃y,l=[y]∧R x y:=by
 obtain⟨h1,h2⟩:=h
 match l,h1 with
 | [y],_=>exact⟨y,rfl,h2 0 x y rfl rfl⟩
theorem LR.two {R:Core→Core→Prop}{a b:Core}{l:List Core}(h:LR R [a,b] l):∃c d,l=[c,d]∧R a c∧R b d:=by
 obtain⟨h1,h2⟩:=h
 match l,h1 with
 | [c,d],_=>exact⟨c,d,rfl,h2 0 a c rfl rfl,h2 1 b d rfl rfl⟩
theorem LR.app {R:Core→Core→Prop}{a I:List Core}{x y:Core}(h:LR R a I) (k:R x y):LR R (a++[x]) (I++[y]):=by
 refine⟨by rw[ε,ε,h.1];rfl,fun i u v hu q=>?_⟩;by_cases hi:i<a.length
 ·rw[Ax hi] at hu;rw[Ax (by rw[←h.1];exact hi)] at q;exact h.2 i u v hu q
 ·rw[Ao (by omega)] at hu;rw[Ao (by rw[←h.1];omega)] at q;rw[←h.1] at q;cases hj:i-a.length with
  | zero=>rw[hj] at hu q;cases hu;cases q;exact k
  | succ j=>rw[hj] at hu;cases hu
theorem zA {N:Str→Prop}{n:Int}{s:Str}{t:Ty}{f:Int}{ks:List Core}{bs:List Bind}{al:List Alt}(h:bU (LQ N) (.mk f n s t ks bs al)) (q:f=4∨f=10):(∃a b,ks=[a,b])∧bs=[]∧al=[]:=z8 (oA h) q
theorem aCm {W:Wt}:∀(k:Nat) (x:Core),aQ x≤k→bU (LQ N6) x→∀y,RL W x y→(spH x).form=2→(spH y).form=2∧(spH y).name=(spH x).name∧LR (RL W) (spA x) (spA y)
 | 0,x,h,_=>by have:=bH x;omega
 | k+1,.mk f n s t ks bs al,h,I=>by
  intro y J h2;obtain⟨O,_⟩:= @dL f n s t ks bs al;by_cases h4:f=4
  ·subst h4;obtain⟨⟨a,b,rfl⟩,rfl,rfl⟩:=zA I (.inl rfl);obtain⟨t',ks',bs',al',rfl,hn⟩:=J.inv (by decide) (by decide);obtain⟨q,b',rfl,ra,Y⟩:=hn.k.two;have Z:spA (.mk 4 n s t [a,b] [] [])=spA a++[b]:=by rw[spA,κ rfl,a1v]
   have e2:spA (.mk 4 n s t' [q,b'] bs' al')=spA q++[b']:=by rw[spA,κ rfl,a1v]
   rw[zR] at h2 ⊢;rw[zR,Z,e2];obtain⟨g1,g2,g3⟩:=aCm k a (by have:=O a η;omega) ((aM.1 I).2.1 a η) q ra h2;exact⟨g1,g2,g3.app Y⟩
  ·have e0:spH (.mk f n s t ks bs al)=.mk f n s t ks bs al:=by rw[spH,θ h4]
   rw[e0] at h2 ⊢;have h2:f=2:=h2;subst h2;obtain⟨t',ks',bs',al',rfl,hn⟩:=J.inv (by decide) (by decide);rw[spH,θ (by decide),spA,θ (by decide),spA,θ (by decide)];exact⟨rfl,rfl,rfl,fun i u v hu=>by cases hu⟩
theorem a9d {c:Core}(h:(spH c).form=2):shE c=true:=by unfold shE;rw[Ae h];simp
theorem aTy {c:Core}(h:shE c=true):c.form=5∨c.form=3∨(spH c).form=2:=by
 unfold shE at h;simp only[Bi,A4] at h;exact h
section
variable {W:Wt}{w bx:List Bind}
theorem tV (hW:WBk W w) {x y:Core}(h:RL W x y) (hx:XO x) (I:YO y) (hs:shE x=true):Rto w (fun z=>shE z=true∧z.form=x.form∧z.n=(if x.form=5 then z.n else x.n)∧RL W x z∧YO z) y:=by
 by_cases h5:x.form=5
 ·refine(aKy hW h h5 I).imp fun z ⟨h1,h2,h3⟩=>⟨?_,by rw[h1,h5],by rw[κ h5],h2,h3⟩
  unfold shE;rw[Ae h1];rfl
 ·obtain⟨f,n,s,t,ks,bs,al⟩:=x;have h5':¬f=5:=h5;have h1':¬f=1:=fun e=>by
   subst e;obtain⟨rfl,rfl,rfl⟩:=aLj hx.q;have:=hx.c;rw[pfR,κ rfl] at this;cases this
  obtain⟨t',ks',bs',al',rfl,hn⟩:=h.inv h1' h5';refine .done ⟨?_,rfl,by rw[θ h5];rfl,h,I⟩;rcases aTy hs with g | g | g
  ·exact absurd g h5
  ·have g:f=3:=g;subst g;unfold shE;simp[Core.form]
  ·exact a9d (aCm _ _ (le_refl _) hx.q _ h g).1
theorem Rto.ctx2 {P Q:Core→Prop}{C:Core→Core}(q:Ctx1 w C) {a:Core}(h:Rto w P a):(∀z,P z→(z=a∨eO (C z)≤6000)→Rto w Q (C z))→Rto w Q (C a):=by
 induction h with
 | done h=>exact fun hk=>hk _ h (.inl rfl)
 | @long y d hs hd hb=>exact fun _=>.long (q.sh y hs) (q.st y _ hs hd) (B8 hb (q.sz d))
 | @step y d hs hd hb _ O=>exact fun hk=>.one (q.sh y hs) (q.st y _ hs hd) fun I=>O fun z hz J=>hk z hz (.inr (J.elim (fun e=>by rw[e];exact I) id))
def Sm (W:Wt) (w bx:List Bind) (x y:Core):Prop:=∃r e,Det bx x (r,e)∧(e=0→6000<eO r∨Rto w (fun z=>RL W r z∧YO z∧XO r) y)∧(¬e=0→Rto w (fun z=>shE z=false∧∃q,Det w z (q,e)) y)
theorem aN3 {α:Type}:∀{l:List α}{j:Nat}{y:α},l[j]?=some y→l.set j y=l
 | [],_,_,h=>by cases h
 | x::l,0,y,h=>by
  have e:x=y:=by simpa using h
  rw[e];rfl
 | x::l,j+1,y,h=>by
  have q:l[j]?=some y:=by simpa using h
  rw[C3,aN3 q]
theorem LR.set {R:Core→Core→Prop}{l l':List Core}(h:LR R l l') {j:Nat}{r z:Core}(y:R r z):LR R (l.set j r) (l'.set j z):=by
 refine⟨by rw[Cn,Cn,h.1],fun i u v hu q=>?_⟩;rw[List.getElem?_set] at hu q;by_cases e:j=i
 ·subst e;rw[κ rfl] at hu q;split at hu
  ·rename_i hl;rw[κ (by rw[←h.1];exact hl)] at q;cases hu;cases q;exact y
  ·cases hu
 ·rw[θ e] at hu q;exact h.2 i u v hu q
theorem aLk {N:Str→Prop}{f n:Int}{s:Str}{t:Ty}{ks:List Core}{bs:List Bind}{al:List Alt}{j:Nat}{r:Core}(h:bU (LQ N) (.mk f n s t ks bs al)) (q:bU (LQ N) r):bU (LQ N) (.mk f n s t (ks.set j r) bs al):=by
 obtain⟨y,I,J,O⟩:=aM.1 h;refine aM.2 ⟨by rw[Cn];exact y,fun x hx=>?_,J,O⟩;rcases Cj hx with hx | rfl
 ·exact I x hx
 ·exact q
theorem aJj {f n:Int}{s:Str}{t:Ty}{ks:List Core}{al:List Alt}{j:Nat}{r:Core}(h1:¬f=1) {z:Str}(h:z∈pfR (.mk f n s t (ks.set j r) [] al)):z∈pfR (.mk f n s t ks [] al)∨z∈pfR r:=by
 rcases(cZ h1).1 h with⟨p,hp,h2,h3⟩ | ⟨a,ha,h2,h3⟩
 ·rcases ω.1 hp with hp | hp
  ·rcases Cj hp with hp | rfl
   ·exact .inl ((cZ h1).2 (.inl ⟨p,ω.2 (.inl hp),h2,h3⟩))
   ·exact .inr h2
  ·cases hp
 ·exact .inl ((cZ h1).2 (.inr ⟨a,ha,h2,h3⟩))
theorem aA4 {f n:Int}{s:Str}{t t':Ty}{ks ks':List Core}{al al':List Alt}{j:Nat}{a a':Core}(h1:¬f=1) (h5:¬f=5) (hn:NdR W ks ks' [] [] al al') (hx:XO (.mk f n s t ks [] al)) (hy:YO (.mk f n s t' ks' [] al')) (ha:ks[j]?=some a) (ha':ks'[j]?=some a') (hs:shE a=false)
  (Y:Ctx1 bx (fun r=>.mk f n s t (ks.set j r) [] al)) (y:Ctx1 w (fun r=>.mk f n s t' (ks'.set j r) [] al')) (ih:Sm W w bx a a'):Sm W w bx (.mk f n s t ks [] al) (.mk f n s t' ks' [] al'):=by
 obtain⟨r,e,hd,h0,he⟩:=ih;have I:Det bx (.mk f n s t (ks.set j a) [] al) _:=Y.st a _ hs hd;have ex:ks.set j a=ks:=aN3 ha;have ey:ks'.set j a'=ks':=aN3 ha';rw[ex] at I;by_cases e0:e=0
 ·subst e0;refine⟨.mk f n s t (ks.set j r) [] al,0,I,fun _=>?_,fun h=>absurd rfl h⟩;rcases h0 rfl with h | hr
  ·exact .inl (B8 h (Y.sz r))
  ·by_cases Z:6000<eO (.mk f n s t (ks.set j r) [] al)
   ·exact .inl Z
   ·refine .inr ?_;have:=hr.ctx2 (Q:=fun z=>RL W (.mk f n s t (ks.set j r) [] al) z∧YO z∧XO (.mk f n s t (ks.set j r) [] al)) y fun z ⟨hz,aa,J⟩ O=>.done ⟨NdR.rl ⟨hn.k.set hz,hn.bn,hn.b,hn.a⟩ h1 h5,?_,.of (aLk hx.q J.q) (pM fun z hz=>?_) ?_ (not_lt.1 Z)⟩
    ·rwa [ey] at this
    ·rcases O with rfl | O
     ·rw[ey];exact hy
     ·exact .of (aLk hy.q aa.q) (fun u hu=>(aJj h1 hu).elim (hy.c u) (aa.c u)) O
    ·rcases aJj h1 hz with g | g
     ·rw[hx.c] at g;cases g
     ·rw[J.c] at g;cases g
    ·obtain⟨q1,q2,q3,q4⟩:=jP.1 hx.i;refine jP.2 ⟨q1,fun x hx=>?_,q3,q4⟩;rcases Cj hx with hx | rfl
     ·exact q2 x hx
     ·exact J.i
 ·have hk:sI false (r,e) (fun r=>Core.mk f n s t (ks.set j r) [] al)=(zC,e):=by
   show(if e=0 then _ else _)=_;rw[θ e0]
  rw[hk] at I;refine⟨zC,e,I,fun h=>absurd h e0,fun _=>?_⟩;have:=(he e0).ctx2 (Q:=fun z=>shE z=false∧∃q,Det w z (q,e)) y fun z ⟨hz,q,hq⟩ _=>.done ⟨y.sh z hz,zC,?_⟩
  ·rwa [ey] at this
  ·have:=y.st z _ hz hq;have hk:sI false (q,e) (fun r=>Core.mk f n s t' (ks'.set j r) [] al')=(zC,e):=by
    show(if e=0 then _ else _)=_;rw[θ e0]
   rwa [hk] at this
end
end Go.Proofs.YtnjaiimffoninaaGreatDoor
