/-
  Texts Lg4 to Lg9 in one.
-/
import Derived.Test.YtnjaiimffoninaaGreatDoorM7
open List (all_append all_eq_true append_assoc append_nil cons_append drop_eq_getElem_cons drop_length drop_zero flatMap_append flatMap_cons flatten_cons foldl_append foldl_cons length_append length_cons length_drop length_erase_of_mem length_map length_nil length_pos_of_mem length_set length_take map_append map_cons map_map map_nil map_set mem_append mem_cons mem_cons_of_mem mem_cons_self mem_filter mem_map mem_of_mem_take mem_singleton nil_append nodup_append nodup_cons nodup_nil set_cons_succ take_add_one take_append_drop take_length take_succ_cons)
open Nat (add_assoc add_mul add_zero beq_refl le_of_lt le_refl le_trans min_eq_left mul_le_mul_right mul_one sub_self sub_zero succ_mul zero_add zero_le)
namespace Go.Proofs.YtnjaiimffoninaaGreatDoor
open Go Go.AM
set_option maxRecDepth 20000
theorem aJi {h:dD}{ids:List Nat}{rs:List R}{cs:List C}(k:PureL h ids rs cs):∀l:List C,PureL h ids (l.map R.c++rs) (l++cs)
 | []=>k
 | _::l=>.c .refl (aJi k l)
theorem aC5 {h:dD}:∀{al:List Alt}{k:Nat},FarEq h (aGc (fam k al))→∃ids,PureL h ids (b8 k al).flatten (al.map cO).flatten
 | [],_,_=>⟨[],.nil⟩
 | a::l,k,q=>by
  obtain⟨ids,y⟩:=aC5 (al:=l) (k:=k+1) fun p hp=>q p (χ _ hp)
  have hh:h (k+800)=some (.arr 9 1 (a.vars.map bA) 2):=q (k+800,.arr 9 1 (a.vars.map bA) 2) η;refine⟨(k+800)::ids,?_⟩;have h1:=aJi y (aB a.body);simp only[b8,At,Bm,fB,cO,A1,A3];exact .c .refl (.c .refl (.c .refl (.hs hh (φ _).symm (by rw[B3,←φ (f:=bA),As]) h1)))
def s7 (f n:Int) (s:Str) (t:Ty) (nk nb:Nat) (al:List Alt):List R:=[.c (.int .i64 f),.c (.int .i64 n),.c (.str s),.c (.int .i64 t.form),.c (.int .i64 t.n),.c (.str t.name),.c (.sl 4 (iK t)),.hs 702 0 nk nk,.hs 701 0 nb nb,.ras al.length 14 (b8 0 al).flatten]
theorem aC6 {h:dD}{f n:Int}{s:Str}{t:Ty}{ks:List Core}{bs:List Bind}{al:List Alt}(h1:h 701=some (.arr 35 15 (aR bs) 2)) (h2:h 702=some (.arr 30 10 (aT ks) 2)) (J:FarEq h (aGc (fam 0 al))):
  ∃ids,PureL h ids (s7 f n s t ks.length bs.length al) (aB (.mk f n s t ks bs al)):=by
 obtain⟨ids,hp⟩:=aC5 J;have y:(aT ks).length=ks.length:=by rw[b7,φ]
 have I:(aR bs).length=bs.length:=by rw[bC,φ]
 refine⟨702::701::(ids++[]),?_⟩;refine .c .refl (.c .refl (.c .refl (.c .refl (.c .refl (.c .refl (.c .refl (.hs h2 y.symm ?_ (.hs h1 I.symm ?_ (.ras rfl hp ?_ ?_ ?_ .nil)))))))))
 ·rw[B3,←y,As];rfl
 ·rw[B3,←I,As];rfl
 ·show _=(bP al).flatten;rw[bN]
 ·intro r q;have q:r∈bP al:=q;rw[bN] at q;obtain⟨a,_,rfl⟩:=Ah.1 q;rfl
 ·show(bP al).length=_;rw[bN,φ]
theorem wV {al:List Alt}:703∉dB (b8 0 al):=fun h=>by
 obtain⟨p,hp,e⟩:=Ah.1 (eR 703 h);have:=iH.far p hp;omega
theorem x8 {kf:List Nat}{el:List (Nat×V)}{ex:List (Nat×AObj)}{ks:List Core}{bs:List Bind}{al:List Alt}(Y:703∉kf)
  (ab:∀x∈jU el,Kn (oHl ks bs al) ex (fam 0 al) x) (hex:dU (fun q=>∀x∈q.2.refs,Kn (oHl ks bs al) ex (fam 0 al) x) ex)
  (ac:∀i∈kf,i∈keys (oHl ks bs al++ex)∨i∈keys (fam 0 al)) (hd:Go.AM.distinct ((oHl ks bs al++ex).map (·.1))=true) (hn:(ex.all fun p=>Nat.blt p.1 800)=true) (ad:(el.map (·.1)).Nodup) (ae:∀p∈ex,p.2.live=true):
  Sub kf (mkt (fzE 703 (.ra al.length 14 (b8 0 al).flatten) el) (fzH 703 (.ra al.length 14 (b8 0 al).flatten) ([(701,.arr 35 15 (aR bs) 2),(702,.arr 30 10 (aT ks) 2)]++ex)) (aGc (fam 0 al))) (mkt el (oHl ks bs al++ex) (fam 0 al)):=by
 have J:TF (fam 0 al):=iH;have ag:((oHl ks bs al++ex).all fun p=>Nat.blt p.1 800)=true:=by rw[Dd,hn];rfl
 have e1:Sub kf (mkt el ([(703,.rarr 73 14 (b8 0 al)),(701,.arr 35 15 (aR bs) 2),(702,.arr 30 10 (aT ks) 2)]++ex) (fam 0 al)) (mkt el (oHl ks bs al++ex) (fam 0 al)):=by
  refine Sub.trans ?_ (Sub.freeze (id:=701) (te:=35) (es:=15) (elems:=aR bs) (fz:=0) rfl);refine Sub.trans ?_ (Sub.freeze (id:=702) (te:=30) (es:=10) (elems:=aT ks) (fz:=0) rfl);have O:∀p∈ex,703≠p.1∧701≠p.1∧702≠p.1:=fun p hp=>by
   have y:=dP hd;simp only[oHl,A1,A3,At,Bq,Ac,not_or] at y;have hm:p.1∈ex.map (·.1):=Ah.2 ⟨p,hp,rfl⟩;exact⟨fun e=>y.2.2.1 (e▸hm),fun e=>y.1.2.2 (e▸hm),fun e=>y.2.1.2 (e▸hm)⟩
  have Z:(ex.map (·.1)).Nodup:=by
   have y:=dP hd;simp only[oHl,A1,A3,At,Bq] at y;exact y.2.2.2
  have hg:∀x∈dI (oHl ks bs al++ex),x∈keys (oHl ks bs al++ex)∨x∈keys (fam 0 al):=fun x hx=>by
   rw[jI] at hx;rcases ω.1 hx with hx | hx
   ·exact .inr (eR x (by simpa [oHl,dI,AObj.refs] using hx))
   ·rcases aCz hex x hx with h | h | h
    ·exact .inl (iS.2 (.inl h))
    ·exact .inl (iS.2 (.inr h))
    ·exact .inr h
  have I:∀x,x∈keys (oHl ks bs al++ex)→x∈keys ([(703,AObj.rarr 73 14 (b8 0 al)),(701,.arr 35 15 (aR bs) 2),(702,.arr 30 10 (aT ks) 2)]++ex):=fun x hx=>by
   simp only[oHl,keys,A1,A3,At,Ac] at hx ⊢;rcases hx with h | h | h | h
   ·exact .inr (.inl h)
   ·exact .inr (.inr (.inl h))
   ·exact .inl h
   ·exact .inr (.inr (.inr h))
  refine slT J (FarEq.upd J (FarEq.upd J (FarEq.mkt J ag))) (fun x hx=>?_) (fun x hx=>?_) (fun i hi=>(ac i hi).imp (I i) id) (he:=dU.of fun p hp=>?_) (hh:=⟨⟨_,rfl,.rarrS rfl⟩,⟨_,rfl,.arr⟩,⟨_,rfl,.arr⟩,dU.of fun p hp=>?_⟩) (h3:=?_) (h3':=?_)
  ·rcases ab x hx with h | h | h
   ·exact .inl (I x (iS.2 (.inl h)))
   ·exact .inl (I x (iS.2 (.inr h)))
   ·exact .inr h
  ·refine(hg x ?_).imp (I x) id;rw[jI] at hx ⊢;rcases ω.1 hx with hx | hx
   ·exact ω.2 (.inl (by simpa [oHl,dI,AObj.refs] using hx))
   ·exact ω.2 (.inr hx)
  ·rw[V.ren_id];exact r6 ad p hp
  ·obtain⟨m1,m2,m3⟩:=O p hp;refine⟨p.2,?_,.refl_id (by intro e;have:=ae p hp;rw[e] at this;cases this)⟩;dsimp only;rw[aV _ _ _ (Ne.symm m3),aV _ _ _ (Ne.symm m2)];have hl:Go.AM.look (oHl ks bs al++ex) p.1=some p.2:=r6 (dP hd) p (ω.2 (.inr hp));show(match Go.AM.look (oHl ks bs al++ex) p.1 with | some x=>some x | none=>_)=_;rw[hl]
  ·refine iL ?_;simp only[A1,A3,At,Bq,Ac,not_or];refine⟨⟨by decide,by decide,fun h=>?_⟩,⟨by decide,fun h=>?_⟩,fun h=>?_,Z⟩
   all_goals
    obtain⟨p,hp,e⟩:=Ah.1 h;have:=O p hp;omega
  ·rw[Dd,hn];rfl
 have aa:Go.AM.distinct (703::List.map (fun p:Nat×AObj=>p.1) ([(701,AObj.arr 35 15 (aR bs) 2),(702,.arr 30 10 (aT ks) 2)]++ex))=true:=by
  have y:=dP hd;simp only[oHl,A1,A3,At,Bq,Ac,not_or] at y;refine iL ?_;simp only[A1,A3,At,Bq,Ac,not_or];exact⟨⟨by decide,by decide,y.2.2.1⟩,⟨by decide,y.1.2.2⟩,y.2.1.2,y.2.2.2⟩
 have e2:=Sub.fzAll (kf:=kf) (el:=el) (hl:=[(703,.rarr 73 14 (b8 0 al)),(701,.arr 35 15 (aR bs) 2),(702,.arr 30 10 (aT ks) 2)]++ex) J (by rw[Dd,hn];rfl);have e3:=Sub.fraT (kf:=kf) (el:=el) (id:=703) (te:=73) (es:=14) (rows:=b8 0 al) (rest:=[(701,.arr 35 15 (aR bs) 2),(702,.arr 30 10 (aT ks) 2)]++ex) J.frz Y wV rfl aa;rw[fI] at e3;exact Sub.trans e3 (Sub.trans e2 e1)
theorem aO4 {c:Core}(h:OwG c):OwP c:=by
 obtain⟨f,n,s,t,ks,bs,al⟩:=c;refine aW.sub h ?_;have q:TF (fam 0 al):=iH;show Sub [] _ (mk [(0,.ma (j1 f n s t ks.length bs.length al.length))] (oHl ks bs al++fam 0 al));rw[←aPn q];have h1:=x8 (kf:=[]) (el:=[(0,.ma (j1 f n s t ks.length bs.length al.length))]) (ex:=[]) (ks:=ks) (bs:=bs) (al:=al) (by simp) (Kn.of rfl) trivial (fun _ h=>by cases h) rfl rfl (by simp) (fun _ h=>by cases h);rw[A9] at h1;refine Sub.trans ?_ h1;have I:fzE 703 (.ra al.length 14 (b8 0 al).flatten) [(0,.ma (j1 f n s t ks.length bs.length al.length))]=[(0,.ma (s7 f n s t ks.length bs.length al))]:=by
  unfold j1 s7;simp only[fzE,V.fz,R.fzL,R.fz,Cg,Cw,Bool.and_self]
 rw[I];have y:TF (aGc (fam 0 al)):=q.frz;obtain⟨ids,hp⟩:=aC6 (h:=(mkt [(0,V.ma (s7 f n s t ks.length bs.length al))] (fzH 703 (.ra al.length 14 (b8 0 al).flatten) ([(701,.arr 35 15 (aR bs) 2),(702,.arr 30 10 (aT ks) 2)]++[])) (aGc (fam 0 al))).h) (f:=f) (n:=n) (s:=s) (t:=t) (ks:=ks) (bs:=bs) (al:=al) rfl rfl (FarEq.mkt y rfl);refine Sub.trans ?_ (Sub.conv (t:=0) (v:=.ma (s7 f n s t ks.length bs.length al)) (v':=.pa (aB (.mk f n s t ks bs al))) rfl (.agg hp));exact sl
theorem aK3:∀(n:Nat) (c:Core),aQ c≤n→LC c→oV TyG c→OwP c
 | 0,c,h,_,_=>by have:=bH c;omega
 | n+1,c,h,hl,I=>aO4 (yN c (fun x hx q y=>aK3 n x (by omega) q y) I hl)
theorem a5f (n:Nat) (c:Core) (h:aQ c≤n) (hn:n≤570000000000) (q:oV TyG c):OwP c:=aK3 n c h (LC.of n c h (by omega)) q
theorem a0r (c:Core) (h:LC c) (y:oV TyG c):OwG c:=yN c (fun x _ hx q=>aK3 (aQ x) x (le_refl _) hx q) y h
def nm0 (c:Core):List (List C):=if c.form=5 then [[.pt ((aB c).drop 2)]] else []
def aHu (b:Bind):List C:=[.pt ((aS b).drop 0)]
def aMz (b:Bind):List C:=[.pt ((aS b).drop 5)]
def iZ (k:Core):List C:=[.pt (aB k)]
def aCi (v:Str):List C:=[.pt (bA v)]
def aH4 (a:Alt):List C:=[.sl 1 (a.vars.map aCi),.sl 1 [[.pt ((cO a).drop 4)]]]
def a4d (c:Core):List C:=[.sl 1 (nm0 c++c.binds.map aHu),.sl 1 (c.kids.map iZ++c.binds.map aMz)]
def kW (c:Core):List (List C):=a4d c::c.alts.map aH4
theorem tS {α:Type}(f:α→List C) (w:List (List C)) {l:List α}{i:Nat}{x:α}(h:l[i]?=some x):w++(l.take i).map f++[f x]=w++(l.take (i+1)).map f:=by
 rw[cB h,A6,Aw];rfl
theorem aFe (c:Core) (O:c.kids.length+c.binds.length+1≤570000000000) (Y:c.alts.length+1≤570000000000) (aa:∀a∈c.alts,a.vars.length≤570000000000):aW Tryz.prog 50 [.one (.c (.pt (aB c)))] [] (.one (.c (.sl 2 (kW c)))) []:=by
 obtain⟨f,n,s,t,ks,bs,al⟩:=c;have O:ks.length+bs.length+1≤570000000000:=O;have Y:al.length+1≤570000000000:=Y;have aa:∀a∈al,a.vars.length≤570000000000:=aa;have ae:(aR bs).length=bs.length:=by rw[bC,φ]
 have ah:(aT ks).length=ks.length:=by rw[b7,φ]
 have ai:(bP al).length=al.length:=by rw[bN,φ]
 have hW:(nm0 (.mk f n s t ks bs al)).length≤1:=by unfold nm0;split<;>simp
 have y:nm0 (.mk f n s t ks bs al)=if f=5 then [[.pt ((aB (.mk f n s t ks bs al)).drop 2)]] else []:=rfl
 have ap:kW (.mk f n s t ks bs al)=[.sl 1 (nm0 (.mk f n s t ks bs al)++bs.map aHu),.sl 1 (ks.map iZ++bs.map aMz)]::al.map aH4:=rfl;rw[ap];generalize nm0 (.mk f n s t ks bs al)=W at hW y ⊢;refine bZ (n:=123) tok Tryz.func50 rfl rfl rfl ?_;refine sg rfl (sg rfl (AWp.sub (Sub.ownCell (x:=3) (k:=1) (id:=712) 105 1 rfl rfl rfl) (AWp.sub (Sub.ownCell (x:=3) (k:=0) (id:=711) 153 1 rfl rfl rfl) ?_)));refine a8 (sg rfl (aC (aK (fun i:Nat=>mk [(0,.one (.c (.pt (aB (.mk f n s t ks bs al))))),(3,.one (.vp 3 0)),(16,I .i64 ((aT ks).length:Int)),(17,I .i64 i)] [(3,.var 109 [.hs 711 0 0 0,.hs 712 0 i i]),(711,.arr 153 1 [] 0),(712,.arr 105 1 ((ks.take i).map iZ) 0)]) (fun i=>i≤ks.length) (fun i=>ks.length-i) 0 (Al _) sl ?_)));intro i hi;refine sg rfl (a8 (aA rfl (fun hb=>?_) (fun hb=>?_)))
 ·have q:=ltD hb ah;obtain⟨k,aj⟩:=aJ q;have hki':=fA aj;have Z:=oX iZ aj;exact aD (a8 (aC (sg rfl (ag [(7,.row i (aB k))] rfl (ag [] rfl ⟨i+1,q,by dsimp only;omega,sl⟩)))))
 have J:=geD hb ah hi;subst J;rw[As];refine aL (a8 (AWp.cut (mk [(0,.one (.c (.pt (aB (.mk f n s t ks bs al))))),(3,.one (.vp 3 0))] [(3,.var 109 [.hs 711 0 W.length W.length,.hs 712 0 ks.length ks.length]),(711,.arr 153 1 W 0),(712,.arr 105 1 (ks.map iZ) 0)]) ?_ ?_))
 ·refine sg rfl (aA rfl (fun hb=>?_) (fun hb=>?_))
  ·have h5:f=5:=ψ hb;rw[κ h5] at y;subst y;exact ag [] rfl sl
  ·have h5:¬f=5:=π hb;rw[θ h5] at y;subst y;exact aD sl
 clear y;refine a8 (sg rfl (aC (aK (fun i:Nat=>mk [(0,.one (.c (.pt (aB (.mk f n s t ks bs al))))),(3,.one (.vp 3 0)),(49,I .i64 ((aR bs).length:Int)),(50,I .i64 i)] [(3,.var 109 [.hs 711 0 (W.length+i) (W.length+i),.hs 712 0 (ks.length+i) (ks.length+i)]),(711,.arr 153 1 (W++(bs.take i).map aHu) 0),(712,.arr 105 1 (ks.map iZ++(bs.take i).map aMz) 0)]) (fun i=>i≤bs.length) (fun i=>bs.length-i) 0 (Al _) sl ?_)));intro i hi;refine sg rfl (a8 (aA rfl (fun hb=>?_) (fun hb=>?_)))
 ·have q:=ltD hb ae;obtain⟨b,ab⟩:=aJ q;have hbi':=cR ab;have hr1:=tS aHu W ab;have hr2:=tS aMz (ks.map iZ) ab;exact aD (a8 (aC (sg rfl (sgh [(5,.row i (aS b))] rfl (ag [] rfl (ag [] rfl ⟨i+1,q,by dsimp only;omega,sl⟩))))))
 have J:=geD hb ae hi;subst J;rw[As];have O:(W++bs.map aHu).length=W.length+bs.length:=by simp
 have Y:(ks.map iZ++bs.map aMz).length=ks.length+bs.length:=by simp
 rw[←O,←Y];generalize W++bs.map aHu=N0;generalize ks.map iZ++bs.map aMz=P0;refine aL (AWp.sub (Sub.freeze (id:=711) rfl) (AWp.sub (Sub.freeze (id:=712) rfl) (AWp.sub (vp 3 [.sl 1 N0,.sl 1 P0]) ?_)));refine sgh [(1,.id 500)] rfl (a8 (sg rfl (aC (aK (fun i:Nat=>mk [(0,.one (.c (.pt (aB (.mk f n s t ks bs al))))),(7,.one (.hs 500 0 (1+i) (1+i))),(82,I .i64 ((bP al).length:Int)),(83,I .i64 i)] [(500,.arr 109 2 ([[.sl 1 N0,.sl 1 P0]]++(al.take i).map aH4) 0)]) (fun i=>i≤al.length) (fun i=>al.length-i) 0 (Al _) sl ?_))));intro i hi;refine sg rfl (a8 (aA rfl (fun hb=>?_) (fun hb=>?_)))
 ·have q:=ltD hb ai;obtain⟨a,ac⟩:=aJ q;have hai':=gE ac;have hvl:=aa a (δ ac);have Z:=tS aH4 [[.sl 1 N0,.sl 1 P0]] ac;have ak:(a.vars.map bA).length=a.vars.length:=φ _;have aq:(([[.sl 1 N0,.sl 1 P0]]:List (List C))++(al.take i).map aH4).length=1+i:=by
   rw[ε,φ,Ap];show 1+min i al.length=_;omega
  have hall:al.length≤570000000000:=by omega
  generalize ([[.sl 1 N0,.sl 1 P0]]:List (List C))++(al.take i).map aH4=G at aq Z ⊢;refine aD (a8 (aC (sg rfl (sgh [(5,.row i (cO a))] rfl (sgh [(3,.all)] rfl (AWp.sub (Sub.ownCell (x:=10) (k:=0) (id:=721) 153 1 rfl rfl rfl) ?_))))));refine a8 (sg rfl (aC (aK (fun j:Nat=>mk [(0,.one (.c (.pt (aB (.mk f n s t ks bs al))))),(7,.one (.hs 500 0 (1+i) (1+i))),(9,.one (.c (.pt (cO a)))),(10,.one (.vp 10 0)),(82,I .i64 ((bP al).length:Int)),(83,I .i64 i),(101,I .i64 ((a.vars.map bA).length:Int)),(102,I .i64 j)] [(500,.arr 109 2 G 0),(10,.var 109 [.hs 721 0 j j,.c (.sl 1 [[.pt ((cO a).drop 4)]])]),(721,.arr 153 1 ((a.vars.take j).map aCi) 0)]) (fun j=>j≤a.vars.length) (fun j=>a.vars.length-j) 0 (Al _) sl ?_)));intro j hj;refine sg rfl (a8 (aA rfl (fun hb=>?_) (fun hb=>?_)))
  ·have ad:=ltD hb ak;obtain⟨v,hv⟩:=aJ ad;have hv':=bT bA hv;have hr3:=oX aCi hv;exact aD (a8 (aC (sg rfl (ag [(7,.row j (bA v))] rfl (ag [] rfl ⟨j+1,ad,by dsimp only;omega,sl⟩)))))
  have am:=geD hb ak hj;subst am;rw[As];have hlv:a.vars.length=(a.vars.map aCi).length:=(φ _).symm;refine aL (AWp.sub (Sub.freeze (id:=721) rfl) (AWp.sub (vp 10 (aH4 a)) ?_));exact ag [(2,.all)] rfl (ag [] rfl ⟨i+1,q,by dsimp only;omega,sl⟩)
 have J:=geD hb ai hi;subst J;rw[As];refine aL (sg rfl (AWp.sub (Sub.freeze (id:=500) rfl) ?_));exact aF (rtT (hc:=hs_all rfl rfl (by simp;omega) rfl))
def gl (c:Core):List (List (List C)×List Core):=(nm0 c++c.binds.map aHu,c.kids++c.binds.map Bind.body)::c.alts.map fun a=>(a.vars.map aCi,[a.body])
def mC (g:List (List C)×List Core):List C:=[.sl 1 g.1,.sl 1 (g.2.map iZ)]
theorem rZ (c:Core):kW c=(gl c).map mC:=by
 obtain⟨f,n,s,t,ks,bs,al⟩:=c;unfold kW gl;rw[At,Bn];congr 1;unfold a4d mC;rw[A6,Bn];rfl
mutual
def eO:Core→Nat
 | .mk _ _ _ _ ks bs al=>1+(dO ks+(mF bs+mG al))
def dO:List Core→Nat
 | []=>0
 | c::l=>eO c+dO l
def mF:List Bind→Nat
 | []=>0
 | .mk _ _ c::l=>eO c+mF l
def mG:List Alt→Nat
 | []=>0
 | .mk _ _ _ _ c::l=>eO c+mG l
end
theorem qS:∀a b,dO (a++b)=dO a+dO b
 | [],b=>by rw[A3,dO,Be]
 | x::a,b=>by rw[A1,dO,dO,qS a b,Cq]
theorem xA:∀l:List Bind,dO (l.map Bind.body)=mF l
 | []=>by rw[Co,dO,mF]
 | .mk s t c::l=>by rw[At,dO,mF,xA l];rfl
def qP:List (List (List C)×List Core)→Nat
 | []=>0
 | g::l=>dO g.2+qP l
theorem aEn:∀l:List Alt,qP (l.map fun a=>(a.vars.map aCi,[a.body]))=mG l
 | []=>by rw[Co,qP,mG]
 | .mk f n s v c::l=>by rw[At,qP,mG,aEn l,dO,dO];rfl
theorem aY2 (c:Core):eO c=1+qP (gl c):=by
 obtain⟨f,n,s,t,ks,bs,al⟩:=c;unfold gl;rw[qP,eO];show _=1+(dO (ks++bs.map Bind.body)+qP (al.map fun a=>(a.vars.map aCi,[a.body])));rw[qS,xA,aEn];omega
mutual
theorem size_le:∀c:Core,eO c≤aQ c
 | .mk f n s t ks bs al=>by rw[eO,aQ];have:=aI1 ks;have:=aI2 bs;have:=aI3 al;omega
theorem aI1:∀l:List Core,dO l≤bM l
 | []=>by rw[dO];exact Al _
 | c::l=>by rw[dO,bM];have:=size_le c;have:=aI1 l;omega
theorem aI2:∀l:List Bind,mF l≤c9 l
 | []=>by rw[mF];exact Al _
 | .mk s t c::l=>by rw[mF,c9,bsize];have:=size_le c;have:=aI2 l;omega
theorem aI3:∀l:List Alt,mG l≤cK l
 | []=>by rw[mG];exact Al _
 | .mk f n s v c::l=>by rw[mG,cK,kZ];have:=size_le c;have:=aI3 l;omega
end
theorem a4f {c:Core}{g:List (List C)×List Core}(h:g∈gl c) {x:Core}(hx:x∈g.2):aQ x<aQ c:=by
 obtain⟨f,n,s,t,ks,bs,al⟩:=c;obtain⟨q,y,I,J,O,Y⟩:= @dL f n s t ks bs al;unfold gl at h;rcases Ac.1 h with rfl | h
 ·rcases ω.1 hx with hx | hx
  ·exact q x hx
  ·obtain⟨b,hb,rfl⟩:=Ah.1 hx;exact y b hb
 ·obtain⟨a,ha,rfl⟩:=Ah.1 h;rw[Ab.1 hx];exact I a ha
theorem aQe {l:List (List (List C)×List Core)}{i:Nat}{g:List (List C)×List Core}(h:l[i]?=some g):qP (l.take (i+1))=qP (l.take i)+dO g.2:=by
 have app:∀a b,qP (a++b)=qP a+qP b:=by
  intro a b
  induction a with
  | nil=>rw[A3,qP,Be]
  | cons x a q=>rw[A1,qP,qP,q,Cq]
 rw[cB h,app,qP,qP,B9]
theorem aGi {l:List Core}{i:Nat}{x:Core}(h:l[i]?=some x):dO (l.take (i+1))=dO (l.take i)+eO x:=by
 rw[cB h,qS,dO,dO,B9]
theorem aZ6 (l:List (List (List C)×List Core)) (i:Nat):qP (l.take i)≤qP l:=by
 induction l generalizing i with
 | nil=>simp
 | cons g l q=>
  cases i with
  | zero=>simp[qP]
  | succ i=>rw[Bj,qP,qP];have:=q i;omega
theorem aN0 (l:List Core) (i:Nat):dO (l.take i)≤dO l:=by
 induction l generalizing i with
 | nil=>simp
 | cons g l q=>
  cases i with
  | zero=>simp[dO]
  | succ i=>rw[Bj,dO,dO];have:=q i;omega
theorem a4e {c:Core}(h:LC c):(gl c).length≤570000000000∧∀g∈gl c,(g.2.length≤570000000000∧g.1.length≤570000000000)∧∀x∈g.2,LC x:=by
 cases h with
 | @mk f n s t ks bs al h1 h2 h3 hk hb ha=>
  have hW:(nm0 (.mk f n s t ks bs al)).length≤1:=by unfold nm0;split<;>simp
  unfold gl;refine⟨?_,fun g q=>?_⟩
  ·rw[Ai,φ];show al.length+1≤_;exact h2
  ·rcases Ac.1 q with rfl | q
   ·refine⟨?_,fun x hx=>?_⟩
    ·rw[ε,ε,φ,φ];show ks.length+bs.length≤_∧_+bs.length≤_;omega
    ·rcases ω.1 hx with hx | hx
     ·exact hk x hx
     ·obtain⟨b,I,rfl⟩:=Ah.1 hx;exact hb b I
   ·obtain⟨a,y,rfl⟩:=Ah.1 q;refine⟨⟨by show 1≤570000000000;omega,?_⟩,fun x hx=>by rw[Ab.1 hx];exact ha a y⟩;show(a.vars.map aCi).length≤_;rw[φ];exact h3 a y
def aS0 (c:Core):Prop:=LC c→eO c≤9000000000000000000→aW Tryz.prog 16 [.pa (aB c)] [] (I .i64 (eO c:Nat)) []
theorem aHo (c:Core) (ih:∀x,aQ x<aQ c→aS0 x):aS0 c:=by
 intro O Y;have q:aW Tryz.prog 50 [.one (.c (.pt (aB c)))] [] (.one (.c (.sl 2 (kW c)))) []:=by
  cases O with
  | mk h1 h2 h3=>exact aFe _ h1 h2 h3
 have Z:=aY2 c;have hin:=fun {g} (h:g∈gl c) {x} hx=> @a4f c g h x hx
 obtain⟨hgl,aa⟩:=a4e O;rw[rZ] at q;rw[Z] at Y ⊢;generalize gl c=L at q Z Y hin hgl aa ⊢;have ab:(L.map mC).length=L.length:=φ _;refine bZ (n:=30) tok Tryz.func16 rfl rfl rfl ?_;refine sg rfl (sg rfl (AWp.sub (Sub.fvar (id:=1) (l:=aB c) rfl (by simp[keys])) ?_));refine AWp.sub (st2:=mk [(1,.one (.c (.pt (aB c)))),(3,I .i64 1)] []) sl ?_;refine a8 (a8 (aE mixed (kc q ?_)));refine kz 2 rfl (aC (aK (fun i:Nat=>mk [(3,I .i64 ((1+qP (L.take i):Nat):Int)),(8,.one (.c (.sl 2 (L.map mC)))),(9,I .i64 ((L.map mC).length:Int)),(10,I .i64 i)] []) (fun i=>i≤L.length) (fun i=>L.length-i) 0 (Al _) sl ?_));intro i hi;refine sg rfl (a8 (aA rfl (fun hb=>?_) (fun hb=>?_)))
 ·have ac:=ltD hb ab;obtain⟨g,hg⟩:=aJ ac;have hg':=bT mC hg;have ad:=δ hg;obtain⟨⟨hl1,hl2⟩,ae⟩:=aa g ad;have ah:=aQe hg;have hgl1:=aZ6 L (i+1);have y:(g.2.map iZ).length=g.2.length:=φ _;obtain⟨G1,G⟩:=g;dsimp only at hl1 hl2 ae ah y;refine aD (a8 (aC (sgh [(0,.row i (mC (G1,G)))] rfl (sg rfl (aC (aK (fun j:Nat=>mk [(3,I .i64 ((1+qP (L.take i)+dO (G.take j):Nat):Int)),(8,.one (.c (.sl 2 (L.map mC)))),(9,I .i64 ((L.map mC).length:Int)),(10,I .i64 i),(15,.one (.c (.sl 1 (G.map iZ)))),(16,I .i64 ((G.map iZ).length:Int)),(17,I .i64 j)] []) (fun j=>j≤G.length) (fun j=>G.length-j) 0 (Al _) sl ?_))))));intro j hj;refine sg rfl (a8 (aA rfl (fun hb=>?_) (fun hb=>?_)))
  ·have J:=ltD hb y;obtain⟨p,hp⟩:=aJ J;have hp':=bT iZ hp;have hpc:=hin ad (δ hp);have hst:=aGi hp;have hsl2:=aN0 G (j+1);have hc:=ih p hpc (ae p (δ hp)) (by omega);have hadd:((1+qP (L.take i)+dO (G.take j):Nat):Int)+((eO p:Nat):Int)=((1+qP (L.take i)+dO (G.take (j+1)):Nat):Int):=by rw[hst];omega
   refine aD (a8 (aC (sgh [(0,.row j (iZ p))] rfl (ag [(4,.pc (I .i64 (eO p:Nat)))] rfl (ag [] rfl ⟨j+1,J,by dsimp only;omega,?_⟩)))));dsimp only;rw[←hadd];exact sl
  have hge2:=geD hb y hj;subst hge2;rw[As];refine aL (ag [] rfl ⟨i+1,ac,by dsimp only;omega,?_⟩);dsimp only;rw[show 1+qP (L.take (i+1))=1+qP (L.take i)+dO G by rw[ah];omega];exact sl
 have hge:=geD hb ab hi;subst hge;rw[As];exact aL (sg rfl (aF rtT))
theorem aRj:∀(n:Nat) (c:Core),aQ c≤n→aS0 c
 | 0,c,h=>by have:=bH c;omega
 | n+1,c,h=>aHo c fun x hx=>aRj n x (by omega)
def wK (o:List Str) (s:Str):List Str:=if s∈o then o else o++[s]
def aAv (o l:List Str):List Str:=l.foldl wK o
theorem aPm (o:List Str) {l:List Str}{i:Nat}{s:Str}(h:l[i]?=some s):aAv o (l.take (i+1))=wK (aAv o (l.take i)) s:=by
 unfold aAv;rw[cB h,Bu];rfl
theorem aJ3 (o:List Str) (s:Str):(wK o s).length≤o.length+1:=by unfold wK;split<;>simp
theorem aUs (o:List Str):∀l:List Str,(aAv o l).length≤o.length+l.length:=by
 intro l
 induction l generalizing o with
 | nil=>exact le_refl _
 | cons s l q=>
  have h1:=q (wK o s);have h2:=aJ3 o s;show(aAv (wK o s) l).length≤_;rw[Ai];omega
def ouO (o:List Str):AObj:=.arr 9 1 (o.map bA) 1
def ouV (o:List Str):V:=.one (.hs 500 0 o.length o.length)
theorem a5h (o l:List Str) (h:o.length+l.length≤600000000000):aW Tryz.prog 145 [ouV o,eE l] [(500,ouO o)] (ouV (aAv o l)) [(500,ouO (aAv o l))]:=by
 have J:(l.map bA).length=l.length:=φ _;refine bZ (n:=23) tok Tryz.func145 rfl rfl rfl ?_;refine sg rfl (a8 (sg rfl (aC (aK (fun i:Nat=>mk [(0,ouV (aAv o (l.take i))),(7,eE l),(8,I .i64 ((l.map bA).length:Int)),(9,I .i64 i)] [(500,ouO (aAv o (l.take i)))]) (fun i=>i≤l.length) (fun i=>l.length-i) 0 (Al _) sl ?_))));intro i hi;refine sg rfl (a8 (aA rfl (fun hb=>?_) (fun hb=>?_)))
 ·have y:=ltD hb J;obtain⟨s,hs⟩:=aJ y;have Z:=bT bA hs;have q:=aPm o hs;have O:=aUs o (l.take i);rw[Ap] at O;generalize aAv o (l.take i)=x at q O ⊢;have aa:=dQ x s (by omega);refine aD (a8 (aC (sgh [(0,.row i (bA s))] rfl (AWp.sub (Sub.freeze (id:=500) rfl) ?_))));refine sgh [(2,.pc (B (decide (s∈x))))] rfl (aA rfl (fun hb=>?_) (fun hb=>?_))
  ·have hin:¬s∈x:=by simpa using hb
   rw[wK,θ hin] at q;refine ag [] rfl (ag [] rfl ⟨i+1,y,by dsimp only;omega,?_⟩);dsimp only;rw[q];exact sl (he:=⟨Go.AM.hs_ren (by simp) (by simp),rfl,rfl,rfl,trivial⟩) (hh:=⟨⟨_,rfl,by first | exact Go.AM.Ole.arrE (by simp;rfl) | exact Go.AM.Ole.arrS (by simp;rfl)⟩,trivial⟩)
  ·have hin:s∈x:=by simpa using hb
   rw[wK,κ hin] at q;refine aD (ag [] rfl ⟨i+1,y,by dsimp only;omega,?_⟩);dsimp only;rw[q];exact sl
 have Y:=geD hb J hi;subst Y;rw[As];exact aL (sg rfl (aF rtT))
def aNa (p:Str×List C):List C:=[.pt (.str p.1::p.2)]
def suO (s:Str):AObj:=.var 9 [.c (.str s)]
theorem a0u (p:Str×List C) (s:Str):aW Tryz.prog 157 [.one (.c (.pt (.str p.1::p.2))),.one (.vp 9 0)] [(9,suO s)] (B (decide (p.1=s))) [(9,suO s)]:=by
 refine bZ (n:=9) tok Tryz.func157 rfl rfl rfl ?_;exact sg rfl (sg rfl (aF rtT))
theorem a5l (l:List (Str×List C)) (s:Str) (hl:l.length≤600000000000):aW Tryz.prog 175 [.one (.c (.sl 1 (l.map aNa))),.one (.clo 157 [.vp 9 0])] [(9,suO s)] (I .i64 (aXt (fun p=>decide (p.1=s)) l 0)) [(9,suO s)]:=by
 have y:(l.map aNa).length=l.length:=φ _;generalize Y:(fun p:Str×List C=>decide (p.1=s))=P;refine bZ (n:=19) tok Tryz.func175 rfl rfl rfl ?_;refine sg rfl (a8 (sg rfl (aC (aK (fun i:Nat=>mk [(0,.one (.c (.sl 1 (l.map aNa)))),(1,.one (.clo 157 [.vp 9 0])),(7,I .i64 ((l.map aNa).length:Int)),(8,I .i64 i)] [(9,suO s)]) (fun i=>i≤l.length∧aXt P l 0=aXt P (l.drop i) i) (fun i=>l.length-i) 0 ⟨Al _,rfl⟩ sl ?_))));intro i ⟨hi,hid⟩;refine sg rfl (a8 (aA rfl (fun hb=>?_) (fun hb=>?_)))
 ·have q:=ltD hb y;obtain⟨p,hp⟩:=aJ q;have Z:=bT aNa hp;have hc:aW Tryz.prog 157 ([.one (.c (.pt (.str p.1::p.2)))]++([.vp 9 0]:List R).map V.one) [(9,suO s)] (B (P p)) [(9,suO s)]:=by rw[←Y];exact a0u p s
  have J:l.drop i=p::l.drop (i+1):=by rw[Bl q,(ξ.1 hp).2]
  rw[J,aXt] at hid;refine aD (a8 (aC (sg rfl (skh 5 [(3,.row i (aNa p))] rfl (kv (args:=[.one (.c (.pt (.str p.1::p.2)))]) hc ?_)))));refine az (aA rfl (fun hb=>?_) (fun hb=>?_))
  ·have hb:P p=true:=hb;rw[κ hb] at hid;rw[hid];exact sg rfl (aF rtT)
  ·have hb:P p=false:=hb;rw[θ (by rw[hb];exact An)] at hid;exact aD (ag [] rfl ⟨i+1,⟨q,hid⟩,by dsimp only;omega,sl⟩)
 have O:=geD hb y hi;subst O;rw[Cz,aXt] at hid;rw[hid];exact aL (sg rfl (aF (rtT (v:=I .i64 (-1)) (hc:=.refl))))
theorem a5n (l:List (Str×List C)) (s:Str) (hl:l.length≤600000000000):aW Tryz.prog 156 [.one (.c (.sl 1 (l.map aNa))),.one (.clo 157 [.vp 9 0])] [(9,suO s)] (B (decide (s∈l.map (·.1)))) [(9,suO s)]:=by
 have h:=a5l l s hl;have q:decide (s∈l.map (·.1))=l.any fun p=>decide (p.1=s):=by
  rw[Bool.eq_iff_iff];simp only[A4,List.any_eq_true,Ah]
 rw[q,←aP7 _ l 0];refine bZ (n:=9) tok Tryz.func156 rfl rfl rfl ?_;refine sg rfl (sk 2 rfl (kc h ?_));exact kz 2 rfl (aF rtT)
set_option maxHeartbeats 4000000
def aYt (f:Int) (s:Str) (o:List Str) (x:Str):List Str:=if ¬f=7∨¬x=s then aAv o [x] else o
def a6j (f:Int) (s:Str) (o l:List Str):List Str:=l.foldl (aYt f s) o
mutual
def tyR:Core→List Str
 | .mk f _ s t ks bs al=>a2i al (a2h bs (a2g f s ks (aAv [] (tfR t))))
def a2g (f:Int) (s:Str):List Core→List Str→List Str
 | [],o=>o
 | c::l,o=>a2g f s l (a6j f s o (tyR c))
def a2h:List Bind→List Str→List Str
 | [],o=>o
 | .mk _ t c::l,o=>a2h l (aAv (aAv o (tfR t)) (tyR c))
def a2i:List Alt→List Str→List Str
 | [],o=>o
 | .mk _ _ _ _ c::l,o=>a2i l (aAv o (tyR c))
end
mutual
noncomputable def aGe:Ty→List (Str×Ty)→Ty
 | .mk f n s a,ps=>
  if f=2 then(match ps.find? (fun p=>decide (p.1=s)) with | some p=>p.2 | none=>.mk f n s a)
  else if f=4 then .mk 4 0 [] (o0 a ps)
  else if f=5 then .mk 5 0 (unN s (a.headD zTy) ps) (o0 a (unP s (a.headD zTy) ps))
  else .mk f n s a
noncomputable def o0:List Ty→List (Str×Ty)→List Ty
 | [],_=>[]
 | t::l,ps=>aGe t ps::o0 l ps
end
structure PsOk (ps:List (Str×Ty)):Prop where
 nd:(ps.map (·.1)).Nodup
 ok:∀p∈ps,wfS p.2=true∧fvm p.2≤700000
 len:ps.length≤700000+1
theorem aQy:∀{ps:List (Str×Ty)}{s:Str}{u:Ty},(ps.map (·.1)).Nodup→(s,u)∈ps→ps.find? (fun p=>decide (p.1=s))=some (s,u)
 | p::ps,s,u,hn,h=>by
  rw[At,Bq] at hn;rcases Ac.1 h with h | h
  ·subst h;rw[List.find?_cons_of_pos (by simp)]
  ·have:¬p.1=s:=fun e=>hn.1 (Ah.2 ⟨_,h,e.symm⟩)
   rw[List.find?_cons_of_neg (by simpa using this)];exact aQy hn.2 h
theorem aE0 {ps:List (Str×Ty)}{s:Str}(h:¬s∈ps.map (·.1)):ps.find? (fun p=>decide (p.1=s))=none:=by
 rw[List.find?_eq_none];intro p hp hb;exact h (Ah.2 ⟨p,hp,by simpa using hb⟩)
theorem lJ:∀(a b:List Str),a.Nodup→(∀x∈a,x∈b)→a.length≤b.length:=by
 intro a
 induction a with
 | nil=>intro b _ _;simp
 | cons x a I=>
  intro b hn hs;rw[Bq] at hn;have h1:=I (b.erase x) hn.2 fun y q=>(List.mem_erase_of_ne (by rintro rfl;exact hn.1 q)).2 (hs y (χ _ q))
  have hx:=hs x η;rw[length_erase_of_mem hx] at h1;have:=length_pos_of_mem hx;rw[Ai];omega
theorem aWs {nm:Str}{body:Ty}{ps:List (Str×Ty)}(h:(ps.map (·.1)).Nodup):((unF nm body ps).map (·.1)).Nodup:=List.Sublist.nodup ((List.filter_sublist (l:=ps)).map _) h
theorem tO {nm:Str}{body:Ty}{ps:List (Str×Ty)}{p:Str×Ty}:p∈unF nm body ps↔p∈ps∧¬p.1=nm∧p.1∈tfR body:=by
 unfold unF;rw[mem_filter,ζ];simp
theorem aNj {nm:Str}{body:Ty}{ps:List (Str×Ty)}(h:(ps.map (·.1)).Nodup):(unF nm body ps).length≤(tfR body).length:=by
 have:=lJ _ (tfR body) (aWs (nm:=nm) (body:=body) h) fun x hx=>by
  obtain⟨p,hp,rfl⟩:=Ah.1 hx;exact(tO.1 hp).2.2
 rwa [φ] at this
theorem zH:∀{l:List (Str×Ty)},(∀p∈l,fvm p.2≤700000)→(unC l).length≤l.length*700000
 | [],_=>by simp[unC]
 | p::l,h=>by
  have h1:=zH (l:=l) fun q y=>h q (χ _ y)
  have h2:=h p η;have h3:=aEo p.2;unfold unC at h1 ⊢;rw[flatMap_cons,ε,Ai,succ_mul];omega
theorem aZ7 {n:Int}{z:Str}:fvm (.mk 2 n z [])=1:=by
 rw[fvm,tfR,κ rfl,a4m];rfl
theorem aYp {n:Int}{z:Str}:wfS (.mk 2 n z [])=true:=by
 rw[wfS,θ (by decide),θ (by decide),aTd];rfl
theorem PsOk.un {ps:List (Str×Ty)}(h:PsOk ps) (nm:Str) (body:Ty) (hb:fvm body≤700000):PsOk (unP nm body ps):=by
 have h1:=aWs (nm:=nm) (body:=body) h.nd;have h2:=aNj (nm:=nm) (body:=body) h.nd;have h3:=aEo body;have h4:∀p∈unF nm body ps,wfS p.2=true∧fvm p.2≤700000:=fun p hp=>h.ok p (tO.1 hp).1
 unfold unP;split
 ·refine⟨?_,fun p hp=>?_,by rw[ε];show _+1≤_;omega⟩
  ·rw[A6,C0];refine⟨h1,by simp,fun x hx y q=>?_⟩;have q:y=nm:=by simpa using q
   obtain⟨p,hp,rfl⟩:=Ah.1 hx;rw[q];exact(tO.1 hp).2.1
  ·rcases ω.1 hp with hp | hp
   ·exact h4 p hp
   ·rw[Ab.1 hp];exact⟨aYp,by show fvm (.mk 2 0 _ [])≤_;rw[aZ7];decide⟩
 ·exact⟨h1,h4,by omega⟩
theorem a5a (hI:j2 540000000000):∀(k:Nat) (t:Ty),tn t≤k→wfS t=true→fvm t≤700000→∀ps,PsOk ps→wfS (aGe t ps)=true∧aW Tryz.prog 118 [tyV t,eE (ps.map (·.1)),a1s (ps.map (·.2))] [] (tyV (aGe t ps)) []:=by
 intro k
 induction k with
 | zero=>intro t h;have:=aCj t;omega
 | succ k ih=>
 intro t h hw hf ps q;obtain⟨f,n,s,a⟩:=t;have I:=aBq (tn (.mk f n s a)) (.mk f n s a) (le_refl _) hw;obtain⟨_,J,w4,w5,w0⟩:=aIc hw;have O:∀u∈a,fvm u≤700000:=fun u hu=>le_trans (aG7 hu) hf
 rw[tn] at h;rw[aGe];by_cases h2:f=2
 ·subst h2;rw[κ rfl];have y:=aRu (ps.map (·.1)) s (by rw[φ];have:=q.len;omega);rcases yF s (ps.map (·.1)) 0 with⟨i,e1,Z⟩ | ⟨e1,Z⟩
  ·rw[Aq] at Z;obtain⟨⟨s',u⟩,hu,e3⟩:=Ar.1 Z;have e3:s'=s:=e3;subst e3;have hm:=δ hu;have hu':((ps.map (·.2)).map c7)[i]?=some (c7 u):=bT c7 (by rw[Aq,hu];rfl);obtain⟨g2,g3⟩:=q.ok _ hm;have ho:=aBq (tn u) u (le_refl _) g2;rw[e1,Int.zero_add] at y;rw[aQy q.nd hm];refine⟨g2,?_⟩;dsimp only;refine bZ (n:=48) tok Tryz.func118 rfl rfl rfl ?_;refine sg rfl (a8 (sg rfl (aC (sg rfl (aA rfl (fun _=>sk 3 rfl (kc y ?_)) nofun)))));refine kz 1 rfl (sg rfl (aA rfl (fun _=>skh 4 [(2,.row i (c7 u))] rfl (kc ho ?_)) (fun hb=>absurd (π hb) (by omega))));exact kz 1 rfl (aF (rtC trw))
  ·rw[Z] at y;rw[aE0 e1];refine⟨hw,?_⟩;dsimp only;refine bZ (n:=48) tok Tryz.func118 rfl rfl rfl ?_;refine sg rfl (a8 (sg rfl (aC (sg rfl (aA rfl (fun _=>sk 3 rfl (kc y ?_)) nofun)))));refine kz 1 rfl (sg rfl (aA rfl (fun hb=>absurd (ψ hb) (by omega)) (fun _=>aD (sk 1 rfl (kc I ?_)))));exact kz 1 rfl (aF (rtC trw))
 rw[θ h2];by_cases h4:f=4
 ·subst h4;obtain⟨rfl,rfl,u,v,rfl⟩:=w4 rfl;rw[tns,tns,tns] at h;obtain⟨a1,a4⟩:=ih u (by omega) (J u (by simp)) (O u (by simp)) ps q;obtain⟨b1,b4⟩:=ih v (by omega) (J v (by simp)) (O v (by simp)) ps q;rw[κ rfl,o0,o0,o0];have cA:=aVx (aGe u ps) (aGe v ps);generalize aGe u ps=u' at *;generalize aGe v ps=v' at *;have cA:aW Tryz.prog 148 [tyV u',tyV v'] [] (tyV (.mk 4 0 [] [u',v'])) []:=cA;refine⟨?_,?_⟩
  ·rw[wfS,κ rfl,aTd,aTd,aTd,a1,b1];rfl
  ·refine bZ (n:=48) tok Tryz.func118 rfl rfl rfl ?_;refine sg rfl (a8 (sg rfl (aC (sg rfl (aA rfl nofun (fun _=>sg rfl (aA rfl (fun _=>skh 6 [(2,.row 0 (c7 u))] rfl (kc a4 ?_)) nofun)))))));refine ak 6 [(9,.row 1 (c7 v))] rfl (kc b4 ?_);refine kc cA ?_;exact kz 1 rfl (aF (rtC trw))
 rw[θ h4];by_cases h5:f=5
 ·subst h5;obtain⟨rfl,body,rfl⟩:=w5 rfl;rw[tns,tns] at h;have aa:=J body (by simp);have Y:=O body (by simp);have hP:=q.un s body Y;obtain⟨a1,a4⟩:=ih body (by omega) aa Y (unP s body ps) hP;rw[κ rfl];show wfS (.mk 5 0 (unN s body ps) (o0 [body] (unP s body ps)))=true∧aW Tryz.prog _ _ _ (tyV (.mk 5 0 (unN s body ps) (o0 [body] (unP s body ps)))) _;rw[o0,o0];have hall:=a0n (unN s body ps) (aGe body (unP s body ps)) (aBq _ _ (le_refl _) a1);have hfl:=aEo body;have ab:∀l:List (Str×Ty),(∀p∈l,p∈ps)→l.length≤ps.length→(unC (unF s body l)).length≤540000000000:=fun l h1 h2=>by
   have h3:=zH (l:=unF s body l) fun p hp=>(q.ok p (h1 p (tO.1 hp).1)).2
   have h4:(unF s body l).length≤l.length:=List.length_filter_le _ _;have h5:=q.len;have h6:(unF s body l).length*700000≤(700000+1)*700000:=A0 _ (by omega);have h7:(700000+1)*700000≤540000000000:=by decide
   omega
  have hC1:=ab ps (fun p hp=>hp) (le_refl _);have hU:(unC (unF s body ps)).length+(tfR body).length≤540000000000:=by
   have h3:=zH (l:=unF s body ps) fun p hp=>(q.ok p (tO.1 hp).1).2
   have h4:=aNj (nm:=s) (body:=body) q.nd;have h6:(unF s body ps).length*700000≤700000*700000:=A0 _ (by omega);have h7:700000*700000=490000000000:=by decide
   omega
  have cU:=aVv s body (aGe body (unP s body ps)) ps (by have:=q.len;omega) (aBs _ body (le_refl _) aa (le_trans Y (by decide))) (by omega) hall
   (fun p hp=>⟨aBs _ p.2 (le_refl _) (q.ok p hp).1 (le_trans (q.ok p hp).2 (by decide)),le_trans (aEo p.2) (le_trans (q.ok p hp).2 (by decide))⟩)
   ⟨hC1,fun i=>ab (ps.take i) (fun p hp=>Bz hp) (by rw[Ap];omega)⟩ (fun k hk=>hI k (by omega)) a4
  generalize aGe body (unP s body ps)=b' at *;generalize unN s body ps=N at *;refine⟨?_,?_⟩
  ·rw[wfS,θ (by decide),κ rfl,aTd,aTd,a1];rfl
  ·refine bZ (n:=48) tok Tryz.func118 rfl rfl rfl ?_;refine sg rfl (a8 (sg rfl (aC (sg rfl (aA rfl nofun (fun _=>sg rfl (aA rfl nofun (fun _=>sg rfl (aA rfl (fun _=>sk 3 rfl (kc cU ?_)) nofun)))))))));exact kz 1 rfl (aF (rtC trw))
 rw[θ h5];refine⟨hw,?_⟩;refine bZ (n:=48) tok Tryz.func118 rfl rfl rfl ?_;refine sg rfl (a8 (sg rfl (aC (sg rfl (aA rfl (fun hb=>absurd (ψ hb) h2) (fun _=>sg rfl (aA rfl (fun hb=>absurd (ψ hb) h4) (fun _=>sg rfl (aA rfl (fun hb=>absurd (ψ hb) h5) (fun _=>aD (sk 1 rfl (kc I ?_))))))))))));exact kz 1 rfl (aF (rtC trw))
theorem aTn {nm:Str}{body:Ty}{ps:List (Str×Ty)}(h:∀p∈ps,p.1∈tfR body→p.1=nm):unN nm body ps=nm∧unP nm body ps=[]:=by
 have q:unF nm body ps=[]:=by
  unfold unF;rw[List.filter_eq_nil_iff];intro p hp hb;rw[ζ] at hb;have h1:¬p.1=nm:=by simpa using hb.1
  exact h1 (h p hp (ψ hb.2))
 have y:unC (unF nm body ps)=[]:=by rw[q];rfl
 exact⟨by unfold unN;rw[y,θ (by simp)],by unfold unP;rw[y,θ (by simp),q]⟩
theorem aYu:∀(k:Nat) (t:Ty),tn t≤k→wfS t=true→∀ps:List (Str×Ty),(∀p∈ps,¬p.1∈tfR t)→aGe t ps=t:=by
 intro k
 induction k with
 | zero=>intro t h;have:=aCj t;omega
 | succ k I=>
 intro t h hw ps hp;obtain⟨f,n,s,a⟩:=t;obtain⟨_,y,O,Y,w0⟩:=aIc hw;rw[tn] at h;rw[aGe];by_cases h2:f=2
 ·subst h2
  rw[κ rfl,aE0 fun hs=>by
   obtain⟨p,q,e⟩:=Ah.1 hs
   exact hp p q (by rw[tfR,κ rfl,e];simp)]
 rw[θ h2];by_cases h4:f=4
 ·subst h4;obtain⟨rfl,rfl,u,v,rfl⟩:=O rfl;rw[tns,tns,tns] at h;rw[κ rfl,o0,o0,o0,I u (by omega) (y u (by simp)) ps fun p q hx=>hp p q (aYz hx),I v (by omega) (y v (by simp)) ps fun p q hx=>hp p q (aYy hx)]
 rw[θ h4];by_cases h5:f=5
 ·subst h5;obtain⟨rfl,body,rfl⟩:=Y rfl;rw[tns,tns] at h;obtain⟨Z,e2⟩:=aTn (nm:=s) (body:=body) (ps:=ps) fun p q hx=>Classical.byContradiction fun J=>hp p q (a2n hx J)
  rw[κ rfl];show Ty.mk 5 0 (unN s body ps) (o0 [body] (unP s body ps))=_;rw[Z,e2,o0,o0,I body (by omega) (y body (by simp)) [] fun p q=>by cases q]
 rw[θ h5]
theorem a47 (q:j2 540000000000) (t:Ty) (hw:wfS t=true) (y:fvm t≤700000):aW Tryz.prog 124 [tyV t] [] (tyV t) []:=by
 have h4:=(a5a q (tn t) t (le_refl _) hw y [] ⟨by simp,fun p hp=>(by cases hp),by simp⟩).2
 rw[aYu (tn t) t (le_refl _) hw [] fun p hp=>by cases hp] at h4;refine bZ (n:=5) tok Tryz.func124 rfl rfl rfl ?_;refine sg rfl (sk 1 rfl (kc h4 ?_));exact kz 1 rfl (aF (rtC trw))
theorem aIx {f:Int}{s:Str}:∀{l:List Ty}{o:List Str}{y:Str},y∈o→y∈aCd f s l o
 | [],o,y,h=>by rw[aCd];exact h
 | t::l,o,y,h=>by rw[aCd];exact aIx (sN h)
theorem aIy {f:Int}{s:Str}:∀{l:List Ty}{o:List Str}{u:Ty}{y:Str},u∈l→y∈tfR u→(¬f=5∨¬y=s)→y∈aCd f s l o
 | t::l,o,u,y,h,q,hs=>by
  rw[aCd];rcases Ac.1 h with rfl | h
  ·exact aIx (oW q hs)
  ·exact aIy h q hs
theorem a2m {f n:Int}{s:Str}{a:List Ty}{u:Ty}{y:Str}(h2:¬f=2) (hu:u∈a) (q:y∈tfR u) (hs:¬f=5∨¬y=s):y∈tfR (.mk f n s a):=by
 rw[tfR,θ h2];exact aIy hu q hs
theorem r8 (l:List Str):¬bE l∈l:=r9 l
structure Alg where
 z:Nat
 j:Nat→Nat→Nat
 u:Str→Nat→Nat
 b:Str→Nat→Nat
 jm:∀{x x' y y':Nat},x≤x'→y≤y'→j x y≤j x' y'
 um:∀{s:Str} {x x':Nat},x≤x'→u s x≤u s x'
 bm:∀{s:Str} {x x':Nat},x≤x'→b s x≤b s x'
 ul:∀{s s':Str} {x:Nat},s.length≤30→u s x≤u s' x
def a6m (ρ:Str→Nat) (s:Str) (v:Nat):Str→Nat:=fun x=>if x=s then v else ρ x
mutual
def tW (A:Alg):Ty→(Str→Nat)→Nat
 | .mk f _ s a,ρ=>if f=2 then ρ s else if f=5 then A.u s (tWs A a (a6m ρ s A.z)) else A.b s (tWs A a ρ)
def tWs (A:Alg):List Ty→(Str→Nat)→Nat
 | [],_=>0
 | t::l,ρ=>A.j (tW A t ρ) (tWs A l ρ)
end
theorem tU {A:Alg}:∀{l:List Ty}{ρ ρ':Str→Nat},(∀u∈l,tW A u ρ=tW A u ρ')→tWs A l ρ=tWs A l ρ'
 | [],_,_,_=>by rw[tWs,tWs]
 | t::l,ρ,ρ',h=>by rw[tWs,tWs,h t η,tU fun u hu=>h u (χ _ hu)]
theorem zK {A:Alg}:∀(k:Nat) (t:Ty),tn t≤k→∀{ρ ρ':Str→Nat},(∀x∈tfR t,ρ x=ρ' x)→tW A t ρ=tW A t ρ'
 | 0,t,h,_,_,_=>by have:=aCj t;omega
 | k+1,.mk f n s a,h,ρ,ρ',hx=>by
  rw[tn] at h;rw[tW,tW];by_cases h2:f=2
  ·rw[κ h2,κ h2];exact hx s (by rw[tfR,κ h2];simp)
  rw[θ h2,θ h2];by_cases h5:f=5
  ·rw[κ h5,κ h5,tU fun u hu=>zK k u (by have:=tQ hu;omega) fun x q=>?_];unfold a6m;by_cases e:x=s
   ·rw[κ e,κ e]
   ·rw[θ e,θ e];exact hx x (a2m h2 hu q (.inr e))
  ·rw[θ h5,θ h5,tU fun u hu=>zK k u (by have:=tQ hu;omega) fun x q=>hx x (a2m h2 hu q (.inl h5))]
theorem aQr (l:List Str) (h:l.length≤540000000000):(bE l).length≤30:=le_trans (kU l h) (by decide)
def a78:Alg:=⟨0,max,fun _ x=>1+x,fun _ x=>x,fun h1 h2=>by omega,fun h=>by omega,fun h=>h,fun _=>le_refl _⟩
def r0:Str→Nat:=fun _=>0
def gm (c:Core):List (List (Str×List C)×List Core):=
 ((if c.form=5 then [(c.name,(aB c).drop 3)] else [])++c.binds.map (fun b=>(b.name,(aS b).drop 1)),c.kids++c.binds.map Bind.body)::c.alts.map fun a=>(a.vars.map (fun v=>(v,[])),[a.body])
def gmG (g:List (Str×List C)×List Core):List (List C)×List Core:=(g.1.map aNa,g.2)
theorem aVc (c:Core):gl c=(gm c).map gmG:=by
 obtain⟨f,n,s,t,ks,bs,al⟩:=c;unfold gl gm;rw[At,Bn];congr 1
 ·unfold gmG;rw[A6,Bn];congr 2;unfold nm0;split<;>rfl
 ·congr 1;funext a;unfold gmG;simp only[Function.comp,Bn];rfl
def pfG (G:List Str) (o:List Str) (s:Str):List Str:=if s∈G then o else wK o s
def pfP (G:List Str) (o l:List Str):List Str:=l.foldl (pfG G) o
def gvN (f:Int) (s:Str) (bs:List Bind):List Str:=(if f=5 then [s] else [])++bs.map Bind.name
mutual
def pfR:Core→List Str
 | .mk f _ s _ ks bs al=>if f=1 then [s] else aAk al (xO (gvN f s bs) bs (wI (gvN f s bs) ks []))
def wI (G:List Str):List Core→List Str→List Str
 | [],o=>o
 | c::l,o=>wI G l (pfP G o (pfR c))
def xO (G:List Str):List Bind→List Str→List Str
 | [],o=>o
 | .mk _ _ c::l,o=>xO G l (pfP G o (pfR c))
def aAk:List Alt→List Str→List Str
 | [],o=>o
 | .mk _ _ _ v c::l,o=>aAk l (pfP v o (pfR c))
end
def pfL (G:List Str) (l:List Core) (o:List Str):List Str:=l.foldl (fun o c=>pfP G o (pfR c)) o
def pfM (L:List (List (Str×List C)×List Core)) (o:List Str):List Str:=L.foldl (fun o g=>pfL (g.1.map (·.1)) g.2 o) o
theorem aO0 (G:List Str):∀(l:List Core) (o:List Str),wI G l o=pfL G l o
 | [],o=>by rw[wI];rfl
 | c::l,o=>by rw[wI,aO0 G l];rfl
theorem aO1 (G:List Str):∀(l:List Bind) (o:List Str),xO G l o=pfL G (l.map Bind.body) o
 | [],o=>by rw[xO];rfl
 | .mk s t c::l,o=>by rw[xO,aO1 G l];rfl
theorem aO2:∀(l:List Alt) (o:List Str),aAk l o=pfM (l.map fun a=>(a.vars.map (fun v=>(v,[])),[a.body])) o
 | [],o=>by rw[aAk];rfl
 | .mk f n s v c::l,o=>by
  rw[aAk,aO2 l];have:(v.map (fun v=>((v,[]):Str×List C))).map (·.1)=v:=by rw[Bn];exact List.map_id _
  show _=pfM _ (pfL ((v.map (fun v=>((v,[]):Str×List C))).map (·.1)) [c] o);rw[this];rfl
theorem a7p (c:Core) (h:¬c.form=1):pfR c=pfM (gm c) []:=by
 obtain⟨f,n,s,t,ks,bs,al⟩:=c;have h:¬f=1:=h;rw[pfR,θ h,aO2,aO1,aO0];unfold gm;show _=pfM _ (pfL _ _ []);congr 1;unfold pfL;rw[Bu];have:gvN f s bs=(((if f=5 then [((s,(aB (.mk f n s t ks bs al)).drop 3):Str×List C)] else [])++bs.map (fun b=>(b.name,(aS b).drop 1))).map (·.1)):=by
  unfold gvN;rw[A6,Bn];congr 1;split<;>rfl
 rw[this];rfl
theorem aZr (G o:List Str) (s:Str):(pfG G o s).length≤o.length+1:=by
 unfold pfG;split
 ·omega
 ·exact aJ3 o s
theorem aGu (G o:List Str):∀l:List Str,(pfP G o l).length≤o.length+l.length:=by
 intro l
 induction l generalizing o with
 | nil=>exact le_refl _
 | cons s l q=>
  have h1:=q (pfG G o s);have h2:=aZr G o s;show(pfP G (pfG G o s) l).length≤_;rw[Ai];omega
mutual
theorem aMc:∀c:Core,(pfR c).length≤aQ c
 | .mk f n s t ks bs al=>by
  rw[pfR,aQ];split
  ·simp;omega
  ·have h1:=aXf (gvN f s bs) ks [];have h2:=aXg (gvN f s bs) bs (wI (gvN f s bs) ks []);have h3:=aXh al (xO (gvN f s bs) bs (wI (gvN f s bs) ks []));simp only[length_nil] at h1;omega
theorem aXf (G:List Str):∀(l:List Core) (o:List Str),(wI G l o).length≤o.length+bM l
 | [],o=>by rw[wI];omega
 | c::l,o=>by
  rw[wI,bM];have h1:=aXf G l (pfP G o (pfR c));have h2:=aGu G o (pfR c);have h3:=aMc c;omega
theorem aXg (G:List Str):∀(l:List Bind) (o:List Str),(xO G l o).length≤o.length+c9 l
 | [],o=>by rw[xO];omega
 | .mk s t c::l,o=>by
  rw[xO,c9,bsize];have h1:=aXg G l (pfP G o (pfR c));have h2:=aGu G o (pfR c);have h3:=aMc c;omega
theorem aXh:∀(l:List Alt) (o:List Str),(aAk l o).length≤o.length+cK l
 | [],o=>by rw[aAk];omega
 | .mk f n s v c::l,o=>by
  rw[aAk,cK,kZ];have h1:=aXh l (pfP v o (pfR c));have h2:=aGu v o (pfR c);have h3:=aMc c;omega
end
theorem aUm (G o:List Str) {l:List Str}{i:Nat}{s:Str}(h:l[i]?=some s):pfP G o (l.take (i+1))=pfG G (pfP G o (l.take i)) s:=by
 unfold pfP;rw[cB h,Bu];rfl
theorem aUo (G o:List Str) {l:List Core}{i:Nat}{c:Core}(h:l[i]?=some c):pfL G (l.take (i+1)) o=pfP G (pfL G (l.take i) o) (pfR c):=by
 unfold pfL;rw[cB h,Bu];rfl
theorem aUn (o:List Str) {l:List (List (Str×List C)×List Core)}{i:Nat}{g:List (Str×List C)×List Core}(h:l[i]?=some g):pfM (l.take (i+1)) o=pfL (g.1.map (·.1)) g.2 (pfM (l.take i) o):=by
 unfold pfM;rw[cB h,Bu];rfl
inductive NFr:Core→Prop
 | mk {f n:Int} {s:Str} {t:Ty} {ks:List Core} {bs:List Bind} {al:List Alt} (h:(pfR (.mk f n s t ks bs al)).length≤570000000000)
   (hk:∀x∈ks,NFr x) (hb:∀x∈bs,NFr x.body) (ha:∀x∈al,NFr x.body):NFr (.mk f n s t ks bs al)
theorem NFr.len {c:Core}(h:NFr c):(pfR c).length≤570000000000:=by cases h;assumption
theorem a74 {c:Core}(h:NFr c):∀g∈gm c,∀x∈g.2,NFr x:=by
 cases h with
 | @mk f n s t ks bs al h hk hb ha=>
  intro g q x hx;rcases Ac.1 q with rfl | q
  ·rcases ω.1 hx with hx | hx
   ·exact hk x hx
   ·obtain⟨b,y,rfl⟩:=Ah.1 hx;exact hb b y
  ·obtain⟨a,I,rfl⟩:=Ah.1 q;rw[Ab.1 hx];exact ha a I
theorem aZv (o:List Str) (s:Str):o.length≤(wK o s).length:=by unfold wK;split<;>simp
theorem a3u (G o:List Str) (s:Str):o.length≤(pfG G o s).length:=by
 unfold pfG;split
 ·exact le_refl _
 ·exact aZv o s
theorem aOx (G:List Str):∀(l o:List Str),o.length≤(pfP G o l).length
 | [],_=>le_refl _
 | s::l,o=>le_trans (a3u G o s) (aOx G l (pfG G o s))
theorem aOy (G:List Str):∀(l:List Core) (o:List Str),o.length≤(pfL G l o).length
 | [],_=>le_refl _
 | c::l,o=>le_trans (aOx G (pfR c) o) (aOy G l (pfP G o (pfR c)))
theorem aXj:∀(L:List (List (Str×List C)×List Core)) (o:List Str),o.length≤(pfM L o).length
 | [],_=>le_refl _
 | g::L,o=>le_trans (aOy _ g.2 o) (aXj L (pfL (g.1.map (·.1)) g.2 o))
theorem aZo (G o l:List Str) (k:Nat):(pfP G o (l.take k)).length≤(pfP G o l).length:=by
 have e:pfP G o l=pfP G (pfP G o (l.take k)) (l.drop k):=by
  unfold pfP;rw[←Bu,Cs]
 rw[e];exact aOx _ _ _
theorem aZq (G:List Str) (l:List Core) (o:List Str) (k:Nat):(pfL G (l.take k) o).length≤(pfL G l o).length:=by
 have e:pfL G l o=pfL G (l.drop k) (pfL G (l.take k) o):=by
  unfold pfL;rw[←Bu,Cs]
 rw[e];exact aOy _ _ _
theorem aZp (L:List (List (Str×List C)×List Core)) (o:List Str) (k:Nat):(pfM (L.take k) o).length≤(pfM L o).length:=by
 have e:pfM L o=pfM (L.drop k) (pfM (L.take k) o):=by
  unfold pfM;rw[←Bu,Cs]
 rw[e];exact aXj _ _
def aLi (c:Core):Prop:=LC c→NFr c→aW Tryz.prog 136 [.pa (aB c)] [] (eE (pfR c)) []
theorem qG (c:Core) (ih:∀x,aQ x<aQ c→aLi x) (hlc:LC c) (hfl:NFr c):aW Tryz.prog 136 [.pa (aB c)] [] (ouV (pfR c)) [(500,ouO (pfR c))]:=by
 by_cases h1:c.form=1
 ·obtain⟨f,n,s,t,ks,bs,al⟩:=c;have h1:f=1:=h1;subst h1;rw[pfR,κ rfl];refine bZ (n:=51) tok Tryz.func136 rfl rfl rfl ?_;exact sg rfl (a8 (sg rfl (aA rfl (fun _=>sgh [(2,.id 500)] rfl (aF rtT)) nofun)))
 have ac:aW Tryz.prog 50 [.one (.c (.pt (aB c)))] [] (.one (.c (.sl 2 (kW c)))) []:=by
  cases hlc with
  | mk a1 a2 a3=>exact aFe _ a1 a2 a3
 have ad:=a7p c h1;have hin:∀g∈gm c,∀x∈g.2,aQ x<aQ c:=fun g O x hx=>a4f (g:=gmG g) (by rw[aVc];exact Ah.2 ⟨g,O,rfl⟩) hx
 obtain⟨hgl,hgm⟩:=a4e hlc;rw[aVc,φ] at hgl;have ae:∀g∈gm c,(g.2.length≤570000000000∧g.1.length≤570000000000)∧∀x∈g.2,LC x:=fun g O=>by
  have:=hgm (gmG g) (by rw[aVc];exact Ah.2 ⟨g,O,rfl⟩);unfold gmG at this;rw[φ] at this;exact this
 have hgF:=a74 hfl;have hgc:(pfM (gm c) []).length≤570000000000:=by rw[←ad];exact hfl.len
 rw[rZ,aVc,Bn] at ac;rw[ad];clear ad hgm;generalize gm c=L at ac hin hgl ae hgc hgF ⊢;have hkL:(L.map (mC∘gmG)).length=L.length:=φ _;refine bZ (n:=51) tok Tryz.func136 rfl rfl rfl ?_;refine sg rfl (a8 (sg rfl (aA rfl (fun hb=>absurd (ψ hb) h1) (fun _=>aD (sg rfl (AWp.sub (Sub.fvar (id:=1) (l:=aB c) rfl (by simp[keys])) ?_))))));refine AWp.sub (st2:=mk [(1,.one (.c (.pt (aB c)))),(3,.one (.c .nl))] []) sl ?_;refine AWp.sub (Sub.own (t:=3) (id:=500) 9 1 rfl rfl) ?_;refine a8 (a8 (aE mixed (kc ac ?_)));refine kz 2 rfl (aC (aK (fun i:Nat=>mk [(3,ouV (pfM (L.take i) [])),(16,.one (.c (.sl 2 (L.map (mC∘gmG))))),(17,I .i64 ((L.map (mC∘gmG)).length:Int)),(18,I .i64 i)] [(500,ouO (pfM (L.take i) []))]) (fun i=>i≤L.length) (fun i=>L.length-i) 0 (Al _) sl ?_));intro i hi;refine sg rfl (a8 (aA rfl (fun hb=>?_) (fun hb=>?_)))
 ·have hlt:=ltD hb hkL;obtain⟨g,O⟩:=aJ hlt;have hg':=bT (mC∘gmG) O;have ah:=δ O;obtain⟨⟨hl1,hl2⟩,hl3⟩:=ae g ah;have J:=aUn [] O;have hml:=aZp L [] (i+1);have ai:=hin g ah;have Y:=hgF g ah;have aj:(g.2.map iZ).length=g.2.length:=φ _;obtain⟨G1,G⟩:=g;have hg':(L.map (mC∘gmG))[i]?=some [.sl 1 (G1.map aNa),.sl 1 (G.map iZ)]:=hg';dsimp only at hl1 hl2 hl3 J aj ai Y;generalize hG0:G1.map (·.1)=G0 at J;rw[J] at hml;generalize pfM (L.take i) []=x0 at J hml ⊢;refine aD (a8 (aC (sgh [(0,.row i [.sl 1 (G1.map aNa),.sl 1 (G.map iZ)])] rfl (sg rfl (aC (aK (fun j:Nat=>mk [(3,ouV (pfL G0 (G.take j) x0)),(5,.one (.vp 5 0)),(16,.one (.c (.sl 2 (L.map (mC∘gmG))))),(17,I .i64 ((L.map (mC∘gmG)).length:Int)),(18,I .i64 i),(23,.one (.c (.sl 1 (G.map iZ)))),(24,I .i64 ((G.map iZ).length:Int)),(25,I .i64 j)] [(5,.var 109 [.c (.sl 1 (G1.map aNa)),.c (.sl 1 (G.map iZ))]),(500,ouO (pfL G0 (G.take j) x0))]) (fun j=>j≤G.length) (fun j=>G.length-j) 0 (Al _) sl ?_))))));intro j hj;refine sg rfl (a8 (aA rfl (fun hb=>?_) (fun hb=>?_)))
  ·have hlt2:=ltD hb aj;obtain⟨p,hp⟩:=aJ hlt2;have hp':=bT iZ hp;have ab:=δ hp;have hpc:=ai p ab;have hc:=ih p hpc (hl3 p ab) (Y p ab);have y:=aUo G0 x0 hp;have Z:=aZq G0 G x0 (j+1);have hple:=(Y p ab).len;rw[y] at Z;generalize pfL G0 (G.take j) x0=x1 at y Z ⊢;generalize pfR p=F at hc y hple Z;have hkF:(F.map bA).length=F.length:=φ _;refine aD (a8 (aC (sgh [(0,.row j (iZ p))] rfl (sgh [(3,.pc (eE F))] rfl (aC (aK (fun k:Nat=>mk [(3,ouV (pfP G0 x1 (F.take k))),(5,.one (.vp 5 0)),(16,.one (.c (.sl 2 (L.map (mC∘gmG))))),(17,I .i64 ((L.map (mC∘gmG)).length:Int)),(18,I .i64 i),(23,.one (.c (.sl 1 (G.map iZ)))),(24,I .i64 ((G.map iZ).length:Int)),(25,I .i64 j),(32,eE F),(33,I .i64 ((F.map bA).length:Int)),(34,I .i64 k)] [(5,.var 109 [.c (.sl 1 (G1.map aNa)),.c (.sl 1 (G.map iZ))]),(500,ouO (pfP G0 x1 (F.take k)))]) (fun k=>k≤F.length) (fun k=>F.length-k) 0 (Al _) sl ?_))))));intro k hk;refine sg rfl (a8 (aA rfl (fun hb=>?_) (fun hb=>?_)))
   ·have aa:=ltD hb hkF;obtain⟨s,hs⟩:=aJ aa;have hs':=bT bA hs;have q:=aUm G0 x1 hs;have hml3:=aZo G0 x1 F k;generalize pfP G0 x1 (F.take k)=x2 at q hml3 ⊢;have hcp:=a5n G1 s (by omega);rw[hG0] at hcp;have hmo:=a5h x2 [s] (by simp;omega);rw[show aAv x2 [s]=wK x2 s from rfl] at hmo;refine aD (a8 (aC (sgh [(0,.row k (bA s))] rfl (sk 3 rfl (kc hcp ?_)))));refine kz 1 rfl (aA rfl (fun hb=>?_) (fun hb=>?_))
    ·have hni:¬s∈G0:=by simpa using hb
     rw[pfG,θ hni] at q;refine aE mixed (ak 3 [(2,.all)] rfl (kc hmo ?_));refine kz 1 rfl (ag [] rfl ⟨k+1,aa,by dsimp only;omega,?_⟩);dsimp only;rw[q];exact sl
    ·have hni:s∈G0:=by simpa using hb
     rw[pfG,κ hni] at q;refine aD (ag [] rfl ⟨k+1,aa,by dsimp only;omega,?_⟩);dsimp only;rw[q];exact sl
   have hge3:=geD hb hkF hk;subst hge3;rw[As,←y];exact aL (ag [] rfl ⟨j+1,hlt2,by dsimp only;omega,sl⟩)
  have hge2:=geD hb aj hj;subst hge2;rw[As,←J];exact aL (ag [] rfl ⟨i+1,hlt,by dsimp only;omega,sl⟩)
 have hge:=geD hb hkL hi;subst hge;rw[As];exact aL (sg rfl (aF rtT))
theorem aFa (c:Core) (I:∀x,aQ x<aQ c→aLi x):aLi c:=fun q y=>(qG c I q y).plain (φ _).symm
theorem aBt:∀(n:Nat) (c:Core),aQ c≤n→aLi c
 | 0,c,h=>by have:=bH c;omega
 | n+1,c,h=>aFa c fun x hx=>aBt n x (by omega)
def vC (z:Str):Core:=.mk 1 0 z zTy [] [] []
section
variable (sb:Core→Str→Core→Core)
noncomputable def eV (far:List Str) (st:List Str×List Core×List Str) (n:Str):List Str×List Core×List Str:=
 if n∈far then(st.1++[bE st.2.2],st.2.1.map (fun p=>sb p n (vC (bE st.2.2))),st.2.2++[bE st.2.2]) else(st.1++[n],st.2.1,st.2.2)
noncomputable def jX (far:List Str) (ns:List Str) (st:List Str×List Core×List Str):List Str×List Core×List Str:=ns.foldl (eV sb far) st
def a3p (s:Str) (ns:List Str) (ps:List Core):Prop:=s∈ps.flatMap pfR∧¬s∈ns
open Classical in
noncomputable def dV (s:Str) (b:Core) (ns:List Str) (ps:List Core):List Str×List Core:=
 if a3p s ns ps then
  ((jX sb (pfR b) ns ([],ps,ps.flatMap pfR++ns++pfR b)).1,(jX sb (pfR b) ns ([],ps,ps.flatMap pfR++ns++pfR b)).2.1.map (fun p=>sb p s b))
 else(ns,ps)
end
def mkB:List Ty→List Str→List Core→List Bind
 | t::ts,n::ns,p::ps=>.mk n t p::mkB ts ns ps
 | _,_,_=>[]
section
variable {sb:Core→Str→Core→Core}
theorem pS {far:List Str}{st:List Str×List Core×List Str}{n:Str}:(eV sb far st n).1.length=st.1.length+1∧(eV sb far st n).2.1.length=st.2.1.length∧(eV sb far st n).2.2.length≤st.2.2.length+1:=by
 unfold eV;split<;>simp
theorem aA9 {far:List Str}:∀{ns:List Str}{st:List Str×List Core×List Str},(jX sb far ns st).1.length=st.1.length+ns.length∧(jX sb far ns st).2.1.length=st.2.1.length∧(jX sb far ns st).2.2.length≤st.2.2.length+ns.length
 | [],st=>by simp[jX]
 | n::ns,st=>by
  have h:=aA9 (far:=far) (ns:=ns) (st:=eV sb far st n);obtain⟨g1,g2,g3⟩:=pS (sb:=sb) (far:=far) (st:=st) (n:=n);unfold jX at h ⊢;rw[Cm,Ai];omega
theorem aQn {far ns:List Str}{st:List Str×List Core×List Str}{i:Nat}{n:Str}(h:ns[i]?=some n):jX sb far (ns.take (i+1)) st=eV sb far (jX sb far (ns.take i) st) n:=by
 unfold jX;rw[Bt,h,Bu];rfl
theorem sQ {s:Str}{b:Core}{ns:List Str}{ps:List Core}:(dV sb s b ns ps).1.length=ns.length∧(dV sb s b ns ps).2.length=ps.length:=by
 unfold dV;split
 ·obtain⟨h1,h2,_⟩:=aA9 (sb:=sb) (far:=pfR b) (ns:=ns) (st:=([],ps,ps.flatMap pfR++ns++pfR b));exact⟨by simpa using h1,by simpa using h2⟩
 ·exact⟨rfl,rfl⟩
end
def aMf (sb:Core→Core) (ps:List Core) (j:Nat):List Core:=(ps.take j).map sb++ps.drop j
theorem aUv {sb:Core→Core}{ps:List Core}{j:Nat}:(aMf sb ps j).length=ps.length:=by unfold aMf;simp;omega
theorem aZy {sb:Core→Core}{ps:List Core}{j:Nat}{p:Core}(h:ps[j]?=some p):(aMf sb ps j)[j]?=some p:=by
 have q:j<ps.length:=(ξ.1 h).1
 unfold aMf;rw[Ao (by simp;omega),φ,Ap,Ci (by omega),C7,Am,B9,h]
theorem aPp {sb:Core→Core}{ps:List Core}{j:Nat}{p:Core}(h:ps[j]?=some p):aMf sb ps (j+1)=(aMf sb ps j).set j (sb p):=by
 have q:j<ps.length:=(ξ.1 h).1
 unfold aMf;rw[vO h,zT (by simp;omega),Bt,h];simp
theorem aPo {sb:Core→Core}{ps:List Core}:aMf sb ps 0=ps:=by simp[aMf]
theorem aUw {sb:Core→Core}{ps:List Core}:aMf sb ps ps.length=ps.map sb:=by simp[aMf]
theorem aE3 (l:List Core) (j:Nat) (x:Core):(aT l).set j (aB x)=aT (l.set j x):=by
 rw[b7,b7,map_set]
theorem xY:∀{ts:List Ty}{ns:List Str}{ps:List Core}{j:Nat}{t:Ty}{n:Str}{p:Core},ts[j]?=some t→ns[j]?=some n→ps[j]?=some p→(mkB ts ns ps)[j]?=some (.mk n t p)
 | t'::ts,n'::ns,q::ps,0,t,n,p,h1,h2,h3=>by
  simp at h1 h2 h3;subst h1 h2 h3;rfl
 | t'::ts,n'::ns,q::ps,j+1,t,n,p,h1,h2,h3=>by
  simp only[Bh] at h1 h2 h3;simp only[mkB,Bh];exact xY h1 h2 h3
theorem uQ:∀{ts:List Ty}{ns:List Str}{ps:List Core},ns.length=ts.length→ps.length=ts.length→(mkB ts ns ps).length=ts.length
 | [],_,_,_,_=>by unfold mkB;rfl
 | t::ts,n::ns,p::ps,h1,h2=>by
  simp only[Ai] at h1 h2;simp only[mkB,Ai,uQ (ts:=ts) (ns:=ns) (ps:=ps) (by omega) (by omega)]
theorem aJ6:∀{ts:List Ty}{ns:List Str}{ps:List Core}{j:Nat}{t:Ty}{n:Str}(x:Core),ts[j]?=some t→ns[j]?=some n→j<ps.length→(mkB ts ns ps).set j (.mk n t x)=mkB ts ns (ps.set j x)
 | t'::ts,n'::ns,q::ps,0,t,n,x,h1,h2,_=>by
  simp at h1 h2;subst h1 h2;rfl
 | t'::ts,n'::ns,q::ps,j+1,t,n,x,h1,h2,h3=>by
  simp only[Bh] at h1 h2;simp only[mkB,C3];rw[aJ6 x h1 h2 (by simpa using h3)]
theorem aJ7:∀{ts:List Ty}{ns:List Str}{ps:List Core}{j:Nat}{t:Ty}{p:Core}(z:Str),ts[j]?=some t→ps[j]?=some p→j<ns.length→(mkB ts ns ps).set j (.mk z t p)=mkB ts (ns.set j z) ps
 | t'::ts,n'::ns,q::ps,0,t,p,z,h1,h2,_=>by
  simp at h1 h2;subst h1 h2;rfl
 | t'::ts,n'::ns,q::ps,j+1,t,p,z,h1,h2,h3=>by
  simp only[Bh] at h1 h2;simp only[mkB,C3];rw[aJ7 z h1 h2 (by simpa using h3)]
theorem s4 (l:List Bind) (j:Nat) (x:Bind):(aR l).set j (aS x)=aR (l.set j x):=by
 rw[bC,bC,map_set]
theorem a4s {l:List Core}{j:Nat}{x:Core}(h:l[j]?=some x):(aT l)[j]?=some (aB x):=fA h
def grO (nG:List R) (pG:List R):AObj:=.var 109 [.ras nG.length 1 nG,.ras pG.length 1 pG]
def tH (tys:List Ty) (nk:Nat) (ns:List Str) (ps:List Core):List (Nat×AObj):=[(701,.arr 35 15 (aR (mkB tys ns (ps.drop nk))) 0),(702,.arr 30 10 (aT (ps.take nk)) 0)]
def tN (nb:Nat):List R:=(nR false nb nb).flatten
def tP (nk nb:Nat):List R:=(pR nk nb nb).flatten
theorem nV {es:Nat}:∀{l:List (List R)},(∀r∈l,r.length=es)→l.flatten.length=l.length*es
 | [],_=>by simp
 | r::l,h=>by
  rw[Bm,ε,nV fun q y=>h q (χ _ y),h r η,Ai,A7];omega
theorem aWw {nk nb:Nat}:(tP nk nb).length=nk+nb:=by unfold tP;rw[nV aD0,aXk];omega
theorem aWy {nk nb j:Nat}(h:j<nk):((tP nk nb).drop (j*1)).take 1=[.ep 702 j 0 nk]:=gK aD0 j _ (aXm h)
theorem aWx {nk nb j:Nat}(h:j<nb):((tP nk nb).drop ((nk+j)*1)).take 1=[.ep 701 j 5 nb]:=gK aD0 _ _ (aXl h)
theorem aNw {nb:Nat}:∀r∈nR false nb nb,r.length=1:=fun r q=>by
 unfold nR at q;exact u0 (fun _=>rfl) r (by simpa [gNm] using q)
theorem a2q {nb:Nat}:(tN nb).length=nb:=by
 unfold tN;rw[nV aNw];unfold nR;rw[ε,i7];simp[gNm]
theorem a2r {nb j:Nat}(h:j<nb):((tN nb).drop (j*1)).take 1=[.ep 701 j 0 nb]:=gK aNw j _ (by
 unfold nR;rw[Ao (by simp[gNm])];simp only[gNm,length_nil,sub_zero]
 exact aI9 h)
theorem zL {nk nb:Nat}:∀x∈R.refsL (tP nk nb),x=701∨x=702:=fun x hx=>by
 unfold tP at hx;rw[eU] at hx;unfold pR at hx;rw[kM] at hx;rcases ω.1 hx with hx | hx
 ·exact .inr (nL (L:=fun x=>x=702) (fun j x hx=>by simpa [R.refsL,R.refs] using hx) _ x hx)
 ·exact .inl (nL (L:=fun x=>x=701) (fun j x hx=>by simpa [R.refsL,R.refs] using hx) _ x hx)
theorem aNv {nb:Nat}:∀x∈R.refsL (tN nb),x=701:=fun x hx=>by
 unfold tN at hx;rw[eU] at hx;unfold nR at hx;rw[kM] at hx;rcases ω.1 hx with hx | hx
 ·simp[gNm,dB] at hx
 ·exact nL (L:=fun x=>x=701) (fun j x hx=>by simpa [R.refsL,R.refs] using hx) _ x hx
theorem aGg {nk nb:Nat}:∀x∈(grO (tN nb) (tP nk nb)).refs,x=701∨x=702:=fun x hx=>by
 have hx:x∈R.refsL (tN nb)++(R.refsL (tP nk nb)++[]):=hx;rw[A9] at hx;rcases ω.1 hx with hx | hx
 ·exact .inl (aNv x hx)
 ·exact zL x hx
abbrev tG (tys:List Ty) (nk:Nat) (ns:List Str) (ps:List Core):List (Nat×AObj):=(3,grO (tN tys.length) (tP nk tys.length))::tH tys nk ns ps
theorem tGW {tys:List Ty}{nk:Nat}{ns:List Str}{ps:List Core}:GW (tG tys nk ns ps) []:=⟨⟨fun _ h=>(by cases h),nodup_nil,fun _ h=>(by cases h)⟩,fun x hx=>by
 have hx:x∈(grO (tN tys.length) (tP nk tys.length)).refs++[]:=hx;rw[A9] at hx;rcases aGg x hx with rfl | rfl
 ·exact .inl (by simp[tG,tH,keys])
 ·exact .inl (by simp[tG,tH,keys]),rfl,rfl⟩
theorem aYb (tys:List Ty) (nk:Nat) (ns:List Str) (ps:List Core) (nm:Str) (b:Core) (sb:Core→Core) (hn:ns.length=tys.length) (hp:ps.length=nk+tys.length) (hb:ps.length≤570000000000)
  (hs:∀p∈ps,aW Tryz.prog 97 [.pa (aB p),Go.AM.T nm,.pa (aB b)] [] (.pa (aB (sb p))) []):
  aW Tryz.prog 158 [Go.AM.T nm,.pa (aB b),.one (.vp 3 0)] (tG tys nk ns ps++[]) (.tup []) (tG tys nk ns (ps.map sb)++[]):=by
 have J:TF []:=tGW (tys:=tys) (nk:=nk) (ns:=ns) (ps:=ps).tf;have hpl:=aWw (nk:=nk) (nb:=tys.length);have y:∀x∈R.refsL (tP nk tys.length),Kn [(4,.var 30 (bF b))] (tG tys nk ns ps) [] x:=fun x hx=>by
  rcases zL x hx with rfl | rfl
  ·exact .inr (.inl (by simp[tG,tH,keys]))
  ·exact .inr (.inl (by simp[tG,tH,keys]))
 refine wL J (n:=23) tok Tryz.func158 rfl rfl rfl ?_;refine sg rfl (sg rfl (aC (aK (fun j:Nat=>mkt [(0,Go.AM.T nm),(2,.one (.vp 3 0)),(4,.one (.vp 4 0)),(8,.one (.ras (tP nk tys.length).length 1 (tP nk tys.length))),(9,I .i64 (((tP nk tys.length).length:Nat):Int)),(10,I .i64 j)] ([(4,.var 30 (bF b))]++tG tys nk ns (aMf sb ps j)) []) (fun j=>j≤(tP nk tys.length).length) (fun j=>(tP nk tys.length).length-j) 0 (Al _) ?_ ?_)))
 ·rw[aPo];exact slG tGW (h1:=Kn.app Kn.nil (Kn.app (Kn.of rfl) (Kn.app (Kn.of rfl) (Kn.app y Kn.nil))))
 intro j hj;have y:∀ps',∀x∈R.refsL (tP nk tys.length),Kn [(4,.var 30 (bF b))] (tG tys nk ns ps') [] x:=fun ps' x hx=>by
  rcases zL x hx with rfl | rfl
  ·exact .inr (.inl (by simp[tG,tH,keys]))
  ·exact .inr (.inl (by simp[tG,tH,keys]))
 refine sg rfl (a8 (aA rfl (fun hb=>?_) (fun hb=>?_)))
 ·have hlt:j<(tP nk tys.length).length:=by
   have:(j:Int)<((tP nk tys.length).length:Int):=ψ hb;omega
  obtain⟨p,O⟩:=aJ (show j<ps.length by omega);have hc:=hs p (δ O);have Y:=aZy (sb:=sb) O;have Z:=aPp (sb:=sb) O;have hml:=aUv (sb:=sb) (ps:=ps) (j:=j);generalize aMf sb ps j=qs at Y Z hml ⊢;have hsz1:nk=(aT (qs.take nk)).length:=by rw[b7,φ,Ap];omega
  have hsz2:tys.length=(aR (mkB tys ns (qs.drop nk))).length:=by rw[bC,φ,uQ hn (by rw[Bk];omega)]
  refine aD ?_;by_cases hjk:j<nk
  ·have ht1:=aWy (nb:=tys.length) hjk;have hrow:(aT (qs.take nk))[j]?=some (aB p):=a4s (by rw[Ay,κ hjk,Y]);refine a8 (aC (sgh [(0,.rowR j [.ep 702 j 0 nk])] rfl (aE mixed (ak 6 [(3,.row j (aB p))] rfl (kc hc ?_)))));refine ak 2 [(8,.row j (aB p))] rfl (az (ag [] rfl ⟨j+1,hlt,by dsimp only;omega,?_⟩));dsimp only;rw[Z];refine slG tGW (fun i hi=>GW.kf i hi) (h1:=Kn.app Kn.nil (Kn.app (Kn.of rfl) (Kn.app (Kn.of rfl) (Kn.app (y _) Kn.nil)))) (hh:=⟨⟨_,rfl,.varS rfl⟩,⟨_,rfl,.varS rfl⟩,⟨_,rfl,.arrS ?_⟩,⟨_,rfl,.arrS ?_⟩,trivial⟩)
   ·rw[List.drop_set_of_lt hjk]
   ·rw[List.take_set];exact aE3 _ _ _
  ·obtain⟨q,rfl⟩:∃q,j=nk+q:=⟨j-nk,by omega⟩
   have hjb:q<tys.length:=by omega
   obtain⟨t,ht⟩:=aJ hjb;obtain⟨n,hnn⟩:=aJ (show q<ns.length by omega);have hd:(qs.drop nk)[q]?=some p:=by rw[Am];exact Y
   have ht1:=aWx (nk:=nk) hjb;have hrow:(aR (mkB tys ns (qs.drop nk)))[q]?=some (aS (.mk n t p)):=cR (xY ht hnn hd);refine a8 (aC (sgh [(0,.rowR (nk+q) [.ep 701 q 5 tys.length])] rfl (aE mixed (ak 6 [(3,.row q (aS (.mk n t p)))] rfl (kc hc ?_)))));refine ak 2 [(8,.row q (aS (.mk n t p)))] rfl (az (ag [] rfl ⟨nk+q+1,hlt,by dsimp only;omega,?_⟩));dsimp only;rw[Z];refine slG tGW (fun i hi=>GW.kf i hi) (h1:=Kn.app Kn.nil (Kn.app (Kn.of rfl) (Kn.app (Kn.of rfl) (Kn.app (y _) Kn.nil)))) (hh:=⟨⟨_,rfl,.varS rfl⟩,⟨_,rfl,.varS rfl⟩,⟨_,rfl,.arrS ?_⟩,⟨_,rfl,.arrS ?_⟩,trivial⟩)
   ·rw[List.drop_set,θ (by omega),Nat.add_sub_cancel_left,←aJ6 _ ht hnn (by rw[Bk];omega),←s4];rfl
   ·rw[List.take_set_of_le (by omega)]
 have hge:j=ps.length:=by
  have:¬(j:Int)<((tP nk tys.length).length:Int):=π hb;omega
 subst hge;rw[aUw];refine aL ?_;exact⟨.inl rfl,aHc (hl:=tG tys nk ns (ps.map sb)) J (by repeat (first | exact FarEq.raw J | (refine FarEq.updL J ?_) | (refine FarEq.upd J ?_))) ⟨[],[],.nil,.nil,rfl⟩ (fun _ h=>by cases h) tGW.refs (fun i hi=>GW.kf i hi) (fun p hp=>by rcases ω.1 hp with hp | hp;exact(Au.1 (tGW (tys:=tys) (nk:=nk) (ns:=ns) (ps:=ps)).plain) p hp;cases hp)⟩
theorem aBw (s:Str):aW Tryz.prog 60 [Go.AM.T s] [] (.pa (aB (vC s))) []:=by
 refine bZ (n:=5) tok Tryz.func60 rfl rfl rfl ?_;exact sg rfl (sg rfl (aF (rtC trw)))
theorem aZ9 {l:List Core}{j:Nat}{p:Core}(h:l[j]?=some p):(l.take (j+1)).flatMap pfR=(l.take j).flatMap pfR++pfR p:=by
 rw[Bt,h,flatMap_append];simp
theorem a4o (l:List Core) (j:Nat):((l.take j).flatMap pfR).length≤(l.flatMap pfR).length:=by
 have:l.flatMap pfR=(l.take j).flatMap pfR++(l.drop j).flatMap pfR:=by rw[←flatMap_append,Cs]
 rw[this,ε];omega
structure PutOk (sb:Core→Str→Core→Core) (P:Core→Prop) (s:Str) (b:Core) (ps:List Core):Prop where
 in_:∀p∈ps,P p
 free:∀p∈ps,aW Tryz.prog 136 [.pa (aB p)] [] (eE (pfR p)) []
 far:aW Tryz.prog 136 [.pa (aB b)] [] (eE (pfR b)) []
 ren:∀p n z,P p→z.length≤30→P (sb p n (vC z))
 subz:∀p n z,P p→z.length≤30→aW Tryz.prog 97 [.pa (aB p),Go.AM.T n,.pa (aB (vC z))] [] (.pa (aB (sb p n (vC z)))) []
 subb:∀p,P p→aW Tryz.prog 97 [.pa (aB p),Go.AM.T s,.pa (aB b)] [] (.pa (aB (sb p s b))) []
 itoa:j2 540000000000
noncomputable def gSt (sb:Core→Str→Core→Core) (b:Core) (ns:List Str) (ps:List Core) (i:Nat):List Str×List Core×List Str:=jX sb (pfR b) (ns.take i) ([],ps,ps.flatMap pfR++ns++pfR b)
noncomputable def gNs (sb:Core→Str→Core→Core) (b:Core) (ns:List Str) (ps:List Core) (i:Nat):List Str:=(gSt sb b ns ps i).1++ns.drop i
section
variable {sb:Core→Str→Core→Core}{b:Core}{ns:List Str}{ps:List Core}{i:Nat}{n:Str}
theorem iT (hi:i≤ns.length):(gSt sb b ns ps i).1.length=i∧(gSt sb b ns ps i).2.1.length=ps.length∧(gSt sb b ns ps i).2.2.length≤(ps.flatMap pfR++ns++pfR b).length+i:=by
 obtain⟨h1,h2,h3⟩:=aA9 (sb:=sb) (far:=pfR b) (ns:=ns.take i) (st:=([],ps,ps.flatMap pfR++ns++pfR b));rw[Ap,Ci hi] at h1 h3;exact⟨by unfold gSt;simpa using h1,h2,h3⟩
theorem aQl (hi:i≤ns.length):(gNs sb b ns ps i).length=ns.length:=by
 unfold gNs;rw[ε,(iT hi).1,Bk];omega
theorem aXx (h:ns[i]?=some n):(gNs sb b ns ps i)[i]?=some n:=by
 have q:i<ns.length:=(ξ.1 h).1
 unfold gNs;rw[Ao (by rw[(iT (le_of_lt q)).1];exact le_refl _),(iT (le_of_lt q)).1,C7,Am,B9,h]
theorem pT (h:ns[i]?=some n):gSt sb b ns ps (i+1)=eV sb (pfR b) (gSt sb b ns ps i) n:=aQn h
theorem aXw (h:ns[i]?=some n) (y:n∈pfR b):gNs sb b ns ps (i+1)=(gNs sb b ns ps i).set i (bE (gSt sb b ns ps i).2.2):=by
 have q:i<ns.length:=(ξ.1 h).1
 have hl:=(iT (sb:=sb) (b:=b) (ps:=ps) (le_of_lt q)).1
 unfold gNs;rw[pT h,vO h,zT hl];unfold eV;rw[κ y];simp
theorem aQk (h:ns[i]?=some n) (q:¬n∈pfR b):gNs sb b ns ps (i+1)=gNs sb b ns ps i:=by
 unfold gNs;rw[pT h,vO h];unfold eV;rw[θ q];simp
theorem aKl:gNs sb b ns ps 0=ns:=by unfold gNs gSt jX;simp
theorem aA6:gSt sb b ns ps 0=([],ps,ps.flatMap pfR++ns++pfR b):=by unfold gSt jX;simp
theorem aQm:gNs sb b ns ps ns.length=(gSt sb b ns ps ns.length).1:=by unfold gNs;simp
theorem aQi:gSt sb b ns ps ns.length=jX sb (pfR b) ns ([],ps,ps.flatMap pfR++ns++pfR b):=by unfold gSt;rw[As]
theorem aQj {P:Core→Prop}{s:Str}(h:PutOk sb P s b ps):∀{i:Nat},i≤ns.length→(gSt sb b ns ps i).2.2.length≤540000000000→(∀j,j≤i→(gSt sb b ns ps j).2.2.length≤540000000000)→∀p∈(gSt sb b ns ps i).2.1,P p
 | 0,_,_,_=>by rw[aA6];exact h.in_
 | i+1,hi,_,hb=>by
  obtain⟨n,hn⟩:=aJ (show i<ns.length by omega);have y:=aQj h (i:=i) (by omega) (hb i (by omega)) fun j hj=>hb j (by omega)
  rw[pT hn];unfold eV;split
  ·intro p hp;obtain⟨q,I,rfl⟩:=Ah.1 hp;exact h.ren q n _ (y q I) (le_trans (kU _ (hb i (by omega))) (by omega))
  ·exact y
end
def tkA (l:List Str):AObj:=.arr 9 1 (l.map bA) 2
def tkV (l:List Str):V:=.one (.hs 720 0 l.length l.length)
def gpV (nG pG:List R):V:=.ma [.ras nG.length 1 nG,.ras pG.length 1 pG]
theorem tHW {tys:List Ty}{nk:Nat}{ns:List Str}{ps:List Core}:GW (tH tys nk ns ps) []:=⟨tGW (tys:=tys) (nk:=nk) (ns:=ns) (ps:=ps).tf,fun x hx=>(by cases hx),rfl,rfl⟩
theorem aIz {tys:List Ty}{nk:Nat}{ns:List Str}{ps:List Core}{n:Str}{l:List C}:callOk ([Go.AM.T n,.pa l]++List.map V.one [R.vp 3 0]) (tG tys nk ns ps++[])=true:=by
 refine rI (tHW (tys:=tys) (nk:=nk) (ns:=ns) (ps:=ps)).tf (fun x hx=>.inl ?_) tGW.refs;have:x=3:=by simpa [V.refsL,V.refs,R.refs] using hx
 subst this;simp[tG,keys]
theorem a5c (tys:List Ty) (nk:Nat) (ns:List Str) (ps:List Core) (s:Str) (b:Core) (sb:Core→Str→Core→Core) (P:Core→Prop) (hn:ns.length=tys.length) (hp:ps.length=nk+tys.length) (hok:PutOk sb P s b ps)
  (hM:(ps.flatMap pfR).length+2*ns.length+(pfR b).length+ps.length≤540000000000):
  aW Tryz.prog 137 [gpV (tN tys.length) (tP nk tys.length),Go.AM.T s,.pa (aB b)] (tH tys nk ns ps++[]) (.tup []) (tH tys nk (dV sb s b ns ps).1 (dV sb s b ns ps).2++[]):=by
 have hF:TF []:=tHW (tys:=tys) (nk:=nk) (ns:=ns) (ps:=ps).tf;have hpl:=aWw (nk:=nk) (nb:=tys.length);have hnl:=a2q (nb:=tys.length);have hkp:∀ex O y,∀x∈R.refsL (tP nk tys.length),Kn ex (tH tys nk O y) [] x:=fun ex O y x hx=>by
  rcases zL x hx with rfl | rfl
  ·exact .inr (.inl (by simp[tH,keys]))
  ·exact .inr (.inl (by simp[tH,keys]))
 have hkn:∀ex O y,∀x∈R.refsL (tN tys.length),Kn ex (tH tys nk O y) [] x:=fun ex O y x hx=>by
  have:=aNv x hx;subst this;exact .inr (.inl (by simp[tH,keys]))
 have aa:∀ex O y,∀x∈(grO (tN tys.length) (tP nk tys.length)).refs,Kn ex (tH tys nk O y) [] x:=fun ex O y x hx=>by
  rcases aGg x hx with rfl | rfl
  ·exact .inr (.inl (by simp[tH,keys]))
  ·exact .inr (.inl (by simp[tH,keys]))
 have hsz1:∀y:List Core,y.length=ps.length→nk=(aT (y.take nk)).length:=fun y h=>by rw[b7,φ,Ap];omega
 have hsz2:∀(O:List Str) (y:List Core),O.length=ns.length→y.length=ps.length→tys.length=(aR (mkB tys O (y.drop nk))).length:=fun O y h h'=>by rw[bC,φ,uQ (by omega) (by rw[Bk];omega)]
 have hs1:=hsz1 ps rfl;have hs2:=hsz2 ns ps rfl rfl;refine wL hF (n:=92) tok Tryz.func137 rfl rfl rfl ?_;refine sg rfl (sg rfl (AWp.sub (Sub.own (t:=6) (id:=720) 9 1 rfl rfl) (AWp.sub (Sub.freeze (id:=720) rfl) ?_)));refine a8 (sg rfl (aC (aK (fun j:Nat=>mkt [(1,Go.AM.T s),(3,.one (.vp 3 0)),(5,.one (.vp 5 0)),(6,tkV ((ps.take j).flatMap pfR)),(17,.one (.ras (tP nk tys.length).length 1 (tP nk tys.length))),(18,I .i64 (((tP nk tys.length).length:Nat):Int)),(19,I .i64 j)] ([(3,grO (tN tys.length) (tP nk tys.length)),(5,.var 30 (bF b)),(720,tkA ((ps.take j).flatMap pfR))]++tH tys nk ns ps) []) (fun j=>j≤(tP nk tys.length).length) (fun j=>(tP nk tys.length).length-j) 0 (Al _) ?_ ?_)))
 ·exact slG tHW (h1:=Kn.app Kn.nil (Kn.app (Kn.of rfl) (Kn.app (Kn.of rfl) (Kn.app (Kn.of rfl) (Kn.app (hkp _ _ _) Kn.nil))))) (h2:=⟨aa _ _ _,Kn.of rfl,Kn.of rfl,trivial⟩)
 ·intro j hj;refine sg rfl (a8 (aA rfl (fun hb=>?_) (fun hb=>?_)))
  ·have hlt:j<(tP nk tys.length).length:=by
    have:(j:Int)<((tP nk tys.length).length:Int):=ψ hb;omega
   obtain⟨p,Z⟩:=aJ (show j<ps.length by omega);have hf:=hok.free p (δ Z);have hst:=aZ9 Z;have hl1:=a4o ps (j+1);rw[hst,ε] at hl1;have hq1:(((ps.take j).flatMap pfR).map bA).length=((ps.take j).flatMap pfR).length:=φ _;have hq2:((pfR p).map bA).length=(pfR p).length:=φ _;generalize (ps.take j).flatMap pfR=q at hst hl1 hq1 ⊢;refine aD ?_;by_cases hjk:j<nk
   ·have ht1:=aWy (nb:=tys.length) hjk;have hrow:(aT (ps.take nk))[j]?=some (aB p):=a4s (by rw[Ay,κ hjk,Z]);refine a8 (aC (sgh [(0,.rowR j [.ep 702 j 0 nk])] rfl (aE mixed (ak 4 [(3,.row j (aB p))] rfl (kc hf ?_)))));refine kz 2 rfl (AWp.sub (Sub.freeze (id:=720) rfl) ?_);refine ag [] rfl ⟨j+1,hlt,by dsimp only;omega,?_⟩;dsimp only;rw[hst];exact slG tHW (h1:=Kn.app Kn.nil (Kn.app (Kn.of rfl) (Kn.app (Kn.of rfl) (Kn.app (Kn.of rfl) (Kn.app (hkp _ _ _) Kn.nil))))) (h2:=⟨aa _ _ _,Kn.of rfl,Kn.of rfl,trivial⟩) (he:=⟨rfl,rfl,rfl,Go.AM.hs_ren (by simp) (by simp),congrArg some (V.ren_id _).symm,rfl,rfl,trivial⟩) (hh:=⟨⟨_,rfl,.varS rfl⟩,⟨_,rfl,.varS rfl⟩,⟨_,rfl,.arrS (by simp)⟩,⟨_,rfl,.arr⟩,⟨_,rfl,.arr⟩,trivial⟩)
   ·obtain⟨j',rfl⟩:∃j',j=nk+j':=⟨j-nk,by omega⟩
    have ab:j'<tys.length:=by omega
    obtain⟨t,ht⟩:=aJ ab;obtain⟨n,Y⟩:=aJ (show j'<ns.length by omega);have hd:(ps.drop nk)[j']?=some p:=by rw[Am];exact Z
    have ht1:=aWx (nk:=nk) ab;have hrow:(aR (mkB tys ns (ps.drop nk)))[j']?=some (aS (.mk n t p)):=cR (xY ht Y hd);refine a8 (aC (sgh [(0,.rowR (nk+j') [.ep 701 j' 5 tys.length])] rfl (aE mixed (ak 4 [(3,.row j' (aS (.mk n t p)))] rfl (kc hf ?_)))));refine kz 2 rfl (AWp.sub (Sub.freeze (id:=720) rfl) ?_);refine ag [] rfl ⟨nk+j'+1,hlt,by dsimp only;omega,?_⟩;dsimp only;rw[hst];exact slG tHW (h1:=Kn.app Kn.nil (Kn.app (Kn.of rfl) (Kn.app (Kn.of rfl) (Kn.app (Kn.of rfl) (Kn.app (hkp _ _ _) Kn.nil))))) (h2:=⟨aa _ _ _,Kn.of rfl,Kn.of rfl,trivial⟩) (he:=⟨rfl,rfl,rfl,Go.AM.hs_ren (by simp) (by simp),congrArg some (V.ren_id _).symm,rfl,rfl,trivial⟩) (hh:=⟨⟨_,rfl,.varS rfl⟩,⟨_,rfl,.varS rfl⟩,⟨_,rfl,.arrS (by simp)⟩,⟨_,rfl,.arr⟩,⟨_,rfl,.arr⟩,trivial⟩)
  have hge:j=ps.length:=by
   have:¬(j:Int)<((tP nk tys.length).length:Int):=π hb;omega
  subst hge;rw[As];refine aL ?_;have hct:=dQ (ps.flatMap pfR) s (by omega);refine a8 (sk 2 rfl (kc hct ?_));refine kz 1 rfl (aA rfl (fun hb=>?_) (fun hb=>?_))
  ·have hno:¬s∈ps.flatMap pfR:=by
    intro h;have hb:(!decide (s∈ps.flatMap pfR))=true:=hb;rw[Ae h] at hb;cases hb
   have he:dV sb s b ns ps=(ns,ps):=by unfold dV;rw[θ fun h=>hno h.1]
   rw[he];exact aF ⟨.inr rfl,aHc hF (by repeat (first | exact FarEq.raw hF | (refine FarEq.updL hF ?_) | (refine FarEq.upd hF ?_))) ⟨[],[],.nil,.nil,rfl⟩ (fun _ h=>by cases h) tHW.refs (fun i hi=>GW.kf i hi) (fun p hp=>by rcases ω.1 hp with hp | hp;exact(Au.1 (tHW (tys:=tys) (nk:=nk) (ns:=ns) (ps:=ps)).plain) p hp;cases hp)⟩
  have hin:s∈ps.flatMap pfR:=by
   have hb:(!decide (s∈ps.flatMap pfR))=false:=hb;by_cases h:s∈ps.flatMap pfR
   ·exact h
   ·rw[Ag h] at hb;cases hb
  refine aD (a8 (sg rfl (aC (aK (fun j:Nat=>mkt [(1,Go.AM.T s),(3,.one (.vp 3 0)),(5,.one (.vp 5 0)),(6,tkV (ps.flatMap pfR++ns.take j)),(35,.one (.ras (tN tys.length).length 1 (tN tys.length))),(36,I .i64 (((tN tys.length).length:Nat):Int)),(37,I .i64 j)] ([(3,grO (tN tys.length) (tP nk tys.length)),(5,.var 30 (bF b)),(720,tkA (ps.flatMap pfR++ns.take j))]++tH tys nk ns ps) []) (fun j=>j≤(tN tys.length).length∧¬s∈ns.take j) (fun j=>(tN tys.length).length-j) 0 ⟨Al _,by simp⟩ ?_ ?_))))
  ·exact slG tHW (h1:=Kn.app Kn.nil (Kn.app (Kn.of rfl) (Kn.app (Kn.of rfl) (Kn.app (Kn.of rfl) (Kn.app (hkn _ _ _) Kn.nil))))) (h2:=⟨aa _ _ _,Kn.of rfl,Kn.of rfl,trivial⟩) (he:=⟨rfl,rfl,rfl,Go.AM.hs_ren (by simp) (by simp),congrArg some (V.ren_id _).symm,rfl,rfl,trivial⟩) (hh:=⟨⟨_,rfl,.varS rfl⟩,⟨_,rfl,.varS rfl⟩,⟨_,rfl,.arrS (by simp)⟩,⟨_,rfl,.arr⟩,⟨_,rfl,.arr⟩,trivial⟩)
  rintro j ⟨hj,hnos⟩;refine sg rfl (a8 (aA rfl (fun hb=>?_) (fun hb=>?_)))
  ·have hlt:j<(tN tys.length).length:=by
    have:(j:Int)<((tN tys.length).length:Int):=ψ hb;omega
   have ab:j<tys.length:=by omega
   obtain⟨t,ht⟩:=aJ ab;obtain⟨n,Y⟩:=aJ (show j<ns.length by omega);obtain⟨p,Z⟩:=aJ (show nk+j<ps.length by omega);have hd:(ps.drop nk)[j]?=some p:=by rw[Am];exact Z
   have ht1:=a2r ab;have hrow:(aR (mkB tys ns (ps.drop nk)))[j]?=some (aS (.mk n t p)):=cR (xY ht Y hd);have hstp:ns.take (j+1)=ns.take j++[n]:=by rw[Bt,Y];rfl
   have hq1:((ps.flatMap pfR++ns.take j).map bA).length=(ps.flatMap pfR++ns.take j).length:=φ _;have hql:(ps.flatMap pfR++ns.take j).length≤540000000000:=by rw[ε,Ap];omega
   refine aD (a8 (aC (sgh [(0,.rowR j [.ep 701 j 0 tys.length])] rfl (a8 (sgh [(2,.row j (aS (.mk n t p)))] rfl (aA rfl (fun hb=>?_) (fun hb=>?_)))))))
   ·have hns:n=s:=ψ hb;have he:dV sb s b ns ps=(ns,ps):=by
     unfold dV;rw[θ fun h=>h.2 (hns▸δ Y)]
    rw[he];exact aF ⟨.inr rfl,aHc hF (by repeat (first | exact FarEq.raw hF | (refine FarEq.updL hF ?_) | (refine FarEq.upd hF ?_))) ⟨[],[],.nil,.nil,rfl⟩ (fun _ h=>by cases h) tHW.refs (fun i hi=>GW.kf i hi) (fun p hp=>by rcases ω.1 hp with hp | hp;exact(Au.1 (tHW (tys:=tys) (nk:=nk) (ns:=ns) (ps:=ps)).plain) p hp;cases hp)⟩
   have hns:¬n=s:=π hb;refine aD ?_;generalize ps.flatMap pfR=fm at *;rw[show fm++ns.take j=fm++ns.take j from rfl];generalize hq:fm++ns.take j=q at *;refine ag [(3,.row j (aS (.mk n t p)))] rfl (AWp.sub (Sub.freeze (id:=720) rfl) ?_);refine ag [] rfl ⟨j+1,⟨hlt,?_⟩,by dsimp only;omega,?_⟩
   ·rw[hstp];intro h;rcases ω.1 h with h | h
    ·exact hnos h
    ·exact hns (Ab.1 h).symm
   dsimp only;rw[hstp,←Aw,hq];exact slG tHW (h1:=Kn.app Kn.nil (Kn.app (Kn.of rfl) (Kn.app (Kn.of rfl) (Kn.app (Kn.of rfl) (Kn.app (hkn _ _ _) Kn.nil))))) (h2:=⟨aa _ _ _,Kn.of rfl,Kn.of rfl,trivial⟩) (he:=⟨rfl,rfl,rfl,Go.AM.hs_ren (by simp) (by simp),congrArg some (V.ren_id _).symm,rfl,rfl,trivial⟩) (hh:=⟨⟨_,rfl,.varS rfl⟩,⟨_,rfl,.varS rfl⟩,⟨_,rfl,.arrS (by simp[bA,Bind.name])⟩,⟨_,rfl,.arr⟩,⟨_,rfl,.arr⟩,trivial⟩)
  have hge:j=ns.length:=by
   have:¬(j:Int)<((tN tys.length).length:Int):=π hb;omega
  subst hge;rw[As] at hnos ⊢;have hput:dV sb s b ns ps=((gSt sb b ns ps ns.length).1,(gSt sb b ns ps ns.length).2.1.map fun p=>sb p s b):=by
   unfold dV;rw[κ ⟨hin,hnos⟩,aQi]
  have hql:(ps.flatMap pfR++ns).length≤540000000000:=by rw[ε];omega
  have hq1:((ps.flatMap pfR++ns).map bA).length=(ps.flatMap pfR++ns).length:=φ _;have hq2:((pfR b).map bA).length=(pfR b).length:=φ _;have hfar:=hok.far;refine aL (sk 1 rfl (kc hfar ?_));refine kz 1 rfl ?_;have hlq:(ps.flatMap pfR++ns).length+(pfR b).length≤540000000000:=by rw[ε];omega
  refine sg rfl (AWp.sub (Sub.freeze (id:=720) rfl) ?_);refine sg rfl (a8 (sg rfl (aC ?_)));have hall:∀i,i≤ns.length→(gSt sb b ns ps i).2.2.length≤540000000000:=fun i hi=>by
   have h1:=(iT (sb:=sb) (b:=b) (ps:=ps) hi).2.2
   simp only[ε] at h1;omega
  refine aK (fun i:Nat=>mkt [(1,Go.AM.T s),(5,.one (.vp 5 0)),(6,tkV (gSt sb b ns ps i).2.2),(11,eE (pfR b)),(12,.one (.clo 158 [.vp 3 0])),(60,.one (.ras (tN tys.length).length 1 (tN tys.length))),(61,I .i64 (((tN tys.length).length:Nat):Int)),(62,I .i64 i)] ([(3,grO (tN tys.length) (tP nk tys.length)),(5,.var 30 (bF b)),(720,tkA (gSt sb b ns ps i).2.2)]++tH tys nk (gNs sb b ns ps i) (gSt sb b ns ps i).2.1) []) (fun i=>i≤(tN tys.length).length) (fun i=>(tN tys.length).length-i) 0 (Al _) ?_ ?_
  ·rw[aA6,aKl];exact slG tHW (h1:=Kn.app Kn.nil (Kn.app (Kn.of rfl) (Kn.app (Kn.of rfl) (Kn.app Kn.nil (Kn.app (Kn.of rfl) (Kn.app (hkn _ _ _) Kn.nil)))))) (h2:=⟨aa _ _ _,Kn.of rfl,Kn.of rfl,trivial⟩) (he:=⟨rfl,rfl,Go.AM.hs_ren (by simp only[ε,φ]) (by simp only[ε,φ]),rfl,rfl,congrArg some (V.ren_id _).symm,rfl,rfl,trivial⟩) (hh:=⟨⟨_,rfl,.varS rfl⟩,⟨_,rfl,.varS rfl⟩,⟨_,rfl,.arrS (by simp)⟩,⟨_,rfl,.arr⟩,⟨_,rfl,.arr⟩,trivial⟩)
  intro i hi;have hle:i≤ns.length:=by omega
  refine sg rfl (a8 (aA rfl (fun hb=>?_) (fun hb=>?_)))
  ·have hlt:i<(tN tys.length).length:=by
    have:(i:Int)<((tN tys.length).length:Int):=ψ hb;omega
   have ab:i<tys.length:=by omega
   obtain⟨t,ht⟩:=aJ ab;obtain⟨n,Y⟩:=aJ (show i<ns.length by omega);obtain⟨hg1,hg2,hg3⟩:=iT (sb:=sb) (b:=b) (ps:=ps) hle;have hgl:=aQl (sb:=sb) (b:=b) (ps:=ps) hle;have hga:=aXx (sb:=sb) (b:=b) (ps:=ps) Y;have hP:=aQj hok hle (hall i hle) (fun j hj=>hall j (by omega));have hs3:=hsz1 _ hg2;have hs4:=hsz2 _ _ hgl hg2;have J:=pT (sb:=sb) (b:=b) (ps:=ps) Y;have hnin:=aXw (sb:=sb) (b:=b) (ps:=ps) Y;have hnout:=aQk (sb:=sb) (b:=b) (ps:=ps) Y;have hall0:=hall i hle;have ht1:=a2r ab;have hcf:=dQ (pfR b) n (by omega);have hcr:=aHp (gSt sb b ns ps i).2.2 (by omega) fun k hk=>hok.itoa k (by omega)
   generalize gSt sb b ns ps i=G at *;generalize gNs sb b ns ps i=N at *;obtain⟨d0,qs,tk⟩:=G;dsimp only at *;obtain⟨p,Z⟩:=aJ (show nk+i<qs.length by omega);have hd:(qs.drop nk)[i]?=some p:=by rw[Am];exact Z
   have hrow:(aR (mkB tys N (qs.drop nk)))[i]?=some (aS (.mk n t p)):=cR (xY ht hga hd);refine aD (a8 (aC (sgh [(0,.rowR i [.ep 701 i 0 tys.length])] rfl (skh 4 [(3,.row i (aS (.mk n t p)))] rfl (kc hcf ?_)))));refine az (aA rfl (fun hb=>?_) (fun hb=>?_))
   ·have hmem:n∈pfR b:=ψ hb;have hnin:=hnin hmem;unfold eV at J;rw[κ hmem] at J;dsimp only at J;have hz:(bE tk).length≤30:=le_trans (kU _ hall0) (by omega);have hca:=aYb tys nk N qs n (vC (bE tk)) (fun p=>sb p n (vC (bE tk))) (by omega) (by omega) (by omega) fun p hp=>hok.subz p n _ (hP p hp) hz
    have hcv:=aBw (bE tk);have hqt:(tk.map bA).length=tk.length:=φ _;generalize bE tk=z at *;refine sk 1 rfl (kc hcr ?_);refine kz 1 rfl (sg rfl (AWp.sub (Sub.freeze (id:=720) rfl) ?_));refine skh 5 [(3,.row i (aS (.mk n t p)))] rfl (kc hcv ?_);refine kv (caps:=[.vp 3 0]) (args:=[Go.AM.T n,.pa (aB (vC z))]) hca ?_ (hok:=aIz);refine az ?_;have hml:(qs.map fun p=>sb p n (vC z)).length=ps.length:=by rw[φ];exact hg2
    have hd2:((qs.map fun p=>sb p n (vC z)).drop nk)[i]?=some (sb p n (vC z)):=by rw[Am,Aq,Z];rfl
    have hrow2:(aR (mkB tys N ((qs.map fun p=>sb p n (vC z)).drop nk)))[i]?=some (aS (.mk n t (sb p n (vC z)))):=cR (xY ht hga hd2);have hs5:=hsz1 _ hml;have hs6:=hsz2 _ _ hgl hml;refine ag [(3,.row i (aS (.mk n t (sb p n (vC z)))))] rfl (ag [] rfl ⟨i+1,hlt,by dsimp only;omega,?_⟩);dsimp only;rw[J,hnin];dsimp only;refine slG tHW (fun i hi=>GW.kf i hi) (h1:=Kn.app Kn.nil (Kn.app (Kn.of rfl) (Kn.app (Kn.of rfl) (Kn.app Kn.nil (Kn.app (Kn.of rfl) (Kn.app (hkn _ _ _) Kn.nil)))))) (h2:=⟨aa _ _ _,Kn.of rfl,Kn.of rfl,trivial⟩) (he:=⟨rfl,rfl,Go.AM.hs_ren (by simp) (by simp),rfl,rfl,congrArg some (V.ren_id _).symm,rfl,rfl,trivial⟩) (hh:=⟨⟨_,rfl,.varS rfl⟩,⟨_,rfl,.varS rfl⟩,⟨_,rfl,.arrS (by simp[bA])⟩,⟨_,rfl,.arrS ?_⟩,⟨_,rfl,.arr⟩,trivial⟩);rw[←aJ7 z ht hd2 (by omega),←s4];rfl
   ·have hmem:¬n∈pfR b:=π hb;unfold eV at J;rw[θ hmem] at J;dsimp only at J;refine aD (ag [] rfl ⟨i+1,hlt,by dsimp only;omega,?_⟩);dsimp only;rw[J,hnout hmem];exact slG tHW (fun i hi=>GW.kf i hi) (h1:=Kn.app Kn.nil (Kn.app (Kn.of rfl) (Kn.app (Kn.of rfl) (Kn.app Kn.nil (Kn.app (Kn.of rfl) (Kn.app (hkn _ _ _) Kn.nil)))))) (h2:=⟨aa _ _ _,Kn.of rfl,Kn.of rfl,trivial⟩)
  have hge:i=ns.length:=by
   have:¬(i:Int)<((tN tys.length).length:Int):=π hb;omega
  subst hge;have hP:=aQj hok (le_refl ns.length) (hall _ (le_refl _)) (fun j hj=>hall j hj);obtain⟨hg1,hg2,_⟩:=iT (sb:=sb) (b:=b) (ps:=ps) (le_refl ns.length);rw[hput];rw[aQm];generalize gSt sb b ns ps ns.length=G at *;obtain⟨N,qs,tk⟩:=G;dsimp only at *;have hca:=aYb tys nk N qs s b (fun p=>sb p s b) (by omega) (by omega) (by omega) fun p hp=>hok.subb p (hP p hp)
  refine aL (aE mixed (ak 3 [] rfl (kv (caps:=[.vp 3 0]) (args:=[Go.AM.T s,.pa (aB b)]) hca ?_ (hok:=aIz))));exact az ⟨.inl rfl,aHc hF (FarEq.outs hF) ⟨[],[],.nil,.nil,rfl⟩ (fun _ h=>by cases h) tHW.refs (fun i hi=>GW.kf i hi) (fun p hp=>by rcases ω.1 hp with hp | hp;exact(Au.1 (tHW (tys:=tys) (nk:=nk) (ns:=ns) (ps:=ps)).plain) p hp;cases hp)⟩
def aI7 (af an:Int) (anm:Str) (nv:Nat) (p:Core):List R:=[.c (.int .i64 af),.c (.int .i64 an),.c (.str anm),.hs 704 0 nv nv]++(aB p).map R.c
def aH (rs:List (List R)) (k:Nat) (af an:Int) (anm:Str) (nv:Nat) (ns:List Str) (p:Core):List (Nat×AObj):=[(703,.rarr 73 14 (rs.set k (aI7 af an anm nv p))),(704,.arr 9 1 (ns.map bA) 0)]
def aN (nv:Nat):List R:=(rgR (fun j=>[.ep 704 j 0 nv]) nv).flatten
def aP (k na:Nat):List R:=[.rp 703 k 4 na]
theorem aYk {nv:Nat}:(aN nv).length=nv:=by
 unfold aN;rw[nV (u0 fun _=>rfl),i7,mul_one]
theorem a54 {nv j:Nat}(h:j<nv):((aN nv).drop (j*1)).take 1=[.ep 704 j 0 nv]:=gK (u0 fun _=>rfl) j _ (aI9 h)
theorem aSz {nv:Nat}:∀x∈R.refsL (aN nv),x=704:=fun x hx=>by
 unfold aN at hx;rw[eU] at hx;exact nL (L:=fun x=>x=704) (fun j x hx=>by simpa [R.refsL,R.refs] using hx) _ x hx
theorem aH5 {k q nv:Nat}:∀x∈(grO (aN nv) (aP k q)).refs,x=703∨x=704:=fun x hx=>by
 have hx:x∈R.refsL (aN nv)++(R.refsL (aP k q)++[]):=hx;rw[A9] at hx;rcases ω.1 hx with hx | hx
 ·exact .inr (aSz x hx)
 ·exact .inl (by simpa [aP,R.refsL,R.refs] using hx)
theorem aCw {x:Nat}:∀{rs:List (List R)}{k:Nat}{r:List R},x∈dB (rs.set k r)→x∈dB rs∨x∈R.refsL r
 | [],_,_,h=>.inl h
 | q::rs,0,r,h=>by
  rcases ω.1 (show x∈R.refsL r++dB rs from h) with h | h
  ·exact .inr h
  ·exact .inl (ω.2 (.inr h))
 | q::rs,k+1,r,h=>by
  rcases ω.1 (show x∈R.refsL q++dB (rs.set k r) from h) with h | h
  ·exact .inl (ω.2 (.inl h))
  ·exact(aCw h).imp (fun h=>ω.2 (.inr h)) id
theorem aOb {af an:Int}{anm:Str}{nv:Nat}{p:Core}{x:Nat}(h:x∈R.refsL (aI7 af an anm nv p)):x=704:=by
 unfold aI7 aB at h;simpa [R.refsL,R.refs] using h
abbrev aG (rs:List (List R)) (k:Nat) (af an:Int) (anm:Str) (nv:Nat) (ns:List Str) (p:Core):List (Nat×AObj):=(3,grO (aN nv) (aP k rs.length))::aH rs k af an anm nv ns p
section
variable {rs:List (List R)}{k:Nat}{af an:Int}{anm:Str}{nv:Nat}{ns:List Str}{p:Core}{F:List (Nat×AObj)}
theorem aHW (q:TF F) (y:∀x∈dB rs,x∈keys F):GW (aH rs k af an anm nv ns p) F:=⟨q,fun x hx=>by
 have hx:x∈dB (rs.set k (aI7 af an anm nv p))++[]:=hx;rw[A9] at hx;rcases aCw hx with h | h
 ·exact .inr (y x h)
 ·rw[aOb h];exact .inl (by simp[aH,keys]),rfl,rfl⟩
theorem aGW (q:TF F) (y:∀x∈dB rs,x∈keys F):GW (aG rs k af an anm nv ns p) F:=⟨q,fun x hx=>by
 rcases ω.1 (show x∈(grO (aN nv) (aP k rs.length)).refs++dI (aH rs k af an anm nv ns p) from hx) with hx | hx
 ·rcases aH5 x hx with rfl | rfl
  ·exact .inl (by simp[aG,aH,keys])
  ·exact .inl (by simp[aG,aH,keys])
 ·exact((aHW q y).refs x hx).imp (fun h=>χ _ h) id,rfl,rfl⟩
end
theorem a2w {rs:List (List R)}{k:Nat}{r r':List R}:(rs.set k r).set k r'=rs.set k r':=List.set_set ..
theorem aYc (rs:List (List R)) (k:Nat) (af an:Int) (anm:Str) (nv:Nat) (ns:List Str) (p:Core) (F:List (Nat×AObj)) (nm:Str) (b:Core) (sb:Core→Core) (y:TF F) (Z:∀x∈dB rs,x∈keys F) (hk:k<rs.length)
  (hc:aW Tryz.prog 97 [.pa (aB p),Go.AM.T nm,.pa (aB b)] [] (.pa (aB (sb p))) []):
  aW Tryz.prog 158 [Go.AM.T nm,.pa (aB b),.one (.vp 3 0)] (aG rs k af an anm nv ns p++F) (.tup []) (aG rs k af an anm nv ns (sb p)++F):=by
 have W:∀p,GW (aG rs k af an anm nv ns p) F:=fun p=>aGW y Z
 have ab:rs.length=(rs.set k (aI7 af an anm nv p)).length:=(Cn ..).symm;have aa:(rs.set k (aI7 af an anm nv p))[k]?=some (aI7 af an anm nv p):=List.getElem?_set_self hk;refine wL y (n:=23) tok Tryz.func158 rfl rfl rfl ?_;refine sg rfl (sg rfl (aC (aK (fun j:Nat=>mkt [(0,Go.AM.T nm),(2,.one (.vp 3 0)),(4,.one (.vp 4 0)),(8,.one (.ras 1 1 (aP k rs.length))),(9,I .i64 ((1:Nat):Int)),(10,I .i64 j)] ([(4,.var 30 (bF b))]++aG rs k af an anm nv ns (if j=0 then p else sb p)) F) (fun j=>j≤1) (fun j=>1-j) 0 (Al _) ?_ ?_)))
 ·exact slG (W _)
 intro j hj;refine sg rfl (a8 (aA rfl (fun hb=>?_) (fun hb=>?_)))
 ·have O:j=0:=by
   have:(j:Int)<((1:Nat):Int):=ψ hb;omega
  subst O;rw[κ rfl];refine aD (a8 (aC (sg rfl (aE mixed (ak 6 [(3,.rr (aI7 af an anm nv p))] rfl (kc hc ?_))))));refine ak 2 [(8,.rr (aI7 af an anm nv p))] rfl (az (ag [] rfl ⟨1,le_refl _,by dsimp only;omega,?_⟩));dsimp only;rw[θ (by decide)];exact slG (W _) (fun i hi=>GW.kf i hi) (hh:=⟨⟨_,rfl,.varS rfl⟩,⟨_,rfl,.varS rfl⟩,⟨_,rfl,.rarrS a2w⟩,⟨_,rfl,.arr⟩,trivial⟩)
 have Y:j=1:=by
  have:¬(j:Int)<((1:Nat):Int):=π hb;omega
 subst Y;rw[θ (by decide)];refine aL ?_;exact⟨.inl rfl,aHc y (by repeat (first | exact FarEq.raw y | (refine FarEq.updL y ?_) | (refine FarEq.upd y ?_))) ⟨[],[],.nil,.nil,rfl⟩ (fun _ h=>by cases h) (W _).refs (fun i hi=>GW.kf i hi) (fun q J=>by rcases ω.1 J with J | J;exact(Au.1 (W p).plain) q J;exact(y.ok q J).2)⟩
end Go.Proofs.YtnjaiimffoninaaGreatDoor
