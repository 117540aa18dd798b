/-
  Texts Lm5 to Lf2 in one.
-/
import Derived.Test.YtnjaiimffoninaaGreatDoorM10
import Derived.Laws.MakeOwn
open List (append_assoc append_nil cons_append drop_eq_getElem_cons drop_left drop_length drop_zero flatMap_cons length_append length_cons length_erase_of_mem length_map length_pos_of_mem length_set length_take length_zip map_append map_congr_left map_cons map_nil mem_append mem_cons mem_cons_of_mem mem_cons_self mem_flatMap mem_map mem_of_mem_drop mem_of_mem_take mem_range mem_singleton nil_append not_mem_nil set_append_right set_cons_zero sum_cons sum_nil take_add_one take_left take_length take_of_length_le take_zero)
open Nat (add_mul le_add_left le_add_right le_max_right le_mul_of_pos_right le_refl le_trans max_le mul_le_mul mul_le_mul_right mul_one sub_self sub_zero succ_mul zero_add zero_le)
namespace Go.Proofs.YtnjaiimffoninaaGreatDoor
open Go Go.AM
set_option maxRecDepth 20000
set_option maxHeartbeats 4000000
theorem aRg (i:Int) (s:Str) (t:Ty) (a r:Core) (bs:List Bind) (h12:bs.length≤12)
  (O:aW Tryz.prog 138 [.pa (aB a),eE (bs.map Bind.name),.one (.c (.sl 10 ((bs.map (lM bs)).map aB)))] [] (.pa (aB r)) []):
  aW Tryz.prog 98 [.pa (aB (.mk 8 i s t [a] bs []))] [] (.pa (aB r)) []:=by
 have y:(aR bs).length=bs.length:=by rw[bC,φ]
 refine bZ (n:=36) tok Tryz.func98 rfl rfl rfl ?_;refine sg rfl (sg rfl (sg rfl (AWp.sub (Sub.own (t:=3) (id:=720) 9 1 rfl rfl) ?_)));refine AWp.sub (Sub.own (t:=4) (id:=721) 30 10 rfl rfl) ?_;refine a8 (sg rfl (aC (aK (fun k:Nat=>mk [(1,.one (.vp 1 0)),(2,.one (.vp 2 0)),(3,.one (.hs 720 0 ((bs.take k).map Bind.name).length ((bs.take k).map Bind.name).length)),(4,.one (.hs 721 0 ((bs.take k).map (lM bs)).length ((bs.take k).map (lM bs)).length)),(8,.one (.c (.sl 15 (aR bs)))),(9,I .i64 ((aR bs).length:Int)),(10,I .i64 k)] [(1,.var 30 (bF (.mk 8 i s t [a] bs []))),(2,.var 30 dY),(720,.arr 9 1 (((bs.take k).map Bind.name).map bA) 0),(721,.arr 30 10 (((bs.take k).map (lM bs)).map aB) 0)]) (fun k=>k≤bs.length) (fun k=>bs.length-k) 0 (Al _) sl ?_)));intro k hk;refine sg rfl (a8 (aA rfl (fun hb=>?_) (fun hb=>?_)))
 ·have J:=ltD hb y;obtain⟨b,q⟩:=aJ J;have Z:=cR q;have e1:(bs.take (k+1)).map Bind.name=(bs.take k).map Bind.name++[b.name]:=by rw[Bt,q,A6];rfl
  have e2:(bs.take (k+1)).map (lM bs)=(bs.take k).map (lM bs)++[lM bs b]:=by rw[Bt,q,A6];rfl
  have hl1:((bs.take k).map Bind.name).length≤12:=by rw[φ,Ap];omega
  have hl2:((bs.take k).map (lM bs)).length≤12:=by rw[φ,Ap];omega
  have hx1:(((bs.take k).map Bind.name).map bA).length=((bs.take k).map Bind.name).length:=φ _;have hx2:(((bs.take k).map (lM bs)).map aB).length=((bs.take k).map (lM bs)).length:=φ _;generalize (bs.take k).map Bind.name=N at *;generalize (bs.take k).map (lM bs)=L at *;refine aD (a8 (aC (sgh [(0,.row k (aS b))] rfl (sgh [(3,.all)] rfl (ag [(5,.all),(7,.all)] rfl (AWp.sub (Sub.arrWeak (x:=721) rfl (RowsLe.snoc (r':=aB (lM bs b)) ?_ (L.map aB))) ?_))))))
  ·repeat (first | exact .nil | apply Go.AM.CsLe.cons .refl | apply Go.AM.CsLe.cons .nl)
  refine ag [] rfl ⟨k+1,J,by dsimp only;omega,?_⟩;dsimp only;rw[e1,e2];exact sl
 have Y:=geD hb y hk;subst Y;rw[As];refine aL (AWp.sub (Sub.freeze (id:=720) rfl) ?_);refine AWp.sub (Sub.freeze (id:=721) rfl) ?_;refine skh 6 [(2,.row 0 (aB a))] rfl (kc O ?_);exact kz 1 rfl (aF (rtC trw))
def tkS (a:Alt) (c:Core):Bool:=decide (a.form=3) || (decide (a.form=2)&&(decide (c.form=3)&&decide (c.n=a.n)))
def tkC (a:Alt) (c:Core):Bool:=decide (a.form=1)&&(decide ((spH c).form=2)&&(decide ((spH c).name=a.name)&&decide ((spA c).length=a.vars.length)))
noncomputable def tkE (pt:Core→List Str→List Core→Core) (a:Alt) (c:Core):Option Core:=
 if tkS a c then some a.body else if tkC a c then some (pt a.body a.vars (spA c)) else none
theorem a0o (pt:Core→List Str→List Core→Core) (X:Nat) (al:List Alt) (c:Core) (hq:bU (QL X) c) (hsz:aQ c≤570000000000) (hl:al.length≤12)
  (hput:∀a∈al,tkC a c=true→aW Tryz.prog 138 [.pa (aB a.body),eE a.vars,.one (.c (.sl 10 ((spA c).map aB)))] [] (.pa (aB (pt a.body a.vars (spA c)))) []):
  aW Tryz.prog 99 [.one (.c (.sl 14 (bP al))),.pa (aB c)] [] (l9 (match al.findSome? fun a=>tkE pt a c with | some r=>(r,0) | none=>(zC,52))) []:=by
 have hsp:=aRi X c hq hsz;have hkA:(bP al).length=al.length:=by rw[bN,φ]
 unfold spV at hsp;have hcA:∀a,tkC a c=(decide (a.form=1)&&(decide ((spH c).form=2)&&(decide ((spH c).name=a.name)&&decide ((spA c).length=a.vars.length)))):=fun _=>rfl
 have hte:∀a,tkE pt a c=if tkS a c then some a.body else if tkC a c then some (pt a.body a.vars (spA c)) else none:=fun _=>rfl
 have hts:∀a,tkS a c=(decide (a.form=3) || (decide (a.form=2)&&(decide (c.form=3)&&decide (c.n=a.n)))):=fun _=>rfl
 generalize spH c=H at *;generalize spA c=A at *;obtain⟨f,n,s,t,ks,bs,O⟩:=c;obtain⟨hf,hn,hs,ht,hks,hbs,has⟩:=H;have hkL:(A.map aB).length=A.length:=φ _;refine bZ (n:=74) tok Tryz.func99 rfl rfl rfl ?_;refine sg rfl (sk 1 rfl (kc hsp ?_));refine kz 6 rfl (a8 (sg rfl (aC (aK (fun k:Nat=>mk [(3,.one (.vp 3 0)),(4,.one (.vp 4 0)),(6,.one (.vp 6 0)),(7,.one (.c (.sl 10 (A.map aB)))),(15,.one (.c (.sl 14 (bP al)))),(16,I .i64 ((bP al).length:Int)),(17,I .i64 k)] [(3,.var 30 (bF (.mk f n s t ks bs O))),(4,.var 30 dY),(6,.var 30 (bF (.mk hf hn hs ht hks hbs has)))]) (fun k=>k≤al.length∧(al.findSome? fun a=>tkE pt a (.mk f n s t ks bs O))=(al.drop k).findSome? fun a=>tkE pt a (.mk f n s t ks bs O)) (fun k=>al.length-k) 0 ⟨Al _,rfl⟩ sl ?_))));intro k ⟨hi,hid⟩;refine sg rfl (a8 (aA rfl (fun hb=>?_) (fun hb=>?_)))
 ·have hlt:=ltD hb hkA;obtain⟨x,hx⟩:=aJ hlt;have hxm:=δ hx;have hx':(bP al)[k]?=some (cO x):=by rw[bN];exact bT cO hx
  have hdr:al.drop k=x::al.drop (k+1):=by rw[Bl hlt,(ξ.1 hx).2]
  have hpx:=hput x hxm;have hcx:=hcA x;have hsx:=hts x;have Z:=hte x;rw[hdr,C5] at hid;obtain⟨af,an,J,y,Y⟩:=x;have hcx:tkC (.mk af an J y Y) (.mk f n s t ks bs O)=(decide (af=1)&&(decide (hf=2)&&(decide (hs=J)&&decide (A.length=y.length)))):=hcx;have hsx:tkS (.mk af an J y Y) (.mk f n s t ks bs O)=(decide (af=3) || (decide (af=2)&&(decide (f=3)&&decide (n=an)))):=hsx;have Z:tkE pt (.mk af an J y Y) (.mk f n s t ks bs O)=if tkS (.mk af an J y Y) (.mk f n s t ks bs O)=true then some Y else if tkC (.mk af an J y Y) (.mk f n s t ks bs O)=true then some (pt Y y A) else none:=Z
  rw[hcx,hsx] at Z;rw[hcx] at hpx;have hkV:(y.map bA).length=y.length:=φ _;refine aD (a8 (aC (sgh [(0,.row k (cO (.mk af an J y Y)))] rfl (aC ?_))));generalize hb0:(decide (af=3) || (decide (af=2)&&(decide (f=3)&&decide (n=an))))=b at *;generalize hq0:(decide (af=1)&&(decide (hf=2)&&(decide (hs=J)&&decide (A.length=y.length))))=q at *;refine a8 (AWp.cut (mk [(3,.one (.vp 3 0)),(4,.one (.vp 4 0)),(6,.one (.vp 6 0)),(7,.one (.c (.sl 10 (A.map aB)))),(15,.one (.c (.sl 14 (bP al)))),(16,I .i64 ((bP al).length:Int)),(17,I .i64 k),(9,.one (.vp 9 0)),(21,B b)] [(3,.var 30 (bF (.mk f n s t ks bs O))),(4,.var 30 dY),(6,.var 30 (bF (.mk hf hn hs ht hks hbs has))),(9,.var 73 ((cO (.mk af an J y Y)).map .c))]) ?_ ?_)
  ·refine sg rfl (aA rfl (fun hb=>?_) (fun hb=>?_))
   ·have h3:af=3:=ψ hb;have e:b=true:=by rw[←hb0,Ae h3];rfl
    exact aD (sl (he:=⟨rfl,rfl,rfl,rfl,rfl,rfl,rfl,rfl,(by show some (B (decide (af=3)))=some (B b);rw[e,Ae h3]),trivial⟩))
   ·have h3:¬af=3:=π hb;have e3:decide (af=3)=false:=Ag h3;by_cases h2:af=2
    ·have e2:decide (af=2)=true:=Ae h2;by_cases hc:f=3
     ·have ec:decide (f=3)=true:=Ae hc;have e:b=decide (n=an):=by rw[←hb0,e3,e2,ec];rfl
      exact ag [(3,.bv true),(7,.bv true),(8,.bv true),(14,.bv true)] rfl (sl (he:=⟨rfl,rfl,rfl,rfl,rfl,rfl,rfl,rfl,(by rw[e];rfl),trivial⟩))
     ·have ec:decide (f=3)=false:=Ag hc;have e:b=false:=by rw[←hb0,e3,e2,ec];rfl
      exact ag [(3,.bv true),(7,.bv true),(8,.bv false),(14,.bv false)] rfl (sl (he:=⟨rfl,rfl,rfl,rfl,rfl,rfl,rfl,rfl,(by rw[e];rfl),trivial⟩))
    ·have e2:decide (af=2)=false:=Ag h2;have e:b=false:=by rw[←hb0,e3,e2];rfl
     exact ag [(3,.bv false),(7,.bv false),(8,.bv false),(14,.bv false)] rfl (sl (he:=⟨rfl,rfl,rfl,rfl,rfl,rfl,rfl,rfl,(by rw[e];rfl),trivial⟩))
  cases b with
  | true=>
   have hid':(al.findSome? fun a=>tkE pt a (.mk f n s t ks bs O))=some Y:=by rw[hid,Z];rfl
   rw[hid'];exact aA rfl (fun _=>sg rfl (aF (p9 trw))) nofun
  | false=>
   refine aA rfl nofun (fun _=>a8 (AWp.cut (mk [(3,.one (.vp 3 0)),(4,.one (.vp 4 0)),(6,.one (.vp 6 0)),(7,.one (.c (.sl 10 (A.map aB)))),(15,.one (.c (.sl 14 (bP al)))),(16,I .i64 ((bP al).length:Int)),(17,I .i64 k),(9,.one (.vp 9 0)),(42,B q)] [(3,.var 30 (bF (.mk f n s t ks bs O))),(4,.var 30 dY),(6,.var 30 (bF (.mk hf hn hs ht hks hbs has))),(9,.var 73 ((cO (.mk af an J y Y)).map .c))]) ?_ ?_))
   ·by_cases h1:af=1
    ·have e1:decide (af=1)=true:=Ae h1;by_cases h2:hf=2
     ·have e2:decide (hf=2)=true:=Ae h2;by_cases h4:hs=J
      ·have e4:decide (hs=J)=true:=Ae h4;have e:q=decide ((A.length:Int)=(y.length:Int)):=by rw[←hq0,e1,e2,e4];simp[Int.ofNat_inj]
       exact ag [(3,.bv true),(7,.bv true),(8,.bv true),(14,.bv true),(15,.bv true),(22,.bv true)] rfl (sl (he:=⟨rfl,rfl,rfl,rfl,rfl,rfl,rfl,rfl,(by show some (B (decide (((A.map aB).length:Int)=((y.map bA).length:Int))))=some (B q);rw[e,hkL,hkV]),trivial⟩))
      ·have e4:decide (hs=J)=false:=Ag h4;have e:q=false:=by rw[←hq0,e1,e2,e4];rfl
       exact ag [(3,.bv true),(7,.bv true),(8,.bv true),(14,.bv true),(15,.bv false),(22,.bv false)] rfl (sl (he:=⟨rfl,rfl,rfl,rfl,rfl,rfl,rfl,rfl,(by rw[e];rfl),trivial⟩))
     ·have e2:decide (hf=2)=false:=Ag h2;have e:q=false:=by rw[←hq0,e1,e2];rfl
      exact ag [(3,.bv true),(7,.bv true),(8,.bv false),(14,.bv false),(15,.bv false),(22,.bv false)] rfl (sl (he:=⟨rfl,rfl,rfl,rfl,rfl,rfl,rfl,rfl,(by rw[e];rfl),trivial⟩))
    ·have e1:decide (af=1)=false:=Ag h1;have e:q=false:=by rw[←hq0,e1];rfl
     exact ag [(3,.bv false),(7,.bv false),(8,.bv false),(14,.bv false),(15,.bv false),(22,.bv false)] rfl (sl (he:=⟨rfl,rfl,rfl,rfl,rfl,rfl,rfl,rfl,(by rw[e];rfl),trivial⟩))
   cases q with
   | true=>
    have hpx:=hpx rfl;have hid':(al.findSome? fun a=>tkE pt a (.mk f n s t ks bs O))=some (pt Y y A):=by rw[hid,Z];rfl
    rw[hid'];refine aA rfl (fun _=>sk 5 rfl (kc hpx ?_)) nofun;exact kz 2 rfl (aF (p9 trw))
   | false=>
    refine aA rfl nofun (fun _=>aD (ag [] rfl ⟨k+1,⟨hlt,by rw[hid,Z];rfl⟩,by dsimp only;omega,?_⟩));exact sl
 have hge:=geD hb hkA hi;subst hge;rw[Cz] at hid;rw[hid];exact aL (sg rfl (aF (p9 trw)))
theorem aV0 (b:Bind) (f n:Int) (s:Str) (t:Ty) (ks:List Core) (bs:List Bind) (al:List Alt):aW Tryz.prog 96 ([.pa (aS b)]++[R.vp 3 0].map V.one) [(3,.var 30 (bF (.mk f n s t ks bs al)))] (B (decide (b.name=s))) [(3,.var 30 (bF (.mk f n s t ks bs al)))]:=by
 refine bZ (n:=9) tok Tryz.func96 rfl rfl rfl ?_;exact sgh [(0,.id 712)] rfl (sg rfl (aF rtT))
theorem aV4 (l:List Bind) (hl:l.length≤1000000000) (f n:Int) (s:Str) (t:Ty) (ks:List Core) (bs:List Bind) (al:List Alt):aW Tryz.prog 95 [.one (.c (.sl 15 (l.map aS))),.one (.clo 96 [.vp 3 0])] [(3,.var 30 (bF (.mk f n s t ks bs al)))] (I .i64 (aU9 (fun b:Bind=>decide (b.name=s)) l 0)) [(3,.var 30 (bF (.mk f n s t ks bs al)))]:=by
 have y:(l.map aS).length=l.length:=φ _;refine bZ (n:=19) tok Tryz.func95 rfl rfl rfl ?_;refine sg rfl (a8 (sg rfl (aC (aK (fun i:Nat=>mk [(0,.one (.c (.sl 15 (l.map aS)))),(1,.one (.clo 96 [.vp 3 0])),(7,I .i64 ((l.map aS).length:Int)),(8,I .i64 i)] [(3,.var 30 (bF (.mk f n s t ks bs al)))]) (fun i=>i≤l.length∧aU9 (fun b:Bind=>decide (b.name=s)) l 0=aU9 (fun b:Bind=>decide (b.name=s)) (l.drop i) i) (fun i=>l.length-i) 0 ⟨Al _,rfl⟩ sl ?_))));intro i ⟨hi,hid⟩;refine sg rfl (a8 (aA rfl (fun hb=>?_) (fun hb=>?_)))
 ·have q:=ltD hb y;obtain⟨b,J⟩:=aJ q;have Z:=bT aS J;have hc:=aV0 b f n s t ks bs al;have O:l.drop i=b::l.drop (i+1):=by rw[Bl q,(ξ.1 J).2]
  rw[O,aU9] at hid;refine aD (a8 (aC (sg rfl (skh 5 [(3,.row i (aS b))] rfl (kv (args:=[.pa (aS b)]) hc ?_)))));refine az (aA rfl (fun hb=>?_) (fun hb=>?_))
  ·rw[κ hb] at hid;rw[hid];exact sg rfl (aF rtT)
  ·rw[θ (by rw[show decide (b.name=s)=false from hb];exact An)] at hid;exact aD (ag [] rfl ⟨i+1,⟨q,hid⟩,by dsimp only;omega,sl⟩)
 have Y:=geD hb y hi;subst Y;rw[Cz,aU9] at hid;rw[hid];exact aL (sg rfl (aF rtT))
def maO (bd:List Bind) (c:Core):List (Nat×AObj):=[(2,.var 92 ((n9 bd).map .c)),(3,.var 30 (bF c))]
theorem qE (bd:List Bind) (c x:Core) (i:Nat) (p:CE) (hx:c.kids[i]?=some x) (hk:c.kids.length≤600000000000) (O:aW Tryz.prog 38 [.pa (n9 bd),.pa (aB x)] [] (l9 p) []):
  aW Tryz.prog 93 ([I .i64 (i:Int)]++[R.vp 2 0,R.vp 3 0].map V.one) (maO bd c) (l9 (sI false p (aCe c i))) (maO bd (aEi false p c i)):=by
 obtain⟨f,n,s,t,ks,bs,al⟩:=c;have hx:ks[i]?=some x:=hx;have hk:ks.length≤600000000000:=hk;have hi:i<ks.length:=(ξ.1 hx).1
 have Y:(aT ks).length=ks.length:=by rw[b7,φ]
 have Z:=qJ (aT ks) (by omega);have ab:(aT ks)[i]?=some (aB x):=by rw[b7];exact bT aB hx
 unfold maO;refine bZ (n:=32) tok Tryz.func93 rfl rfl rfl ?_;refine sg rfl (skh 6 [(4,.row i (aB x))] rfl (kc O ?_));refine kz 6 rfl (a8 (sg rfl (aA rfl (fun hb=>?_) (fun hb=>?_))))
 ·have he:¬p.2=0:=by
   intro h;have hb:(!decide (p.2=0))=true:=hb;rw[Ae h] at hb;cases hb
  have q:sI false p (aCe (.mk f n s t ks bs al) i)=(zC,p.2):=by unfold sI;rw[θ An,θ he]
  have y:aEi false p (.mk f n s t ks bs al) i=.mk f n s t ks bs al:=by unfold aEi;rw[θ An,θ he]
  rw[q,y];exact sg rfl (aF (p9 trw))
 ·have he:p.2=0:=by
   have hb:(!decide (p.2=0))=false:=hb;by_cases h:p.2=0
   ·exact h
   ·rw[Ag h] at hb;cases hb
  have q:sI false p (aCe (.mk f n s t ks bs al) i)=(aCe (.mk f n s t ks bs al) i p.1,0):=by unfold sI;rw[θ An,κ he]
  have y:aEi false p (.mk f n s t ks bs al) i=aCe (.mk f n s t ks bs al) i p.1:=by unfold aEi;rw[θ An,κ he]
  rw[q,y];obtain⟨r,pe⟩:=p;have J:(aT ks).set i (aB r)=aT (ks.set i r):=by rw[b7,b7,aY5]
  have aa:(aT (ks.set i r)).length=ks.length:=by rw[b7,φ,Cn]
  refine aD (sk 2 rfl (kc Z ?_));refine kz 2 rfl (sgh [(5,.row i (aB x))] rfl (AWp.sub (Sub.freeze (id:=702) rfl) ?_));refine AWp.sub (Sub.varPure (x:=3) (cs:=aB (.mk f n s t (ks.set i r) bs al)) rfl (.c .refl (.c .refl (.c .refl (.c .refl (.c .refl (.c .refl (.c .refl (.hs rfl (by rw[Cn]) (by rw[B3];show aT (ks.set i r)=List.take (aT ks).length ((aT ks).set i (aB r));rw[J,Az];rw[aa,Y];exact le_refl _) (.c .refl (.c .refl .nil))))))))))) ?_;exact sg rfl (aF (p9 trw))
section
variable {bd:List Bind}{i:Int}{s:Str}{t:Ty}{a b:Core}{ks:List Core}{bs:List Bind}{al:List Alt}{p:CE}
theorem a8i {n':Int}{s':Str}{t':Ty}{x r:Core}(q:aW Tryz.prog 97 [.pa (aB x),Go.AM.T s',.pa (aB b)] [] (.pa (aB r)) []):aW Tryz.prog 38 [.pa (n9 bd),.pa (aB (.mk 4 i s t [.mk 5 n' s' t' [x] [] [],b] [] []))] [] (l9 (r,0)) []:=by
 refine bZ (n:=113) tok Tryz.func38 rfl rfl rfl ?_;refine sg rfl (sg rfl (a8 (sg rfl (aC (sg rfl (aA rfl (fun hb=>absurd hb (by simp[Core.form])) (fun _=>sg rfl (aA rfl (fun _=>sgh [(2,.row 0 (aB (.mk 5 n' s' t' [x] [] [])))] rfl (aC (sg rfl (aA rfl (fun _=>skh 10 [(2,.row 0 (aB x)),(8,.row 1 (aB b))] rfl (kc q ?_)) (fun hb=>absurd hb (by simp[Core.form])))))) (fun hb=>absurd hb (by simp[Core.form]))))))))));exact kz 2 rfl (aF (p9 trw))
theorem a8j (J:¬a.form=5) (q:aW Tryz.prog 37 [.pa (aB a)] [] (B (shE a)) []) (y:shE a=false→aW Tryz.prog 38 [.pa (n9 bd),.pa (aB a)] [] (l9 p) []):
  aW Tryz.prog 38 [.pa (n9 bd),.pa (aB (.mk 4 i s t [a,b] [] []))] [] (l9 (if ¬shE a=true then sI false p (aCe (.mk 4 i s t [a,b] [] []) 0) else(zC,51))) []:=by
 refine bZ (n:=113) tok Tryz.func38 rfl rfl rfl ?_;refine sg rfl (sg rfl (a8 (sg rfl (aC (sg rfl (aA rfl (fun hb=>absurd hb (by simp[Core.form])) (fun _=>sg rfl (aA rfl (fun _=>sgh [(2,.row 0 (aB a))] rfl (aC (sg rfl (aA rfl (fun hb=>absurd (ψ hb) J) (fun _=>sk 1 rfl (kc q ?_)))))) (fun hb=>absurd hb (by simp[Core.form]))))))))));refine kz 2 rfl ?_;cases hs:shE a with
 | false=>
  have hw:=qE bd (.mk 4 i s t [a,b] [] []) a 0 p rfl (show 2≤600000000000 by decide) (y hs);unfold maO at hw;rw[κ An];refine aA rfl (fun _=>sk 1 rfl (kv (args:=[I .i64 ((0:Nat):Int)]) hw ?_)) (fun hb=>absurd hb (by simp));exact kz 4 rfl (aF (p9 trw))
 | true=>
  rw[θ (fun h=>h rfl)];exact aA rfl (fun hb=>absurd hb (by simp)) (fun _=>aD (sg rfl (aF (p9 trw))))
theorem a9v {r:Core}(y:bs.length≤12) (q:aW Tryz.prog 138 [.pa (aB a),eE (bs.map Bind.name),.one (.c (.sl 10 ((bs.map (lM bs)).map aB)))] [] (.pa (aB r)) []):
  aW Tryz.prog 38 [.pa (n9 bd),.pa (aB (.mk 8 i s t [a] bs []))] [] (l9 (r,0)) []:=by
 have hu:=aRg i s t a r bs y q;refine bZ (n:=113) tok Tryz.func38 rfl rfl rfl ?_;refine sg rfl (sg rfl (a8 (sg rfl (aC (sg rfl (aA rfl (fun hb=>absurd hb (by simp[Core.form])) (fun _=>sg rfl (aA rfl (fun hb=>absurd hb (by simp[Core.form])) (fun _=>sg rfl (aA rfl (fun _=>sk 1 rfl (kc hu ?_)) (fun hb=>absurd hb (by simp[Core.form]))))))))))));exact kz 2 rfl (aF (p9 trw))
theorem a9w (hm:bd.length≤1000000000):aW Tryz.prog 38 [.pa (n9 bd),.pa (aB (.mk 1 i s t ks bs al))] [] (l9 (match bd.find? fun b=>decide (b.name=s) with | some b=>(b.body,0) | none=>(zC,51))) []:=by
 have q:=aV4 bd hm 1 i s t ks bs al;rcases aEl (fun b:Bind=>decide (b.name=s)) bd 0 with⟨k,b,h1,h2,h3⟩ | ⟨h1,h3⟩
 ·rw[h1,Be] at q;rw[h3];have y:=bT aS h2;have I:=(ξ.1 h2).1
  refine bZ (n:=113) tok Tryz.func38 rfl rfl rfl ?_;refine sg rfl (sg rfl (a8 (sg rfl (aC (sg rfl (aA rfl (fun _=>sk 3 rfl (kc q ?_)) (fun hb=>absurd hb (by simp[Core.form]))))))));exact kz 1 rfl (sg rfl (aA rfl (fun _=>sgh [(3,.row k (aS b))] rfl (aF (p9 trw))) (fun hb=>absurd (π hb) (by omega))))
 ·rw[h1] at q;rw[h3];refine bZ (n:=113) tok Tryz.func38 rfl rfl rfl ?_;refine sg rfl (sg rfl (a8 (sg rfl (aC (sg rfl (aA rfl (fun _=>sk 3 rfl (kc q ?_)) (fun hb=>absurd hb (by simp[Core.form]))))))));exact kz 1 rfl (sg rfl (aA rfl (fun hb=>absurd hb (by decide)) (fun _=>aD (sg rfl (aF (p9 trw))))))
theorem a9u {r:CE}(y:aW Tryz.prog 37 [.pa (aB a)] [] (B (shE a)) []) (J:shE a=false→aW Tryz.prog 38 [.pa (n9 bd),.pa (aB a)] [] (l9 p) [])
  (q:shE a=true→aW Tryz.prog 99 [.one (.c (.sl 14 (bP al))),.pa (aB a)] [] (l9 r) []):
  aW Tryz.prog 38 [.pa (n9 bd),.pa (aB (.mk 9 i s t [a] [] al))] [] (l9 (if ¬shE a=true then sI false p (aCe (.mk 9 i s t [a] [] al) 0) else r)) []:=by
 refine bZ (n:=113) tok Tryz.func38 rfl rfl rfl ?_;refine sg rfl (sg rfl (a8 (sg rfl (aC (sg rfl (aA rfl (fun hb=>absurd hb (by simp[Core.form])) (fun _=>sg rfl (aA rfl (fun hb=>absurd hb (by simp[Core.form])) (fun _=>sg rfl (aA rfl (fun hb=>absurd hb (by simp[Core.form])) (fun _=>sg rfl (aA rfl (fun _=>a8 (skh 4 [(2,.row 0 (aB a))] rfl (kc y ?_))) (fun hb=>absurd hb (by simp[Core.form]))))))))))))));refine kz 1 rfl ?_;cases hs:shE a with
 | false=>
  have hw:=qE bd (.mk 9 i s t [a] [] al) a 0 p rfl (show 1≤600000000000 by decide) (J hs);unfold maO at hw;rw[κ An];refine aA rfl (fun _=>sk 1 rfl (kv (args:=[I .i64 ((0:Nat):Int)]) hw ?_)) (fun hb=>absurd hb (by decide));exact kz 4 rfl (aF (p9 trw))
 | true=>
  have q:=q hs;rw[θ (fun h=>h rfl)];refine aA rfl (fun hb=>absurd hb (by decide)) (fun _=>aD (skh 6 [(4,.row 0 (aB a))] rfl (kc q ?_)));exact kz 4 rfl (aF (p9 trw))
theorem a8k {q:CE}(y:aW Tryz.prog 37 [.pa (aB a)] [] (B (shE a)) []) (J:aW Tryz.prog 37 [.pa (aB b)] [] (B (shE b)) [])
  (O:shE a=false→aW Tryz.prog 38 [.pa (n9 bd),.pa (aB a)] [] (l9 p) []) (Y:shE b=false→aW Tryz.prog 38 [.pa (n9 bd),.pa (aB b)] [] (l9 q) []):
  aW Tryz.prog 38 [.pa (n9 bd),.pa (aB (.mk 10 i s t [a,b] [] []))] [] (l9 (if ¬shE a=true then sI false p (aCe (.mk 10 i s t [a,b] [] []) 0) else if ¬shE b=true then sI false q (aCe (.mk 10 i s t [a,b] [] []) 1) else if a.form=3∧b.form=3 then gP s a.n b.n else(zC,51))) []:=by
 have Z:=a0q bd i s t a b;refine bZ (n:=113) tok Tryz.func38 rfl rfl rfl ?_;refine sg rfl (sg rfl (a8 (sg rfl (aC (sg rfl (aA rfl (fun hb=>absurd hb (by simp[Core.form])) (fun _=>sg rfl (aA rfl (fun hb=>absurd hb (by simp[Core.form])) (fun _=>sg rfl (aA rfl (fun hb=>absurd hb (by simp[Core.form])) (fun _=>sg rfl (aA rfl (fun hb=>absurd hb (by simp[Core.form])) (fun _=>sg rfl (aA rfl (fun _=>a8 (aC (skh 4 [(2,.row 0 (aB a))] rfl (kc y ?_)))) (fun hb=>absurd hb (by simp[Core.form]))))))))))))))));refine kz 2 rfl ?_;cases hs:shE a with
 | false=>
  have hw:=qE bd (.mk 10 i s t [a,b] [] []) a 0 p rfl (show 2≤600000000000 by decide) (O hs);unfold maO at hw;rw[κ An];refine aA rfl (fun _=>sk 1 rfl (kv (args:=[I .i64 ((0:Nat):Int)]) hw ?_)) (fun hb=>absurd hb (by decide));exact kz 4 rfl (aF (p9 trw))
 | true=>
  rw[θ (fun h=>h rfl)];refine aA rfl (fun hb=>absurd hb (by decide)) (fun _=>skh 4 [(2,.row 1 (aB b))] rfl (kc J ?_));refine kz 2 rfl ?_;cases aa:shE b with
  | false=>
   have hw:=qE bd (.mk 10 i s t [a,b] [] []) b 1 q rfl (show 2≤600000000000 by decide) (Y aa);unfold maO at hw;rw[κ An];refine aA rfl (fun _=>sk 1 rfl (kv (args:=[I .i64 ((1:Nat):Int)]) hw ?_)) (fun hb=>absurd hb (by decide));exact kz 4 rfl (aF (p9 trw))
  | true=>
   rw[θ (fun h=>h rfl)];refine aA rfl (fun hb=>absurd hb (by decide)) (fun _=>aD (sk 2 rfl (kc Z ?_)));exact kz 4 rfl (aF (p9 trw))
theorem a9t {f:Int}(h1:¬f=1) (h4:¬f=4) (I:¬f=8) (J:¬f=9) (y:¬f=10):aW Tryz.prog 38 [.pa (n9 bd),.pa (aB (.mk f i s t ks bs al))] [] (l9 (if f=11 then(zC,52) else(zC,51))) []:=by
 refine bZ (n:=113) tok Tryz.func38 rfl rfl rfl ?_;refine sg rfl (sg rfl (a8 (sg rfl (aC (sg rfl (aA rfl (fun hb=>absurd (ψ hb) h1) (fun _=>sg rfl (aA rfl (fun hb=>absurd (ψ hb) h4) (fun _=>sg rfl (aA rfl (fun hb=>absurd (ψ hb) I) (fun _=>sg rfl (aA rfl (fun hb=>absurd (ψ hb) J) (fun _=>sg rfl (aA rfl (fun hb=>absurd (ψ hb) y) (fun _=>sg rfl ?_)))))))))))))));by_cases q:f=11
 ·rw[κ q];exact aA rfl (fun _=>sg rfl (aF (p9 trw))) (fun hb=>absurd q (π hb))
 ·rw[θ q];exact aA rfl (fun hb=>absurd (ψ hb) q) (fun _=>aD (sg rfl (aF (p9 trw))))
end
def whE (sf:Core→CE):Nat→Nat→Core→Core×Nat×Int
 | 0,n,c=>if shE c=true then(c,n,0) else(zC,0,3)
 | k+1,n,c=>if shE c=true then(c,n,0) else
  if(sf c).2=0 then(if 6000<eO (sf c).1 then(zC,0,2) else whE sf k (n+1) (sf c).1) else(zC,0,(sf c).2)
def a6h (w:Core×Nat×Int):V:=.tup [.pa (aB w.1),I .i64 w.2.1,I .i64 w.2.2]
theorem a5r (c:Core) (h:aW Tryz.prog 101 [.pa (aB c)] [] (.pa (aB c)) []):aW Tryz.prog 39 [.pa (aB c),.one (.c (.sl 10 []))] [] (.pa (aB c)) []:=by
 refine bZ (n:=23) tok Tryz.func39 rfl rfl rfl ?_;refine sg rfl (sgh [(1,.pc (.pa (aB c)))] rfl (a8 (sg rfl (aC (aK (fun _:Unit=>mk [(4,.one (.vp 4 0)),(5,.one (.vp 5 0)),(11,I .i64 0),(12,I .i64 0)] [(4,.var 30 dY),(5,.var 30 (bF c))]) (fun _=>True) (fun _=>0) () trivial sl ?_)))));intro _ _;exact sg rfl (a8 (aA rfl nofun (fun _=>aL (sg rfl (aF (rtC trw))))))
theorem a0x (sf:Core→CE) (bd:List Bind) (F:Nat) (Iv:Nat→Core→Prop) (c:Core) (hF:F≤1000) (h0:Iv 0 c)
  (hI:∀j x,j≤F→Iv j x→bU (QL 403) x∧aQ x≤570000000000∧aW Tryz.prog 101 [.pa (aB x)] [] (.pa (aB x)) [])
  (hS:∀j x,j<F→Iv j x→shE x=false→aW Tryz.prog 38 [.pa (n9 bd),.pa (aB x)] [] (l9 (sf x)) []∧((sf x).2=0→(LC (sf x).1∧eO (sf x).1≤9000000000000000000)∧(¬6000<eO (sf x).1→Iv (j+1) (sf x).1))):
  aW Tryz.prog 9 [.one (.c (.sl 15 (bd.map aS))),.pa (aB c),I .i64 F] [] (a6h (whE sf F 0 c)) []:=by
 refine bZ (n:=43) tok Tryz.func9 rfl rfl rfl ?_;refine sg rfl (sk 1 rfl (kc a5g ?_));refine kz 3 rfl (sg rfl (a8 (aC (aK (fun p:Nat×Core=>mk [(2,I .i64 F),(4,.one (.vp 4 0)),(6,.one (.vp 6 0)),(9,.one (.vp 9 0)),(10,I .i64 p.1)] [(9,.var 92 ((n9 bd).map .c)),(4,.var 30 (bF p.2)),(6,.var 30 dY)]) (fun p=>p.1≤F∧Iv p.1 p.2∧whE sf F 0 c=whE sf (F-p.1) p.1 p.2) (fun p=>F-p.1) (0,c) ⟨Al _,h0,rfl⟩ sl ?_))));rintro⟨j,x⟩ ⟨hj,hx,hw⟩;dsimp only at hj hx hw ⊢;obtain⟨hq,aa,Y⟩:=hI j x hj hx;have ab:=aK0 403 x hq aa;refine a8 (sk 1 rfl (kc ab ?_));refine kz 1 rfl ?_;cases hs:shE x with
 | true=>
  have e:whE sf F 0 c=(x,j,0):=by
   rw[hw];cases F-j with
   | zero=>rw[whE,κ hs]
   | succ k=>rw[whE,κ hs]
  have ac:=a5r x Y;rw[e];refine aA rfl (fun hb=>absurd hb (by decide)) (fun _=>aL (sk 1 rfl (kc ac ?_)));exact kz 4 rfl (aF (a6n trw))
 | false=>
  have J:¬shE x=true:=by rw[hs];exact An
  refine aA rfl (fun _=>aD (a8 (aC (a8 (sg rfl (aA rfl (fun hb=>?_) (fun hb=>?_))))))) (fun hb=>absurd hb (by decide))
  ·have y:j=F:=by have:=ψ hb;omega
   have e:whE sf F 0 c=(zC,0,3):=by rw[hw,y,C7,whE,θ J]
   rw[e];exact sg rfl (aF (a6n trw))
  have y:j<F:=by have:=π hb;omega
  obtain⟨k,hk⟩:∃k,F-j=k+1:=⟨F-j-1,by omega⟩
  obtain⟨ad,hok⟩:=hS j x y hx hs;rw[hk,whE,θ J] at hw;generalize sf x=p at *;obtain⟨r,e⟩:=p;dsimp only at hok hw ⊢;refine aD (sk 2 rfl (kc ad ?_));refine kz 6 rfl (a8 (sg rfl ?_));by_cases he:e=0
  ·subst he;obtain⟨O,Z⟩:=hok rfl;have ae:=aRj (aQ r) r (le_refl _) O.1 O.2;rw[κ rfl] at hw;refine aA rfl (fun hb=>absurd hb (by simp)) (fun _=>aD (sg rfl (sk 1 rfl (kc ae ?_))));refine kz 1 rfl ?_;by_cases q:6000<eO r
   ·rw[κ q] at hw;rw[hw];exact aA rfl (fun _=>sg rfl (aF (a6n trw))) (fun hb=>absurd hb (by simp;omega))
   ·rw[θ q] at hw;exact aA rfl (fun hb=>absurd hb (by simp;omega)) (fun _=>aD (ag [] rfl ⟨(j+1,r),⟨y,Z q,by rw[hw];congr 1;omega⟩,by dsimp only;omega,sl⟩))
  ·rw[θ he] at hw;rw[hw];exact aA rfl (fun _=>sg rfl (aF (a6n trw))) (fun hb=>absurd hb (by simp[he]))
def iQ (ρ:Str→Nat) (L:List Str):Str→Nat:=fun x=>if x∈L then 1+w30 x else ρ x
mutual
def wS (ρ:Str→Nat):Core→Nat
 | .mk f _ s _ ks bs al=>(if f=1 then ρ s else 1+w30 s)+wSs (iQ ρ (gvN f s bs)) ks+wSb (iQ ρ (gvN f s bs)) bs+wSa ρ al
def wSs (ρ:Str→Nat):List Core→Nat
 | []=>0
 | c::l=>wS ρ c+wSs ρ l
def wSb (ρ:Str→Nat):List Bind→Nat
 | []=>0
 | .mk s _ c::l=>1+w30 s+wS ρ c+wSb ρ l
def wSa (ρ:Str→Nat):List Alt→Nat
 | []=>0
 | .mk _ _ s vs c::l=>1+w30 s+(vs.map fun v=>1+w30 v).sum+wS (iQ ρ vs) c+wSa ρ l
end
theorem uL {ρ ρ':Str→Nat}(h:∀x,ρ x≤ρ' x) (L:List Str) (x:Str):iQ ρ L x≤iQ ρ' L x:=by
 unfold iQ;split
 ·exact le_refl _
 ·exact h x
mutual
theorem mD {ρ ρ':Str→Nat}(h:∀x,ρ x≤ρ' x):∀c:Core,wS ρ c≤wS ρ' c
 | .mk f n s t ks bs al=>by
  rw[wS,wS];have h1:=aIj (uL h (gvN f s bs)) ks;have h2:=aIl (uL h (gvN f s bs)) bs;have h3:=aIn h al;have h4:=h s;split<;>omega
theorem aIj {ρ ρ':Str→Nat}(h:∀x,ρ x≤ρ' x):∀l:List Core,wSs ρ l≤wSs ρ' l
 | []=>by rw[wSs,wSs];exact le_refl _
 | c::l=>by rw[wSs,wSs];have:=mD h c;have:=aIj h l;omega
theorem aIl {ρ ρ':Str→Nat}(h:∀x,ρ x≤ρ' x):∀l:List Bind,wSb ρ l≤wSb ρ' l
 | []=>by rw[wSb,wSb];exact le_refl _
 | .mk s t c::l=>by rw[wSb,wSb];have:=mD h c;have:=aIl h l;omega
theorem aIn {ρ ρ':Str→Nat}(h:∀x,ρ x≤ρ' x):∀l:List Alt,wSa ρ l≤wSa ρ' l
 | []=>by rw[wSa,wSa];exact le_refl _
 | .mk f n s vs c::l=>by rw[wSa,wSa];have:=mD (uL h vs) c;have:=aIn h l;omega
end
theorem aGv {ρ:Str→Nat}(h:∀x,ρ x=1+w30 x) (L:List Str) (x:Str):iQ ρ L x=1+w30 x:=by
 unfold iQ;split
 ·rfl
 ·exact h x
mutual
theorem aCh {ρ:Str→Nat}(h:∀x,ρ x=1+w30 x):∀c:Core,wS ρ c=m30 c
 | .mk f n s t ks bs al=>by
  rw[wS,m30,aNf (aGv h (gvN f s bs)) ks,aNg (aGv h (gvN f s bs)) bs,aNh h al,h s,ite_self]
theorem aNf {ρ:Str→Nat}(h:∀x,ρ x=1+w30 x):∀l:List Core,wSs ρ l=gM l
 | []=>by rw[wSs,gM]
 | c::l=>by rw[wSs,gM,aCh h c,aNf h l]
theorem aNg {ρ:Str→Nat}(h:∀x,ρ x=1+w30 x):∀l:List Bind,wSb ρ l=j9 l
 | []=>by rw[wSb,j9]
 | .mk s t c::l=>by rw[wSb,j9,aCh h c,aNg h l]
theorem aNh {ρ:Str→Nat}(h:∀x,ρ x=1+w30 x):∀l:List Alt,wSa ρ l=l7 l
 | []=>by rw[wSa,l7]
 | .mk f n s vs c::l=>by rw[wSa,l7,aCh (aGv h vs) c,aNh h l]
end
theorem aO7 {ρ ρ':Str→Nat}{L:List Str}{x:Str}(h:¬x∈L→ρ x=ρ' x):iQ ρ L x=iQ ρ' L x:=by
 unfold iQ;split
 ·rfl
 ·rename_i hx;exact h hx
mutual
theorem qQ {X:Nat}:∀c:Core,bU (QL X) c→∀ρ ρ':Str→Nat,(∀x∈pfR c,ρ x=ρ' x)→wS ρ c=wS ρ' c
 | .mk f n s t ks bs al,h,ρ,ρ',hp=>by
  obtain⟨_,J,O,Y⟩:=aM.1 h;rw[wS,wS];by_cases h1:f=1
  ·obtain⟨rfl,rfl,rfl⟩:=wC h h1;rw[κ h1,κ h1,hp s (by rw[pfR,κ h1];exact Ab.2 rfl)];simp only[wSs,wSb,wSa]
  ·rw[θ h1,θ h1];have I:∀p∈ks++bs.map Bind.body,∀x∈pfR p,iQ ρ (gvN f s bs) x=iQ ρ' (gvN f s bs) x:=fun p q x hx=>aO7 fun y=>hp x ((cZ h1).2 (.inl ⟨p,q,hx,y⟩))
   have ha:∀a∈al,∀x∈pfR a.body,iQ ρ a.vars x=iQ ρ' a.vars x:=fun a ha x hx=>aO7 fun y=>hp x ((cZ h1).2 (.inr ⟨a,ha,hx,y⟩))
   rw[aIk ks J _ _ fun p q=>I p (ω.2 (.inl q)),aIm bs O _ _ fun b hb=>I b.body (ω.2 (.inr (Ah.2 ⟨b,hb,rfl⟩))),aIo al Y _ _ ha]
theorem aIk {X:Nat}:∀l:List Core,(∀c∈l,bU (QL X) c)→∀ρ ρ':Str→Nat,(∀c∈l,∀x∈pfR c,ρ x=ρ' x)→wSs ρ l=wSs ρ' l
 | [],_,_,_,_=>by rw[wSs,wSs]
 | c::l,h,ρ,ρ',hp=>by rw[wSs,wSs,qQ c (h c η) ρ ρ' (hp c η),aIk l (fun x hx=>h x (χ _ hx)) ρ ρ' fun x hx=>hp x (χ _ hx)]
theorem aIm {X:Nat}:∀l:List Bind,(∀c∈l,bU (QL X) c.body)→∀ρ ρ':Str→Nat,(∀c∈l,∀x∈pfR c.body,ρ x=ρ' x)→wSb ρ l=wSb ρ' l
 | [],_,_,_,_=>by rw[wSb,wSb]
 | .mk s t c::l,h,ρ,ρ',hp=>by rw[wSb,wSb,qQ c (h _ η) ρ ρ' (hp _ η),aIm l (fun x hx=>h x (χ _ hx)) ρ ρ' fun x hx=>hp x (χ _ hx)]
theorem aIo {X:Nat}:∀l:List Alt,(∀c∈l,bU (QL X) c.body)→∀ρ ρ':Str→Nat,(∀c∈l,∀x∈pfR c.body,iQ ρ c.vars x=iQ ρ' c.vars x)→wSa ρ l=wSa ρ' l
 | [],_,_,_,_=>by rw[wSa,wSa]
 | .mk f n s vs c::l,h,ρ,ρ',hp=>by rw[wSa,wSa,qQ c (h _ η) (iQ ρ vs) (iQ ρ' vs) (hp _ η),aIo l (fun x hx=>h x (χ _ hx)) ρ ρ' fun x hx=>hp x (χ _ hx)]
end
def otN (s:Str) (n:Nat):Str:=s++64::Lib.decDigits n
theorem a0i (n:Nat):¬(64:UInt8)∈Lib.decDigits n:=by
 induction n using Nat.strongRecOn with
 | _ n q=>
  rw[Lib.decDigits];split
  ·rename_i h;intro hm;have:n<10:=h
   match n,this with
   | 0,_ | 1,_ | 2,_ | 3,_ | 4,_ | 5,_ | 6,_ | 7,_ | 8,_ | 9,_=>simp_all (config:={ decide:=true })
  ·rename_i h;intro hm;rcases ω.1 hm with hm | hm
   ·exact q (n/10) (by omega) hm
   ·have:n%10<10:=Nat.mod_lt _ (by decide);generalize n%10=d at hm this
    match d,this with
    | 0,_ | 1,_ | 2,_ | 3,_ | 4,_ | 5,_ | 6,_ | 7,_ | 8,_ | 9,_=>simp_all (config:={ decide:=true })
theorem aSo {a q d I:Str}(h:a++64::d=q++64::I) (hd:¬(64:UInt8)∈d) (J:¬(64:UInt8)∈I):a=q∧d=I:=by
 induction a generalizing q with
 | nil=>
  cases q with
  | nil=>simp at h;exact⟨rfl,h⟩
  | cons x q=>
   simp only[A3,A1,List.cons.injEq] at h;exact absurd (by rw[h.2];simp) hd
 | cons y a O=>
  cases q with
  | nil=>
   simp only[A3,A1,List.cons.injEq] at h;exact absurd (by rw[←h.2];simp) J
  | cons x q=>
   simp only[A1,List.cons.injEq] at h;obtain⟨h1,h2⟩:=O h.2;exact⟨by rw[h.1,h1],h2⟩
theorem aPb {s s':Str}{n n':Nat}(h:otN s n=otN s' n'):s=s'∧n=n':=by
 obtain⟨h1,h2⟩:=aSo h (a0i n) (a0i n');exact⟨h1,aX4 _ _ h2⟩
theorem aPg (tk:List Str) (s:Str) (m:Nat):∃n,m≤n∧n≤m+tk.length∧¬otN s n∈tk∧∀k,m≤k→k<n→otN s k∈tk:=by
 have h1:∃n,m≤n∧n≤m+tk.length∧¬otN s n∈tk:=by
  refine Classical.byContradiction fun q=>?_
  have y:∀k,k≤tk.length→otN s (m+k)∈tk:=fun k hk=>Classical.byContradiction fun h=>q ⟨m+k,by omega,by omega,h⟩
  have I:((List.range (tk.length+1)).map fun k=>otN s (m+k)).Nodup:=by
   rw[List.Nodup,List.pairwise_map];exact List.Pairwise.imp (fun h e=>h (by have:=(aPb e).2;omega)) List.nodup_range
  have:=lJ _ tk I fun x hx=>by
   obtain⟨k,hk,rfl⟩:=Ah.1 hx;exact y k (by have:=mem_range.1 hk;omega)
  rw[φ,List.length_range] at this;omega
 obtain⟨n,Y,Z,J⟩:=h1;have key:∀d n,n=m+d→¬otN s n∈tk→∃n',m≤n'∧n'≤n∧¬otN s n'∈tk∧∀k,m≤k→k<n'→otN s k∈tk:=by
  intro d
  induction d using Nat.strongRecOn with
  | _ d O=>
   intro n hn q;by_cases h:∃k,m≤k∧k<n∧¬otN s k∈tk
   ·obtain⟨k,h1,h2,h3⟩:=h;obtain⟨n',g1,g2,g3,g4⟩:=O (k-m) (by omega) k (by omega) h3;exact⟨n',g1,by omega,g3,g4⟩
   ·exact⟨n,by omega,le_refl _,q,fun k h1 h2=>Classical.byContradiction fun h3=>h ⟨k,h1,h2,h3⟩⟩
 obtain⟨n',g1,g2,g3,g4⟩:=key (n-m) n (by omega) J;exact⟨n',g1,by omega,g3,g4⟩
noncomputable def mR (tk:List Str) (s:Str) (m:Nat):Nat:=Classical.choose (aPg tk s m)
theorem jB (tk:List Str) (s:Str) (m:Nat):m≤mR tk s m∧mR tk s m≤m+tk.length∧¬otN s (mR tk s m)∈tk∧∀k,m≤k→k<mR tk s m→otN s k∈tk:=Ch (aPg tk s m)
noncomputable def nM (tk:List Str):List Str→Nat→List Str
 | [],_=>[]
 | s::l,m=>otN s (mR tk s m)::nM tk l (mR tk s m+1)
def dR (c:Core) (names:List Str) (l:List Core):List Str:=pfR c++names++l.flatMap pfR
noncomputable def qM (c:Core) (names:List Str) (l:List Core):Core:=mL (iE c (names.zip (nM (dR c names l) names 0))) ((nM (dR c names l) names 0).zip l)
def sO (ρ:Str→Nat) (s:Str) (w:Nat):Str→Nat:=fun x=>if x=s then w else ρ x
theorem aYq {X:Nat}{c:Core}(h:bU (QL X) c) {ρ ρ':Str→Nat}(hp:∀x∈pfR c,ρ x≤ρ' x):wS ρ c≤wS ρ' c:=by
 have e:wS ρ c=wS (fun x=>if x∈pfR c then ρ x else 0) c:=qQ c h _ _ (fun x hx=>by rw[κ hx]);rw[e];refine mD (fun x=>?_) c;by_cases hx:x∈pfR c
 ·rw[κ hx];exact hp x hx
 ·rw[θ hx];exact Al _
theorem a2c (ρ:Str→Nat) (z:Str):wS ρ (vC z)=ρ z:=by
 unfold vC;rw[wS,κ rfl,wSs,wSb,wSa];rfl
theorem aO6 {ρ ρ':Str→Nat}{L L':List Str}{x:Str}(h1:x∈L→x∈L'∨1+w30 x≤ρ' x) (h2:¬x∈L→¬x∈L'→ρ x≤ρ' x) (h3:¬x∈L→x∈L'→ρ x≤1+w30 x):iQ ρ L x≤iQ ρ' L' x:=by
 unfold iQ;by_cases a:x∈L
 ·rw[κ a];by_cases b:x∈L'
  ·rw[κ b];exact le_refl _
  ·rw[θ b];exact(h1 a).resolve_left b
 ·rw[θ a];by_cases b:x∈L'
  ·rw[κ b];exact h3 a b
  ·rw[θ b];exact h2 a b
section
variable {sb:Core→Str→Core→Core}{P:Core→Prop}
theorem vA {far:List Str}{Q:Str→Prop}:∀{ns:List Str}{st:List Str×List Core×List Str},(∀x∈far,x∈st.2.2)→(∀x,Q x→x∈st.2.2)→(∀x∈st.1,¬x∈far∧¬Q x)→(∀x∈ns,¬Q x)→∀x∈(jX sb far ns st).1,¬x∈far∧¬Q x
 | [],st,_,_,h3,_=>h3
 | n::ns,st,h1,h2,h3,h4=>by
  have e:jX sb far (n::ns) st=jX sb far ns (eV sb far st n):=rfl;rw[e];have h4':∀x∈ns,¬Q x:=fun x hx=>h4 x (χ _ hx)
  by_cases hn:n∈far
  ·have es:eV sb far st n=(st.1++[bE st.2.2],st.2.1.map (fun p=>sb p n (vC (bE st.2.2))),st.2.2++[bE st.2.2]):=by unfold eV;rw[κ hn]
   rw[es];refine vA (fun x hx=>ω.2 (.inl (h1 x hx))) (fun x hx=>ω.2 (.inl (h2 x hx))) (fun x hx=>?_) h4';rcases ω.1 hx with hx | hx
   ·exact h3 x hx
   ·rw[Ab.1 hx];exact⟨fun h=>r8 _ (h1 _ h),fun h=>r8 _ (h2 _ h)⟩
  ·have es:eV sb far st n=(st.1++[n],st.2.1,st.2.2):=by unfold eV;rw[θ hn]
   rw[es];refine vA h1 h2 (fun x hx=>?_) h4';rcases ω.1 hx with hx | hx
   ·exact h3 x hx
   ·rw[Ab.1 hx];exact⟨hn,h4 n η⟩
theorem aQo {X:Nat}{far:List Str}(Z:∀p,P p→bU (QL X) p) (hz:∀p n z,P p→z.length≤30→P (sb p n (vC z))∧(∀x∈pfR (sb p n (vC z)),x∈pfR p∨x=z)∧∀ρ,wS ρ (sb p n (vC z))≤wS (sO ρ n (ρ z)) p):
  ∀{ns:List Str} {st:List Str×List Core×List Str},st.2.2.length+ns.length≤540000000000→(∀p∈st.2.1,P p∧∀x∈pfR p,x∈st.2.2)→A2 (fun p q=>P q∧∀ρ,wS (iQ ρ (jX sb far ns st).1) q≤wS (iQ ρ (st.1++ns)) p) st.2.1 (jX sb far ns st).2.1
 | [],st,_,O=>by
  show A2 (fun p q=>P q∧∀ρ,wS (iQ ρ st.1) q≤wS (iQ ρ (st.1++[])) p) st.2.1 st.2.1;rw[A9];have key:∀l:List Core,(∀p∈l,P p)→A2 (fun p q=>P q∧∀ρ,wS (iQ ρ st.1) q≤wS (iQ ρ st.1) p) l l:=by
   intro l
   induction l with
   | nil=>intro _;exact .nil
   | cons p l ih=>intro h;exact .cons ⟨h p η,fun _=>le_refl _⟩ (ih fun q Y=>h q (χ _ Y))
  exact key _ fun p hp=>(O p hp).1
 | n::ns,st,hl,O=>by
  simp only[Ai] at hl;have hg:=pS (sb:=sb) (far:=far) (st:=st) (n:=n);have e:jX sb far (n::ns) st=jX sb far ns (eV sb far st n):=rfl;rw[e];have hf:(bE st.2.2).length≤30:=aQr _ (by omega);by_cases hn:n∈far
  ·have es:eV sb far st n=(st.1++[bE st.2.2],st.2.1.map (fun p=>sb p n (vC (bE st.2.2))),st.2.2++[bE st.2.2]):=by unfold eV;rw[κ hn]
   rw[es] at hg ⊢;have hP2:∀p∈st.2.1.map (fun p=>sb p n (vC (bE st.2.2))),P p∧∀x∈pfR p,x∈st.2.2++[bE st.2.2]:=fun p hp=>by
    obtain⟨q,Y,rfl⟩:=Ah.1 hp;obtain⟨z1,z2,_⟩:=hz q n _ (O q Y).1 hf;refine⟨z1,fun x hx=>ω.2 ?_⟩;rcases z2 x hx with h | h
    ·exact .inl ((O q Y).2 x h)
    ·exact .inr (Ab.2 h)
   have I:=aQo Z hz (far:=far) (ns:=ns) (st:=(st.1++[bE st.2.2],st.2.1.map (fun p=>sb p n (vC (bE st.2.2))),st.2.2++[bE st.2.2])) (by omega) hP2;generalize jX sb far ns (st.1++[bE st.2.2],st.2.1.map (fun p=>sb p n (vC (bE st.2.2))),st.2.2++[bE st.2.2])=r at I ⊢;dsimp only at I;have hno:=r8 st.2.2;generalize bE st.2.2=z at *;have key:∀(l:List Core) (m:List Core),(∀p∈l,P p∧∀x∈pfR p,x∈st.2.2)→A2 (fun p q=>P q∧∀ρ,wS (iQ ρ r.1) q≤wS (iQ ρ (st.1++[z]++ns)) p) (l.map (fun p=>sb p n (vC z))) m→A2 (fun p q=>P q∧∀ρ,wS (iQ ρ r.1) q≤wS (iQ ρ (st.1++n::ns)) p) l m:=by
    intro l
    induction l with
    | nil=>intro m _ h;cases h;exact .nil
    | cons p l ih2=>
     intro m hp h;cases h with
     | cons h1 h2=>
      obtain⟨p1,p2⟩:=hp p η;obtain⟨_,_,z3⟩:=hz p n z p1 hf;refine .cons ⟨h1.1,fun ρ=>le_trans (h1.2 ρ) (le_trans (z3 _) (aYq (Z p p1) fun x hx=>?_))⟩ (ih2 _ (fun q Y=>hp q (χ _ Y)) h2);have hxz:¬x=z:=fun e=>hno (by rw[←e];exact p2 x hx)
      unfold sO;by_cases J:x=n
      ·rw[κ J];have e1:iQ ρ (st.1++[z]++ns) z=1+w30 z:=by unfold iQ;rw[κ (by simp)]
       have e2:iQ ρ (st.1++n::ns) x=1+w30 x:=by unfold iQ;rw[κ (by rw[J];simp)]
       rw[e1,e2];unfold w30;omega
      ·rw[θ J];refine aO6 (fun h=>.inl ?_) (fun _ _=>le_refl _) (fun h y=>?_)
       ·simp only[ω,Ac,C1,or_false] at h ⊢;rcases h with(h | h) | h
        ·exact .inl h
        ·exact absurd h hxz
        ·exact .inr (.inr h)
       ·exfalso;simp only[ω,Ac,C1,or_false] at h y;rcases y with y | y | y
        ·exact h (.inl (.inl y))
        ·exact J y
        ·exact h (.inr y)
   exact key _ _ O I
  ·have es:eV sb far st n=(st.1++[n],st.2.1,st.2.2):=by unfold eV;rw[θ hn]
   rw[es] at hg ⊢;have I:=aQo Z hz (far:=far) (ns:=ns) (st:=(st.1++[n],st.2.1,st.2.2)) (by omega) O;have e2:(st.1++[n])++ns=st.1++n::ns:=by simp
   dsimp only at I;rw[e2] at I;exact I
def WB (s:Str) (b:Core) (ns out:List Str) (p q:Core):Prop:=∀ρ,wS (iQ ρ out) q≤wS (iQ (sO ρ s (wS ρ b)) ns) p
theorem aW7 {X:Nat}{s:Str}{b:Core}{ns:List Str}{ps:List Core}(Y:bU (QL X) b) (Z:∀p∈ps,P p) (I:∀p,P p→bU (QL X) p)
  (hz:∀p n z,P p→z.length≤30→P (sb p n (vC z))∧(∀x∈pfR (sb p n (vC z)),x∈pfR p∨x=z)∧∀ρ,wS ρ (sb p n (vC z))≤wS (sO ρ n (ρ z)) p)
  (hs:∀p,P p→∀ρ,wS ρ (sb p s b)≤wS (sO ρ s (wS ρ b)) p)
  (hl:(ps.flatMap pfR).length+2*ns.length+(pfR b).length≤540000000000):A2 (WB s b ns (dV sb s b ns ps).1) ps (dV sb s b ns ps).2:=by
 unfold dV;split
 ·rename_i hin;have J:=aQo (sb:=sb) I hz (far:=pfR b) (ns:=ns) (st:=([],ps,ps.flatMap pfR++ns++pfR b)) (by simp only[ε];omega) (fun p hp=>⟨Z p hp,fun x hx=>ω.2 (.inl (ω.2 (.inl (Ce.2 ⟨p,hp,hx⟩))))⟩);have O:=vA (sb:=sb) (far:=pfR b) (Q:=fun x=>x=s) (ns:=ns) (st:=([],ps,ps.flatMap pfR++ns++pfR b)) (fun x hx=>ω.2 (.inr hx)) (fun x hx=>by rw[hx];exact ω.2 (.inl (ω.2 (.inl hin.1)))) (fun x hx=>by cases hx) (fun x hx e=>hin.2 (by rw[←e];exact hx));generalize jX sb (pfR b) ns ([],ps,ps.flatMap pfR++ns++pfR b)=r at J O ⊢;dsimp only[A3] at J ⊢;have key:∀(l m:List Core),A2 (fun p q=>P q∧∀ρ,wS (iQ ρ r.1) q≤wS (iQ ρ ns) p) l m→A2 (WB s b ns r.1) l (m.map fun p=>sb p s b):=by
   intro l m h
   induction h with
   | nil=>exact .nil
   | cons h1 _ y=>
    refine .cons (fun ρ=>?_) y;have e1:wS (iQ ρ r.1) b=wS ρ b:=qQ b Y _ _ fun x hx=>by
     unfold iQ;rw[θ fun h=>(O x h).1 hx]
    have e2:sO (iQ ρ r.1) s (wS ρ b)=iQ (sO ρ s (wS ρ b)) r.1:=by
     funext x;unfold sO iQ;dsimp only;by_cases hx:x=s
     ·rw[κ hx,θ fun h=>(O x h).2 hx,κ hx]
     ·rw[θ hx,θ hx]
    have h2:=hs _ h1.1 (iQ ρ r.1);rw[e1,e2] at h2;exact le_trans h2 (h1.2 _)
  exact key _ _ J
 ·rename_i hin;have key:∀l:List Core,(∀p∈l,p∈ps)→A2 (WB s b ns ns) l l:=by
   intro l
   induction l with
   | nil=>intro _;exact .nil
   | cons p l y=>
    intro h;refine .cons (fun ρ=>aYq (I p (Z p (h p η))) fun x hx=>aO6 (fun h=>.inl h) (fun hn _=>?_) (fun hn h'=>absurd h' hn)) (y fun q hq=>h q (χ _ hq));unfold sO;rw[θ fun e=>hin ⟨Ce.2 ⟨p,h p η,by rw[←e];exact hx⟩,by rw[←e];exact hn⟩];exact le_refl _
  exact key ps fun p hp=>hp
end
theorem a19 {ρ ρ':Str→Nat}{l m:List Core}(h:A2 (fun p q=>wS ρ q≤wS ρ' p) l m):wSs ρ m≤wSs ρ' l:=by
 induction h with
 | nil=>exact le_refl _
 | cons r _ y=>rw[wSs,wSs];omega
theorem aXo {ρ ρ':Str→Nat}:∀{ts:List Ty}{ns:List Str}{ps:List Core}{bs:List Bind},A2 (fun(b:Bind) n=>w30 n≤w30 b.name) bs ns→A2 (fun(b:Bind) p=>wS ρ p≤wS ρ' b.body) bs ps→wSb ρ (mkB ts ns ps)≤wSb ρ' bs
 | [],_,_,_,_,_=>by unfold mkB;rw[wSb];exact Al _
 | t::ts,_,_,_,.nil,.nil=>by unfold mkB;rw[wSb];exact le_refl _
 | t::ts,n::ns,p::ps,.mk s ty c::bs,.cons h1 h2,.cons h3 h4=>by
  unfold mkB;rw[wSb,wSb];have:=aXo (ts:=ts) h2 h4;have h1:w30 n≤w30 s:=h1;have h3:wS ρ p≤wS ρ' c:=h3;omega
section
variable {sb:Core→Str→Core→Core}{X:Nat}{s:Str}{b:Core}{f n:Int}{nm:Str}{t:Ty}{ks:List Core}{bs:List Bind}{al:List Alt}
theorem a5y (hf1:f≠1) (hq:bU (QL X) (.mk f n nm t ks bs al)) (hn:A2 NR (gvN f nm bs) (dV sb s b (gvN f nm bs) (ks++bs.map Bind.body)).1)
  (hg:A2 (WB s b (gvN f nm bs) (dV sb s b (gvN f nm bs) (ks++bs.map Bind.body)).1) (ks++bs.map Bind.body) (dV sb s b (gvN f nm bs) (ks++bs.map Bind.body)).2)
  (ha:∀a∈al,A2 NR a.vars (dV sb s b a.vars [a.body]).1∧A2 (WB s b a.vars (dV sb s b a.vars [a.body]).1) [a.body] (dV sb s b a.vars [a.body]).2) (ρ:Str→Nat):
  wS ρ (sJ sb s b (.mk f n nm t ks bs al))≤wS (sO ρ s (wS ρ b)) (.mk f n nm t ks bs al):=by
 have hA:∀a∈al,WB s b a.vars (kF sb s b a).vars a.body (kF sb s b a).body∧A2 NR a.vars (kF sb s b a).vars:=fun a ha'=>by
  obtain⟨g2,g1⟩:=ha a ha';refine⟨?_,g2⟩;show WB s b a.vars (dV sb s b a.vars [a.body]).1 a.body ((dV sb s b a.vars [a.body]).2.headD a.body);cases hx:(dV sb s b a.vars [a.body]).2 with
  | nil=>rw[hx] at g1;cases g1
  | cons y l'=>
   rw[hx] at g1;cases g1 with
   | cons h _=>exact h
 have Y:f=5→bs=[]:=fun h5=>(nH hq (.inl h5)).2.1
 rw[sJ];unfold zNm zKs zBs;generalize dV sb s b (gvN f nm bs) (ks++bs.map Bind.body)=r at hg hn ⊢;obtain⟨J,Z⟩:=r;dsimp only at *;have hK:=hg.take ks.length;rw[take_left] at hK;have hB:=hg.drop ks.length;rw[drop_left] at hB;have hBl:(Z.drop ks.length).length=bs.length:=by rw[hB.length,φ]
 have I:=hn.length;have hgv:gvN f (if f=5 then J.headD nm else nm) (mkB (bs.map Bind.ty) J (Z.drop ks.length))=J:=by
  by_cases h5:f=5
  ·have:=Y h5;subst this;unfold gvN at hn I ⊢;rw[κ h5] at hn I;rw[κ h5,κ h5]
   match J,I with
   | [y],_=>show [y]++(mkB [] [y] _).map Bind.name=[y];unfold mkB;rfl
  ·unfold gvN at I ⊢;rw[θ h5,A3] at I;rw[φ] at I;rw[θ h5,A3,mV (by rw[φ];exact I) (by rw[φ];exact hBl)]
 rw[wS,wS,θ hf1,θ hf1,hgv];have e1:w30 (if f=5 then J.headD nm else nm)≤w30 nm:=by
  split
  ·rename_i hf;unfold gvN at hn;rw[κ hf] at hn;cases hn with
   | cons h _=>exact h.w
  ·exact le_refl _
 have e2:wSs (iQ ρ J) (Z.take ks.length)≤wSs (iQ (sO ρ s (wS ρ b)) (gvN f nm bs)) ks:=a19 (A2.mono (fun p q h=>h ρ) hK);have e3:wSb (iQ ρ J) (mkB (bs.map Bind.ty) J (Z.drop ks.length))≤wSb (iQ (sO ρ s (wS ρ b)) (gvN f nm bs)) bs:=by
  by_cases hf:f=5
  ·have:=Y hf;subst this;show wSb _ (mkB [] _ _)≤_;unfold mkB;rw[wSb];exact Al _
  ·have h4:=hn;have e0:gvN f nm bs=bs.map Bind.name:=by unfold gvN;rw[θ hf,A3]
   rw[e0] at h4;exact aXo (A2.mapL (A2.mono (fun a b h=>h.w) h4)) (A2.mapL (A2.mono (fun p q h=>h ρ) hB))
 have e4:wSa ρ (al.map (kF sb s b))≤wSa (sO ρ s (wS ρ b)) al:=by
  clear ha hq
  induction al with
  | nil=>rw[Co,wSa,wSa];exact le_refl _
  | cons a l ihl=>
   obtain⟨af,an,anm,vs,O⟩:=a;obtain⟨g1,g2⟩:=hA _ η;have:=ihl fun x hx=>hA x (χ _ hx)
   have g3:=g1 ρ;have g4:=aCl g2;have e:kF sb s b (Alt.mk af an anm vs O)=.mk af an anm (kF sb s b (Alt.mk af an anm vs O)).vars (kF sb s b (Alt.mk af an anm vs O)).body:=rfl;have g3:wS (iQ ρ (kF sb s b (Alt.mk af an anm vs O)).vars) (kF sb s b (Alt.mk af an anm vs O)).body≤wS (iQ (sO ρ s (wS ρ b)) vs) O:=g3;have g4:((kF sb s b (Alt.mk af an anm vs O)).vars.map fun v=>1+w30 v).sum≤(vs.map fun v=>1+w30 v).sum:=g4;rw[At,e,wSa,wSa];omega
 omega
end
theorem aO8 {σ:Str→Nat}{B:Nat}(q:1≤B) (h:∀x,σ x≤(1+w30 x)*B) (L:List Str) (x:Str):iQ σ L x≤(1+w30 x)*B:=by
 unfold iQ;split
 ·exact Bw _ q
 ·exact h x
mutual
theorem a6i {σ:Str→Nat}{B:Nat}(q:1≤B) (h:∀x,σ x≤(1+w30 x)*B):∀c:Core,wS σ c≤m30 c*B
 | .mk f n s t ks bs al=>by
  rw[m30,wS,A7,A7,A7];have h1:=a18 q (aO8 q h (gvN f s bs)) ks;have h2:=a2a q (aO8 q h (gvN f s bs)) bs;have h3:=a2b q h al;have h4:=h s;have h5:1+w30 s≤(1+w30 s)*B:=Bw _ q;split<;>omega
theorem a18 {σ:Str→Nat}{B:Nat}(q:1≤B) (h:∀x,σ x≤(1+w30 x)*B):∀l:List Core,wSs σ l≤gM l*B
 | []=>by rw[wSs];exact Al _
 | c::l=>by rw[wSs,gM,A7];have:=a6i q h c;have:=a18 q h l;omega
theorem a2a {σ:Str→Nat}{B:Nat}(q:1≤B) (h:∀x,σ x≤(1+w30 x)*B):∀l:List Bind,wSb σ l≤j9 l*B
 | []=>by rw[wSb];exact Al _
 | .mk s t c::l=>by
  rw[wSb,j9,A7,A7];have:=a6i q h c;have:=a2a q h l;have h5:1+w30 s≤(1+w30 s)*B:=Bw _ q;omega
theorem a2b {σ:Str→Nat}{B:Nat}(q:1≤B) (h:∀x,σ x≤(1+w30 x)*B):∀l:List Alt,wSa σ l≤l7 l*B
 | []=>by rw[wSa];exact Al _
 | .mk f n s vs c::l=>by
  rw[wSa,l7,A7,A7,A7];have:=a6i q (aO8 q h vs) c;have:=a2b q h l;have h5:1+w30 s≤(1+w30 s)*B:=Bw _ q;have h6:(vs.map fun v=>1+w30 v).sum≤(vs.map fun v=>1+w30 v).sum*B:=Bw _ q;omega
end
theorem a32 {σ:Str→Nat}(h:∀x,1+w30 x≤σ x) (c:Core):m30 c≤wS σ c:=by
 rw[←aCh (ρ:=fun x=>1+w30 x) (fun _=>rfl) c];exact mD h c
def aI8 (own:List Str) (B:Nat):Str→Nat:=fun x=>if x∈own then max (31*B) (1+w30 x) else 1+w30 x
def aW1 (names own:List Str) (B:Nat):Str→Nat:=fun x=>if x∈names then(1+w30 x)*B else aI8 own B x
theorem aY8 {own:List Str}{B:Nat}(x:Str):1+w30 x≤aI8 own B x:=by
 unfold aI8;split
 ·exact le_max_right _ _
 ·exact le_refl _
theorem aOc {own:List Str}{B:Nat}(q:1≤B) (x:Str):aI8 own B x≤(1+w30 x)*B:=by
 have h5:1+w30 x≤(1+w30 x)*B:=Bw _ q;unfold aI8;split
 ·refine max_le.2 ⟨A0 _ ?_,h5⟩;have:=i6 x;omega
 ·exact h5
theorem aY3 {names own:List Str}{B:Nat}(q:1≤B) (x:Str):aW1 names own B x≤(1+w30 x)*B:=by
 unfold aW1;split
 ·exact le_refl _
 ·exact aOc q x
theorem aY7 {names own:List Str}{B:Nat}(q:1≤B) (x:Str):aI8 own B x≤aW1 names own B x:=by
 unfold aW1;split
 ·exact aOc q x
 ·exact le_refl _
theorem aAm (tk:List Str):∀(l:List Str) (m:Nat),(nM tk l m).length=l.length
 | [],_=>rfl
 | s::l,m=>by rw[nM,Ai,Ai,aAm]
noncomputable def wD (tk:List Str):List Str→Nat→Nat→Nat
 | _,m,0=>m
 | [],m,_+1=>m
 | s::l,m,i+1=>wD tk l (mR tk s m+1) i
theorem aAn (tk:List Str):∀(l:List Str) (m i:Nat) (s:Str),l[i]?=some s→(nM tk l m)[i]?=some (otN s (mR tk s (wD tk l m i)))∧wD tk l m (i+1)=mR tk s (wD tk l m i)+1
 | [],m,i,s,h=>by cases h
 | x::l,m,0,s,h=>by
  have e:x=s:=by simpa using h
  subst e;refine⟨by rw[nM,wD];rfl,?_⟩;rw[wD,wD,wD]
 | x::l,m,i+1,s,h=>by
  have q:l[i]?=some s:=by simpa using h
  obtain⟨h1,h2⟩:=aAn tk l (mR tk x m+1) i s q;refine⟨by rw[nM,wD,Bh];exact h1,?_⟩;rw[wD,wD];exact h2
theorem aGw (tk:List Str):∀(l:List Str) (m i:Nat),wD tk l m i≤m+i*(tk.length+1)
 | _,m,0=>by rw[wD];omega
 | [],m,i+1=>by rw[wD];omega
 | s::l,m,i+1=>by
  rw[wD];have h1:=aGw tk l (mR tk s m+1) i;have h2:=(jB tk s m).2.1
  rw[succ_mul];omega
structure OtO (tk names own:List Str) (K:Nat):Prop where
 len:own.length=names.length
 at_:∀(i:Nat) (s o:Str),names[i]?=some s→own[i]?=some o→∃n,n≤K∧o=otN s n
 out:∀o∈own,¬o∈tk
theorem aGx (tk names:List Str):OtO tk names (nM tk names 0) (names.length*(tk.length+1)):=by
 refine⟨aAm tk names 0,fun i s o h1 h2=>?_,fun o q=>?_⟩
 ·obtain⟨g1,g2⟩:=aAn tk names 0 i s h1;rw[g1] at h2;have hi:i+1≤names.length:=(ξ.1 h1).1
  have g3:=aGw tk names 0 (i+1);rw[g2] at g3;have g4:(i+1)*(tk.length+1)≤names.length*(tk.length+1):=A0 _ hi;exact⟨_,by omega,(Option.some.inj h2).symm⟩
 ·obtain⟨i,hi⟩:=List.mem_iff_getElem?.1 q;have hl:i<names.length:=by
   have:=(ξ.1 hi).1
   rwa [aAm] at this
  obtain⟨s,hs⟩:=aJ hl;obtain⟨g1,_⟩:=aAn tk names 0 i s hs;rw[g1] at hi;rw[←Option.some.inj hi];exact(jB tk s _).2.2.1
theorem aGy {s:Str}{n:Nat}(h:n<10^12):(otN s n).length≤s.length+13:=by
 have:=aX3 11 n h;unfold otN;rw[ε,Ai];omega
section
variable {D M X B:Nat}{c:Core}{l:List Core}{names own tk:List Str}
end
end Go.Proofs.YtnjaiimffoninaaGreatDoor
namespace Go.AM
open Go
theorem oC {S:Sto}{c:C}{v:Value}(h:Rep S c v):∀m:Nat,dH S (List.replicate m c) (List.replicate m v)
 | 0=>by simp[dH]
 | m+1=>by
  rw[List.replicate_succ,List.replicate_succ];simp only[dH];exact⟨v,_,rfl,h,oC h m⟩
theorem aAy (v:Value) (m:Nat):(madeCells #[v] m).toList=List.replicate m v:=by
 refine List.eq_replicate_iff.2 ⟨by simp[madeCells],fun x hx=>?_⟩;simp only[madeCells,Array.toList_map,Ah] at hx;obtain⟨i,_,rfl⟩:=hx;simp[Nat.mod_one]
section
variable {P:Program}{n:Nat}
theorem aC1 {o:Oper}{st:St}{d:Nat}{T:TT}{t e:TypeId}{i ei:TI}{x y:Operand}{m:Nat}{c:C}{Z ky:IntKind}(id:Nat) (hT:Tok P T) (ho:o.op=.makeSlice t x y) (hd:o.dst=some d) (hdn:d<n)
  (hi:T[t]?=some (some i)) (hk:i.k=.sl e) (hei:T[e]?=some (some ei)) (O:ei.size=1) (hz:ei.zero=[c]) (hx:opv st x=some (I Z m)) (hy:opv st y=some (I ky m)) (hm:m≤1000000) (hb:ei.bytes*m≤281474976710656) (hid:st.h id=none):
  Step P n o st ⟨opr x++opr y,[id]⟩ ⟨some (d,some (.one (.hs id 0 m m))),[(id,some (.arr e ei.size (List.replicate m [c]) 0))]⟩:=by
 refine Step.new hd hdn hid (by simp) fun st' ha hid' G S μ a w hs=>?_
 obtain⟨inf,dd,z,g1,g2,g3,g4,g5,g6,g7,g8,g9⟩:=(hT.get hei).ex;have vx:=aO hs hx fun t ht=>ha.1 t (by simp[ht])
 have vy:=aO hs hy fun t ht=>ha.1 t (by simp[ht])
 simp only[aY,b9,Rep] at vx vy;have q:dH S ei.zero z.cells.toList:=iM (S:=S) g7;rw[hz] at q;simp only[dH] at q;obtain⟨v,us,hzv,hv,hus⟩:=q;subst hus;have hzc:z.cells= #[v]:=by rw[←Array.toList_inj,hzv]
 have hb':(inf.bytes:Int)*(m:Int)≤281474976710656:=by
  rw[g4];have h:((ei.bytes*m:Nat):Int)≤281474976710656:=by omega
  rwa [Int.natCast_mul] at h
 have J:=run_make (P:=P) w t e inf z ((hT.get hi).slice hk) g1 g6 Z ky (m:Int) (m:Int) (by omega) (Int.le_refl _) hb' (by omega);rw[g3,O,mul_one,Int.toNat_natCast,hzc] at J;have Y:=aAy v m;generalize madeCells #[v] m=out at J Y;refine⟨_,_,.slice (some ⟨w.heap.size,0,none⟩) m m,(0,m),?_,WChg.alloc w (.cells out e),?_,?_⟩
 ·simp only[execOp,ho,vx,vy,Ad,J,τ,Af]
 ·refine⟨fun r hr=>by rw[(List.mem_replicate.1 hr).2,O];rfl,.inr ⟨w.heap.size,0,m,out.toList,aI _ _ _,B4 w _,by simp[Y,O],by simp,?_,?_,fun _ o _=>fX hs.inv o,fun o _=>fX hs.inv o,fun e=>by cases e⟩⟩
  ·have:(1000000:Nat)≤maxLen:=by decide
   exact⟨by omega,pK hs.inv⟩
  ·rw[Y,O];simp only[B3,List.length_replicate,mul_one];rw[Az (by simp),List.flatten_replicate_singleton];exact oC hv m
 ·simp only[aY,b9];exact⟨⟨_,_,_,rfl⟩,.inr ⟨e,ei.size,_,0,aI _ _ _,by simp,fun _=>⟨by simp,.inr ⟨w.heap.size,0,m,aI _ _ _,by simp⟩⟩⟩⟩
end
end Go.AM
namespace Go.Proofs.YtnjaiimffoninaaGreatDoor
open Go Go.AM
set_option maxRecDepth 20000
set_option maxHeartbeats 4000000
def arrE (own:List Str) (k i:Nat) (cur:Str):List Str:=own.take i++cur::List.replicate (k-i-1) []
def aH1 (own:List Str) (k i:Nat):List Str:=own.take i++List.replicate (k-i) []
theorem a8n (own:List Str) (k:Nat):aH1 own k 0=List.replicate k []:=by unfold aH1;rw[Cd,A3,sub_zero]
theorem a8q {own:List Str}{k i:Nat}(h:i<k):aH1 own k i=arrE own k i []:=by
 unfold aH1 arrE;obtain⟨d,hd⟩:∃d,k-i=d+1:=⟨k-i-1,by omega⟩
 rw[hd,List.replicate_succ];rfl
theorem a8o {own:List Str}{k i:Nat}{o:Str}(h:own[i]?=some o):arrE own k i o=aH1 own k (i+1):=by
 unfold aH1 arrE;rw[Bt,h,Aw];show _=own.take i++(o::List.replicate (k-(i+1)) []);rw[Nat.sub_sub]
theorem a8p {own:List Str}{k:Nat}(h:own.length=k):aH1 own k k=own:=by
 unfold aH1;rw[C7,List.replicate_zero,A9,←h,As]
theorem a1d {own:List Str}{k i:Nat}(h:own.length=k) (hi:i<k) (x:Str):(arrE own k i x).length=k:=by
 unfold arrE;rw[ε,Ap,Ai,List.length_replicate];omega
theorem aWi {own:List Str}{k i:Nat}(h:own.length=k) (hi:i≤k):(aH1 own k i).length=k:=by
 unfold aH1;rw[ε,Ap,List.length_replicate];omega
theorem a50 {own:List Str}{k i:Nat}(h:own.length=k) (hi:i<k) (x:Str):(arrE own k i x)[i]?=some x:=by
 unfold arrE;have hl:(own.take i).length=i:=by rw[Ap];omega
 rw[Ao (by omega),hl,C7];rfl
theorem a1c {own:List Str}{k i:Nat}(h:own.length=k) (hi:i<k) (x y:Str):(arrE own k i x).set i y=arrE own k i y:=by
 unfold arrE;have hl:(own.take i).length=i:=by rw[Ap];omega
 rw[set_append_right _ _ (by omega),hl,C7,set_cons_zero]
def aTg (s:Str) (m0 m:Nat):Str:=if m=m0 then [] else otN s (m-1)
theorem a5b (hI:j2 540000000000) (c:Core) (names:List Str) (l:List Core) (hl:names.length=l.length) (hl2:l.length≤12) (hnl:∀s∈names,s.length≤380)
  (hfr:aW Tryz.prog 136 [.pa (aB c)] [] (ouV (pfR c)) [(500,ouO (pfR c))]) (hfB:∀b∈l,aW Tryz.prog 136 [.pa (aB b)] [] (eE (pfR b)) [])
  (hpfc:(pfR c).length≤10000000000) (hfl:∀i,((l.take i).flatMap pfR).length≤10000000000)
  (hS1:∀(i:Nat) (s o:Str),names[i]?=some s→(nM (dR c names l) names 0)[i]?=some o→aW Tryz.prog 97 [.pa (aB (iE c ((names.zip (nM (dR c names l) names 0)).take i))),Go.AM.T s,.pa (aB (vC o))] [] (.pa (aB (fR (m30 (iE c ((names.zip (nM (dR c names l) names 0)).take i))) (iE c ((names.zip (nM (dR c names l) names 0)).take i)) s (vC o)))) [])
  (hS2:∀(i:Nat) (s:Str) (b:Core),(nM (dR c names l) names 0)[i]?=some s→l[i]?=some b→aW Tryz.prog 97 [.pa (aB (mL (iE c (names.zip (nM (dR c names l) names 0))) (((nM (dR c names l) names 0).zip l).take i))),Go.AM.T s,.pa (aB b)] [] (.pa (aB (fR (m30 (mL (iE c (names.zip (nM (dR c names l) names 0))) (((nM (dR c names l) names 0).zip l).take i))) (mL (iE c (names.zip (nM (dR c names l) names 0))) (((nM (dR c names l) names 0).zip l).take i)) s b))) []):
  aW Tryz.prog 138 [.pa (aB c),eE names,.one (.c (.sl 10 (l.map aB)))] [] (.pa (aB (qM c names l))) []:=by
 have hkL:(l.map aB).length=l.length:=φ _;have J:(names.map bA).length=names.length:=φ _;have hTK:pfR c++names++(l.take l.length).flatMap pfR=dR c names l:=by rw[As];rfl
 have htkl:(dR c names l).length≤20000000012:=by rw[←hTK,ε,ε];have:=hfl l.length;omega
 have hnt:∀x∈names,x∈dR c names l:=fun x hx=>ω.2 (.inl (ω.2 (.inr hx)))
 have htk:∀b∈l,∀x∈pfR b,x∈dR c names l:=fun b hb x hx=>ω.2 (.inr (Ce.2 ⟨b,hb,hx⟩))
 have hot0:=aGx (dR c names l) names;have hK:names.length*((dR c names l).length+1)≤12*20000000013:=C8 (by omega) (by omega);have hat:∀i s,names[i]?=some s→(nM (dR c names l) names 0)[i]?=some (otN s (mR (dR c names l) s (wD (dR c names l) names 0 i)))∧wD (dR c names l) names 0 (i+1)=mR (dR c names l) s (wD (dR c names l) names 0 i)+1:=fun i s h=>aAn _ names 0 i s h
 have hNle:∀i,i≤names.length→wD (dR c names l) names 0 i≤12*20000000013:=fun i hi=>by
  have h1:=aGw (dR c names l) names 0 i;have h2:i*((dR c names l).length+1)≤12*20000000013:=C8 (by omega) (by omega);omega
 have hN0:wD (dR c names l) names 0 0=0:=by rw[wD]
 have hnx:∀s m,m≤mR (dR c names l) s m∧¬otN s (mR (dR c names l) s m)∈dR c names l∧∀k,m≤k→k<mR (dR c names l) s m→otN s k∈dR c names l:=fun s m=>⟨(jB _ s m).1,(jB _ s m).2.2.1,(jB _ s m).2.2.2⟩
 have hputE:qM c names l=mL (iE c (names.zip (nM (dR c names l) names 0))) ((nM (dR c names l) names 0).zip l):=rfl;rw[hputE];generalize nM (dR c names l) names 0=own at *;generalize wD (dR c names l) names 0=cnt at *;generalize mR (dR c names l)=nx at *;generalize hTKe:dR c names l=TK at *;have y:=hot0.len;have hzn:(names.zip own).take names.length=names.zip own:=by
  rw[Az];rw[length_zip];omega
 refine bZ (n:=89) tok Tryz.func138 rfl rfl rfl ?_;refine sg rfl (sk 1 rfl (kc hfr ?_));refine kz 3 rfl ?_;have hnl1:names.length≤12:=by omega
 refine a8 (sg rfl (aC (aK (fun i:Nat=>mk [(1,eE names),(2,.one (.c (.sl 10 (l.map aB)))),(3,.one (.vp 3 0)),(6,.one (.vp 6 0)),(7,ouV (pfR c++names++(l.take i).flatMap pfR)),(19,.one (.c (.sl 10 (l.map aB)))),(20,I .i64 ((l.map aB).length:Int)),(21,I .i64 i)] [(3,.var 30 (bF c)),(6,.var 30 dY),(500,ouO (pfR c++names++(l.take i).flatMap pfR))]) (fun i=>i≤l.length) (fun i=>l.length-i) 0 (Al _) ?_ ?_)))
 ·rw[Cd,List.flatMap_nil,A9];exact sl (he:=⟨rfl,rfl,rfl,rfl,Go.AM.hs_ren (by simp) (by simp),rfl,rfl,rfl,trivial⟩) (hh:=⟨⟨_,rfl,.varS rfl⟩,⟨_,rfl,.varS rfl⟩,⟨_,rfl,.arrS (by simp)⟩,trivial⟩)
 intro i hi;refine sg rfl (a8 (aA rfl (fun hb=>?_) (fun hb=>?_)))
 ·have q:=ltD hb hkL;obtain⟨b,Y⟩:=aJ q;have hb':=bT aB Y;have hbm:=δ Y;have hfb:=hfB b hbm;have O:=aDb Y;have h1:=hfl i;have h2:=hfl (i+1);rw[O,ε] at h2;have hx0:(pfR c++names++(l.take i).flatMap pfR).length≤510000000000:=by rw[ε,ε];omega
  generalize hG:(l.take i).flatMap pfR=G at O hx0;generalize pfR b=F at hfb O h2;have hkF:(F.map bA).length=F.length:=φ _;have hkx:((pfR c++names++G).map bA).length=(pfR c++names++G).length:=φ _;refine aD (a8 (aC (sgh [(0,.row i (aB b))] rfl (aE mixed (ak 2 [] rfl (kc hfb ?_))))));refine kz 2 rfl (ag [] rfl ⟨i+1,q,by dsimp only;omega,?_⟩);dsimp only;rw[O,←Aw];exact sl (he:=⟨rfl,rfl,rfl,rfl,Go.AM.hs_ren (by simp;omega) (by simp;omega),rfl,rfl,rfl,trivial⟩) (hh:=⟨⟨_,rfl,.varS rfl⟩,⟨_,rfl,.varS rfl⟩,⟨_,rfl,.arrS (by simp)⟩,trivial⟩)
 have Z:=geD hb hkL hi;subst Z;rw[hTK];refine aL (AWp.sub (Sub.freeze (id:=500) rfl) ?_);have hz0:List.replicate (names.map bA).length [C.str []]=(aH1 own names.length 0).map bA:=by rw[a8n,List.map_replicate,J];rfl
 refine sk 2 rfl (k_ (g_ rfl rfl (aC1 (m:=(names.map bA).length) (c:=.str []) (id:=720) tok rfl rfl (gB rfl) (tg rfl) rfl (tg rfl) rfl rfl rfl rfl (by omega) (by rw[J];show 16*names.length≤_;omega) rfl)) ?_);refine kz 1 rfl (sg rfl (a8 (sg rfl ?_)));have hzl0:=aWi (i:=0) y (Al _);refine aC (aK (fun i:Nat=>mk [(1,eE names),(2,.one (.c (.sl 10 (l.map aB)))),(3,.one (.vp 3 0)),(6,.one (.vp 6 0)),(7,ouV TK),(10,.one (.hs 720 0 (aH1 own names.length i).length (aH1 own names.length i).length)),(11,I .i64 (cnt i:Int)),(33,eE names),(34,I .i64 ((names.map bA).length:Int)),(35,I .i64 i)] [(3,.var 30 (bF (iE c ((names.zip own).take i)))),(6,.var 30 dY),(500,.arr 9 1 (TK.map bA) 2),(720,.arr 9 1 ((aH1 own names.length i).map bA) 0)]) (fun i=>i≤names.length) (fun i=>names.length-i) 0 (Al _) ?_ ?_)
 ·rw[hN0];exact sl (he:=⟨rfl,rfl,rfl,rfl,rfl,Go.AM.hs_ren (by rw[hzl0,J]) (by rw[hzl0,J]),rfl,rfl,rfl,rfl,trivial⟩) (hh:=⟨⟨_,rfl,.varS rfl⟩,⟨_,rfl,.varS rfl⟩,⟨_,rfl,.arrS rfl⟩,⟨_,rfl,.arrS hz0⟩,trivial⟩)
 intro i hi;refine sg rfl (a8 (aA rfl (fun hb=>?_) (fun hb=>?_)))
 ·have q:=ltD hb J;obtain⟨s,hs⟩:=aJ q;have hs':=bT bA hs;have hsn:=hnl s (δ hs);obtain⟨ho1,hcn⟩:=hat i s hs;have hci:=hNle i hi;have hci1:=hNle (i+1) q;obtain⟨n1,n2,n3⟩:=hnx s (cnt i);rw[hcn] at hci1;generalize nx s (cnt i)=N at *;generalize hm0:cnt i=m0 at *;rw[a8q q];have hM:600000000000≤maxLen:=by decide
  refine aD (a8 (aC (sgh [(1,.row i (bA s))] rfl ?_)));have hc0:aTg s m0 m0=[]:=κ rfl;have hcu:∀m,m0≤m→aTg s m0 (m+1)=otN s m:=fun m h=>by unfold aTg;rw[θ (by omega),Nat.add_sub_cancel]
  refine a8 (aC (aK (fun m:Nat=>mk [(1,eE names),(2,.one (.c (.sl 10 (l.map aB)))),(3,.one (.vp 3 0)),(6,.one (.vp 6 0)),(7,ouV TK),(10,.one (.hs 720 0 (arrE own names.length i (aTg s m0 m)).length (arrE own names.length i (aTg s m0 m)).length)),(11,I .i64 (m:Int)),(12,I .i64 i),(13,Go.AM.T s),(33,eE names),(34,I .i64 ((names.map bA).length:Int)),(35,I .i64 i)] [(3,.var 30 (bF (iE c ((names.zip own).take i)))),(6,.var 30 dY),(500,.arr 9 1 (TK.map bA) 2),(720,.arr 9 1 ((arrE own names.length i (aTg s m0 m)).map bA) 0)]) (fun m=>m0≤m∧m≤N+1) (fun m=>N+1-m) m0 ⟨le_refl _,by omega⟩ (by rw[hc0];exact sl) ?_));intro m ⟨hm1,hm2⟩;have hal:=a1d y q (aTg s m0 m);have aEm:=bT bA (a50 y q (aTg s m0 m));have hset:=a1c y q (aTg s m0 m);generalize hcur:aTg s m0 m=cur at *;generalize hL:arrE own names.length i cur=L at *;have hkA:(L.map bA).length=L.length:=φ _;have hitm:=hI m (by omega);have hdl:=aHk m (by omega);refine a8 (a8 (AWp.cut (mk [(1,eE names),(2,.one (.c (.sl 10 (l.map aB)))),(3,.one (.vp 3 0)),(6,.one (.vp 6 0)),(7,ouV TK),(10,.one (.hs 720 0 L.length L.length)),(11,I .i64 (m:Int)),(12,I .i64 i),(13,Go.AM.T s),(33,eE names),(34,I .i64 ((names.map bA).length:Int)),(35,I .i64 i),(52,Go.AM.B (decide (m≤N)))] [(3,.var 30 (bF (iE c ((names.zip own).take i)))),(6,.var 30 dY),(500,.arr 9 1 (TK.map bA) 2),(720,.arr 9 1 (L.map bA) 0)]) ?_ ?_))
  ·by_cases hme:m=m0
   ·have hcn0:cur=[]:=by rw[←hcur,hme,hc0]
    have e:decide (m≤N)=true:=Ae (by omega);rw[e];subst hcn0;exact ag [(3,.row i (bA [])),(5,.bv true),(12,.bv true)] rfl sl
   ·obtain⟨m',rfl⟩:∃m',m=m'+1:=⟨m-1,by omega⟩
    have hcm:cur=otN s m':=by rw[←hcur];exact hcu m' (by omega)
    have hne:decide (cur=[])=false:=Ag (by rw[hcm];unfold otN;simp);have hct:=dQ TK cur (by omega);have e:decide (m'+1≤N)=decide (cur∈TK):=by
     rw[hcm];by_cases h:m'+1≤N
     ·rw[Ae h,Ae (n3 m' (by omega) (by omega))]
     ·have:m'=N:=by omega
      rw[Ag h,this,Ag n2]
    rw[e];refine aE mixed (ak 11 [(3,.row i (bA cur)),(5,.bv false),(10,.row i (bA cur))] rfl (kcG hct ?_));exact ak 1 [(5,.bv false),(12,.bv false)] rfl (az sl)
  refine aA rfl (fun hb=>?_) (fun hb=>?_)
  ·have hmN:m≤N:=ψ hb;refine aD (aC (sk 5 rfl ?_ (hc:=by repeat (first | exact trivial | refine⟨by first | rfl | omega | (simp;omega),?_⟩))));refine kc hitm ?_;refine ak 3 [(8,.row i (bA cur))] rfl ?_ (hc:=by repeat (first | exact trivial | refine⟨by first | rfl | omega | (simp;omega),?_⟩));refine az (ag [] rfl ?_);have hce:=hcu m hm1;refine⟨m+1,⟨by omega,by omega⟩,by dsimp only;omega,?_⟩;dsimp only;rw[hce,←hset (otN s m)];exact sl
  ·have hmN:m=N+1:=by have:=π hb;omega
   subst hmN;have hce:=hcu N n1;rw[hcur] at hce;have hce2:own[i]?=some cur:=by rw[hce];exact ho1
   have hL2:L=aH1 own names.length (i+1):=by rw[←hL];exact a8o hce2
   have hS:=hS1 i s cur hs hce2;have O:iE c ((names.zip own).take (i+1))=fR (m30 (iE c ((names.zip own).take i))) (iE c ((names.zip own).take i)) s (vC cur):=by
    unfold iE;rw[pX _ _ hs hce2]
   refine aL (aE mixed (ak 6 [(5,.row i (bA cur))] rfl (kc (aBw cur) ?_)));refine kc hS ?_;refine kz 1 rfl (ag [] rfl ⟨i+1,q,by dsimp only;omega,?_⟩);dsimp only;rw[hcn,O,←hL2];exact sl
 have Z:=geD hb J hi;subst Z;rw[hzn,a8p y];refine aL (AWp.sub (Sub.freeze (id:=720) rfl) ?_);refine a8 (sg rfl (aC (aK (fun i:Nat=>mk [(2,.one (.c (.sl 10 (l.map aB)))),(3,.one (.vp 3 0)),(6,.one (.vp 6 0)),(10,.one (.hs 720 0 own.length own.length)),(73,I .i64 ((names.map bA).length:Int)),(74,I .i64 i)] [(3,.var 30 (bF (mL (iE c (names.zip own)) ((own.zip l).take i)))),(6,.var 30 dY),(720,.arr 9 1 (own.map bA) 2)]) (fun i=>i≤names.length) (fun i=>names.length-i) 0 (Al _) sl ?_)));intro i hi;refine sg rfl (a8 (aA rfl (fun hb=>?_) (fun hb=>?_)))
 ·have q:=ltD hb J;obtain⟨s,hs⟩:=aJ (show i<own.length by omega);obtain⟨b,Y⟩:=aJ (show i<l.length by omega);have hs':=bT bA hs;have hb':=bT aB Y;have hkO:(own.map bA).length=own.length:=φ _;have hS:=hS2 i s b hs Y;have O:mL (iE c (names.zip own)) ((own.zip l).take (i+1))=fR (m30 (mL (iE c (names.zip own)) ((own.zip l).take i))) (mL (iE c (names.zip own)) ((own.zip l).take i)) s b:=by
   generalize iE c (names.zip own)=c1;unfold mL;rw[pX _ _ hs Y]
  refine aD (a8 (aC (sg rfl (aE mixed (ak 9 [(4,.row i (bA s)),(7,.row i (aB b))] rfl (kc hS ?_))))));refine kz 1 rfl (ag [] rfl ⟨i+1,q,by dsimp only;omega,?_⟩);dsimp only;rw[O];exact sl
 have Z:=geD hb J hi;subst Z;have hzo:(own.zip l).take names.length=own.zip l:=by
  rw[Az];rw[length_zip];omega
 rw[hzo];exact aL (sg rfl (aF (rtC trw)))
noncomputable def iJ (bd:List Bind):Nat→Core→CE
 | 0,_=>(zC,51)
 | k+1,.mk f i s t ks bs al=>
  if f=1 then(match bd.find? fun b=>decide (b.name=s) with | some b=>(b.body,0) | none=>(zC,51))
  else if f=4 then
   (if(ks.headD zC).form=5 then(fR (m30 ((ks.headD zC).kids.headD zC)) ((ks.headD zC).kids.headD zC) (ks.headD zC).name (ks.getD 1 zC),0)
   else if ¬shE (ks.headD zC)=true then sI false (iJ bd k (ks.headD zC)) (aCe (.mk f i s t ks bs al) 0)
   else(zC,51))
  else if f=8 then(qM (ks.headD zC) (bs.map Bind.name) (bs.map (lM bs)),0)
  else if f=9 then
   (if ¬shE (ks.headD zC)=true then sI false (iJ bd k (ks.headD zC)) (aCe (.mk f i s t ks bs al) 0)
   else(match al.findSome? fun a=>tkE qM a (ks.headD zC) with | some r=>(r,0) | none=>(zC,52)))
  else if f=10 then
   (if ¬shE (ks.headD zC)=true then sI false (iJ bd k (ks.headD zC)) (aCe (.mk f i s t ks bs al) 0)
   else if ¬shE (ks.getD 1 zC)=true then sI false (iJ bd k (ks.getD 1 zC)) (aCe (.mk f i s t ks bs al) 1)
   else if(ks.headD zC).form=3∧(ks.getD 1 zC).form=3 then gP s (ks.headD zC).n (ks.getD 1 zC).n
   else(zC,51))
  else if f=11 then(zC,52)
  else(zC,51)
theorem a7x {s:Str}{q:List (Str×Ty)}{y:List (Str×List Str)}(h:lw s q y≤403) {p:Str×Ty}(hp:p∈q):p.1.length≤380:=by
 unfold lw at h;have h1:=l8 (g:=fun p:Str×Ty=>1+w30 p.1) hp;have h2:=i6 s;have h3:p.1.length≤w30 p.1:=le_max_right _ _;omega
theorem a7z {s:Str}{y:List (Str×Ty)}{q:List (Str×List Str)}(h:lw s y q≤403) {p:Str×List Str}(hp:p∈q) {v:Str}(I:v∈p.2):v.length≤380:=by
 unfold lw at h;have h1:=l8 (g:=fun p:Str×List Str=>1+w30 p.1+(p.2.map fun v=>1+w30 v).sum) hp;have h2:=l8 (g:=fun v:Str=>1+w30 v) I;have h3:=i6 s;have h4:v.length≤w30 v:=le_max_right _ _;omega
theorem aTw {X:Nat}(j:Nat):∀(c:Core) (s:Str) (b:Core),bU (QL X) c→¬s∈pfR c→fR (j+1) c s b=c
 | .mk f n nm t ks bs al,s,b,hw,hs=>by
  rw[fR,θ (fun h:(Core.mk f n nm t ks bs al).form=7∧s∈pfR (Core.mk f n nm t ks bs al)=>hs h.2)];by_cases h1:f=1
  ·obtain⟨rfl,rfl,rfl⟩:=wC hw h1;have y:¬nm=s:=fun h=>hs (by rw[pfR,κ h1,h];exact η)
   rw[θ (fun h:(Core.mk f n nm t [] [] []).form=1∧(Core.mk f n nm t [] [] []).name=s=>y h.2),sJ];unfold zNm zKs zBs;rw[θ (show ¬f=5 by omega)];have q:dV (fR j) s b (gvN f nm []) ([]++([]:List Bind).map Bind.body)=(gvN f nm [],[]):=by
    unfold dV;rw[θ]
    ·rfl
    ·exact fun h=>by cases h.1
   rw[q];rfl
  ·rw[θ (fun h:(Core.mk f n nm t ks bs al).form=1∧_=>h1 h.1),sJ];unfold zNm zKs zBs;have q:dV (fR j) s b (gvN f nm bs) (ks++bs.map Bind.body)=(gvN f nm bs,ks++bs.map Bind.body):=by
    unfold dV;rw[θ];exact fun h=>hs (aZn h1 h.1 h.2)
   rw[q];have I:al.map (kF (fR j) s b)=al:=by
    conv=>rhs;rw[←List.map_id al]
    refine Bx fun a ha=>?_
    have J:dV (fR j) s b a.vars [a.body]=(a.vars,[a.body]):=by
     unfold dV;rw[θ];exact fun h=>hs (a3t h1 ha (by simpa using h.1) h.2)
    unfold kF;rw[J];cases a;rfl
   rw[I];dsimp only;rw[take_left,drop_left];by_cases h5:f=5
   ·obtain⟨_,rfl,rfl⟩:=nH hw (.inl h5);rw[κ h5];have:(gvN f nm []).headD nm=nm:=by unfold gvN;rw[κ h5];rfl
    rw[this];rfl
   ·rw[θ h5];have:gvN f nm bs=bs.map Bind.name:=by unfold gvN;rw[θ h5,A3]
    rw[this,aJ9]
noncomputable def sfE (bd:List Bind) (c:Core):CE:=iJ bd (m30 c) c
section
variable {V:List Str}{k:Nat}
theorem a1q {s:Str}(h:s.length≤30):w30 s=30:=by unfold w30;omega
end
theorem aWz:∀vs:List Str,(vs.map fun v=>1+w30 v).sum≤31*(vs.map fun v=>1+v.length).sum
 | []=>le_refl _
 | v::vs=>by
  simp only[At,Da];have:=aWz vs;unfold w30;unfold w30 at this;omega
mutual
theorem mX:∀c:Core,m30 c≤31*aQ c
 | .mk _ _ s _ ks bs al=>by
  rw[aQ,m30,w30];have:=y3 ks;have:=y4 bs;have:=y5 al;omega
theorem y3:∀l:List Core,gM l≤31*bM l
 | []=>by rw[bM,gM];exact le_refl _
 | c::l=>by
  rw[bM,gM];have:=mX c;have:=y3 l;omega
theorem y4:∀l:List Bind,j9 l≤31*c9 l
 | []=>by rw[c9,j9];exact le_refl _
 | .mk s _ c::l=>by
  rw[c9,bsize,j9,w30];have:=mX c;have:=y4 l;omega
theorem y5:∀l:List Alt,l7 l≤31*cK l
 | []=>by rw[cK,l7];exact le_refl _
 | .mk _ _ s vs c::l=>by
  rw[cK,kZ,l7,w30];have:=mX c;have:=y5 l;have:=aWz vs;omega
end
def ZL:Loc:=fun f _ t _ bh _=>¬f=7∧t=zTy∧∀p∈bh,p.2=zTy
theorem a1h (z:Str):bU ZL (vC z):=aM.2 ⟨⟨by decide,rfl,by simp⟩,by simp,by simp,by simp⟩
theorem aH6 {f n:Int}{s:Str}(h:¬f=7):bU ZL (.mk f n s zTy [] [] []):=aM.2 ⟨⟨h,rfl,by simp⟩,by simp,by simp,by simp⟩
section
variable {sb:Core→Str→Core→Core}{Q:Core→Prop}
theorem aXy (hz:∀p n z,Q p→Q (sb p n (vC z))) {far:List Str}:∀{ns:List Str}{st:List Str×List Core×List Str},(∀p∈st.2.1,Q p)→∀p∈(jX sb far ns st).2.1,Q p
 | [],_,h=>h
 | n::ns,st,h=>by
  have e:jX sb far (n::ns) st=jX sb far ns (eV sb far st n):=rfl;rw[e];refine aXy hz fun p hp=>?_
  unfold eV at hp;split at hp
  ·obtain⟨q,y,rfl⟩:=Ah.1 hp;exact hz q n _ (h q y)
  ·exact h p hp
theorem aW8 {s:Str}{b:Core}{ns:List Str}{ps:List Core}(hz:∀p n z,Q p→Q (sb p n (vC z))) (hs:∀p,Q p→Q (sb p s b)) (h:∀p∈ps,Q p):∀p∈(dV sb s b ns ps).2,Q p:=by
 unfold dV;split
 ·intro p hp;obtain⟨q,y,rfl⟩:=Ah.1 hp;exact hs q (aXy hz (st:=([],ps,ps.flatMap pfR++ns++pfR b)) h q y)
 ·exact h
end
theorem aQc {Q:Core→Prop}{l:List Core}{d:Core}(h:∀x∈l,Q x) (hd:Q d):Q (l.headD d):=by
 cases l with
 | nil=>exact hd
 | cons x l=>exact h x η
theorem a2t:∀(k:Nat) (c:Core) (s:Str) (b:Core),bU ZL c→bU ZL b→bU ZL (fR k c s b):=by
 intro k
 induction k with
 | zero=>intro c s b h _;exact h
 | succ k I=>
 intro c s b h hb;obtain⟨f,n,nm,t,ks,bs,al⟩:=c;obtain⟨⟨J,ht,O⟩,hk,Y,ha⟩:=aM.1 h;rw[fR];split
 ·exact hb
 rw[θ (fun h:(Core.mk f n nm t ks bs al).form=7∧_=>J h.1),sJ];unfold zNm zKs zBs;have hz:∀p m z,bU ZL p→bU ZL (fR k p m (vC z)):=fun p m z hp=>I p m (vC z) hp (a1h z)
 have hs:∀p,bU ZL p→bU ZL (fR k p s b):=fun p hp=>I p s b hp hb
 have h1:=aW8 (ns:=gvN f nm bs) (ps:=ks++bs.map Bind.body) hz hs fun p hp=>by
  rcases ω.1 hp with hp | hp
  ·exact hk p hp
  ·obtain⟨x,hx,rfl⟩:=Ah.1 hp;exact Y x hx
 refine aM.2 ⟨⟨J,ht,fun p hp=>?_⟩,fun x hx=>h1 x (Bz hx),fun x hx=>h1 _ (Cx (lK hx).1),fun x hx=>?_⟩
 ·obtain⟨x,hx,rfl⟩:=Ah.1 hp;obtain⟨y,Z,e⟩:=Ah.1 (lK hx).2;show x.ty=zTy;rw[←e];exact O (bhd y) (Ah.2 ⟨y,Z,rfl⟩)
 ·obtain⟨a,q,rfl⟩:=Ah.1 hx;exact aQc (aW8 (ns:=a.vars) (ps:=[a.body]) hz hs fun p hp=>by rw[Ab.1 hp];exact ha a q) (ha a q)
theorem a3r (s:Str) (a b:Int):bU ZL (gP s a b).1:=by
 have hi:∀m,bU ZL (aGb m):=fun m=>aH6 (by decide)
 have ht:∀c,bU ZL (aNm c):=fun c=>by cases c<;>exact aH6 (by decide)
 have hz:bU ZL zC:=aH6 (by decide);unfold gP
 repeat' split
 all_goals first | exact hi _ | exact ht _ | exact hz
inductive FLn (F:Nat):Core→Prop
 | mk {f n:Int} {s:Str} {t:Ty} {ks:List Core} {bs:List Bind} {al:List Alt} (h:(pfR (.mk f n s t ks bs al)).length≤F)
   (hk:∀x∈ks,FLn F x) (hb:∀x∈bs,FLn F x.body) (ha:∀x∈al,FLn F x.body):FLn F (.mk f n s t ks bs al)
theorem FLn.len {F:Nat}{c:Core}(h:FLn F c):(pfR c).length≤F:=by cases h;assumption
theorem FLn.of {F:Nat}:∀(k:Nat) (c:Core),aQ c≤k→aQ c≤F→FLn F c
 | 0,c,h,_=>by have:=bH c;omega
 | k+1,.mk f n s t ks bs al,h,hs=>by
  obtain⟨q,y,I,_⟩:= @dL f n s t ks bs al;exact .mk (le_trans (aMc _) hs) (fun x hx=>FLn.of k x (by have:=q x hx;omega) (by have:=q x hx;omega)) (fun x hx=>FLn.of k x.body (by have:=y x hx;omega) (by have:=y x hx;omega)) fun x hx=>FLn.of k x.body (by have:=I x hx;omega) (by have:=I x hx;omega)
theorem FLn.mono {F F':Nat}(h:F≤F'):∀(k:Nat) (c:Core),aQ c≤k→FLn F c→FLn F' c
 | 0,c,hk,_=>by have:=bH c;omega
 | k+1,.mk f n s t ks bs al,hk,hc=>by
  obtain⟨q,y,I,_⟩:= @dL f n s t ks bs al;cases hc with
  | mk a1 a2 a3 a4=>exact .mk (le_trans a1 h) (fun x hx=>FLn.mono h k x (by have:=q x hx;omega) (a2 x hx)) (fun x hx=>FLn.mono h k x.body (by have:=y x hx;omega) (a3 x hx)) fun x hx=>FLn.mono h k x.body (by have:=I x hx;omega) (a4 x hx)
theorem FLn.up {F F':Nat}{c:Core}(hc:FLn F c) (h:F≤F'):FLn F' c:=FLn.mono h _ c (le_refl _) hc
theorem FLn.fl {F:Nat}(h:F≤570000000000):∀(k:Nat) (c:Core),aQ c≤k→FLn F c→NFr c
 | 0,c,hk,_=>by have:=bH c;omega
 | k+1,.mk f n s t ks bs al,hk,hc=>by
  obtain⟨q,y,I,_⟩:= @dL f n s t ks bs al;cases hc with
  | mk a1 a2 a3 a4=>exact .mk (le_trans a1 h) (fun x hx=>FLn.fl h k x (by have:=q x hx;omega) (a2 x hx)) (fun x hx=>FLn.fl h k x.body (by have:=y x hx;omega) (a3 x hx)) fun x hx=>FLn.fl h k x.body (by have:=I x hx;omega) (a4 x hx)
theorem aF6 {X:Nat}(q:X≤1000000000):∀(k:Nat) (c:Core),aQ c≤k→bU (QL X) c→LC c
 | 0,c,h,_=>by have:=bH c;omega
 | k+1,.mk f n s t ks bs al,h,I=>by
  obtain⟨J,z2,z3,_⟩:= @dL f n s t ks bs al;obtain⟨⟨y,_,_,_,O,_⟩,k1,k2,Y⟩:=aM.1 I;have hk:ks.length≤2:=by
   unfold okF at y
   repeat' split at y
   all_goals
    have:=ψ y;omega
  have Z:=aTt (bs.map bhd);have hs:=i6 s;unfold lw at O;have e2:∀l:List (Str×List Str),31*l.length≤(l.map fun p=>1+w30 p.1+(p.2.map fun v=>1+w30 v).sum).sum:=by
   intro l
   induction l with
   | nil=>exact le_refl _
   | cons p l ih=>simp only[At,Da,Ai];have:=i6 p.1;omega
  have e3:=e2 (al.map ahd);rw[φ] at Z e3;refine .mk (by omega) (by omega) (fun a ha=>?_) (fun x hx=>aF6 q k x (by have:=J x hx;omega) (k1 x hx)) (fun x hx=>aF6 q k x.body (by have:=z2 x hx;omega) (k2 x hx)) fun x hx=>aF6 q k x.body (by have:=z3 x hx;omega) (Y x hx)
  have g1:=l8 (g:=fun p:Str×List Str=>1+w30 p.1+(p.2.map fun v=>1+w30 v).sum) (Ah.2 ⟨a,ha,rfl⟩:ahd a∈al.map ahd);have g2:=zO a.vars;have g3:(ahd a).2=a.vars:=rfl;rw[g3] at g1;omega
theorem aB5 {p:Ty→Prop}(hp:p zTy):∀(k:Nat) (c:Core),aQ c≤k→bU ZL c→oV p c
 | 0,c,h,_=>by have:=bH c;omega
 | k+1,.mk f n s t ks bs al,h,q=>by
  obtain⟨y,z2,z3,_⟩:= @dL f n s t ks bs al;obtain⟨⟨_,I,J⟩,k1,k2,O⟩:=aM.1 q;rw[oV];refine⟨by rw[I];exact hp,w8.2 fun x hx=>aB5 hp k x (by have:=y x hx;omega) (k1 x hx),wA.2 fun x hx=>⟨?_,aB5 hp k x.body (by have:=z2 x hx;omega) (k2 x hx)⟩,wB.2 fun x hx=>aB5 hp k x.body (by have:=z3 x hx;omega) (O x hx)⟩;have:x.ty=zTy:=J (bhd x) (Ah.2 ⟨x,hx,rfl⟩);rw[this];exact hp
structure CF (X F:Nat) (c:Core):Prop where
 q:bU (QL X) c
 z:bU ZL c
 fl:FLn F c
section
variable {X F:Nat}{f n:Int}{s:Str}{t:Ty}{ks:List Core}{bs:List Bind}{al:List Alt}
theorem CF.kid (h:CF X F (.mk f n s t ks bs al)) {x:Core}(hx:x∈ks):CF X F x:=⟨(aM.1 h.q).2.1 x hx,(aM.1 h.z).2.1 x hx,by cases h.fl with | mk _ a _ _=>exact a x hx⟩
theorem CF.bind (h:CF X F (.mk f n s t ks bs al)) {x:Bind}(hx:x∈bs):CF X F x.body:=⟨(aM.1 h.q).2.2.1 x hx,(aM.1 h.z).2.2.1 x hx,by cases h.fl with | mk _ _ a _=>exact a x hx⟩
theorem CF.alt (h:CF X F (.mk f n s t ks bs al)) {x:Alt}(hx:x∈al):CF X F x.body:=⟨(aM.1 h.q).2.2.2 x hx,(aM.1 h.z).2.2.2 x hx,by cases h.fl with | mk _ _ _ a=>exact a x hx⟩
end
theorem CF.vX {X F:Nat}{z:Str}(hz:1+w30 z≤X) (q:1≤F):CF X F (vC z):=by
 have hw:=i6 z;refine⟨aM.2 ⟨⟨rfl,fun h=>by omega,rfl,fun p hp=>(by cases hp),?_,fun h=>by omega,fun p hp=>(by cases hp),fun p hp=>(by cases hp)⟩,fun x hx=>(by cases hx),fun x hx=>(by cases hx),fun x hx=>(by cases hx)⟩,a1h z,.mk q (fun x hx=>by cases hx) (fun x hx=>by cases hx) (fun x hx=>by cases hx)⟩;show lw z [] []≤X;unfold lw;simp only[Co,sum_nil];omega
theorem a2d {z:Str}(h:z.length≤30):w30 z=30:=by unfold w30;omega
theorem CF.vC {X F:Nat}{z:Str}(hz:z.length≤30) (q:31≤X) (y:1≤F):CF X F (vC z):=CF.vX (by rw[a2d hz];exact q) y
theorem CF.tyG (q:j2 540000000000) {X F:Nat}{c:Core}(h:CF X F c):oV TyG c:=aB5 (a47 q zTy rfl (by decide)) _ c (le_refl _) h.z
theorem CF.free {X F:Nat}(y:X≤1000000000) (I:F≤570000000000) {c:Core}(h:CF X F c):aW Tryz.prog 136 [.pa (aB c)] [] (eE (pfR c)) []:=aBt _ c (le_refl _) (aF6 y _ c (le_refl _) h.q) (h.fl.fl I _ c (le_refl _))
theorem CF.up {X F F':Nat}{c:Core}(h:CF X F c) (y:F≤F'):CF X F' c:=⟨h.q,h.z,h.fl.up y⟩
theorem aHb {F:Nat}:∀{l:List Core},(∀x∈l,(pfR x).length≤F)→(l.flatMap pfR).length≤l.length*F
 | [],_=>by simp
 | x::l,h=>by
  rw[flatMap_cons,ε,Ai,succ_mul];have:=h x η;have:=aHb (l:=l) fun y q=>h y (χ _ q)
  omega
structure SF (X F1 F2:Nat) (c:Core) (s:Str) (b r:Core):Prop where
 tb:TB X c s b r
 pl:PL c s b r
 w:∀ρ,wS ρ r≤wS (sO ρ s (wS ρ b)) c
 z:bU ZL r
 fl:FLn (F1+F2) r
 fz:∀z,b=vC z→FLn F1 r
theorem a7y {X:Nat}{s:Str}{q:List (Str×Ty)}{y:List (Str×List Str)}(h:lw s q y≤X):31*q.length≤X∧∀p∈y,31*p.2.length≤X:=by
 unfold lw at h;have h1:=aTt q;refine⟨by omega,fun p hp=>?_⟩;have g1:=l8 (g:=fun p:Str×List Str=>1+w30 p.1+(p.2.map fun v=>1+w30 v).sum) hp;have g2:=zO p.2;omega
theorem aJf {sb:Core→Str→Core→Core}{P Q:Core→Prop}{s:Str}{b:Core}{ns:List Str}{ps:List Core}(Y:∀p∈ps,P p) (hz:∀p n z,P p→z.length≤30→P (sb p n (vC z))) (h1:∀p,P p→Q p) (h2:∀p,P p→Q (sb p s b))
  (hl:(ps.flatMap pfR).length+2*ns.length+(pfR b).length≤540000000000):∀q∈(dV sb s b ns ps).2,Q q:=by
 obtain⟨⟨Z,g1,g2⟩,_⟩:=aAc (sb:=sb) (Rel:=fun p q=>P p→P q) (fun p h=>h) (fun p q r y J h=>J (y h)) (s:=s) (b:=b) (ns:=ns) (ps:=ps) (fun p n z O h=>hz p n z h O) hl;have I:∀q∈Z,P q:=fun q I=>by
  obtain⟨p,hp,y⟩:=g1.mem q I;exact y (Y p hp)
 rcases g2 with g2 | g2
 ·rw[g2];exact fun q h=>h1 q (I q h)
 ·rw[g2];intro q h;obtain⟨p,hp,rfl⟩:=Ah.1 h;exact h2 p (I p hp)
theorem aRh (hI:j2 540000000000) {X F1:Nat}(hX:31≤X) (hX2:X≤403):∀(k:Nat) (c:Core),m30 c≤k→CF X F1 c→∀(s:Str) (b:Core) (F2:Nat),CF X F2 b→F1+F2≤20000000000→1≤F2→SF X F1 F2 c s b (fR k c s b):=by
 intro k
 induction k with
 | zero=>intro c h;have:=jM c;omega
 | succ k ih=>
 intro c h hc s b F2 hb hF hF2;have hTG:=hc.tyG hI;have hTGb:=hb.tyG hI;have hfreeb:=hb.free (by omega) (by omega);have hlcb:=aF6 (X:=X) (by omega) _ b (le_refl _) hb.q;have hlcc:=aF6 (X:=X) (by omega) _ c (le_refl _) hc.q;have hm31:=jM c;have hc0:=hc;have hid:=fun(h:¬s∈pfR c)=>aTw k c s b hc.q h
 obtain⟨f,n,nm,t,ks,bs,al⟩:=c;have Z:=hc.q;obtain⟨⟨h7,ht0,hbt0⟩,zk,zb,za⟩:=aM.1 hc.z;have hZ:=a2t (k+1) (.mk f n nm t ks bs al) s b hc.z hb.z;have hnode:∀r:Core,PL (.mk f n nm t ks bs al) s b r→(pfR r).length≤F1+F2:=fun r hr=>by
  have:=lJ (pfR r) (pfR (.mk f n nm t ks bs al)++pfR b) (aUl r) fun x hx=>ω.2 ((hr.pf x hx).imp And.left id)
  rw[ε] at this;have:=hc.fl.len;have:=hb.fl.len;omega
 have hnodez:∀r:Core,PL (.mk f n nm t ks bs al) s b r→s∈pfR (.mk f n nm t ks bs al)→∀z,b=vC z→(pfR r).length≤F1:=fun r hr hs z aa=>by
  have:=lJ (pfR r) (z::(pfR (.mk f n nm t ks bs al)).erase s) (aUl r) fun x hx=>by
   rcases hr.pf x hx with⟨h1,h2⟩ | h1
   ·exact χ _ ((List.mem_erase_of_ne h2).2 h1)
   ·rw[aa] at h1;have:x=z:=Ab.1 h1;rw[this];exact η
  rw[Ai,length_erase_of_mem hs] at this;have:=length_pos_of_mem hs;have:=hc.fl.len;omega
 rw[fR] at hZ hid ⊢;by_cases hv:f=1∧nm=s
 ·rw[κ (show(Core.mk f n nm t ks bs al).form=1∧(Core.mk f n nm t ks bs al).name=s from hv)];have hPL:PL (.mk f n nm t ks bs al) s b b:=by
   obtain⟨rfl,rfl⟩:=hv;refine⟨fun x hx=>.inr hx,fun σ hσ hb'=>le_trans hb' ?_⟩;rw[mS,κ rfl];omega
  have hW:∀ρ,wS ρ b≤wS (sO ρ s (wS ρ b)) (.mk f n nm t ks bs al):=fun ρ=>by
   obtain⟨rfl,rfl⟩:=hv;have e:sO ρ nm (wS ρ b) nm=wS ρ b:=by unfold sO;rw[κ rfl]
   rw[wS.eq_1 (sO ρ nm (wS ρ b)),κ rfl,e];omega
  refine⟨⟨aMw f n nm t ks bs al s b hv hlcb hTGb,⟨hb.q,fun A E ρ=>le_max_right ..,fun x hx=>.inr hx,le_add_left _ _⟩,fun B _ hb'=>le_trans hb' (A0 _ hm31)⟩,hPL,hW,hb.z,hb.fl.up (by omega),fun z aa=>?_⟩;have h1:1≤F1:=by
   have:=hc.fl.len;obtain⟨rfl,rfl⟩:=hv;rw[pfR,κ rfl] at this;exact this
  rw[aa];exact .mk h1 (fun x hx=>by cases hx) (fun x hx=>by cases hx) (fun x hx=>by cases hx)
 rw[θ (show ¬((Core.mk f n nm t ks bs al).form=1∧(Core.mk f n nm t ks bs al).name=s) from hv)] at hZ hid ⊢;rw[θ (show ¬((Core.mk f n nm t ks bs al).form=7∧s∈pfR (Core.mk f n nm t ks bs al)) from fun h=>h7 h.1)] at hZ hid ⊢
 let P:Core→Prop:=fun x=>m30 x<m30 (.mk f n nm t ks bs al)∧CF X F1 x
 have hsub:∀p,P p→∀n' b' F',CF X F' b'→F1+F'≤20000000000→1≤F'→SF X F1 F' p n' b' (fR k p n' b'):=fun p hp n' b' F' hb' hF' h1=>ih p (by have:=hp.1;omega) hp.2 n' b' F' hb' hF' h1
 have hzS:∀p m z,P p→z.length≤30→SF X F1 1 p m (vC z) (fR k p m (vC z)):=fun p m z hp y=>hsub p hp m (vC z) 1 (CF.vC y hX (le_refl _)) (by omega) (le_refl _)
 have I:∀p m z,P p→z.length≤30→P (fR k p m (vC z))∧R0 p (fR k p m (vC z)):=fun p m z hp y=>by
  have h1:=hzS p m z hp y;have h2:=h1.tb.r0 y;exact⟨⟨Nat.lt_of_le_of_lt h2.sz hp.1,h1.tb.rx.q,h1.z,h1.fz z rfl⟩,h2⟩
 have hz:∀p m z,P p→Fr z→z.length≤30→P (fR k p m (vC z))∧(∀x∈pfR (fR k p m (vC z)),x∈pfR p∨x=z)∧∀σ,Sg σ→mS σ (fR k p m (vC z))≤mS σ p:=fun p m z hp hFr y=>by
  have h3:=(hzS p m z hp y).pl;refine⟨(I p m z hp y).1,fun x hx=>(h3.pf x hx).imp And.left fun h=>Ab.1 h,fun σ hσ=>h3.ms σ hσ ?_⟩;rw[a7w];obtain⟨l,rfl⟩:=hFr;have:=hσ.fr l y;have:=hσ.ge m;have:=i6 m;omega
 have J:∀p,P p→SF X F1 F2 p s b (fR k p s b):=fun p hp=>hsub p hp s b F2 hb hF hF2
 have hfree:∀p,P p→aW Tryz.prog 136 [.pa (aB p)] [] (eE (pfR p)) []:=fun p hp=>hp.2.free (by omega) (by omega)
 have hok:∀ps,(∀p∈ps,P p)→PutOk (fR k) P s b ps:=fun ps hps=>⟨hps,fun p hp=>hfree p (hps p hp),hfreeb,fun p m z hp y=>(I p m z hp y).1,fun p m z hp y=>(hzS p m z hp y).tb.imp,fun p hp=>(J p hp).tb.imp,hI⟩
 have hPq:∀p,P p→bU (QL X) p:=fun p hp=>hp.2.q
 have hS:∀p,P p→RX X b p (fR k p s b):=fun p hp=>(J p hp).tb.rx
 have hSB:∀B,1≤B→m30 b≤31*B→∀p,P p→wfC (fR k p s b)=true∧oV (fun _=>True) (fR k p s b)∧m30 (fR k p s b)≤m30 p*B:=fun B hB hbB p hp=>by
  have h1:=(J p hp).tb;exact⟨aF5 _ h1.rx.q,nE _,h1.sz B hB hbB⟩
 have hPQ:∀p,P p→wfC p=true∧oV (fun _=>True) p:=fun p hp=>⟨aF5 _ hp.2.q,nE _⟩
 have hzs:∀p m z,P p→z.length≤30→P (fR k p m (vC z))∧m30 (fR k p m (vC z))≤m30 p:=fun p m z hp y=>⟨(I p m z hp y).1,(I p m z hp y).2.sz⟩
 have hs:∀p,P p→(∀x∈pfR (fR k p s b),(x∈pfR p∧¬x=s)∨x∈pfR b)∧∀σ,Sg σ→mS σ b≤σ s→mS σ (fR k p s b)≤mS σ p:=fun p hp=>⟨(J p hp).pl.pf,(J p hp).pl.ms⟩
 have hP1:∀x∈ks,P x:=fun x hx=>⟨by have:=iR hx;rw[m30];omega,hc.kid hx⟩
 have hP2:∀x∈bs,P x.body:=fun x hx=>⟨by have:=nQ hx;rw[m30];omega,hc.bind hx⟩
 have hP3:∀x∈al,P x.body:=fun x hx=>⟨by have:=k7 hx;rw[m30];omega,hc.alt hx⟩
 have O:∀p∈ks++bs.map Bind.body,P p:=fun p hp=>by
  rcases ω.1 hp with hp | hp
  ·exact hP1 p hp
  ·obtain⟨x,hx,rfl⟩:=Ah.1 hp;exact hP2 x hx
 obtain⟨⟨q1,_,_,_,q5,_⟩,_⟩:=aM.1 Z;obtain⟨w1,w2⟩:=a7y q5;rw[φ] at w1;have hk2:ks.length≤2:=by
  unfold okF at q1
  repeat' split at q1
  all_goals
   have:=ψ q1;omega
 have hgv:=aZ5 (f:=f) (nm:=nm) (bs:=bs);have hbl:=hb.fl.len;have hfl:=aHb (F:=F1) (l:=ks++bs.map Bind.body) fun x hx=>(O x hx).2.fl.len
 rw[ε,φ] at hfl;have hmu:(ks.length+bs.length)*F1≤15*20000000000:=C8 (by omega) (by omega);have hla:∀a∈al,(pfR a.body).length+2*a.vars.length+(pfR b).length+1≤540000000000:=fun a ha=>by
  have h3:=(hP3 a ha).2.fl.len;have h4:=w2 (ahd a) (Ah.2 ⟨a,ha,rfl⟩);have h5:(ahd a).2=a.vars:=rfl;rw[h5] at h4;omega
 have hM:((ks++bs.map Bind.body).flatMap pfR).length+2*(1+bs.length)+(pfR b).length+(ks.length+bs.length)≤540000000000:=by omega
 have himpS:=aHn (fR k) P f n nm nm t ks ks bs al s b hlcc hTG hv rfl (fun hf=>nH Z (.inl hf)) (fun e=>absurd e h7) (fun _=>⟨rfl,rfl⟩) (hok _ O) (fun a ha=>hok _ fun p hp=>by rw[Ab.1 hp];exact hP3 a ha) hM hla;have hgl:((ks++bs.map Bind.body).flatMap pfR).length+2*(gvN f nm bs).length+(pfR b).length≤540000000000:=by omega
 have Y:∀a∈al,(([a.body]:List Core).flatMap pfR).length+2*a.vars.length+(pfR b).length≤540000000000:=fun a ha=>by
  have:=hla a ha;simp only[flatMap_cons,List.flatMap_nil,A9];omega
 have hPa:∀a∈al,∀p∈[a.body],P p:=fun a ha p hp=>by rw[Ab.1 hp];exact hP3 a ha
 obtain⟨hA,hN⟩:=aOs (sb:=fR k) (P:=P) (X:=X) (s:=s) (b:=b) (ns:=gvN f nm bs) O hPq I hS hgl;have hAa:∀a∈al,A2 (RX X b) [a.body] (dV (fR k) s b a.vars [a.body]).2∧A2 NR a.vars (dV (fR k) s b a.vars [a.body]).1:=fun a ha=>
  aOs (sb:=fR k) (P:=P) (X:=X) (s:=s) (b:=b) (hPa a ha) hPq I hS (Y a ha)
 have hTB:TB X (.mk f n nm t ks bs al) s b (sJ (fR k) s b (.mk f n nm t ks bs al)):=by
  refine⟨himpS,a1a h7 Z hA hN hAa,fun B hB hbB=>?_⟩;have hg:=aOu (sb:=fR k) (P:=P) (T:=fun _=>True) (s:=s) (b:=b) (ns:=gvN f nm bs) hB O hzs hPQ (hSB B hB hbB) hgl;have hga:∀a∈al,PK B (fun _=>True) a.vars [a.body] (dV (fR k) s b a.vars [a.body]):=fun a ha=>aOu hB (hPa a ha) hzs hPQ (hSB B hB hbB) (Y a ha)
  exact(aSp (n:=n) (nm:=nm) hB hg hga trivial (fun x hx=>trivial) (fun hf=>nH Z hf) (fun hf=>wC Z hf)).2.2
 have hPL:PL (.mk f n nm t ks bs al) s b (sJ (fR k) s b (.mk f n nm t ks bs al)):=by
  by_cases hf1:f=1
  ·subst hf1;obtain⟨rfl,rfl,rfl⟩:=wC Z rfl;have hne:¬nm=s:=fun e=>hv ⟨rfl,e⟩
   have e0:pfR (.mk 1 n nm t [] [] [])=[nm]:=rfl;rw[hid (by rw[e0];intro e;exact hne (Ab.1 e).symm)];exact⟨fun x hx=>.inl ⟨hx,fun e=>hne (by rw[e0] at hx;rw[←Ab.1 hx,e])⟩,fun _ _ _=>le_refl _⟩
  ·have hRB:=aOt (sb:=fR k) (P:=P) (s:=s) (b:=b) (ns:=gvN f nm bs) O hz hs hgl;exact a1b hf1 Z hN hRB fun a ha=>⟨(hAa a ha).2,aOt (sb:=fR k) (P:=P) (s:=s) (b:=b) (hPa a ha) hz hs (Y a ha)⟩
 have hzW:∀p m z,P p→z.length≤30→P (fR k p m (vC z))∧(∀x∈pfR (fR k p m (vC z)),x∈pfR p∨x=z)∧∀ρ,wS ρ (fR k p m (vC z))≤wS (sO ρ m (ρ z)) p:=fun p m z hp y=>by
  have h3:=hzS p m z hp y;refine⟨(I p m z hp y).1,fun x hx=>(h3.pl.pf x hx).imp And.left fun h=>Ab.1 h,fun ρ=>?_⟩;have:=h3.w ρ;rwa [a2c] at this
 have hW:∀ρ,wS ρ (sJ (fR k) s b (.mk f n nm t ks bs al))≤wS (sO ρ s (wS ρ b)) (.mk f n nm t ks bs al):=fun ρ=>by
  by_cases hf1:f=1
  ·subst hf1;obtain⟨rfl,rfl,rfl⟩:=wC Z rfl;have hne:¬nm=s:=fun e=>hv ⟨rfl,e⟩
   have e0:pfR (.mk 1 n nm t [] [] [])=[nm]:=rfl;rw[hid (by rw[e0];intro e;exact hne (Ab.1 e).symm)];refine aYq Z fun x hx=>?_
   rw[e0] at hx;unfold sO;rw[θ fun e=>hne (by rw[←Ab.1 hx,e])];exact le_refl _
  ·have hRB:=aW7 (sb:=fR k) (P:=P) (s:=s) (b:=b) (ns:=gvN f nm bs) hb.q O hPq hzW (fun p hp=>(J p hp).w) hgl;exact a5y hf1 Z hN hRB (fun a ha=>⟨(hAa a ha).2,aW7 (sb:=fR k) (P:=P) (s:=s) (b:=b) hb.q (hPa a ha) hPq hzW (fun p hp=>(J p hp).w) (Y a ha)⟩) ρ
 have hparts:∀F',F1≤F'→(∀p,P p→FLn F' (fR k p s b))→(pfR (sJ (fR k) s b (.mk f n nm t ks bs al))).length≤F'→FLn F' (sJ (fR k) s b (.mk f n nm t ks bs al)):=fun F' hF' hp' hn'=>by
  have g1:=aJf (sb:=fR k) (P:=P) (Q:=FLn F') (s:=s) (b:=b) (ns:=gvN f nm bs) O (fun p m z hp y=>(I p m z hp y).1) (fun p hp=>hp.2.fl.up hF') hp' hgl;have g2:∀a∈al,∀q∈(dV (fR k) s b a.vars [a.body]).2,FLn F' q:=fun a ha=>aJf (sb:=fR k) (P:=P) (Q:=FLn F') (s:=s) (b:=b) (hPa a ha) (fun p m z hp y=>(I p m z hp y).1) (fun p hp=>hp.2.fl.up hF') hp' (Y a ha)
  rw[sJ] at hn' ⊢;unfold zNm zKs zBs at hn' ⊢;refine .mk hn' (fun x hx=>g1 x (Bz hx)) (fun x hx=>g1 _ (Cx (lK hx).1)) (fun x hx=>?_);obtain⟨a,ha,rfl⟩:=Ah.1 hx;exact aQc (g2 a ha) ((hP3 a ha).2.fl.up hF')
 refine⟨hTB,hPL,hW,hZ,hparts _ (B6 _ _) (fun p hp=>(J p hp).fl) (hnode _ hPL),fun z aa=>?_⟩;by_cases hs':s∈pfR (.mk f n nm t ks bs al)
 ·exact hparts F1 (le_refl _) (fun p hp=>(J p hp).fz z aa) (hnodez _ hPL hs' z aa)
 ·rw[hid hs'];exact hc0.fl
end Go.Proofs.YtnjaiimffoninaaGreatDoor
