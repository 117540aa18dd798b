/-
  Texts Pr1 to Wd7 in one.
-/
import Derived.Test.YtkhgpgihmphfdaaGreatDoorM9
import Derived.Shelf.Strings.OnBuilder
import Derived.Shelf.Strconv.Itoa3
import Derived.Lib.LaidTab
open List (length_append length_cons length_map length_nil length_pos_iff length_take map_append map_cons map_map map_nil mem_append mem_cons mem_cons_of_mem mem_cons_self mem_singleton sum_append sum_cons take_length take_of_length_le)
open Nat (add_zero le_refl le_trans lt_of_lt_of_le mul_one zero_le)
namespace Go.Proofs.YtkhgpgihmphfdaaGreatDoor
open Go Go.AM
set_option maxRecDepth 20000
set_option maxHeartbeats 4000000
inductive PT:Ty→Prop where
 | leaf (f:Int) (s:Str) (h:f=0∨f=2∨f=3):PT (.mk f 0 s [])
 | app {a b:Ty} (ha:PT a) (hb:PT b):PT (dF a b)
def fnP:Ty→Option (Ty×Ty)
 | .mk f _ _ [.mk g _ _ [.mk h _ s _,a],b]=>if f=4∧g=4∧h=3∧s=arrow then some (a,b) else none
 | _=>none
def brk (b:Bool) (s:Str):Str:=if b=true then [40]++s++[41] else s
def arrS:Str:=[32,45,62,32]
def n5:Nat→Int→Ty→Str
 | 0,_,_=>[]
 | k+1,how,t=>match fnP t with
  | some (a,b)=>brk (!decide (how=0)) (n5 k 1 a++arrS++n5 k 0 b)
  | none=>if t.form=3∧t.name=arrow then brk true t.name
   else match t with
    | .mk f _ s [a,b]=>if f=4 then brk (decide (how=3)) (n5 k 2 a++[32]++n5 k 3 b) else s
    | .mk _ _ s _=>s
mutual
def tyW:Ty→Nat
 | .mk _ _ s a=>s.length+8+aFf a
def aFf:List Ty→Nat
 | []=>0
 | t::l=>tyW t+aFf l
end
theorem gO (a b:Ty):tyW (dF a b)=8+(tyW a+tyW b):=by unfold dF;rw[tyW,aFf,aFf,aFf];simp
theorem bU (b:Bool) (s:Str):(brk b s).length≤s.length+2:=by
 unfold brk;split
 ·rw[ψ,ψ,κ,κ,length_nil];omega
 ·omega
theorem PT.cases {t:Ty}(h:PT t):(∃a b,t=lH a b∧PT a∧PT b)∨(fnP t=none∧((∃f s,t=.mk f 0 s []∧(f=0∨f=2∨f=3))∨∃a b,t=dF a b∧PT a∧PT b)):=by
 cases h with
 | leaf f s r=>exact .inr ⟨rfl,.inl ⟨f,s,rfl,r⟩⟩
 | @app a b ha hb=>
  cases ha with
  | leaf g s q=>exact .inr ⟨rfl,.inr ⟨_,_,rfl,.leaf g s q,hb⟩⟩
  | @app x y hx hy=>
   cases hx with
   | leaf g s q=>
    by_cases hc:g=3∧s=arrow
    ·obtain⟨rfl,rfl⟩:=hc;exact .inl ⟨y,b,rfl,hy,hb⟩
    ·refine .inr ⟨?_,.inr ⟨_,_,rfl,.app (.leaf g s q) hy,hb⟩⟩;show(if(4:Int)=4∧(4:Int)=4∧g=3∧s=arrow then some (y,b) else none)=none;rw[ζ (fun k=>hc ⟨k.2.2.1,k.2.2.2⟩)]
   | app hu u=>exact .inr ⟨rfl,.inr ⟨_,_,rfl,.app (.app hu u) hy,hb⟩⟩
theorem mG (k:Nat) (q:Int) (a b:Ty):n5 (k+1) q (lH a b)=brk (!decide (q=0)) (n5 k 1 a++arrS++n5 k 0 b):=rfl
theorem jS (k:Nat) (q f:Int) (s:Str) (r:f=0∨f=2∨f=3):n5 (k+1) q (.mk f 0 s [])=brk (decide (f=3)&&decide (s=arrow)) s:=by
 show(if f=3∧s=arrow then brk true s else s)=_;by_cases hc:f=3∧s=arrow
 ·rw[ξ hc,χ hc.1,χ hc.2];rfl
 ·rw[ζ hc];have:(decide (f=3)&&decide (s=arrow))=false:=by
   rw[←Bool.not_eq_true,Ab];exact fun k=>hc ⟨ω k.1,ω k.2⟩
  rw[this];rcases r with rfl | rfl | rfl<;>rfl
theorem mH (k:Nat) (q:Int) {a b:Ty}(h:fnP (dF a b)=none):n5 (k+1) q (dF a b)=brk (decide (q=3)) (n5 k 2 a++[32]++n5 k 3 b):=by
 rw[n5.eq_def];dsimp only;rw[h];rfl
theorem jR:∀(k:Nat) (q:Int) (t:Ty),PT t→(n5 k q t).length≤tyW t
 | 0,_,_,_=>Ae _
 | k+1,q,t,h=>by
  rcases h.cases with⟨a,b,rfl,ha,hb⟩ | ⟨hn,⟨f,s,rfl,r⟩ | ⟨a,b,rfl,ha,hb⟩⟩
  ·rw[mG];have h1:=bU (!decide (q=0)) (n5 k 1 a++arrS++n5 k 0 b);have h2:=jR k 1 a ha;have u:=jR k 0 b hb;unfold lH;rw[gO,gO];rw[ψ,ψ,show arrS.length=4 from rfl] at h1;omega
  ·rw[jS k q f s r,tyW,aFf];have:=bU (decide (f=3)&&decide (s=arrow)) s;omega
  ·rw[mH k q hn,gO];have h1:=bU (decide (q=3)) (n5 k 2 a++[32]++n5 k 3 b);have h2:=jR k 2 a ha;have u:=jR k 3 b hb;rw[ψ,ψ,κ,length_nil] at h1;omega
theorem aI1 (a b:Ty):bI Tryz.prog 188 [tyV (lH a b)] [] (.tup [tyV a,tyV b,B true]) []:=by
 refine bM (n:=47) tok Tryz.func188 rfl rfl rfl ?_;exact sg rfl (aA (sgh [(3,.bv false),(6,.row 0 (bG (dF (.mk 3 0 arrow []) a))),(10,.bv false)] rfl (aB rfl nofun (fun _=>aF (sgh [(2,.row 0 (bG (dF (.mk 3 0 arrow []) a))),(5,.row 0 (bG (.mk 3 0 arrow [])))] rfl (aA (sgh [(3,.bv false),(7,.bv false)] rfl (aB rfl (fun hb=>absurd hb (by decide)) (fun _=>aF (sgh [(2,.row 0 (bG (dF (.mk 3 0 arrow []) a))),(5,.row 1 (bG a)),(9,.row 1 (bG b))] rfl (aD ⟨.inr rfl,⟨_,_,.cell rfl (tg rfl) rfl rfl rfl (.cell rfl (tg rfl) rfl rfl rfl (.tmp rfl .nil)),.cons .refl (.cons .refl (.cons .refl .nil)),rfl⟩,trivial,rfl⟩)))))))))))
theorem zcv {h:c8}:Conv h [] (.pa [.int .i64 0,.int .i64 0,.str [],.nl]) (tyV zTy):=by
 apply Go.AM.Conv.pa
 repeat (first | exact .nil | apply Go.AM.PureL.c .refl | apply Go.AM.PureL.c .nl)
theorem aI0 {t:Ty}(h:PT t) (hn:fnP t=none):bI Tryz.prog 188 [tyV t] [] (.tup [tyV zTy,tyV zTy,B false]) []:=by
 refine bM (n:=47) tok Tryz.func188 rfl rfl rfl ?_;refine sg rfl ?_;cases h with
 | leaf f s A=>
  have d:(!decide (f=4))=true:=by rw[φ (by omega)];rfl
  exact aA (sgh [(3,.bv true),(10,.bv true)] rfl (aB rfl (fun _=>sg rfl (aD ⟨.inr rfl,⟨_,_,.cell rfl (tg rfl) rfl rfl rfl (.cell rfl (tg rfl) rfl rfl rfl (.tmp rfl .nil)),.cons zcv (.cons zcv (.cons .refl .nil)),rfl⟩,trivial,rfl⟩)) (fun hb=>Bool.noConfusion hb)))
 | @app a b ha hb=>
  cases ha with
  | leaf g s r=>
   have d:(!decide (g=4))=true:=by rw[φ (by omega)];rfl
   exact aA (sgh [(3,.bv false),(6,.row 0 (bG (.mk g 0 s []))),(10,.bv false)] rfl (aB rfl (fun _=>sg rfl (aD ⟨.inr rfl,⟨_,_,.cell rfl (tg rfl) rfl rfl rfl (.cell rfl (tg rfl) rfl rfl rfl (.tmp rfl .nil)),.cons zcv (.cons zcv (.cons .refl .nil)),rfl⟩,trivial,rfl⟩)) (fun hb=>Bool.noConfusion (hb.symm.trans d))))
  | @app x y hx hy=>
   refine aA (sgh [(3,.bv false),(6,.row 0 (bG (dF x y))),(10,.bv false)] rfl (aB rfl nofun (fun _=>aF (sgh [(2,.row 0 (bG (dF x y))),(5,.row 0 (bG x))] rfl ?_))));by_cases q:x.form=3
   ·have d3:(!decide (x.form=3))=false:=by rw[χ q];rfl
    have hs:¬x.name=arrow:=fun e=>by
     cases hx with
     | leaf g s r=>
      have:fnP (dF (dF (.mk g 0 s []) y) b)=some (y,b):=by
       show(if(4:Int)=4∧(4:Int)=4∧g=3∧s=arrow then some (y,b) else none)=_;rw[ξ ⟨rfl,rfl,q,e⟩]
      rw[this] at hn;cases hn
     | app=>exact absurd (show(4:Int)=3 from q) (by decide)
    have u:(!decide (x.name=arrow))=true:=by rw[φ hs];rfl
    exact aA (sgh [(3,.bv false),(7,.bv false)] rfl (aB rfl (fun _=>sg rfl (aD ⟨.inr rfl,⟨_,_,.cell rfl (tg rfl) rfl rfl rfl (.cell rfl (tg rfl) rfl rfl rfl (.tmp rfl .nil)),.cons zcv (.cons zcv (.cons .refl .nil)),rfl⟩,trivial,rfl⟩)) (fun hb=>Bool.noConfusion (hb.symm.trans u))))
   ·have d3:(!decide (x.form=3))=true:=by rw[φ q];rfl
    exact aA (sgh [(3,.bv true),(7,.bv true)] rfl (aB rfl (fun _=>sg rfl (aD ⟨.inr rfl,⟨_,_,.cell rfl (tg rfl) rfl rfl rfl (.cell rfl (tg rfl) rfl rfl rfl (.tmp rfl .nil)),.cons zcv (.cons zcv (.cons .refl .nil)),rfl⟩,trivial,rfl⟩)) (fun hb=>Bool.noConfusion hb)))
theorem aE1 {b:Bool}(h:b=false):bI Tryz.prog 189 [B b] [] (I .i64 0) []:=by
 subst h;refine bM (n:=4) tok Tryz.func189 rfl rfl rfl ?_;exact sg rfl (aA (sg rfl (aB rfl nofun (fun _=>aF (sg rfl (aD rtT))))))
theorem PT.form {t:Ty}(h:PT t):t.form=0∨t.form=2∨t.form=3∨t.form=4:=by
 cases h with
 | leaf f s q=>rcases q with h | h | h<;>simp[Ty.form,h]
 | app=>exact .inr (.inr (.inr rfl))
def aW9:Code→Code | .seq _ b=>b | c=>c
theorem nJ:∀(k:Nat) (q:Int) (t:Ty),PT t→tn t≤k→tyW t≤1000000000→bI Tryz.prog 145 [tyV t,I .i64 q] [] (Go.AM.T (n5 k q t)) []
 | 0,_,t,_,h,_=>by have:=vQ t;omega
 | k+1,q,t,hP,u,y=>by
  have hM:3000000000≤maxLen:=by decide
  have r:∀(s:Str) (b:Bool),s.length≤2000000000→AWp none Tryz.prog 89 (keys ([]:List (Nat×AObj))) (aW9 (aW9 (aW9 (Tryz.f145.body.getD .skip)))) (mk [(5,Go.AM.T s),(6,B b)] []) (fun ex st=>(ex=.normal∨ex=.ret)∧Fin tr.flat Tryz.f145 st [] (Go.AM.T (brk b s)) []):=fun s b hs=>by
   refine aA (sg rfl ?_);cases b with
   | true=>
    exact aB rfl (fun _=>sg rfl (aD rtT)) nofun
   | false=>
    exact aB rfl nofun (fun _=>aF (sg rfl (aD rtT)))
  refine bM (n:=89) tok Tryz.func145 rfl rfl rfl ?_;refine sg rfl (sg rfl ?_);rcases hP.cases with⟨a,b,rfl,ha,hb⟩ | ⟨hn,J⟩
  ·have hp:=aI1 a b;have M:=jR k 1 a ha;have O:=jR k 0 b hb;unfold lH at u y;rw[gO,gO] at y;unfold dF at u;rw[tn,tns,tns,tns,tn,tns,tns,tns] at u;have A:=nJ k 1 a ha (by omega) (by omega);have E:=nJ k 0 b hb (by omega) (by omega);have U:=aE1 (show decide (b.form=5)=false from φ (by have:=hb.form;omega));rw[mG];refine aA (AWp.cut (mk [(5,Go.AM.T (n5 k 1 a++arrS++n5 k 0 b)),(6,B (!decide (q=0)))] []) ?_ ?_)
   ·refine sk 1 rfl (kc hp ?_);refine kz 9 rfl (aE (sg rfl (aB rfl (fun _=>?_) nofun)));have h4:arrS.length=4:=rfl;refine aC mixed (ak 1 [] rfl (kc A ?_));refine ak 5 [] rfl (kc U ?_);refine ak 1 [] rfl (kc E ?_);exact kz 5 rfl sl
   ·exact r _ _ (by rw[ψ,ψ,show arrS.length=4 from rfl];omega)
  ·have hp:=aI0 hP hn;rcases J with⟨f,s,rfl,hf⟩ | ⟨a,b,rfl,ha,hb⟩
   ·have d1:decide (f=1)=false:=φ (by omega);have d5:decide (f=5)=false:=φ (by omega);have d4:decide (f=4)=false:=φ (by omega);rw[tyW,aFf] at y;rw[jS k q f s hf];refine aA (AWp.cut (mk [(5,Go.AM.T s),(6,B (decide (f=3)&&decide (s=arrow)))] []) ?_ ?_)
    ·refine sk 1 rfl (kc hp ?_);refine kz 9 rfl (aE (sg rfl (aB rfl nofun (fun _=>sg rfl (aB rfl (fun hb=>absurd (hb.symm.trans d1) Bool.noConfusion) (fun _=>?_))))));by_cases Y:f=3
     ·have d3:decide (f=3)=true:=χ Y;rw[d3,Bool.true_and];refine sgh [(3,.bv true),(7,.bv true)] rfl (aB rfl (fun hb=>?_) (fun hb=>?_))
      ·refine ag [] rfl ?_;rw[show decide (s=arrow)=true from hb];exact sl
      ·refine sg rfl (aB rfl (fun hb=>absurd (hb.symm.trans d5) Bool.noConfusion) (fun _=>sg rfl (aB rfl (fun hb=>absurd (hb.symm.trans d4) Bool.noConfusion) (fun _=>aF ?_))));rw[show decide (s=arrow)=false from hb];exact sl
     ·have d3:decide (f=3)=false:=φ Y;rw[d3,Bool.false_and];exact sgh [(3,.bv false),(7,.bv false)] rfl (aB rfl nofun (fun _=>sg rfl (aB rfl (fun hb=>absurd (hb.symm.trans d5) Bool.noConfusion) (fun _=>sg rfl (aB rfl (fun hb=>absurd (hb.symm.trans d4) Bool.noConfusion) (fun _=>aF sl))))))
    ·exact r _ _ (by omega)
   ·have M:=jR k 2 a ha;have O:=jR k 3 b hb;rw[gO] at y;unfold dF at u;rw[tn,tns,tns,tns] at u;have A:=nJ k 2 a ha (by omega) (by omega);have E:=nJ k 3 b hb (by omega) (by omega);rw[mH k q hn];refine aA (AWp.cut (mk [(5,Go.AM.T (n5 k 2 a++[32]++n5 k 3 b)),(6,B (decide (q=3)))] []) ?_ ?_)
    ·refine sk 1 rfl (kc hp ?_);refine kz 9 rfl (aE (sg rfl (aB rfl nofun (fun _=>sg rfl (aB rfl nofun (fun _=>sgh [(3,.bv false),(7,.bv false)] rfl (aB rfl nofun (fun _=>sg rfl (aB rfl nofun (fun _=>sg rfl (aB rfl (fun _=>aC mixed (ak 4 [(2,.row 0 (bG a))] rfl (kc A ?_))) nofun)))))))))));refine ak 5 [(8,.row 1 (bG b))] rfl (kc E ?_);exact kz 5 rfl sl
    ·exact r _ _ (by rw[ψ,ψ,κ,length_nil];omega)
def prT (t:Ty):Str:=n5 (tn t) 0 t
theorem aC7 (t:Ty) (hP:PT t) (q:tyW t≤1000000000):bI Tryz.prog 99 [tyV t] [] (Go.AM.T (prT t)) []:=by
 have h:=nJ (tn t) 0 t hP (le_refl _) q;refine bM (n:=5) tok Tryz.func99 rfl rfl rfl ?_;refine sg rfl (sk 1 rfl (kc h ?_));exact kz 1 rfl (aD rtT)
end Go.Proofs.YtkhgpgihmphfdaaGreatDoor
namespace Go.Proofs.YtkhgpgihmphfdaaGreatDoor
open Go Go.AM Go.Shelf
set_option maxRecDepth 100000
def jr:Ren:=⟨fun f=>if f=156 then 37 else if f=165 then 87 else if f=166 then 88 else if f=169 then 89 else if f=240 then 140 else if f=241 then 141 else if f=276 then 180 else if f=277 then 181 else f,fun t=>if t=0 then 0 else if t=3 then 3 else if t=4 then 4 else if t=5 then 5 else if t=9 then 9 else if t=20 then 20 else if t=31 then 24 else if t=37 then 144 else if t=70 then 143 else if t=72 then 146 else if t=75 then 149 else if t=76 then 150 else if t=80 then 152 else if t=127 then 193 else if t=164 then 216 else t,fun g=>if g=1 then 0 else g⟩
theorem jl:Lays.n156 Tryz.prog jr where
 mixed:=mixed
 f156:=by kernel_rfl
 f165:=by kernel_rfl
 f166:=by kernel_rfl
 f169:=by kernel_rfl
 f240:=by kernel_rfl
 f241:=by kernel_rfl
 f276:=by kernel_rfl
 f277:=by kernel_rfl
 t0:=by kernel_rfl
 a0:=fun w=>by kernel_rfl
 z0:=fun w=>by kernel_rfl
 v0:=fun w=>by kernel_rfl
 t3:=by kernel_rfl
 a3:=fun w=>by kernel_rfl
 z3:=fun w=>by kernel_rfl
 v3:=fun w=>by kernel_rfl
 t4:=by kernel_rfl
 a4:=fun w=>by kernel_rfl
 z4:=fun w=>by kernel_rfl
 v4:=fun w=>by kernel_rfl
 t9:=by kernel_rfl
 a9:=fun w=>by kernel_rfl
 z9:=fun w=>by kernel_rfl
 v9:=fun w=>by kernel_rfl
 t20:=by kernel_rfl
 a20:=fun w=>by kernel_rfl
 z20:=fun w=>by kernel_rfl
 v20:=fun w=>by kernel_rfl
 t31:=by kernel_rfl
 a31:=fun w=>by kernel_rfl
 z31:=fun w=>by kernel_rfl
 v31:=fun w=>by kernel_rfl
 t37:=by kernel_rfl
 a37:=fun w=>by kernel_rfl
 z37:=fun w=>by kernel_rfl
 v37:=fun w=>by kernel_rfl
 t70:=by kernel_rfl
 a70:=fun w=>by kernel_rfl
 z70:=fun w=>by kernel_rfl
 v70:=fun w=>by kernel_rfl
 t72:=by kernel_rfl
 a72:=fun w=>by kernel_rfl
 z72:=fun w=>by kernel_rfl
 v72:=fun w=>by kernel_rfl
 t75:=by kernel_rfl
 a75:=fun w=>by kernel_rfl
 z75:=fun w=>by kernel_rfl
 v75:=fun w=>by kernel_rfl
 t76:=by kernel_rfl
 a76:=fun w=>by kernel_rfl
 z76:=fun w=>by kernel_rfl
 v76:=fun w=>by kernel_rfl
 t127:=by kernel_rfl
 a127:=fun w=>by kernel_rfl
 z127:=fun w=>by kernel_rfl
 v127:=fun w=>by kernel_rfl
 t164:=by kernel_rfl
 a164:=fun w=>by kernel_rfl
 z164:=fun w=>by kernel_rfl
 v164:=fun w=>by kernel_rfl
theorem jx:Builder.Extra Tryz.prog jr where
 sizeBuilder:=by kernel_rfl
 liesBuilder:=by kernel_rfl
 t5:=by kernel_rfl
 a5:=fun w=>by kernel_rfl
 z5:=fun w=>by kernel_rfl
 v5:=fun w=>by kernel_rfl
 infoByte:=by kernel_rfl
 cellsByte:=by kernel_rfl
 sizeByte:=by kernel_rfl
 neB5:=by decide
end Go.Proofs.YtkhgpgihmphfdaaGreatDoor
namespace Go.AM
open Go
theorem Inv.below {G:Ctx}{S:Sto}{μ:Mu}{H:c8}{w w':World}(h:Inv G S μ H w) (k:Go.RowKit.Below w.heap.size w w'):Inv G S μ H w':=by
 have hold:∀b:Nat,b<w.heap.size→w'.heap[b]?=w.heap[b]?:=k.block;obtain⟨h1,h2,q,r,u,y,A,B,E⟩:=h;refine⟨⟨fun b o v e=>?_,fun b mk e=>?_⟩,fun id o e=>(h2 id o e).evolve (Evolve.refl _ _ _) rfl fun b c hm=>⟨hold b ((h2 id o e).lt hm),fun _=>rfl,rfl⟩,q,r,?_,y,A,B,E⟩
 ·obtain⟨vs,t,I,g1,g2⟩:=h1.1 b o v e;exact⟨vs,t,I,by rw[hold b (bY g1)];exact g1,g2⟩
 ·have g:=h1.2 b mk e;obtain⟨_,g2⟩:=MK.holds_some g;rw[hold b (bY g2)];exact g
 ·obtain⟨f1,f2,f3,f4,f5,f6⟩:=u;exact⟨k.os.trans f1,k.tape.trans f2,k.output.trans f3,le_trans f4 k.size,fun b hb J=>by rw[hold b (A4 hb f4)];exact f5 b hb J,f6⟩
end Go.AM
namespace Go.Proofs.YtkhgpgihmphfdaaGreatDoor
open Go Go.AM Go.Shelf
set_option maxRecDepth 20000
theorem wU (l:List Str):(l.map fun s=>(⟨⟨s⟩⟩:ByteArray)).map (·.data.toList)=l:=by
 rw[map_map];exact List.map_id l
theorem rI (l:List Str) (sep:Str) (hl:l.length≤140737488355328) (q:(Lib.join l sep).length≤140737488355328):bI Tryz.prog 37 [eG l,Go.AM.T sep] [] (Go.AM.T (Lib.join l sep)) []:=by
 intro S μ w vals M Y;simp only[eG,aY,aL,aV,Rep] at Y;obtain⟨v1,vs1,rfl,⟨a,len,cap,rfl,hlen,hcap,hmax,I,J,b,o,hb,u⟩,v2,vs2,rfl,rfl,rfl⟩:=Y;rw[η] at hlen;have A:∀(e:Ending) (w':World),(e=.returned (.string ⟨(Lib.join l sep).toArray⟩)∧Go.RowKit.Below w.heap.size w w')→∃S' μ' v,e=.returned v∧Inv ⟨w,S,k8 μ (Go.AM.look []),μ,Go.AM.look []⟩ S' μ' (Go.AM.look []) w'∧aL S' μ' (Go.AM.look []) (Go.AM.T (Lib.join l sep)) v:=by
  rintro e w' ⟨rfl,aa⟩;refine⟨S,μ,_,rfl,M.below aa,?_⟩;simp only[aL,aV,Rep]
 cases l with
 | nil=>
  rw[length_nil] at hlen;subst hlen;refine Calls.mono (Any.strings_Join_none jl jx a cap ⟨⟨sep⟩⟩ w) ?_;rintro e w' ⟨rfl,rfl⟩;exact A _ _ ⟨rfl,Go.RowKit.Below.refl _ _⟩
 | cons x r=>
  have hl0:0<len:=by rw[hlen,κ];omega
  cases a with
  | none=>have:=(I rfl).1;omega
  | some O=>
   obtain⟨h1,h2⟩:=hb O rfl;have h3:=J O rfl (by omega);obtain⟨U,ao,asp⟩:=O;dsimp only at h1 h2 h3;subst h1 h2 h3;have B:∀(j:Nat) y,((x::r).map fun s=>(⟨⟨s⟩⟩:ByteArray))[j]?=some y→w.cell? ⟨U,ao+j,none⟩=some (.string y):=fun j y q=>by
    rw[List.getElem?_map] at q;cases hx:(x::r)[j]? with
    | none=>rw[hx] at q;cases q
    | some s=>
     rw[hx] at q;injection q with q;subst q;obtain⟨_,vs,E,hc⟩:=u.get j (aR s) (b9 aR hx);simp only[aR,bZ,Rep] at E;obtain⟨v,vs',rfl,rfl,rfl⟩:=E;have:=M.holds.cell (hc 0 _ rfl);rwa [mul_one,Cc] at this
   have hbk:U<w.heap.size:=by
    obtain⟨_,vs,E,hc⟩:=u.get 0 (aR x) rfl;simp only[aR,bZ,Rep] at E;obtain⟨v,vs',rfl,rfl,rfl⟩:=E;obtain⟨_,_,_,g,_⟩:=M.holds.1 _ _ _ (hc 0 _ rfl);exact bY g
   have:=Any.strings_Join jl jx U ao cap ((x::r).map fun s=>(⟨⟨s⟩⟩:ByteArray)) ⟨⟨sep⟩⟩ w B hbk (by rw[η];exact hl) (by rw[η];omega) (by rw[wU];exact q);rw[wU,η] at this;rw[hlen];exact Calls.mono this fun e w' h=>A e w' h
end Go.Proofs.YtkhgpgihmphfdaaGreatDoor
namespace Go.Proofs.YtkhgpgihmphfdaaGreatDoor
open Go Go.AM Go.Shelf
set_option maxRecDepth 100000
def ir:Ren:=⟨fun f=>if f=129 then 206 else if f=171 then 49 else if f=243 then 98 else if f=246 then 144 else if f=283 then 184 else if f=284 then 185 else if f=285 then 186 else if f=286 then 187 else if f=317 then 205 else if f=318 then 207 else if f=319 then 208 else if f=320 then 209 else if f=337 then 224 else if f=338 then 225 else f,fun t=>if t=0 then 0 else if t=2 then 2 else if t=3 then 3 else if t=4 then 4 else if t=5 then 5 else if t=9 then 9 else if t=20 then 20 else if t=37 then 144 else if t=46 then 246 else if t=51 then 243 else if t=53 then 222 else if t=171 then 221 else if t=173 then 225 else if t=212 then 242 else if t=213 then 244 else if t=232 then 258 else if t=233 then 259 else t,fun g=>if g=17 then 1 else if g=18 then 2 else if g=19 then 3 else g⟩
theorem il:LaysM.n171 Tryz.prog ir where
 mixed:=mixed
 f129:=by kernel_rfl
 f171:=by kernel_rfl
 f243:=by kernel_rfl
 f246:=by kernel_rfl
 f283:=by kernel_rfl
 f284:=by kernel_rfl
 f285:=by kernel_rfl
 f286:=by kernel_rfl
 f317:=by kernel_rfl
 f318:=by kernel_rfl
 f319:=by kernel_rfl
 f320:=by kernel_rfl
 f337:=by kernel_rfl
 f338:=by kernel_rfl
 t0:=by kernel_rfl
 a0:=fun w=>by kernel_rfl
 z0:=fun w=>by kernel_rfl
 v0:=fun w=>by kernel_rfl
 t2:=by kernel_rfl
 a2:=fun w=>by kernel_rfl
 z2:=fun w=>by kernel_rfl
 v2:=fun w=>by kernel_rfl
 t3:=by kernel_rfl
 a3:=fun w=>by kernel_rfl
 z3:=fun w=>by kernel_rfl
 v3:=fun w=>by kernel_rfl
 t4:=by kernel_rfl
 a4:=fun w=>by kernel_rfl
 z4:=fun w=>by kernel_rfl
 v4:=fun w=>by kernel_rfl
 t5:=by kernel_rfl
 a5:=fun w=>by kernel_rfl
 z5:=fun w=>by kernel_rfl
 v5:=fun w=>by kernel_rfl
 t9:=by kernel_rfl
 a9:=fun w=>by kernel_rfl
 z9:=fun w=>by kernel_rfl
 v9:=fun w=>by kernel_rfl
 t20:=by kernel_rfl
 a20:=fun w=>by kernel_rfl
 z20:=fun w=>by kernel_rfl
 v20:=fun w=>by kernel_rfl
 t37:=by kernel_rfl
 a37:=fun w=>by kernel_rfl
 z37:=fun w=>by kernel_rfl
 v37:=fun w=>by kernel_rfl
 t46:=by kernel_rfl
 a46:=fun w=>by kernel_rfl
 z46:=fun w=>by kernel_rfl
 v46:=fun w=>by kernel_rfl
 t51:=by kernel_rfl
 a51:=fun w=>by kernel_rfl
 z51:=fun w=>by kernel_rfl
 v51:=fun w=>by kernel_rfl
 t53:=by kernel_rfl
 a53:=fun w=>by kernel_rfl
 z53:=fun w=>by kernel_rfl
 v53:=fun w=>by kernel_rfl
 t171:=by kernel_rfl
 a171:=fun w=>by kernel_rfl
 z171:=fun w=>by kernel_rfl
 v171:=fun w=>by kernel_rfl
 t173:=by kernel_rfl
 a173:=fun w=>by kernel_rfl
 z173:=fun w=>by kernel_rfl
 v173:=fun w=>by kernel_rfl
 t212:=by kernel_rfl
 a212:=fun w=>by kernel_rfl
 z212:=fun w=>by kernel_rfl
 v212:=fun w=>by kernel_rfl
 t213:=by kernel_rfl
 a213:=fun w=>by kernel_rfl
 z213:=fun w=>by kernel_rfl
 t232:=by kernel_rfl
 a232:=fun w=>by kernel_rfl
 z232:=fun w=>by kernel_rfl
 v232:=fun w=>by kernel_rfl
 t233:=by kernel_rfl
 a233:=fun w=>by kernel_rfl
 z233:=fun w=>by kernel_rfl
 v233:=fun w=>by kernel_rfl
 g17:=by kernel_rfl
 g18:=by kernel_rfl
 g19:=by kernel_rfl
 i0:=by kernel_rfl
 i2:=by kernel_rfl
 i3:=by kernel_rfl
 i4:=by kernel_rfl
 i5:=by kernel_rfl
 i9:=by kernel_rfl
 i20:=by kernel_rfl
 i37:=by kernel_rfl
 i46:=by kernel_rfl
 i51:=by kernel_rfl
 i53:=by kernel_rfl
 i171:=by kernel_rfl
 i173:=by kernel_rfl
 i212:=by kernel_rfl
 i232:=by kernel_rfl
 i233:=by kernel_rfl
 m17:=by kernel_rfl
 m18:=by kernel_rfl
 m19:=by kernel_rfl
end Go.Proofs.YtkhgpgihmphfdaaGreatDoor
namespace Go.AM
open Go
theorem Inv.grown {G:Ctx}{S:Sto}{μ:Mu}{H:c8}{w:World}(h:Inv G S μ H w) (k:Nat) (os:Array Obj):Inv G S μ H (Sort.grow (w.drewN k) os):=by
 have hold:∀b:Nat,b<w.heap.size→(Sort.grow (w.drewN k) os).heap[b]?=w.heap[b]?:=fun b hb=>by
  show(w.heap++os)[b]?=w.heap[b]?;exact Bv hb
 have hsz:w.heap.size≤(Sort.grow (w.drewN k) os).heap.size:=by
  show w.heap.size≤(w.heap++os).size;rw[Array.size_append];omega
 obtain⟨h1,h2,q,r,u,y,A,B,E⟩:=h;refine⟨⟨fun b o v e=>?_,fun b mk e=>?_⟩,fun id o e=>(h2 id o e).evolve (Evolve.refl _ _ _) rfl fun b c hm=>⟨hold b ((h2 id o e).lt hm),fun _=>rfl,rfl⟩,q,r,?_,y,A,B,E⟩
 ·obtain⟨vs,t,I,g1,g2⟩:=h1.1 b o v e;exact⟨vs,t,I,by rw[hold b (bY g1)];exact g1,g2⟩
 ·have g:=h1.2 b mk e;obtain⟨_,g2⟩:=MK.holds_some g;rw[hold b (bY g2)];exact g
 ·obtain⟨f1,f2,f3,f4,f5,f6⟩:=u;exact⟨f1,f2,f3,le_trans f4 hsz,fun b hb J=>by rw[hold b (A4 hb f4)];exact f5 b hb J,f6⟩
end Go.AM
namespace Go.Proofs.YtkhgpgihmphfdaaGreatDoor
open Go Go.AM
set_option maxRecDepth 20000
theorem aRn (k:Nat) (h:k<1000000000000000000):bI Tryz.prog 49 [I .i64 (k:Int)] [] (Go.AM.T (Lib.decDigits k)) []:=by
 intro S μ w vals r u;simp only [aY, aL, aV, Rep] at u;obtain ⟨v1, y, rfl, rfl, rfl⟩ := u;have q : Lib.TabIs Tryz.prog w "internal/strconv.uint64pow10" .u64 Lib.pow10Tab := by
  obtain ⟨h1, t, A, h2⟩ := r.frame.tabAt _ rfl;unfold Lib.TabIs World.var?;rw [show Tryz.prog.globalNamed "internal/strconv.uint64pow10" = aKs by kernel_rfl];simp only [aKs, B7, h2];rfl
 refine Calls.mono (Any.strconv_Itoa il (k:Int) (by omega) (by omega) w q) ?_;rintro e w' ⟨rfl,j,os,rfl⟩;refine⟨S,μ,_,rfl,r.grown j os,?_⟩;rw[Lib.itoa_nonneg];simp only[aL,aV,Rep]
end Go.Proofs.YtkhgpgihmphfdaaGreatDoor
namespace Go.Proofs.YtkhgpgihmphfdaaGreatDoor
open Go Go.AM
set_option maxRecDepth 20000
theorem aQu (n:Nat) (h:n≤600000000000):(Lib.decDigits n).length≤20:=by
 rw[Lib.decDigits_length];by_cases h0:n=0
 ·subst h0;decide+kernel
 ·have:=Lib.numDigits_eq n (by omega) (by omega);split at this<;>omega
set_option maxHeartbeats 4000000
theorem eO (s:Str) (b:Bool) (h:s.length≤2000000000):bI Tryz.prog 50 [Go.AM.T s,B b] [] (Go.AM.T (brk b s)) []:=by
 have q:3000000000≤maxLen:=by decide
 refine bM (n:=10) tok Tryz.func50 rfl rfl rfl ?_;refine sg rfl (aA (sg rfl ?_));cases b with
 | true=>
  exact aB rfl (fun _=>sg rfl (aD rtT)) nofun
 | false=>
  exact aB rfl nofun (fun _=>aF (sg rfl (aD rtT)))
def eZ (t:Ty):Str:=brk (decide (t.form=4)) (prT t)
def gT (p:Prd):Str:=p.cls++[32]++eZ p.ty
def aOg:Str:=[44,32]
def aZc:Str:=[32,61,62,32]
def aIt (l:List Prd):Str:=if l=[] then [] else brk (decide (1<l.length)) (Lib.join (l.map gT) aOg)++aZc
def sG (s:Sch):Str:=aIt s.preds++prT s.ty
def aEd (p:Prd):Nat:=p.cls.length+8+tyW p.ty
def dH (l:List Prd):Nat:=(l.map aEd).sum
def rS (s:Sch):Nat:=dH s.preds+8+tyW s.ty
structure SchP (s:Sch):Prop where
 t:PT s.ty
 p:∀p∈s.preds,PT p.ty
 l:s.preds.length≤100000
theorem oW {t:Ty}(h:PT t):(prT t).length≤tyW t:=jR _ _ t h
theorem pV {t:Ty}(h:PT t):(eZ t).length≤tyW t+2:=by
 have h1:=bU (decide (t.form=4)) (prT t);have h2:=oW h;unfold eZ;omega
theorem pred_le {p:Prd}(h:PT p.ty):(gT p).length≤aEd p:=by
 have h1:=pV h;unfold gT aEd;rw[ψ,ψ,κ,length_nil];omega
theorem join_le (sep:Str):∀l:List Str,(Lib.join l sep).length≤(l.map (fun s:Str=>s.length)).sum+sep.length*l.length
 | []=>Ae _
 | x::r=>by
  have e:Lib.lens (x::r)=((x::r).map (fun s:Str=>s.length)).sum:=rfl;have q:(Lib.join (x::r) sep).length=sep.length*r.length+Lib.lens (x::r):=Lib.join_length x r sep;rw[q,e,κ,Nat.mul_add];omega
theorem aF7 {α:Type}(f g:α→Nat):∀l:List α,(∀x∈l,f x≤g x)→(l.map f).sum≤(l.map g).sum
 | [],_=>le_refl _
 | x::l,h=>by
  rw[An,An,Bq,Bq];have:=h x Bp;have:=aF7 f g l fun y hy=>h y (Bc _ hy)
  omega
theorem aHu {α:Type}(g:α→Nat):∀{l:List α}{x:α},x∈l→g x≤(l.map g).sum
 | y::l,x,h=>by
  rw[An,Bq];rcases Aq.1 h with rfl | h
  ·omega
  ·have:=aHu g h;omega
theorem aH0 {α:Type}(g:α→Nat) (k:Nat):∀{l:List α},(∀x∈l,k≤g x)→k*l.length≤(l.map g).sum
 | [],_=>le_refl _
 | y::l,h=>by
  rw[An,Bq,κ,Nat.mul_add];have:=h y Bp;have:=aH0 g k (l:=l) fun z q=>h z (Bc _ q)
  omega
theorem aB5 {l:List Prd}(h:∀p∈l,PT p.ty):(Lib.join (l.map gT) aOg).length≤2*dH l:=by
 have h1:=join_le aOg (l.map gT);rw[map_map,η,show aOg.length=2 from rfl] at h1;have h2:(l.map ((fun s:Str=>s.length)∘gT)).sum≤(l.map aEd).sum:=aF7 (fun p=>(gT p).length) aEd l fun p hp=>pred_le (h p hp)
 have q:=aH0 aEd 2 (l:=l) fun p _=>by unfold aEd;omega
 unfold dH;omega
theorem sY {l:List Prd}(h:∀p∈l,PT p.ty):(aIt l).length≤2*dH l+6:=by
 have h1:=aB5 h;have h2:=bU (decide (1<l.length)) (Lib.join (l.map gT) aOg);unfold aIt;split
 ·exact Ae _
 ·rw[ψ,show aZc.length=4 from rfl];omega
theorem sF {s:Sch}(h:SchP s):(sG s).length≤2*rS s:=by
 have h1:=sY h.p;have h2:=oW h.t;unfold sG rS;rw[ψ];omega
theorem aC8 {t:Ty}(h:PT t) (q:tyW t≤1000000000):bI Tryz.prog 84 [tyV t] [] (Go.AM.T (eZ t)) []:=by
 have h1:=oW h;have hp:=aC7 t h q;have hb:=eO (prT t) (decide (t.form=4)) (by omega);refine bM (n:=9) tok Tryz.func84 rfl rfl rfl ?_;refine sg rfl (sk 1 rfl (kc hp ?_));refine ak 3 [] rfl (kc hb ?_);exact kz 1 rfl (aD rtT)
theorem oH (l:List Prd) (h:∀p∈l,PT p.ty) (hl:l.length≤100000) (hW:dH l≤400000000):bI Tryz.prog 86 [.one (.c (.sl 5 (l.map aQ)))] [] (Go.AM.T (aIt l)) []:=by
 have hM:3000000000≤maxLen:=by decide
 have E:(l.map aQ).length=l.length:=η _;refine bM (n:=33) tok Tryz.func86 rfl rfl rfl ?_;refine sg rfl (sg rfl (AWp.sub (Sub.own (t:=3) (id:=500) 9 1 rfl rfl) ?_));refine aA (sg rfl (aE (aP (fun i:Nat=>mk [(3,.one (.hs 500 0 (l.take i).length (l.take i).length)),(6,.one (.c (.sl 5 (l.map aQ)))),(7,I .i64 ((l.map aQ).length:Nat)),(8,I .i64 (i:Nat))] [(500,.arr 9 1 (((l.take i).map gT).map aR) 0)]) (fun i=>i≤l.length) (fun i=>l.length-i) 0 (Ae _) sl ?_)));intro i hi;have hti:(l.take i).length=i:=by rw[Ak];omega
 refine sg rfl (aA (aB rfl (fun hb=>?_) (fun hb=>?_)))
 ·have r:=ltD hb E;obtain⟨p,hp⟩:=aJ r;have hp':=b9 aQ hp;have hm:=Aa hp;have J:aEd p≤dH l:=aHu aEd hm;rw[show aEd p=p.cls.length+8+tyW p.ty from rfl] at J;have M:=aC8 (h p hm) (by omega);have hsl:=pV (h p hm);have u:(((l.take i).map gT).map aR).length=(l.take i).length:=by rw[η,η]
  have y:l.take (i+1)=l.take i++[p]:=cU hp;have A:(l.take (i+1)).length=(l.take i).length+1:=by rw[y,ψ];rfl
  have B:(((l.take i).map gT).map aR)++[[.str (p.cls++[32]++eZ p.ty)]]=((l.take (i+1)).map gT).map aR:=by rw[y,Ah,Ah];rfl
  refine aF (aA (aE (sgh [(0,.row i (aQ p))] rfl (aC mixed (ak 6 [] rfl (kc M ?_))))));exact ak 2 [(8,.all)] rfl (kz 2 rfl (agN [] rfl ⟨i+1,r,by dsimp only;omega,sl (he:=⟨Go.AM.hs_ren (by rw[A,←u];rfl) (by rw[A,←u];rfl),rfl,rfl,rfl,trivial⟩) (hh:=⟨⟨_,rfl,.arrS B⟩,trivial⟩)⟩))
 ·have O:=geD hb E hi;subst O;refine aS ?_;rw[Aw];have hjl:=aB5 h;have U:((l.map gT).map aR).length=l.length:=by rw[η,η]
  have hj:=rI (l.map gT) aOg (by rw[η];omega) (by omega);have Y:=eO (Lib.join (l.map gT) aOg) (decide ((1:Int)<((((l.map gT).map aR).length:Nat):Int))) (by omega);have hbl:=bU (decide ((1:Int)<((((l.map gT).map aR).length:Nat):Int))) (Lib.join (l.map gT) aOg);refine AWp.sub (Sub.freeze (id:=500) rfl) ?_;refine AWp.sub (st2:=mk [(3,eG (l.map gT))] []) ?_ ?_
  ·refine Sub.trans ?_ (cv 3 ((l.map gT).map aR));exact sl
  refine aA (sg rfl ?_);unfold aIt;by_cases q:l=[]
  ·have d:decide (((((l.map gT).map aR).length:Nat):Int)=0)=true:=χ (by rw[q];rfl);rw[ξ q];exact aB rfl (fun _=>sg rfl (aD rtT)) (fun hb=>Bool.noConfusion (hb.symm.trans d))
  ·have hpos:0<l.length:=length_pos_iff.2 q;have d:decide (((((l.map gT).map aR).length:Nat):Int)=0)=false:=φ (by omega);have e1:decide (1<l.length)=decide ((1:Int)<((((l.map gT).map aR).length:Nat):Int)):=by
    rw[U];by_cases h1:1<l.length
    ·rw[χ h1,χ (by omega)]
    ·rw[φ h1,φ (by omega)]
   rw[ζ q,e1];refine aB rfl (fun hb=>Bool.noConfusion (hb.symm.trans d)) (fun _=>aF (sk 1 rfl (kc hj ?_)));refine ak 3 [] rfl (kc Y ?_);exact kz 2 rfl (aD rtT)
theorem oG {s:Sch}(h:SchP s) (q:rS s≤400000000):bI Tryz.prog 54 [.pa (nE s)] [] (Go.AM.T (sG s)) []:=by
 have r:3000000000≤maxLen:=by decide
 unfold rS at q;have h1:=oH s.preds h.p h.l (by omega);have h2:=aC7 s.ty h.t (by omega);have u:=sY h.p;have y:=oW h.t;refine bM (n:=10) tok Tryz.func54 rfl rfl rfl ?_;refine sg rfl (sk 2 rfl (kc h1 ?_));refine ak 2 [] rfl (kc h2 ?_);exact kz 2 rfl (aD rtT)
def yM (l:List Str):Str:=if l=[] then [123,32,125] else [123,32]++Lib.join l [32,59,32]++[32,125]
theorem qC (l:List Str) (hl:l.length≤1000000) (A:(Lib.join l [32,59,32]).length≤2000000000):bI Tryz.prog 53 [eG l] [] (Go.AM.T (yM l)) []:=by
 unfold yM;have B:3000000000≤maxLen:=by decide
 have r:(l.map aR).length=l.length:=η _;have u:=rI l [32,59,32] (by omega) (by omega);refine bM (n:=10) tok Tryz.func53 rfl rfl rfl ?_;refine sg rfl (aA (sg rfl ?_));rw[r];by_cases q:l=[]
 ·have d:decide ((l.length:Int)=0)=true:=χ (by rw[q];rfl);rw[ξ q];exact aB rfl (fun _=>sg rfl (aD rtT)) (fun hb=>Bool.noConfusion (hb.symm.trans d))
 ·have y:0<l.length:=length_pos_iff.2 q;have d:decide ((l.length:Int)=0)=false:=φ (by omega);rw[ζ q];refine aB rfl (fun hb=>Bool.noConfusion (hb.symm.trans d)) (fun _=>aF (sk 1 rfl (kc u ?_)));exact kz 3 rfl (aD rtT)
def nU (t:Ty):Bool:=(fnP t).isSome
theorem dA:∀(k:Nat) (r:Int) (t:Ty),PT t→tn t≤k→n5 k r t=n5 (tn t) r t
 | 0,r,t,_,y=>by rw[show tn t=0 by omega]
 | k+1,r,t,h,y=>by
  rcases h.cases with⟨a,b,rfl,ha,hb⟩ | ⟨hn,⟨f,s,rfl,u⟩ | ⟨a,b,rfl,ha,hb⟩⟩
  ·have e:=vR a b;obtain⟨q,hq⟩:∃q,tn (lH a b)=q+1:=⟨tn (lH a b)-1,by omega⟩
   rw[hq,mG,mG,dA k 1 a ha (by omega),dA k 0 b hb (by omega),dA q 1 a ha (by omega),dA q 0 b hb (by omega)]
  ·obtain⟨q,hq⟩:∃q,tn (Ty.mk f 0 s [])=q+1:=⟨tn (.mk f 0 s [])-1,by
    have:1≤tn (Ty.mk f 0 s []):=by rw[tn,tns];omega
    omega⟩
   rw[hq,jS k r f s u,jS q r f s u]
  ·have e:=qK a b;obtain⟨q,hq⟩:∃q,tn (dF a b)=q+1:=⟨tn (dF a b)-1,by omega⟩
   rw[hq,mH k r hn,mH q r hn,dA k 2 a ha (by omega),dA k 3 b hb (by omega),dA q 2 a ha (by omega),dA q 3 b hb (by omega)]
theorem aCf {a b:Ty}(h:fnP (dF a b)=none):nU (dF a b)=false:=by unfold nU;rw[h];rfl
theorem u3 {t:Ty}(h:PT t) (r:Int):n5 (tn t) r t=brk (if nU t=true then !decide (r=0) else decide (t.form=4)&&decide (r=3)) (prT t):=by
 unfold prT;rcases h.cases with⟨a,b,rfl,ha,hb⟩ | ⟨hn,⟨f,s,rfl,u⟩ | ⟨a,b,rfl,ha,hb⟩⟩
 ·have e:=vR a b;obtain⟨q,hq⟩:∃q,tn (lH a b)=q+1:=⟨tn (lH a b)-1,by omega⟩
  rw[hq,mG,mG,ξ (show nU (lH a b)=true from rfl)];rfl
 ·obtain⟨q,hq⟩:∃q,tn (Ty.mk f 0 s [])=q+1:=⟨tn (.mk f 0 s [])-1,by
   have:1≤tn (Ty.mk f 0 s []):=by rw[tn,tns];omega
   omega⟩
  rw[hq,jS q r f s u,jS q 0 f s u,ζ (by rw[show nU (Ty.mk f 0 s [])=false from rfl];exact π)];have y:decide ((Ty.mk f 0 s []).form=4)=false:=φ (by show ¬f=4;rcases u with rfl | rfl | rfl<;>decide);rw[y];rfl
 ·have e:=qK a b;obtain⟨q,hq⟩:∃q,tn (dF a b)=q+1:=⟨tn (dF a b)-1,by omega⟩
  rw[hq,mH q r hn,mH q 0 hn,ζ (by rw[aCf hn];exact π)];rfl
theorem aBi {a b:Ty}(ha:PT a) (hb:PT b):prT (lH a b)=brk (nU a) (prT a)++arrS++prT b:=by
 have e:=vR a b;obtain⟨q,hq⟩:∃q,tn (lH a b)=q+1:=⟨tn (lH a b)-1,by omega⟩
 show n5 (tn (lH a b)) 0 (lH a b)=_;rw[hq,mG,dA q 1 a ha (by omega),dA q 0 b hb (by omega),u3 ha 1];have:(if nU a=true then !decide ((1:Int)=0) else decide (a.form=4)&&decide ((1:Int)=3))=nU a:=by
  cases nU a
  ·rw[ζ π];exact Bool.and_false _
  ·rfl
 rw[this];rfl
theorem aBj {a b:Ty}(h:fnP (dF a b)=none) (ha:PT a) (hb:PT b):prT (dF a b)=brk (nU a) (prT a)++[32]++brk (decide (b.form=4)) (prT b):=by
 have e:=qK a b;obtain⟨q,hq⟩:∃q,tn (dF a b)=q+1:=⟨tn (dF a b)-1,by omega⟩
 show n5 (tn (dF a b)) 0 (dF a b)=_;rw[hq,mH q 0 h,dA q 2 a ha (by omega),dA q 3 b hb (by omega),u3 ha 2,u3 hb 3];have h1:(if nU a=true then !decide ((2:Int)=0) else decide (a.form=4)&&decide ((2:Int)=3))=nU a:=by
  cases nU a
  ·rw[ζ π];exact Bool.and_false _
  ·rfl
 have h2:(if nU b=true then !decide ((3:Int)=0) else decide (b.form=4)&&decide ((3:Int)=3))=decide (b.form=4):=by
  rcases hb.cases with⟨x,y,rfl,_,_⟩ | ⟨hn,⟨f,s,rfl,r⟩ | ⟨x,y,rfl,_,_⟩⟩
  ·rfl
  ·rw[ζ (by rw[show nU (Ty.mk f 0 s [])=false from rfl];exact π)];exact Bool.and_true _
  ·rw[ζ (by rw[aCf hn];exact π)];exact Bool.and_true _
 rw[h1,h2];rfl
theorem qX {f:Int}{s:Str}(r:f=0∨f=2∨f=3):prT (.mk f 0 s [])=brk (decide (f=3)&&decide (s=arrow)) s:=by
 obtain⟨q,hq⟩:∃q,tn (Ty.mk f 0 s [])=q+1:=⟨tn (.mk f 0 s [])-1,by
  have:1≤tn (Ty.mk f 0 s []):=by rw[tn,tns];omega
  omega⟩
 show n5 (tn (Ty.mk f 0 s [])) 0 (.mk f 0 s [])=_;rw[hq,jS q 0 f s r]
theorem aFw (a b:Ty):tyW (lH a b)=26+tyW a+tyW b:=by
 unfold lH;rw[gO,gO];have:tyW (.mk 3 0 arrow [])=10:=by rw[tyW,aFf];rfl
 rw[this];omega
theorem aT1 {a b:Ty}(ha:PT a) (hb:PT b):PT (lH a b):=.app (.app (.leaf 3 arrow (.inr (.inr rfl))) ha) hb
mutual
theorem yC:∀(f o:Nat) (R:List Tk) (x:Ty) (R':List Tk),cD f o R=.ok (x,R')→PT x∧tyW x+16+8*wt R'≤8*wt R
 | 0,_,_,_,_,h=>by rw[cD] at h;cases h
 | _+1,_,[],_,_,h=>by rw[cD] at h;cases h
 | f+1,o,t::R,x,R',h=>by
  rw[cD] at h;rw[c9];by_cases h2:t.kind=2
  ·rw[ξ h2] at h;cases h;refine⟨.leaf 3 _ (.inr (.inr rfl)),?_⟩;unfold aPb;rw[tyW,aFf];omega
  rw[ζ h2] at h;by_cases h1:t.kind=1
  ·rw[ξ h1] at h;cases h;refine⟨.leaf 2 _ (.inr (.inl rfl)),?_⟩;unfold aO9;rw[tyW,aFf];omega
  rw[ζ h1] at h;split at h
  ·cases h
  split at h
  ·cases h
  cases hw:bV f (o+1) R with
  | error e=>rw[hw,lV] at h;cases h
  | ok y=>
   obtain⟨y,R1⟩:=y;rw[hw] at h;obtain⟨g1,g2⟩:=yP f (o+1) R y R1 hw;cases R1 with
   | nil=>rw[lV] at h;cases h
   | cons u R2=>
    rw[lV] at h;split at h
    ·cases h;rw[c9] at g2;exact⟨g1,by omega⟩
    ·cases h
theorem yP:∀(f o:Nat) (R:List Tk) (x:Ty) (R':List Tk),bV f o R=.ok (x,R')→PT x∧tyW x+16+8*wt R'≤8*wt R
 | 0,_,_,_,_,h=>by rw[bV] at h;cases h
 | f+1,o,R,x,R',h=>by
  rw[bV] at h;cases ha:cD f o R with
  | error e=>rw[ha] at h;cases h
  | ok y=>
   obtain⟨y,R1⟩:=y;rw[ha] at h;obtain⟨g1,g2⟩:=yC f o R y R1 ha;obtain⟨q,r⟩:=aOv f o y R1 x R' g1 h;exact⟨q,by omega⟩
theorem aOv:∀(f o:Nat) (y:Ty) (R:List Tk) (x:Ty) (R':List Tk),PT y→gF f o y R=.ok (x,R')→PT x∧tyW x+8*wt R'≤tyW y+8*wt R
 | 0,_,_,_,_,_,_,h=>by rw[gF] at h;cases h
 | _+1,_,_,[],_,_,_,h=>by rw[gF] at h;cases h
 | f+1,o,y,t::R,x,R',hy,h=>by
  rw[gF] at h;split at h
  ·cases ha:cD f o (t::R) with
   | error e=>rw[ha] at h;cases h
   | ok a=>
    obtain⟨a,R1⟩:=a;rw[ha] at h;obtain⟨g1,g2⟩:=yC f o (t::R) a R1 ha;obtain⟨q,r⟩:=aOv f o (dF y a) R1 x R' (.app hy g1) h;rw[gO] at r;exact⟨q,by omega⟩
  split at h
  ·cases ha:bV f o R with
   | error e=>rw[ha] at h;cases h
   | ok a=>
    obtain⟨a,R1⟩:=a;rw[ha] at h;cases h;obtain⟨g1,g2⟩:=yP f o R a R' ha;rw[aFw,c9];exact⟨aT1 hy g1,by omega⟩
  ·cases h;exact⟨hy,le_refl _⟩
end
theorem aHg (l m:List Prd):dH (l++m)=dH l+dH m:=by unfold dH;rw[Ah,sum_append]
theorem aHf (p:Prd):dH [p]=aEd p:=by unfold dH;rw[An,Bz,Bq,List.sum_nil];rfl
theorem aHd:∀(f:Nat) (b:Bool) (R:List Tk) (out r:List Prd) (R':List Tk),(∀p∈out,PT p.ty)→eT f b R out=some (r,R')→(∀p∈r,PT p.ty)∧dH r+8*wt R'≤dH out+8*wt R
 | 0,_,_,_,_,_,_,h=>by rw[eT] at h;cases h
 | _+1,_,[],_,_,_,_,h=>by rw[eT] at h;cases h
 | f+1,b,t::R,out,r,R',ho,h=>by
  rw[eT] at h;by_cases h2:t.kind=2
  ·rw[ξ h2] at h;have hok:=yC (3*R.length) (if b=true then 1 else 0) R;generalize cD (3*R.length) (if b=true then 1 else 0) R=w at hok h;cases w with
   | error e=>cases h
   | ok y=>
    obtain⟨x,R1⟩:=y;obtain⟨g1,g2⟩:=hok x R1 rfl;have A:∀q∈out++[(⟨t.text,x⟩:Prd)],PT q.ty:=fun q hq=>by
     rcases A2.1 hq with hq | hq
     ·exact ho q hq
     ·rw[Ar.1 hq];exact g1
    have E:dH (out++[(⟨t.text,x⟩:Prd)])=dH out+(t.text.length+8+tyW x):=by rw[aHg,aHf];rfl
    rw[c9];cases R1 with
    | nil=>cases h
    | cons u R2=>
     dsimp only at h;rw[c9] at g2;split at h
     ·obtain⟨B,I⟩:=aHd f b R2 (out++[⟨t.text,x⟩]) r R' A h;exact⟨B,by omega⟩
     ·cases h;exact⟨A,by rw[c9];omega⟩
  ·rw[ζ h2] at h;cases h
theorem zE {R:List Tk}{out:List Prd}{R':List Tk}(h:cH R=.ok (out,R')):(∀p∈out,PT p.ty)∧dH out+8*wt R'≤8*wt R:=by
 have q:∀R:List Tk,(∀p∈([]:List Prd),PT p.ty)∧dH []+8*wt R≤8*wt R:=fun R=>⟨fun p hp=>by(cases hp),by show 0+_≤_;omega⟩
 have r:∀(a:Int) (R0 R1:List Tk) (o:List Prd),(∀p∈o,PT p.ty)→dH o+8*wt R1≤8*wt R0→yD a R0 o R1=.ok (out,R')→(∀p∈out,PT p.ty)∧dH out+8*wt R'≤8*wt R0:=fun a R0 R1 o ho hw h=>by
  cases R1 with
  | nil=>rw[yD] at h;cases h;exact q _
  | cons u R=>
   rw[yD] at h;rw[c9] at hw;split at h
   ·split at h
    ·cases h
    ·cases h;exact⟨ho,by omega⟩
   ·cases h;exact q _
 cases R with
 | nil=>rw[cH] at h;cases h;exact q _
 | cons t R=>
  rw[cH] at h;have hw:wt (if isT t cW=true then R else t::R)≤wt (t::R):=by
   rw[c9];split
   ·omega
   ·rw[c9];omega
  cases hp:eT ((t::R).length+1) (isT t cW) (if isT t cW=true then R else t::R) [] with
  | none=>rw[hp,nW] at h;cases h;exact q _
  | some y=>
   obtain⟨o,R1⟩:=y;rw[hp,nW] at h;obtain⟨g1,g2⟩:=aHd _ _ _ _ _ _ (fun p hp=>by(cases hp)) hp;have g2:dH o+8*wt R1≤8*wt (t::R):=by rw[show dH []=0 from rfl] at g2;omega
   cases R1 with
   | nil=>rw[brP] at h;cases h;exact q _
   | cons u R2=>
    rw[brP] at h;split at h
    ·split at h
     ·rw[c9] at g2;exact r _ _ _ _ g1 (by omega) h
     ·cases h;exact q _
    ·exact r _ _ _ _ g1 g2 h
theorem aA7 {R:List Tk}{s:Sch}{R':List Tk}(h:cG R=.ok (s,R')):(PT s.ty∧∀p∈s.preds,PT p.ty)∧rS s+8*wt R'≤8*wt R:=by
 unfold cG at h;cases hp:cH R with
 | error e=>rw[hp,qP] at h;cases h
 | ok y=>
  obtain⟨ps,R1⟩:=y;rw[hp,qP] at h;obtain⟨g1,g2⟩:=zE hp;cases hw:bV (3*R1.length+2) 0 R1 with
  | error e=>rw[hw,nZ] at h;cases h
  | ok y=>
   obtain⟨x,R2⟩:=y;rw[hw,nZ] at h;cases h;obtain⟨q,r⟩:=yP _ _ _ _ _ hw;refine⟨⟨q,g1⟩,?_⟩;show dH ps+8+tyW x+_≤_;omega
def gvL:List Str:=[[97],[98],[99],[120],[109]]
def gcL:List Str:=[[73,110,116],[66,111,111,108],[76],[80],[70],[45,62],[70,117,110]]
inductive GL:Ty→Prop
 | v (s:Str) (h:s∈gvL):GL (.mk 2 0 s [])
 | c (s:Str) (h:s∈gcL):GL (.mk 3 0 s [])
 | app {a b:Ty} (ha:GL a) (hb:GL b):GL (dF a b)
inductive BT:Ty→Prop
 | v (s:Str) (h:s∈aKo):BT (.mk 2 0 s [])
 | m (n:Int) (h:0≤n∧n≤40):BT (.mk 1 n [] [])
 | c (s:Str) (h:s∈aKq):BT (.mk 3 0 s [])
 | app {a b:Ty} (ha:BT a) (hb:BT b):BT (dF a b)
mutual
def dn:Ty→Nat
 | .mk _ _ _ []=>4
 | .mk _ _ _ (a::l)=>5+dns (a::l)
def dns:List Ty→Nat
 | []=>0
 | a::l=>dn a+dns l
end
theorem dV (f n:Int) (s:Str):dn (.mk f n s [])=4:=by rw[dn]
theorem pC (a b:Ty):dn (dF a b)=5+dn a+dn b:=by unfold dF;rw[dn,dns,dns,dns];omega
theorem xM (a b:Ty):dn (lH a b)=14+dn a+dn b:=by unfold lH;rw[pC,pC,dV];omega
theorem GL.pt {t:Ty}(h:GL t):PT t:=by
 induction h with
 | v s h=>exact .leaf 2 s (.inr (.inl rfl))
 | c s h=>exact .leaf 3 s (.inr (.inr rfl))
 | app _ _ q r=>exact .app q r
theorem aA3 {a b c d:Ty}(h:dF a b=dF c d):a=c∧b=d:=by
 unfold dF at h;injection h with _ _ _ h;injection h with h1 h;injection h with h2 _;exact⟨h1,h2⟩
theorem GL.two {a b:Ty}(h:GL (dF a b)):GL a∧GL b:=by
 generalize hx:dF a b=x at h;cases h with
 | v s h=>unfold dF at hx;injection hx with h _;cases h
 | c s h=>unfold dF at hx;injection hx with h _;cases h
 | app ha hb=>obtain⟨rfl,rfl⟩:=aA3 hx;exact⟨ha,hb⟩
theorem LD.brk {s:Str}(h:LD s) (b:Bool):LD (brk b s):=by
 cases b
 ·exact h
 ·exact(((LQ.of rfl).appD h).app ⟨_,_,rfl,rfl⟩ (LQ.of rfl)).d
theorem aUs:∀s∈gvL,s.length≤4∧(pA s.length s).isSome=true:=by decide+kernel
theorem aUt:∀s∈gcL,(brk (decide (s=arrow)) s).length≤4∧(pA (brk (decide (s=arrow)) s).length (brk (decide (s=arrow)) s)).isSome=true:=by decide+kernel
theorem GL.pr:∀(k:Nat) (t:Ty),dn t≤k→GL t→LD (prT t)∧(prT t).length≤dn t
 | 0,t,h,_=>by
  cases t with
  | mk f n s l=>cases l with
   | nil=>rw[dn] at h;omega
   | cons a l=>rw[dn] at h;omega
 | k+1,t,h,B=>by
  cases B with
  | v s hs=>
   obtain⟨h1,h2⟩:=aUs s hs;rw[qX (.inr (.inl rfl)),show(decide ((2:Int)=3)&&decide (s=arrow))=false from rfl,dV];exact⟨LD.of h2,h1⟩
  | c s hs=>
   obtain⟨h1,h2⟩:=aUt s hs;rw[qX (.inr (.inr rfl)),show(decide ((3:Int)=3)&&decide (s=arrow))=decide (s=arrow) from rfl,dV];exact⟨LD.of h2,h1⟩
  | @app a b ha hb=>
   rcases(GL.app ha hb).pt.cases with⟨x,y,e,hx,hy⟩ | ⟨hn,_⟩
   ·unfold lH at e;obtain⟨rfl,rfl⟩:=aA3 e;have u:=ha.two.2;have E:dn (dF (dF (.mk 3 0 arrow []) x) b)=14+dn x+dn b:=xM x b;rw[E] at h ⊢;obtain⟨q,I⟩:=GL.pr k x (by omega) u;obtain⟨r,J⟩:=GL.pr k b (by omega) hb;rw[show dF (dF (.mk 3 0 arrow []) x) b=lH x b from rfl,aBi hx hy];have A:=bU (nU x) (prT x);refine⟨((q.brk _).app ⟨_,_,rfl,rfl⟩ (LQ.of rfl)).appD r,?_⟩;rw[ψ,ψ];show _+4+_≤_;omega
   ·rw[pC] at h ⊢;obtain⟨q,I⟩:=GL.pr k a (by omega) ha;obtain⟨r,J⟩:=GL.pr k b (by omega) hb;rw[aBj hn ha.pt hb.pt];have A:=bU (nU a) (prT a);have M:=bU (decide (b.form=4)) (prT b);refine⟨((q.brk _).app ⟨_,_,rfl,rfl⟩ (LQ.of rfl)).appD (r.brk _),?_⟩;rw[ψ,ψ];show _+1+_≤_;omega
theorem GL.w {t:Ty}(h:GL t):tyW t≤8*dn t:=by
 have q:∀s∈gvL,s.length≤4:=by decide
 have hc:∀s∈gcL,s.length≤4:=by decide
 induction h with
 | v s h=>have:=q s h;rw[dV,tyW,aFf];omega
 | c s h=>have:=hc s h;rw[dV,tyW,aFf];omega
 | app _ _ r u=>rw[pC,gO];omega
theorem aM4:dM 0 40=0:=by decide
theorem rL:∀(d:Nat) (l:List Int),BT (c6 d l).1∧dn (c6 d l).1+18*nz (c6 d l).2≤4+18*nz l
 | 0,[]=>by
  rw[c6];exact⟨.c _ (by decide),by show dn (.mk 3 0 _ [])+_≤_;rw[dV];exact le_refl _⟩
 | d+1,[]=>by
  rw[c6];exact⟨.c _ (by decide),by show dn (.mk 3 0 _ [])+_≤_;rw[dV];exact le_refl _⟩
 | 0,x::l=>by
  have hn:=cP x (k:=40) (by omega);have u:nz l≤nz (x::l):=by rw[nz];omega
  rw[c6];split
  ·exact⟨.v _ (n7 (by decide)),by show dn (.mk _ _ _ [])+18*nz l≤_;rw[dV];omega⟩
  split
  ·exact⟨.m _ (by omega),by show dn (.mk _ _ _ [])+18*nz l≤_;rw[dV];omega⟩
  ·exact⟨.c _ (n7 (by decide)),by show dn (.mk _ _ _ [])+18*nz l≤_;rw[dV];omega⟩
 | d+1,x::l=>by
  have hn:=cP x (k:=40) (by omega);have u:nz l≤nz (x::l):=by rw[nz];omega
  obtain⟨h1,h2⟩:=rL d l;obtain⟨r,A⟩:=rL d (c6 d l).2;rw[c6];split
  ·exact⟨.v _ (n7 (by decide)),by show dn (.mk _ _ _ [])+18*nz l≤_;rw[dV];omega⟩
  rename_i q;have y:nz (x::l)=1+nz l:=by
   rw[nz,ζ (fun k=>by subst k;rw[aM4] at q;exact q (by decide))]
  split
  ·exact⟨.m _ (by omega),by show dn (.mk _ _ _ [])+18*nz l≤_;rw[dV];omega⟩
  split
  ·exact⟨.c _ (n7 (by decide)),by show dn (.mk _ _ _ [])+18*nz l≤_;rw[dV];omega⟩
  split
  ·exact⟨.app (.app (.c _ (by decide)) h1) r,by dsimp only;rw[xM];omega⟩
  ·exact⟨.app h1 r,by dsimp only;rw[pC];omega⟩
theorem fJ (s:Str) (b:Bool) (h:s.length≤2000000000):bI Tryz.prog 91 [Go.AM.T s,B b] [] (Go.AM.T (brk b s)) []:=by
 have q:3000000000≤maxLen:=by decide
 have hl:([40]++s).length≤2000000001:=by rw[ψ];show 1+_≤_;omega
 refine bM (n:=10) tok Tryz.func91 rfl rfl rfl ?_;refine sg rfl (aA (sg rfl ?_));cases b
 ·exact aB rfl nofun (fun _=>aF (sg rfl (aD rtT)))
 ·exact aB rfl (fun _=>sg rfl (aD rtT)) nofun
theorem aH6 (x y b:Ty):nU (dF (dF x y) b)=(decide (x.form=3)&&decide (x.name=arrow)):=by
 cases x with
 | mk h n s l=>
  unfold nU dF;show(if(4:Int)=4∧(4:Int)=4∧h=3∧s=arrow then some (y,b) else none).isSome=_;by_cases hc:h=3∧s=arrow
  ·rw[ξ ⟨rfl,rfl,hc.1,hc.2⟩];show true=_;rw[show(Ty.mk h n s l).form=h from rfl,show(Ty.mk h n s l).name=s from rfl,χ hc.1,χ hc.2];rfl
  ·rw[ζ fun k=>hc ⟨k.2.2.1,k.2.2.2⟩];show false=(decide (h=3)&&decide (s=arrow));symm;rw[←Bool.not_eq_true,Ab];exact fun k=>hc ⟨ω k.1,ω k.2⟩
theorem mP {t:Ty}(h:PT t):bI Tryz.prog 90 [tyV t] [] (B (nU t)) []:=by
 cases h with
 | leaf f s q=>
  have d1:(!decide (f=4))=true:=by rw[φ (by rcases q with rfl | rfl | rfl<;>decide)];rfl
  refine bM (n:=28) tok Tryz.func90 rfl rfl rfl ?_;exact sg rfl (aA (sg rfl (aB rfl (fun _=>sg rfl (aD rtT)) (fun hb=>Bool.noConfusion (hb.symm.trans d1)))))
 | @app a b ha hb=>
  cases ha with
  | leaf f s q=>
   have d1:(!decide (f=4))=true:=by rw[φ (by rcases q with rfl | rfl | rfl<;>decide)];rfl
   refine bM (n:=28) tok Tryz.func90 rfl rfl rfl ?_;exact sg rfl (aA (sg rfl (aB rfl (fun hb=>Bool.noConfusion hb) (fun _=>aF (aA (sgh [(2,.row 0 (bG (.mk f 0 s [])))] rfl (aB rfl (fun _=>sg rfl (aD rtT)) (fun hb=>Bool.noConfusion (hb.symm.trans d1)))))))))
  | @app x y hx hy=>
   rw[aH6];refine bM (n:=28) tok Tryz.func90 rfl rfl rfl ?_;refine sg rfl (aA (sg rfl (aB rfl (fun hb=>Bool.noConfusion hb) (fun _=>aF (aA (sgh [(2,.row 0 (bG (dF x y)))] rfl (aB rfl (fun hb=>Bool.noConfusion hb) (fun _=>aF (sgh [(2,.row 0 (bG (dF x y))),(5,.row 0 (bG x))] rfl ?_)))))))));cases r:decide (x.form=3)
   ·exact sgh [(3,.bv false),(7,.bv false)] rfl (aD rtT)
   ·exact sgh [(3,.bv true),(7,.bv true)] rfl (aD rtT)
theorem tX {t:Ty}(h:PT t):decide (t.form=5)=false∧decide (t.form=1)=false:=by
 cases h with
 | leaf f s q=>rcases q with rfl | rfl | rfl<;>exact⟨rfl,rfl⟩
 | app _ _=>exact⟨rfl,rfl⟩
theorem aI5:∀(k:Nat) (t:Ty),PT t→tn t≤k→tyW t≤1000000000→bI Tryz.prog 41 [tyV t] [] (Go.AM.T (prT t)) []:=by
 have hM:3000000000≤maxLen:=by decide
 intro k
 induction k with
 | zero=>
  intro t h hk _;exfalso;have:1≤tn t:=by cases t;rw[tn];omega
  omega
 | succ k M=>
  intro t h hk hW;have y:=mP h;rcases h.cases with⟨a,b,rfl,ha,hb⟩ | ⟨hn,⟨f,s,rfl,hf⟩ | ⟨a,b,rfl,ha,hb⟩⟩
  ·have e:=vR a b;have w:=aFw a b;have h1:=M a ha (by omega) (by omega);have h2:=M b hb (by omega) (by omega);have u:=mP ha;have O:=oW ha;have U:=oW hb;have d5:=(tX ha).1
   have d6:=(tX hb).1
   rw[aBi ha hb];generalize hpa:prT a=SA at h1 O ⊢;generalize hpb:prT b=SB at h2 U ⊢;cases A:nU a
   ·have q:=fJ SA (decide (a.form=5)) (by omega);have Y:=bU (decide (a.form=5)) SA;have r:=fJ SB (decide (b.form=5)) (by omega);have B:=bU (decide (b.form=5)) SB;have E:brk false SA++arrS++SB=brk (decide (a.form=5)) SA++[32,45,62,32]++brk (decide (b.form=5)) SB:=by rw[d6];rw[d5];rfl
    have ql:(brk (decide (a.form=5)) SA++[32,45,62,32]).length≤1000000010:=by rw[ψ];show _+4≤_;omega
    rw[E];rw[A] at u;refine bM (n:=108) tok Tryz.func41 rfl rfl rfl ?_;refine sg rfl (sk 1 rfl (kc y ?_));refine kz 1 rfl (aA (sg rfl (aB rfl (fun _=>sgh [(2,.row 0 (bG (dF (.mk 3 0 arrow []) a))),(5,.row 1 (bG a))] rfl (sgh [(2,.row 1 (bG b))] rfl (sk 1 rfl (kc u ?_)))) nofun)));refine kz 1 rfl (sk 1 rfl (kc h1 ?_));refine ak 6 [(3,.bv false),(7,.bv false)] rfl (kc q ?_);refine ak 2 [] rfl (kc h2 ?_);refine ak 3 [] rfl (kc r ?_);exact kz 2 rfl (aD rtT)
   ·have q:=fJ SA (true) (by omega);have Y:=bU (true) SA;have r:=fJ SB (decide (b.form=5)) (by omega);have B:=bU (decide (b.form=5)) SB;have E:brk true SA++arrS++SB=brk (true) SA++[32,45,62,32]++brk (decide (b.form=5)) SB:=by rw[d6];rfl
    have ql:(brk (true) SA++[32,45,62,32]).length≤1000000010:=by rw[ψ];show _+4≤_;omega
    rw[E];rw[A] at u;refine bM (n:=108) tok Tryz.func41 rfl rfl rfl ?_;refine sg rfl (sk 1 rfl (kc y ?_));refine kz 1 rfl (aA (sg rfl (aB rfl (fun _=>sgh [(2,.row 0 (bG (dF (.mk 3 0 arrow []) a))),(5,.row 1 (bG a))] rfl (sgh [(2,.row 1 (bG b))] rfl (sk 1 rfl (kc u ?_)))) nofun)));refine kz 1 rfl (sk 1 rfl (kc h1 ?_));refine ak 6 [(3,.bv true),(7,.bv true)] rfl (kc q ?_);refine ak 2 [] rfl (kc h2 ?_);refine ak 3 [] rfl (kc r ?_);exact kz 2 rfl (aD rtT)
  ·rw[qX hf];have hsl:s.length≤1000000000:=by rw[tyW] at hW;omega
   rcases hf with rfl | rfl | rfl
   ·have q:=fJ s (false) (by omega);refine bM (n:=108) tok Tryz.func41 rfl rfl rfl ?_;refine sg rfl (sk 1 rfl (kc y ?_));refine kz 1 rfl (aA (sg rfl (aB rfl (fun hb=>Bool.noConfusion hb) (fun _=>aF (aA (sg rfl (aE (sg rfl (aB rfl (fun hb=>Bool.noConfusion hb) (fun _=>sg rfl (aB rfl (fun hb=>Bool.noConfusion hb) (fun _=>sg rfl (aB rfl (fun hb=>Bool.noConfusion hb) (fun _=>aF (skh 10 [(5,.bv false),(9,.bv false)] rfl (kc q ?_))))))))))))))));exact kz 1 rfl (aD rtT)
   ·have q:=fJ s (false) (by omega);refine bM (n:=108) tok Tryz.func41 rfl rfl rfl ?_;refine sg rfl (sk 1 rfl (kc y ?_));refine kz 1 rfl (aA (sg rfl (aB rfl (fun hb=>Bool.noConfusion hb) (fun _=>aF (aA (sg rfl (aE (sg rfl (aB rfl (fun hb=>Bool.noConfusion hb) (fun _=>sg rfl (aB rfl (fun hb=>Bool.noConfusion hb) (fun _=>sg rfl (aB rfl (fun hb=>Bool.noConfusion hb) (fun _=>aF (skh 10 [(5,.bv false),(9,.bv false)] rfl (kc q ?_))))))))))))))));exact kz 1 rfl (aD rtT)
   ·have q:=fJ s (decide (s=arrow)) (by omega);refine bM (n:=108) tok Tryz.func41 rfl rfl rfl ?_;refine sg rfl (sk 1 rfl (kc y ?_));refine kz 1 rfl (aA (sg rfl (aB rfl (fun hb=>Bool.noConfusion hb) (fun _=>aF (aA (sg rfl (aE (sg rfl (aB rfl (fun hb=>Bool.noConfusion hb) (fun _=>sg rfl (aB rfl (fun hb=>Bool.noConfusion hb) (fun _=>sg rfl (aB rfl (fun hb=>Bool.noConfusion hb) (fun _=>aF (skh 10 [(5,.bv true),(9,.bv true)] rfl (kc q ?_))))))))))))))));exact kz 1 rfl (aD rtT)
  ·have e:=qK a b;have w:=gO a b;have h1:=M a ha (by omega) (by omega);have h2:=M b hb (by omega) (by omega);have u:=mP ha;have O:=oW ha;have U:=oW hb;have d5:=(tX ha).1
   have d6:=(tX hb).1
   rw[aBj hn ha hb];generalize hpa:prT a=SA at h1 O ⊢;generalize hpb:prT b=SB at h2 U ⊢;cases A:nU a
   ·have q:=fJ SA (decide (a.form=5)) (by omega);have Y:=bU (decide (a.form=5)) SA;have ql:(brk (decide (a.form=5)) SA++[32]).length≤1000000010:=by rw[ψ];show _+1≤_;omega
    have E:brk false SA=brk (decide (a.form=5)) SA:=by rw[d5]
    rw[E];rw[A] at u;refine bM (n:=108) tok Tryz.func41 rfl rfl rfl ?_;refine sg rfl (sk 1 rfl (kc y ?_));refine kz 1 rfl ?_;have I:=aCf hn;refine aA (sg rfl (aB rfl (fun hb=>Bool.noConfusion (hb.symm.trans I)) (fun _=>aF (aA (sg rfl (aE (sg rfl (aB rfl (fun hb=>Bool.noConfusion hb) (fun _=>sg rfl (aB rfl (fun _=>sgh [(2,.row 0 (bG a))] rfl (sgh [(2,.row 1 (bG b))] rfl (sk 1 rfl (kc u ?_)))) (fun hb=>Bool.noConfusion hb)))))))))));refine kz 1 rfl ?_;cases h4:decide (b.form=4)
    ·have r:=fJ SB (decide (b.form=5)) (by omega);have B:=bU (decide (b.form=5)) SB;have J:brk false SB=brk (decide (b.form=5)) SB:=by rw[d6]
     rw[J];refine sk 1 rfl (kc h1 ?_);refine ak 6 [(3,.bv false),(7,.bv false)] rfl (kc q ?_);refine ak 2 [] rfl (kc h2 ?_);refine ak 8 [(15,.bv false),(19,.bv false)] rfl (kc r ?_);exact kz 2 rfl (aD rtT)
    ·have r:=fJ SB (true) (by omega);have B:=bU (true) SB;refine sk 1 rfl (kc h1 ?_);refine ak 6 [(3,.bv false),(7,.bv false)] rfl (kc q ?_);refine ak 2 [] rfl (kc h2 ?_);refine ak 8 [(15,.bv true),(19,.bv true)] rfl (kc r ?_);exact kz 2 rfl (aD rtT)
   ·have q:=fJ SA (true) (by omega);have Y:=bU (true) SA;have ql:(brk (true) SA++[32]).length≤1000000010:=by rw[ψ];show _+1≤_;omega
    rw[A] at u;refine bM (n:=108) tok Tryz.func41 rfl rfl rfl ?_;refine sg rfl (sk 1 rfl (kc y ?_));refine kz 1 rfl ?_;have I:=aCf hn;refine aA (sg rfl (aB rfl (fun hb=>Bool.noConfusion (hb.symm.trans I)) (fun _=>aF (aA (sg rfl (aE (sg rfl (aB rfl (fun hb=>Bool.noConfusion hb) (fun _=>sg rfl (aB rfl (fun _=>sgh [(2,.row 0 (bG a))] rfl (sgh [(2,.row 1 (bG b))] rfl (sk 1 rfl (kc u ?_)))) (fun hb=>Bool.noConfusion hb)))))))))));refine kz 1 rfl ?_;cases h4:decide (b.form=4)
    ·have r:=fJ SB (decide (b.form=5)) (by omega);have B:=bU (decide (b.form=5)) SB;have J:brk false SB=brk (decide (b.form=5)) SB:=by rw[d6]
     rw[J];refine sk 1 rfl (kc h1 ?_);refine ak 6 [(3,.bv true),(7,.bv true)] rfl (kc q ?_);refine ak 2 [] rfl (kc h2 ?_);refine ak 8 [(15,.bv false),(19,.bv false)] rfl (kc r ?_);exact kz 2 rfl (aD rtT)
    ·have r:=fJ SB (true) (by omega);have B:=bU (true) SB;refine sk 1 rfl (kc h1 ?_);refine ak 6 [(3,.bv true),(7,.bv true)] rfl (kc q ?_);refine ak 2 [] rfl (kc h2 ?_);refine ak 8 [(15,.bv true),(19,.bv true)] rfl (kc r ?_);exact kz 2 rfl (aD rtT)
theorem aAg {t:Ty}(h:BT t):bI Tryz.prog 90 [tyV t] [] (B (nU t)) []:=by
 have leaf:∀(f n:Int) (s:Str),¬f=4→bI Tryz.prog 90 [tyV (.mk f n s [])] [] (B false) []:=fun f n s r=>by
  have d1:(!decide (f=4))=true:=by rw[φ r];rfl
  refine bM (n:=28) tok Tryz.func90 rfl rfl rfl ?_;exact sg rfl (aA (sg rfl (aB rfl (fun _=>sg rfl (aD rtT)) (fun hb=>Bool.noConfusion (hb.symm.trans d1)))))
 have q:∀(f n:Int) (s:Str) (b:Ty),¬f=4→bI Tryz.prog 90 [tyV (dF (.mk f n s []) b)] [] (B false) []:=fun f n s b r=>by
  have d1:(!decide (f=4))=true:=by rw[φ r];rfl
  refine bM (n:=28) tok Tryz.func90 rfl rfl rfl ?_;exact sg rfl (aA (sg rfl (aB rfl (fun hb=>Bool.noConfusion hb) (fun _=>aF (aA (sgh [(2,.row 0 (bG (.mk f n s [])))] rfl (aB rfl (fun _=>sg rfl (aD rtT)) (fun hb=>Bool.noConfusion (hb.symm.trans d1)))))))))
 cases h with
 | v s h=>exact leaf 2 0 s (by decide)
 | m n h=>exact leaf 1 n [] (by decide)
 | c s h=>exact leaf 3 0 s (by decide)
 | @app a b ha hb=>
  cases ha with
  | v s h=>exact q 2 0 s b (by decide)
  | m n h=>exact q 1 n [] b (by decide)
  | c s h=>exact q 3 0 s b (by decide)
  | @app x y hx hy=>
   rw[aH6];refine bM (n:=28) tok Tryz.func90 rfl rfl rfl ?_;refine sg rfl (aA (sg rfl (aB rfl (fun hb=>Bool.noConfusion hb) (fun _=>aF (aA (sgh [(2,.row 0 (bG (dF x y)))] rfl (aB rfl (fun hb=>Bool.noConfusion hb) (fun _=>aF (sgh [(2,.row 0 (bG (dF x y))),(5,.row 0 (bG x))] rfl ?_)))))))));cases u:decide (x.form=3)
   ·exact sgh [(3,.bv false),(7,.bv false)] rfl (aD rtT)
   ·exact sgh [(3,.bv true),(7,.bv true)] rfl (aD rtT)
theorem BT.fn {a b:Ty}(ha:BT a) (h:nU (dF a b)=true):∃x,BT x∧a=dF (.mk 3 0 arrow []) x:=by
 cases ha with
 | v s _=>cases h
 | m n _=>cases h
 | c s _=>cases h
 | @app x y hx hy=>
  rw[aH6,Ab] at h;have h1:=ω h.1;have h2:=ω h.2;cases hx with
  | v s _=>exact absurd h1 (show ¬(2:Int)=3 by decide)
  | m n _=>exact absurd h1 (show ¬(1:Int)=3 by decide)
  | c s _=>
   have h2:s=arrow:=h2;subst h2;exact⟨y,hy,rfl⟩
  | app _ _=>exact absurd h1 (show ¬(4:Int)=3 by decide)
theorem aS5:∀s∈aKo,s∈gvL:=by decide
theorem aS6:∀s∈aKq,s∈gcL:=by decide
theorem xL:∀(k:Nat) (t:Ty),dn t≤k→BT t→∃g,GL g∧dn g≤dn t∧bI Tryz.prog 122 [tyV t] [] (tyV g) []
 | 0,t,h,_=>by
  cases t with
  | mk f n s l=>cases l with
   | nil=>rw[dn] at h;omega
   | cons a l=>rw[dn] at h;omega
 | k+1,t,h,hB=>by
  have q:=aAg hB;cases hB with
  | v s hs=>
   refine⟨.mk 2 0 s [],.v s (aS5 s hs),le_refl _,?_⟩;rw[show nU (Ty.mk 2 0 s [])=false from rfl] at q;refine bM (n:=48) tok Tryz.func122 rfl rfl rfl ?_;refine sg rfl (sk 1 rfl (kc q ?_));exact kz 1 rfl (aA (sg rfl (aB rfl (fun hb=>Bool.noConfusion hb) (fun _=>aF (aA (sg rfl (aE (sg rfl (aB rfl (fun hb=>Bool.noConfusion hb) (fun _=>sg rfl (aB rfl (fun hb=>Bool.noConfusion hb) (fun _=>sg rfl (aB rfl (fun hb=>Bool.noConfusion hb) (fun _=>aF (sg rfl (aD (rtC trw)))))))))))))))))
  | m n hn=>
   refine⟨.mk 2 0 [109] [],.v _ (by decide),by rw[dV,dV];exact le_refl _,?_⟩;rw[show nU (Ty.mk 1 n [] [])=false from rfl] at q;refine bM (n:=48) tok Tryz.func122 rfl rfl rfl ?_;refine sg rfl (sk 1 rfl (kc q ?_));exact kz 1 rfl (aA (sg rfl (aB rfl (fun hb=>Bool.noConfusion hb) (fun _=>aF (aA (sg rfl (aE (sg rfl (aB rfl (fun _=>sg rfl (aD ⟨.inr rfl,⟨_,_,.cell rfl (tg rfl) rfl rfl rfl .nil,.cons (.pa (.c .refl (.c .refl (.c .refl (.c .nl .nil))))) .nil,rfl⟩,trivial,rfl⟩)) (fun hb=>Bool.noConfusion hb))))))))))
  | c s hs=>
   rw[show nU (Ty.mk 3 0 s [])=false from rfl] at q;by_cases E:s=arrow
   ·subst E;refine⟨.mk 3 0 [70,117,110] [],.c _ (by decide),by rw[dV,dV];exact le_refl _,?_⟩;refine bM (n:=48) tok Tryz.func122 rfl rfl rfl ?_;refine sg rfl (sk 1 rfl (kc q ?_));exact kz 1 rfl (aA (sg rfl (aB rfl (fun hb=>Bool.noConfusion hb) (fun _=>aF (aA (sg rfl (aE (sg rfl (aB rfl (fun hb=>Bool.noConfusion hb) (fun _=>sg rfl (aB rfl (fun _=>aA (sg rfl (aB rfl (fun _=>sg rfl (aD ⟨.inr rfl,⟨_,_,.cell rfl (tg rfl) rfl rfl rfl .nil,.cons (.pa (.c .refl (.c .refl (.c .refl (.c .nl .nil))))) .nil,rfl⟩,trivial,rfl⟩)) (fun hb=>Bool.noConfusion hb)))) (fun hb=>Bool.noConfusion hb))))))))))))
   ·refine⟨.mk 3 0 s [],.c s (aS6 s hs),le_refl _,?_⟩;have I:decide (s=[45,62])=false:=φ E;refine bM (n:=48) tok Tryz.func122 rfl rfl rfl ?_;refine sg rfl (sk 1 rfl (kc q ?_));exact kz 1 rfl (aA (sg rfl (aB rfl (fun hb=>Bool.noConfusion hb) (fun _=>aF (aA (sg rfl (aE (sg rfl (aB rfl (fun hb=>Bool.noConfusion hb) (fun _=>sg rfl (aB rfl (fun _=>aA (sg rfl (aB rfl (fun hb=>Bool.noConfusion (hb.symm.trans I)) (fun _=>aF (sg rfl (aD (rtC trw))))))) (fun hb=>Bool.noConfusion hb))))))))))))
  | @app a b ha hb=>
   cases r:nU (dF a b)
   ·rw[r] at q;rw[pC] at h;obtain⟨g1,u,J,y⟩:=xL k a (by omega) ha;obtain⟨g2,A,M,B⟩:=xL k b (by omega) hb;refine⟨dF g1 g2,.app u A,by rw[pC,pC];omega,?_⟩;refine bM (n:=48) tok Tryz.func122 rfl rfl rfl ?_;refine sg rfl (sk 1 rfl (kc q ?_));refine kz 1 rfl (aA (sg rfl (aB rfl (fun hb=>Bool.noConfusion hb) (fun _=>aF (aA (sg rfl (aE (sg rfl (aB rfl (fun hb=>Bool.noConfusion hb) (fun _=>sg rfl (aB rfl (fun hb=>Bool.noConfusion hb) (fun _=>sg rfl (aB rfl (fun _=>skh 4 [(2,.row 0 (bG a))] rfl (kc y ?_)) (fun hb=>Bool.noConfusion hb))))))))))))));refine ak 4 [(7,.row 1 (bG b))] rfl (kc B ?_);exact ak 3 [(10,.all)] rfl (az (aD (rtC trw)))
   ·obtain⟨x,hx,rfl⟩:=ha.fn r;rw[r] at q;have h:dn (lH x b)≤k+1:=h;rw[xM] at h;obtain⟨g1,u,J,y⟩:=xL k x (by omega) hx;obtain⟨g2,A,M,B⟩:=xL k b (by omega) hb;have O:=aVt g1 g2;refine⟨lH g1 g2,.app (.app (.c _ (by decide)) u) A,by rw[xM];show _≤dn (lH x b);rw[xM];omega,?_⟩;refine bM (n:=48) tok Tryz.func122 rfl rfl rfl ?_;refine sg rfl (sk 1 rfl (kc q ?_));refine kz 1 rfl (aA (sg rfl (aB rfl (fun _=>skh 7 [(2,.row 0 (bG (dF (.mk 3 0 arrow []) x))),(5,.row 1 (bG x))] rfl (kc y ?_)) (fun hb=>Bool.noConfusion hb))));refine ak 4 [(10,.row 1 (bG b))] rfl (kc B ?_);refine kc O ?_;exact kz 1 rfl (aD (rtC trw))
theorem aU5 (l:List Int) (hl:sB l) (q:Fits l) (h:l.length≤24):∃g,GL g∧dn g≤4+18*nz l∧bI Tryz.prog 67 [pL l] [] (tyV g) []:=by
 have hp:=aRe l hl q;rw[A0 h] at hp;obtain⟨r,y⟩:=rL 5 l;obtain⟨g,g1,g2,u⟩:=xL _ _ (le_refl _) r;refine⟨g,g1,by omega,?_⟩;refine bM (n:=6) tok Tryz.func67 rfl rfl rfl ?_;refine sg rfl (sk 1 rfl (kc hp ?_));refine kc u ?_;exact kz 1 rfl (aD (rtC trw))
def aO5:List Str:=[[120],[121],[102],[105,100],[107],[97,100,100],[101,113],[115,97,109,101],[109,97,112],[116,111,112],[84,114,117,101],[78],[67],[80],[89,101,115],[51],[48],[109,101,109,98,101,114],[115,117,109],[109,97,105,110],[122]]
theorem aKk:∀s∈aO5,s.length≤6∧(pA s.length s).isSome=true:=by decide+kernel
theorem aCs (l:List Int) (hl:sB l) (r:l.length≤1000) (i:Nat) (hi:i≤l.length):∃(s:Str) (j:Nat),TX 1 l i j s∧j≤l.length∧bI Tryz.prog 73 [tkP] [(750,tkO l i)] (Go.AM.T s) [(750,tkO l j)]:=by
 obtain⟨v,j,u,hx,hc⟩:=cI l hl r i hi 21 (by decide) (by decide);obtain⟨s,hs⟩:=aJ (l:=aO5) (k:=v) u;have B:=b9 aR hs;obtain⟨E,q⟩:=aKk s (Aa hs)
 have y:TX 1 l i j s:=⟨by
  rcases hx with⟨h1,h2⟩ | ⟨h1,h2,A⟩
  ·omega
  ·subst A;have:s=[120]:=(Option.some.inj hs).symm;subst this;subst h1
   show 1+_≤_;omega,LD.of q⟩
 have I:(aO5.map aR).length=21:=rfl;refine⟨s,j,y,hx.le hi,?_⟩;refine bM (n:=8) tok Tryz.func73 rfl rfl rfl ?_;refine sg rfl (skh 2 [(0,.all)] rfl (kc hc ?_));exact ak 3 [(3,.row v (aR s))] rfl (az (aD rtT))
def aQe:List Str:=[[120],[121],[120,32,121],[102,32,120]]
def aQc:List Str:=[[120],[102,32,121],[105,100,32,122]]
def aSf:List Str:=[[73,110,116],[66,111,111,108],[97,32,45,62,32,97],[69,32,97,32,61,62,32,97,32,45,62,32,66,111,111,108],[76,32,73,110,116],[70,32,102,32,61,62,32,102,32,97]]
theorem aLt:∀s∈aQe,s.length≤3∧(pA s.length s).isSome=true:=by decide+kernel
theorem aLr:∀s∈aQc,s.length≤4∧(pA s.length s).isSome=true:=by decide+kernel
theorem aM6:∀s∈aSf,s.length≤16∧(pA s.length s).isSome=true:=by decide+kernel
theorem aOe (l:List Int) (hl:sB l) (hL:l.length≤1000):∀(k i deep:Nat),i≤l.length→deep+k=5→∃(s:Str) (j:Nat),TX 1 l i j s∧j≤l.length∧bI Tryz.prog 29 [tkP,I .i64 (deep:Nat)] [(750,tkO l i)] (Go.AM.T s) [(750,tkO l j)]:=by
 have hM:1000000000≤maxLen:=by decide
 intro k
 induction k with
 | zero=>
  intro i deep hi hd;obtain⟨s,j,hs,M,hc⟩:=aCs l hl hL i hi;have d4:decide (4<(deep:Int))=true:=χ (by omega);refine⟨s,j,hs,M,?_⟩;refine bM (n:=123) tok Tryz.func29 rfl rfl rfl ?_;refine sg rfl (aA (sg rfl (aB rfl (fun _=>sk 1 rfl (kc hc ?_)) (fun hb=>Bool.noConfusion (hb.symm.trans d4)))));exact kz 1 rfl (aD rtT)
 | succ k O=>
  intro i deep hi hd;have d4:decide (4<(deep:Int))=false:=φ (by omega);obtain⟨v,j,hv,hx,hc⟩:=cI l hl hL i hi 10 (by decide) (by decide);have M:=hx.le hi
  match v,hv,hx,hc with
  | 0,_,hx,hc=>
   obtain⟨s1,A,q,r,u⟩:=aCs l hl hL j M;have B:=q.1;have E:=q.le;have hxl:l.length-j≤l.length-i:=by rcases hx with⟨_,_⟩ | ⟨_,_,_⟩<;>omega
   refine⟨s1,A,⟨by omega,q.2⟩,r,?_⟩;refine bM (n:=123) tok Tryz.func29 rfl rfl rfl ?_;refine sg rfl (aA (sg rfl (aB rfl (fun hb=>Bool.noConfusion (hb.symm.trans d4)) (fun _=>aF (aA (sk 1 rfl (kc hc ?_)))))));refine az (aE (aA (sg rfl (aB rfl (fun _=>aF (aB rfl (fun _=>sk 1 rfl (kc u ?_)) (fun hb=>Bool.noConfusion hb))) (fun hb=>Bool.noConfusion hb)))));exact kz 1 rfl (aD rtT)
  | 1,_,hx,hc=>
   obtain⟨s1,A,q,r,u⟩:=aCs l hl hL j M;have B:=q.1;have E:=q.le;have hxl:l.length-j≤l.length-i:=by rcases hx with⟨_,_⟩ | ⟨_,_,_⟩<;>omega
   refine⟨s1,A,⟨by omega,q.2⟩,r,?_⟩;refine bM (n:=123) tok Tryz.func29 rfl rfl rfl ?_;refine sg rfl (aA (sg rfl (aB rfl (fun hb=>Bool.noConfusion (hb.symm.trans d4)) (fun _=>aF (aA (sk 1 rfl (kc hc ?_)))))));refine az (aE (aA (sg rfl (aB rfl (fun hb=>Bool.noConfusion hb) (fun _=>sg rfl (aB rfl (fun _=>aF (aB rfl (fun _=>sk 1 rfl (kc u ?_)) (fun hb=>Bool.noConfusion hb))) (fun hb=>Bool.noConfusion hb)))))));exact kz 1 rfl (aD rtT)
  | 2,_,hx,hc=>
   obtain⟨s1,A,q,r,u⟩:=aCs l hl hL j M;have B:=q.1;have E:=q.le;have hxl:l.length-j≤l.length-i:=by rcases hx with⟨_,_⟩ | ⟨_,_,_⟩<;>omega
   refine⟨s1,A,⟨by omega,q.2⟩,r,?_⟩;refine bM (n:=123) tok Tryz.func29 rfl rfl rfl ?_;refine sg rfl (aA (sg rfl (aB rfl (fun hb=>Bool.noConfusion (hb.symm.trans d4)) (fun _=>aF (aA (sk 1 rfl (kc hc ?_)))))));refine az (aE (aA (sg rfl (aB rfl (fun hb=>Bool.noConfusion hb) (fun _=>sg rfl (aB rfl (fun hb=>Bool.noConfusion hb) (fun _=>ag [] rfl (aB rfl (fun _=>sk 1 rfl (kc u ?_)) (fun hb=>Bool.noConfusion hb)))))))));exact kz 1 rfl (aD rtT)
  | 3,_,hx,hc=>
   obtain⟨s1,A,q,r,u⟩:=O j (deep+1) M (by omega);obtain⟨s2,j2,y,Y,aa⟩:=O A (deep+1) r (by omega);have B:=q.1;have E:=q.le;have lhs2:=y.1;have mhs2:=y.le;obtain⟨hi1,rfl⟩:=hx.pos (by decide);refine⟨[40]++s1++[41,32,40]++s2++[41],j2,⟨by simp only[ψ,κ,length_nil];omega,(((((LQ.of rfl).appD q.2).app ⟨_,_,rfl,rfl⟩ (LQ.of rfl)).appD y.2).app ⟨_,_,rfl,rfl⟩ (LQ.of rfl)).d⟩,Y,?_⟩;refine bM (n:=123) tok Tryz.func29 rfl rfl rfl ?_;refine sg rfl (aA (sg rfl (aB rfl (fun hb=>Bool.noConfusion (hb.symm.trans d4)) (fun _=>aF (aA (sk 1 rfl (kc hc ?_)))))));refine az (aE (aA (sg rfl (aB rfl (fun hb=>Bool.noConfusion hb) (fun _=>sg rfl (aB rfl (fun hb=>Bool.noConfusion hb) (fun _=>ag [] rfl (aB rfl (fun hb=>Bool.noConfusion hb) (fun _=>aA (sg rfl (aB rfl (fun _=>aF (aB rfl (fun _=>aA (aC mixed (akN 3 [] rfl (kc u ?_)))) (fun hb=>Bool.noConfusion hb))) (fun hb=>Bool.noConfusion hb))))))))))));refine akN 5 [] rfl (kc aa ?_);exact kz 3 rfl (aD rtT)
  | 4,_,hx,hc=>
   obtain⟨s1,A,q,r,u⟩:=O j (deep+1) M (by omega);obtain⟨s2,j2,y,Y,aa⟩:=O A (deep+1) r (by omega);have B:=q.1;have E:=q.le;have lhs2:=y.1;have mhs2:=y.le;obtain⟨hi1,rfl⟩:=hx.pos (by decide);refine⟨[40]++s1++[41,32,40]++s2++[41],j2,⟨by simp only[ψ,κ,length_nil];omega,(((((LQ.of rfl).appD q.2).app ⟨_,_,rfl,rfl⟩ (LQ.of rfl)).appD y.2).app ⟨_,_,rfl,rfl⟩ (LQ.of rfl)).d⟩,Y,?_⟩;refine bM (n:=123) tok Tryz.func29 rfl rfl rfl ?_;refine sg rfl (aA (sg rfl (aB rfl (fun hb=>Bool.noConfusion (hb.symm.trans d4)) (fun _=>aF (aA (sk 1 rfl (kc hc ?_)))))));refine az (aE (aA (sg rfl (aB rfl (fun hb=>Bool.noConfusion hb) (fun _=>sg rfl (aB rfl (fun hb=>Bool.noConfusion hb) (fun _=>ag [] rfl (aB rfl (fun hb=>Bool.noConfusion hb) (fun _=>aA (sg rfl (aB rfl (fun hb=>Bool.noConfusion hb) (fun _=>ag [] rfl (aB rfl (fun _=>aA (aC mixed (akN 3 [] rfl (kc u ?_)))) (fun hb=>Bool.noConfusion hb))))))))))))));refine akN 5 [] rfl (kc aa ?_);exact kz 3 rfl (aD rtT)
  | 5,_,hx,hc=>
   obtain⟨w,j9,hw,U,hcn⟩:=cI l hl hL j M 4 (by decide) (by decide);have hj9:=U.le M;obtain⟨t,ht⟩:=aJ (l:=aQe) (k:=w) hw;have ht':=b9 aR ht;obtain⟨htl,J⟩:=aLt t (Aa ht);have J:=LD.of J;have hxl:l.length-j9≤l.length-j:=by rcases U with⟨_,_⟩ | ⟨_,_,_⟩<;>omega
   have hkw:(aQe.map aR).length=4:=rfl;obtain⟨s1,A,q,r,u⟩:=O j9 (deep+1) hj9 (by omega);have B:=q.1;have E:=q.le;obtain⟨hi1,rfl⟩:=hx.pos (by decide);refine⟨[40,92,32]++t++[32,45,62,32]++s1++[41],A,⟨by simp only[ψ,κ,length_nil];omega,(((((LQ.of rfl).appD J).app ⟨_,_,rfl,rfl⟩ (LQ.of rfl)).appD q.2).app ⟨_,_,rfl,rfl⟩ (LQ.of rfl)).d⟩,r,?_⟩;refine bM (n:=123) tok Tryz.func29 rfl rfl rfl ?_;refine sg rfl (aA (sg rfl (aB rfl (fun hb=>Bool.noConfusion (hb.symm.trans d4)) (fun _=>aF (aA (sk 1 rfl (kc hc ?_)))))));refine az (aE (aA (sg rfl (aB rfl (fun hb=>Bool.noConfusion hb) (fun _=>sg rfl (aB rfl (fun hb=>Bool.noConfusion hb) (fun _=>ag [] rfl (aB rfl (fun hb=>Bool.noConfusion hb) (fun _=>aA (sg rfl (aB rfl (fun hb=>Bool.noConfusion hb) (fun _=>ag [] rfl (aB rfl (fun hb=>Bool.noConfusion hb) (fun _=>sg rfl (aB rfl (fun _=>skh 2 [(0,.all)] rfl (kc hcn ?_)) (fun hb=>Bool.noConfusion hb))))))))))))))));refine akN 7 [(3,.row w (aR t))] rfl (kc u ?_);exact kz 3 rfl (aD rtT)
  | 6,_,hx,hc=>
   obtain⟨w,j9,hw,U,hcn⟩:=cI l hl hL j M 3 (by decide) (by decide);have hj9:=U.le M;obtain⟨t,ht⟩:=aJ (l:=aQc) (k:=w) hw;have ht':=b9 aR ht;obtain⟨htl,J⟩:=aLr t (Aa ht);have J:=LD.of J;have hxl:l.length-j9≤l.length-j:=by rcases U with⟨_,_⟩ | ⟨_,_,_⟩<;>omega
   have hkw:(aQc.map aR).length=3:=rfl;obtain⟨s1,A,q,r,u⟩:=O j9 (deep+1) hj9 (by omega);obtain⟨s2,j2,y,Y,aa⟩:=O A (deep+1) r (by omega);obtain⟨s3,j3,ab,hj3,hc3⟩:=O j2 (deep+1) Y (by omega);have B:=q.1;have E:=q.le;have lhs2:=y.1;have mhs2:=y.le;have lhs3:=ab.1;have mhs3:=ab.le;obtain⟨hi1,rfl⟩:=hx.pos (by decide);refine⟨[40,108,101,116,32,123,32]++t++[32,61,32]++s1++[32,59,32,121,32,61,32]++s2++[32,125,32,105,110,32]++s3++[41],j3,⟨by simp only[ψ,κ,length_nil];omega,(((((((((LQ.of rfl).appD J).app ⟨_,_,rfl,rfl⟩ (LQ.of rfl)).appD q.2).app ⟨_,_,rfl,rfl⟩ (LQ.of rfl)).appD y.2).app ⟨_,_,rfl,rfl⟩ (LQ.of rfl)).appD ab.2).app ⟨_,_,rfl,rfl⟩ (LQ.of rfl)).d⟩,hj3,?_⟩;refine bM (n:=123) tok Tryz.func29 rfl rfl rfl ?_;refine sg rfl (aA (sg rfl (aB rfl (fun hb=>Bool.noConfusion (hb.symm.trans d4)) (fun _=>aF (aA (sk 1 rfl (kc hc ?_)))))));refine az (aE (aA (sg rfl (aB rfl (fun hb=>Bool.noConfusion hb) (fun _=>sg rfl (aB rfl (fun hb=>Bool.noConfusion hb) (fun _=>ag [] rfl (aB rfl (fun hb=>Bool.noConfusion hb) (fun _=>aA (sg rfl (aB rfl (fun hb=>Bool.noConfusion hb) (fun _=>ag [] rfl (aB rfl (fun hb=>Bool.noConfusion hb) (fun _=>sg rfl (aB rfl (fun hb=>Bool.noConfusion hb) (fun _=>sg rfl (aB rfl (fun _=>skh 2 [(0,.all)] rfl (kc hcn ?_)) (fun hb=>Bool.noConfusion hb))))))))))))))))));refine akN 7 [(3,.row w (aR t))] rfl (kc u ?_);refine akN 5 [] rfl (kc aa ?_);refine akN 5 [] rfl (kc hc3 ?_);exact kz 3 rfl (aD rtT)
  | 7,_,hx,hc=>
   obtain⟨s1,A,q,r,u⟩:=O j (deep+1) M (by omega);obtain⟨p1,j11,hp1,hj11,hcp1⟩:=xK l hl hL 3 A 0 r rfl;obtain⟨s2,j2,y,Y,aa⟩:=O j11 (deep+1) hj11 (by omega);obtain⟨p2,j12,hp2,hj12,hcp2⟩:=xK l hl hL 3 j2 0 Y rfl;obtain⟨s3,j3,ab,hj3,hc3⟩:=O j12 (deep+1) hj12 (by omega);have B:=q.1;have E:=q.le;have lhp1:=hp1.1;have mhp1:=hp1.le;have lhs2:=y.1;have mhs2:=y.le;have lhp2:=hp2.1;have mhp2:=hp2.le;have lhs3:=ab.1;have mhs3:=ab.le;obtain⟨hi1,rfl⟩:=hx.pos (by decide);refine⟨[40,99,97,115,101,32]++s1++[32,111,102,32,123,32]++p1++[32,45,62,32]++s2++[32,59,32]++p2++[32,45,62,32]++s3++[32,125,41],j3,⟨by simp only[ψ,κ,length_nil];omega,(((((((((((LQ.of rfl).appD q.2).app ⟨_,_,rfl,rfl⟩ (LQ.of rfl)).appD hp1.2).app ⟨_,_,rfl,rfl⟩ (LQ.of rfl)).appD y.2).app ⟨_,_,rfl,rfl⟩ (LQ.of rfl)).appD hp2.2).app ⟨_,_,rfl,rfl⟩ (LQ.of rfl)).appD ab.2).app ⟨_,_,rfl,rfl⟩ (LQ.of rfl)).d⟩,hj3,?_⟩;refine bM (n:=123) tok Tryz.func29 rfl rfl rfl ?_;refine sg rfl (aA (sg rfl (aB rfl (fun hb=>Bool.noConfusion (hb.symm.trans d4)) (fun _=>aF (aA (sk 1 rfl (kc hc ?_)))))));refine az (aE (aA (sg rfl (aB rfl (fun hb=>Bool.noConfusion hb) (fun _=>sg rfl (aB rfl (fun hb=>Bool.noConfusion hb) (fun _=>ag [] rfl (aB rfl (fun hb=>Bool.noConfusion hb) (fun _=>aA (sg rfl (aB rfl (fun hb=>Bool.noConfusion hb) (fun _=>ag [] rfl (aB rfl (fun hb=>Bool.noConfusion hb) (fun _=>sg rfl (aB rfl (fun hb=>Bool.noConfusion hb) (fun _=>sg rfl (aB rfl (fun hb=>Bool.noConfusion hb) (fun _=>sg rfl (aB rfl (fun _=>aA (aC mixed (akN 3 [] rfl (kc u ?_)))) (fun hb=>Bool.noConfusion hb))))))))))))))))))));refine ak 3 [] rfl (kc hcp1 ?_);refine akN 5 [] rfl (kc aa ?_);refine ak 3 [] rfl (kc hcp2 ?_);refine akN 5 [] rfl (kc hc3 ?_);exact kz 3 rfl (aD rtT)
  | 8,_,hx,hc=>
   obtain⟨s1,A,q,r,u⟩:=O j (deep+1) M (by omega);obtain⟨w,j9,hw,U,hcn⟩:=cI l hl hL A r 6 (by decide) (by decide);have hj9:=U.le r;obtain⟨t,ht⟩:=aJ (l:=aSf) (k:=w) hw;have ht':=b9 aR ht;obtain⟨htl,J⟩:=aM6 t (Aa ht);have J:=LD.of J;have hxl:l.length-j9≤l.length-A:=by rcases U with⟨_,_⟩ | ⟨_,_,_⟩<;>omega
   have hkw:(aSf.map aR).length=6:=rfl;have B:=q.1;have E:=q.le;obtain⟨hi1,rfl⟩:=hx.pos (by decide);refine⟨[40]++s1++[32,58,32]++t++[41],j9,⟨by simp only[ψ,κ,length_nil];omega,(((((LQ.of rfl).appD q.2).app ⟨_,_,rfl,rfl⟩ (LQ.of rfl)).appD J).app ⟨_,_,rfl,rfl⟩ (LQ.of rfl)).d⟩,hj9,?_⟩;refine bM (n:=123) tok Tryz.func29 rfl rfl rfl ?_;refine sg rfl (aA (sg rfl (aB rfl (fun hb=>Bool.noConfusion (hb.symm.trans d4)) (fun _=>aF (aA (sk 1 rfl (kc hc ?_)))))));refine az (aE (aA (sg rfl (aB rfl (fun hb=>Bool.noConfusion hb) (fun _=>sg rfl (aB rfl (fun hb=>Bool.noConfusion hb) (fun _=>ag [] rfl (aB rfl (fun hb=>Bool.noConfusion hb) (fun _=>aA (sg rfl (aB rfl (fun hb=>Bool.noConfusion hb) (fun _=>ag [] rfl (aB rfl (fun hb=>Bool.noConfusion hb) (fun _=>sg rfl (aB rfl (fun hb=>Bool.noConfusion hb) (fun _=>sg rfl (aB rfl (fun hb=>Bool.noConfusion hb) (fun _=>sg rfl (aB rfl (fun hb=>Bool.noConfusion hb) (fun _=>sg rfl (aB rfl (fun _=>aA (aC mixed (akN 3 [] rfl (kc u ?_)))) (fun hb=>Bool.noConfusion hb))))))))))))))))))))));refine ak 4 [(6,.all)] rfl (kc hcn ?_);exact ak 5 [(9,.row w (aR t))] rfl (az (aD rtT))
  | 9,_,hx,hc=>
   obtain⟨s1,A,q,r,u⟩:=O j (deep+1) M (by omega);have B:=q.1;have E:=q.le;obtain⟨hi1,rfl⟩:=hx.pos (by decide);refine⟨[97,100,100,32,40]++s1++[41,32,49],A,⟨by simp only[ψ,κ,length_nil];omega,(((LQ.of rfl).appD q.2).appD ⟨_,_,rfl,rfl⟩ (LD.of rfl))⟩,r,?_⟩;refine bM (n:=123) tok Tryz.func29 rfl rfl rfl ?_;refine sg rfl (aA (sg rfl (aB rfl (fun hb=>Bool.noConfusion (hb.symm.trans d4)) (fun _=>aF (aA (sk 1 rfl (kc hc ?_)))))));refine az (aE (aA (sg rfl (aB rfl (fun hb=>Bool.noConfusion hb) (fun _=>sg rfl (aB rfl (fun hb=>Bool.noConfusion hb) (fun _=>ag [] rfl (aB rfl (fun hb=>Bool.noConfusion hb) (fun _=>aA (sg rfl (aB rfl (fun hb=>Bool.noConfusion hb) (fun _=>ag [] rfl (aB rfl (fun hb=>Bool.noConfusion hb) (fun _=>sg rfl (aB rfl (fun hb=>Bool.noConfusion hb) (fun _=>sg rfl (aB rfl (fun hb=>Bool.noConfusion hb) (fun _=>sg rfl (aB rfl (fun hb=>Bool.noConfusion hb) (fun _=>sg rfl (aB rfl (fun hb=>Bool.noConfusion hb) (fun _=>aF (aA (aC mixed (akN 3 [] rfl (kc u ?_))))))))))))))))))))))))));exact kz 3 rfl (aD rtT)
def dlB:Str→Bool
 | []=>false
 | d::_=>!sgB d.toNat
theorem dlh.of {s:Str}(h:dlB s=true):dlh s:=by
 cases s with
 | nil=>cases h
 | cons d b=>exact⟨d,b,rfl,by simpa [dlB] using h⟩
def aYj:List Str:=[[76,32,97],[80,32,97,32,98],[75],[81,32,102,32,97,32,97]]
theorem aQ0:∀s∈aYj,s.length≤7∧(pA s.length s).isSome=true:=by decide+kernel
def aYi:List Str:=[[78],[75],[67]]
theorem aQz:∀s∈aYi,s.length≤1∧(pA s.length s).isSome=true:=by decide+kernel
def aYh:List Str:=[[],[32,124,32,78],[32,124,32,67,32,97,32,40,76,32,97,41]]
theorem aQy:∀s∈aYh,s.length≤12∧(pA s.length s).isSome=true:=by decide+kernel
def aYr:List Str:=[[],[69,32,97,32,61,62,32],[40,69,32,97,44,32,79,32,97,41,32,61,62,32]]
theorem aQ9:∀s∈aYr,s.length≤14∧(aEl s.length s).isSome=true:=by decide+kernel
def aVe:List Str:=[[69],[79],[70]]
theorem aIw:∀s∈aVe,s.length≤1∧(pA s.length s).isSome=true:=by decide+kernel
def aYq:List Str:=[[115,97,109,101],[116,111,112],[109,97,112]]
theorem aQ8:∀s∈aYq,s.length≤4∧(pA s.length s).isSome=true:=by decide+kernel
def aYb:List Str:=[[],[69,32,97,32,61,62,32],[40,69,32,97,44,32,79,32,98,41,32,61,62,32]]
theorem aQl:∀s∈aYb,s.length≤14∧(aEl s.length s).isSome=true:=by decide+kernel
def aYa:List Str:=[[32,73,110,116],[32,40,76,32,97,41],[32,76],[32,40,80,32,97,32,98,41]]
theorem aQk:∀s∈aYa,s.length≤8∧(pA s.length s).isSome=true∧dlB s=true:=by decide+kernel
def aX9:List Str:=[[115,97,109,101],[116,111,112]]
theorem aQj:∀s∈aX9,s.length≤4∧(pA s.length s).isSome=true:=by decide+kernel
def aW7:List Str:=[[102],[120]]
theorem aPf:∀s∈aW7,s.length≤1∧(pA s.length s).isSome=true:=by decide+kernel
def aYy:List Str:=[[102],[120],[103,32,97,32,98],[109,97,105,110]]
theorem aR5:∀s∈aYy,s.length≤5∧(pA s.length s).isSome=true:=by decide+kernel
theorem aU2 (l:List Int) (hl:sB l) (u:l.length≤1000) (i:Nat) (hi:i≤l.length):∃(s:Str) (j:Nat),TX 35 l i j s∧j≤l.length∧bI Tryz.prog 26 [tkP] [(750,tkO l i)] (Go.AM.T s) [(750,tkO l j)]:=by
 have hM:1000000000≤maxLen:=by decide
 obtain⟨A,ja,hA6,hA4,⟨hja,hnz⟩,hcs⟩:=aU0 l hl u i hi;have hAn:sB A:=fun x hx=>by have:=hA4 x hx;unfold i64;omega
 have hAf:Fits A:=by unfold Fits;omega
 obtain⟨g,hg,hgd,hcg⟩:=aU5 A hAn hAf (by omega);obtain⟨hKd,hKl⟩:=GL.pr _ g (le_refl _) hg;have hgw:=hg.w;have hnz6:nz A≤6:=by
  have:∀l:List Int,nz l≤l.length:=fun l=>by
   induction l with
   | nil=>exact le_refl _
   | cons x l ih=>rw[nz,κ];split<;>omega
  have:=this A;omega
 have hcp:=aI5 (tn g) g hg.pt (le_refl _) (by omega);generalize prT g=K at hKd hKl hcp;obtain⟨v,j,hv,hx,hc⟩:=cI l hl u ja hja 8 (by decide) (by decide);have hj:=hx.le hja;have hxj:l.length-j≤l.length-ja:=by rcases hx with⟨_,_⟩ | ⟨_,_,_⟩<;>omega
 by_cases h0:v=0
 ·subst h0;obtain⟨w2,U,hw2,J,Y⟩:=cI l hl u j hj 4 (by decide) (by decide);have M:=J.le hj;have hxl2:l.length-U≤l.length-j:=by rcases J with⟨_,_⟩ | ⟨_,_,_⟩<;>omega
  obtain⟨t2,O⟩:=aJ (l:=aYj) (k:=w2) hw2;have ht2':=b9 aR O;obtain⟨htl2,q⟩:=aQ0 t2 (Aa O);have q:=LD.of q;have hkw2:(aYj.map aR).length=4:=rfl;obtain⟨w4,j4,hw4,hx4,hcn4⟩:=cI l hl u U M 3 (by decide) (by decide);have hj4:=hx4.le M;have hxl4:l.length-j4≤l.length-U:=by rcases hx4 with⟨_,_⟩ | ⟨_,_,_⟩<;>omega
  obtain⟨t4,ht4⟩:=aJ (l:=aYi) (k:=w4) hw4;have ht4':=b9 aR ht4;obtain⟨htl4,y⟩:=aQz t4 (Aa ht4);have y:=LD.of y;have hkw4:(aYi.map aR).length=3:=rfl;obtain⟨w8,j8,hw8,hx8,hcn8⟩:=cI l hl u j4 hj4 3 (by decide) (by decide);have hj8:=hx8.le hj4;have hxl8:l.length-j8≤l.length-j4:=by rcases hx8 with⟨_,_⟩ | ⟨_,_,_⟩<;>omega
  obtain⟨t8,ht8⟩:=aJ (l:=aYh) (k:=w8) hw8;have ht8':=b9 aR ht8;obtain⟨htl8,htd8⟩:=aQy t8 (Aa ht8);have htd8:=LD.of htd8;have hkw8:(aYh.map aR).length=3:=rfl;refine⟨[100,97,116,97,32]++t2++[32,61,32]++t4++[32,40]++K++[41]++t8,j8,⟨by simp only[ψ,κ,length_nil];omega,((((((((LQ.of rfl).appD q).app ⟨_,_,rfl,rfl⟩ (LQ.of rfl)).appD y).app ⟨_,_,rfl,rfl⟩ (LQ.of rfl)).appD hKd).app ⟨_,_,rfl,rfl⟩ (LQ.of rfl)).appD htd8)⟩,hj8,?_⟩;refine bM (n:=117) tok Tryz.func26 rfl rfl rfl ?_;refine sg rfl (sk 1 rfl (kc hcs ?_));refine kc hcg ?_;refine kc hcp ?_;refine kz 1 rfl (aA (sk 1 rfl (kc hc ?_)));refine az (aE (sg rfl (aB rfl (fun _=>aA (aC mixed (akN 2 [(0,.all)] rfl (kc Y ?_)))) (fun hb=>Bool.noConfusion hb))));refine akN 6 [(3,.row w2 (aR t2)),(7,.all)] rfl (kc hcn4 ?_);refine akN 9 [(10,.row w4 (aR t4)),(17,.all)] rfl (kc hcn8 ?_);exact akN 4 [(20,.row w8 (aR t8))] rfl (az (aD rtT))
 by_cases h1:v=1
 ·subst h1;obtain⟨w2,U,hw2,J,Y⟩:=cI l hl u j hj 3 (by decide) (by decide);have M:=J.le hj;have hxl2:l.length-U≤l.length-j:=by rcases J with⟨_,_⟩ | ⟨_,_,_⟩<;>omega
  obtain⟨t2,O⟩:=aJ (l:=aYr) (k:=w2) hw2;have ht2':=b9 aR O;obtain⟨htl2,q⟩:=aQ9 t2 (Aa O);have q:=LQ.of q;have hkw2:(aYr.map aR).length=3:=rfl;obtain⟨w3,j3,hw3,hx3,B⟩:=cI l hl u U M 3 (by decide) (by decide);have I:=hx3.le M;have hxl3:l.length-j3≤l.length-U:=by rcases hx3 with⟨_,_⟩ | ⟨_,_,_⟩<;>omega
  obtain⟨t3,ht3⟩:=aJ (l:=aVe) (k:=w3) hw3;have ht3':=b9 aR ht3;obtain⟨htl3,r⟩:=aIw t3 (Aa ht3);have r:=LD.of r;have hkw3:(aVe.map aR).length=3:=rfl;obtain⟨w5,j5,hw5,hx5,hcn5⟩:=cI l hl u j3 I 3 (by decide) (by decide);have hj5:=hx5.le I;have hxl5:l.length-j5≤l.length-j3:=by rcases hx5 with⟨_,_⟩ | ⟨_,_,_⟩<;>omega
  obtain⟨t5,ht5⟩:=aJ (l:=aYq) (k:=w5) hw5;have ht5':=b9 aR ht5;obtain⟨htl5,htd5⟩:=aQ8 t5 (Aa ht5);have htd5:=LD.of htd5;have hkw5:(aYq.map aR).length=3:=rfl;obtain⟨t7,j7,⟨htl7,htd7,hxl7⟩,hj7,hcn7⟩:=aU3 l hl u j5 hj5;have hp:=hx.pos (by omega);refine⟨[99,108,97,115,115,32]++t2++t3++[32,97,32,123,32]++t5++[32,58,32]++t7++K++[32,125],j7,⟨by simp only[ψ,κ,length_nil];omega,(((((((((LQ.of rfl).app q).appD r).app ⟨_,_,rfl,rfl⟩ (LQ.of rfl)).appD htd5).app ⟨_,_,rfl,rfl⟩ (LQ.of rfl)).app htd7).appD hKd).app ⟨_,_,rfl,rfl⟩ (LQ.of rfl)).d⟩,hj7,?_⟩;refine bM (n:=117) tok Tryz.func26 rfl rfl rfl ?_;refine sg rfl (sk 1 rfl (kc hcs ?_));refine kc hcg ?_;refine kc hcp ?_;refine kz 1 rfl (aA (sk 1 rfl (kc hc ?_)));refine az (aE (sg rfl (aB rfl (fun hb=>Bool.noConfusion hb) (fun _=>sg rfl (aB rfl (fun _=>aA (aC mixed (akN 2 [(0,.all)] rfl (kc Y ?_)))) (fun hb=>Bool.noConfusion hb))))));refine akN 5 [(3,.row w2 (aR t2)),(6,.all)] rfl (kc B ?_);refine akN 6 [(9,.row w3 (aR t3)),(13,.all)] rfl (kc hcn5 ?_);refine akN 5 [(16,.row w5 (aR t5))] rfl (kc hcn7 ?_);exact akN 5 [] rfl (az (aD rtT))
 by_cases h2:v=2
 ·subst h2;obtain⟨w2,U,hw2,J,Y⟩:=cI l hl u j hj 3 (by decide) (by decide);have M:=J.le hj;have hxl2:l.length-U≤l.length-j:=by rcases J with⟨_,_⟩ | ⟨_,_,_⟩<;>omega
  obtain⟨t2,O⟩:=aJ (l:=aYb) (k:=w2) hw2;have ht2':=b9 aR O;obtain⟨htl2,q⟩:=aQl t2 (Aa O);have q:=LQ.of q;have hkw2:(aYb.map aR).length=3:=rfl;obtain⟨w3,j3,hw3,hx3,B⟩:=cI l hl u U M 3 (by decide) (by decide);have I:=hx3.le M;have hxl3:l.length-j3≤l.length-U:=by rcases hx3 with⟨_,_⟩ | ⟨_,_,_⟩<;>omega
  obtain⟨t3,ht3⟩:=aJ (l:=aVe) (k:=w3) hw3;have ht3':=b9 aR ht3;obtain⟨htl3,r⟩:=aIw t3 (Aa ht3);have r:=LD.of r;have hkw3:(aVe.map aR).length=3:=rfl;obtain⟨w4,j4,hw4,hx4,hcn4⟩:=cI l hl u j3 I 4 (by decide) (by decide);have hj4:=hx4.le I;have hxl4:l.length-j4≤l.length-j3:=by rcases hx4 with⟨_,_⟩ | ⟨_,_,_⟩<;>omega
  obtain⟨t4,ht4⟩:=aJ (l:=aYa) (k:=w4) hw4;have ht4':=b9 aR ht4;obtain⟨htl4,y,hte4⟩:=aQk t4 (Aa ht4);have y:=LD.of y;have hkw4:(aYa.map aR).length=4:=rfl;obtain⟨w6,j6,hw6,hx6,hcn6⟩:=cI l hl u j4 hj4 2 (by decide) (by decide);have hj6:=hx6.le hj4;have hxl6:l.length-j6≤l.length-j4:=by rcases hx6 with⟨_,_⟩ | ⟨_,_,_⟩<;>omega
  obtain⟨t6,ht6⟩:=aJ (l:=aX9) (k:=w6) hw6;have ht6':=b9 aR ht6;obtain⟨htl6,htd6⟩:=aQj t6 (Aa ht6);have htd6:=LD.of htd6;have hkw6:(aX9.map aR).length=2:=rfl;obtain⟨t8,j8,htw8,hj8,hcn8⟩:=aOe l hl u 3 j6 2 hj6 rfl;have htl8:=htw8.1;have htm8:=htw8.le;have hp:=hx.pos (by omega);refine⟨[105,110,115,116,97,110,99,101,32]++t2++t3++t4++[32,123,32]++t6++[32,61,32]++t8++[32,125],j8,⟨by simp only[ψ,κ,length_nil];omega,(((((((((LQ.of rfl).app q).appD r).appD (dlh.of hte4) y).app ⟨_,_,rfl,rfl⟩ (LQ.of rfl)).appD htd6).app ⟨_,_,rfl,rfl⟩ (LQ.of rfl)).appD htw8.2).app ⟨_,_,rfl,rfl⟩ (LQ.of rfl)).d⟩,hj8,?_⟩;refine bM (n:=117) tok Tryz.func26 rfl rfl rfl ?_;refine sg rfl (sk 1 rfl (kc hcs ?_));refine kc hcg ?_;refine kc hcp ?_;refine kz 1 rfl (aA (sk 1 rfl (kc hc ?_)));refine az (aE (sg rfl (aB rfl (fun hb=>Bool.noConfusion hb) (fun _=>sg rfl (aB rfl (fun hb=>Bool.noConfusion hb) (fun _=>sg rfl (aB rfl (fun _=>aA (aC mixed (akN 2 [(0,.all)] rfl (kc Y ?_)))) (fun hb=>Bool.noConfusion hb))))))));refine akN 5 [(3,.row w2 (aR t2)),(6,.all)] rfl (kc B ?_);refine akN 5 [(9,.row w3 (aR t3)),(12,.all)] rfl (kc hcn4 ?_);refine akN 6 [(15,.row w4 (aR t4)),(19,.all)] rfl (kc hcn6 ?_);refine akN 5 [(22,.row w6 (aR t6))] rfl (kc hcn8 ?_);exact akN 3 [] rfl (az (aD rtT))
 by_cases h3:v=3
 ·subst h3;obtain⟨w1,j1,hw1,hx1,hcn1⟩:=cI l hl u j hj 2 (by decide) (by decide);have hj1:=hx1.le hj;have hxl1:l.length-j1≤l.length-j:=by rcases hx1 with⟨_,_⟩ | ⟨_,_,_⟩<;>omega
  obtain⟨t1,ht1⟩:=aJ (l:=aW7) (k:=w1) hw1;have ht1':=b9 aR ht1;obtain⟨htl1,E⟩:=aPf t1 (Aa ht1);have E:=LD.of E;have hkw1:(aW7.map aR).length=2:=rfl;obtain⟨t3,j3,⟨htl3,r,hxl3⟩,I,B⟩:=aU3 l hl u j1 hj1;have hp:=hx.pos (by omega);refine⟨t1++[32,58,32]++t3++K,j3,⟨by simp only[ψ,κ,length_nil];omega,(((E.app ⟨_,_,rfl,rfl⟩ (LQ.of rfl)).app r).appD hKd)⟩,I,?_⟩;refine bM (n:=117) tok Tryz.func26 rfl rfl rfl ?_;refine sg rfl (sk 1 rfl (kc hcs ?_));refine kc hcg ?_;refine kc hcp ?_;refine kz 1 rfl (aA (sk 1 rfl (kc hc ?_)));refine az (aE (sg rfl (aB rfl (fun hb=>Bool.noConfusion hb) (fun _=>sg rfl (aB rfl (fun hb=>Bool.noConfusion hb) (fun _=>sg rfl (aB rfl (fun hb=>Bool.noConfusion hb) (fun _=>sg rfl (aB rfl (fun _=>aA (aC mixed (akN 2 [(0,.all)] rfl (kc hcn1 ?_)))) (fun hb=>Bool.noConfusion hb))))))))));refine akN 4 [(3,.row w1 (aR t1))] rfl (kc B ?_);exact akN 4 [] rfl (az (aD rtT))
 have d0:decide ((v:Int)=0)=false:=φ (by omega);have d1:decide ((v:Int)=1)=false:=φ (by omega);have d2:decide ((v:Int)=2)=false:=φ (by omega);have d3:decide ((v:Int)=3)=false:=φ (by omega);obtain⟨w1,j1,hw1,hx1,hcn1⟩:=cI l hl u j hj 4 (by decide) (by decide);have hj1:=hx1.le hj;have hxl1:l.length-j1≤l.length-j:=by rcases hx1 with⟨_,_⟩ | ⟨_,_,_⟩<;>omega
 obtain⟨t1,ht1⟩:=aJ (l:=aYy) (k:=w1) hw1;have ht1':=b9 aR ht1;obtain⟨htl1,E⟩:=aR5 t1 (Aa ht1);have E:=LD.of E;have hkw1:(aYy.map aR).length=4:=rfl;obtain⟨t3,j3,htw3,I,B⟩:=aOe l hl u 4 j1 1 hj1 rfl;have htl3:=htw3.1;have htm3:=htw3.le;have hp:=hx.pos (by omega);refine⟨t1++[32,61,32]++t3,j3,⟨by simp only[ψ,κ,length_nil];omega,((E.app ⟨_,_,rfl,rfl⟩ (LQ.of rfl)).appD htw3.2)⟩,I,?_⟩;refine bM (n:=117) tok Tryz.func26 rfl rfl rfl ?_;refine sg rfl (sk 1 rfl (kc hcs ?_));refine kc hcg ?_;refine kc hcp ?_;refine kz 1 rfl (aA (sk 1 rfl (kc hc ?_)));refine az (aE (sg rfl (aB rfl (fun hb=>Bool.noConfusion (hb.symm.trans d0)) (fun _=>sg rfl (aB rfl (fun hb=>Bool.noConfusion (hb.symm.trans d1)) (fun _=>sg rfl (aB rfl (fun hb=>Bool.noConfusion (hb.symm.trans d2)) (fun _=>sg rfl (aB rfl (fun hb=>Bool.noConfusion (hb.symm.trans d3)) (fun _=>aF (aA (aC mixed (akN 2 [(0,.all)] rfl (kc hcn1 ?_))))))))))))));refine akN 4 [(3,.row w1 (aR t1))] rfl (kc B ?_);exact akN 2 [] rfl (az (aD rtT))
end Go.Proofs.YtkhgpgihmphfdaaGreatDoor
