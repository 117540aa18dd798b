/-
  Texts Pr2 to Am53 in one.
-/
import Derived.Test.YtpmheldmadendaaGreatDoorM13
import Derived.Shelf.Strings.OnBuilder
import Derived.Shelf.Strconv.Itoa3
import Derived.Lib.LaidTab
import Derived.RecoverIn
open List (drop_eq_getElem_cons drop_length filter_eq_self length_append length_cons length_map length_nil length_pos_iff length_range length_take map_append map_cons map_map mem_cons mem_cons_of_mem mem_cons_self mem_map range'_succ range_eq_range' set_append_right sum_cons take_length)
open Nat (add_zero eq_of_beq_eq_true le_of_ble_eq_true le_refl le_trans lt_of_lt_of_le lt_succ_self mul_one sub_self sub_zero succ_pos zero_add zero_le)
namespace Go.Proofs.YtpmheldmadendaaGreatDoor
open Go Go.AM
set_option maxRecDepth 20000
set_option maxHeartbeats 4000000
def aYo:Code→Code | .seq _ b=>b | c=>c
theorem o5:∀(k:Nat) (q:Int) (t:Ty),PT t→tn t≤k→tyW t≤1000000000→b9 Tryz.prog 171 [tyV t,I .i64 q] [] (Go.AM.T (r6 k q t)) []
 | 0,_,t,_,h,_=>by have:=qR t;omega
 | k+1,q,t,M,u,y=>by
  have hM:3000000000≤maxLen:=by decide
  have r:∀(s:Str) (b:Bool),s.length≤2000000000→AWp none Tryz.prog 89 (keys ([]:List (Nat×AObj))) (aYo (aYo (aYo (Tryz.f171.body.getD .skip)))) (mk [(5,Go.AM.T s),(6,B b)] []) (fun ex st=>(ex=.normal∨ex=.ret)∧Fin tr.flat Tryz.f171 st [] (Go.AM.T (brk b s)) []):=fun s b hs=>by
   refine aA (sg rfl ?_);cases b with
   | true=>
    exact aB rfl (fun _=>sg rfl (aE rtT)) nofun
   | false=>
    exact aB rfl nofun (fun _=>aD (sg rfl (aE rtT)))
  refine bP (n:=89) tok Tryz.func171 rfl rfl rfl ?_;refine sg rfl (sg rfl ?_);rcases M.cases with⟨a,b,rfl,ha,hb⟩ | ⟨hn,O⟩
  ·have hp:=aJf a b;have U:=jV k 1 a ha;have Y:=jV k 0 b hb;unfold aFs at u y;rw[oL,oL] at y;unfold lY at u;rw[tn,tns,tns,tns,tn,tns,tns,tns] at u;have E:=o5 k 1 a ha (by omega) (by omega);have J:=o5 k 0 b hb (by omega) (by omega);have aa:=aFb (show decide (b.form=5)=false from ψ (by have:=hb.form;omega));rw[aHk];refine aA (AWp.cut (mk [(5,Go.AM.T (r6 k 1 a++arrS++r6 k 0 b)),(6,B (!decide (q=0)))] []) ?_ ?_)
   ·refine sk 1 rfl (kc hp ?_);refine kz 9 rfl (aF (sg rfl (aB rfl (fun _=>?_) nofun)));have h4:arrS.length=4:=rfl;refine aC mixed (ak 1 [] rfl (kc E ?_));refine ak 5 [] rfl (kc aa ?_);refine ak 1 [] rfl (kc J ?_);exact kz 5 rfl sl
   ·exact r _ _ (by rw[θ,θ,show arrS.length=4 from rfl];omega)
  ·have hp:=aJe M hn;rcases O with⟨f,s,rfl,hf⟩ | ⟨a,b,rfl,ha,hb⟩
   ·have d1:decide (f=1)=false:=ψ (by omega);have d5:decide (f=5)=false:=ψ (by omega);have d4:decide (f=4)=false:=ψ (by omega);rw[tyW,aQg] at y;rw[aBw k q f s hf];refine aA (AWp.cut (mk [(5,Go.AM.T s),(6,B (decide (f=3)&&decide (s=arrow)))] []) ?_ ?_)
    ·refine sk 1 rfl (kc hp ?_);refine kz 9 rfl (aF (sg rfl (aB rfl nofun (fun _=>sg rfl (aB rfl (fun hb=>absurd (hb.symm.trans d1) Bool.noConfusion) (fun _=>?_))))));by_cases h3:f=3
     ·have d3:decide (f=3)=true:=φ h3;rw[d3,B8];refine sgh [(3,.bv true),(7,.bv true)] rfl (aB rfl (fun hb=>?_) (fun hb=>?_))
      ·refine ag [] rfl ?_;rw[show decide (s=arrow)=true from hb];exact sl
      ·refine sg rfl (aB rfl (fun hb=>absurd (hb.symm.trans d5) Bool.noConfusion) (fun _=>sg rfl (aB rfl (fun hb=>absurd (hb.symm.trans d4) Bool.noConfusion) (fun _=>aD ?_))));rw[show decide (s=arrow)=false from hb];exact sl
     ·have d3:decide (f=3)=false:=ψ h3;rw[d3,B3];exact sgh [(3,.bv false),(7,.bv false)] rfl (aB rfl nofun (fun _=>sg rfl (aB rfl (fun hb=>absurd (hb.symm.trans d5) Bool.noConfusion) (fun _=>sg rfl (aB rfl (fun hb=>absurd (hb.symm.trans d4) Bool.noConfusion) (fun _=>aD sl))))))
    ·exact r _ _ (by omega)
   ·have U:=jV k 2 a ha;have Y:=jV k 3 b hb;rw[oL] at y;unfold lY at u;rw[tn,tns,tns,tns] at u;have E:=o5 k 2 a ha (by omega) (by omega);have J:=o5 k 3 b hb (by omega) (by omega);rw[aHl k q hn];refine aA (AWp.cut (mk [(5,Go.AM.T (r6 k 2 a++[32]++r6 k 3 b)),(6,B (decide (q=3)))] []) ?_ ?_)
    ·refine sk 1 rfl (kc hp ?_);refine kz 9 rfl (aF (sg rfl (aB rfl nofun (fun _=>sg rfl (aB rfl nofun (fun _=>sgh [(3,.bv false),(7,.bv false)] rfl (aB rfl nofun (fun _=>sg rfl (aB rfl nofun (fun _=>sg rfl (aB rfl (fun _=>aC mixed (ak 4 [(2,.row 0 (bR a))] rfl (kc E ?_))) nofun)))))))))));refine ak 5 [(8,.row 1 (bR b))] rfl (kc J ?_);exact kz 5 rfl sl
    ·exact r _ _ (by rw[θ,θ,χ,length_nil];omega)
def prT (t:Ty):Str:=r6 (tn t) 0 t
theorem aDb (t:Ty) (q:PT t) (r:tyW t≤1000000000):b9 Tryz.prog 124 [tyV t] [] (Go.AM.T (prT t)) []:=by
 have h:=o5 (tn t) 0 t q (le_refl _) r;refine bP (n:=5) tok Tryz.func124 rfl rfl rfl ?_;refine sg rfl (sk 1 rfl (kc h ?_));exact kz 1 rfl (aE rtT)
end Go.Proofs.YtpmheldmadendaaGreatDoor
namespace Go.Proofs.YtpmheldmadendaaGreatDoor
open Go Go.AM Go.Shelf
set_option maxRecDepth 100000
def jr:Ren:=⟨fun f=>if f=156 then 58 else if f=165 then 113 else if f=166 then 114 else if f=169 then 115 else if f=240 then 166 else if f=241 then 167 else if f=276 then 202 else if f=277 then 203 else f,fun t=>if t=0 then 0 else if t=3 then 3 else if t=4 then 4 else if t=5 then 5 else if t=9 then 9 else if t=20 then 20 else if t=31 then 40 else if t=37 then 100 else if t=70 then 164 else if t=72 then 166 else if t=75 then 169 else if t=76 then 170 else if t=80 then 172 else if t=127 then 213 else if t=164 then 233 else t,fun g=>if g=1 then 0 else g⟩
theorem jl:Lays.n156 Tryz.prog jr where
 mixed:=mixed
 f156:=by kernel_rfl
 f165:=by kernel_rfl
 f166:=by kernel_rfl
 f169:=by kernel_rfl
 f240:=by kernel_rfl
 f241:=by kernel_rfl
 f276:=by kernel_rfl
 f277:=by kernel_rfl
 t0:=by kernel_rfl
 a0:=fun w=>by kernel_rfl
 z0:=fun w=>by kernel_rfl
 v0:=fun w=>by kernel_rfl
 t3:=by kernel_rfl
 a3:=fun w=>by kernel_rfl
 z3:=fun w=>by kernel_rfl
 v3:=fun w=>by kernel_rfl
 t4:=by kernel_rfl
 a4:=fun w=>by kernel_rfl
 z4:=fun w=>by kernel_rfl
 v4:=fun w=>by kernel_rfl
 t9:=by kernel_rfl
 a9:=fun w=>by kernel_rfl
 z9:=fun w=>by kernel_rfl
 v9:=fun w=>by kernel_rfl
 t20:=by kernel_rfl
 a20:=fun w=>by kernel_rfl
 z20:=fun w=>by kernel_rfl
 v20:=fun w=>by kernel_rfl
 t31:=by kernel_rfl
 a31:=fun w=>by kernel_rfl
 z31:=fun w=>by kernel_rfl
 v31:=fun w=>by kernel_rfl
 t37:=by kernel_rfl
 a37:=fun w=>by kernel_rfl
 z37:=fun w=>by kernel_rfl
 v37:=fun w=>by kernel_rfl
 t70:=by kernel_rfl
 a70:=fun w=>by kernel_rfl
 z70:=fun w=>by kernel_rfl
 v70:=fun w=>by kernel_rfl
 t72:=by kernel_rfl
 a72:=fun w=>by kernel_rfl
 z72:=fun w=>by kernel_rfl
 v72:=fun w=>by kernel_rfl
 t75:=by kernel_rfl
 a75:=fun w=>by kernel_rfl
 z75:=fun w=>by kernel_rfl
 v75:=fun w=>by kernel_rfl
 t76:=by kernel_rfl
 a76:=fun w=>by kernel_rfl
 z76:=fun w=>by kernel_rfl
 v76:=fun w=>by kernel_rfl
 t127:=by kernel_rfl
 a127:=fun w=>by kernel_rfl
 z127:=fun w=>by kernel_rfl
 v127:=fun w=>by kernel_rfl
 t164:=by kernel_rfl
 a164:=fun w=>by kernel_rfl
 z164:=fun w=>by kernel_rfl
 v164:=fun w=>by kernel_rfl
theorem jx:Builder.Extra Tryz.prog jr where
 sizeBuilder:=by kernel_rfl
 liesBuilder:=by kernel_rfl
 t5:=by kernel_rfl
 a5:=fun w=>by kernel_rfl
 z5:=fun w=>by kernel_rfl
 v5:=fun w=>by kernel_rfl
 infoByte:=by kernel_rfl
 cellsByte:=by kernel_rfl
 sizeByte:=by kernel_rfl
 neB5:=by decide
end Go.Proofs.YtpmheldmadendaaGreatDoor
namespace Go.AM
open Go
theorem Inv.below {G:Ctx}{S:Sto}{μ:Mu}{H:cE}{w w':World}(h:Inv G S μ H w) (k:Go.RowKit.Below w.heap.size w w'):Inv G S μ H w':=by
 have hold:∀b:Nat,b<w.heap.size→w'.heap[b]?=w.heap[b]?:=k.block;obtain⟨h1,h2,q,r,u,y,B,E,I⟩:=h;refine⟨⟨fun b o v e=>?_,fun b mk e=>?_⟩,fun id o e=>(h2 id o e).evolve (Evolve.refl _ _ _) rfl fun b c hm=>⟨hold b ((h2 id o e).lt hm),fun _=>rfl,rfl⟩,q,r,?_,y,B,E,I⟩
 ·obtain⟨vs,t,J,g1,g2⟩:=h1.1 b o v e;exact⟨vs,t,J,by rw[hold b (cA g1)];exact g1,g2⟩
 ·have g:=h1.2 b mk e;obtain⟨_,g2⟩:=MK.holds_some g;rw[hold b (cA g2)];exact g
 ·obtain⟨f1,f2,f3,f4,f5,f6⟩:=u;exact⟨k.os.trans f1,k.tape.trans f2,k.output.trans f3,le_trans f4 k.size,fun b hb M=>by rw[hold b (A7 hb f4)];exact f5 b hb M,f6⟩
end Go.AM
namespace Go.Proofs.YtpmheldmadendaaGreatDoor
open Go Go.AM Go.Shelf
set_option maxRecDepth 20000
theorem wT (l:List Str):(l.map fun s=>(⟨⟨s⟩⟩:ByteArray)).map (·.data.toList)=l:=by
 rw[map_map];exact List.map_id l
theorem aJq (l:List Str) (sep:Str) (hl:l.length≤140737488355328) (hj:(Lib.join l sep).length≤140737488355328):b9 Tryz.prog 58 [cJ l,Go.AM.T sep] [] (Go.AM.T (Lib.join l sep)) []:=by
 intro S μ w vals M hv;simp only[cJ,b5,aO,aZ,Rep] at hv;obtain⟨v1,vs1,rfl,⟨a,len,cap,rfl,hlen,hcap,hmax,I,J,b,o,hb,q⟩,v2,vs2,rfl,rfl,rfl⟩:=hv;rw[η] at hlen;have u:∀(e:Ending) (w':World),(e=.returned (.string ⟨(Lib.join l sep).toArray⟩)∧Go.RowKit.Below w.heap.size w w')→∃S' μ' v,e=.returned v∧Inv ⟨w,S,jE μ (Go.AM.look []),μ,Go.AM.look []⟩ S' μ' (Go.AM.look []) w'∧aO S' μ' (Go.AM.look []) (Go.AM.T (Lib.join l sep)) v:=by
  rintro e w' ⟨rfl,Y⟩;refine⟨S,μ,_,rfl,M.below Y,?_⟩;simp only[aO,aZ,Rep]
 cases l with
 | nil=>
  rw[length_nil] at hlen;subst hlen;refine Calls.mono (Any.strings_Join_none jl jx a cap ⟨⟨sep⟩⟩ w) ?_;rintro e w' ⟨rfl,rfl⟩;exact u _ _ ⟨rfl,Go.RowKit.Below.refl _ _⟩
 | cons x r=>
  have hl0:0<len:=by rw[hlen,χ];omega
  cases a with
  | none=>have:=(I rfl).1;omega
  | some O=>
   obtain⟨h1,h2⟩:=hb O rfl;have h3:=J O rfl (by omega);obtain⟨U,ao,asp⟩:=O;dsimp only at h1 h2 h3;subst h1 h2 h3;have B:∀(j:Nat) y,((x::r).map fun s=>(⟨⟨s⟩⟩:ByteArray))[j]?=some y→w.cell? ⟨U,ao+j,none⟩=some (.string y):=fun j y hj=>by
    rw[By] at hj;cases hx:(x::r)[j]? with
    | none=>rw[hx] at hj;cases hj
    | some s=>
     rw[hx] at hj;injection hj with hj;subst hj;obtain⟨_,vs,E,hc⟩:=q.get j (b7 s) (aT b7 hx);simp only[b7,c0,Rep] at E;obtain⟨v,vs',rfl,rfl,rfl⟩:=E;have:=M.holds.cell (hc 0 _ rfl);rwa [mul_one,Cu] at this
   have hbk:U<w.heap.size:=by
    obtain⟨_,vs,E,hc⟩:=q.get 0 (b7 x) rfl;simp only[b7,c0,Rep] at E;obtain⟨v,vs',rfl,rfl,rfl⟩:=E;obtain⟨_,_,_,g,_⟩:=M.holds.1 _ _ _ (hc 0 _ rfl);exact cA g
   have:=Any.strings_Join jl jx U ao cap ((x::r).map fun s=>(⟨⟨s⟩⟩:ByteArray)) ⟨⟨sep⟩⟩ w B hbk (by rw[η];exact hl) (by rw[η];omega) (by rw[wT];exact hj);rw[wT,η] at this;rw[hlen];exact Calls.mono this fun e w' h=>u e w' h
end Go.Proofs.YtpmheldmadendaaGreatDoor
namespace Go.Proofs.YtpmheldmadendaaGreatDoor
open Go Go.AM Go.Shelf
set_option maxRecDepth 100000
def ir:Ren:=⟨fun f=>if f=129 then 234 else if f=171 then 68 else if f=243 then 123 else if f=246 then 170 else if f=283 then 206 else if f=284 then 207 else if f=285 then 208 else if f=286 then 209 else if f=317 then 233 else if f=318 then 235 else if f=319 then 236 else if f=320 then 237 else if f=337 then 246 else if f=338 then 247 else f,fun t=>if t=0 then 0 else if t=2 then 2 else if t=3 then 3 else if t=4 then 4 else if t=5 then 5 else if t=9 then 9 else if t=20 then 20 else if t=37 then 100 else if t=46 then 264 else if t=51 then 261 else if t=53 then 239 else if t=171 then 238 else if t=173 then 242 else if t=212 then 260 else if t=213 then 262 else if t=232 then 271 else if t=233 then 272 else t,fun g=>if g=17 then 1 else if g=18 then 2 else if g=19 then 3 else g⟩
theorem il:LaysM.n171 Tryz.prog ir where
 mixed:=mixed
 f129:=by kernel_rfl
 f171:=by kernel_rfl
 f243:=by kernel_rfl
 f246:=by kernel_rfl
 f283:=by kernel_rfl
 f284:=by kernel_rfl
 f285:=by kernel_rfl
 f286:=by kernel_rfl
 f317:=by kernel_rfl
 f318:=by kernel_rfl
 f319:=by kernel_rfl
 f320:=by kernel_rfl
 f337:=by kernel_rfl
 f338:=by kernel_rfl
 t0:=by kernel_rfl
 a0:=fun w=>by kernel_rfl
 z0:=fun w=>by kernel_rfl
 v0:=fun w=>by kernel_rfl
 t2:=by kernel_rfl
 a2:=fun w=>by kernel_rfl
 z2:=fun w=>by kernel_rfl
 v2:=fun w=>by kernel_rfl
 t3:=by kernel_rfl
 a3:=fun w=>by kernel_rfl
 z3:=fun w=>by kernel_rfl
 v3:=fun w=>by kernel_rfl
 t4:=by kernel_rfl
 a4:=fun w=>by kernel_rfl
 z4:=fun w=>by kernel_rfl
 v4:=fun w=>by kernel_rfl
 t5:=by kernel_rfl
 a5:=fun w=>by kernel_rfl
 z5:=fun w=>by kernel_rfl
 v5:=fun w=>by kernel_rfl
 t9:=by kernel_rfl
 a9:=fun w=>by kernel_rfl
 z9:=fun w=>by kernel_rfl
 v9:=fun w=>by kernel_rfl
 t20:=by kernel_rfl
 a20:=fun w=>by kernel_rfl
 z20:=fun w=>by kernel_rfl
 v20:=fun w=>by kernel_rfl
 t37:=by kernel_rfl
 a37:=fun w=>by kernel_rfl
 z37:=fun w=>by kernel_rfl
 v37:=fun w=>by kernel_rfl
 t46:=by kernel_rfl
 a46:=fun w=>by kernel_rfl
 z46:=fun w=>by kernel_rfl
 v46:=fun w=>by kernel_rfl
 t51:=by kernel_rfl
 a51:=fun w=>by kernel_rfl
 z51:=fun w=>by kernel_rfl
 v51:=fun w=>by kernel_rfl
 t53:=by kernel_rfl
 a53:=fun w=>by kernel_rfl
 z53:=fun w=>by kernel_rfl
 v53:=fun w=>by kernel_rfl
 t171:=by kernel_rfl
 a171:=fun w=>by kernel_rfl
 z171:=fun w=>by kernel_rfl
 v171:=fun w=>by kernel_rfl
 t173:=by kernel_rfl
 a173:=fun w=>by kernel_rfl
 z173:=fun w=>by kernel_rfl
 v173:=fun w=>by kernel_rfl
 t212:=by kernel_rfl
 a212:=fun w=>by kernel_rfl
 z212:=fun w=>by kernel_rfl
 v212:=fun w=>by kernel_rfl
 t213:=by kernel_rfl
 a213:=fun w=>by kernel_rfl
 z213:=fun w=>by kernel_rfl
 t232:=by kernel_rfl
 a232:=fun w=>by kernel_rfl
 z232:=fun w=>by kernel_rfl
 v232:=fun w=>by kernel_rfl
 t233:=by kernel_rfl
 a233:=fun w=>by kernel_rfl
 z233:=fun w=>by kernel_rfl
 v233:=fun w=>by kernel_rfl
 g17:=by kernel_rfl
 g18:=by kernel_rfl
 g19:=by kernel_rfl
 i0:=by kernel_rfl
 i2:=by kernel_rfl
 i3:=by kernel_rfl
 i4:=by kernel_rfl
 i5:=by kernel_rfl
 i9:=by kernel_rfl
 i20:=by kernel_rfl
 i37:=by kernel_rfl
 i46:=by kernel_rfl
 i51:=by kernel_rfl
 i53:=by kernel_rfl
 i171:=by kernel_rfl
 i173:=by kernel_rfl
 i212:=by kernel_rfl
 i232:=by kernel_rfl
 i233:=by kernel_rfl
 m17:=by kernel_rfl
 m18:=by kernel_rfl
 m19:=by kernel_rfl
end Go.Proofs.YtpmheldmadendaaGreatDoor
namespace Go.AM
open Go
theorem Inv.grown {G:Ctx}{S:Sto}{μ:Mu}{H:cE}{w:World}(h:Inv G S μ H w) (k:Nat) (os:Array Obj):Inv G S μ H (Sort.grow (w.drewN k) os):=by
 have hold:∀b:Nat,b<w.heap.size→(Sort.grow (w.drewN k) os).heap[b]?=w.heap[b]?:=fun b hb=>by
  show(w.heap++os)[b]?=w.heap[b]?;exact B1 hb
 have hsz:w.heap.size≤(Sort.grow (w.drewN k) os).heap.size:=by
  show w.heap.size≤(w.heap++os).size;rw[Array.size_append];omega
 obtain⟨h1,h2,q,r,u,y,B,E,I⟩:=h;refine⟨⟨fun b o v e=>?_,fun b mk e=>?_⟩,fun id o e=>(h2 id o e).evolve (Evolve.refl _ _ _) rfl fun b c hm=>⟨hold b ((h2 id o e).lt hm),fun _=>rfl,rfl⟩,q,r,?_,y,B,E,I⟩
 ·obtain⟨vs,t,J,g1,g2⟩:=h1.1 b o v e;exact⟨vs,t,J,by rw[hold b (cA g1)];exact g1,g2⟩
 ·have g:=h1.2 b mk e;obtain⟨_,g2⟩:=MK.holds_some g;rw[hold b (cA g2)];exact g
 ·obtain⟨f1,f2,f3,f4,f5,f6⟩:=u;exact⟨f1,f2,f3,le_trans f4 hsz,fun b hb M=>by rw[hold b (A7 hb f4)];exact f5 b hb M,f6⟩
end Go.AM
namespace Go.Proofs.YtpmheldmadendaaGreatDoor
open Go Go.AM
set_option maxRecDepth 20000
theorem aSf (k:Nat) (h:k<1000000000000000000):b9 Tryz.prog 68 [I .i64 (k:Int)] [] (Go.AM.T (Lib.decDigits k)) []:=by
 intro S μ w vals r hv;simp only [b5, aO, aZ, Rep] at hv;obtain ⟨v1, u, rfl, rfl, rfl⟩ := hv;have q : Lib.TabIs Tryz.prog w "internal/strconv.uint64pow10" .u64 Lib.pow10Tab := by
  obtain ⟨h1, t, y, h2⟩ := r.frame.tabAt _ rfl;unfold Lib.TabIs World.var?;rw [show Tryz.prog.globalNamed "internal/strconv.uint64pow10" = aLf by kernel_rfl];simp only [aLf, Ck, h2];rfl
 refine Calls.mono (Any.strconv_Itoa il (k:Int) (by omega) (by omega) w q) ?_;rintro e w' ⟨rfl,j,os,rfl⟩;refine⟨S,μ,_,rfl,r.grown j os,?_⟩;rw[Lib.itoa_nonneg];simp only[aO,aZ,Rep]
end Go.Proofs.YtpmheldmadendaaGreatDoor
namespace Go.Proofs.YtpmheldmadendaaGreatDoor
open Go Go.AM
set_option maxRecDepth 20000
theorem aRu (n:Nat) (h:n≤600000000000):(Lib.decDigits n).length≤20:=by
 rw[Lib.decDigits_length];by_cases h0:n=0
 ·subst h0;decide+kernel
 ·have:=Lib.numDigits_eq n (by omega) (by omega);split at this<;>omega
set_option maxHeartbeats 4000000
theorem fQ (s:Str) (b:Bool) (h:s.length≤2000000000):b9 Tryz.prog 69 [Go.AM.T s,B b] [] (Go.AM.T (brk b s)) []:=by
 have q:3000000000≤maxLen:=by decide
 refine bP (n:=10) tok Tryz.func69 rfl rfl rfl ?_;refine sg rfl (aA (sg rfl ?_));cases b with
 | true=>
  exact aB rfl (fun _=>sg rfl (aE rtT)) nofun
 | false=>
  exact aB rfl nofun (fun _=>aD (sg rfl (aE rtT)))
def vU (t:Ty):Str:=brk (decide (t.form=4)) (prT t)
def iC (p:Prd):Str:=p.cls++[32]++vU p.ty
def aPo:Str:=[44,32]
def a0d:Str:=[32,61,62,32]
def aWc (l:List Prd):Str:=if l=[] then [] else brk (decide (1<l.length)) (Lib.join (l.map iC) aPo)++a0d
def vW (s:Sch):Str:=aWc s.preds++prT s.ty
def aK0 (p:Prd):Nat:=p.cls.length+8+tyW p.ty
def aEj (l:List Prd):Nat:=(l.map aK0).sum
def aTk (s:Sch):Nat:=aEj s.preds+8+tyW s.ty
structure SchP (s:Sch):Prop where
 t:PT s.ty
 p:∀p∈s.preds,PT p.ty
 l:s.preds.length≤100000
theorem aBx {t:Ty}(h:PT t):(prT t).length≤tyW t:=jV _ _ t h
theorem aBg {t:Ty}(h:PT t):(vU t).length≤tyW t+2:=by
 have h1:=eJ (decide (t.form=4)) (prT t);have h2:=aBx h;unfold vU;omega
theorem pred_le {p:Prd}(h:PT p.ty):(iC p).length≤aK0 p:=by
 have h1:=aBg h;unfold iC aK0;rw[θ,θ,χ,length_nil];omega
theorem join_le (sep:Str):∀l:List Str,(Lib.join l sep).length≤(l.map (fun s:Str=>s.length)).sum+sep.length*l.length
 | []=>ε _
 | x::r=>by
  have e:Lib.lens (x::r)=((x::r).map (fun s:Str=>s.length)).sum:=rfl;have q:(Lib.join (x::r) sep).length=sep.length*r.length+Lib.lens (x::r):=Lib.join_length x r sep;rw[q,e,χ,Nat.mul_add];omega
theorem aGc {α:Type}(f g:α→Nat):∀l:List α,(∀x∈l,f x≤g x)→(l.map f).sum≤(l.map g).sum
 | [],_=>le_refl _
 | x::l,h=>by
  rw[Ar,Ar,Cd,Cd];have:=h x Ba;have:=aGc f g l fun y hy=>h y (A1 _ hy)
  omega
theorem aH6 {α:Type}(g:α→Nat):∀{l:List α}{x:α},x∈l→g x≤(l.map g).sum
 | y::l,x,h=>by
  rw[Ar,Cd];rcases Au.1 h with rfl | h
  ·omega
  ·have:=aH6 g h;omega
theorem aIc {α:Type}(g:α→Nat) (k:Nat):∀{l:List α},(∀x∈l,k≤g x)→k*l.length≤(l.map g).sum
 | [],_=>le_refl _
 | y::l,h=>by
  rw[Ar,Cd,χ,Nat.mul_add];have:=h y Ba;have:=aIc g k (l:=l) fun z q=>h z (A1 _ q)
  omega
theorem aCh {l:List Prd}(h:∀p∈l,PT p.ty):(Lib.join (l.map iC) aPo).length≤2*aEj l:=by
 have h1:=join_le aPo (l.map iC);rw[map_map,η,show aPo.length=2 from rfl] at h1;have h2:(l.map ((fun s:Str=>s.length)∘iC)).sum≤(l.map aK0).sum:=aGc (fun p=>(iC p).length) aK0 l fun p hp=>pred_le (h p hp)
 have q:=aIc aK0 2 (l:=l) fun p _=>by unfold aK0;omega
 unfold aEj;omega
theorem aPn {l:List Prd}(h:∀p∈l,PT p.ty):(aWc l).length≤2*aEj l+6:=by
 have h1:=aCh h;have h2:=eJ (decide (1<l.length)) (Lib.join (l.map iC) aPo);unfold aWc;split
 ·exact ε _
 ·rw[θ,show a0d.length=4 from rfl];omega
theorem aBj {s:Sch}(h:SchP s):(vW s).length≤2*aTk s:=by
 have h1:=aPn h.p;have h2:=aBx h.t;unfold vW aTk;rw[θ];omega
theorem aNe {t:Ty}(h:PT t) (q:tyW t≤1000000000):b9 Tryz.prog 110 [tyV t] [] (Go.AM.T (vU t)) []:=by
 have h1:=aBx h;have hp:=aDb t h q;have hb:=fQ (prT t) (decide (t.form=4)) (by omega);refine bP (n:=9) tok Tryz.func110 rfl rfl rfl ?_;refine sg rfl (sk 1 rfl (kc hp ?_));refine ak 3 [] rfl (kc hb ?_);exact kz 1 rfl (aE rtT)
theorem aFa (l:List Prd) (h:∀p∈l,PT p.ty) (hl:l.length≤100000) (hW:aEj l≤400000000):b9 Tryz.prog 112 [.one (.c (.sl 5 (l.map aN)))] [] (Go.AM.T (aWc l)) []:=by
 have hM:3000000000≤maxLen:=by decide
 have J:(l.map aN).length=l.length:=η _;refine bP (n:=33) tok Tryz.func112 rfl rfl rfl ?_;refine sg rfl (sg rfl (AWp.sub (Sub.own (t:=3) (id:=500) 9 1 rfl rfl) ?_));refine aA (sg rfl (aF (aK (fun i:Nat=>mk [(3,.one (.hs 500 0 (l.take i).length (l.take i).length)),(6,.one (.c (.sl 5 (l.map aN)))),(7,I .i64 ((l.map aN).length:Nat)),(8,I .i64 (i:Nat))] [(500,.arr 9 1 (((l.take i).map iC).map b7) 0)]) (fun i=>i≤l.length) (fun i=>l.length-i) 0 (ε _) sl ?_)));intro i hi;have hti:(l.take i).length=i:=by rw[An];omega
 refine sg rfl (aA (aB rfl (fun hb=>?_) (fun hb=>?_)))
 ·have r:=ltD hb J;obtain⟨p,hp⟩:=aL r;have hp':=aT aN hp;have hm:=τ hp;have M:aK0 p≤aEj l:=aH6 aK0 hm;rw[show aK0 p=p.cls.length+8+tyW p.ty from rfl] at M;have O:=aNe (h p hm) (by omega);have hsl:=aBg (h p hm);have u:(((l.take i).map iC).map b7).length=(l.take i).length:=by rw[η,η]
  have y:l.take (i+1)=l.take i++[p]:=dH hp;have B:(l.take (i+1)).length=(l.take i).length+1:=by rw[y,θ];rfl
  have E:(((l.take i).map iC).map b7)++[[.str (p.cls++[32]++vU p.ty)]]=((l.take (i+1)).map iC).map b7:=by rw[y,Al,Al];rfl
  refine aD (aA (aF (sgh [(0,.row i (aN p))] rfl (aC mixed (ak 6 [] rfl (kc O ?_))))));exact ak 2 [(8,.all)] rfl (kz 2 rfl (agN [] rfl ⟨i+1,r,by dsimp only;omega,sl (he:=⟨Go.AM.hs_ren (by rw[B,←u];rfl) (by rw[B,←u];rfl),rfl,rfl,rfl,trivial⟩) (hh:=⟨⟨_,rfl,.arrS E⟩,trivial⟩)⟩))
 ·have U:=geD hb J hi;subst U;refine aH ?_;rw[Ax];have hjl:=aCh h;have Y:((l.map iC).map b7).length=l.length:=by rw[η,η]
  have hj:=aJq (l.map iC) aPo (by rw[η];omega) (by omega);have aa:=fQ (Lib.join (l.map iC) aPo) (decide ((1:Int)<((((l.map iC).map b7).length:Nat):Int))) (by omega);have hbl:=eJ (decide ((1:Int)<((((l.map iC).map b7).length:Nat):Int))) (Lib.join (l.map iC) aPo);refine AWp.sub (Sub.freeze (id:=500) rfl) ?_;refine AWp.sub (st2:=mk [(3,cJ (l.map iC))] []) ?_ ?_
  ·refine Sub.trans ?_ (cv 3 ((l.map iC).map b7));exact sl
  refine aA (sg rfl ?_);unfold aWc;by_cases q:l=[]
  ·have d:decide (((((l.map iC).map b7).length:Nat):Int)=0)=true:=φ (by rw[q];rfl);rw[ζ q];exact aB rfl (fun _=>sg rfl (aE rtT)) (fun hb=>Bool.noConfusion (hb.symm.trans d))
  ·have ab:0<l.length:=C6.2 q;have d:decide (((((l.map iC).map b7).length:Nat):Int)=0)=false:=ψ (by omega);have e1:decide (1<l.length)=decide ((1:Int)<((((l.map iC).map b7).length:Nat):Int)):=by
    rw[Y];by_cases h1:1<l.length
    ·rw[φ h1,φ (by omega)]
    ·rw[ψ h1,ψ (by omega)]
   rw[ξ q,e1];refine aB rfl (fun hb=>Bool.noConfusion (hb.symm.trans d)) (fun _=>aD (sk 1 rfl (kc hj ?_)));refine ak 3 [] rfl (kc aa ?_);exact kz 2 rfl (aE rtT)
theorem tD {s:Sch}(h:SchP s) (q:aTk s≤400000000):b9 Tryz.prog 73 [.pa (fH s)] [] (Go.AM.T (vW s)) []:=by
 have r:3000000000≤maxLen:=by decide
 unfold aTk at q;have h1:=aFa s.preds h.p h.l (by omega);have h2:=aDb s.ty h.t (by omega);have u:=aPn h.p;have y:=aBx h.t;refine bP (n:=10) tok Tryz.func73 rfl rfl rfl ?_;refine sg rfl (sk 2 rfl (kc h1 ?_));refine ak 2 [] rfl (kc h2 ?_);exact kz 2 rfl (aE rtT)
def aN5 (l:List Str):Str:=if l=[] then [123,32,125] else [123,32]++Lib.join l [32,59,32]++[32,125]
theorem aDf (l:List Str) (hl:l.length≤1000000) (y:(Lib.join l [32,59,32]).length≤2000000000):b9 Tryz.prog 72 [cJ l] [] (Go.AM.T (aN5 l)) []:=by
 unfold aN5;have B:3000000000≤maxLen:=by decide
 have r:(l.map b7).length=l.length:=η _;have hj:=aJq l [32,59,32] (by omega) (by omega);refine bP (n:=10) tok Tryz.func72 rfl rfl rfl ?_;refine sg rfl (aA (sg rfl ?_));rw[r];by_cases q:l=[]
 ·have d:decide ((l.length:Int)=0)=true:=φ (by rw[q];rfl);rw[ζ q];exact aB rfl (fun _=>sg rfl (aE rtT)) (fun hb=>Bool.noConfusion (hb.symm.trans d))
 ·have u:0<l.length:=C6.2 q;have d:decide ((l.length:Int)=0)=false:=ψ (by omega);rw[ξ q];refine aB rfl (fun hb=>Bool.noConfusion (hb.symm.trans d)) (fun _=>aD (sk 1 rfl (kc hj ?_)));exact kz 3 rfl (aE rtT)
def aEy (a:Int) (ps:List Pt) (ks:List Ex):List (Nat×AObj):=[(7,.var 61 [.c (.int .i64 7),.c (.int .i64 a),.c (.int .i64 0),.c (.str []),.hs 520 0 ks.length ks.length,.hs 521 0 ps.length ps.length,.c .nl,.c .nl,.c .nl,.c .nl,.c (.int .i64 0),.c (.int .i64 0),.c (.str []),.c .nl,.c .nl]),(520,.arr 61 15 (ks.map bU) 0),(521,.arr 49 10 (ps.map bL) 0)]
def yX (ex:Nat→Z→Ex×Z) (deep:Nat) (s:List Pt×List Ex) (z:Z):(List Pt×List Ex)×Z:=
 ((s.1++[(gD (3*z.R.length+1) 0 z).1],s.2++[(ex (deep+1) (aQ arrow (gD (3*z.R.length+1) 0 z).2)).1]),(ex (deep+1) (aQ arrow (gD (3*z.R.length+1) 0 z).2)).2)
theorem aKr (ex:Nat→Z→Ex×Z) (deep:Nat):∀(f n:Nat) (ps:List Pt) (ks:List Ex) (z:Z),eW ex deep f n ps ks z=lpZ aV (yX ex deep) f n (ps,ks) z
 | 0,_,_,_,_=>rfl
 | f+1,n,ps,ks,z=>by
  rw[eW,lpZ];split
  ·exact aKr ex deep f _ _ _ _
  ·rfl
theorem aQ8 {s:Str}{z:Z}(h:(aQ s z).e=0):aQ s z=tlZ z∧¬(b6 z).kind=6∧z.e=0:=by
 have he:=aX h;unfold aQ at h ⊢;rw[aRc he] at h ⊢;by_cases hi:isZ s z=true
 ·rw[ζ hi,ζ rfl];exact⟨rfl,k9 hi,he⟩
 ·rw[ξ hi,ξ ω] at h;exact(gH (by decide) h).elim
theorem aSd (a:Int) (deep:Nat) {step:(List Pt×List Ex)→Z→(List Pt×List Ex)×Z}{Inv:Nat→(List Pt×List Ex)→Prop}{L:List Tk}{N:Nat}
  (hone:∀n s z,Inv n s→n<60→ZA L z→z.e=0→z.R.length≤N→bF Tryz.prog 243 ([]++[R.vp 7 0,R.vp 3 0,R.vp 5 0].map V.one) ((600,rO L z)::(3,pR)::(5,dO deep)::aEy a s.1 s.2) (gT L (.tup []) (step s z).2 ((3,pR)::(5,dO deep)::aEy a (step s z).1.1 (step s z).1.2)))
  (hst:∀n s z,Inv n s→n<60→ZA L z→z.e=0→ZA L (step s z).2∧Inv (n+1) (step s z).1∧((step s z).2.e=0→(step s z).2.R.length<z.R.length)∧Ze z (step s z).2)
  {z:Z} (h:ZA L z) (he:z.e=0) (hN:z.R.length≤N) {s:(List Pt×List Ex)} (hI:Inv 0 s):
  bF Tryz.prog 83 [rP,.one (.clo 184 [R.vp 2 0]),.one (.clo 243 [R.vp 7 0,R.vp 3 0,R.vp 5 0])] ((600,rO L z)::(2,pR)::(3,pR)::(5,dO deep)::aEy a s.1 s.2) (gT L (.tup []) (lpZ aV step (z.R.length+1) 0 s z).2 ((2,pR)::(3,pR)::(5,dO deep)::aEy a (lpZ aV step (z.R.length+1) 0 s z).1.1 (lpZ aV step (z.R.length+1) 0 s z).1.2)):=by
 have r:∃W,W=lpZ aV step (z.R.length+1) 0 s z:=⟨_,rfl⟩
 obtain⟨W,r⟩:=r;rw[←r];refine nT (n:=35) tok Tryz.func83 rfl rfl rfl rfl ?_;refine sg rfl (aF (aK (fun q:Nat×(List Pt×List Ex)×Z×Nat=>mk [(0,rP),(1,.one (.clo 184 [R.vp 2 0])),(2,.one (.clo 243 [R.vp 7 0,R.vp 3 0,R.vp 5 0])),(6,I .i64 (q.1:Nat))] ((600,rO L q.2.2.1)::(2,pR)::(3,pR)::(5,dO deep)::aEy a q.2.1.1 q.2.1.2)) (fun q=>Inv q.1 q.2.1∧q.1≤60∧ZA L q.2.2.1∧q.2.2.1.e=0∧q.2.2.1.R.length≤N∧q.2.2.1.R.length<q.2.2.2∧moreA aV q.1 q.2.2.1=q.2.2.1∧W=lpZ aV step q.2.2.2 q.1 q.2.1 q.2.2.1) (fun q=>q.2.2.1.R.length) (0,s,z,z.R.length+1) ⟨hI,ε _,h,he,hN,Bt _,rC _ _,r⟩ sl ?_));clear r h he hN hI;rintro⟨n,s,z,f⟩ ⟨hI,hn,h,he,hN,hf,hA,r⟩;dsimp only at hI hn h he hN hf hA r;refine aF (aA (aF (aK (fun y:Z=>mk [(0,rP),(1,.one (.clo 184 [R.vp 2 0])),(2,.one (.clo 243 [R.vp 7 0,R.vp 3 0,R.vp 5 0])),(6,I .i64 (n:Nat))] ((600,rO L y)::(2,pR)::(3,pR)::(5,dO deep)::aEy a s.1 s.2)) (fun y=>ZA L y∧y.e=0∧cL z=cL y∧y.R.length≤z.R.length) (fun y=>y.R.length) z ⟨h,he,rfl,le_refl _⟩ sl ?_)));rintro y ⟨h2,B,e2,hle2⟩

 have hm:=fJ h2 B bN;obtain⟨m1,m2,m3⟩:=mE h2;have O:=h2.may bN;have he3:=(iW bN y).trans B;generalize bT bN y=m at hm m1 m2 m3 O he3;obtain⟨b,z3⟩:=m;dsimp only at m1 m2 m3 O he3;refine aA (sk 1 rfl (kc hm ?_));refine az (aB rfl (fun hb=>?_) (fun hb=>?_))
 ·have hb:b=true:=hb;have:=m3 hb;exact aD (aF (aD ⟨z3,⟨O,he3,e2.trans m1.symm,by omega⟩,m3 hb,sl⟩))
 have hb:b=false:=hb;obtain⟨g1,g2⟩:=m2 hb;subst g1;have e3:cL z=z3:=e2.trans g2;clear m1 m2 m3 O e2 hm;have hf0:∃g,f=g+1:=⟨f-1,by omega⟩
 obtain⟨f,rfl⟩:=hf0;rw[lpZ] at r;unfold aW at r;rw[hA,e3] at r;have hs3:=pN h2;have hn3:=dY h2;refine aH (aA (sk 1 rfl (kv (args:=[]) hs3 ?_)));refine az (aB rfl (fun hb=>?_) (fun hb=>?_))
 ·have hb:cK aV z3=true:=hb;rw[ζ (show ¬z3.e=0∨cK aV z3=true from .inr hb)] at r;rw[ξ ω] at r;rw[r,bB B];exact aE rtN
 have hb:cK aV z3=false:=hb;have hnb:¬(¬z3.e=0∨cK aV z3=true):=fun k=>k.elim (fun k=>k B) fun k=>by rw[hb] at k;cases k
 rw[ξ hnb] at r;refine aD ?_;by_cases hn60:n<60
 case neg=>
  have d:decide (((n:Nat):Int)<60)=false:=ψ (by omega);rw[gF (by omega) B] at r;dsimp only at r;rw[ψ cQ,ξ ω] at r;rw[r,aI cQ];have hmn:=bQ 2 (b6 z3).pl;refine sk 5 rfl (kc hn3 ?_);refine ak 1 [] rfl ?_;rw[d];exact kp hmn
 have d:decide (((n:Nat):Int)<60)=true:=φ (by omega);rw[gE (by omega),φ B,ζ rfl] at r;have hmo:=bO 2 (b6 z3).pl;refine sk 5 rfl (kc hn3 ?_);refine ak 1 [] rfl ?_;rw[d];refine kc hmo ?_;refine az ?_;have ho:=hone n s z3 hI hn60 h2 B (by omega);obtain⟨E,k2,k3,_⟩:=hst n s z3 hI hn60 h2 B;generalize step s z3=y at ho E k2 k3 r;obtain⟨s4,z4⟩:=y;dsimp only at ho E k2 k3 r;by_cases u:z4.e=0
 case neg=>
  have hp:=bF.err ho u;rw[gL u] at r;rw[r,aI u];exact sk 1 rfl (kpv (args:=[]) hp)
 have ho:=bF.ok ho u;have k3:=k3 u;refine sk 1 rfl (kv (args:=[]) ho ?_);refine az (aA (agN [] rfl ?_));have hlp:=E.lp;have J:=n3 E bN;have hn4:=dY E;have U:=pN E;have hmo4:=bO 12 (b6 z4).pl;cases Y:isZ bN z4 with
 | true=>
  rw[Y] at J;have M:moreA aV (n+1) z4=z4:=ξ fun k=>by rw[Y] at k;cases k.2.2.1
  refine aC mixed (ak 1 [] rfl (kc J ?_));refine ak 7 [(2,.bv true),(5,.bv true)] rfl (kc hn4 ?_);refine ak 1 [(2,.bv true),(5,.bv true)] rfl (kc hmo4 ?_);exact az ⟨(n+1,s4,z4,f),⟨k2,by omega,E,u,by dsimp only;omega,by dsimp only;omega,M,r⟩,by dsimp only;omega,sl⟩
 | false=>
  rw[Y] at J;cases aa:cK aV z4 with
  | true=>
   rw[aa] at U;have M:moreA aV (n+1) z4=z4:=ξ fun k=>by rw[aa] at k;cases k.2.2.2
   refine aC mixed (ak 1 [] rfl (kc J ?_));refine ak 2 [(2,.bv false)] rfl (kvG (args:=[]) U ?_);refine ak 4 [(2,.bv false),(5,.bv false)] rfl (kc hn4 ?_);refine ak 1 [(2,.bv false),(5,.bv false)] rfl (kc hmo4 ?_);exact az ⟨(n+1,s4,z4,f),⟨k2,by omega,E,u,by dsimp only;omega,by dsimp only;omega,M,r⟩,by dsimp only;omega,sl⟩
  | false=>
   rw[aa] at U;have hmn4:=bQ 12 (b6 z4).pl;have M:moreA aV (n+1) z4=⟨z4.R,12,(b6 z4).pl⟩:=(ζ ⟨succ_pos n,u,Y,aa⟩).trans (ζ u);have h12:¬(12:Int)=0:=by decide
   have hWb:W.2=⟨z4.R,12,(b6 z4).pl⟩:=by
    obtain⟨f,rfl⟩:∃g,f=g+1:=⟨f-1,by omega⟩
    rw[lpZ] at r;unfold aW at r;rw[M,mK h12,ζ (show ¬(Z.mk z4.R 12 (b6 z4).pl).e=0∨_ from .inl h12),ξ ω] at r;rw[r]
   rw[hWb,aI h12];refine aC mixed (ak 1 [] rfl (kc J ?_));refine ak 2 [(2,.bv false)] rfl (kvG (args:=[]) U ?_);refine ak 4 [(2,.bv false),(5,.bv false)] rfl (kc hn4 ?_);refine ak 1 [(2,.bv false),(5,.bv false)] rfl (kpD (.tup []) [] hmn4 ?_);exact az trivial
theorem aNu (a:Int) (deep:Nat) {step:(List Pt×List Ex)→Z→(List Pt×List Ex)×Z}{Inv:Nat→(List Pt×List Ex)→Prop}{L:List Tk}{N:Nat}
  (J:∀n s z,Inv n s→n<60→ZA L z→z.e=0→z.R.length≤N→bF Tryz.prog 243 ([]++[R.vp 7 0,R.vp 3 0,R.vp 5 0].map V.one) ((600,rO L z)::(3,pR)::(5,dO deep)::aEy a s.1 s.2) (gT L (.tup []) (step s z).2 ((3,pR)::(5,dO deep)::aEy a (step s z).1.1 (step s z).1.2)))
  (I:∀n s z,Inv n s→n<60→ZA L z→z.e=0→ZA L (step s z).2∧Inv (n+1) (step s z).1∧((step s z).2.e=0→(step s z).2.R.length<z.R.length)∧Ze z (step s z).2)
  {z:Z} (h:ZA L z) (he:z.e=0) (Y:z.R.length≤N) {s:(List Pt×List Ex)} (M:Inv 0 s):
  bF Tryz.prog 142 [rP,.one (.clo 243 [R.vp 7 0,R.vp 3 0,R.vp 5 0])] ((600,rO L z)::(3,pR)::(5,dO deep)::aEy a s.1 s.2) (gT L (.tup []) (vN step s z).2 ((3,pR)::(5,dO deep)::aEy a (vN step s z).1.1 (vN step s z).1.2)):=by
 have q:=dG h he cY;have h1:=h.need cY;have O:=Ze.need cY z;unfold vN;generalize aQ cY z=E at q h1 O ⊢;have U:E.R.length≤z.R.length:=O;refine nT (n:=12) tok Tryz.func142 rfl rfl rfl rfl ?_;refine sg rfl ?_;by_cases r:E.e=0
 case neg=>
  have hp:=bF.err q r;rw[gL r];dsimp only;rw[bJ r,aI r];exact sk 1 rfl (kp hp)
 have q:=bF.ok q r;refine sk 1 rfl (kc q ?_);refine az ?_;have u:=aSd a deep (step:=step) (Inv:=Inv) (L:=L) (N:=N) J I h1 r (by omega) M;have hok:=(uD (sh:=aV) I (E.R.length+1) 0 s E (ε _) M h1).1
 generalize lpZ aV step (E.R.length+1) 0 s E=W at u hok ⊢;obtain⟨s2,z2⟩:=W;dsimp only at u hok ⊢;by_cases y:z2.e=0
 case neg=>
  have hp:=bF.err u y;rw[bJ y,aI y];exact sk 3 rfl (kp hp)
 have u:=bF.ok u y;refine sk 3 rfl (kc u ?_);refine az ?_;have q:=dG hok y aV;generalize aQ aV z2=z3 at q ⊢;by_cases B:z3.e=0
 case neg=>
  have hp:=bF.err q B;rw[aI B];exact aC mixed (ak 1 [] rfl (kp hp))
 have q:=bF.ok q B;rw[bB B];refine aC mixed (ak 1 [] rfl (kc q ?_));exact az rtN
section
variable {L:List Tk}{ex:Nat→Z→Ex×Z}{N:Nat}(hB:vG ex) (hS:aQa L ex N) (hNm:aOp L)
include hB hS hNm
theorem aSo (a:Int) (ps:List Pt) (ks:List Ex) (deep:Nat) {z:Z}(h:ZA L z) (he:z.e=0) (hN:z.R.length≤N) (hd:deep≤40) (h1:ps.length≤4001) (h2:ks.length≤4001):
  bF Tryz.prog 243 ([]++[R.vp 7 0,R.vp 3 0,R.vp 5 0].map V.one) ((600,rO L z)::(3,pR)::(5,dO deep)::aEy a ps ks) (gT L (.tup []) (yX ex deep (ps,ks) z).2 ((3,pR)::(5,dO deep)::aEy a (yX ex deep (ps,ks) z).1.1 (yX ex deep (ps,ks) z).1.2)):=by
 have M:(ps.map bL).length=ps.length:=η _;have O:(ks.map bU).length=ks.length:=η _;have Y:(ps.map bL++[(bL zPt)])[ps.length]?=some (bL zPt):=by rw[A8 (by omega),M,Cg];rfl
 have aa:(ks.map bU++[(bU zEx)])[ks.length]?=some (bU zEx):=by rw[A8 (by omega),O,Cg];rfl
 have hp:=(aZa L hNm (3*z.R.length+1)).2 _ (le_refl _) 0 z h he (le_refl _) (by omega);obtain⟨g1,_,_,g4⟩:=(jW L (3*z.R.length+1)).2.1 0 z h;unfold yX;dsimp only;generalize gD (3*z.R.length+1) 0 z=y at hp g1 g4 ⊢;obtain⟨q,I⟩:=y;dsimp only at hp g1 g4 ⊢;have g4:I.R.length≤z.R.length:=g4;refine nT (n:=25) tok Tryz.func243 rfl rfl rfl rfl ?_;by_cases u:I.e=0
 case neg=>
  have hp:=bF.err hp u;rw[bJ u,hB _ _ u,aI u];refine sk 3 rfl (kpD (.pa (bL zPt)) [(600,rO L z)] hp ?_);exact ak 7 [(5,.all),(8,.row ps.length (bL zPt))] rfl (az trivial)
 have hp:=bF.ok hp u;have r:(ps.map bL++[(bL zPt)]).set ps.length (bL q)=(ps++[q]).map bL:=by
  rw[set_append_right _ _ (by omega),M,Cg,Al];rfl
 have hle:(ps++[q]).length=ps.length+1:=by rw[θ];rfl
 refine sk 3 rfl (kc hp ?_);refine ak 7 [(5,.all),(8,.row ps.length (bL zPt))] rfl (az ?_);generalize ps++[q]=P at r hle ⊢;refine AWp.sub (st2:=mk [(0,.one (.vp 7 0)),(1,.one (.vp 3 0)),(2,.one (.vp 5 0))] ((600,rO L I)::(3,pR)::(5,dO deep)::aEy a P ks)) (sl (hh:=⟨⟨_,rfl,.var rfl⟩,⟨_,rfl,.var rfl⟩,⟨_,rfl,.var rfl⟩,⟨_,rfl,.var (by rw[hle,←M];rfl)⟩,⟨_,rfl,Go.AM.Ole.arr⟩,⟨_,rfl,.arrS r⟩,trivial⟩)) ?_;have B:=dG g1 u arrow;have g2:=g1.need arrow;have U:(aQ arrow I).R.length≤I.R.length:=Ze.need arrow I;generalize aQ arrow I=z2 at B g2 U ⊢;by_cases E:z2.e=0
 case neg=>
  have hp:=bF.err B E;rw[hB _ _ E,aI E];exact sk 1 rfl (kp hp)
 have B:=bF.ok B E;refine sk 1 rfl (kc B ?_);refine az ?_;have hx:=hS (deep+1) z2 g2 E (by omega) (by omega);generalize ex (deep+1) z2=y at hx ⊢;obtain⟨e,z3⟩:=y;dsimp only at hx ⊢;by_cases J:z3.e=0
 case neg=>
  have hp:=bF.err hx J;rw[aI J];refine aC mixed (akN 5 [] rfl (kpD (.pa (bU zEx)) [(600,rO L z2)] hp ?_));exact ak 7 [(7,.all),(10,.row ks.length (bU zEx))] rfl (az trivial)
 have hx:=bF.ok hx J;rw[bB J];have r:(ks.map bU++[(bU zEx)]).set ks.length (bU e)=(ks++[e]).map bU:=by
  rw[set_append_right _ _ (by omega),O,Cg,Al];rfl
 have hle:(ks++[e]).length=ks.length+1:=by rw[θ];rfl
 refine aC mixed (akN 5 [] rfl (kc hx ?_));refine ak 7 [(7,.all),(10,.row ks.length (bU zEx))] rfl (az ?_);generalize ks++[e]=K at r hle ⊢;exact rtN (ho:=⟨⟨_,rfl,.var rfl⟩,⟨_,rfl,.var rfl⟩,⟨_,rfl,.var rfl⟩,⟨_,rfl,.var (by rw[hle,←O];rfl)⟩,⟨_,rfl,.arrS r⟩,⟨_,rfl,Go.AM.Ole.arr⟩,trivial⟩)
theorem aSn (hO:ExO L ex) (a:Int) (deep:Nat) {z:Z}(h:ZA L z) (he:z.e=0) (hN:z.R.length≤N) (hd:deep≤40):bF Tryz.prog 225 [rP,I .i64 a,I .i64 (deep:Nat)] [(600,rO L z)] (gT L (.pa (bU (iL ex a deep z).1)) (iL ex a deep z).2 []):=by
 have hx:=hS (deep+1) z h he hN (by omega);obtain⟨g0,o0,_,m0⟩:=hO (deep+1) z h;unfold iL gJ dP;rw[aKr];dsimp only;generalize ex (deep+1) z=y at hx g0 o0 m0 ⊢;obtain⟨e0,z0⟩:=y;dsimp only at hx g0 o0 m0 ⊢;have m0:z0.R.length≤z.R.length:=m0;refine nT (n:=40) tok Tryz.func225 rfl rfl rfl rfl ?_;refine sg rfl ?_;by_cases q:z0.e=0
 case neg=>
  have hp:=bF.err hx q;rw[bJ q,bJ q,gL q];dsimp only;rw[bJ q,fW q];have hb:(if([]:List Pt)=[] then z0 else z0)=z0:=ζ rfl;rw[hb,aI q];exact aA (aC mixed (akN 4 [] rfl (kp hp)))
 have hx:=bF.ok hx q;refine aA (aC mixed (akN 4 [] rfl (kc hx ?_)));refine ak 4 [(5,.id 520)] rfl (az (AWp.sub (Sub.ownCell (x:=7) (k:=5) (id:=521) 49 10 rfl rfl rfl) ?_));have E:=dG g0 q ofS;have h1:=g0.need ofS;have l1:(aQ ofS z0).R.length≤z0.R.length:=Ze.need ofS z0;generalize aQ ofS z0=M at E h1 l1 ⊢;by_cases u:M.e=0
 case neg=>
  have hp:=bF.err E u;rw[bJ u,gL u];dsimp only;rw[bJ u,fW u];have hb:(if([]:List Pt)=[] then M else M)=M:=ζ rfl;rw[hb,aI u];exact sk 1 rfl (kp hp)
 have E:=bF.ok E u;refine sk 1 rfl (kc E ?_);refine az ?_;have hst:∀(n:Nat) (s:List Pt×List Ex) (z:Z),(wJ s.1∧pT s.2∧s.1.length=n∧s.2.length=n+1)→n<60→ZA L z→z.e=0→ZA L (yX ex deep s z).2∧(wJ (yX ex deep s z).1.1∧pT (yX ex deep s z).1.2∧(yX ex deep s z).1.1.length=n+1∧(yX ex deep s z).1.2.length=n+1+1)∧((yX ex deep s z).2.e=0→(yX ex deep s z).2.R.length<z.R.length)∧Ze z (yX ex deep s z).2:=fun n s z O hn h he=>by
  obtain⟨q1,q2,q3,q4⟩:=(jW L (3*z.R.length+1)).2.1 0 z h;obtain⟨m1,m2,m3,m4⟩:=hO (deep+1) _ (q1.need arrow);have l1:(aQ arrow (gD (3*z.R.length+1) 0 z).2).R.length≤(gD (3*z.R.length+1) 0 z).2.R.length:=Ze.need _ _;have q4':(gD (3*z.R.length+1) 0 z).2.R.length≤z.R.length:=q4;unfold yX;exact⟨m1,⟨qC O.1 q2,rR O.2.1 m2,by dsimp only;rw[θ,O.2.2.1];rfl,by dsimp only;rw[θ,O.2.2.2];rfl⟩,fun h0=>by have:=m3 h0;dsimp only;omega,(q4.trans (Ze.need _ _)).trans m4⟩
 have hI0:wJ ([]:List Pt)∧pT [e0]∧([]:List Pt).length=0∧[e0].length=0+1:=⟨trivial,⟨o0,trivial⟩,rfl,rfl⟩
 have r:=aNu a deep (step:=yX ex deep) (Inv:=fun n s=>wJ s.1∧pT s.2∧s.1.length=n∧s.2.length=n+1) (L:=L) (N:=N) (fun n s z O hn h he hN=>aSo hB hS hNm a s.1 s.2 deep h he hN hd (by have:=O.2.2.1;omega) (by have:=O.2.2.2;omega)) hst h1 u (by omega) (s:=([],[e0])) hI0;have hok:=uD (sh:=aV) (Inv:=fun n (s:List Pt×List Ex)=>wJ s.1∧pT s.2∧s.1.length=n∧s.2.length=n+1) hst ((aQ cY M).R.length+1) 0 ([],[e0]) (aQ cY M) (ε _) hI0 (h1.need cY);unfold vN at r;generalize aQ cY M=z2 at r hok ⊢;generalize lpZ aV (yX ex deep) (z2.R.length+1) 0 ([],[e0]) z2=W at r hok ⊢;obtain⟨⟨ps,ks⟩,J⟩:=W;dsimp only at r hok ⊢;obtain⟨gB,⟨m,hm60,hp,hk,hpl,hkl⟩,_⟩:=hok

 have hpe:(ps.map bL).length=ps.length:=η _;have hke:(ks.map bU).length=ks.length:=η _;have hne:= @aQ8 aV J;generalize aQ aV J=z3 at r hne ⊢;by_cases B:z3.e=0
 case neg=>
  have hp:=bF.err r B;rw[fW B];have hb:(if ps=[] then z3 else z3)=z3:=by split<;>rfl
  rw[hb,aI B];exact sk 2 rfl (kp hp)
 have r:=bF.ok r B;refine sk 2 rfl (kc r ?_);refine az ?_;obtain⟨e3,hk6,heB⟩:=hne B;subst e3;have Y:=aL5 gB hk6;have hLl:=gB.l;have hlt:=gB.lt;have hrow:=aT aG gB.now;unfold rO at Y;unfold rO;rw[Y];have hLk:(L.map aG).length=L.length:=η _;by_cases U:ps=[]
 ·have hmn:=bQ 12 (b6 J).pl;have d:decide ((0:Int)<((ps.length:Nat):Int))=false:=by subst U;rfl
  rw[ζ U];unfold bS;rw[ζ B,aI (show ¬(12:Int)=0 by decide)];refine aA (aC mixed (akN 15 [] rfl ?_));rw[Nat.add_sub_cancel];refine ak 3 [(15,.row (L.length-J.R.length) (aG (b6 J)))] rfl ?_;rw[d];refine kpD (.tup []) [] hmn ?_;exact az trivial
 have hmo:=bO 12 (b6 J).pl;have d:decide ((0:Int)<((ps.length:Nat):Int))=true:=φ (by have:=C6.2 U;omega);rw[ξ U,bB B];unfold rO;rw[Y];refine aA (aC mixed (akN 15 [] rfl ?_));rw[Nat.add_sub_cancel];refine ak 3 [(15,.row (L.length-J.R.length) (aG (b6 J)))] rfl ?_;rw[d];refine kc hmo ?_;refine az (AWp.sub (Sub.freeze (id:=520) rfl) ?_);refine AWp.sub (Sub.freeze (id:=521) rfl) ?_;refine sg rfl ?_;unfold bU;rw[mG (aM9 _ _ _)];exact aE (rtC trw (hc:=.agg (.c .refl (.c .refl (.c .refl (.c .refl (.hs rfl hke.symm (Go.AM.take_all hke.symm) (.hs rfl hpe.symm (Go.AM.take_all hpe.symm) (.c .nl (.c .nl (.c .nl (.c .nl (.c .refl (.c .refl (.c .refl (.c .nl (.c .nl .nil)))))))))))))))))
end
theorem v8 {ex:Nat→Z→Ex×Z}{deep:Nat}{a:Int}{f:Nat}{e:Ex}{z:Z}(h:¬z.e=0):dX ex deep a f e z=(e,z):=by
 cases f with
 | zero=>rfl
 | succ f=>rw[dX,ξ h]
theorem aAv {a:Int}{e:Ex}{z:Z}(h:¬z.e=0):s8 a (e,z)=(e,z):=by
 unfold s8;dsimp only;rw[lU h,ξ ω]
section
variable {L:List Tk}{ex:Nat→Z→Ex×Z}{N:Nat}(hO:ExO L ex) (hB:vG ex) (hS:aQa L ex N) (hZ:pO L) (hNm:aOp L) (hwt:wt L≤30000)
include hO hB hS hZ hNm hwt
theorem aW1 (deep:Nat) {z:Z}(h:ZA L z) (he:z.e=0) (hN:z.R.length≤N+1) (hd:deep≤41):bF Tryz.prog 187 [rP,I .i64 (deep:Nat)] [(600,rO L z)] (gT L (.pa (bU (rN ex deep z).1)) (rN ex deep z).2 []):=by
 have hn:=dY h;unfold rN;rw[ξ (fun k=>k he)];refine nT (n:=77) tok Tryz.func187 rfl rfl rfl rfl ?_;refine sg rfl (sk 3 rfl (kc hn ?_));refine kz 2 rfl ?_;by_cases hd40:40<deep
 ·have d:decide (((deep:Nat):Int)≤40)=false:=ψ (by omega);have hmn:=bQ 13 (b6 z).pl;rw[ζ hd40];unfold bS;rw[ζ he,aI (show ¬(13:Int)=0 by decide)];refine sk 4 rfl ?_;rw[d];exact kp hmn
 have d:decide (((deep:Nat):Int)≤40)=true:=φ (by omega);have hmo:=bO 13 (b6 z).pl;rw[ξ hd40];refine sk 4 rfl ?_;rw[d];refine kc hmo ?_;refine az ?_;have u:=fJ h he sX;have B:=fG (s:=sX) h;have E:=h.may sX;have J:= @j5 sX z;have M:=(iW sX z).trans he;have r:=fun e=>aWw hB hS (b6 z).pl deep E M (by have:=B e;omega) (by omega)
 generalize bT sX z=m at u B E J M r ⊢;obtain⟨b,z1⟩:=m;dsimp only at u B E J M r ⊢;refine aA (aF (sk 1 rfl (kc u ?_)));refine kz 1 rfl ?_;cases b with
 | true=>
  rw[ζ rfl];have r:=r rfl;generalize sW ex (b6 z).pl deep z1=y at r ⊢;obtain⟨e,z2⟩:=y;dsimp only at r ⊢;refine aB rfl (fun _=>?_) (fun hb=>Bool.noConfusion hb);by_cases O:z2.e=0
  case neg=>
   have hp:=bF.err r O;rw[aI O];exact sk 4 rfl (kp hp)
  have r:=bF.ok r O;rw[bB O];refine sk 4 rfl (kc r ?_);exact kz 1 rfl (aE (rtC trw))
 | false=>
 obtain rfl:=J rfl;rw[ξ ω];clear u B E r J M;refine aB rfl (fun hb=>Bool.noConfusion hb) (fun _=>?_);have u:=fJ h he sD;have B:=fG (s:=sD) h;have E:=h.may sD;have J:= @j5 sD z1;have M:=(iW sD z1).trans he;have r:=fun e=>aWt hB hS hZ hwt hO (b6 z1).pl deep E M (by have:=B e;omega) (by omega)
 generalize bT sD z1=m at u B E J M r ⊢;obtain⟨b,z2⟩:=m;dsimp only at u B E J M r ⊢;refine sk 1 rfl (kc u ?_);refine kz 1 rfl ?_;cases b with
 | true=>
  rw[ζ rfl];have r:=r rfl;generalize sV ex (b6 z1).pl deep z2=y at r ⊢;obtain⟨e,z3⟩:=y;dsimp only at r ⊢;refine aB rfl (fun _=>?_) (fun hb=>Bool.noConfusion hb);by_cases O:z3.e=0
  case neg=>
   have hp:=bF.err r O;rw[aI O];exact sk 4 rfl (kp hp)
  have r:=bF.ok r O;rw[bB O];refine sk 4 rfl (kc r ?_);exact kz 1 rfl (aE (rtC trw))
 | false=>
 obtain rfl:=J rfl;rw[ξ ω];clear u B E r J M;refine aB rfl (fun hb=>Bool.noConfusion hb) (fun _=>?_);have u:=fJ h he fE;have B:=fG (s:=fE) h;have E:=h.may fE;have J:= @j5 fE z2;have M:=(iW fE z2).trans he;have r:=fun e=>aSn hB hS hNm hO (b6 z2).pl deep E M (by have:=B e;omega) (by omega)
 generalize bT fE z2=m at u B E J M r ⊢;obtain⟨b,z3⟩:=m;dsimp only at u B E J M r ⊢;refine sk 1 rfl (kc u ?_);refine kz 1 rfl ?_;cases b with
 | true=>
  rw[ζ rfl];have r:=r rfl;generalize iL ex (b6 z2).pl deep z3=y at r ⊢;obtain⟨e,z4⟩:=y;dsimp only at r ⊢;refine aB rfl (fun _=>?_) (fun hb=>Bool.noConfusion hb);by_cases O:z4.e=0
  case neg=>
   have hp:=bF.err r O;rw[aI O];exact sk 4 rfl (kp hp)
  have r:=bF.ok r O;rw[bB O];refine sk 4 rfl (kc r ?_);exact kz 1 rfl (aE (rtC trw))
 | false=>
 obtain rfl:=J rfl;rw[ξ ω];clear u B E r J M;refine aB rfl (fun hb=>Bool.noConfusion hb) (fun _=>aD ?_);have U:=aJp hO hS deep h he hN (by omega);obtain⟨o1,_,o3,o4⟩:=n9 hO deep h;have hlz:=h.lp;generalize hT:b6 z3=t at hn ⊢;unfold eP;rw[hT];generalize fT ex deep z3=y at U o1 o3 o4 ⊢;obtain⟨⟨e0,b0⟩,z4⟩:=y;dsimp only at U o1 o3 o4 ⊢;have o4:z4.R.length≤z3.R.length:=o4;by_cases Y:z4.e=0
 case neg=>
  have hp:=bF.err U Y;rw[fW Y];have hb:(if b0=false then z4 else z4)=z4:=by split<;>rfl
  rw[hb,v8 Y,aAv Y,aI Y];exact sk 2 rfl (kp hp)
 have U:=bF.ok U Y;refine sk 2 rfl (kc U ?_);refine kz 6 rfl ?_;cases b0 with
 | false=>
  have hmn:=bQ 12 t.pl;have h12:¬(12:Int)=0:=by decide
  rw[ζ rfl];unfold bS;rw[ζ Y,v8 (show ¬(Z.mk z4.R 12 t.pl).e=0 from h12),aAv (show ¬(Z.mk z4.R 12 t.pl).e=0 from h12),aI (show ¬(Z.mk z4.R 12 t.pl).e=0 from h12)];exact sk 3 rfl (kp hmn)
 | true=>
 have hmo:=bO 12 t.pl;have o3:=o3 rfl Y;rw[ξ (show ¬(true=false) from fun k=>Bool.noConfusion k)];refine sk 3 rfl (kc hmo ?_);refine az ?_;have hWx:∃W,W=dX ex deep t.pl (z3.R.length+1) e0 z4:=⟨_,rfl⟩
 obtain⟨W,hW⟩:=hWx;rw[←hW];refine aA (aF (aK (fun q:Ex×Z×Nat=>mk [(0,rP),(1,I .i64 (deep:Nat)),(4,.one (.vp 4 0)),(5,.one (.vp 5 0)),(6,.one (.vp 6 0))] [(600,rO L q.2.1),(4,.var 61 (aK4.map .c)),(5,.var 139 ((aG t).map .c)),(6,.var 61 ((bU q.1).map .c))]) (fun q=>ZA L q.2.1∧q.2.1.e=0∧q.2.1.R.length≤z3.R.length∧q.2.1.R.length<q.2.2∧W=dX ex deep t.pl q.2.2 q.1 q.2.1) (fun q=>q.2.1.R.length+1) (e0,z4,z3.R.length+1) ⟨o1,Y,o4,by dsimp only;omega,hW⟩ sl ?_));clear hW U o1 o3 o4 Y;rintro⟨e,z6,f⟩ ⟨h6,he6,l6,hf,hW⟩;dsimp only at h6 he6 l6 hf hW ⊢;obtain⟨f,rfl⟩:∃g,f=g+1:=⟨f-1,by omega⟩
 rw[dX,ζ he6] at hW;have U:=aJp hO hS deep h6 he6 (by omega) (by omega);obtain⟨o1,_,o3,o4⟩:=n9 hO deep h6;generalize fT ex deep z6=y at U o1 o3 o4 hW;obtain⟨⟨a,b⟩,z7⟩:=y;dsimp only at U o1 o3 o4 hW;have o4:z7.R.length≤z6.R.length:=o4;by_cases he7:z7.e=0
 case neg=>
  have hp:=bF.err U he7;have hw:∃e,W=(e,z7):=by
   rw[v8 he7] at hW;rw[hW];split<;>exact⟨_,rfl⟩
  obtain⟨e,hw⟩:=hw;rw[hw,aAv he7,aI he7];exact aF (sk 2 rfl (kp hp))
 have U:=bF.ok U he7;refine aF (sk 2 rfl (kc U ?_));refine kz 6 rfl (aA (sg rfl ?_));cases b with
 | false=>
  rw[ζ rfl] at hW;refine aB rfl (fun _=>aH ?_) (fun hb=>Bool.noConfusion hb);subst hW;have hm:=fJ o1 he7 dR;have g2:=o1.may dR;have he8:=(iW dR z7).trans he7;unfold s8;dsimp only;generalize bT dR z7=m at hm g2 he8 ⊢;obtain⟨b,z8⟩:=m;dsimp only at hm g2 he8 ⊢;refine aA (sk 1 rfl (kc hm ?_));refine az ?_;cases b with
  | true=>
   rw[ζ rfl];have hsc:=mI g2 he8 hZ hwt;generalize bK z8=y at hsc ⊢;obtain⟨s,z9⟩:=y;dsimp only at hsc ⊢;refine aB rfl (fun _=>?_) (fun hb=>Bool.noConfusion hb);by_cases he9:z9.e=0
   case neg=>
    have hp:=bF.err hsc he9;rw[aI he9];refine skh 5 [(3,.all)] rfl (kpD (.pa (fH lX)) [(600,rO L z8)] hp ?_);exact kz 2 rfl trivial
   have hsc:=bF.ok hsc he9;rw[bB he9];refine skh 5 [(3,.all)] rfl (kc hsc ?_);exact kz 2 rfl (aE (rtC trw))
  | false=>
   rw[ξ ω];dsimp only;rw[bB he8];exact aB rfl (fun hb=>Bool.noConfusion hb) (fun _=>aD (sg rfl (aE (rtC trw))))
 | true=>
  rw[ξ (show ¬(true=false) from fun k=>Bool.noConfusion k)] at hW;have o3:=o3 rfl he7;refine aB rfl (fun hb=>Bool.noConfusion hb) (fun _=>aD (ag [(4,.all)] rfl ⟨(aP5 t.pl e a,z7,f),⟨o1,he7,by dsimp only;omega,by dsimp only;omega,hW⟩,by dsimp only;omega,Sub.trans ?_ (vp 6 (bU (aP5 t.pl e a)))⟩));exact sl
end
theorem aRp {L:List Tk}(hwt:wt L≤30000) (hZ:pO L) (hNm:aOp L):∀f,aQa L (fV f) f
 | 0=>fun deep z h _ q _=>by have:=h.lp;omega
 | f+1=>fun deep z h he q hd=>aW1 (lM hwt f) (uP f) (aRp hwt hZ hNm f) hZ hNm hwt deep h he q hd
def aEw (x:In) (bs:List Bd):List (Nat×AObj):=[(1,pR),(5,.var 95 [.c (.str x.cls),.c (.int .i64 x.pl),.c (.str x.con),.c (.sl 1 (x.vars.map b7)),.c (.sl 5 (x.preds.map aN)),.hs 511 0 bs.length bs.length]),(511,bdA bs 0)]
def ibS (ex:Nat→Z→Ex×Z) (s:List Bd) (z:Z):List Bd×Z:=(s++[(cP ex (aS 1 z).1 0 (aS 1 z).2).1],(cP ex (aS 1 z).1 0 (aS 1 z).2).2)
theorem rK (ex:Nat→Z→Ex×Z):∀(f n:Nat) (s:List Bd) (z:Z),cM ex f n s z=lpZ aV (ibS ex) f n s z
 | 0,_,_,_=>rfl
 | f+1,n,s,z=>by
  rw[cM,lpZ];split
  ·exact rK ex f _ _ _
  ·rfl
theorem oE {a:Int}:∀{l:List Prd}{z:Z},¬z.e=0→dJ a l z=z
 | [],z,_=>rfl
 | p::l,z,h=>by rw[dJ,ξ (fun k=>h k.1)];exact oE h
theorem jN {b:Bool}{z:Z}(h:¬z.e=0):(instV b z).2=z:=by
 unfold instV;split
 ·rw[lT h];exact bJ h
 ·rfl
theorem oD {ex:Nat→Z→Ex×Z}{y:List Prd×Tk×Bool×Tk×Z}{w:List Str×Z}(h:¬w.2.e=0):aQ aV (rJ ex (nS y w)).2=w.2:=by
 unfold nS rJ;rw[ξ h,oE h,bJ h,rK,gL h];exact bJ h
theorem aN9 {ex:Nat→Z→Ex×Z}(hB:vG ex) {nm:Tk}{deep:Nat}{z:Z}(h:¬z.e=0):(cP ex nm deep z).2=z:=by
 unfold cP iO;dsimp only;rw[lT h,eG h,bJ h];exact hB _ _ h
def yR:Prop:=∃(L:List Tk) (z z2:Z) (t:Tk) (b:Bd),b9 Tryz.prog 148 [rP,tkV t,I .i64 0] [(600,rO L z)] (.pa (b8 b)) [(600,rO L z2)]
theorem aSb (x:In) {step:(List Bd)→Z→(List Bd)×Z}{Inv:Nat→(List Bd)→Prop}{L:List Tk}{N:Nat}
  (hone:∀n s z,Inv n s→n<60→ZA L z→z.e=0→z.R.length≤N→bF Tryz.prog 147 ([]++[R.vp 5 0,R.vp 1 0].map V.one) ((600,rO L z)::aEw x s) (gT L (.tup []) (step s z).2 (aEw x (step s z).1)))
  (hst:∀n s z,Inv n s→n<60→ZA L z→z.e=0→ZA L (step s z).2∧Inv (n+1) (step s z).1∧((step s z).2.e=0→(step s z).2.R.length<z.R.length)∧Ze z (step s z).2)
  {z:Z} (h:ZA L z) (he:z.e=0) (hN:z.R.length≤N) {s:(List Bd)} (hI:Inv 0 s):
  bF Tryz.prog 83 [rP,.one (.clo 184 [R.vp 2 0]),.one (.clo 147 [R.vp 5 0,R.vp 1 0])] ((600,rO L z)::(2,pR)::aEw x s) (gT L (.tup []) (lpZ aV step (z.R.length+1) 0 s z).2 ((2,pR)::aEw x (lpZ aV step (z.R.length+1) 0 s z).1)):=by
 have r:∃W,W=lpZ aV step (z.R.length+1) 0 s z:=⟨_,rfl⟩
 obtain⟨W,r⟩:=r;rw[←r];refine nT (n:=35) tok Tryz.func83 rfl rfl rfl rfl ?_;refine sg rfl (aF (aK (fun q:Nat×(List Bd)×Z×Nat=>mk [(0,rP),(1,.one (.clo 184 [R.vp 2 0])),(2,.one (.clo 147 [R.vp 5 0,R.vp 1 0])),(6,I .i64 (q.1:Nat))] ((600,rO L q.2.2.1)::(2,pR)::aEw x q.2.1)) (fun q=>Inv q.1 q.2.1∧q.1≤60∧ZA L q.2.2.1∧q.2.2.1.e=0∧q.2.2.1.R.length≤N∧q.2.2.1.R.length<q.2.2.2∧moreA aV q.1 q.2.2.1=q.2.2.1∧W=lpZ aV step q.2.2.2 q.1 q.2.1 q.2.2.1) (fun q=>q.2.2.1.R.length) (0,s,z,z.R.length+1) ⟨hI,ε _,h,he,hN,Bt _,rC _ _,r⟩ sl ?_));clear r h he hN hI;rintro⟨n,s,z,f⟩ ⟨hI,hn,h,he,hN,hf,hA,r⟩;dsimp only at hI hn h he hN hf hA r;refine aF (aA (aF (aK (fun y:Z=>mk [(0,rP),(1,.one (.clo 184 [R.vp 2 0])),(2,.one (.clo 147 [R.vp 5 0,R.vp 1 0])),(6,I .i64 (n:Nat))] ((600,rO L y)::(2,pR)::aEw x s)) (fun y=>ZA L y∧y.e=0∧cL z=cL y∧y.R.length≤z.R.length) (fun y=>y.R.length) z ⟨h,he,rfl,le_refl _⟩ sl ?_)));rintro y ⟨h2,B,e2,hle2⟩

 have hm:=fJ h2 B bN;obtain⟨m1,m2,m3⟩:=mE h2;have O:=h2.may bN;have he3:=(iW bN y).trans B;generalize bT bN y=m at hm m1 m2 m3 O he3;obtain⟨b,z3⟩:=m;dsimp only at m1 m2 m3 O he3;refine aA (sk 1 rfl (kc hm ?_));refine az (aB rfl (fun hb=>?_) (fun hb=>?_))
 ·have hb:b=true:=hb;have:=m3 hb;exact aD (aF (aD ⟨z3,⟨O,he3,e2.trans m1.symm,by omega⟩,m3 hb,sl⟩))
 have hb:b=false:=hb;obtain⟨g1,g2⟩:=m2 hb;subst g1;have e3:cL z=z3:=e2.trans g2;clear m1 m2 m3 O e2 hm;have hf0:∃g,f=g+1:=⟨f-1,by omega⟩
 obtain⟨f,rfl⟩:=hf0;rw[lpZ] at r;unfold aW at r;rw[hA,e3] at r;have hs3:=pN h2;have hn3:=dY h2;refine aH (aA (sk 1 rfl (kv (args:=[]) hs3 ?_)));refine az (aB rfl (fun hb=>?_) (fun hb=>?_))
 ·have hb:cK aV z3=true:=hb;rw[ζ (show ¬z3.e=0∨cK aV z3=true from .inr hb)] at r;rw[ξ ω] at r;rw[r,bB B];exact aE rtN
 have hb:cK aV z3=false:=hb;have hnb:¬(¬z3.e=0∨cK aV z3=true):=fun k=>k.elim (fun k=>k B) fun k=>by rw[hb] at k;cases k
 rw[ξ hnb] at r;refine aD ?_;by_cases hn60:n<60
 case neg=>
  have d:decide (((n:Nat):Int)<60)=false:=ψ (by omega);rw[gF (by omega) B] at r;dsimp only at r;rw[ψ cQ,ξ ω] at r;rw[r,aI cQ];have hmn:=bQ 2 (b6 z3).pl;refine sk 5 rfl (kc hn3 ?_);refine ak 1 [] rfl ?_;rw[d];exact kp hmn
 have d:decide (((n:Nat):Int)<60)=true:=φ (by omega);rw[gE (by omega),φ B,ζ rfl] at r;have hmo:=bO 2 (b6 z3).pl;refine sk 5 rfl (kc hn3 ?_);refine ak 1 [] rfl ?_;rw[d];refine kc hmo ?_;refine az ?_;have ho:=hone n s z3 hI hn60 h2 B (by omega);obtain⟨E,k2,k3,_⟩:=hst n s z3 hI hn60 h2 B;generalize step s z3=y at ho E k2 k3 r;obtain⟨s4,z4⟩:=y;dsimp only at ho E k2 k3 r;by_cases u:z4.e=0
 case neg=>
  have hp:=bF.err ho u;rw[gL u] at r;rw[r,aI u];exact sk 1 rfl (kpv (args:=[]) hp)
 have ho:=bF.ok ho u;have k3:=k3 u;refine sk 1 rfl (kv (args:=[]) ho ?_);refine az (aA (agN [] rfl ?_));have hlp:=E.lp;have J:=n3 E bN;have hn4:=dY E;have U:=pN E;have hmo4:=bO 12 (b6 z4).pl;cases Y:isZ bN z4 with
 | true=>
  rw[Y] at J;have M:moreA aV (n+1) z4=z4:=ξ fun k=>by rw[Y] at k;cases k.2.2.1
  refine aC mixed (ak 1 [] rfl (kc J ?_));refine ak 7 [(2,.bv true),(5,.bv true)] rfl (kc hn4 ?_);refine ak 1 [(2,.bv true),(5,.bv true)] rfl (kc hmo4 ?_);exact az ⟨(n+1,s4,z4,f),⟨k2,by omega,E,u,by dsimp only;omega,by dsimp only;omega,M,r⟩,by dsimp only;omega,sl⟩
 | false=>
  rw[Y] at J;cases aa:cK aV z4 with
  | true=>
   rw[aa] at U;have M:moreA aV (n+1) z4=z4:=ξ fun k=>by rw[aa] at k;cases k.2.2.2
   refine aC mixed (ak 1 [] rfl (kc J ?_));refine ak 2 [(2,.bv false)] rfl (kvG (args:=[]) U ?_);refine ak 4 [(2,.bv false),(5,.bv false)] rfl (kc hn4 ?_);refine ak 1 [(2,.bv false),(5,.bv false)] rfl (kc hmo4 ?_);exact az ⟨(n+1,s4,z4,f),⟨k2,by omega,E,u,by dsimp only;omega,by dsimp only;omega,M,r⟩,by dsimp only;omega,sl⟩
  | false=>
   rw[aa] at U;have hmn4:=bQ 12 (b6 z4).pl;have M:moreA aV (n+1) z4=⟨z4.R,12,(b6 z4).pl⟩:=(ζ ⟨succ_pos n,u,Y,aa⟩).trans (ζ u);have h12:¬(12:Int)=0:=by decide
   have hWb:W.2=⟨z4.R,12,(b6 z4).pl⟩:=by
    obtain⟨f,rfl⟩:∃g,f=g+1:=⟨f-1,by omega⟩
    rw[lpZ] at r;unfold aW at r;rw[M,mK h12,ζ (show ¬(Z.mk z4.R 12 (b6 z4).pl).e=0∨_ from .inl h12),ξ ω] at r;rw[r]
   rw[hWb,aI h12];refine aC mixed (ak 1 [] rfl (kc J ?_));refine ak 2 [(2,.bv false)] rfl (kvG (args:=[]) U ?_);refine ak 4 [(2,.bv false),(5,.bv false)] rfl (kc hn4 ?_);refine ak 1 [(2,.bv false),(5,.bv false)] rfl (kpD (.tup []) [] hmn4 ?_);exact az trivial
theorem aNt (x:In) {step:(List Bd)→Z→(List Bd)×Z}{Inv:Nat→(List Bd)→Prop}{L:List Tk}{N:Nat}
  (J:∀n s z,Inv n s→n<60→ZA L z→z.e=0→z.R.length≤N→bF Tryz.prog 147 ([]++[R.vp 5 0,R.vp 1 0].map V.one) ((600,rO L z)::aEw x s) (gT L (.tup []) (step s z).2 (aEw x (step s z).1)))
  (I:∀n s z,Inv n s→n<60→ZA L z→z.e=0→ZA L (step s z).2∧Inv (n+1) (step s z).1∧((step s z).2.e=0→(step s z).2.R.length<z.R.length)∧Ze z (step s z).2)
  {z:Z} (h:ZA L z) (he:z.e=0) (Y:z.R.length≤N) {s:(List Bd)} (M:Inv 0 s):
  bF Tryz.prog 142 [rP,.one (.clo 147 [R.vp 5 0,R.vp 1 0])] ((600,rO L z)::aEw x s) (gT L (.tup []) (vN step s z).2 (aEw x (vN step s z).1)):=by
 have q:=dG h he cY;have h1:=h.need cY;have O:=Ze.need cY z;unfold vN;generalize aQ cY z=E at q h1 O ⊢;have U:E.R.length≤z.R.length:=O;refine nT (n:=12) tok Tryz.func142 rfl rfl rfl rfl ?_;refine sg rfl ?_;by_cases r:E.e=0
 case neg=>
  have hp:=bF.err q r;rw[gL r];dsimp only;rw[bJ r,aI r];exact sk 1 rfl (kp hp)
 have q:=bF.ok q r;refine sk 1 rfl (kc q ?_);refine az ?_;have u:=aSb x (step:=step) (Inv:=Inv) (L:=L) (N:=N) J I h1 r (by omega) M;have hok:=(uD (sh:=aV) I (E.R.length+1) 0 s E (ε _) M h1).1
 generalize lpZ aV step (E.R.length+1) 0 s E=W at u hok ⊢;obtain⟨s2,z2⟩:=W;dsimp only at u hok ⊢;by_cases y:z2.e=0
 case neg=>
  have hp:=bF.err u y;rw[bJ y,aI y];exact sk 3 rfl (kp hp)
 have u:=bF.ok u y;refine sk 3 rfl (kc u ?_);refine az ?_;have q:=dG hok y aV;generalize aQ aV z2=z3 at q ⊢;by_cases B:z3.e=0
 case neg=>
  have hp:=bF.err q B;rw[aI B];exact aC mixed (ak 1 [] rfl (kp hp))
 have q:=bF.ok q B;rw[bB B];refine aC mixed (ak 1 [] rfl (kc q ?_));exact az rtN
section
variable {L:List Tk}{ex:Nat→Z→Ex×Z}{N:Nat}(hB:vG ex) (hS:aQa L ex N) (hX:yR)
include hB hS hX
theorem aSi (x:In) (bs:List Bd) {z:Z}(h:ZA L z) (he:z.e=0) (hN:z.R.length≤N) (h2:bs.length≤4001):
  bF Tryz.prog 147 ([]++[R.vp 5 0,R.vp 1 0].map V.one) ((600,rO L z)::aEw x bs) (gT L (.tup []) (ibS ex bs z).2 (aEw x (ibS ex bs z).1)):=by
 have E:(bs.map b8).length=bs.length:=η _;have aa:(bs.map b8++[b8 zBd])[bs.length]?=some (b8 zBd):=by rw[A8 (by omega),E,Cg];rfl
 have hw:=iM h he 1 (by decide);have g1:=h.word (k:=1) (by decide);have M:(aS 1 z).2.R.length≤z.R.length:=Ze.word 1 z;unfold ibS;generalize aS 1 z=w at hw g1 M ⊢;obtain⟨nm,J⟩:=w;dsimp only at hw g1 M ⊢;refine nT (n:=13) tok Tryz.func147 rfl rfl rfl rfl ?_;by_cases r:J.e=0
 case neg=>
  have hp:=bF.err hw r;obtain⟨L',U,ab,Y,b',O⟩:=hX;rw[aN9 hB r,aI r];refine aC mixed (ak 4 [] rfl (kpD (tkV Y) [(600,rO L' U)] hp ?_));refine kc O ?_;exact ak 7 [(7,.all),(10,.row bs.length (b8 zBd))] rfl (az trivial)
 have hw:=bF.ok hw r;have q:=uY hB hS nm 0 g1 r (by omega) (by omega);generalize cP ex nm 0 J=y at q ⊢;obtain⟨I,z3⟩:=y;dsimp only at q ⊢;by_cases u:z3.e=0
 case neg=>
  have hp:=bF.err q u;rw[aI u];refine aC mixed (ak 4 [] rfl (kc hw ?_));refine kpD (.pa (b8 zBd)) [(600,rO L J)] hp ?_;exact ak 7 [(7,.all),(10,.row bs.length (b8 zBd))] rfl (az trivial)
 have q:=bF.ok q u;rw[bB u];have B:(bs.map b8++[b8 zBd]).set bs.length (b8 I)=(bs++[I]).map b8:=by
  rw[set_append_right _ _ (by omega),E,Cg,Al];rfl
 have hle:(bs++[I]).length=bs.length+1:=by rw[θ];rfl
 refine aC mixed (ak 4 [] rfl (kc hw ?_));refine kc q ?_;refine ak 7 [(7,.all),(10,.row bs.length (b8 zBd))] rfl (az ?_);generalize ac:bs++[I]=S at B hle ⊢;exact rtN (ho:=⟨⟨_,rfl,.var rfl⟩,⟨_,rfl,.var rfl⟩,⟨_,rfl,.var (by rw[hle,←E];rfl)⟩,⟨_,rfl,.arrS B⟩,trivial⟩)
theorem aSh (hO:ExO L ex) (hZ:pO L) (hwt:wt L≤30000) {z:Z}(h:ZA L z) (he:z.e=0) (hN:z.R.length≤N):bF Tryz.prog 89 [rP] [(600,rO L z)] (gT L (.pa (jK (kA ex z).1)) (kA ex z).2 []):=by
 unfold kA;have hV:∀b y,instV b y=if b=true then((aU y).1.map (·.text),aQ c6 (aU y).2) else([],y):=fun _ _=>rfl
 have hBy:∀y w,nS y w=aQ cY (dJ y.2.1.pl y.1 (if w.2.e=0 then c8 w.1.length 8 y.2.1.pl w.2 else w.2)):=fun _ _=>rfl
 have hA:eA z=((bM z).1,(aS 2 (bM z).2).1,(bT bI (aS 2 (bM z).2).2).1,(aS 2 (bT bI (aS 2 (bM z).2).2).2).1,(aS 2 (bT bI (aS 2 (bM z).2).2).2).2):=rfl;rw[hA];have hp:=y0 h he hZ;obtain⟨h1,hpl,l1⟩:=jJ h hwt;generalize bM z=y at hp h1 hpl l1 ⊢;obtain⟨ps,z1⟩:=y;dsimp only at hp h1 hpl l1 ⊢;refine nT (n:=59) tok Tryz.func89 rfl rfl rfl rfl ?_;refine sg rfl ?_;by_cases u:z1.e=0
 case neg=>
  have hp:=bF.err hp u;rw[mJ u,lU u];dsimp only;rw[mJ u,oD (by rw[jN u];exact u),jN u,aI u];exact sk 1 rfl (kp hp)
 have hp:=bF.ok hp u;refine sk 1 rfl (kc hp ?_);refine kz 1 rfl ?_;have hw:=iM h1 u 2 (by decide);have h2:=h1.word (k:=2) (by decide);have l2:=l1.trans (Ze.word 2 z1);generalize aS 2 z1=y at hw h2 l2 ⊢;obtain⟨nm,z2⟩:=y;dsimp only at hw h2 l2 ⊢;by_cases B:z2.e=0
 case neg=>
  have hp:=bF.err hw B;rw[lU B];dsimp only;rw[mJ B,oD (by rw[jN B];exact B),jN B,aI B];exact sk 1 rfl (kp hp)
 have hw:=bF.ok hw B;refine sk 1 rfl (kc hw ?_);refine kz 2 rfl (sg rfl ?_);have hm:=fJ h2 B bI;have h3:=h2.may bI;have l3:=l2.trans (Ze.may bI z2);have he3:=(iW bI z2).trans B;generalize bT bI z2=y at hm h3 l3 he3 ⊢;obtain⟨br,z3⟩:=y;dsimp only at hm h3 l3 he3 ⊢;have O:=iM h3 he3 2 (by decide);have h4:=h3.word (k:=2) (by decide);have l4:=l3.trans (Ze.word 2 z3);generalize aS 2 z3=y at O h4 l4 ⊢;obtain⟨cn,z4⟩:=y;dsimp only at O h4 l4 ⊢;by_cases r:z4.e=0
 case neg=>
  have hp:=bF.err O r;rw[oD (by rw[jN r];exact r),jN r,aI r];refine aA (sk 1 rfl (kc hm ?_));refine az ?_;cases br with
  | true=>
   exact aB rfl (fun _=>sk 1 rfl (kp hp)) (fun hb=>Bool.noConfusion hb)
  | false=>
   exact aB rfl (fun hb=>Bool.noConfusion hb) (fun _=>aC mixed (ak 1 [] rfl (kp hp)))
 have O:=bF.ok O r;obtain⟨h5,hvl,l5⟩:=uL br h4;have q:=hV br z4;generalize instV br z4=y at h5 hvl l5 q ⊢;obtain⟨vs,z5⟩:=y;dsimp only at h5 hvl l5 ⊢;by_cases E:z5.e=0
 case neg=>
  rw[oD E];dsimp only;rw[aI E];refine aA (sk 1 rfl (kc hm ?_));refine az ?_;cases br with
  | false=>
   rw[ξ ω] at q;obtain⟨rfl,rfl⟩:=Prod.mk.inj q;exact absurd r E
  | true=>
   rw[ζ rfl] at q;have U:=nZ h4 r;have g1:=h4.words;have Y:=eM h4;have aa:(aU z4).2.e=0:=by unfold aU;rw[ζ r];exact r
   generalize aU z4=y at U g1 Y q aa;obtain⟨l,z45⟩:=y;dsimp only at U g1 Y q aa;have htx:=uW l Y;have hnd:=dG g1 aa c6;obtain⟨rfl,rfl⟩:=Prod.mk.inj q;have hp:=bF.err hnd E;refine aB rfl (fun _=>sk 1 rfl (kc O ?_)) (fun hb=>Bool.noConfusion hb);refine kz 3 rfl (sk 1 rfl (kc U ?_));refine kc htx ?_;exact kz 2 rfl (aC mixed (ak 1 [] rfl (kp hp)))
 have hvk:(vs.map b7).length=vs.length:=η _;have hpk:(ps.map aN).length=ps.length:=η _;refine aA (AWp.cut (mk [(1,.one (.vp 1 0)),(2,.one (.vp 2 0)),(3,.one (.c (.sl 5 (ps.map aN)))),(4,.one (.vp 4 0)),(5,.one (.vp 5 0))] [(600,rO L z5),(1,pR),(2,.var 95 (aQb.map .c)),(4,.var 139 ((aG nm).map .c)),(5,.var 95 [.c (.str nm.text),.c (.int .i64 nm.pl),.c (.str cn.text),.c (.sl 1 (vs.map b7)),.c (.sl 5 (ps.map aN)),.c .nl])]) ?_ ?_)
 ·refine sk 1 rfl (kc hm ?_);refine az ?_;cases br with
  | true=>
   rw[ζ rfl] at q;have U:=nZ h4 r;have g1:=h4.words;have Y:=eM h4;have aa:(aU z4).2.e=0:=by unfold aU;rw[ζ r];exact r
   generalize aU z4=y at U g1 Y q aa;obtain⟨l,z45⟩:=y;dsimp only at U g1 Y q aa;have htx:=uW l Y;have hnd:=dG g1 aa c6;obtain⟨rfl,rfl⟩:=Prod.mk.inj q;have hnd:=bF.ok hnd E;refine aB rfl (fun _=>sk 1 rfl (kc O ?_)) (fun hb=>Bool.noConfusion hb);refine kz 3 rfl (sk 1 rfl (kc U ?_));refine kc htx ?_;refine kz 2 rfl (aC mixed (ak 1 [] rfl (kc hnd ?_)));exact az sl
  | false=>
   rw[ξ ω] at q;obtain⟨rfl,rfl⟩:=Prod.mk.inj q;refine aB rfl (fun hb=>Bool.noConfusion hb) (fun _=>aC mixed (ak 1 [] rfl (kc O ?_)));refine kz 3 rfl (Sub.trans ?_ (vp 5 [.str nm.text,.int .i64 nm.pl,.str cn.text,.sl 1 [],.sl 5 (ps.map aN),.nl]));exact sl
 have hBz:=hBy (ps,nm,br,cn,z4) (vs,z5);dsimp only at hBz;rw[ζ E] at hBz;rw[hBz];have hC:∀y,rJ ex y=lpZ aV (ibS ex) (y.R.length+1) 0 [] y:=fun y=>rK ex _ _ _ _
 rw[hC];clear hBz hC hV hBy hA hm hw O hp q;by_cases hv8:vs.length≤8
 case neg=>
  have d:decide (((vs.length:Nat):Int)≤8)=false:=ψ (by omega);have hm:=bQ 2 nm.pl;rw[gF hv8 E,oE cQ,bJ cQ,gL cQ];dsimp only;rw[bJ cQ,aI cQ];refine sk 6 rfl ?_;rw[hvk,d];exact kp hm
 have d:decide (((vs.length:Nat):Int)≤8)=true:=φ (by omega);have hm:=bO 2 nm.pl;rw[gE hv8];refine sk 6 rfl ?_;rw[hvk,d];refine kc hm ?_;refine az ?_;have M:∃F,F=dJ nm.pl ps z5:=⟨_,rfl⟩
 obtain⟨F,M⟩:=M;rw[←M];refine aA (sg rfl (aF (aK (fun i:Nat=>mk [(1,.one (.vp 1 0)),(2,.one (.vp 2 0)),(4,.one (.vp 4 0)),(5,.one (.vp 5 0)),(41,.one (.c (.sl 5 (ps.map aN)))),(42,I .i64 ((ps.map aN).length:Nat)),(43,I .i64 (i:Nat))] [(600,rO L z5),(1,pR),(2,.var 95 (aQb.map .c)),(4,.var 139 ((aG nm).map .c)),(5,.var 95 [.c (.str nm.text),.c (.int .i64 nm.pl),.c (.str cn.text),.c (.sl 1 (vs.map b7)),.c (.sl 5 (ps.map aN)),.c .nl])]) (fun i=>i≤ps.length∧F=dJ nm.pl (ps.drop i) z5) (fun i=>ps.length-i) 0 ⟨ε _,M⟩ sl ?_)));clear M;rintro i ⟨hi,M⟩;refine sg rfl (aA (aB rfl (fun hb=>?_) (fun hb=>?_)))
 ·have hlt:=ltD hb hpk;obtain⟨p,hpi⟩:=aL hlt;have hpi':=aT aN hpi;have hds:ps.drop i=p::ps.drop (i+1):=by
   obtain⟨k1,k2⟩:=Ai.1 hpi;rw[←k2];exact Ay k1
  rw[hds,dJ] at M;refine aD (aA (aF (sgh [(0,.row i (aN p))] rfl ?_)));by_cases hf2:p.ty.form=2
  case neg=>
   have d:decide (p.ty.form=2)=false:=ψ hf2;have hmn:=bQ 12 nm.pl;have h12:¬(12:Int)=0:=by decide
   rw[ζ ⟨E,hf2⟩] at M;unfold bS at M;rw[ζ E,oE h12] at M;subst M;rw[bJ h12,gL h12];dsimp only;rw[bJ h12,aI h12];refine aC mixed (ak 6 [] rfl ?_);rw[d];exact kp hmn
  have d:decide (p.ty.form=2)=true:=φ hf2;have hmo:=bO 12 nm.pl;rw[ξ (fun k=>k.2 hf2)] at M;refine aC mixed (ak 6 [] rfl ?_);rw[d];refine kc hmo ?_;exact az (agN [] rfl ⟨i+1,⟨hlt,M⟩,by dsimp only;omega,sl⟩)
 have hge:=geD hb hpk hi;subst hge;rw[Cc,dJ] at M;subst M;refine aH (AWp.sub (Sub.ownCell (x:=5) (k:=5) (id:=511) 99 33 rfl rfl rfl) ?_);have hst:∀(n:Nat) (s:List Bd) (z:Z),(eV s∧s.length=n)→n<60→ZA L z→z.e=0→ZA L (ibS ex s z).2∧(eV (ibS ex s z).1∧(ibS ex s z).1.length=n+1)∧((ibS ex s z).2.e=0→(ibS ex s z).2.R.length<z.R.length)∧Ze z (ibS ex s z).2:=fun n s z hI hn h he=>by
  have g1:=h.word (k:=1) (by decide);obtain⟨k1,k2,k3,k4⟩:=qK hO (aS 1 z).1 0 g1;have l1:(aS 1 z).2.R.length≤z.R.length:=Ze.word 1 z;unfold ibS;exact⟨k1,⟨oB hI.1 k2,by dsimp only;rw[θ,hI.2];rfl⟩,fun h0=>by have:=k3 h0;dsimp only;omega,(Ze.word 1 z).trans k4⟩
 have hI0:eV ([]:List Bd)∧([]:List Bd).length=0:=⟨trivial,rfl⟩
 have l5N:F.R.length≤N:=le_trans (l4.trans l5) hN;have J:=aNt ⟨nm.text,nm.pl,cn.text,vs,ps,[]⟩ (step:=ibS ex) (Inv:=fun n s=>eV s∧s.length=n) (L:=L) (N:=N) (fun n s z hI hn h he hN=>aSi hB hS hX _ s h he hN (by have:=hI.2;omega)) hst h5 E l5N (s:=[]) hI0;have hok:=uD (sh:=aV) (Inv:=fun n (s:List Bd)=>eV s∧s.length=n) hst ((aQ cY F).R.length+1) 0 [] (aQ cY F) (ε _) hI0 (h5.need cY);unfold vN aEw at J;dsimp only at J;generalize aQ cY F=z7 at J hok ⊢;generalize lpZ aV (ibS ex) (z7.R.length+1) 0 [] z7=W at J hok ⊢;obtain⟨bs,zB⟩:=W;dsimp only at J hok ⊢;have hbk:(bs.map b8).length=bs.length:=η _;generalize aQ aV zB=z8 at J ⊢;by_cases he8:z8.e=0
 case neg=>
  have hp:=bF.err J he8;rw[aI he8];exact sk 2 rfl (kp hp)
 have J:=bF.ok J he8;rw[bB he8];refine sk 2 rfl (kc J ?_);refine az (AWp.sub (Sub.freeze (id:=511) rfl) ?_);exact sg rfl (aE (rtC trw (hc:=.agg (.c .refl (.c .refl (.c .refl (.c .refl (.c .refl (.hs rfl hbk.symm (Go.AM.take_all hbk.symm) .nil)))))))))
end
def sF (ex:Nat→Z→Ex×Z) (s:Pg×List Sg) (z:Z):(Pg×List Sg)×Z:=cS ex s.1 s.2 z
theorem aHf (ex:Nat→Z→Ex×Z):∀(f n:Nat) (p:Pg) (sigs:List Sg) (z:Z),dW ex f n p sigs z=lpZ [] (sF ex) f n (p,sigs) z
 | 0,_,_,_,_=>rfl
 | f+1,n,p,sigs,z=>by
  rw[dW,lpZ];split
  ·exact aHf ex f _ _ _ _
  ·rfl
theorem aPq {L:List Tk}{z:Z}(h:ZA L z):b9 Tryz.prog 84 ([]++[R.vp 1 0].map V.one) [(600,rO L z),(1,pR)] (B (cK [] z)) [(600,rO L z),(1,pR)]:=by
 have hn:=dY h;have e:cK [] z=decide ((b6 z).kind=6):=ζ rfl;rw[e];refine bP (n:=8) tok Tryz.func84 rfl rfl rfl ?_;refine sg rfl (sk 3 rfl (kc hn ?_));exact kz 3 rfl (aE rtT)
def aTe (L:List Tk) (N:Nat):Prop:=∀z,ZA L z→z.e=0→z.R.length≤N→bF Tryz.prog 88 [rP] [(600,rO L z)] (gT L (.pa (gW (eE z).1)) (eE z).2 [])
theorem aSc {step:(Pg×List Sg)→Z→(Pg×List Sg)×Z}{Inv:Nat→(Pg×List Sg)→Prop}{L:List Tk}{N:Nat}
  (hone:∀n s z,Inv n s→n<60→ZA L z→z.e=0→z.R.length≤N→bF Tryz.prog 85 ([]++[R.vp 1 0,R.vp 3 0,R.vp 4 0].map V.one) ((600,rO L z)::(1,pR)::aIm s.1 s.2) (gT L (.tup []) (step s z).2 ((1,pR)::aIm (step s z).1.1 (step s z).1.2)))
  (hst:∀n s z,Inv n s→n<60→ZA L z→z.e=0→ZA L (step s z).2∧Inv (n+1) (step s z).1∧((step s z).2.e=0→(step s z).2.R.length<z.R.length)∧Ze z (step s z).2)
  {z:Z} (h:ZA L z) (he:z.e=0) (hN:z.R.length≤N) {s:(Pg×List Sg)} (hI:Inv 0 s):
  bF Tryz.prog 83 [rP,.one (.clo 84 [R.vp 1 0]),.one (.clo 85 [R.vp 1 0,R.vp 3 0,R.vp 4 0])] ((600,rO L z)::(1,pR)::aIm s.1 s.2) (gT L (.tup []) (lpZ [] step (z.R.length+1) 0 s z).2 ((1,pR)::aIm (lpZ [] step (z.R.length+1) 0 s z).1.1 (lpZ [] step (z.R.length+1) 0 s z).1.2)):=by
 have r:∃W,W=lpZ [] step (z.R.length+1) 0 s z:=⟨_,rfl⟩
 obtain⟨W,r⟩:=r;rw[←r];refine nT (n:=35) tok Tryz.func83 rfl rfl rfl rfl ?_;refine sg rfl (aF (aK (fun q:Nat×(Pg×List Sg)×Z×Nat=>mk [(0,rP),(1,.one (.clo 84 [R.vp 1 0])),(2,.one (.clo 85 [R.vp 1 0,R.vp 3 0,R.vp 4 0])),(6,I .i64 (q.1:Nat))] ((600,rO L q.2.2.1)::(1,pR)::aIm q.2.1.1 q.2.1.2)) (fun q=>Inv q.1 q.2.1∧q.1≤60∧ZA L q.2.2.1∧q.2.2.1.e=0∧q.2.2.1.R.length≤N∧q.2.2.1.R.length<q.2.2.2∧moreA [] q.1 q.2.2.1=q.2.2.1∧W=lpZ [] step q.2.2.2 q.1 q.2.1 q.2.2.1) (fun q=>q.2.2.1.R.length) (0,s,z,z.R.length+1) ⟨hI,ε _,h,he,hN,Bt _,rC _ _,r⟩ sl ?_));clear r h he hN hI;rintro⟨n,s,z,f⟩ ⟨hI,hn,h,he,hN,hf,hA,r⟩;dsimp only at hI hn h he hN hf hA r;refine aF (aA (aF (aK (fun y:Z=>mk [(0,rP),(1,.one (.clo 84 [R.vp 1 0])),(2,.one (.clo 85 [R.vp 1 0,R.vp 3 0,R.vp 4 0])),(6,I .i64 (n:Nat))] ((600,rO L y)::(1,pR)::aIm s.1 s.2)) (fun y=>ZA L y∧y.e=0∧cL z=cL y∧y.R.length≤z.R.length) (fun y=>y.R.length) z ⟨h,he,rfl,le_refl _⟩ sl ?_)));rintro y ⟨h2,B,e2,hle2⟩

 have hm:=fJ h2 B bN;obtain⟨m1,m2,m3⟩:=mE h2;have O:=h2.may bN;have he3:=(iW bN y).trans B;generalize bT bN y=m at hm m1 m2 m3 O he3;obtain⟨b,z3⟩:=m;dsimp only at m1 m2 m3 O he3;refine aA (sk 1 rfl (kc hm ?_));refine az (aB rfl (fun hb=>?_) (fun hb=>?_))
 ·have hb:b=true:=hb;have:=m3 hb;exact aD (aF (aD ⟨z3,⟨O,he3,e2.trans m1.symm,by omega⟩,m3 hb,sl⟩))
 have hb:b=false:=hb;obtain⟨g1,g2⟩:=m2 hb;subst g1;have e3:cL z=z3:=e2.trans g2;clear m1 m2 m3 O e2 hm;have hf0:∃g,f=g+1:=⟨f-1,by omega⟩
 obtain⟨f,rfl⟩:=hf0;rw[lpZ] at r;unfold aW at r;rw[hA,e3] at r;have hs3:=aPq h2;have hn3:=dY h2;refine aH (aA (sk 1 rfl (kv (args:=[]) hs3 ?_)));refine az (aB rfl (fun hb=>?_) (fun hb=>?_))
 ·have hb:cK [] z3=true:=hb;rw[ζ (show ¬z3.e=0∨cK [] z3=true from .inr hb)] at r;rw[ξ ω] at r;rw[r,bB B];exact aE rtN
 have hb:cK [] z3=false:=hb;have hnb:¬(¬z3.e=0∨cK [] z3=true):=fun k=>k.elim (fun k=>k B) fun k=>by rw[hb] at k;cases k
 rw[ξ hnb] at r;refine aD ?_;by_cases hn60:n<60
 case neg=>
  have d:decide (((n:Nat):Int)<60)=false:=ψ (by omega);rw[gF (by omega) B] at r;dsimp only at r;rw[ψ cQ,ξ ω] at r;rw[r,aI cQ];have hmn:=bQ 2 (b6 z3).pl;refine sk 5 rfl (kc hn3 ?_);refine ak 1 [] rfl ?_;rw[d];exact kp hmn
 have d:decide (((n:Nat):Int)<60)=true:=φ (by omega);rw[gE (by omega),φ B,ζ rfl] at r;have hmo:=bO 2 (b6 z3).pl;refine sk 5 rfl (kc hn3 ?_);refine ak 1 [] rfl ?_;rw[d];refine kc hmo ?_;refine az ?_;have ho:=hone n s z3 hI hn60 h2 B (by omega);obtain⟨E,k2,k3,_⟩:=hst n s z3 hI hn60 h2 B;generalize step s z3=y at ho E k2 k3 r;obtain⟨s4,z4⟩:=y;dsimp only at ho E k2 k3 r;by_cases u:z4.e=0
 case neg=>
  have hp:=bF.err ho u;rw[gL u] at r;rw[r,aI u];exact sk 1 rfl (kpv (args:=[]) hp)
 have ho:=bF.ok ho u;have k3:=k3 u;refine sk 1 rfl (kv (args:=[]) ho ?_);refine az (aA (agN [] rfl ?_));have hlp:=E.lp;have J:=n3 E bN;have hn4:=dY E;have U:=aPq E;have hmo4:=bO 12 (b6 z4).pl;cases Y:isZ bN z4 with
 | true=>
  rw[Y] at J;have M:moreA [] (n+1) z4=z4:=ξ fun k=>by rw[Y] at k;cases k.2.2.1
  refine aC mixed (ak 1 [] rfl (kc J ?_));refine ak 7 [(2,.bv true),(5,.bv true)] rfl (kc hn4 ?_);refine ak 1 [(2,.bv true),(5,.bv true)] rfl (kc hmo4 ?_);exact az ⟨(n+1,s4,z4,f),⟨k2,by omega,E,u,by dsimp only;omega,by dsimp only;omega,M,r⟩,by dsimp only;omega,sl⟩
 | false=>
  rw[Y] at J;cases aa:cK [] z4 with
  | true=>
   rw[aa] at U;have M:moreA [] (n+1) z4=z4:=ξ fun k=>by rw[aa] at k;cases k.2.2.2
   refine aC mixed (ak 1 [] rfl (kc J ?_));refine ak 2 [(2,.bv false)] rfl (kvG (args:=[]) U ?_);refine ak 4 [(2,.bv false),(5,.bv false)] rfl (kc hn4 ?_);refine ak 1 [(2,.bv false),(5,.bv false)] rfl (kc hmo4 ?_);exact az ⟨(n+1,s4,z4,f),⟨k2,by omega,E,u,by dsimp only;omega,by dsimp only;omega,M,r⟩,by dsimp only;omega,sl⟩
  | false=>
   rw[aa] at U;have hmn4:=bQ 12 (b6 z4).pl;have M:moreA [] (n+1) z4=⟨z4.R,12,(b6 z4).pl⟩:=(ζ ⟨succ_pos n,u,Y,aa⟩).trans (ζ u);have h12:¬(12:Int)=0:=by decide
   have hWb:W.2=⟨z4.R,12,(b6 z4).pl⟩:=by
    obtain⟨f,rfl⟩:∃g,f=g+1:=⟨f-1,by omega⟩
    rw[lpZ] at r;unfold aW at r;rw[M,mK h12,ζ (show ¬(Z.mk z4.R 12 (b6 z4).pl).e=0∨_ from .inl h12),ξ ω] at r;rw[r]
   rw[hWb,aI h12];refine aC mixed (ak 1 [] rfl (kc J ?_));refine ak 2 [(2,.bv false)] rfl (kvG (args:=[]) U ?_);refine ak 4 [(2,.bv false),(5,.bv false)] rfl (kc hn4 ?_);refine ak 1 [(2,.bv false),(5,.bv false)] rfl (kpD (.tup []) [] hmn4 ?_);exact az trivial
section
variable {L:List Tk}{ex:Nat→Z→Ex×Z}{N:Nat}(hB:vG ex) (hS:aQa L ex N) (hX:yR) (hO:ExO L ex) (hZ:pO L) (hwt:wt L≤30000) (hC:aTe L N)
include hB hS hX hO hZ hwt hC
theorem aWn (n:Nat) (p:Pg) (sigs:List Sg) {z:Z}(h:ZA L z) (he:z.e=0) (Y:z.R.length≤N) (hn:n<60) (hp:PgOk n p) (hs:fX sigs∧sigs.length≤n):
  bF Tryz.prog 85 ([]++[R.vp 1 0,R.vp 3 0,R.vp 4 0].map V.one) ((600,rO L z)::(1,pR)::aIm p sigs) (gT L (.tup []) (cS ex p sigs z).2 ((1,pR)::aIm (cS ex p sigs z).1.1 (cS ex p sigs z).1.2)):=by
 obtain⟨aa,ab,ac,J⟩:=hp;have M:(p.datas.map gV).length=p.datas.length:=η _;have O:(p.classes.map gW).length=p.classes.length:=η _;have U:(p.insts.map jK).length=p.insts.length:=η _;refine nT (n:=36) tok Tryz.func85 rfl rfl rfl rfl ?_;unfold cS;have hm:=fJ h he jB;have hl:=fG (s:=jB) h;have ha:=h.may jB;have u:= @j5 jB z;have hx:=(iW jB z).trans he;have q:=fun(_:(bT jB z).2.R.length≤N)=>aSl ha hx hZ
 generalize bT jB z=m at hm hl ha u hx q ⊢;obtain⟨b,I⟩:=m;dsimp only at hm hl ha u hx q ⊢;refine aF (sk 1 rfl (kc hm ?_));refine kz 1 rfl ?_;cases b with
 | true=>
  rw[ζ rfl];have q:=q (by have:=hl rfl;omega);generalize jL I=y at q ⊢;obtain⟨e,z2⟩:=y;dsimp only at q ⊢;refine aB rfl (fun _=>?_) (fun hb=>Bool.noConfusion hb);by_cases r:z2.e=0
  case neg=>
   have hp:=bF.err q r;rw[aI r];refine aC mixed (ak 3 [] rfl (kpD (.pa (gV ⟨[],0,[],[]⟩)) [(600,rO L I)] hp ?_));exact ak 4 [(4,.all)] rfl (az trivial)
  have q:=bF.ok q r;rw[bB r];have B:p.datas.map gV++[gV e]=(p.datas++[e]).map gV:=by rw[Al];rfl
  have hle:(p.datas++[e]).length=p.datas.length+1:=by rw[θ];rfl
  refine aC mixed (ak 3 [] rfl (kc q ?_));refine ak 4 [(4,.all)] rfl (az ?_);generalize p.datas++[e]=S at B hle ⊢;exact rtN (ho:=⟨⟨_,rfl,.var rfl⟩,⟨_,rfl,.var rfl⟩,⟨_,rfl,.var rfl⟩,⟨_,rfl,.var (by rw[hle,←M];rfl)⟩,⟨_,rfl,Go.AM.Ole.arr⟩,⟨_,rfl,Go.AM.Ole.arr⟩,⟨_,rfl,.arrS B⟩,⟨_,rfl,Go.AM.Ole.arr⟩,⟨_,rfl,Go.AM.Ole.arr⟩,trivial⟩)
 | false=>
 obtain rfl:=u rfl;rw[ξ ω];clear hm hl ha u hx q;refine aB rfl (fun hb=>Bool.noConfusion hb) (fun _=>?_);have hm:=fJ h he eF;have hl:=fG (s:=eF) h;have ha:=h.may eF;have u:= @j5 eF I;have hx:=(iW eF I).trans he;have q:=fun(k:(bT eF I).2.R.length≤N)=>hC _ ha hx k
 generalize bT eF I=m at hm hl ha u hx q ⊢;obtain⟨b,z2⟩:=m;dsimp only at hm hl ha u hx q ⊢;refine sk 1 rfl (kc hm ?_);refine kz 1 rfl ?_;cases b with
 | true=>
  rw[ζ rfl];have q:=q (by have:=hl rfl;omega);generalize eE z2=y at q ⊢;obtain⟨e,z3⟩:=y;dsimp only at q ⊢;refine aB rfl (fun _=>?_) (fun hb=>Bool.noConfusion hb);by_cases r:z3.e=0
  case neg=>
   have hp:=bF.err q r;rw[aI r];refine aC mixed (ak 3 [] rfl (kpD (.pa (gW ⟨[],0,[],[],[]⟩)) [(600,rO L z2)] hp ?_));exact ak 4 [(4,.all)] rfl (az trivial)
  have q:=bF.ok q r;rw[bB r];have B:p.classes.map gW++[gW e]=(p.classes++[e]).map gW:=by rw[Al];rfl
  have hle:(p.classes++[e]).length=p.classes.length+1:=by rw[θ];rfl
  refine aC mixed (ak 3 [] rfl (kc q ?_));refine ak 4 [(4,.all)] rfl (az ?_);generalize p.classes++[e]=S at B hle ⊢;exact rtN (ho:=⟨⟨_,rfl,.var rfl⟩,⟨_,rfl,.var rfl⟩,⟨_,rfl,.var rfl⟩,⟨_,rfl,.var (by rw[hle,←O];rfl)⟩,⟨_,rfl,Go.AM.Ole.arr⟩,⟨_,rfl,Go.AM.Ole.arr⟩,⟨_,rfl,Go.AM.Ole.arr⟩,⟨_,rfl,.arrS B⟩,⟨_,rfl,Go.AM.Ole.arr⟩,trivial⟩)
 | false=>
 obtain rfl:=u rfl;rw[ξ ω];clear hm hl ha u hx q;refine aB rfl (fun hb=>Bool.noConfusion hb) (fun _=>?_);have hm:=fJ h he iX;have hl:=fG (s:=iX) h;have ha:=h.may iX;have u:= @j5 iX z2;have hx:=(iW iX z2).trans he;have q:=fun(k:(bT iX z2).2.R.length≤N)=>aSh hB hS hX hO hZ hwt ha hx k
 generalize bT iX z2=m at hm hl ha u hx q ⊢;obtain⟨b,z3⟩:=m;dsimp only at hm hl ha u hx q ⊢;refine sk 1 rfl (kc hm ?_);refine kz 1 rfl ?_;cases b with
 | true=>
  rw[ζ rfl];have q:=q (by have:=hl rfl;omega);generalize kA ex z3=y at q ⊢;obtain⟨e,z4⟩:=y;dsimp only at q ⊢;refine aB rfl (fun _=>?_) (fun hb=>Bool.noConfusion hb);by_cases r:z4.e=0
  case neg=>
   have hp:=bF.err q r;rw[aI r];refine aC mixed (ak 3 [] rfl (kpD (.pa (jK ⟨[],0,[],[],[],[]⟩)) [(600,rO L z3)] hp ?_));exact ak 4 [(4,.all)] rfl (az trivial)
  have q:=bF.ok q r;rw[bB r];have B:p.insts.map jK++[jK e]=(p.insts++[e]).map jK:=by rw[Al];rfl
  have hle:(p.insts++[e]).length=p.insts.length+1:=by rw[θ];rfl
  refine aC mixed (ak 3 [] rfl (kc q ?_));refine ak 4 [(4,.all)] rfl (az ?_);generalize p.insts++[e]=S at B hle ⊢;exact rtN (ho:=⟨⟨_,rfl,.var rfl⟩,⟨_,rfl,.var rfl⟩,⟨_,rfl,.var rfl⟩,⟨_,rfl,.var (by rw[hle,←U];rfl)⟩,⟨_,rfl,Go.AM.Ole.arr⟩,⟨_,rfl,Go.AM.Ole.arr⟩,⟨_,rfl,Go.AM.Ole.arr⟩,⟨_,rfl,Go.AM.Ole.arr⟩,⟨_,rfl,.arrS B⟩,trivial⟩)
 | false=>
 obtain rfl:=u rfl;rw[ξ ω];clear hm hl ha u hx q;refine aB rfl (fun hb=>Bool.noConfusion hb) (fun _=>?_);have E:=aWk hB hS hZ hwt p sigs 0 h he Y (by omega) (by have:=hs.2;omega) (by have:=J.1;omega);generalize aY ex sigs p.binds 0 z3=y at E ⊢;obtain⟨⟨S,Bs⟩,z4⟩:=y;dsimp only at E ⊢;by_cases r:z4.e=0
 case neg=>
  have hp:=bF.err E r;rw[aI r];exact aC mixed (ak 2 [] rfl (kp hp))
 have E:=bF.ok E r;rw[bB r];refine aC mixed (ak 2 [] rfl (kc E ?_));exact az rtN
theorem aE9 {z:Z}(h:ZA L z) (he:z.e=0) (hN:z.R.length≤N):bF Tryz.prog 37 [rP] [(600,rO L z)] (gT L (.pa (nV (cT ex z).1)) (cT ex z).2 []):=by
 have J:∀(n:Nat) (s:Pg×List Sg) (z:Z),(PgOk n s.1∧fX s.2∧s.2.length≤n)→n<60→ZA L z→z.e=0→ZA L (sF ex s z).2∧(PgOk (n+1) (sF ex s z).1.1∧fX (sF ex s z).1.2∧(sF ex s z).1.2.length≤n+1)∧((sF ex s z).2.e=0→(sF ex s z).2.R.length<z.R.length)∧Ze z (sF ex s z).2:=fun n s z E hn h he=>by
  obtain⟨a,b,c,d,e⟩:=uS hO hwt h E.1 E.2;exact⟨a,⟨b,c⟩,d,e⟩
 have M:PgOk 0 zPg∧fX ([]:List Sg)∧([]:List Sg).length≤0:=⟨⟨⟨le_refl _,fun d hd=>(by cases hd)⟩,⟨le_refl _,fun d hd=>(by cases hd)⟩,⟨le_refl _,fun d hd=>(by cases hd)⟩,⟨le_refl _,trivial⟩⟩,fun d hd=>(by cases hd),le_refl _⟩
 have r:=aSc (step:=sF ex) (Inv:=fun n s=>PgOk n s.1∧fX s.2∧s.2.length≤n) (L:=L) (N:=N) (fun n s z E hn h he hN=>aWn hB hS hX hO hZ hwt hC n s.1 s.2 h he hN hn E.1 E.2) J h he hN (s:=(zPg,[])) M;have hok:=uD (sh:=[]) (Inv:=fun n (s:Pg×List Sg)=>PgOk n s.1∧fX s.2∧s.2.length≤n) J (z.R.length+1) 0 (zPg,[]) z (ε _) M h;unfold cT;rw[aHf];unfold nP;generalize lpZ [] (sF ex) (z.R.length+1) 0 (zPg,[]) z=W at r hok ⊢;obtain⟨⟨p,sigs⟩,z2⟩:=W;dsimp only at r hok ⊢;obtain⟨g1,⟨m,hm60,hp,hs,hsl⟩,_⟩:=hok;refine nT (n:=15) tok Tryz.func37 rfl rfl rfl rfl ?_;refine sg rfl (sg rfl (sg rfl (AWp.sub (Sub.ownCell (x:=3) (k:=0) (id:=512) 81 5 rfl rfl rfl) ?_)));refine AWp.sub (Sub.ownCell (x:=3) (k:=1) (id:=513) 90 6 rfl rfl rfl) ?_;refine AWp.sub (Sub.ownCell (x:=3) (k:=2) (id:=514) 95 6 rfl rfl rfl) ?_;refine AWp.sub (Sub.ownCell (x:=3) (k:=3) (id:=511) 99 33 rfl rfl rfl) ?_;refine AWp.sub (Sub.ownCell (x:=4) (k:=0) (id:=510) 92 9 rfl rfl rfl) ?_;by_cases u:z2.e=0
 case neg=>
  have hp:=bF.err r u;rw[oC u,aI u];exact sk 3 rfl (kp hp)
 have r:=bF.ok r u;refine sk 3 rfl (kc r ?_);refine az ?_;have hsk:sigs.length≤m:=hsl;have q:=aJo sigs p.binds u (by omega) (by have:p.binds.length≤m:=hp.b.1;omega);obtain⟨p1,p2,p3,p4⟩:=gS sigs p.binds z2 g1 hs hp.b.2;have I:= @lG sigs p.binds z2;generalize cF sigs p.binds z2=y at q p1 p2 p3 p4 I ⊢;obtain⟨Bs,z6⟩:=y;dsimp only at q p1 p2 p3 p4 I ⊢;unfold aTr at q;dsimp only at q;refine AWp.sub (Sub.freeze (id:=510) rfl) ?_;by_cases B:z6.e=0
 case neg=>
  rw[ξ B] at q;have hpx:aDy _ _ _ _ _:=q;rw[aI B];exact sk 3 rfl (kp hpx)
 rw[ζ B] at q;have q:b9 _ _ _ _ _ _:=q;obtain rfl:=I B;rw[bB B];have O:p.datas.length=(p.datas.map gV).length:=(η _).symm;have U:p.classes.length=(p.classes.map gW).length:=(η _).symm;have Y:p.insts.length=(p.insts.map jK).length:=(η _).symm;have aa:p.binds.length=(Bs.map b8).length:=by rw[η,p3]
 refine sk 3 rfl (kc q ?_);refine kz 2 rfl (AWp.sub (Sub.freeze (id:=511) rfl) ?_);refine AWp.sub (Sub.freeze (id:=512) rfl) ?_;refine AWp.sub (Sub.freeze (id:=513) rfl) ?_;refine AWp.sub (Sub.freeze (id:=514) rfl) ?_;exact sg rfl (aE (rtC trw (hc:=.agg (.hs rfl O (Go.AM.take_all O) (.hs rfl U (Go.AM.take_all U) (.hs rfl Y (Go.AM.take_all Y) (.hs rfl aa (Go.AM.take_all aa) .nil)))))))
end
end Go.Proofs.YtpmheldmadendaaGreatDoor
namespace Go.AM
open Go
def rM (a:Act) (D:List Deferred):Act:=⟨a.tmps,a.defers++D⟩
theorem aAg (a:Act) (D:List Deferred) (d:Option Nat) (v:Value):(rM a D).put d v=rM (a.put d v) D:=by cases d<;>rfl
theorem aCr (a:Act) (D:List Deferred):(rM a D).eval=a.eval:=by funext x;cases x<;>rfl
section
variable {F:Fence}{m:Nat}{P:Program}{o:Oper}{a:Act}{w:World}{K K':Act→World→Prop}{Q Q':Exit→Act→World→Prop}{D:List Deferred}
theorem aK7 (q:∀a w,K a w→K' (rM a D) w) (hq:∀e a w,Q e a w→Q' e (rM a D) w) {r:Result Next}(h:o.uponIn F m P a K Q r):o.uponIn F m P (rM a D) K' Q' r:=by
 have hl:LetsOut Q→LetsOut Q':=fun⟨a,w,h⟩=>⟨_,w,hq _ a w h⟩
 have hp:∀d v w,K (a.put d v) w→K' ((rM a D).put d v) w:=fun d v w h=>by rw[aAg];exact q _ _ h
 cases r with
 | ok x w'=>
  cases x<;>simp only[Oper.uponIn] at h ⊢<;>
   first
    | exact hp _ _ _ h
    | exact⟨h.1,CallsIn.mono h.2 (fun e u he=>by cases e<;>first | exact hp _ _ _ he | exact hq _ _ _ he | exact hl he)⟩
    | exact⟨h.1,RowsIn.mono h.2 (fun _ _ he=>hp _ _ _ he)⟩
    | exact⟨h.1,RoundIn.mono h.2 (fun e u he=>by cases e<;>first | exact hp _ _ _ he | exact hq _ _ _ he | exact hl he)⟩
    | (have:=q _ _ h;rw[←aAg] at this;exact this)
    | exact h
 | halt x w'=>cases x<;>simp only[Oper.uponIn] at h ⊢<;>first | exact hq _ _ _ h | exact h
theorem aK6 (q:∀a w,K a w→K' (rM a D) w) (hq:∀e a w,Q e a w→Q' e (rM a D) w) (h:o.wpIn F m P a w K Q):o.wpIn F m P (rM a D) w K' Q':=by
 unfold Oper.wpIn at h ⊢;rw[aCr];exact⟨h.1,aK7 q hq h.2⟩
theorem aA4 {ops:Array Oper}{i:Nat}(q:∀a w,K a w→K' (rM a D) w) (hq:∀e a w,Q e a w→Q' e (rM a D) w) (h:wpOpIn F m P ops Q i K a w):wpOpIn F m P ops Q' i K' (rM a D) w:=by
 unfold wpOpIn at h ⊢;cases ho:ops[i]? with
 | none=>rw[ho] at h;exact q _ _ h
 | some o=>
  rw[ho] at h;dsimp only at h ⊢;rw[show(rM a D).tmps=a.tmps from rfl,aCr];split
  ·rename_i hw;rw[ζ hw] at h;exact aK6 q hq h
  ·rename_i hw;rw[ξ hw] at h;exact⟨h.1,by rw[aAg];exact q _ _ h.2⟩
end
section
variable {P:Program}{n:Nat}{ops:Array Oper}{D:List Deferred}{Q':Exit→Act→World→Prop}
end
theorem aGh {n:Nat}{args:List V}{hin:List (Nat×AObj)}{S:Sto}{μ:Mu}{w:World}{vals:List Value}{k:Nat}(hk:k=n) (hle:Nat.ble args.length n=true) (I:Inv ⟨w,S,jE μ (look hin),μ,look hin⟩ S μ (look hin) w) (hv:b5 S μ (look hin) args vals):
  Sim ⟨w,S,jE μ (look hin),μ,look hin⟩ n S μ (mk (yW 0 args) hin) ⟨(⟨vals⟩:Array Value)++Array.replicate (k-(⟨vals⟩:Array Value).size) undef,[]⟩ w:=by
 have E:=b5.length hv;have J:=Aq hle;refine⟨I,by simp;omega,rfl,fun t v ht=>?_⟩;have key:∀(l:List V) (us:List Value) (k:Nat),b5 S μ (look hin) l us→look (yW k l) t=some v→∃j,t=k+j∧∃u,us[j]?=some u∧aO S μ (look hin) v u:=by
  intro l
  induction l with
  | nil=>intro us k _ h;simp[yW,look] at h
  | cons x l M=>
   intro us k q hl;simp only[b5] at q;obtain⟨u,r,rfl,h1,h2⟩:=q;simp only[yW,look] at hl;split at hl
   ·rename_i y;cases hl;exact⟨0,by rw[Aa y];rfl,u,rfl,h1⟩
   ·obtain⟨j,B,O,U,Y⟩:=M r (k+1) h2 hl;exact⟨j+1,by omega,O,by simpa using U,Y⟩
 obtain⟨j,h1,u,h2,B⟩:=key args vals 0 hv ht;rw[Bj] at h1;subst h1;have hj:t<vals.length:=(Ai.1 h2).1
 have:((⟨vals⟩:Array Value)++Array.replicate (k-(⟨vals⟩:Array Value).size) undef).getD t undef=u:=by
  rw[Ah,B1 (by simpa using hj)];simp[h2]
 show aO S μ (look hin) v (((⟨vals⟩:Array Value)++Array.replicate (k-(⟨vals⟩:Array Value).size) undef).getD t undef);rw[this];exact B
theorem aIu {P:Program}{T:TT}{fn:Func}{n:Nat}{S S':Sto}{μ μ':Mu}{w w':World}{hin hout:List (Nat×AObj)}{res:V}{st:St}{a:Act}(O:Tok P T) (hs:Sim ⟨w,S,jE μ (look hin),μ,look hin⟩ n S' μ' st a w') (U:Fin T fn st hin res hout):
  ∃v,(results fn a.tmps).run P w'=.ok v w'∧Inv ⟨w,S,jE μ (look hin),μ,look hin⟩ S' μ' (look hout) w'∧aO S' μ' (look hout) res v:=by
 obtain⟨⟨vs,vs',Y,hc,I⟩,r,hok⟩:=U;simp only[π] at hok;obtain⟨⟨⟨⟨⟨k1,k2⟩,k3⟩,k4⟩,k5⟩,k6⟩:=hok;obtain⟨us,h1,h2⟩:=qX O hs Y;refine⟨_,h1,?_⟩;have q:=hc.rel hs.inv.obj h2;have y:∀i∈keys hout,Good st.h (look hout) (fun i=>i) i:=by
  intro i hi;obtain⟨o',B⟩:=cU hi;obtain⟨o,g1,g2⟩:=r.mem _ (bD B);exact⟨o,o',g1,B,g2⟩
 have J:aO S' μ' st.h res (aF4 us):=by
  rw[←I]
  match vs',us,q with
  | [],us,q=>simp only[b5] at q;subst q;simp[aLa,aF4,aO,b5]
  | [v],us,q=>
   simp only[b5] at q;obtain⟨u,M,rfl,h5,rfl⟩:=q;exact h5
  | v::v'::l,us,q=>
   have E:=q;simp only[b5] at E;obtain⟨u,M,rfl,_,u',us'',rfl,_,_⟩:=E;simp only[aLa,aF4,aO];exact⟨_,rfl,q⟩
 refine⟨hs.inv.keep r k2 fun id o ho=>bW k4 id (Cz.2 ⟨_,bD (show look hin id=some o from ho),rfl⟩),?_⟩;have:=aO.ren (H:=st.h) (H':=look hout) (σ:=fun i=>i) res _ (fun i hi=>y i (bW k1 i hi)) (by rw[V.ren_id];exact J);exact this
def qN (draw:Bool) (P:Program) (ops:Array Oper) (Q:Exit→Act→World→Prop) (a:Act) (w:World):Prop:=
 match draw with
 | true=>wpAnyIn (Wd none) 0 P .any ops Q ops.size (Array.replicate ops.size false) a { w with drawn:=w.drawn+1 }
 | false=>wpOpsIn (Wd none) 0 P ops Q (List.range ops.size) a w
theorem qN.wp {draw:Bool}{P:Program}{ops:Array Oper}{Q:Exit→Act→World→Prop}{a:Act}{w:World}{id:Nat}(hm:P.follows .mixedOrders=true) (h:qN draw P ops Q a w):(Code.region id ops draw).wpIn (Wd none) 0 P Q a w:=by
 cases draw with
 | true=>exact wpIn_region_any hm h
 | false=>exact wpIn_region h
section
variable {P:Program}{ops:Array Oper}{Q Q':Exit→Act→World→Prop}{D:List Deferred}(hq:∀e a w,Q e a w→Q' e (rM a D) w)
include hq
theorem aKq {md:Region.Mode}:∀(fuel:Nat) (listed:Array Bool) (a:Act) (w:World),wpAnyIn (Wd none) 0 P md ops Q fuel listed a w→wpAnyIn (Wd none) 0 P md ops Q' fuel listed (rM a D) w
 | 0,_,_,_,h=>⟨h.1,hq _ _ _ h.2⟩
 | fuel+1,_,_,_,h=>⟨fun k=>hq _ _ _ (h.1 k),fun i hi=>aA4 (fun a w=>aKq fuel _ a w) hq (h.2 i hi)⟩
theorem aHs:∀(l:List Nat) (a:Act) (w:World),wpOpsIn (Wd none) 0 P ops Q l a w→wpOpsIn (Wd none) 0 P ops Q' l (rM a D) w
 | [],a,w,h=>hq _ _ _ h
 | i::l,a,w,h=>by
  rw[Bu] at h ⊢;exact aA4 (fun a w=>aHs l a w) hq h
theorem qN.ext {draw:Bool}{a:Act}{w:World}(h:qN draw P ops Q a w):qN draw P ops Q' (rM a D) w:=by
 cases draw with
 | true=>exact aKq hq _ _ _ _ h
 | false=>exact aHs hq _ _ _ h
end
section
variable {P:Program}{n:Nat}{ops:Array Oper}{Q':Exit→Act→World→Prop}{G:Ctx}{S:Sto}{μ:Mu}{st st':St}{a:Act}{w:World}{xs:REs}{draw:Bool}
theorem aB4 (B:Run P n ops 0 st xs st') (hlen:Nat.beq xs.length ops.size=true) (r:(!draw || (cZ (preds ops) xs []&&dV ops))=true)
  (J:∀S' μ' u w',Sim G n S' μ' st' u w'→Q' .normal u w') (hs:Sim G n S μ st a w):qN draw P ops Q' a w:=by
 have q:=Aa hlen;cases draw with
 | true=>
  simp only[Bool.not_true,A9,π] at r;refine aGq (G:=G) B q r.1 r.2 J ops.size _ (by simp) ?_ ?_ S μ a _ ?_ none
  ·have:((List.range ops.size).filter fun i=>!(Array.replicate ops.size false).getD i false)=List.range ops.size:=by
    apply filter_eq_self.2;intro i hi;simp at hi;simp[hi]
   rw[this,length_range]
  ·intro i o ho hl;simp[A6] at hl;split at hl<;>simp at hl
  ·have M:∀(E:REs) (k:Nat) (s:St),cG (fun j=>(Array.replicate ops.size false).getD j false) k E s=s:=by
    intro E
    induction E with
    | nil=>intro k s;rfl
    | cons y E I=>
     intro k s;have O:(Array.replicate ops.size false).getD k false=false:=by
      simp[A6];split<;>rfl
     simp only[cG,O,Bp];exact I _ _
   rw[M];exact⟨hs.inv.same rfl rfl rfl rfl,hs.size,hs.defers,hs.env⟩
 | false=>
  have key:∀(k:Nat) (st st':St) (xs:REs),Run P n ops k st xs st'→k+xs.length=ops.size→(∀S' μ' u w',Sim G n S' μ' st' u w'→Q' .normal u w')→∀S μ a w,Sim G n S μ st a w→wpOpsIn (Wd none) 0 P ops Q' (List.range' k xs.length) a w:=by
   intro k st st' xs B
   induction B with
   | nil=>intro _ hq S μ a w hs;exact hq S μ a w hs
   | @cons k st rd f xs st' U _ I=>
    intro hl hq S μ a w hs;simp only[χ,range'_succ,Bu];exact U st (fR.refl _ _) G S μ a w _ Q' hs (fun S1 Y a1 w1 s1=>I (by simp at hl;omega) hq S1 Y a1 w1 s1) none
  have:=key 0 st st' xs B (by omega) J S μ a w hs;show wpOpsIn _ _ _ _ _ (List.range ops.size) _ _;rwa [range_eq_range',←q]
theorem aHt {v:Value}{p:Nat}(r:RunP v p P n ops 0 st xs st') (hp:p<xs.length) (hle:xs.length≤ops.size) (q:draw=true→xs.length=ops.size∧(cZ (preds ops) xs []&&dV ops)=true)
  (hQ:∀S' μ' e h a' w',Sim G n S' μ' ⟨e,h,st.d⟩ a' w'→Q' (pan v) a' w') (hs:Sim G n S μ st a w):qN draw P ops Q' a w:=by
 cases draw with
 | true=>
  obtain⟨u,q⟩:=q rfl;rw[π] at q;refine aBl (G:=G) r u q.1 q.2 (by omega) hQ ops.size _ (by simp) ?_ ?_ ?_ S μ a _ ?_ none
  ·have:((List.range ops.size).filter fun i=>!(Array.replicate ops.size false).getD i false)=List.range ops.size:=by
    apply filter_eq_self.2;intro i hi;simp at hi;simp[hi]
   rw[this,length_range]
  ·intro i o ho hl;simp[A6] at hl;split at hl<;>simp at hl
  ·simp[A6];split<;>rfl
  ·have hz:∀(B:REs) (k:Nat) (s:St),cG (fun j=>(Array.replicate ops.size false).getD j false) k B s=s:=by
    intro B
    induction B with
    | nil=>intro k s;rfl
    | cons y B I=>
     intro k s;have hf:(Array.replicate ops.size false).getD k false=false:=by
      simp[A6];split<;>rfl
     simp only[cG,hf,Bp];exact I _ _
   rw[hz];exact⟨hs.inv.same rfl rfl rfl rfl,hs.size,hs.defers,hs.env⟩
 | false=>
  have key:∀(k:Nat) (s E:St) (xs:REs) (m:Nat),RunP v p P n ops k s xs E→k≤p→p<k+xs.length→k+xs.length≤m→s.d=st.d→∀S μ a w,Sim G n S μ s a w→wpOpsIn (Wd none) 0 P ops Q' (List.range' k (m-k)) a w:=by
   intro k s E xs m r
   induction r with
   | nil=>intro h1 h2;simp at h2;omega
   | @cons k s rd f xs E hne J _ I=>
    intro h1 h2 M hd S μ a w hs;simp only[χ] at h2 M;rw[show m-k=(m-(k+1))+1 by omega];simp only[range'_succ,Bu];exact J s (fR.refl _ _) G S μ a w _ Q' hs (fun S1 O U Y s1=>I (by omega) (by omega) (by omega) hd S1 O U Y s1) none
   | @pan s rd f xs E J _ _=>
    intro h1 h2 M hd S μ a w hs;simp only[χ] at h2 M;rw[show m-p=(m-(p+1))+1 by omega];simp only[range'_succ,Bu];exact J s (fR.refl _ _) G S μ a w _ Q' hs (fun S1 O e1 h1 U Y s1=>hQ S1 O e1 h1 U Y (by rw[←hd];exact s1)) none
  have:=key 0 st st' xs ops.size r (by omega) (by omega) (by omega) rfl S μ a w hs;show wpOpsIn _ _ _ _ _ (List.range ops.size) _ _;rwa [range_eq_range',←sub_zero ops.size]
end
end Go.AM
