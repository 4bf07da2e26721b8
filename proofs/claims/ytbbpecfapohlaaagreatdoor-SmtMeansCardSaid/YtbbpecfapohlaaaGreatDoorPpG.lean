import Derived.Test.YtbbpecfapohlaaaGreatDoorSmL
import Derived.Test.YtbbpecfapohlaaaGreatDoorSmU
import Derived.Test.YtbbpecfapohlaaaGreatDoorSmG
import Derived.Test.YtbbpecfapohlaaaGreatDoorBitsW
import Derived.Test.YtbbpecfapohlaaaGreatDoorBr
import Derived.Test.YtbbpecfapohlaaaGreatDoorTb
import Derived.Test.YtbbpecfapohlaaaGreatDoorTy
namespace Go.Proofs.YtbbpecfapohlaaaGreatDoor
open Go.RowKit
attribute [local irreducible] AC Do St
theorem looP_great{p:SP}(h:greatP p):looP p=2:=by unfold looP;rw[if_pos h]
theorem looP_yes{p:SP}(h:Loose p):looP p=0:=by unfold looP;rw[if_neg h.g,if_pos h]
theorem looP_no{p:SP}(h:¬ greatP p)(h1:¬ Loose p):looP p=4:=by unfold looP;rw[if_neg h,if_neg h1]
theorem looP_zero{p:SP}(h:looP p=0):Loose p:=by
 by_cases h1:greatP p
 ·rw[looP_great h1]at h;omega
 by_cases h2:Loose p
 ·exact h2
 ·rw[looP_no h1 h2]at h;omega
def zeroSP:List D:=[.v (.int .i64 0),.v (.int .i64 0),.l [],.l []]
noncomputable def tiR (p:SP):List DV:=if looP p=0 then [.g (enSP (tidP p)),.d (.v (.int .i64 0))]else [.g zeroSP,.d (.v (.int .i64 (looP p)))]
set_option maxRecDepth 100000 in
set_option maxHeartbeats 8000000 in
theorem smtTidy(p:SP)(hp:OkSP p):FnK Tryz.prog 16 Tab [.g (enSP p)] (tiR p):=by
 have han:=hp.an
 have hcn:=hp.cn
 have hg:=smtGreat p (by omega) (by omega)
 have hR4:¬ greatP p→¬ Loose p→tiR p=[.g zeroSP,.d (.v (.int .i64 4))]:=fun h h1=>by unfold tiR;rw[looP_no h h1,if_neg (by omega)]
 have hR2:greatP p→tiR p=[.g zeroSP,.d (.v (.int .i64 2))]:=fun h=>by unfold tiR;rw[looP_great h,if_neg (by omega)]
 have hR0:Loose p→tiR p=[.g (enSP (tidP p)),.d (.v (.int .i64 0))]:=fun h=>by unfold tiR;rw[looP_yes h,if_pos rfl]
 generalize tiR p=R at hR4 hR2 hR0
 by_cases h0:greatP p
 ·obtain rfl:=hR2 h0
  rw[decide_eq_true h0]at hg
  refine FnK.of Tryz.func16 rfl (by kernel_rfl) Tryz.ntmps16 Tryz.results16 rfl fun w0 S0 hK0=>?_
  refine wa ?_
  exact⟨.cn rfl rfl inferInstance rfl ⟨.inl rfl,.inl rfl,.inr rfl,.inr rfl,trivial⟩,.d rfl (.inl rfl),trivial⟩
 rw[decide_eq_false h0]at hg
 have hR4:=hR4 h0
 clear hR2
 by_cases h1:p.r<0
 ·obtain rfl:=hR4 fun h=>by have:=h.r;omega
  refine FnK.of Tryz.func16 rfl (by kernel_rfl) Tryz.ntmps16 Tryz.results16 rfl fun w0 S0 hK0=>?_
  refine wa ?_
  exact⟨.cn rfl rfl inferInstance rfl ⟨.inl rfl,.inl rfl,.inr rfl,.inr rfl,trivial⟩,.d rfl (.inl rfl),trivial⟩
 by_cases h2:p.b<0
 ·obtain rfl:=hR4 fun h=>by have:=h.b;omega
  refine FnK.of Tryz.func16 rfl (by kernel_rfl) Tryz.ntmps16 Tryz.results16 rfl fun w0 S0 hK0=>?_
  refine wa ?_
  exact⟨.cn rfl rfl inferInstance rfl ⟨.inl rfl,.inl rfl,.inr rfl,.inr rfl,trivial⟩,.d rfl (.inl rfl),trivial⟩
 have hb1:p.b≤1000:=Int.not_lt.1 fun h=>h0 (.inr (.inl h))
 have hb0:0≤p.b:=by omega
 have htid:=tidiedF p hp
 have hins:=fun x (hx:x∈p.a)=>smtInside p x (by have:=(hp.a x hx).sm.n;omega)
 have hkno:=fun l (hl:inR l)=>smtKnown p l hb0 hb1 hl (by omega)
 have hcl:=hp.cl
 have hA:∀ x∈p.a,¬(okOp x.op∧insA p.r x)→¬ Loose p:=fun x hx h h1=>h (h1.a x hx)
 have hC:∀ c∈p.c,∀l∈c,¬knoL p.b p.a.length l→¬ Loose p:=fun c hc l hl h h1=>h (h1.c c hc l hl)
 have hL:(∀x∈p.a,okOp x.op∧insA p.r x)→(∀c∈p.c,∀l∈c,knoL p.b p.a.length l)→Loose p:=fun h h1=>⟨h0,by omega,hb0,h,h1⟩
 have hla:(p.a.map enA).length=p.a.length:=List.length_map ..
 have hlc:(p.c.map enCl).length=p.c.length:=List.length_map ..
 clear hp
 refine FnK.of Tryz.func16 rfl (by kernel_rfl) Tryz.ntmps16 Tryz.results16 rfl fun w0 S0 hK0=>?_
 refine wa ?_
 refine AC.loop (X:=Nat) (fun i=>⟨[(1,.p 1 0),(2,.p 2 0),(23,.d (.l (p.a.map enA))),(24,.d (.v (.int .i64 (p.a.length:Int)))),(25,.d (.v (.int .i64 (i:Int))))],[(1,.box 29 ((enSP p).map .d)),(2,.box 29 [.d (.v (.int .i64 0)),.d (.v (.int .i64 0)),.d .n,.d .n])]⟩) (fun i=>i≤p.a.length∧∀ x∈p.a.take i,okOp x.op∧insA p.r x) (fun i=>p.a.length-i) 0 ⟨Nat.zero_le _,fun l hl=>by simp at hl⟩ ⟨rfl,rfl,rfl,rfl,rfl,trivial⟩ ⟨rfl,rfl,trivial⟩ ?_
 intro i ⟨hi,hgd⟩
 dsimp only at hi hgd ⊢
 by_cases h5:i<p.a.length
 ·have hx:=List.getElem?_eq_getElem h5
  have hm:=List.getElem_mem h5
  have hbad:=hA _ hm
  have hs:(okOp p.a[i].op∧insA p.r p.a[i])→∀ x∈p.a.take (i+1),okOp x.op∧insA p.r x:=all_take' (P:=fun x=>okOp x.op∧insA p.r x) h5 hgd
  have hi1:=hins _ hm
  generalize p.a[i]=x at hx hm hbad hs hi1
  clear hins hA hL hkno hC
  by_cases k1:okOp x.op
  ·have hch:=checkA x k1
   by_cases k2:insA p.r x
   ·rw[decide_eq_true k2]at hi1
    refine wa ?_
    exact⟨i+1,⟨h5,hs ⟨k1,k2⟩⟩,by omega,⟨rfl,rfl,rfl,rfl,rfl,trivial⟩,⟨rfl,rfl,trivial⟩⟩
   ·rw[decide_eq_false k2]at hi1
    obtain rfl:=hR4 (hbad fun h=>k2 h.2)
    refine wa ?_
    exact⟨.cn rfl rfl inferInstance rfl ⟨.inl rfl,.inl rfl,.inr rfl,.inr rfl,trivial⟩,.d rfl (.inl rfl),trivial⟩
  ·have hch:=checkNo x k1
   obtain rfl:=hR4 (hbad fun h=>k1 h.1)
   refine wa ?_
   exact⟨.cn rfl rfl inferInstance rfl ⟨.inl rfl,.inl rfl,.inr rfl,.inr rfl,trivial⟩,.d rfl (.inl rfl),trivial⟩
 ·rw[List.take_of_length_le (by omega)]at hgd
  have hL:=hL hgd
  clear hins hA hgd
  refine wa ?_
  refine AC.loop (X:=Nat) (fun i=>⟨[(1,.p 1 0),(2,.p 2 0),(41,.d (.l (p.c.map enCl))),(42,.d (.v (.int .i64 (p.c.length:Int)))),(43,.d (.v (.int .i64 (i:Int))))],[(1,.box 29 ((enSP p).map .d)),(2,.box 29 [.d (.v (.int .i64 0)),.d (.v (.int .i64 0)),.d .n,.d .n])]⟩) (fun i=>i≤p.c.length∧∀ x∈p.c.take i,∀l∈x,knoL p.b p.a.length l) (fun i=>p.c.length-i) 0 ⟨Nat.zero_le _,fun l hl=>by simp at hl⟩ ⟨rfl,rfl,rfl,rfl,rfl,trivial⟩ ⟨rfl,rfl,trivial⟩ ?_
  intro i ⟨hi,hgd⟩
  dsimp only at hi hgd ⊢
  by_cases h5:i<p.c.length
  ·have hx:=List.getElem?_eq_getElem h5
   have hm:=List.getElem_mem h5
   have hbad:=hC _ hm
   have hs:(∀l∈p.c[i],knoL p.b p.a.length l)→∀ x∈p.c.take (i+1),∀l∈x,knoL p.b p.a.length l:=all_take' (P:=fun x=>∀ l∈x,knoL p.b p.a.length l) h5 hgd
   obtain⟨hn,hr⟩:=hcl _ hm
   generalize p.c[i]=x at hx hm hbad hs hn hr
   clear hC hcl hL htid
   have hlx:(x.map zI).length=x.length:=List.length_map ..
   refine wa ?_
   refine AC.loop (X:=Nat) (fun j=>⟨[(1,.p 1 0),(2,.p 2 0),(41,.d (.l (p.c.map enCl))),(42,.d (.v (.int .i64 (p.c.length:Int)))),(43,.d (.v (.int .i64 (i:Int)))),(47,.d (enZ x)),(48,.d (.v (.int .i64 (x.length:Int)))),(49,.d (.v (.int .i64 (j:Int))))],[(1,.box 29 ((enSP p).map .d)),(2,.box 29 [.d (.v (.int .i64 0)),.d (.v (.int .i64 0)),.d .n,.d .n])]⟩) (fun j=>j≤x.length∧∀ l∈x.take j,knoL p.b p.a.length l) (fun j=>x.length-j) 0 ⟨Nat.zero_le _,fun l hl=>by simp at hl⟩ ⟨rfl,rfl,rfl,rfl,rfl,rfl,rfl,rfl,trivial⟩ ⟨rfl,rfl,trivial⟩ ?_
   intro j ⟨hj,hk⟩
   dsimp only at hj hk ⊢
   by_cases h6:j<x.length
   ·have gx:=List.getElem?_eq_getElem h6
    have gm:=List.getElem_mem h6
    have gk:knoL p.b p.a.length x[j]→∀ l∈x.take (j+1),knoL p.b p.a.length l:=all_take' (P:=knoL p.b p.a.length) h6 hk
    have hkn:=hkno _ (hr _ gm)
    have gb:=hbad _ gm
    generalize x[j]=u at gx gm gk hkn gb
    clear hkno
    by_cases k4:knoL p.b p.a.length u
    ·rw[decide_eq_true k4]at hkn
     refine wa ?_
     exact⟨j+1,⟨h6,gk k4⟩,by omega,⟨rfl,rfl,rfl,rfl,rfl,rfl,rfl,rfl,trivial⟩,⟨rfl,rfl,trivial⟩⟩
    ·rw[decide_eq_false k4]at hkn
     obtain rfl:=hR4 (gb k4)
     refine wa ?_
     exact⟨.cn rfl rfl inferInstance rfl ⟨.inl rfl,.inl rfl,.inr rfl,.inr rfl,trivial⟩,.d rfl (.inl rfl),trivial⟩
   ·rw[List.take_of_length_le (by omega)]at hk
    refine wa ?_
    exact⟨i+1,⟨h5,hs hk⟩,by omega,⟨rfl,rfl,rfl,rfl,rfl,trivial⟩,⟨rfl,rfl,trivial⟩⟩
  ·rw[List.take_of_length_le (by omega)]at hgd
   have hL:=hL hgd
   have htid:=htid hL
   obtain rfl:=hR0 hL
   generalize tidP p=q at htid ⊢
   clear hkno
   refine wa ?_
   exact⟨.cn rfl rfl inferInstance rfl ⟨.inl rfl,.inl rfl,.inl rfl,.inl rfl,trivial⟩,.d rfl (.inl rfl),trivial⟩
end Go.Proofs.YtbbpecfapohlaaaGreatDoor
namespace Go.Proofs.YtbbpecfapohlaaaGreatDoor
open Go.RowKit
attribute [local irreducible] AC Do St
set_option maxRecDepth 100000 in
set_option maxHeartbeats 2000000 in
theorem ratDiv{k m:Nat}{p q:Rat}(h1:Bd k p)(h2:Bd m q)(hk:k+m≤50000000)(hq:q≠0):Fn Tryz.prog 168 [.g (enR p),.g (enR q)] [.g (enR (p*q⁻¹)),.d (.v (.bool true))]:=by
 have hi:=ratInv h2 (by omega) hq
 have hm:=ratMul h1 (h2.inv hq) (by omega)
 refine Fn.of Tryz.func168 rfl (by kernel_rfl) Tryz.ntmps168 Tryz.results168 rfl fun w0 S0=>?_
 refine wa ?_
 exact⟨.cn rfl rfl inferInstance rfl ⟨.inl rfl,.inl rfl,.inl rfl,trivial⟩,.d rfl (.inl rfl),trivial⟩
set_option maxRecDepth 100000 in
set_option maxHeartbeats 2000000 in
theorem ratFrac:Fn Tryz.prog 100 [.d (.v (.int .i64 (-3))),.d (.v (.int .i64 2))] [.g (enR (((-3:Int):Rat)*((2:Int):Rat)⁻¹)),.d (.v (.bool true))]:=by
 have ha:=ratInt (-3) (by omega) (by omega)
 have hb:=ratInt 2 (by omega) (by omega)
 have hd:=ratDiv (k:=2) (m:=2) (p:=((-3:Int):Rat)) (q:=((2:Int):Rat)) ⟨by decide,by decide⟩ ⟨by decide,by decide⟩ (by omega) (by decide)
 refine Fn.of Tryz.func100 rfl (by kernel_rfl) Tryz.ntmps100 Tryz.results100 rfl fun w0 S0=>?_
 refine wk ?_
 refine c1 ha ?_
 refine wk ?_
 refine c1 hb ?_
 refine wa ?_
 exact⟨.cn rfl rfl inferInstance rfl ⟨.inl rfl,.inl rfl,.inl rfl,trivial⟩,.d rfl (.inl rfl),trivial⟩
set_option maxRecDepth 100000 in
set_option maxHeartbeats 2000000 in
theorem zero14:Fn Tryz.prog 49 [.g zeroSP] [.d (.v (.bool true))]:=by
 have h0:([]:List (List D)).length=0:=rfl
 refine Fn.of Tryz.func49 rfl (by kernel_rfl) Tryz.ntmps49 Tryz.results49 rfl fun w0 S0=>?_
 refine wa ?_
 exact⟨.d rfl (.inl rfl),trivial⟩
noncomputable def awQ:Rat:=((-3:Int):Rat)*((2:Int):Rat)⁻¹
noncomputable def awAt:At:=⟨⟨[(0,((1:Int):Rat))],awQ⟩,1⟩
noncomputable def awP14:SP:=⟨1,1,[awAt],[[1,-2],[2],[]]⟩
theorem aw14_tx:allX (rowT awP14)=([40,115,101,116,45,108,111,103,105,99,32,81,70,95,76,82,65,41,10,40,100,101,99,108,97,114,101,45,99,111,110,115,116,32,120,48,32,82,101,97,108,41,10].append [40,100,101,99,108,97,114,101,45,99,111,110,115,116,32,112,48,32,66,111,111,108,41,10,40,100,101,102,105,110,101,45,102,117,110,32,97,48,32,40,41,32,66]).append ([111,111,108,32,40,60,61,32,120,48,32,40,47,32,51,32,50,41,41,41,10,40,97,115,115,101,114,116,32,40,111,114,32,112,48,32,40,110,111,116,32,97,48].append [41,41,41,10,40,97,115,115,101,114,116,32,97,48,41,10,40,97,115,115,101,114,116,32,102,97,108,115,101,41,10,40,99,104,101,99,107,45,115,97,116,41,10]):=by decide+kernel
theorem awQ_bd:Bd 2 awQ:=⟨by decide+kernel,by decide+kernel⟩
theorem awAt_can:canL awAt.e.t=[(0,((1:Int):Rat))]:=canL_form ⟨List.pairwise_singleton _ _,fun t ht=>by rw[List.mem_singleton.1 ht];decide⟩
theorem awAt_one:canA awAt ((1:Int):Rat)=awAt:=by
 have hb:byQ awAt.op ((1:Int):Rat)=1:=by
  unfold byQ
  rw[if_neg (by decide),absR_eq (by decide)]
  decide+kernel
 refine at_eq ?_ ?_ rfl
 ·rw[canA_t _ (by decide),awAt_can,hb]
  show [((0:Int),1*((1:Int):Rat))]=[(0,((1:Int):Rat))]
  rw[Rat.one_mul]
 ·rw[canA_c,hb,Rat.one_mul]
theorem awAt_ok:OkAt awAt:=by
 have hs:Sm 12 6682 awAt.e:=⟨awQ_bd.mono (by omega),fun t ht=>by
  rw[List.mem_singleton.1 ht]
  exact(show Bd 1 ((1:Int):Rat)from⟨by decide,by decide⟩).mono (by omega),by decide⟩
 refine⟨hs,fun t ht=>?_,fun v c l h hc=>?_⟩
 ·rw[List.mem_singleton.1 ht];exact⟨by decide,by decide⟩
 ·rw[awAt_can]at h
  simp only[List.cons.injEq,Prod.mk.injEq]at h
  obtain⟨⟨_,rfl⟩,_⟩:=h
  rw[awAt_one]
  exact⟨hs,(show Bd 1 ((1:Int):Rat)from⟨by decide,by decide⟩).mono (by omega)⟩
theorem awP_ok:OkSP awP14:=⟨fun a ha=>by rw[List.mem_singleton.1 ha];exact awAt_ok,by decide,by decide,fun c hc=>by
  have:c=[1,-2]∨c=[2]∨c=[]:=by simpa[awP14] using hc
  rcases this with rfl | rfl | rfl
  ·exact⟨by decide,fun l hl=>by
    have:l=1∨l= -2:=by simpa using hl
    rcases this with rfl | rfl<;>exact⟨by decide,by decide⟩⟩
  ·exact⟨by decide,fun l hl=>by
    have:l=2:=by simpa using hl
    subst this;exact⟨by decide,by decide⟩⟩
  ·exact⟨by decide,fun l hl=>by cases hl⟩,⟨by decide,by decide⟩,⟨by decide,by decide⟩⟩
theorem awP_chk:chkP awP14=0:=by
 refine chkP_ok ?_ (by decide) ⟨(goodA_iff awP_ok).2 fun i hi=>?_,fun c hc=>?_⟩
 ·rintro (h | h | h | h | ⟨c,h,h1⟩)
  ·exact absurd h (by decide)
  ·exact absurd h (by decide)
  ·exact absurd h (by decide)
  ·exact absurd h (by decide)
  ·have:c=[1,-2]∨c=[2]∨c=[]:=by simpa[awP14] using h
   rcases this with rfl | rfl | rfl<;>exact absurd h1 (by decide)
 ·have h0:i=0:=by
   have:i<1:=hi
   omega
  subst h0
  refine⟨(canP_one awAt).1 ⟨⟨by decide,by decide⟩,0,_,[],awAt_can,awAt_one⟩,fun t ht=>?_,fun j hj=>by omega⟩
  have ht':t∈[(0,((1:Int):Rat))]:=ht
  rw[List.mem_singleton.1 ht']
  exact⟨by decide,by decide⟩
 ·have:c=[1,-2]∨c=[2]∨c=[]:=by simpa[awP14] using hc
  rcases this with rfl | rfl | rfl
  ·exact⟨by decide,by decide,by decide⟩
  ·exact⟨by decide,by decide,by decide⟩
  ·exact⟨by decide,by decide,by decide⟩
section
variable {Kw:World→Prop}[KSt Kw][KHas Kw Tab][KHas Kw MaxL]
set_option maxRecDepth 100000 in
set_option maxHeartbeats 2000000 in
theorem awake14:FnK Tryz.prog 46 Kw [] [.d (.v (.bool true))]:=by
 have hfr:=ratFrac
 have hin:=ratInt 1 (by omega) (by omega)
 have hpr:=smtPrint (Kw:=Kw) awP14 awP_ok
 have ht:=aw14_tx
 unfold prS at hpr
 rw[if_neg (by rw[awP_chk];simp)]at hpr
 generalize allX (rowT awP14)=T at ht hpr
 rw[if_neg (by rw[ht];decide)]at hpr
 refine FnK.of Tryz.func46 rfl (by kernel_rfl) Tryz.ntmps46 Tryz.results46 rfl fun w0 S0 hK0=>?_
 refine wa ?_
 (first | intro K ms hms hK | intro K hK | skip)
 refine Chain.frzVar 21 rfl rfl ?_
 refine wa ?_
 exact⟨.d rfl (.inl rfl),trivial⟩
end
end Go.Proofs.YtbbpecfapohlaaaGreatDoor
namespace Go.Proofs.YtbbpecfapohlaaaGreatDoor
open Go.RowKit
attribute [local irreducible] AC Do St
set_option maxRecDepth 100000 in
set_option maxHeartbeats 8000000 in
theorem loose14(p:SP)(hp:OkSP p):Fn Tryz.prog 48 [.g (enSPQ p)] [.d (.v (.int .i64 (looP p)))]:=by
 have han:=hp.an
 have hcn:=hp.cn
 have hg:=great14 p (by omega) (by omega)
 by_cases h0:greatP p
 ·rw[looP_great h0]
  rw[decide_eq_true h0]at hg
  refine Fn.of Tryz.func48 rfl (by kernel_rfl) Tryz.ntmps48 Tryz.results48 rfl fun w0 S0=>?_
  refine wa ?_
  exact⟨.d rfl (.inl rfl),trivial⟩
 rw[decide_eq_false h0]at hg
 have hR4:¬ Loose p→looP p=4:=looP_no h0
 have hR0:Loose p→looP p=0:=looP_yes
 generalize looP p=R at hR4 hR0 ⊢
 by_cases h1:p.r<0
 ·obtain rfl:=hR4 fun h=>by have:=h.r;omega
  refine Fn.of Tryz.func48 rfl (by kernel_rfl) Tryz.ntmps48 Tryz.results48 rfl fun w0 S0=>?_
  refine wa ?_
  exact⟨.d rfl (.inl rfl),trivial⟩
 by_cases h2:p.b<0
 ·obtain rfl:=hR4 fun h=>by have:=h.b;omega
  refine Fn.of Tryz.func48 rfl (by kernel_rfl) Tryz.ntmps48 Tryz.results48 rfl fun w0 S0=>?_
  refine wa ?_
  exact⟨.d rfl (.inl rfl),trivial⟩
 have hb1:p.b≤1000:=Int.not_lt.1 fun h=>h0 (.inr (.inl h))
 have hb0:0≤p.b:=by omega
 have hins:=fun x (hx:x∈p.a)=>inside14 p x (by have:=(hp.a x hx).sm.n;omega)
 have hlit:=fun c (hc:c∈p.c)=>lits14 p c hb0 hb1 (hp.cl c hc).2 (by have:=(hp.cl c hc).1;omega) (by omega)
 have hA:∀ x∈p.a,¬(okOp x.op∧insA p.r x)→¬ Loose p:=fun x hx h h1=>h (h1.a x hx)
 have hC:∀ c∈p.c,¬(∀l∈c,knoL p.b p.a.length l)→¬ Loose p:=fun c hc h h1=>h (h1.c c hc)
 have hL:(∀x∈p.a,okOp x.op∧insA p.r x)→(∀c∈p.c,∀l∈c,knoL p.b p.a.length l)→Loose p:=fun h h1=>⟨h0,by omega,hb0,h,h1⟩
 have hla:(p.a.map enAQ).length=p.a.length:=List.length_map ..
 have hlc:(p.c.map enCl).length=p.c.length:=List.length_map ..
 clear hp
 refine Fn.of Tryz.func48 rfl (by kernel_rfl) Tryz.ntmps48 Tryz.results48 rfl fun w0 S0=>?_
 refine wa ?_
 refine AC.loop (X:=Nat) (fun i=>⟨[(1,.p 1 0),(18,.d (.l (p.a.map enAQ))),(19,.d (.v (.int .i64 (p.a.length:Int)))),(20,.d (.v (.int .i64 (i:Int))))],[(1,.box 42 ((enSPQ p).map .d))]⟩) (fun i=>i≤p.a.length∧∀ x∈p.a.take i,okOp x.op∧insA p.r x) (fun i=>p.a.length-i) 0 ⟨Nat.zero_le _,fun l hl=>by simp at hl⟩ ⟨rfl,rfl,rfl,rfl,trivial⟩ ⟨rfl,trivial⟩ ?_
 intro i ⟨hi,hgd⟩
 dsimp only at hi hgd ⊢
 by_cases h5:i<p.a.length
 ·have hx:=List.getElem?_eq_getElem h5
  have hm:=List.getElem_mem h5
  have hbad:=hA _ hm
  have hs:(okOp p.a[i].op∧insA p.r p.a[i])→∀ x∈p.a.take (i+1),okOp x.op∧insA p.r x:=all_take' (P:=fun x=>okOp x.op∧insA p.r x) h5 hgd
  have hi1:=hins _ hm
  generalize p.a[i]=x at hx hm hbad hs hi1
  clear hins hA hL hC
  by_cases k0:x.op<1
  ·obtain rfl:=hR4 (hbad fun h=>by have:=h.1.1;omega)
   refine wa ?_
   exact⟨.d rfl (.inl rfl),trivial⟩
  by_cases k1:3<x.op
  ·obtain rfl:=hR4 (hbad fun h=>by have:=h.1.2;omega)
   refine wa ?_
   exact⟨.d rfl (.inl rfl),trivial⟩
  by_cases k2:insA p.r x
  ·rw[decide_eq_true k2]at hi1
   refine wa ?_
   exact⟨i+1,⟨h5,hs ⟨⟨by omega,by omega⟩,k2⟩⟩,by omega,⟨rfl,rfl,rfl,rfl,trivial⟩,⟨rfl,trivial⟩⟩
  ·rw[decide_eq_false k2]at hi1
   obtain rfl:=hR4 (hbad fun h=>k2 h.2)
   refine wa ?_
   exact⟨.d rfl (.inl rfl),trivial⟩
 ·rw[List.take_of_length_le (by omega)]at hgd
  have hL:=hL hgd
  clear hins hA hgd
  refine wa ?_
  refine AC.loop (X:=Nat) (fun i=>⟨[(1,.p 1 0),(40,.d (.l (p.c.map enCl))),(41,.d (.v (.int .i64 (p.c.length:Int)))),(42,.d (.v (.int .i64 (i:Int))))],[(1,.box 42 ((enSPQ p).map .d))]⟩) (fun i=>i≤p.c.length∧∀ x∈p.c.take i,∀l∈x,knoL p.b p.a.length l) (fun i=>p.c.length-i) 0 ⟨Nat.zero_le _,fun l hl=>by simp at hl⟩ ⟨rfl,rfl,rfl,rfl,trivial⟩ ⟨rfl,trivial⟩ ?_
  intro i ⟨hi,hgd⟩
  dsimp only at hi hgd ⊢
  by_cases h5:i<p.c.length
  ·have hx:=List.getElem?_eq_getElem h5
   have hm:=List.getElem_mem h5
   have hbad:=hC _ hm
   have hs:(∀l∈p.c[i],knoL p.b p.a.length l)→∀ x∈p.c.take (i+1),∀l∈x,knoL p.b p.a.length l:=all_take' (P:=fun x=>∀ l∈x,knoL p.b p.a.length l) h5 hgd
   have hli:=hlit _ hm
   generalize p.c[i]=x at hx hm hbad hs hli
   clear hC hL hlit
   by_cases k1:∀ l∈x,knoL p.b p.a.length l
   ·rw[decide_eq_true k1]at hli
    refine wa ?_
    exact⟨i+1,⟨h5,hs k1⟩,by omega,⟨rfl,rfl,rfl,rfl,trivial⟩,⟨rfl,trivial⟩⟩
   ·rw[decide_eq_false k1]at hli
    obtain rfl:=hR4 (hbad k1)
    refine wa ?_
    exact⟨.d rfl (.inl rfl),trivial⟩
  ·rw[List.take_of_length_le (by omega)]at hgd
   obtain rfl:=hR0 (hL hgd)
   refine wa ?_
   exact⟨.d rfl (.inl rfl),trivial⟩
end Go.Proofs.YtbbpecfapohlaaaGreatDoor
namespace Go.Proofs.YtbbpecfapohlaaaGreatDoor
open Go.RowKit
attribute [local irreducible] AC Do St
def enZ0:List D:=[.v (.bool false),.l [],.l []]
theorem bitsZ0:enB (bits 0)= .l []:=by rw[bits_zero'];rfl
theorem bitsZ0l:(bits 0).length=0:=by rw[bits_zero'];rfl
theorem bitsZ1l:(bits 1).length≤1:=bits_len_le (by decide)
theorem low0:Fn Tryz.prog 188 [.g enZ0] [.d (enB (bits 1))]:=by
 have h:=bWord 1 (by decide)
 have h0:([]:List (List D)).length=0:=rfl
 refine Fn.of Tryz.func188 rfl (by kernel_rfl) Tryz.ntmps188 Tryz.results188 rfl fun w0 S0=>?_
 refine wa ?_
 exact⟨.d rfl (.inl rfl),trivial⟩
theorem bLen{k n:Nat}(h:n<2^k)(hk:k≤50000000):(bits n).length≤50000000:=Nat.le_trans (bits_len_le h) hk
set_option maxRecDepth 100000 in
set_option maxHeartbeats 4000000 in
theorem qMul0{k:Nat}{p:Rat}(h:Bd k p)(hk:k≤50000000):Fn Tryz.prog 163 [.g (enQ p),.g enZ0] [.g (enQ (p*0))]:=by
 have hn:=bLen h.1 hk
 have hd:=bLen h.2 hk
 have l1:=qLow p
 have l0:=low0
 have m1:Fn Tryz.prog 218 [.d (enB (bits p.num.natAbs)),.d (.l [])] [.d (enB (bits (p.num.natAbs*0)))]:=by
  have:=bMul p.num.natAbs 0 (by rw[bitsZ0l];omega)
  rwa[bitsZ0]at this
 have m2:=bMul p.den 1 (by have:=bitsZ1l;omega)
 have ho:=qOf (decide (p.num<0) != false) (p.num.natAbs*0) (p.den*1) (by rw[Nat.mul_zero,bitsZ0l];omega) (by rw[Nat.mul_one];omega) (by rw[Nat.mul_one];exact p.den_pos)
 have he:p*(0:Rat)=mkRat (sgn (decide (p.num<0) != false) (p.num.natAbs*0)) (p.den*1):=rat_mul_sgn (a:=p) (b:=0) rfl rfl rfl rfl rfl rfl
 rw[he]
 refine Fn.of Tryz.func163 rfl (by kernel_rfl) Tryz.ntmps163 Tryz.results163 rfl fun w0 S0=>?_
 refine wa ?_
 refine c1 m1 ?_
 refine wa ?_
 refine c1 l1 ?_
 refine wa ?_
 exact⟨.cn rfl rfl inferInstance rfl ⟨.inl rfl,.inl rfl,.inl rfl,trivial⟩,trivial⟩
def oN:Option Rat→D
 | none=> .v (.bool false)
 | some q=> .v (.bool (decide (q.num<0)))
def oA:Option Rat→D
 | none=> .l []
 | some q=>enB (bits q.num.natAbs)
def oB:Option Rat→D
 | none=> .l []
 | some q=>enB (bits q.den)
def enO(o:Option Rat):List D:=[oN o,oA o,oB o]
end Go.Proofs.YtbbpecfapohlaaaGreatDoor
