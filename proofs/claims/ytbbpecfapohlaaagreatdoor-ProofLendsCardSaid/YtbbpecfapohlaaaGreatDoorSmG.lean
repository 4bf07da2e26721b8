import Derived.Test.YtbbpecfapohlaaaGreatDoorSmF
set_option maxRecDepth 100000
set_option maxHeartbeats 8000000
namespace Go.Proofs.YtbbpecfapohlaaaGreatDoor
open Go.RowKit
attribute [local irreducible] AC Do St
theorem same13(a b:List Int)(hl:a.length≤1000000000):Fn Tryz.prog 77 [.d (enZ a),.d (enZ b)] [.d (.v (.bool (decide (a=b))))]:=by
 have hla:(a.map zI).length=a.length:=List.length_map ..;have hlb:(b.map zI).length=b.length:=List.length_map ..;by_cases h1:a.length=b.length
 ·obtain⟨R,hR⟩:∃ R,decide (a=b)=R:=⟨_,rfl⟩
  have hyes:a=b→R=true:=fun h=>by rw[←hR,decide_eq_true h]
  have hno:¬ a=b→R=false:=fun h=>by rw[←hR,decide_eq_false h]
  rw[hR];clear hR;refine Fn.of Tryz.func77 rfl (by kernel_rfl) Tryz.ntmps77 Tryz.results77 rfl fun w0 S0=>?_;refine wa ?_;refine AC.loop (X:=Nat) (fun i=>⟨[(0,.d (enZ a)),(1,.d (enZ b)),(12,.d (.v (.int .i64 (a.length:Int)))),(13,.d (.v (.int .i64 (i:Int))))],[]⟩) (fun i=>i≤a.length∧a.take i=b.take i) (fun i=>a.length-i) 0 ⟨Nat.zero_le _,rfl⟩ ⟨rfl,rfl,rfl,rfl,trivial⟩ trivial ?_;intro i ⟨hi,he⟩;dsimp only at hi he ⊢;by_cases h6:i<a.length
  ·have h7:i<b.length:=by omega
   have gx:=List.getElem?_eq_getElem h6;have gy:=List.getElem?_eq_getElem h7;have ge:a[i]=b[i]→a.take (i+1)=b.take (i+1):=fun h=>by rw[List.take_succ_eq_append_getElem h6,List.take_succ_eq_append_getElem h7,he,h]
   have gn:¬ a[i]=b[i]→¬ a=b:=fun h h2=>h (by subst h2;rfl);generalize a[i]=u at gx ge gn;generalize b[i]=v at gy ge gn;by_cases k3:u=v
   ·refine wa ?_;exact⟨i+1,⟨h6,ge k3⟩,by omega,⟨rfl,rfl,rfl,rfl,trivial⟩,trivial⟩
   ·rw[hno (gn k3)];refine wa ?_;exact⟨.d rfl (.inl rfl),trivial⟩
  ·rw[List.take_of_length_le (by omega),List.take_of_length_le (by omega)]at he;rw[hyes he];refine wa ?_;exact⟨.d rfl (.inl rfl),trivial⟩
 ·rw[decide_eq_false fun h=>h1 (by rw[h])];refine Fn.of Tryz.func77 rfl (by kernel_rfl) Tryz.ntmps77 Tryz.results77 rfl fun w0 S0=>?_;refine wa ?_;exact⟨.d rfl (.inl rfl),trivial⟩
theorem bd_one:Bd 1 ((1:Int):Rat):=⟨by decide,by decide⟩
theorem oneQ_split{a:At}(h1:okOp a.op)(h2:truthI a=0)(h3:Form a.e.t){v:Int}{c:Rat}(h4:leadQ a.e=some (v,c))(h5:byQ a.op c=1):oneQ a:=⟨h1,h2,h3,v,c,h4,h5⟩
theorem open_lead{a:At}(h:truthI a=0):∃ v c l,leadQ a.e=some (v,c)∧canL a.e.t=(v,c)::l∧c≠0:=by
 rcases lead_can a.e with ⟨hl,_⟩ | ⟨v,c,l,hl,h0⟩
 ·rcases truth_shut hl with h1 | h1<;>omega
 ·exact⟨v,c,l,hl,h0,(leadQ_ne hl).1⟩
theorem check14(p:SP)(hp:OkSP p):Fn Tryz.prog 44 [.g (enSPQ p)] [.d (.v (.int .i64 (chkP p)))]:=by
 have han:=hp.an;have hcn:=hp.cn;have hg:=great14 p (by omega) (by omega);by_cases h0:greatP p
 ·rw[chkP_great h0];rw[decide_eq_true h0]at hg;refine Fn.of Tryz.func44 rfl (by kernel_rfl) Tryz.ntmps44 Tryz.results44 rfl fun w0 S0=>?_;refine wa ?_;exact⟨.d rfl (.inl rfl),trivial⟩
 rw[decide_eq_false h0]at hg;by_cases h1:p.r<0
 ·rw[chkP_neg h0 (.inl h1)];refine Fn.of Tryz.func44 rfl (by kernel_rfl) Tryz.ntmps44 Tryz.results44 rfl fun w0 S0=>?_;refine wa ?_;exact⟨.d rfl (.inl rfl),trivial⟩
 by_cases h2:p.b<0
 ·rw[chkP_neg h0 (.inr h2)];refine Fn.of Tryz.func44 rfl (by kernel_rfl) Tryz.ntmps44 Tryz.results44 rfl fun w0 S0=>?_;refine wa ?_;exact⟨.d rfl (.inl rfl),trivial⟩
 have hb1:p.b≤1000:=Int.not_lt.1 fun h=>h0 (.inr (.inl h));have hb0:0≤p.b:=by omega
 have hR0:goodAQ p∧goodC p→chkP p=0:=fun h=>chkP_ok h0 (by omega) ⟨(goodA_iff hp).2 h.1,h.2⟩;have hR4:¬ (goodAQ p∧goodC p)→chkP p=4:=fun h=>chkP_no h0 fun k=>h ⟨(goodA_iff hp).1 k.1,k.2⟩;have hins:=fun x (hx:x∈p.a)=>inside14 p x (by have:=(hp.a x hx).sm.n;omega);have hok:=hp.a;have hlit:=fun c (hc:c∈p.c)=>lits14 p c hb0 hb1 (hp.cl c hc).2 (by have:=(hp.cl c hc).1;omega) (by omega);have hA:∀ i (h:i<p.a.length),¬(oneQ p.a[i]∧insA p.r p.a[i]∧∀ j (hj:j<i),¬SameP (p.a[j]'(by omega)) p.a[i])→chkP p=4:=fun i h h1=>hR4 fun h2=>h1 (h2.1 i h);have hC:∀ c∈p.c,¬((∀l∈c,okLi l)∧canI c=c∧∀ l∈c,knoL p.b p.a.length l)→chkP p=4:=fun c h h1=>hR4 fun h2=>h1 (h2.2 c h);have hcl:=hp.cl;have hR0':(∀i (h:i<p.a.length),oneQ p.a[i]∧insA p.r p.a[i]∧∀ j (hj:j<i),¬SameP (p.a[j]'(by omega)) p.a[i])→(∀c∈p.c,(∀l∈c,okLi l)∧canI c=c∧∀ l∈c,knoL p.b p.a.length l)→chkP p=0:=fun h h'=>hR0 ⟨h,h'⟩;clear hR0 hR4 hp;generalize chkP p=R at*;have hla:(p.a.map enAQ).length=p.a.length:=List.length_map ..;have hlc:(p.c.map enCl).length=p.c.length:=List.length_map ..;refine Fn.of Tryz.func44 rfl (by kernel_rfl) Tryz.ntmps44 Tryz.results44 rfl fun w0 S0=>?_;refine wa ?_
 refine AC.loop (X:=Nat) (fun i=>⟨[(1,.p 1 0),(19,.d (.l (p.a.map enAQ))),(20,.d (.v (.int .i64 (p.a.length:Int)))),(21,.d (.v (.int .i64 (i:Int))))],[(1,.box 42 ((enSPQ p).map .d))]⟩) (fun i=>i≤p.a.length∧∀ j (h:j<p.a.length),j<i→oneQ p.a[j]∧insA p.r p.a[j]∧∀ k (hk:k<j),¬SameP (p.a[k]'(by omega)) p.a[j]) (fun i=>p.a.length-i) 0 ⟨Nat.zero_le _,fun j _ h=>by omega⟩ ⟨rfl,rfl,rfl,rfl,trivial⟩ ⟨rfl,trivial⟩ ?_;intro i ⟨hi,hgd⟩;dsimp only at hi hgd ⊢;by_cases h5:i<p.a.length
 ·have hx:=List.getElem?_eq_getElem h5;have hm:=List.getElem_mem h5;have hbad:=hA i h5;have hs:(oneQ p.a[i]∧insA p.r p.a[i]∧∀ k (hk:k<i),¬SameP (p.a[k]'(by omega)) p.a[i])→∀ j (h:j<p.a.length),j<i+1→oneQ p.a[j]∧insA p.r p.a[j]∧∀ k (hk:k<j),¬SameP (p.a[k]'(by omega)) p.a[j]:=fun h j hj hji=>by
   rcases Nat.lt_succ_iff_lt_or_eq.1 hji with h2 | h2
   ·exact hgd j hj h2
   ·subst h2;exact h
  have hi1:=hins _ hm;have hoki:=hok _ hm;generalize p.a[i]=x at hx hm hbad hs hi1 hoki;clear hgd hins;have htr:=truthQ x hoki.sm (by omega)
  classical
  have hfo:=formQ x.e (by have:=hoki.sm.n;omega);have hone:=qInt 1 (by omega) (by omega);by_cases k0:x.op<1
  ·rw[hbad fun h=>by have:=h.1.1.1;omega];refine wa ?_;exact⟨.d rfl (.inl rfl),trivial⟩
  by_cases k1:3<x.op
  ·rw[hbad fun h=>by have:=h.1.1.2;omega];refine wa ?_;exact⟨.d rfl (.inl rfl),trivial⟩
  have kop:okOp x.op:=⟨by omega,by omega⟩
  by_cases k2:insA p.r x
  ·rw[decide_eq_true k2]at hi1;by_cases k3:truthI x=0
   ·by_cases k4:Form x.e.t
    ·rw[decide_eq_true k4]at hfo;obtain⟨v,q,l,k5,k6,k7⟩:=open_lead k3;have hby:=byF x hoki.sm (by omega) k5 (absR_ne k7);have hbq:=(hoki.can v q l k6 k7).2.byQ x.op k7;have hcm:=qCmp hbq (bd_one) (by omega);have hcz:sgnR (byQ x.op q-((1:Int):Rat))=0↔byQ x.op q=1:=sgnC;have hyes:=oneQ_split kop k3 k4 k5;have hno:¬ byQ x.op q=1→¬ oneQ x:=fun h ⟨_,_,_,v',c',h1,h2⟩=>by
      rw[k5]at h1;simp only[Option.some.injEq,Prod.mk.injEq]at h1;obtain⟨_,rfl⟩:=h1;exact h h2
     rw[k3]at htr;generalize sgnR (byQ x.op q-((1:Int):Rat))=sg at hcm hcz;generalize byQ x.op q=bq at*;by_cases k8:sg=0
     ·subst k8;have hone':=hyes (hcz.1 rfl);have hsame:=fun j (hj:j<p.a.length)=>sameT p.a[j] x (hok _ (List.getElem_mem hj)) hoki;have hbad2:(∃j,∃hj:j<i,SameP (p.a[j]'(by omega)) x)→R=4:=fun⟨j,hj,h⟩=>hbad fun h2=>h2.2.2 j hj h;have hs2:(∀k (hk:k<i),¬SameP (p.a[k]'(by omega)) x)→_:=fun h=>hs ⟨hone',k2,h⟩;clear hbad hs hyes hno hcz hbq;refine wa ?_;refine AC.loop (X:=Nat) (fun j=>⟨[(1,.p 1 0),(3,.d (.v (.int .i64 (i:Int)))),(4,.p 4 0),(5,.d (.v (.int .i64 (j:Int)))),(19,.d (.l (p.a.map enAQ))),(20,.d (.v (.int .i64 (p.a.length:Int)))),(21,.d (.v (.int .i64 (i:Int))))],[(1,.box 42 ((enSPQ p).map .d)),(4,.box 142 ((enAQ x).map .d))]⟩) (fun j=>j≤i∧∀ k (h:k<p.a.length),k<j→¬ SameP p.a[k] x) (fun j=>i-j) 0 ⟨Nat.zero_le _,fun k _ h=>by omega⟩ ⟨rfl,rfl,rfl,rfl,rfl,rfl,rfl,trivial⟩ ⟨rfl,rfl,trivial⟩ ?_;intro j ⟨hj,hgj⟩;dsimp only at hj hgj ⊢;by_cases h6:j<i
      ·have h7:j<p.a.length:=by omega
       have gy:=List.getElem?_eq_getElem h7;have gs:=hsame j h7;have gb:SameP p.a[j] x→R=4:=fun h=>hbad2 ⟨j,h6,h⟩;have gk:¬ SameP p.a[j] x→∀ k (h:k<p.a.length),k<j+1→¬ SameP p.a[k] x:=fun h k hk hkj=>by
        rcases Nat.lt_succ_iff_lt_or_eq.1 hkj with h2 | h2
        ·exact hgj k hk h2
        ·subst h2;exact h
       generalize p.a[j]=y at gy gs gb gk;clear hsame;by_cases k9:SameP y x
       ·have gs:=gs true (by simp[k9]);rw[gb k9];refine wa ?_;exact⟨.d rfl (.inl rfl),trivial⟩
       ·have gs:=gs false (by simp[k9]);refine wa ?_;exact⟨j+1,⟨h6,gk k9⟩,by omega,⟨rfl,rfl,rfl,rfl,rfl,rfl,rfl,trivial⟩,⟨rfl,rfl,trivial⟩⟩
      ·have hfin:=hs2 fun k hk=>hgj k (by omega) (by omega);refine wa ?_;exact⟨i+1,⟨h5,hfin⟩,by omega,⟨rfl,rfl,rfl,rfl,trivial⟩,⟨rfl,trivial⟩⟩
     ·rw[hbad fun h=>hno (fun e=>k8 (hcz.2 e)) h.1];clear hbad hs hyes hno hcz hbq;refine wa ?_;exact⟨.d rfl (.inl rfl),trivial⟩
    ·rw[decide_eq_false k4]at hfo;rw[k3]at htr;rw[hbad fun h=>k4 h.1.2.2.1];refine wa ?_;exact⟨.d rfl (.inl rfl),trivial⟩
   ·rw[hbad fun h=>k3 h.1.2.1];generalize truthI x=tr at htr k3;refine wa ?_;exact⟨.d rfl (.inl rfl),trivial⟩
  ·rw[decide_eq_false k2]at hi1;rw[hbad fun h=>k2 h.2.1];refine wa ?_;exact⟨.d rfl (.inl rfl),trivial⟩
 ·have hR:=hR0' fun j h=>hgd j h (by omega);clear hR0' hgd hA hins hok;refine wa ?_;refine AC.loop (X:=Nat) (fun i=>⟨[(1,.p 1 0),(72,.d (.l (p.c.map enCl))),(73,.d (.v (.int .i64 (p.c.length:Int)))),(74,.d (.v (.int .i64 (i:Int))))],[(1,.box 42 ((enSPQ p).map .d))]⟩) (fun i=>i≤p.c.length∧∀ x∈p.c.take i,(∀l∈x,okLi l)∧canI x=x∧∀ l∈x,knoL p.b p.a.length l) (fun i=>p.c.length-i) 0 ⟨Nat.zero_le _,fun l hl=>by simp at hl⟩ ⟨rfl,rfl,rfl,rfl,trivial⟩ ⟨rfl,trivial⟩ ?_;intro i ⟨hi,hgd⟩;dsimp only at hi hgd ⊢;by_cases h5:i<p.c.length
  ·have hx:=List.getElem?_eq_getElem h5;have hm:=List.getElem_mem h5;have hs:((∀l∈p.c[i],okLi l)∧canI p.c[i]=p.c[i]∧∀ l∈p.c[i],knoL p.b p.a.length l)→∀ x∈p.c.take (i+1),(∀l∈x,okLi l)∧canI x=x∧∀ l∈x,knoL p.b p.a.length l:=all_take' (P:=fun x=>(∀l∈x,okLi l)∧canI x=x∧∀ l∈x,knoL p.b p.a.length l) h5 hgd;have hbad:=hC _ hm;have hli:=hlit _ hm;obtain⟨hn,hr⟩:=hcl _ hm;generalize p.c[i]=x at hx hm hbad hs hli hn hr;clear hC hlit hcl;by_cases k1:∀ l∈x,knoL p.b p.a.length l
   ·rw[decide_eq_true k1]at hli;have kok:∀ l∈x,okLi l:=fun l h=>(k1 l h).1;have hca:=canon13 x kok (by omega);have hcs:=canI_len x;generalize hy:canI x=y at hca hcs hbad hs;have hsm:=same13 y x (by omega);by_cases k2:y=x
    ·rw[decide_eq_true k2]at hsm;refine wa ?_;exact⟨i+1,⟨h5,hs ⟨kok,k2,k1⟩⟩,by omega,⟨rfl,rfl,rfl,rfl,trivial⟩,⟨rfl,trivial⟩⟩
    ·rw[decide_eq_false k2]at hsm;rw[hbad fun h=>k2 h.2.1];refine wa ?_;exact⟨.d rfl (.inl rfl),trivial⟩
   ·rw[decide_eq_false k1]at hli;rw[hbad fun h=>k1 h.2.2];refine wa ?_;exact⟨.d rfl (.inl rfl),trivial⟩
  ·rw[List.take_of_length_le (by omega)]at hgd;rw[hR hgd];refine wa ?_;exact⟨.d rfl (.inl rfl),trivial⟩
end Go.Proofs.YtbbpecfapohlaaaGreatDoor
