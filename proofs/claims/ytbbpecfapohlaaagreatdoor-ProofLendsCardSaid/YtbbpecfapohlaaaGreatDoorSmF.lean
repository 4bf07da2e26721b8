import Derived.Test.YtbbpecfapohlaaaGreatDoorSmC
set_option maxRecDepth 100000
set_option maxHeartbeats 8000000
namespace Go.Proofs.YtbbpecfapohlaaaGreatDoor
open Go.RowKit
attribute [local irreducible] AC Do St
theorem at_ne{α:Type}{l m:List α}{i:Nat}(h1:i<l.length)(h2:i<m.length)(h:¬ l[i]=m[i]):l≠m:=fun e=>h (by subst e;rfl)
theorem at_eq{a b:At}(h1:a.e.t=b.e.t)(h2:a.e.c=b.e.c)(h3:a.op=b.op):a=b:=by
 obtain⟨⟨t,k⟩,o⟩:=a;obtain⟨⟨t',k'⟩,o'⟩:=b;dsimp only at h1 h2 h3;rw[h1,h2,h3]
theorem sgnC{p q:Rat}:sgnR (p-q)=0↔p=q:=by
 rw[sgnR_zero];constructor
 ·intro h;have:p-q+q=0+q:=by rw[h]
  rwa[Rat.sub_add_cancel,Rat.zero_add]at this
 ·rintro rfl;exact Rat.sub_self
theorem smtCanonical(a:At)(ha:OkAt a)(R:Bool)(hR:R=true↔canP a):Fn Tryz.prog 102 [.g (enA a)] [.d (.v (.bool R))]:=by
 have hn:=ha.sm.n;by_cases ho:okOp a.op
 ·rcases lead_can a.e with ⟨hl,h0⟩ | ⟨v,c,l,hl,h0⟩
  ·have hno:R=false:=by
    cases R with
    | false=>rfl
    | true=>obtain⟨_,v,c,l,h,_⟩:=hR.1 rfl;rw[h0]at h;cases h
   subst hno;have hc:=canNum a 6682 ho ha.sm.t (by omega) h0;cases hs:sayB a.op a.e.c with
   | true=>
     rw[hs]at hc;simp only[if_true]at hc;refine Fn.of Tryz.func102 rfl (by kernel_rfl) Tryz.ntmps102 Tryz.results102 rfl fun w0 S0=>?_;refine wa ?_;exact⟨.d rfl (.inl rfl),trivial⟩
   | false=>
     rw[hs]at hc;simp only[if_false,Bool.false_eq_true]at hc;refine Fn.of Tryz.func102 rfl (by kernel_rfl) Tryz.ntmps102 Tryz.results102 rfl fun w0 S0=>?_;refine wa ?_;exact⟨.d rfl (.inl rfl),trivial⟩
  ·have hne:=(leadQ_ne hl).1;have hcan:=ha.canP ho h0 hne;have hsm:=(ha.can v c l h0 hne).1;have hR2:R=true↔canA a c=a:=hR.trans ⟨fun⟨_,v',c',l',h,e⟩=>by
    rw[h0]at h;simp only[List.cons.injEq,Prod.mk.injEq]at h;obtain⟨⟨_,rfl⟩,_⟩:=h;exact e,fun e=>⟨ho,v,c,l,h0,e⟩⟩
   have hop:(canA a c).op=a.op:=rfl;have hsa:=ha.sm;generalize canA a c=b at hcan hsm hR2 hop;have g1:∀ t∈a.e.t,Bd 6682 t.2:=hsa.t;have g2:∀ t∈b.e.t,Bd 6682 t.2:=hsm.t;have n2:b.e.t.length≤12:=hsm.n;have b1:Bd 6682 a.e.c:=hsa.c;have b2:Bd 6682 b.e.c:=hsm.c;clear hsa hsm ha h0 hl hne ho;have hl1:(a.e.t.map enT).length=a.e.t.length:=List.length_map ..;have hl2:(b.e.t.map enT).length=b.e.t.length:=List.length_map ..;have hno:b.e.t≠a.e.t∨b.e.c≠a.e.c→R=false:=fun h=>by
    cases R with
    | false=>rfl
    | true=>
      have e:=hR2.1 rfl;rcases h with h | h
      ·exact absurd (congrArg (fun x=>x.e.t) e) h
      ·exact absurd (congrArg (fun x=>x.e.c) e) h
   have hyes:b.e.t=a.e.t→b.e.c=a.e.c→R=true:=fun h1 h2=>hR2.2 (at_eq h1 h2 hop);clear hR2 hR;have hcm:=ratCmp b2 b1 (by omega);have hcz:sgnR (b.e.c-a.e.c)=0↔b.e.c=a.e.c:=sgnC;generalize sgnR (b.e.c-a.e.c)=sg at hcm hcz;by_cases k1:b.e.t.length=a.e.t.length
   ·by_cases k2:sg=0
    ·subst k2;have hceq:=hcz.1 rfl;refine Fn.of Tryz.func102 rfl (by kernel_rfl) Tryz.ntmps102 Tryz.results102 rfl fun w0 S0=>?_;refine wa ?_;refine AC.loop (X:=Nat) (fun i=>⟨[(1,.p 1 0),(44,.d (.l (b.e.t.map enT))),(45,.d (.v (.int .i64 (b.e.t.length:Int)))),(46,.d (.v (.int .i64 (i:Int))))],[(1,.box 108 ((enA a).map .d))]⟩) (fun i=>i≤b.e.t.length∧b.e.t.take i=a.e.t.take i) (fun i=>b.e.t.length-i) 0 ⟨Nat.zero_le _,rfl⟩ ⟨rfl,rfl,rfl,rfl,trivial⟩ ⟨rfl,trivial⟩ ?_;intro i ⟨hi,hg⟩;dsimp only at hi hg ⊢;by_cases h5:i<b.e.t.length
     ·have h6:i<a.e.t.length:=by omega
      have hx:=List.getElem?_eq_getElem h5;have hy:=List.getElem?_eq_getElem h6;have hbx:=g2 _ (List.getElem_mem h5);have hby:=g1 _ (List.getElem_mem h6);have hs:b.e.t[i]=a.e.t[i]→b.e.t.take (i+1)=a.e.t.take (i+1):=fun h=>by rw[List.take_succ_eq_append_getElem h5,List.take_succ_eq_append_getElem h6,hg,h]
      have hnn:¬ b.e.t[i]=a.e.t[i]→b.e.t≠a.e.t:=fun h=>at_ne h5 h6 h;generalize b.e.t[i]=x at hx hbx hs hnn;generalize a.e.t[i]=y at hy hby hs hnn;obtain⟨v1,q1⟩:=x;obtain⟨v2,q2⟩:=y;dsimp only at hbx hby;have hcm2:=ratCmp hbx hby (by omega);have hcz2:sgnR (q1-q2)=0↔q1=q2:=sgnC;generalize sgnR (q1-q2)=sg2 at hcm2 hcz2;by_cases k3:v1=v2
      ·by_cases k4:sg2=0
       ·subst k4;clear hcm;refine wa ?_;exact⟨i+1,⟨h5,hs (by rw[k3,hcz2.1 rfl])⟩,by omega,⟨rfl,rfl,rfl,rfl,trivial⟩,⟨rfl,trivial⟩⟩
       ·rw[hno (.inl (hnn fun e=>k4 (hcz2.2 (congrArg Prod.snd e))))];clear hcm;refine wa ?_;exact⟨.d rfl (.inl rfl),trivial⟩
      ·rw[hno (.inl (hnn fun e=>k3 (congrArg Prod.fst e)))];refine wa ?_;exact⟨.d rfl (.inl rfl),trivial⟩
     ·rw[List.take_of_length_le (by omega),List.take_of_length_le (by omega)]at hg;rw[hyes hg hceq];refine wa ?_;exact⟨.d rfl (.inl rfl),trivial⟩
    ·rw[hno (.inr fun e=>k2 (hcz.2 e))];refine Fn.of Tryz.func102 rfl (by kernel_rfl) Tryz.ntmps102 Tryz.results102 rfl fun w0 S0=>?_;refine wa ?_;exact⟨.d rfl (.inl rfl),trivial⟩
   ·rw[hno (.inl fun e=>k1 (by rw[e]))];refine Fn.of Tryz.func102 rfl (by kernel_rfl) Tryz.ntmps102 Tryz.results102 rfl fun w0 S0=>?_;refine wa ?_;exact⟨.d rfl (.inl rfl),trivial⟩
 ·have hno:R=false:=by
   cases R with
   | false=>rfl
   | true=>exact absurd (hR.1 rfl).1 ho
  subst hno;have hc:=canNo a ho;refine Fn.of Tryz.func102 rfl (by kernel_rfl) Tryz.ntmps102 Tryz.results102 rfl fun w0 S0=>?_;refine wa ?_;exact⟨.d rfl (.inl rfl),trivial⟩
end Go.Proofs.YtbbpecfapohlaaaGreatDoor
namespace Go.Proofs.YtbbpecfapohlaaaGreatDoor
open Go.RowKit
attribute [local irreducible] AC Do St
theorem canC_yes{c:List Int}(h:∀ l∈c,okLi l):canC c=[.d (enZ (canI c)),.d (.v (.int .i64 0))]:=by
 unfold canC;rw[if_pos (List.all_eq_true.2 fun l hl=>decide_eq_true (h l hl))]
theorem canC_no{c:List Int}(h:¬ ∀l∈c,okLi l):canC c=[.d (.l []),.d (.v (.int .i64 4))]:=by
 unfold canC;rw[if_neg fun e=>h fun l hl=>of_decide_eq_true (List.all_eq_true.1 e l hl)]
theorem smtCheck(p:SP)(hp:OkSP p):FnK Tryz.prog 47 Tab [.g (enSP p)] [.d (.v (.int .i64 (chkP p)))]:=by
 have han:=hp.an;have hcn:=hp.cn;have hg:=smtGreat p (by omega) (by omega);by_cases h0:greatP p
 ·rw[chkP_great h0];rw[decide_eq_true h0]at hg;refine FnK.of Tryz.func47 rfl (by kernel_rfl) Tryz.ntmps47 Tryz.results47 rfl fun w0 S0 hK0=>?_;refine wa ?_;exact⟨.d rfl (.inl rfl),trivial⟩
 rw[decide_eq_false h0]at hg;by_cases h1:p.r<0
 ·rw[chkP_neg h0 (.inl h1)];refine FnK.of Tryz.func47 rfl (by kernel_rfl) Tryz.ntmps47 Tryz.results47 rfl fun w0 S0 hK0=>?_;refine wa ?_;exact⟨.d rfl (.inl rfl),trivial⟩
 by_cases h2:p.b<0
 ·rw[chkP_neg h0 (.inr h2)];refine FnK.of Tryz.func47 rfl (by kernel_rfl) Tryz.ntmps47 Tryz.results47 rfl fun w0 S0 hK0=>?_;refine wa ?_;exact⟨.d rfl (.inl rfl),trivial⟩
 have hb1:p.b≤1000:=Int.not_lt.1 fun h=>h0 (.inr (.inl h));have hb0:0≤p.b:=by omega
 have hR0:goodA p∧goodC p→chkP p=0:=fun h=>chkP_ok h0 (by omega) h;have hR4:¬ (goodA p∧goodC p)→chkP p=4:=fun h=>chkP_no h0 h;have hpl:=placesT p.a hp.a (by omega);have hins:=fun x (hx:x∈p.a)=>smtInside p x (by have:=(hp.a x hx).sm.n;omega);have hcan:=fun x (hx:x∈p.a)=>smtCanonical x (hp.a x hx);have hkno:=fun l (hl:inR l)=>smtKnown p l hb0 hb1 hl (by omega);have hccan:=fun c (hc:c∈p.c)=>canonC c (hp.cl c hc).2 (by have:=(hp.cl c hc).1;omega);have hA:∀ i (h:i<p.a.length),¬(plT p.a p.a[i]=i∧insA p.r p.a[i]∧canP p.a[i])→chkP p=4:=fun i h h1=>hR4 fun h2=>h1 (h2.1 i h);have hC:∀ c∈p.c,¬((∀l∈c,okLi l)∧canI c=c∧∀ l∈c,knoL p.b p.a.length l)→chkP p=4:=fun c h h1=>hR4 fun h2=>h1 (h2.2 c h);have hcl:=hp.cl;have hlp:((p.a.map (plT p.a)).map ivT).length=p.a.length:=by rw[List.length_map,List.length_map]
 have hgp:∀ i (h:i<p.a.length),(p.a.map (plT p.a))[i]?=some (plT p.a p.a[i]):=fun i h=>by rw[List.getElem?_map,List.getElem?_eq_getElem h];rfl
 have hR0':(∀i (h:i<p.a.length),plT p.a p.a[i]=i∧insA p.r p.a[i]∧canP p.a[i])→(∀c∈p.c,(∀l∈c,okLi l)∧canI c=c∧∀ l∈c,knoL p.b p.a.length l)→chkP p=0:=fun h h'=>hR0 ⟨h,h'⟩;clear hR0 hR4 hp;generalize chkP p=R at*;generalize p.a.map (plT p.a)=P at hpl hlp hgp;have hlP:(P.map ivT).length=P.length:=List.length_map ..;have hPl:P.length=p.a.length:=by omega
 have hla:(p.a.map enA).length=p.a.length:=List.length_map ..;have hlc:(p.c.map enCl).length=p.c.length:=List.length_map ..;refine FnK.of Tryz.func47 rfl (by kernel_rfl) Tryz.ntmps47 Tryz.results47 rfl fun w0 S0 hK0=>?_;refine wa ?_;refine AC.loop (X:=Nat) (fun i=>⟨[(1,.p 1 0),(23,.d (.l (P.map ivT))),(24,.d (.v (.int .i64 (P.length:Int)))),(25,.d (.v (.int .i64 (i:Int))))],[(1,.box 29 ((enSP p).map .d))]⟩) (fun i=>i≤p.a.length∧∀ j (h:j<p.a.length),j<i→plT p.a p.a[j]=j∧insA p.r p.a[j]∧canP p.a[j]) (fun i=>p.a.length-i) 0 ⟨Nat.zero_le _,fun j _ h=>by omega⟩ ⟨rfl,rfl,rfl,rfl,trivial⟩ ⟨rfl,trivial⟩ ?_;intro i ⟨hi,hgd⟩;dsimp only at hi hgd ⊢;by_cases h5:i<p.a.length
 ·have hx:=List.getElem?_eq_getElem h5;have hm:=List.getElem_mem h5;have hy:=hgp i h5;have hbad:=hA i h5;have hs:(plT p.a p.a[i]=i∧insA p.r p.a[i]∧canP p.a[i])→∀ j (h:j<p.a.length),j<i+1→plT p.a p.a[j]=j∧insA p.r p.a[j]∧canP p.a[j]:=fun h j hj hji=>by
   rcases Nat.lt_succ_iff_lt_or_eq.1 hji with h2 | h2
   ·exact hgd j hj h2
   ·subst h2;exact h
  have hi1:=hins _ hm;have hi2:=hcan _ hm;generalize p.a[i]=x at hx hm hy hbad hs hi1 hi2;generalize plT p.a x=k at hy hbad hs;have hyl:i<P.length:=by omega
  by_cases k1:k=i
  ·by_cases k2:insA p.r x
   ·rw[decide_eq_true k2]at hi1;by_cases k3:canP x
    ·have hi2:=hi2 true (by simp[k3]);refine wa ?_;exact⟨i+1,⟨h5,hs ⟨k1,k2,k3⟩⟩,by omega,⟨rfl,rfl,rfl,rfl,trivial⟩,⟨rfl,trivial⟩⟩
    ·have hi2:=hi2 false (by simp[k3]);rw[hbad fun h=>k3 h.2.2];refine wa ?_;exact⟨.d rfl (.inl rfl),trivial⟩
   ·rw[decide_eq_false k2]at hi1;rw[hbad fun h=>k2 h.2.1];refine wa ?_;exact⟨.d rfl (.inl rfl),trivial⟩
  ·rw[hbad fun h=>k1 h.1];refine wa ?_;exact⟨.d rfl (.inl rfl),trivial⟩
 ·have hall:∀ j (h:j<p.a.length),plT p.a p.a[j]=j∧insA p.r p.a[j]∧canP p.a[j]:=fun j h=>hgd j h (by omega);have hR:=hR0' hall;clear hR0' hgd hA hins hcan hpl hgp;refine wa ?_;refine AC.loop (X:=Nat) (fun i=>⟨[(1,.p 1 0),(54,.d (.l (p.c.map enCl))),(55,.d (.v (.int .i64 (p.c.length:Int)))),(56,.d (.v (.int .i64 (i:Int))))],[(1,.box 29 ((enSP p).map .d))]⟩) (fun i=>i≤p.c.length∧∀ x∈p.c.take i,(∀l∈x,okLi l)∧canI x=x∧∀ l∈x,knoL p.b p.a.length l) (fun i=>p.c.length-i) 0 ⟨Nat.zero_le _,fun l hl=>by simp at hl⟩ ⟨rfl,rfl,rfl,rfl,trivial⟩ ⟨rfl,trivial⟩ ?_;intro i ⟨hi,hgd⟩;dsimp only at hi hgd ⊢;by_cases h5:i<p.c.length
  ·have hx:=List.getElem?_eq_getElem h5;have hm:=List.getElem_mem h5;have hs:((∀l∈p.c[i],okLi l)∧canI p.c[i]=p.c[i]∧∀ l∈p.c[i],knoL p.b p.a.length l)→∀ x∈p.c.take (i+1),(∀l∈x,okLi l)∧canI x=x∧∀ l∈x,knoL p.b p.a.length l:=all_take' (P:=fun x=>(∀l∈x,okLi l)∧canI x=x∧∀ l∈x,knoL p.b p.a.length l) h5 hgd;have hbad:=hC _ hm;have hcc:=hccan _ hm;obtain⟨hn,hr⟩:=hcl _ hm;generalize p.c[i]=x at hx hm hbad hs hcc hn hr;clear hC hccan hcl;have hlx:(x.map zI).length=x.length:=List.length_map ..;by_cases k1:∀ l∈x,okLi l
   ·rw[canC_yes k1]at hcc;have hcs:=canI_len x;generalize hy:canI x=y at hcc hcs hbad hs;have hly:(y.map zI).length=y.length:=List.length_map ..;by_cases k2:y.length=x.length
    ·refine wa ?_;refine AC.loop (X:=Nat) (fun j=>⟨[(1,.p 1 0),(6,.d (enZ x)),(7,.d (enZ y)),(54,.d (.l (p.c.map enCl))),(55,.d (.v (.int .i64 (p.c.length:Int)))),(56,.d (.v (.int .i64 (i:Int)))),(74,.d (enZ x)),(75,.d (.v (.int .i64 (x.length:Int)))),(76,.d (.v (.int .i64 (j:Int))))],[(1,.box 29 ((enSP p).map .d))]⟩) (fun j=>j≤x.length∧y.take j=x.take j∧∀ l∈x.take j,knoL p.b p.a.length l) (fun j=>x.length-j) 0 ⟨Nat.zero_le _,rfl,fun l hl=>by simp at hl⟩ ⟨rfl,rfl,rfl,rfl,rfl,rfl,rfl,rfl,rfl,trivial⟩ ⟨rfl,trivial⟩ ?_;intro j ⟨hj,he,hk⟩;dsimp only at hj he hk ⊢;by_cases h6:j<x.length
     ·have h7:j<y.length:=by omega
      have gx:=List.getElem?_eq_getElem h6;have gy:=List.getElem?_eq_getElem h7;have gm:=List.getElem_mem h6;have gk:knoL p.b p.a.length x[j]→∀ l∈x.take (j+1),knoL p.b p.a.length l:=all_take' (P:=knoL p.b p.a.length) h6 hk;have ge:y[j]=x[j]→y.take (j+1)=x.take (j+1):=fun h=>by rw[List.take_succ_eq_append_getElem h6,List.take_succ_eq_append_getElem h7,he,h]
      have gn:¬ y[j]=x[j]→¬ y=x:=fun h h2=>h (by subst h2;rfl);have hkn:=hkno _ (hr _ gm);generalize x[j]=u at gx gm gk ge gn hkn;generalize y[j]=v at gy ge gn;clear hkno;by_cases k3:v=u
      ·by_cases k4:knoL p.b p.a.length u
       ·rw[decide_eq_true k4]at hkn;refine wa ?_;exact⟨j+1,⟨h6,ge k3,gk k4⟩,by omega,⟨rfl,rfl,rfl,rfl,rfl,rfl,rfl,rfl,rfl,trivial⟩,⟨rfl,trivial⟩⟩
       ·rw[decide_eq_false k4]at hkn;rw[hbad fun h=>k4 (h.2.2 u gm)];refine wa ?_;exact⟨.d rfl (.inl rfl),trivial⟩
      ·rw[hbad fun h=>gn k3 h.2.1];clear hkn;refine wa ?_;exact⟨.d rfl (.inl rfl),trivial⟩
     ·rw[List.take_of_length_le (by omega),List.take_of_length_le (by omega)]at he;rw[List.take_of_length_le (by omega)]at hk;refine wa ?_;exact⟨i+1,⟨h5,hs ⟨k1,he,hk⟩⟩,by omega,⟨rfl,rfl,rfl,rfl,trivial⟩,⟨rfl,trivial⟩⟩
    ·rw[hbad fun h=>k2 (by rw[h.2.1])];refine wa ?_;exact⟨.d rfl (.inl rfl),trivial⟩
   ·rw[canC_no k1]at hcc;rw[hbad fun h=>k1 h.1];refine wa ?_;exact⟨.d rfl (.inl rfl),trivial⟩
  ·rw[List.take_of_length_le (by omega)]at hgd;rw[hR hgd];refine wa ?_;exact⟨.d rfl (.inl rfl),trivial⟩
end Go.Proofs.YtbbpecfapohlaaaGreatDoor
