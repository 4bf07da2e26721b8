import Derived.Test.YtbbpecfapohlaaaGreatDoorLst
set_option maxRecDepth 100000
set_option maxHeartbeats 2000000
namespace Go.Proofs.YtbbpecfapohlaaaGreatDoor
open Go.RowKit
attribute [local irreducible] AC Do St
instance (p:SP):Decidable (greatP p):=by unfold greatP;infer_instance
instance (r:Int) (a:At):Decidable (insA r a):=by unfold insA;infer_instance
instance (l:Int):Decidable (okLi l):=by unfold okLi;infer_instance
instance (b:Int) (n:Nat) (l:Int):Decidable (knoL b n l):=by unfold knoL;infer_instance
theorem great_no{p:SP}(h1:¬ 400<p.r)(h2:¬ 1000<p.b)(h3:¬ 2000<p.a.length)(h4:¬ 4000<p.c.length)(h5:∀ x∈p.c,¬64<x.length):decide (greatP p)=false:=
 decide_eq_false fun h=>by
  rcases h with h | h | h | h | ⟨x,h,h6⟩
  ·exact h1 h
  ·exact h2 h
  ·exact h3 h
  ·exact h4 h
  ·exact h5 x h h6
theorem all_take'{α:Type}{c:List α}{P:α→Prop}{i:Nat}(h1:i<c.length)(h:∀ l∈c.take i,P l)(h2:P c[i]):∀ l∈c.take (i+1),P l:=fun l hl=>by
 rw[List.take_succ_eq_append_getElem h1]at hl;rcases List.mem_append.1 hl with hl | hl
 ·exact h l hl
 ·rw[List.mem_singleton.1 hl];exact h2
theorem smtGreat(p:SP)(ha:p.a.length≤1000000000)(hn:p.c.length≤1000000000):Fn Tryz.prog 57 [.g (enSP p)] [.d (.v (.bool (decide (greatP p))))]:=by
 have hla:(p.a.map enA).length=p.a.length:=List.length_map ..;have hlc:(p.c.map enCl).length=p.c.length:=List.length_map ..;by_cases h1:400<p.r
 ·rw[decide_eq_true (.inl h1)];refine Fn.of Tryz.func57 rfl (by kernel_rfl) Tryz.ntmps57 Tryz.results57 rfl fun w0 S0=>?_;refine wa ?_;exact⟨.d rfl (.inl rfl),trivial⟩
 by_cases h2:1000<p.b
 ·rw[decide_eq_true (.inr (.inl h2))];refine Fn.of Tryz.func57 rfl (by kernel_rfl) Tryz.ntmps57 Tryz.results57 rfl fun w0 S0=>?_;refine wa ?_;exact⟨.d rfl (.inl rfl),trivial⟩
 by_cases h3:2000<p.a.length
 ·rw[decide_eq_true (.inr (.inr (.inl h3)))];refine Fn.of Tryz.func57 rfl (by kernel_rfl) Tryz.ntmps57 Tryz.results57 rfl fun w0 S0=>?_;refine wa ?_;exact⟨.d rfl (.inl rfl),trivial⟩
 by_cases h4:4000<p.c.length
 ·rw[decide_eq_true (.inr (.inr (.inr (.inl h4))))];refine Fn.of Tryz.func57 rfl (by kernel_rfl) Tryz.ntmps57 Tryz.results57 rfl fun w0 S0=>?_;refine wa ?_;exact⟨.d rfl (.inl rfl),trivial⟩
 have hg0:=great_no (p:=p) h1 h2 h3 h4;have hg1:(∃x∈p.c,64<x.length)→decide (greatP p)=true:=fun h=>decide_eq_true (.inr (.inr (.inr (.inr h))));generalize decide (greatP p)=R at hg0 hg1 ⊢;refine Fn.of Tryz.func57 rfl (by kernel_rfl) Tryz.ntmps57 Tryz.results57 rfl fun w0 S0=>?_;refine wa ?_;refine AC.loop (X:=Nat) (fun i=>⟨[(26,.d (.l (p.c.map enCl))),(27,.d (.v (.int .i64 (p.c.length:Int)))),(28,.d (.v (.int .i64 (i:Int))))],[]⟩) (fun i=>i≤p.c.length∧∀ x∈p.c.take i,¬64<x.length) (fun i=>p.c.length-i) 0 ⟨Nat.zero_le _,fun l hl=>by simp at hl⟩ ⟨rfl,rfl,rfl,trivial⟩ trivial ?_;intro i ⟨hi,hg⟩;dsimp only at hi hg ⊢;by_cases h5:i<p.c.length
 ·have hx:=List.getElem?_eq_getElem h5;have hm:=List.getElem_mem h5;have hs:¬ 64<p.c[i].length→∀ x∈p.c.take (i+1),¬64<x.length:=all_take' (P:=fun x=>¬ 64<x.length) h5 hg;generalize p.c[i]=x at hx hs hm;have hlx:(x.map zI).length=x.length:=List.length_map ..;by_cases h0:64<x.length
  ·rw[hg1 ⟨x,hm,h0⟩];refine wa ?_;exact⟨.d rfl (.inl rfl),trivial⟩
  ·refine wa ?_;exact⟨i+1,⟨h5,hs h0⟩,by omega,⟨rfl,rfl,rfl,trivial⟩,trivial⟩
 ·rw[List.take_of_length_le (by omega)]at hg;rw[hg0 hg];refine wa ?_;exact⟨.d rfl (.inl rfl),trivial⟩
theorem great14(p:SP)(ha:p.a.length≤1000000000)(hn:p.c.length≤1000000000):Fn Tryz.prog 91 [.g (enSPQ p)] [.d (.v (.bool (decide (greatP p))))]:=by
 have hla:(p.a.map enAQ).length=p.a.length:=List.length_map ..;have hlc:(p.c.map enCl).length=p.c.length:=List.length_map ..;by_cases h1:400<p.r
 ·rw[decide_eq_true (.inl h1)];refine Fn.of Tryz.func91 rfl (by kernel_rfl) Tryz.ntmps91 Tryz.results91 rfl fun w0 S0=>?_;refine wa ?_;exact⟨.d rfl (.inl rfl),trivial⟩
 by_cases h2:1000<p.b
 ·rw[decide_eq_true (.inr (.inl h2))];refine Fn.of Tryz.func91 rfl (by kernel_rfl) Tryz.ntmps91 Tryz.results91 rfl fun w0 S0=>?_;refine wa ?_;exact⟨.d rfl (.inl rfl),trivial⟩
 by_cases h3:2000<p.a.length
 ·rw[decide_eq_true (.inr (.inr (.inl h3)))];refine Fn.of Tryz.func91 rfl (by kernel_rfl) Tryz.ntmps91 Tryz.results91 rfl fun w0 S0=>?_;refine wa ?_;exact⟨.d rfl (.inl rfl),trivial⟩
 by_cases h4:4000<p.c.length
 ·rw[decide_eq_true (.inr (.inr (.inr (.inl h4))))];refine Fn.of Tryz.func91 rfl (by kernel_rfl) Tryz.ntmps91 Tryz.results91 rfl fun w0 S0=>?_;refine wa ?_;exact⟨.d rfl (.inl rfl),trivial⟩
 have hg0:=great_no (p:=p) h1 h2 h3 h4;have hg1:(∃x∈p.c,64<x.length)→decide (greatP p)=true:=fun h=>decide_eq_true (.inr (.inr (.inr (.inr h))));generalize decide (greatP p)=R at hg0 hg1 ⊢;refine Fn.of Tryz.func91 rfl (by kernel_rfl) Tryz.ntmps91 Tryz.results91 rfl fun w0 S0=>?_;refine wa ?_;refine AC.loop (X:=Nat) (fun i=>⟨[(26,.d (.l (p.c.map enCl))),(27,.d (.v (.int .i64 (p.c.length:Int)))),(28,.d (.v (.int .i64 (i:Int))))],[]⟩) (fun i=>i≤p.c.length∧∀ x∈p.c.take i,¬64<x.length) (fun i=>p.c.length-i) 0 ⟨Nat.zero_le _,fun l hl=>by simp at hl⟩ ⟨rfl,rfl,rfl,trivial⟩ trivial ?_;intro i ⟨hi,hg⟩;dsimp only at hi hg ⊢;by_cases h5:i<p.c.length
 ·have hx:=List.getElem?_eq_getElem h5;have hm:=List.getElem_mem h5;have hs:¬ 64<p.c[i].length→∀ x∈p.c.take (i+1),¬64<x.length:=all_take' (P:=fun x=>¬ 64<x.length) h5 hg;generalize p.c[i]=x at hx hs hm;have hlx:(x.map zI).length=x.length:=List.length_map ..;by_cases h0:64<x.length
  ·rw[hg1 ⟨x,hm,h0⟩];refine wa ?_;exact⟨.d rfl (.inl rfl),trivial⟩
  ·refine wa ?_;exact⟨i+1,⟨h5,hs h0⟩,by omega,⟨rfl,rfl,rfl,trivial⟩,trivial⟩
 ·rw[List.take_of_length_le (by omega)]at hg;rw[hg0 hg];refine wa ?_;exact⟨.d rfl (.inl rfl),trivial⟩
theorem smtInside(p:SP)(a:At)(hn:a.e.t.length≤1000000000):Fn Tryz.prog 59 [.g (enSP p),.g (enA a)] [.d (.v (.bool (decide (insA p.r a))))]:=by
 have hlc:(a.e.t.map enT).length=a.e.t.length:=List.length_map ..;have hg0:(∀t∈a.e.t,0≤t.1∧t.1<p.r)→decide (insA p.r a)=true:=fun h=>decide_eq_true h;have hg1:(∃t∈a.e.t,¬(0≤t.1∧t.1<p.r))→decide (insA p.r a)=false:=fun⟨t,h,h1⟩=>decide_eq_false fun h2=>h1 (h2 t h);generalize decide (insA p.r a)=R at hg0 hg1 ⊢;refine Fn.of Tryz.func59 rfl (by kernel_rfl) Tryz.ntmps59 Tryz.results59 rfl fun w0 S0=>?_;refine wa ?_;refine AC.loop (X:=Nat) (fun i=>⟨[(2,.p 2 0),(9,.d (.l (a.e.t.map enT))),(10,.d (.v (.int .i64 (a.e.t.length:Int)))),(11,.d (.v (.int .i64 (i:Int))))],[(2,.box 29 ((enSP p).map .d))]⟩) (fun i=>i≤a.e.t.length∧∀ x∈a.e.t.take i,0≤x.1∧x.1<p.r) (fun i=>a.e.t.length-i) 0 ⟨Nat.zero_le _,fun l hl=>by simp at hl⟩ ⟨rfl,rfl,rfl,rfl,trivial⟩ ⟨rfl,trivial⟩ ?_;intro i ⟨hi,hg⟩;dsimp only at hi hg ⊢;by_cases h5:i<a.e.t.length
 ·have hx:=List.getElem?_eq_getElem h5;have hm:=List.getElem_mem h5;have hs:(0≤a.e.t[i].1∧a.e.t[i].1<p.r)→∀ x∈a.e.t.take (i+1),0≤x.1∧x.1<p.r:=all_take' (P:=fun x=>0≤x.1∧x.1<p.r) h5 hg;generalize a.e.t[i]=x at hx hs hm;obtain⟨v,q⟩:=x;dsimp only at hs;by_cases h0:v<0
  ·rw[hg1 ⟨(v,q),hm,by dsimp only;omega⟩];refine wa ?_;exact⟨.d rfl (.inl rfl),trivial⟩
  by_cases h1:p.r≤v
  ·rw[hg1 ⟨(v,q),hm,by dsimp only;omega⟩];refine wa ?_;exact⟨.d rfl (.inl rfl),trivial⟩
  ·refine wa ?_;exact⟨i+1,⟨h5,hs (by omega)⟩,by omega,⟨rfl,rfl,rfl,rfl,trivial⟩,⟨rfl,trivial⟩⟩
 ·rw[List.take_of_length_le (by omega)]at hg;rw[hg0 hg];refine wa ?_;exact⟨.d rfl (.inl rfl),trivial⟩
theorem inside14(p:SP)(a:At)(hn:a.e.t.length≤1000000000):Fn Tryz.prog 92 [.g (enSPQ p),.g (enAQ a)] [.d (.v (.bool (decide (insA p.r a))))]:=by
 have hlc:(a.e.t.map enTQ).length=a.e.t.length:=List.length_map ..;have hg0:(∀t∈a.e.t,0≤t.1∧t.1<p.r)→decide (insA p.r a)=true:=fun h=>decide_eq_true h;have hg1:(∃t∈a.e.t,¬(0≤t.1∧t.1<p.r))→decide (insA p.r a)=false:=fun⟨t,h,h1⟩=>decide_eq_false fun h2=>h1 (h2 t h);generalize decide (insA p.r a)=R at hg0 hg1 ⊢;refine Fn.of Tryz.func92 rfl (by kernel_rfl) Tryz.ntmps92 Tryz.results92 rfl fun w0 S0=>?_;refine wa ?_;refine AC.loop (X:=Nat) (fun i=>⟨[(2,.p 2 0),(9,.d (.l (a.e.t.map enTQ))),(10,.d (.v (.int .i64 (a.e.t.length:Int)))),(11,.d (.v (.int .i64 (i:Int))))],[(2,.box 42 ((enSPQ p).map .d))]⟩) (fun i=>i≤a.e.t.length∧∀ x∈a.e.t.take i,0≤x.1∧x.1<p.r) (fun i=>a.e.t.length-i) 0 ⟨Nat.zero_le _,fun l hl=>by simp at hl⟩ ⟨rfl,rfl,rfl,rfl,trivial⟩ ⟨rfl,trivial⟩ ?_;intro i ⟨hi,hg⟩;dsimp only at hi hg ⊢;by_cases h5:i<a.e.t.length
 ·have hx:=List.getElem?_eq_getElem h5;have hm:=List.getElem_mem h5;have hs:(0≤a.e.t[i].1∧a.e.t[i].1<p.r)→∀ x∈a.e.t.take (i+1),0≤x.1∧x.1<p.r:=all_take' (P:=fun x=>0≤x.1∧x.1<p.r) h5 hg;generalize a.e.t[i]=x at hx hs hm;obtain⟨v,q⟩:=x;dsimp only at hs;by_cases h0:v<0
  ·rw[hg1 ⟨(v,q),hm,by dsimp only;omega⟩];refine wa ?_;exact⟨.d rfl (.inl rfl),trivial⟩
  by_cases h1:p.r≤v
  ·rw[hg1 ⟨(v,q),hm,by dsimp only;omega⟩];refine wa ?_;exact⟨.d rfl (.inl rfl),trivial⟩
  ·refine wa ?_;exact⟨i+1,⟨h5,hs (by omega)⟩,by omega,⟨rfl,rfl,rfl,rfl,trivial⟩,⟨rfl,trivial⟩⟩
 ·rw[List.take_of_length_le (by omega)]at hg;rw[hg0 hg];refine wa ?_;exact⟨.d rfl (.inl rfl),trivial⟩
theorem kno_dec{b:Int}{n:Nat}{l:Int}(hok:okLi l):decide (knoL b n l)=decide (szI l≤b+n):=by
 by_cases h:szI l≤b+n
 ·rw[decide_eq_true h,decide_eq_true ⟨hok,h⟩]
 ·rw[decide_eq_false h,decide_eq_false fun k=>h k.2]
theorem smtKnown(p:SP)(l:Int)(hb:0≤p.b)(hb1:p.b≤1000)(hr:inR l)(hn:p.a.length≤1000000000):Fn Tryz.prog 60 [.g (enSP p),.d (.v (.int .i64 l))] [.d (.v (.bool (decide (knoL p.b p.a.length l))))]:=by
 have hla:(p.a.map enA).length=p.a.length:=List.length_map ..;by_cases h0:l=0
 ·rw[decide_eq_false fun h=>h.1.1 h0];refine Fn.of Tryz.func60 rfl (by kernel_rfl) Tryz.ntmps60 Tryz.results60 rfl fun w0 S0=>?_;refine wa ?_;exact⟨.d rfl (.inl rfl),trivial⟩
 by_cases h1:l= -9223372036854775808
 ·rw[decide_eq_false fun h=>by have:=h.1.2.1;omega];refine Fn.of Tryz.func60 rfl (by kernel_rfl) Tryz.ntmps60 Tryz.results60 rfl fun w0 S0=>?_;refine wa ?_;exact⟨.d rfl (.inl rfl),trivial⟩
 obtain⟨r1,r2⟩:=hr;have hok:okLi l:=⟨h0,by omega,r2⟩
 have m1:=max_sz hok;have w1:IntKind.i64.wrap (0-l)= -l:=by rw[Int.zero_sub];exact IntWalk.i64_in _ (by omega)
 obtain⟨z1,z2⟩:=szI_ok hok;rw[kno_dec hok];obtain⟨R,hR⟩:∃ R,decide (szI l≤p.b+p.a.length)=R:=⟨_,rfl⟩
 rw[hR];generalize szI l=z at m1 z1 z2 hR;refine Fn.of Tryz.func60 rfl (by kernel_rfl) Tryz.ntmps60 Tryz.results60 rfl fun w0 S0=>?_;refine wa ?_;((try (first | intro K ms hms hK | intro K hK));(first | apply Chain.go | apply Chain.goD);exact rfl;exact rfl;exact Loc.negM rfl rfl w1);refine wa ?_;((try (first | intro K ms hms hK | intro K hK));(first | apply Chain.go | apply Chain.goD);exact rfl;exact rfl;exact Loc.maxZ rfl rfl rfl m1);by_cases h2:z≤p.b+p.a.length
 ·rw[decide_eq_true h2]at hR;subst hR;refine wa ?_;exact⟨.d rfl (.inl rfl),trivial⟩
 ·rw[decide_eq_false h2]at hR;subst hR;refine wa ?_;exact⟨.d rfl (.inl rfl),trivial⟩
theorem lits14(p:SP)(c:List Int)(hb:0≤p.b)(hb1:p.b≤1000)(hr:∀ l∈c,inR l)(hc:c.length≤1000000000)(hn:p.a.length≤1000000000):Fn Tryz.prog 97 [.g (enSPQ p),.d (enZ c)] [.d (.v (.bool (decide (∀l∈c,knoL p.b p.a.length l))))]:=by
 have hla:(p.a.map enAQ).length=p.a.length:=List.length_map ..;have hlc:(c.map zI).length=c.length:=List.length_map ..;have hg0:(∀l∈c,knoL p.b p.a.length l)→decide (∀l∈c,knoL p.b p.a.length l)=true:=fun h=>decide_eq_true h;have hg1:(∃l∈c,¬knoL p.b p.a.length l)→decide (∀l∈c,knoL p.b p.a.length l)=false:=fun⟨t,h,h1⟩=>decide_eq_false fun h2=>h1 (h2 t h);generalize decide (∀l∈c,knoL p.b p.a.length l)=R at hg0 hg1 ⊢;refine Fn.of Tryz.func97 rfl (by kernel_rfl) Tryz.ntmps97 Tryz.results97 rfl fun w0 S0=>?_;refine wa ?_;refine AC.loop (X:=Nat) (fun i=>⟨[(2,.p 2 0),(7,.d (enZ c)),(8,.d (.v (.int .i64 (c.length:Int)))),(9,.d (.v (.int .i64 (i:Int))))],[(2,.box 42 ((enSPQ p).map .d))]⟩) (fun i=>i≤c.length∧∀ x∈c.take i,knoL p.b p.a.length x) (fun i=>c.length-i) 0 ⟨Nat.zero_le _,fun l hl=>by simp at hl⟩ ⟨rfl,rfl,rfl,rfl,trivial⟩ ⟨rfl,trivial⟩ ?_;intro i ⟨hi,hg⟩;dsimp only at hi hg ⊢;by_cases h5:i<c.length
 ·have hx:=List.getElem?_eq_getElem h5;have hm:=List.getElem_mem h5;have hs:knoL p.b p.a.length c[i]→∀ x∈c.take (i+1),knoL p.b p.a.length x:=all_take' (P:=knoL p.b p.a.length) h5 hg;obtain⟨r1,r2⟩:=hr _ hm;generalize c[i]=l at hx hs hm r1 r2;by_cases h0:l=0
  ·rw[hg1 ⟨l,hm,fun h=>h.1.1 h0⟩];refine wa ?_;exact⟨.d rfl (.inl rfl),trivial⟩
  by_cases h1:l= -9223372036854775808
  ·rw[hg1 ⟨l,hm,fun h=>by have:=h.1.2.1;omega⟩];refine wa ?_;exact⟨.d rfl (.inl rfl),trivial⟩
  have hok:okLi l:=⟨h0,by omega,r2⟩
  have m1:=max_sz hok;have w1:IntKind.i64.wrap (0-l)= -l:=by rw[Int.zero_sub];exact IntWalk.i64_in _ (by omega)
  obtain⟨z1,z2⟩:=szI_ok hok;have hno:p.b+p.a.length<szI l→∃ l∈c,¬knoL p.b p.a.length l:=fun h=>⟨l,hm,fun k=>by have:=k.2;omega⟩
  have hyes:szI l≤p.b+p.a.length→knoL p.b p.a.length l:=fun h=>⟨hok,h⟩
  generalize szI l=z at m1 z1 z2 hno hyes ⊢;refine wa ?_;((try (first | intro K ms hms hK | intro K hK));(first | apply Chain.go | apply Chain.goD);exact rfl;exact rfl;exact Loc.negM rfl rfl w1);refine wa ?_;((try (first | intro K ms hms hK | intro K hK));(first | apply Chain.go | apply Chain.goD);exact rfl;exact rfl;exact Loc.maxZ rfl rfl rfl m1);by_cases h2:z≤p.b+p.a.length
  ·refine wa ?_;exact⟨i+1,⟨h5,hs (hyes h2)⟩,by omega,⟨rfl,rfl,rfl,rfl,trivial⟩,⟨rfl,trivial⟩⟩
  ·obtain rfl:=hg1 (hno (by omega));refine wa ?_;exact⟨.d rfl (.inl rfl),trivial⟩
 ·rw[List.take_of_length_le (by omega)]at hg;rw[hg0 hg];refine wa ?_;exact⟨.d rfl (.inl rfl),trivial⟩
end Go.Proofs.YtbbpecfapohlaaaGreatDoor
