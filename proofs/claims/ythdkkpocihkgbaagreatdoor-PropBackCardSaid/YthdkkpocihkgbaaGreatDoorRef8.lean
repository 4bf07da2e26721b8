import Derived.Test.YthdkkpocihkgbaaGreatDoorLawE
import Derived.Test.YthdkkpocihkgbaaGreatDoorTb
set_option maxRecDepth 100000
set_option maxHeartbeats 2000000
namespace Go.Proofs.YthdkkpocihkgbaaGreatDoor
open Go.RowKit
attribute [local irreducible] AC Do St
theorem coef_take{l:List Tm}{i:Nat}(hi:i<l.length)(v:Int):coef (l.take (i+1)) v=coef (l.take i) v+(if l[i].1=v then l[i].2 else 0):=by
 rw[List.take_succ_eq_append_getElem hi,coef_append];simp only[coef];grind
theorem coef_bd{k:Nat}{l:List Tm}(h:∀ t∈l,Bd k t.2)(v:Int):∀ i,i≤l.length→Bd ((i+1)*(k+1)) (coef (l.take i) v):=by
 intro i
 induction i with
 | zero=>intro _;simp only[List.take_zero,coef];exact Bd.zero (by omega)
 | succ i ih=>
   intro hi;have h1:=ih (by omega);rw[coef_take (by omega)];have e:(i+1+1)*(k+1)=(i+1)*(k+1)+k+1:=by rw[Nat.add_mul (i+1) 1];omega
   rw[e];split
   ·exact h1.add (h _ (List.getElem_mem _))
   ·have:coef (l.take i) v+0=coef (l.take i) v:=by grind
    rw[this];exact h1.mono (by omega)
theorem sgnR_zero{q:Rat}:sgnR q=0↔q=0:=by
 unfold sgnR;constructor
 ·intro h;split at h
  ·omega
  ·split at h
   ·rename_i h2;exact Rat.num_eq_zero.1 h2
   ·omega
 ·intro h;subst h;rfl
theorem coefTQ(e:Ex)(v:Int)(hk:tb e.t+2≤50000000):Fn Tryz.prog 143 [.g (enEQ e),.d (.v (.int .i64 v))] [.g (enQ (coef e.t v))]:=by
 have hlen:e.t.length≤50000000:=by have:=tb_len e.t;omega
 refine Fn.of Tryz.func143 rfl (by kernel_rfl) Tryz.ntmps143 Tryz.results143 rfl fun w0 S0=>?_;refine wk ?_;(first | intro K ms hms hK | intro K hK);((first | apply Chain.go | apply Chain.goD);exact rfl;exact rfl;refine Loc.callG (qInt 0 (by omega) (by omega)) rfl ?_;(repeat (first | exact trivial | refine⟨.inl rfl,?_⟩ | refine⟨.inr rfl,?_⟩)));refine wk ?_;refine AC.loop (X:=Nat) (fun i=>⟨[(1,.d (.v (.int .i64 v))),(4,.p 4 0),(5,.p 5 0),(10,.d (.l (e.t.map enTQ))),(11,.d (.v (.int .i64 (e.t.length:Int)))),(12,.d (.v (.int .i64 (i:Int))))],[(4,.box 136 [.d (.v (.bool false)),.d .n,.d .n]),(5,.box 136 ((enQ (coef (e.t.take i) v)).map .d))]⟩) (fun i=>i≤e.t.length) (fun i=>e.t.length-i) 0 (Nat.zero_le _) ⟨rfl,rfl,rfl,rfl,rfl,rfl,trivial⟩ ⟨rfl,rfl,trivial⟩ ?_;intro i hi;refine wk ?_;(first | intro K ms hms hK | intro K hK);(first | refine Chain.lss rfl rfl rfl rfl rfl (fun h1=>?_) (fun h1=>?_) | refine Chain.lssD rfl rfl rfl rfl rfl (fun h1=>?_) (fun h1=>?_))
 ·have hi':i<e.t.length:=by omega
  have hget:e.t[i]?=some e.t[i]:=List.getElem?_eq_getElem hi';have hct:=coef_take hi' v;have hmono:tb (e.t.take i)+1+bz e.t[i].2≤50000000:=by have:=tb_at hi';omega
  refine wk ?_;(first | intro K ms hms hK | intro K hK);(first | refine Chain.neq rfl rfl rfl rfl rfl (fun h2=>?_) (fun h2=>?_) | refine Chain.neqD rfl rfl rfl rfl rfl (fun h2=>?_) (fun h2=>?_))
  ·have hc':coef (e.t.take (i+1)) v=coef (e.t.take i) v:=by
    rw[hct,if_neg (by exact h2)];grind
   refine wk ?_;refine⟨i+1,by omega,by omega,⟨rfl,rfl,rfl,rfl,rfl,rfl,trivial⟩,⟨rfl,by rw[hc'];rfl,trivial⟩⟩
  ·have h2':e.t[i].1=v:=Classical.byContradiction fun h=>h2 h;rw[if_pos h2']at hct;refine wk ?_;(first | intro K ms hms hK | intro K hK);((first | apply Chain.go | apply Chain.goD);exact rfl;exact rfl;refine Loc.callD (qSign (coef (e.t.take i) v)) rfl ?_;(repeat (first | exact trivial | refine⟨.inl rfl,?_⟩ | refine⟨.inr rfl,?_⟩)));(first | refine Chain.eql rfl rfl rfl rfl rfl (fun h3=>?_) (fun h3=>?_) | refine Chain.eqlD rfl rfl rfl rfl rfl (fun h3=>?_) (fun h3=>?_))
   ·have hc':coef (e.t.take (i+1)) v=e.t[i].2:=by
     rw[hct,sgnR_zero.1 h3];grind
    refine wk ?_;refine⟨i+1,by omega,by omega,⟨rfl,rfl,rfl,rfl,rfl,rfl,trivial⟩,⟨rfl,by rw[hc'];rfl,trivial⟩⟩
   ·refine wk ?_;(first | intro K ms hms hK | intro K hK);((first | apply Chain.go | apply Chain.goD);exact rfl;exact rfl;refine Loc.callG (qAdd (coef_tb (e.t.take i) v) (bd_bz _) hmono) rfl ?_;(repeat (first | exact trivial | refine⟨.inl rfl,?_⟩ | refine⟨.inr rfl,?_⟩)));refine wk ?_;refine⟨i+1,by omega,by omega,⟨rfl,rfl,rfl,rfl,rfl,rfl,trivial⟩,⟨rfl,by rw[hct];rfl,trivial⟩⟩
 ·have hend:e.t.take i=e.t:=List.take_of_length_le (by omega);refine wk ?_;rw[hend];exact⟨.cn rfl rfl inferInstance rfl ⟨.inl rfl,.inl rfl,.inl rfl,trivial⟩,trivial⟩
theorem coefQ(e:Ex)(v:Int)(k:Nat)(ht:∀ t∈e.t,Bd k t.2)(hk:(e.t.length+2)*(k+1)≤50000000):Fn Tryz.prog 143 [.g (enEQ e),.d (.v (.int .i64 v))] [.g (enQ (coef e.t v))]:=coefTQ e v (by
 have:=tb_bd ht;have e1:(e.t.length+2)*(k+1)=e.t.length*(k+1)+2*(k+1):=Nat.add_mul ..;omega)
def evQ(e:Ex)(p:List Rat):Nat→Rat
 | 0=>e.c
 | i+1=>evQ e p i+coef e.t (i:Int)*p.getD i 0
theorem evQ_bd{k:Nat}{e:Ex}{p:List Rat}(hc:Bd k e.c)(ht:∀ t∈e.t,Bd k t.2)(hp:∀ q∈p,Bd k q):∀ i,i≤p.length→Bd ((i+1)*((e.t.length+2)*(k+1)+k+1)) (evQ e p i):=by
 intro i
 induction i with
 | zero=>intro _;exact hc.mono (by omega)
 | succ i ih=>
   intro hi;have h1:=ih (by omega);have h2:Bd ((e.t.length+1)*(k+1)) (coef e.t (i:Int)):=by
    have:=coef_bd ht (i:Int) e.t.length (Nat.le_refl _);rwa[List.take_length]at this
   have h3:Bd k (p.getD i 0):=by
    rw[List.getD_eq_getElem?_getD,List.getElem?_eq_getElem (by omega)];exact hp _ (List.getElem_mem _)
   refine(h1.add (h2.mul h3)).mono ?_;have e1:(i+1+1)*((e.t.length+2)*(k+1)+k+1)=(i+1)*((e.t.length+2)*(k+1)+k+1)+((e.t.length+2)*(k+1)+k+1):=by rw[Nat.add_mul (i+1) 1];omega
   have e2:(e.t.length+1)*(k+1)≤(e.t.length+2)*(k+1):=Nat.mul_le_mul_right _ (by omega);omega
theorem evalQ(e:Ex)(p:List Rat)(k:Nat)(hc:Bd k e.c)(ht:∀ t∈e.t,Bd k t.2)(hp:∀ q∈p,Bd k q)(hk:(p.length+2)*((e.t.length+2)*(k+1)+k+1)≤50000000):Fn Tryz.prog 84 [.g (enEQ e),.d (.l (p.map enQ))] [.g (enQ (evQ e p p.length))]:=by
 have hbd:=evQ_bd hc ht hp;have hlen:p.length≤50000000:=Nat.le_trans (Nat.le_trans (by omega) (Nat.le_mul_of_pos_right (p.length+2) (by omega:0<(e.t.length+2)*(k+1)+k+1))) hk;have hk2:(e.t.length+2)*(k+1)+k+1≤50000000:=Nat.le_trans (Nat.le_mul_of_pos_left _ (by omega:0<p.length+2)) hk;refine Fn.of Tryz.func84 rfl (by kernel_rfl) Tryz.ntmps84 Tryz.results84 rfl fun w0 S0=>?_;refine wk ?_;refine AC.loop (X:=Nat) (fun i=>⟨[(1,.d (.l (p.map enQ))),(2,.p 2 0),(4,.p 4 0),(5,.p 5 0),(10,.d (.v (.int .i64 (p.length:Int)))),(11,.d (.v (.int .i64 (i:Int))))],[(2,.box 175 ((enEQ e).map .d)),(4,.box 136 [.d (.v (.bool false)),.d .n,.d .n]),(5,.box 136 ((enQ (evQ e p i)).map .d))]⟩) (fun i=>i≤p.length) (fun i=>p.length-i) 0 (Nat.zero_le _) ⟨rfl,rfl,rfl,rfl,rfl,rfl,trivial⟩ ⟨rfl,rfl,rfl,trivial⟩ ?_;intro i hi;refine wk ?_;(first | intro K ms hms hK | intro K hK);(first | refine Chain.lss rfl rfl rfl rfl rfl (fun h1=>?_) (fun h1=>?_) | refine Chain.lssD rfl rfl rfl rfl rfl (fun h1=>?_) (fun h1=>?_))
 ·have hi':i<p.length:=by omega
  have hget:p[i]?=some p[i]:=List.getElem?_eq_getElem hi';have hgD:p.getD i 0=p[i]:=by rw[List.getD_eq_getElem?_getD,hget];rfl
  have h2:Bd ((e.t.length+1)*(k+1)) (coef e.t (i:Int)):=by
   have:=coef_bd ht (i:Int) e.t.length (Nat.le_refl _);rwa[List.take_length]at this
  have e2:(e.t.length+1)*(k+1)+(k+1)=(e.t.length+2)*(k+1):=by rw[Nat.add_mul (e.t.length+1) 1];omega
  have h3:Bd k p[i]:=hp _ (List.getElem_mem hi');have hb2:(i+1)*((e.t.length+2)*(k+1)+k+1)+((e.t.length+1)*(k+1)+k)≤50000000:=by
   have q1:(i+1+1)*((e.t.length+2)*(k+1)+k+1)≤(p.length+2)*((e.t.length+2)*(k+1)+k+1):=Nat.mul_le_mul_right _ (by omega);have q2:(i+1+1)*((e.t.length+2)*(k+1)+k+1)=(i+1)*((e.t.length+2)*(k+1)+k+1)+((e.t.length+2)*(k+1)+k+1):=by rw[Nat.add_mul (i+1) 1];omega
   omega
  refine wk ?_;(first | intro K ms hms hK | intro K hK);((first | apply Chain.go | apply Chain.goD);exact rfl;exact rfl;refine Loc.callG (coefQ e (i:Int) k ht (by omega)) rfl ?_;(repeat (first | exact trivial | refine⟨.inl rfl,?_⟩ | refine⟨.inr rfl,?_⟩)));refine wk ?_;((first | apply Chain.go | apply Chain.goD);exact rfl;exact rfl;refine Loc.callG (qMul h2 h3 (by omega)) rfl ?_;(repeat (first | exact trivial | refine⟨.inl rfl,?_⟩ | refine⟨.inr rfl,?_⟩)));refine wk ?_;((first | apply Chain.go | apply Chain.goD);exact rfl;exact rfl;refine Loc.callG (qAdd (hbd i hi) (h2.mul h3) hb2) rfl ?_;(repeat (first | exact trivial | refine⟨.inl rfl,?_⟩ | refine⟨.inr rfl,?_⟩)));refine wk ?_;refine⟨i+1,by omega,by omega,⟨rfl,rfl,rfl,rfl,rfl,rfl,trivial⟩,⟨rfl,rfl,by rw[evQ,hgD];rfl,trivial⟩⟩
 ·have hend:i=p.length:=by omega
  refine wk ?_;rw[←hend];exact⟨.cn rfl rfl inferInstance rfl ⟨.inl rfl,.inl rfl,.inl rfl,trivial⟩,trivial⟩
end Go.Proofs.YthdkkpocihkgbaaGreatDoor
namespace Go.Proofs.YthdkkpocihkgbaaGreatDoor
open Go.RowKit
attribute [local irreducible] AC Do St
def tot(es:List Ex):Nat:=(es.map fun e=>e.t.length).sum
end Go.Proofs.YthdkkpocihkgbaaGreatDoor
namespace Go.Proofs.YthdkkpocihkgbaaGreatDoor
open Go.RowKit
attribute [local irreducible] AC Do St
structure Sm(N k:Nat)(e:Ex):Prop where
 c:Bd k e.c
 t:∀ t∈e.t,Bd k t.2
 n:e.t.length≤N
theorem Sm.k{N k:Nat}:k+1≤(N+2)*(k+1):=Nat.le_mul_of_pos_left _ (by omega)
theorem Sm.len{N k:Nat}{e:Ex}(h:Sm N k e)(M:Nat)(hk:(N+2)*(k+1)≤M):e.t.length≤M:=by
 have:=h.n;have:N+2≤(N+2)*(k+1):=Nat.le_mul_of_pos_right _ (by omega);omega
end Go.Proofs.YthdkkpocihkgbaaGreatDoor
namespace Go.Proofs.YthdkkpocihkgbaaGreatDoor
open Go.RowKit
attribute [local irreducible] AC Do St
structure At where
 e:Ex
 op:Int
def enA(a:At):List D:=enE a.e++[.v (.int .i64 a.op)]
def enAQ(a:At):List D:=enEQ a.e++[.v (.int .i64 a.op)]
def sayB(op:Int)(q:Rat):Bool:=if op=1 then decide (sgnR q≤0)else if op=2 then decide (sgnR q<0)else decide (sgnR q=0)
theorem saysQ(op:Int)(q:Rat):Fn Tryz.prog 83 [.d (.v (.int .i64 op)),.g (enQ q)] [.d (.v (.bool (sayB op q)))]:=by
 refine Fn.of Tryz.func83 rfl (by kernel_rfl) Tryz.ntmps83 Tryz.results83 rfl fun w0 S0=>?_;refine wk ?_;refine c1 (qSign q) ?_;refine wk ?_;refine s1 (fun h1=>?_) (fun h1=>?_)
 ·have hs:sayB op q=decide (sgnR q≤0):=by unfold sayB;rw[if_pos h1]
  refine wk ?_;refine s1 (fun h2=>?_) (fun h2=>?_)
  ·refine wk ?_;rw[hs,decide_eq_true h2];exact⟨.d rfl (.inl rfl),trivial⟩
  ·refine wk ?_;rw[hs,decide_eq_false h2];exact⟨.d rfl (.inl rfl),trivial⟩
 ·refine wk ?_;refine s1 (fun h2=>?_) (fun h2=>?_)
  ·have hs:sayB op q=decide (sgnR q<0):=by unfold sayB;rw[if_neg h1,if_pos h2]
   refine wk ?_;refine s1 (fun h3=>?_) (fun h3=>?_)
   ·refine wk ?_;rw[hs,decide_eq_true h3];exact⟨.d rfl (.inl rfl),trivial⟩
   ·refine wk ?_;rw[hs,decide_eq_false h3];exact⟨.d rfl (.inl rfl),trivial⟩
  ·have hs:sayB op q=decide (sgnR q=0):=by unfold sayB;rw[if_neg h1,if_neg h2]
   refine wk ?_;refine s1 (fun h3=>?_) (fun h3=>?_)
   ·refine wk ?_;rw[hs,decide_eq_true h3];exact⟨.d rfl (.inl rfl),trivial⟩
   ·refine wk ?_;rw[hs,decide_eq_false h3];exact⟨.d rfl (.inl rfl),trivial⟩
def okOp(op:Int):Prop:=1≤op∧op≤3
theorem checkA(a:At)(h:okOp a.op):Fn Tryz.prog 73 [.g (enA a)] [.d (.v (.int .i64 0))]:=by
 obtain⟨h1,h2⟩:=h;refine Fn.of Tryz.func73 rfl (by kernel_rfl) Tryz.ntmps73 Tryz.results73 rfl fun w0 S0=>?_;refine wk ?_;exact⟨.d rfl (.inl rfl),trivial⟩
theorem checkNo(a:At)(h:¬ okOp a.op):Fn Tryz.prog 73 [.g (enA a)] [.d (.v (.int .i64 4))]:=by
 unfold okOp at h;refine Fn.of Tryz.func73 rfl (by kernel_rfl) Tryz.ntmps73 Tryz.results73 rfl fun w0 S0=>?_;refine wk ?_;refine s1 (fun h1=>?_) (fun h1=>?_)
 ·refine wk ?_;exact⟨.d rfl (.inl rfl),trivial⟩
 ·have h2:3<a.op:=by omega
  refine wk ?_;exact⟨.d rfl (.inl rfl),trivial⟩
theorem saysR(op:Int)(q:Rat)(h:okOp op):Fn Tryz.prog 140 [.d (.v (.int .i64 op)),.g (enR q)] [.d (.v (.bool (sayB op q)))]:=by
 obtain⟨ho1,ho2⟩:=h;have key:∀ b:Bool,b=sayB op q→Fn Tryz.prog 140 [.d (.v (.int .i64 op)),.g (enR q)] [.d (.v (.bool b))]:=by
  intro b hb;refine Fn.of Tryz.func140 rfl (by kernel_rfl) Tryz.ntmps140 Tryz.results140 rfl fun w0 S0=>?_;refine wk ?_;refine c1 (ratSign q) ?_;refine wk ?_;refine s1 (fun h1=>?_) (fun h1=>?_)
  ·refine wk ?_;refine s1 (fun h2=>?_) (fun h2=>?_)
   ·have:b=true:=by
     rw[hb];unfold sayB;rw[h1];have:op=1∨op=3:=by omega
     rcases this with h | h<;>simp[h]
    refine wk ?_;rw[this];exact⟨.d rfl (.inl rfl),trivial⟩
   ·have h2':op=2:=Classical.byContradiction h2;have:b=false:=by rw[hb];unfold sayB;rw[h1];simp[h2']
    refine wk ?_;rw[this];exact⟨.d rfl (.inl rfl),trivial⟩
  ·refine wk ?_;refine s1 (fun h2=>?_) (fun h2=>?_)
   ·refine wk ?_;refine s1 (fun h3=>?_) (fun h3=>?_)
    ·have:b=true:=by
      rw[hb];unfold sayB;have:op=1∨op=2:=by omega
      rcases this with h | h
      ·simp[h];omega
      ·simp[h,h2]
     refine wk ?_;rw[this];exact⟨.d rfl (.inl rfl),trivial⟩
    ·have h3':op=3:=Classical.byContradiction h3;have:b=false:=by rw[hb];unfold sayB;simp[h3',h1]
     refine wk ?_;rw[this];exact⟨.d rfl (.inl rfl),trivial⟩
   ·have:b=false:=by
     rw[hb];unfold sayB;have:op=1∨op=2∨op=3:=by omega
     rcases this with h | h | h
     ·simp[h];omega
     ·simp[h];omega
     ·simp[h,h1]
    refine wk ?_;rw[this];exact⟨.d rfl (.inl rfl),trivial⟩
 exact key _ rfl
end Go.Proofs.YthdkkpocihkgbaaGreatDoor
