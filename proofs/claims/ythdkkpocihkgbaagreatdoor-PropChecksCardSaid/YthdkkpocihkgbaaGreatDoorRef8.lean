import Derived.Test.YthdkkpocihkgbaaGreatDoorP1
import Derived.Test.YthdkkpocihkgbaaGreatDoorLawE
namespace Go.Proofs.YthdkkpocihkgbaaGreatDoor
open Go.RowKit
def bz(q:Rat):Nat:=max q.num.natAbs.log2 q.den.log2+1
theorem bd_bz(q:Rat):Bd (bz q) q:=by
 unfold Bd bz
 exact⟨Nat.lt_of_lt_of_le Nat.lt_log2_self (Nat.pow_le_pow_right (by omega) (by omega)),Nat.lt_of_lt_of_le Nat.lt_log2_self (Nat.pow_le_pow_right (by omega) (by omega))⟩
theorem bz_le{k:Nat}{q:Rat}(h:Bd k q):bz q≤k:=by
 unfold bz
 have h2:=(Nat.log2_lt q.den_nz).2 h.2
 have h1:q.num.natAbs.log2<k:=by
  rcases Nat.eq_zero_or_pos q.num.natAbs with h0 | h0
  ·rw[h0]
   have:Nat.log2 0=0:=by decide
   omega
  ·exact(Nat.log2_lt (by omega)).2 h.1
 omega
theorem bz_pos(q:Rat):1≤bz q:=by unfold bz;omega
theorem bz_bd{k:Nat}{q:Rat}(h:bz q≤k):Bd k q:=(bd_bz q).mono h
theorem bz_add(a b:Rat):bz (a+b)≤bz a+bz b+1:=bz_le ((bd_bz a).add (bd_bz b))
theorem bz_mul(a b:Rat):bz (a*b)≤bz a+bz b:=bz_le ((bd_bz a).mul (bd_bz b))
theorem bz_neg(a:Rat):bz (-a)=bz a:=Nat.le_antisymm (bz_le (bd_bz a).neg) (by have:=bz_le (bd_bz (-a)).neg;rwa[Rat.neg_neg]at this)
def tb:List Tm→Nat
 | []=>0
 | t::l=>bz t.2+1+tb l
theorem tb_app(l m:List Tm):tb (l++m)=tb l+tb m:=by
 induction l with
 | nil=>simp[tb]
 | cons t l ih=>simp only[List.cons_append,tb,ih];omega
theorem tb_perm{l m:List Tm}(h:l.Perm m):tb l=tb m:=by
 induction h with
 | nil=>rfl
 | cons t _ ih=>simp only[tb,ih]
 | swap t u l=>simp only[tb];omega
 | trans _ _ h1 h2=>rw[h1,h2]
theorem tb_take(l:List Tm)(i:Nat):tb (l.take i)≤tb l:=by
 have:=tb_app (l.take i) (l.drop i)
 rw[List.take_append_drop]at this
 omega
theorem tb_at{l:List Tm}{i:Nat}(h:i<l.length):tb (l.take i)+bz l[i].2+1≤tb l:=by
 have:=tb_take l (i+1)
 rw[List.take_succ_eq_append_getElem h,tb_app]at this
 simp only[tb]at this
 omega
theorem tb_mem{l:List Tm}{t:Tm}(h:t∈l):bz t.2+1≤tb l:=by
 obtain⟨i,hi,rfl⟩:=List.getElem_of_mem h
 have:=tb_at hi
 omega
theorem tb_len(l:List Tm):2*l.length≤tb l:=by
 induction l with
 | nil=>simp[tb]
 | cons t l ih=>
   simp only[tb,List.length_cons]
   have:=bz_pos t.2
   omega
theorem coef_tb(l:List Tm)(v:Int):Bd (tb l+1) (coef l v):=by
 induction l with
 | nil=>exact Bd.zero (by simp[tb])
 | cons t l ih=>
   rw[coef]
   split
   ·refine((bd_bz t.2).add ih).mono ?_
    simp only[tb]
    omega
   ·rw[Rat.zero_add]
    exact ih.mono (by simp only[tb];omega)
end Go.Proofs.YthdkkpocihkgbaaGreatDoor
namespace Go.Proofs.YthdkkpocihkgbaaGreatDoor
open Go.RowKit
attribute [local irreducible] AC Do St
end Go.Proofs.YthdkkpocihkgbaaGreatDoor
namespace Go.Proofs.YthdkkpocihkgbaaGreatDoor
open Go.RowKit
attribute [local irreducible] AC Do St
def tot(es:List Ex):Nat:=(es.map fun e=>e.t.length).sum
end Go.Proofs.YthdkkpocihkgbaaGreatDoor
namespace Go.Proofs.YthdkkpocihkgbaaGreatDoor
open Go.RowKit
attribute [local irreducible] AC Do St
structure Sm(N k:Nat)(e:Ex):Prop where
 c:Bd k e.c
 t:∀ t∈e.t,Bd k t.2
 n:e.t.length≤N
theorem Sm.k{N k:Nat}:k+1≤(N+2)*(k+1):=Nat.le_mul_of_pos_left _ (by omega)
theorem Sm.len{N k:Nat}{e:Ex}(h:Sm N k e)(M:Nat)(hk:(N+2)*(k+1)≤M):e.t.length≤M:=by
 have:=h.n
 have:N+2≤(N+2)*(k+1):=Nat.le_mul_of_pos_right _ (by omega)
 omega
end Go.Proofs.YthdkkpocihkgbaaGreatDoor
namespace Go.Proofs.YthdkkpocihkgbaaGreatDoor
open Go.RowKit
attribute [local irreducible] AC Do St
structure At where
 e:Ex
 op:Int
def enA(a:At):List D:=enE a.e++[.v (.int .i64 a.op)]
def enAQ(a:At):List D:=enEQ a.e++[.v (.int .i64 a.op)]
def sayB(op:Int)(q:Rat):Bool:=if op=1 then decide (sgnR q≤0)else if op=2 then decide (sgnR q<0)else decide (sgnR q=0)
def okOp(op:Int):Prop:=1≤op∧op≤3
set_option maxRecDepth 100000 in
set_option maxHeartbeats 2000000 in
theorem checkA(a:At)(h:okOp a.op):Fn Tryz.prog 73 [.g (enA a)] [.d (.v (.int .i64 0))]:=by
 obtain⟨h1,h2⟩:=h
 refine Fn.of Tryz.func73 rfl (by kernel_rfl) Tryz.ntmps73 Tryz.results73 rfl fun w0 S0=>?_
 refine wk ?_
 exact⟨.d rfl (.inl rfl),trivial⟩
set_option maxRecDepth 100000 in
set_option maxHeartbeats 2000000 in
theorem checkNo(a:At)(h:¬ okOp a.op):Fn Tryz.prog 73 [.g (enA a)] [.d (.v (.int .i64 4))]:=by
 unfold okOp at h
 refine Fn.of Tryz.func73 rfl (by kernel_rfl) Tryz.ntmps73 Tryz.results73 rfl fun w0 S0=>?_
 refine wk ?_
 refine s1 (fun h1=>?_) (fun h1=>?_)
 ·refine wk ?_
  exact⟨.d rfl (.inl rfl),trivial⟩
 ·have h2:3<a.op:=by omega
  refine wk ?_
  exact⟨.d rfl (.inl rfl),trivial⟩
set_option maxRecDepth 100000 in
set_option maxHeartbeats 2000000 in
theorem saysR(op:Int)(q:Rat)(h:okOp op):Fn Tryz.prog 140 [.d (.v (.int .i64 op)),.g (enR q)] [.d (.v (.bool (sayB op q)))]:=by
 obtain⟨ho1,ho2⟩:=h
 have key:∀ b:Bool,b=sayB op q→Fn Tryz.prog 140 [.d (.v (.int .i64 op)),.g (enR q)] [.d (.v (.bool b))]:=by
  intro b hb
  refine Fn.of Tryz.func140 rfl (by kernel_rfl) Tryz.ntmps140 Tryz.results140 rfl fun w0 S0=>?_
  refine wk ?_
  refine c1 (ratSign q) ?_
  refine wk ?_
  refine s1 (fun h1=>?_) (fun h1=>?_)
  ·refine wk ?_
   refine s1 (fun h2=>?_) (fun h2=>?_)
   ·have:b=true:=by
     rw[hb];unfold sayB;rw[h1]
     have:op=1∨op=3:=by omega
     rcases this with h | h<;>simp[h]
    refine wk ?_
    rw[this]
    exact⟨.d rfl (.inl rfl),trivial⟩
   ·have h2':op=2:=Classical.byContradiction h2
    have:b=false:=by rw[hb];unfold sayB;rw[h1];simp[h2']
    refine wk ?_
    rw[this]
    exact⟨.d rfl (.inl rfl),trivial⟩
  ·refine wk ?_
   refine s1 (fun h2=>?_) (fun h2=>?_)
   ·refine wk ?_
    refine s1 (fun h3=>?_) (fun h3=>?_)
    ·have:b=true:=by
      rw[hb];unfold sayB
      have:op=1∨op=2:=by omega
      rcases this with h | h
      ·simp[h];omega
      ·simp[h,h2]
     refine wk ?_
     rw[this]
     exact⟨.d rfl (.inl rfl),trivial⟩
    ·have h3':op=3:=Classical.byContradiction h3
     have:b=false:=by rw[hb];unfold sayB;simp[h3',h1]
     refine wk ?_
     rw[this]
     exact⟨.d rfl (.inl rfl),trivial⟩
   ·have:b=false:=by
     rw[hb];unfold sayB
     have:op=1∨op=2∨op=3:=by omega
     rcases this with h | h | h
     ·simp[h];omega
     ·simp[h];omega
     ·simp[h,h1]
    refine wk ?_
    rw[this]
    exact⟨.d rfl (.inl rfl),trivial⟩
 exact key _ rfl
end Go.Proofs.YthdkkpocihkgbaaGreatDoor
