import Derived.Test.YtbbpecfapohlaaaGreatDoorBlB
import Derived.Test.YtbbpecfapohlaaaGreatDoorRtC
namespace Go.Proofs.YtbbpecfapohlaaaGreatDoor
open Go.RowKit
attribute [local irreducible] AC Do St
set_option maxRecDepth 100000
set_option maxHeartbeats 8000000
theorem bits_len0{n:Nat}:(n=0∧(bits n).length=0)∨(n≠0∧0<(bits n).length):=by
 rcases Nat.eq_zero_or_pos n with h | h
 ·exact .inl ⟨h,by rw[bits_eq_nil.2 h];rfl⟩
 ·exact .inr ⟨by omega,List.length_pos_iff.2 fun e=>by have:=bits_eq_nil.1 e;omega⟩
theorem bits_len1{n:Nat}(h:n≠1):(bits n).length≠1:=fun e=>h (by
 have h1:=bval_lt (bits n);rw[e,bits_val]at h1;have:n≠0:=fun e2=>by rw[e2,bits_eq_nil.2 rfl]at e;cases e
 omega)
theorem qLow(q:Rat):Fn Tryz.prog 188 [.g (enQ q)] [.d (enB (bits q.den))]:=by
 have h1:0<(bits q.den).length:=by rcases bits_len0 (n:=q.den)with h | h;exact absurd h.1 q.den_nz;exact h.2
 unfold enQ;refine Fn.of Tryz.func188 rfl (by kernel_rfl) Tryz.ntmps188 Tryz.results188 rfl fun w0 S0=>?_;refine wa ?_;exact⟨.d rfl (.inl rfl),trivial⟩
theorem qSign(p:Rat):Fn Tryz.prog 139 [.g (enQ p)] [.d (.v (.int .i64 (sgnR p)))]:=by
 rw[sgnR_pos];unfold enQ;rcases bits_len0 (n:=p.num.natAbs)with ⟨h1,h2⟩ | ⟨h1,h2⟩
 ·rw[if_pos h1];refine Fn.of Tryz.func139 rfl (by kernel_rfl) Tryz.ntmps139 Tryz.results139 rfl fun w0 S0=>?_;refine wa ?_;exact⟨.d rfl (.inl rfl),trivial⟩
 ·rw[if_neg h1];cases decide (p.num<0)
  all_goals
   refine Fn.of Tryz.func139 rfl (by kernel_rfl) Tryz.ntmps139 Tryz.results139 rfl fun w0 S0=>?_;refine wa ?_;exact⟨.d rfl (.inl rfl),trivial⟩
theorem qNeg(p:Rat):Fn Tryz.prog 112 [.g (enQ p)] [.g (enQ (-p))]:=by
 have hlo:=qLow p;unfold enQ at*;rw[show (-p).num= -p.num from rfl,show (-p).den=p.den from rfl,Int.natAbs_neg];rcases bits_len0 (n:=p.num.natAbs)with ⟨h1,h2⟩ | ⟨h1,h2⟩
 ·have e1:decide (-p.num<0)=false:=decide_eq_false (by omega);have e2:decide (p.num<0)=false:=decide_eq_false (by omega);rw[e2]at hlo;rw[e1,e2];refine Fn.of Tryz.func112 rfl (by kernel_rfl) Tryz.ntmps112 Tryz.results112 rfl fun w0 S0=>?_;refine wa ?_;exact⟨.cn rfl rfl inferInstance rfl ⟨.inl rfl,.inl rfl,.inl rfl,trivial⟩,trivial⟩
 ·have e1:decide (-p.num<0)=!decide (p.num<0):=by
   by_cases h:p.num<0
   ·rw[decide_eq_true h,decide_eq_false (show ¬ -p.num<0 by omega)];rfl
   ·rw[decide_eq_false h,decide_eq_true (show-p.num<0 by omega)];rfl
  rw[e1];generalize decide (p.num<0)=b at*;cases b
  all_goals
   refine Fn.of Tryz.func112 rfl (by kernel_rfl) Tryz.ntmps112 Tryz.results112 rfl fun w0 S0=>?_;refine wa ?_;exact⟨.cn rfl rfl inferInstance rfl ⟨.inl rfl,.inl rfl,.inl rfl,trivial⟩,trivial⟩
theorem qAbs(p:Rat):Fn Tryz.prog 158 [.g (enQ p)] [.g (enQ (absR p))]:=by
 have hlo:=qLow p;have e:enQ (absR p)=[.v (.bool false),enB (bits p.num.natAbs),enB (bits p.den)]:=by
  unfold enQ absR;split
  ·rename_i h;rw[show (-p).num= -p.num from rfl,show (-p).den=p.den from rfl,Int.natAbs_neg,decide_eq_false (by omega)]
  ·rename_i h;rw[decide_eq_false h]
 rw[e];unfold enQ at*;refine Fn.of Tryz.func158 rfl (by kernel_rfl) Tryz.ntmps158 Tryz.results158 rfl fun w0 S0=>?_;refine wa ?_;exact⟨.cn rfl rfl inferInstance rfl ⟨.inl rfl,.inl rfl,.inl rfl,trivial⟩,trivial⟩
theorem qOf(neg:Bool)(x y:Nat)(hl:(bits x).length≤100000000)(hm:(bits y).length≤100000000)(hy:0<y):Fn Tryz.prog 137 [.d (.v (.bool neg)),.d (enB (bits x)),.d (enB (bits y))] [.g (enQ (mkRat (sgn neg x) y))]:=by
 obtain⟨q1,q2,q3⟩:=made_num neg x y (by omega);unfold enQ;rw[q1,q2,q3];clear q1 q2 q3;by_cases h1:y=1
 ·subst h1;rw[Nat.gcd_one_right,Nat.div_one,Nat.div_one];have hb1:(bits 1).length=1:=by decide+kernel
  have hneg:neg=false∨(neg=true∧decide (0<x)=true∧0<(bits x).length)∨(neg=true∧decide (0<x)=false∧(bits x).length=0):=by
   cases neg
   ·exact .inl rfl
   ·rcases bits_len0 (n:=x)with h | h
    ·exact .inr (.inr ⟨rfl,decide_eq_false (by omega),h.2⟩)
    ·exact .inr (.inl ⟨rfl,decide_eq_true (by omega),h.2⟩)
  generalize decide (0<x)=bx at*;rcases hneg with rfl | ⟨rfl,rfl,e3⟩ | ⟨rfl,rfl,e3⟩
  all_goals
   refine Fn.of Tryz.func137 rfl (by kernel_rfl) Tryz.ntmps137 Tryz.results137 rfl fun w0 S0=>?_;refine wa ?_;exact⟨.cn rfl rfl inferInstance rfl ⟨.inl rfl,.inl rfl,.inl rfl,trivial⟩,trivial⟩
 ·have hb1:=bits_len1 h1;have hgp:0<Nat.gcd x y:=Nat.gcd_pos_of_pos_right _ hy;have hgl:(bits (Nat.gcd x y)).length≤100000000:=by rw[bits_len]at hm ⊢;exact Nat.le_trans (digs_len_mono (by decide) (Nat.gcd_le_right _ hy)) hm
  have hg:=bGcd x y (by omega) (by omega);have hd1:=qDivMod x (Nat.gcd x y) (by omega) (by omega) hgp;have hd2:=qDivMod y (Nat.gcd x y) (by omega) (by omega) hgp;have hneg:neg=false∨(neg=true∧decide (0<x)=true∧0<(bits (x / Nat.gcd x y)).length)∨(neg=true∧decide (0<x)=false∧(bits (x / Nat.gcd x y)).length=0):=by
   cases neg
   ·exact .inl rfl
   ·rcases Nat.eq_zero_or_pos x with h | h
    ·exact .inr (.inr ⟨rfl,decide_eq_false (by omega),by rw[h,Nat.zero_div,bits_eq_nil.2 rfl];rfl⟩)
    ·refine .inr (.inl ⟨rfl,decide_eq_true (by omega),?_⟩);have:=Nat.div_pos (Nat.le_of_dvd h (Nat.gcd_dvd_left x y)) hgp;rcases bits_len0 (n:=x / Nat.gcd x y)with h2 | h2
     ·omega
     ·exact h2.2
  generalize decide (0<x)=bx at*;generalize Nat.gcd x y=g at*;clear hgp hgl hy h1;rcases hneg with rfl | ⟨rfl,rfl,e3⟩ | ⟨rfl,rfl,e3⟩
  all_goals
   refine Fn.of Tryz.func137 rfl (by kernel_rfl) Tryz.ntmps137 Tryz.results137 rfl fun w0 S0=>?_;refine wa ?_;refine c1 hd1 ?_;refine wa ?_;exact⟨.cn rfl rfl inferInstance rfl ⟨.inl rfl,.inl rfl,.inl rfl,trivial⟩,trivial⟩
theorem bSum(an bn:Bool)(x y:Nat)(h1:(bits x).length≤100000000)(h2:(bits y).length≤100000000):Fn Tryz.prog 217 [.d (.v (.bool an)),.d (enB (bits x)),.d (.v (.bool bn)),.d (enB (bits y))] [.d (.v (.bool (sumS an x bn y).1)),.d (enB (bits (sumS an x bn y).2))]:=by
 unfold sumS;by_cases hb:an=bn
 ·have ha:=bAdd x y (by omega) (by omega);rw[if_pos hb];subst hb;cases an
  all_goals
   refine Fn.of Tryz.func217 rfl (by kernel_rfl) Tryz.ntmps217 Tryz.results217 rfl fun w0 S0=>?_;refine wa ?_;exact⟨.d rfl (.inl rfl),.d rfl (.inl rfl),trivial⟩
 ·rw[if_neg hb];have hc:=bCmp x y (by omega);by_cases hy:y≤x
  ·have hs:=bSub x y (by omega) hy;have hc0:0≤cmpN x y:=by
    rcases Nat.lt_or_ge y x with h | h
    ·rw[cmpN_gt h];decide
    ·rw[show x=y by omega,cmpN_eq];decide
   rw[if_pos hy];generalize cmpN x y=cc at*;cases an<;>cases bn<;>first | exact absurd rfl hb | skip
   all_goals
    refine Fn.of Tryz.func217 rfl (by kernel_rfl) Tryz.ntmps217 Tryz.results217 rfl fun w0 S0=>?_;refine wa ?_;exact⟨.d rfl (.inl rfl),.d rfl (.inl rfl),trivial⟩
  ·have hs:=bSub y x (by omega) (by omega);rw[cmpN_lt (by omega)]at hc;rw[if_neg hy];cases an<;>cases bn<;>first | exact absurd rfl hb | skip
   all_goals
    refine Fn.of Tryz.func217 rfl (by kernel_rfl) Tryz.ntmps217 Tryz.results217 rfl fun w0 S0=>?_;refine wa ?_;exact⟨.d rfl (.inl rfl),.d rfl (.inl rfl),trivial⟩
section
variable {k m:Nat}{p q:Rat}
theorem q_lens{k m:Nat}{p q:Rat}(h1:Bd k p)(h2:Bd m q)(hk:k+m≤50000000):(bits (p.num.natAbs*q.num.natAbs)).length≤50000000∧(bits (p.num.natAbs*q.den)).length≤50000000∧(bits (q.num.natAbs*p.den)).length≤50000000∧(bits (p.den*q.den)).length≤50000000∧(bits p.num.natAbs).length≤50000000∧(bits p.den).length≤50000000∧(bits q.num.natAbs).length≤50000000∧(bits q.den).length≤50000000:=by
 have key:∀ {n j:Nat},n<2^j→j≤50000000→(bits n).length≤50000000:=fun h hj=>Nat.le_trans (bits_len_le h) hj;refine⟨key (lt_pow_mul h1.1 h2.1) hk,key (lt_pow_mul h1.1 h2.2) hk,key (lt_pow_mul h2.1 h1.2) (by omega),key (lt_pow_mul h1.2 h2.2) hk,key h1.1 (by omega),key h1.2 (by omega),key h2.1 (by omega),key h2.2 (by omega)⟩
theorem qMul(h1:Bd k p)(h2:Bd m q)(hk:k+m≤50000000):Fn Tryz.prog 163 [.g (enQ p),.g (enQ q)] [.g (enQ (p*q))]:=by
 obtain⟨l1,l2,l3,l4,l5,l6,l7,l8⟩:=q_lens h1 h2 hk;have b1:=qLow p;have b2:=qLow q;have m1:=bMul p.num.natAbs q.num.natAbs (by omega);have m2:=bMul p.den q.den (by omega);have hd:=qOf (decide (p.num<0) != decide (q.num<0)) (p.num.natAbs*q.num.natAbs) (p.den*q.den) (by omega) (by omega) (Nat.mul_pos p.den_pos q.den_pos);rw[show p*q=mkRat (sgn (decide (p.num<0) != decide (q.num<0)) (p.num.natAbs*q.num.natAbs)) (p.den*q.den)from rat_mul_sgn rfl rfl rfl rfl rfl rfl];generalize mkRat (sgn (decide (p.num<0) != decide (q.num<0)) (p.num.natAbs*q.num.natAbs)) (p.den*q.den)=r at*;unfold enQ at*;refine Fn.of Tryz.func163 rfl (by kernel_rfl) Tryz.ntmps163 Tryz.results163 rfl fun w0 S0=>?_;refine wa ?_;refine c1 m1 ?_;refine wa ?_;refine c1 b1 ?_;refine wa ?_;exact⟨.cn rfl rfl inferInstance rfl ⟨.inl rfl,.inl rfl,.inl rfl,trivial⟩,trivial⟩
theorem qAdd(h1:Bd k p)(h2:Bd m q)(hk:k+m≤50000000):Fn Tryz.prog 140 [.g (enQ p),.g (enQ q)] [.g (enQ (p+q))]:=by
 obtain⟨l1,l2,l3,l4,l5,l6,l7,l8⟩:=q_lens h1 h2 hk;have b1:=qLow p;have b2:=qLow q;have m1:=bMul p.num.natAbs q.den (by omega);have m2:=bMul q.num.natAbs p.den (by omega);have m3:=bMul p.den q.den (by omega);have hs:=bSum (decide (p.num<0)) (decide (q.num<0)) (p.num.natAbs*q.den) (q.num.natAbs*p.den) (by omega) (by omega);have hsl:(bits (sumS (decide (p.num<0)) (p.num.natAbs*q.den) (decide (q.num<0)) (q.num.natAbs*p.den)).2).length≤100000000:=by
  refine Nat.le_trans (bits_len_le (k:=k+m+1) (Nat.lt_of_le_of_lt (sumS_le _ _ _ _) ?_)) (by omega);have g1:=lt_pow_mul h1.1 h2.2;have g2:=lt_pow_mul h2.1 h1.2;rw[Nat.add_comm m k]at g2;rw[Nat.pow_succ];omega
 have hd:=qOf (sumS (decide (p.num<0)) (p.num.natAbs*q.den) (decide (q.num<0)) (q.num.natAbs*p.den)).1 (sumS (decide (p.num<0)) (p.num.natAbs*q.den) (decide (q.num<0)) (q.num.natAbs*p.den)).2 (p.den*q.den) hsl (by omega) (Nat.mul_pos p.den_pos q.den_pos);rw[show p+q=mkRat (sgn (sumS (decide (p.num<0)) (p.num.natAbs*q.den) (decide (q.num<0)) (q.num.natAbs*p.den)).1 (sumS (decide (p.num<0)) (p.num.natAbs*q.den) (decide (q.num<0)) (q.num.natAbs*p.den)).2) (p.den*q.den)from rat_add_sum rfl rfl rfl rfl rfl rfl];generalize sumS (decide (p.num<0)) (p.num.natAbs*q.den) (decide (q.num<0)) (q.num.natAbs*p.den)=s at*;generalize mkRat (sgn s.1 s.2) (p.den*q.den)=r at*;unfold enQ at*;refine Fn.of Tryz.func140 rfl (by kernel_rfl) Tryz.ntmps140 Tryz.results140 rfl fun w0 S0=>?_;refine wa ?_;refine c1 m1 ?_;refine wa ?_;refine c1 b1 ?_;refine wa ?_;refine c1 m2 ?_;refine wa ?_;refine c1 b1 ?_;refine wa ?_;exact⟨.cn rfl rfl inferInstance rfl ⟨.inl rfl,.inl rfl,.inl rfl,trivial⟩,trivial⟩
theorem qCmp(h1:Bd k p)(h2:Bd m q)(hk:k+m≤50000000):Fn Tryz.prog 78 [.g (enQ p),.g (enQ q)] [.d (.v (.int .i64 (sgnR (p-q))))]:=by
 have hn:=qNeg q;have hs:=qAdd h1 h2.neg hk;rw[←Rat.sub_eq_add_neg]at hs;have hg:=qSign (p-q);generalize p-q=r at*;generalize-q=q' at*;unfold enQ at*;refine Fn.of Tryz.func78 rfl (by kernel_rfl) Tryz.ntmps78 Tryz.results78 rfl fun w0 S0=>?_;refine wa ?_;exact⟨.d rfl (.inl rfl),trivial⟩
theorem qInv(hp:p≠0):Fn Tryz.prog 159 [.g (enQ p)] [.g (enQ p⁻¹)]:=by
 have hn:p.num.natAbs≠0:=fun e=>hp (Rat.num_eq_zero.1 (by omega));have b1:=qLow p;have hc:Nat.gcd p.den p.num.natAbs=1:=by rw[Nat.gcd_comm];exact p.reduced
 obtain⟨q1,q2,q3⟩:=made_num (decide (p.num<0)) p.den p.num.natAbs hn;rw[←rat_inv_made p hp,hc,Nat.div_one]at q1 q2;rw[←rat_inv_made p hp,decide_eq_true p.den_pos,Bool.and_true]at q3
 try rw[Nat.div_one]at q2
 unfold enQ at*;rw[q1,q2,q3];refine Fn.of Tryz.func159 rfl (by kernel_rfl) Tryz.ntmps159 Tryz.results159 rfl fun w0 S0=>?_;refine wa ?_;exact⟨.cn rfl rfl inferInstance rfl ⟨.inl rfl,.inl rfl,.inl rfl,trivial⟩,trivial⟩
end
theorem qInt(n:Int)(h0: -9223372036854775808≤n)(h1:n≤9223372036854775807):Fn Tryz.prog 95 [.d (.v (.int .i64 n))] [.g (enQ n)]:=by
 have hw1:=bWord 1 (by decide);unfold enQ;rw[show (n:Rat).num=n from rfl,show (n:Rat).den=1 from rfl];have hcv:∀ z:Int,0≤z→z<18446744073709551616→IntKind.u64.wrap z=z:=fun z h2 h3=>by
  simp only[IntKind.wrap,IntKind.bits,IntKind.signed,Bool.false_and];rw[if_neg (by decide)];omega
 by_cases hn:n<0
 ·have hw:=bWord (n.natAbs-1) (by omega);have ha:=bAdd (n.natAbs-1) 1 (by have:=bits_len_le (n:=n.natAbs-1) (k:=64) (by omega);omega) (by decide+kernel);rw[show n.natAbs-1+1=n.natAbs by omega]at ha;rw[decide_eq_true hn];refine Fn.of Tryz.func95 rfl (by kernel_rfl) Tryz.ntmps95 Tryz.results95 rfl fun w0 S0=>?_;refine wa ?_;((try (first | intro K ms hms hK | intro K hK));(first | apply Chain.go | apply Chain.goD);exact rfl;exact rfl;exact Loc.neg rfl rfl (by rw[Int.zero_sub];exact IntWalk.i64_in _ (by omega)));((try (first | intro K ms hms hK | intro K hK));(first | apply Chain.go | apply Chain.goD);exact rfl;exact rfl;exact Loc.conv (m:=((n.natAbs-1:Nat):Int)) rfl rfl (by rw[hcv _ (by omega) (by omega)];omega));refine c1 hw ?_;refine wa ?_;refine c1 hw1 ?_;refine wa ?_;refine c1 hw1 ?_;refine wa ?_;exact⟨.cn rfl rfl inferInstance rfl ⟨.inl rfl,.inl rfl,.inl rfl,trivial⟩,trivial⟩
 ·have hw:=bWord n.natAbs (by omega);rw[decide_eq_false hn];refine Fn.of Tryz.func95 rfl (by kernel_rfl) Tryz.ntmps95 Tryz.results95 rfl fun w0 S0=>?_;refine wa ?_;((try (first | intro K ms hms hK | intro K hK));(first | apply Chain.go | apply Chain.goD);exact rfl;exact rfl;exact Loc.conv (m:=(n.natAbs:Int)) rfl rfl (by rw[hcv _ (by omega) (by omega)];omega));refine c1 hw ?_;refine wa ?_;refine c1 hw1 ?_;refine wa ?_;exact⟨.cn rfl rfl inferInstance rfl ⟨.inl rfl,.inl rfl,.inl rfl,trivial⟩,trivial⟩
theorem few(l:List Nat):Fn Tryz.prog 200 [.d (enL l)] [.d (enL (l.take 8))]:=by
 have hc:=copyU (l.take 8) (by simp;omega);by_cases h8:8<l.length
 ·refine Fn.of Tryz.func200 rfl (by kernel_rfl) Tryz.ntmps200 Tryz.results200 rfl fun w0 S0=>?_;refine wa ?_;((try (first | intro K ms hms hK | intro K hK));(first | apply Chain.go | apply Chain.goD);exact rfl;exact rfl;exact Loc.partM 8 rfl rfl rfl rfl (by omega));refine wa ?_;exact⟨.d rfl (.inl rfl),trivial⟩
 ·rw[List.take_of_length_le (by omega)]at hc ⊢;refine Fn.of Tryz.func200 rfl (by kernel_rfl) Tryz.ntmps200 Tryz.results200 rfl fun w0 S0=>?_;refine wa ?_;exact⟨.d rfl (.inl rfl),trivial⟩
theorem rat_back(p:Rat):mkRat (sgn (decide (p.num<0)) p.num.natAbs) p.den=p:=by
 have:sgn (decide (p.num<0)) p.num.natAbs=p.num:=by
  unfold sgn;by_cases h:p.num<0
  ·rw[if_pos (by simpa using h)];omega
  ·rw[if_neg (by simpa using h)];omega
 rw[this];exact Rat.mkRat_self p
theorem told{k:Nat}{p:Rat}(h1:Bd k p)(hk:k≤10000000):Fn Tryz.prog 74 [.g (enR p)] [.g (enQ p)]:=by
 have hp:=partsR h1 (by omega);have o1:=bitsOf (limbs p.num.natAbs) (Nat.le_trans (limbs_len_le' h1.1) hk) (limbsDg _);have o2:=bitsOf (limbs p.den) (Nat.le_trans (limbs_len_le' h1.2) hk) (limbsDg _);rw[limbs_val]at o1 o2;have hd:=qOf (decide (p.num<0)) p.num.natAbs p.den (Nat.le_trans (bits_len_le h1.1) (by omega)) (Nat.le_trans (bits_len_le h1.2) (by omega)) p.den_pos;rw[rat_back]at hd;have hl:0<(bits p.den).length:=by rcases bits_len0 (n:=p.den)with h | h;exact absurd h.1 p.den_nz;exact h.2
 unfold enR enQ at*;generalize decide (p.num<0)=b at*;generalize limbs p.num.natAbs=L at*;generalize denL p.den=D0 at*;generalize limbs p.den=D1 at*;refine Fn.of Tryz.func74 rfl (by kernel_rfl) Tryz.ntmps74 Tryz.results74 rfl fun w0 S0=>?_;refine wa ?_;refine c1 o1 ?_;refine wa ?_;exact⟨.cn rfl rfl inferInstance rfl ⟨.inl rfl,.inl rfl,.inl rfl,trivial⟩,trivial⟩
theorem ratMake(neg:Bool)(l m:List Nat)(hl:l.length≤100000000)(hm:m.length≤100000000)(hy:0<dval 4294967296 m)(hdl:∀ x∈l,x<4294967296)(hdm:∀ x∈m,x<4294967296):Fn Tryz.prog 201 [.d (.v (.bool neg)),.d (enL l),.d (enL m)] [.g (enR (mkRat (sgn neg (dval 4294967296 l)) (dval 4294967296 m))),.d (.v (.bool true))]:=makeR neg hdl hdm hl hm hy
def barL(d:List Nat):List Nat:=if dval 4294967296 (d.take 8)=0 then [1]else d.take 8
def numQ(nb:Bool)(x d:List Nat):Rat:=mkRat (sgn nb (dval 4294967296 (x.take 8))) (dval 4294967296 (barL d))
theorem barL_pos(d:List Nat):0<dval 4294967296 (barL d):=by
 unfold barL;by_cases h:dval 4294967296 (d.take 8)=0
 ·rw[if_pos h];decide
 ·rw[if_neg h];omega
theorem barL_len(d:List Nat):(barL d).length≤8:=by
 unfold barL;by_cases h:dval 4294967296 (d.take 8)=0
 ·rw[if_pos h];decide
 ·rw[if_neg h];simp;omega
end Go.Proofs.YtbbpecfapohlaaaGreatDoor
