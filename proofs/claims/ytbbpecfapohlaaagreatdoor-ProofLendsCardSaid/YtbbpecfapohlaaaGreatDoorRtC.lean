import Derived.Test.YtbbpecfapohlaaaGreatDoorRtB
namespace Go.Proofs.YtbbpecfapohlaaaGreatDoor
open Go.RowKit
attribute [local irreducible] AC Do St
set_option maxRecDepth 100000
set_option maxHeartbeats 4000000
theorem makeR(neg:Bool){l m:List Nat}(hl:DgU l)(hm:DgU m)(h1:l.length≤100000000)(h2:m.length≤100000000)(hy:0<dval 4294967296 m):Fn Tryz.prog 201 [.d (.v (.bool neg)),.d (enL l),.d (enL m)] [.g (enR (mkRat (sgn neg (dval 4294967296 l)) (dval 4294967296 m))),.d (.v (.bool true))]:=by
 have hmd:=madeR neg hl hm h1 h2 hy;obtain⟨b,hb0,hb⟩:=bitsP hm hy h2;refine Fn.of Tryz.func201 rfl (by kernel_rfl) Tryz.ntmps201 Tryz.results201 rfl fun w0 S0=>?_;refine wa ?_;exact⟨.cn rfl rfl inferInstance rfl ⟨.inl rfl,.inl rfl,.inl rfl,trivial⟩,.d rfl (.inl rfl),trivial⟩
theorem madeU(neg:Bool){x y:Nat}(h1:(limbs x).length≤100000000)(h2:(limbs y).length≤100000000)(hy:0<y):Fn Tryz.prog 238 [.d (.v (.bool neg)),.d (enL (limbs x)),.d (enL (limbs y))] [.g (enR (mkRat (sgn neg x) y))]:=by
 have:=madeR neg (limbsDg x) (limbsDg y) h1 h2 (by rwa[limbs_val]);rwa[limbs_val,limbs_val]at this
theorem Loc.negW{P:Program}{C:Cx}{o:Oper}{σ:AS}{T:TypeId}{x:Operand}{k:IntKind}{a m:Int}(ho:o.op= .unOp .neg T x)(hx:ev σ x= .d (.v (.int k a)))(hr:k.wrap (0-a)=m):Loc P C o σ (.d (.v (.int k m))):=
 Loc.one (by rw[ho];simp[Op.operands]) hx fun S w β O c h=>⟨_,by unfold execOp;rw[ho];simp[RA.val h,Op.unary,Op.intArith];simpa using hr,.mk rfl⟩
theorem ratInt(n:Int)(h0: -9223372036854775808≤n)(h1:n≤9223372036854775807):Fn Tryz.prog 72 [.d (.v (.int .i64 n))] [.g (enR n)]:=by
 have hw:=wordG n.natAbs (by omega);have hd:denL ((n:Rat).den)=[]:=if_pos rfl;unfold enR;rw[show (n:Rat).num=n from rfl,hd];have hcv:IntKind.u64.wrap n=if n<0 then n+18446744073709551616 else n:=by
  simp only[IntKind.wrap,IntKind.bits,IntKind.signed,Bool.false_and];rw[if_neg (by decide)];split<;>omega
 by_cases hn:n<0
 ·rw[if_pos hn]at hcv;rw[decide_eq_true hn];refine Fn.of Tryz.func72 rfl (by kernel_rfl) Tryz.ntmps72 Tryz.results72 rfl fun w0 S0=>?_;refine wa ?_;((try (first | intro K ms hms hK | intro K hK));(first | apply Chain.go | apply Chain.goD);exact rfl;exact rfl;exact Loc.conv (m:=n+18446744073709551616) rfl rfl hcv);refine wa ?_;((try (first | intro K ms hms hK | intro K hK));(first | apply Chain.go | apply Chain.goD);exact rfl;exact rfl;exact Loc.negW (m:=(n.natAbs:Int)) rfl rfl (by simp only[IntKind.wrap,IntKind.bits,IntKind.signed,Bool.false_and];rw[if_neg (by decide)];omega));refine wa ?_;exact⟨.cn rfl rfl inferInstance rfl ⟨.inl rfl,.inl rfl,.inr rfl,trivial⟩,trivial⟩
 ·rw[if_neg hn]at hcv;rw[decide_eq_false hn];refine Fn.of Tryz.func72 rfl (by kernel_rfl) Tryz.ntmps72 Tryz.results72 rfl fun w0 S0=>?_;refine wa ?_;((try (first | intro K ms hms hK | intro K hK));(first | apply Chain.go | apply Chain.goD);exact rfl;exact rfl;exact Loc.conv (m:=(n.natAbs:Int)) rfl rfl (by omega));refine wa ?_;exact⟨.cn rfl rfl inferInstance rfl ⟨.inl rfl,.inl rfl,.inr rfl,trivial⟩,trivial⟩
theorem partsR{k:Nat}{p:Rat}(h1:Bd k p)(hk:k≤100000000):Fn Tryz.prog 135 [.g (enR p)] [.d (.v (.bool (decide (p.num<0)))),.d (enL (limbs p.num.natAbs)),.d (enL (limbs p.den))]:=by
 have hb:=belowR p;have hn1:=normG (limbsDg p.num.natAbs) (bd_len h1.1 hk);have hn2:=normG (limbsDg p.den) (bd_len h1.2 hk);rw[limbs_val]at hn1 hn2;unfold enR at*;generalize decide (p.num<0)=b at*;generalize limbs p.num.natAbs=L at*;generalize denL p.den=D0 at*;generalize limbs p.den=D1 at*;refine Fn.of Tryz.func135 rfl (by kernel_rfl) Tryz.ntmps135 Tryz.results135 rfl fun w0 S0=>?_;refine wa ?_;refine c1 hn1 ?_;refine wa ?_;exact⟨.d rfl (.inl rfl),.d rfl (.inl rfl),.d rfl (.inl rfl),trivial⟩
theorem sgnR_pos{q:Rat}:sgnR q=if q.num.natAbs=0 then 0 else if decide (q.num<0)=true then-1 else 1:=by
 unfold sgnR;by_cases h:q.num<0
 ·rw[if_pos h,if_neg (by omega),if_pos (by simpa using h)]
 ·rw[if_neg h,if_neg (show ¬decide (q.num<0)=true by simpa using h)];by_cases h0:q.num=0
  ·rw[if_pos h0,if_pos (by omega)]
  ·rw[if_neg h0,if_neg (by omega)]
theorem limbs_len0{n:Nat}:(n=0∧(limbs n).length=0)∨(n≠0∧0<(limbs n).length):=by
 rcases Nat.eq_zero_or_pos n with h | h
 ·exact .inl ⟨h,by rw[h,limbs_zero];rfl⟩
 ·exact .inr ⟨by omega,List.length_pos_iff.2 fun e=>by have:=limbs_eq_nil.1 e;omega⟩
theorem ratSign(p:Rat):Fn Tryz.prog 198 [.g (enR p)] [.d (.v (.int .i64 (sgnR p)))]:=by
 rw[sgnR_pos];unfold enR;rcases limbs_len0 (n:=p.num.natAbs)with ⟨h1,h2⟩ | ⟨h1,h2⟩
 ·rw[if_pos h1];refine Fn.of Tryz.func198 rfl (by kernel_rfl) Tryz.ntmps198 Tryz.results198 rfl fun w0 S0=>?_;refine wa ?_;exact⟨.d rfl (.inl rfl),trivial⟩
 ·rw[if_neg h1];cases decide (p.num<0)
  all_goals
   refine Fn.of Tryz.func198 rfl (by kernel_rfl) Tryz.ntmps198 Tryz.results198 rfl fun w0 S0=>?_;refine wa ?_;exact⟨.d rfl (.inl rfl),trivial⟩
theorem ratNeg(p:Rat):Fn Tryz.prog 183 [.g (enR p)] [.g (enR (-p))]:=by
 unfold enR;rw[show (-p).num= -p.num from rfl,show (-p).den=p.den from rfl,Int.natAbs_neg];rcases limbs_len0 (n:=p.num.natAbs)with ⟨h1,h2⟩ | ⟨h1,h2⟩
 ·have e1:decide (-p.num<0)=false:=decide_eq_false (by omega);have e2:decide (p.num<0)=false:=decide_eq_false (by omega);rw[e1,e2];refine Fn.of Tryz.func183 rfl (by kernel_rfl) Tryz.ntmps183 Tryz.results183 rfl fun w0 S0=>?_;refine wa ?_;exact⟨.cn rfl rfl inferInstance rfl ⟨.inl rfl,.inl rfl,.inl rfl,trivial⟩,trivial⟩
 ·have e1:decide (-p.num<0)=!decide (p.num<0):=by
   by_cases h:p.num<0
   ·rw[decide_eq_true h,decide_eq_false (show ¬ -p.num<0 by omega)];rfl
   ·rw[decide_eq_false h,decide_eq_true (show-p.num<0 by omega)];rfl
  rw[e1];cases decide (p.num<0)
  all_goals
   refine Fn.of Tryz.func183 rfl (by kernel_rfl) Tryz.ntmps183 Tryz.results183 rfl fun w0 S0=>?_;refine wa ?_;exact⟨.cn rfl rfl inferInstance rfl ⟨.inl rfl,.inl rfl,.inl rfl,trivial⟩,trivial⟩
theorem ratAbs(p:Rat):Fn Tryz.prog 193 [.g (enR p)] [.g (enR (absR p))]:=by
 have e:enR (absR p)=[.v (.bool false),enL (limbs p.num.natAbs),enL (denL p.den)]:=by
  unfold enR absR;split
  ·rename_i h;rw[show (-p).num= -p.num from rfl,show (-p).den=p.den from rfl,Int.natAbs_neg,decide_eq_false (by omega)]
  ·rename_i h;rw[decide_eq_false h]
 rw[e];unfold enR;refine Fn.of Tryz.func193 rfl (by kernel_rfl) Tryz.ntmps193 Tryz.results193 rfl fun w0 S0=>?_;refine wa ?_;exact⟨.cn rfl rfl inferInstance rfl ⟨.inl rfl,.inl rfl,.inl rfl,trivial⟩,trivial⟩
theorem sumR(an bn:Bool)(x y:Nat)(h1:(limbs x).length≤100000000)(h2:(limbs y).length≤100000000):Fn Tryz.prog 242 [.d (.v (.bool an)),.d (enL (limbs x)),.d (.v (.bool bn)),.d (enL (limbs y))] [.d (.v (.bool (sumS an x bn y).1)),.d (enL (limbs (sumS an x bn y).2))]:=by
 unfold sumS;by_cases hb:an=bn
 ·have ha:=addU (x:=x) (y:=y) (by omega) (by omega);rw[if_pos hb];subst hb;cases an
  all_goals
   refine Fn.of Tryz.func242 rfl (by kernel_rfl) Tryz.ntmps242 Tryz.results242 rfl fun w0 S0=>?_;refine wa ?_;exact⟨.d rfl (.inl rfl),.d rfl (.inl rfl),trivial⟩
 ·rw[if_neg hb];by_cases hy:y≤x
  ·have hs:=subGeU (x:=x) (y:=y) (by omega) hy;rw[if_pos hy];cases an<;>cases bn<;>first | exact absurd rfl hb | skip
   all_goals
    refine Fn.of Tryz.func242 rfl (by kernel_rfl) Tryz.ntmps242 Tryz.results242 rfl fun w0 S0=>?_;refine wa ?_;exact⟨.d rfl (.inl rfl),.d rfl (.inl rfl),trivial⟩
  ·have hs:=subLtU (x:=x) (y:=y) (by omega);have ht:=subGeU (x:=y) (y:=x) (by omega) (by omega);rw[if_neg hy];cases an<;>cases bn<;>first | exact absurd rfl hb | skip
   all_goals
    refine Fn.of Tryz.func242 rfl (by kernel_rfl) Tryz.ntmps242 Tryz.results242 rfl fun w0 S0=>?_;refine wa ?_;refine c1 hs ?_;refine wa ?_;exact⟨.d rfl (.inl rfl),.d rfl (.inl rfl),trivial⟩
section
variable {k m:Nat}{p q:Rat}
theorem rat_lens{k m:Nat}{p q:Rat}(h1:Bd k p)(h2:Bd m q)(hk:k+m≤50000000):(limbs (p.num.natAbs*q.num.natAbs)).length≤50000000∧(limbs (p.num.natAbs*q.den)).length≤50000000∧(limbs (q.num.natAbs*p.den)).length≤50000000∧(limbs (p.den*q.den)).length≤50000000∧(limbs p.num.natAbs).length≤50000000∧(limbs p.den).length≤50000000∧(limbs q.num.natAbs).length≤50000000∧(limbs q.den).length≤50000000:=by
 have key:∀ {n j:Nat},n<2^j→j≤50000000→(limbs n).length≤50000000:=fun h hj=>Nat.le_trans (limbs_len_le' h) hj;refine⟨key (lt_pow_mul h1.1 h2.1) hk,key (lt_pow_mul h1.1 h2.2) hk,key (lt_pow_mul h2.1 h1.2) (by omega),key (lt_pow_mul h1.2 h2.2) hk,key h1.1 (by omega),key h1.2 (by omega),key h2.1 (by omega),key h2.2 (by omega)⟩
theorem ratMul(h1:Bd k p)(h2:Bd m q)(hk:k+m≤50000000):Fn Tryz.prog 210 [.g (enR p),.g (enR q)] [.g (enR (p*q))]:=by
 obtain⟨l1,l2,l3,l4,l5,l6,l7,l8⟩:=rat_lens h1 h2 hk;have b1:=belowR p;have b2:=belowR q;have m1:=mulU (x:=p.num.natAbs) (y:=q.num.natAbs) (by omega) (by omega);have m2:=mulU (x:=p.den) (y:=q.den) (by omega) (by omega);have hd:=madeU (decide (p.num<0) != decide (q.num<0)) (x:=p.num.natAbs*q.num.natAbs) (y:=p.den*q.den) (by omega) (by omega) (Nat.mul_pos p.den_pos q.den_pos);rw[show p*q=mkRat (sgn (decide (p.num<0) != decide (q.num<0)) (p.num.natAbs*q.num.natAbs)) (p.den*q.den)from rat_mul_sgn rfl rfl rfl rfl rfl rfl];generalize mkRat (sgn (decide (p.num<0) != decide (q.num<0)) (p.num.natAbs*q.num.natAbs)) (p.den*q.den)=r at*;unfold enR at*;refine Fn.of Tryz.func210 rfl (by kernel_rfl) Tryz.ntmps210 Tryz.results210 rfl fun w0 S0=>?_;refine wa ?_;refine c1 m1 ?_;refine wa ?_;refine c1 b1 ?_;refine wa ?_;exact⟨.cn rfl rfl inferInstance rfl ⟨.inl rfl,.inl rfl,.inl rfl,trivial⟩,trivial⟩
theorem ratAdd(h1:Bd k p)(h2:Bd m q)(hk:k+m≤50000000):Fn Tryz.prog 209 [.g (enR p),.g (enR q)] [.g (enR (p+q))]:=by
 obtain⟨l1,l2,l3,l4,l5,l6,l7,l8⟩:=rat_lens h1 h2 hk;have b1:=belowR p;have b2:=belowR q;have m1:=mulU (x:=p.num.natAbs) (y:=q.den) (by omega) (by omega);have m2:=mulU (x:=q.num.natAbs) (y:=p.den) (by omega) (by omega);have m3:=mulU (x:=p.den) (y:=q.den) (by omega) (by omega);have hs:=sumR (decide (p.num<0)) (decide (q.num<0)) (p.num.natAbs*q.den) (q.num.natAbs*p.den) (by omega) (by omega);have hsl:(limbs (sumS (decide (p.num<0)) (p.num.natAbs*q.den) (decide (q.num<0)) (q.num.natAbs*p.den)).2).length≤100000000:=by
  refine bd_len (k:=k+m+1) (Nat.lt_of_le_of_lt (sumS_le _ _ _ _) ?_) (by omega);have g1:=lt_pow_mul h1.1 h2.2;have g2:=lt_pow_mul h2.1 h1.2;rw[Nat.add_comm m k]at g2;rw[Nat.pow_succ];omega
 have hd:=madeU (sumS (decide (p.num<0)) (p.num.natAbs*q.den) (decide (q.num<0)) (q.num.natAbs*p.den)).1 (x:=(sumS (decide (p.num<0)) (p.num.natAbs*q.den) (decide (q.num<0)) (q.num.natAbs*p.den)).2) (y:=p.den*q.den) hsl (by omega) (Nat.mul_pos p.den_pos q.den_pos);rw[show p+q=mkRat (sgn (sumS (decide (p.num<0)) (p.num.natAbs*q.den) (decide (q.num<0)) (q.num.natAbs*p.den)).1 (sumS (decide (p.num<0)) (p.num.natAbs*q.den) (decide (q.num<0)) (q.num.natAbs*p.den)).2) (p.den*q.den)from rat_add_sum rfl rfl rfl rfl rfl rfl];generalize sumS (decide (p.num<0)) (p.num.natAbs*q.den) (decide (q.num<0)) (q.num.natAbs*p.den)=s at*;generalize mkRat (sgn s.1 s.2) (p.den*q.den)=r at*;unfold enR at*;refine Fn.of Tryz.func209 rfl (by kernel_rfl) Tryz.ntmps209 Tryz.results209 rfl fun w0 S0=>?_;refine wa ?_;refine c1 m1 ?_;refine wa ?_;refine c1 b1 ?_;refine wa ?_;refine c1 m2 ?_;refine wa ?_;refine c1 b1 ?_;refine wa ?_;exact⟨.cn rfl rfl inferInstance rfl ⟨.inl rfl,.inl rfl,.inl rfl,trivial⟩,trivial⟩
theorem ratSub(h1:Bd k p)(h2:Bd m q)(hk:k+m≤50000000):Fn Tryz.prog 228 [.g (enR p),.g (enR q)] [.g (enR (p-q))]:=by
 have hn:=ratNeg q;have ha:=ratAdd h1 h2.neg hk;rw[←Rat.sub_eq_add_neg]at ha;generalize p-q=r at*;unfold enR at*;refine Fn.of Tryz.func228 rfl (by kernel_rfl) Tryz.ntmps228 Tryz.results228 rfl fun w0 S0=>?_;refine wa ?_;exact⟨.cn rfl rfl inferInstance rfl ⟨.inl rfl,.inl rfl,.inl rfl,trivial⟩,trivial⟩
theorem ratCmp(h1:Bd k p)(h2:Bd m q)(hk:k+m≤50000000):Fn Tryz.prog 170 [.g (enR p),.g (enR q)] [.d (.v (.int .i64 (sgnR (p-q))))]:=by
 have hs:=ratSub h1 h2 hk;have hg:=ratSign (p-q);generalize p-q=r at*;unfold enR at*;refine Fn.of Tryz.func170 rfl (by kernel_rfl) Tryz.ntmps170 Tryz.results170 rfl fun w0 S0=>?_;refine wa ?_;exact⟨.d rfl (.inl rfl),trivial⟩
theorem ratInv(h1:Bd k p)(hk:k≤100000000)(hp:p≠0):Fn Tryz.prog 194 [.g (enR p)] [.g (enR p⁻¹),.d (.v (.bool true))]:=by
 have hn:p.num.natAbs≠0:=fun e=>hp (Rat.num_eq_zero.1 (by omega));have b1:=belowR p;have hd:=madeU (decide (p.num<0)) (x:=p.den) (y:=p.num.natAbs) (bd_len h1.2 hk) (bd_len h1.1 hk) (by omega);rw[←rat_inv_made p hp]at hd;have hl:0<(limbs p.num.natAbs).length:=by rcases limbs_len0 (n:=p.num.natAbs)with h | h;exact absurd h.1 hn;exact h.2
 generalize p⁻¹ =r at*;unfold enR at*;refine Fn.of Tryz.func194 rfl (by kernel_rfl) Tryz.ntmps194 Tryz.results194 rfl fun w0 S0=>?_;refine wa ?_;exact⟨.cn rfl rfl inferInstance rfl ⟨.inl rfl,.inl rfl,.inl rfl,trivial⟩,.d rfl (.inl rfl),trivial⟩
end
end Go.Proofs.YtbbpecfapohlaaaGreatDoor
