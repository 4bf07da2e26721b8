import Derived.Test.YthdkkpocihkgbaaGreatDoorRtB
set_option maxRecDepth 100000
set_option maxHeartbeats 1000000
namespace Go.Proofs.YthdkkpocihkgbaaGreatDoor
open Go.RowKit
attribute [local irreducible] AC Do St
set_option maxRecDepth 100000
set_option maxHeartbeats 4000000
theorem Dz(neg:Bool){l m:List Nat}(hl:lh l)(hm:lh m)(h1:l.length≤100000000)(h2:m.length≤100000000)(hy:0<aa 4294967296 m):Fn Tryz.prog 166 [.d (.v (.bool neg)),.d (aJ l),.d (aJ m)] [.g (aN (mkRat (bH neg (aa 4294967296 l)) (aa 4294967296 m))),.d (.v (.bool true))]:=by
 have hmd:=AG neg hl hm h1 h2 hy;obtain⟨b,hb0,hb⟩:=Eh hm hy h2;refine Fn.of Tryz.func166 rfl (by kernel_rfl) Tryz.ntmps166 Tryz.results166 rfl fun w0 S0=>?_;refine wa ?_;exact⟨.cn rfl rfl inferInstance rfl ⟨.inl rfl,.inl rfl,.inl rfl,trivial⟩,.d rfl (.inl rfl),trivial⟩
theorem Ao(neg:Bool){x y:Nat}(h1:(ae x).length≤100000000)(h2:(ae y).length≤100000000)(hy:0<y):Fn Tryz.prog 171 [.d (.v (.bool neg)),.d (aJ (ae x)),.d (aJ (ae y))] [.g (aN (mkRat (bH neg x) y))]:=by
 have:=AG neg (bX x) (bX y) h1 h2 (by rwa[ax]);rwa[ax,ax]at this
theorem Loc.FF{P:Program}{C:Cx}{o:Oper}{σ:AS}{T:TypeId}{x:Operand}{k:IntKind}{a m:Int}(ho:o.op= .unOp .neg T x)(hx:ev σ x= .d (.v (.int k a)))(hr:k.wrap (0-a)=m):Loc P C o σ (.d (.v (.int k m))):=
 Loc.one (by rw[ho];simp[Op.operands]) hx fun S w β O c h=>⟨_,by unfold execOp;rw[ho];simp[RA.val h,Op.unary,Op.intArith];simpa using hr,.mk rfl⟩
theorem nU(n:Int)(h0: -9223372036854775808≤n)(h1:n≤9223372036854775807):Fn Tryz.prog 50 [.d (.v (.int .i64 n))] [.g (aN n)]:=by
 have hw:=DY n.natAbs (by omega);have hd:iG ((n:Rat).den)=[]:=if_pos rfl;unfold aN;rw[show (n:Rat).num=n from rfl,hd];have hcv:IntKind.u64.wrap n=if n<0 then n+18446744073709551616 else n:=by
  simp only[IntKind.wrap,IntKind.bits,IntKind.signed,Bool.false_and];rw[if_neg (by decide)];split<;>omega
 by_cases hn:n<0
 ·rw[if_pos hn]at hcv;rw[decide_eq_true hn];refine Fn.of Tryz.func50 rfl (by kernel_rfl) Tryz.ntmps50 Tryz.results50 rfl fun w0 S0=>?_;refine wa ?_;((try (first | intro K ms hms hK | intro K hK));(first | apply Ch.go | apply Ch.ah);exact rfl;exact rfl;exact Loc.conv (m:=n+18446744073709551616) rfl rfl hcv);refine wa ?_;((try (first | intro K ms hms hK | intro K hK));(first | apply Ch.go | apply Ch.ah);exact rfl;exact rfl;exact Loc.FF (m:=(n.natAbs:Int)) rfl rfl (by simp only[IntKind.wrap,IntKind.bits,IntKind.signed,Bool.false_and];rw[if_neg (by decide)];omega));refine wa ?_;exact⟨.cn rfl rfl inferInstance rfl ⟨.inl rfl,.inl rfl,.inr rfl,trivial⟩,trivial⟩
 ·rw[if_neg hn]at hcv;rw[decide_eq_false hn];refine Fn.of Tryz.func50 rfl (by kernel_rfl) Tryz.ntmps50 Tryz.results50 rfl fun w0 S0=>?_;refine wa ?_;((try (first | intro K ms hms hK | intro K hK));(first | apply Ch.go | apply Ch.ah);exact rfl;exact rfl;exact Loc.conv (m:=(n.natAbs:Int)) rfl rfl (by omega));refine wa ?_;exact⟨.cn rfl rfl inferInstance rfl ⟨.inl rfl,.inl rfl,.inr rfl,trivial⟩,trivial⟩
theorem x5{k:Nat}{p:Rat}(h1:Bd k p)(hk:k≤100000000):Fn Tryz.prog 118 [.g (aN p)] [.d (.v (.bool (decide (p.num<0)))),.d (aJ (ae p.num.natAbs)),.d (aJ (ae p.den))]:=by
 have hb:=ny p;have hn1:=mq (bX p.num.natAbs) (tR h1.1 hk);have hn2:=mq (bX p.den) (tR h1.2 hk);rw[ax]at hn1 hn2;unfold aN at*;generalize decide (p.num<0)=b at*;generalize ae p.num.natAbs=L at*;generalize iG p.den=D0 at*;generalize ae p.den=D1 at*;refine Fn.of Tryz.func118 rfl (by kernel_rfl) Tryz.ntmps118 Tryz.results118 rfl fun w0 S0=>?_;refine wa ?_;refine c1 hn1 ?_;refine wa ?_;exact⟨.d rfl (.inl rfl),.d rfl (.inl rfl),.d rfl (.inl rfl),trivial⟩
theorem tM{q:Rat}:cL q=if q.num.natAbs=0 then 0 else if decide (q.num<0)=true then-1 else 1:=by
 unfold cL;by_cases h:q.num<0
 ·rw[if_pos h,if_neg (by omega),if_pos (by simpa using h)]
 ·rw[if_neg h,if_neg (show ¬decide (q.num<0)=true by simpa using h)];by_cases h0:q.num=0
  ·rw[if_pos h0,if_pos (by omega)]
  ·rw[if_neg h0,if_neg (by omega)]
theorem qB{n:Nat}:(n=0∧(ae n).length=0)∨(n≠0∧0<(ae n).length):=by
 rcases Nat.eq_zero_or_pos n with h | h
 ·exact .inl ⟨h,by rw[h,bl];rfl⟩
 ·exact .inr ⟨by omega,List.length_pos_iff.2 fun e=>by have:=limbs_eq_nil.1 e;omega⟩
theorem oQ(p:Rat):Fn Tryz.prog 103 [.g (aN p)] [.d (.v (.int .i64 (cL p)))]:=by
 rw[tM];unfold aN;rcases qB (n:=p.num.natAbs)with ⟨h1,h2⟩ | ⟨h1,h2⟩
 ·rw[if_pos h1];refine Fn.of Tryz.func103 rfl (by kernel_rfl) Tryz.ntmps103 Tryz.results103 rfl fun w0 S0=>?_;refine wa ?_;exact⟨.d rfl (.inl rfl),trivial⟩
 ·rw[if_neg h1];cases decide (p.num<0)
  all_goals
   refine Fn.of Tryz.func103 rfl (by kernel_rfl) Tryz.ntmps103 Tryz.results103 rfl fun w0 S0=>?_;refine wa ?_;exact⟨.d rfl (.inl rfl),trivial⟩
theorem yq(p:Rat):Fn Tryz.prog 161 [.g (aN p)] [.g (aN (-p))]:=by
 unfold aN;rw[show (-p).num= -p.num from rfl,show (-p).den=p.den from rfl,Int.natAbs_neg];rcases qB (n:=p.num.natAbs)with ⟨h1,h2⟩ | ⟨h1,h2⟩
 ·have e1:decide (-p.num<0)=false:=decide_eq_false (by omega);have e2:decide (p.num<0)=false:=decide_eq_false (by omega);rw[e1,e2];refine Fn.of Tryz.func161 rfl (by kernel_rfl) Tryz.ntmps161 Tryz.results161 rfl fun w0 S0=>?_;refine wa ?_;exact⟨.cn rfl rfl inferInstance rfl ⟨.inl rfl,.inl rfl,.inl rfl,trivial⟩,trivial⟩
 ·have e1:decide (-p.num<0)=!decide (p.num<0):=by
   by_cases h:p.num<0
   ·rw[decide_eq_true h,decide_eq_false (show ¬ -p.num<0 by omega)];rfl
   ·rw[decide_eq_false h,decide_eq_true (show-p.num<0 by omega)];rfl
  rw[e1];cases decide (p.num<0)
  all_goals
   refine Fn.of Tryz.func161 rfl (by kernel_rfl) Tryz.ntmps161 Tryz.results161 rfl fun w0 S0=>?_;refine wa ?_;exact⟨.cn rfl rfl inferInstance rfl ⟨.inl rfl,.inl rfl,.inl rfl,trivial⟩,trivial⟩
theorem Fp(an bn:Bool)(x y:Nat)(h1:(ae x).length≤100000000)(h2:(ae y).length≤100000000):Fn Tryz.prog 168 [.d (.v (.bool an)),.d (aJ (ae x)),.d (.v (.bool bn)),.d (aJ (ae y))] [.d (.v (.bool (cM an x bn y).1)),.d (aJ (ae (cM an x bn y).2))]:=by
 unfold cM;by_cases hb:an=bn
 ·have ha:=E3 (x:=x) (y:=y) (by omega) (by omega);rw[if_pos hb];subst hb;cases an
  all_goals
   refine Fn.of Tryz.func168 rfl (by kernel_rfl) Tryz.ntmps168 Tryz.results168 rfl fun w0 S0=>?_;refine wa ?_;exact⟨.d rfl (.inl rfl),.d rfl (.inl rfl),trivial⟩
 ·rw[if_neg hb];by_cases hy:y≤x
  ·have hs:=xK (x:=x) (y:=y) (by omega) hy;rw[if_pos hy];cases an<;>cases bn<;>first | exact absurd rfl hb | skip
   all_goals
    refine Fn.of Tryz.func168 rfl (by kernel_rfl) Tryz.ntmps168 Tryz.results168 rfl fun w0 S0=>?_;refine wa ?_;exact⟨.d rfl (.inl rfl),.d rfl (.inl rfl),trivial⟩
  ·have hs:=Cf (x:=x) (y:=y) (by omega);have ht:=xK (x:=y) (y:=x) (by omega) (by omega);rw[if_neg hy];cases an<;>cases bn<;>first | exact absurd rfl hb | skip
   all_goals
    refine Fn.of Tryz.func168 rfl (by kernel_rfl) Tryz.ntmps168 Tryz.results168 rfl fun w0 S0=>?_;refine wa ?_;refine c1 hs ?_;refine wa ?_;exact⟨.d rfl (.inl rfl),.d rfl (.inl rfl),trivial⟩
section
variable {k m:Nat}{p q:Rat}
theorem tn{k m:Nat}{p q:Rat}(h1:Bd k p)(h2:Bd m q)(hk:k+m≤50000000):(ae (p.num.natAbs*q.num.natAbs)).length≤50000000∧(ae (p.num.natAbs*q.den)).length≤50000000∧(ae (q.num.natAbs*p.den)).length≤50000000∧(ae (p.den*q.den)).length≤50000000∧(ae p.num.natAbs).length≤50000000∧(ae p.den).length≤50000000∧(ae q.num.natAbs).length≤50000000∧(ae q.den).length≤50000000:=by
 have key:∀ {n j:Nat},n<2^j→j≤50000000→(ae n).length≤50000000:=fun h hj=>Nat.le_trans (iA h) hj;refine⟨key (bu h1.1 h2.1) hk,key (bu h1.1 h2.2) hk,key (bu h2.1 h1.2) (by omega),key (bu h1.2 h2.2) hk,key h1.1 (by omega),key h1.2 (by omega),key h2.1 (by omega),key h2.2 (by omega)⟩
theorem uR(h1:Bd k p)(h2:Bd m q)(hk:k+m≤50000000):Fn Tryz.prog 115 [.g (aN p),.g (aN q)] [.g (aN (p*q))]:=by
 obtain⟨l1,l2,l3,l4,l5,l6,l7,l8⟩:=tn h1 h2 hk;have b1:=ny p;have b2:=ny q;have m1:=uq (x:=p.num.natAbs) (y:=q.num.natAbs) (by omega) (by omega);have m2:=uq (x:=p.den) (y:=q.den) (by omega) (by omega);have hd:=Ao (decide (p.num<0) != decide (q.num<0)) (x:=p.num.natAbs*q.num.natAbs) (y:=p.den*q.den) (by omega) (by omega) (Nat.mul_pos p.den_pos q.den_pos);rw[show p*q=mkRat (bH (decide (p.num<0) != decide (q.num<0)) (p.num.natAbs*q.num.natAbs)) (p.den*q.den)from lK rfl rfl rfl rfl rfl rfl];generalize mkRat (bH (decide (p.num<0) != decide (q.num<0)) (p.num.natAbs*q.num.natAbs)) (p.den*q.den)=r at*;unfold aN at*;refine Fn.of Tryz.func115 rfl (by kernel_rfl) Tryz.ntmps115 Tryz.results115 rfl fun w0 S0=>?_;refine wa ?_;refine c1 m1 ?_;refine wa ?_;refine c1 b1 ?_;refine wa ?_;exact⟨.cn rfl rfl inferInstance rfl ⟨.inl rfl,.inl rfl,.inl rfl,trivial⟩,trivial⟩
theorem pU(h1:Bd k p)(h2:Bd m q)(hk:k+m≤50000000):Fn Tryz.prog 114 [.g (aN p),.g (aN q)] [.g (aN (p+q))]:=by
 obtain⟨l1,l2,l3,l4,l5,l6,l7,l8⟩:=tn h1 h2 hk;have b1:=ny p;have b2:=ny q;have m1:=uq (x:=p.num.natAbs) (y:=q.den) (by omega) (by omega);have m2:=uq (x:=q.num.natAbs) (y:=p.den) (by omega) (by omega);have m3:=uq (x:=p.den) (y:=q.den) (by omega) (by omega);have hs:=Fp (decide (p.num<0)) (decide (q.num<0)) (p.num.natAbs*q.den) (q.num.natAbs*p.den) (by omega) (by omega);have hsl:(ae (cM (decide (p.num<0)) (p.num.natAbs*q.den) (decide (q.num<0)) (q.num.natAbs*p.den)).2).length≤100000000:=by
  refine tR (k:=k+m+1) (Nat.lt_of_le_of_lt (vu _ _ _ _) ?_) (by omega);have g1:=bu h1.1 h2.2;have g2:=bu h2.1 h1.2;rw[Nat.add_comm m k]at g2;rw[Nat.pow_succ];omega
 have hd:=Ao (cM (decide (p.num<0)) (p.num.natAbs*q.den) (decide (q.num<0)) (q.num.natAbs*p.den)).1 (x:=(cM (decide (p.num<0)) (p.num.natAbs*q.den) (decide (q.num<0)) (q.num.natAbs*p.den)).2) (y:=p.den*q.den) hsl (by omega) (Nat.mul_pos p.den_pos q.den_pos);rw[show p+q=mkRat (bH (cM (decide (p.num<0)) (p.num.natAbs*q.den) (decide (q.num<0)) (q.num.natAbs*p.den)).1 (cM (decide (p.num<0)) (p.num.natAbs*q.den) (decide (q.num<0)) (q.num.natAbs*p.den)).2) (p.den*q.den)from lO rfl rfl rfl rfl rfl rfl];generalize cM (decide (p.num<0)) (p.num.natAbs*q.den) (decide (q.num<0)) (q.num.natAbs*p.den)=s at*;generalize mkRat (bH s.1 s.2) (p.den*q.den)=r at*;unfold aN at*;refine Fn.of Tryz.func114 rfl (by kernel_rfl) Tryz.ntmps114 Tryz.results114 rfl fun w0 S0=>?_;refine wa ?_;refine c1 m1 ?_;refine wa ?_;refine c1 b1 ?_;refine wa ?_;refine c1 m2 ?_;refine wa ?_;refine c1 b1 ?_;refine wa ?_;exact⟨.cn rfl rfl inferInstance rfl ⟨.inl rfl,.inl rfl,.inl rfl,trivial⟩,trivial⟩
theorem B4(h1:Bd k p)(h2:Bd m q)(hk:k+m≤50000000):Fn Tryz.prog 104 [.g (aN p),.g (aN q)] [.g (aN (p-q))]:=by
 have hn:=yq q;have ha:=pU h1 h2.neg hk;rw[←Rat.sub_eq_add_neg]at ha;generalize p-q=r at*;unfold aN at*;refine Fn.of Tryz.func104 rfl (by kernel_rfl) Tryz.ntmps104 Tryz.results104 rfl fun w0 S0=>?_;refine wa ?_;exact⟨.cn rfl rfl inferInstance rfl ⟨.inl rfl,.inl rfl,.inl rfl,trivial⟩,trivial⟩
theorem tQ(h1:Bd k p)(h2:Bd m q)(hk:k+m≤50000000):Fn Tryz.prog 51 [.g (aN p),.g (aN q)] [.d (.v (.int .i64 (cL (p-q))))]:=by
 have hs:=B4 h1 h2 hk;have hg:=oQ (p-q);generalize p-q=r at*;unfold aN at*;refine Fn.of Tryz.func51 rfl (by kernel_rfl) Tryz.ntmps51 Tryz.results51 rfl fun w0 S0=>?_;refine wa ?_;exact⟨.d rfl (.inl rfl),trivial⟩
end
end Go.Proofs.YthdkkpocihkgbaaGreatDoor
namespace Go.Proofs.YthdkkpocihkgbaaGreatDoor
open Go.RowKit
attribute [local irreducible] AC Do St
set_option maxRecDepth 100000
set_option maxHeartbeats 8000000
theorem iU{n:Nat}:(n=0∧(bits n).length=0)∨(n≠0∧0<(bits n).length):=by
 rcases Nat.eq_zero_or_pos n with h | h
 ·exact .inl ⟨h,by rw[bits_eq_nil.2 h];rfl⟩
 ·exact .inr ⟨by omega,List.length_pos_iff.2 fun e=>by have:=bits_eq_nil.1 e;omega⟩
theorem xL{n:Nat}(h:n≠1):(bits n).length≠1:=fun e=>h (by
 have h1:=jz (bits n);rw[e,cG]at h1;have:n≠0:=fun e2=>by rw[e2,bits_eq_nil.2 rfl]at e;cases e
 omega)
theorem po(q:Rat):Fn Tryz.prog 125 [.g (aS q)] [.d (bp (bits q.den))]:=by
 have h1:0<(bits q.den).length:=by rcases iU (n:=q.den)with h | h;exact absurd h.1 q.den_nz;exact h.2
 unfold aS;refine Fn.of Tryz.func125 rfl (by kernel_rfl) Tryz.ntmps125 Tryz.results125 rfl fun w0 S0=>?_;refine wa ?_;exact⟨.d rfl (.inl rfl),trivial⟩
theorem oH(p:Rat):Fn Tryz.prog 63 [.g (aS p)] [.d (.v (.int .i64 (cL p)))]:=by
 rw[tM];unfold aS;rcases iU (n:=p.num.natAbs)with ⟨h1,h2⟩ | ⟨h1,h2⟩
 ·rw[if_pos h1];refine Fn.of Tryz.func63 rfl (by kernel_rfl) Tryz.ntmps63 Tryz.results63 rfl fun w0 S0=>?_;refine wa ?_;exact⟨.d rfl (.inl rfl),trivial⟩
 ·rw[if_neg h1];cases decide (p.num<0)
  all_goals
   refine Fn.of Tryz.func63 rfl (by kernel_rfl) Tryz.ntmps63 Tryz.results63 rfl fun w0 S0=>?_;refine wa ?_;exact⟨.d rfl (.inl rfl),trivial⟩
theorem wZ(p:Rat):Fn Tryz.prog 117 [.g (aS p)] [.g (aS (-p))]:=by
 have hlo:=po p;unfold aS at*;rw[show (-p).num= -p.num from rfl,show (-p).den=p.den from rfl,Int.natAbs_neg];rcases iU (n:=p.num.natAbs)with ⟨h1,h2⟩ | ⟨h1,h2⟩
 ·have e1:decide (-p.num<0)=false:=decide_eq_false (by omega);have e2:decide (p.num<0)=false:=decide_eq_false (by omega);rw[e2]at hlo;rw[e1,e2];refine Fn.of Tryz.func117 rfl (by kernel_rfl) Tryz.ntmps117 Tryz.results117 rfl fun w0 S0=>?_;refine wa ?_;exact⟨.cn rfl rfl inferInstance rfl ⟨.inl rfl,.inl rfl,.inl rfl,trivial⟩,trivial⟩
 ·have e1:decide (-p.num<0)=!decide (p.num<0):=by
   by_cases h:p.num<0
   ·rw[decide_eq_true h,decide_eq_false (show ¬ -p.num<0 by omega)];rfl
   ·rw[decide_eq_false h,decide_eq_true (show-p.num<0 by omega)];rfl
  rw[e1];generalize decide (p.num<0)=b at*;cases b
  all_goals
   refine Fn.of Tryz.func117 rfl (by kernel_rfl) Tryz.ntmps117 Tryz.results117 rfl fun w0 S0=>?_;refine wa ?_;exact⟨.cn rfl rfl inferInstance rfl ⟨.inl rfl,.inl rfl,.inl rfl,trivial⟩,trivial⟩
theorem oX(neg:Bool)(x y:Nat)(hl:(bits x).length≤100000000)(hm:(bits y).length≤100000000)(hy:0<y):Fn Tryz.prog 120 [.d (.v (.bool neg)),.d (bp (bits x)),.d (bp (bits y))] [.g (aS (mkRat (bH neg x) y))]:=by
 obtain⟨q1,q2,q3⟩:=pC neg x y (by omega);unfold aS;rw[q1,q2,q3];clear q1 q2 q3;by_cases h1:y=1
 ·subst h1;rw[Nat.gcd_one_right,Nat.div_one,Nat.div_one];have hb1:(bits 1).length=1:=by decide+kernel
  have hneg:neg=false∨(neg=true∧decide (0<x)=true∧0<(bits x).length)∨(neg=true∧decide (0<x)=false∧(bits x).length=0):=by
   cases neg
   ·exact .inl rfl
   ·rcases iU (n:=x)with h | h
    ·exact .inr (.inr ⟨rfl,decide_eq_false (by omega),h.2⟩)
    ·exact .inr (.inl ⟨rfl,decide_eq_true (by omega),h.2⟩)
  generalize decide (0<x)=bx at*;rcases hneg with rfl | ⟨rfl,rfl,e3⟩ | ⟨rfl,rfl,e3⟩
  all_goals
   refine Fn.of Tryz.func120 rfl (by kernel_rfl) Tryz.ntmps120 Tryz.results120 rfl fun w0 S0=>?_;refine wa ?_;exact⟨.cn rfl rfl inferInstance rfl ⟨.inl rfl,.inl rfl,.inl rfl,trivial⟩,trivial⟩
 ·have hb1:=xL h1;have hgp:0<Nat.gcd x y:=Nat.gcd_pos_of_pos_right _ hy;have hgl:(bits (Nat.gcd x y)).length≤100000000:=by rw[fp]at hm ⊢;exact Nat.le_trans (bN (by decide) (Nat.gcd_le_right _ hy)) hm
  have hg:=Fu x y (by omega) (by omega);have hd1:=rh x (Nat.gcd x y) (by omega) (by omega) hgp;have hd2:=rh y (Nat.gcd x y) (by omega) (by omega) hgp;have hneg:neg=false∨(neg=true∧decide (0<x)=true∧0<(bits (x / Nat.gcd x y)).length)∨(neg=true∧decide (0<x)=false∧(bits (x / Nat.gcd x y)).length=0):=by
   cases neg
   ·exact .inl rfl
   ·rcases Nat.eq_zero_or_pos x with h | h
    ·exact .inr (.inr ⟨rfl,decide_eq_false (by omega),by rw[h,Nat.zero_div,bits_eq_nil.2 rfl];rfl⟩)
    ·refine .inr (.inl ⟨rfl,decide_eq_true (by omega),?_⟩);have:=Nat.div_pos (Nat.le_of_dvd h (Nat.gcd_dvd_left x y)) hgp;rcases iU (n:=x / Nat.gcd x y)with h2 | h2
     ·omega
     ·exact h2.2
  generalize decide (0<x)=bx at*;generalize Nat.gcd x y=g at*;clear hgp hgl hy h1;rcases hneg with rfl | ⟨rfl,rfl,e3⟩ | ⟨rfl,rfl,e3⟩
  all_goals
   refine Fn.of Tryz.func120 rfl (by kernel_rfl) Tryz.ntmps120 Tryz.results120 rfl fun w0 S0=>?_;refine wa ?_;refine c1 hd1 ?_;refine wa ?_;exact⟨.cn rfl rfl inferInstance rfl ⟨.inl rfl,.inl rfl,.inl rfl,trivial⟩,trivial⟩
theorem CI(an bn:Bool)(x y:Nat)(h1:(bits x).length≤100000000)(h2:(bits y).length≤100000000):Fn Tryz.prog 123 [.d (.v (.bool an)),.d (bp (bits x)),.d (.v (.bool bn)),.d (bp (bits y))] [.d (.v (.bool (cM an x bn y).1)),.d (bp (bits (cM an x bn y).2))]:=by
 unfold cM;by_cases hb:an=bn
 ·have ha:=uV x y (by omega) (by omega);rw[if_pos hb];subst hb;cases an
  all_goals
   refine Fn.of Tryz.func123 rfl (by kernel_rfl) Tryz.ntmps123 Tryz.results123 rfl fun w0 S0=>?_;refine wa ?_;exact⟨.d rfl (.inl rfl),.d rfl (.inl rfl),trivial⟩
 ·rw[if_neg hb];have hc:=CT x y (by omega);by_cases hy:y≤x
  ·have hs:=zo x y (by omega) hy;have hc0:0≤cF x y:=by
    rcases Nat.lt_or_ge y x with h | h
    ·rw[jn h];decide
    ·rw[show x=y by omega,lV];decide
   rw[if_pos hy];generalize cF x y=cc at*;cases an<;>cases bn<;>first | exact absurd rfl hb | skip
   all_goals
    refine Fn.of Tryz.func123 rfl (by kernel_rfl) Tryz.ntmps123 Tryz.results123 rfl fun w0 S0=>?_;refine wa ?_;exact⟨.d rfl (.inl rfl),.d rfl (.inl rfl),trivial⟩
  ·have hs:=zo y x (by omega) (by omega);rw[iO (by omega)]at hc;rw[if_neg hy];cases an<;>cases bn<;>first | exact absurd rfl hb | skip
   all_goals
    refine Fn.of Tryz.func123 rfl (by kernel_rfl) Tryz.ntmps123 Tryz.results123 rfl fun w0 S0=>?_;refine wa ?_;exact⟨.d rfl (.inl rfl),.d rfl (.inl rfl),trivial⟩
section
variable {k m:Nat}{p q:Rat}
theorem yd{k m:Nat}{p q:Rat}(h1:Bd k p)(h2:Bd m q)(hk:k+m≤50000000):(bits (p.num.natAbs*q.num.natAbs)).length≤50000000∧(bits (p.num.natAbs*q.den)).length≤50000000∧(bits (q.num.natAbs*p.den)).length≤50000000∧(bits (p.den*q.den)).length≤50000000∧(bits p.num.natAbs).length≤50000000∧(bits p.den).length≤50000000∧(bits q.num.natAbs).length≤50000000∧(bits q.den).length≤50000000:=by
 have key:∀ {n j:Nat},n<2^j→j≤50000000→(bits n).length≤50000000:=fun h hj=>Nat.le_trans (bT h) hj;refine⟨key (bu h1.1 h2.1) hk,key (bu h1.1 h2.2) hk,key (bu h2.1 h1.2) (by omega),key (bu h1.2 h2.2) hk,key h1.1 (by omega),key h1.2 (by omega),key h2.1 (by omega),key h2.2 (by omega)⟩
theorem tl(h1:Bd k p)(h2:Bd m q)(hk:k+m≤50000000):Fn Tryz.prog 62 [.g (aS p),.g (aS q)] [.g (aS (p*q))]:=by
 obtain⟨l1,l2,l3,l4,l5,l6,l7,l8⟩:=yd h1 h2 hk;have b1:=po p;have b2:=po q;have m1:=jD p.num.natAbs q.num.natAbs (by omega);have m2:=jD p.den q.den (by omega);have hd:=oX (decide (p.num<0) != decide (q.num<0)) (p.num.natAbs*q.num.natAbs) (p.den*q.den) (by omega) (by omega) (Nat.mul_pos p.den_pos q.den_pos);rw[show p*q=mkRat (bH (decide (p.num<0) != decide (q.num<0)) (p.num.natAbs*q.num.natAbs)) (p.den*q.den)from lK rfl rfl rfl rfl rfl rfl];generalize mkRat (bH (decide (p.num<0) != decide (q.num<0)) (p.num.natAbs*q.num.natAbs)) (p.den*q.den)=r at*;unfold aS at*;refine Fn.of Tryz.func62 rfl (by kernel_rfl) Tryz.ntmps62 Tryz.results62 rfl fun w0 S0=>?_;refine wa ?_;refine c1 m1 ?_;refine wa ?_;refine c1 b1 ?_;refine wa ?_;exact⟨.cn rfl rfl inferInstance rfl ⟨.inl rfl,.inl rfl,.inl rfl,trivial⟩,trivial⟩
theorem tA(h1:Bd k p)(h2:Bd m q)(hk:k+m≤50000000):Fn Tryz.prog 61 [.g (aS p),.g (aS q)] [.g (aS (p+q))]:=by
 obtain⟨l1,l2,l3,l4,l5,l6,l7,l8⟩:=yd h1 h2 hk;have b1:=po p;have b2:=po q;have m1:=jD p.num.natAbs q.den (by omega);have m2:=jD q.num.natAbs p.den (by omega);have m3:=jD p.den q.den (by omega);have hs:=CI (decide (p.num<0)) (decide (q.num<0)) (p.num.natAbs*q.den) (q.num.natAbs*p.den) (by omega) (by omega);have hsl:(bits (cM (decide (p.num<0)) (p.num.natAbs*q.den) (decide (q.num<0)) (q.num.natAbs*p.den)).2).length≤100000000:=by
  refine Nat.le_trans (bT (k:=k+m+1) (Nat.lt_of_le_of_lt (vu _ _ _ _) ?_)) (by omega);have g1:=bu h1.1 h2.2;have g2:=bu h2.1 h1.2;rw[Nat.add_comm m k]at g2;rw[Nat.pow_succ];omega
 have hd:=oX (cM (decide (p.num<0)) (p.num.natAbs*q.den) (decide (q.num<0)) (q.num.natAbs*p.den)).1 (cM (decide (p.num<0)) (p.num.natAbs*q.den) (decide (q.num<0)) (q.num.natAbs*p.den)).2 (p.den*q.den) hsl (by omega) (Nat.mul_pos p.den_pos q.den_pos);rw[show p+q=mkRat (bH (cM (decide (p.num<0)) (p.num.natAbs*q.den) (decide (q.num<0)) (q.num.natAbs*p.den)).1 (cM (decide (p.num<0)) (p.num.natAbs*q.den) (decide (q.num<0)) (q.num.natAbs*p.den)).2) (p.den*q.den)from lO rfl rfl rfl rfl rfl rfl];generalize cM (decide (p.num<0)) (p.num.natAbs*q.den) (decide (q.num<0)) (q.num.natAbs*p.den)=s at*;generalize mkRat (bH s.1 s.2) (p.den*q.den)=r at*;unfold aS at*;refine Fn.of Tryz.func61 rfl (by kernel_rfl) Tryz.ntmps61 Tryz.results61 rfl fun w0 S0=>?_;refine wa ?_;refine c1 m1 ?_;refine wa ?_;refine c1 b1 ?_;refine wa ?_;refine c1 m2 ?_;refine wa ?_;refine c1 b1 ?_;refine wa ?_;exact⟨.cn rfl rfl inferInstance rfl ⟨.inl rfl,.inl rfl,.inl rfl,trivial⟩,trivial⟩
theorem zQ(h1:Bd k p)(h2:Bd m q)(hk:k+m≤50000000):Fn Tryz.prog 58 [.g (aS p),.g (aS q)] [.d (.v (.int .i64 (cL (p-q))))]:=by
 have hn:=wZ q;have hs:=tA h1 h2.neg hk;rw[←Rat.sub_eq_add_neg]at hs;have hg:=oH (p-q);generalize p-q=r at*;generalize-q=q' at*;unfold aS at*;refine Fn.of Tryz.func58 rfl (by kernel_rfl) Tryz.ntmps58 Tryz.results58 rfl fun w0 S0=>?_;refine wa ?_;exact⟨.d rfl (.inl rfl),trivial⟩
end
theorem kp:bits 0=[]:=bits_eq_nil.2 rfl
theorem pB(n:Int)(h0: -9223372036854775808≤n)(h1:n≤9223372036854775807):Fn Tryz.prog 60 [.d (.v (.int .i64 n))] [.g (aS n)]:=by
 have hw1:=kn 1 (by decide);unfold aS;rw[show (n:Rat).num=n from rfl,show (n:Rat).den=1 from rfl];have hcv:∀ z:Int,0≤z→z<18446744073709551616→IntKind.u64.wrap z=z:=fun z h2 h3=>by
  simp only[IntKind.wrap,IntKind.bits,IntKind.signed,Bool.false_and];rw[if_neg (by decide)];omega
 by_cases hn:n<0
 ·have hw:=kn (n.natAbs-1) (by omega);have ha:=uV (n.natAbs-1) 1 (by have:=bT (n:=n.natAbs-1) (k:=64) (by omega);omega) (by decide+kernel);rw[show n.natAbs-1+1=n.natAbs by omega]at ha;rw[decide_eq_true hn];refine Fn.of Tryz.func60 rfl (by kernel_rfl) Tryz.ntmps60 Tryz.results60 rfl fun w0 S0=>?_;refine wa ?_;((try (first | intro K ms hms hK | intro K hK));(first | apply Ch.go | apply Ch.ah);exact rfl;exact rfl;exact Loc.neg rfl rfl (by rw[Int.zero_sub];exact IntWalk.i64_in _ (by omega)));((try (first | intro K ms hms hK | intro K hK));(first | apply Ch.go | apply Ch.ah);exact rfl;exact rfl;exact Loc.conv (m:=((n.natAbs-1:Nat):Int)) rfl rfl (by rw[hcv _ (by omega) (by omega)];omega));refine c1 hw ?_;refine wa ?_;refine c1 hw1 ?_;refine wa ?_;refine c1 hw1 ?_;refine wa ?_;exact⟨.cn rfl rfl inferInstance rfl ⟨.inl rfl,.inl rfl,.inl rfl,trivial⟩,trivial⟩
 ·have hw:=kn n.natAbs (by omega);rw[decide_eq_false hn];refine Fn.of Tryz.func60 rfl (by kernel_rfl) Tryz.ntmps60 Tryz.results60 rfl fun w0 S0=>?_;refine wa ?_;((try (first | intro K ms hms hK | intro K hK));(first | apply Ch.go | apply Ch.ah);exact rfl;exact rfl;exact Loc.conv (m:=(n.natAbs:Int)) rfl rfl (by rw[hcv _ (by omega) (by omega)];omega));refine c1 hw ?_;refine wa ?_;refine c1 hw1 ?_;refine wa ?_;exact⟨.cn rfl rfl inferInstance rfl ⟨.inl rfl,.inl rfl,.inl rfl,trivial⟩,trivial⟩
theorem EO(l:List Nat):Fn Tryz.prog 165 [.d (aJ l)] [.d (aJ (l.take 8))]:=by
 have hc:=qh (l.take 8) (by simp;omega);by_cases h8:8<l.length
 ·refine Fn.of Tryz.func165 rfl (by kernel_rfl) Tryz.ntmps165 Tryz.results165 rfl fun w0 S0=>?_;refine wa ?_;((try (first | intro K ms hms hK | intro K hK));(first | apply Ch.go | apply Ch.ah);exact rfl;exact rfl;exact Loc.sO 8 rfl rfl rfl rfl (by omega));refine wa ?_;exact⟨.d rfl (.inl rfl),trivial⟩
 ·rw[List.take_of_length_le (by omega)]at hc ⊢;refine Fn.of Tryz.func165 rfl (by kernel_rfl) Tryz.ntmps165 Tryz.results165 rfl fun w0 S0=>?_;refine wa ?_;exact⟨.d rfl (.inl rfl),trivial⟩
theorem zV(p:Rat):mkRat (bH (decide (p.num<0)) p.num.natAbs) p.den=p:=by
 have:bH (decide (p.num<0)) p.num.natAbs=p.num:=by
  unfold bH;by_cases h:p.num<0
  ·rw[if_pos (by simpa using h)];omega
  ·rw[if_neg (by simpa using h)];omega
 rw[this];exact Rat.mkRat_self p
theorem wB{k:Nat}{p:Rat}(h1:Bd k p)(hk:k≤10000000):Fn Tryz.prog 59 [.g (aN p)] [.g (aS p)]:=by
 have hp:=x5 h1 (by omega);have o1:=kZ (ae p.num.natAbs) (Nat.le_trans (iA h1.1) hk) (bX _);have o2:=kZ (ae p.den) (Nat.le_trans (iA h1.2) hk) (bX _);rw[ax]at o1 o2;have hd:=oX (decide (p.num<0)) p.num.natAbs p.den (Nat.le_trans (bT h1.1) (by omega)) (Nat.le_trans (bT h1.2) (by omega)) p.den_pos;rw[zV]at hd;have hl:0<(bits p.den).length:=by rcases iU (n:=p.den)with h | h;exact absurd h.1 p.den_nz;exact h.2
 unfold aN aS at*;generalize decide (p.num<0)=b at*;generalize ae p.num.natAbs=L at*;generalize iG p.den=D0 at*;generalize ae p.den=D1 at*;refine Fn.of Tryz.func59 rfl (by kernel_rfl) Tryz.ntmps59 Tryz.results59 rfl fun w0 S0=>?_;refine wa ?_;refine c1 o1 ?_;refine wa ?_;exact⟨.cn rfl rfl inferInstance rfl ⟨.inl rfl,.inl rfl,.inl rfl,trivial⟩,trivial⟩
theorem qT(neg:Bool)(l m:List Nat)(hl:l.length≤100000000)(hm:m.length≤100000000)(hy:0<aa 4294967296 m)(hdl:∀ x∈l,x<4294967296)(hdm:∀ x∈m,x<4294967296):Fn Tryz.prog 166 [.d (.v (.bool neg)),.d (aJ l),.d (aJ m)] [.g (aN (mkRat (bH neg (aa 4294967296 l)) (aa 4294967296 m))),.d (.v (.bool true))]:=Dz neg hdl hdm hl hm hy
def ux(d:List Nat):List Nat:=if aa 4294967296 (d.take 8)=0 then [1]else d.take 8
def y9(nb:Bool)(x d:List Nat):Rat:=mkRat (bH nb (aa 4294967296 (x.take 8))) (aa 4294967296 (ux d))
end Go.Proofs.YthdkkpocihkgbaaGreatDoor
namespace Go.Proofs.YthdkkpocihkgbaaGreatDoor
open Go.RowKit
attribute [local irreducible] AC Do St
def FY(n:Bool×List Nat×List Nat):List D:=[.v (.bool n.1),aJ n.2.1,aJ n.2.2]
def FM(n:Bool×List Nat×List Nat):Prop:=(∀x∈n.2.1,x<4294967296)∧(∀x∈n.2.2,x<4294967296)
def nQ(n:Bool×List Nat×List Nat):Rat:=y9 n.1 n.2.1 n.2.2
end Go.Proofs.YthdkkpocihkgbaaGreatDoor
namespace Go.Proofs.YthdkkpocihkgbaaGreatDoor
open Go.RowKit
attribute [local irreducible] AC Do St
structure Ex where
 t:List Tm
 c:Rat
def dw(t:Tm):List D:= .v (.int .i64 t.1)::aN t.2
def bO(t:Tm):List D:= .v (.int .i64 t.1)::aS t.2
def fc(e:Ex):List D:= .l (e.t.map dw)::aN e.c
def gi(e:Ex):List D:= .l (e.t.map bO)::aS e.c
end Go.Proofs.YthdkkpocihkgbaaGreatDoor
namespace Go.Proofs.YthdkkpocihkgbaaGreatDoor
open Go.RowKit
attribute [local irreducible] AC Do St
theorem DA(e:Ex)(k:Nat)(hk:k≤10000000)(hc:Bd k e.c)(ht:∀ t∈e.t,Bd k t.2)(hlen:e.t.length≤1000000):Fn Tryz.prog 187 [.g (fc e)] [.g (gi e)]:=by
 refine Fn.of Tryz.func187 rfl (by kernel_rfl) Tryz.ntmps187 Tryz.results187 rfl fun w0 S0=>?_;refine wk ?_;(first | intro K ms hms hK | intro K hK);((first | apply Ch.go | apply Ch.ah);exact rfl;exact rfl;refine Loc.jh (wB hc hk) rfl ?_;(repeat (first | exact trivial | refine⟨.inl rfl,?_⟩ | refine⟨.inr rfl,?_⟩)));refine wk ?_;refine AC.mj 3 0 26 179 4 rfl rfl rfl ?_;refine AC.loop (X:=Nat) (fun i=>⟨[(1,.p 1 0),(2,.p 2 0),(3,.p 3 0),(11,.d (.l (e.t.map dw))),(12,.d (.v (.int .i64 (e.t.length:Int)))),(13,.d (.v (.int .i64 (i:Int))))],[(2,.box 175 [.d .n,.d (.v (.bool false)),.d .n,.d .n]),(3,.box 175 (.r 26 i::(aS e.c).map .d)),(26,.row i 179 4 ((e.t.take i).map bO))]⟩) (fun i=>i≤e.t.length) (fun i=>e.t.length-i) 0 (Nat.zero_le _) ⟨rfl,rfl,rfl,rfl,rfl,rfl,trivial⟩ ⟨rfl,rfl,rfl,trivial⟩ ?_;intro i hi;refine wk ?_;(first | intro K ms hms hK | intro K hK);(first | refine Ch.lss rfl rfl rfl rfl rfl (fun h1=>?_) (fun h1=>?_) | refine Ch.xp rfl rfl rfl rfl rfl (fun h1=>?_) (fun h1=>?_))
 ·have hi':i<e.t.length:=by omega
  have hget:e.t[i]?=some e.t[i]:=List.getElem?_eq_getElem hi';have hts:(e.t.take (i+1)).map bO=(e.t.take i).map bO++[bO e.t[i]]:=by
   rw[List.take_succ_eq_append_getElem hi',List.map_append];rfl
  refine wk ?_;(first | intro K ms hms hK | intro K hK);((first | apply Ch.go | apply Ch.ah);exact rfl;exact rfl;refine Loc.jh (wB (ht _ (List.getElem_mem hi')) hk) rfl ?_;(repeat (first | exact trivial | refine⟨.inl rfl,?_⟩ | refine⟨.inr rfl,?_⟩)));refine wk ?_;refine⟨i+1,by omega,by omega,⟨rfl,rfl,rfl,rfl,rfl,rfl,trivial⟩,⟨rfl,rfl,by rw[hts];rfl,trivial⟩⟩
 ·have hend:e.t.take i=e.t:=List.take_of_length_le (by omega);refine wk ?_;(first | intro K ms hms hK | intro K hK);refine Ch.gT 3 0 rfl rfl rfl ?_;refine wk ?_;rw[hend];exact⟨.cn rfl rfl inferInstance rfl ⟨.inl rfl,.inl rfl,.inl rfl,.inl rfl,trivial⟩,trivial⟩
