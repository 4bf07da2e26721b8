import Derived.Lib.ItoaLen
import Derived.Test.YthdkkpocihkgbaaGreatDoorP1
import Derived.Test.YthdkkpocihkgbaaGreatDoorDigA
namespace Go.Proofs.YthdkkpocihkgbaaGreatDoor
open Go.RowKit
theorem valF_dval:∀ (l:List UInt8) (a:Nat),valF a l=a*10^l.length+dval 10 ((l.map fun c=>c.toNat-48).reverse)
 | [],a=>by simp[valF]
 | c::l,a=>by
   have h:=valF_dval l (a*10+(c.toNat-48));have e:valF a (c::l)=valF (a*10+(c.toNat-48)) l:=rfl;rw[e,h,List.map_cons,List.reverse_cons,dval_concat,List.length_reverse,List.length_map,List.length_cons,Nat.pow_succ,Nat.add_mul];have e1:a*10*10^l.length=a*(10^l.length*10):=by rw[Nat.mul_assoc,Nat.mul_comm 10]
   have e2:(c.toNat-48)*10^l.length=10^l.length*(c.toNat-48):=Nat.mul_comm ..;omega
end Go.Proofs.YthdkkpocihkgbaaGreatDoor
namespace Go.Proofs.YthdkkpocihkgbaaGreatDoor
open Go.RowKit
attribute [local irreducible] AC Do St
section
variable {p q:Rat}{k:Nat}
theorem cutU(x:Nat):Fn Tryz.prog 207 [.d (enL (limbs x))] [.d (enL (limbs x))]:=
 ⟨⟨_,Tryz.func207,by kernel_rfl,by kernel_rfl⟩,fun S w vs hS hv=>by
   obtain⟨u,rfl,ha⟩:=hv.one;have q1:=oneU.ofRD (RD.mono ha hS) (limbs_dg x);obtain⟨a1,c1,e1,_⟩:=id q1;injection e1 with e1;subst e1;refine(cut_any (limbs x) a1 _ c1 w _ q1).mono ?_;rintro e w' ⟨rfl,rfl⟩;rw[show dval 4294967296 (limbs x)=x from limbs_val x];exact⟨_,rfl,Below.refl _ _,RD.mono ha fun b hb=>⟨.inl hb,hS b hb⟩⟩⟩
end
def w4(w:Nat):List UInt8:=(four w).map UInt8.ofNat
theorem shr_nat(w s:Nat):((w:Nat):Int).fdiv (2^s)=((w / 2^s:Nat):Int):=by
 rw[Int.fdiv_eq_ediv_of_nonneg _ (Int.le_of_lt (Int.pow_pos (by omega)))];simp
end Go.Proofs.YthdkkpocihkgbaaGreatDoor
namespace Go.Proofs.YthdkkpocihkgbaaGreatDoor
open Go.RowKit
attribute [local irreducible] AC Do St
section
variable {P:Program}{C:Cx}{o:Oper}{σ:AS}
end
section
variable {p q:Rat}{k:Nat}
end
end Go.Proofs.YthdkkpocihkgbaaGreatDoor
namespace Go.Proofs.YthdkkpocihkgbaaGreatDoor
open Go.RowKit
attribute [local irreducible] AC Do St
end Go.Proofs.YthdkkpocihkgbaaGreatDoor
namespace Go.Proofs.YthdkkpocihkgbaaGreatDoor
open Go.RowKit
attribute [local irreducible] AC Do St
end Go.Proofs.YthdkkpocihkgbaaGreatDoor
