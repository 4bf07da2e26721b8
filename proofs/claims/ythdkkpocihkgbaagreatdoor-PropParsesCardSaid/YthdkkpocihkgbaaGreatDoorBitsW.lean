import Derived.Shelf.Small.Bits
import Derived.Test.YthdkkpocihkgbaaGreatDoorK3
import Derived.Test.YthdkkpocihkgbaaGreatDoorProg
namespace Go.Proofs.YthdkkpocihkgbaaGreatDoor
open Go.RowKit
theorem AH{n:Int}(h:0≤n)(h2:n<256):IntKind.u8.wrap n=n:=by
 simp[IntKind.wrap,IntKind.bits,IntKind.signed];omega
section
variable {P:Program}{C:Cx}{o:Oper}{σ:AS}
theorem Loc.oV{T:TypeId}{x:Operand}{l:List UInt8}(ho:o.op= .call {callee:= .builtin .len,args:= #[x],argTypes:= #[T] })(hx:ev σ x= .d (.v (.string (tx l))))(hT:P.underlying T=some .string):Loc P C o σ (.d (.v (.int .i64 (l.length:Int)))):=by
 have:=Loc.bF (C:=C) ho hx hT;rwa[aB]at this
theorem Loc.qI{T:TypeId}{x y:Operand}{l:List UInt8}{c:UInt8}{n:Int}{kd:IntKind}{i:Nat}(ho:o.op= .index T x y)(hx:ev σ x= .d (.v (.string (tx l))))(hy:ev σ y= .d (.v (.int kd n)))(hn:n=(i:Int))(hi:l[i]?=some c)(hT:P.underlying T=some .string):Loc P C o σ (.d (.v (.int .u8 (c.toNat:Int)))):=Loc.bV i ho hx hy hn hi hT
theorem Loc.qE{T T':TypeId}{x y:Operand}{l m:List UInt8}(ho:o.op= .binOp .eql T x y T')(hx:ev σ x= .d (.v (.string (tx l))))(hy:ev σ y= .d (.v (.string (tx m))))(h:l=m):Loc P C o σ (.d (.v (.bool true))):=Loc.fz ho hx hy (by subst h;simp)
theorem Loc.qD{T T':TypeId}{x y:Operand}{l m:List UInt8}(ho:o.op= .binOp .eql T x y T')(hx:ev σ x= .d (.v (.string (tx l))))(hy:ev σ y= .d (.v (.string (tx m))))(h:l≠m):Loc P C o σ (.d (.v (.bool false))):=Loc.fz ho hx hy (by rw[cJ,cJ];simpa using h)
theorem Loc.yV{T T':TypeId}{x y:Operand}{l m:List UInt8}{r:Bool}(ho:o.op= .binOp .neq T x y T')(hx:ev σ x= .d (.v (.string (tx l))))(hy:ev σ y= .d (.v (.string (tx m))))(hr:decide (l≠m)=r):Loc P C o σ (.d (.v (.bool r))):=
 Loc.two (by rw[ho];simp[Op.operands]) hx (by rw[ho];simp[Op.operands]) hy fun S w β O a h1 h2=>by
  refine⟨.bool r,?_,.mk rfl⟩;unfold execOp;rw[ho];have e1:=RA.val h1;have e2:=RA.val h2;have hg:(eqGuard .neq T x y (.string (tx l)) (.string (tx m))).run P w= .ok () w:=by
   unfold eqGuard;simp
  have hb:((tx l).toList==(tx m).toList)=!r:=by
   rw[cJ,cJ,←hr];by_cases h:l=m<;>simp[h]
  simp[e1,e2,hg,binOp,Op.stringOp,hb]
theorem Loc.qH{T T':TypeId}{x y:Operand}{l m:List UInt8}(ho:o.op= .binOp .neq T x y T')(hx:ev σ x= .d (.v (.string (tx l))))(hy:ev σ y= .d (.v (.string (tx m))))(h:l≠m):Loc P C o σ (.d (.v (.bool true))):=Loc.yV ho hx hy (decide_eq_true h)
theorem Loc.qF{T T':TypeId}{x y:Operand}{l m:List UInt8}(ho:o.op= .binOp .neq T x y T')(hx:ev σ x= .d (.v (.string (tx l))))(hy:ev σ y= .d (.v (.string (tx m))))(h:l=m):Loc P C o σ (.d (.v (.bool false))):=Loc.yV ho hx hy (decide_eq_false fun e=>e h)
end
theorem wa{p q:Prop}(k:q)(hs:Wk q→p:=by
  intro k
  try (first | intro K ms hms hK | intro K hK)
  repeat (first
   | refine Ch.no rfl rfl ?_
   | refine Ch.iX rfl rfl ?_
   | ((first | apply Ch.go | apply Ch.ah);exact rfl;exact rfl;first
     | exact Loc.move (v:= .d _) rfl rfl
     | exact Loc.assign (v:= .d _) rfl rfl
     | exact Loc.c7 rfl rfl rfl rfl
     | exact Loc.cU rfl rfl rfl
     | exact Loc.cY rfl rfl rfl
     | exact Loc.cV rfl rfl
     | exact Loc.bh (v:= .d _) rfl rfl rfl
     | exact Loc.bk (v:= .d _) rfl rfl rfl
     | exact Loc.cz rfl rfl rfl rfl (by kernel_rfl)
     | exact Loc.cZ rfl rfl rfl
     | exact Loc.cQ rfl rfl rfl rfl
     | exact Loc.ea rfl rfl rfl rfl (by assumption) rfl
     | exact Loc.fN rfl rfl
     | exact Loc.fP rfl rfl
     | exact Loc.fM rfl rfl rfl
     | exact Loc.len rfl rfl
     | exact Loc.eb rfl rfl rfl (by omega)
     | exact Loc.eG rfl rfl rfl (by omega)
     | exact Loc.ec rfl rfl rfl (by omega)
     | exact Loc.eE rfl rfl rfl (by omega)
     | exact Loc.eP rfl rfl rfl (by omega)
     | exact Loc.eM rfl rfl rfl (by omega)
     | exact Loc.eD rfl rfl rfl (by omega)
     | exact Loc.eF rfl rfl rfl (by omega)
     | exact Loc.gn rfl rfl rfl (by omega)
     | exact Loc.gp rfl rfl rfl (by omega)
     | exact Loc.gG rfl rfl rfl (by omega)
     | exact Loc.gH rfl rfl rfl (by omega)
     | exact Loc.add rfl rfl rfl (IntWalk.i64_in _ (by omega))
     | exact Loc.sub rfl rfl rfl (IntWalk.i64_in _ (by omega))
     | exact Loc.fL rfl rfl
     | exact Loc.fJ rfl rfl
     | exact Loc.cW rfl rfl rfl
     | exact Loc.c8 rfl rfl rfl (by assumption) rfl
     | exact Loc.cB rfl rfl rfl rfl rfl (by omega) rfl
     | exact Loc.move (v:= .g _) rfl rfl
     | exact Loc.move (v:= .p _ _) rfl rfl
     | exact Loc.move (v:= .r _ _) rfl rfl
     | exact Loc.move (v:= .t _) rfl rfl
     | exact Loc.assign (v:= .g _) rfl rfl
     | exact Loc.assign (v:= .r _ _) rfl rfl
     | exact Loc.assign (v:= .p _ _) rfl rfl
     | exact Loc.extract (v:= .d _) rfl rfl rfl rfl
     | exact Loc.extract (v:= .g _) rfl rfl rfl rfl
     | exact Loc.bh (v:= .g _) rfl rfl rfl
     | exact Loc.bk (v:= .g _) rfl rfl rfl
     | exact Loc.move (v:= .un) rfl rfl
     | exact Loc.build rfl rfl rfl rfl
     | exact Loc.df rfl rfl rfl rfl rfl rfl rfl
     | exact Loc.mul rfl rfl rfl (IntWalk.i64_in _ (by omega))
     | exact Loc.sub rfl rfl rfl (AH (by omega) (by omega))
     | exact Loc.conv rfl rfl (IntWalk.i64_in _ (by omega))
     | exact Loc.oV rfl rfl (by kernel_rfl)
     | exact Loc.qI rfl rfl rfl rfl (by assumption) (by kernel_rfl)
     | exact Loc.qE rfl rfl rfl (by first | assumption | exact rfl)
     | exact Loc.qD rfl rfl rfl (by first | assumption | decide)
     | exact Loc.qH rfl rfl rfl (by first | assumption | decide)
     | exact Loc.qF rfl rfl rfl (by first | assumption | exact rfl)
     | exact Loc.AP rfl rfl rfl (by kernel_rfl) rfl
     | exact Loc.AL rfl rfl rfl (by kernel_rfl) rfl
     | (focus (refine Loc.eI (by assumption) rfl ?_;(repeat (first | exact trivial | refine⟨.inl rfl,?_⟩ | refine⟨.inr rfl,?_⟩));done))
     | (focus (refine Loc.jh (by assumption) rfl ?_;(repeat (first | exact trivial | refine⟨.inl rfl,?_⟩ | refine⟨.inr rfl,?_⟩));done))
     | (focus (refine Loc.mU (by assumption) rfl ?_;(repeat (first | exact trivial | refine⟨.inl rfl,?_⟩ | refine⟨.inr rfl,?_⟩));done))
     | (focus (refine Loc.ot (by assumption) rfl ?_ (gm KSt.st (by assumption) rfl);(repeat (first | exact trivial | refine⟨.inl rfl,?_⟩ | refine⟨.inr rfl,?_⟩));done))
     | (focus (refine Loc.oz (by assumption) rfl ?_ (gm KSt.st (by assumption) rfl);(repeat (first | exact trivial | refine⟨.inl rfl,?_⟩ | refine⟨.inr rfl,?_⟩));done))
     | (focus (refine Loc.lf (by assumption) rfl ?_ (gm KSt.st (by assumption) rfl);(repeat (first | exact trivial | refine⟨.inl rfl,?_⟩ | refine⟨.inr rfl,?_⟩));done)))
   | refine Ch.eO (hK _ ?_)
   | ((first | apply Ch.st | apply Ch.aU);exact rfl;exact rfl;(first
     | exact Do.aC rfl rfl rfl rfl .g rfl rfl rfl
     | exact Do.aC rfl rfl rfl rfl .d rfl rfl rfl
     | exact Do.aC rfl rfl rfl rfl (.r rfl) rfl rfl rfl);exact rfl;exact rfl)
   | ((first | apply Ch.ef | apply Ch.bU);exact rfl;exact rfl;(first
     | exact Do.alloc rfl rfl rfl
     | exact Do.box rfl rfl rfl .g rfl
     | exact Do.box rfl rfl rfl .d rfl
     | exact Do.fI rfl rfl
     | exact Do.ck rfl rfl rfl rfl rfl rfl (by first | omega | (simp;omega))
     | exact Do.bS rfl rfl rfl rfl rfl rfl);exact rfl;exact rfl)
   | refine Ch.fK (by rw[hms];kernel_rfl) (hK _ ?_)
   | refine Ch.iY rfl rfl ?_
   | refine AC.seq ?_
   | (refine AC.mm (by decide+kernel) ?_;intro K hK)
   | (refine AC.ox (by decide+kernel) ?_;intro K hK)
   | (refine AC.qG (by kernel_rfl) (by decide+kernel) ?_;intro K ms hms hK)
   | (refine AC.pD (by kernel_rfl) (by decide+kernel) ?_;intro K ms hms hK)
   | refine AC.jg rfl ?_
   | refine AC.ji rfl ?_
   | refine AC.block ?_
   | refine AC.exit ?_
   | refine AC.ret ?_
   | refine AC.skip ?_)
  first
   | exact k.out
   | (revert K;exact k.out)
   | (revert K ms;exact k.out)):p:=hs ⟨k⟩
end Go.Proofs.YthdkkpocihkgbaaGreatDoor
namespace Go.Proofs
open Go.Shelf
def Tryz.lays133_ren:Go.Shelf.Ren:=⟨fun | 133=>242 | 128=>265 | n=>n,fun | 51=>229 | 3=>3 | 4=>4 | 46=>287 | 5=>5 | 9=>9 | n=>n,fun | n=>n⟩
theorem Tryz.lays133:Go.Proofs.Lays.n133 Tryz.prog Tryz.lays133_ren:={
 mixed:=by kernel_rfl
 f128:=Tryz.func265.trans (congrArg some (by kernel_rfl))
 f133:=Tryz.func242.trans (congrArg some (by kernel_rfl))
 t3:=Tryz.underlying3
 a3:=Tryz.isAgg3
 z3:=Tryz.sizeOf3
 v3:=Tryz.zeroValue3
 t4:=Tryz.underlying4
 a4:=Tryz.isAgg4
 z4:=Tryz.sizeOf4
 v4:=Tryz.zeroValue4
 t5:=Tryz.underlying5
 a5:=Tryz.isAgg5
 z5:=Tryz.sizeOf5
 v5:=Tryz.zeroValue5
 t9:=Tryz.underlying9
 a9:=Tryz.isAgg9
 z9:=Tryz.sizeOf9
 v9:=Tryz.zeroValue9
 t46:=Tryz.underlying287
 a46:=Tryz.isAgg287
 z46:=Tryz.sizeOf287
 v46:=Tryz.zeroValue287
 t51:=Tryz.underlying229
 a51:=Tryz.isAgg229
 z51:=Tryz.sizeOf229
 v51:=Tryz.zeroValue229 }
theorem Tryz.bits_LeadingZeros32(x:Int)(w:World)(h0:0≤x)(h1:x≤4294967295):
  Calls Tryz.prog 242 #[.int .u32 x] w fun e w'=>e= .returned (.int .i64 (32-(Lib.bitLen x.toNat:Int)))∧w'=w:=Any.bits_LeadingZeros32 Tryz.lays133 x w h0 h1
