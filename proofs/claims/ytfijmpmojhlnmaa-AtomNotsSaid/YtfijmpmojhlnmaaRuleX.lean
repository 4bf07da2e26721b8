/-
  Equality of truths. No program in sight.
-/
import Derived.Test.YtfijmpmojhlnmaaWalk
namespace Go.Proofs.Ytfijmpmojhlnmaa
open Go.RowKit
section
variable {P : Program} {C : Cx} {o : Oper} {σ : AS}
/-- The result of two truths. -/
theorem Loc.binB {op : BinOp} {T T' : TypeId} {x y : Operand} {a b r : Bool} (ho : o.op = .binOp op T x y T') (hx : ev σ x = .d (.v (.bool a))) (hy : ev σ y = .d (.v (.bool b)))
    (hr : ∀ w, (binOp op T (.bool a) (.bool b)).run P w = .ok (.bool r) w) : Loc P C o σ (.d (.v (.bool r))) :=
  Loc.two (by rw [ho]; simp [Op.operands]) hx (by rw [ho]; simp [Op.operands]) hy fun S w β O c h1' h2' => by
    refine ⟨.bool r, ?_, .mk rfl⟩
    unfold execOp; rw [ho]
    have hg : (eqGuard op T x y (.bool a) (.bool b)).run P w = .ok () w := by
      unfold eqGuard
      cases op <;> simp
    simp [RA.val h1', RA.val h2', hg, hr]
theorem Loc.eqB {T T' : TypeId} {x y : Operand} {a b r : Bool} (ho : o.op = .binOp .eql T x y T') (hx : ev σ x = .d (.v (.bool a))) (hy : ev σ y = .d (.v (.bool b))) (hT : P.underlying T = some .bool) (hr : (a == b) = r) : Loc P C o σ (.d (.v (.bool r))) :=
  Loc.binB ho hx hy fun w => by subst hr; simp [binOp, run_equal_bool _ _ _ _ hT]
theorem Loc.neB {T T' : TypeId} {x y : Operand} {a b r : Bool} (ho : o.op = .binOp .neq T x y T') (hx : ev σ x = .d (.v (.bool a))) (hy : ev σ y = .d (.v (.bool b))) (hT : P.underlying T = some .bool) (hr : (a != b) = r) : Loc P C o σ (.d (.v (.bool r))) :=
  Loc.binB ho hx hy fun w => by subst hr; simp [binOp, run_equal_bool _ _ _ _ hT]; cases a <;> cases b <;> rfl
end
end Go.Proofs.Ytfijmpmojhlnmaa
