/-
  Shifts and bits of numbers; bytes as texts. No program in sight.
-/
import Derived.Test.YtfijmpmojhlnmaaDoorFnS
namespace Go.Proofs.YtfijmpmojhlnmaaDoor
open Go.RowKit
section
variable {P : Program} {C : Cx} {o : Oper} {σ : AS}
/-- The result of two numbers, of two kinds. -/
theorem Loc.bin2 {op : BinOp} {T T' : TypeId} {x y : Operand} {k k' : IntKind} {a b : Int} {v : Value} (ho : o.op = .binOp op T x y T') (hx : ev σ x = .d (.v (.int k a))) (hy : ev σ y = .d (.v (.int k' b)))
    (hr : ∀ w, (binOp op T (.int k a) (.int k' b)).run P w = .ok v w) (h1 : v.oneCell' = true) : Loc P C o σ (.d (.v v)) :=
  Loc.two (by rw [ho]; simp [Op.operands]) hx (by rw [ho]; simp [Op.operands]) hy fun S w β O c h1' h2' => by
    refine ⟨v, ?_, .mk h1⟩
    unfold execOp; rw [ho]
    have hg : (eqGuard op T x y (.int k a) (.int k' b)).run P w = .ok () w := by
      unfold eqGuard
      cases op <;> simp
    simp [RA.val h1', RA.val h2', hg, hr]
theorem Loc.shl {T T' : TypeId} {x y : Operand} {k k' : IntKind} {a m : Int} (c : Nat) (ho : o.op = .binOp .shl T x y T') (hx : ev σ x = .d (.v (.int k a))) (hy : ev σ y = .d (.v (.int k' c))) (hc : Nat.ble c k.bits = true) (hm : k.wrap (a * 2 ^ c) = m) : Loc P C o σ (.d (.v (.int k m))) :=
  Loc.bin2 ho hx hy (fun w => by
    rw [Nat.ble_eq] at hc
    have e : min (Int.toNat (c : Int)) k.bits = c := by omega
    have h1 : (binOp .shl T (.int k a) (.int k' c)) = Op.shift .shl k a k' c := rfl
    rw [h1]
    unfold Op.shift
    rw [if_neg (by omega)]
    simp only [e, hm]
    rfl) rfl
theorem Loc.shr {T T' : TypeId} {x y : Operand} {k k' : IntKind} {a m : Int} (c : Nat) (ho : o.op = .binOp .shr T x y T') (hx : ev σ x = .d (.v (.int k a))) (hy : ev σ y = .d (.v (.int k' c))) (hc : Nat.ble c k.bits = true) (hm : a.fdiv (2 ^ c) = m) : Loc P C o σ (.d (.v (.int k m))) :=
  Loc.bin2 ho hx hy (fun w => by
    rw [Nat.ble_eq] at hc
    have e : min (Int.toNat (c : Int)) k.bits = c := by omega
    have h1 : (binOp .shr T (.int k a) (.int k' c)) = Op.shift .shr k a k' c := rfl
    rw [h1]
    unfold Op.shift
    rw [if_neg (by omega)]
    simp only [e, hm]
    rfl) rfl
theorem Loc.xor {T T' : TypeId} {x y : Operand} {k : IntKind} {a b m : Int} (ho : o.op = .binOp .xor T x y T') (hx : ev σ x = .d (.v (.int k a))) (hy : ev σ y = .d (.v (.int k b))) (hm : k.wrap ((BitVec.ofInt k.bits a ^^^ BitVec.ofInt k.bits b).toNat : Int) = m) : Loc P C o σ (.d (.v (.int k m))) :=
  Loc.bin2 ho hx hy (fun w => by
    have h1 : (binOp .xor T (.int k a) (.int k b)).run P w = .ok (.int k (k.wrap ((BitVec.ofInt k.bits a ^^^ BitVec.ofInt k.bits b).toNat : Int))) w := by
      cases k <;> simp [binOp, Op.intBits]
    rw [h1, hm]) rfl
theorem Loc.or {T T' : TypeId} {x y : Operand} {k : IntKind} {a b m : Int} (ho : o.op = .binOp .or T x y T') (hx : ev σ x = .d (.v (.int k a))) (hy : ev σ y = .d (.v (.int k b))) (hm : k.wrap ((BitVec.ofInt k.bits a ||| BitVec.ofInt k.bits b).toNat : Int) = m) : Loc P C o σ (.d (.v (.int k m))) :=
  Loc.bin2 ho hx hy (fun w => by
    have h1 : (binOp .or T (.int k a) (.int k b)).run P w = .ok (.int k (k.wrap ((BitVec.ofInt k.bits a ||| BitVec.ofInt k.bits b).toNat : Int))) w := by
      cases k <;> simp [binOp, Op.intBits]
    rw [h1, hm]) rfl
/-- Bytes, cell by cell. -/
def enBy (c : UInt8) : List D := [.v (.int .u8 (c.toNat : Int))]
/-- 'string(b)'. -/
theorem Loc.toStr {T T' : TypeId} {x : Operand} {e : TypeId} {bs : List UInt8} (ho : o.op = .convert T T' x) (hx : ev σ x = .d (.l (bs.map enBy))) (hs : P.underlying T = some (.slice e)) (he : P.underlying e = some (.int .u8)) (hd : P.underlying T' = some .string) : Loc P C o σ (.d (.v (.string ⟨bs.toArray⟩))) :=
  Loc.one (by rw [ho]; simp [Op.operands]) hx fun S w β O a h1 => by
    have h1 : RD S w (a.eval x) (.l (bs.map enBy)) := h1
    generalize hu : a.eval x = u at h1
    refine ⟨.string ⟨bs.toArray⟩, ?_, .mk rfl⟩
    unfold execOp; rw [ho]
    have hr : (convert T T' u).run P w = .ok (.string ⟨bs.toArray⟩) w := by
      cases h1 with
      | @l a n c _ k us hn hc hm hk ha hel =>
        rw [List.length_map] at hn
        by_cases h0 : n = 0
        · have : bs = [] := List.eq_nil_of_length_eq_zero (by omega)
          subst this
          subst h0
          cases a with
          | none => exact run_convert_bytes_nil w T e hs he 0 c T' hd
          | some ad => exact run_convert_bytes_back w T T' e _ c [] hs he hd fun j hj => absurd hj (by simp)
        · obtain ⟨b, o2, rfl, hb, hcell⟩ := ha (by omega)
          have hk1 : k = 1 := by
            have := hk 0 (by simp; omega)
            rw [List.getElem_map] at this
            exact this.symm
          subst hk1
          rw [hn]
          refine run_convert_bytes_back w T T' e _ c bs hs he hd fun j hj => ?_
          have h2 := hcell j (by simpa using hj) 0 (by rw [List.getElem_map]; exact Nat.zero_lt_one)
          have h3 := hel j (by simpa using hj) 0 (by rw [List.getElem_map]; exact Nat.zero_lt_one)
          simp only [List.getElem_map, enBy, List.getElem_cons_zero] at h3
          generalize us j 0 = u at h2 h3
          cases h3
          rw [show (⟨b, o2, none⟩ : Addr).add j = ⟨b, o2 + (j * 1 + 0), none⟩ by simp [Addr.add]]
          exact h2
    simp [hu, hr]
end
end Go.Proofs.YtfijmpmojhlnmaaDoor
