/-
  Maps of the call's own, with whole numbers for elements. No program in sight.
-/
import Derived.Test.YtfijmpmojhlnmaaGreatDoorFnX
import Derived.Maps.OwnSet
import Derived.Carry
namespace Go.Proofs.YtfijmpmojhlnmaaGreatDoor
open Go.RowKit
section
variable {P : Program} {C : Cx} {o : Oper} {σ : AS}
/-- Block b is a map that reads as M. -/
def mapR (P : Program) (K E : TypeId) (b n : Nat) (M : DataW Unit) : (Nat → Prop) → World → Prop := fun _ w => w.ownsMap P K (plainElem P E) b n M
theorem mapR_stable (P : Program) (K E : TypeId) (b n : Nat) (M : DataW Unit) : RStable (.map (some b)) (mapR P K E b n M) := fun S S' w w' h _ hb => by
  obtain ⟨es, clock, h1, h2⟩ := h
  exact ⟨es, clock, (hb b rfl).trans h1, h2⟩
/-- A map of the call's own, as one of its blocks. -/
def mapO (P : Program) (K E : TypeId) (b n : Nat) (M : DataW Unit) : AO := .own (.map (some b)) (mapR P K E b n M)
theorem Chain.mkMap {E : List (Nat × AV)} {O : List (Nat × AO)} {ops : Array Oper} {fin : List Inf → Prop} {Q : AS → Prop} {rest : List Oper} {d : Nat} {T : TypeId} (Kt Et : TypeId) (hg : o.guard = none) (hd : o.dst = some d) (ho : o.op = .makeMap T none) (hn : noRef ⟨E, O⟩ d = true)
    (h : ∀ b, Chain P C ops fin Q none rest ⟨(d, .d (.v (.map (some b)))) :: E, (d, mapO P Kt Et b 0 (.map [])) :: O⟩) : Chain P C ops fin Q none (o :: rest) ⟨E, O⟩ := by
  refine .eff (fun σ' => ∃ b, σ' = ⟨(d, .d (.v (.map (some b)))) :: E, (d, mapO P Kt Et b 0 (.map [])) :: O⟩) hg (fun hdst a w K Q' ⟨β, hi⟩ hK => ?_) (by rintro _ ⟨b, rfl⟩; exact h b)
  have hr : (execOp a.eval o).run P w = .ok (.value (.map (some w.heap.size))) (w.alloc (.map #[] 0)) := by
    unfold execOp; rw [ho]
    simp [run_makeMap]
  unfold Oper.wp
  rw [hr]
  refine hK _ _ _ ⟨w.heap.size, rfl⟩ ⟨bset β d (.map (some w.heap.size)), ?_⟩
  have hx : Ext w (w.alloc (.map #[] 0)) := Below.al (Below.refl _ _) _
  rw [hd]
  have := (hi.fresh d (dstOK.out hdst d hd) (noRef.out hn) (mapO P Kt Et w.heap.size 0 (.map [])) hx (.map (some w.heap.size)) (fun b hb => by cases hb; exact ⟨Nat.le_refl _, by simp⟩) fun _ => ⟨by simp [bset], World.ownsMap_made w P Kt _, mapR_stable _ _ _ _ _ _⟩).put (some d) (fun t ht => by cases ht; exact dstOK.out hdst d hd) (u := .map (some w.heap.size)) (v := .d (.v (.map (some w.heap.size)))) (.v rfl)
  exact this
theorem vals_of {S : Nat → Prop} {w : World} {us xs : List Value} (h : RDs S w us (xs.map D.v)) : us = xs := by
  refine List.ext_getElem (by simpa using h.1) fun i h1 h2 => ?_
  have := h.2 i h1 (by simpa using h2)
  rw [List.getElem_map] at this
  generalize us[i] = u at this ⊢
  generalize xs[i]'(by have := h.1; simp at this; omega) = x at this ⊢
  cases this
  rfl
/-- 'v, ok := m[k]', the key a struct of numbers and texts. -/
theorem Loc.lookM {T Kt Et : TypeId} {m x : Operand} {b n id : Nat} {M : DataW Unit} {xs : List Value} {kl : Lit} {c : Int} {r : Bool} (ho : o.op = .lookup T m x true) (hm : ev σ m = .d (.v (.map (some b)))) (hO : get? σ.objs id = some (mapO P Kt Et b n M)) (hx : ev σ x = .g (xs.map D.v))
    (hT : P.underlying T = some (.map Kt Et)) (hE : P.underlying Et = some (.int .i64)) (hz : ∀ w, (zeroValue Et).run P w = .ok (.int .i64 0) w) (hk : Go.Maps.Keyed P Kt) (hkey : keyOf P Kt (.agg xs.toArray) = some kl) (hc : M.atKey kl (.lit (.int .i64 0)) = .lit (.int .i64 c)) (hr : Go.Maps.has M kl = r) :
    LocR P C o σ (.t [.d (.v (.int .i64 c)), .d (.v (.bool r))]) id := by
  refine Loc.quiet fun σ' hl β a w hi => ?_
  have h1 := hl.ra hi (x := m) (by rw [ho]; simp [Op.operands])
  have h2 := hl.ra hi (x := x) (by rw [ho]; simp [Op.operands])
  rw [hm] at h1
  rw [hx] at h2
  have e1 := RA.val h1
  obtain ⟨us, e2, h3⟩ := h2
  have e3 := vals_of h3
  subst e3
  have hO' : get? σ'.objs id = some (mapO P Kt Et b n M) := by rw [hl.rd id (by simp)]; exact hO
  obtain ⟨_, hown, _⟩ := hi.obj id _ hO'
  have hown : w.ownsMap P Kt (plainElem P Et) b n M := hown
  obtain ⟨v, ps, hrun, hv⟩ := hown.look_ok hk hT (hz w) (plainElem_int hE (by decide)) hkey
  obtain ⟨c', rfl, hc', _⟩ := plainElem_int_inv hE hv
  simp only [Prod.mk.injEq] at hc'
  rw [hc] at hc'
  obtain ⟨hc', _⟩ := hc'
  cases hc'
  refine ⟨.tuple #[.int .i64 c, .bool (Go.Maps.has M kl)], by unfold execOp; rw [ho]; simp [e1, e2, hrun], [.int .i64 c, .bool (Go.Maps.has M kl)], rfl, rfl, fun i h h' => ?_⟩
  match i, h with
  | 0, _ => exact .v rfl
  | 1, _ => rw [hr]; exact .v rfl
/-- 'm[k] = v'. -/
theorem Do.putM {T Kt Et : TypeId} {m x y : Operand} {b n id : Nat} {M : DataW Unit} {xs : List Value} {kl : Lit} {c : Int} (ho : o.op = .mapUpdate T m x y) (hm : ev σ m = .d (.v (.map (some b)))) (hO : get? σ.objs id = some (mapO P Kt Et b n M)) (hx : ev σ x = .g (xs.map D.v)) (hy : ev σ y = .d (.v (.int .i64 c)))
    (hT : P.underlying T = some (.map Kt Et)) (hE : P.underlying Et = some (.int .i64)) (hk : Go.Maps.Keyed P Kt) (hkey : keyOf P Kt (.agg xs.toArray) = some kl) (hn : n ≤ 1000000000) (hw : (Lit.int .i64 c).wf = true) (hd : o.dst = none) :
    Do P C o σ .un ⟨[id], [], [(id, mapO P Kt Et b (n + 1) (M.put kl (.lit (.int .i64 c))))], none⟩ := by
  intro σ' hl hdst a w K Q' ⟨β, hi⟩ hK
  have h1 := hl.ra hi (x := m) (by rw [ho]; simp [Op.operands])
  have h2 := hl.ra hi (x := x) (by rw [ho]; simp [Op.operands])
  have h3 := hl.ra hi (x := y) (by rw [ho]; simp [Op.operands])
  rw [hm] at h1
  rw [hx] at h2
  rw [hy] at h3
  have e1 := RA.val h1
  have e4 := RA.val h3
  obtain ⟨us, e2, h4⟩ := h2
  have e3 := vals_of h4
  subst e3
  have hO' : get? σ'.objs id = some (mapO P Kt Et b n M) := by rw [hl.rd id (by simp)]; exact hO
  obtain ⟨hb, hown, _⟩ := hi.obj id _ hO'
  have hown : w.ownsMap P Kt (plainElem P Et) b n M := hown
  obtain ⟨w', hrun, hown', hgr⟩ := hown.update hk hT (by unfold maxLen; omega) (val := .int .i64 c) hkey (plainElem_int hE hw)
  unfold Oper.wp
  have hr : (execOp a.eval o).run P w = .ok .skip w' := by
    unfold execOp; rw [ho]; simp [e1, e2, e4, hrun]
  rw [hr]
  refine hK _ _ ⟨bset β id (.map (some b)), ?_⟩
  have := hi.upd id _ (mapO P Kt Et b (n + 1) (M.put kl (.lit (.int .i64 c)))) hO' (.map (some b)) hgr.os hgr.tape hgr.output hgr.size (fun k hk hne => hgr.block k hk fun e => hne (by rw [hb, e]; rfl)) (fun k hk2 => by
    cases hk2
    exact ⟨.inl (by rw [hb]; rfl), Nat.lt_of_lt_of_le hown.lt hgr.size⟩) hb.symm fun _ _ => ⟨by simp [bset], hown', mapR_stable _ _ _ _ _ _⟩
  rw [hd]
  exact this
end
end Go.Proofs.YtfijmpmojhlnmaaGreatDoor
