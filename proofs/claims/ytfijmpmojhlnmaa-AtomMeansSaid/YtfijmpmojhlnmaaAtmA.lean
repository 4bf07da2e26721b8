/-
  Package atom by plain data.
  Package atom by plain data.
-/
import Derived.Test.YtfijmpmojhlnmaaLinD
import Derived.Test.YtfijmpmojhlnmaaRef9
namespace Go.Proofs.Ytfijmpmojhlnmaa
open Go.RowKit
attribute [local irreducible] AC Do St
set_option maxRecDepth 100000 in
set_option maxHeartbeats 4000000 in
theorem holdsF (a : At) (p : List Rat) (k : Nat) (ho : okOp a.op) (hc : Bd k a.e.c) (ht : ∀ t ∈ a.e.t, Bd k t.2) (hp : ∀ q ∈ p, Bd k q) (hk0 : 0 < k) (hk : (a.e.t.length + 2) * (2 * k + 1) ≤ 50000000) : Fn Try.prog 22 [.g (enA a), .d (.l (p.map enR))] [.d (.v (.bool (sayB a.op (a.e.c + evalT p a.e.t)))), .d (.v (.int .i64 0))] := by
  refine Fn.of Try.func22 rfl (by kernel_rfl) Try.ntmps22 Try.results22 rfl fun w0 S0 => ?_
  refine wk ?_
  ((try (first | intro K ms hms hK | intro K hK)); (first | apply Chain.go | apply Chain.goD); exact rfl; exact rfl; refine Loc.callD (checkA a ho) rfl ?_; (repeat (first | exact trivial | refine ⟨.inl rfl, ?_⟩ | refine ⟨.inr rfl, ?_⟩)))
  refine wk ?_
  ((try (first | intro K ms hms hK | intro K hK)); (first | apply Chain.go | apply Chain.goD); exact rfl; exact rfl; refine Loc.callG (evalF a.e p k hc ht hp hk0 hk) rfl ?_; (repeat (first | exact trivial | refine ⟨.inl rfl, ?_⟩ | refine ⟨.inr rfl, ?_⟩)))
  ((try (first | intro K ms hms hK | intro K hK)); (first | apply Chain.go | apply Chain.goD); exact rfl; exact rfl; refine Loc.callD (saysR a.op (a.e.c + evalT p a.e.t) ho) rfl ?_; (repeat (first | exact trivial | refine ⟨.inl rfl, ?_⟩ | refine ⟨.inr rfl, ?_⟩)))
  refine wk ?_
  exact ⟨.d rfl (.inl rfl), .d rfl (.inl rfl), trivial⟩
set_option maxRecDepth 100000 in
set_option maxHeartbeats 4000000 in
theorem holdsNo (a : At) (p : List Rat) (ho : ¬ okOp a.op) : Fn Try.prog 22 [.g (enA a), .d (.l (p.map enR))] [.d (.v (.bool false)), .d (.v (.int .i64 4))] := by
  refine Fn.of Try.func22 rfl (by kernel_rfl) Try.ntmps22 Try.results22 rfl fun w0 S0 => ?_
  refine wk ?_
  ((try (first | intro K ms hms hK | intro K hK)); (first | apply Chain.go | apply Chain.goD); exact rfl; exact rfl; refine Loc.callD (checkNo a ho) rfl ?_; (repeat (first | exact trivial | refine ⟨.inl rfl, ?_⟩ | refine ⟨.inr rfl, ?_⟩)))
  refine wk ?_
  exact ⟨.d rfl (.inl rfl), .d rfl (.inl rfl), trivial⟩
/-- What stands against a constraint. -/
noncomputable def notL (a : At) : List At := if a.op = 1 then [⟨scaleE (-1) a.e, 2⟩] else if a.op = 2 then [⟨scaleE (-1) a.e, 1⟩] else [⟨⟨canL a.e.t, a.e.c⟩, 2⟩, ⟨scaleE (-1) a.e, 2⟩]
set_option maxRecDepth 100000 in
set_option maxHeartbeats 4000000 in
theorem notF (a : At) (k : Nat) (ho : okOp a.op) (hc : Bd k a.e.c) (ht : ∀ t ∈ a.e.t, Bd k t.2) (hk : (a.e.t.length + 2) * (1 + k + 1) ≤ 50000000) : Fn Try.prog 26 [.g (enA a)] [.d (.l ((notL a).map enA)), .d (.v (.int .i64 0))] := by
  have hm1 : Bd 1 (-1 : Rat) := ⟨by decide, by decide⟩
  have hk2 : (a.e.t.length + 2) * (k + 1) ≤ 50000000 := Nat.le_trans (Nat.mul_le_mul_left _ (by omega)) hk
  refine Fn.of Try.func26 rfl (by kernel_rfl) Try.ntmps26 Try.results26 rfl fun w0 S0 => ?_
  refine wk ?_
  ((try (first | intro K ms hms hK | intro K hK)); (first | apply Chain.go | apply Chain.goD); exact rfl; exact rfl; refine Loc.callD (checkA a ho) rfl ?_; (repeat (first | exact trivial | refine ⟨.inl rfl, ?_⟩ | refine ⟨.inr rfl, ?_⟩)))
  refine wk ?_
  ((try (first | intro K ms hms hK | intro K hK)); (first | apply Chain.go | apply Chain.goD); exact rfl; exact rfl; refine Loc.callG (ratInt (-1) (by omega) (by omega)) rfl ?_; (repeat (first | exact trivial | refine ⟨.inl rfl, ?_⟩ | refine ⟨.inr rfl, ?_⟩)))
  refine wk ?_
  ((try (first | intro K ms hms hK | intro K hK)); (first | apply Chain.go | apply Chain.goD); exact rfl; exact rfl; refine Loc.callG (scaleF (-1) a.e 1 k hm1 ht hc hk) rfl ?_; (repeat (first | exact trivial | refine ⟨.inl rfl, ?_⟩ | refine ⟨.inr rfl, ?_⟩)))
  refine wk ?_
  ((try (first | intro K ms hms hK | intro K hK)); (first | refine Chain.eql rfl rfl rfl rfl rfl (fun h1 => ?_) (fun h1 => ?_) | refine Chain.eqlD rfl rfl rfl rfl rfl (fun h1 => ?_) (fun h1 => ?_)))
  · have hn : notL a = [⟨scaleE (-1) a.e, 2⟩] := by unfold notL; rw [if_pos h1]
    refine wk ?_
    rw [hn]
    exact ⟨.d rfl (.inl rfl), .d rfl (.inl rfl), trivial⟩
  · refine wk ?_
    (first | intro K ms hms hK | intro K hK)
    ((try (first | intro K ms hms hK | intro K hK)); (first | refine Chain.eql rfl rfl rfl rfl rfl (fun h2 => ?_) (fun h2 => ?_) | refine Chain.eqlD rfl rfl rfl rfl rfl (fun h2 => ?_) (fun h2 => ?_)))
    · have hn : notL a = [⟨scaleE (-1) a.e, 1⟩] := by unfold notL; rw [if_neg h1, if_pos h2]
      refine wk ?_
      rw [hn]
      exact ⟨.d rfl (.inl rfl), .d rfl (.inl rfl), trivial⟩
    · have hn : notL a = [⟨⟨canL a.e.t, a.e.c⟩, 2⟩, ⟨scaleE (-1) a.e, 2⟩] := by unfold notL; rw [if_neg h1, if_neg h2]
      refine wk ?_
      ((try (first | intro K ms hms hK | intro K hK)); (first | apply Chain.go | apply Chain.goD); exact rfl; exact rfl; refine Loc.callG (canF a.e k ht hk2) rfl ?_; (repeat (first | exact trivial | refine ⟨.inl rfl, ?_⟩ | refine ⟨.inr rfl, ?_⟩)))
      refine wk ?_
      rw [hn]
      exact ⟨.d rfl (.inl rfl), .d rfl (.inl rfl), trivial⟩
set_option maxRecDepth 100000 in
set_option maxHeartbeats 4000000 in
theorem notNo (a : At) (ho : ¬ okOp a.op) : Fn Try.prog 26 [.g (enA a)] [.d (.l []), .d (.v (.int .i64 4))] := by
  refine Fn.of Try.func26 rfl (by kernel_rfl) Try.ntmps26 Try.results26 rfl fun w0 S0 => ?_
  refine wk ?_
  ((try (first | intro K ms hms hK | intro K hK)); (first | apply Chain.go | apply Chain.goD); exact rfl; exact rfl; refine Loc.callD (checkNo a ho) rfl ?_; (repeat (first | exact trivial | refine ⟨.inl rfl, ?_⟩ | refine ⟨.inr rfl, ?_⟩)))
  refine wk ?_
  exact ⟨.d rfl (.inr rfl), .d rfl (.inl rfl), trivial⟩
end Go.Proofs.Ytfijmpmojhlnmaa
namespace Go.Proofs.Ytfijmpmojhlnmaa
open Go.RowKit
attribute [local irreducible] AC Do St
/-- The zero constraint, as Go hands it out beside an error. -/
def zeroA : List D := [.l [], .v (.bool false), .l [], .l [], .v (.int .i64 0)]
set_option maxRecDepth 100000 in
set_option maxHeartbeats 4000000 in
theorem canNo (a : At) (ho : ¬ okOp a.op) : Fn Try.prog 6 [.g (enA a)] [.g zeroA, .d (.v (.int .i64 0)), .d (.v (.int .i64 4))] := by
  refine Fn.of Try.func6 rfl (by kernel_rfl) Try.ntmps6 Try.results6 rfl fun w0 S0 => ?_
  refine wk ?_
  ((try (first | intro K ms hms hK | intro K hK)); (first | apply Chain.go | apply Chain.goD); exact rfl; exact rfl; refine Loc.callD (checkNo a ho) rfl ?_; (repeat (first | exact trivial | refine ⟨.inl rfl, ?_⟩ | refine ⟨.inr rfl, ?_⟩)))
  refine wk ?_
  exact ⟨.cn rfl rfl inferInstance rfl ⟨.inr rfl, .inl rfl, .inr rfl, .inr rfl, .inl rfl, trivial⟩, .d rfl (.inl rfl), .d rfl (.inl rfl), trivial⟩
end Go.Proofs.Ytfijmpmojhlnmaa
