/-
  The walk: the rules, one after another, as far as they go. No program in sight.
-/
import Derived.Test.YtfijmpmojhlnmaaGreatDoorFn
namespace Go.Proofs.YtfijmpmojhlnmaaGreatDoor
open Go.RowKit
/-- What is left to be shown. -/
structure Wk (q : Prop) : Prop where
  out : q
theorem wk {p q : Prop} (k : q) (hs : Wk q → p := by
    intro k
    repeat (first
      | refine Chain.no rfl rfl ?_
      | refine Chain.noD rfl rfl ?_
      | ((first | apply Chain.go | apply Chain.goD); exact rfl; exact rfl; first
        | exact Loc.move (v := .d _) rfl rfl
        | exact Loc.assign (v := .d _) rfl rfl
        | exact Loc.loadP1 rfl rfl rfl rfl
        | exact Loc.loadQ1 rfl rfl rfl
        | exact Loc.fieldP rfl rfl rfl
        | exact Loc.fieldQ rfl rfl
        | exact Loc.pickT (v := .d _) rfl rfl rfl
        | exact Loc.pickF (v := .d _) rfl rfl rfl
        | exact Loc.loadPn rfl rfl rfl rfl (by kernel_rfl)
        | exact Loc.loadQw rfl rfl rfl
        | exact Loc.loadQn rfl rfl rfl rfl
        | exact Loc.idxM rfl rfl rfl rfl (by assumption) rfl
        | exact Loc.lenM rfl rfl
        | exact Loc.lenN rfl rfl
        | exact Loc.lenR rfl rfl rfl
        | exact Loc.len rfl rfl
        | exact Loc.lssT rfl rfl rfl (by omega)
        | exact Loc.lssF rfl rfl rfl (by omega)
        | exact Loc.eqlT rfl rfl rfl (by omega)
        | exact Loc.eqlF rfl rfl rfl (by omega)
        | exact Loc.neqT rfl rfl rfl (by omega)
        | exact Loc.neqF rfl rfl rfl (by omega)
        | exact Loc.gtrT rfl rfl rfl (by omega)
        | exact Loc.gtrF rfl rfl rfl (by omega)
        | exact Loc.geqT rfl rfl rfl (by omega)
        | exact Loc.geqF rfl rfl rfl (by omega)
        | exact Loc.leqT rfl rfl rfl (by omega)
        | exact Loc.leqF rfl rfl rfl (by omega)
        | exact Loc.add rfl rfl rfl (IntWalk.i64_in _ (by omega))
        | exact Loc.sub rfl rfl rfl (IntWalk.i64_in _ (by omega))
        | exact Loc.notT rfl rfl
        | exact Loc.notF rfl rfl
        | exact Loc.fieldE rfl rfl rfl
        | exact Loc.loadE1 rfl rfl rfl (by assumption) rfl
        | exact Loc.idxR rfl rfl rfl rfl rfl (by omega) rfl
        | exact Loc.move (v := .g _) rfl rfl
        | exact Loc.move (v := .p _ _) rfl rfl
        | exact Loc.move (v := .r _ _) rfl rfl
        | exact Loc.move (v := .t _) rfl rfl
        | exact Loc.assign (v := .g _) rfl rfl
        | exact Loc.assign (v := .r _ _) rfl rfl
        | exact Loc.assign (v := .p _ _) rfl rfl
        | exact Loc.extract (v := .d _) rfl rfl rfl rfl
        | exact Loc.extract (v := .g _) rfl rfl rfl rfl
        | exact Loc.pickT (v := .g _) rfl rfl rfl
        | exact Loc.pickF (v := .g _) rfl rfl rfl
        | exact Loc.move (v := .un) rfl rfl
        | exact Loc.build rfl rfl rfl rfl
        | exact Loc.litP rfl rfl rfl rfl rfl rfl rfl)
      | refine Chain.nil0 (hK _ ?_)
      | ((first | apply Chain.st | apply Chain.stD); exact rfl; exact rfl; (first
        | exact Do.storeP rfl rfl rfl rfl .g rfl rfl rfl
        | exact Do.storeP rfl rfl rfl rfl .d rfl rfl rfl
        | exact Do.storeP rfl rfl rfl rfl (.r rfl) rfl rfl rfl); exact rfl; exact rfl)
      | ((first | apply Chain.ef | apply Chain.efD); exact rfl; exact rfl; (first
        | exact Do.alloc rfl rfl rfl
        | exact Do.box rfl rfl rfl .g rfl
        | exact Do.box rfl rfl rfl .d rfl
        | exact Do.lit0 rfl rfl
        | exact Do.append1 rfl rfl rfl rfl rfl rfl (by first | omega | (simp; omega))
        | exact Do.appendN1 rfl rfl rfl rfl rfl rfl); exact rfl; exact rfl)
      | refine Chain.nilD (by rw [hms]; kernel_rfl) (hK _ ?_)
      | refine Chain.noN rfl rfl ?_
      | refine AC.seq ?_
      | (refine AC.reg (by decide +kernel) ?_; intro K hK)
      | (refine AC.regG (by decide +kernel) ?_; intro K hK)
      | (refine AC.drw (by kernel_rfl) (by decide +kernel) ?_; intro K ms hms hK)
      | (refine AC.drwG (by kernel_rfl) (by decide +kernel) ?_; intro K ms hms hK)
      | refine AC.condT rfl ?_
      | refine AC.condF rfl ?_
      | refine AC.block ?_
      | refine AC.exit ?_
      | refine AC.ret ?_
      | refine AC.skip ?_)
    first
      | exact k.out
      | (revert K; exact k.out)
      | (revert K ms; exact k.out)) : p := hs ⟨k⟩
end Go.Proofs.YtfijmpmojhlnmaaGreatDoor
