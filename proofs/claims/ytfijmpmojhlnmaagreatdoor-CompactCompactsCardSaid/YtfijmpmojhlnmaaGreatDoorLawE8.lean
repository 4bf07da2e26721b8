/-
  Expressions (attestlaw08) by plain data: made, and told.
-/
import Derived.Test.YtfijmpmojhlnmaaGreatDoorLawE
import Derived.Test.YtfijmpmojhlnmaaGreatDoorLinP
namespace Go.Proofs.YtfijmpmojhlnmaaGreatDoor
open Go.RowKit
attribute [local irreducible] AC Do St
/-- An expression: its terms and its constant. -/
structure Ex where
  t : List Tm
  c : Rat
def enT (t : Tm) : List D := .v (.int .i64 t.1) :: enR t.2
def enTQ (t : Tm) : List D := .v (.int .i64 t.1) :: enQ t.2
def enE (e : Ex) : List D := .l (e.t.map enT) :: enR e.c
def enEQ (e : Ex) : List D := .l (e.t.map enTQ) :: enQ e.c
/-- .. as the law is handed it. -/
structure EN where
  t : List (Int × Bool × List Nat × List Nat)
  c : Bool × List Nat × List Nat
def enTN (t : Int × Bool × List Nat × List Nat) : List D := .v (.int .i64 t.1) :: enN t.2
def enEN (e : EN) : List D := .l (e.t.map enTN) :: enN e.c
structure okEN (e : EN) : Prop where
  t : ∀ x ∈ e.t, okN x.2 ∧ -9223372036854775808 ≤ x.1 ∧ x.1 ≤ 9223372036854775807
  c : okN e.c
  l : e.t.length ≤ 9223372036854775807
def tmN (t : Int × Bool × List Nat × List Nat) : Tm := (t.1, nQ t.2)
def exN (e : EN) : Ex := ⟨(e.t.take 12).map tmN, nQ e.c⟩
set_option maxRecDepth 100000 in
set_option maxHeartbeats 1000000 in
theorem ofN (n : Bool × List Nat × List Nat) (hn : okN n) : Fn Tryz.prog 41 [.g (enN n)] [.g (enR (nQ n))] := by
  refine Fn.of Tryz.func41 rfl (by kernel_rfl) Tryz.ntmps41 Tryz.results41 rfl fun w0 S0 => ?_
  refine wk ?_
  (first | intro K ms hms hK | intro K hK)
  ((first | apply Chain.go | apply Chain.goD); exact rfl; exact rfl; refine Loc.callT (both n hn) rfl ?_; (repeat (first | exact trivial | refine ⟨.inl rfl, ?_⟩ | refine ⟨.inr rfl, ?_⟩)))
  refine wk ?_
  exact ⟨.cn rfl rfl inferInstance rfl ⟨.inl rfl, .inl rfl, .inl rfl, trivial⟩, trivial⟩
set_option maxRecDepth 100000 in
set_option maxHeartbeats 1000000 in
theorem expr (e : EN) (he : okEN e) : Fn Tryz.prog 28 [.g (enEN e)] [.g (enE (exN e))] := by
  have hlen := he.l
  refine Fn.of Tryz.func28 rfl (by kernel_rfl) Tryz.ntmps28 Tryz.results28 rfl fun w0 S0 => ?_
  refine wk ?_
  (first | intro K ms hms hK | intro K hK)
  ((first | apply Chain.go | apply Chain.goD); exact rfl; exact rfl; refine Loc.callG (ofN e.c he.c) rfl ?_; (repeat (first | exact trivial | refine ⟨.inl rfl, ?_⟩ | refine ⟨.inr rfl, ?_⟩)))
  refine wk ?_
  refine AC.rowBox 3 0 37 121 4 rfl rfl rfl ?_
  refine AC.loop (X := Nat) (fun i => ⟨[(1, .p 1 0), (2, .p 2 0), (3, .p 3 0), (4, .d (.v (.int .i64 (i : Int))))], [(1, .box 52 ((enEN e).map .d)), (2, .box 65 [.d .n, .d (.v (.bool false)), .d .n, .d .n]), (3, .box 65 (.r 37 i :: (enR (nQ e.c)).map .d)), (37, .row i 121 4 (((e.t.take i).map tmN).map enT))]⟩) (fun i => i ≤ e.t.length ∧ i ≤ 12) (fun i => 12 - i) 0 ⟨Nat.zero_le _, Nat.zero_le _⟩ ⟨rfl, rfl, rfl, rfl, trivial⟩ ⟨rfl, rfl, rfl, rfl, trivial⟩ ?_
  intro i ⟨hi, hi12⟩
  have hend : (i = e.t.length ∨ i = 12) → (e.t.take i).map tmN = (exN e).t := fun h => by
    show _ = (e.t.take 12).map tmN
    rcases h with h | h
    · rw [h, List.take_of_length_le (Nat.le_refl _), List.take_of_length_le (by omega)]
    · rw [h]
  refine wk ?_
  (first | intro K ms hms hK | intro K hK)
  (first | refine Chain.lss rfl rfl rfl rfl rfl (fun h1 => ?_) (fun h1 => ?_) | refine Chain.lssD rfl rfl rfl rfl rfl (fun h1 => ?_) (fun h1 => ?_))
  · have hi' : i < e.t.length := by omega
    have hget : e.t[i]? = some e.t[i] := List.getElem?_eq_getElem hi'
    have hok := he.t e.t[i] (List.getElem_mem hi')
    have hts : ((e.t.take (i + 1)).map tmN).map enT = ((e.t.take i).map tmN).map enT ++ [enT (tmN e.t[i])] := by
      rw [List.take_succ_eq_append_getElem hi', List.map_append, List.map_append]; rfl
    refine wk ?_
    (first | refine Chain.lss rfl rfl rfl rfl rfl (fun h2 => ?_) (fun h2 => ?_) | refine Chain.lssD rfl rfl rfl rfl rfl (fun h2 => ?_) (fun h2 => ?_))
    · refine wk ?_
      (first | intro K ms hms hK | intro K hK)
      ((first | apply Chain.go | apply Chain.goD); exact rfl; exact rfl; refine Loc.callG (ofN e.t[i].2 hok.1) rfl ?_; (repeat (first | exact trivial | refine ⟨.inl rfl, ?_⟩ | refine ⟨.inr rfl, ?_⟩)))
      refine wk ?_
      refine ⟨i + 1, ⟨by omega, by omega⟩, by omega, ⟨rfl, rfl, rfl, rfl, trivial⟩, ⟨rfl, rfl, rfl, by rw [hts]; rfl, trivial⟩⟩
    · refine wk ?_
      (first | intro K ms hms hK | intro K hK)
      refine Chain.frzBox 3 0 rfl rfl rfl ?_
      refine wk ?_
      rw [hend (by omega)]
      exact ⟨.cn rfl rfl inferInstance rfl ⟨.inl rfl, .inl rfl, .inl rfl, .inl rfl, trivial⟩, trivial⟩
  · refine wk ?_
    (first | intro K ms hms hK | intro K hK)
    refine Chain.frzBox 3 0 rfl rfl rfl ?_
    refine wk ?_
    rw [hend (by omega)]
    exact ⟨.cn rfl rfl inferInstance rfl ⟨.inl rfl, .inl rfl, .inl rfl, .inl rfl, trivial⟩, trivial⟩
end Go.Proofs.YtfijmpmojhlnmaaGreatDoor
