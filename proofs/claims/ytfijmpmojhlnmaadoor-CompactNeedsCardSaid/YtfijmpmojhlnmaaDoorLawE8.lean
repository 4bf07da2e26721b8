/-
  Expressions (attestlaw08) by plain data: made, and told.
-/
import Derived.Test.YtfijmpmojhlnmaaDoorLawE
import Derived.Test.YtfijmpmojhlnmaaDoorLinP
namespace Go.Proofs.YtfijmpmojhlnmaaDoor
open Go.RowKit
attribute [local irreducible] AC Do St
/-- An expression: its terms and its constant. -/
structure Ex where
  t : List Tm
  c : Rat
def enT (t : Tm) : List D := .v (.int .i64 t.1) :: enR t.2
def enTQ (t : Tm) : List D := .v (.int .i64 t.1) :: enQ t.2
def enE (e : Ex) : List D := .l (e.t.map enT) :: enR e.c
def enEQ (e : Ex) : List D := .l (e.t.map enTQ) :: enQ e.c
/-- .. as the law is handed it. -/
structure EN where
  t : List (Int × Bool × List Nat × List Nat)
  c : Bool × List Nat × List Nat
def enTN (t : Int × Bool × List Nat × List Nat) : List D := .v (.int .i64 t.1) :: enN t.2
def enEN (e : EN) : List D := .l (e.t.map enTN) :: enN e.c
structure okEN (e : EN) : Prop where
  t : ∀ x ∈ e.t, okN x.2 ∧ -9223372036854775808 ≤ x.1 ∧ x.1 ≤ 9223372036854775807
  c : okN e.c
  l : e.t.length ≤ 9223372036854775807
def tmN (t : Int × Bool × List Nat × List Nat) : Tm := (t.1, nQ t.2)
def exN (e : EN) : Ex := ⟨(e.t.take 12).map tmN, nQ e.c⟩
set_option maxRecDepth 100000 in
set_option maxHeartbeats 1000000 in
theorem ofN (n : Bool × List Nat × List Nat) (hn : okN n) : Fn Tryd.prog 17 [.g (enN n)] [.g (enR (nQ n))] := by
  refine Fn.of Tryd.func17 rfl (by kernel_rfl) Tryd.ntmps17 Tryd.results17 rfl fun w0 S0 => ?_
  refine wk ?_
  (first | intro K ms hms hK | intro K hK)
  ((first | apply Chain.go | apply Chain.goD); exact rfl; exact rfl; refine Loc.callT (both n hn) rfl ?_; (repeat (first | exact trivial | refine ⟨.inl rfl, ?_⟩ | refine ⟨.inr rfl, ?_⟩)))
  refine wk ?_
  exact ⟨.cn rfl rfl inferInstance rfl ⟨.inl rfl, .inl rfl, .inl rfl, trivial⟩, trivial⟩
end Go.Proofs.YtfijmpmojhlnmaaDoor
