/-
  No cell of these rows narrows 'for every input' (looked for: loops, veiled, ifaces, maps, wideKeys, modest, calm, conditions, laid).
  DERIVED. THE GIVEN ROWS OF THIS SEAT. 3 by the template 'for every input the law returns true; each argument reads behind the call as it read before'; 0 by the template 'total and deterministic' (their statements: YtfijmpmojhlnmaaTotals.lean).
  GIVEN WITH THE SEED: the statements are not yours to turn. If you find one false, say at which input.
  Laid BY PROGRAM, IN A SANDBOX (cutbox-rows.mjs): the forced cells as the released guide's own fill.sh prints them over the translation b0ee632310c44b59… (all of the seat's roots in one cut). By AI agents, Wed Nov 11 2026. No macro, syntax, notation, axiom, sorry.
-/
import Derived.Test.YtfijmpmojhlnmaaChecked
import GoSem.Claim
import GoSem.ClaimJoined
import GoSem.ClaimMapViews
import Derived.JoinedTies
import Derived.KernelRfl
namespace Go.Proofs.Ytfijmpmojhlnmaa
/- THE CELL 'sum', in the pinned program and in every row, IS THE sha256 OF THE DUMP (.gsa) THAT YtfijmpmojhlnmaaProg.lean LOADS. Nothing in Lean hashes anything: it is a label: what it is worth is what the hold of that sum in a sandbox is worth. -/
noncomputable def Try.pinned : Pinned := { name := "ytfijmpmojhlnmaa", sum := "b0ee632310c44b5957b9c7128264a85754c22988de54ba6966c4297eaf69ab5f", checked := Try.checked }
namespace Rows
def none {H : Type} : Left H := { results := [], args := [] }

/-- 'attestlaw09.AtomCanons': WHATEVER THE INPUT: true; the input reads as it did. -/
def atomCanonsSpec : ChangeSpec := { name := "atomCanons", fn := fun _ => fun
  | [d] => { results := [.lit (.bool true)], args := [d] }
  | _ => none }
def atomCanonsRow : OpenClaim := { program := "ytfijmpmojhlnmaa", sum := "b0ee632310c44b5957b9c7128264a85754c22988de54ba6966c4297eaf69ab5f", func := "attest/attestlaw09.AtomCanons", spec := "atomCanons", unfollowed := true, recurses := true, apart := false }
def AtomCanonsSaid : Prop := atomCanonsRow.holds Try.pinned (OpenSpec.ofChange atomCanonsSpec)

/-- ITS FALSE NEIGHBOUR: 'it returns false'. Refute it at one input. -/
def atomCanonsWrong : ChangeSpec := { name := "atomCanons", fn := fun _ => fun
  | [d] => { results := [.lit (.bool false)], args := [d] }
  | _ => none }
def AtomCanonsWrongFalsely : Prop := atomCanonsRow.holds Try.pinned (OpenSpec.ofChange atomCanonsWrong)

/-- 'attestlaw09.AtomMeans': WHATEVER THE INPUT: true; the input reads as it did. -/
def atomMeansSpec : ChangeSpec := { name := "atomMeans", fn := fun _ => fun
  | [d1, d2] => { results := [.lit (.bool true)], args := [d1, d2] }
  | _ => none }
def atomMeansRow : OpenClaim := { program := "ytfijmpmojhlnmaa", sum := "b0ee632310c44b5957b9c7128264a85754c22988de54ba6966c4297eaf69ab5f", func := "attest/attestlaw09.AtomMeans", spec := "atomMeans", unfollowed := true, recurses := true, apart := false }
def AtomMeansSaid : Prop := atomMeansRow.holds Try.pinned (OpenSpec.ofChange atomMeansSpec)

/-- ITS FALSE NEIGHBOUR: 'it returns false'. Refute it at one input. -/
def atomMeansWrong : ChangeSpec := { name := "atomMeans", fn := fun _ => fun
  | [d1, d2] => { results := [.lit (.bool false)], args := [d1, d2] }
  | _ => none }
def AtomMeansWrongFalsely : Prop := atomMeansRow.holds Try.pinned (OpenSpec.ofChange atomMeansWrong)

/-- 'attestlaw09.AtomNots': WHATEVER THE INPUT: true; the input reads as it did. -/
def atomNotsSpec : ChangeSpec := { name := "atomNots", fn := fun _ => fun
  | [d1, d2] => { results := [.lit (.bool true)], args := [d1, d2] }
  | _ => none }
def atomNotsRow : OpenClaim := { program := "ytfijmpmojhlnmaa", sum := "b0ee632310c44b5957b9c7128264a85754c22988de54ba6966c4297eaf69ab5f", func := "attest/attestlaw09.AtomNots", spec := "atomNots", unfollowed := true, recurses := true, apart := false }
def AtomNotsSaid : Prop := atomNotsRow.holds Try.pinned (OpenSpec.ofChange atomNotsSpec)

/-- ITS FALSE NEIGHBOUR: 'it returns false'. Refute it at one input. -/
def atomNotsWrong : ChangeSpec := { name := "atomNots", fn := fun _ => fun
  | [d1, d2] => { results := [.lit (.bool false)], args := [d1, d2] }
  | _ => none }
def AtomNotsWrongFalsely : Prop := atomNotsRow.holds Try.pinned (OpenSpec.ofChange atomNotsWrong)

/- THE SECOND FORM. 'bulk': how many values and letters a reading holds, each counted each time it is reached (what is shared counts as often as it is met; a slice's spare places count too). A statement '..UptoSaid' is the law's where the arguments, and the package variables that the reading takes, are together of bulk at most 1048576: NARROWER than '..Said'. Prove '..Said' where nothing that the law and all that it calls make is longer than what came in: it says more and counts as full. Else prove '..UptoSaid'. A law counts once. -/
mutual
def uptoBulk {H : Type} : DataW H → Nat
  | .lit (.string bytes) => bytes.length + 1
  | .lit _ => 1
  | .nil => 1
  | .ptr d => uptoBulk d + 1
  | .slice elems spare => uptoBulkAll elems + uptoBulkAll spare + 1
  | .agg parts => uptoBulkAll parts + 1
  | .iface _ d => uptoBulk d + 1
  | .map entries => uptoBulkEntries entries + 1
  | .held _ => 1
def uptoBulkAll {H : Type} : List (DataW H) → Nat
  | [] => 0
  | d :: r => uptoBulk d + uptoBulkAll r
def uptoBulkEntries {H : Type} : List (Lit × DataW H) → Nat
  | [] => 0
  | x :: r => uptoBulkEntry x + uptoBulkEntries r
def uptoBulkEntry {H : Type} : Lit × DataW H → Nat
  | (.string bytes, d) => bytes.length + uptoBulk d + 1
  | (_, d) => uptoBulk d + 1
 end
def uptoSmall : (H : Type) → List (DataW H) → Bool := fun _ ds => decide (uptoBulkAll ds ≤ 1048576)
def OpenSpec.upto (s : _root_.Go.ChangeSpec) : _root_.Go.OpenSpec := { _root_.Go.OpenSpec.ofChange s with cond := some uptoSmall }

/-- 'attestlaw09.AtomCanons', WHERE WHAT IT READS IS OF BULK AT MOST 1048576: true; the input reads as it did. -/
def atomCanonsUptoRow : OpenClaim := { program := "ytfijmpmojhlnmaa", sum := "b0ee632310c44b5957b9c7128264a85754c22988de54ba6966c4297eaf69ab5f", func := "attest/attestlaw09.AtomCanons", spec := "atomCanons", unfollowed := true, recurses := true, apart := false, narrowed := true }
def AtomCanonsUptoSaid : Prop := atomCanonsUptoRow.holds Try.pinned (OpenSpec.upto atomCanonsSpec)

/-- 'attestlaw09.AtomMeans', WHERE WHAT IT READS IS OF BULK AT MOST 1048576: true; the input reads as it did. -/
def atomMeansUptoRow : OpenClaim := { program := "ytfijmpmojhlnmaa", sum := "b0ee632310c44b5957b9c7128264a85754c22988de54ba6966c4297eaf69ab5f", func := "attest/attestlaw09.AtomMeans", spec := "atomMeans", unfollowed := true, recurses := true, apart := false, narrowed := true }
def AtomMeansUptoSaid : Prop := atomMeansUptoRow.holds Try.pinned (OpenSpec.upto atomMeansSpec)

/-- 'attestlaw09.AtomNots', WHERE WHAT IT READS IS OF BULK AT MOST 1048576: true; the input reads as it did. -/
def atomNotsUptoRow : OpenClaim := { program := "ytfijmpmojhlnmaa", sum := "b0ee632310c44b5957b9c7128264a85754c22988de54ba6966c4297eaf69ab5f", func := "attest/attestlaw09.AtomNots", spec := "atomNots", unfollowed := true, recurses := true, apart := false, narrowed := true }
def AtomNotsUptoSaid : Prop := atomNotsUptoRow.holds Try.pinned (OpenSpec.upto atomNotsSpec)

end Rows
end Go.Proofs.Ytfijmpmojhlnmaa
