/-
  The law attestlaw15: its own functions.
-/
import Derived.Test.YthdkkpocihkgbaaGreatDoorNtI
namespace Go.Proofs.YthdkkpocihkgbaaGreatDoor
open Go.RowKit
attribute [local irreducible] AC Do St
/-- The lowest 16 bits of a number's digits. -/
def lowN (l : List Nat) : List Nat := (l.take 1).map fun x => x % 65536
def oneN (n : Bool × List Nat × List Nat) : Bool × List Nat × List Nat := (n.1, lowN n.2.1, lowN n.2.2)
set_option maxRecDepth 100000 in
set_option maxHeartbeats 1000000 in
theorem lowF (l : List Nat) (hl : ∀ x ∈ l, x < 4294967296) : Fn Tryz.prog 112 [.d (enL l), .d (.v (.int .u32 65536))] [.d (enL (lowN l))] := by
  refine Fn.of Tryz.func112 rfl (by kernel_rfl) Tryz.ntmps112 Tryz.results112 rfl fun w0 S0 => ?_
  cases l with
  | nil =>
    have h0 : ([] : List Nat).length = 0 := rfl
    refine wk ?_
    exact ⟨.d rfl (.inr rfl), trivial⟩
  | cons x r =>
    have hget : (x :: r)[0]? = some x := rfl
    have hx := hl x List.mem_cons_self
    have h0 : (x :: r).length = r.length + 1 := rfl
    refine wk ?_
    ((try (first | intro K ms hms hK | intro K hK)); (first | apply Chain.go | apply Chain.goD); exact rfl; exact rfl; exact Loc.rem rfl rfl rfl (Int.natCast_nonneg _) (by decide))
    refine wk ?_
    exact ⟨.d rfl (.inl rfl), trivial⟩
set_option maxRecDepth 100000 in
set_option maxHeartbeats 1000000 in
theorem oneF (n : Bool × List Nat × List Nat) (hn : okN n) : Fn Tryz.prog 54 [.g (enN n)] [.g (enN (oneN n))] := by
  have f1 := lowF n.2.1 hn.1
  have f2 := lowF n.2.2 hn.2
  refine Fn.of Tryz.func54 rfl (by kernel_rfl) Tryz.ntmps54 Tryz.results54 rfl fun w0 S0 => ?_
  refine wk ?_
  refine c1 f1 ?_
  refine wk ?_
  refine c1 f2 ?_
  refine wk ?_
  exact ⟨.cn rfl rfl inferInstance rfl ⟨.inl rfl, .inl rfl, .inl rfl, trivial⟩, trivial⟩
def onesN (l : List (Bool × List Nat × List Nat)) : List (Bool × List Nat × List Nat) := (l.take 40).map oneN
set_option maxRecDepth 100000 in
set_option maxHeartbeats 1000000 in
theorem onesF (l : List (Bool × List Nat × List Nat)) (hl : okP l) : Fn Tryz.prog 19 [.d (.l (l.map enN))] [.d (.l ((onesN l).map enN))] := by
  refine Fn.of Tryz.func19 rfl (by kernel_rfl) Tryz.ntmps19 Tryz.results19 rfl fun w0 S0 => ?_
  refine wk ?_
  refine AC.loop (X := Nat) (fun i => ⟨[(0, .d (.l (l.map enN))), (3, .r 5 i), (4, .d (.v (.int .i64 (i : Int))))], [(5, .row i 128 3 (((l.take i).map oneN).map enN))]⟩) (fun i => i ≤ l.length ∧ i ≤ 40) (fun i => 40 - i) 0 ⟨Nat.zero_le _, Nat.zero_le _⟩ ⟨rfl, rfl, rfl, trivial⟩ ⟨rfl, trivial⟩ ?_
  intro i ⟨hi, hi6⟩
  have hend : (i = l.length ∨ i = 40) → (l.take i).map oneN = onesN l := fun h => by
    show _ = (l.take 40).map oneN
    rcases h with h | h
    · rw [h, List.take_of_length_le (Nat.le_refl _), List.take_of_length_le (by omega)]
    · rw [h]
  refine wk ?_
  refine s1 (fun h1 => ?_) (fun h1 => ?_)
  · have hi' : i < l.length := by omega
    have hget : l[i]? = some l[i] := List.getElem?_eq_getElem hi'
    have hok := hl l[i] (List.getElem_mem hi')
    have hts : ((l.take (i + 1)).map oneN).map enN = ((l.take i).map oneN).map enN ++ [enN (oneN l[i])] := by
      rw [List.take_succ_eq_append_getElem hi', List.map_append, List.map_append]; rfl
    refine wk ?_
    refine s1 (fun h2 => ?_) (fun h2 => ?_)
    · refine wk ?_
      refine c1 (oneF l[i] hok) ?_
      refine wk ?_
      refine ⟨i + 1, ⟨by omega, by omega⟩, by omega, ⟨rfl, rfl, rfl, trivial⟩, ⟨by rw [hts]; rfl, trivial⟩⟩
    · refine wk ?_
      rw [← hend (by omega)]
      exact ⟨.d rfl ⟨_, _, rfl⟩, trivial⟩
  · refine wk ?_
    rw [← hend (by omega)]
    exact ⟨.d rfl ⟨_, _, rfl⟩, trivial⟩
end Go.Proofs.YthdkkpocihkgbaaGreatDoor
