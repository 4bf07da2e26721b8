/-
 The law attestlaw15: its own functions.
-/
import Derived.Test.YthdkkpocihkgbaaGreatDoorNtH
namespace Go.Proofs.YthdkkpocihkgbaaGreatDoor
open Go.RowKit
attribute [local irreducible] AC Do St
def ratsN (l : List (Bool × List Nat × List Nat)) : List Rat := (l.take 34).map nQ
set_option maxRecDepth 100000 in
set_option maxHeartbeats 1000000 in
theorem ratsF (l : List (Bool × List Nat × List Nat)) (hl : okP l) : Fn Tryz.prog 20 [.d (.l (l.map enN))] [.d (enRs (ratsN l))] := by
 refine Fn.of Tryz.func20 rfl (by kernel_rfl) Tryz.ntmps20 Tryz.results20 rfl fun w0 S0 => ?_
 refine wk ?_
 refine AC.loop (X := Nat) (fun i => ⟨[(0, .d (.l (l.map enN))), (3, .r 5 i), (4, .d (.v (.int .i64 (i : Int))))], [(5, .row i 119 3 (((l.take i).map nQ).map enR))]⟩) (fun i => i ≤ l.length ∧ i ≤ 34) (fun i => 34 - i) 0 ⟨Nat.zero_le _, Nat.zero_le _⟩ ⟨rfl, rfl, rfl, trivial⟩ ⟨rfl, trivial⟩ ?_
 intro i ⟨hi, hi6⟩
 have hend : (i = l.length ∨ i = 34) → (l.take i).map nQ = ratsN l := fun h => by
  show _ = (l.take 34).map nQ
  rcases h with h | h
  ·rw [h, List.take_of_length_le (Nat.le_refl _), List.take_of_length_le (by omega)]
  ·rw [h]
 refine wk ?_
 refine s1 (fun h1 => ?_) (fun h1 => ?_)
 ·have hi' : i < l.length := by omega
  have hget : l[i]? = some l[i] := List.getElem?_eq_getElem hi'
  have hok := hl l[i] (List.getElem_mem hi')
  have hts : ((l.take (i + 1)).map nQ).map enR = ((l.take i).map nQ).map enR ++ [enR (nQ l[i])] := by
   rw [List.take_succ_eq_append_getElem hi', List.map_append, List.map_append]; rfl
  refine wk ?_
  refine s1 (fun h2 => ?_) (fun h2 => ?_)
  ·refine wk ?_
   refine c1 (ofN l[i] hok) ?_
   refine wk ?_
   refine ⟨i + 1, ⟨by omega, by omega⟩, by omega, ⟨rfl, rfl, rfl, trivial⟩, ⟨by rw [hts]; rfl, trivial⟩⟩
  ·refine wk ?_
   rw [← hend (by omega)]
   exact ⟨.d rfl ⟨_, _, rfl⟩, trivial⟩
 ·refine wk ?_
  rw [← hend (by omega)]
  exact ⟨.d rfl ⟨_, _, rfl⟩, trivial⟩
end Go.Proofs.YthdkkpocihkgbaaGreatDoor
