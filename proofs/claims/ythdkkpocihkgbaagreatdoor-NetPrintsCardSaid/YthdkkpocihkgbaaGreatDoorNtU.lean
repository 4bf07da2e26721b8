/-
 The law attestlaw15.NetWidths.
-/
import Derived.Test.YthdkkpocihkgbaaGreatDoorNtS
import Derived.Test.YthdkkpocihkgbaaGreatDoorNtR
namespace Go.Proofs.YthdkkpocihkgbaaGreatDoor
open Go.RowKit
attribute [local irreducible] AC Do St
theorem ofNs_len (ls : List LQ) : (ofNs ls).length ≤ 8 := by unfold ofNs; simp; omega
theorem ratsN_len (l : List (Bool × List Nat × List Nat)) : (ratsN l).length ≤ 34 := by unfold ratsN; simp; omega
theorem ratsN_bd {l : List (Bool × List Nat × List Nat)} (h : okP l) : ∀ q ∈ ratsN l, Bd 256 q := fun q hq => by
 obtain ⟨n, hn, rfl⟩ := List.mem_map.1 hq
 exact bdN n (h n (List.mem_of_mem_take hn))
theorem ofNs_sm {ls : List LQ} (hl : ∀ l ∈ ls, okLQ l) : ∀ l ∈ ofNs ls, smLN 256 l ∧ (l.W.length ≤ 1000000 ∧ l.B.length ≤ 1000000 ∧ l.G.length ≤ 1000000 ∧ (∀ r ∈ l.W, r.length ≤ 1000000) ∧ ∀ g ∈ l.G, g.length ≤ 1000000) := fun l h => by
 obtain ⟨q, hq, rfl⟩ := List.mem_map.1 h
 have ho := hl q (List.mem_of_mem_take hq)
 have hW : (ofLN q).W.length ≤ 1000000 := by unfold ofLN; simp; omega
 have hB : (ofLN q).B.length ≤ 1000000 := Nat.le_trans (ratsN_len _) (by decide)
 have hG : (ofLN q).G.length ≤ 1000000 := by unfold ofLN; simp; omega
 have hr : ∀ r ∈ (ofLN q).W, r.length ≤ 1000000 ∧ ∀ x ∈ r, Bd 256 x := fun r hr => by
  obtain ⟨p, hp, rfl⟩ := List.mem_map.1 hr
  exact ⟨Nat.le_trans (ratsN_len _) (by decide), ratsN_bd (ho.1 p (List.mem_of_mem_take hp))⟩
 refine ⟨⟨hr, hB, ratsN_bd ho.2, hW⟩, hW, hB, hG, fun r h => (hr r h).1, fun g hg => ?_⟩
 obtain ⟨p, hp, rfl⟩ := List.mem_map.1 hg
 unfold cutG
 simp
 omega
end Go.Proofs.YthdkkpocihkgbaaGreatDoor
