/-
 The law attestlaw15.NetWidths.
-/
import Derived.Test.YthdkkpocihkgbaaGreatDoorNtS
import Derived.Test.YthdkkpocihkgbaaGreatDoorNtR
namespace Go.Proofs.YthdkkpocihkgbaaGreatDoor
open Go.RowKit
attribute [local irreducible] AC Do St
theorem widsR_form (n : Int) (ls : List LN) : ∃ ws e, widsR n ls = [.d (enIs ws), .d (.v (.int .i64 e))] ∧ ws.length ≤ ls.length + 1 := by
 unfold widsR
 split
 ·exact ⟨[], 2, rfl, by simp⟩
 ·split
  ·exact ⟨[], 4, rfl, by simp⟩
  ·exact ⟨_, 0, rfl, by rw [wids_len]; omega⟩
theorem ofNs_len (ls : List LQ) : (ofNs ls).length ≤ 8 := by unfold ofNs; simp; omega
theorem ratsN_len (l : List (Bool × List Nat × List Nat)) : (ratsN l).length ≤ 34 := by unfold ratsN; simp; omega
theorem ratsN_bd {l : List (Bool × List Nat × List Nat)} (h : okP l) : ∀ q ∈ ratsN l, Bd 256 q := fun q hq => by
 obtain ⟨n, hn, rfl⟩ := List.mem_map.1 hq
 exact bdN n (h n (List.mem_of_mem_take hn))
theorem ofNs_sm {ls : List LQ} (hl : ∀ l ∈ ls, okLQ l) : ∀ l ∈ ofNs ls, smLN 256 l ∧ (l.W.length ≤ 1000000 ∧ l.B.length ≤ 1000000 ∧ l.G.length ≤ 1000000 ∧ (∀ r ∈ l.W, r.length ≤ 1000000) ∧ ∀ g ∈ l.G, g.length ≤ 1000000) := fun l h => by
 obtain ⟨q, hq, rfl⟩ := List.mem_map.1 h
 have ho := hl q (List.mem_of_mem_take hq)
 have hW : (ofLN q).W.length ≤ 1000000 := by unfold ofLN; simp; omega
 have hB : (ofLN q).B.length ≤ 1000000 := Nat.le_trans (ratsN_len _) (by decide)
 have hG : (ofLN q).G.length ≤ 1000000 := by unfold ofLN; simp; omega
 have hr : ∀ r ∈ (ofLN q).W, r.length ≤ 1000000 ∧ ∀ x ∈ r, Bd 256 x := fun r hr => by
  obtain ⟨p, hp, rfl⟩ := List.mem_map.1 hr
  exact ⟨Nat.le_trans (ratsN_len _) (by decide), ratsN_bd (ho.1 p (List.mem_of_mem_take hp))⟩
 refine ⟨⟨hr, hB, ratsN_bd ho.2, hW⟩, hW, hB, hG, fun r h => (hr r h).1, fun g hg => ?_⟩
 obtain ⟨p, hp, rfl⟩ := List.mem_map.1 hg
 unfold cutG
 simp
 omega
set_option maxRecDepth 100000 in
set_option maxHeartbeats 4000000 in
theorem netWidthsF {Kw : World → Prop} [KSt Kw] [KHas Kw MaxL] (n : Int) (ls : List LQ) (hn : -9223372036854775808 ≤ n ∧ n ≤ 9223372036854775807) (hl : ∀ l ∈ ls, okLQ l) : FnK Tryz.prog 4 Kw [.g (enQN n ls)] [.d (.v (.bool true))] := by
 have hof := of15F n ls hl
 have hsm := ofNs_sm hl
 have h8 := ofNs_len ls
 have hw := widthsF n (ofNs ls)
 have ht := told15F n (ofNs ls) 256 (by decide) (fun l h => (hsm l h).1) (by omega)
 have hd := widths15F n (ofNs ls) (by omega) hn (fun l h => (hsm l h).2)
 obtain ⟨ws, e, hR, hwl⟩ := widsR_form n (ofNs ls)
 rw [hR] at hw hd
 refine FnK.of Tryz.func4 rfl (by kernel_rfl) Tryz.ntmps4 Tryz.results4 rfl fun w0 S0 hK0 => ?_
 refine wk ?_
 refine c1 hof ?_
 refine wk ?_
 refine c1 hw ?_
 refine wk ?_
 refine c1 hof ?_
 refine wk ?_
 refine c1 ht ?_
 refine wk ?_
 refine c1 hd ?_
 refine wk ?_
 refine c1 (awakeF (Kw := Kw)) ?_
 refine wk ?_
 refine AC.loop (X := Nat) (fun i => ⟨[(3, .d (enIs ws)), (5, .d (enIs ws)), (36, .d (.v (.int .i64 (ws.length : Int)))), (37, .d (.v (.int .i64 (i : Int))))], []⟩) (fun i => i ≤ ws.length) (fun i => ws.length - i) 0 (Nat.zero_le _) ⟨rfl, rfl, rfl, rfl, trivial⟩ trivial ?_
 intro i hi
 dsimp only
 refine wk ?_
 refine s1 (fun h1 => ?_) (fun h1 => ?_)
 ·have hi' : i < ws.length := by omega
  have hget : ws[i]? = some ws[i] := List.getElem?_eq_getElem hi'
  generalize ws[i] = v at hget
  refine wk ?_
  exact ⟨i + 1, hi', by omega, ⟨rfl, rfl, rfl, rfl, trivial⟩, trivial⟩
 ·refine wk ?_
  exact ⟨.d rfl (.inl rfl), trivial⟩
end Go.Proofs.YthdkkpocihkgbaaGreatDoor
