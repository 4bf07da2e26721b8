/-
  The law attestlaw15.NetGreat.
-/
import Derived.Test.YthdkkpocihkgbaaGreatDoorNtS
namespace Go.Proofs.YthdkkpocihkgbaaGreatDoor
open Go.RowKit
attribute [local irreducible] AC Do St
theorem great_relu (n : Int) (k : Nat) : greatB n (List.replicate k ⟨2, [], [], []⟩) = (decide (32 < n) || decide (16 < k)) := by
  unfold greatB
  rw [List.length_replicate]
  have : (List.replicate k (⟨2, [], [], []⟩ : LN)).any bigL = false := List.any_eq_false.2 fun l hl => by
    rw [List.eq_of_mem_replicate hl]
    decide
  rw [this, Bool.or_false]
theorem fold_relu (n : Int) (h : 0 < n) : ∀ k, (List.replicate k (⟨2, [], [], []⟩ : LN)).foldl stW n = n
  | 0 => rfl
  | k + 1 => by
    rw [List.replicate_succ, List.foldl_cons]
    have : stW n ⟨2, [], [], []⟩ = n := by unfold stW; rw [if_pos h]; rfl
    rw [this, fold_relu n h k]
theorem wids_relu (n : Int) (h : 0 < n) (k : Nat) (ok : n ≤ 32 ∧ k ≤ 16) : ∃ ws, widsR n (List.replicate k ⟨2, [], [], []⟩) = [.d (enIs ws), .d (.v (.int .i64 0))] := by
  unfold widsR
  rw [great_relu, if_neg (by simp; omega), fold_relu n h, if_neg (by omega)]
  exact ⟨_, rfl⟩
theorem wids_reluB (n : Int) (k : Nat) (ok : ¬ (n ≤ 32 ∧ k ≤ 16)) : widsR n (List.replicate k ⟨2, [], [], []⟩) = [.d (enIs []), .d (.v (.int .i64 2))] := by
  unfold widsR
  rw [great_relu, if_pos (by simp; omega)]
  rfl
theorem big_max (k : Nat) : bigL ⟨3, [], [], List.replicate k [0]⟩ = decide (32 < k) := by
  unfold bigL
  have : (List.replicate k ([0] : List Int)).any (fun r => decide (32 < r.length)) = false := List.any_eq_false.2 fun l hl => by
    rw [List.eq_of_mem_replicate hl]
    decide
  simp
theorem wids_max (n : Int) (h : 0 < n) (k : Nat) (hk : 0 < k) (ok : n ≤ 32 ∧ k ≤ 32) : ∃ ws, widsR n [⟨3, [], [], List.replicate k [0]⟩] = [.d (enIs ws), .d (.v (.int .i64 0))] := by
  have hg : greatB n [⟨3, [], [], List.replicate k [0]⟩] = false := by
    unfold greatB
    rw [List.any_cons, List.any_nil, big_max]
    simp
    omega
  have hb : (List.replicate k ([0] : List Int)).any (badG n) = false := List.any_eq_false.2 fun l hl => by
    rw [List.eq_of_mem_replicate hl]
    unfold badG
    simp
    omega
  have hw : [(⟨3, [], [], List.replicate k [0]⟩ : LN)].foldl stW n = k := by
    rw [List.foldl_cons, List.foldl_nil]
    unfold stW
    rw [if_pos h]
    unfold widN
    rw [if_neg (by show ¬ (3 : Int) = 1; decide), if_neg (by show ¬ (3 : Int) = 2; decide), if_pos rfl, hb, if_neg (by decide)]
    simp
  unfold widsR
  rw [hg, if_neg (by decide), hw, if_neg (by omega)]
  exact ⟨_, rfl⟩
theorem wids_maxB (n : Int) (k : Nat) (ok : ¬ (n ≤ 32 ∧ k ≤ 32)) : widsR n [⟨3, [], [], List.replicate k [0]⟩] = [.d (enIs []), .d (.v (.int .i64 2))] := by
  have hg : greatB n [⟨3, [], [], List.replicate k [0]⟩] = true := by
    unfold greatB
    rw [List.any_cons, List.any_nil, big_max]
    simp
    omega
  unfold widsR
  rw [hg, if_pos rfl]
  rfl
set_option maxRecDepth 100000 in
set_option maxHeartbeats 8000000 in
theorem netGreatF {Kw : World → Prop} [KSt Kw] [KHas Kw MaxL] (n a b : Int) (hn : -9223372036854775808 ≤ n ∧ n ≤ 9223372036854775807) (ha : -9223372036854775808 ≤ a ∧ a ≤ 9223372036854775807) (hb : -9223372036854775808 ≤ b ∧ b ≤ 9223372036854775807) : FnK Tryz.prog 3 Kw [.d (.v (.int .i64 n)), .d (.v (.int .i64 a)), .d (.v (.int .i64 b))] [.d (.v (.bool true))] := by
  refine FnK.of Tryz.func3 rfl (by kernel_rfl) Tryz.ntmps3 Tryz.results3 rfl fun w0 S0 hK0 => ?_
  by_cases g1 : n < 1
  · refine wk ?_
    refine c1 (awakeF (Kw := Kw)) ?_
    refine wk ?_
    exact ⟨.d rfl (.inl rfl), trivial⟩
  by_cases g2 : 40 < n
  · refine wk ?_
    refine c1 (awakeF (Kw := Kw)) ?_
    refine wk ?_
    exact ⟨.d rfl (.inl rfl), trivial⟩
  by_cases g3 : a < 0
  · refine wk ?_
    refine c1 (awakeF (Kw := Kw)) ?_
    refine wk ?_
    exact ⟨.d rfl (.inl rfl), trivial⟩
  by_cases g4 : 20 < a
  · refine wk ?_
    refine c1 (awakeF (Kw := Kw)) ?_
    refine wk ?_
    exact ⟨.d rfl (.inl rfl), trivial⟩
  by_cases g5 : b < 1
  · refine wk ?_
    refine c1 (awakeF (Kw := Kw)) ?_
    refine wk ?_
    exact ⟨.d rfl (.inl rfl), trivial⟩
  by_cases g6 : 40 < b
  · refine wk ?_
    refine c1 (awakeF (Kw := Kw)) ?_
    refine wk ?_
    exact ⟨.d rfl (.inl rfl), trivial⟩
  obtain ⟨k, rfl⟩ : ∃ k : Nat, a = k := ⟨a.toNat, by omega⟩
  obtain ⟨m, rfl⟩ : ∃ m : Nat, b = m := ⟨b.toNat, by omega⟩
  refine wk ?_
  refine AC.rowBox 7 1 100 30 4 rfl rfl rfl ?_
  refine AC.loop (X := Nat) (fun i => ⟨[(0, .d (.v (.int .i64 n))), (1, .d (.v (.int .i64 (k : Int)))), (2, .d (.v (.int .i64 (m : Int)))), (7, .p 7 0), (8, .d (.v (.int .i64 (i : Int))))], [(7, .box 25 [.d (.v (.int .i64 n)), .r 100 i]), (100, .row i 30 4 ((List.replicate i (⟨2, [], [], []⟩ : LN)).map enLN))]⟩) (fun i => i ≤ k) (fun i => k - i) 0 (Nat.zero_le _) ⟨rfl, rfl, rfl, rfl, rfl, trivial⟩ ⟨rfl, rfl, trivial⟩ ?_
  intro i hi
  have hml : ((List.replicate i (⟨2, [], [], []⟩ : LN)).map enLN).length = i := by simp
  dsimp only
  refine wk ?_
  refine s1 (fun h1 => ?_) (fun h1 => ?_)
  · refine wk ?_
    exact ⟨i + 1, by omega, by omega, ⟨rfl, rfl, rfl, rfl, rfl, trivial⟩, ⟨rfl, by dsimp only; rw [List.replicate_succ', List.map_append]; rfl, trivial⟩⟩
  obtain rfl : i = k := by omega
  refine wk ?_
  refine AC.rowBox 9 3 101 31 1 rfl rfl rfl ?_
  refine AC.loop (X := Nat) (fun j => ⟨[(0, .d (.v (.int .i64 n))), (1, .d (.v (.int .i64 (i : Int)))), (2, .d (.v (.int .i64 (m : Int)))), (7, .p 7 0), (9, .p 9 0), (10, .d (.v (.int .i64 (j : Int))))], [(9, .box 30 [.d (.v (.int .i64 3)), .d .n, .d .n, .r 101 j]), (101, .row j 31 1 ((List.replicate j ([0] : List Int)).map fun g => [enIs g])), (7, .box 25 [.d (.v (.int .i64 n)), .r 100 i]), (100, .row i 30 4 ((List.replicate i (⟨2, [], [], []⟩ : LN)).map enLN))]⟩) (fun j => j ≤ m) (fun j => m - j) 0 (Nat.zero_le _) ⟨rfl, rfl, rfl, rfl, rfl, rfl, trivial⟩ ⟨rfl, rfl, rfl, rfl, trivial⟩ ?_
  intro j hj
  have hml2 : ((List.replicate j ([0] : List Int)).map fun g => [enIs g]).length = j := by simp
  dsimp only
  refine wk ?_
  refine s1 (fun h2 => ?_) (fun h2 => ?_)
  · refine wk ?_
    exact ⟨j + 1, by omega, by omega, ⟨rfl, rfl, rfl, rfl, rfl, rfl, trivial⟩, ⟨rfl, by dsimp only; rw [List.replicate_succ', List.map_append]; rfl, rfl, rfl, trivial⟩⟩
  obtain rfl : j = m := by omega
  have hw1 := widthsF n (List.replicate i ⟨2, [], [], []⟩)
  have hw2 := widthsF n [⟨3, [], [], List.replicate j [0]⟩]
  have eG : enNet n [⟨3, [], [], List.replicate j [0]⟩] = [.v (.int .i64 n), .l [[.v (.int .i64 3), .l [], .l [], .l ((List.replicate j ([0] : List Int)).map fun g => [enIs g])]]] := by
    simp [enNet, enLN, rowsD, enRs]
  rw [eG] at hw2
  refine wk ?_
  (first | intro K ms hms hK | intro K hK | skip)
  refine Chain.frzBox 9 3 rfl rfl rfl ?_
  refine Chain.frzBox 7 1 rfl rfl rfl ?_
  by_cases c1n : n ≤ 32 ∧ i ≤ 16
  · obtain ⟨ws1, e1⟩ := wids_relu n (by omega) i c1n
    rw [e1] at hw1
    by_cases c2n : n ≤ 32 ∧ j ≤ 32
    · obtain ⟨ws2, e2⟩ := wids_max n (by omega) j (by omega) c2n
      rw [e2] at hw2
      obtain ⟨d1, d2⟩ := c1n
      obtain ⟨d3, d4⟩ := c2n
      refine wk ?_
      refine c1 hw1 ?_
      refine wk ?_
      refine c1 hw2 ?_
      refine wk ?_
      refine c1 (awakeF (Kw := Kw)) ?_
      refine wk ?_
      ((try (first | intro K ms hms hK | intro K hK)); (first | apply Chain.go | apply Chain.goD); exact rfl; exact rfl; exact Loc.eqB rfl rfl rfl (by kernel_rfl) (rfl))
      refine wk ?_
      ((try (first | intro K ms hms hK | intro K hK)); (first | apply Chain.go | apply Chain.goD); exact rfl; exact rfl; exact Loc.eqB rfl rfl rfl (by kernel_rfl) (rfl))
      refine wk ?_
      exact ⟨.d rfl (.inl rfl), trivial⟩
    · rw [wids_maxB n j c2n] at hw2
      obtain ⟨d1, d2⟩ := c1n
      have d4 : ¬ j ≤ 32 := by omega
      refine wk ?_
      refine c1 hw1 ?_
      refine wk ?_
      refine c1 hw2 ?_
      refine wk ?_
      refine c1 (awakeF (Kw := Kw)) ?_
      refine wk ?_
      ((try (first | intro K ms hms hK | intro K hK)); (first | apply Chain.go | apply Chain.goD); exact rfl; exact rfl; exact Loc.eqB rfl rfl rfl (by kernel_rfl) (rfl))
      refine wk ?_
      ((try (first | intro K ms hms hK | intro K hK)); (first | apply Chain.go | apply Chain.goD); exact rfl; exact rfl; exact Loc.eqB rfl rfl rfl (by kernel_rfl) (rfl))
      refine wk ?_
      exact ⟨.d rfl (.inl rfl), trivial⟩
  · rw [wids_reluB n i c1n] at hw1
    by_cases c2n : n ≤ 32 ∧ j ≤ 32
    · obtain ⟨ws2, e2⟩ := wids_max n (by omega) j (by omega) c2n
      rw [e2] at hw2
      obtain ⟨d3, d4⟩ := c2n
      have d2 : ¬ i ≤ 16 := by omega
      refine wk ?_
      refine c1 hw1 ?_
      refine wk ?_
      refine c1 hw2 ?_
      refine wk ?_
      refine c1 (awakeF (Kw := Kw)) ?_
      refine wk ?_
      ((try (first | intro K ms hms hK | intro K hK)); (first | apply Chain.go | apply Chain.goD); exact rfl; exact rfl; exact Loc.eqB rfl rfl rfl (by kernel_rfl) (rfl))
      refine wk ?_
      ((try (first | intro K ms hms hK | intro K hK)); (first | apply Chain.go | apply Chain.goD); exact rfl; exact rfl; exact Loc.eqB rfl rfl rfl (by kernel_rfl) (rfl))
      refine wk ?_
      exact ⟨.d rfl (.inl rfl), trivial⟩
    · rw [wids_maxB n j c2n] at hw2
      by_cases d1 : n ≤ 32
      · have d2 : ¬ i ≤ 16 := by omega
        have d4 : ¬ j ≤ 32 := by omega
        refine wk ?_
        refine c1 hw1 ?_
        refine wk ?_
        refine c1 hw2 ?_
        refine wk ?_
        refine c1 (awakeF (Kw := Kw)) ?_
        refine wk ?_
        ((try (first | intro K ms hms hK | intro K hK)); (first | apply Chain.go | apply Chain.goD); exact rfl; exact rfl; exact Loc.eqB rfl rfl rfl (by kernel_rfl) (rfl))
        refine wk ?_
        ((try (first | intro K ms hms hK | intro K hK)); (first | apply Chain.go | apply Chain.goD); exact rfl; exact rfl; exact Loc.eqB rfl rfl rfl (by kernel_rfl) (rfl))
        refine wk ?_
        exact ⟨.d rfl (.inl rfl), trivial⟩
      · refine wk ?_
        refine c1 hw1 ?_
        refine wk ?_
        refine c1 hw2 ?_
        refine wk ?_
        refine c1 (awakeF (Kw := Kw)) ?_
        refine wk ?_
        ((try (first | intro K ms hms hK | intro K hK)); (first | apply Chain.go | apply Chain.goD); exact rfl; exact rfl; exact Loc.eqB rfl rfl rfl (by kernel_rfl) (rfl))
        refine wk ?_
        ((try (first | intro K ms hms hK | intro K hK)); (first | apply Chain.go | apply Chain.goD); exact rfl; exact rfl; exact Loc.eqB rfl rfl rfl (by kernel_rfl) (rfl))
        refine wk ?_
        exact ⟨.d rfl (.inl rfl), trivial⟩
end Go.Proofs.YthdkkpocihkgbaaGreatDoor
