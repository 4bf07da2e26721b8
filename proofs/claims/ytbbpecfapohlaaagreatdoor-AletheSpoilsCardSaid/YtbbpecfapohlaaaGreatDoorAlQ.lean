import Derived.Test.YtbbpecfapohlaaaGreatDoorAlA
import Derived.Test.YtbbpecfapohlaaaGreatDoorStS
namespace Go.Proofs.YtbbpecfapohlaaaGreatDoor
open Go.RowKit
attribute [local irreducible] AC Do St
set_option maxRecDepth 100000 in
set_option maxHeartbeats 8000000 in
theorem toldAF (s : Stp) (i : Nat) (hs : okA s) (_hi : i ≤ 1000000) : Fn Tryz.prog 82 [.g (enSQ s), .d (.v (.int .i64 (i : Int)))] [.d (.v (.bool (fmA s i)))] := by
  obtain ⟨R, hR⟩ : ∃ R, fmA s i = R := ⟨_, rfl⟩
  rw [hR]
  have hgd := good13 s.cl hs.cl (by have := hs.ncl; omega)
  obtain ⟨q1, q2, q3, q4, q5, q6, q7⟩ := hs
  obtain ⟨rl, cl, ix, pr, tm⟩ := s
  dsimp only at q1 q2 q3 q4 q5 q6 q7 hgd
  unfold enSQ
  dsimp only
  have hno : ¬ (fmA ⟨rl, cl, ix, pr, tm⟩ i = true) → R = false := fun h => by rw [← hR]; simpa using h
  have hyes : fmA ⟨rl, cl, ix, pr, tm⟩ i = true → R = true := fun h => by rw [← hR]; exact h
  by_cases h1 : (cl.all fun l => decide (okLi l)) = true
  rotate_left
  · rw [Bool.eq_false_iff.2 h1] at hgd
    obtain rfl := hno fun h => h1 (by
      rw [List.all_eq_true]
      exact fun l hl => decide_eq_true ((fmA_iff.1 h).1 l hl))
    refine Fn.of Tryz.func82 rfl (by kernel_rfl) Tryz.ntmps82 Tryz.results82 rfl fun w0 S0 => ?_
    refine wa ?_
    exact ⟨.d rfl (.inl rfl), trivial⟩
  rw [h1] at hgd
  rw [List.all_eq_true] at h1
  have h1 : ∀ l ∈ cl, okLi l := fun l hl => by simpa using h1 l hl
  have hcan := canon13 cl h1 (by omega)
  have hsm := sameZ (canI cl) cl (by have := canI_len cl; omega)
  have hml : (cl.map fun v => [D.v (.int .i64 v)]).length = cl.length := List.length_map ..
  by_cases h2 : canI cl = cl
  rotate_left
  · obtain rfl := hno fun h => h2 (fmA_iff.1 h).2.1
    rw [decide_eq_false h2] at hsm
    refine Fn.of Tryz.func82 rfl (by kernel_rfl) Tryz.ntmps82 Tryz.results82 rfl fun w0 S0 => ?_
    refine wa ?_
    exact ⟨.d rfl (.inl rfl), trivial⟩
  rw [decide_eq_true h2] at hsm
  refine Fn.of Tryz.func82 rfl (by kernel_rfl) Tryz.ntmps82 Tryz.results82 rfl fun w0 S0 => ?_
  refine wa ?_
  refine AC.loop (X := Nat) (fun j => ⟨[(1, .d (.v (.int .i64 (i : Int)))), (2, .p 2 0), (23, .d (enZ cl)), (24, .d (.v (.int .i64 (cl.length : Int)))), (25, .d (.v (.int .i64 (j : Int))))], [(2, .box 83 [.d (.v (.int .i64 rl)), .d (enZ cl), .d (.v (.int .i64 ix)), .d (enZ pr), .d (.l (tm.map enQ))])]⟩) (fun j => j ≤ cl.length ∧ ∀ l ∈ cl.take j, szI l ≤ 2305843009213693952) (fun j => cl.length - j) 0 ⟨Nat.zero_le _, fun l hl => by simp at hl⟩ ⟨rfl, rfl, rfl, rfl, rfl, trivial⟩ ⟨rfl, trivial⟩ ?_
  intro j ⟨hj, hz⟩
  dsimp only at hj hz ⊢
  by_cases h3 : j < cl.length
  · have hx := List.getElem?_eq_getElem h3
    have hxo := h1 _ (List.getElem_mem h3)
    have hbig : ¬ szI cl[j] ≤ 2305843009213693952 → ¬ fmA ⟨rl, cl, ix, pr, tm⟩ i = true := fun h hf => h ((fmA_iff.1 hf).2.2.1 _ (List.getElem_mem h3))
    have hzt := all_take (P := fun l => szI l ≤ 2305843009213693952) h3 hz
    generalize cl[j] = x at hx hxo hbig hzt
    have hzx : szI x ≤ 2305843009213693952 ↔ x ≤ 2305843009213693952 ∧ -2305843009213693952 ≤ x := by
      unfold szI
      split <;> omega
    rw [hzx] at hbig hzt
    by_cases h4 : 2305843009213693952 < x
    · obtain rfl := hno (hbig (by omega))
      refine wa ?_
      exact ⟨.d rfl (.inl rfl), trivial⟩
    by_cases h5 : x < -2305843009213693952
    · obtain rfl := hno (hbig (by omega))
      refine wa ?_
      exact ⟨.d rfl (.inl rfl), trivial⟩
    refine wa ?_
    exact ⟨j + 1, ⟨h3, hzt ⟨by omega, by omega⟩⟩, by omega, ⟨rfl, rfl, rfl, rfl, rfl, trivial⟩, ⟨rfl, trivial⟩⟩
  rw [List.take_of_length_le (by omega)] at hz
  have hfm : (∀ k ∈ pr, 0 ≤ k ∧ k < (i : Int)) → ((rl = 1 ∧ 0 ≤ ix ∧ pr = [] ∧ tm = []) ∨ (rl = 2 ∧ ix = 0 ∧ pr = []) ∨ (rl = 3 ∧ ix = 0 ∧ tm = [])) → fmA ⟨rl, cl, ix, pr, tm⟩ i = true := fun a c => fmA_iff.2 ⟨h1, h2, hz, a, c⟩
  have hpl : (pr.map fun v => [D.v (.int .i64 v)]).length = pr.length := List.length_map ..
  refine wa ?_
  refine AC.loop (X := Nat) (fun j => ⟨[(1, .d (.v (.int .i64 (i : Int)))), (2, .p 2 0), (37, .d (enZ pr)), (38, .d (.v (.int .i64 (pr.length : Int)))), (39, .d (.v (.int .i64 (j : Int))))], [(2, .box 83 [.d (.v (.int .i64 rl)), .d (enZ cl), .d (.v (.int .i64 ix)), .d (enZ pr), .d (.l (tm.map enQ))])]⟩) (fun j => j ≤ pr.length ∧ ∀ k ∈ pr.take j, 0 ≤ k ∧ k < (i : Int)) (fun j => pr.length - j) 0 ⟨Nat.zero_le _, fun l hl => by simp at hl⟩ ⟨rfl, rfl, rfl, rfl, rfl, trivial⟩ ⟨rfl, trivial⟩ ?_
  intro j ⟨hj, hk⟩
  dsimp only at hj hk ⊢
  by_cases h3 : j < pr.length
  · have hx := List.getElem?_eq_getElem h3
    have hm := List.getElem_mem h3
    have hst := all_take (P := fun k => 0 ≤ k ∧ k < (i : Int)) h3 hk
    generalize pr[j] = x at hx hm hst
    have hbad : ¬ (0 ≤ x ∧ x < (i : Int)) → ¬ fmA ⟨rl, cl, ix, pr, tm⟩ i = true := fun h hf => h ((fmA_iff.1 hf).2.2.2.1 x hm)
    by_cases h4 : x < 0
    · obtain rfl := hno (hbad (by omega))
      refine wa ?_
      exact ⟨.d rfl (.inl rfl), trivial⟩
    by_cases h5 : (i : Int) ≤ x
    · obtain rfl := hno (hbad (by omega))
      refine wa ?_
      exact ⟨.d rfl (.inl rfl), trivial⟩
    refine wa ?_
    exact ⟨j + 1, ⟨h3, hst ⟨by omega, by omega⟩⟩, by omega, ⟨rfl, rfl, rfl, rfl, rfl, trivial⟩, ⟨rfl, trivial⟩⟩
  rw [List.take_of_length_le (by omega)] at hk
  have hfm := hfm hk
  have hnf : ¬ ((rl = 1 ∧ 0 ≤ ix ∧ pr = [] ∧ tm = []) ∨ (rl = 2 ∧ ix = 0 ∧ pr = []) ∨ (rl = 3 ∧ ix = 0 ∧ tm = [])) → ¬ fmA ⟨rl, cl, ix, pr, tm⟩ i = true := fun h hf => h (fmA_iff.1 hf).2.2.2.2
  have hp0 : (pr.length : Int) = 0 ↔ pr = [] := by rw [← List.length_eq_zero_iff]; omega
  have htl : (tm.map enQ).length = tm.length := List.length_map ..
  have ht0 : (tm.length : Int) = 0 ↔ tm = [] := by rw [← List.length_eq_zero_iff]; omega
  by_cases r1 : rl = 1
  · by_cases a1 : 0 ≤ ix
    · by_cases a2 : (pr.length : Int) = 0
      · by_cases a3 : (tm.length : Int) = 0
        · obtain rfl := hyes (hfm (.inl ⟨r1, a1, hp0.1 a2, ht0.1 a3⟩))
          refine wa ?_
          exact ⟨.d rfl (.inl rfl), trivial⟩
        · obtain rfl := hno (hnf (by rw [← ht0]; omega))
          refine wa ?_
          exact ⟨.d rfl (.inl rfl), trivial⟩
      · obtain rfl := hno (hnf (by rw [← hp0]; omega))
        refine wa ?_
        exact ⟨.d rfl (.inl rfl), trivial⟩
    · obtain rfl := hno (hnf (by omega))
      refine wa ?_
      exact ⟨.d rfl (.inl rfl), trivial⟩
  by_cases r2 : rl = 2
  · by_cases a1 : ix = 0
    · by_cases a2 : (pr.length : Int) = 0
      · obtain rfl := hyes (hfm (.inr (.inl ⟨r2, a1, hp0.1 a2⟩)))
        refine wa ?_
        exact ⟨.d rfl (.inl rfl), trivial⟩
      · obtain rfl := hno (hnf (by rw [← hp0]; omega))
        refine wa ?_
        exact ⟨.d rfl (.inl rfl), trivial⟩
    · obtain rfl := hno (hnf (by omega))
      refine wa ?_
      exact ⟨.d rfl (.inl rfl), trivial⟩
  by_cases r3 : rl = 3
  · by_cases a1 : ix = 0
    · by_cases a2 : (tm.length : Int) = 0
      · obtain rfl := hyes (hfm (.inr (.inr ⟨r3, a1, ht0.1 a2⟩)))
        refine wa ?_
        exact ⟨.d rfl (.inl rfl), trivial⟩
      · obtain rfl := hno (hnf (by rw [← ht0]; omega))
        refine wa ?_
        exact ⟨.d rfl (.inl rfl), trivial⟩
    · obtain rfl := hno (hnf (by omega))
      refine wa ?_
      exact ⟨.d rfl (.inl rfl), trivial⟩
  obtain rfl := hno (hnf (by omega))
  refine wa ?_
  exact ⟨.d rfl (.inl rfl), trivial⟩
set_option maxRecDepth 100000 in
set_option maxHeartbeats 4000000 in
theorem checkQF (b : Int) (l : List Stp) (hl : ∀ s ∈ l, okA s) (hlen : l.length ≤ 1000000000) : Fn Tryz.prog 37 [.d (.v (.int .i64 b)), .d (.l (l.map enSQ))] [.d (.v (.int .i64 (chA b l)))] := by
  obtain ⟨R, hR⟩ : ∃ R, chA b l = R := ⟨_, rfl⟩
  rw [hR]
  have hml : (l.map enSQ).length = l.length := List.length_map ..
  unfold chA at hR
  by_cases h1 : 1000 < b
  · rw [if_pos (.inl h1)] at hR
    subst hR
    refine Fn.of Tryz.func37 rfl (by kernel_rfl) Tryz.ntmps37 Tryz.results37 rfl fun w0 S0 => ?_
    refine wa ?_
    exact ⟨.d rfl (.inl rfl), trivial⟩
  by_cases h2 : 300000 < l.length
  · rw [if_pos (.inr h2)] at hR
    subst hR
    refine Fn.of Tryz.func37 rfl (by kernel_rfl) Tryz.ntmps37 Tryz.results37 rfl fun w0 S0 => ?_
    refine wa ?_
    exact ⟨.d rfl (.inl rfl), trivial⟩
  rw [if_neg (by omega)] at hR
  by_cases h3 : b < 0
  · rw [if_pos h3] at hR
    subst hR
    refine Fn.of Tryz.func37 rfl (by kernel_rfl) Tryz.ntmps37 Tryz.results37 rfl fun w0 S0 => ?_
    refine wa ?_
    exact ⟨.d rfl (.inl rfl), trivial⟩
  rw [if_neg h3] at hR
  have hno : ∀ i (h : i < l.length), ¬ fmA l[i] i = true → R = 4 := fun i h hf => by
    rw [if_neg] at hR
    · exact hR.symm
    · intro ha
      exact hf (List.all_eq_true.1 ha (l[i], i) (List.mem_zipIdx_iff_getElem?.2 (List.getElem?_eq_getElem h)))
  have hyes : (∀ i (h : i < l.length), fmA l[i] i = true) → R = 0 := fun ha => by
    rw [if_pos] at hR
    · exact hR.symm
    · rw [List.all_eq_true]
      rintro ⟨s, i⟩ hx
      obtain ⟨hi, e⟩ := List.getElem?_eq_some_iff.1 (List.mem_zipIdx_iff_getElem?.1 hx)
      have hi : i < l.length := hi
      have e : l[i] = s := e
      show fmA s i = true
      rw [← e]
      exact ha i hi
  refine Fn.of Tryz.func37 rfl (by kernel_rfl) Tryz.ntmps37 Tryz.results37 rfl fun w0 S0 => ?_
  refine wa ?_
  refine AC.loop (X := Nat) (fun i => ⟨[(16, .d (.l (l.map enSQ))), (17, .d (.v (.int .i64 (l.length : Int)))), (18, .d (.v (.int .i64 (i : Int))))], []⟩) (fun i => i ≤ l.length ∧ ∀ j (h : j < l.length), j < i → fmA l[j] j = true) (fun i => l.length - i) 0 ⟨Nat.zero_le _, fun j h hj => absurd hj (by omega)⟩ ⟨rfl, rfl, rfl, trivial⟩ trivial ?_
  intro i ⟨hi, ha⟩
  dsimp only at hi ha ⊢
  by_cases h4 : i < l.length
  · have hx := List.getElem?_eq_getElem h4
    have hf := toldAF l[i] i (hl _ (List.getElem_mem h4)) (by omega)
    have hno := hno i h4
    have hst : fmA l[i] i = true → ∀ j (h : j < l.length), j < i + 1 → fmA l[j] j = true := fun h j hj hj2 => by
      by_cases e : j = i
      · subst e; exact h
      · exact ha j hj (by omega)
    generalize l[i] = s at hx hf hno hst
    cases hv : fmA s i with
    | true =>
      rw [hv] at hf
      refine wa ?_
      exact ⟨i + 1, ⟨h4, hst hv⟩, by omega, ⟨rfl, rfl, rfl, trivial⟩, trivial⟩
    | false =>
      rw [hv] at hf
      obtain rfl := hno (by rw [hv]; decide)
      refine wa ?_
      exact ⟨.d rfl (.inl rfl), trivial⟩
  · obtain rfl := hyes fun j hj => ha j hj (by omega)
    refine wa ?_
    exact ⟨.d rfl (.inl rfl), trivial⟩
end Go.Proofs.YtbbpecfapohlaaaGreatDoor
