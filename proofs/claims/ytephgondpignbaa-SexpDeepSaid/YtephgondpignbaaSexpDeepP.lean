/-
  Layer 12, plain laws of deep and of long rows. No program in sight.
-/
import Derived.Test.YtephgondpignbaaSexpL
namespace Go.Proofs.Ytephgondpignbaa
open Go.RowKit
def nest : Nat → T
  | 0 => .mk false .empty []
  | j + 1 => .mk false .empty [nest j]
theorem nest_worded : (j : Nat) → (nest j).worded = true
  | 0 => rfl
  | j + 1 => by simp [nest, T.worded, wordedL, nest_worded j]
theorem nest_nodes : (j : Nat) → (nest j).nodes = j + 1
  | 0 => rfl
  | j + 1 => by simp [nest, T.nodes, nodesL, nest_nodes j]; omega
theorem nest_dok : (j : Nat) → (d : Int) → d ≤ 200 → (nest j).dok d = decide (d + j < 200)
  | 0, d, h => by
    simp only [nest, T.dok, dokL, Bool.false_eq_true, if_false, Bool.and_true]
    rw [Bool.eq_iff_iff]; simp; omega
  | j + 1, d, h => by
    simp only [nest, T.dok, dokL, Bool.false_eq_true, if_false, Bool.and_true]
    by_cases hd : d = 200
    · subst hd; simp; omega
    · rw [nest_dok j (d + 1) (by omega), Bool.eq_iff_iff]
      simp only [Bool.and_eq_true, Bool.not_eq_true', beq_eq_false_iff_ne, ne_eq, decide_eq_true_eq]
      omega
theorem nest_check (j : Nat) (h : j ≤ 300) : checkE [nest j] = if 200 ≤ j then 2 else 0 := by
  have hs := sizedL_spec [nest j] 0 0 (by omega)
  have hn : nodesL [nest j] = j + 1 := by simp [nodesL, nest_nodes]
  have hd : dokL [nest j] 0 = decide ((0 : Int) + j < 200) := by simp only [dokL, nest_dok j 0 (by omega), Bool.and_true]
  have hw : wordedL [nest j] = true := by simp [wordedL, nest_worded]
  by_cases hj : 200 ≤ j
  · rw [if_pos hj]
    unfold checkE
    rw [if_pos]
    cases e : (sizedL [nest j] 0 0).2 with
    | false => rfl
    | true =>
      have := (hs.1.1 e).2
      rw [hd] at this
      simp at this
      omega
  · rw [if_neg hj]
    have e : (sizedL [nest j] 0 0).2 = true := hs.1.2 ⟨by omega, by rw [hd]; simp; omega⟩
    unfold checkE
    rw [if_neg (by rw [e]; simp), if_neg (by rw [hw]; simp)]
theorem nest_norm : (j : Nat) → (nest j).norm = nest j
  | 0 => rfl
  | j + 1 => by simp [nest, T.norm, normL, nest_norm j]
theorem nest_text : (j : Nat) → (nest j).text = List.replicate (j + 1) 40 ++ List.replicate (j + 1) 41
  | 0 => rfl
  | j + 1 => by
    simp only [nest, T.text, Bool.false_eq_true, if_false, bodyL, moreL, List.append_nil, nest_text j]
    rw [List.replicate_succ (n := j + 1), List.replicate_succ' (n := j + 1)]
    simp
theorem deep_ok (j : Nat) (h : j < 200) (s : ByteArray) (hs : s.data.toList = List.replicate (j + 1) 40 ++ List.replicate (j + 1) 41) : ∃ n, parseTop s = .ok [nest j] [] n := by
  have hz : s.size = 2 * (j + 1) := by rw [size_list s hs]; simp; omega
  have hsz := sizedL_spec [nest j] 0 0 (by omega)
  have hT := T.sized_spec (nest j) 0 0 (by omega)
  have e : ((nest j).sized 0 0).2 = true := hT.1.2 ⟨by rw [nest_nodes]; omega, by rw [nest_dok j 0 (by omega)]; simp; omega⟩
  refine ⟨((nest j).sized 0 0).1, ?_⟩
  unfold parseTop
  rw [if_neg (by omega), hs, ← nest_text]
  have := parse_T (nest j) s.size 0 0 [] (nest_worded j) e (by intro c r h; cases h) (by rw [List.append_nil, nest_text]; simp; omega) (by omega)
  rw [List.append_nil] at this
  rw [this, nest_norm]
  cases hsz2 : s.size with
  | zero => omega
  | succ z => simp [parseL, skipL, PR.cons]
theorem deep_bad : ∀ (x k f : Nat) (d n : Int) (s : List UInt8), d + x = 200 → 0 ≤ d → x < k → n + x + 1 ≤ 100000 → 0 ≤ n → k + s.length < f → parseL f d (List.replicate k 40 ++ s) n = .bad 2 (k + s.length - x) := by
  intro x
  induction x with
  | zero =>
    intro k f d n s hd hd0 hk hn hn0 hf
    obtain ⟨f, rfl⟩ : ∃ g, f = g + 1 := ⟨f - 1, by omega⟩
    obtain ⟨k, rfl⟩ : ∃ g, k = g + 1 := ⟨k - 1, by omega⟩
    rw [List.replicate_succ, List.cons_append, parse_step f d n 40 _ (by simp [skipL, isBlank]) (by decide), if_pos (.inr ⟨rfl, by omega⟩)]
    simp; omega
  | succ x ih =>
    intro k f d n s hd hd0 hk hn hn0 hf
    obtain ⟨f, rfl⟩ : ∃ g, f = g + 1 := ⟨f - 1, by omega⟩
    obtain ⟨k, rfl⟩ : ∃ g, k = g + 1 := ⟨k - 1, by omega⟩
    rw [List.replicate_succ, List.cons_append, parse_step f d n 40 _ (by simp [skipL, isBlank]) (by decide), if_neg (by rintro (h | ⟨_, h⟩) <;> omega)]
    unfold oneL
    rw [if_pos rfl, ih k f (d + 1) (n + 1) s (by omega) (by omega) (by omega) (by omega) (by omega) (by omega)]
    simp only [PR.next]
    congr 1
    omega
theorem deep_big (k : Nat) (h : 200 < k) (h2 : k ≤ 300) (s : ByteArray) (hs : s.data.toList = List.replicate k 40 ++ List.replicate k 41) : parseTop s = .bad 2 (2 * k - 200) := by
  have hz : s.size = 2 * k := by rw [size_list s hs]; simp; omega
  unfold parseTop
  rw [if_neg (by omega), hs, deep_bad 200 k (s.size + 1) 0 0 _ (by omega) (by omega) h (by omega) (by omega) (by simp; omega)]
  simp; omega
theorem deep_none (s : ByteArray) (hs : s.data.toList = []) : parseTop s = .ok [] [] 0 := by
  have hz : s.size = 0 := by rw [size_list s hs]; rfl
  unfold parseTop
  rw [if_neg (by omega), hs, hz]
  rfl

/-! ### long rows -/
def wa : T := .mk true ⟨#[97]⟩ []
def abL : Nat → List UInt8
  | 0 => []
  | m + 1 => 97 :: 32 :: abL m
theorem abL_len : (m : Nat) → (abL m).length = 2 * m
  | 0 => rfl
  | m + 1 => by simp [abL, abL_len m]; omega
theorem abL_snoc : (m : Nat) → abL (m + 1) = abL m ++ [97, 32]
  | 0 => rfl
  | m + 1 => by
    show 97 :: 32 :: abL (m + 1) = 97 :: 32 :: (abL m ++ [97, 32])
    rw [abL_snoc m]
theorem long_step (f : Nat) (m : Nat) (n : Int) : parseL (f + 1) 0 (abL (m + 1)) n = if 100000 < n + 1 then .bad 2 (2 * (m + 1)) else (parseL f 0 (abL m) (n + 1)).cons wa := by
  show parseL (f + 1) 0 (97 :: 32 :: abL m) n = _
  rw [parse_step f 0 n 97 _ (by simp [skipL, isBlank]) (by decide)]
  by_cases h : 100000 < n + 1
  · rw [if_pos (.inl h), if_pos h]
    simp [abL_len]; omega
  · rw [if_neg (by rintro (h1 | ⟨h1, _⟩); exact h h1; exact absurd h1 (by decide)), if_neg h]
    have h97 : isPlain 97 = true := by decide
    have h32 : isPlain 32 = false := by decide
    unfold oneL
    rw [if_neg (by decide), if_pos h97]
    simp only [List.takeWhile_cons, List.dropWhile_cons, h97, h32, if_true, Bool.false_eq_true, if_false, PR.next]
    rw [parse_blank (by decide)]
    cases parseL f 0 (abL m) (n + 1) <;> rfl
theorem long_parse : (m f : Nat) → (n : Int) → 0 ≤ n → n ≤ 100000 → 2 * m < f → parseL f 0 (abL m) n = if n + m ≤ 100000 then .ok (List.replicate m wa) [] (n + m) else .bad 2 (2 * (m - (100000 - n.toNat)))
  | 0, f, n, h0, h1, hf => by
    obtain ⟨f, rfl⟩ : ∃ g, f = g + 1 := ⟨f - 1, by omega⟩
    rw [if_pos (by omega)]
    simp [abL, parseL, skipL]
  | m + 1, f, n, h0, h1, hf => by
    obtain ⟨f, rfl⟩ : ∃ g, f = g + 1 := ⟨f - 1, by omega⟩
    rw [long_step f m n]
    by_cases h : 100000 < n + 1
    · rw [if_pos h, if_neg (by omega)]
      congr 2
      omega
    · rw [if_neg h, long_parse m f (n + 1) (by omega) (by omega) (by omega)]
      by_cases h2 : n + 1 + m ≤ 100000
      · rw [if_pos h2, if_pos (by omega)]
        simp only [PR.cons, List.replicate_succ]
        congr 1; omega
      · rw [if_neg h2, if_neg (by omega)]
        simp only [PR.cons]
        congr 2
        omega
theorem long_nodes : (m : Nat) → nodesL (List.replicate m wa) = m
  | 0 => rfl
  | m + 1 => by simp [List.replicate_succ, nodesL, wa, T.nodes] at *; have := long_nodes m; simp only [wa] at this; omega
theorem long_dok : (m : Nat) → dokL (List.replicate m wa) 0 = true
  | 0 => rfl
  | m + 1 => by have := long_dok m; simp only [List.replicate_succ, dokL, this, Bool.and_true]; rfl
theorem long_worded : (m : Nat) → wordedL (List.replicate m wa) = true
  | 0 => rfl
  | m + 1 => by have := long_worded m; simp only [List.replicate_succ, wordedL, this, Bool.and_true]; rfl
theorem long_check (m : Nat) : checkE (List.replicate m wa) = if 100000 < m then 2 else 0 := by
  have hs := sizedL_spec (List.replicate m wa) 0 0 (by omega)
  rw [long_nodes, long_dok] at hs
  unfold checkE
  by_cases h : 100000 < m
  · rw [if_pos h, if_pos]
    cases e : (sizedL (List.replicate m wa) 0 0).2 with
    | false => rfl
    | true => have := (hs.1.1 e).1; omega
  · have e : (sizedL (List.replicate m wa) 0 0).2 = true := hs.1.2 ⟨by omega, rfl⟩
    rw [if_neg h, if_neg (by rw [e]; simp), if_neg (by rw [long_worded]; simp)]
theorem long_top (m : Nat) (h : m ≤ 200000) (s : ByteArray) (hs : s.data.toList = abL m) : parseTop s = if m ≤ 100000 then .ok (List.replicate m wa) [] m else .bad 2 (2 * (m - 100000)) := by
  have hz : s.size = 2 * m := by rw [size_list s hs, abL_len]
  unfold parseTop
  rw [if_neg (by omega), hs, long_parse m (s.size + 1) 0 (by omega) (by omega) (by omega)]
  by_cases h2 : m ≤ 100000
  · rw [if_pos (by omega), if_pos h2]
    simp
  · rw [if_neg (by omega), if_neg h2]
    rfl
end Go.Proofs.Ytephgondpignbaa
