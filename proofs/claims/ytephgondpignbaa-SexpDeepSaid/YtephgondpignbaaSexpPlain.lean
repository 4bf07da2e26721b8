/-
  Layer 12, plain laws: counting, telling, comparing of trees. No program in sight.
-/
import Derived.Test.YtephgondpignbaaSexpData
namespace Go.Proofs.Ytephgondpignbaa

mutual
def T.nodes : T → Int
  | .mk leaf _ l => if leaf then 1 else 1 + nodesL l
def nodesL : List T → Int
  | [] => 0
  | t :: r => t.nodes + nodesL r
end
mutual
theorem T.nodes_pos : (t : T) → 1 ≤ t.nodes
  | .mk leaf _ l => by unfold T.nodes; have := nodesL_pos l; split <;> omega
theorem nodesL_pos : (l : List T) → 0 ≤ nodesL l
  | [] => by simp [nodesL]
  | t :: r => by unfold nodesL; have := T.nodes_pos t; have := nodesL_pos r; omega
end
mutual
def T.dok : T → Int → Bool
  | .mk leaf _ l, d => if leaf then true else !(d == 200) && dokL l (d + 1)
def dokL : List T → Int → Bool
  | [], _ => true
  | t :: r, d => t.dok d && dokL r d
end
mutual
theorem T.sized_spec : (t : T) → (n d : Int) → n ≤ 100000 → ((t.sized n d).2 = true ↔ n + t.nodes ≤ 100000 ∧ t.dok d = true) ∧ ((t.sized n d).2 = true → (t.sized n d).1 = n + t.nodes)
  | .mk leaf _ l, n, d, h => by
    cases leaf with
    | true =>
      simp only [T.sized, T.nodes, T.dok, if_true]
      split
      · simp; omega
      · simp; omega
    | false =>
      have hp := nodesL_pos l
      simp only [T.sized, T.nodes, T.dok, Bool.false_eq_true, if_false]
      split
      · simp; omega
      · split
        · simp; intro; omega
        · rename_i hd
          have ih := sizedL_spec l (n + 1) (d + 1) (by omega)
          simp only [Bool.and_eq_true, Bool.not_eq_true', beq_eq_false_iff_ne, ne_eq]
          refine ⟨⟨fun h => ?_, fun h => ?_⟩, fun h => ?_⟩
          · have := ih.1.1 h; exact ⟨by omega, hd, this.2⟩
          · exact ih.1.2 ⟨by omega, h.2.2⟩
          · rw [ih.2 h]; omega
theorem sizedL_spec : (l : List T) → (n d : Int) → n ≤ 100000 → ((sizedL l n d).2 = true ↔ n + nodesL l ≤ 100000 ∧ dokL l d = true) ∧ ((sizedL l n d).2 = true → (sizedL l n d).1 = n + nodesL l)
  | [], n, d, h => by simp [sizedL, nodesL, dokL]; omega
  | t :: r, n, d, h => by
    have ih := T.sized_spec t n d h
    have hp := nodesL_pos r
    simp only [sizedL, nodesL, dokL, Bool.and_eq_true]
    cases e : (t.sized n d).2 with
    | false =>
      have h1 : ¬ (n + t.nodes ≤ 100000 ∧ t.dok d = true) := fun h => by have := ih.1.2 h; rw [e] at this; cases this
      simp only [Bool.false_eq_true, if_false, e]
      refine ⟨⟨fun h => (by cases h), fun h => (h1 ⟨by omega, h.2.1⟩).elim⟩, fun h => by cases h⟩
    | true =>
      have h1 := ih.1.1 e
      have h2 := ih.2 e
      have ih2 := sizedL_spec r (t.sized n d).1 d (by omega)
      simp only [if_true]
      refine ⟨⟨fun h => ?_, fun h => ?_⟩, fun h => ?_⟩
      · have := ih2.1.1 h; exact ⟨by omega, h1.2, this.2⟩
      · exact ih2.1.2 ⟨by omega, h.2.2⟩
      · rw [ih2.2 h]; omega
end

/-! ### the reference's count -/
mutual
def T.count : T → Int → Int → Int
  | .mk leaf _ l, n, d =>
    if leaf then (if 100000 < n + 1 then -1 else n + 1)
    else if d = 200 then -1
    else if countL l 0 (d + 1) < 0 then -1
    else if 100000 < n + 1 + countL l 0 (d + 1) then -1 else n + 1 + countL l 0 (d + 1)
def countL : List T → Int → Int → Int
  | [], n, _ => n
  | t :: r, n, d => if t.count n d < 0 then -1 else countL r (t.count n d) d
end
theorem T.count_eq (t : T) (n d : Int) : t.count n d = if t.leaf then (if 100000 < n + 1 then -1 else n + 1)
    else if d = 200 then -1
    else if countL t.list 0 (d + 1) < 0 then -1
    else if 100000 < n + 1 + countL t.list 0 (d + 1) then -1 else n + 1 + countL t.list 0 (d + 1) := by cases t; rfl
theorem countL_step (l : List T) (k : Nat) (h : k < l.length) (n d : Int) : countL (l.drop k) n d = if l[k].count n d < 0 then -1 else countL (l.drop (k + 1)) (l[k].count n d) d := by
  rw [List.drop_eq_getElem_cons h]; rfl
mutual
theorem T.count_spec : (t : T) → (n d : Int) → 0 ≤ n → n ≤ 100000 → t.count n d = if n + t.nodes ≤ 100000 ∧ t.dok d = true then n + t.nodes else -1
  | .mk leaf _ l, n, d, h0, h1 => by
    have hp := nodesL_pos l
    cases leaf with
    | true =>
      simp only [T.count, T.nodes, T.dok, if_true, and_true]
      split <;> split <;> omega
    | false =>
      have ih := countL_spec l 0 (d + 1) (by omega) (by omega)
      simp only [T.count, T.nodes, T.dok, Bool.false_eq_true, if_false, Bool.and_eq_true, Bool.not_eq_true', beq_eq_false_iff_ne, ne_eq]
      generalize countL l 0 (d + 1) = c at ih
      by_cases hd : d = 200
      · rw [if_pos hd, if_neg (by rintro ⟨_, h, _⟩; exact h hd)]
      · rw [if_neg hd]
        by_cases hk : 0 + nodesL l ≤ 100000 ∧ dokL l (d + 1) = true
        · rw [if_pos hk] at ih
          rw [if_neg (show ¬ c < 0 by omega)]
          by_cases h2 : n + (1 + nodesL l) ≤ 100000
          · rw [if_neg (show ¬ 100000 < n + 1 + c by omega), if_pos ⟨h2, hd, hk.2⟩]; omega
          · rw [if_pos (show 100000 < n + 1 + c by omega), if_neg (by rintro ⟨h, _⟩; exact h2 h)]
        · rw [if_neg hk] at ih
          rw [if_pos (show c < 0 by omega), if_neg (by rintro ⟨h, _, h2⟩; exact hk ⟨by omega, h2⟩)]
theorem countL_spec : (l : List T) → (n d : Int) → 0 ≤ n → n ≤ 100000 → countL l n d = if n + nodesL l ≤ 100000 ∧ dokL l d = true then n + nodesL l else -1
  | [], n, d, h0, h1 => by simp [countL, nodesL, dokL]; omega
  | t :: r, n, d, h0, h1 => by
    have ih := T.count_spec t n d h0 h1
    have hp := T.nodes_pos t
    have hr := nodesL_pos r
    simp only [countL, nodesL, dokL, Bool.and_eq_true]
    rw [ih]
    by_cases h : n + t.nodes ≤ 100000 ∧ t.dok d = true
    · rw [if_pos h, if_neg (by omega), countL_spec r (n + t.nodes) d (by omega) h.1]
      by_cases h2 : n + t.nodes + nodesL r ≤ 100000 ∧ dokL r d = true
      · rw [if_pos h2, if_pos ⟨by omega, h.2, h2.2⟩]; omega
      · rw [if_neg h2, if_neg (by rintro ⟨a, b, c⟩; exact h2 ⟨by omega, c⟩)]
    · rw [if_neg h, if_pos (by omega), if_neg (by rintro ⟨a, b, c⟩; exact h ⟨by omega, b⟩)]
end

/-! ### telling -/
mutual
def T.told : T → Int → T × Int
  | .mk leaf w l, m => if leaf then (.mk true w [], m - 1) else (.mk false w (toldL l (m - 1)).1, (toldL l (m - 1)).2)
def toldL : List T → Int → List T × Int
  | [], m => ([], m)
  | t :: r, m => if m ≤ 0 then ([], m) else ((t.told m).1 :: (toldL r (t.told m).2).1, (toldL r (t.told m).2).2)
end
mutual
def T.exact : T → T
  | .mk leaf w l => if leaf then .mk true w [] else .mk false w (exactL l)
def exactL : List T → List T
  | [] => []
  | t :: r => t.exact :: exactL r
end
theorem T.told_eq (t : T) (m : Int) : t.told m = if t.leaf then (.mk true t.word [], m - 1) else (.mk false t.word (toldL t.list (m - 1)).1, (toldL t.list (m - 1)).2) := by cases t; rfl
mutual
theorem T.told_spec : (t : T) → (m : Int) → 1 ≤ m → 0 ≤ (t.told m).2 ∧ (t.told m).1.nodes = m - (t.told m).2 ∧ (t.nodes ≤ m → t.told m = (t.exact, m - t.nodes)) ∧ (m < t.nodes → (t.told m).2 = 0)
  | .mk leaf w l, m, h => by
    cases leaf with
    | true => simp only [T.told, T.nodes, T.exact, if_true]; exact ⟨by omega, by omega, fun _ => trivial, fun _ => by omega⟩
    | false =>
      have ih := toldL_spec l (m - 1) (by omega)
      simp only [T.told, T.nodes, T.exact, Bool.false_eq_true, if_false]
      refine ⟨ih.1, by rw [ih.2.1]; omega, fun h => ?_, fun h => ih.2.2.2 (by omega)⟩
      rw [ih.2.2.1 (by omega)]
      exact Prod.ext rfl (by simp only; omega)
theorem toldL_spec : (l : List T) → (m : Int) → 0 ≤ m → 0 ≤ (toldL l m).2 ∧ nodesL (toldL l m).1 = m - (toldL l m).2 ∧ (nodesL l ≤ m → toldL l m = (exactL l, m - nodesL l)) ∧ (m < nodesL l → (toldL l m).2 = 0)
  | [], m, h => by simp only [toldL, nodesL, exactL]; exact ⟨h, by omega, fun _ => Prod.ext rfl (by simp only; omega), fun _ => by omega⟩
  | t :: r, m, h => by
    have hp := T.nodes_pos t
    have hr := nodesL_pos r
    by_cases hm : m ≤ 0
    · simp only [toldL, if_pos hm, nodesL]
      exact ⟨h, by omega, fun _ => by omega, fun _ => by omega⟩
    · have ih := T.told_spec t m (by omega)
      have ih2 := toldL_spec r (t.told m).2 ih.1
      simp only [toldL, if_neg hm, nodesL, exactL]
      refine ⟨ih2.1, by rw [ih.2.1, ih2.2.1]; omega, fun h => ?_, fun h => ?_⟩
      · have h1 := ih.2.2.1 (by omega)
        rw [h1] at ih2 ⊢
        simp only at ih2 ⊢
        rw [ih2.2.2.1 (by omega)]
        exact Prod.ext rfl (by simp only; omega)
      · by_cases h2 : t.nodes ≤ m
        · have h1 := ih.2.2.1 h2
          rw [h1] at ih2 ⊢
          exact ih2.2.2.2 (by simp only; omega)
        · have h1 := ih.2.2.2 (by omega)
          have := ih2.1
          have hn := nodesL_pos (toldL r (t.told m).2).1
          have := ih2.2.1
          omega
end
mutual
theorem T.exact_nodes : (t : T) → t.exact.nodes = t.nodes
  | .mk leaf w l => by cases leaf <;> simp [T.exact, T.nodes, exactL_nodes l]
theorem exactL_nodes : (l : List T) → nodesL (exactL l) = nodesL l
  | [] => rfl
  | t :: r => by simp [exactL, nodesL, T.exact_nodes t, exactL_nodes r]
end
mutual
theorem T.exact_dok : (t : T) → (d : Int) → t.exact.dok d = t.dok d
  | .mk leaf w l, d => by cases leaf <;> simp [T.exact, T.dok, exactL_dok l]
theorem exactL_dok : (l : List T) → (d : Int) → dokL (exactL l) d = dokL l d
  | [], _ => rfl
  | t :: r, d => by simp [exactL, dokL, T.exact_dok t, exactL_dok r]
end
mutual
theorem T.exact_worded : (t : T) → t.exact.worded = t.worded
  | .mk leaf w l => by cases leaf <;> simp [T.exact, T.worded, exactL_worded l]
theorem exactL_worded : (l : List T) → wordedL (exactL l) = wordedL l
  | [] => rfl
  | t :: r => by simp [exactL, wordedL, T.exact_worded t, exactL_worded r]
end
mutual
theorem T.exact_text : (t : T) → t.exact.text = t.text
  | .mk leaf w l => by cases leaf <;> simp [T.exact, T.text, exactL_body l]
theorem exactL_body : (l : List T) → bodyL (exactL l) = bodyL l
  | [] => rfl
  | t :: r => by simp [exactL, bodyL, T.exact_text t, exactL_more r]
theorem exactL_more : (l : List T) → moreL (exactL l) = moreL l
  | [] => rfl
  | t :: r => by simp [exactL, moreL, T.exact_text t, exactL_more r]
end
theorem exactL_lines : (l : List T) → linesL (exactL l) = linesL l
  | [] => rfl
  | t :: r => by simp [exactL, linesL, T.exact_text t, exactL_lines r]
mutual
theorem T.norm_nodes : (t : T) → t.norm.nodes = t.nodes
  | .mk leaf w l => by cases leaf <;> simp [T.norm, T.nodes, normL_nodes l]
theorem normL_nodes : (l : List T) → nodesL (normL l) = nodesL l
  | [] => rfl
  | t :: r => by simp [normL, nodesL, T.norm_nodes t, normL_nodes r]
end

/-- What the law sees of a row: it is too great just if the program says so. -/
theorem told_count (l : List T) : countL (toldL l 100002).1 0 0 < 0 ↔ (sizedL l 0 0).2 = false := by
  have h1 := toldL_spec l 100002 (by omega)
  have h2 := sizedL_spec l 0 0 (by omega)
  have hc := countL_spec (toldL l 100002).1 0 0 (by omega) (by omega)
  have hp := nodesL_pos (toldL l 100002).1
  by_cases hn : nodesL l ≤ 100002
  · rw [h1.2.2.1 hn] at hc ⊢
    simp only [exactL_nodes, exactL_dok] at hc ⊢
    have hp := nodesL_pos l
    cases e : (sizedL l 0 0).2 with
    | true =>
      have := h2.1.1 e
      rw [hc, if_pos this]
      simp; omega
    | false =>
      rw [hc, if_neg (fun h => by have := h2.1.2 h; rw [e] at this; cases this)]
      simp
  · have h3 := h1.2.2.2 (by omega)
    rw [hc, if_neg (by rw [h1.2.1, h3]; rintro ⟨h, _⟩; omega)]
    cases e : (sizedL l 0 0).2 with
    | true => have := h2.1.1 e; omega
    | false => simp
theorem told_all (l : List T) (h : (sizedL l 0 0).2 = true) : (toldL l 100002).1 = exactL l := by
  have := ((sizedL_spec l 0 0 (by omega)).1.1 h).1
  rw [(toldL_spec l 100002 (by omega)).2.2.1 (by omega)]

/-! ### comparing -/
mutual
def T.same : T → T → Bool
  | .mk l1 w1 s1, .mk l2 w2 s2 => (l1 == l2) && (if l1 then decide (w1 = w2) else sameL s1 s2)
def sameL : List T → List T → Bool
  | [], [] => true
  | a :: r, b :: s => a.same b && sameL r s
  | _, _ => false
end
theorem T.same_eq (a b : T) : a.same b = ((a.leaf == b.leaf) && (if a.leaf then decide (a.word = b.word) else sameL a.list b.list)) := by
  cases a; cases b; rfl
mutual
theorem T.norm_same : (t : T) → t.norm.exact.same t.exact = true
  | .mk leaf w l => by cases leaf <;> simp [T.norm, T.exact, T.same, normL_same l]
theorem normL_same : (l : List T) → sameL (exactL (normL l)) (exactL l) = true
  | [] => rfl
  | t :: r => by simp [normL, exactL, sameL, T.norm_same t, normL_same r]
end
end Go.Proofs.Ytephgondpignbaa
