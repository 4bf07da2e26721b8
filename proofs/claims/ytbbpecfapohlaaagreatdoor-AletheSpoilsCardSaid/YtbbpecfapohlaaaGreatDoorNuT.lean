import Derived.Test.YtbbpecfapohlaaaGreatDoorNtB
import Derived.Test.YtbbpecfapohlaaaGreatDoorKy
namespace Go.Proofs.YtbbpecfapohlaaaGreatDoor
open Go.RowKit
attribute [local irreducible] AC Do St
theorem index_at : ∀ {l : List UInt8} {c : UInt8} {i : Nat}, l[i]? = some c → c ∉ l.take i → Lib.index l [c] = (i : Int)
  | [], c, i, h, _ => by simp at h
  | b :: l, c, 0, h, _ => by
    have e : b = c := by simpa using h
    unfold Lib.index
    rw [if_pos (by simp [List.isPrefixOf, e])]
    rfl
  | b :: l, c, i + 1, h, hn => by
    have h1 : l[i]? = some c := by simpa using h
    have hb : ¬ c = b := fun e => hn (by simp [e])
    have h2 : c ∉ l.take i := fun e => hn (by simp [e])
    unfold Lib.index
    rw [if_neg (by simp [List.isPrefixOf]; exact hb), index_at h1 h2, if_neg (by simp)]
    omega
theorem index_no : ∀ {l : List UInt8} {c : UInt8}, c ∉ l → Lib.index l [c] = -1
  | [], c, _ => rfl
  | b :: l, c, h => by
    have hb : ¬ c = b := fun e => h (by simp [e])
    have h2 : c ∉ l := fun e => h (by simp [e])
    unfold Lib.index
    rw [if_neg (by simp [List.isPrefixOf]; exact hb), index_no h2]
    rfl
section
variable {P : Program} {C : Cx} {o : Oper} {σ : AS}
end
theorem idx_cases : ∀ (l : List UInt8) (c : UInt8), Lib.index l [c] = -1 ∨ ∃ i : Nat, Lib.index l [c] = (i : Int) ∧ i < l.length
  | [], c => .inl rfl
  | b :: l, c => by
    by_cases hp : ([c] : List UInt8).isPrefixOf (b :: l) = true
    · refine .inr ⟨0, ?_, by simp⟩
      unfold Lib.index
      rw [if_pos hp]
      rfl
    rcases idx_cases l c with h | ⟨i, h, hi⟩
    · refine .inl ?_
      unfold Lib.index
      rw [if_neg hp, h]
      rfl
    · refine .inr ⟨i + 1, ?_, by simp; omega⟩
      unfold Lib.index
      rw [if_neg hp, h, if_neg (by simp)]
      omega
theorem cut_yes {l : List UInt8} {c : UInt8} {i : Nat} (h : Lib.index l [c] = (i : Int)) : Lib.cut l [c] = (l.take i, l.drop (i + 1), true) := by
  unfold Lib.cut
  rw [h, if_pos (by omega)]
  simp
theorem cut_no {l : List UInt8} {c : UInt8} (h : Lib.index l [c] = -1) : Lib.cut l [c] = (l, [], false) := by
  unfold Lib.cut
  rw [h, if_neg (by omega)]
theorem pM_bar {neg : Bool} {m : List UInt8} {i : Nat} (h : Lib.index m [47] = (i : Int)) : parseM neg m = match readN (m.drop (i + 1)) with
    | none => none
    | some d => ratN neg (m.take i) d := by
  unfold parseM
  rw [cut_yes h]
  exact if_pos rfl
theorem pM_plain {neg : Bool} {m : List UInt8} (h : Lib.index m [47] = -1) (h2 : Lib.index m [46] = -1) : parseM neg m = ratN neg m 1 := by
  unfold parseM
  rw [cut_no h, cut_no h2]
  exact (if_neg Bool.false_ne_true).trans (if_neg Bool.false_ne_true)
theorem valF_add (a : Nat) (l : List UInt8) : valF a l = a * 10 ^ l.length + valF 0 l := by
  rw [valF_dval l a, valF_dval l 0, Nat.zero_mul, Nat.zero_add]
theorem pM_point {neg : Bool} {m : List UInt8} {i : Nat} (h : Lib.index m [47] = -1) (h2 : Lib.index m [46] = (i : Int)) : parseM neg m = match readN (m.take i), readN (m.drop (i + 1)) with
    | some x, some y => some (mkRat (sgn neg (x * 10 ^ (m.drop (i + 1)).length + y)) (10 ^ (m.drop (i + 1)).length))
    | _, _ => none := by
  unfold parseM
  rw [cut_no h, cut_yes h2]
  refine (if_neg Bool.false_ne_true).trans ((if_pos rfl).trans ?_)
  dsimp only
  generalize m.take i = a
  generalize m.drop (i + 1) = b
  by_cases ha : a = []
  · subst ha
    rw [if_pos (.inl rfl), show readN [] = none by decide]
  by_cases hb : b = []
  · subst hb
    rw [if_pos (.inr rfl), show readN [] = none by decide]
    cases readN a <;> rfl
  rw [if_neg (by simp [ha, hb])]
  unfold ratN
  by_cases da : ∀ c ∈ a, DigC c
  · by_cases db : ∀ c ∈ b, DigC c
    · have e1 : readN a = some (valF 0 a) := if_pos ⟨ha, da⟩
      have e2 : readN b = some (valF 0 b) := if_pos ⟨hb, db⟩
      have e3 : readN (a ++ b) = some (valF 0 (a ++ b)) := if_pos ⟨by simp [ha], fun c hc => (List.mem_append.1 hc).elim (da c) (db c)⟩
      have e4 : valF 0 (a ++ b) = valF 0 a * 10 ^ b.length + valF 0 b := by rw [valF_app, valF_add]
      rw [e1, e2, e3, e4]
      exact if_neg (Nat.ne_of_gt (Nat.pow_pos (by decide)))
    · have e2 : readN b = none := if_neg fun h => db h.2
      have e3 : readN (a ++ b) = none := if_neg fun h => db fun c hc => h.2 c (List.mem_append.2 (.inr hc))
      rw [e2, e3]
      cases readN a <;> rfl
  · have e1 : readN a = none := if_neg fun h => da h.2
    have e3 : readN (a ++ b) = none := if_neg fun h => da fun c hc => h.2 c (List.mem_append.2 (.inl hc))
    rw [e1, e3]
theorem readN_lt {l : List UInt8} {n : Nat} (h : readN l = some n) : n < 10 ^ l.length := by
  unfold readN at h
  split at h
  · rename_i h2
    have := valF_lt l h2.2 0
    cases h
    omega
  · cases h
theorem parseR_cons (c : UInt8) (t : List UInt8) : parseR (c :: t) = if c = 45 then parseM true t else parseM false (c :: t) := by
  unfold parseR Lib.trimPrefix Lib.hasPrefix
  by_cases h : c = 45
  · rw [if_pos h, h]
    simp [List.isPrefixOf]
  · rw [if_neg h, if_neg (by simp [List.isPrefixOf]; exact fun e => h e.symm)]
    simp
theorem pow_bd {x j k : Nat} (h : x < 10 ^ j) (hj : j ≤ k + 1) : x < 2 ^ (4 * k + 4) := by
  refine Nat.lt_of_lt_of_le h (Nat.le_trans (m := 16 ^ j) (Nat.pow_le_pow_left (by decide) _) ?_)
  rw [show (16 : Nat) = 2 ^ 4 from rfl, ← Nat.pow_mul]
  exact Nat.pow_le_pow_right (by decide) (by omega)
theorem parseM_bd {neg : Bool} {m : List UInt8} {q : Rat} {k : Nat} (hm : m.length ≤ k) (h : parseM neg m = some q) : Bd (4 * k + 4) q := by
  have h1 : 1 < 2 ^ (4 * k + 4) := pow_bd (j := 1) (by decide) (by omega)
  rcases idx_cases m 47 with hI | ⟨i, hI, hi⟩
  · rcases idx_cases m 46 with hJ | ⟨i, hJ, hi⟩
    · rw [pM_plain hI hJ] at h
      unfold ratN at h
      cases hx : readN m with
      | none => rw [hx] at h; cases h
      | some x =>
        rw [hx] at h
        replace h : some (mkRat (sgn neg x) 1) = some q := h
        cases h
        exact Bd.made (by decide) (pow_bd (readN_lt hx) (by omega)) h1
    · rw [pM_point hI hJ] at h
      have hl1 : (m.take i).length ≤ k := by simp; omega
      have hl2 : (m.take i).length + (m.drop (i + 1)).length ≤ k := by simp; omega
      generalize m.take i = a at h hl1 hl2
      generalize m.drop (i + 1) = b at h hl2
      cases hx : readN a with
      | none => rw [hx] at h; cases h
      | some x =>
        cases hy : readN b with
        | none => rw [hx, hy] at h; cases h
        | some y =>
          rw [hx, hy] at h
          cases h
          have g1 := readN_lt hx
          have g2 := readN_lt hy
          have g3 : x * 10 ^ b.length + y < 10 ^ (a.length + b.length) := by
            have : (x + 1) * 10 ^ b.length ≤ 10 ^ a.length * 10 ^ b.length := Nat.mul_le_mul_right _ g1
            rw [Nat.add_mul, Nat.one_mul, ← Nat.pow_add] at this
            omega
          exact Bd.made (Nat.ne_of_gt (Nat.pow_pos (by decide))) (pow_bd g3 (by omega)) (pow_bd (j := b.length + 1) (Nat.pow_lt_pow_right (by decide) (by omega)) (by omega))
  · rw [pM_bar hI] at h
    have hl1 : (m.take i).length ≤ k := by simp; omega
    have hl2 : (m.drop (i + 1)).length ≤ k := by simp; omega
    generalize m.take i = a at h hl1
    generalize m.drop (i + 1) = b at h hl2
    cases hy : readN b with
    | none => rw [hy] at h; cases h
    | some y =>
      rw [hy] at h
      dsimp only at h
      unfold ratN at h
      cases hx : readN a with
      | none => rw [hx] at h; cases h
      | some x =>
        rw [hx] at h
        dsimp only at h
        by_cases hy0 : y = 0
        · rw [if_pos hy0] at h; cases h
        · rw [if_neg hy0] at h
          cases h
          exact Bd.made hy0 (pow_bd (readN_lt hx) (by omega)) (pow_bd (readN_lt hy) (by omega))
theorem parseR_bd {l : List UInt8} {q : Rat} {k : Nat} (hl : l.length ≤ k) (h : parseR l = some q) : Bd (4 * k + 4) q :=
  parseM_bd (Nat.le_trans (trimP_len l [45]) hl) h
end Go.Proofs.YtbbpecfapohlaaaGreatDoor
namespace Go.Proofs.YtbbpecfapohlaaaGreatDoor
open Go.RowKit
theorem no46 : ¬ DigC 46 := by unfold DigC; decide
theorem readN_text (n : Nat) : readN (textL n) = some n := by
  unfold readN
  rw [if_pos ⟨textL_ne n, textL_dig n⟩, textL_val]
theorem take_app {α : Type} (a b : List α) (c : α) : (a ++ c :: b).take a.length = a ∧ (a ++ c :: b).drop (a.length + 1) = b ∧ (a ++ c :: b)[a.length]? = some c := by
  refine ⟨by simp, ?_, by simp⟩
  rw [List.drop_append]
  simp
theorem mk_back (q : Rat) (neg : Bool) (hn : neg = decide (q.num < 0)) : mkRat (sgn neg q.num.natAbs) q.den = q := by
  have e : sgn neg q.num.natAbs = q.num := by
    subst hn
    exact sgn_neg q.num
  rw [e]
  exact Rat.mkRat_self q
theorem parseM_print (q : Rat) (neg : Bool) (hn : neg = decide (q.num < 0)) : parseM neg (textL q.num.natAbs ++ (if q.den = 1 then [] else 47 :: textL q.den)) = some q := by
  have hb := mk_back q neg hn
  by_cases hd : q.den = 1
  · rw [if_pos hd, List.append_nil, pM_plain (index_no (textL_no _ no47)) (index_no (textL_no _ no46))]
    unfold ratN
    rw [readN_text]
    rw [hd] at hb
    exact congrArg some hb
  · rw [if_neg hd]
    obtain ⟨e1, e2, e3⟩ := take_app (textL q.num.natAbs) (textL q.den) 47
    rw [pM_bar (i := (textL q.num.natAbs).length) (index_at e3 (by rw [e1]; exact textL_no _ no47)), e1, e2, readN_text]
    dsimp only
    unfold ratN
    rw [readN_text]
    dsimp only
    rw [if_neg q.den_nz, hb]
theorem parseR_print (q : Rat) : parseR (printL q) = some q := by
  unfold printL
  by_cases h : q.num < 0
  · rw [if_pos h]
    show parseR (45 :: _) = _
    rw [parseR_cons, if_pos rfl]
    exact parseM_print q true (by simp [h])
  · rw [if_neg h, List.nil_append]
    have hp := parseM_print q false (by simp [h])
    have hne := textL_ne q.num.natAbs
    have hno := textL_no q.num.natAbs no45
    generalize textL q.num.natAbs = m at hp hne hno
    match m, hne, hno with
    | c :: t, _, hno =>
      rw [List.cons_append] at hp ⊢
      rw [parseR_cons, if_neg (fun e => hno (by rw [e]; exact List.mem_cons_self ..))]
      exact hp
end Go.Proofs.YtbbpecfapohlaaaGreatDoor
