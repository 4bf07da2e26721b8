/-
 The law attestlaw15.NetParses.
-/
import Derived.Test.YthdkkpocihkgbaaGreatDoorNuC
import Derived.Test.YthdkkpocihkgbaaGreatDoorNuD
import Derived.Test.YthdkkpocihkgbaaGreatDoorNtS
namespace Go.Proofs.YthdkkpocihkgbaaGreatDoor
open Go.RowKit
attribute [local irreducible] AC Do St
theorem pow_bd {x j k : Nat} (h : x < 10 ^ j) (hj : j ≤ k + 1) : x < 2 ^ (4 * k + 4) := by
 refine Nat.lt_of_lt_of_le h (Nat.le_trans (m := 16 ^ j) (Nat.pow_le_pow_left (by decide) _) ?_)
 rw [show (16 : Nat) = 2 ^ 4 from rfl, ← Nat.pow_mul]
 exact Nat.pow_le_pow_right (by decide) (by omega)
theorem parseM_bd {neg : Bool} {m : List UInt8} {q : Rat} {k : Nat} (hm : m.length ≤ k) (h : parseM neg m = some q) : Bd (4 * k + 4) q := by
 have h1 : 1 < 2 ^ (4 * k + 4) := pow_bd (j := 1) (by decide) (by omega)
 rcases idx_cases m 47 with hI | ⟨i, hI, hi⟩
 ·rcases idx_cases m 46 with hJ | ⟨i, hJ, hi⟩
  ·rw [pM_plain hI hJ] at h
   unfold ratN at h
   cases hx : readN m with
   | none => rw [hx] at h; cases h
   | some x =>
    rw [hx] at h
    replace h : some (mkRat (sgn neg x) 1) = some q := h
    cases h
    exact Bd.made (by decide) (pow_bd (readN_lt hx) (by omega)) h1
  ·rw [pM_point hI hJ] at h
   have hl1 : (m.take i).length ≤ k := by simp; omega
   have hl2 : (m.take i).length + (m.drop (i + 1)).length ≤ k := by simp; omega
   generalize m.take i = a at h hl1 hl2
   generalize m.drop (i + 1) = b at h hl2
   cases hx : readN a with
   | none => rw [hx] at h; cases h
   | some x =>
    cases hy : readN b with
    | none => rw [hx, hy] at h; cases h
    | some y =>
     rw [hx, hy] at h
     cases h
     have g1 := readN_lt hx
     have g2 := readN_lt hy
     have g3 : x * 10 ^ b.length + y < 10 ^ (a.length + b.length) := by
      have : (x + 1) * 10 ^ b.length ≤ 10 ^ a.length * 10 ^ b.length := Nat.mul_le_mul_right _ g1
      rw [Nat.add_mul, Nat.one_mul, ← Nat.pow_add] at this
      omega
     exact Bd.made (Nat.ne_of_gt (Nat.pow_pos (by decide))) (pow_bd g3 (by omega)) (pow_bd (j := b.length + 1) (Nat.pow_lt_pow_right (by decide) (by omega)) (by omega))
 ·rw [pM_bar hI] at h
  have hl1 : (m.take i).length ≤ k := by simp; omega
  have hl2 : (m.drop (i + 1)).length ≤ k := by simp; omega
  generalize m.take i = a at h hl1
  generalize m.drop (i + 1) = b at h hl2
  cases hy : readN b with
  | none => rw [hy] at h; cases h
  | some y =>
   rw [hy] at h
   dsimp only at h
   unfold ratN at h
   cases hx : readN a with
   | none => rw [hx] at h; cases h
   | some x =>
    rw [hx] at h
    dsimp only at h
    by_cases hy0 : y = 0
    ·rw [if_pos hy0] at h; cases h
    ·rw [if_neg hy0] at h
     cases h
     exact Bd.made hy0 (pow_bd (readN_lt hx) (by omega)) (pow_bd (readN_lt hy) (by omega))
theorem parseR_bd {l : List UInt8} {q : Rat} {k : Nat} (hl : l.length ≤ k) (h : parseR l = some q) : Bd (4 * k + 4) q :=
 parseM_bd (Nat.le_trans (trimP_len l [45]) hl) h
theorem ratsW_ok {k : Nat} : ∀ {t : List (List UInt8)} {rs : List Rat}, (∀ x ∈ t, x.length ≤ k) → ratsW t = some rs → rs.length = t.length ∧ ∀ q ∈ rs, Bd (4 * k + 4) q
 | [], rs, _, h => by cases h; simp
 | x :: t, rs, hw, h => by
  unfold ratsW at h
  cases hx : parseR x with
  | none => rw [hx] at h; cases h
  | some r =>
   rw [hx] at h
   cases ht : ratsW t with
   | none => rw [ht] at h; cases h
   | some l =>
    rw [ht] at h
    cases h
    obtain ⟨g1, g2⟩ := ratsW_ok (fun y hy => hw y (List.mem_cons_of_mem _ hy)) ht
    refine ⟨by simp [g1], fun q hq => ?_⟩
    rcases List.mem_cons.1 hq with rfl | h
    ·exact parseR_bd (hw x (List.mem_cons_self ..)) hx
    ·exact g2 q h
theorem cntsW_ok : ∀ {t : List (List UInt8)} {g : List Int}, cntsW t = some g → g.length = t.length
 | [], g, h => by cases h; rfl
 | x :: t, g, h => by
  unfold cntsW at h
  cases hx : cntN x with
  | none => rw [hx] at h; cases h
  | some r =>
   rw [hx] at h
   cases ht : cntsW t with
   | none => rw [ht] at h; cases h
   | some l =>
    rw [ht] at h
    cases h
    simp [cntsW_ok ht]
theorem cntN_lt {x : List UInt8} {n : Nat} (h : cntN x = some n) : n < 1000000 := by
 unfold cntN at h
 split at h
 ·rename_i h2
  have h3 := valF_lt x h2.2 0
  have h4 : 10 ^ x.length ≤ 10 ^ 6 := Nat.pow_le_pow_right (by decide) h2.1
  cases h
  omega
 ·cases h
/-- What a layer that is read holds. -/
def okR (k n : Nat) (l : LN) : Prop := (∀ r ∈ l.W, r.length ≤ 1000000 ∧ ∀ q ∈ r, Bd (4 * k + 4) q) ∧ (∀ q ∈ l.B, Bd (4 * k + 4) q) ∧ (∀ g ∈ l.G, g.length ≤ 1000000) ∧ l.W.length ≤ n ∧ l.B.length ≤ n ∧ l.G.length ≤ n
def okS (k n : Nat) (s : NS) : Prop := (0 ≤ s.inn ∧ s.inn < 1000000) ∧ s.all.length ≤ n ∧ ∀ l ∈ s.all, okR k n l
theorem okR.up {k n m : Nat} {l : LN} (h : okR k n l) (hm : n ≤ m) : okR k m l := by
 obtain ⟨a, b, c, d, e, f⟩ := h
 exact ⟨a, b, c, by omega, by omega, by omega⟩
theorem okS.up {k n m : Nat} {s : NS} (h : okS k n s) (hm : n ≤ m) : okS k m s := ⟨h.1, Nat.le_trans h.2.1 hm, fun l hl => (h.2.2 l hl).up hm⟩
theorem lineS_ok {s s' : NS} {h : List UInt8} {t : List (List UInt8)} {first : Bool} {n k : Nat} (hs : okS k n s) (hw : ∀ x ∈ t, x.length ≤ k) (ht : t.length ≤ 1000000) (hl : lineS s h t first = some s') : okS k (n + 1) s' := by
 obtain ⟨w1, w2, w3⟩ := hs
 have w3' : ∀ l ∈ s.all, okR k (n + 1) l := fun l hl => (w3 l hl).up (Nat.le_succ n)
 have hlast : ∀ l, s.last = some l → s.all = s.ls ++ [l] := fun l hl => by unfold NS.all; rw [hl]; rfl
 have hset : ∀ l l', s.last = some l → okR k (n + 1) l' → okS k (n + 1) ⟨s.inn, s.ls, some l'⟩ := fun l l' h1 h2 => by
  rw [hlast l h1] at w2 w3'
  refine ⟨w1, ?_, fun x hx => ?_⟩
  ·show (s.ls ++ [l']).length ≤ _
   simp at w2 ⊢
   omega
  ·have hx : x ∈ s.ls ++ [l'] := hx
   rcases List.mem_append.1 hx with h | h
   ·exact w3' x (List.mem_append.2 (.inl h))
   ·rw [List.mem_singleton.1 h]; exact h2
 unfold lineS at hl
 split at hl
 ·split at hl
  ·split at hl
   ·rename_i x y m hm
    split at hl
    ·cases hl
     have := cntN_lt hm
     exact ⟨by dsimp only; omega, Nat.le_trans w2 (Nat.le_succ n), w3'⟩
    ·cases hl
   ·cases hl
  ·cases hl
 ·split at hl
  ·split at hl
   ·cases hl
    refine ⟨w1, ?_, fun x hx => ?_⟩
    ·show (s.all ++ [_]).length ≤ _
     simp
     omega
    ·have hx : x ∈ s.all ++ [_] := hx
     rcases List.mem_append.1 hx with h | h
     ·exact w3' x h
     ·rw [List.mem_singleton.1 h]
      refine ⟨?_, ?_, ?_, ?_, ?_, ?_⟩ <;> simp
   ·cases hl
  ·split at hl
   ·split at hl
    ·rename_i l hl1
     obtain ⟨a, b, c, d, e, f⟩ := w3 l (by rw [hlast l hl1]; simp)
     split at hl
     ·split at hl
      ·rename_i rs hrs
       obtain ⟨g1, g2⟩ := ratsW_ok hw hrs
       split at hl
       ·rename_i q hq
        cases hl
        have hqm : q ∈ rs := List.mem_of_getLast? hq
        refine hset l _ hl1 ⟨fun r hr => ?_, fun x hx => ?_, c, by simp; omega, by simp; omega, by dsimp only; omega⟩
        ·rcases List.mem_append.1 hr with h | h
         ·exact a r h
         ·rw [List.mem_singleton.1 h]
          exact ⟨by simp; omega, fun x hx => g2 x ((List.dropLast_sublist _).subset hx)⟩
        ·rcases List.mem_append.1 hx with h | h
         ·exact b x h
         ·rw [List.mem_singleton.1 h]; exact g2 q hqm
       ·cases hl
      ·cases hl
     ·cases hl
    ·cases hl
   ·split at hl
    ·split at hl
     ·rename_i l hl1
      obtain ⟨a, b, c, d, e, f⟩ := w3 l (by rw [hlast l hl1]; simp)
      split at hl
      ·split at hl
       ·rename_i g hg
        cases hl
        have := cntsW_ok hg
        refine hset l _ hl1 ⟨a, b, fun x hx => ?_, by dsimp only; omega, by dsimp only; omega, by simp; omega⟩
        rcases List.mem_append.1 hx with h | h
        ·exact c x h
        ·rw [List.mem_singleton.1 h]; omega
       ·cases hl
      ·cases hl
     ·cases hl
    ·cases hl
theorem parseGo_ok {k : Nat} (hk : k ≤ 999999) : ∀ (ls : List (List UInt8)) (i : Nat) (s s' : NS) (f : Bool), (∀ y ∈ ls, y.length ≤ k) → okS k i s → parseGo i s f ls = .inl s' → okS k (i + ls.length) s'
 | [], i, s, s', f, _, hs, h => by
  cases h
  exact hs
 | y :: r, i, s, s', f, hw, hs, h => by
  have hr : ∀ z ∈ r, z.length ≤ k := fun z hz => hw z (List.mem_cons_of_mem _ hz)
  have hy := hw y (List.mem_cons_self ..)
  have hlen : i + (y :: r).length = i + 1 + r.length := by simp; omega
  rw [hlen]
  rw [parseGo] at h
  split at h
  ·exact parseGo_ok hk r _ _ _ _ hr (hs.up (Nat.le_succ i)) h
  ·rename_i hd t hwy
   split at h
   ·exact parseGo_ok hk r _ _ _ _ hr (hs.up (Nat.le_succ i)) h
   ·split at h
    ·cases h
    ·rename_i s2 hl2
     have hwn := wordsN_len y
     rw [hwy] at hwn
     simp at hwn
     refine parseGo_ok hk r _ _ _ _ hr (lineS_ok hs (fun x hx => ?_) (by omega) hl2) h
     have := (words_ok (l := y) (w := x) (by rw [hwy]; exact List.mem_cons_of_mem _ hx)).2
     omega
theorem parseGo_pos : ∀ (ls : List (List UInt8)) (i k : Nat) (s : NS) (f : Bool), parseGo i s f ls = .inr k → i < k ∧ k ≤ i + ls.length
 | [], i, k, s, f, h => by cases h
 | y :: r, i, k, s, f, h => by
  rw [parseGo] at h
  have e : i + (y :: r).length = i + 1 + r.length := by simp; omega
  split at h
  ·have := parseGo_pos r _ _ _ _ h
   omega
  ·split at h
   ·have := parseGo_pos r _ _ _ _ h
    omega
   ·split at h
    ·cases h
     omega
    ·have := parseGo_pos r _ _ _ _ h
     omega
end Go.Proofs.YthdkkpocihkgbaaGreatDoor
