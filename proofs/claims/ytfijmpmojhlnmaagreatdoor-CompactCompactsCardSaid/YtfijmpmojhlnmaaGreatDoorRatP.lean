/-
  Plain laws of rational numbers as signs and naturals; how many bits they have. No program in sight.
-/
import Derived.Test.YtfijmpmojhlnmaaGreatDoorNumP
namespace Go.Proofs.YtfijmpmojhlnmaaGreatDoor
/-- A sign and a size. -/
def sgn (neg : Bool) (n : Nat) : Int := if neg then -(n : Int) else n
theorem sgn_natAbs (neg : Bool) (n : Nat) : (sgn neg n).natAbs = n := by cases neg <;> simp [sgn]
theorem sgn_neg (n : Int) : sgn (decide (n < 0)) n.natAbs = n := by
  unfold sgn
  by_cases h : n < 0
  · simp [h]; omega
  · simp [h]; omega
theorem sgn_lt {neg : Bool} {n : Nat} : decide (sgn neg n < 0) = (neg && decide (0 < n)) := by
  cases neg <;> simp [sgn]
theorem sgn_mul (a b : Bool) (n m : Nat) : sgn (a != b) (n * m) = sgn a n * sgn b m := by
  cases a <;> cases b <;> simp [sgn, Int.neg_mul, Int.mul_neg]
theorem sgn_scale (a : Bool) (n m : Nat) : sgn a (n * m) = sgn a n * m := by
  cases a <;> simp [sgn, Int.neg_mul]
theorem sgn_zero (a : Bool) : sgn a 0 = 0 := by cases a <;> simp [sgn]
/-- The sum of two naturals with signs. -/
def sumS (an : Bool) (a : Nat) (bn : Bool) (b : Nat) : Bool × Nat := if an = bn then (an, a + b) else if b ≤ a then (an, a - b) else (bn, b - a)
theorem sumS_eq (an : Bool) (a : Nat) (bn : Bool) (b : Nat) : sgn (sumS an a bn b).1 (sumS an a bn b).2 = sgn an a + sgn bn b := by
  unfold sumS
  split
  · rename_i h; subst h; cases an <;> simp [sgn]; omega
  · split
    · cases an <;> cases bn <;> simp_all [sgn] <;> omega
    · cases an <;> cases bn <;> simp_all [sgn] <;> omega
theorem sumS_le (an : Bool) (a : Nat) (bn : Bool) (b : Nat) : (sumS an a bn b).2 ≤ a + b := by
  unfold sumS; split <;> (try split) <;> simp <;> omega

/-! ### made in lowest terms -/
theorem made_num (neg : Bool) (n d : Nat) (h : d ≠ 0) : (mkRat (sgn neg n) d).num.natAbs = n / n.gcd d ∧ (mkRat (sgn neg n) d).den = d / n.gcd d ∧ decide ((mkRat (sgn neg n) d).num < 0) = (neg && decide (0 < n)) := by
  have e : mkRat (sgn neg n) d = Rat.normalize (sgn neg n) d h := by rw [mkRat, dif_neg h]
  rw [e, Rat.normalize_eq]
  simp only [sgn_natAbs]
  have hg : 0 < n.gcd d := Nat.gcd_pos_of_pos_right _ (by omega)
  have hd : n.gcd d ∣ n := Nat.gcd_dvd_left _ _
  have e2 : sgn neg n / ((n.gcd d : Nat) : Int) = sgn neg (n / n.gcd d) := by
    cases neg
    · simp [sgn]
    · simp only [sgn, if_true]
      rw [Int.neg_ediv_of_dvd (Int.ofNat_dvd.2 hd)]
      simp
  rw [e2, sgn_natAbs, sgn_lt]
  refine ⟨by trivial, by trivial, ?_⟩
  congr 1
  refine decide_eq_decide.2 ⟨fun h1 => ?_, fun h1 => Nat.div_pos (Nat.le_of_dvd h1 hd) hg⟩
  rcases Nat.eq_zero_or_pos n with h0 | h0
  · subst h0; simp at h1
  · exact h0
theorem rat_add_made (a b : Rat) : a + b = mkRat (a.num * b.den + b.num * a.den) (a.den * b.den) := by
  rw [Rat.add_def, Rat.normalize_eq_mkRat]
theorem rat_mul_made (a b : Rat) : a * b = mkRat (a.num * b.num) (a.den * b.den) := by
  rw [Rat.mul_def, Rat.normalize_eq_mkRat]
theorem rat_inv_made (a : Rat) (h : a ≠ 0) : a⁻¹ = mkRat (sgn (decide (a.num < 0)) a.den) a.num.natAbs := by
  have hn : a.num ≠ 0 := fun e => h (Rat.num_eq_zero.1 e)
  rw [Rat.inv_def, ← Rat.divInt_ofNat]
  have h1 : (a.num.natAbs : Int) ≠ 0 := by omega
  rw [Rat.divInt_eq_divInt_iff hn h1]
  unfold sgn
  by_cases hlt : a.num < 0
  · simp only [hlt, decide_true, if_true, Int.ofNat_natAbs_of_nonpos (Int.le_of_lt hlt)]
    simp [Int.mul_neg, Int.neg_mul]
  · simp only [hlt, decide_false]
    simp only [Bool.false_eq_true, if_false]
    rw [Int.natAbs_of_nonneg (by omega)]

/-! ### how many bits -/
def Bd (k : Nat) (q : Rat) : Prop := q.num.natAbs < 2 ^ k ∧ q.den < 2 ^ k
theorem Bd.mono {k m : Nat} {q : Rat} (h : Bd k q) (hm : k ≤ m) : Bd m q :=
  ⟨Nat.lt_of_lt_of_le h.1 (Nat.pow_le_pow_right (by decide) hm), Nat.lt_of_lt_of_le h.2 (Nat.pow_le_pow_right (by decide) hm)⟩
theorem Bd.made {k : Nat} {neg : Bool} {n d : Nat} (h : d ≠ 0) (hn : n < 2 ^ k) (hd : d < 2 ^ k) : Bd k (mkRat (sgn neg n) d) := by
  obtain ⟨h1, h2, _⟩ := made_num neg n d h
  exact ⟨by rw [h1]; exact Nat.lt_of_le_of_lt (Nat.div_le_self _ _) hn, by rw [h2]; exact Nat.lt_of_le_of_lt (Nat.div_le_self _ _) hd⟩
theorem Bd.made' {k : Nat} {n : Int} {d : Nat} (h : d ≠ 0) (hn : n.natAbs < 2 ^ k) (hd : d < 2 ^ k) : Bd k (mkRat n d) := by
  have := Bd.made (neg := decide (n < 0)) h hn hd
  rwa [sgn_neg] at this
theorem lt_pow_mul {a b k m : Nat} (h1 : a < 2 ^ k) (h2 : b < 2 ^ m) : a * b < 2 ^ (k + m) := by
  rw [Nat.pow_add]
  rcases Nat.eq_zero_or_pos a with h | h
  · subst h; rw [Nat.zero_mul]; exact Nat.mul_pos (Nat.pow_pos (by decide)) (Nat.pow_pos (by decide))
  · calc a * b < a * 2 ^ m := Nat.mul_lt_mul_of_pos_left h2 h
      _ ≤ 2 ^ k * 2 ^ m := Nat.mul_le_mul_right _ (by omega)
theorem Bd.add {k m : Nat} {a b : Rat} (ha : Bd k a) (hb : Bd m b) : Bd (k + m + 1) (a + b) := by
  rw [rat_add_made]
  have h1 := lt_pow_mul ha.1 hb.2
  have h2 := lt_pow_mul hb.1 ha.2
  have h3 := lt_pow_mul ha.2 hb.2
  rw [Nat.add_comm m k] at h2
  refine Bd.made' (Nat.mul_ne_zero a.den_nz b.den_nz) ?_ ?_
  · have h4 : (a.num * b.den + b.num * a.den).natAbs ≤ a.num.natAbs * b.den + b.num.natAbs * a.den := by
      have := Int.natAbs_add_le (a.num * b.den) (b.num * a.den)
      rw [Int.natAbs_mul, Int.natAbs_mul] at this
      simpa using this
    rw [Nat.pow_succ]
    omega
  · rw [Nat.pow_succ]; omega
theorem Bd.mul {k m : Nat} {a b : Rat} (ha : Bd k a) (hb : Bd m b) : Bd (k + m) (a * b) := by
  rw [rat_mul_made]
  refine Bd.made' (Nat.mul_ne_zero a.den_nz b.den_nz) ?_ (lt_pow_mul ha.2 hb.2)
  rw [Int.natAbs_mul]
  exact lt_pow_mul ha.1 hb.1
theorem Bd.neg {k : Nat} {a : Rat} (ha : Bd k a) : Bd k (-a) := by
  refine ⟨?_, ?_⟩
  · rw [Rat.neg_num, Int.natAbs_neg]; exact ha.1
  · rw [Rat.neg_den]; exact ha.2
theorem Bd.inv {k : Nat} {a : Rat} (ha : Bd k a) (h0 : a ≠ 0) : Bd k a⁻¹ := by
  rw [rat_inv_made a h0]
  have hn : a.num ≠ 0 := fun e => h0 (Rat.num_eq_zero.1 e)
  exact Bd.made (by omega) ha.2 ha.1
theorem Bd.zero {k : Nat} (h : 0 < k) : Bd k 0 := by
  have : 2 ^ 1 ≤ 2 ^ k := Nat.pow_le_pow_right (by decide) h
  exact ⟨by simp; exact Nat.pow_pos (by decide), by simp; omega⟩
end Go.Proofs.YtfijmpmojhlnmaaGreatDoor
