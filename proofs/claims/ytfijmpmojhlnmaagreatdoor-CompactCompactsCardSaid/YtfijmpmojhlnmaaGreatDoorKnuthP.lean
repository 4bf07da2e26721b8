/-
  Plain laws of the long division (Knuth's): the guess, the digit, the number that is left. No program in sight.
-/
import Derived.Test.YtfijmpmojhlnmaaGreatDoorBitP
import Derived.Lib.BitFns
namespace Go.Proofs.YtfijmpmojhlnmaaGreatDoor
theorem bitLen_bd {x : Nat} (h0 : 0 < x) (h : x < 4294967296) : 1 ≤ Lib.bitLen x ∧ Lib.bitLen x ≤ 32 ∧ 2 ^ 31 ≤ x * 2 ^ (32 - Lib.bitLen x) ∧ x * 2 ^ (32 - Lib.bitLen x) < 2 ^ 32 := by
  have key : ∀ n x : Nat, 0 < x → x < 2 ^ n → n ≤ 64 → 1 ≤ Lib.bitLen x ∧ 2 ^ (Lib.bitLen x - 1) ≤ x ∧ x < 2 ^ Lib.bitLen x := by
    intro n
    induction n with
    | zero => intro x h1 h2 _; simp at h2; omega
    | succ n ih =>
      intro x h1 h2 hn
      have h64 : x < 2 ^ 64 := Nat.lt_of_lt_of_le h2 (Nat.pow_le_pow_right (by decide) hn)
      rw [Lib.bitLen_half x (by omega) h64]
      by_cases hx : x / 2 = 0
      · have : x = 1 := by omega
        subst this
        decide
      · obtain ⟨i1, i2, i3⟩ := ih (x / 2) (by omega) (by rw [Nat.pow_succ] at h2; omega) (by omega)
        generalize Lib.bitLen (x / 2) = b at *
        refine ⟨by omega, ?_, ?_⟩
        · rw [show 1 + b - 1 = (b - 1) + 1 by omega, Nat.pow_succ]; omega
        · rw [Nat.add_comm, Nat.pow_succ]; omega
  obtain ⟨k1, k2, k3⟩ := key 32 x h0 h (by decide)
  have k4 := Lib.bitLen_le x 32 (by decide) h
  generalize Lib.bitLen x = b at *
  refine ⟨k1, k4, ?_, ?_⟩
  · have : 2 ^ (b - 1) * 2 ^ (32 - b) ≤ x * 2 ^ (32 - b) := Nat.mul_le_mul_right _ k2
    rw [← Nat.pow_add, show b - 1 + (32 - b) = 31 by omega] at this
    exact this
  · have : (x + 1) * 2 ^ (32 - b) ≤ 2 ^ b * 2 ^ (32 - b) := Nat.mul_le_mul_right _ k3
    rw [← Nat.pow_add, show b + (32 - b) = 32 by omega, Nat.add_mul] at this
    have := Nat.pow_pos (n := 32 - b) (show 0 < 2 by decide)
    omega
theorem guess_aB {B a b r z t1 t0 : Nat} (h : a + r = z + t1) (h1 : r * B + t0 < b) : z * B + t1 * B + t0 < a * B + b := by
  have h2 : (a + r) * B = (z + t1) * B := by rw [h]
  rw [Nat.add_mul, Nat.add_mul] at h2
  omega
theorem guess_bB {B a b r z t1 t0 : Nat} (h : a + r = z + t1) (h1 : b ≤ r * B + t0) : a * B + b ≤ z * B + t1 * B + t0 := by
  have h2 : (a + r) * B = (z + t1) * B := by rw [h]
  rw [Nat.add_mul, Nat.add_mul] at h2
  omega
/-! ### the guess -/
/-- What stands at the head of the guesses' loop: g and the rest r, of the two highest limbs t2, t1 over d. -/
structure Gs (U V d t2 t1 g r : Nat) : Prop where
  eq : g * d + r = t2 * 4294967296 + t1
  low : U / V ≤ g
  rest : r < 4294967296
/-- What holds all the while. -/
structure Kn (U V P d d2 t2 t1 t0 : Nat) : Prop where
  uv : U < 4294967296 * V
  v0 : 0 < V
  tu : (t2 * 4294967296 * 4294967296 + t1 * 4294967296 + t0) * P ≤ U ∧ U < (t2 * 4294967296 * 4294967296 + t1 * 4294967296 + t0 + 1) * P
  wv : (d * 4294967296 + d2) * P ≤ V ∧ V < (d * 4294967296 + d2 + 1) * P
  dd : 2147483648 ≤ d ∧ d < 4294967296
  small : d2 < 4294967296 ∧ t2 < 4294967296 ∧ t1 < 4294967296 ∧ t0 < 4294967296
section
variable {U V P d d2 t2 t1 t0 g r : Nat}
theorem Kn.div_lt (h : Kn U V P d d2 t2 t1 t0) : U / V < 4294967296 := Nat.div_lt_of_lt_mul (by rw [Nat.mul_comm]; exact h.uv)
theorem Kn.top (h : Kn U V P d d2 t2 t1 t0) : t2 * 4294967296 + t1 ≤ d * 4294967296 + 4294967295 := by
  have h1 : (t2 * 4294967296 * 4294967296 + t1 * 4294967296 + t0) * P < 4294967296 * ((d * 4294967296 + d2 + 1) * P) :=
    Nat.lt_of_le_of_lt h.tu.1 (Nat.lt_of_lt_of_le h.uv (Nat.mul_le_mul_left _ (Nat.le_of_lt h.wv.2)))
  rw [← Nat.mul_assoc] at h1
  have h2 := Nat.lt_of_mul_lt_mul_right h1
  have := h.small
  omega
theorem Kn.start (h : Kn U V P d d2 t2 t1 t0) : Gs U V d t2 t1 ((t2 * 4294967296 + t1) / d) ((t2 * 4294967296 + t1) % d) := by
  have hd : 0 < d := by have := h.dd; omega
  have hm := Nat.mod_lt (t2 * 4294967296 + t1) hd
  have he := Nat.mod_add_div (t2 * 4294967296 + t1) d
  have h3 : (t2 * 4294967296 + t1) / d * d + (t2 * 4294967296 + t1) % d = t2 * 4294967296 + t1 := by rw [Nat.mul_comm]; omega
  refine ⟨h3, ?_, by have := h.dd; omega⟩
  have h4 : U / V < (t2 * 4294967296 + t1) / d + 1 := by
    refine guess_ge h.tu.2 h.wv.1 ?_
    rw [Nat.mul_add]
    have h5 : ((t2 * 4294967296 + t1) / d + 1) * (d * 4294967296) = ((t2 * 4294967296 + t1) / d * d + d) * 4294967296 := by rw [← Nat.mul_assoc, Nat.add_mul, Nat.one_mul]
    rw [h5]
    have := h.small
    omega
  omega
theorem Kn.g_le (h : Kn U V P d d2 t2 t1 t0) (k : Gs U V d t2 t1 g r) : g ≤ 4294967297 := by
  have h1 := h.top
  have h2 := k.eq
  have h3 := h.dd
  rcases Nat.lt_or_ge 4294967297 g with h4 | h4
  · have h5 : 4294967298 * d ≤ g * d := Nat.mul_le_mul_right _ (by omega)
    omega
  · exact h4
theorem Kn.gd2 (h : Kn U V P d d2 t2 t1 t0) (k : Gs U V d t2 t1 g r) : g * d2 < 18446744073709551616 := by
  have h1 := h.g_le k
  have h2 := h.small.1
  have h3 : g * d2 ≤ 4294967297 * 4294967295 := Nat.mul_le_mul h1 (by omega)
  omega
/-- The guess is too great: one less. -/
theorem Kn.less (h : Kn U V P d d2 t2 t1 t0) (k : Gs U V d t2 t1 g r) (hc : 4294967296 ≤ g ∨ r * 4294967296 + t0 < g * d2) : 1 ≤ g ∧ (g - 1) * d + (r + d) = t2 * 4294967296 + t1 ∧ U / V ≤ g - 1 := by
  have hg : 1 ≤ g := by
    rcases hc with h1 | h1
    · omega
    · rcases Nat.eq_zero_or_pos g with h2 | h2
      · subst h2; simp at h1
      · exact h2
  refine ⟨hg, ?_, ?_⟩
  · obtain ⟨m, rfl⟩ : ∃ m, g = m + 1 := ⟨g - 1, by omega⟩
    have := k.eq
    rw [Nat.add_mul] at this
    rw [Nat.add_sub_cancel]
    omega
  · rcases hc with h1 | h1
    · have := h.div_lt; omega
    · have h4 : U / V < g := by
        refine guess_ge h.tu.2 h.wv.1 ?_
        rw [Nat.mul_add, ← Nat.mul_assoc]
        exact guess_aB k.eq h1
      omega
theorem Kn.next (h : Kn U V P d d2 t2 t1 t0) (k : Gs U V d t2 t1 g r) (hc : 4294967296 ≤ g ∨ r * 4294967296 + t0 < g * d2) (hr : r + d < 4294967296) : Gs U V d t2 t1 (g - 1) (r + d) :=
  ⟨(h.less k hc).2.1, (h.less k hc).2.2, hr⟩
theorem Kn.w_big (h : Kn U V P d d2 t2 t1 t0) (hg : g < 4294967296) : g ≤ d * 4294967296 + d2 + 1 := by have := h.dd; omega
/-- The loop is left by its break. -/
theorem Kn.brk (h : Kn U V P d d2 t2 t1 t0) (k : Gs U V d t2 t1 g r) (hc : 4294967296 ≤ g ∨ r * 4294967296 + t0 < g * d2) (hr : 4294967296 ≤ r + d) : U / V ≤ g - 1 ∧ g - 1 ≤ U / V + 1 ∧ g - 1 < 4294967296 := by
  obtain ⟨h1, h2, h3⟩ := h.less k hc
  have h4 := h.top
  have h5 := h.dd
  have h6 : g - 1 < 4294967296 := by
    rcases Nat.lt_or_ge (g - 1) 4294967296 with h7 | h7
    · exact h7
    · have h8 : 4294967296 * d ≤ (g - 1) * d := Nat.mul_le_mul_right _ h7
      omega
  refine ⟨h3, ?_, h6⟩
  refine guess_le h.tu.1 h.wv.2 ?_ (h.w_big h6) h.v0
  rw [Nat.mul_add, ← Nat.mul_assoc]
  have h9 : (g - 1) * d2 ≤ 4294967296 * 4294967296 := Nat.mul_le_mul (by omega) (by have := h.small; omega)
  exact guess_bB h2 (Nat.le_trans h9 (Nat.le_trans (Nat.mul_le_mul_right _ hr) (Nat.le_add_right _ _)))
/-- It is left by its test. -/
theorem Kn.fine (h : Kn U V P d d2 t2 t1 t0) (k : Gs U V d t2 t1 g r) (hg : g < 4294967296) (hc : g * d2 ≤ r * 4294967296 + t0) : U / V ≤ g ∧ g ≤ U / V + 1 ∧ g < 4294967296 := by
  refine ⟨k.low, ?_, hg⟩
  refine guess_le h.tu.1 h.wv.2 ?_ (h.w_big hg) h.v0
  rw [Nat.mul_add, ← Nat.mul_assoc]
  exact guess_bB k.eq hc
end
/-- One too many was taken. -/
theorem digit_over {U V G X M : Nat} (hV : 0 < V) (h1 : G ≤ U / V + 1) (hlt : U < G * V) (hx : X + G * V = U + M) (hM : V ≤ M) : G = U / V + 1 ∧ (X + V) % M = U % V := by
  have h2 : G = U / V + 1 := by
    rcases Nat.lt_or_ge (U / V) G with h3 | h3
    · omega
    · have := Nat.mul_le_mul_right V h3
      have := Nat.div_mul_le_self U V
      omega
  refine ⟨h2, ?_⟩
  have h4 := Nat.mod_add_div U V
  have h5 := Nat.mod_lt U hV
  subst h2
  rw [Nat.add_mul, Nat.one_mul, Nat.mul_comm (U / V)] at hx
  rw [show X + V = U % V + M by omega, Nat.add_mod_right, Nat.mod_eq_of_lt (by omega)]
theorem digit_fine {U V G X : Nat} (_hV : 0 < V) (h0 : U / V ≤ G) (hx : X + G * V = U) : G = U / V ∧ X = U % V := by
  have h1 : G ≤ U / V := by rw [Nat.le_div_iff_mul_le _hV]; omega
  have h2 : G = U / V := by omega
  have h4 := Nat.mod_add_div U V
  rw [h2, Nat.mul_comm] at hx
  exact ⟨h2, by omega⟩
/-! ### the windows of what is left -/
theorem high_zero {ul : List Nat} {V R k n : Nat} (hR : dval 4294967296 (ul.drop k) = R) (hRV : R < V) (hV : V ≤ 4294967296 ^ n) (hn : k + n ≤ ul.length) : dval 4294967296 (ul.drop (k + n)) = 0 := by
  have h1 := dval_split (B := 4294967296) (l := ul.drop k) n (by rw [List.length_drop]; omega)
  rw [List.drop_drop, hR] at h1
  rcases Nat.eq_zero_or_pos (dval 4294967296 (ul.drop (k + n))) with h2 | h2
  · exact h2
  · have := Nat.le_mul_of_pos_right (4294967296 ^ n) h2
    omega
theorem win_eq {ul : List Nat} {j i : Nat} (hn : j + i ≤ ul.length) (hz : dval 4294967296 (ul.drop (j + i)) = 0) : win ul j i = dval 4294967296 (ul.drop j) := by
  have h1 := dval_split (B := 4294967296) (l := ul.drop j) i (by rw [List.length_drop]; omega)
  rw [List.drop_drop, hz, Nat.mul_zero, Nat.add_zero] at h1
  exact h1.symm
/-- All that the guess goes by. -/
theorem kn_of {ul vl : List Nat} {V R j n : Nat} (hu : Dg 4294967296 ul) (hv : Dg 4294967296 vl) (hn : vl.length = n + 2) (hV : dval 4294967296 vl = V) (htop : 2147483648 * 4294967296 ^ (n + 1) ≤ V) (hlen : j + n + 3 ≤ ul.length)
    (hR : dval 4294967296 (ul.drop (j + 1)) = R) (hRV : R < V) (h1 : n + 1 < vl.length) (h2 : n < vl.length) (h3 : j + (n + 2) < ul.length) (h4 : j + (n + 1) < ul.length) (h5 : j + n < ul.length) :
    Kn (win ul j (n + 3)) V (4294967296 ^ n) vl[n + 1] vl[n] ul[j + (n + 2)] ul[j + (n + 1)] ul[j + n] ∧ win ul j (n + 3) = ul[j] + 4294967296 * R ∧ dval 4294967296 (ul.drop (j + (n + 3))) = 0 := by
  have hVl : V < 4294967296 ^ (n + 2) := by rw [← hV, ← hn]; exact dval_lt hv
  have hz : dval 4294967296 (ul.drop (j + (n + 3))) = 0 := by
    have := high_zero hR hRV (Nat.le_of_lt hVl) (by omega)
    rw [show j + 1 + (n + 2) = j + (n + 3) by omega] at this
    exact this
  have hw : win ul j (n + 3) = ul[j] + 4294967296 * R := by
    rw [win_eq (by omega) hz, dval_drop (by omega), hR]
  have hv2 : V = dval 4294967296 (vl.take n) + 4294967296 ^ n * (vl[n + 1] * 4294967296 + vl[n]) := by
    rw [← hV]
    conv => lhs; rw [← List.take_of_length_le (l := vl) (i := n + 2) (by omega)]
    rw [dval_take_succ (by omega : n + 1 < vl.length), dval_take_succ (by omega : n < vl.length), Nat.pow_succ, Nat.mul_add, Nat.mul_assoc, Nat.mul_comm 4294967296 vl[n + 1]]
    omega
  have hvl := dval_lt (hv.take n)
  rw [List.length_take, Nat.min_eq_left (by omega)] at hvl
  have hu2 : win ul j (n + 3) = win ul j n + 4294967296 ^ n * (ul[j + (n + 2)] * 4294967296 * 4294967296 + ul[j + (n + 1)] * 4294967296 + ul[j + n]) := by
    rw [win_succ (i := n + 2) (by omega), win_succ (i := n + 1) (by omega), win_succ (i := n) (by omega)]
    have e1 : (4294967296 : Nat) ^ (n + 1) = 4294967296 ^ n * 4294967296 := by rw [Nat.pow_succ]
    have e2 : (4294967296 : Nat) ^ (n + 2) = 4294967296 ^ n * 4294967296 * 4294967296 := by rw [Nat.pow_succ, e1]
    rw [e1, e2]
    generalize 4294967296 ^ n = P
    rw [Nat.mul_add P, Nat.mul_add P, Nat.mul_assoc P 4294967296, Nat.mul_assoc P 4294967296, Nat.mul_assoc P (4294967296 * 4294967296)]
    rw [Nat.mul_comm 4294967296 ul[j + (n + 1)], Nat.mul_comm (4294967296 * 4294967296) ul[j + (n + 2)], ← Nat.mul_assoc ul[j + (n + 2)]]
    omega
  have hul := win_lt hu j n
  refine ⟨⟨?_, by omega, ?_, ?_, ⟨?_, hv _ (List.getElem_mem _)⟩, hv _ (List.getElem_mem _), hu _ (List.getElem_mem _), hu _ (List.getElem_mem _), hu _ (List.getElem_mem _)⟩, hw, hz⟩
  · rw [hw]
    have := hu ul[j] (List.getElem_mem _)
    omega
  · rw [hu2, Nat.mul_comm (4294967296 ^ n), Nat.add_mul (_ + _ + _) 1, Nat.one_mul]
    omega
  · rw [hv2, Nat.mul_comm (4294967296 ^ n), Nat.add_mul (_ + _) 1, Nat.one_mul]
    omega
  · -- the highest limb
    rcases Nat.lt_or_ge vl[n + 1] 2147483648 with h6 | h6
    · exfalso
      have h7 : V < 2147483648 * 4294967296 ^ (n + 1) := by
        rw [hv2, Nat.pow_succ]
        have h8 := hv vl[n] (List.getElem_mem _)
        have h9 : 4294967296 ^ n * (vl[n + 1] * 4294967296 + vl[n] + 1) ≤ 4294967296 ^ n * (2147483648 * 4294967296) := Nat.mul_le_mul_left _ (by omega)
        rw [Nat.mul_add (4294967296 ^ n) _ 1] at h9
        have h10 : 2147483648 * (4294967296 ^ n * 4294967296) = 4294967296 ^ n * (2147483648 * 4294967296) := by
          rw [← Nat.mul_assoc, Nat.mul_comm 2147483648, Nat.mul_assoc]
        omega
      omega
    · exact h6
/-- One digit of the quotient is found. -/
theorem long_step {A V R X j : Nat} {ul ul' ql ql' : List Nat} (hA : A = dval 4294967296 (ul.take (j + 1)) + 4294967296 ^ (j + 1) * (dval 4294967296 (ql.drop (j + 1)) * V + R)) (hj : j < ul.length) (hU : X = ul[j] + 4294967296 * R)
    (ht : ul'.take j = ul.take j) (hq : dval 4294967296 (ql'.drop j) = X / V + 4294967296 * dval 4294967296 (ql.drop (j + 1))) :
    A = dval 4294967296 (ul'.take j) + 4294967296 ^ j * (dval 4294967296 (ql'.drop j) * V + X % V) := by
  rw [ht, hq, hA, dval_take_succ hj, Nat.pow_succ]
  have h1 : (X / V + 4294967296 * dval 4294967296 (ql.drop (j + 1))) * V + X % V = X + 4294967296 * (dval 4294967296 (ql.drop (j + 1)) * V) := by
    rw [Nat.add_mul, Nat.mul_assoc]
    have := Nat.mod_add_div X V
    rw [Nat.mul_comm] at this
    omega
  rw [h1, hU]
  generalize 4294967296 ^ j = P
  rw [Nat.mul_assoc P, Nat.mul_add 4294967296, Nat.mul_add P, Nat.mul_add P, Nat.mul_add P]
  omega
end Go.Proofs.YtfijmpmojhlnmaaGreatDoor
