/-
  Plain laws of reckoning with limbs: one step of sums, differences, products, short and long division. No program in sight.
-/
import Derived.Test.YtfijmpmojhlnmaaGreatDoorNumP
namespace Go.Proofs.YtfijmpmojhlnmaaGreatDoor
section
variable {B : Nat} {l m : List Nat}
theorem mul_mod_div (P B t : Nat) : P * (t % B) + P * B * (t / B) = P * t := by
  rw [Nat.mul_assoc, ← Nat.mul_add, Nat.mod_add_div]
theorem dval_take_succ' (l : List Nat) (i : Nat) : dval B (l.take (i + 1)) = dval B (l.take i) + B ^ i * l.getD i 0 := by
  by_cases h : i < l.length
  · rw [dval_take_succ h, getD_in _ _ h]
  · rw [List.take_of_length_le (by omega), List.take_of_length_le (by omega), getD_out _ _ (by omega)]
    simp
theorem dval_set {i y : Nat} (h : i < l.length) : dval B (l.set i y) + B ^ i * l[i] = dval B l + B ^ i * y := by
  have h1 := dval_split (B := B) (l := l) (i + 1) (by omega)
  have h2 := dval_split (B := B) (l := l.set i y) (i + 1) (by simp; omega)
  rw [dval_take_succ h] at h1
  rw [dval_take_succ (by simpa using h)] at h2
  rw [List.take_set_of_le (Nat.le_refl _), List.drop_set_of_lt (by omega), List.getElem_set_self] at h2
  omega
theorem Dg.set {i y : Nat} (h : Dg B l) (hy : y < B) : Dg B (l.set i y) := fun x hx => by
  rcases List.mem_or_eq_of_mem_set hx with h1 | h1
  · exact h x h1
  · omega
theorem Dg.zeros (hB : 0 < B) (n : Nat) : Dg B (List.replicate n 0) := fun x hx => by rw [(List.mem_replicate.1 hx).2]; exact hB
theorem Dg.getD (hB : 0 < B) (h : Dg B l) (i : Nat) : l.getD i 0 < B := by
  by_cases hi : i < l.length
  · rw [getD_in _ _ hi]; exact h.get hi
  · rw [getD_out _ _ (by omega)]; exact hB

/-! ### a sum -/
theorem add_step {a b o : List Nat} {i c : Nat} (ho : o.length = i) (h : dval B o + B ^ i * c = dval B (a.take i) + dval B (b.take i)) :
    dval B (o ++ [(c + a.getD i 0 + b.getD i 0) % B]) + B ^ (i + 1) * ((c + a.getD i 0 + b.getD i 0) / B) = dval B (a.take (i + 1)) + dval B (b.take (i + 1)) := by
  rw [dval_concat, ho, dval_take_succ', dval_take_succ', Nat.pow_succ]
  have := mul_mod_div (B ^ i) B (c + a.getD i 0 + b.getD i 0)
  rw [Nat.mul_add, Nat.mul_add] at this
  omega
theorem carry_le {B c x y : Nat} (hc : c ≤ 1) (hx : x < B) (hy : y < B) : (c + x + y) / B ≤ 1 := by
  have : (c + x + y) / B < 2 := Nat.div_lt_of_lt_mul (by omega)
  omega

/-! ### a difference -/
/-- owed or not -/
theorem sub_step {a b o : List Nat} {i : Nat} {w : Nat} {d : Int} (ho : i < o.length) (hw : w ≤ 1) (ha : a.getD i 0 < B) (hb : b.getD i 0 < B)
    (hd : d = (a.getD i 0 : Int) - w - b.getD i 0) (h : dval B (o.take i) + dval B (b.take i) = dval B (a.take i) + B ^ i * w) :
    dval B ((o.set i (d % B).toNat).take (i + 1)) + dval B (b.take (i + 1)) = dval B (a.take (i + 1)) + B ^ (i + 1) * (if d < 0 then 1 else 0) := by
  rw [dval_take_succ', dval_take_succ', dval_take_succ', List.take_set_of_le (Nat.le_refl _), getD_in _ _ (by simpa using ho), List.getElem_set_self, Nat.pow_succ]
  have key : (d % B).toNat + b.getD i 0 + w = a.getD i 0 + B * (if d < 0 then 1 else 0) := by
    generalize a.getD i 0 = x at *
    generalize b.getD i 0 = y at *
    by_cases hn : d < 0
    · rw [if_pos hn]
      have : d % B = d + B := by
        rw [← Int.add_emod_right, Int.emod_eq_of_lt (by omega) (by omega)]
      omega
    · rw [if_neg hn]
      have : d % B = d := Int.emod_eq_of_lt (by omega) (by omega)
      omega
  have := congrArg (B ^ i * ·) key
  simp only [Nat.mul_add] at this
  rw [Nat.mul_assoc]
  omega

/-! ### a product -/
theorem mul_step {D D' P S c x y z : Nat} (h : D + P * c = S) (hs : D' + P * z = D + P * ((c + (x * y + z)) % B)) : D' + P * B * ((c + (x * y + z)) / B) = S + P * (x * y) := by
  have := mul_mod_div P B (c + (x * y + z))
  simp only [Nat.mul_add] at this
  omega
theorem mul_fits {B c x y z : Nat} (hc : c < B) (hx : x < B) (hy : y < B) (hz : z < B) : c + (x * y + z) < B * B := by
  have h1 : x * y ≤ (B - 1) * (B - 1) := Nat.mul_le_mul (by omega) (by omega)
  obtain ⟨k, rfl⟩ : ∃ k, B = k + 1 := ⟨B - 1, by omega⟩
  simp only [Nat.add_sub_cancel] at h1
  have : (k + 1) * (k + 1) = k * k + k + k + 1 := by rw [Nat.add_mul, Nat.mul_add]; omega
  omega

/-! ### a short quotient -/
theorem divw_step {a q w r x : Nat} (h : a = q * w + r) : x + B * a = ((r * B + x) / w + B * q) * w + (r * B + x) % w := by
  have h1 := Nat.mod_add_div (r * B + x) w
  rw [Nat.add_mul, h, Nat.mul_add, Nat.mul_comm ((r * B + x) / w) w, Nat.mul_assoc, Nat.mul_comm B r]
  omega
theorem divw_lt {w r x : Nat} (hr : r < w) (hx : x < B) : (r * B + x) / w < B := by
  apply Nat.div_lt_of_lt_mul
  have : (r + 1) * B ≤ w * B := Nat.mul_le_mul_right _ hr
  rw [Nat.add_mul] at this
  omega

/-! ### a long quotient: the guess -/
/-- T, W: the three highest digits of what is left, the two highest of the divisor; U, V: the whole windows. -/
theorem guess_ge {U V T W g : Nat} {P : Nat} (hU : U < (T + 1) * P) (hV : W * P ≤ V) (h : T < g * W) : U / V < g := by
  apply Nat.div_lt_of_lt_mul
  have h1 : (T + 1) * P ≤ g * W * P := Nat.mul_le_mul_right _ h
  have h2 : g * (W * P) ≤ g * V := Nat.mul_le_mul_left _ hV
  rw [Nat.mul_assoc] at h1
  rw [Nat.mul_comm V g]
  omega
theorem guess_le {U V T W g : Nat} {P : Nat} (hU : T * P ≤ U) (hV : V < (W + 1) * P) (h : g * W ≤ T) (hg : g ≤ W + 1) (hV0 : 0 < V) : g ≤ U / V + 1 := by
  rcases Nat.lt_or_ge (U / V + 1) g with h1 | h1
  · exfalso
    have h2 : U < (U / V + 1) * V := by
      have h3 := Nat.mod_add_div U V
      have h4 := Nat.mod_lt U hV0
      rw [Nat.add_mul, Nat.mul_comm (U / V) V]
      omega
    have h3 : (U / V + 1) * V ≤ (g - 1) * V := Nat.mul_le_mul_right _ (by omega)
    have h4 : (g - 1) * (V + 1) ≤ (g - 1) * ((W + 1) * P) := Nat.mul_le_mul_left _ hV
    have h5 : g * W * P ≤ T * P := Nat.mul_le_mul_right _ h
    have h6 : (g - 1) * (W + 1) * P ≤ g * W * P := by
      refine Nat.mul_le_mul_right _ ?_
      have hg1 : 1 ≤ g := Nat.lt_of_le_of_lt (Nat.zero_le _) h1
      obtain ⟨k, rfl⟩ : ∃ k, g = k + 1 := ⟨g - 1, by clear h1 h2 h3 h4 h5; omega⟩
      simp only [Nat.add_sub_cancel, Nat.mul_add, Nat.add_mul, Nat.mul_one, Nat.one_mul]
      omega
    rw [Nat.mul_add] at h4
    rw [Nat.mul_assoc] at h6
    omega
  · exact h1

/-! ### a long quotient: what is taken away and given again -/
/-- One limb: p = g * w + owed; what is left, what is owed next. -/
theorem take_step {B P u v S x g w owed : Nat} (hB : 0 < B) (h : u + g * v = S + P * owed) (hx : x < B) :
    (u + P * ((x + B - (g * w + owed) % B) % B)) + g * (v + P * w) = (S + P * x) + P * B * ((g * w + owed) / B + (if x < (g * w + owed) % B then 1 else 0)) := by
  have h1 := mul_mod_div P B (g * w + owed)
  have h2 : (g * w + owed) % B < B := Nat.mod_lt _ hB
  have h3 : P * ((x + B - (g * w + owed) % B) % B) + P * ((g * w + owed) % B) = P * x + P * B * (if x < (g * w + owed) % B then 1 else 0) := by
    rw [← Nat.mul_add, Nat.mul_assoc P B, ← Nat.mul_add]
    congr 1
    by_cases hlt : x < (g * w + owed) % B
    · rw [if_pos hlt, Nat.mod_eq_of_lt (by omega)]; omega
    · rw [if_neg hlt, show x + B - (g * w + owed) % B = (x - (g * w + owed) % B) + B by omega, Nat.add_mod_right, Nat.mod_eq_of_lt (by omega)]; omega
  simp only [Nat.mul_add] at h1 ⊢
  have e : g * (P * w) = P * (g * w) := by rw [← Nat.mul_assoc, Nat.mul_comm g P, Nat.mul_assoc]
  rw [e]
  omega
theorem owed_le {P u v S g owed : Nat} (h : u + g * v = S + P * owed) (hu : u < P) (hv : v < P) : owed ≤ g := by
  rcases Nat.lt_or_ge g owed with h1 | h1
  · exfalso
    have h2 : P * (g + 1) ≤ P * owed := Nat.mul_le_mul_left _ h1
    have h3 : g * v ≤ g * P := Nat.mul_le_mul_left _ (by omega)
    rw [Nat.mul_add, Nat.mul_comm P g] at h2
    omega
  · exact h1
/-- The last limb: below nought or not. -/
theorem take_last {B P u V S g owed last : Nat} (hB : 0 < B) (h : u + g * V = S + P * owed) (hu : u < P) (ho : owed ≤ B) (hl : last < B) :
    (last < owed → S + P * last < g * V ∧ (u + P * ((last + B - owed % B) % B)) + g * V = S + P * last + P * B) ∧
    (¬ last < owed → (u + P * ((last + B - owed % B) % B)) + g * V = S + P * last) := by
  constructor
  · intro hlt
    have e : (last + B - owed % B) % B = last + B - owed := by
      by_cases hb : owed = B
      · subst hb; simp [Nat.mod_self, Nat.mod_eq_of_lt hl]
      · rw [Nat.mod_eq_of_lt (by omega : owed < B), Nat.mod_eq_of_lt (by omega)]
    have h1 : P * (last + 1) ≤ P * owed := Nat.mul_le_mul_left _ hlt
    have h2 : P * (last + B - owed) + P * owed = P * last + P * B := by rw [← Nat.mul_add, ← Nat.mul_add]; congr 1; omega
    rw [e]
    rw [Nat.mul_add] at h1
    constructor <;> omega
  · intro hlt
    have e : (last + B - owed % B) % B = last - owed := by
      rw [Nat.mod_eq_of_lt (by omega : owed < B), show last + B - owed = (last - owed) + B by omega, Nat.add_mod_right, Nat.mod_eq_of_lt (by omega)]
    have h2 : P * (last - owed) + P * owed = P * last := by rw [← Nat.mul_add]; congr 1; omega
    rw [e]
    omega
theorem give_step {B P u v S x w c : Nat} (h : u + P * c = S + v) : (u + P * ((c + (x + w)) % B)) + P * B * ((c + (x + w)) / B) = (S + P * x) + (v + P * w) := by
  have := mul_mod_div P B (c + (x + w))
  simp only [Nat.mul_add] at this
  omega
/-- The window when one too many was taken, and given again: what is left of the quotient by one less. -/
theorem give_last {B P u V S c last Z U g : Nat} (h : u + P * c = S + V) (hu : u < P) (hS : Z = S + P * last) (hZ : Z + g * V = U + P * B) (hg : U / V + 1 = g) (hV : 0 < V) (_hVP : V < P) (hc : c ≤ 1) (hl : last < B) :
    u + P * ((last + c) % B) + (g - 1) * V = U := by
  have h1 := Nat.mod_add_div U V
  have h2 := Nat.mod_lt U hV
  obtain ⟨k, rfl⟩ : ∃ k, g = k + 1 := ⟨U / V, hg.symm⟩
  simp only [Nat.add_sub_cancel] at *
  have hk : U / V = k := by omega
  rw [hk, Nat.mul_comm V k] at h1
  rw [Nat.add_mul, Nat.one_mul] at hZ
  -- u + P (last + c) = R + P B, R < V < P
  have h3 : u + P * (last + c) = U % V + P * B := by rw [Nat.mul_add]; omega
  have h4 : last + c = B := by
    have h5 : ¬ last + c < B := fun h6 => by
      have : P * (last + c + 1) ≤ P * B := Nat.mul_le_mul_left _ h6
      rw [Nat.mul_add] at this
      omega
    omega
  rw [h4, Nat.mod_self]
  rw [h4] at h3
  omega
end
end Go.Proofs.YtfijmpmojhlnmaaGreatDoor
