/-
  Plain laws of reckoning with lists of bits, and of cutting noughts at the end. No program in sight.
-/
import Derived.Test.YtfijmpmojhlnmaaGreatDoorLimbP
import Derived.Laws.Bits64b
namespace Go.Proofs.YtfijmpmojhlnmaaGreatDoor
def limbs (n : Nat) : List Nat := digs 4294967296 n
section
variable {B : Nat} {l m : List Nat}
theorem getLast_take {α : Type} (l : List α) (n : Nat) (h : 0 < n) (hn : n ≤ l.length) : (l.take n).getLast? = l[n - 1]? := by
  rw [List.getLast?_eq_getElem?, List.length_take, Nat.min_eq_left hn, List.getElem?_take]
  rw [if_pos (by omega)]
theorem digs_take (hB : 1 < B) (d : Dg B l) {n : Nat} (hn : n ≤ l.length) (hv : dval B (l.take n) = dval B l) (hz : n = 0 ∨ l.getD (n - 1) 0 ≠ 0) : digs B (dval B l) = l.take n := by
  rw [← hv]
  refine digs_of hB (d.take n) ?_
  rcases Nat.eq_zero_or_pos n with h0 | h0
  · subst h0; simp [Nrm]
  · unfold Nrm
    rw [getLast_take l n h0 hn]
    rcases hz with h1 | h1
    · omega
    · intro h2
      apply h1
      simp [List.getD, h2]
theorem dval_take_pred {n : Nat} (h : 0 < n) (h0 : l.getD (n - 1) 0 = 0) : dval B (l.take (n - 1)) = dval B (l.take n) := by
  have := dval_take_succ' (B := B) l (n - 1)
  rw [Nat.sub_add_cancel h, h0] at this
  rw [this]; simp
theorem digs_take_len (hB : 1 < B) (d : Dg B l) : digs B (dval B l) = l.take (digs B (dval B l)).length ∧ (digs B (dval B l)).length ≤ l.length := by
  rw [← cutz_digs hB d]
  refine ⟨?_, cutz_len l⟩
  have := cutz_prefix l
  exact List.prefix_iff_eq_take.1 this
end
/-! ### bits -/
section
variable {a b o : List Bool}
theorem bval_nil : bval [] = 0 := rfl
theorem bval_take_succ {i : Nat} (h : i < b.length) : bval (b.take (i + 1)) = bval (b.take i) + 2 ^ i * b[i].toNat := by
  rw [List.take_succ_eq_append_getElem h, bval_concat, List.length_take, Nat.min_eq_left (by omega)]
theorem bval_take_all {i : Nat} (h : b.length ≤ i) : bval (b.take i) = bval b := by rw [List.take_of_length_le h]
theorem bval_drop {i : Nat} (h : i < b.length) : bval (b.drop i) = b[i].toNat + 2 * bval (b.drop (i + 1)) := by
  rw [List.drop_eq_getElem_cons h, bval_cons]
theorem bval_zeros (n : Nat) : bval (List.replicate n false) = 0 := by
  unfold bval bnat; rw [List.map_replicate]; exact dval_zeros n
theorem bval_set {i : Nat} (h : i < b.length) (h0 : b[i] = false) : bval (b.set i true) = bval b + 2 ^ i := by
  have h1 := dval_set (B := 2) (l := bnat b) (i := i) (y := 1) (by rw [bnat_len]; exact h)
  have h2 : (bnat b)[i]'(by rw [bnat_len]; exact h) = 0 := by simp [bnat, h0]
  rw [h2] at h1
  have h3 : bnat (b.set i true) = (bnat b).set i 1 := by simp [bnat, List.map_set]
  unfold bval
  rw [h3]
  omega
theorem bits_take {n : Nat} (hn : n ≤ b.length) (hv : bval (b.take n) = bval b) (hz : n = 0 ∨ b.getD (n - 1) false = true) : bits (bval b) = b.take n := by
  rw [← hv]
  refine bits_of ?_
  rcases Nat.eq_zero_or_pos n with h0 | h0
  · subst h0; simp [NrmB]
  · unfold NrmB
    rw [getLast_take b n h0 hn]
    rcases hz with h1 | h1
    · omega
    · intro h2
      simp [List.getD, h2] at h1
theorem bval_take_pred {n : Nat} (h : 0 < n) (hn : n ≤ b.length) (h0 : b.getD (n - 1) false = false) : bval (b.take (n - 1)) = bval (b.take n) := by
  have h1 : n - 1 < b.length := by omega
  have := bval_take_succ (b := b) h1
  rw [Nat.sub_add_cancel h] at this
  rw [getD_in _ _ h1] at h0
  rw [this, h0]; simp
/-- A bit of a list, as a number. -/
def bitN (b : List Bool) (i : Nat) : Nat := (b.getD i false).toNat
theorem bitN_in {i : Nat} (h : i < b.length) : bitN b i = b[i].toNat := by unfold bitN; rw [getD_in _ _ h]
theorem bitN_out {i : Nat} (h : b.length ≤ i) : bitN b i = 0 := by unfold bitN; rw [getD_out _ _ h]; rfl
theorem bitN_le (b : List Bool) (i : Nat) : bitN b i ≤ 1 := by unfold bitN; cases b.getD i false <;> simp
theorem bval_take_bitN (b : List Bool) (i : Nat) : bval (b.take (i + 1)) = bval (b.take i) + 2 ^ i * bitN b i := by
  by_cases h : i < b.length
  · rw [bval_take_succ h, bitN_in h]
  · rw [bval_take_all (by omega), bval_take_all (by omega), bitN_out (by omega)]; simp
theorem addB_step {i c : Nat} {x : Bool} {d : Nat} (ho : o.length = i) (h : bval o + 2 ^ i * c = bval (a.take i) + bval (b.take i)) (hx : x.toNat + 2 * d = c + bitN a i + bitN b i) :
    bval (o ++ [x]) + 2 ^ (i + 1) * d = bval (a.take (i + 1)) + bval (b.take (i + 1)) := by
  rw [bval_concat, ho, bval_take_bitN, bval_take_bitN, Nat.pow_succ, Nat.mul_assoc]
  have := congrArg (2 ^ i * ·) hx
  simp only [Nat.mul_add] at this
  omega
theorem subB_step {i w d : Nat} {x : Bool} (ho : o.length = i) (h : bval o + bval (b.take i) = bval (a.take i) + 2 ^ i * w) (hx : x.toNat + bitN b i + w = bitN a i + 2 * d) :
    bval (o ++ [x]) + bval (b.take (i + 1)) = bval (a.take (i + 1)) + 2 ^ (i + 1) * d := by
  rw [bval_concat, ho, bval_take_bitN, bval_take_bitN, Nat.pow_succ, Nat.mul_assoc]
  have := congrArg (2 ^ i * ·) hx
  simp only [Nat.mul_add] at this
  omega
/-- Nothing is owed at the end of a difference that isn't below nought. -/
theorem subB_end {n : Nat} {w X Y O : Nat} (h : O + Y = X + 2 ^ n * w) (hO : O < 2 ^ n) (hle : Y ≤ X) : O = X - Y := by
  rcases Nat.eq_zero_or_pos w with h0 | h0
  · subst h0; omega
  · have : 2 ^ n ≤ 2 ^ n * w := Nat.le_mul_of_pos_right _ h0
    omega
/-- One step of the division from the top. -/
theorem divB_ge {D Q R m x : Nat} (h : D = Q * m + R) (_hR : R < m) (hge : m ≤ x + 2 * R) : x + 2 * D = (2 * Q + 1) * m + (x + 2 * R - m) := by
  rw [Nat.add_mul, Nat.mul_assoc, Nat.one_mul]; omega
theorem divB_lt {D Q R m x : Nat} (h : D = Q * m + R) : x + 2 * D = (2 * Q) * m + (x + 2 * R) := by
  rw [Nat.mul_assoc]; omega
theorem div_unique {D Q R m : Nat} (h : D = Q * m + R) (hR : R < m) : Q = D / m ∧ R = D % m := by
  subst h
  rw [Nat.mul_comm Q m, Nat.mul_add_div (by omega), Nat.div_eq_of_lt hR, Nat.mul_add_mod, Nat.mod_eq_of_lt hR]
  exact ⟨rfl, rfl⟩
/-- Comparing from the top. -/
theorem topB_lt {i : Nat} (hi : i < a.length) (hm : i < b.length) (hlm : a.length = b.length) (he : a.drop (i + 1) = b.drop (i + 1)) (h1 : a[i] = false) (h2 : b[i] = true) : bval a < bval b := by
  refine top_lt (B := 2) (bnat_dg a) i (by rw [bnat_len]; exact hi) (by rw [bnat_len]; exact hm) (by rw [bnat_len, bnat_len]; exact hlm) ?_ ?_
  · unfold bnat; rw [← List.map_drop, ← List.map_drop, he]
  · simp [bnat, h1, h2]
theorem bits_lt_len {n m : Nat} (h : (bits n).length < (bits m).length) : n < m := by
  rcases Nat.lt_or_ge n m with h1 | h1
  · exact h1
  · have := digs_len_mono (B := 2) (by decide) h1
    rw [bits_len, bits_len] at h
    omega
theorem bits_len_le {n k : Nat} (h : n < 2 ^ k) : (bits n).length ≤ k := by rw [bits_len]; exact digs_len (by decide) h
theorem limbs_len_le {n k : Nat} (h : n < 2 ^ k) : (limbs n).length ≤ k / 32 + 1 := by
  refine digs_len (by decide) (Nat.lt_of_lt_of_le h ?_)
  have e : (4294967296 : Nat) = 2 ^ 32 := by decide
  rw [e, ← Nat.pow_mul]
  exact Nat.pow_le_pow_right (by decide) (by omega)
theorem limbs_len_le' {n k : Nat} (h : n < 2 ^ k) : (limbs n).length ≤ k := by
  refine digs_len (by decide) (Nat.lt_of_lt_of_le h ?_)
  exact Nat.pow_le_pow_left (by decide) k
/-- Bits of a limb: what has been taken off it. -/
theorem ofB_step {i w w0 : Nat} {x : Bool} (h : bval o + 2 ^ i * w = w0) (ho : o.length = i) (hx : x.toNat = w % 2) : bval (o ++ [x]) + 2 ^ (i + 1) * (w / 2) = w0 := by
  rw [bval_concat, ho, hx, Nat.pow_succ, Nat.mul_assoc]
  have : 2 ^ i * (w % 2 + 2 * (w / 2)) = 2 ^ i * w := by rw [Nat.mod_add_div]
  rw [Nat.mul_add] at this
  omega
end
theorem pow32 (k : Nat) : (4294967296 : Nat) ^ k = 2 ^ (32 * k) := by
  rw [Nat.pow_mul]
theorem or_disj (s a b : Nat) (h : a < 2 ^ s) : a ||| (b * 2 ^ s) = a + b * 2 ^ s := by
  have := Nat.two_pow_add_eq_or_of_lt h b
  rw [Nat.or_comm, Nat.mul_comm b, ← this, Nat.add_comm]
theorem shl_lt {u s : Nat} (hu : u < 4294967296) (hs : s ≤ 31) : u * 2 ^ s + 2 ^ s ≤ 9223372036854775808 := by
  have h1 : 2 ^ s ≤ 2 ^ 31 := Nat.pow_le_pow_right (by decide) hs
  have h2 : (u + 1) * 2 ^ s ≤ 4294967296 * 2 ^ 31 := Nat.mul_le_mul (by omega) h1
  rw [Nat.add_mul] at h2
  omega
theorem or_shl {cc u s : Nat} (hc : cc < 2 ^ s) (hu : u < 4294967296) (hs : s ≤ 31) : Go.bits .or .u64 (cc : Int) (IntKind.u64.wrap ((u : Int) * 2 ^ s)) = ((cc + u * 2 ^ s : Nat) : Int) := by
  have h1 := shl_lt hu hs
  have h2 : (u : Int) * 2 ^ s = ((u * 2 ^ s : Nat) : Int) := by push_cast; rfl
  have h3 : IntKind.u64.wrap ((u * 2 ^ s : Nat) : Int) = ((u * 2 ^ s : Nat) : Int) := by rw [IntKind.wrap_u64]; omega
  rw [h2, h3, bits_or_u64_nat _ _ (by omega) (by omega), or_disj s cc u hc]
theorem shl_step {B : Nat} {p o : List Nat} {k s cc u : Nat} (ho : o.length = k) (hk : k < p.length) (hu : p[k] = u) (h : dval B o + B ^ k * cc = dval B (p.take k) * 2 ^ s) :
    dval B (o ++ [(cc + u * 2 ^ s) % B]) + B ^ (k + 1) * ((cc + u * 2 ^ s) / B) = dval B (p.take (k + 1)) * 2 ^ s := by
  rw [dval_concat, ho, dval_take_succ hk, hu, Nat.pow_succ, Nat.add_mul, Nat.mul_assoc (B ^ k) u]
  have := mul_mod_div (B ^ k) B (cc + u * 2 ^ s)
  simp only [Nat.mul_add] at this ⊢
  omega
theorem shl_carry {cc u s : Nat} (hc : cc < 2 ^ s) (hu : u < 4294967296) : (cc + u * 2 ^ s) / 4294967296 < 2 ^ s := by
  apply Nat.div_lt_of_lt_mul
  have : (u + 1) * 2 ^ s ≤ 4294967296 * 2 ^ s := Nat.mul_le_mul_right _ hu
  rw [Nat.add_mul] at this
  omega
/-- Limbs read off a number. -/
theorem mod_step (X B k : Nat) : X % B ^ (k + 1) = X % B ^ k + B ^ k * (X / B ^ k % B) := Nat.mod_pow_succ
/-- One limb of a number that is moved to the right. -/
theorem shr_limb {p : List Nat} (hp : Dg 4294967296 p) {k s : Nat} (hs : s ≤ 31) (hk : k < p.length) : dval 4294967296 p / 2 ^ s / 4294967296 ^ k % 4294967296 = (p[k] + p.getD (k + 1) 0 * 4294967296) / 2 ^ s % 4294967296 := by
  have h1 : dval 4294967296 p / 4294967296 ^ k = dval 4294967296 (p.drop k) := by
    rw [dval_split (B := 4294967296) (l := p) k (by omega)]
    have := dval_lt (hp.take k)
    rw [List.length_take, Nat.min_eq_left (by omega)] at this
    rw [Nat.add_mul_div_left _ _ (Nat.pow_pos (by decide)), Nat.div_eq_of_lt this, Nat.zero_add]
  rw [Nat.div_div_eq_div_mul, Nat.mul_comm, ← Nat.div_div_eq_div_mul, h1]
  have h2 : ∃ Y, dval 4294967296 (p.drop k) = p[k] + p.getD (k + 1) 0 * 4294967296 + 4294967296 * 4294967296 * Y := by
    rw [dval_drop hk]
    by_cases h : k + 1 < p.length
    · rw [dval_drop h, getD_in _ _ h]
      exact ⟨dval 4294967296 (p.drop (k + 1 + 1)), by omega⟩
    · rw [List.drop_eq_nil_of_le (by omega), getD_out _ _ (by omega)]
      exact ⟨0, by simp⟩
  obtain ⟨Y, hY⟩ := h2
  rw [hY]
  have h3 : (4294967296 * 4294967296 * Y : Nat) = 2 ^ s * (4294967296 * (2 ^ (32 - s) * Y)) := by
    have : (4294967296 : Nat) = 2 ^ s * 2 ^ (32 - s) := by rw [← Nat.pow_add, show s + (32 - s) = 32 by omega]
    have h4 : (4294967296 * 4294967296 * Y : Nat) = 4294967296 * (4294967296 * Y) := Nat.mul_assoc _ _ _
    rw [h4]
    conv => lhs; rw [this]
    rw [Nat.mul_assoc, ← Nat.mul_assoc (2 ^ (32 - s)), Nat.mul_comm (2 ^ (32 - s)), Nat.mul_assoc, ← this]
  rw [h3, Nat.add_mul_div_left _ _ (Nat.pow_pos (by decide)), Nat.add_mul_mod_self_left]
theorem shr_end {p : List Nat} (hp : Dg 4294967296 p) (s : Nat) : dval 4294967296 p / 2 ^ s % 4294967296 ^ p.length = dval 4294967296 p / 2 ^ s :=
  Nat.mod_eq_of_lt (Nat.lt_of_le_of_lt (Nat.div_le_self _ _) (dval_lt hp))
theorem mulU_step {B N i S cc u v z : Nat} {o : List Nat} (hi : i < N) (hN : N ≤ o.length) (hz : ∀ h : i < o.length, o[i] = z) (h : dval B (o.take N) + B ^ i * cc = S) :
    dval B ((o.set i ((cc + (u * v + z)) % B)).take N) + B ^ (i + 1) * ((cc + (u * v + z)) / B) = S + B ^ i * (u * v) := by
  rw [List.take_set, Nat.pow_succ]
  refine mul_step h ?_
  have := dval_set (B := B) (l := o.take N) (i := i) (y := (cc + (u * v + z)) % B) (by rw [List.length_take]; omega)
  rw [List.getElem_take, hz (by omega)] at this
  exact this
theorem mulU_inner {B k j X u v D : Nat} : X + B ^ k * (u * D) + B ^ (k + j) * (u * v) = X + B ^ k * (u * (D + B ^ j * v)) := by
  rw [Nat.mul_add u, Nat.mul_add (B ^ k), Nat.pow_add, Nat.add_assoc, Nat.mul_assoc]
  have e : B ^ j * (u * v) = u * (B ^ j * v) := by rw [← Nat.mul_assoc, Nat.mul_comm (B ^ j) u, Nat.mul_assoc]
  rw [e]
theorem mulU_outer {B k n cc u P Q : Nat} {o : List Nat} (hi : k + n < o.length) (h : dval B (o.take (k + n)) + B ^ (k + n) * cc = P * Q + B ^ k * (u * Q)) :
    dval B ((o.set (k + n) cc).take (k + 1 + n)) = (P + B ^ k * u) * Q := by
  rw [show k + 1 + n = k + n + 1 by omega, dval_take_succ (by rw [List.length_set]; exact hi), List.take_set_of_le (Nat.le_refl _), List.getElem_set_self, h, Nat.add_mul, Nat.mul_assoc]
/-! ### windows of a list of limbs -/
def win (xs : List Nat) (j i : Nat) : Nat := dval 4294967296 ((xs.drop j).take i)
theorem win_zero (xs : List Nat) (j : Nat) : win xs j 0 = 0 := by simp [win]
theorem win_succ {xs : List Nat} {j i : Nat} (h : j + i < xs.length) : win xs j (i + 1) = win xs j i + 4294967296 ^ i * xs[j + i] := by
  unfold win
  rw [dval_take_succ (by rw [List.length_drop]; omega), List.getElem_drop]
theorem win_set {xs : List Nat} {j i p y : Nat} (h : j + i ≤ p) : win (xs.set p y) j i = win xs j i := by
  unfold win
  congr 1
  apply List.ext_getElem?
  intro q
  rw [List.getElem?_take, List.getElem?_take]
  split
  · rw [List.getElem?_drop, List.getElem?_drop, List.getElem?_set_ne (by omega)]
  · rfl
theorem win_lt {xs : List Nat} (h : Dg 4294967296 xs) (j i : Nat) : win xs j i < 4294967296 ^ i := by
  have h1 := dval_lt ((h.drop j).take i)
  have h2 : 4294967296 ^ ((xs.drop j).take i).length ≤ 4294967296 ^ i := Nat.pow_le_pow_right (by decide) (List.length_take_le _ _)
  exact Nat.lt_of_lt_of_le h1 h2
theorem win_all {xs : List Nat} {j i : Nat} (h : xs.length ≤ j + i) : win xs j i = dval 4294967296 (xs.drop j) := by
  unfold win
  rw [List.take_of_length_le (by rw [List.length_drop]; omega)]
/-- Outside of a window nothing has turned. -/
def Out (xs xs' : List Nat) (j i : Nat) : Prop := xs'.length = xs.length ∧ ∀ q, (q < j ∨ j + i ≤ q) → xs'.getD q 0 = xs.getD q 0
theorem Out.refl (xs : List Nat) (j i : Nat) : Out xs xs j i := ⟨rfl, fun _ _ => rfl⟩
theorem Out.get {xs xs' : List Nat} {j i q : Nat} (h : Out xs xs' j i) (hq : q < j ∨ j + i ≤ q) (h1 : q < xs.length) : xs'[q]'(by rw [h.1]; exact h1) = xs[q] := by
  have := h.2 q hq
  rwa [getD_in _ _ (by rw [h.1]; exact h1), getD_in _ _ h1] at this
theorem Out.set {xs xs' : List Nat} {j i y : Nat} (h : Out xs xs' j i) : Out xs (xs'.set (j + i) y) j (i + 1) := by
  refine ⟨by rw [List.length_set]; exact h.1, fun q hq => ?_⟩
  rw [← h.2 q (by omega), List.getD_eq_getElem?_getD, List.getD_eq_getElem?_getD, List.getElem?_set_ne (by omega)]
theorem Out.mono {xs xs' : List Nat} {j i i' : Nat} (h : Out xs xs' j i) (hi : i ≤ i') : Out xs xs' j i' := ⟨h.1, fun q hq => h.2 q (by omega)⟩
theorem Out.tr {xs ys zs : List Nat} {j i : Nat} (h : Out xs ys j i) (k : Out ys zs j i) : Out xs zs j i := ⟨k.1.trans h.1, fun q hq => (k.2 q hq).trans (h.2 q hq)⟩
theorem Out.drop {xs xs' : List Nat} {j i p : Nat} (h : Out xs xs' j i) (hp : j + i ≤ p) : xs'.drop p = xs.drop p := by
  apply List.ext_getElem
  · rw [List.length_drop, List.length_drop, h.1]
  · intro q h1 h2
    rw [List.length_drop] at h1 h2
    rw [List.getElem_drop, List.getElem_drop]
    exact h.get (.inr (by omega)) (by omega)
theorem Out.take {xs xs' : List Nat} {j i p : Nat} (h : Out xs xs' j i) (hp : p ≤ j) : xs'.take p = xs.take p := by
  apply List.ext_getElem
  · rw [List.length_take, List.length_take, h.1]
  · intro q h1 h2
    rw [List.length_take] at h1 h2
    rw [List.getElem_take, List.getElem_take]
    exact h.get (.inl (by omega)) (by omega)
end Go.Proofs.YtfijmpmojhlnmaaGreatDoor
