/-
  Plain laws of naturals as lists of digits (limbs and bits): value, one form, cutting noughts at the end, comparing. No program in sight.
-/
import Derived.ProofKit
namespace Go.Proofs.YtfijmpmojhlnmaaGreatDoor

theorem getD_in {α : Type} (l : List α) (d : α) {i : Nat} (h : i < l.length) : l.getD i d = l[i] := by simp [List.getD, List.getElem?_eq_getElem h]
theorem getD_out {α : Type} (l : List α) (d : α) {i : Nat} (h : l.length ≤ i) : l.getD i d = d := by simp [List.getD, List.getElem?_eq_none h]
/-! ### digits to a base -/
def dval (B : Nat) : List Nat → Nat
  | [] => 0
  | x :: l => x + B * dval B l
/-- All below the base. -/
def Dg (B : Nat) (l : List Nat) : Prop := ∀ x ∈ l, x < B
/-- Without noughts at the end. -/
def cutz : List Nat → List Nat
  | [] => []
  | x :: l => match cutz l with
    | [] => if x = 0 then [] else [x]
    | y :: m => x :: y :: m
/-- In one form: no nought at the end. -/
def Nrm (l : List Nat) : Prop := l.getLast? ≠ some 0

section
variable {B : Nat} {l m : List Nat}
@[simp] theorem dval_nil : dval B [] = 0 := rfl
theorem dval_cons (x : Nat) : dval B (x :: l) = x + B * dval B l := rfl
theorem dval_append (l m : List Nat) : dval B (l ++ m) = dval B l + B ^ l.length * dval B m := by
  induction l with
  | nil => simp
  | cons x l ih =>
    simp only [List.cons_append, dval_cons, ih, List.length_cons, Nat.pow_succ, Nat.mul_add]
    rw [Nat.mul_comm (B ^ l.length) B, Nat.mul_assoc]
    omega
theorem dval_concat (l : List Nat) (x : Nat) : dval B (l ++ [x]) = dval B l + B ^ l.length * x := by
  rw [dval_append]; simp [dval_cons]
theorem dval_zeros (n : Nat) : dval B (List.replicate n 0) = 0 := by
  induction n with
  | zero => rfl
  | succ n ih => simp [List.replicate_succ, dval_cons, ih]
theorem dval_lt (h : Dg B l) : dval B l < B ^ l.length := by
  induction l with
  | nil => simp
  | cons x l ih =>
    have h1 := ih fun y hy => h y (by simp [hy])
    have h2 : x < B := h x (by simp)
    simp only [dval_cons, List.length_cons, Nat.pow_succ]
    have h3 : B * (dval B l + 1) ≤ B * B ^ l.length := Nat.mul_le_mul_left _ h1
    rw [Nat.mul_add] at h3
    rw [Nat.mul_comm (B ^ l.length) B]
    omega
theorem dval_take_succ {i : Nat} (h : i < l.length) : dval B (l.take (i + 1)) = dval B (l.take i) + B ^ i * l[i] := by
  rw [List.take_succ_eq_append_getElem h, dval_concat, List.length_take, Nat.min_eq_left (by omega)]
theorem dval_drop {i : Nat} (h : i < l.length) : dval B (l.drop i) = l[i] + B * dval B (l.drop (i + 1)) := by
  rw [List.drop_eq_getElem_cons h, dval_cons]
theorem dval_split (i : Nat) (h : i ≤ l.length) : dval B l = dval B (l.take i) + B ^ i * dval B (l.drop i) := by
  conv => lhs; rw [← List.take_append_drop i l]
  rw [dval_append, List.length_take, Nat.min_eq_left h]
theorem Dg.take (h : Dg B l) (i : Nat) : Dg B (l.take i) := fun x hx => h x (List.mem_of_mem_take hx)
theorem Dg.drop (h : Dg B l) (i : Nat) : Dg B (l.drop i) := fun x hx => h x (List.mem_of_mem_drop hx)
theorem Dg.app (h : Dg B l) (k : Dg B m) : Dg B (l ++ m) := fun x hx => by
  rcases List.mem_append.1 hx with h1 | h1
  · exact h x h1
  · exact k x h1
theorem Dg.concat (h : Dg B l) {x : Nat} (k : x < B) : Dg B (l ++ [x]) := h.app fun y hy => by simp at hy; omega
theorem Dg.get (h : Dg B l) {i : Nat} (hi : i < l.length) : l[i] < B := h _ (List.getElem_mem hi)
theorem Dg.nil : Dg B [] := fun _ h => by simp at h

/-! ### noughts at the end -/
theorem cutz_val (l : List Nat) : dval B (cutz l) = dval B l := by
  induction l with
  | nil => rfl
  | cons x l ih =>
    simp only [cutz, dval_cons]
    rw [← ih]
    cases cutz l with
    | nil => by_cases h : x = 0 <;> simp [h, dval_cons]
    | cons y m => rfl
theorem cutz_nrm (l : List Nat) : Nrm (cutz l) := by
  induction l with
  | nil => simp [cutz, Nrm]
  | cons x l ih =>
    unfold Nrm at *
    simp only [cutz]
    cases h : cutz l with
    | nil => by_cases hx : x = 0 <;> simp [hx]
    | cons y m => rw [h] at ih; simpa [List.getLast?_cons_cons] using ih
theorem cutz_concat0 (l : List Nat) : cutz (l ++ [0]) = cutz l := by
  induction l with
  | nil => rfl
  | cons x l ih => simp only [List.cons_append, cutz, ih]
theorem cutz_concat (l : List Nat) {x : Nat} (h : x ≠ 0) : cutz (l ++ [x]) = l ++ [x] := by
  induction l with
  | nil => simp [cutz, h]
  | cons y l ih =>
    simp only [List.cons_append, cutz, ih]
    cases l <;> rfl
theorem cutz_of_nrm (h : Nrm l) : cutz l = l := by
  rcases List.eq_nil_or_concat l with rfl | ⟨m, x, rfl⟩
  · rfl
  · rw [List.concat_eq_append] at h ⊢
    refine cutz_concat m fun hx => h ?_
    simp [hx]
theorem cutz_prefix (l : List Nat) : cutz l <+: l := by
  induction l with
  | nil => simp [cutz]
  | cons x l ih =>
    simp only [cutz]
    cases h : cutz l with
    | nil => by_cases hx : x = 0 <;> simp [hx]
    | cons y m => rw [h] at ih; simpa [List.cons_prefix_cons] using ih
theorem cutz_len (l : List Nat) : (cutz l).length ≤ l.length := (cutz_prefix l).length_le
theorem cutz_dg (h : Dg B l) : Dg B (cutz l) := fun x hx => h x ((cutz_prefix l).subset hx)
theorem Nrm.tail {x : Nat} (h : Nrm (x :: l)) : Nrm l := by
  unfold Nrm at *
  cases l with
  | nil => simp
  | cons y m => rwa [List.getLast?_cons_cons] at h
theorem nrm_zero (hB : 0 < B) (h : Nrm l) (h0 : dval B l = 0) : l = [] := by
  induction l with
  | nil => rfl
  | cons x l ih =>
    simp only [dval_cons] at h0
    have h1 : dval B l = 0 := by
      have : B * dval B l = 0 := by omega
      rcases Nat.mul_eq_zero.1 this with h | h
      · omega
      · exact h
    have h2 := ih h.tail h1
    subst h2
    exfalso
    apply h
    have : x = 0 := by omega
    simp [this]
/-- One number has one form. -/
theorem nrm_inj (hB : 0 < B) : ∀ {l m : List Nat}, Dg B l → Dg B m → Nrm l → Nrm m → dval B l = dval B m → l = m
  | [], m, _, _, _, h2, h => by rw [nrm_zero hB h2 h.symm]
  | x :: l, [], _, _, h1, _, h => by rw [nrm_zero hB h1 h]
  | x :: l, y :: m, d1, d2, h1, h2, h => by
    simp only [dval_cons] at h
    have hx := d1 x (by simp)
    have hy := d2 y (by simp)
    have e1 : x = y := by
      have := congrArg (· % B) h
      simp only [Nat.add_mul_mod_self_left] at this
      rwa [Nat.mod_eq_of_lt hx, Nat.mod_eq_of_lt hy] at this
    subst e1
    have e2 : dval B l = dval B m := Nat.eq_of_mul_eq_mul_left hB (by omega)
    rw [nrm_inj hB (fun z hz => d1 z (by simp [hz])) (fun z hz => d2 z (by simp [hz])) h1.tail h2.tail e2]
theorem nrm_le (_hB : 0 < B) (h : Nrm l) (h0 : 0 < l.length) : B ^ (l.length - 1) ≤ dval B l := by
  rcases List.eq_nil_or_concat l with rfl | ⟨m, x, rfl⟩
  · simp at h0
  · rw [List.concat_eq_append] at h h0 ⊢
    have hx : x ≠ 0 := fun hx => h (by simp [hx])
    rw [dval_concat]
    simp only [List.length_append, List.length_cons, List.length_nil, Nat.zero_add, Nat.add_sub_cancel]
    have := Nat.le_mul_of_pos_right (B ^ m.length) (Nat.pos_of_ne_zero hx)
    omega
/-- A number below B^k has at most k digits. -/
theorem nrm_len (hB : 1 < B) (h : Nrm l) {k : Nat} (hk : dval B l < B ^ k) : l.length ≤ k := by
  rcases Nat.lt_or_ge k l.length with h1 | h1
  · have h2 := nrm_le (by omega : 0 < B) h (by omega)
    have h3 : B ^ k ≤ B ^ (l.length - 1) := Nat.pow_le_pow_right (by omega) (by omega)
    omega
  · exact h1
/-- Two numbers in one form: of more digits is greater. -/
theorem nrm_lt_len (hB : 1 < B) (d : Dg B l) (h : Nrm m) (hl : l.length < m.length) : dval B l < dval B m := by
  have h1 := dval_lt d
  have h2 := nrm_le (by omega : 0 < B) h (by omega)
  have h3 : B ^ l.length ≤ B ^ (m.length - 1) := Nat.pow_le_pow_right (by omega) (by omega)
  omega
end

/-! ### the one form of a number -/
def digs (B n : Nat) : List Nat := if _h : n = 0 ∨ B < 2 then [] else n % B :: digs B (n / B)
termination_by n
decreasing_by exact Nat.div_lt_self (by omega) (by omega)
theorem digs_zero (B : Nat) : digs B 0 = [] := by rw [digs]; simp
theorem digs_pos {B n : Nat} (hB : 1 < B) (hn : n ≠ 0) : digs B n = n % B :: digs B (n / B) := by rw [digs, dif_neg (by omega)]
theorem digs_val {B : Nat} (hB : 1 < B) (n : Nat) : dval B (digs B n) = n := by
  induction n using Nat.strongRecOn with
  | _ n ih =>
    by_cases h : n = 0
    · subst h; rw [digs_zero]; rfl
    · rw [digs_pos hB h, dval_cons, ih _ (Nat.div_lt_self (by omega) hB)]
      exact Nat.mod_add_div n B
theorem digs_dg {B : Nat} (hB : 1 < B) (n : Nat) : Dg B (digs B n) := by
  induction n using Nat.strongRecOn with
  | _ n ih =>
    by_cases h : n = 0
    · subst h; rw [digs_zero]; exact Dg.nil
    · rw [digs_pos hB h]
      intro x hx
      rcases List.mem_cons.1 hx with rfl | h1
      · exact Nat.mod_lt _ (by omega)
      · exact ih _ (Nat.div_lt_self (by omega) hB) x h1
theorem digs_nrm {B : Nat} (hB : 1 < B) (n : Nat) : Nrm (digs B n) := by
  induction n using Nat.strongRecOn with
  | _ n ih =>
    by_cases h : n = 0
    · subst h; rw [digs_zero]; simp [Nrm]
    · rw [digs_pos hB h]
      have h1 := ih _ (Nat.div_lt_self (by omega) hB)
      unfold Nrm at *
      cases e : digs B (n / B) with
      | nil =>
        have h2 := digs_val hB (n / B)
        rw [e] at h2
        simp only [dval_nil] at h2
        have h3 := Nat.mod_add_div n B
        rw [← h2] at h3
        simp
        omega
      | cons y m => rw [e] at h1; simpa [List.getLast?_cons_cons] using h1
theorem digs_of {B : Nat} (hB : 1 < B) {l : List Nat} (d : Dg B l) (h : Nrm l) : digs B (dval B l) = l :=
  nrm_inj (by omega) (digs_dg hB _) d (digs_nrm hB _) h (digs_val hB _)
theorem cutz_digs {B : Nat} (hB : 1 < B) {l : List Nat} (d : Dg B l) : cutz l = digs B (dval B l) := by
  rw [← digs_of hB (cutz_dg d) (cutz_nrm l), cutz_val]
theorem digs_len {B n k : Nat} (hB : 1 < B) (h : n < B ^ k) : (digs B n).length ≤ k := nrm_len hB (digs_nrm hB n) (by rwa [digs_val hB])
theorem digs_len_lt {B n k : Nat} (hB : 1 < B) (h : k < (digs B n).length) : B ^ k ≤ n := by
  rcases Nat.lt_or_ge n (B ^ k) with h1 | h1
  · have := digs_len hB h1; omega
  · exact h1
theorem digs_eq_nil {B n : Nat} (hB : 1 < B) : digs B n = [] ↔ n = 0 := by
  constructor
  · intro h; rw [← digs_val hB n, h]; rfl
  · rintro rfl; exact digs_zero B
theorem digs_len_mono {B n m : Nat} (hB : 1 < B) (h : n ≤ m) : (digs B n).length ≤ (digs B m).length := by
  refine digs_len hB (Nat.lt_of_le_of_lt h ?_)
  have := dval_lt (digs_dg hB m)
  rwa [digs_val hB] at this
theorem digs_inj {B n m : Nat} (hB : 1 < B) (h : digs B n = digs B m) : n = m := by rw [← digs_val hB n, h, digs_val hB]

/-! ### from the top -/
theorem top_lt {B : Nat} {l m : List Nat} (hl : Dg B l) (i : Nat) (hi : i < l.length) (hm : i < m.length) (hlm : l.length = m.length) (he : l.drop (i + 1) = m.drop (i + 1)) (h : l[i] < m[i]) : dval B l < dval B m := by
  rw [dval_split (B := B) (l := l) i (by omega), dval_split (B := B) (l := m) i (by omega), dval_drop hi, dval_drop hm, he]
  have h1 := dval_lt (hl.take i)
  rw [List.length_take, Nat.min_eq_left (by omega)] at h1
  have h2 : B ^ i * (l[i] + 1) ≤ B ^ i * m[i] := Nat.mul_le_mul_left _ h
  rw [Nat.mul_add] at h2 ⊢
  rw [Nat.mul_add]
  omega
/-- -1, 0, 1 by order. -/
def cmpN (a b : Nat) : Int := if a < b then -1 else if b < a then 1 else 0
theorem cmpN_lt {a b : Nat} (h : a < b) : cmpN a b = -1 := by unfold cmpN; rw [if_pos h]
theorem cmpN_gt {a b : Nat} (h : b < a) : cmpN a b = 1 := by unfold cmpN; rw [if_neg (by omega), if_pos h]
theorem cmpN_eq (a : Nat) : cmpN a a = 0 := by unfold cmpN; rw [if_neg (by omega), if_neg (by omega)]

/-! ### bits -/
def bnat (b : List Bool) : List Nat := b.map Bool.toNat
def bval (b : List Bool) : Nat := dval 2 (bnat b)
def bits (n : Nat) : List Bool := (digs 2 n).map (· == 1)
def NrmB (b : List Bool) : Prop := b.getLast? ≠ some false
theorem bnat_dg (b : List Bool) : Dg 2 (bnat b) := by
  intro x hx
  obtain ⟨c, _, rfl⟩ := List.mem_map.1 hx
  cases c <;> decide
theorem bnat_len (b : List Bool) : (bnat b).length = b.length := by simp [bnat]
theorem bnat_bits (n : Nat) : bnat (bits n) = digs 2 n := by
  unfold bnat bits
  rw [List.map_map]
  have h := digs_dg (B := 2) (by decide) n
  generalize digs 2 n = l at h
  induction l with
  | nil => rfl
  | cons x l ih =>
    rw [List.map_cons, ih fun y hy => h y (by simp [hy])]
    have := h x (by simp)
    rcases (by omega : x = 0 ∨ x = 1) with rfl | rfl <;> rfl
theorem bnat_inj {a b : List Bool} (h : bnat a = bnat b) : a = b := by
  unfold bnat at h
  exact List.map_inj_right (fun x y hxy => by cases x <;> cases y <;> simp_all) |>.1 h
theorem nrm_bnat {b : List Bool} (h : NrmB b) : Nrm (bnat b) := by
  unfold Nrm NrmB bnat at *
  rw [List.getLast?_map]
  intro h1
  obtain ⟨c, hc, h2⟩ := Option.map_eq_some_iff.1 h1
  cases c with
  | false => exact h hc
  | true => simp at h2
theorem bits_nrm (n : Nat) : NrmB (bits n) := by
  have h := digs_nrm (B := 2) (by decide) n
  intro h1
  apply h
  rw [← bnat_bits, bnat, List.getLast?_map, h1]
  rfl
theorem bits_val (n : Nat) : bval (bits n) = n := by unfold bval; rw [bnat_bits, digs_val (by decide)]
theorem bits_of {b : List Bool} (h : NrmB b) : bits (bval b) = b := by
  apply bnat_inj
  rw [bnat_bits]
  exact digs_of (by decide) (bnat_dg b) (nrm_bnat h)
theorem bits_len (n : Nat) : (bits n).length = (digs 2 n).length := by simp [bits]
theorem bits_eq_nil {n : Nat} : bits n = [] ↔ n = 0 := by simp [bits, digs_eq_nil]
theorem bits_inj {n m : Nat} (h : bits n = bits m) : n = m := by rw [← bits_val n, h, bits_val]
theorem bval_lt (b : List Bool) : bval b < 2 ^ b.length := by
  have := dval_lt (bnat_dg b)
  rwa [bnat_len] at this
theorem bval_concat (l : List Bool) (x : Bool) : bval (l ++ [x]) = bval l + 2 ^ l.length * x.toNat := by
  unfold bval bnat
  rw [List.map_append, List.map_cons, List.map_nil, dval_concat, List.length_map]
theorem bval_cons (x : Bool) (l : List Bool) : bval (x :: l) = x.toNat + 2 * bval l := rfl
theorem bval_append (l m : List Bool) : bval (l ++ m) = bval l + 2 ^ l.length * bval m := by
  unfold bval bnat
  rw [List.map_append, dval_append, List.length_map]
end Go.Proofs.YtfijmpmojhlnmaaGreatDoor
