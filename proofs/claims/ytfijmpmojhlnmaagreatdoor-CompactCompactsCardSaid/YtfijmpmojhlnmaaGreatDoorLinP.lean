/-
  Plain laws of linear expressions: coefficients, one form, values at a point. No program in sight.
-/
import Derived.Test.YtfijmpmojhlnmaaGreatDoorRatP
namespace Go.Proofs.YtfijmpmojhlnmaaGreatDoor
abbrev Tm := Int × Rat
/-- What stands at a variable. -/
def coef : List Tm → Int → Rat
  | [], _ => 0
  | t :: l, v => (if t.1 = v then t.2 else 0) + coef l v
theorem coef_append (l m : List Tm) (v : Int) : coef (l ++ m) v = coef l v + coef m v := by
  induction l with
  | nil => simp only [List.nil_append, coef]; grind
  | cons t l ih => simp only [List.cons_append, coef, ih, Rat.add_assoc]
theorem coef_perm {l m : List Tm} (h : l.Perm m) (v : Int) : coef l v = coef m v := by
  induction h with
  | nil => rfl
  | cons x _ ih => simp only [coef, ih]
  | swap x y l => simp only [coef]; grind
  | trans _ _ h1 h2 => rw [h1, h2]
theorem coef_none {l : List Tm} {v : Int} (h : ∀ t ∈ l, t.1 ≠ v) : coef l v = 0 := by
  induction l with
  | nil => rfl
  | cons t l ih => rw [coef, if_neg (h t (by simp)), ih fun x hx => h x (by simp [hx])]; grind
theorem coef_map (l : List Tm) (r : Rat) (v : Int) : coef (l.map fun t => (t.1, r * t.2)) v = r * coef l v := by
  induction l with
  | nil => simp [coef]
  | cons t l ih => simp only [List.map_cons, coef, ih]; split <;> grind
/-- In form: variables rising, no coefficient 0. -/
def Form (l : List Tm) : Prop := l.Pairwise (fun a b => a.1 < b.1) ∧ ∀ t ∈ l, t.2 ≠ 0
theorem Form.tail {t : Tm} {l : List Tm} (h : Form (t :: l)) : Form l := ⟨(List.pairwise_cons.1 h.1).2, fun x hx => h.2 x (by simp [hx])⟩
theorem Form.head {t : Tm} {l : List Tm} (h : Form (t :: l)) : coef (t :: l) t.1 = t.2 := by
  rw [coef, if_pos rfl, coef_none fun x hx => ?_]
  · grind
  · have := (List.pairwise_cons.1 h.1).1 x hx
    omega
theorem Form.below {t : Tm} {l : List Tm} (h : Form (t :: l)) {v : Int} (hv : v < t.1) : coef (t :: l) v = 0 :=
  coef_none fun x hx => by
    rcases List.mem_cons.1 hx with rfl | h1
    · omega
    · have := (List.pairwise_cons.1 h.1).1 x h1; omega
theorem form_inj : ∀ {l m : List Tm}, Form l → Form m → (∀ v, coef l v = coef m v) → l = m
  | [], [], _, _, _ => rfl
  | [], t :: m, _, h2, h => by
    have := h t.1
    rw [h2.head] at this
    exact absurd this.symm (h2.2 t (by simp))
  | t :: l, [], h1, _, h => by
    have := h t.1
    rw [h1.head] at this
    exact absurd this (h1.2 t (by simp))
  | t :: l, u :: m, h1, h2, h => by
    have e1 : t.1 = u.1 := by
      rcases Int.lt_trichotomy t.1 u.1 with hlt | he | hgt
      · have := h t.1
        rw [h1.head, h2.below hlt] at this
        exact absurd this (h1.2 t (by simp))
      · exact he
      · have := h u.1
        rw [h2.head, h1.below hgt] at this
        exact absurd this.symm (h2.2 u (by simp))
    have e2 : t.2 = u.2 := by
      have := h t.1
      rw [h1.head, e1, h2.head] at this
      exact this
    have e3 : t = u := Prod.ext e1 e2
    subst e3
    rw [form_inj h1.tail h2.tail fun v => ?_]
    have := h v
    simp only [coef] at this
    grind
theorem coef_ne_mem {l : List Tm} {v : Int} (h : coef l v ≠ 0) : ∃ t ∈ l, t.1 = v := by
  induction l with
  | nil => exact absurd rfl h
  | cons t l ih =>
    by_cases hv : t.1 = v
    · exact ⟨t, by simp, hv⟩
    · rw [coef, if_neg hv] at h
      obtain ⟨x, hx, he⟩ := ih (fun e => h (by rw [e]; grind))
      exact ⟨x, by simp [hx], he⟩

/-! ### values at a point -/
def valAt (p : List Rat) (v : Int) : Rat := if 0 ≤ v then p.getD v.toNat 0 else 0
def evalT (p : List Rat) : List Tm → Rat
  | [] => 0
  | t :: l => t.2 * valAt p t.1 + evalT p l
def sumTo : Nat → (Nat → Rat) → Rat
  | 0, _ => 0
  | n + 1, f => sumTo n f + f n
theorem sumTo_add (n : Nat) (f g : Nat → Rat) : sumTo n (fun i => f i + g i) = sumTo n f + sumTo n g := by
  induction n with
  | zero => simp only [sumTo]; grind
  | succ n ih => simp only [sumTo, ih]; grind
theorem sumTo_congr {n : Nat} {f g : Nat → Rat} (h : ∀ i, i < n → f i = g i) : sumTo n f = sumTo n g := by
  induction n with
  | zero => rfl
  | succ n ih => simp only [sumTo]; rw [ih fun i hi => h i (by omega), h n (by omega)]
theorem sumTo_zero {n : Nat} {f : Nat → Rat} (h : ∀ i, i < n → f i = 0) : sumTo n f = 0 := by
  induction n with
  | zero => rfl
  | succ n ih => simp only [sumTo]; rw [ih fun i hi => h i (by omega), h n (by omega)]; grind
theorem sumTo_one {n k : Nat} (hk : k < n) (x : Rat) : sumTo n (fun i => if i = k then x else 0) = x := by
  induction n with
  | zero => omega
  | succ n ih =>
    simp only [sumTo]
    by_cases h : k = n
    · subst h
      rw [sumTo_zero fun i hi => if_neg (by omega), if_pos rfl]; grind
    · rw [ih (by omega), if_neg (by omega)]; grind
theorem eval_coef (p : List Rat) (l : List Tm) : evalT p l = sumTo p.length (fun i => coef l (i : Int) * p.getD i 0) := by
  induction l with
  | nil => rw [sumTo_zero fun i _ => by simp [coef]]; rfl
  | cons t l ih =>
    rw [evalT, ih]
    have e : (fun i : Nat => coef (t :: l) (i : Int) * p.getD i 0) = fun i : Nat => (if t.1 = (i : Int) then t.2 else 0) * p.getD i 0 + coef l (i : Int) * p.getD i 0 := by
      funext i; simp only [coef]; grind
    rw [e, sumTo_add]
    congr 1
    unfold valAt
    by_cases h0 : 0 ≤ t.1
    · rw [if_pos h0]
      by_cases h1 : t.1.toNat < p.length
      · rw [← sumTo_one h1 (t.2 * p.getD t.1.toNat 0)]
        refine sumTo_congr fun i _ => ?_
        by_cases he : i = t.1.toNat
        · rw [if_pos he, if_pos (by omega), he]
        · rw [if_neg he, if_neg (by omega)]; simp
      · rw [getD_out _ _ (by omega), sumTo_zero fun i hi => ?_]
        · simp
        · rw [if_neg (by omega)]; simp
    · rw [if_neg h0, sumTo_zero fun i hi => ?_]
      · simp
      · rw [if_neg (by omega)]; simp
theorem eval_same (p : List Rat) {l m : List Tm} (h : ∀ v, coef l v = coef m v) : evalT p l = evalT p m := by
  rw [eval_coef, eval_coef]
  exact sumTo_congr fun i _ => by rw [h]
theorem eval_scale (p : List Rat) {l m : List Tm} {r : Rat} (h : ∀ v, coef l v = r * coef m v) : evalT p l = r * evalT p m := by
  rw [eval_same p (m := m.map fun t => (t.1, r * t.2)) fun v => by rw [h, coef_map]]
  clear h
  induction m with
  | nil => simp [evalT]
  | cons t m ih => simp only [List.map_cons, evalT, ih]; grind
end Go.Proofs.YtfijmpmojhlnmaaGreatDoor
