/-
  Package atom by plain data.
-/
import Derived.Test.YtfijmpmojhlnmaaAtmA
namespace Go.Proofs.Ytfijmpmojhlnmaa
open Go.RowKit
attribute [local irreducible] AC Do St
theorem absR_cases (c : Rat) : absR c = c ∨ absR c = -c := by
  unfold absR
  split
  · exact .inr rfl
  · exact .inl rfl
theorem absR_nn (c : Rat) : 0 ≤ absR c := by
  unfold absR
  split
  · rename_i h
    have : ¬ 0 ≤ c := fun h2 => absurd (Rat.num_nonneg.2 h2) (by omega)
    grind
  · rename_i h
    exact Rat.num_nonneg.1 (by omega)
theorem absR_ne {c : Rat} (h : c ≠ 0) : absR c ≠ 0 := by
  rcases absR_cases c with h1 | h1 <;> rw [h1] <;> grind
theorem absR_eq {c : Rat} (h : 0 ≤ c) : absR c = c := by
  rcases absR_cases c with h1 | h1
  · exact h1
  · have := absR_nn c; grind
theorem byQ_ne {op : Int} {c : Rat} (h : c ≠ 0) : byQ op c ≠ 0 := by
  unfold byQ
  split
  · exact fun h2 => h (by have := Rat.inv_inv c; rw [h2] at this; simpa using this.symm)
  · exact fun h2 => absR_ne h (by have := Rat.inv_inv (absR c); rw [h2] at this; simpa using this.symm)
theorem byQ_pos {op : Int} {c : Rat} (ho : op ≠ 3) (h : c ≠ 0) : 0 < byQ op c := by
  unfold byQ
  rw [if_neg ho]
  have h1 := absR_nn c
  have h2 := absR_ne h
  exact Rat.inv_pos.2 (by grind)
theorem byQ_again {op : Int} {c : Rat} (h : c ≠ 0) : byQ op (byQ op c * c) = 1 := by
  unfold byQ
  by_cases ho : op = 3
  · rw [if_pos ho, if_pos ho, Rat.inv_mul_cancel _ h]
    exact Rat.inv_eq_of_mul_eq_one (by grind)
  · rw [if_neg ho, if_neg ho]
    have h1 := absR_ne h
    have h2 : absR ((absR c)⁻¹ * c) = 1 := by
      have hi := Rat.inv_mul_cancel _ h1
      rcases absR_cases c with h3 | h3
      · rw [h3, Rat.inv_mul_cancel _ h]; exact absR_eq (by decide)
      · have : (absR c)⁻¹ * c = -1 := by
          have : c = - absR c := by rw [h3]; grind
          rw [this]
          grind
        rw [this]
        decide
    rw [h2]
    exact Rat.inv_eq_of_mul_eq_one (by grind)
/-- The first coefficient of the form is the one that the document leads with. -/
theorem lead_can (e : Ex) : (leadQ e = none ∧ canL e.t = []) ∨ ∃ v c l, leadQ e = some (v, c) ∧ canL e.t = (v, c) :: l := by
  obtain ⟨hf, hc, _⟩ := canL_spec e.t
  cases hl : leadQ e with
  | none => exact .inl ⟨rfl, canL_eq ⟨.nil, by simp⟩ fun v => (leadQ_none hl v).symm⟩
  | some x =>
    obtain ⟨v, c⟩ := x
    obtain ⟨h1, h2, h3⟩ := leadQ_ne hl
    right
    cases hcan : canL e.t with
    | nil =>
      have := hc v
      rw [hcan, coef] at this
      exact absurd (h2.trans this.symm) h1
    | cons t l =>
      obtain ⟨u, d⟩ := t
      rw [hcan] at hf hc
      have hd : d ≠ 0 := hf.2 (u, d) (by simp)
      have hu := hc u
      rw [hf.head] at hu
      rcases Int.lt_trichotomy u v with h4 | h4 | h4
      · rw [h3 u h4] at hu; exact absurd hu hd
      · subst h4
        have : d = c := by rw [h2]; exact hu
        exact ⟨u, c, l, rfl, by rw [this]⟩
      · have := hc v
        rw [hf.below h4] at this
        exact absurd (h2.trans this.symm) h1
theorem scale_form {r : Rat} (hr : r ≠ 0) {l : List Tm} (h : Form l) : Form (l.map (mulT r)) := by
  refine ⟨List.pairwise_map.2 h.1, fun t ht => ?_⟩
  obtain ⟨u, hu, rfl⟩ := List.mem_map.1 ht
  have h1 := h.2 u hu
  intro h2
  have : r * u.2 = 0 := h2
  rcases Rat.mul_eq_zero.1 this with h3 | h3
  · exact hr h3
  · exact h1 h3
theorem canL_form {l : List Tm} (h : Form l) : canL l = l := canL_eq h fun _ => rfl
/-- The one form of a constraint with variables. -/
noncomputable def canA (a : At) (c : Rat) : At := ⟨scaleE (byQ a.op c) ⟨canL a.e.t, a.e.c⟩, a.op⟩
theorem canA_t (a : At) {c : Rat} (hc : c ≠ 0) : (canA a c).e.t = (canL a.e.t).map (mulT (byQ a.op c)) := canL_form (scale_form (byQ_ne hc) (canL_spec a.e.t).1)
theorem canA_c (a : At) (c : Rat) : (canA a c).e.c = byQ a.op c * a.e.c := rfl
theorem canA_coef (a : At) {c : Rat} (hc : c ≠ 0) (v : Int) : coef (canA a c).e.t v = byQ a.op c * coef a.e.t v := by
  rw [canA_t a hc, ← (canL_spec a.e.t).2.1]
  exact coef_map _ _ _
theorem canA_means (a : At) {c : Rat} (hc : c ≠ 0) : Means (canA a c).e (byQ a.op c) a.e 0 ⟨[], 0⟩ := by
  refine ⟨?_, ?_, fun v => ?_⟩
  · rw [canA_t a hc]; exact scale_form (byQ_ne hc) (canL_spec a.e.t).1
  · rw [canA_c]; simp only; grind
  · rw [canA_coef a hc]; simp only [coef]; grind
theorem canA_again (a : At) {v : Int} {c : Rat} {l : List Tm} (hc : c ≠ 0) (h : canL a.e.t = (v, c) :: l) : (canA a c).e.t = (v, byQ a.op c * c) :: l.map (mulT (byQ a.op c)) ∧ canL (canA a c).e.t = (canA a c).e.t ∧ canA (canA a c) (byQ a.op c * c) = canA a c := by
  have hf : Form (canA a c).e.t := (canA_means a hc).1
  have h1 : (canA a c).e.t = (v, byQ a.op c * c) :: l.map (mulT (byQ a.op c)) := by rw [canA_t a hc, h]; rfl
  have h2 := canL_form hf
  refine ⟨h1, h2, ?_⟩
  have hop : (canA a c).op = a.op := rfl
  have e1 : canA (canA a c) (byQ a.op c * c) = ⟨scaleE 1 (canA a c).e, a.op⟩ := by
    generalize canA a c = b at h2 hop
    unfold canA
    rw [hop, byQ_again hc, h2]
  have e2 : scaleE 1 (canA a c).e = (canA a c).e := by
    unfold scaleE
    have : (canA a c).e.t.map (mulT 1) = (canA a c).e.t := by
      refine (List.map_congr_left fun t _ => ?_).trans (List.map_id _)
      unfold mulT
      rw [Rat.one_mul]
      rfl
    rw [this, h2, Rat.one_mul]
  rw [e1, e2]
  rfl
/-- Two equal expressions have nothing between them. -/
theorem sub_self (e : Ex) : (subE e e).t.length = 0 ∧ (subE e e).c = 0 := by
  unfold subE addE scaleE
  constructor
  · have : canL (e.t ++ canL (e.t.map (mulT (-1)))) = [] := canL_eq ⟨.nil, by simp⟩ fun v => by
      rw [coef_append, (canL_spec _).2.1]
      have := coef_map e.t (-1) v
      have h2 : coef (e.t.map (mulT (-1))) v = -1 * coef e.t v := this
      rw [h2]
      simp only [coef]
      grind
    simp only
    rw [this]; rfl
  · simp only
    grind
set_option maxRecDepth 100000 in
set_option maxHeartbeats 4000000 in
theorem canNum (a : At) (k : Nat) (ho : okOp a.op) (ht : ∀ t ∈ a.e.t, Bd k t.2) (hk : (a.e.t.length + 2) * (k + 1) ≤ 50000000) (h0 : canL a.e.t = []) : Fn Try.prog 6 [.g (enA a)] [.g zeroA, .d (.v (.int .i64 (if sayB a.op a.e.c then 1 else 2))), .d (.v (.int .i64 0))] := by
  have hl0 : (canL a.e.t).length = 0 := by rw [h0]; rfl
  refine Fn.of Try.func6 rfl (by kernel_rfl) Try.ntmps6 Try.results6 rfl fun w0 S0 => ?_
  refine wk ?_
  ((try (first | intro K ms hms hK | intro K hK)); (first | apply Chain.go | apply Chain.goD); exact rfl; exact rfl; refine Loc.callD (checkA a ho) rfl ?_; (repeat (first | exact trivial | refine ⟨.inl rfl, ?_⟩ | refine ⟨.inr rfl, ?_⟩)))
  refine wk ?_
  ((try (first | intro K ms hms hK | intro K hK)); (first | apply Chain.go | apply Chain.goD); exact rfl; exact rfl; refine Loc.callG (canF a.e k ht hk) rfl ?_; (repeat (first | exact trivial | refine ⟨.inl rfl, ?_⟩ | refine ⟨.inr rfl, ?_⟩)))
  refine wk ?_
  ((try (first | intro K ms hms hK | intro K hK)); (first | refine Chain.eql rfl rfl rfl rfl rfl (fun h1 => ?_) (fun h1 => ?_) | refine Chain.eqlD rfl rfl rfl rfl rfl (fun h1 => ?_) (fun h1 => ?_)))
  · refine wk ?_
    ((try (first | intro K ms hms hK | intro K hK)); (first | apply Chain.go | apply Chain.goD); exact rfl; exact rfl; refine Loc.callD (saysR a.op a.e.c ho) rfl ?_; (repeat (first | exact trivial | refine ⟨.inl rfl, ?_⟩ | refine ⟨.inr rfl, ?_⟩)))
    cases hs : sayB a.op a.e.c with
    | true =>
      refine wk ?_
      simp only [hs, if_true]
      exact ⟨.cn rfl rfl inferInstance rfl ⟨.inr rfl, .inl rfl, .inr rfl, .inr rfl, .inl rfl, trivial⟩, .d rfl (.inl rfl), .d rfl (.inl rfl), trivial⟩
    | false =>
      refine wk ?_
      simp only [hs, if_false, Bool.false_eq_true]
      exact ⟨.cn rfl rfl inferInstance rfl ⟨.inr rfl, .inl rfl, .inr rfl, .inr rfl, .inl rfl, trivial⟩, .d rfl (.inl rfl), .d rfl (.inl rfl), trivial⟩
  · dsimp only at h1
    exfalso; omega
theorem Bd.abs {k : Nat} {c : Rat} (h : Bd k c) : Bd k (absR c) := by
  obtain ⟨h1, h2, _⟩ := absR_num c
  exact ⟨by rw [h1]; exact h.1, by rw [h2]; exact h.2⟩
set_option maxRecDepth 100000 in
set_option maxHeartbeats 4000000 in
theorem canOpen (a : At) (k B : Nat) (ho : okOp a.op) (hc : Bd k a.e.c) (ht : ∀ t ∈ a.e.t, Bd k t.2) (hB : (a.e.t.length + 1) * (k + 1) ≤ B) (hk : (a.e.t.length + 2) * (B + B + 1) ≤ 50000000) {v : Int} {c : Rat} {l : List Tm} (h0 : canL a.e.t = (v, c) :: l) (hne : c ≠ 0) : Fn Try.prog 6 [.g (enA a)] [.g (enA (canA a c)), .d (.v (.int .i64 0)), .d (.v (.int .i64 0))] := by
  have hk0 : k + 1 ≤ B := Nat.le_trans (Nat.le_mul_of_pos_left _ (by omega)) hB
  have hk1 : (a.e.t.length + 2) * (k + 1) ≤ 50000000 := Nat.le_trans (Nat.mul_le_mul_left _ (by omega)) hk
  have hbd : ∀ t ∈ canL a.e.t, Bd B t.2 := fun t h => (canL_bd ht t h).mono hB
  have hcK : Bd B c := hbd (v, c) (by rw [h0]; simp)
  have hK0 : B ≤ 50000000 := Nat.le_trans (Nat.le_trans (by omega) (Nat.le_mul_of_pos_left _ (by omega))) hk
  have hln : 0 < (canL a.e.t).length := by rw [h0]; simp
  have hk2 : ((canL a.e.t).length + 2) * (B + B + 1) ≤ 50000000 := Nat.le_trans (Nat.mul_le_mul_right _ (by have := (canL_spec a.e.t).2.2; omega)) hk
  have hget : (canL a.e.t)[0]? = some (v, c) := by rw [h0]; rfl
  have hres : ∀ q, byQ a.op c = q → canA a c = ⟨scaleE q ⟨canL a.e.t, a.e.c⟩, a.op⟩ := fun q hq => by unfold canA; rw [hq]
  refine Fn.of Try.func6 rfl (by kernel_rfl) Try.ntmps6 Try.results6 rfl fun w0 S0 => ?_
  refine wk ?_
  ((try (first | intro K ms hms hK | intro K hK)); (first | apply Chain.go | apply Chain.goD); exact rfl; exact rfl; refine Loc.callD (checkA a ho) rfl ?_; (repeat (first | exact trivial | refine ⟨.inl rfl, ?_⟩ | refine ⟨.inr rfl, ?_⟩)))
  refine wk ?_
  ((try (first | intro K ms hms hK | intro K hK)); (first | apply Chain.go | apply Chain.goD); exact rfl; exact rfl; refine Loc.callG (canF a.e k ht hk1) rfl ?_; (repeat (first | exact trivial | refine ⟨.inl rfl, ?_⟩ | refine ⟨.inr rfl, ?_⟩)))
  refine wk ?_
  ((try (first | intro K ms hms hK | intro K hK)); (first | refine Chain.eql rfl rfl rfl rfl rfl (fun h1 => ?_) (fun h1 => ?_) | refine Chain.eqlD rfl rfl rfl rfl rfl (fun h1 => ?_) (fun h1 => ?_)))
  · dsimp only at h1
    exfalso; omega
  · refine wk ?_
    ((try (first | intro K ms hms hK | intro K hK)); (first | refine Chain.neq rfl rfl rfl rfl rfl (fun h2 => ?_) (fun h2 => ?_) | refine Chain.neqD rfl rfl rfl rfl rfl (fun h2 => ?_) (fun h2 => ?_)))
    · have hb : byQ a.op c = (absR c)⁻¹ := by unfold byQ; rw [if_neg h2]
      refine wk ?_
      ((try (first | intro K ms hms hK | intro K hK)); (first | apply Chain.go | apply Chain.goD); exact rfl; exact rfl; refine Loc.callG (ratAbs c) rfl ?_; (repeat (first | exact trivial | refine ⟨.inl rfl, ?_⟩ | refine ⟨.inr rfl, ?_⟩)))
      refine wk ?_
      ((try (first | intro K ms hms hK | intro K hK)); (first | apply Chain.go | apply Chain.goD); exact rfl; exact rfl; refine Loc.callT (ratInv hcK.abs (by omega) (absR_ne hne)) rfl ?_; (repeat (first | exact trivial | refine ⟨.inl rfl, ?_⟩ | refine ⟨.inr rfl, ?_⟩)))
      refine wk ?_
      ((try (first | intro K ms hms hK | intro K hK)); (first | apply Chain.go | apply Chain.goD); exact rfl; exact rfl; refine Loc.callG (scaleF (absR c)⁻¹ ⟨canL a.e.t, a.e.c⟩ B B (hcK.abs.inv (absR_ne hne)) hbd (hc.mono (by omega)) hk2) rfl ?_; (repeat (first | exact trivial | refine ⟨.inl rfl, ?_⟩ | refine ⟨.inr rfl, ?_⟩)))
      refine wk ?_
      rw [hres _ hb]
      exact ⟨.cn rfl rfl inferInstance rfl ⟨.inl rfl, .inl rfl, .inl rfl, .inl rfl, .inl rfl, trivial⟩, .d rfl (.inl rfl), .d rfl (.inl rfl), trivial⟩
    · have hb : byQ a.op c = c⁻¹ := by unfold byQ; rw [if_pos (Classical.byContradiction h2)]
      refine wk ?_
      ((try (first | intro K ms hms hK | intro K hK)); (first | apply Chain.go | apply Chain.goD); exact rfl; exact rfl; refine Loc.callT (ratInv hcK (by omega) hne) rfl ?_; (repeat (first | exact trivial | refine ⟨.inl rfl, ?_⟩ | refine ⟨.inr rfl, ?_⟩)))
      refine wk ?_
      ((try (first | intro K ms hms hK | intro K hK)); (first | apply Chain.go | apply Chain.goD); exact rfl; exact rfl; refine Loc.callG (scaleF c⁻¹ ⟨canL a.e.t, a.e.c⟩ B B (hcK.inv hne) hbd (hc.mono (by omega)) hk2) rfl ?_; (repeat (first | exact trivial | refine ⟨.inl rfl, ?_⟩ | refine ⟨.inr rfl, ?_⟩)))
      refine wk ?_
      rw [hres _ hb]
      exact ⟨.cn rfl rfl inferInstance rfl ⟨.inl rfl, .inl rfl, .inl rfl, .inl rfl, .inl rfl, trivial⟩, .d rfl (.inl rfl), .d rfl (.inl rfl), trivial⟩
end Go.Proofs.Ytfijmpmojhlnmaa
