/-
  attestref08 by plain data: coefficients, variables, forms, sums, values.
-/
import Derived.Test.YtfijmpmojhlnmaaLawP
namespace Go.Proofs.Ytfijmpmojhlnmaa
open Go.RowKit
attribute [local irreducible] AC Do St
theorem coef_take {l : List Tm} {i : Nat} (hi : i < l.length) (v : Int) : coef (l.take (i + 1)) v = coef (l.take i) v + (if l[i].1 = v then l[i].2 else 0) := by
  rw [List.take_succ_eq_append_getElem hi, coef_append]
  simp only [coef]
  grind
theorem coef_bd {k : Nat} {l : List Tm} (h : ∀ t ∈ l, Bd k t.2) (v : Int) : ∀ i, i ≤ l.length → Bd ((i + 1) * (k + 1)) (coef (l.take i) v) := by
  intro i
  induction i with
  | zero => intro _; simp only [List.take_zero, coef]; exact Bd.zero (by omega)
  | succ i ih =>
    intro hi
    have h1 := ih (by omega)
    rw [coef_take (by omega)]
    have e : (i + 1 + 1) * (k + 1) = (i + 1) * (k + 1) + k + 1 := by rw [Nat.add_mul (i + 1) 1]; omega
    rw [e]
    split
    · exact h1.add (h _ (List.getElem_mem _))
    · have : coef (l.take i) v + 0 = coef (l.take i) v := by grind
      rw [this]
      exact h1.mono (by omega)
theorem sgnR_zero {q : Rat} : sgnR q = 0 ↔ q = 0 := by
  unfold sgnR
  constructor
  · intro h
    split at h
    · omega
    · split at h
      · rename_i h2; exact Rat.num_eq_zero.1 h2
      · omega
  · intro h
    subst h
    rfl
set_option maxRecDepth 100000 in
set_option maxHeartbeats 1000000 in
theorem coefQ (e : Ex) (v : Int) (k : Nat) (ht : ∀ t ∈ e.t, Bd k t.2) (hk : (e.t.length + 2) * (k + 1) ≤ 50000000) : Fn Try.prog 40 [.g (enEQ e), .d (.v (.int .i64 v))] [.g (enQ (coef e.t v))] := by
  have hbd := coef_bd ht v
  have hlen : e.t.length ≤ 50000000 := Nat.le_trans (Nat.le_trans (by omega) (Nat.le_mul_of_pos_right (e.t.length + 2) (by omega : 0 < k + 1))) hk
  refine Fn.of Try.func40 rfl (by kernel_rfl) Try.ntmps40 Try.results40 rfl fun w0 S0 => ?_
  refine wk ?_
  (first | intro K ms hms hK | intro K hK)
  ((first | apply Chain.go | apply Chain.goD); exact rfl; exact rfl; refine Loc.callG (qInt 0 (by omega) (by omega)) rfl ?_; (repeat (first | exact trivial | refine ⟨.inl rfl, ?_⟩ | refine ⟨.inr rfl, ?_⟩)))
  refine wk ?_
  refine AC.loop (X := Nat) (fun i => ⟨[(1, .d (.v (.int .i64 v))), (4, .p 4 0), (5, .p 5 0), (10, .d (.l (e.t.map enTQ))), (11, .d (.v (.int .i64 (e.t.length : Int)))), (12, .d (.v (.int .i64 (i : Int))))], [(4, .box 48 [.d (.v (.bool false)), .d .n, .d .n]), (5, .box 48 ((enQ (coef (e.t.take i) v)).map .d))]⟩) (fun i => i ≤ e.t.length) (fun i => e.t.length - i) 0 (Nat.zero_le _) ⟨rfl, rfl, rfl, rfl, rfl, rfl, trivial⟩ ⟨rfl, rfl, trivial⟩ ?_
  intro i hi
  refine wk ?_
  (first | intro K ms hms hK | intro K hK)
  (first | refine Chain.lss rfl rfl rfl rfl rfl (fun h1 => ?_) (fun h1 => ?_) | refine Chain.lssD rfl rfl rfl rfl rfl (fun h1 => ?_) (fun h1 => ?_))
  · have hi' : i < e.t.length := by omega
    have hget : e.t[i]? = some e.t[i] := List.getElem?_eq_getElem hi'
    have hct := coef_take hi' v
    have hmono : (i + 1) * (k + 1) + k ≤ 50000000 := by
      have h2 : (i + 1 + 1) * (k + 1) ≤ (e.t.length + 2) * (k + 1) := Nat.mul_le_mul_right _ (by omega)
      have h3 : (i + 1 + 1) * (k + 1) = (i + 1) * (k + 1) + (k + 1) := by rw [Nat.add_mul (i + 1) 1]; omega
      omega
    refine wk ?_
    (first | intro K ms hms hK | intro K hK)
    (first | refine Chain.neq rfl rfl rfl rfl rfl (fun h2 => ?_) (fun h2 => ?_) | refine Chain.neqD rfl rfl rfl rfl rfl (fun h2 => ?_) (fun h2 => ?_))
    · have hc' : coef (e.t.take (i + 1)) v = coef (e.t.take i) v := by
        rw [hct, if_neg (by exact h2)]; grind
      refine wk ?_
      refine ⟨i + 1, by omega, by omega, ⟨rfl, rfl, rfl, rfl, rfl, rfl, trivial⟩, ⟨rfl, by rw [hc']; rfl, trivial⟩⟩
    · have h2' : e.t[i].1 = v := Classical.byContradiction fun h => h2 h
      rw [if_pos h2'] at hct
      refine wk ?_
      (first | intro K ms hms hK | intro K hK)
      ((first | apply Chain.go | apply Chain.goD); exact rfl; exact rfl; refine Loc.callD (qSign (coef (e.t.take i) v)) rfl ?_; (repeat (first | exact trivial | refine ⟨.inl rfl, ?_⟩ | refine ⟨.inr rfl, ?_⟩)))
      (first | refine Chain.eql rfl rfl rfl rfl rfl (fun h3 => ?_) (fun h3 => ?_) | refine Chain.eqlD rfl rfl rfl rfl rfl (fun h3 => ?_) (fun h3 => ?_))
      · have hc' : coef (e.t.take (i + 1)) v = e.t[i].2 := by
          rw [hct, sgnR_zero.1 h3]; grind
        refine wk ?_
        refine ⟨i + 1, by omega, by omega, ⟨rfl, rfl, rfl, rfl, rfl, rfl, trivial⟩, ⟨rfl, by rw [hc']; rfl, trivial⟩⟩
      · refine wk ?_
        (first | intro K ms hms hK | intro K hK)
        ((first | apply Chain.go | apply Chain.goD); exact rfl; exact rfl; refine Loc.callG (qAdd (hbd i hi) (ht _ (List.getElem_mem hi')) hmono) rfl ?_; (repeat (first | exact trivial | refine ⟨.inl rfl, ?_⟩ | refine ⟨.inr rfl, ?_⟩)))
        refine wk ?_
        refine ⟨i + 1, by omega, by omega, ⟨rfl, rfl, rfl, rfl, rfl, rfl, trivial⟩, ⟨rfl, by rw [hct]; rfl, trivial⟩⟩
  · have hend : e.t.take i = e.t := List.take_of_length_le (by omega)
    refine wk ?_
    rw [hend]
    exact ⟨.cn rfl rfl inferInstance rfl ⟨.inl rfl, .inl rfl, .inl rfl, trivial⟩, trivial⟩
theorem form_iff (l : List Tm) : Form l ↔ ∀ i (h : i < l.length), l[i].2 ≠ 0 ∧ ∀ h0 : 0 < i, (l[i - 1]).1 < l[i].1 := by
  constructor
  · intro ⟨h1, h2⟩ i h
    refine ⟨h2 _ (List.getElem_mem h), fun h0 => ?_⟩
    exact List.pairwise_iff_getElem.1 h1 (i - 1) i (by omega) h (by omega)
  · intro h
    refine ⟨?_, fun t ht => ?_⟩
    · have key : ∀ d i (h1 : i + d + 1 < l.length), (l[i]'(by omega)).1 < (l[i + d + 1]).1 := by
        intro d
        induction d with
        | zero => intro i h1; exact (h (i + 1) h1).2 (by omega)
        | succ d ih =>
          intro i h1
          have h2 := ih i (by omega)
          have h3 := (h (i + (d + 1) + 1) h1).2 (by omega)
          have e : i + (d + 1) + 1 - 1 = i + d + 1 := by omega
          simp only [e] at h3
          omega
      refine List.pairwise_iff_getElem.2 fun i j hi hj hij => ?_
      have := key (j - i - 1) i (by omega)
      have e : i + (j - i - 1) + 1 = j := by omega
      simp only [e] at this
      exact this
    · obtain ⟨i, hi, rfl⟩ := List.getElem_of_mem ht
      exact (h i hi).1
set_option maxRecDepth 100000 in
set_option maxHeartbeats 1000000 in
theorem formQ (e : Ex) (hl : e.t.length ≤ 1000000) [Decidable (Form e.t)] : Fn Try.prog 35 [.g (enEQ e)] [.d (.v (.bool (decide (Form e.t))))] := by
  have hf := form_iff e.t
  refine Fn.of Try.func35 rfl (by kernel_rfl) Try.ntmps35 Try.results35 rfl fun w0 S0 => ?_
  refine wk ?_
  refine AC.loop (X := Nat) (fun i => ⟨[(1, .p 1 0), (6, .d (.l (e.t.map enTQ))), (7, .d (.v (.int .i64 (e.t.length : Int)))), (8, .d (.v (.int .i64 (i : Int))))], [(1, .box 50 ((enEQ e).map .d))]⟩) (fun i => i ≤ e.t.length ∧ ∀ j (_ : j < i) (h : j < e.t.length), e.t[j].2 ≠ 0 ∧ ∀ h0 : 0 < j, (e.t[j - 1]).1 < e.t[j].1) (fun i => e.t.length - i) 0 ⟨Nat.zero_le _, fun j h => absurd h (by omega)⟩ ⟨rfl, rfl, rfl, rfl, trivial⟩ ⟨rfl, trivial⟩ ?_
  intro i ⟨hi, hok⟩
  refine wk ?_
  (first | intro K ms hms hK | intro K hK)
  (first | refine Chain.lss rfl rfl rfl rfl rfl (fun hlt => ?_) (fun hlt => ?_) | refine Chain.lssD rfl rfl rfl rfl rfl (fun hlt => ?_) (fun hlt => ?_))
  · have hlt' : i < e.t.length := by omega
    have hget : e.t[i]? = some e.t[i] := List.getElem?_eq_getElem hlt'
    refine wk ?_
    (first | intro K ms hms hK | intro K hK)
    ((first | apply Chain.go | apply Chain.goD); exact rfl; exact rfl; refine Loc.callD (qSign e.t[i].2) rfl ?_; (repeat (first | exact trivial | refine ⟨.inl rfl, ?_⟩ | refine ⟨.inr rfl, ?_⟩)))
    (first | refine Chain.eql rfl rfl rfl rfl rfl (fun h0 => ?_) (fun h0 => ?_) | refine Chain.eqlD rfl rfl rfl rfl rfl (fun h0 => ?_) (fun h0 => ?_))
    · refine wk ?_
      rw [decide_eq_false fun h => (hf.1 h i hlt').1 (sgnR_zero.1 h0)]
      exact ⟨.d rfl (.inl rfl), trivial⟩
    · have h0' : e.t[i].2 ≠ 0 := fun h => h0 (sgnR_zero.2 h)
      refine wk ?_
      (first | refine Chain.gtr rfl rfl rfl rfl rfl (fun h1 => ?_) (fun h1 => ?_) | refine Chain.gtrD rfl rfl rfl rfl rfl (fun h1 => ?_) (fun h1 => ?_))
      · obtain ⟨i', rfl⟩ : ∃ i', i = i' + 1 := ⟨i - 1, by omega⟩
        have hgp : e.t[i']? = some e.t[i'] := List.getElem?_eq_getElem (by omega)
        refine wk ?_
        ((first | apply Chain.go | apply Chain.goD); exact rfl; exact rfl; exact Loc.idxM (i := i') rfl rfl rfl (by omega) hgp rfl)
        refine wk ?_
        (first | refine Chain.geq rfl rfl rfl rfl rfl (fun h2 => ?_) (fun h2 => ?_) | refine Chain.geqD rfl rfl rfl rfl rfl (fun h2 => ?_) (fun h2 => ?_))
        · have h2' : e.t[i' + 1].1 ≤ e.t[i'].1 := h2
          refine wk ?_
          rw [decide_eq_false fun h => by
            have h3 : (e.t[i']).1 < e.t[i' + 1].1 := (hf.1 h (i' + 1) hlt').2 (by omega)
            omega]
          exact ⟨.d rfl (.inl rfl), trivial⟩
        · have h2' : ¬ e.t[i' + 1].1 ≤ e.t[i'].1 := h2
          refine wk ?_
          refine ⟨i' + 1 + 1, ⟨by omega, fun j hj hj2 => ?_⟩, by omega, ⟨rfl, rfl, rfl, rfl, trivial⟩, ⟨rfl, trivial⟩⟩
          by_cases e' : j = i' + 1
          · subst e'
            refine ⟨h0', fun _ => ?_⟩
            show (e.t[i']).1 < e.t[i' + 1].1
            omega
          · exact hok j (by omega) hj2
      · have hi0 : i = 0 := by omega
        subst hi0
        refine wk ?_
        refine ⟨0 + 1, ⟨by omega, fun j hj hj2 => ?_⟩, by omega, ⟨rfl, rfl, rfl, rfl, trivial⟩, ⟨rfl, trivial⟩⟩
        have : j = 0 := by omega
        subst this
        exact ⟨h0', fun h => absurd h (by omega)⟩
  · refine wk ?_
    rw [decide_eq_true (hf.2 fun j hj => hok j (by omega) hj)]
    exact ⟨.d rfl (.inl rfl), trivial⟩
set_option maxRecDepth 100000 in
set_option maxHeartbeats 1000000 in
theorem ofQ (q : Rat) : Fn Try.prog 19 [.g (enQ q)] [.g (enEQ ⟨[], q⟩)] := by
  refine Fn.of Try.func19 rfl (by kernel_rfl) Try.ntmps19 Try.results19 rfl fun w0 S0 => ?_
  refine wk ?_
  exact ⟨.cn rfl rfl inferInstance rfl ⟨.inr rfl, .inl rfl, .inl rfl, .inl rfl, trivial⟩, trivial⟩
/-- The value at a point. -/
def evQ (e : Ex) (p : List Rat) : Nat → Rat
  | 0 => e.c
  | i + 1 => evQ e p i + coef e.t (i : Int) * p.getD i 0
theorem evQ_bd {k : Nat} {e : Ex} {p : List Rat} (hc : Bd k e.c) (ht : ∀ t ∈ e.t, Bd k t.2) (hp : ∀ q ∈ p, Bd k q) : ∀ i, i ≤ p.length → Bd ((i + 1) * ((e.t.length + 2) * (k + 1) + k + 1)) (evQ e p i) := by
  intro i
  induction i with
  | zero => intro _; exact hc.mono (by omega)
  | succ i ih =>
    intro hi
    have h1 := ih (by omega)
    have h2 : Bd ((e.t.length + 1) * (k + 1)) (coef e.t (i : Int)) := by
      have := coef_bd ht (i : Int) e.t.length (Nat.le_refl _)
      rwa [List.take_length] at this
    have h3 : Bd k (p.getD i 0) := by
      rw [List.getD_eq_getElem?_getD, List.getElem?_eq_getElem (by omega)]
      exact hp _ (List.getElem_mem _)
    refine (h1.add (h2.mul h3)).mono ?_
    have e1 : (i + 1 + 1) * ((e.t.length + 2) * (k + 1) + k + 1) = (i + 1) * ((e.t.length + 2) * (k + 1) + k + 1) + ((e.t.length + 2) * (k + 1) + k + 1) := by rw [Nat.add_mul (i + 1) 1]; omega
    have e2 : (e.t.length + 1) * (k + 1) ≤ (e.t.length + 2) * (k + 1) := Nat.mul_le_mul_right _ (by omega)
    omega
set_option maxRecDepth 100000 in
set_option maxHeartbeats 1000000 in
theorem evalQ (e : Ex) (p : List Rat) (k : Nat) (hc : Bd k e.c) (ht : ∀ t ∈ e.t, Bd k t.2) (hp : ∀ q ∈ p, Bd k q) (hk : (p.length + 2) * ((e.t.length + 2) * (k + 1) + k + 1) ≤ 50000000) : Fn Try.prog 24 [.g (enEQ e), .d (.l (p.map enQ))] [.g (enQ (evQ e p p.length))] := by
  have hbd := evQ_bd hc ht hp
  have hlen : p.length ≤ 50000000 := Nat.le_trans (Nat.le_trans (by omega) (Nat.le_mul_of_pos_right (p.length + 2) (by omega : 0 < (e.t.length + 2) * (k + 1) + k + 1))) hk
  have hk2 : (e.t.length + 2) * (k + 1) + k + 1 ≤ 50000000 := Nat.le_trans (Nat.le_mul_of_pos_left _ (by omega : 0 < p.length + 2)) hk
  refine Fn.of Try.func24 rfl (by kernel_rfl) Try.ntmps24 Try.results24 rfl fun w0 S0 => ?_
  refine wk ?_
  refine AC.loop (X := Nat) (fun i => ⟨[(1, .d (.l (p.map enQ))), (2, .p 2 0), (4, .p 4 0), (5, .p 5 0), (10, .d (.v (.int .i64 (p.length : Int)))), (11, .d (.v (.int .i64 (i : Int))))], [(2, .box 50 ((enEQ e).map .d)), (4, .box 48 [.d (.v (.bool false)), .d .n, .d .n]), (5, .box 48 ((enQ (evQ e p i)).map .d))]⟩) (fun i => i ≤ p.length) (fun i => p.length - i) 0 (Nat.zero_le _) ⟨rfl, rfl, rfl, rfl, rfl, rfl, trivial⟩ ⟨rfl, rfl, rfl, trivial⟩ ?_
  intro i hi
  refine wk ?_
  (first | intro K ms hms hK | intro K hK)
  (first | refine Chain.lss rfl rfl rfl rfl rfl (fun h1 => ?_) (fun h1 => ?_) | refine Chain.lssD rfl rfl rfl rfl rfl (fun h1 => ?_) (fun h1 => ?_))
  · have hi' : i < p.length := by omega
    have hget : p[i]? = some p[i] := List.getElem?_eq_getElem hi'
    have hgD : p.getD i 0 = p[i] := by rw [List.getD_eq_getElem?_getD, hget]; rfl
    have h2 : Bd ((e.t.length + 1) * (k + 1)) (coef e.t (i : Int)) := by
      have := coef_bd ht (i : Int) e.t.length (Nat.le_refl _)
      rwa [List.take_length] at this
    have e2 : (e.t.length + 1) * (k + 1) + (k + 1) = (e.t.length + 2) * (k + 1) := by rw [Nat.add_mul (e.t.length + 1) 1]; omega
    have h3 : Bd k p[i] := hp _ (List.getElem_mem hi')
    have hb2 : (i + 1) * ((e.t.length + 2) * (k + 1) + k + 1) + ((e.t.length + 1) * (k + 1) + k) ≤ 50000000 := by
      have q1 : (i + 1 + 1) * ((e.t.length + 2) * (k + 1) + k + 1) ≤ (p.length + 2) * ((e.t.length + 2) * (k + 1) + k + 1) := Nat.mul_le_mul_right _ (by omega)
      have q2 : (i + 1 + 1) * ((e.t.length + 2) * (k + 1) + k + 1) = (i + 1) * ((e.t.length + 2) * (k + 1) + k + 1) + ((e.t.length + 2) * (k + 1) + k + 1) := by rw [Nat.add_mul (i + 1) 1]; omega
      omega
    refine wk ?_
    (first | intro K ms hms hK | intro K hK)
    ((first | apply Chain.go | apply Chain.goD); exact rfl; exact rfl; refine Loc.callG (coefQ e (i : Int) k ht (by omega)) rfl ?_; (repeat (first | exact trivial | refine ⟨.inl rfl, ?_⟩ | refine ⟨.inr rfl, ?_⟩)))
    refine wk ?_
    ((first | apply Chain.go | apply Chain.goD); exact rfl; exact rfl; refine Loc.callG (qMul h2 h3 (by omega)) rfl ?_; (repeat (first | exact trivial | refine ⟨.inl rfl, ?_⟩ | refine ⟨.inr rfl, ?_⟩)))
    refine wk ?_
    ((first | apply Chain.go | apply Chain.goD); exact rfl; exact rfl; refine Loc.callG (qAdd (hbd i hi) (h2.mul h3) hb2) rfl ?_; (repeat (first | exact trivial | refine ⟨.inl rfl, ?_⟩ | refine ⟨.inr rfl, ?_⟩)))
    refine wk ?_
    refine ⟨i + 1, by omega, by omega, ⟨rfl, rfl, rfl, rfl, rfl, rfl, trivial⟩, ⟨rfl, rfl, by rw [evQ, hgD]; rfl, trivial⟩⟩
  · have hend : i = p.length := by omega
    refine wk ?_
    rw [← hend]
    exact ⟨.cn rfl rfl inferInstance rfl ⟨.inl rfl, .inl rfl, .inl rfl, trivial⟩, trivial⟩
end Go.Proofs.Ytfijmpmojhlnmaa
