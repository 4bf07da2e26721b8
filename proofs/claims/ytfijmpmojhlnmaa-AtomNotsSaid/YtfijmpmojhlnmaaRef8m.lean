/-
  attestref08 by plain data, more: one sum of two.
-/
import Derived.Test.YtfijmpmojhlnmaaRef8v
namespace Go.Proofs.Ytfijmpmojhlnmaa
open Go.RowKit
attribute [local irreducible] AC Do St
/-- got is in form, and p times a and q times b together. -/
def Means (got : Ex) (p : Rat) (a : Ex) (q : Rat) (b : Ex) : Prop := Form got.t ∧ got.c = p * a.c + q * b.c ∧ ∀ v, coef got.t v = p * coef a.t v + q * coef b.t v
theorem sgnR_eq {p q : Rat} : sgnR (p - q) = 0 ↔ p = q := by
  rw [sgnR_zero]
  constructor
  · intro h; grind
  · intro h; grind
/-- All numbers of an expression are small, and its terms are few. -/
structure Sm (N k : Nat) (e : Ex) : Prop where
  c : Bd k e.c
  t : ∀ t ∈ e.t, Bd k t.2
  n : e.t.length ≤ N
theorem Sm.coef {N k : Nat} {e : Ex} (h : Sm N k e) (v : Int) : Bd ((N + 2) * (k + 1)) (coef e.t v) := by
  have := coef_bd h.t v e.t.length (Nat.le_refl _)
  rw [List.take_length] at this
  exact this.mono (Nat.mul_le_mul_right _ (by have := h.n; omega))
theorem Sm.k {N k : Nat} : k + 1 ≤ (N + 2) * (k + 1) := Nat.le_mul_of_pos_left _ (by omega)
theorem Sm.len {N k : Nat} {e : Ex} (h : Sm N k e) (M : Nat) (hk : (N + 2) * (k + 1) ≤ M) : e.t.length ≤ M := by
  have := h.n
  have : N + 2 ≤ (N + 2) * (k + 1) := Nat.le_mul_of_pos_right _ (by omega)
  omega
theorem Sm.coefQ {N k : Nat} {e : Ex} (h : Sm N k e) (v : Int) (hk : (N + 2) * (k + 1) ≤ 50000000) : Fn Try.prog 40 [.g (enEQ e), .d (.v (.int .i64 v))] [.g (enQ (Go.Proofs.Ytfijmpmojhlnmaa.coef e.t v))] :=
  Go.Proofs.Ytfijmpmojhlnmaa.coefQ e v k h.t (Nat.le_trans (Nat.mul_le_mul_right _ (by have := h.n; omega)) hk)
set_option maxRecDepth 100000 in
set_option maxHeartbeats 2000000 in
theorem meansQ (got : Ex) (p : Rat) (a : Ex) (q : Rat) (b : Ex) (N k : Nat) (hg : Sm N k got) (ha : Sm N k a) (hb : Sm N k b) (hp : Bd k p) (hq : Bd k q) (hk : 8 * ((N + 2) * (k + 1)) ≤ 8000000) (r : Bool) (hr : r = true ↔ Means got p a q b) :
    Fn Try.prog 14 [.g (enEQ got), .g (enQ p), .g (enEQ a), .g (enQ q), .g (enEQ b)] [.d (.v (.bool r))] := by
  haveI := Classical.propDecidable (Form got.t)
  have hK := Sm.k (N := N) (k := k)
  obtain ⟨hv1, hv2, hv3⟩ := varsE_spec [got, a, b]
  have hvl : (varsE [got, a, b]).length ≤ 30000000 := by
    have h1 := hg.len 1000000 (by omega)
    have h2 := ha.len 1000000 (by omega)
    have h3 := hb.len 1000000 (by omega)
    simp [tot] at hv3
    omega
  have hall : (∀ v ∈ varsE [got, a, b], coef got.t v = p * coef a.t v + q * coef b.t v) → ∀ v, coef got.t v = p * coef a.t v + q * coef b.t v := fun h v => by
    by_cases hm : v ∈ varsE [got, a, b]
    · exact h v hm
    · have hn : ∀ e ∈ [got, a, b], ∀ t ∈ e.t, t.1 ≠ v := fun e he t ht hv => hm ((hv2 v).2 ⟨e, he, t, ht, hv⟩)
      rw [coef_none (hn got (by simp)), coef_none (hn a (by simp)), coef_none (hn b (by simp))]
      grind
  have fls : ¬ Means got p a q b → r = false := fun h => Bool.eq_false_iff.2 fun h2 => h (hr.1 h2)
  refine Fn.of Try.func14 rfl (by kernel_rfl) Try.ntmps14 Try.results14 rfl fun w0 S0 => ?_
  refine wk ?_
  ((try (first | intro K ms hms hK | intro K hK)); (first | apply Chain.go | apply Chain.goD); exact rfl; exact rfl; refine Loc.callD (formQ got (hg.len 1000000 (by omega))) rfl ?_; (repeat (first | exact trivial | refine ⟨.inl rfl, ?_⟩ | refine ⟨.inr rfl, ?_⟩)))
  by_cases hf : Form got.t
  · rw [decide_eq_true hf]
    refine wk ?_
    ((try (first | intro K ms hms hK | intro K hK)); (first | apply Chain.go | apply Chain.goD); exact rfl; exact rfl; refine Loc.callG (qMul hp ha.c (by omega)) rfl ?_; (repeat (first | exact trivial | refine ⟨.inl rfl, ?_⟩ | refine ⟨.inr rfl, ?_⟩)))
    refine wk ?_
    ((try (first | intro K ms hms hK | intro K hK)); (first | apply Chain.go | apply Chain.goD); exact rfl; exact rfl; refine Loc.callG (qMul hq hb.c (by omega)) rfl ?_; (repeat (first | exact trivial | refine ⟨.inl rfl, ?_⟩ | refine ⟨.inr rfl, ?_⟩)))
    refine wk ?_
    ((try (first | intro K ms hms hK | intro K hK)); (first | apply Chain.go | apply Chain.goD); exact rfl; exact rfl; refine Loc.callG (qAdd (hp.mul ha.c) (hq.mul hb.c) (by omega)) rfl ?_; (repeat (first | exact trivial | refine ⟨.inl rfl, ?_⟩ | refine ⟨.inr rfl, ?_⟩)))
    refine wk ?_
    ((try (first | intro K ms hms hK | intro K hK)); (first | apply Chain.go | apply Chain.goD); exact rfl; exact rfl; refine Loc.callD (qCmp hg.c ((hp.mul ha.c).add (hq.mul hb.c)) (by omega)) rfl ?_; (repeat (first | exact trivial | refine ⟨.inl rfl, ?_⟩ | refine ⟨.inr rfl, ?_⟩)))
    refine wk ?_
    ((try (first | intro K ms hms hK | intro K hK)); (first | refine Chain.neq rfl rfl rfl rfl rfl (fun h1 => ?_) (fun h1 => ?_) | refine Chain.neqD rfl rfl rfl rfl rfl (fun h1 => ?_) (fun h1 => ?_)))
    · refine wk ?_
      rw [fls fun h => h1 (sgnR_eq.2 h.2.1)]
      exact ⟨.d rfl (.inl rfl), trivial⟩
    · have h1' : got.c = p * a.c + q * b.c := sgnR_eq.1 (Classical.byContradiction h1)
      refine wk ?_
      ((try (first | intro K ms hms hK | intro K hK)); (first | apply Chain.go | apply Chain.goD); exact rfl; exact rfl; refine Loc.callD (varsQ [got, a, b] (by simp) (by
        intro e he
        simp at he
        rcases he with rfl | rfl | rfl
        · exact hg.len 1000000 (by omega)
        · exact ha.len 1000000 (by omega)
        · exact hb.len 1000000 (by omega))) rfl ?_; (repeat (first | exact trivial | refine ⟨.inl rfl, ?_⟩ | refine ⟨.inr rfl, ?_⟩)))
      refine wk ?_
      refine AC.loop (X := Nat) (fun i => ⟨[(5, .p 5 0), (6, .p 6 0), (7, .p 7 0), (8, .p 8 0), (9, .p 9 0), (35, .d (enI (varsE [got, a, b]))), (36, .d (.v (.int .i64 ((varsE [got, a, b]).length : Int)))), (37, .d (.v (.int .i64 (i : Int))))], [(5, .box 50 ((enEQ got).map .d)), (6, .box 48 ((enQ p).map .d)), (7, .box 50 ((enEQ a).map .d)), (8, .box 48 ((enQ q).map .d)), (9, .box 50 ((enEQ b).map .d))]⟩) (fun i => i ≤ (varsE [got, a, b]).length ∧ ∀ v ∈ (varsE [got, a, b]).take i, coef got.t v = p * coef a.t v + q * coef b.t v) (fun i => (varsE [got, a, b]).length - i) 0 ⟨Nat.zero_le _, by simp⟩ ⟨rfl, rfl, rfl, rfl, rfl, rfl, rfl, rfl, trivial⟩ ⟨rfl, rfl, rfl, rfl, rfl, trivial⟩ ?_
      intro i ⟨hi, hok⟩
      refine wk ?_
      ((try (first | intro K ms hms hK | intro K hK)); (first | refine Chain.lss rfl rfl rfl rfl rfl (fun h2 => ?_) (fun h2 => ?_) | refine Chain.lssD rfl rfl rfl rfl rfl (fun h2 => ?_) (fun h2 => ?_)))
      · have hi' : i < (varsE [got, a, b]).length := by omega
        have hget : (varsE [got, a, b])[i]? = some (varsE [got, a, b])[i] := List.getElem?_eq_getElem hi'
        have htk : (varsE [got, a, b]).take (i + 1) = (varsE [got, a, b]).take i ++ [(varsE [got, a, b])[i]] := List.take_succ_eq_append_getElem hi'
        have hmem : (varsE [got, a, b])[i] ∈ varsE [got, a, b] := List.getElem_mem hi'
        generalize (varsE [got, a, b])[i] = v at hget htk hmem
        have hKp := hp.mono (by omega : k ≤ (N + 2) * (k + 1))
        have hKq := hq.mono (by omega : k ≤ (N + 2) * (k + 1))
        refine wk ?_
        ((try (first | intro K ms hms hK | intro K hK)); (first | apply Chain.go | apply Chain.goD); exact rfl; exact rfl; refine Loc.callG (hg.coefQ v (by omega)) rfl ?_; (repeat (first | exact trivial | refine ⟨.inl rfl, ?_⟩ | refine ⟨.inr rfl, ?_⟩)))
        refine wk ?_
        ((try (first | intro K ms hms hK | intro K hK)); (first | apply Chain.go | apply Chain.goD); exact rfl; exact rfl; refine Loc.callG (ha.coefQ v (by omega)) rfl ?_; (repeat (first | exact trivial | refine ⟨.inl rfl, ?_⟩ | refine ⟨.inr rfl, ?_⟩)))
        refine wk ?_
        ((try (first | intro K ms hms hK | intro K hK)); (first | apply Chain.go | apply Chain.goD); exact rfl; exact rfl; refine Loc.callG (qMul hKp (ha.coef v) (by omega)) rfl ?_; (repeat (first | exact trivial | refine ⟨.inl rfl, ?_⟩ | refine ⟨.inr rfl, ?_⟩)))
        refine wk ?_
        ((try (first | intro K ms hms hK | intro K hK)); (first | apply Chain.go | apply Chain.goD); exact rfl; exact rfl; refine Loc.callG (hb.coefQ v (by omega)) rfl ?_; (repeat (first | exact trivial | refine ⟨.inl rfl, ?_⟩ | refine ⟨.inr rfl, ?_⟩)))
        refine wk ?_
        ((try (first | intro K ms hms hK | intro K hK)); (first | apply Chain.go | apply Chain.goD); exact rfl; exact rfl; refine Loc.callG (qMul hKq (hb.coef v) (by omega)) rfl ?_; (repeat (first | exact trivial | refine ⟨.inl rfl, ?_⟩ | refine ⟨.inr rfl, ?_⟩)))
        refine wk ?_
        ((try (first | intro K ms hms hK | intro K hK)); (first | apply Chain.go | apply Chain.goD); exact rfl; exact rfl; refine Loc.callG (qAdd (hKp.mul (ha.coef v)) (hKq.mul (hb.coef v)) (by omega)) rfl ?_; (repeat (first | exact trivial | refine ⟨.inl rfl, ?_⟩ | refine ⟨.inr rfl, ?_⟩)))
        refine wk ?_
        ((try (first | intro K ms hms hK | intro K hK)); (first | apply Chain.go | apply Chain.goD); exact rfl; exact rfl; refine Loc.callD (qCmp (hg.coef v) ((hKp.mul (ha.coef v)).add (hKq.mul (hb.coef v))) (by omega)) rfl ?_; (repeat (first | exact trivial | refine ⟨.inl rfl, ?_⟩ | refine ⟨.inr rfl, ?_⟩)))
        refine wk ?_
        ((try (first | intro K ms hms hK | intro K hK)); (first | refine Chain.neq rfl rfl rfl rfl rfl (fun h3 => ?_) (fun h3 => ?_) | refine Chain.neqD rfl rfl rfl rfl rfl (fun h3 => ?_) (fun h3 => ?_)))
        · refine wk ?_
          rw [fls fun h => h3 (sgnR_eq.2 (h.2.2 v))]
          exact ⟨.d rfl (.inl rfl), trivial⟩
        · have h3' : coef got.t v = p * coef a.t v + q * coef b.t v := sgnR_eq.1 (Classical.byContradiction h3)
          refine wk ?_
          refine ⟨i + 1, ⟨by omega, fun u hu => ?_⟩, by omega, ⟨rfl, rfl, rfl, rfl, rfl, rfl, rfl, rfl, trivial⟩, ⟨rfl, rfl, rfl, rfl, rfl, trivial⟩⟩
          rw [htk] at hu
          rcases List.mem_append.1 hu with hu | hu
          · exact hok u hu
          · rw [List.mem_singleton.1 hu]; exact h3'
      · rw [List.take_of_length_le (by omega)] at hok
        refine wk ?_
        rw [hr.2 ⟨hf, h1', hall hok⟩]
        exact ⟨.d rfl (.inl rfl), trivial⟩
  · rw [decide_eq_false hf]
    refine wk ?_
    rw [fls fun h => hf h.1]
    exact ⟨.d rfl (.inl rfl), trivial⟩
end Go.Proofs.Ytfijmpmojhlnmaa
