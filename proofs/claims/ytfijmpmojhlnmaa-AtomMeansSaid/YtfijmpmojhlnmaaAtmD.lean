/-
  The laws of package atom (attestlaw09): what is handed in, and the answers that the document fixes.
-/
import Derived.Test.YtfijmpmojhlnmaaAtmC
import Derived.Test.YtfijmpmojhlnmaaRuleX
namespace Go.Proofs.Ytfijmpmojhlnmaa
open Go.RowKit
attribute [local irreducible] AC Do St
/-- A constraint as the laws are handed it. -/
structure AN where
  e : EN
  op : Int
def enAN (a : AN) : List D := enEN a.e ++ [.v (.int .i64 a.op)]
def atN (a : AN) : At := ⟨exN a.e, a.op⟩
set_option maxRecDepth 100000 in
set_option maxHeartbeats 2000000 in
theorem ofA (a : AN) (ha : okEN a.e) : Fn Try.prog 7 [.g (enAN a)] [.g (enA (atN a))] := by
  refine Fn.of Try.func7 rfl (by kernel_rfl) Try.ntmps7 Try.results7 rfl fun w0 S0 => ?_
  refine wk ?_
  ((try (first | intro K ms hms hK | intro K hK)); (first | apply Chain.go | apply Chain.goD); exact rfl; exact rfl; refine Loc.callG (expr a.e ha) rfl ?_; (repeat (first | exact trivial | refine ⟨.inl rfl, ?_⟩ | refine ⟨.inr rfl, ?_⟩)))
  refine wk ?_
  exact ⟨.cn rfl rfl inferInstance rfl ⟨.inl rfl, .inl rfl, .inl rfl, .inl rfl, .inl rfl, trivial⟩, trivial⟩
set_option maxRecDepth 100000 in
set_option maxHeartbeats 2000000 in
theorem toldA (a : At) (k : Nat) (hk : k ≤ 10000000) (hc : Bd k a.e.c) (ht : ∀ t ∈ a.e.t, Bd k t.2) (hlen : a.e.t.length ≤ 1000000) : Fn Try.prog 12 [.g (enA a)] [.g (enAQ a)] := by
  refine Fn.of Try.func12 rfl (by kernel_rfl) Try.ntmps12 Try.results12 rfl fun w0 S0 => ?_
  refine wk ?_
  ((try (first | intro K ms hms hK | intro K hK)); (first | apply Chain.go | apply Chain.goD); exact rfl; exact rfl; refine Loc.callG (told8 a.e k hk hc ht hlen) rfl ?_; (repeat (first | exact trivial | refine ⟨.inl rfl, ?_⟩ | refine ⟨.inr rfl, ?_⟩)))
  refine wk ?_
  exact ⟨.cn rfl rfl inferInstance rfl ⟨.inl rfl, .inl rfl, .inl rfl, .inl rfl, .inl rfl, trivial⟩, trivial⟩
set_option maxRecDepth 100000 in
set_option maxHeartbeats 2000000 in
theorem goodY (a : AN) (h : okOp a.op) : Fn Try.prog 8 [.g (enAN a)] [.d (.v (.bool true))] := by
  obtain ⟨h1, h2⟩ := h
  refine Fn.of Try.func8 rfl (by kernel_rfl) Try.ntmps8 Try.results8 rfl fun w0 S0 => ?_
  refine wk ?_
  exact ⟨.d rfl (.inl rfl), trivial⟩
set_option maxRecDepth 100000 in
set_option maxHeartbeats 2000000 in
theorem goodN (a : AN) (h : ¬ okOp a.op) : Fn Try.prog 8 [.g (enAN a)] [.d (.v (.bool false))] := by
  unfold okOp at h
  refine Fn.of Try.func8 rfl (by kernel_rfl) Try.ntmps8 Try.results8 rfl fun w0 S0 => ?_
  refine wk ?_
  ((try (first | intro K ms hms hK | intro K hK)); (first | refine Chain.geq rfl rfl rfl rfl rfl (fun h1 => ?_) (fun h1 => ?_) | refine Chain.geqD rfl rfl rfl rfl rfl (fun h1 => ?_) (fun h1 => ?_)))
  · have h2 : ¬ a.op ≤ 3 := by omega
    refine wk ?_
    exact ⟨.d rfl (.inl rfl), trivial⟩
  · refine wk ?_
    exact ⟨.d rfl (.inl rfl), trivial⟩
/-- The constraint whose one form the document fixes. -/
def awA : At := ⟨⟨[(0, ((-2 : Int) : Rat))], ((4 : Int) : Rat)⟩, 1⟩
theorem awA_can : canL awA.e.t = [(0, ((-2 : Int) : Rat))] := canL_form ⟨List.pairwise_singleton _ _, fun t ht => by rw [List.mem_singleton.1 ht]; decide⟩
theorem awA_res : canA awA ((-2 : Int) : Rat) = ⟨⟨[(0, ((-1 : Int) : Rat))], ((2 : Int) : Rat)⟩, 1⟩ := by
  have hb : byQ awA.op ((-2 : Int) : Rat) = mkRat 1 2 := by
    unfold byQ
    have h1 : absR ((-2 : Int) : Rat) = 2 := by decide
    rw [if_neg (by decide), h1]
    exact Rat.inv_eq_of_mul_eq_one (by decide +kernel)
  have ht := canA_t awA (c := ((-2 : Int) : Rat)) (by decide)
  have hc := canA_c awA ((-2 : Int) : Rat)
  have ho : (canA awA ((-2 : Int) : Rat)).op = 1 := rfl
  rw [hb] at ht hc
  rw [awA_can] at ht
  generalize canA awA ((-2 : Int) : Rat) = x at ht hc ho
  obtain ⟨⟨t, c⟩, op⟩ := x
  simp only at ht hc ho
  subst ho
  rw [ht, hc]
  have e1 : mkRat 1 2 * awA.e.c = ((2 : Int) : Rat) := by decide +kernel
  have e2 : mkRat 1 2 * ((-2 : Int) : Rat) = ((-1 : Int) : Rat) := by decide +kernel
  rw [e1]
  simp only [List.map_cons, List.map_nil, mulT, e2]
set_option maxRecDepth 100000 in
set_option maxHeartbeats 4000000 in
theorem awake9 : Fn Try.prog 9 [] [.d (.v (.bool true))] := by
  obtain ⟨X, hcan, hX1, hX2, hX3⟩ : ∃ X : At, Fn Try.prog 6 [.g (enA awA)] [.g (enA X), .d (.v (.int .i64 0)), .d (.v (.int .i64 0))] ∧ X.e.t.length = 1 ∧ X.e.t[0]? = some (0, ((-1 : Int) : Rat)) ∧ X.e.c = ((2 : Int) : Rat) := by
    have := canOpen awA 3 8 ⟨by decide, by decide⟩ ⟨by decide, by decide⟩ (fun t ht => by rw [List.mem_singleton.1 ht]; exact ⟨by decide, by decide⟩) (by decide) (by decide) awA_can (by decide)
    exact ⟨_, this, by rw [awA_res]; exact ⟨rfl, rfl, rfl⟩⟩
  have h1 : sgnR (((-1 : Int) : Rat) - ((-1 : Int) : Rat)) = 0 := by decide +kernel
  have h2 : sgnR (X.e.c - ((2 : Int) : Rat)) = 0 := by rw [hX3]; decide +kernel
  have b1 : Bd 3 ((-1 : Int) : Rat) := ⟨by decide, by decide⟩
  have b2 : Bd 3 ((2 : Int) : Rat) := ⟨by decide, by decide⟩
  refine Fn.of Try.func9 rfl (by kernel_rfl) Try.ntmps9 Try.results9 rfl fun w0 S0 => ?_
  refine wk ?_
  ((try (first | intro K ms hms hK | intro K hK)); (first | apply Chain.go | apply Chain.goD); exact rfl; exact rfl; refine Loc.callG (ratInt (-2) (by omega) (by omega)) rfl ?_; (repeat (first | exact trivial | refine ⟨.inl rfl, ?_⟩ | refine ⟨.inr rfl, ?_⟩)))
  refine wk ?_
  ((try (first | intro K ms hms hK | intro K hK)); (first | apply Chain.go | apply Chain.goD); exact rfl; exact rfl; refine Loc.callG (ratInt 4 (by omega) (by omega)) rfl ?_; (repeat (first | exact trivial | refine ⟨.inl rfl, ?_⟩ | refine ⟨.inr rfl, ?_⟩)))
  refine wk ?_
  ((try (first | intro K ms hms hK | intro K hK)); (first | apply Chain.go | apply Chain.goD); exact rfl; exact rfl; refine Loc.callT (hcan) rfl ?_; (repeat (first | exact trivial | refine ⟨.inl rfl, ?_⟩ | refine ⟨.inr rfl, ?_⟩)))
  refine wk ?_
  ((try (first | intro K ms hms hK | intro K hK)); (first | apply Chain.go | apply Chain.goD); exact rfl; exact rfl; refine Loc.callG (ratInt (-1) (by omega) (by omega)) rfl ?_; (repeat (first | exact trivial | refine ⟨.inl rfl, ?_⟩ | refine ⟨.inr rfl, ?_⟩)))
  ((try (first | intro K ms hms hK | intro K hK)); (first | apply Chain.go | apply Chain.goD); exact rfl; exact rfl; refine Loc.callD (ratCmp b1 b1 (by omega)) rfl ?_; (repeat (first | exact trivial | refine ⟨.inl rfl, ?_⟩ | refine ⟨.inr rfl, ?_⟩)))
  refine wk ?_
  ((try (first | intro K ms hms hK | intro K hK)); (first | apply Chain.go | apply Chain.goD); exact rfl; exact rfl; refine Loc.callG (ratInt 2 (by omega) (by omega)) rfl ?_; (repeat (first | exact trivial | refine ⟨.inl rfl, ?_⟩ | refine ⟨.inr rfl, ?_⟩)))
  ((try (first | intro K ms hms hK | intro K hK)); (first | apply Chain.go | apply Chain.goD); exact rfl; exact rfl; refine Loc.callD (ratCmp (hX3 ▸ b2) b2 (by omega)) rfl ?_; (repeat (first | exact trivial | refine ⟨.inl rfl, ?_⟩ | refine ⟨.inr rfl, ?_⟩)))
  refine wk ?_
  exact ⟨.d rfl (.inl rfl), trivial⟩
theorem atN_sm (a : AN) (ha : okEN a.e) : Sm 12 256 (atN a).e := by
  refine ⟨bdN _ ha.c, fun t ht => ?_, ?_⟩
  · obtain ⟨x, hx, rfl⟩ := List.mem_map.1 ht
    exact bdN _ (ha.t x (List.mem_of_mem_take hx)).1
  · show ((a.e.t.take 12).map tmN).length ≤ 12
    simp
    omega
theorem Bd.byQ {k : Nat} {c : Rat} (op : Int) (h : Bd k c) (hc : c ≠ 0) : Bd k (byQ op c) := by
  unfold Go.Proofs.Ytfijmpmojhlnmaa.byQ
  split
  · exact h.inv hc
  · exact h.abs.inv (absR_ne hc)
theorem canA_sm {N k B : Nat} (a : At) (h : Sm N k a.e) (hB : (N + 1) * (k + 1) ≤ B) {v : Int} {c : Rat} {l : List Tm} (h0 : canL a.e.t = (v, c) :: l) (hne : c ≠ 0) : Sm N (B + B) (canA a c).e := by
  have hB' : (a.e.t.length + 1) * (k + 1) ≤ B := Nat.le_trans (Nat.mul_le_mul_right _ (by have := h.n; omega)) hB
  have hbd : ∀ t ∈ canL a.e.t, Bd B t.2 := fun t ht => (canL_bd h.t t ht).mono hB'
  have hc : Bd B c := hbd (v, c) (by rw [h0]; simp)
  have hk : k ≤ B := Nat.le_trans (Nat.le_trans (by omega) (Nat.le_mul_of_pos_left (k + 1) (by omega : 0 < N + 1))) hB
  refine ⟨?_, fun t ht => ?_, ?_⟩
  · rw [canA_c]; exact (hc.byQ a.op hne).mul (h.c.mono hk)
  · rw [canA_t a hne] at ht
    obtain ⟨u, hu, rfl⟩ := List.mem_map.1 ht
    exact (hc.byQ a.op hne).mul (hbd u hu)
  · rw [canA_t a hne, List.length_map]
    exact Nat.le_trans (canL_spec _).2.2 h.n
theorem sameSelf {N k B : Nat} (e : Ex) (h : Sm N k e) (hB : (N + 1) * (1 + k + 1) ≤ B) (hk : (N + N + 2) * (B + 1) ≤ 50000000) : Fn Try.prog 20 [.g (enE e), .g (enE e)] [.d (.v (.bool true))] := by
  have hm1 : Bd 1 (-1 : Rat) := ⟨by decide, by decide⟩
  have hkB : 1 + k + 1 ≤ B := Nat.le_trans (Nat.le_mul_of_pos_left _ (by omega)) hB
  have hl2 : (scaleE (-1) e).t.length ≤ N := by
    refine Nat.le_trans (canL_spec _).2.2 ?_
    rw [List.length_map]; exact h.n
  have hb : ∀ t ∈ (scaleE (-1) e).t, Bd B t.2 := fun t ht => by
    refine (canL_bd (k := 1 + k) (fun u hu => ?_) t ht).mono ?_
    · obtain ⟨x, hx, rfl⟩ := List.mem_map.1 hu
      exact hm1.mul (h.t x hx)
    · rw [List.length_map]
      exact Nat.le_trans (Nat.mul_le_mul_right _ (by have := h.n; omega)) hB
  have hbc : Bd B (scaleE (-1) e).c := (hm1.mul h.c).mono (by omega)
  have hk3 : (e.t.length + 2) * (1 + k + 1) ≤ 50000000 := Nat.le_trans (Nat.mul_le_mul (by have := h.n; omega) (by omega)) hk
  have hk4 : (e.t.length + (scaleE (-1) e).t.length + 2) * (B + 1) ≤ 50000000 := Nat.le_trans (Nat.mul_le_mul_right _ (by have := h.n; omega)) hk
  have := sameF e e k B h.t h.c hk3 (fun t ht => (h.t t ht).mono (by omega)) hb (h.c.mono (by omega)) hbc hk4
  rwa [decide_eq_true (sub_self e)] at this
end Go.Proofs.Ytfijmpmojhlnmaa
