/-
  The stable sort of package slices by plain data: merging in place.
-/
import Derived.Test.YtfijmpmojhlnmaaSoB
namespace Go.Proofs.Ytfijmpmojhlnmaa
open Go.RowKit
attribute [local irreducible] AC Do St
theorem SrtR.le {xs : List (List D)} {a b : Nat} (h : SrtR xs a b) {p q : Nat} (h1 : a ≤ p) (h2 : p ≤ q) (h3 : q < b) : kat xs p ≤ kat xs q := by
  rcases Nat.lt_or_ge p q with h4 | h4
  · exact h p q h1 h4 h3
  · rw [show p = q by omega]; exact Int.le_refl _
theorem ins1_done {xs zs : List (List D)} {a b i : Nat} (hB : SrtR xs (a + 1) b) (h1 : a + 1 ≤ i) (h2 : i ≤ b) (l : i = a + 1 ∨ kat xs (i - 1) < kat xs a) (r : i = b ∨ kat xs a ≤ kat xs i) (hz : ∀ p, kat zs p = kat xs (if a ≤ p ∧ p < i - 1 then p + 1 else if p = i - 1 then a else p)) : SrtR zs a b := by
  intro p q hp hpq hq
  rw [hz p, hz q]
  by_cases c1 : p < i - 1
  · rw [if_pos ⟨hp, c1⟩]
    by_cases c2 : q < i - 1
    · rw [if_pos ⟨by omega, c2⟩]; exact hB.le (by omega) (by omega) (by omega)
    · rw [if_neg (by omega)]
      by_cases c3 : q = i - 1
      · rw [if_pos c3]
        have := hB.le (p := p + 1) (q := i - 1) (by omega) (by omega) (by omega)
        omega
      · rw [if_neg c3]; exact hB.le (by omega) (by omega) hq
  · rw [if_neg (by omega), if_neg (show ¬ (a ≤ q ∧ q < i - 1) by omega), if_neg (show ¬ q = i - 1 by omega)]
    by_cases c3 : p = i - 1
    · rw [if_pos c3]
      have := hB.le (p := i) (q := q) (by omega) (by omega) hq
      omega
    · rw [if_neg c3]; exact hB.le (by omega) (by omega) hq
theorem ins2_done {xs zs : List (List D)} {a m i : Nat} (hA : SrtR xs a m) (h1 : a ≤ i) (h2 : i ≤ m) (l : i = a ∨ kat xs (i - 1) ≤ kat xs m) (r : i = m ∨ kat xs m < kat xs i) (hz : ∀ p, kat zs p = kat xs (if i < p ∧ p ≤ m then p - 1 else if p = i then m else p)) : SrtR zs a (m + 1) := by
  intro p q hp hpq hq
  rw [hz p, hz q]
  by_cases c1 : i < p
  · rw [if_pos (by omega), if_pos (by omega)]; exact hA.le (by omega) (by omega) (by omega)
  · rw [if_neg (show ¬ (i < p ∧ p ≤ m) by omega)]
    by_cases c3 : p = i
    · rw [if_pos c3, if_pos (by omega)]
      have := hA.le (p := i) (q := q - 1) (by omega) (by omega) (by omega)
      omega
    · rw [if_neg c3]
      by_cases c2 : i < q
      · rw [if_pos (by omega)]; exact hA.le (by omega) (by omega) (by omega)
      · rw [if_neg (by omega)]
        by_cases c4 : q = i
        · rw [if_pos c4]
          have := hA.le (p := p) (q := i - 1) (by omega) (by omega) (by omega)
          omega
        · rw [if_neg c4]; exact hA.le (by omega) (by omega) (by omega)
theorem rotI_id {s m e : Nat} (h : s = m ∨ e = m) (h1 : s ≤ m) (h2 : m ≤ e) (p : Nat) : rotI s m e p = p := by
  unfold rotI
  split
  · omega
  · split <;> omega
theorem rot_facts {xs zs : List (List D)} {a m b s e mid : Nat} (hA : SrtR xs a m) (hB : SrtR xs m b) (hz : ∀ p, kat zs p = kat xs (rotI s m e p)) (h1 : a ≤ s) (h2 : s ≤ m) (h3 : m ≤ e) (h4 : e ≤ b) (he : e + s = mid + m) (hs : s ≤ mid) (F1 : s = a ∨ e = b ∨ kat xs (s - 1) ≤ kat xs e) (F2 : s = m ∨ e = m ∨ kat xs (e - 1) ≤ kat xs s) :
    SrtR zs a s ∧ SrtR zs s mid ∧ SrtR zs mid e ∧ SrtR zs e b ∧ ∀ p q, a ≤ p → p < mid → mid ≤ q → q < b → kat zs p ≤ kat zs q := by
  have z1 : ∀ p, p < s → kat zs p = kat xs p := fun p h => by rw [hz, rotI, if_neg (by omega), if_neg (by omega)]
  have z2 : ∀ p, s ≤ p → p < mid → kat zs p = kat xs (p + (m - s)) := fun p h h' => by rw [hz, rotI, if_pos (by omega)]
  have z3 : ∀ p, mid ≤ p → p < e → kat zs p = kat xs (p - (e - m)) := fun p h h' => by rw [hz, rotI, if_neg (by omega), if_pos (by omega)]
  have z4 : ∀ p, e ≤ p → kat zs p = kat xs p := fun p h => by rw [hz, rotI, if_neg (by omega), if_neg (by omega)]
  refine ⟨fun p q g1 g2 g3 => ?_, fun p q g1 g2 g3 => ?_, fun p q g1 g2 g3 => ?_, fun p q g1 g2 g3 => ?_, fun p q g1 g2 g3 g4 => ?_⟩
  · rw [z1 p (by omega), z1 q (by omega)]; exact hA.le g1 (by omega) (by omega)
  · rw [z2 p g1 (by omega), z2 q (by omega) g3]; exact hB.le (by omega) (by omega) (by omega)
  · rw [z3 p g1 (by omega), z3 q (by omega) g3]; exact hA.le (by omega) (by omega) (by omega)
  · rw [z4 p g1, z4 q (by omega)]; exact hB.le (by omega) (by omega) (by omega)
  · by_cases c1 : p < s
    · rw [z1 p c1]
      by_cases c2 : q < e
      · rw [z3 q g3 c2]; exact hA.le g1 (by omega) (by omega)
      · rw [z4 q (by omega)]
        have q1 := hA.le (p := p) (q := s - 1) g1 (by omega) (by omega)
        have q2 := hB.le (p := e) (q := q) (by omega) (by omega) g4
        omega
    · rw [z2 p (by omega) g2]
      by_cases c2 : q < e
      · rw [z3 q g3 c2]
        have q1 := hB.le (p := p + (m - s)) (q := e - 1) (by omega) (by omega) (by omega)
        have q2 := hA.le (p := s) (q := q - (e - m)) (by omega) (by omega) (by omega)
        omega
      · rw [z4 q (by omega)]; exact hB.le (by omega) (by omega) g4
theorem halves_done {zs us vs : List (List D)} {a mid b : Nat} (hX : ∀ p q, a ≤ p → p < mid → mid ≤ q → q < b → kat zs p ≤ kat zs q) (h1 : Mv zs us a mid) (s1 : SrtR us a mid) (h2 : Mv us vs mid b) (s2 : SrtR vs mid b) : SrtR vs a b := by
  intro p q hp hpq hq
  by_cases c1 : q < mid
  · rw [kat_eq (h2.out p (by omega)), kat_eq (h2.out q (by omega))]; exact s1 p q hp hpq c1
  · by_cases c2 : mid ≤ p
    · exact s2 p q c2 hpq hq
    · rw [kat_eq (h2.out p (by omega))]
      obtain ⟨p', p1, p2, p3⟩ := h1.inn p hp (by omega)
      obtain ⟨q', q1, q2, q3⟩ := h2.inn q (by omega) hq
      rw [kat_eq p3, kat_eq q3, kat_eq (h1.out q' (by omega))]
      exact hX p' q' p1 p2 q1 q2
theorem SrtR.mv {xs ys : List (List D)} {a b c d : Nat} (h : SrtR xs c d) (hm : Mv xs ys a b) (ho : d ≤ a ∨ b ≤ c) : SrtR ys c d := fun p q h1 h2 h3 => by
  rw [kat_eq (hm.out p (by omega)), kat_eq (hm.out q (by omega))]; exact h p q h1 h2 h3
theorem SrtR.one (xs : List (List D)) {a b : Nat} (h : b ≤ a + 1) : SrtR xs a b := fun p q h1 h2 h3 => by omega
theorem ins1_step {xs zs : List (List D)} {a k : Nat} (hk : a ≤ k) (hl : k + 1 < zs.length) (h : ∀ p, kat zs p = kat xs (if a ≤ p ∧ p < k then p + 1 else if p = k then a else p)) (p : Nat) :
    kat ((zs.set k (zs[k + 1]'hl)).set (k + 1) (zs[k]'(by omega))) p = kat xs (if a ≤ p ∧ p < k + 1 then p + 1 else if p = k + 1 then a else p) := by
  rw [kat_swap]
  have e1 := h k
  rw [if_neg (by omega), if_pos rfl] at e1
  have e2 := h (k + 1)
  rw [if_neg (by omega), if_neg (by omega)] at e2
  by_cases c1 : p = k + 1
  · rw [if_pos c1, e1, if_neg (by omega), if_pos c1]
  · by_cases c2 : p = k
    · rw [if_neg c1, if_pos c2, e2, if_pos (by omega), c2]
    · rw [if_neg c1, if_neg c2, h p]
      by_cases c3 : a ≤ p ∧ p < k
      · rw [if_pos c3, if_pos (by omega)]
      · rw [if_neg c3, if_neg c2, if_neg (by omega), if_neg c1]
theorem ins2_step {xs zs : List (List D)} {m k : Nat} (hk : 0 < k) (hm : k ≤ m) (hl : k < zs.length) (h : ∀ p, kat zs p = kat xs (if k < p ∧ p ≤ m then p - 1 else if p = k then m else p)) (p : Nat) :
    kat ((zs.set k (zs[k - 1]'(by omega))).set (k - 1) (zs[k]'hl)) p = kat xs (if k - 1 < p ∧ p ≤ m then p - 1 else if p = k - 1 then m else p) := by
  rw [kat_swap]
  have e1 := h k
  rw [if_neg (by omega), if_pos rfl] at e1
  have e2 := h (k - 1)
  rw [if_neg (by omega), if_neg (by omega)] at e2
  by_cases c1 : p = k - 1
  · rw [if_pos c1, e1, if_neg (by omega), if_pos c1]
  · by_cases c2 : p = k
    · rw [if_neg c1, if_pos c2, e2, if_pos (by omega), c2]
    · rw [if_neg c1, if_neg c2, h p]
      by_cases c3 : k < p ∧ p ≤ m
      · rw [if_pos c3, if_pos (by omega)]
      · rw [if_neg c3, if_neg c2, if_neg (by omega), if_neg c1]
theorem half_wrap {x : Int} (h : 0 ≤ x) (h2 : x < 9223372036854775808) : IntKind.wrap .i64 (x / 2) = x / 2 := IntWalk.i64_in _ (by omega)
theorem rotF' {xs : List (List D)} (hx : ∀ c ∈ xs, tm c) {a m b : Nat} {A M B : Int} (hA : A = (a : Int)) (hM : M = (m : Int)) (hB : B = (b : Int)) (ham : a < m) (hmb : m < b) (hb : b ≤ xs.length) (hlen : xs.length ≤ 1000000000) (f : D) : FnS Try.prog 94 78 4 xs [.d (.v (.int .i64 A)), .d (.v (.int .i64 M)), .d (.v (.int .i64 B)), .d f] (fun ys => rotAt xs ys a m b ∧ Mv xs ys a b) := by
  subst hA hM hB
  exact rotF hx ham hmb hb hlen f
abbrev SymC (xs : List (List D)) (a m b : Nat) : Prop := FnS Try.prog 87 78 4 xs [.d (.v (.int .i64 (a : Int))), .d (.v (.int .i64 (m : Int))), .d (.v (.int .i64 (b : Int))), .d cmpV] (fun ys => Mv xs ys a b ∧ SrtR ys a b)
theorem SymC.cast {xs : List (List D)} {a m b : Nat} (h : SymC xs a m b) {A M B : Int} (hA : A = (a : Int)) (hM : M = (m : Int)) (hB : B = (b : Int)) : FnS Try.prog 87 78 4 xs [.d (.v (.int .i64 A)), .d (.v (.int .i64 M)), .d (.v (.int .i64 B)), .d cmpV] (fun ys => Mv xs ys a b ∧ SrtR ys a b) := by
  subst hA hM hB
  exact h
set_option maxRecDepth 100000 in
set_option maxHeartbeats 4000000 in
theorem symStep {xs : List (List D)} (hx : ∀ c ∈ xs, tm c) {a m b : Nat} (ham : a < m) (hmb : m < b) (hb : b ≤ xs.length) (hlen : xs.length ≤ 1000000000) (hA : SrtR xs a m) (hB : SrtR xs m b)
    (ih : ∀ (ys : List (List D)) (a' m' b' : Nat), (∀ c ∈ ys, tm c) → b' - a' < b - a → a' < m' → m' < b' → b' ≤ ys.length → ys.length ≤ 1000000000 → SrtR ys a' m' → SrtR ys m' b' → SymC ys a' m' b') : SymC xs a m b := by
  refine FnS.of Try.func87 rfl (by kernel_rfl) Try.ntmps87 Try.results87 rfl fun w0 S0 v => ?_
  refine wk ?_
  (first | intro K ms hms hK | intro K hK)
  ((try (first | intro K ms hms hK | intro K hK)); (first | refine Chain.eql rfl rfl rfl rfl rfl (fun h1 => ?_) (fun h1 => ?_) | refine Chain.eqlD rfl rfl rfl rfl rfl (fun h1 => ?_) (fun h1 => ?_)))
  · have hm : m = a + 1 := by omega
    subst hm
    refine wk ?_
    refine AC.loop (X := Nat × Nat) (fun x => ⟨[(0, .r 220 0), (1, .d (.v (.int .i64 (a : Int)))), (2, .d (.v (.int .i64 ((a + 1 : Nat) : Int)))), (3, .d (.v (.int .i64 (b : Int)))), (4, .d cmpV), (10, .d (.v (.int .i64 ((x.1 : Nat) : Int)))), (11, .d (.v (.int .i64 ((x.2 : Nat) : Int))))], [(220, .row 0 78 4 xs)]⟩) (fun x => a + 1 ≤ x.1 ∧ x.1 ≤ x.2 ∧ x.2 ≤ b ∧ (x.1 = a + 1 ∨ kat xs (x.1 - 1) < kat xs a) ∧ (x.2 = b ∨ kat xs a ≤ kat xs x.2)) (fun x => x.2 - x.1) (a + 1, b) ⟨Nat.le_refl _, by dsimp only; omega, Nat.le_refl _, .inl rfl, .inl rfl⟩ ⟨rfl, rfl, rfl, rfl, rfl, rfl, rfl, trivial⟩ ⟨rfl, trivial⟩ ?_
    rintro ⟨i, j⟩ ⟨hi, hij, hjb, hl, hr⟩
    dsimp only at hi hij hjb hl hr ⊢
    refine wk ?_
    (first | intro K ms hms hK | intro K hK)
    ((try (first | intro K ms hms hK | intro K hK)); (first | refine Chain.lss rfl rfl rfl rfl rfl (fun h2 => ?_) (fun h2 => ?_) | refine Chain.lssD rfl rfl rfl rfl rfl (fun h2 => ?_) (fun h2 => ?_)))
    · refine wk ?_
      ((try (first | intro K ms hms hK | intro K hK)); (first | apply Chain.go | apply Chain.goD); exact rfl; exact rfl; exact Loc.conv rfl rfl (wrap_u64 (by omega) (by omega)))
      ((try (first | intro K ms hms hK | intro K hK)); (first | apply Chain.go | apply Chain.goD); exact rfl; exact rfl; exact Loc.shr1 rfl rfl rfl)
      ((try (first | intro K ms hms hK | intro K hK)); (first | apply Chain.go | apply Chain.goD); exact rfl; exact rfl; exact Loc.conv rfl rfl (half_wrap (by omega) (by omega)))
      refine wk ?_
      ((try (first | intro K ms hms hK | intro K hK)); (first | apply Chain.go | apply Chain.goD); exact rfl; exact rfl; exact Loc.idxR (i := (i + j) / 2) rfl rfl rfl rfl (by omega) (by omega) rfl)
      refine wk ?_
      ((try (first | intro K ms hms hK | intro K hK)); (first | apply Chain.go | apply Chain.goD); exact rfl; exact rfl; exact Loc.loadEw rfl rfl rfl (tms_get hx (i := (i + j) / 2) (by omega)) rfl)
      refine wk ?_
      ((try (first | intro K ms hms hK | intro K hK)); (first | apply Chain.go | apply Chain.goD); exact rfl; exact rfl; exact Loc.loadEw rfl rfl rfl (tms_get hx (i := a) (by omega)) rfl)
      ((try (first | intro K ms hms hK | intro K hK)); (first | apply Chain.go | apply Chain.goD); exact rfl; exact rfl; refine Loc.callVD (cmpAt hx (i := (i + j) / 2) (j := a) (by omega) (by omega)) rfl rfl ?_; (repeat (first | exact trivial | refine ⟨.inl rfl, ?_⟩ | refine ⟨.inr rfl, ?_⟩)))
      ((try (first | intro K ms hms hK | intro K hK)); (first | refine Chain.lss rfl rfl rfl rfl rfl (fun h3 => ?_) (fun h3 => ?_) | refine Chain.lssD rfl rfl rfl rfl rfl (fun h3 => ?_) (fun h3 => ?_)))
      · rw [cmpK_neg] at h3
        refine wk ?_
        exact ⟨((i + j) / 2 + 1, j), ⟨by dsimp only; omega, by dsimp only; omega, hjb, .inr h3, hr⟩, by dsimp only; omega, ⟨rfl, rfl, rfl, rfl, rfl, iv (by dsimp only; omega), rfl, trivial⟩, ⟨rfl, trivial⟩⟩
      · rw [cmpK_neg] at h3
        refine wk ?_
        exact ⟨(i, (i + j) / 2), ⟨hi, by dsimp only; omega, by dsimp only; omega, hl, .inr (by dsimp only; omega)⟩, by dsimp only; omega, ⟨rfl, rfl, rfl, rfl, rfl, rfl, iv (by dsimp only; omega), trivial⟩, ⟨rfl, trivial⟩⟩
    · have : i = j := by omega
      subst this
      refine wk ?_
      refine AC.loop (X := Nat × List (List D)) (fun x => ⟨[(0, .r 220 0), (10, .d (.v (.int .i64 (i : Int)))), (13, .d (.v (.int .i64 ((x.1 : Nat) : Int))))], [(220, .row 0 78 4 x.2)]⟩) (fun x => a ≤ x.1 ∧ x.1 ≤ i - 1 ∧ Mv xs x.2 a b ∧ ∀ p, kat x.2 p = kat xs (if a ≤ p ∧ p < x.1 then p + 1 else if p = x.1 then a else p)) (fun x => i - x.1) (a, xs) ⟨Nat.le_refl _, by dsimp only; omega, .refl _ _ _, fun p => by dsimp only; rw [if_neg (by omega)]; split <;> simp_all⟩ ⟨rfl, rfl, rfl, trivial⟩ ⟨rfl, trivial⟩ ?_
      rintro ⟨k, zs⟩ ⟨hk, hki, hmz, hkz⟩
      dsimp only at hk hki hmz hkz ⊢
      have hz := hmz.tms hx
      have hzl := hmz.len
      refine wk ?_
      (first | intro K ms hms hK | intro K hK)
      ((try (first | intro K ms hms hK | intro K hK)); (first | refine Chain.lss rfl rfl rfl rfl rfl (fun h2 => ?_) (fun h2 => ?_) | refine Chain.lssD rfl rfl rfl rfl rfl (fun h2 => ?_) (fun h2 => ?_)))
      · refine wk ?_
        ((try (first | intro K ms hms hK | intro K hK)); (first | apply Chain.go | apply Chain.goD); exact rfl; exact rfl; exact Loc.idxR (i := k + 1) rfl rfl rfl rfl (by omega) (by omega) rfl)
        refine wk ?_
        ((try (first | intro K ms hms hK | intro K hK)); (first | apply Chain.go | apply Chain.goD); exact rfl; exact rfl; exact Loc.loadEw rfl rfl rfl (tms_get hz (i := k + 1) (by omega)) rfl)
        refine wk ?_
        ((try (first | intro K ms hms hK | intro K hK)); (first | apply Chain.go | apply Chain.goD); exact rfl; exact rfl; exact Loc.loadEw rfl rfl rfl (tms_get hz (i := k) (by omega)) rfl)
        refine wk ?_
        ((try (first | intro K ms hms hK | intro K hK)); (first | apply Chain.st | apply Chain.stD); exact rfl; exact rfl; exact Do.storeEw rfl rfl rfl ⟨_, tms_get hz (i := k) (by omega)⟩ rfl ⟨(hz _ (List.getElem_mem _)).2, (hz _ (List.getElem_mem _)).len⟩ rfl rfl rfl; exact rfl; exact rfl)
        have hy1 : ∀ c ∈ zs.set k (zs[k + 1]'(by omega)), tm c := tms_set hz (hz _ (List.getElem_mem _))
        have hl1 : (zs.set k (zs[k + 1]'(by omega))).length = zs.length := by simp
        ((try (first | intro K ms hms hK | intro K hK)); (first | apply Chain.go | apply Chain.goD); exact rfl; exact rfl; exact Loc.idxR (i := k + 1) rfl rfl rfl rfl (by omega) (by omega) rfl)
        refine wk ?_
        ((try (first | intro K ms hms hK | intro K hK)); (first | apply Chain.st | apply Chain.stD); exact rfl; exact rfl; exact Do.storeEw rfl rfl rfl ⟨_, tms_get hy1 (i := k + 1) (by omega)⟩ rfl ⟨(hz _ (List.getElem_mem _)).2, (hz _ (List.getElem_mem _)).len⟩ rfl rfl rfl; exact rfl; exact rfl)
        refine wk ?_
        exact ⟨(k + 1, _), ⟨by dsimp only; omega, by dsimp only; omega, hmz.trans (.swap zs (by omega) (by omega) (by omega) (by omega)), ins1_step hk (by omega) hkz⟩, by dsimp only; omega, ⟨rfl, rfl, rfl, trivial⟩, ⟨rfl, trivial⟩⟩
      · refine wk ?_
        have hk' : k = i - 1 := by omega
        subst hk'
        exact ⟨zs, ⟨hmz, ins1_done hB hi hjb hl hr hkz⟩, rfl⟩
  · refine wk ?_
    (first | intro K ms hms hK | intro K hK)
    ((try (first | intro K ms hms hK | intro K hK)); (first | refine Chain.eql rfl rfl rfl rfl rfl (fun h2 => ?_) (fun h2 => ?_) | refine Chain.eqlD rfl rfl rfl rfl rfl (fun h2 => ?_) (fun h2 => ?_)))
    · have hm : b = m + 1 := by omega
      subst hm
      refine wk ?_
      refine AC.loop (X := Nat × Nat) (fun x => ⟨[(0, .r 220 0), (1, .d (.v (.int .i64 (a : Int)))), (2, .d (.v (.int .i64 (m : Int)))), (3, .d (.v (.int .i64 ((m + 1 : Nat) : Int)))), (4, .d cmpV), (14, .d (.v (.int .i64 ((x.1 : Nat) : Int)))), (15, .d (.v (.int .i64 ((x.2 : Nat) : Int))))], [(220, .row 0 78 4 xs)]⟩) (fun x => a ≤ x.1 ∧ x.1 ≤ x.2 ∧ x.2 ≤ m ∧ (x.1 = a ∨ kat xs (x.1 - 1) ≤ kat xs m) ∧ (x.2 = m ∨ kat xs m < kat xs x.2)) (fun x => x.2 - x.1) (a, m) ⟨Nat.le_refl _, by dsimp only; omega, Nat.le_refl _, .inl rfl, .inl rfl⟩ ⟨rfl, rfl, rfl, rfl, rfl, rfl, rfl, trivial⟩ ⟨rfl, trivial⟩ ?_
      rintro ⟨i, j⟩ ⟨hi, hij, hjb, hl, hr⟩
      dsimp only at hi hij hjb hl hr ⊢
      refine wk ?_
      (first | intro K ms hms hK | intro K hK)
      ((try (first | intro K ms hms hK | intro K hK)); (first | refine Chain.lss rfl rfl rfl rfl rfl (fun h3 => ?_) (fun h3 => ?_) | refine Chain.lssD rfl rfl rfl rfl rfl (fun h3 => ?_) (fun h3 => ?_)))
      · refine wk ?_
        ((try (first | intro K ms hms hK | intro K hK)); (first | apply Chain.go | apply Chain.goD); exact rfl; exact rfl; exact Loc.conv rfl rfl (wrap_u64 (by omega) (by omega)))
        ((try (first | intro K ms hms hK | intro K hK)); (first | apply Chain.go | apply Chain.goD); exact rfl; exact rfl; exact Loc.shr1 rfl rfl rfl)
        ((try (first | intro K ms hms hK | intro K hK)); (first | apply Chain.go | apply Chain.goD); exact rfl; exact rfl; exact Loc.conv rfl rfl (half_wrap (by omega) (by omega)))
        refine wk ?_
        ((try (first | intro K ms hms hK | intro K hK)); (first | apply Chain.go | apply Chain.goD); exact rfl; exact rfl; exact Loc.loadEw rfl rfl rfl (tms_get hx (i := m) (by omega)) rfl)
        refine wk ?_
        ((try (first | intro K ms hms hK | intro K hK)); (first | apply Chain.go | apply Chain.goD); exact rfl; exact rfl; exact Loc.idxR (i := (i + j) / 2) rfl rfl rfl rfl (by omega) (by omega) rfl)
        refine wk ?_
        ((try (first | intro K ms hms hK | intro K hK)); (first | apply Chain.go | apply Chain.goD); exact rfl; exact rfl; exact Loc.loadEw rfl rfl rfl (tms_get hx (i := (i + j) / 2) (by omega)) rfl)
        ((try (first | intro K ms hms hK | intro K hK)); (first | apply Chain.go | apply Chain.goD); exact rfl; exact rfl; refine Loc.callVD (cmpAt hx (i := m) (j := (i + j) / 2) (by omega) (by omega)) rfl rfl ?_; (repeat (first | exact trivial | refine ⟨.inl rfl, ?_⟩ | refine ⟨.inr rfl, ?_⟩)))
        ((try (first | intro K ms hms hK | intro K hK)); (first | refine Chain.lss rfl rfl rfl rfl rfl (fun h4 => ?_) (fun h4 => ?_) | refine Chain.lssD rfl rfl rfl rfl rfl (fun h4 => ?_) (fun h4 => ?_)))
        · rw [cmpK_neg] at h4
          refine wk ?_
          exact ⟨(i, (i + j) / 2), ⟨hi, by dsimp only; omega, by dsimp only; omega, hl, .inr h4⟩, by dsimp only; omega, ⟨rfl, rfl, rfl, rfl, rfl, rfl, iv (by dsimp only; omega), trivial⟩, ⟨rfl, trivial⟩⟩
        · rw [cmpK_neg] at h4
          refine wk ?_
          exact ⟨((i + j) / 2 + 1, j), ⟨by dsimp only; omega, by dsimp only; omega, hjb, .inr (by dsimp only; rw [Nat.add_sub_cancel]; omega), hr⟩, by dsimp only; omega, ⟨rfl, rfl, rfl, rfl, rfl, iv (by dsimp only; omega), rfl, trivial⟩, ⟨rfl, trivial⟩⟩
      · have : i = j := by omega
        subst this
        refine wk ?_
        refine AC.loop (X := Nat × List (List D)) (fun x => ⟨[(0, .r 220 0), (14, .d (.v (.int .i64 (i : Int)))), (17, .d (.v (.int .i64 ((x.1 : Nat) : Int))))], [(220, .row 0 78 4 x.2)]⟩) (fun x => i ≤ x.1 ∧ x.1 ≤ m ∧ Mv xs x.2 a (m + 1) ∧ ∀ p, kat x.2 p = kat xs (if x.1 < p ∧ p ≤ m then p - 1 else if p = x.1 then m else p)) (fun x => x.1) (m, xs) ⟨hjb, Nat.le_refl _, .refl _ _ _, fun p => by dsimp only; rw [if_neg (by omega)]; split <;> simp_all⟩ ⟨rfl, rfl, rfl, trivial⟩ ⟨rfl, trivial⟩ ?_
        rintro ⟨k, zs⟩ ⟨hk, hki, hmz, hkz⟩
        dsimp only at hk hki hmz hkz ⊢
        have hz := hmz.tms hx
        have hzl := hmz.len
        refine wk ?_
        (first | intro K ms hms hK | intro K hK)
        ((try (first | intro K ms hms hK | intro K hK)); (first | refine Chain.gtr rfl rfl rfl rfl rfl (fun h3 => ?_) (fun h3 => ?_) | refine Chain.gtrD rfl rfl rfl rfl rfl (fun h3 => ?_) (fun h3 => ?_)))
        · refine wk ?_
          ((try (first | intro K ms hms hK | intro K hK)); (first | apply Chain.go | apply Chain.goD); exact rfl; exact rfl; exact Loc.idxR (i := k - 1) rfl rfl rfl rfl (by omega) (by omega) rfl)
          refine wk ?_
          ((try (first | intro K ms hms hK | intro K hK)); (first | apply Chain.go | apply Chain.goD); exact rfl; exact rfl; exact Loc.loadEw rfl rfl rfl (tms_get hz (i := k - 1) (by omega)) rfl)
          refine wk ?_
          ((try (first | intro K ms hms hK | intro K hK)); (first | apply Chain.go | apply Chain.goD); exact rfl; exact rfl; exact Loc.loadEw rfl rfl rfl (tms_get hz (i := k) (by omega)) rfl)
          refine wk ?_
          ((try (first | intro K ms hms hK | intro K hK)); (first | apply Chain.st | apply Chain.stD); exact rfl; exact rfl; exact Do.storeEw rfl rfl rfl ⟨_, tms_get hz (i := k) (by omega)⟩ rfl ⟨(hz _ (List.getElem_mem _)).2, (hz _ (List.getElem_mem _)).len⟩ rfl rfl rfl; exact rfl; exact rfl)
          have hy1 : ∀ c ∈ zs.set k (zs[k - 1]'(by omega)), tm c := tms_set hz (hz _ (List.getElem_mem _))
          have hl1 : (zs.set k (zs[k - 1]'(by omega))).length = zs.length := by simp
          ((try (first | intro K ms hms hK | intro K hK)); (first | apply Chain.go | apply Chain.goD); exact rfl; exact rfl; exact Loc.idxR (i := k - 1) rfl rfl rfl rfl (by omega) (by omega) rfl)
          refine wk ?_
          ((try (first | intro K ms hms hK | intro K hK)); (first | apply Chain.st | apply Chain.stD); exact rfl; exact rfl; exact Do.storeEw rfl rfl rfl ⟨_, tms_get hy1 (i := k - 1) (by omega)⟩ rfl ⟨(hz _ (List.getElem_mem _)).2, (hz _ (List.getElem_mem _)).len⟩ rfl rfl rfl; exact rfl; exact rfl)
          refine wk ?_
          exact ⟨(k - 1, _), ⟨by dsimp only; omega, by dsimp only; omega, hmz.trans (.swap zs (by omega) (by omega) (by omega) (by omega)), ins2_step (by omega) hki (by omega) hkz⟩, by dsimp only; omega, ⟨rfl, rfl, iv (by dsimp only; omega), trivial⟩, ⟨rfl, trivial⟩⟩
        · refine wk ?_
          have hk' : k = i := by omega
          subst hk'
          exact ⟨zs, ⟨hmz, ins2_done hA hi hki hl hr hkz⟩, rfl⟩
    · refine wk ?_
      ((try (first | intro K ms hms hK | intro K hK)); (first | apply Chain.go | apply Chain.goD); exact rfl; exact rfl; exact Loc.conv rfl rfl (wrap_u64 (by omega) (by omega)))
      ((try (first | intro K ms hms hK | intro K hK)); (first | apply Chain.go | apply Chain.goD); exact rfl; exact rfl; exact Loc.shr1 rfl rfl rfl)
      ((try (first | intro K ms hms hK | intro K hK)); (first | apply Chain.go | apply Chain.goD); exact rfl; exact rfl; exact Loc.conv rfl rfl (half_wrap (by omega) (by omega)))
      refine wk ?_
      obtain ⟨mid, hmid⟩ : ∃ mid, mid = (a + b) / 2 := ⟨_, rfl⟩
      obtain ⟨s0, r0, hs0⟩ : ∃ s0 r0 : Nat, (mid < m ∧ s0 + b = mid + m ∧ r0 = mid) ∨ (m ≤ mid ∧ s0 = a ∧ r0 = m) := by
        by_cases h : mid < m
        · exact ⟨mid + m - b, mid, .inl ⟨h, by omega, rfl⟩⟩
        · exact ⟨a, m, .inr ⟨by omega, rfl, rfl⟩⟩
      (first | intro K ms hms hK | intro K hK)
      ((try (first | intro K ms hms hK | intro K hK)); (first | refine Chain.gtr rfl rfl rfl rfl rfl (fun h3 => ?_) (fun h3 => ?_) | refine Chain.gtrD rfl rfl rfl rfl rfl (fun h3 => ?_) (fun h3 => ?_)))
      all_goals refine wk ?_
      all_goals refine AC.loop (X := Nat × Nat) (fun x => ⟨[(0, .r 220 0), (1, .d (.v (.int .i64 (a : Int)))), (2, .d (.v (.int .i64 (m : Int)))), (3, .d (.v (.int .i64 (b : Int)))), (4, .d cmpV), (18, .d (.v (.int .i64 (mid : Int)))), (19, .d (.v (.int .i64 ((mid + m : Nat) : Int)))), (22, .d (.v (.int .i64 ((mid + m - 1 : Nat) : Int)))), (20, .d (.v (.int .i64 ((x.1 : Nat) : Int)))), (21, .d (.v (.int .i64 ((x.2 : Nat) : Int))))], [(220, .row 0 78 4 xs)]⟩) (fun x => s0 ≤ x.1 ∧ x.1 ≤ x.2 ∧ x.2 ≤ r0 ∧ (x.1 = s0 ∨ kat xs (x.1 - 1) ≤ kat xs (mid + m - x.1)) ∧ (x.2 = r0 ∨ kat xs (mid + m - 1 - x.2) ≤ kat xs x.2)) (fun x => x.2 - x.1) (s0, r0) ⟨Nat.le_refl _, by dsimp only; omega, Nat.le_refl _, .inl rfl, .inl rfl⟩ ⟨rfl, rfl, rfl, rfl, rfl, iv (by omega), iv (by omega), iv (by omega), iv (by dsimp only; omega), iv (by dsimp only; omega), trivial⟩ ⟨rfl, trivial⟩ ?_
      all_goals rintro ⟨s, r⟩ ⟨hs, hsr, hr0, hl, hr⟩
      all_goals dsimp only at hs hsr hr0 hl hr ⊢
      all_goals refine wk ?_
      all_goals (first | intro K ms hms hK | intro K hK)
      all_goals ((try (first | intro K ms hms hK | intro K hK)); (first | refine Chain.lss rfl rfl rfl rfl rfl (fun h4 => ?_) (fun h4 => ?_) | refine Chain.lssD rfl rfl rfl rfl rfl (fun h4 => ?_) (fun h4 => ?_)))
      · refine wk ?_
        ((try (first | intro K ms hms hK | intro K hK)); (first | apply Chain.go | apply Chain.goD); exact rfl; exact rfl; exact Loc.conv rfl rfl (wrap_u64 (by omega) (by omega)))
        ((try (first | intro K ms hms hK | intro K hK)); (first | apply Chain.go | apply Chain.goD); exact rfl; exact rfl; exact Loc.shr1 rfl rfl rfl)
        ((try (first | intro K ms hms hK | intro K hK)); (first | apply Chain.go | apply Chain.goD); exact rfl; exact rfl; exact Loc.conv rfl rfl (half_wrap (by omega) (by omega)))
        refine wk ?_
        ((try (first | intro K ms hms hK | intro K hK)); (first | apply Chain.go | apply Chain.goD); exact rfl; exact rfl; exact Loc.idxR (i := mid + m - 1 - (s + r) / 2) rfl rfl rfl rfl (by omega) (by omega) rfl)
        refine wk ?_
        ((try (first | intro K ms hms hK | intro K hK)); (first | apply Chain.go | apply Chain.goD); exact rfl; exact rfl; exact Loc.loadEw rfl rfl rfl (tms_get hx (i := mid + m - 1 - (s + r) / 2) (by omega)) rfl)
        refine wk ?_
        ((try (first | intro K ms hms hK | intro K hK)); (first | apply Chain.go | apply Chain.goD); exact rfl; exact rfl; exact Loc.idxR (i := (s + r) / 2) rfl rfl rfl rfl (by omega) (by omega) rfl)
        refine wk ?_
        ((try (first | intro K ms hms hK | intro K hK)); (first | apply Chain.go | apply Chain.goD); exact rfl; exact rfl; exact Loc.loadEw rfl rfl rfl (tms_get hx (i := (s + r) / 2) (by omega)) rfl)
        ((try (first | intro K ms hms hK | intro K hK)); (first | apply Chain.go | apply Chain.goD); exact rfl; exact rfl; refine Loc.callVD (cmpAt hx (i := mid + m - 1 - (s + r) / 2) (j := (s + r) / 2) (by omega) (by omega)) rfl rfl ?_; (repeat (first | exact trivial | refine ⟨.inl rfl, ?_⟩ | refine ⟨.inr rfl, ?_⟩)))
        ((try (first | intro K ms hms hK | intro K hK)); (first | refine Chain.lss rfl rfl rfl rfl rfl (fun h5 => ?_) (fun h5 => ?_) | refine Chain.lssD rfl rfl rfl rfl rfl (fun h5 => ?_) (fun h5 => ?_)))
        · rw [cmpK_neg] at h5
          refine wk ?_
          exact ⟨(s, (s + r) / 2), ⟨hs, by dsimp only; omega, by dsimp only; omega, hl, .inr (by dsimp only; omega)⟩, by dsimp only; omega, ⟨rfl, rfl, rfl, rfl, rfl, rfl, rfl, rfl, rfl, iv (by dsimp only; omega), trivial⟩, ⟨rfl, trivial⟩⟩
        · rw [cmpK_neg] at h5
          refine wk ?_
          exact ⟨((s + r) / 2 + 1, r), ⟨by dsimp only; omega, by dsimp only; omega, hr0, .inr (by dsimp only; rw [Nat.add_sub_cancel, show mid + m - ((s + r) / 2 + 1) = mid + m - 1 - (s + r) / 2 by omega]; omega), hr⟩, by dsimp only; omega, ⟨rfl, rfl, rfl, rfl, rfl, rfl, rfl, rfl, iv (by dsimp only; omega), rfl, trivial⟩, ⟨rfl, trivial⟩⟩
      · have : s = r := by omega
        subst this
        (repeat (first
      | refine Chain.no rfl rfl ?_
      | refine Chain.noD rfl rfl ?_
      | ((first | apply Chain.go | apply Chain.goD); exact rfl; exact rfl; first
        | exact Loc.move (v := .d _) rfl rfl
        | exact Loc.assign (v := .d _) rfl rfl
        | exact Loc.loadP1 rfl rfl rfl rfl
        | exact Loc.loadQ1 rfl rfl rfl
        | exact Loc.fieldP rfl rfl rfl
        | exact Loc.fieldQ rfl rfl
        | exact Loc.pickT (v := .d _) rfl rfl rfl
        | exact Loc.pickF (v := .d _) rfl rfl rfl
        | exact Loc.loadPn rfl rfl rfl rfl (by kernel_rfl)
        | exact Loc.loadQw rfl rfl rfl
        | exact Loc.loadQn rfl rfl rfl rfl
        | exact Loc.idxM rfl rfl rfl rfl (by assumption) rfl
        | exact Loc.lenM rfl rfl
        | exact Loc.lenN rfl rfl
        | exact Loc.lenR rfl rfl rfl
        | exact Loc.len rfl rfl
        | exact Loc.lssT rfl rfl rfl (by omega)
        | exact Loc.lssF rfl rfl rfl (by omega)
        | exact Loc.eqlT rfl rfl rfl (by omega)
        | exact Loc.eqlF rfl rfl rfl (by omega)
        | exact Loc.neqT rfl rfl rfl (by omega)
        | exact Loc.neqF rfl rfl rfl (by omega)
        | exact Loc.gtrT rfl rfl rfl (by omega)
        | exact Loc.gtrF rfl rfl rfl (by omega)
        | exact Loc.geqT rfl rfl rfl (by omega)
        | exact Loc.geqF rfl rfl rfl (by omega)
        | exact Loc.leqT rfl rfl rfl (by omega)
        | exact Loc.leqF rfl rfl rfl (by omega)
        | exact Loc.add rfl rfl rfl (IntWalk.i64_in _ (by omega))
        | exact Loc.sub rfl rfl rfl (IntWalk.i64_in _ (by omega))
        | exact Loc.notT rfl rfl
        | exact Loc.notF rfl rfl
        | exact Loc.fieldE rfl rfl rfl
        | exact Loc.loadE1 rfl rfl rfl (by assumption) rfl
        | exact Loc.idxR rfl rfl rfl rfl rfl (by omega) rfl
        | exact Loc.move (v := .g _) rfl rfl
        | exact Loc.move (v := .p _ _) rfl rfl
        | exact Loc.move (v := .r _ _) rfl rfl
        | exact Loc.move (v := .t _) rfl rfl
        | exact Loc.assign (v := .g _) rfl rfl
        | exact Loc.assign (v := .r _ _) rfl rfl
        | exact Loc.assign (v := .p _ _) rfl rfl
        | exact Loc.extract (v := .d _) rfl rfl rfl rfl
        | exact Loc.extract (v := .g _) rfl rfl rfl rfl
        | exact Loc.pickT (v := .g _) rfl rfl rfl
        | exact Loc.pickF (v := .g _) rfl rfl rfl
        | exact Loc.move (v := .un) rfl rfl
        | exact Loc.build rfl rfl rfl rfl
        | exact Loc.litP rfl rfl rfl rfl rfl rfl rfl)
      | refine Chain.nil0 (hK _ ?_)
      | ((first | apply Chain.st | apply Chain.stD); exact rfl; exact rfl; (first
        | exact Do.storeP rfl rfl rfl rfl .g rfl rfl rfl
        | exact Do.storeP rfl rfl rfl rfl .d rfl rfl rfl
        | exact Do.storeP rfl rfl rfl rfl (.r rfl) rfl rfl rfl); exact rfl; exact rfl)
      | ((first | apply Chain.ef | apply Chain.efD); exact rfl; exact rfl; (first
        | exact Do.alloc rfl rfl rfl
        | exact Do.box rfl rfl rfl .g rfl
        | exact Do.box rfl rfl rfl .d rfl
        | exact Do.lit0 rfl rfl
        | exact Do.append1 rfl rfl rfl rfl rfl rfl (by first | omega | (simp; omega))
        | exact Do.appendN1 rfl rfl rfl rfl rfl rfl); exact rfl; exact rfl)
      | refine Chain.nilD (by rw [hms]; kernel_rfl) (hK _ ?_)
      | refine Chain.noN rfl rfl ?_))
        refine AC.condF rfl ?_
        refine AC.exit ?_
        refine AC.seq ?_
        refine AC.reg (by decide +kernel) ?_
        (first | intro K ms hms hK | intro K hK)
        (repeat (first
      | refine Chain.no rfl rfl ?_
      | refine Chain.noD rfl rfl ?_
      | ((first | apply Chain.go | apply Chain.goD); exact rfl; exact rfl; first
        | exact Loc.move (v := .d _) rfl rfl
        | exact Loc.assign (v := .d _) rfl rfl
        | exact Loc.loadP1 rfl rfl rfl rfl
        | exact Loc.loadQ1 rfl rfl rfl
        | exact Loc.fieldP rfl rfl rfl
        | exact Loc.fieldQ rfl rfl
        | exact Loc.pickT (v := .d _) rfl rfl rfl
        | exact Loc.pickF (v := .d _) rfl rfl rfl
        | exact Loc.loadPn rfl rfl rfl rfl (by kernel_rfl)
        | exact Loc.loadQw rfl rfl rfl
        | exact Loc.loadQn rfl rfl rfl rfl
        | exact Loc.idxM rfl rfl rfl rfl (by assumption) rfl
        | exact Loc.lenM rfl rfl
        | exact Loc.lenN rfl rfl
        | exact Loc.lenR rfl rfl rfl
        | exact Loc.len rfl rfl
        | exact Loc.lssT rfl rfl rfl (by omega)
        | exact Loc.lssF rfl rfl rfl (by omega)
        | exact Loc.eqlT rfl rfl rfl (by omega)
        | exact Loc.eqlF rfl rfl rfl (by omega)
        | exact Loc.neqT rfl rfl rfl (by omega)
        | exact Loc.neqF rfl rfl rfl (by omega)
        | exact Loc.gtrT rfl rfl rfl (by omega)
        | exact Loc.gtrF rfl rfl rfl (by omega)
        | exact Loc.geqT rfl rfl rfl (by omega)
        | exact Loc.geqF rfl rfl rfl (by omega)
        | exact Loc.leqT rfl rfl rfl (by omega)
        | exact Loc.leqF rfl rfl rfl (by omega)
        | exact Loc.add rfl rfl rfl (IntWalk.i64_in _ (by omega))
        | exact Loc.sub rfl rfl rfl (IntWalk.i64_in _ (by omega))
        | exact Loc.notT rfl rfl
        | exact Loc.notF rfl rfl
        | exact Loc.fieldE rfl rfl rfl
        | exact Loc.loadE1 rfl rfl rfl (by assumption) rfl
        | exact Loc.idxR rfl rfl rfl rfl rfl (by omega) rfl
        | exact Loc.move (v := .g _) rfl rfl
        | exact Loc.move (v := .p _ _) rfl rfl
        | exact Loc.move (v := .r _ _) rfl rfl
        | exact Loc.move (v := .t _) rfl rfl
        | exact Loc.assign (v := .g _) rfl rfl
        | exact Loc.assign (v := .r _ _) rfl rfl
        | exact Loc.assign (v := .p _ _) rfl rfl
        | exact Loc.extract (v := .d _) rfl rfl rfl rfl
        | exact Loc.extract (v := .g _) rfl rfl rfl rfl
        | exact Loc.pickT (v := .g _) rfl rfl rfl
        | exact Loc.pickF (v := .g _) rfl rfl rfl
        | exact Loc.move (v := .un) rfl rfl
        | exact Loc.build rfl rfl rfl rfl
        | exact Loc.litP rfl rfl rfl rfl rfl rfl rfl)
      | refine Chain.nil0 (hK _ ?_)
      | ((first | apply Chain.st | apply Chain.stD); exact rfl; exact rfl; (first
        | exact Do.storeP rfl rfl rfl rfl .g rfl rfl rfl
        | exact Do.storeP rfl rfl rfl rfl .d rfl rfl rfl
        | exact Do.storeP rfl rfl rfl rfl (.r rfl) rfl rfl rfl); exact rfl; exact rfl)
      | ((first | apply Chain.ef | apply Chain.efD); exact rfl; exact rfl; (first
        | exact Do.alloc rfl rfl rfl
        | exact Do.box rfl rfl rfl .g rfl
        | exact Do.box rfl rfl rfl .d rfl
        | exact Do.lit0 rfl rfl
        | exact Do.append1 rfl rfl rfl rfl rfl rfl (by first | omega | (simp; omega))
        | exact Do.appendN1 rfl rfl rfl rfl rfl rfl); exact rfl; exact rfl)
      | refine Chain.nilD (by rw [hms]; kernel_rfl) (hK _ ?_)
      | refine Chain.noN rfl rfl ?_))
        have hse : s ≤ mid := by omega
        refine AC.seq ?_
        refine AC.join (X := List (List D)) (fun zs => ⟨[(0, .r 220 0), (1, .d (.v (.int .i64 (a : Int)))), (3, .d (.v (.int .i64 (b : Int)))), (4, .d cmpV), (18, .d (.v (.int .i64 (mid : Int)))), (20, .d (.v (.int .i64 (s : Int)))), (24, .d (.v (.int .i64 ((mid + m - s : Nat) : Int))))], [(220, .row 0 78 4 zs)]⟩) (fun zs => rotAt xs zs s m (mid + m - s) ∧ Mv xs zs a b) ?_ ?_
        · by_cases c1 : s < m
          · by_cases c2 : m < mid + m - s
            · refine wk ?_
              ((try (first | intro K ms hms hK | intro K hK)); refine Chain.callS rfl rfl (rotF' (a := s) (m := m) (b := mid + m - s) hx rfl rfl (show ((mid + m : Nat) : Int) - (s : Int) = ((mid + m - s : Nat) : Int) by omega) c1 c2 (by omega) hlen cmpV) rfl rfl rfl ?_ ?_; (focus ((repeat (first | exact trivial | refine ⟨.inl rfl, ?_⟩ | refine ⟨.inr rfl, ?_⟩)))))
              rintro zs ⟨hr1, hm1⟩
              refine wk ?_
              exact ⟨zs, ⟨hr1, hm1.mono (by omega) (by omega)⟩, ⟨rfl, rfl, rfl, rfl, rfl, rfl, iv (by omega), trivial⟩, ⟨rfl, trivial⟩⟩
            · first
              | (exfalso; omega)
              | (refine wk ?_
                 exact ⟨xs, ⟨⟨rfl, fun p => by rw [rotI_id (.inr (by omega)) (by omega) (by omega)]⟩, .refl _ _ _⟩, ⟨rfl, rfl, rfl, rfl, rfl, rfl, iv (by omega), trivial⟩, ⟨rfl, trivial⟩⟩)
          · first
            | (exfalso; omega)
            | (refine wk ?_
               exact ⟨xs, ⟨⟨rfl, fun p => by rw [rotI_id (.inl (by omega)) (by omega) (by omega)]⟩, .refl _ _ _⟩, ⟨rfl, rfl, rfl, rfl, rfl, rfl, iv (by omega), trivial⟩, ⟨rfl, trivial⟩⟩)
        rintro zs ⟨hrot, hmz⟩
        have hz := hmz.tms hx
        have hzl := hmz.len
        obtain ⟨f1, f2, f3, f4, f5⟩ := rot_facts (mid := mid) hA hB (fun p => kat_eq (hrot.2 p)) (by omega) (by omega) (by omega) (by omega) (by omega) (by omega) (by
          rcases hl with hl | hl
          · rcases hs0 with h | h
            · exact .inr (.inl (by omega))
            · exact .inl (by omega)
          · exact .inr (.inr hl)) (by
          rcases hr with hr | hr
          · rcases hs0 with h | h
            · exact .inr (.inl (by omega))
            · exact .inl (by omega)
          · exact .inr (.inr (by rw [show mid + m - s - 1 = mid + m - 1 - s by omega]; exact hr)))
        refine AC.seq ?_
        refine AC.join (X := List (List D)) (fun us => ⟨[(0, .r 220 0), (3, .d (.v (.int .i64 (b : Int)))), (4, .d cmpV), (18, .d (.v (.int .i64 (mid : Int)))), (24, .d (.v (.int .i64 ((mid + m - s : Nat) : Int))))], [(220, .row 0 78 4 us)]⟩) (fun us => Mv zs us a mid ∧ SrtR us a mid) ?_ ?_
        · by_cases c1 : a < s
          · by_cases c2 : s < mid
            · refine wk ?_
              ((try (first | intro K ms hms hK | intro K hK)); refine Chain.callS rfl rfl ((ih zs a s mid hz (by omega) c1 c2 (by omega) (by omega) f1 f2).cast rfl rfl rfl) rfl rfl rfl ?_ ?_; (focus ((repeat (first | exact trivial | refine ⟨.inl rfl, ?_⟩ | refine ⟨.inr rfl, ?_⟩)))))
              rintro us ⟨hr1, hm1⟩
              refine wk ?_
              exact ⟨us, ⟨hr1, hm1⟩, ⟨rfl, rfl, rfl, rfl, rfl, trivial⟩, ⟨rfl, trivial⟩⟩
            · first
              | (exfalso; omega)
              | (refine wk ?_
                 have : mid = s := by omega
                 exact ⟨zs, ⟨.refl _ _ _, by rw [this]; exact f1⟩, ⟨rfl, rfl, rfl, rfl, rfl, trivial⟩, ⟨rfl, trivial⟩⟩)
          · first
            | (exfalso; omega)
            | (refine wk ?_
               have : a = s := by omega
               exact ⟨zs, ⟨.refl _ _ _, by rw [this]; exact f2⟩, ⟨rfl, rfl, rfl, rfl, rfl, trivial⟩, ⟨rfl, trivial⟩⟩)
        rintro us ⟨hmu, hsu⟩
        have hu := hmu.tms hz
        have hul := hmu.len
        have hmu2 := hmz.trans (hmu.mono (a' := a) (b' := b) (by omega) (by omega))
        by_cases c1 : mid < mid + m - s
        · by_cases c2 : mid + m - s < b
          · refine wk ?_
            ((try (first | intro K ms hms hK | intro K hK)); refine Chain.callS rfl rfl ((ih us mid (mid + m - s) b hu (by omega) c1 c2 (by omega) (by omega) (f3.mv hmu (.inr (by omega))) (f4.mv hmu (.inr (by omega)))).cast rfl rfl rfl) rfl rfl rfl ?_ ?_; (focus ((repeat (first | exact trivial | refine ⟨.inl rfl, ?_⟩ | refine ⟨.inr rfl, ?_⟩)))))
            rintro vs ⟨hr1, hm1⟩
            refine wk ?_
            exact ⟨vs, ⟨hmu2.trans (hr1.mono (by omega) (by omega)), halves_done f5 hmu hsu hr1 hm1⟩, rfl⟩
          · first
            | (exfalso; omega)
            | (refine wk ?_
               have e1 : b = mid + m - s := by omega
               exact ⟨us, ⟨hmu2, halves_done f5 hmu hsu (.refl _ _ _) (by rw [e1]; exact f3.mv hmu (.inr (by omega)))⟩, rfl⟩)
        · first
          | (exfalso; omega)
          | (refine wk ?_
             have e1 : mid + m - s = mid := by omega
             exact ⟨us, ⟨hmu2, halves_done f5 hmu hsu (.refl _ _ _) (by rw [e1] at f4; exact f4.mv hmu (.inr (by omega)))⟩, rfl⟩)
      · refine wk ?_
        ((try (first | intro K ms hms hK | intro K hK)); (first | apply Chain.go | apply Chain.goD); exact rfl; exact rfl; exact Loc.conv rfl rfl (wrap_u64 (by omega) (by omega)))
        ((try (first | intro K ms hms hK | intro K hK)); (first | apply Chain.go | apply Chain.goD); exact rfl; exact rfl; exact Loc.shr1 rfl rfl rfl)
        ((try (first | intro K ms hms hK | intro K hK)); (first | apply Chain.go | apply Chain.goD); exact rfl; exact rfl; exact Loc.conv rfl rfl (half_wrap (by omega) (by omega)))
        refine wk ?_
        ((try (first | intro K ms hms hK | intro K hK)); (first | apply Chain.go | apply Chain.goD); exact rfl; exact rfl; exact Loc.idxR (i := mid + m - 1 - (s + r) / 2) rfl rfl rfl rfl (by omega) (by omega) rfl)
        refine wk ?_
        ((try (first | intro K ms hms hK | intro K hK)); (first | apply Chain.go | apply Chain.goD); exact rfl; exact rfl; exact Loc.loadEw rfl rfl rfl (tms_get hx (i := mid + m - 1 - (s + r) / 2) (by omega)) rfl)
        refine wk ?_
        ((try (first | intro K ms hms hK | intro K hK)); (first | apply Chain.go | apply Chain.goD); exact rfl; exact rfl; exact Loc.idxR (i := (s + r) / 2) rfl rfl rfl rfl (by omega) (by omega) rfl)
        refine wk ?_
        ((try (first | intro K ms hms hK | intro K hK)); (first | apply Chain.go | apply Chain.goD); exact rfl; exact rfl; exact Loc.loadEw rfl rfl rfl (tms_get hx (i := (s + r) / 2) (by omega)) rfl)
        ((try (first | intro K ms hms hK | intro K hK)); (first | apply Chain.go | apply Chain.goD); exact rfl; exact rfl; refine Loc.callVD (cmpAt hx (i := mid + m - 1 - (s + r) / 2) (j := (s + r) / 2) (by omega) (by omega)) rfl rfl ?_; (repeat (first | exact trivial | refine ⟨.inl rfl, ?_⟩ | refine ⟨.inr rfl, ?_⟩)))
        ((try (first | intro K ms hms hK | intro K hK)); (first | refine Chain.lss rfl rfl rfl rfl rfl (fun h5 => ?_) (fun h5 => ?_) | refine Chain.lssD rfl rfl rfl rfl rfl (fun h5 => ?_) (fun h5 => ?_)))
        · rw [cmpK_neg] at h5
          refine wk ?_
          exact ⟨(s, (s + r) / 2), ⟨hs, by dsimp only; omega, by dsimp only; omega, hl, .inr (by dsimp only; omega)⟩, by dsimp only; omega, ⟨rfl, rfl, rfl, rfl, rfl, rfl, rfl, rfl, rfl, iv (by dsimp only; omega), trivial⟩, ⟨rfl, trivial⟩⟩
        · rw [cmpK_neg] at h5
          refine wk ?_
          exact ⟨((s + r) / 2 + 1, r), ⟨by dsimp only; omega, by dsimp only; omega, hr0, .inr (by dsimp only; rw [Nat.add_sub_cancel, show mid + m - ((s + r) / 2 + 1) = mid + m - 1 - (s + r) / 2 by omega]; omega), hr⟩, by dsimp only; omega, ⟨rfl, rfl, rfl, rfl, rfl, rfl, rfl, rfl, iv (by dsimp only; omega), rfl, trivial⟩, ⟨rfl, trivial⟩⟩
      · have : s = r := by omega
        subst this
        (repeat (first
      | refine Chain.no rfl rfl ?_
      | refine Chain.noD rfl rfl ?_
      | ((first | apply Chain.go | apply Chain.goD); exact rfl; exact rfl; first
        | exact Loc.move (v := .d _) rfl rfl
        | exact Loc.assign (v := .d _) rfl rfl
        | exact Loc.loadP1 rfl rfl rfl rfl
        | exact Loc.loadQ1 rfl rfl rfl
        | exact Loc.fieldP rfl rfl rfl
        | exact Loc.fieldQ rfl rfl
        | exact Loc.pickT (v := .d _) rfl rfl rfl
        | exact Loc.pickF (v := .d _) rfl rfl rfl
        | exact Loc.loadPn rfl rfl rfl rfl (by kernel_rfl)
        | exact Loc.loadQw rfl rfl rfl
        | exact Loc.loadQn rfl rfl rfl rfl
        | exact Loc.idxM rfl rfl rfl rfl (by assumption) rfl
        | exact Loc.lenM rfl rfl
        | exact Loc.lenN rfl rfl
        | exact Loc.lenR rfl rfl rfl
        | exact Loc.len rfl rfl
        | exact Loc.lssT rfl rfl rfl (by omega)
        | exact Loc.lssF rfl rfl rfl (by omega)
        | exact Loc.eqlT rfl rfl rfl (by omega)
        | exact Loc.eqlF rfl rfl rfl (by omega)
        | exact Loc.neqT rfl rfl rfl (by omega)
        | exact Loc.neqF rfl rfl rfl (by omega)
        | exact Loc.gtrT rfl rfl rfl (by omega)
        | exact Loc.gtrF rfl rfl rfl (by omega)
        | exact Loc.geqT rfl rfl rfl (by omega)
        | exact Loc.geqF rfl rfl rfl (by omega)
        | exact Loc.leqT rfl rfl rfl (by omega)
        | exact Loc.leqF rfl rfl rfl (by omega)
        | exact Loc.add rfl rfl rfl (IntWalk.i64_in _ (by omega))
        | exact Loc.sub rfl rfl rfl (IntWalk.i64_in _ (by omega))
        | exact Loc.notT rfl rfl
        | exact Loc.notF rfl rfl
        | exact Loc.fieldE rfl rfl rfl
        | exact Loc.loadE1 rfl rfl rfl (by assumption) rfl
        | exact Loc.idxR rfl rfl rfl rfl rfl (by omega) rfl
        | exact Loc.move (v := .g _) rfl rfl
        | exact Loc.move (v := .p _ _) rfl rfl
        | exact Loc.move (v := .r _ _) rfl rfl
        | exact Loc.move (v := .t _) rfl rfl
        | exact Loc.assign (v := .g _) rfl rfl
        | exact Loc.assign (v := .r _ _) rfl rfl
        | exact Loc.assign (v := .p _ _) rfl rfl
        | exact Loc.extract (v := .d _) rfl rfl rfl rfl
        | exact Loc.extract (v := .g _) rfl rfl rfl rfl
        | exact Loc.pickT (v := .g _) rfl rfl rfl
        | exact Loc.pickF (v := .g _) rfl rfl rfl
        | exact Loc.move (v := .un) rfl rfl
        | exact Loc.build rfl rfl rfl rfl
        | exact Loc.litP rfl rfl rfl rfl rfl rfl rfl)
      | refine Chain.nil0 (hK _ ?_)
      | ((first | apply Chain.st | apply Chain.stD); exact rfl; exact rfl; (first
        | exact Do.storeP rfl rfl rfl rfl .g rfl rfl rfl
        | exact Do.storeP rfl rfl rfl rfl .d rfl rfl rfl
        | exact Do.storeP rfl rfl rfl rfl (.r rfl) rfl rfl rfl); exact rfl; exact rfl)
      | ((first | apply Chain.ef | apply Chain.efD); exact rfl; exact rfl; (first
        | exact Do.alloc rfl rfl rfl
        | exact Do.box rfl rfl rfl .g rfl
        | exact Do.box rfl rfl rfl .d rfl
        | exact Do.lit0 rfl rfl
        | exact Do.append1 rfl rfl rfl rfl rfl rfl (by first | omega | (simp; omega))
        | exact Do.appendN1 rfl rfl rfl rfl rfl rfl); exact rfl; exact rfl)
      | refine Chain.nilD (by rw [hms]; kernel_rfl) (hK _ ?_)
      | refine Chain.noN rfl rfl ?_))
        refine AC.condF rfl ?_
        refine AC.exit ?_
        refine AC.seq ?_
        refine AC.reg (by decide +kernel) ?_
        (first | intro K ms hms hK | intro K hK)
        (repeat (first
      | refine Chain.no rfl rfl ?_
      | refine Chain.noD rfl rfl ?_
      | ((first | apply Chain.go | apply Chain.goD); exact rfl; exact rfl; first
        | exact Loc.move (v := .d _) rfl rfl
        | exact Loc.assign (v := .d _) rfl rfl
        | exact Loc.loadP1 rfl rfl rfl rfl
        | exact Loc.loadQ1 rfl rfl rfl
        | exact Loc.fieldP rfl rfl rfl
        | exact Loc.fieldQ rfl rfl
        | exact Loc.pickT (v := .d _) rfl rfl rfl
        | exact Loc.pickF (v := .d _) rfl rfl rfl
        | exact Loc.loadPn rfl rfl rfl rfl (by kernel_rfl)
        | exact Loc.loadQw rfl rfl rfl
        | exact Loc.loadQn rfl rfl rfl rfl
        | exact Loc.idxM rfl rfl rfl rfl (by assumption) rfl
        | exact Loc.lenM rfl rfl
        | exact Loc.lenN rfl rfl
        | exact Loc.lenR rfl rfl rfl
        | exact Loc.len rfl rfl
        | exact Loc.lssT rfl rfl rfl (by omega)
        | exact Loc.lssF rfl rfl rfl (by omega)
        | exact Loc.eqlT rfl rfl rfl (by omega)
        | exact Loc.eqlF rfl rfl rfl (by omega)
        | exact Loc.neqT rfl rfl rfl (by omega)
        | exact Loc.neqF rfl rfl rfl (by omega)
        | exact Loc.gtrT rfl rfl rfl (by omega)
        | exact Loc.gtrF rfl rfl rfl (by omega)
        | exact Loc.geqT rfl rfl rfl (by omega)
        | exact Loc.geqF rfl rfl rfl (by omega)
        | exact Loc.leqT rfl rfl rfl (by omega)
        | exact Loc.leqF rfl rfl rfl (by omega)
        | exact Loc.add rfl rfl rfl (IntWalk.i64_in _ (by omega))
        | exact Loc.sub rfl rfl rfl (IntWalk.i64_in _ (by omega))
        | exact Loc.notT rfl rfl
        | exact Loc.notF rfl rfl
        | exact Loc.fieldE rfl rfl rfl
        | exact Loc.loadE1 rfl rfl rfl (by assumption) rfl
        | exact Loc.idxR rfl rfl rfl rfl rfl (by omega) rfl
        | exact Loc.move (v := .g _) rfl rfl
        | exact Loc.move (v := .p _ _) rfl rfl
        | exact Loc.move (v := .r _ _) rfl rfl
        | exact Loc.move (v := .t _) rfl rfl
        | exact Loc.assign (v := .g _) rfl rfl
        | exact Loc.assign (v := .r _ _) rfl rfl
        | exact Loc.assign (v := .p _ _) rfl rfl
        | exact Loc.extract (v := .d _) rfl rfl rfl rfl
        | exact Loc.extract (v := .g _) rfl rfl rfl rfl
        | exact Loc.pickT (v := .g _) rfl rfl rfl
        | exact Loc.pickF (v := .g _) rfl rfl rfl
        | exact Loc.move (v := .un) rfl rfl
        | exact Loc.build rfl rfl rfl rfl
        | exact Loc.litP rfl rfl rfl rfl rfl rfl rfl)
      | refine Chain.nil0 (hK _ ?_)
      | ((first | apply Chain.st | apply Chain.stD); exact rfl; exact rfl; (first
        | exact Do.storeP rfl rfl rfl rfl .g rfl rfl rfl
        | exact Do.storeP rfl rfl rfl rfl .d rfl rfl rfl
        | exact Do.storeP rfl rfl rfl rfl (.r rfl) rfl rfl rfl); exact rfl; exact rfl)
      | ((first | apply Chain.ef | apply Chain.efD); exact rfl; exact rfl; (first
        | exact Do.alloc rfl rfl rfl
        | exact Do.box rfl rfl rfl .g rfl
        | exact Do.box rfl rfl rfl .d rfl
        | exact Do.lit0 rfl rfl
        | exact Do.append1 rfl rfl rfl rfl rfl rfl (by first | omega | (simp; omega))
        | exact Do.appendN1 rfl rfl rfl rfl rfl rfl); exact rfl; exact rfl)
      | refine Chain.nilD (by rw [hms]; kernel_rfl) (hK _ ?_)
      | refine Chain.noN rfl rfl ?_))
        have hse : s ≤ mid := by omega
        refine AC.seq ?_
        refine AC.join (X := List (List D)) (fun zs => ⟨[(0, .r 220 0), (1, .d (.v (.int .i64 (a : Int)))), (3, .d (.v (.int .i64 (b : Int)))), (4, .d cmpV), (18, .d (.v (.int .i64 (mid : Int)))), (20, .d (.v (.int .i64 (s : Int)))), (24, .d (.v (.int .i64 ((mid + m - s : Nat) : Int))))], [(220, .row 0 78 4 zs)]⟩) (fun zs => rotAt xs zs s m (mid + m - s) ∧ Mv xs zs a b) ?_ ?_
        · by_cases c1 : s < m
          · by_cases c2 : m < mid + m - s
            · refine wk ?_
              ((try (first | intro K ms hms hK | intro K hK)); refine Chain.callS rfl rfl (rotF' (a := s) (m := m) (b := mid + m - s) hx rfl rfl (show ((mid + m : Nat) : Int) - (s : Int) = ((mid + m - s : Nat) : Int) by omega) c1 c2 (by omega) hlen cmpV) rfl rfl rfl ?_ ?_; (focus ((repeat (first | exact trivial | refine ⟨.inl rfl, ?_⟩ | refine ⟨.inr rfl, ?_⟩)))))
              rintro zs ⟨hr1, hm1⟩
              refine wk ?_
              exact ⟨zs, ⟨hr1, hm1.mono (by omega) (by omega)⟩, ⟨rfl, rfl, rfl, rfl, rfl, rfl, iv (by omega), trivial⟩, ⟨rfl, trivial⟩⟩
            · first
              | (exfalso; omega)
              | (refine wk ?_
                 exact ⟨xs, ⟨⟨rfl, fun p => by rw [rotI_id (.inr (by omega)) (by omega) (by omega)]⟩, .refl _ _ _⟩, ⟨rfl, rfl, rfl, rfl, rfl, rfl, iv (by omega), trivial⟩, ⟨rfl, trivial⟩⟩)
          · first
            | (exfalso; omega)
            | (refine wk ?_
               exact ⟨xs, ⟨⟨rfl, fun p => by rw [rotI_id (.inl (by omega)) (by omega) (by omega)]⟩, .refl _ _ _⟩, ⟨rfl, rfl, rfl, rfl, rfl, rfl, iv (by omega), trivial⟩, ⟨rfl, trivial⟩⟩)
        rintro zs ⟨hrot, hmz⟩
        have hz := hmz.tms hx
        have hzl := hmz.len
        obtain ⟨f1, f2, f3, f4, f5⟩ := rot_facts (mid := mid) hA hB (fun p => kat_eq (hrot.2 p)) (by omega) (by omega) (by omega) (by omega) (by omega) (by omega) (by
          rcases hl with hl | hl
          · rcases hs0 with h | h
            · exact .inr (.inl (by omega))
            · exact .inl (by omega)
          · exact .inr (.inr hl)) (by
          rcases hr with hr | hr
          · rcases hs0 with h | h
            · exact .inr (.inl (by omega))
            · exact .inl (by omega)
          · exact .inr (.inr (by rw [show mid + m - s - 1 = mid + m - 1 - s by omega]; exact hr)))
        refine AC.seq ?_
        refine AC.join (X := List (List D)) (fun us => ⟨[(0, .r 220 0), (3, .d (.v (.int .i64 (b : Int)))), (4, .d cmpV), (18, .d (.v (.int .i64 (mid : Int)))), (24, .d (.v (.int .i64 ((mid + m - s : Nat) : Int))))], [(220, .row 0 78 4 us)]⟩) (fun us => Mv zs us a mid ∧ SrtR us a mid) ?_ ?_
        · by_cases c1 : a < s
          · by_cases c2 : s < mid
            · refine wk ?_
              ((try (first | intro K ms hms hK | intro K hK)); refine Chain.callS rfl rfl ((ih zs a s mid hz (by omega) c1 c2 (by omega) (by omega) f1 f2).cast rfl rfl rfl) rfl rfl rfl ?_ ?_; (focus ((repeat (first | exact trivial | refine ⟨.inl rfl, ?_⟩ | refine ⟨.inr rfl, ?_⟩)))))
              rintro us ⟨hr1, hm1⟩
              refine wk ?_
              exact ⟨us, ⟨hr1, hm1⟩, ⟨rfl, rfl, rfl, rfl, rfl, trivial⟩, ⟨rfl, trivial⟩⟩
            · first
              | (exfalso; omega)
              | (refine wk ?_
                 have : mid = s := by omega
                 exact ⟨zs, ⟨.refl _ _ _, by rw [this]; exact f1⟩, ⟨rfl, rfl, rfl, rfl, rfl, trivial⟩, ⟨rfl, trivial⟩⟩)
          · first
            | (exfalso; omega)
            | (refine wk ?_
               have : a = s := by omega
               exact ⟨zs, ⟨.refl _ _ _, by rw [this]; exact f2⟩, ⟨rfl, rfl, rfl, rfl, rfl, trivial⟩, ⟨rfl, trivial⟩⟩)
        rintro us ⟨hmu, hsu⟩
        have hu := hmu.tms hz
        have hul := hmu.len
        have hmu2 := hmz.trans (hmu.mono (a' := a) (b' := b) (by omega) (by omega))
        by_cases c1 : mid < mid + m - s
        · by_cases c2 : mid + m - s < b
          · refine wk ?_
            ((try (first | intro K ms hms hK | intro K hK)); refine Chain.callS rfl rfl ((ih us mid (mid + m - s) b hu (by omega) c1 c2 (by omega) (by omega) (f3.mv hmu (.inr (by omega))) (f4.mv hmu (.inr (by omega)))).cast rfl rfl rfl) rfl rfl rfl ?_ ?_; (focus ((repeat (first | exact trivial | refine ⟨.inl rfl, ?_⟩ | refine ⟨.inr rfl, ?_⟩)))))
            rintro vs ⟨hr1, hm1⟩
            refine wk ?_
            exact ⟨vs, ⟨hmu2.trans (hr1.mono (by omega) (by omega)), halves_done f5 hmu hsu hr1 hm1⟩, rfl⟩
          · first
            | (exfalso; omega)
            | (refine wk ?_
               have e1 : b = mid + m - s := by omega
               exact ⟨us, ⟨hmu2, halves_done f5 hmu hsu (.refl _ _ _) (by rw [e1]; exact f3.mv hmu (.inr (by omega)))⟩, rfl⟩)
        · first
          | (exfalso; omega)
          | (refine wk ?_
             have e1 : mid + m - s = mid := by omega
             exact ⟨us, ⟨hmu2, halves_done f5 hmu hsu (.refl _ _ _) (by rw [e1] at f4; exact f4.mv hmu (.inr (by omega)))⟩, rfl⟩)

end Go.Proofs.Ytfijmpmojhlnmaa
