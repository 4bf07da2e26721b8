/-
  The stable sort of package slices by plain data.
-/
import Derived.Test.YtfijmpmojhlnmaaBr
import Derived.Test.YtfijmpmojhlnmaaTy
import Derived.Test.YtfijmpmojhlnmaaFnS
namespace Go.Proofs.Ytfijmpmojhlnmaa
open Go.RowKit
attribute [local irreducible] AC Do St
/-- A term, as a row of cells. -/
def tm (c : List D) : Prop := (∃ n x y z, c = [.v (.int .i64 n), x, y, z]) ∧ c.map D.fg = c
def ky : List D → Int
  | .v (.int .i64 n) :: _ => n
  | _ => 0
def cmpK (x y : Int) : Int := if x < y then -1 else if x > y then 1 else 0
theorem tm.len {c : List D} (h : tm c) : c.length = 4 := by obtain ⟨⟨n, x, y, z, rfl⟩, _⟩ := h; rfl
theorem tms_get {ys : List (List D)} (h : ∀ c ∈ ys, tm c) {i : Nat} (hi : i < ys.length) : ys[i]? = some ys[i] ∧ ys[i].length = 4 := ⟨List.getElem?_eq_getElem hi, (h _ (List.getElem_mem hi)).len⟩
theorem tms_set {ys : List (List D)} (h : ∀ c ∈ ys, tm c) {i : Nat} {d : List D} (hd : tm d) : ∀ c ∈ ys.set i d, tm c := fun c hc => by
  rcases List.mem_or_eq_of_mem_set hc with h1 | h1
  · exact h c h1
  · rw [h1]; exact hd
/-- Moved about between a and b. -/
structure Mv (xs ys : List (List D)) (a b : Nat) : Prop where
  perm : ys.Perm xs
  out : ∀ p, p < a ∨ b ≤ p → ys[p]? = xs[p]?
  inn : ∀ p, a ≤ p → p < b → ∃ q, a ≤ q ∧ q < b ∧ ys[p]? = xs[q]?
theorem Mv.refl (xs : List (List D)) (a b : Nat) : Mv xs xs a b := ⟨.refl _, fun _ _ => rfl, fun p h1 h2 => ⟨p, h1, h2, rfl⟩⟩
theorem Mv.trans {xs ys zs : List (List D)} {a b : Nat} (h : Mv xs ys a b) (h2 : Mv ys zs a b) : Mv xs zs a b :=
  ⟨h2.perm.trans h.perm, fun p hp => (h2.out p hp).trans (h.out p hp), fun p h3 h4 => by
    obtain ⟨q, q1, q2, q3⟩ := h2.inn p h3 h4
    obtain ⟨r, r1, r2, r3⟩ := h.inn q q1 q2
    exact ⟨r, r1, r2, q3.trans r3⟩⟩
theorem Mv.mono {xs ys : List (List D)} {a b a' b' : Nat} (h : Mv xs ys a b) (h1 : a' ≤ a) (h2 : b ≤ b') : Mv xs ys a' b' :=
  ⟨h.perm, fun p hp => h.out p (by omega), fun p h3 h4 => by
    by_cases hp : a ≤ p ∧ p < b
    · obtain ⟨q, q1, q2, q3⟩ := h.inn p hp.1 hp.2
      exact ⟨q, by omega, by omega, q3⟩
    · exact ⟨p, h3, h4, h.out p (by omega)⟩⟩
theorem Mv.len {xs ys : List (List D)} {a b : Nat} (h : Mv xs ys a b) : ys.length = xs.length := h.perm.length_eq
theorem Mv.tms {xs ys : List (List D)} {a b : Nat} (h : Mv xs ys a b) (hx : ∀ c ∈ xs, tm c) : ∀ c ∈ ys, tm c := fun c hc => hx c (h.perm.mem_iff.1 hc)
theorem Mv.swap (xs : List (List D)) {a b i j : Nat} (hi : a ≤ i ∧ i < b) (hj : a ≤ j ∧ j < b) (hli : i < xs.length) (hlj : j < xs.length) : Mv xs ((xs.set i xs[j]).set j xs[i]) a b := by
  refine ⟨List.set_set_perm hli hlj, fun p hp => ?_, fun p h1 h2 => ?_⟩
  · rw [List.getElem?_set_ne (by omega), List.getElem?_set_ne (by omega)]
  · by_cases e1 : j = p
    · subst e1
      exact ⟨i, hi.1, hi.2, by rw [List.getElem?_set_self (by simpa using hlj), List.getElem?_eq_getElem hli]⟩
    · rw [List.getElem?_set_ne e1]
      by_cases e2 : i = p
      · subst e2
        exact ⟨j, hj.1, hj.2, by rw [List.getElem?_set_self hli, List.getElem?_eq_getElem hlj]⟩
      · rw [List.getElem?_set_ne e2]
        exact ⟨p, h1, h2, rfl⟩
set_option maxRecDepth 100000 in
set_option maxHeartbeats 2000000 in
theorem cmpF {a b : List D} (ha : tm a) (hb : tm b) : Fn Try.prog 52 [.g a, .g b] [.d (.v (.int .i64 (cmpK (ky a) (ky b))))] := by
  obtain ⟨⟨n, x, y, z, rfl⟩, _⟩ := ha
  obtain ⟨⟨n', x', y', z', rfl⟩, _⟩ := hb
  refine Fn.of Try.func52 rfl (by kernel_rfl) Try.ntmps52 Try.results52 rfl fun w0 S0 => ?_
  refine wk ?_
  (first | intro K ms hms hK | intro K hK)
  ((try (first | intro K ms hms hK | intro K hK)); (first | refine Chain.lss rfl rfl rfl rfl rfl (fun h1 => ?_) (fun h1 => ?_) | refine Chain.lssD rfl rfl rfl rfl rfl (fun h1 => ?_) (fun h1 => ?_)))
  · have : cmpK n n' = -1 := by unfold cmpK; rw [if_pos h1]
    refine wk ?_
    show ressOK _ _ _ [.d (.v (.int .i64 (cmpK n n')))]
    rw [this]
    exact ⟨.d rfl (.inl rfl), trivial⟩
  · refine wk ?_
    (first | intro K ms hms hK | intro K hK)
    ((try (first | intro K ms hms hK | intro K hK)); (first | refine Chain.gtr rfl rfl rfl rfl rfl (fun h2 => ?_) (fun h2 => ?_) | refine Chain.gtrD rfl rfl rfl rfl rfl (fun h2 => ?_) (fun h2 => ?_)))
    · have : cmpK n n' = 1 := by unfold cmpK; rw [if_neg h1, if_pos h2]
      refine wk ?_
      show ressOK _ _ _ [.d (.v (.int .i64 (cmpK n n')))]
      rw [this]
      exact ⟨.d rfl (.inl rfl), trivial⟩
    · have : cmpK n n' = 0 := by unfold cmpK; rw [if_neg h1, if_neg h2]
      refine wk ?_
      show ressOK _ _ _ [.d (.v (.int .i64 (cmpK n n')))]
      rw [this]
      exact ⟨.d rfl (.inl rfl), trivial⟩
/-- The first i places behind a and behind b are exchanged. -/
def swapAt (xs ys : List (List D)) (a b i : Nat) : Prop := ys.length = xs.length ∧ ∀ j, ys[j]? = if a ≤ j ∧ j < a + i then xs[b + (j - a)]? else if b ≤ j ∧ j < b + i then xs[a + (j - b)]? else xs[j]?
theorem swapAt.zero (xs : List (List D)) (a b : Nat) : swapAt xs xs a b 0 := ⟨rfl, fun j => by rw [if_neg (by omega), if_neg (by omega)]⟩
theorem swapAt.step {xs ys : List (List D)} {a b i n : Nat} (h : swapAt xs ys a b i) (hab : a + n ≤ b) (hb : b + n ≤ ys.length) (hi : i < n) : swapAt xs ((ys.set (a + i) (ys[b + i]'(by omega))).set (b + i) (ys[a + i]'(by omega))) a b (i + 1) := by
  refine ⟨by simpa using h.1, fun j => ?_⟩
  have h1 : some (ys[b + i]'(by omega)) = xs[b + i]? := by
    rw [← List.getElem?_eq_getElem, h.2, if_neg (by omega), if_neg (by omega)]
  have h2 : some (ys[a + i]'(by omega)) = xs[a + i]? := by
    rw [← List.getElem?_eq_getElem, h.2, if_neg (by omega), if_neg (by omega)]
  rw [List.getElem?_set, List.getElem?_set]
  by_cases e1 : b + i = j
  · rw [if_pos e1, if_pos (by simp; omega), h2, if_neg (by omega), if_pos (by omega)]
    congr 1; omega
  · rw [if_neg e1]
    by_cases e2 : a + i = j
    · rw [if_pos e2, if_pos (by omega), h1, if_pos (by omega)]
      congr 1; omega
    · rw [if_neg e2, h.2]
      have q1 : (a ≤ j ∧ j < a + (i + 1)) ↔ (a ≤ j ∧ j < a + i) := by omega
      have q2 : (b ≤ j ∧ j < b + (i + 1)) ↔ (b ≤ j ∧ j < b + i) := by omega
      simp only [q1, q2]
set_option maxRecDepth 100000 in
set_option maxHeartbeats 2000000 in
theorem swapF {xs : List (List D)} (hx : ∀ c ∈ xs, tm c) {a b n : Nat} (hab : a + n ≤ b) (hb : b + n ≤ xs.length) (hlen : xs.length ≤ 1000000000) (f : D) : FnS Try.prog 100 78 4 xs [.d (.v (.int .i64 (a : Int))), .d (.v (.int .i64 (b : Int))), .d (.v (.int .i64 (n : Int))), .d f] (fun ys => swapAt xs ys a b n ∧ Mv xs ys a (b + n)) := by
  refine FnS.of Try.func100 rfl (by kernel_rfl) Try.ntmps100 Try.results100 rfl fun w0 S0 v => ?_
  refine wk ?_
  refine AC.loop (X := Nat × List (List D)) (fun x => ⟨[(0, .r 38 0), (1, .d (.v (.int .i64 (a : Int)))), (2, .d (.v (.int .i64 (b : Int)))), (3, .d (.v (.int .i64 (n : Int)))), (10, .d (.v (.int .i64 (x.1 : Int))))], [(38, .row 0 78 4 x.2)]⟩) (fun x => x.1 ≤ n ∧ swapAt xs x.2 a b x.1 ∧ Mv xs x.2 a (b + n)) (fun x => n - x.1) (0, xs) ⟨Nat.zero_le _, .zero _ _ _, .refl _ _ _⟩ ⟨rfl, rfl, rfl, rfl, rfl, trivial⟩ ⟨rfl, trivial⟩ ?_
  rintro ⟨i, ys⟩ ⟨hi, hsw, hmv⟩
  dsimp only at hi hsw hmv ⊢
  have hy := hmv.tms hx
  have hyl := hsw.1
  refine wk ?_
  (first | intro K ms hms hK | intro K hK)
  ((try (first | intro K ms hms hK | intro K hK)); (first | refine Chain.lss rfl rfl rfl rfl rfl (fun h1 => ?_) (fun h1 => ?_) | refine Chain.lssD rfl rfl rfl rfl rfl (fun h1 => ?_) (fun h1 => ?_)))
  · refine wk ?_
    ((try (first | intro K ms hms hK | intro K hK)); (first | apply Chain.go | apply Chain.goD); exact rfl; exact rfl; exact Loc.loadEw rfl rfl rfl (tms_get hy (i := b + i) (by omega)) rfl)
    refine wk ?_
    ((try (first | intro K ms hms hK | intro K hK)); (first | apply Chain.go | apply Chain.goD); exact rfl; exact rfl; exact Loc.loadEw rfl rfl rfl (tms_get hy (i := a + i) (by omega)) rfl)
    refine wk ?_
    ((try (first | intro K ms hms hK | intro K hK)); (first | apply Chain.st | apply Chain.stD); exact rfl; exact rfl; exact Do.storeEw rfl rfl rfl ⟨_, tms_get hy (i := a + i) (by omega)⟩ rfl ⟨(hy _ (List.getElem_mem _)).2, (hy _ (List.getElem_mem _)).len⟩ rfl rfl rfl; exact rfl; exact rfl)
    have hy1 : ∀ c ∈ ys.set (a + i) (ys[b + i]'(by omega)), tm c := tms_set hy (hy _ (List.getElem_mem _))
    have hl1 : (ys.set (a + i) (ys[b + i]'(by omega))).length = ys.length := by simp
    refine wk ?_
    ((try (first | intro K ms hms hK | intro K hK)); (first | apply Chain.st | apply Chain.stD); exact rfl; exact rfl; exact Do.storeEw rfl rfl rfl ⟨_, tms_get hy1 (i := b + i) (by omega)⟩ rfl ⟨(hy _ (List.getElem_mem _)).2, (hy _ (List.getElem_mem _)).len⟩ rfl rfl rfl; exact rfl; exact rfl)
    refine wk ?_
    exact ⟨(i + 1, _), ⟨by omega, hsw.step (n := n) (by omega) (by omega) (by omega), hmv.trans (.swap ys (by omega) (by omega) (by omega) (by omega))⟩, by dsimp only; omega, ⟨rfl, rfl, rfl, rfl, rfl, trivial⟩, ⟨rfl, trivial⟩⟩
  · refine wk ?_
    have : i = n := by omega
    subst this
    exact ⟨ys, ⟨hsw, hmv⟩, rfl⟩
theorem iv {x y : Int} (h : x = y) : some (AV.d (D.v (Value.int .i64 x))) = some (AV.d (D.v (Value.int .i64 y))) := by rw [h]
theorem swapF' {xs : List (List D)} (hx : ∀ c ∈ xs, tm c) {a b n : Nat} {A B N : Int} (hA : A = (a : Int)) (hB : B = (b : Int)) (hN : N = (n : Int)) (hab : a + n ≤ b) (hb : b + n ≤ xs.length) (hlen : xs.length ≤ 1000000000) (f : D) : FnS Try.prog 100 78 4 xs [.d (.v (.int .i64 A)), .d (.v (.int .i64 B)), .d (.v (.int .i64 N)), .d f] (fun ys => swapAt xs ys a b n ∧ Mv xs ys a (b + n)) := by
  subst hA hB hN
  exact swapF hx hab hb hlen f
def swI (a b n p : Nat) : Nat := if a ≤ p ∧ p < a + n then b + (p - a) else if b ≤ p ∧ p < b + n then a + (p - b) else p
theorem swapAt.idx {xs ys : List (List D)} {a b n : Nat} (h : swapAt xs ys a b n) (p : Nat) : ys[p]? = xs[swI a b n p]? := by
  rw [h.2]
  unfold swI
  split
  · rfl
  · split <;> rfl
def rotI (lo m hi p : Nat) : Nat := if lo ≤ p ∧ p < lo + (hi - m) then p + (m - lo) else if lo + (hi - m) ≤ p ∧ p < hi then p - (hi - m) else p
theorem rot_gt {m i j : Nat} (hi : i ≤ m) (hj : 1 ≤ j) (h : j < i) (p : Nat) : swI (m - i) m j (rotI (m - (i - j)) m (m + j) p) = rotI (m - i) m (m + j) p := by
  unfold rotI
  repeat' split
  all_goals (unfold swI; repeat' split)
  all_goals omega
theorem rot_lt {m i j : Nat} (hi : i ≤ m) (hj : 1 ≤ i) (h : i < j) (p : Nat) : swI (m - i) (m + j - i) i (rotI (m - i) m (m + (j - i)) p) = rotI (m - i) m (m + j) p := by
  unfold rotI
  repeat' split
  all_goals (unfold swI; repeat' split)
  all_goals omega
theorem rot_eq {m i : Nat} (hi : i ≤ m) (p : Nat) : swI (m - i) m i p = rotI (m - i) m (m + i) p := by
  unfold rotI
  repeat' split
  all_goals (unfold swI; repeat' split)
  all_goals omega
def rotAt (xs ys : List (List D)) (a m b : Nat) : Prop := ys.length = xs.length ∧ ∀ p, ys[p]? = xs[rotI a m b p]?
set_option maxRecDepth 100000 in
set_option maxHeartbeats 2000000 in
theorem rotF {xs : List (List D)} (hx : ∀ c ∈ xs, tm c) {a m b : Nat} (ham : a < m) (hmb : m < b) (hb : b ≤ xs.length) (hlen : xs.length ≤ 1000000000) (f : D) : FnS Try.prog 94 78 4 xs [.d (.v (.int .i64 (a : Int))), .d (.v (.int .i64 (m : Int))), .d (.v (.int .i64 (b : Int))), .d f] (fun ys => rotAt xs ys a m b ∧ Mv xs ys a b) := by
  refine FnS.of Try.func94 rfl (by kernel_rfl) Try.ntmps94 Try.results94 rfl fun w0 S0 v => ?_
  refine wk ?_
  refine AC.loop (X := Nat × Nat × List (List D)) (fun x => ⟨[(0, .r 58 0), (1, .d (.v (.int .i64 (a : Int)))), (2, .d (.v (.int .i64 (m : Int)))), (3, .d (.v (.int .i64 (b : Int)))), (4, .d f), (10, .d (.v (.int .i64 (x.1 : Int)))), (11, .d (.v (.int .i64 (x.2.1 : Int))))], [(58, .row 0 78 4 x.2.2)]⟩) (fun x => 1 ≤ x.1 ∧ x.1 + a ≤ m ∧ 1 ≤ x.2.1 ∧ m + x.2.1 ≤ b ∧ x.2.2.length = xs.length ∧ (∀ p, x.2.2[rotI (m - x.1) m (m + x.2.1) p]? = xs[rotI a m b p]?) ∧ Mv xs x.2.2 a b) (fun x => x.1 + x.2.1) (m - a, b - m, xs) ⟨by dsimp only; omega, by dsimp only; omega, by dsimp only; omega, by dsimp only; omega, rfl, fun p => by dsimp only; rw [show m - (m - a) = a by omega, show m + (b - m) = b by omega], .refl _ _ _⟩ ⟨rfl, rfl, rfl, rfl, rfl, iv (by dsimp only; omega), iv (by dsimp only; omega), trivial⟩ ⟨rfl, trivial⟩ ?_
  rintro ⟨i, j, ys⟩ ⟨hi, him, hj, hjm, hyl, hrot, hmv⟩
  dsimp only at hi him hj hjm hyl hrot hmv ⊢
  have hy := hmv.tms hx
  refine wk ?_
  (first | intro K ms hms hK | intro K hK)
  ((try (first | intro K ms hms hK | intro K hK)); (first | refine Chain.neq rfl rfl rfl rfl rfl (fun h1 => ?_) (fun h1 => ?_) | refine Chain.neqD rfl rfl rfl rfl rfl (fun h1 => ?_) (fun h1 => ?_)))
  · refine wk ?_
    (first | intro K ms hms hK | intro K hK)
    ((try (first | intro K ms hms hK | intro K hK)); (first | refine Chain.gtr rfl rfl rfl rfl rfl (fun h2 => ?_) (fun h2 => ?_) | refine Chain.gtrD rfl rfl rfl rfl rfl (fun h2 => ?_) (fun h2 => ?_)))
    · refine wk ?_
      ((try (first | intro K ms hms hK | intro K hK)); refine Chain.callS rfl rfl (swapF' (a := m - i) (b := m) (n := j) hy (show (m : Int) - (i : Int) = ((m - i : Nat) : Int) by omega) rfl rfl (by omega) (by omega) (by omega) f) rfl rfl rfl ?_ ?_; (focus ((repeat (first | exact trivial | refine ⟨.inl rfl, ?_⟩ | refine ⟨.inr rfl, ?_⟩)))))
      rintro zs ⟨hsw, hz⟩
      refine wk ?_
      exact ⟨(i - j, j, zs), ⟨by dsimp only; omega, by dsimp only; omega, hj, hjm, hsw.1.trans hyl, fun p => by dsimp only; rw [hsw.idx, rot_gt (by omega) hj (by omega), hrot], hmv.trans (hz.mono (by omega) (by omega))⟩, by dsimp only; omega, ⟨rfl, rfl, rfl, rfl, rfl, iv (by dsimp only; omega), rfl, trivial⟩, ⟨rfl, trivial⟩⟩
    · refine wk ?_
      ((try (first | intro K ms hms hK | intro K hK)); refine Chain.callS rfl rfl (swapF' (a := m - i) (b := m + j - i) (n := i) hy (show (m : Int) - (i : Int) = ((m - i : Nat) : Int) by omega) (show (m : Int) + (j : Int) - (i : Int) = ((m + j - i : Nat) : Int) by omega) rfl (by omega) (by omega) (by omega) f) rfl rfl rfl ?_ ?_; (focus ((repeat (first | exact trivial | refine ⟨.inl rfl, ?_⟩ | refine ⟨.inr rfl, ?_⟩)))))
      rintro zs ⟨hsw, hz⟩
      refine wk ?_
      exact ⟨(i, j - i, zs), ⟨hi, him, by dsimp only; omega, by dsimp only; omega, hsw.1.trans hyl, fun p => by dsimp only; rw [hsw.idx, rot_lt (by omega) hi (by omega), hrot], hmv.trans (hz.mono (by omega) (by omega))⟩, by dsimp only; omega, ⟨rfl, rfl, rfl, rfl, rfl, rfl, iv (by dsimp only; omega), trivial⟩, ⟨rfl, trivial⟩⟩
  · have hij : i = j := by omega
    subst hij
    refine wk ?_
    ((try (first | intro K ms hms hK | intro K hK)); refine Chain.callS rfl rfl (swapF' (a := m - i) (b := m) (n := i) hy (show (m : Int) - (i : Int) = ((m - i : Nat) : Int) by omega) rfl rfl (by omega) (by omega) (by omega) f) rfl rfl rfl ?_ ?_; (focus ((repeat (first | exact trivial | refine ⟨.inl rfl, ?_⟩ | refine ⟨.inr rfl, ?_⟩)))))
    rintro zs ⟨hsw, hz⟩
    refine wk ?_
    exact ⟨zs, ⟨⟨hsw.1.trans hyl, fun p => by rw [hsw.idx, rot_eq (by omega), hrot]⟩, hmv.trans (hz.mono (by omega) (by omega))⟩, rfl⟩
end Go.Proofs.Ytfijmpmojhlnmaa
