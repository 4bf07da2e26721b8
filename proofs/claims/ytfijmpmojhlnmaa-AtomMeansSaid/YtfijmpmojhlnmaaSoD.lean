/-
  The stable sort of package slices by plain data: whole.
-/
import Derived.Test.YtfijmpmojhlnmaaSoC
namespace Go.Proofs.Ytfijmpmojhlnmaa
open Go.RowKit
attribute [local irreducible] AC Do St
theorem symF : ∀ (n : Nat) (xs : List (List D)) (a m b : Nat), b - a < n → (∀ c ∈ xs, tm c) → a < m → m < b → b ≤ xs.length → xs.length ≤ 1000000000 → SrtR xs a m → SrtR xs m b → SymC xs a m b := by
  intro n
  induction n with
  | zero => intro xs a m b h; omega
  | succ n ih =>
    intro xs a m b h hx ham hmb hb hlen hA hB
    exact symStep hx ham hmb hb hlen hA hB fun ys a' m' b' hy h1 h2 h3 h4 h5 h6 h7 => ih ys a' m' b' (by omega) hy h2 h3 h4 h5 h6 h7
theorem symF' {xs : List (List D)} (hx : ∀ c ∈ xs, tm c) {a m b : Nat} {A M B : Int} (hA : A = (a : Int)) (hM : M = (m : Int)) (hB : B = (b : Int)) (ham : a < m) (hmb : m < b) (hb : b ≤ xs.length) (hlen : xs.length ≤ 1000000000) (sA : SrtR xs a m) (sB : SrtR xs m b) : FnS Try.prog 87 78 4 xs [.d (.v (.int .i64 A)), .d (.v (.int .i64 M)), .d (.v (.int .i64 B)), .d cmpV] (fun ys => Mv xs ys a b ∧ SrtR ys a b) :=
  (symF _ xs a m b (Nat.lt_succ_self _) hx ham hmb hb hlen sA sB).cast hA hM hB
theorem insF' {xs : List (List D)} (hx : ∀ c ∈ xs, tm c) {a b : Nat} {A B : Int} (hA : A = (a : Int)) (hB : B = (b : Int)) (hab : a ≤ b) (hb : b ≤ xs.length) (hlen : xs.length ≤ 1000000000) : FnS Try.prog 86 78 4 xs [.d (.v (.int .i64 A)), .d (.v (.int .i64 B)), .d cmpV] (fun ys => Mv xs ys a b ∧ SrtR ys a b) := by
  subst hA hB
  exact insF hx hab hb hlen
/-- Sorted block by block. -/
def SrtB (zs : List (List D)) (w n : Nat) : Prop := ∀ k, SrtR zs (k * w) (min (k * w + w) n)
theorem SrtR.sub {xs : List (List D)} {a b c d : Nat} (h : SrtR xs a b) (h1 : a ≤ c) (h2 : d ≤ b) : SrtR xs c d := fun p q q1 q2 q3 => h p q (by omega) q2 (by omega)
/-- Blocks done so far: k of them. -/
structure InsB (xs zs : List (List D)) (w k n : Nat) : Prop where
  mv : Mv xs zs 0 n
  le : k * w ≤ n
  done : ∀ j, j < k → SrtR zs (j * w) (j * w + w)
theorem InsB.step {xs zs ys : List (List D)} {w k n : Nat} (h : InsB xs zs w k n) (hle : k * w + w ≤ n) (hm : Mv zs ys (k * w) (k * w + w)) (hs : SrtR ys (k * w) (k * w + w)) : InsB xs ys w (k + 1) n := by
  refine ⟨h.mv.trans (hm.mono (Nat.zero_le _) hle), by rw [Nat.add_mul]; omega, fun j hj => ?_⟩
  by_cases e : j = k
  · rw [e]; exact hs
  · have : (j + 1) * w ≤ k * w := Nat.mul_le_mul_right _ (by omega)
    rw [Nat.add_mul] at this
    exact (h.done j (by omega)).mv hm (.inl (by omega))
theorem InsB.fin {xs zs ys : List (List D)} {w k n : Nat} (h : InsB xs zs w k n) (hlt : n < k * w + w) (hm : Mv zs ys (k * w) n) (hs : SrtR ys (k * w) n) : Mv xs ys 0 n ∧ SrtB ys w n := by
  refine ⟨h.mv.trans (hm.mono (Nat.zero_le _) (Nat.le_refl _)), fun j => ?_⟩
  rcases Nat.lt_trichotomy j k with e | e | e
  · have : (j + 1) * w ≤ k * w := Nat.mul_le_mul_right _ (by omega)
    rw [Nat.add_mul] at this
    exact ((h.done j e).mv hm (.inl (by omega))).sub (Nat.le_refl _) (by omega)
  · rw [e]; exact hs.sub (Nat.le_refl _) (by omega)
  · have : (k + 1) * w ≤ j * w := Nat.mul_le_mul_right _ (by omega)
    rw [Nat.add_mul] at this
    exact .one _ (by omega)
/-- Merging: k blocks of twice the width are done, the others of the old width are as they were. -/
structure MrgB (xs zs : List (List D)) (w k n : Nat) : Prop where
  ins : InsB xs zs (w + w) k n
  rest : ∀ j, k * (w + w) ≤ j * w → SrtR zs (j * w) (min (j * w + w) n)
theorem dbl (k w : Nat) : (2 * k) * w = k * (w + w) := by rw [Nat.mul_add, Nat.mul_assoc, Nat.two_mul]
theorem dbl1 (k w : Nat) : (2 * k + 1) * w = k * (w + w) + w := by rw [Nat.add_mul, dbl, Nat.one_mul]
theorem MrgB.step {xs zs ys : List (List D)} {w k n : Nat} (h : MrgB xs zs w k n) (hle : k * (w + w) + (w + w) ≤ n) (hm : Mv zs ys (k * (w + w)) (k * (w + w) + (w + w))) (hs : SrtR ys (k * (w + w)) (k * (w + w) + (w + w))) : MrgB xs ys w (k + 1) n :=
  ⟨h.ins.step hle hm hs, fun j hj => by
    rw [Nat.add_mul] at hj
    exact (h.rest j (by omega)).mv hm (.inr (by omega))⟩
set_option maxRecDepth 100000 in
set_option maxHeartbeats 4000000 in
theorem stabF {xs : List (List D)} (hx : ∀ c ∈ xs, tm c) (hlen : xs.length ≤ 1000000000) : FnS Try.prog 69 78 4 xs [.d (.v (.int .i64 (xs.length : Int))), .d cmpV] (fun ys => Mv xs ys 0 xs.length ∧ SrtR ys 0 xs.length) := by
  obtain ⟨n, hn⟩ : ∃ n, n = xs.length := ⟨_, rfl⟩
  rw [← hn]
  refine FnS.of Try.func69 rfl (by kernel_rfl) Try.ntmps69 Try.results69 rfl fun w0 S0 v => ?_
  refine wk ?_
  refine AC.loop (X := Nat × List (List D)) (fun x => ⟨[(0, .r 63 0), (1, .d (.v (.int .i64 (n : Int)))), (2, .d cmpV), (6, .d (.v (.int .i64 20))), (7, .d (.v (.int .i64 ((x.1 * 20 : Nat) : Int)))), (8, .d (.v (.int .i64 ((x.1 * 20 + 20 : Nat) : Int))))], [(63, .row 0 78 4 x.2)]⟩) (fun x => InsB xs x.2 20 x.1 n) (fun x => n - x.1 * 20) (0, xs) ⟨.refl _ _ _, by omega, fun j h => absurd h (Nat.not_lt_zero _)⟩ ⟨rfl, rfl, rfl, rfl, rfl, rfl, trivial⟩ ⟨rfl, trivial⟩ ?_
  rintro ⟨k, zs⟩ hi
  dsimp only at hi ⊢
  have hz := hi.mv.tms hx
  have hzl := hi.mv.len
  have hle := hi.le
  refine wk ?_
  (first | intro K ms hms hK | intro K hK)
  ((try (first | intro K ms hms hK | intro K hK)); (first | refine Chain.leq rfl rfl rfl rfl rfl (fun h1 => ?_) (fun h1 => ?_) | refine Chain.leqD rfl rfl rfl rfl rfl (fun h1 => ?_) (fun h1 => ?_)))
  · refine wk ?_
    ((try (first | intro K ms hms hK | intro K hK)); refine Chain.callS rfl rfl (insF' (a := k * 20) (b := k * 20 + 20) hz rfl rfl (by omega) (by omega) (by omega)) rfl rfl rfl ?_ ?_; (focus ((repeat (first | exact trivial | refine ⟨.inl rfl, ?_⟩ | refine ⟨.inr rfl, ?_⟩)))))
    rintro ys ⟨hm, hs⟩
    refine wk ?_
    exact ⟨(k + 1, ys), hi.step (by omega) hm hs, by dsimp only; omega, ⟨rfl, rfl, rfl, rfl, iv (by dsimp only; omega), iv (by dsimp only; omega), trivial⟩, ⟨rfl, trivial⟩⟩
  · refine wk ?_
    ((try (first | intro K ms hms hK | intro K hK)); refine Chain.callS rfl rfl (insF' (a := k * 20) (b := n) hz rfl rfl (by omega) (by omega) (by omega)) rfl rfl rfl ?_ ?_; (focus ((repeat (first | exact trivial | refine ⟨.inl rfl, ?_⟩ | refine ⟨.inr rfl, ?_⟩)))))
    rintro ys ⟨hm, hs⟩
    obtain ⟨hmy, hby⟩ := hi.fin (by omega) hm hs
    clear hi hz hzl hle hm hs h1
    refine wk ?_
    refine AC.loop (X := Nat × List (List D)) (fun x => ⟨[(0, .r 63 0), (1, .d (.v (.int .i64 (n : Int)))), (2, .d cmpV), (6, .d (.v (.int .i64 ((x.1 : Nat) : Int))))], [(63, .row 0 78 4 x.2)]⟩) (fun x => 0 < x.1 ∧ Mv xs x.2 0 n ∧ SrtB x.2 x.1 n) (fun x => n - x.1) (20, ys) ⟨by dsimp only; omega, hmy, hby⟩ ⟨rfl, rfl, rfl, rfl, trivial⟩ ⟨rfl, trivial⟩ ?_
    rintro ⟨w, us⟩ ⟨hw, hmu, hbu⟩
    dsimp only at hw hmu hbu ⊢
    refine wk ?_
    (first | intro K ms hms hK | intro K hK)
    ((try (first | intro K ms hms hK | intro K hK)); (first | refine Chain.lss rfl rfl rfl rfl rfl (fun h2 => ?_) (fun h2 => ?_) | refine Chain.lssD rfl rfl rfl rfl rfl (fun h2 => ?_) (fun h2 => ?_)))
    · refine wk ?_
      ((try (first | intro K ms hms hK | intro K hK)); (first | apply Chain.go | apply Chain.goD); exact rfl; exact rfl; exact Loc.mul rfl rfl rfl (IntWalk.i64_in _ (by omega)))
      refine wk ?_
      refine AC.loop (X := Nat × List (List D)) (fun x => ⟨[(0, .r 63 0), (1, .d (.v (.int .i64 (n : Int)))), (2, .d cmpV), (6, .d (.v (.int .i64 (w : Int)))), (7, .d (.v (.int .i64 ((x.1 * (w + w) : Nat) : Int)))), (8, .d (.v (.int .i64 ((x.1 * (w + w) + (w + w) : Nat) : Int))))], [(63, .row 0 78 4 x.2)]⟩) (fun x => MrgB xs x.2 w x.1 n) (fun x => n - x.1 * (w + w)) (0, us) ⟨⟨hmu, by omega, fun j h => absurd h (Nat.not_lt_zero _)⟩, fun j _ => hbu j⟩ ⟨rfl, rfl, rfl, rfl, iv (by dsimp only; omega), iv (by dsimp only; omega), trivial⟩ ⟨rfl, trivial⟩ ?_
      rintro ⟨j, zs⟩ hi
      dsimp only at hi ⊢
      have hz := hi.ins.mv.tms hx
      have hzl := hi.ins.mv.len
      have hle := hi.ins.le
      have r1 := hi.rest (2 * j) (by rw [dbl]; exact Nat.le_refl _)
      have r2 := hi.rest (2 * j + 1) (by rw [dbl1]; omega)
      rw [dbl] at r1
      rw [dbl1] at r2
      have hstep := @MrgB.step xs zs
      have hfin := @InsB.fin xs zs
      have hins := hi.ins
      have hmul : (j + 1) * (w + w) = j * (w + w) + (w + w) := by rw [Nat.add_mul, Nat.one_mul]
      refine wk ?_
      (first | intro K ms hms hK | intro K hK)
      ((try (first | intro K ms hms hK | intro K hK)); (first | refine Chain.leq rfl rfl rfl rfl rfl (fun h3 => ?_) (fun h3 => ?_) | refine Chain.leqD rfl rfl rfl rfl rfl (fun h3 => ?_) (fun h3 => ?_)))
      · refine wk ?_
        ((try (first | intro K ms hms hK | intro K hK)); refine Chain.callS rfl rfl (symF' (a := j * (w + w)) (m := j * (w + w) + w) (b := j * (w + w) + (w + w)) hz rfl (show ((j * (w + w) : Nat) : Int) + (w : Int) = ((j * (w + w) + w : Nat) : Int) by omega) rfl (by omega) (by omega) (by omega) (by omega) (r1.sub (Nat.le_refl _) (by omega)) (r2.sub (Nat.le_refl _) (by omega))) rfl rfl rfl ?_ ?_; (focus ((repeat (first | exact trivial | refine ⟨.inl rfl, ?_⟩ | refine ⟨.inr rfl, ?_⟩)))))
        rintro vs ⟨hm, hs⟩
        refine wk ?_
        ((try (first | intro K ms hms hK | intro K hK)); (first | apply Chain.go | apply Chain.goD); exact rfl; exact rfl; exact Loc.mul rfl rfl rfl (IntWalk.i64_in _ (by omega)))
        refine wk ?_
        exact ⟨(j + 1, vs), hi.step (by omega) hm hs, by dsimp only; rw [hmul]; omega, ⟨rfl, rfl, rfl, rfl, iv (by dsimp only; rw [hmul]), iv (by dsimp only; rw [hmul]; omega), trivial⟩, ⟨rfl, trivial⟩⟩
      · by_cases h4 : j * (w + w) + w < n
        · refine wk ?_
          ((try (first | intro K ms hms hK | intro K hK)); refine Chain.callS rfl rfl (symF' (a := j * (w + w)) (m := j * (w + w) + w) (b := n) hz rfl (show ((j * (w + w) : Nat) : Int) + (w : Int) = ((j * (w + w) + w : Nat) : Int) by omega) rfl (by omega) h4 (by omega) (by omega) (r1.sub (Nat.le_refl _) (by omega)) (r2.sub (Nat.le_refl _) (by omega))) rfl rfl rfl ?_ ?_; (focus ((repeat (first | exact trivial | refine ⟨.inl rfl, ?_⟩ | refine ⟨.inr rfl, ?_⟩)))))
          rintro vs ⟨hm, hs⟩
          obtain ⟨f1, f2⟩ := hins.fin (by omega) hm hs
          refine wk ?_
          ((try (first | intro K ms hms hK | intro K hK)); (first | apply Chain.go | apply Chain.goD); exact rfl; exact rfl; exact Loc.mul rfl rfl rfl (IntWalk.i64_in _ (by omega)))
          refine wk ?_
          exact ⟨(w + w, vs), ⟨by dsimp only; omega, f1, f2⟩, by dsimp only; omega, ⟨rfl, rfl, rfl, iv (by dsimp only; omega), trivial⟩, ⟨rfl, trivial⟩⟩
        · obtain ⟨f1, f2⟩ := hins.fin (by omega) (.refl _ _ _) (r1.sub (Nat.le_refl _) (by omega))
          refine wk ?_
          ((try (first | intro K ms hms hK | intro K hK)); (first | apply Chain.go | apply Chain.goD); exact rfl; exact rfl; exact Loc.mul rfl rfl rfl (IntWalk.i64_in _ (by omega)))
          refine wk ?_
          exact ⟨(w + w, zs), ⟨by dsimp only; omega, f1, f2⟩, by dsimp only; omega, ⟨rfl, rfl, rfl, iv (by dsimp only; omega), trivial⟩, ⟨rfl, trivial⟩⟩
    · refine wk ?_
      exact ⟨us, ⟨hmu, (hbu 0).sub (by omega) (by omega)⟩, rfl⟩
set_option maxRecDepth 100000 in
set_option maxHeartbeats 4000000 in
theorem sortF {xs : List (List D)} (hx : ∀ c ∈ xs, tm c) (hlen : xs.length ≤ 1000000000) : FnS Try.prog 51 78 4 xs [.d cmpV] (fun ys => Mv xs ys 0 xs.length ∧ SrtR ys 0 xs.length) := by
  refine FnS.of Try.func51 rfl (by kernel_rfl) Try.ntmps51 Try.results51 rfl fun w0 S0 v => ?_
  refine wk ?_
  ((try (first | intro K ms hms hK | intro K hK)); refine Chain.callS rfl rfl (stabF hx hlen) rfl rfl rfl ?_ ?_; (focus ((repeat (first | exact trivial | refine ⟨.inl rfl, ?_⟩ | refine ⟨.inr rfl, ?_⟩)))))
  rintro ys hy
  refine wk ?_
  exact ⟨ys, hy, rfl⟩
end Go.Proofs.Ytfijmpmojhlnmaa
