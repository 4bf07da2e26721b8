/-
  The stable sort of package slices by plain data: insertion.
-/
import Derived.Test.YtfijmpmojhlnmaaSoA
namespace Go.Proofs.Ytfijmpmojhlnmaa
open Go.RowKit
attribute [local irreducible] AC Do St
/-- The key at a place. -/
def kat (xs : List (List D)) (p : Nat) : Int := ky (xs[p]?.getD [])
theorem kat_eq {xs ys : List (List D)} {p q : Nat} (h : ys[p]? = xs[q]?) : kat ys p = kat xs q := by unfold kat; rw [h]
theorem kat_get {xs : List (List D)} {p : Nat} (h : p < xs.length) : ky xs[p] = kat xs p := by unfold kat; rw [List.getElem?_eq_getElem h]; rfl
theorem kat_swap {xs : List (List D)} {i j : Nat} (hli : i < xs.length) (hlj : j < xs.length) (p : Nat) : kat ((xs.set i xs[j]).set j xs[i]) p = if p = j then kat xs i else if p = i then kat xs j else kat xs p := by
  unfold kat
  by_cases e1 : p = j
  · subst e1
    rw [if_pos rfl, List.getElem?_set_self (by simpa using hlj), List.getElem?_eq_getElem hli]
  · rw [if_neg e1, List.getElem?_set_ne (Ne.symm e1)]
    by_cases e2 : p = i
    · subst e2
      rw [if_pos rfl, List.getElem?_set_self hli, List.getElem?_eq_getElem hlj]
    · rw [if_neg e2, List.getElem?_set_ne (Ne.symm e2)]
def SrtR (xs : List (List D)) (a b : Nat) : Prop := ∀ p q, a ≤ p → p < q → q < b → kat xs p ≤ kat xs q
theorem cmpK_neg (x y : Int) : cmpK x y < 0 ↔ x < y := by
  unfold cmpK
  split
  · omega
  · split <;> omega
/-- Insertion: sorted to i but for the element at j, which is not above what follows it. -/
def InsI (ys : List (List D)) (a i j : Nat) : Prop := ∀ p q, a ≤ p → p < q → q ≤ i → q ≠ j → kat ys p ≤ kat ys q
theorem InsI.step {ys : List (List D)} {a i j : Nat} (h : InsI ys a i j) (hj : a < j) (hji : j ≤ i) (hl : i < ys.length) (hk : kat ys j < kat ys (j - 1)) : InsI ((ys.set j (ys[j - 1]'(by omega))).set (j - 1) (ys[j]'(by omega))) a i (j - 1) := by
  intro p q h1 h2 h3 h4
  rw [kat_swap (by omega) (by omega), kat_swap (by omega) (by omega), if_neg h4]
  by_cases e1 : q = j
  · rw [if_pos e1]
    by_cases e2 : p = j - 1
    · rw [if_pos e2]; omega
    · rw [if_neg e2, if_neg (by omega)]
      exact h p (j - 1) h1 (by omega) (by omega) (by omega)
  · rw [if_neg e1]
    by_cases e2 : p = j - 1
    · rw [if_pos e2]; exact h j q (by omega) (by omega) h3 e1
    · rw [if_neg e2]
      by_cases e3 : p = j
      · rw [if_pos e3]; exact h (j - 1) q (by omega) (by omega) h3 e1
      · rw [if_neg e3]; exact h p q h1 h2 h3 e1
theorem InsI.done {ys : List (List D)} {a i j : Nat} (h : InsI ys a i j) (hk : j ≤ a ∨ kat ys (j - 1) ≤ kat ys j) : SrtR ys a (i + 1) := by
  intro p q h1 h2 h3
  by_cases e : q = j
  · rcases hk with hk | hk
    · omega
    · subst e
      by_cases e2 : p = q - 1
      · subst e2; exact hk
      · exact Int.le_trans (h p (q - 1) h1 (by omega) (by omega) (by omega)) hk
  · exact h p q h1 h2 (by omega) e
theorem cmpAt {zs : List (List D)} (hz : ∀ c ∈ zs, tm c) {i j : Nat} (hi : i < zs.length) (hj : j < zs.length) : Fn Try.prog 52 [.g zs[i], .g zs[j]] [.d (.v (.int .i64 (cmpK (kat zs i) (kat zs j))))] := by
  rw [← kat_get hi, ← kat_get hj]
  exact cmpF (hz _ (List.getElem_mem _)) (hz _ (List.getElem_mem _))
def cmpV : D := .v (.func (.func 52) #[] #[])
set_option maxRecDepth 100000 in
set_option maxHeartbeats 2000000 in
theorem insF {xs : List (List D)} (hx : ∀ c ∈ xs, tm c) {a b : Nat} (hab : a ≤ b) (hb : b ≤ xs.length) (hlen : xs.length ≤ 1000000000) : FnS Try.prog 86 78 4 xs [.d (.v (.int .i64 (a : Int))), .d (.v (.int .i64 (b : Int))), .d cmpV] (fun ys => Mv xs ys a b ∧ SrtR ys a b) := by
  refine FnS.of Try.func86 rfl (by kernel_rfl) Try.ntmps86 Try.results86 rfl fun w0 S0 v => ?_
  refine wk ?_
  refine AC.loop (X := Nat × List (List D)) (fun x => ⟨[(0, .r 53 0), (1, .d (.v (.int .i64 (a : Int)))), (2, .d (.v (.int .i64 (b : Int)))), (3, .d cmpV), (8, .d (.v (.int .i64 ((x.1 : Nat) : Int))))], [(53, .row 0 78 4 x.2)]⟩) (fun x => a + 1 ≤ x.1 ∧ Mv xs x.2 a b ∧ SrtR x.2 a x.1) (fun x => b - x.1) (a + 1, xs) ⟨Nat.le_refl _, .refl _ _ _, fun p q h1 h2 h3 => by dsimp only at *; omega⟩ ⟨rfl, rfl, rfl, rfl, iv (by dsimp only; omega), trivial⟩ ⟨rfl, trivial⟩ ?_
  rintro ⟨i, ys⟩ ⟨hi, hmv, hs⟩
  dsimp only at hi hmv hs ⊢
  refine wk ?_
  (first | intro K ms hms hK | intro K hK)
  ((try (first | intro K ms hms hK | intro K hK)); (first | refine Chain.lss rfl rfl rfl rfl rfl (fun h1 => ?_) (fun h1 => ?_) | refine Chain.lssD rfl rfl rfl rfl rfl (fun h1 => ?_) (fun h1 => ?_)))
  · refine wk ?_
    refine AC.loop (X := Nat × List (List D)) (fun x => ⟨[(0, .r 53 0), (1, .d (.v (.int .i64 (a : Int)))), (2, .d (.v (.int .i64 (b : Int)))), (3, .d cmpV), (8, .d (.v (.int .i64 (i : Int)))), (9, .d (.v (.int .i64 ((x.1 : Nat) : Int))))], [(53, .row 0 78 4 x.2)]⟩) (fun x => a ≤ x.1 ∧ x.1 ≤ i ∧ Mv xs x.2 a b ∧ InsI x.2 a i x.1) (fun x => x.1) (i, ys) ⟨by dsimp only; omega, Nat.le_refl _, hmv, fun p q h1 h2 h3 h4 => hs p q h1 h2 (by dsimp only at *; omega)⟩ ⟨rfl, rfl, rfl, rfl, rfl, rfl, trivial⟩ ⟨rfl, trivial⟩ ?_
    rintro ⟨j, zs⟩ ⟨hj, hji, hmz, hin⟩
    dsimp only at hj hji hmz hin ⊢
    have hz := hmz.tms hx
    have hzl := hmz.len
    refine wk ?_
    (first | intro K ms hms hK | intro K hK)
    ((try (first | intro K ms hms hK | intro K hK)); (first | refine Chain.gtr rfl rfl rfl rfl rfl (fun h2 => ?_) (fun h2 => ?_) | refine Chain.gtrD rfl rfl rfl rfl rfl (fun h2 => ?_) (fun h2 => ?_)))
    · refine wk ?_
      ((try (first | intro K ms hms hK | intro K hK)); (first | apply Chain.go | apply Chain.goD); exact rfl; exact rfl; exact Loc.loadEw rfl rfl rfl (tms_get hz (i := j) (by omega)) rfl)
      refine wk ?_
      ((try (first | intro K ms hms hK | intro K hK)); (first | apply Chain.go | apply Chain.goD); exact rfl; exact rfl; exact Loc.idxR (i := j - 1) rfl rfl rfl rfl (by omega) (by omega) rfl)
      refine wk ?_
      ((try (first | intro K ms hms hK | intro K hK)); (first | apply Chain.go | apply Chain.goD); exact rfl; exact rfl; exact Loc.loadEw rfl rfl rfl (tms_get hz (i := j - 1) (by omega)) rfl)
      refine wk ?_
      ((try (first | intro K ms hms hK | intro K hK)); (first | apply Chain.go | apply Chain.goD); exact rfl; exact rfl; refine Loc.callVD (cmpAt hz (i := j) (j := j - 1) (by omega) (by omega)) rfl rfl ?_; (repeat (first | exact trivial | refine ⟨.inl rfl, ?_⟩ | refine ⟨.inr rfl, ?_⟩)))
      refine wk ?_
      ((try (first | intro K ms hms hK | intro K hK)); (first | refine Chain.lss rfl rfl rfl rfl rfl (fun h3 => ?_) (fun h3 => ?_) | refine Chain.lssD rfl rfl rfl rfl rfl (fun h3 => ?_) (fun h3 => ?_)))
      · rw [cmpK_neg] at h3
        refine wk ?_
        ((try (first | intro K ms hms hK | intro K hK)); (first | apply Chain.go | apply Chain.goD); exact rfl; exact rfl; exact Loc.idxR (i := j - 1) rfl rfl rfl rfl (by omega) (by omega) rfl)
        refine wk ?_
        ((try (first | intro K ms hms hK | intro K hK)); (first | apply Chain.go | apply Chain.goD); exact rfl; exact rfl; exact Loc.loadEw rfl rfl rfl (tms_get hz (i := j - 1) (by omega)) rfl)
        refine wk ?_
        ((try (first | intro K ms hms hK | intro K hK)); (first | apply Chain.go | apply Chain.goD); exact rfl; exact rfl; exact Loc.loadEw rfl rfl rfl (tms_get hz (i := j) (by omega)) rfl)
        refine wk ?_
        ((try (first | intro K ms hms hK | intro K hK)); (first | apply Chain.st | apply Chain.stD); exact rfl; exact rfl; exact Do.storeEw rfl rfl rfl ⟨_, tms_get hz (i := j) (by omega)⟩ rfl ⟨(hz _ (List.getElem_mem _)).2, (hz _ (List.getElem_mem _)).len⟩ rfl rfl rfl; exact rfl; exact rfl)
        have hy1 : ∀ c ∈ zs.set j (zs[j - 1]'(by omega)), tm c := tms_set hz (hz _ (List.getElem_mem _))
        have hl1 : (zs.set j (zs[j - 1]'(by omega))).length = zs.length := by simp
        ((try (first | intro K ms hms hK | intro K hK)); (first | apply Chain.go | apply Chain.goD); exact rfl; exact rfl; exact Loc.idxR (i := j - 1) rfl rfl rfl rfl (by omega) (by omega) rfl)
        refine wk ?_
        ((try (first | intro K ms hms hK | intro K hK)); (first | apply Chain.st | apply Chain.stD); exact rfl; exact rfl; exact Do.storeEw rfl rfl rfl ⟨_, tms_get hy1 (i := j - 1) (by omega)⟩ rfl ⟨(hz _ (List.getElem_mem _)).2, (hz _ (List.getElem_mem _)).len⟩ rfl rfl rfl; exact rfl; exact rfl)
        refine wk ?_
        exact ⟨(j - 1, _), ⟨by dsimp only; omega, by dsimp only; omega, hmz.trans (.swap zs (by omega) (by omega) (by omega) (by omega)), hin.step (by omega) hji (by omega) h3⟩, by dsimp only; omega, ⟨rfl, rfl, rfl, rfl, rfl, iv (by dsimp only; omega), trivial⟩, ⟨rfl, trivial⟩⟩
      · rw [cmpK_neg] at h3
        refine wk ?_
        exact ⟨(i + 1, zs), ⟨by dsimp only; omega, hmz, hin.done (.inr (by omega))⟩, by dsimp only; omega, ⟨rfl, rfl, rfl, rfl, rfl, trivial⟩, ⟨rfl, trivial⟩⟩
    · refine wk ?_
      exact ⟨(i + 1, zs), ⟨by dsimp only; omega, hmz, hin.done (.inl (by omega))⟩, by dsimp only; omega, ⟨rfl, rfl, rfl, rfl, rfl, trivial⟩, ⟨rfl, trivial⟩⟩
  · refine wk ?_
    exact ⟨ys, ⟨hmv, fun p q h2 h3 h4 => hs p q h2 h3 (by omega)⟩, rfl⟩
end Go.Proofs.Ytfijmpmojhlnmaa
