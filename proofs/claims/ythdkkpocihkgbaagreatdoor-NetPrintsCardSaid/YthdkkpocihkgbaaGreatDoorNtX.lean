/-
 attestlaw15.Light, attestref15.Rats.
-/
import Derived.Test.YthdkkpocihkgbaaGreatDoorNtV
import Derived.Test.YthdkkpocihkgbaaGreatDoorNtK
namespace Go.Proofs.YthdkkpocihkgbaaGreatDoor
open Go.RowKit
attribute [local irreducible] AC Do St
theorem sgnR0 {q : Rat} : sgnR q = 0 ↔ q = 0 := by
 unfold sgnR
 constructor
 ·intro h
  split at h
  ·omega
  ·split at h
   ·rename_i h2; exact Rat.num_eq_zero.1 h2
   ·omega
 ·intro h
  subst h
  rfl
theorem sgnR_eq {p q : Rat} : sgnR (p - q) = 0 ↔ p = q := by
 have h : sgnR (p - q) = 0 ↔ p - q = 0 := sgnR0
 rw [h]
 constructor
 ·intro h
  have : p - q + q = 0 + q := by rw [h]
  rwa [Rat.sub_add_cancel, Rat.zero_add] at this
 ·rintro rfl; exact Rat.sub_self
set_option maxRecDepth 100000 in
set_option maxHeartbeats 4000000 in
theorem ratsEF {k m : Nat} (a b : List Rat) (ha : a.length ≤ 1000000000) (h1 : ∀ q ∈ a, Bd k q) (h2 : ∀ q ∈ b, Bd m q) (hk : k + m ≤ 50000000) : Fn Tryz.prog 23 [.d (enQs a), .d (enQs b)] [.d (.v (.bool (decide (a = b))))] := by
 refine Fn.of Tryz.func23 rfl (by kernel_rfl) Tryz.ntmps23 Tryz.results23 rfl fun w0 S0 => ?_
 refine wk ?_
 refine s1 (fun h3 => ?_) (fun h3 => ?_)
 ·have : ¬ a = b := fun h => h3 (by rw [h])
  refine wk ?_
  rw [decide_eq_false this]
  exact ⟨.d rfl (.inl rfl), trivial⟩
 ·have hl : a.length = b.length := by omega
  refine wk ?_
  refine AC.loop (X := Nat) (fun i => ⟨[(0, .d (enQs a)), (1, .d (enQs b)), (12, .d (.v (.int .i64 (a.length : Int)))), (13, .d (.v (.int .i64 (i : Int))))], []⟩) (fun i => i ≤ a.length ∧ a.take i = b.take i) (fun i => a.length - i) 0 ⟨Nat.zero_le _, rfl⟩ ⟨rfl, rfl, rfl, rfl, trivial⟩ trivial ?_
  intro i ⟨hi, heq⟩
  refine wk ?_
  refine s1 (fun h4 => ?_) (fun h4 => ?_)
  ·have hi' : i < a.length := by omega
   have hi2 : i < b.length := by omega
   have hga : a[i]? = some a[i] := List.getElem?_eq_getElem hi'
   have hgb : b[i]? = some b[i] := List.getElem?_eq_getElem hi2
   have hba := h1 _ (List.getElem_mem hi')
   have hbb := h2 _ (List.getElem_mem hi2)
   have hs : a[i] = b[i] → a.take (i + 1) = b.take (i + 1) := fun h => by rw [List.take_succ_eq_append_getElem hi', List.take_succ_eq_append_getElem hi2, heq, h]
   have hn : ¬ a[i] = b[i] → ¬ a = b := fun h h2 => h (by subst h2; rfl)
   generalize a[i] = x at hga hs hn hba
   generalize b[i] = y at hgb hs hn hbb
   have hsg : sgnR (x - y) = 0 ↔ x = y := sgnR_eq
   have hcm := qCmp hba hbb (by omega)
   generalize sgnR (x - y) = sg at hsg hcm
   refine wk ?_
   refine c1 hcm ?_
   refine s1 (fun h5 => ?_) (fun h5 => ?_)
   ·refine wk ?_
    rw [decide_eq_false (hn fun h => h5 (hsg.2 h))]
    exact ⟨.d rfl (.inl rfl), trivial⟩
   ·refine wk ?_
    exact ⟨i + 1, ⟨by omega, hs (hsg.1 (Classical.byContradiction h5))⟩, by omega, ⟨rfl, rfl, rfl, rfl, trivial⟩, trivial⟩
  ·rw [List.take_of_length_le (by omega), List.take_of_length_le (by omega)] at heq
   refine wk ?_
   rw [decide_eq_true heq]
   exact ⟨.d rfl (.inl rfl), trivial⟩
/-- What Light leaves out. -/
def badQ (l : LQ) : Bool := decide (4 < l.W.length) || (decide (5 < l.B.length) || (decide (4 < l.G.length) || ((l.W.any fun w => decide (5 < w.length)) || l.G.any fun g => decide (4 < g.length))))
def lightL (l : LQ) : LQ := ⟨l.kind, l.W.map onesN, onesN l.B, l.G⟩
def lightGo : List LQ → List LQ × Bool
 | [] => ([], true)
 | l :: r => if badQ l then ([], false) else (lightL l :: (lightGo r).1, (lightGo r).2)
def lightQ (n : Int) (ls : List LQ) : List LQ × Bool := if 4 < n ∨ 3 < ls.length then ([], false) else lightGo ls
end Go.Proofs.YthdkkpocihkgbaaGreatDoor
