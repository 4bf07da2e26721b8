/-
 Package net by plain data.
-/
import Derived.Test.YthdkkpocihkgbaaGreatDoorNtC
namespace Go.Proofs.YthdkkpocihkgbaaGreatDoor
open Go.RowKit
attribute [local irreducible] AC Do St
set_option maxRecDepth 100000 in
set_option maxHeartbeats 2000000 in
theorem width1F (k : Int) (xs : List (List D)) : FnB Tryz.prog 109 [.d (.l xs)] [.v (.int .i64 k)] (.bool (decide ((xs.length : Int) ≠ k))) := by
 refine FnB.of Tryz.func109 rfl (by kernel_rfl) Tryz.ntmps109 Tryz.results109 rfl fun w0 S0 => ?_
 refine wk ?_
 refine s1 (fun h => ?_) (fun h => ?_)
 ·refine wk ?_
  rw [decide_eq_true h]
  exact ⟨.d rfl (.inl rfl), trivial⟩
 ·refine wk ?_
  rw [decide_eq_false h]
  exact ⟨.d rfl (.inl rfl), trivial⟩
set_option maxRecDepth 100000 in
set_option maxHeartbeats 2000000 in
theorem width2F (k v : Int) : FnB Tryz.prog 111 [.d (.v (.int .i64 v))] [.v (.int .i64 k)] (.bool (decide (v < 0) || decide (k ≤ v))) := by
 refine FnB.of Tryz.func111 rfl (by kernel_rfl) Tryz.ntmps111 Tryz.results111 rfl fun w0 S0 => ?_
 refine wk ?_
 refine s1 (fun h1 => ?_) (fun h1 => ?_)
 ·refine wk ?_
  rw [decide_eq_true h1]
  exact ⟨.d rfl (.inl rfl), trivial⟩
 ·refine wk ?_
  refine s1 (fun h2 => ?_) (fun h2 => ?_)
  ·refine wk ?_
   rw [decide_eq_false h1, decide_eq_true h2]
   exact ⟨.d rfl (.inl rfl), trivial⟩
  ·refine wk ?_
   rw [decide_eq_false h1, decide_eq_false h2]
   exact ⟨.d rfl (.inl rfl), trivial⟩
theorem bigL_out {l : LN} (h : bigL l = false) : (l.kind = 1 → l.W.length ≤ 32 ∧ ∀ r ∈ l.W, r.length ≤ 32) ∧ (l.kind = 3 → l.G.length ≤ 32 ∧ ∀ g ∈ l.G, g.length ≤ 32) := by
 unfold bigL at h
 rw [Bool.or_eq_false_iff] at h
 constructor
 ·intro e
  have h1 := h.1
  rw [decide_eq_true e, Bool.true_and, Bool.or_eq_false_iff] at h1
  refine ⟨Nat.le_of_not_lt (of_decide_eq_false h1.1), fun r hr => ?_⟩
  have := List.any_eq_false.1 h1.2 r hr
  simpa using this
 ·intro e
  have h1 := h.2
  rw [decide_eq_true e, Bool.true_and, Bool.or_eq_false_iff] at h1
  refine ⟨Nat.le_of_not_lt (of_decide_eq_false h1.1), fun r hr => ?_⟩
  have := List.any_eq_false.1 h1.2 r hr
  simpa using this
/-- The width behind a layer: 0: there is none. -/
def badG (k : Int) (g : List Int) : Bool := decide (g.length = 0) || g.any fun v => decide (v < 0) || decide (k ≤ v)
def widN (l : LN) (k : Int) : Int :=
 if l.kind = 1 then if (decide (l.B.length ≠ l.W.length) || l.W.any fun r => decide ((r.length : Int) ≠ k)) = true then 0 else l.W.length
 else if l.kind = 2 then k
 else if l.kind = 3 then if l.G.any (badG k) = true then 0 else l.G.length
 else 0
def intD : D → Int
 | .v (.int _ v) => v
 | _ => 0
theorem any_Rs (W : List (List Rat)) (k : Int) : (W.map enRs).any (fun x => decide ((lenD x : Int) ≠ k)) = W.any fun r => decide ((r.length : Int) ≠ k) := by
 rw [List.any_map]
 simp only [Function.comp_def, len_Rs]
theorem any_Is (g : List Int) (k : Int) : (g.map fun v => D.v (.int .i64 v)).any (fun x => decide (intD x < 0) || decide (k ≤ intD x)) = g.any fun v => decide (v < 0) || decide (k ≤ v) := by
 rw [List.any_map]
 rfl
theorem enIs_rows (g : List Int) : enIs g = rowsD (g.map fun v => D.v (.int .i64 v)) := by
 unfold enIs rowsD
 rw [List.map_map]
 rfl
set_option maxRecDepth 100000 in
set_option maxHeartbeats 4000000 in
theorem widthF (l : LN) (k : Int) (hb : bigL l = false) : Fn Tryz.prog 53 [.g (enLN l), .d (.v (.int .i64 k))] [.d (.v (.int .i64 (widN l k)))] := by
 have hbl : (l.B.map enR).length = l.B.length := List.length_map ..
 have hwl : (l.W.map enRs).length = l.W.length := List.length_map ..
 have hgl : (l.G.map enIs).length = l.G.length := List.length_map ..
 obtain ⟨hq1, hq3⟩ := bigL_out hb
 refine Fn.of Tryz.func53 rfl (by kernel_rfl) Tryz.ntmps53 Tryz.results53 rfl fun w0 S0 => ?_
 unfold widN
 refine wk ?_
 refine s1 (fun h1 => ?_) (fun h1 => ?_)
 ·rw [if_pos h1]
  have hW := (hq1 h1).1
  refine wk ?_
  refine s1 (fun h2 => ?_) (fun h2 => ?_)
  ·rw [if_pos (by rw [decide_eq_true (p := l.B.length ≠ l.W.length) (by omega)]; rfl)]
   refine wk ?_
   exact ⟨.d rfl (.inl rfl), trivial⟩
  ·rw [decide_eq_false (p := l.B.length ≠ l.W.length) (by omega), Bool.false_or]
   refine wk ?_
   (first | intro K ms hms hK | intro K hK)
   refine Chain.pin 3 3 [.v (.int .i64 k)] rfl rfl fun b => ?_
   ((try (first | intro K ms hms hK | intro K hK)); (first | apply Chain.go | apply Chain.goD); exact rfl; exact rfl; exact Loc.mkFn rfl rfl)
   have hI := hasR (l.W.map enRs) (fun x => decide ((lenD x : Int) ≠ k)) (Value.func (.func 109) #[] #[Value.pointer (some ⟨b, 0, none⟩)]) (by omega)
   rw [any_Rs] at hI
   ((try (first | intro K ms hms hK | intro K hK)); (first | apply Chain.go | apply Chain.goD); exact rfl; exact rfl; exact Loc.callW (R := [3]) hI rfl ⟨.inl rfl, .inl rfl, trivial⟩ (fun _ _ _ _ hR hi x hx => by
    obtain ⟨r, _, rfl⟩ := List.mem_map.1 hx
    rw [len_Rs, ← List.length_map (f := enR)]
    exact (width1F k (r.map enR)).here hi (id := 3) (by rw [hR 3 (by simp)]; rfl)))
   cases hp : l.W.any fun r => decide ((r.length : Int) ≠ k) with
   | true =>
    refine wk ?_
    rw [if_pos hp]
    exact ⟨.d rfl (.inl rfl), trivial⟩
   | false =>
    refine wk ?_
    rw [if_neg (by rw [hp]; decide)]
    exact ⟨.d rfl (.inl (by rw [hwl])), trivial⟩
 ·rw [if_neg h1]
  refine wk ?_
  refine s1 (fun h2 => ?_) (fun h2 => ?_)
  ·refine wk ?_
   rw [if_pos h2]
   exact ⟨.d rfl (.inl rfl), trivial⟩
  ·rw [if_neg h2]
   refine wk ?_
   refine s1 (fun h3 => ?_) (fun h3 => ?_)
   ·rw [if_pos h3]
    obtain ⟨hG, hg⟩ := hq3 h3
    (first | intro K ms hms hK | intro K hK)
    refine Chain.pin 3 3 [.v (.int .i64 k)] rfl rfl fun b => ?_
    refine wk ?_
    refine AC.loop (X := Nat) (fun i => ⟨[(2, .p 2 0), (3, .d (.v (.pointer (some ⟨b, 0, none⟩)))), (33, .d (rowsD (l.G.map enIs))), (34, .d (.v (.int .i64 ((l.G.map enIs).length : Int)))), (35, .d (.v (.int .i64 (i : Int))))], [(3, boxO b 3 [.v (.int .i64 k)]), (2, .box 30 ((enLN l).map .d))]⟩) (fun i => i ≤ l.G.length ∧ ∀ g ∈ l.G.take i, badG k g = false) (fun i => l.G.length - i) 0 ⟨Nat.zero_le _, by simp⟩ ⟨rfl, rfl, rfl, rfl, rfl, trivial⟩ ⟨rfl, rfl, trivial⟩ ?_
    intro i ⟨hi, hb⟩
    dsimp only
    refine wk ?_
    refine s1 (fun h4 => ?_) (fun h4 => ?_)
    ·have hi' : i < l.G.length := by omega
     have hget : (l.G.map enIs)[i]? = some (enIs l.G[i]) := by rw [List.getElem?_map, List.getElem?_eq_getElem hi']; rfl
     have hyes : badG k l.G[i] = true → l.G.any (badG k) = true := fun h => List.any_eq_true.2 ⟨_, List.getElem_mem hi', h⟩
     have hno : badG k l.G[i] = false → ∀ g ∈ l.G.take (i + 1), badG k g = false := fun h x hx => by
      rw [List.take_succ_eq_append_getElem hi'] at hx
      rcases List.mem_append.1 hx with hx | hx
      ·exact hb x hx
      ·rw [List.mem_singleton.1 hx]; exact h
     have hgl2 := hg _ (List.getElem_mem hi')
     generalize l.G[i] = g at hget hyes hno hgl2
     refine wk ?_
     refine s1 (fun h5 => ?_) (fun h5 => ?_)
     ·refine wk ?_
      rw [if_pos (hyes (by unfold badG; rw [decide_eq_true (p := g.length = 0) (by omega)]; rfl))]
      exact ⟨.d rfl (.inl rfl), trivial⟩
     ·refine wk ?_
      ((try (first | intro K ms hms hK | intro K hK)); (first | apply Chain.go | apply Chain.goD); exact rfl; exact rfl; exact Loc.mkFn rfl rfl)
      have hI := hasI (g.map fun v => D.v (.int .i64 v)) (fun x => decide (intD x < 0) || decide (k ≤ intD x)) (Value.func (.func 111) #[] #[Value.pointer (some ⟨b, 0, none⟩)]) (by simp; omega)
      rw [any_Is, ← enIs_rows] at hI
      have hbd : badG k g = g.any fun v => decide (v < 0) || decide (k ≤ v) := by unfold badG; rw [decide_eq_false (p := g.length = 0) (by omega)]; rfl
      rw [hbd] at hyes hno
      ((try (first | intro K ms hms hK | intro K hK)); (first | apply Chain.go | apply Chain.goD); exact rfl; exact rfl; exact Loc.callW (R := [3]) hI rfl ⟨.inl rfl, .inl rfl, trivial⟩ (fun _ _ _ _ hR hi x hx => by
       obtain ⟨v, _, rfl⟩ := List.mem_map.1 hx
       exact (width2F k v).here hi (id := 3) (by rw [hR 3 (by simp)]; rfl)))
      cases hp : g.any fun v => decide (v < 0) || decide (k ≤ v) with
      | true =>
       refine wk ?_
       rw [if_pos (hyes hp)]
       exact ⟨.d rfl (.inl rfl), trivial⟩
      | false =>
       refine wk ?_
       exact ⟨i + 1, ⟨by omega, hno hp⟩, by omega, ⟨rfl, rfl, rfl, rfl, rfl, trivial⟩, ⟨rfl, rfl, trivial⟩⟩
    ·rw [List.take_of_length_le (by omega)] at hb
     have hr : l.G.any (badG k) = false := List.any_eq_false.2 fun x hx => by rw [hb x hx]; decide
     refine wk ?_
     rw [hr, if_neg (by decide)]
     exact ⟨.d rfl (.inl (by rw [hgl])), trivial⟩
   ·refine wk ?_
    rw [if_neg h3]
    exact ⟨.d rfl (.inl rfl), trivial⟩
end Go.Proofs.YthdkkpocihkgbaaGreatDoor
