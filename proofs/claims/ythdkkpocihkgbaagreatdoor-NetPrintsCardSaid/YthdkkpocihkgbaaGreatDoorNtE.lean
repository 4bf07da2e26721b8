/-
 Package net by plain data.
-/
import Derived.Test.YthdkkpocihkgbaaGreatDoorNtD
namespace Go.Proofs.YthdkkpocihkgbaaGreatDoor
open Go.RowKit
attribute [local irreducible] AC Do St
/-- The width behind a layer, if there is one before it. -/
def stW (w : Int) (l : LN) : Int := if 0 < w then widN l w else w
def wids : Int → List LN → List Int
 | w, [] => [w]
 | w, l :: r => w :: wids (stW w l) r
theorem wids_take (w : Int) (ls : List LN) (i : Nat) (h : i < ls.length) : wids w (ls.take (i + 1)) = wids w (ls.take i) ++ [(ls.take (i + 1)).foldl stW w] := by
 induction ls generalizing w i with
 | nil => simp at h
 | cons l r ih =>
  cases i with
  | zero => rfl
  | succ i =>
   simp only [List.take_succ_cons, wids, List.cons_append, List.foldl_cons]
   rw [ih _ _ (by simpa using h)]
theorem wids_len (w : Int) (ls : List LN) : (wids w ls).length = ls.length + 1 := by
 induction ls generalizing w with
 | nil => rfl
 | cons l r ih => simp [wids, ih]
/-- What net.Widths answers. -/
def widsR (n : Int) (ls : List LN) : List DV :=
 if greatB n ls = true then [.d (.l []), .d (.v (.int .i64 2))]
 else if ls.foldl stW n ≤ 0 then [.d (.l []), .d (.v (.int .i64 4))]
 else [.d (enIs (wids n ls)), .d (.v (.int .i64 0))]
theorem great_out {n : Int} {ls : List LN} (h : greatB n ls = false) : ls.length ≤ 16 ∧ (∀ l ∈ ls, bigL l = false) ∧ n ≤ 32 := by
 unfold greatB at h
 rw [Bool.or_eq_false_iff, Bool.or_eq_false_iff] at h
 refine ⟨Nat.le_of_not_lt (of_decide_eq_false h.1.2), fun l hl => ?_, ?_⟩
 ·have := List.any_eq_false.1 h.2 l hl
  simpa using this
 ·have := of_decide_eq_false h.1.1
  omega
set_option maxRecDepth 100000 in
set_option maxHeartbeats 4000000 in
theorem widthsF (n : Int) (ls : List LN) : Fn Tryz.prog 14 [.g (enNet n ls)] (widsR n ls) := by
 unfold widsR
 refine Fn.of Tryz.func14 rfl (by kernel_rfl) Tryz.ntmps14 Tryz.results14 rfl fun w0 S0 => ?_
 refine wn ?_
 refine c1 (greatF n ls) ?_
 cases hg : greatB n ls with
 | true =>
  rw [if_pos rfl]
  refine wk ?_
  exact ⟨.d rfl (.inr rfl), .d rfl (.inl rfl), trivial⟩
 | false =>
 obtain ⟨g1, g2, g3⟩ := great_out hg
 rw [if_neg (by decide)]
 refine wn ?_
 ((try (first | intro K ms hms hK | intro K hK)); (first | apply Chain.ef | apply Chain.efD); exact rfl; exact rfl; exact Do.litR rfl rfl rfl rfl rfl rfl rfl rfl; exact rfl; exact rfl)
 refine wk ?_
 refine AC.loop (X := Nat) (fun i => ⟨[(2, .d .n), (3, .d (.v (.int .i64 0))), (4, .d (.v (.int .i64 ((ls.take i).foldl stW n)))), (5, .r 13 i), (15, .d (.l (ls.map enLN))), (16, .d (.v (.int .i64 (ls.length : Int)))), (17, .d (.v (.int .i64 (i : Int))))], [(13, .row i 3 1 ((wids n (ls.take i)).map fun v => [.v (.int .i64 v)]))]⟩) (fun i => i ≤ ls.length) (fun i => ls.length - i) 0 (Nat.zero_le _) ⟨rfl, rfl, rfl, rfl, rfl, rfl, rfl, trivial⟩ ⟨rfl, trivial⟩ ?_
 intro i hi
 dsimp only
 refine wk ?_
 refine s1 (fun h3 => ?_) (fun h3 => ?_)
 ·have hi' : i < ls.length := by omega
  have hget : ls[i]? = some ls[i] := List.getElem?_eq_getElem hi'
  have hw := wids_take n ls i hi'
  have hwl := wids_len n (ls.take i)
  have hb := g2 _ (List.getElem_mem hi')
  have hf : (ls.take (i + 1)).foldl stW n = stW ((ls.take i).foldl stW n) ls[i] := by rw [List.take_succ_eq_append_getElem hi', List.foldl_append]; rfl
  rw [hf] at hw
  rw [List.length_take] at hwl
  have hml : ((wids n (ls.take i)).map fun v => [D.v (.int .i64 v)]).length = i + 1 := by rw [List.length_map]; omega
  generalize ls[i] = l at hget hf hw hb
  generalize (ls.take i).foldl stW n = w at hf hw ⊢
  generalize wids n (ls.take i) = ws at hw hml ⊢
  refine wk ?_
  refine s1 (fun h4 => ?_) (fun h4 => ?_)
  ·have e : stW w l = widN l w := if_pos h4
   rw [e] at hf hw
   refine wk ?_
   refine c1 (widthF l w hb) ?_
   refine wk ?_
   exact ⟨i + 1, hi', by omega, ⟨rfl, rfl, by dsimp only; rw [hf]; rfl, rfl, rfl, rfl, rfl, trivial⟩, ⟨by dsimp only; rw [hw, List.map_append]; rfl, trivial⟩⟩
  ·have e : stW w l = w := if_neg h4
   rw [e] at hf hw
   refine wk ?_
   exact ⟨i + 1, hi', by omega, ⟨rfl, rfl, by dsimp only; rw [hf]; rfl, rfl, rfl, rfl, rfl, trivial⟩, ⟨by dsimp only; rw [hw, List.map_append]; rfl, trivial⟩⟩
 ·rw [List.take_of_length_le (by omega)]
  refine wk ?_
  refine s1 (fun h4 => ?_) (fun h4 => ?_)
  ·refine wk ?_
   rw [if_pos h4]
   exact ⟨.d rfl (.inr rfl), .d rfl (.inl rfl), trivial⟩
  ·refine wk ?_
   rw [if_neg h4]
   exact ⟨.d rfl ⟨_, _, rfl⟩, .d rfl (.inl rfl), trivial⟩
end Go.Proofs.YthdkkpocihkgbaaGreatDoor
