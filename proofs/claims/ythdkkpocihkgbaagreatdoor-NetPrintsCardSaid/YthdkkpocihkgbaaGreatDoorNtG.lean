/-
 Package net by plain data.
-/
import Derived.Test.YthdkkpocihkgbaaGreatDoorNtF
namespace Go.Proofs.YthdkkpocihkgbaaGreatDoor
open Go.RowKit
attribute [local irreducible] AC Do St
set_option maxRecDepth 100000 in
set_option maxHeartbeats 2000000 in
theorem cloneR (x : List Rat) (hlen : x.length ≤ 1000000000) : Fn Tryz.prog 56 [.d (enRs x)] [.d (enRs x)] := by
 unfold enRs
 have hk : ∀ c ∈ x.map enR, c.length = 3 := fun c hc => by
  obtain ⟨t, _, rfl⟩ := List.mem_map.1 hc
  rfl
 have hl : (x.map enR).length ≤ 1000000000 := by simpa using hlen
 generalize x.map enR = xs at hk hl
 refine Fn.of Tryz.func56 rfl (by kernel_rfl) Tryz.ntmps56 Tryz.results56 rfl fun w0 S0 => ?_
 refine wk ?_
 (first | intro K ms hms hK | intro K hK)
 refine Chain.eqN rfl rfl rfl rfl (fun h u => ?_) (fun u => ?_)
 ·subst h
  refine wk ?_
  exact ⟨.d rfl (.inr rfl), trivial⟩
 ·refine wk ?_
  ((try (first | intro K ms hms hK | intro K hK)); (first | apply Chain.ef | apply Chain.efD); exact rfl; exact rfl; exact Do.append rfl rfl rfl rfl rfl hk (by simp; omega); exact rfl; exact rfl)
  refine wk ?_
  exact ⟨.d rfl ⟨_, _, rfl⟩, trivial⟩
def stepN (l : LN) (x : List Rat) : List Rat := if l.kind = 1 then affN l x else if l.kind = 2 then reluN x else poolN l x
theorem stepF {k m : Nat} (l : LN) (x : List Rat) (hb : bigL l = false) (hw : 0 < widN l x.length) (hx : x.length ≤ 32) (hbw : ∀ r ∈ l.W, ∀ q ∈ r, Bd k q) (hbb : ∀ q ∈ l.B, Bd k q) (hbx : ∀ q ∈ x, Bd m q) (hk : k + 33 * (k + m + 1) ≤ 50000000) :
  Fn Tryz.prog 57 [.g (enLN l), .d (enRs x)] [.d (enRs (stepN l x))] ∧ ((stepN l x).length : Int) = widN l x.length ∧ (∀ q ∈ stepN l x, Bd (k + 33 * (k + m + 1)) q) ∧ (stepN l x).length ≤ 32 := by
 obtain ⟨q1, q3⟩ := bigL_out hb
 unfold widN at hw ⊢
 unfold stepN
 have hm : (x.length + 1) * (k + m + 1) ≤ 33 * (k + m + 1) := Nat.mul_le_mul_right _ (by omega)
 have hm0 : x.length * (k + m + 1) ≤ 33 * (k + m + 1) := Nat.mul_le_mul_right _ (by omega)
 by_cases h1 : l.kind = 1
 ·rw [if_pos h1] at hw ⊢
  rw [if_pos h1]
  by_cases hc : (decide (l.B.length ≠ l.W.length) || l.W.any fun r => decide ((r.length : Int) ≠ (x.length : Int))) = true
  ·rw [if_pos hc] at hw
   omega
  ·rw [if_neg hc]
   rw [Bool.not_eq_true, Bool.or_eq_false_iff] at hc
   have hB : l.B.length = l.W.length := by simpa using hc.1
   have hr : ∀ r ∈ l.W, r.length = x.length := fun r hr => by
    have := List.any_eq_false.1 hc.2 r hr
    simp at this
    omega
   have hlen : (affN l x).length = l.W.length := by simp [affN]; omega
   refine ⟨stepA l x h1 (q1 h1).1 hB hr (by omega) hbw hbb hbx (by omega), by rw [hlen], fun q hq => ?_, by rw [hlen]; exact (q1 h1).1⟩
   obtain ⟨⟨r, b⟩, hp, rfl⟩ := List.mem_map.1 hq
   have hr1 := (List.of_mem_zip hp).1
   have hb1 := (List.of_mem_zip hp).2
   have e := hr r hr1
   exact (dotT_bd (hbb b hb1) (hbw r hr1) hbx r.length (Nat.le_refl _) (by omega)).mono (by rw [e]; omega)
 ·rw [if_neg h1] at hw ⊢
  rw [if_neg h1]
  by_cases h2 : l.kind = 2
  ·rw [if_pos h2, if_pos h2]
   refine ⟨stepR l x h2 (by omega) hbx (by omega), by simp [reluN], fun q hq => ?_, by simp [reluN]; omega⟩
   obtain ⟨p, hp, rfl⟩ := List.mem_map.1 hq
   exact Bd.maxR ((hbx p hp).mono (by omega)) (Bd.zero (by omega))
  ·rw [if_neg h2] at hw ⊢
   rw [if_neg h2]
   by_cases h3 : l.kind = 3
   ·rw [if_pos h3] at hw ⊢
    by_cases hc : l.G.any (badG x.length) = true
    ·rw [if_pos hc] at hw
     omega
    ·rw [if_neg hc]
     rw [Bool.not_eq_true] at hc
     obtain ⟨g1, g2⟩ := q3 h3
     have hg : ∀ g ∈ l.G, g.length ≤ 32 ∧ g ≠ [] ∧ ∀ v ∈ g, 0 ≤ v ∧ v < x.length := fun g hg => by
      have h := List.any_eq_false.1 hc g hg
      rw [Bool.not_eq_true] at h
      unfold badG at h
      rw [Bool.or_eq_false_iff] at h
      refine ⟨g2 g hg, fun e => ?_, fun v hv => ?_⟩
      ·rw [e] at h
       simp at h
      ·have := List.any_eq_false.1 h.2 v hv
       simp at this
       omega
     have hlen : (poolN l x).length = l.G.length := by simp [poolN]
     refine ⟨stepG l x h3 g1 hg hbx (by omega), by rw [hlen], fun q hq => ?_, by rw [hlen]; exact g1⟩
     obtain ⟨g, hp, rfl⟩ := List.mem_map.1 hq
     exact (gT_bd hbx (hg g hp).2.1 (hg g hp).2.2 g.length).mono (by omega)
   ·rw [if_neg h3] at hw
    omega
def szN (k m : Nat) : Nat → Nat
 | 0 => m
 | i + 1 => k + 33 * (k + szN k m i + 1)
theorem szN_mono (k m : Nat) {i j : Nat} (h : i ≤ j) : szN k m i ≤ szN k m j := by
 induction h with
 | refl => exact Nat.le_refl _
 | @step j _ ih =>
  show szN k m i ≤ k + 33 * (k + szN k m j + 1)
  omega
def trace : List Rat → List LN → List (List Rat)
 | x, [] => [x]
 | x, l :: r => x :: trace (stepN l x) r
theorem trace_take (x : List Rat) (ls : List LN) (i : Nat) (h : i < ls.length) : trace x (ls.take (i + 1)) = trace x (ls.take i) ++ [(ls.take (i + 1)).foldl (fun x l => stepN l x) x] := by
 induction ls generalizing x i with
 | nil => simp at h
 | cons l r ih =>
  cases i with
  | zero => rfl
  | succ i =>
   simp only [List.take_succ_cons, trace, List.cons_append, List.foldl_cons]
   rw [ih _ _ (by simpa using h)]
theorem trace_len (x : List Rat) (ls : List LN) : (trace x ls).length = ls.length + 1 := by
 induction ls generalizing x with
 | nil => rfl
 | cons l r ih => simp [trace, ih]
theorem trace_last (x : List Rat) (ls : List LN) : (trace x ls)[ls.length]? = some (ls.foldl (fun x l => stepN l x) x) := by
 induction ls generalizing x with
 | nil => rfl
 | cons l r ih => simpa [trace] using ih (stepN l x)
theorem stW_low (ls : List LN) (w : Int) (h : w ≤ 0) : ls.foldl stW w ≤ 0 := by
 induction ls generalizing w with
 | nil => exact h
 | cons l r ih => exact ih _ (by unfold stW; rw [if_neg (by omega)]; exact h)
theorem stW_pos {ls : List LN} {w : Int} (h : 0 < ls.foldl stW w) (i : Nat) : 0 < (ls.take i).foldl stW w := by
 rcases Int.lt_or_le 0 ((ls.take i).foldl stW w) with h1 | h1
 ·exact h1
 ·have h2 := stW_low (ls.drop i) _ h1
  rw [← List.foldl_append, List.take_append_drop] at h2
  omega
/-- What is known of the values behind i layers. -/
theorem trace_inv {k m : Nat} {n : Int} {ls : List LN} {x : List Rat} (hb : ∀ l ∈ ls, bigL l = false) (hn : n ≤ 32) (hw : 0 < ls.foldl stW n) (hx : (x.length : Int) = n) (hbw : ∀ l ∈ ls, ∀ r ∈ l.W, ∀ q ∈ r, Bd k q) (hbb : ∀ l ∈ ls, ∀ q ∈ l.B, Bd k q) (hbx : ∀ q ∈ x, Bd m q) (hk : szN k m ls.length ≤ 50000000) (i : Nat) (hi : i ≤ ls.length) :
  (((ls.take i).foldl (fun x l => stepN l x) x).length : Int) = (ls.take i).foldl stW n ∧ ((ls.take i).foldl (fun x l => stepN l x) x).length ≤ 32 ∧ ∀ q ∈ (ls.take i).foldl (fun x l => stepN l x) x, Bd (szN k m i) q := by
 induction i with
 | zero => exact ⟨hx, by simp; omega, hbx⟩
 | succ i ih =>
  obtain ⟨a1, a2, a3⟩ := ih (by omega)
  have h1 := hb _ (List.getElem_mem (show i < ls.length by omega))
  have h2 := hbw _ (List.getElem_mem (show i < ls.length by omega))
  have h3 := hbb _ (List.getElem_mem (show i < ls.length by omega))
  have hp := stW_pos hw i
  have hs := szN_mono k m (i := i + 1) (j := ls.length) (by omega)
  have hst := stW_pos hw (i + 1)
  rw [List.take_succ_eq_append_getElem (by omega), List.foldl_append] at hst
  rw [List.take_succ_eq_append_getElem (by omega), List.foldl_append, List.foldl_append]
  generalize ls[i] = l at h1 h2 h3 hst ⊢
  generalize (ls.take i).foldl (fun x l => stepN l x) x = y at a1 a2 a3 ⊢
  generalize (ls.take i).foldl stW n = w at a1 hp hst ⊢
  simp only [List.foldl_cons, List.foldl_nil] at hst ⊢
  have e : stW w l = widN l w := if_pos hp
  rw [e, ← a1] at hst ⊢
  obtain ⟨_, b1, b2, b3⟩ := stepF l y h1 hst a2 h2 h3 a3 (Nat.le_trans hs hk)
  exact ⟨b1, b3, b2⟩
/-- What net.Trace answers. -/
def traceR (n : Int) (ls : List LN) (x : List Rat) : List DV :=
 if greatB n ls = true then [.d (.l []), .d (.v (.int .i64 2))]
 else if ls.foldl stW n ≤ 0 then [.d (.l []), .d (.v (.int .i64 4))]
 else if (x.length : Int) ≠ n then [.d (.l []), .d (.v (.int .i64 1))]
 else [.d (rowsD ((trace x ls).map enRs)), .d (.v (.int .i64 0))]
theorem take_len {x : List Rat} {ls : List LN} {i : Nat} (hi : i ≤ ls.length) : (trace x (ls.take i))[i]? = some ((ls.take i).foldl (fun x l => stepN l x) x) := by
 have h := trace_last x (ls.take i)
 rwa [List.length_take, Nat.min_eq_left hi] at h
set_option maxRecDepth 100000 in
set_option maxHeartbeats 4000000 in
theorem traceF {k m : Nat} (n : Int) (ls : List LN) (x : List Rat) (hbw : ∀ l ∈ ls, ∀ r ∈ l.W, ∀ q ∈ r, Bd k q) (hbb : ∀ l ∈ ls, ∀ q ∈ l.B, Bd k q) (hbx : ∀ q ∈ x, Bd m q) (hk : szN k m ls.length ≤ 50000000) : Fn Tryz.prog 21 [.g (enNet n ls), .d (enRs x)] (traceR n ls x) := by
 have hW := widthsF n ls
 unfold widsR at hW
 unfold traceR
 by_cases hg : greatB n ls = true
 ·rw [if_pos hg] at hW ⊢
  refine Fn.of Tryz.func21 rfl (by kernel_rfl) Tryz.ntmps21 Tryz.results21 rfl fun w0 S0 => ?_
  refine wn ?_
  refine c1 hW ?_
  refine wk ?_
  exact ⟨.d rfl (.inr rfl), .d rfl (.inl rfl), trivial⟩
 rw [if_neg hg] at hW ⊢
 obtain ⟨g1, g2, g3⟩ := great_out (by simpa using hg)
 by_cases hw : ls.foldl stW n ≤ 0
 ·rw [if_pos hw] at hW ⊢
  refine Fn.of Tryz.func21 rfl (by kernel_rfl) Tryz.ntmps21 Tryz.results21 rfl fun w0 S0 => ?_
  refine wn ?_
  refine c1 hW ?_
  refine wk ?_
  exact ⟨.d rfl (.inr rfl), .d rfl (.inl rfl), trivial⟩
 rw [if_neg hw] at hW ⊢
 refine Fn.of Tryz.func21 rfl (by kernel_rfl) Tryz.ntmps21 Tryz.results21 rfl fun w0 S0 => ?_
 refine wn ?_
 refine c1 hW ?_
 refine wn ?_
 refine s1 (fun h1 => ?_) (fun h1 => ?_)
 ·rw [if_pos h1]
  refine wk ?_
  exact ⟨.d rfl (.inr rfl), .d rfl (.inl rfl), trivial⟩
 rw [if_neg h1]
 have hxn : (x.length : Int) = n := by omega
 refine wn ?_
 refine c1 (cloneR x (by omega)) ?_
 refine wn ?_
 ((try (first | intro K ms hms hK | intro K hK)); (first | apply Chain.ef | apply Chain.efD); exact rfl; exact rfl; exact Do.litR rfl rfl rfl rfl rfl rfl rfl rfl; exact rfl; exact rfl)
 refine wk ?_
 refine AC.loop (X := Nat) (fun i => ⟨[(5, .d (.v (.int .i64 0))), (8, .r 26 i), (28, .d (.l (ls.map enLN))), (29, .d (.v (.int .i64 (ls.length : Int)))), (30, .d (.v (.int .i64 (i : Int))))], [(26, .row i 27 1 ((trace x (ls.take i)).map fun y => [enRs y]))]⟩) (fun i => i ≤ ls.length) (fun i => ls.length - i) 0 (Nat.zero_le _) ⟨rfl, rfl, rfl, rfl, rfl, trivial⟩ ⟨rfl, trivial⟩ ?_
 intro i hi
 dsimp only
 refine wk ?_
 refine s1 (fun h3 => ?_) (fun h3 => ?_)
 ·have hi' : i < ls.length := by omega
  have hget : ls[i]? = some ls[i] := List.getElem?_eq_getElem hi'
  have htk := trace_take x ls i hi'
  have htl := trace_len x (ls.take i)
  rw [List.length_take] at htl
  have hml : ((trace x (ls.take i)).map fun y => [enRs y]).length = i + 1 := by rw [List.length_map]; omega
  have hlast : ((trace x (ls.take i)).map fun y => [enRs y])[i]? = some [enRs ((ls.take i).foldl (fun x l => stepN l x) x)] := by rw [List.getElem?_map, take_len hi]; rfl
  obtain ⟨a1, a2, a3⟩ := trace_inv g2 g3 (by omega) hxn hbw hbb hbx hk i hi
  have hst := stW_pos (w := n) (ls := ls) (by omega) (i + 1)
  have hp := stW_pos (w := n) (ls := ls) (by omega) i
  have hfl : (ls.take (i + 1)).foldl (fun x l => stepN l x) x = stepN ls[i] ((ls.take i).foldl (fun x l => stepN l x) x) := by rw [List.take_succ_eq_append_getElem hi', List.foldl_append]; rfl
  rw [hfl] at htk
  clear hfl
  rw [List.take_succ_eq_append_getElem hi', List.foldl_append] at hst
  have hs := szN_mono k m (i := i + 1) (j := ls.length) (by omega)
  have b1 := g2 _ (List.getElem_mem hi')
  have b2 := hbw _ (List.getElem_mem hi')
  have b3 := hbb _ (List.getElem_mem hi')
  generalize ls[i] = l at hget htk hst b1 b2 b3
  generalize (ls.take i).foldl (fun x l => stepN l x) x = y at htk hlast a1 a2 a3
  generalize (ls.take i).foldl stW n = w at hst hp a1
  simp only [List.foldl_cons, List.foldl_nil] at hst
  have e : stW w l = widN l w := if_pos hp
  rw [e, ← a1] at hst
  obtain ⟨f1, _⟩ := stepF l y b1 hst a2 b2 b3 a3 (Nat.le_trans hs hk)
  generalize trace x (ls.take i) = tr at htk htl hml hlast ⊢
  refine wk ?_
  ((try (first | intro K ms hms hK | intro K hK)); (first | apply Chain.go | apply Chain.goD); exact rfl; exact rfl; exact Loc.idxR (i := i) rfl rfl rfl rfl (by omega) (by omega) rfl)
  refine wk ?_
  refine c1 f1 ?_
  refine wk ?_
  exact ⟨i + 1, hi', by omega, ⟨rfl, rfl, rfl, rfl, rfl, trivial⟩, ⟨by dsimp only; rw [htk, List.map_append]; rfl, trivial⟩⟩
 ·rw [List.take_of_length_le (by omega)]
  refine wk ?_
  exact ⟨.d rfl ⟨_, _, by dsimp only [rowsD]; rw [List.map_map]; rfl⟩, .d rfl (.inl rfl), trivial⟩
/-- What net.Eval answers. -/
def evalR (n : Int) (ls : List LN) (x : List Rat) : List DV :=
 if greatB n ls = true then [.d (.l []), .d (.v (.int .i64 2))]
 else if ls.foldl stW n ≤ 0 then [.d (.l []), .d (.v (.int .i64 4))]
 else if (x.length : Int) ≠ n then [.d (.l []), .d (.v (.int .i64 1))]
 else [.d (enRs (ls.foldl (fun x l => stepN l x) x)), .d (.v (.int .i64 0))]
set_option maxRecDepth 100000 in
set_option maxHeartbeats 4000000 in
theorem evalF {k m : Nat} (n : Int) (ls : List LN) (x : List Rat) (hbw : ∀ l ∈ ls, ∀ r ∈ l.W, ∀ q ∈ r, Bd k q) (hbb : ∀ l ∈ ls, ∀ q ∈ l.B, Bd k q) (hbx : ∀ q ∈ x, Bd m q) (hk : szN k m ls.length ≤ 50000000) : Fn Tryz.prog 22 [.g (enNet n ls), .d (enRs x)] (evalR n ls x) := by
 have hT := traceF n ls x hbw hbb hbx hk
 unfold traceR at hT
 unfold evalR
 by_cases hg : greatB n ls = true
 ·rw [if_pos hg] at hT ⊢
  refine Fn.of Tryz.func22 rfl (by kernel_rfl) Tryz.ntmps22 Tryz.results22 rfl fun w0 S0 => ?_
  refine wk ?_
  refine c1 hT ?_
  refine wk ?_
  exact ⟨.d rfl (.inr rfl), .d rfl (.inl rfl), trivial⟩
 rw [if_neg hg] at hT ⊢
 by_cases hw : ls.foldl stW n ≤ 0
 ·rw [if_pos hw] at hT ⊢
  refine Fn.of Tryz.func22 rfl (by kernel_rfl) Tryz.ntmps22 Tryz.results22 rfl fun w0 S0 => ?_
  refine wk ?_
  refine c1 hT ?_
  refine wk ?_
  exact ⟨.d rfl (.inr rfl), .d rfl (.inl rfl), trivial⟩
 rw [if_neg hw] at hT ⊢
 by_cases h1 : (x.length : Int) ≠ n
 ·rw [if_pos h1] at hT ⊢
  refine Fn.of Tryz.func22 rfl (by kernel_rfl) Tryz.ntmps22 Tryz.results22 rfl fun w0 S0 => ?_
  refine wk ?_
  refine c1 hT ?_
  refine wk ?_
  exact ⟨.d rfl (.inr rfl), .d rfl (.inl rfl), trivial⟩
 rw [if_neg h1] at hT ⊢
 obtain ⟨g1, _, _⟩ := great_out (by simpa using hg)
 have htl := trace_len x ls
 have hml : ((trace x ls).map enRs).length = ls.length + 1 := by rw [List.length_map]; omega
 have hlast : ((trace x ls).map enRs)[ls.length]? = some (enRs (ls.foldl (fun x l => stepN l x) x)) := by rw [List.getElem?_map, trace_last]; rfl
 generalize (trace x ls).map enRs = tr at hml hlast hT
 refine Fn.of Tryz.func22 rfl (by kernel_rfl) Tryz.ntmps22 Tryz.results22 rfl fun w0 S0 => ?_
 refine wk ?_
 refine c1 hT ?_
 refine wk ?_
 ((try (first | intro K ms hms hK | intro K hK)); (first | apply Chain.go | apply Chain.goD); exact rfl; exact rfl; exact Loc.idxM (i := ls.length) rfl rfl rfl (by omega) hlast rfl)
 refine wk ?_
 exact ⟨.d rfl (.inl rfl), .d rfl (.inl rfl), trivial⟩
end Go.Proofs.YthdkkpocihkgbaaGreatDoor
