/-
  The law AletheSpoils.
-/
import Derived.Test.YtbbpecfapohlaaaGreatDoorAlD
namespace Go.Proofs.YtbbpecfapohlaaaGreatDoor
open Go.RowKit
attribute [local irreducible] AC Do St
/-- The bytes of rows. -/
theorem pa_rows {b : Int} {rows : List ST} (hb : 0 ≤ b ∧ b ≤ 1000) (hf : ∀ s ∈ rows, nfX s) (hc : chX rows = 0) (hl : (allX rows).length ≤ 1000000) (hr : rows.length ≤ 300000) : (∃ l, readsA b rows 0 = some l ∧ paA b (allX rows) = (l, 0)) ∨ (readsA b rows 0 = none ∧ paA b (allX rows) = ([], 6)) := by
  obtain ⟨m, hm⟩ := all_parse hf hc
  unfold paA
  rw [if_neg (by omega), hm]
  dsimp only
  rw [if_neg (by omega), if_neg (by omega)]
  cases readsA b rows 0 with
  | some l => exact .inl ⟨l, rfl, rfl⟩
  | none => exact .inr ⟨rfl, rfl⟩
theorem Loc.remM {P : Program} {C : Cx} {o : Oper} {σ : AS} {T T' : TypeId} {x y : Operand} {k : IntKind} {a b m : Int} (ho : o.op = .binOp .rem T x y T') (hx : ev σ x = .d (.v (.int k a))) (hy : ev σ y = .d (.v (.int k b))) (hb : 0 < b) (hm : a.tmod b = m) : Loc P C o σ (.d (.v (.int k m))) :=
  Loc.bin ho hx hy (fun w => by
    have h1 : ¬ b = 0 := by omega
    cases k <;> simp [binOp, Op.intDiv, h1, hm]) rfl
/-- Which rows stand for row i: left out, doubled, exchanged. -/
def spJ (h : Int) (k n i : Nat) : List Nat := if h = 2 ∧ i = k ∧ i + 1 < n then [i + 1] else if h = 2 ∧ i = k + 1 then [i - 1] else if h = 0 ∧ i = k then [] else if h = 1 ∧ i = k then [i, i] else [i]
theorem spJ_lt {h : Int} {k n i j : Nat} (hi : i < n) (hj : j ∈ spJ h k n i) : j < n := by
  unfold spJ at hj
  split at hj
  · rename_i h1; obtain rfl := List.mem_singleton.1 hj; exact h1.2.2
  · split at hj
    · obtain rfl := List.mem_singleton.1 hj; omega
    · split at hj
      · cases hj
      · split at hj
        · simp only [List.mem_cons, List.not_mem_nil, or_false, or_self] at hj; omega
        · obtain rfl := List.mem_singleton.1 hj; exact hi
theorem spJ_len (h : Int) (k n i : Nat) : (spJ h k n i).length ≤ 2 := by
  unfold spJ
  split
  · exact Nat.le_succ 1
  · split
    · exact Nat.le_succ 1
    · split
      · exact Nat.zero_le 2
      · split <;> simp
def rwA (b : Int) (L : List Stp) (j : Nat) : ST := alRow b (L.getD j zeroS) j
theorem rwA_lt {b : Int} {L : List Stp} {j : Nat} (h : j < L.length) : rwA b L j = alRow b L[j] j := by
  unfold rwA
  rw [List.getD_eq_getElem?_getD, List.getElem?_eq_getElem h]; rfl
/-- The rows up to row i. -/
def spR (b : Int) (L : List Stp) (h : Int) (k i : Nat) : List ST := (List.range i).flatMap fun i => (spJ h k L.length i).map (rwA b L)
theorem spR_succ (b : Int) (L : List Stp) (h : Int) (k i : Nat) : spR b L h k (i + 1) = spR b L h k i ++ (spJ h k L.length i).map (rwA b L) := by
  unfold spR
  rw [List.range_succ, List.flatMap_append, List.flatMap_singleton]
theorem spR_len (b : Int) (L : List Stp) (h : Int) (k : Nat) : ∀ i, (spR b L h k i).length ≤ 2 * i
  | 0 => Nat.zero_le _
  | i + 1 => by
    have h1 := spR_len b L h k i
    have h2 := spJ_len h k L.length i
    rw [spR_succ, List.length_append, List.length_map]
    omega
theorem spR_fit {b : Int} {L : List Stp} {h : Int} {k : Nat} (hl : L.length ≤ 60) (hs : ∀ s ∈ L, LawS s) (hc : chA b L = 0) : ∀ i, i ≤ L.length → ∀ x ∈ spR b L h k i, Fit x 172 15589 3
  | 0, _, x, hx => by cases hx
  | i + 1, hi, x, hx => by
    obtain ⟨hb, _, h2⟩ := chA_0 hc
    rw [spR_succ] at hx
    rcases List.mem_append.1 hx with hx | hx
    · exact spR_fit hl hs hc i (by omega) x hx
    · obtain ⟨j, hj, rfl⟩ := List.mem_map.1 hx
      have hj := spJ_lt (by omega : i < L.length) hj
      rw [rwA_lt hj]
      exact law_fit hb.1 (by omega) (hs _ (List.getElem_mem hj)) (h2 j hj)
theorem allX_app (a b : List ST) : allX (a ++ b) = allX a ++ allX b := by unfold allX; rw [List.flatMap_append]
theorem allX_row {b : Int} {L : List Stp} {j : Nat} (h : j < L.length) : allX [rwA b L j] = alLine b L[j] j := by
  rw [rwA_lt h]
  unfold allX alLine
  simp
theorem rd_mk2 {b : Int} (hb : 0 ≤ b ∧ b ≤ 1000) {out : List ST} {l : List Stp} (hn : ∀ s ∈ out, nfX s) (hwl : wlXs out) (ht : (allX out).length ≤ 1000000) (hc2 : cXs out ≤ 100000) (h : readsA b out 0 = some l) : RdA b out l := by
  obtain ⟨h1, h2⟩ := reads_ok hb.1 hn h
  have hs := reads_small hb hwl (by omega) h
  have hlen : l.length ≤ 300000 := by
    have := cXs_len out
    rw [h1, rowsA_len] at this
    rw [h1] at hc2
    omega
  have hf : ∀ s ∈ out, nfX s ∧ wdX s = true ∧ htX s ≤ 3 := fun s hm => by
    rw [h1] at hm
    obtain ⟨i, hi, rfl⟩ := mem_rows hm
    have ht := hs _ (List.getElem_mem hi)
    have f := fit_step (N := 30000001) hb.1 (by omega) (h2 i hi) (by have := ht.ok.idx.2; omega) (by decide) fun q hq => Nat.lt_succ_of_le (printL_le (ht.bd q hq) (by decide))
    exact ⟨f.nf, f.wd, f.h⟩
  exact ⟨h1.symm, chA_mk hb hlen h2, h2, hs, hlen, hn, fit_chX hf hc2, by rw [← text_rows, ← h1]; exact ht⟩
theorem stL_len2 {l : List SN} (h : l.length ≤ 60) : (stL l).length = l.length := by unfold stL; rw [List.length_map, List.length_take]; omega
section
variable {Kw : World → Prop} [KSt Kw] [KHas Kw Tab] [KHas Kw ErrV] [KHas Kw MaxL]
set_option maxRecDepth 100000 in
set_option maxHeartbeats 8000000 in
theorem aletheSpoilsF (b : Int) (l : List SN) (pos how : Int) (hl : ∀ s ∈ l, okSN s) (hs : ∀ s ∈ stL l, LawS s) : FnK Tryz.prog 9 Kw [.d (.v (.int .i64 b)), .d (.l (l.map enSN)), .d (.v (.int .i64 pos)), .d (.v (.int .i64 how))] [.d (.v (.bool true))] := by
  have haw := awake25 (Kw := Kw)
  have hof := of22 l hl
  have hlen := stL_len l
  have hln := stL_len2 (l := l)
  have hml : (l.map enSN).length = l.length := List.length_map ..
  generalize stL l = L at hof hs hlen hln
  have htold := told22k (k := 256) (by decide) L (fun s h => lawS_sm (hs s h)) (by omega)
  have hcq := checkQF b L (fun s h => (hs s h).ok) (by omega)
  by_cases hc : chA b L = 0
  rotate_left
  · generalize chA b L = c at hcq hc
    refine FnK.of Tryz.func9 rfl (by kernel_rfl) Tryz.ntmps9 Tryz.results9 rfl fun w0 S0 hK0 => ?_
    refine wa ?_
    exact ⟨.d rfl (.inl rfl), trivial⟩
  rw [hc] at hcq
  by_cases h0 : l.length = 0
  · refine FnK.of Tryz.func9 rfl (by kernel_rfl) Tryz.ntmps9 Tryz.results9 rfl fun w0 S0 hK0 => ?_
    refine wa ?_
    exact ⟨.d rfl (.inl rfl), trivial⟩
  by_cases h60 : 60 < l.length
  · refine FnK.of Tryz.func9 rfl (by kernel_rfl) Tryz.ntmps9 Tryz.results9 rfl fun w0 S0 hK0 => ?_
    refine wa ?_
    exact ⟨.d rfl (.inl rfl), trivial⟩
  have hln := hln (by omega)
  obtain ⟨hb, g1, g2⟩ := chA_0 hc
  obtain ⟨m, hm⟩ : ∃ m, pos.tmod (l.length : Int) = m := ⟨_, rfl⟩
  have hmr : -(l.length : Int) < m ∧ m < l.length := by
    rw [← hm]
    have h1 := Int.tmod_lt_of_pos pos (b := (l.length : Int)) (by omega)
    have h2 := Int.lt_tmod_of_pos pos (b := (l.length : Int)) (by omega)
    exact ⟨h2, h1⟩
  obtain ⟨k, hk⟩ : ∃ k : Nat, k = m.natAbs := ⟨_, rfl⟩
  obtain ⟨H, hH⟩ : ∃ H, how.tmod 3 = H := ⟨_, rfl⟩
  have hline : ∀ j (h : j < L.length), FnK Tryz.prog 43 Kw [.d (.v (.int .i64 b)), .g (enSQ L[j]), .d (.v (.int .i64 (j : Int)))] [.d (.v (.string (tx (allX [rwA b L j]))))] := fun j h => by
    rw [allX_row h]
    exact lineQF (k := 256) b L[j] j hb (hs _ (List.getElem_mem h)).ok (g2 j h) (by omega) (by decide) (hs _ (List.getElem_mem h)).bd
  have hfit := spR_fit (h := H) (k := k) hlen hs hc
  have hsl := spR_len b L H k
  have hx1 : ∀ j, j < L.length → (allX [rwA b L j]).length ≤ 1000000 := fun j h => by
    have f := law_fit hb.1 (by omega) (hs _ (List.getElem_mem h)) (g2 j h)
    have := allX_wc [rwA b L j]
    rw [wXs_cons, cXs_cons, wXs_nil, cXs_nil, rwA_lt h] at this
    have := f.w
    have := f.c
    rw [rwA_lt h]
    omega
  have hxl : ∀ i, i ≤ L.length → (allX (spR b L H k i)).length ≤ 100000000 := fun i hi => by
    have f := fits_w (hfit i hi)
    have := allX_wc (spR b L H k i)
    have := hsl i
    omega
  have hLl : (L.map enSQ).length = L.length := List.length_map ..
  refine FnK.of Tryz.func9 rfl (by kernel_rfl) Tryz.ntmps9 Tryz.results9 rfl fun w0 S0 hK0 => ?_
  refine wa ?_
  ((try (first | intro K ms hms hK | intro K hK)); (first | apply Chain.go | apply Chain.goD); exact rfl; exact rfl; exact Loc.remM rfl rfl rfl (by omega) hm)
  have hkn : k < L.length := by omega
  by_cases hm0 : m < 0
  case' pos =>
    refine wa ?_
    ((try (first | intro K ms hms hK | intro K hK)); (first | apply Chain.go | apply Chain.goD); exact rfl; exact rfl; exact Loc.negM rfl rfl (m := (k : Int)) (by rw [IntWalk.i64_in _ (by omega)]; omega))
    refine wa ?_
  case' neg =>
    obtain rfl : m = (k : Int) := by omega
    refine wa ?_
  all_goals
    clear hm0 hm hmr hk
    refine AC.loop (X := Nat) (fun i => ⟨[(0, .d (.v (.int .i64 b))), (3, .d (.v (.int .i64 how))), (9, .d (.v (.int .i64 (k : Int)))), (10, .d (.v (.string (tx (allX (spR b L H k i)))))), (11, .d (.l (L.map enSQ))), (45, .d (.v (.int .i64 (L.length : Int)))), (46, .d (.v (.int .i64 (i : Int))))], []⟩) (fun i => i ≤ L.length) (fun i => L.length - i) 0 (Nat.zero_le _) ⟨rfl, rfl, rfl, rfl, rfl, rfl, rfl, trivial⟩ trivial ?_
    intro i hi
    dsimp only at hi ⊢
    by_cases h1 : i < L.length
    · by_cases c2 : H = 2
      · by_cases ca : i = k
        · by_cases cb : i + 1 < L.length
          · have e : spJ H k L.length i = [i + 1] := by unfold spJ; rw [if_pos ⟨c2, ca, cb⟩]
            have hT : allX (spR b L H k (i + 1)) = allX (spR b L H k i) ++ allX [rwA b L (i + 1)] := by rw [spR_succ, e, allX_app]; rfl
            have hj : i + 1 < L.length := by omega
            have hgj := List.getElem?_eq_getElem hj
            have hF := hline _ hj
            have hb1 := hxl i hi
            have hb2 := hx1 _ hj
            generalize allX (spR b L H k i) = T at hT hb1 ⊢
            generalize allX [rwA b L (i + 1)] = u at hT hF hb2
            generalize L[i + 1] = s at hgj hF
            refine wa ?_
            ((try (first | intro K ms hms hK | intro K hK)); (first | apply Chain.go | apply Chain.goD); exact rfl; exact rfl; exact Loc.remM rfl rfl rfl (by decide) hH)
            refine wa ?_
            ((try (first | intro K ms hms hK | intro K hK)); (first | apply Chain.go | apply Chain.goD); exact rfl; exact rfl; exact Loc.remM rfl rfl rfl (by decide) hH)
            refine wa ?_
            ((try (first | intro K ms hms hK | intro K hK)); (first | apply Chain.go | apply Chain.goD); exact rfl; exact rfl; exact Loc.remM rfl rfl rfl (by decide) hH)
            refine wa ?_
            ((try (first | intro K ms hms hK | intro K hK)); (first | apply Chain.go | apply Chain.goD); exact rfl; exact rfl; exact Loc.catL _ rfl rfl rfl rfl (by omega))
            refine wa ?_
            ((try (first | intro K ms hms hK | intro K hK)); (first | apply Chain.go | apply Chain.goD); exact rfl; exact rfl; exact Loc.remM rfl rfl rfl (by decide) hH)
            refine wa ?_
            exact ⟨i + 1, h1, by omega, ⟨rfl, rfl, rfl, by dsimp only; rw [hT]; rfl, rfl, rfl, rfl, trivial⟩, trivial⟩
          · have e : spJ H k L.length i = [i] := by unfold spJ; rw [if_neg (fun h => cb h.2.2), if_neg (fun h => by omega), if_neg (fun h => by omega), if_neg (fun h => by omega)]
            have hT : allX (spR b L H k (i + 1)) = allX (spR b L H k i) ++ allX [rwA b L (i)] := by rw [spR_succ, e, allX_app]; rfl
            have hj : i < L.length := by omega
            have hgj := List.getElem?_eq_getElem hj
            have hF := hline _ hj
            have hb1 := hxl i hi
            have hb2 := hx1 _ hj
            generalize allX (spR b L H k i) = T at hT hb1 ⊢
            generalize allX [rwA b L (i)] = u at hT hF hb2
            generalize L[i] = s at hgj hF
            refine wa ?_
            ((try (first | intro K ms hms hK | intro K hK)); (first | apply Chain.go | apply Chain.goD); exact rfl; exact rfl; exact Loc.remM rfl rfl rfl (by decide) hH)
            refine wa ?_
            ((try (first | intro K ms hms hK | intro K hK)); (first | apply Chain.go | apply Chain.goD); exact rfl; exact rfl; exact Loc.remM rfl rfl rfl (by decide) hH)
            refine wa ?_
            ((try (first | intro K ms hms hK | intro K hK)); (first | apply Chain.go | apply Chain.goD); exact rfl; exact rfl; exact Loc.remM rfl rfl rfl (by decide) hH)
            refine wa ?_
            ((try (first | intro K ms hms hK | intro K hK)); (first | apply Chain.go | apply Chain.goD); exact rfl; exact rfl; exact Loc.catL _ rfl rfl rfl rfl (by omega))
            refine wa ?_
            ((try (first | intro K ms hms hK | intro K hK)); (first | apply Chain.go | apply Chain.goD); exact rfl; exact rfl; exact Loc.remM rfl rfl rfl (by decide) hH)
            refine wa ?_
            exact ⟨i + 1, h1, by omega, ⟨rfl, rfl, rfl, by dsimp only; rw [hT]; rfl, rfl, rfl, rfl, trivial⟩, trivial⟩
        · by_cases cb : i = k + 1
          · have e : spJ H k L.length i = [i - 1] := by unfold spJ; rw [if_neg (fun h => ca h.2.1), if_pos ⟨c2, cb⟩]
            have hT : allX (spR b L H k (i + 1)) = allX (spR b L H k i) ++ allX [rwA b L (i - 1)] := by rw [spR_succ, e, allX_app]; rfl
            have hj : i - 1 < L.length := by omega
            have hgj := List.getElem?_eq_getElem hj
            have hF := hline _ hj
            have hb1 := hxl i hi
            have hb2 := hx1 _ hj
            generalize allX (spR b L H k i) = T at hT hb1 ⊢
            generalize allX [rwA b L (i - 1)] = u at hT hF hb2
            generalize L[i - 1] = s at hgj hF
            have hi1 : (i : Int) - 1 = ((i - 1 : Nat) : Int) := by omega
            refine wa ?_
            ((try (first | intro K ms hms hK | intro K hK)); (first | apply Chain.go | apply Chain.goD); exact rfl; exact rfl; exact Loc.remM rfl rfl rfl (by decide) hH)
            refine wa ?_
            ((try (first | intro K ms hms hK | intro K hK)); (first | apply Chain.go | apply Chain.goD); exact rfl; exact rfl; exact Loc.remM rfl rfl rfl (by decide) hH)
            refine wa ?_
            rw [hi1]
            ((try (first | intro K ms hms hK | intro K hK)); (first | apply Chain.go | apply Chain.goD); exact rfl; exact rfl; exact Loc.remM rfl rfl rfl (by decide) hH)
            refine wa ?_
            ((try (first | intro K ms hms hK | intro K hK)); (first | apply Chain.go | apply Chain.goD); exact rfl; exact rfl; exact Loc.catL _ rfl rfl rfl rfl (by omega))
            refine wa ?_
            ((try (first | intro K ms hms hK | intro K hK)); (first | apply Chain.go | apply Chain.goD); exact rfl; exact rfl; exact Loc.remM rfl rfl rfl (by decide) hH)
            refine wa ?_
            exact ⟨i + 1, h1, by omega, ⟨rfl, rfl, rfl, by dsimp only; rw [hT]; rfl, rfl, rfl, rfl, trivial⟩, trivial⟩
          · have e : spJ H k L.length i = [i] := by unfold spJ; rw [if_neg (fun h => ca h.2.1), if_neg (fun h => cb h.2), if_neg (fun h => ca h.2), if_neg (fun h => ca h.2)]
            have hT : allX (spR b L H k (i + 1)) = allX (spR b L H k i) ++ allX [rwA b L (i)] := by rw [spR_succ, e, allX_app]; rfl
            have hj : i < L.length := by omega
            have hgj := List.getElem?_eq_getElem hj
            have hF := hline _ hj
            have hb1 := hxl i hi
            have hb2 := hx1 _ hj
            generalize allX (spR b L H k i) = T at hT hb1 ⊢
            generalize allX [rwA b L (i)] = u at hT hF hb2
            generalize L[i] = s at hgj hF
            refine wa ?_
            ((try (first | intro K ms hms hK | intro K hK)); (first | apply Chain.go | apply Chain.goD); exact rfl; exact rfl; exact Loc.remM rfl rfl rfl (by decide) hH)
            refine wa ?_
            ((try (first | intro K ms hms hK | intro K hK)); (first | apply Chain.go | apply Chain.goD); exact rfl; exact rfl; exact Loc.remM rfl rfl rfl (by decide) hH)
            refine wa ?_
            ((try (first | intro K ms hms hK | intro K hK)); (first | apply Chain.go | apply Chain.goD); exact rfl; exact rfl; exact Loc.remM rfl rfl rfl (by decide) hH)
            refine wa ?_
            ((try (first | intro K ms hms hK | intro K hK)); (first | apply Chain.go | apply Chain.goD); exact rfl; exact rfl; exact Loc.catL _ rfl rfl rfl rfl (by omega))
            refine wa ?_
            ((try (first | intro K ms hms hK | intro K hK)); (first | apply Chain.go | apply Chain.goD); exact rfl; exact rfl; exact Loc.remM rfl rfl rfl (by decide) hH)
            refine wa ?_
            exact ⟨i + 1, h1, by omega, ⟨rfl, rfl, rfl, by dsimp only; rw [hT]; rfl, rfl, rfl, rfl, trivial⟩, trivial⟩
      · by_cases ca : i = k
        · by_cases cz : H = 0
          · have e : spJ H k L.length i = [] := by unfold spJ; rw [if_neg (fun h => c2 h.1), if_neg (fun h => c2 h.1), if_pos ⟨cz, ca⟩]
            have hT : allX (spR b L H k (i + 1)) = allX (spR b L H k i) := by rw [spR_succ, e, List.map_nil, List.append_nil]
            generalize allX (spR b L H k i) = T at hT ⊢
            refine wa ?_
            ((try (first | intro K ms hms hK | intro K hK)); (first | apply Chain.go | apply Chain.goD); exact rfl; exact rfl; exact Loc.remM rfl rfl rfl (by decide) hH)
            refine wa ?_
            ((try (first | intro K ms hms hK | intro K hK)); (first | apply Chain.go | apply Chain.goD); exact rfl; exact rfl; exact Loc.remM rfl rfl rfl (by decide) hH)
            refine wa ?_
            ((try (first | intro K ms hms hK | intro K hK)); (first | apply Chain.go | apply Chain.goD); exact rfl; exact rfl; exact Loc.remM rfl rfl rfl (by decide) hH)
            refine wa ?_
            exact ⟨i + 1, h1, by omega, ⟨rfl, rfl, rfl, by dsimp only; rw [hT]; rfl, rfl, rfl, rfl, trivial⟩, trivial⟩
          · by_cases co : H = 1
            · have e : spJ H k L.length i = [i, i] := by unfold spJ; rw [if_neg (fun h => c2 h.1), if_neg (fun h => c2 h.1), if_neg (fun h => cz h.1), if_pos ⟨co, ca⟩]
              have hT : allX (spR b L H k (i + 1)) = (allX (spR b L H k i) ++ allX [rwA b L (i)]) ++ allX [rwA b L (i)] := by rw [spR_succ, e, show [i, i].map (rwA b L) = [rwA b L i] ++ [rwA b L i] from rfl, allX_app, allX_app, List.append_assoc]
              have hj : i < L.length := by omega
              have hgj := List.getElem?_eq_getElem hj
              have hF := hline _ hj
              have hb1 := hxl i hi
              have hb2 := hx1 _ hj
              generalize allX (spR b L H k i) = T at hT hb1 ⊢
              generalize allX [rwA b L (i)] = u at hT hF hb2
              generalize L[i] = s at hgj hF
              have hb3 : (T ++ u).length ≤ 200000000 := by rw [List.length_append]; omega
              refine wa ?_
              ((try (first | intro K ms hms hK | intro K hK)); (first | apply Chain.go | apply Chain.goD); exact rfl; exact rfl; exact Loc.remM rfl rfl rfl (by decide) hH)
              refine wa ?_
              ((try (first | intro K ms hms hK | intro K hK)); (first | apply Chain.go | apply Chain.goD); exact rfl; exact rfl; exact Loc.remM rfl rfl rfl (by decide) hH)
              refine wa ?_
              ((try (first | intro K ms hms hK | intro K hK)); (first | apply Chain.go | apply Chain.goD); exact rfl; exact rfl; exact Loc.remM rfl rfl rfl (by decide) hH)
              refine wa ?_
              ((try (first | intro K ms hms hK | intro K hK)); (first | apply Chain.go | apply Chain.goD); exact rfl; exact rfl; exact Loc.catL _ rfl rfl rfl rfl (by omega))
              refine wa ?_
              ((try (first | intro K ms hms hK | intro K hK)); (first | apply Chain.go | apply Chain.goD); exact rfl; exact rfl; exact Loc.remM rfl rfl rfl (by decide) hH)
              refine wa ?_
              ((try (first | intro K ms hms hK | intro K hK)); (first | apply Chain.go | apply Chain.goD); exact rfl; exact rfl; exact Loc.catL _ rfl rfl rfl rfl (by omega))
              refine wa ?_
              exact ⟨i + 1, h1, by omega, ⟨rfl, rfl, rfl, by dsimp only; rw [hT]; rfl, rfl, rfl, rfl, trivial⟩, trivial⟩
            · have e : spJ H k L.length i = [i] := by unfold spJ; rw [if_neg (fun h => c2 h.1), if_neg (fun h => c2 h.1), if_neg (fun h => cz h.1), if_neg (fun h => co h.1)]
              have hT : allX (spR b L H k (i + 1)) = allX (spR b L H k i) ++ allX [rwA b L (i)] := by rw [spR_succ, e, allX_app]; rfl
              have hj : i < L.length := by omega
              have hgj := List.getElem?_eq_getElem hj
              have hF := hline _ hj
              have hb1 := hxl i hi
              have hb2 := hx1 _ hj
              generalize allX (spR b L H k i) = T at hT hb1 ⊢
              generalize allX [rwA b L (i)] = u at hT hF hb2
              generalize L[i] = s at hgj hF
              refine wa ?_
              ((try (first | intro K ms hms hK | intro K hK)); (first | apply Chain.go | apply Chain.goD); exact rfl; exact rfl; exact Loc.remM rfl rfl rfl (by decide) hH)
              refine wa ?_
              ((try (first | intro K ms hms hK | intro K hK)); (first | apply Chain.go | apply Chain.goD); exact rfl; exact rfl; exact Loc.remM rfl rfl rfl (by decide) hH)
              refine wa ?_
              ((try (first | intro K ms hms hK | intro K hK)); (first | apply Chain.go | apply Chain.goD); exact rfl; exact rfl; exact Loc.remM rfl rfl rfl (by decide) hH)
              refine wa ?_
              ((try (first | intro K ms hms hK | intro K hK)); (first | apply Chain.go | apply Chain.goD); exact rfl; exact rfl; exact Loc.catL _ rfl rfl rfl rfl (by omega))
              refine wa ?_
              ((try (first | intro K ms hms hK | intro K hK)); (first | apply Chain.go | apply Chain.goD); exact rfl; exact rfl; exact Loc.remM rfl rfl rfl (by decide) hH)
              refine wa ?_
              exact ⟨i + 1, h1, by omega, ⟨rfl, rfl, rfl, by dsimp only; rw [hT]; rfl, rfl, rfl, rfl, trivial⟩, trivial⟩
        · have e : spJ H k L.length i = [i] := by unfold spJ; rw [if_neg (fun h => c2 h.1), if_neg (fun h => c2 h.1), if_neg (fun h => ca h.2), if_neg (fun h => ca h.2)]
          have hT : allX (spR b L H k (i + 1)) = allX (spR b L H k i) ++ allX [rwA b L (i)] := by rw [spR_succ, e, allX_app]; rfl
          have hj : i < L.length := by omega
          have hgj := List.getElem?_eq_getElem hj
          have hF := hline _ hj
          have hb1 := hxl i hi
          have hb2 := hx1 _ hj
          generalize allX (spR b L H k i) = T at hT hb1 ⊢
          generalize allX [rwA b L (i)] = u at hT hF hb2
          generalize L[i] = s at hgj hF
          by_cases cz : H = 0
          · refine wa ?_
            ((try (first | intro K ms hms hK | intro K hK)); (first | apply Chain.go | apply Chain.goD); exact rfl; exact rfl; exact Loc.remM rfl rfl rfl (by decide) hH)
            refine wa ?_
            ((try (first | intro K ms hms hK | intro K hK)); (first | apply Chain.go | apply Chain.goD); exact rfl; exact rfl; exact Loc.remM rfl rfl rfl (by decide) hH)
            refine wa ?_
            ((try (first | intro K ms hms hK | intro K hK)); (first | apply Chain.go | apply Chain.goD); exact rfl; exact rfl; exact Loc.remM rfl rfl rfl (by decide) hH)
            refine wa ?_
            ((try (first | intro K ms hms hK | intro K hK)); (first | apply Chain.go | apply Chain.goD); exact rfl; exact rfl; exact Loc.catL _ rfl rfl rfl rfl (by omega))
            refine wa ?_
            ((try (first | intro K ms hms hK | intro K hK)); (first | apply Chain.go | apply Chain.goD); exact rfl; exact rfl; exact Loc.remM rfl rfl rfl (by decide) hH)
            refine wa ?_
            exact ⟨i + 1, h1, by omega, ⟨rfl, rfl, rfl, by dsimp only; rw [hT]; rfl, rfl, rfl, rfl, trivial⟩, trivial⟩
          by_cases co : H = 1
          · refine wa ?_
            ((try (first | intro K ms hms hK | intro K hK)); (first | apply Chain.go | apply Chain.goD); exact rfl; exact rfl; exact Loc.remM rfl rfl rfl (by decide) hH)
            refine wa ?_
            ((try (first | intro K ms hms hK | intro K hK)); (first | apply Chain.go | apply Chain.goD); exact rfl; exact rfl; exact Loc.remM rfl rfl rfl (by decide) hH)
            refine wa ?_
            ((try (first | intro K ms hms hK | intro K hK)); (first | apply Chain.go | apply Chain.goD); exact rfl; exact rfl; exact Loc.remM rfl rfl rfl (by decide) hH)
            refine wa ?_
            ((try (first | intro K ms hms hK | intro K hK)); (first | apply Chain.go | apply Chain.goD); exact rfl; exact rfl; exact Loc.catL _ rfl rfl rfl rfl (by omega))
            refine wa ?_
            ((try (first | intro K ms hms hK | intro K hK)); (first | apply Chain.go | apply Chain.goD); exact rfl; exact rfl; exact Loc.remM rfl rfl rfl (by decide) hH)
            refine wa ?_
            exact ⟨i + 1, h1, by omega, ⟨rfl, rfl, rfl, by dsimp only; rw [hT]; rfl, rfl, rfl, rfl, trivial⟩, trivial⟩
          refine wa ?_
          ((try (first | intro K ms hms hK | intro K hK)); (first | apply Chain.go | apply Chain.goD); exact rfl; exact rfl; exact Loc.remM rfl rfl rfl (by decide) hH)
          refine wa ?_
          ((try (first | intro K ms hms hK | intro K hK)); (first | apply Chain.go | apply Chain.goD); exact rfl; exact rfl; exact Loc.remM rfl rfl rfl (by decide) hH)
          refine wa ?_
          ((try (first | intro K ms hms hK | intro K hK)); (first | apply Chain.go | apply Chain.goD); exact rfl; exact rfl; exact Loc.remM rfl rfl rfl (by decide) hH)
          refine wa ?_
          ((try (first | intro K ms hms hK | intro K hK)); (first | apply Chain.go | apply Chain.goD); exact rfl; exact rfl; exact Loc.catL _ rfl rfl rfl rfl (by omega))
          refine wa ?_
          ((try (first | intro K ms hms hK | intro K hK)); (first | apply Chain.go | apply Chain.goD); exact rfl; exact rfl; exact Loc.remM rfl rfl rfl (by decide) hH)
          refine wa ?_
          exact ⟨i + 1, h1, by omega, ⟨rfl, rfl, rfl, by dsimp only; rw [hT]; rfl, rfl, rfl, rfl, trivial⟩, trivial⟩
    · obtain rfl : i = L.length := by omega
      have hf := hfit L.length (Nat.le_refl _)
      have hr := hsl L.length
      have hnf : ∀ x ∈ spR b L H k L.length, nfX x := fun x hx => (hf x hx).nf
      have hch := fits_ch hf (by omega)
      have hw2 := fits_wl hf
      have hc2 := (fits_w hf).2
      clear hline hfit hsl hx1 hxl hf
      generalize spR b L H k L.length = rows at hr hnf hch hw2 hc2 ⊢
      have htx := textQF (Kw := Kw) (k := 256) b L hb (fun s h => (hs s h).ok) g2 (by decide) (fun s h => (hs s h).bd) g1 (by have := law_text hlen hs hc; omega)
      by_cases hbig : 100000 < (allX rows).length
      · refine wa ?_
        exact ⟨.d rfl (.inl rfl), trivial⟩
      by_cases heq : allX rows = textA b L
      · rw [heq] at hbig ⊢
        have hpa := law_parseF (Kw := Kw) hlen hs hc
        have hsame := refSameK (k := 256) (by decide) L L true (by simp) (by omega) (fun s h => lawS_sm (hs s h)) fun s h => lawS_sm (hs s h)
        generalize textA b L = T at hpa htx hbig ⊢
        refine wa ?_
        exact ⟨.d rfl (.inl rfl), trivial⟩
      have hpa := parseAF (Kw := Kw) b (allX rows) fun out rest m _ hp => by
        obtain ⟨m', hm'⟩ := all_parse hnf hch
        rw [hp] at hm'
        cases hm'
        exact hw2
      rcases pa_rows hb hnf hch (by omega) (by omega) with ⟨l2, hr2, hp2⟩ | ⟨hr2, hp2⟩
      · rw [hp2] at hpa
        obtain ⟨q1, q2, q3, q4, q5, q6, q7, q8⟩ := rd_mk2 hb hnf hw2 (by omega) (by omega) hr2
        have htold2 := told22k (k := 4 * 20000 + 4) (by decide) l2 (fun s h => (q4 s h).sm) (by omega)
        have hcq2 := checkQF b l2 (fun s h => (q4 s h).ok) (by omega)
        have htx2 := textQF (Kw := Kw) (k := 4 * 20000 + 4) b l2 hb (fun s h => (q4 s h).ok) q3 (by decide) (fun s h => (q4 s h).bd) q5 (by omega)
        rw [q2] at hcq2
        rw [← text_rows b l2, q1] at htx2
        dsimp only at hpa
        generalize textA b L = T at htx heq
        generalize allX rows = U at *
        have htx2 := Lib.hid htx2
        have htx := Lib.hid htx
        refine wa ?_
        refine c1 htx2.out ?_
        refine wa ?_
        exact ⟨.d rfl (.inl rfl), trivial⟩
      · rw [hp2] at hpa
        obtain ⟨E, hE, hpa⟩ : ∃ E : List Stp, E.length = 0 ∧ FnK Tryz.prog 33 Kw [.d (.v (.int .i64 b)), .d (.v (.string (tx (allX rows))))] [.d (.l (E.map enS)), .d (.v (.int .i64 6))] := ⟨[], rfl, hpa⟩
        generalize textA b L = T at htx heq
        generalize allX rows = U at *
        refine wa ?_
        exact ⟨.d rfl (.inl rfl), trivial⟩
end
end Go.Proofs.YtbbpecfapohlaaaGreatDoor
