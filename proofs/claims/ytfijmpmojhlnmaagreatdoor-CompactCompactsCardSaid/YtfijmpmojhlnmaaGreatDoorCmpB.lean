/-
  Packages compact and proof's steps by plain data.
-/
import Derived.Test.YtfijmpmojhlnmaaGreatDoorCmpA
namespace Go.Proofs.YtfijmpmojhlnmaaGreatDoor
open Go.RowKit
attribute [local irreducible] AC Do St
theorem stS_tm (s : SN) : (stS s).tm = (s.tm.take 40).map nQ := rfl
set_option maxRecDepth 100000 in
set_option maxHeartbeats 4000000 in
theorem of22 (l : List SN) (hl : ∀ s ∈ l, okSN s) : Fn Tryz.prog 8 [.d (.l (l.map enSN))] [.d (.l ((stL l).map enS))] := by
  refine Fn.of Tryz.func8 rfl (by kernel_rfl) Tryz.ntmps8 Tryz.results8 rfl fun w0 S0 => ?_
  refine wk ?_
  refine AC.loop (X := Nat) (fun i => ⟨[(0, .d (.l (l.map enSN))), (3, .r 7 i), (4, .d (.v (.int .i64 (i : Int))))], [(7, .row i 100 5 (((l.take i).map stS).map enS))]⟩) (fun i => i ≤ l.length ∧ i ≤ 60) (fun i => 60 - i) 0 ⟨Nat.zero_le _, Nat.zero_le _⟩ ⟨rfl, rfl, rfl, trivial⟩ ⟨rfl, trivial⟩ ?_
  intro i ⟨hi, hi6⟩
  have hend : (i = l.length ∨ i = 60) → (l.take i).map stS = stL l := fun h => by
    show _ = (l.take 60).map stS
    rcases h with h | h
    · rw [h, List.take_of_length_le (Nat.le_refl _), List.take_of_length_le (by omega)]
    · rw [h]
  refine wk ?_
  ((try (first | intro K ms hms hK | intro K hK)); (first | refine Chain.lss rfl rfl rfl rfl rfl (fun h1 => ?_) (fun h1 => ?_) | refine Chain.lssD rfl rfl rfl rfl rfl (fun h1 => ?_) (fun h1 => ?_)))
  · have hi' : i < l.length := by omega
    have hget : l[i]? = some l[i] := List.getElem?_eq_getElem hi'
    have hok := hl l[i] (List.getElem_mem hi')
    have hts : ((l.take (i + 1)).map stS).map enS = ((l.take i).map stS).map enS ++ [enS (stS l[i])] := by
      rw [List.take_succ_eq_append_getElem hi', List.map_append, List.map_append]; rfl
    generalize l[i] = s at hget hok hts
    obtain ⟨hok1, hok2, hok3, hok4⟩ := hok
    refine wk ?_
    ((try (first | intro K ms hms hK | intro K hK)); (first | refine Chain.lss rfl rfl rfl rfl rfl (fun h2 => ?_) (fun h2 => ?_) | refine Chain.lssD rfl rfl rfl rfl rfl (fun h2 => ?_) (fun h2 => ?_)))
    · refine wk ?_
      ((try (first | intro K ms hms hK | intro K hK)); (first | apply Chain.go | apply Chain.goD); exact rfl; exact rfl; refine Loc.callD (intsF s.cl) rfl ?_; (repeat (first | exact trivial | refine ⟨.inl rfl, ?_⟩ | refine ⟨.inr rfl, ?_⟩)))
      refine wk ?_
      ((try (first | intro K ms hms hK | intro K hK)); (first | apply Chain.go | apply Chain.goD); exact rfl; exact rfl; refine Loc.callD (intsF s.pr) rfl ?_; (repeat (first | exact trivial | refine ⟨.inl rfl, ?_⟩ | refine ⟨.inr rfl, ?_⟩)))
      refine wk ?_
      refine AC.rowBox 5 4 67 63 3 rfl rfl rfl ?_
      refine AC.loop (X := Nat) (fun j => ⟨[(0, .d (.l (l.map enSN))), (3, .r 7 i), (4, .d (.v (.int .i64 (i : Int)))), (5, .p 5 0), (6, .d (.v (.int .i64 (j : Int))))], [(7, .row i 100 5 (((l.take i).map stS).map enS)), (5, .box 100 [.d (.v (.int .i64 s.rule)), .d (enZ (s.cl.take 40)), .d (.v (.int .i64 s.idx)), .d (enZ (s.pr.take 40)), .r 67 j]), (67, .row j 63 3 (((s.tm.take j).map nQ).map enR))]⟩) (fun j => j ≤ s.tm.length ∧ j ≤ 40) (fun j => 40 - j) 0 ⟨Nat.zero_le _, Nat.zero_le _⟩ ⟨rfl, rfl, rfl, rfl, rfl, trivial⟩ ⟨rfl, rfl, rfl, trivial⟩ ?_
      intro j ⟨hj, hj4⟩
      have hendj : (j = s.tm.length ∨ j = 40) → (s.tm.take j).map nQ = (stS s).tm := fun h => by
        rw [stS_tm]
        rcases h with h | h
        · rw [h, List.take_of_length_le (Nat.le_refl _), List.take_of_length_le (by omega)]
        · rw [h]
      refine wk ?_
      ((try (first | intro K ms hms hK | intro K hK)); (first | refine Chain.lss rfl rfl rfl rfl rfl (fun h3 => ?_) (fun h3 => ?_) | refine Chain.lssD rfl rfl rfl rfl rfl (fun h3 => ?_) (fun h3 => ?_)))
      · have hj' : j < s.tm.length := by omega
        have hget2 : s.tm[j]? = some s.tm[j] := List.getElem?_eq_getElem hj'
        have hokn := hok1 s.tm[j] (List.getElem_mem hj')
        have htsj : ((s.tm.take (j + 1)).map nQ).map enR = ((s.tm.take j).map nQ).map enR ++ [enR (nQ s.tm[j])] := by
          rw [List.take_succ_eq_append_getElem hj', List.map_append, List.map_append]; rfl
        generalize s.tm[j] = n at hget2 hokn htsj
        refine wk ?_
        ((try (first | intro K ms hms hK | intro K hK)); (first | refine Chain.lss rfl rfl rfl rfl rfl (fun h4 => ?_) (fun h4 => ?_) | refine Chain.lssD rfl rfl rfl rfl rfl (fun h4 => ?_) (fun h4 => ?_)))
        · refine wk ?_
          ((try (first | intro K ms hms hK | intro K hK)); (first | apply Chain.go | apply Chain.goD); exact rfl; exact rfl; refine Loc.callG (ofN n hokn) rfl ?_; (repeat (first | exact trivial | refine ⟨.inl rfl, ?_⟩ | refine ⟨.inr rfl, ?_⟩)))
          refine wk ?_
          refine ⟨j + 1, ⟨by omega, by omega⟩, by omega, ⟨rfl, rfl, rfl, rfl, rfl, trivial⟩, ⟨rfl, rfl, by rw [htsj]; rfl, trivial⟩⟩
        · have henS : [D.v (.int .i64 s.rule), enZ (s.cl.take 40), .v (.int .i64 s.idx), enZ (s.pr.take 40), .l (((s.tm.take j).map nQ).map enR)] = enS (stS s) := by rw [hendj (by omega)]; rfl
          refine wk ?_
          (first | intro K ms hms hK | intro K hK)
          refine Chain.frzBox 5 4 rfl rfl rfl ?_
          refine wk ?_
          refine ⟨i + 1, ⟨by omega, by omega⟩, by omega, ⟨rfl, rfl, rfl, trivial⟩, ⟨by rw [hts, ← henS]; rfl, trivial⟩⟩
      · have henS : [D.v (.int .i64 s.rule), enZ (s.cl.take 40), .v (.int .i64 s.idx), enZ (s.pr.take 40), .l (((s.tm.take j).map nQ).map enR)] = enS (stS s) := by rw [hendj (by omega)]; rfl
        refine wk ?_
        (first | intro K ms hms hK | intro K hK)
        refine Chain.frzBox 5 4 rfl rfl rfl ?_
        refine wk ?_
        refine ⟨i + 1, ⟨by omega, by omega⟩, by omega, ⟨rfl, rfl, rfl, trivial⟩, ⟨by rw [hts, ← henS]; rfl, trivial⟩⟩
    · refine wk ?_
      rw [hend (by omega)]
      exact ⟨.d rfl ⟨_, _, rfl⟩, trivial⟩
  · refine wk ?_
    rw [hend (by omega)]
    exact ⟨.d rfl ⟨_, _, rfl⟩, trivial⟩
/-- The numbers of a step are small. -/
def SmS (s : Stp) : Prop := (∀ t ∈ s.tm, Bd 256 t) ∧ s.tm.length ≤ 1000 ∧ s.cl.length ≤ 1000000 ∧ s.pr.length ≤ 1000000
theorem stL_sm {l : List SN} (hl : ∀ s ∈ l, okSN s) : ∀ s ∈ stL l, SmS s := fun s hs => by
  obtain ⟨n, hn, rfl⟩ := List.mem_map.1 hs
  have hok := hl n (List.mem_of_mem_take hn)
  refine ⟨fun t ht => ?_, ?_, ?_, ?_⟩
  · obtain ⟨x, hx, rfl⟩ := List.mem_map.1 ht
    exact bdN x (hok.1 x (List.mem_of_mem_take hx))
  · rw [stS_tm]; simp; omega
  · show (n.cl.take 40).length ≤ _; simp; omega
  · show (n.pr.take 40).length ≤ _; simp; omega
theorem stL_len (l : List SN) : (stL l).length ≤ 60 := by unfold stL; simp; omega
set_option maxRecDepth 100000 in
set_option maxHeartbeats 4000000 in
theorem told22 (l : List Stp) (hl : ∀ s ∈ l, SmS s) (hlen : l.length ≤ 1000000) : Fn Tryz.prog 10 [.d (.l (l.map enS))] [.d (.l (l.map enSQ))] := by
  refine Fn.of Tryz.func10 rfl (by kernel_rfl) Tryz.ntmps10 Tryz.results10 rfl fun w0 S0 => ?_
  refine wk ?_
  refine AC.loop (X := Nat) (fun i => ⟨[(3, .r 6 i), (7, .d (.l (l.map enS))), (8, .d (.v (.int .i64 (l.length : Int)))), (9, .d (.v (.int .i64 (i : Int))))], [(6, .row i 45 5 ((l.take i).map enSQ))]⟩) (fun i => i ≤ l.length) (fun i => l.length - i) 0 (Nat.zero_le _) ⟨rfl, rfl, rfl, rfl, trivial⟩ ⟨rfl, trivial⟩ ?_
  intro i hi
  refine wk ?_
  ((try (first | intro K ms hms hK | intro K hK)); (first | refine Chain.lss rfl rfl rfl rfl rfl (fun h1 => ?_) (fun h1 => ?_) | refine Chain.lssD rfl rfl rfl rfl rfl (fun h1 => ?_) (fun h1 => ?_)))
  · have hi' : i < l.length := by omega
    have hget : l[i]? = some l[i] := List.getElem?_eq_getElem hi'
    obtain ⟨hs1, hs2, hs3, hs4⟩ := hl l[i] (List.getElem_mem hi')
    have hts : (l.take (i + 1)).map enSQ = (l.take i).map enSQ ++ [enSQ l[i]] := by
      rw [List.take_succ_eq_append_getElem hi', List.map_append]; rfl
    generalize l[i] = s at hget hts hs1 hs2 hs3 hs4
    refine wk ?_
    ((try (first | intro K ms hms hK | intro K hK)); (first | apply Chain.ef | apply Chain.efD); exact rfl; exact rfl; exact Do.appendF rfl rfl rfl rfl rfl (enZ_one s.cl) (by simp; omega); exact rfl; exact rfl)
    refine wk ?_
    ((try (first | intro K ms hms hK | intro K hK)); (first | apply Chain.ef | apply Chain.efD); exact rfl; exact rfl; exact Do.appendF rfl rfl rfl rfl rfl (enZ_one s.pr) (by simp; omega); exact rfl; exact rfl)
    refine wk ?_
    ((try (first | intro K ms hms hK | intro K hK)); (first | apply Chain.go | apply Chain.goD); exact rfl; exact rfl; refine Loc.callD (nums s.tm 256 (by omega) hs1 (by omega)) rfl ?_; (repeat (first | exact trivial | refine ⟨.inl rfl, ?_⟩ | refine ⟨.inr rfl, ?_⟩)))
    refine wk ?_
    refine ⟨i + 1, by omega, by omega, ⟨rfl, rfl, rfl, rfl, trivial⟩, ⟨by rw [hts]; rfl, trivial⟩⟩
  · refine wk ?_
    rw [List.take_of_length_le (by omega)]
    exact ⟨.d rfl ⟨_, _, rfl⟩, trivial⟩
end Go.Proofs.YtfijmpmojhlnmaaGreatDoor
