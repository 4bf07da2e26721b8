/-
  attestlaw15.Light, attestref15.Rats.
-/
import Derived.Test.YthdkkpocihkgbaaGreatDoorNtV
import Derived.Test.YthdkkpocihkgbaaGreatDoorNtK
namespace Go.Proofs.YthdkkpocihkgbaaGreatDoor
open Go.RowKit
attribute [local irreducible] AC Do St
theorem sgnR0 {q : Rat} : sgnR q = 0 ↔ q = 0 := by
  unfold sgnR
  constructor
  · intro h
    split at h
    · omega
    · split at h
      · rename_i h2; exact Rat.num_eq_zero.1 h2
      · omega
  · intro h
    subst h
    rfl
theorem sgnR_eq {p q : Rat} : sgnR (p - q) = 0 ↔ p = q := by
  have h : sgnR (p - q) = 0 ↔ p - q = 0 := sgnR0
  rw [h]
  constructor
  · intro h
    have : p - q + q = 0 + q := by rw [h]
    rwa [Rat.sub_add_cancel, Rat.zero_add] at this
  · rintro rfl; exact Rat.sub_self
set_option maxRecDepth 100000 in
set_option maxHeartbeats 4000000 in
theorem ratsEF {k m : Nat} (a b : List Rat) (ha : a.length ≤ 1000000000) (h1 : ∀ q ∈ a, Bd k q) (h2 : ∀ q ∈ b, Bd m q) (hk : k + m ≤ 50000000) : Fn Tryz.prog 23 [.d (enQs a), .d (enQs b)] [.d (.v (.bool (decide (a = b))))] := by
  refine Fn.of Tryz.func23 rfl (by kernel_rfl) Tryz.ntmps23 Tryz.results23 rfl fun w0 S0 => ?_
  refine wk ?_
  refine s1 (fun h3 => ?_) (fun h3 => ?_)
  · have : ¬ a = b := fun h => h3 (by rw [h])
    refine wk ?_
    rw [decide_eq_false this]
    exact ⟨.d rfl (.inl rfl), trivial⟩
  · have hl : a.length = b.length := by omega
    refine wk ?_
    refine AC.loop (X := Nat) (fun i => ⟨[(0, .d (enQs a)), (1, .d (enQs b)), (12, .d (.v (.int .i64 (a.length : Int)))), (13, .d (.v (.int .i64 (i : Int))))], []⟩) (fun i => i ≤ a.length ∧ a.take i = b.take i) (fun i => a.length - i) 0 ⟨Nat.zero_le _, rfl⟩ ⟨rfl, rfl, rfl, rfl, trivial⟩ trivial ?_
    intro i ⟨hi, heq⟩
    refine wk ?_
    refine s1 (fun h4 => ?_) (fun h4 => ?_)
    · have hi' : i < a.length := by omega
      have hi2 : i < b.length := by omega
      have hga : a[i]? = some a[i] := List.getElem?_eq_getElem hi'
      have hgb : b[i]? = some b[i] := List.getElem?_eq_getElem hi2
      have hba := h1 _ (List.getElem_mem hi')
      have hbb := h2 _ (List.getElem_mem hi2)
      have hs : a[i] = b[i] → a.take (i + 1) = b.take (i + 1) := fun h => by rw [List.take_succ_eq_append_getElem hi', List.take_succ_eq_append_getElem hi2, heq, h]
      have hn : ¬ a[i] = b[i] → ¬ a = b := fun h h2 => h (by subst h2; rfl)
      generalize a[i] = x at hga hs hn hba
      generalize b[i] = y at hgb hs hn hbb
      have hsg : sgnR (x - y) = 0 ↔ x = y := sgnR_eq
      have hcm := qCmp hba hbb (by omega)
      generalize sgnR (x - y) = sg at hsg hcm
      refine wk ?_
      refine c1 hcm ?_
      refine s1 (fun h5 => ?_) (fun h5 => ?_)
      · refine wk ?_
        rw [decide_eq_false (hn fun h => h5 (hsg.2 h))]
        exact ⟨.d rfl (.inl rfl), trivial⟩
      · refine wk ?_
        exact ⟨i + 1, ⟨by omega, hs (hsg.1 (Classical.byContradiction h5))⟩, by omega, ⟨rfl, rfl, rfl, rfl, trivial⟩, trivial⟩
    · rw [List.take_of_length_le (by omega), List.take_of_length_le (by omega)] at heq
      refine wk ?_
      rw [decide_eq_true heq]
      exact ⟨.d rfl (.inl rfl), trivial⟩
/-- What Light leaves out. -/
def badQ (l : LQ) : Bool := decide (4 < l.W.length) || (decide (5 < l.B.length) || (decide (4 < l.G.length) || ((l.W.any fun w => decide (5 < w.length)) || l.G.any fun g => decide (4 < g.length))))
def lightL (l : LQ) : LQ := ⟨l.kind, l.W.map onesN, onesN l.B, l.G⟩
def lightGo : List LQ → List LQ × Bool
  | [] => ([], true)
  | l :: r => if badQ l then ([], false) else (lightL l :: (lightGo r).1, (lightGo r).2)
def lightQ (n : Int) (ls : List LQ) : List LQ × Bool := if 4 < n ∨ 3 < ls.length then ([], false) else lightGo ls
theorem lightGo_app : ∀ (a : List LQ) (b : List LQ), (∀ l ∈ a, badQ l = false) → lightGo (a ++ b) = (a.map lightL ++ (lightGo b).1, (lightGo b).2)
  | [], b, _ => rfl
  | l :: a, b, h => by
    rw [List.cons_append, lightGo, if_neg (by rw [h l (by simp)]; decide), lightGo_app a b fun x hx => h x (by simp [hx])]
    rfl
set_option maxRecDepth 100000 in
set_option maxHeartbeats 8000000 in
theorem lightF (n : Int) (ls : List LQ) (hl : ∀ l ∈ ls, okLQ l) : Fn Tryz.prog 18 [.g (enQN n ls)] [.g (enQN n (lightQ n ls).1), .d (.v (.bool (lightQ n ls).2))] := by
  have rB : (4 < n ∨ 3 < ls.length) → lightQ n ls = ([], false) := fun h => if_pos h
  have rG : ¬ (4 < n ∨ 3 < ls.length) → lightQ n ls = lightGo ls := fun h => if_neg h
  generalize lightQ n ls = R at rB rG ⊢
  refine Fn.of Tryz.func18 rfl (by kernel_rfl) Tryz.ntmps18 Tryz.results18 rfl fun w0 S0 => ?_
  have hml0 : (ls.map enLQ).length = ls.length := List.length_map ..
  by_cases h1 : 4 < n
  · rw [rB (.inl h1)]
    refine wk ?_
    exact ⟨.cn rfl rfl inferInstance rfl ⟨.inl rfl, .inr rfl, trivial⟩, .d rfl (.inl rfl), trivial⟩
  by_cases h2 : 3 < ls.length
  · rw [rB (.inr h2)]
    refine wk ?_
    exact ⟨.cn rfl rfl inferInstance rfl ⟨.inl rfl, .inr rfl, trivial⟩, .d rfl (.inl rfl), trivial⟩
  rw [rG (by omega)]
  refine wk ?_
  refine AC.rowBox 4 1 91 126 4 rfl rfl rfl ?_
  refine AC.loop (X := Nat) (fun i => ⟨[(2, .p 2 0), (4, .p 4 0), (26, .d (.l (ls.map enLQ))), (27, .d (.v (.int .i64 (ls.length : Int)))), (28, .d (.v (.int .i64 (i : Int))))], [(2, .box 38 [.d (.v (.int .i64 0)), .d .n]), (4, .box 38 [.d (.v (.int .i64 n)), .r 91 i]), (91, .row i 126 4 (((ls.take i).map lightL).map enLQ))]⟩) (fun i => i ≤ ls.length ∧ ∀ l ∈ ls.take i, badQ l = false) (fun i => ls.length - i) 0 ⟨Nat.zero_le _, by simp⟩ ⟨rfl, rfl, rfl, rfl, rfl, trivial⟩ ⟨rfl, rfl, rfl, trivial⟩ ?_
  intro i ⟨hi, hgd⟩
  have hgo := lightGo_app (ls.take i) (ls.drop i) hgd
  rw [List.take_append_drop] at hgo
  have hml1 : (((ls.take i).map lightL).map enLQ).length = i := by simp; omega
  dsimp only
  refine wk ?_
  refine s1 (fun h3 => ?_) (fun h3 => ?_)
  · have hi' : i < ls.length := by omega
    have hget : ls[i]? = some ls[i] := List.getElem?_eq_getElem hi'
    have hok := hl _ (List.getElem_mem hi')
    have hts : ((ls.take (i + 1)).map lightL).map enLQ = ((ls.take i).map lightL).map enLQ ++ [enLQ (lightL ls[i])] := by
      rw [List.take_succ_eq_append_getElem hi', List.map_append, List.map_append]; rfl
    have hbad : badQ ls[i] = true → lightGo ls = ((ls.take i).map lightL, false) := fun h => by
      rw [hgo, List.drop_eq_getElem_cons hi', lightGo, if_pos h]
      simp
    have hnx : badQ ls[i] = false → ∀ l ∈ ls.take (i + 1), badQ l = false := fun hb l hl => by
      rw [List.take_succ_eq_append_getElem hi'] at hl
      rcases List.mem_append.1 hl with h | h
      · exact hgd l h
      · rw [List.mem_singleton.1 h]; exact hb
    generalize ls[i] = l at hget hok hts hbad hnx
    have hwl : (l.W.map enNs).length = l.W.length := List.length_map ..
    have hgl : (l.G.map enIs).length = l.G.length := List.length_map ..
    by_cases g1 : 4 < l.W.length
    · rw [hbad (by unfold badQ; simp [g1])]
      refine wk ?_
      (first | intro K ms hms hK | intro K hK | skip)
      refine Chain.frzBox 4 1 rfl rfl rfl ?_
      refine wk ?_
      exact ⟨.cn rfl rfl inferInstance rfl ⟨.inl rfl, .inl rfl, trivial⟩, .d rfl (.inl rfl), trivial⟩
    by_cases g2 : 5 < l.B.length
    · rw [hbad (by unfold badQ; simp [g2])]
      refine wk ?_
      (first | intro K ms hms hK | intro K hK | skip)
      refine Chain.frzBox 4 1 rfl rfl rfl ?_
      refine wk ?_
      exact ⟨.cn rfl rfl inferInstance rfl ⟨.inl rfl, .inl rfl, trivial⟩, .d rfl (.inl rfl), trivial⟩
    by_cases g3 : 4 < l.G.length
    · rw [hbad (by unfold badQ; simp [g3])]
      refine wk ?_
      (first | intro K ms hms hK | intro K hK | skip)
      refine Chain.frzBox 4 1 rfl rfl rfl ?_
      refine wk ?_
      exact ⟨.cn rfl rfl inferInstance rfl ⟨.inl rfl, .inl rfl, trivial⟩, .d rfl (.inl rfl), trivial⟩
    refine wk ?_
    refine c1 (onesF l.B hok.2) ?_
    refine wk ?_
    refine AC.rowBox 7 1 46 47 1 rfl rfl rfl ?_
    refine AC.loop (X := Nat) (fun j => ⟨[(56, .d (rowsD (l.W.map enNs))), (57, .d (.v (.int .i64 ((l.W.map enNs).length : Int)))), (58, .d (.v (.int .i64 (j : Int)))), (2, .p 2 0), (4, .p 4 0), (26, .d (.l (ls.map enLQ))), (27, .d (.v (.int .i64 (ls.length : Int)))), (28, .d (.v (.int .i64 (i : Int)))), (6, .p 6 0), (7, .p 7 0)], [(7, .box 126 [.d (.v (.int .i64 l.kind)), .r 46 j, .d (enNs (onesN l.B)), .d .n]), (46, .row j 47 1 ((((l.W.take j).map onesN).map enNs).map fun x => [x])), (6, .box 126 ((enLQ l).map .d)), (2, .box 38 [.d (.v (.int .i64 0)), .d .n]), (4, .box 38 [.d (.v (.int .i64 n)), .r 91 i]), (91, .row i 126 4 (((ls.take i).map lightL).map enLQ))]⟩) (fun j => j ≤ l.W.length ∧ ∀ w ∈ l.W.take j, ¬ 5 < w.length) (fun j => l.W.length - j) 0 ⟨Nat.zero_le _, by simp⟩ ⟨rfl, rfl, rfl, rfl, rfl, rfl, rfl, rfl, rfl, rfl, trivial⟩ ⟨rfl, rfl, rfl, rfl, rfl, rfl, trivial⟩ ?_
    intro j ⟨hj, hjs⟩
    have hmw : ((((l.W.take j).map onesN).map enNs).map fun x => [x]).length = j := by simp; omega
    dsimp only
    refine wk ?_
    refine s1 (fun h4 => ?_) (fun h4 => ?_)
    · have hj' : j < l.W.length := by omega
      have hgw : (l.W.map enNs)[j]? = some (enNs l.W[j]) := by rw [List.getElem?_map, List.getElem?_eq_getElem hj']; rfl
      have hokw := hok.1 _ (List.getElem_mem hj')
      have htw : (((l.W.take (j + 1)).map onesN).map enNs).map (fun x => [x]) = (((l.W.take j).map onesN).map enNs).map (fun x => [x]) ++ [[enNs (onesN l.W[j])]] := by
        rw [List.take_succ_eq_append_getElem hj', List.map_append, List.map_append, List.map_append]; rfl
      have hnw : ¬ 5 < l.W[j].length → ∀ w ∈ l.W.take (j + 1), ¬ 5 < w.length := fun hb w hw => by
        rw [List.take_succ_eq_append_getElem hj'] at hw
        rcases List.mem_append.1 hw with h | h
        · exact hjs w h
        · rw [List.mem_singleton.1 h]; exact hb
      have hbw : 5 < l.W[j].length → badQ l = true := fun h => by
        unfold badQ
        simp only [Bool.or_eq_true]
        exact .inr (.inr (.inr (.inl (List.any_eq_true.2 ⟨_, List.getElem_mem hj', by simpa using h⟩))))
      generalize l.W[j] = r at hgw hokw htw hnw hbw
      by_cases g4 : 5 < r.length
      · rw [hbad (hbw g4)]
        refine wk ?_
        (first | intro K ms hms hK | intro K hK | skip)
        refine Chain.frzBox 4 1 rfl rfl rfl ?_
        refine wk ?_
        exact ⟨.cn rfl rfl inferInstance rfl ⟨.inl rfl, .inl rfl, trivial⟩, .d rfl (.inl rfl), trivial⟩
      · refine wk ?_
        refine c1 (onesF r hokw) ?_
        refine wk ?_
        exact ⟨j + 1, ⟨hj', hnw g4⟩, by omega, ⟨rfl, rfl, rfl, rfl, rfl, rfl, rfl, rfl, rfl, rfl, trivial⟩, ⟨rfl, by dsimp only; rw [htw]; rfl, rfl, rfl, rfl, rfl, trivial⟩⟩
    obtain rfl : j = l.W.length := by omega
    rw [List.take_of_length_le (Nat.le_refl _)] at hjs ⊢
    refine wk ?_
    refine AC.rowBox 7 3 47 31 1 rfl rfl rfl ?_
    refine AC.loop (X := Nat) (fun q => ⟨[(75, .d (rowsD (l.G.map enIs))), (76, .d (.v (.int .i64 ((l.G.map enIs).length : Int)))), (77, .d (.v (.int .i64 (q : Int)))), (2, .p 2 0), (4, .p 4 0), (26, .d (.l (ls.map enLQ))), (27, .d (.v (.int .i64 (ls.length : Int)))), (28, .d (.v (.int .i64 (i : Int)))), (6, .p 6 0), (7, .p 7 0)], [(7, .box 126 [.d (.v (.int .i64 l.kind)), .r 46 l.W.length, .d (enNs (onesN l.B)), .r 47 q]), (47, .row q 31 1 (((l.G.take q).map enIs).map fun x => [x])), (46, .row l.W.length 47 1 (((l.W.map onesN).map enNs).map fun x => [x])), (6, .box 126 ((enLQ l).map .d)), (2, .box 38 [.d (.v (.int .i64 0)), .d .n]), (4, .box 38 [.d (.v (.int .i64 n)), .r 91 i]), (91, .row i 126 4 (((ls.take i).map lightL).map enLQ))]⟩) (fun q => q ≤ l.G.length ∧ ∀ g ∈ l.G.take q, ¬ 4 < g.length) (fun q => l.G.length - q) 0 ⟨Nat.zero_le _, by simp⟩ ⟨rfl, rfl, rfl, rfl, rfl, rfl, rfl, rfl, rfl, rfl, trivial⟩ ⟨rfl, rfl, rfl, rfl, rfl, rfl, rfl, trivial⟩ ?_
    intro q ⟨hq, hqs⟩
    have hmg : (((l.G.take q).map enIs).map fun x => [x]).length = q := by simp; omega
    dsimp only
    refine wk ?_
    refine s1 (fun h5 => ?_) (fun h5 => ?_)
    · have hq' : q < l.G.length := by omega
      have hgw : (l.G.map enIs)[q]? = some (enIs l.G[q]) := by rw [List.getElem?_map, List.getElem?_eq_getElem hq']; rfl
      have htw : ((l.G.take (q + 1)).map enIs).map (fun x => [x]) = ((l.G.take q).map enIs).map (fun x => [x]) ++ [[enIs l.G[q]]] := by
        rw [List.take_succ_eq_append_getElem hq', List.map_append, List.map_append]; rfl
      have hnw : ¬ 4 < l.G[q].length → ∀ w ∈ l.G.take (q + 1), ¬ 4 < w.length := fun hb w hw => by
        rw [List.take_succ_eq_append_getElem hq'] at hw
        rcases List.mem_append.1 hw with h | h
        · exact hqs w h
        · rw [List.mem_singleton.1 h]; exact hb
      have hbw : 4 < l.G[q].length → badQ l = true := fun h => by
        unfold badQ
        simp only [Bool.or_eq_true]
        exact .inr (.inr (.inr (.inr (List.any_eq_true.2 ⟨_, List.getElem_mem hq', by simpa using h⟩))))
      have hk1 : ∀ r : List Int, ∀ c ∈ r.map (fun v => [D.v (.int .i64 v)]), c.length = 1 := fun r c hc => by
        obtain ⟨v, _, rfl⟩ := List.mem_map.1 hc
        rfl
      generalize l.G[q] = r at hgw htw hnw hbw
      by_cases g4 : 4 < r.length
      · rw [hbad (hbw g4)]
        refine wk ?_
        (first | intro K ms hms hK | intro K hK | skip)
        refine Chain.frzBox 4 1 rfl rfl rfl ?_
        refine wk ?_
        exact ⟨.cn rfl rfl inferInstance rfl ⟨.inl rfl, .inl rfl, trivial⟩, .d rfl (.inl rfl), trivial⟩
      · refine wk ?_
        ((try (first | intro K ms hms hK | intro K hK)); (first | apply Chain.ef | apply Chain.efD); exact rfl; exact rfl; exact Do.appendF rfl rfl rfl rfl rfl (hk1 r) (by simp; omega); exact rfl; exact rfl)
        refine wk ?_
        exact ⟨q + 1, ⟨hq', hnw g4⟩, by omega, ⟨rfl, rfl, rfl, rfl, rfl, rfl, rfl, rfl, rfl, rfl, trivial⟩, ⟨rfl, by dsimp only; rw [htw]; rfl, rfl, rfl, rfl, rfl, rfl, trivial⟩⟩
    obtain rfl : q = l.G.length := by omega
    rw [List.take_of_length_le (Nat.le_refl _)] at hqs ⊢
    have hgood : badQ l = false := by
      unfold badQ
      simp only [Bool.or_eq_false_iff, decide_eq_false_iff_not]
      exact ⟨g1, g2, g3, List.any_eq_false.2 fun w hw => by simpa using hjs w hw, List.any_eq_false.2 fun w hw => by simpa using hqs w hw⟩
    refine wk ?_
    (first | intro K ms hms hK | intro K hK | skip)
    refine Chain.frzBox 7 1 rfl rfl rfl ?_
    refine Chain.frzBox 7 3 rfl rfl rfl ?_
    refine wk ?_
    exact ⟨i + 1, ⟨hi', hnx hgood⟩, by omega, ⟨rfl, rfl, rfl, rfl, rfl, trivial⟩, ⟨rfl, rfl, by dsimp only; rw [hts]; rfl, trivial⟩⟩
  · rw [List.drop_eq_nil_of_le (by omega), List.take_of_length_le (by omega)] at hgo
    have hgo : lightGo ls = (ls.map lightL, true) := by rw [hgo]; simp [lightGo]
    rw [hgo, List.take_of_length_le (by omega)]
    refine wk ?_
    (first | intro K ms hms hK | intro K hK | skip)
    refine Chain.frzBox 4 1 rfl rfl rfl ?_
    refine wk ?_
    exact ⟨.cn rfl rfl inferInstance rfl ⟨.inl rfl, .inl rfl, trivial⟩, .d rfl (.inl rfl), trivial⟩
end Go.Proofs.YthdkkpocihkgbaaGreatDoor
