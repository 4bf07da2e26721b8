/-
 attestref15.Widths: the document's widths.
-/
import Derived.Test.YthdkkpocihkgbaaGreatDoorNtK
namespace Go.Proofs.YthdkkpocihkgbaaGreatDoor
open Go.RowKit
attribute [local irreducible] AC Do St
theorem big_great {n : Int} {ls : List LN} {i : Nat} (hi : i < ls.length) (h : bigL ls[i] = true) : greatB n ls = true := by
 unfold greatB
 rw [Bool.or_eq_true, Bool.or_eq_true]
 exact .inr (List.any_eq_true.2 ⟨_, List.getElem_mem hi, h⟩)
theorem bad_final {n : Int} {ls : List LN} {i : Nat} (hi : i < ls.length) (h : stW ((ls.take i).foldl stW n) ls[i] ≤ 0) : ls.foldl stW n ≤ 0 := by
 have e : ls = ls.take (i + 1) ++ ls.drop (i + 1) := (List.take_append_drop _ _).symm
 rw [e, List.foldl_append]
 refine stW_low _ _ ?_
 rw [List.take_succ_eq_append_getElem hi, List.foldl_append]
 exact h
theorem rowsDlen {α : Type} (l : List α) (f : α → D) : (l.map f).length = l.length := List.length_map ..
theorem gm {α β : Type} (f : α → β) {l : List α} {j : Nat} (h : j < l.length) : (l.map f)[j]? = some (f l[j]) := by rw [List.getElem?_map, List.getElem?_eq_getElem h]; rfl
theorem fa {α : Type} {p : α → Prop} {l : List α} {j : Nat} (h : j < l.length) (h1 : ∀ x ∈ l.take j, p x) (h2 : p l[j]) : ∀ x ∈ l.take (j + 1), p x := fun x hx => by
 rw [List.take_succ_eq_append_getElem h] at hx
 rcases List.mem_append.1 hx with h | h
 ·exact h1 x h
 ·rw [List.mem_singleton.1 h]; exact h2
set_option maxRecDepth 100000 in
set_option maxHeartbeats 8000000 in
theorem widths15F (n : Int) (ls : List LN) (hlen : ls.length ≤ 1000000) (hn : -9223372036854775808 ≤ n ∧ n ≤ 9223372036854775807) (hsm : ∀ l ∈ ls, l.W.length ≤ 1000000 ∧ l.B.length ≤ 1000000 ∧ l.G.length ≤ 1000000 ∧ (∀ r ∈ l.W, r.length ≤ 1000000) ∧ ∀ g ∈ l.G, g.length ≤ 1000000) : Fn Tryz.prog 16 [.g (enDN n ls)] (widsR n ls) := by
 have r2 : greatB n ls = true → widsR n ls = [.d (.l []), .d (.v (.int .i64 2))] := fun h => if_pos h
 have r4 : greatB n ls = false → ls.foldl stW n ≤ 0 → widsR n ls = [.d (.l []), .d (.v (.int .i64 4))] := fun h h2 => by unfold widsR; rw [if_neg (by rw [h]; decide), if_pos h2]
 have r0 : greatB n ls = false → 0 < ls.foldl stW n → widsR n ls = [.d (enIs (wids n ls)), .d (.v (.int .i64 0))] := fun h h2 => by unfold widsR; rw [if_neg (by rw [h]; decide), if_neg (by omega)]
 generalize widsR n ls = R at r2 r4 r0 ⊢
 refine Fn.of Tryz.func16 rfl (by kernel_rfl) Tryz.ntmps16 Tryz.results16 rfl fun w0 S0 => ?_
 by_cases h32 : 32 < n
 ·rw [r2 (by unfold greatB; simp [h32])]
  refine wk ?_
  exact ⟨.d rfl (.inr rfl), .d rfl (.inl rfl), trivial⟩
 by_cases h16 : 16 < ls.length
 ·rw [r2 (by unfold greatB; simp [h16])]
  have hml : (ls.map enLD).length = ls.length := List.length_map ..
  refine wk ?_
  exact ⟨.d rfl (.inr rfl), .d rfl (.inl rfl), trivial⟩
 refine wk ?_
 refine AC.loop (X := Nat) (fun i => ⟨[(1, .p 1 0), (30, .d (.l (ls.map enLD))), (31, .d (.v (.int .i64 (ls.length : Int)))), (32, .d (.v (.int .i64 (i : Int))))], [(1, .box 44 ((enDN n ls).map .d))]⟩) (fun i => i ≤ ls.length ∧ ∀ l ∈ ls.take i, bigL l = false) (fun i => ls.length - i) 0 ⟨Nat.zero_le _, by simp⟩ ⟨rfl, rfl, rfl, rfl, trivial⟩ ⟨rfl, trivial⟩ ?_
 intro i ⟨hi, hsml⟩
 dsimp only
 refine wk ?_
 refine s1 (fun h1 => ?_) (fun h1 => ?_)
 ·have hi' : i < ls.length := by omega
  have hget : ls[i]? = some ls[i] := List.getElem?_eq_getElem hi'
  have hbg := big_great (n := n) hi'
  obtain ⟨m1, m2, m3, m4, m5⟩ := hsm _ (List.getElem_mem hi')
  have hnx : bigL ls[i] = false → ∀ l ∈ ls.take (i + 1), bigL l = false := fun hb l hl => by
   rw [List.take_succ_eq_append_getElem hi'] at hl
   rcases List.mem_append.1 hl with h | h
   ·exact hsml l h
   ·rw [List.mem_singleton.1 h]; exact hb
  generalize ls[i] = l at hget hbg hnx m1 m2 m3 m4 m5
  have hwl := rowsDlen l.W enQs
  have hgl := rowsDlen l.G enIs
  by_cases hk1 : l.kind = 1
  ·by_cases hw : 32 < l.W.length
   ·rw [r2 (hbg (by unfold bigL; simp [hk1, hw]))]
    refine wk ?_
    exact ⟨.d rfl (.inr rfl), .d rfl (.inl rfl), trivial⟩
   ·refine wk ?_
    refine AC.loop (X := Nat) (fun j => ⟨[(1, .p 1 0), (30, .d (.l (ls.map enLD))), (31, .d (.v (.int .i64 (ls.length : Int)))), (32, .d (.v (.int .i64 (i : Int)))), (5, .p 5 0), (44, .d (rowsD (l.W.map enQs))), (45, .d (.v (.int .i64 ((l.W.map enQs).length : Int)))), (46, .d (.v (.int .i64 (j : Int))))], [(5, .box 62 ((enLD l).map .d)), (1, .box 44 ((enDN n ls).map .d))]⟩) (fun j => j ≤ l.W.length ∧ ∀ r ∈ l.W.take j, ¬ 32 < r.length) (fun j => l.W.length - j) 0 ⟨Nat.zero_le _, by simp⟩ ⟨rfl, rfl, rfl, rfl, rfl, rfl, rfl, rfl, trivial⟩ ⟨rfl, rfl, trivial⟩ ?_
    intro j ⟨hj, hjs⟩
    dsimp only
    refine wk ?_
    refine s1 (fun h3 => ?_) (fun h3 => ?_)
    ·have hj' : j < l.W.length := by omega
     have hgw := gm enQs hj'
     have hnj : ¬ 32 < l.W[j].length → ∀ r ∈ l.W.take (j + 1), ¬ 32 < r.length := fa hj' hjs
     have hbj : 32 < l.W[j].length → bigL l = true := fun h => by
      unfold bigL
      rw [Bool.or_eq_true, Bool.and_eq_true, Bool.or_eq_true]
      exact .inl ⟨by simp [hk1], .inr (List.any_eq_true.2 ⟨_, List.getElem_mem hj', by simpa using h⟩)⟩
     generalize l.W[j] = r at hgw hnj hbj
     refine wk ?_
     refine s1 (fun h4 => ?_) (fun h4 => ?_)
     ·rw [r2 (hbg (hbj (by omega)))]
      refine wk ?_
      exact ⟨.d rfl (.inr rfl), .d rfl (.inl rfl), trivial⟩
     ·refine wk ?_
      exact ⟨j + 1, ⟨hj', hnj (by omega)⟩, by omega, ⟨rfl, rfl, rfl, rfl, rfl, rfl, rfl, rfl, trivial⟩, ⟨rfl, rfl, trivial⟩⟩
    ·rw [List.take_of_length_le (by omega)] at hjs
     refine wk ?_
     refine ⟨i + 1, ⟨hi', hnx ?_⟩, by omega, ⟨rfl, rfl, rfl, rfl, trivial⟩, ⟨rfl, trivial⟩⟩
     unfold bigL
     simp only [Bool.or_eq_false_iff, Bool.and_eq_false_iff, decide_eq_false_iff_not]
     exact ⟨.inr ⟨hw, List.any_eq_false.2 fun r hr => by simpa using hjs r hr⟩, .inl (by omega)⟩
  ·by_cases hk3 : l.kind = 3
   ·by_cases hw : 32 < l.G.length
    ·rw [r2 (hbg (by unfold bigL; simp [hk3, hw]))]
     refine wk ?_
     exact ⟨.d rfl (.inr rfl), .d rfl (.inl rfl), trivial⟩
    ·refine wk ?_
     refine AC.loop (X := Nat) (fun j => ⟨[(1, .p 1 0), (30, .d (.l (ls.map enLD))), (31, .d (.v (.int .i64 (ls.length : Int)))), (32, .d (.v (.int .i64 (i : Int)))), (5, .p 5 0), (62, .d (rowsD (l.G.map enIs))), (63, .d (.v (.int .i64 ((l.G.map enIs).length : Int)))), (64, .d (.v (.int .i64 (j : Int))))], [(5, .box 62 ((enLD l).map .d)), (1, .box 44 ((enDN n ls).map .d))]⟩) (fun j => j ≤ l.G.length ∧ ∀ r ∈ l.G.take j, ¬ 32 < r.length) (fun j => l.G.length - j) 0 ⟨Nat.zero_le _, by simp⟩ ⟨rfl, rfl, rfl, rfl, rfl, rfl, rfl, rfl, trivial⟩ ⟨rfl, rfl, trivial⟩ ?_
     intro j ⟨hj, hjs⟩
     dsimp only
     refine wk ?_
     refine s1 (fun h3 => ?_) (fun h3 => ?_)
     ·have hj' : j < l.G.length := by omega
      have hgw := gm enIs hj'
      have hnj : ¬ 32 < l.G[j].length → ∀ r ∈ l.G.take (j + 1), ¬ 32 < r.length := fa hj' hjs
      have hbj : 32 < l.G[j].length → bigL l = true := fun h => by
       unfold bigL
       rw [Bool.or_eq_true]
       refine .inr ?_
       simp only [Bool.and_eq_true, Bool.or_eq_true, decide_eq_true_eq]
       exact ⟨hk3, .inr (List.any_eq_true.2 ⟨_, List.getElem_mem hj', by simpa using h⟩)⟩
      generalize l.G[j] = r at hgw hnj hbj
      refine wk ?_
      refine s1 (fun h4 => ?_) (fun h4 => ?_)
      ·rw [r2 (hbg (hbj (by omega)))]
       refine wk ?_
       exact ⟨.d rfl (.inr rfl), .d rfl (.inl rfl), trivial⟩
      ·refine wk ?_
       exact ⟨j + 1, ⟨hj', hnj (by omega)⟩, by omega, ⟨rfl, rfl, rfl, rfl, rfl, rfl, rfl, rfl, trivial⟩, ⟨rfl, rfl, trivial⟩⟩
     ·rw [List.take_of_length_le (by omega)] at hjs
      refine wk ?_
      refine ⟨i + 1, ⟨hi', hnx ?_⟩, by omega, ⟨rfl, rfl, rfl, rfl, trivial⟩, ⟨rfl, trivial⟩⟩
      unfold bigL
      simp only [Bool.or_eq_false_iff, Bool.and_eq_false_iff, decide_eq_false_iff_not]
      exact ⟨.inl hk1, .inr ⟨hw, List.any_eq_false.2 fun r hr => by simpa using hjs r hr⟩⟩
   ·refine wk ?_
    refine ⟨i + 1, ⟨hi', hnx ?_⟩, by omega, ⟨rfl, rfl, rfl, rfl, trivial⟩, ⟨rfl, trivial⟩⟩
    unfold bigL
    simp [hk1, hk3]
 ·rw [List.take_of_length_le (by omega)] at hsml
  have hg : greatB n ls = false := by
   unfold greatB
   simp only [Bool.or_eq_false_iff, decide_eq_false_iff_not]
   exact ⟨⟨h32, h16⟩, List.any_eq_false.2 fun l hl => by simpa using hsml l hl⟩
  have r4 := r4 hg
  have r0 := r0 hg
  by_cases hn1 : n < 1
  ·rw [r4 (stW_low ls n (by omega))]
   refine wk ?_
   exact ⟨.d rfl (.inr rfl), .d rfl (.inl rfl), trivial⟩
  refine wn ?_
  ((try (first | intro K ms hms hK | intro K hK)); (first | apply Chain.ef | apply Chain.efD); exact rfl; exact rfl; exact Do.litR rfl rfl rfl rfl rfl rfl rfl rfl; exact rfl; exact rfl)
  refine wk ?_
  refine AC.loop (X := Nat) (fun i => ⟨[(10, .r 78 i), (11, .d (.v (.int .i64 ((ls.take i).foldl stW n)))), (82, .d (.l (ls.map enLD))), (83, .d (.v (.int .i64 (ls.length : Int)))), (84, .d (.v (.int .i64 (i : Int))))], [(78, .row i 3 1 ((wids n (ls.take i)).map fun v => [.v (.int .i64 v)]))]⟩) (fun i => i ≤ ls.length ∧ 0 < (ls.take i).foldl stW n) (fun i => ls.length - i) 0 ⟨Nat.zero_le _, by show 0 < n; omega⟩ ⟨rfl, rfl, rfl, rfl, rfl, trivial⟩ ⟨rfl, trivial⟩ ?_
  intro i ⟨hi, hpos⟩
  dsimp only
  refine wk ?_
  refine s1 (fun h1 => ?_) (fun h1 => ?_)
  ·have hi' : i < ls.length := by omega
   have hget : ls[i]? = some ls[i] := List.getElem?_eq_getElem hi'
   have hbf := bad_final (n := n) hi'
   have hw := wids_take n ls i hi'
   have hwl := wids_len n (ls.take i)
   obtain ⟨m1, m2, m3, m4, m5⟩ := hsm _ (List.getElem_mem hi')
   have hf : (ls.take (i + 1)).foldl stW n = stW ((ls.take i).foldl stW n) ls[i] := by rw [List.take_succ_eq_append_getElem hi', List.foldl_append]; rfl
   rw [hf] at hw
   rw [List.length_take] at hwl
   have hml : ((wids n (ls.take i)).map fun v => [D.v (.int .i64 v)]).length = i + 1 := by rw [List.length_map]; omega
   generalize ls[i] = l at hget hf hw hbf m1 m2 m3 m4 m5
   generalize (ls.take i).foldl stW n = w at hf hw hbf hpos ⊢
   generalize wids n (ls.take i) = ws at hw hml ⊢
   have es : stW w l = widN l w := if_pos hpos
   rw [es] at hf hw hbf
   have hgl := rowsDlen l.G enIs
   have hwl := rowsDlen l.W enQs
   have hnext : ∀ v : Int, widN l w = v → 0 < v → (i + 1 ≤ ls.length ∧ 0 < (ls.take (i + 1)).foldl stW n) ∧ (ls.take (i + 1)).foldl stW n = v ∧ wids n (ls.take (i + 1)) = ws ++ [v] := fun v e hv => by rw [hf, hw, e]; exact ⟨⟨hi', hv⟩, rfl, rfl⟩
   by_cases hk1 : l.kind = 1
   ·have hwid : widN l w = if (decide (l.B.length ≠ l.W.length) || l.W.any fun r => decide ((r.length : Int) ≠ w)) = true then 0 else (l.W.length : Int) := by unfold widN; rw [if_pos hk1]
    by_cases hw0 : l.W.length = 0
    ·rw [r4 (hbf (by rw [hwid]; split <;> omega))]
     refine wk ?_
     exact ⟨.d rfl (.inr rfl), .d rfl (.inl rfl), trivial⟩
    by_cases hB : l.B.length = l.W.length
    rotate_left
    ·rw [r4 (hbf (by rw [hwid, if_pos (by simp [hB])]; omega))]
     refine wk ?_
     exact ⟨.d rfl (.inr rfl), .d rfl (.inl rfl), trivial⟩
    refine wk ?_
    refine AC.loop (X := Nat) (fun j => ⟨[(10, .r 78 i), (11, .d (.v (.int .i64 w))), (82, .d (.l (ls.map enLD))), (83, .d (.v (.int .i64 (ls.length : Int)))), (84, .d (.v (.int .i64 (i : Int)))), (13, .p 13 0), (106, .d (rowsD (l.W.map enQs))), (107, .d (.v (.int .i64 ((l.W.map enQs).length : Int)))), (108, .d (.v (.int .i64 (j : Int))))], [(13, .box 62 ((enLD l).map .d)), (78, .row i 3 1 (ws.map fun v => [.v (.int .i64 v)]))]⟩) (fun j => j ≤ l.W.length ∧ ∀ r ∈ l.W.take j, (r.length : Int) = w) (fun j => l.W.length - j) 0 ⟨Nat.zero_le _, by simp⟩ ⟨rfl, rfl, rfl, rfl, rfl, rfl, rfl, rfl, rfl, trivial⟩ ⟨rfl, rfl, trivial⟩ ?_
    intro j ⟨hj, hjs⟩
    dsimp only
    refine wk ?_
    refine s1 (fun h3 => ?_) (fun h3 => ?_)
    ·have hj' : j < l.W.length := by omega
     have hgw := gm enQs hj'
     have hnj : (l.W[j].length : Int) = w → ∀ r ∈ l.W.take (j + 1), (r.length : Int) = w := fa hj' hjs
     have hbj : (l.W[j].length : Int) ≠ w → widN l w ≤ 0 := fun h => by
      rw [hwid, if_pos]
      ·omega
      ·rw [Bool.or_eq_true]
       exact .inr (List.any_eq_true.2 ⟨_, List.getElem_mem hj', by simpa using h⟩)
     generalize l.W[j] = r at hgw hnj hbj
     refine wk ?_
     refine s1 (fun h4 => ?_) (fun h4 => ?_)
     ·rw [r4 (hbf (hbj (by omega)))]
      refine wk ?_
      exact ⟨.d rfl (.inr rfl), .d rfl (.inl rfl), trivial⟩
     ·refine wk ?_
      exact ⟨j + 1, ⟨hj', hnj (by omega)⟩, by omega, ⟨rfl, rfl, rfl, rfl, rfl, rfl, rfl, rfl, rfl, trivial⟩, ⟨rfl, rfl, trivial⟩⟩
    ·rw [List.take_of_length_le (by omega)] at hjs
     have ev : widN l w = (l.W.length : Int) := by
      rw [hwid, if_neg]
      rw [Bool.not_eq_true, Bool.or_eq_false_iff]
      exact ⟨by simp [hB], List.any_eq_false.2 fun r hr => by simpa using hjs r hr⟩
     obtain ⟨e1, e2, e3⟩ := hnext _ ev (by omega)
     refine wk ?_
     exact ⟨i + 1, e1, by omega, ⟨rfl, by dsimp only; rw [e2]; exact ivw (by omega), rfl, rfl, rfl, trivial⟩, ⟨by dsimp only; rw [e3, List.map_append, ← hwl]; rfl, trivial⟩⟩
   by_cases hk2 : l.kind = 2
   ·have ev : widN l w = w := by unfold widN; rw [if_neg hk1, if_pos hk2]
    obtain ⟨e1, e2, e3⟩ := hnext _ ev hpos
    refine wk ?_
    exact ⟨i + 1, e1, by omega, ⟨rfl, by dsimp only; rw [e2]; rfl, rfl, rfl, rfl, trivial⟩, ⟨by dsimp only; rw [e3, List.map_append]; rfl, trivial⟩⟩
   by_cases hk3 : l.kind = 3
   ·have hwid : widN l w = if l.G.any (badG w) = true then 0 else (l.G.length : Int) := by unfold widN; rw [if_neg hk1, if_neg hk2, if_pos hk3]
    by_cases hw0 : l.G.length = 0
    ·rw [r4 (hbf (by rw [hwid]; split <;> omega))]
     refine wk ?_
     exact ⟨.d rfl (.inr rfl), .d rfl (.inl rfl), trivial⟩
    refine wk ?_
    refine AC.loop (X := Nat) (fun j => ⟨[(10, .r 78 i), (11, .d (.v (.int .i64 w))), (82, .d (.l (ls.map enLD))), (83, .d (.v (.int .i64 (ls.length : Int)))), (84, .d (.v (.int .i64 (i : Int)))), (13, .p 13 0), (129, .d (rowsD (l.G.map enIs))), (130, .d (.v (.int .i64 ((l.G.map enIs).length : Int)))), (131, .d (.v (.int .i64 (j : Int))))], [(13, .box 62 ((enLD l).map .d)), (78, .row i 3 1 (ws.map fun v => [.v (.int .i64 v)]))]⟩) (fun j => j ≤ l.G.length ∧ ∀ g ∈ l.G.take j, badG w g = false) (fun j => l.G.length - j) 0 ⟨Nat.zero_le _, by simp⟩ ⟨rfl, rfl, rfl, rfl, rfl, rfl, rfl, rfl, rfl, trivial⟩ ⟨rfl, rfl, trivial⟩ ?_
    intro j ⟨hj, hjs⟩
    dsimp only
    refine wk ?_
    refine s1 (fun h3 => ?_) (fun h3 => ?_)
    ·have hj' : j < l.G.length := by omega
     have hgw := gm enIs hj'
     have hnj : badG w l.G[j] = false → ∀ r ∈ l.G.take (j + 1), badG w r = false := fa hj' hjs
     have hbj : badG w l.G[j] = true → widN l w ≤ 0 := fun h => by
      rw [hwid, if_pos (List.any_eq_true.2 ⟨_, List.getElem_mem hj', h⟩)]
      omega
     have m5' := m5 _ (List.getElem_mem hj')
     generalize l.G[j] = g at hgw hnj hbj m5'
     by_cases hg0 : g.length = 0
     ·rw [r4 (hbf (hbj (by unfold badG; simp [List.length_eq_zero_iff.1 hg0])))]
      refine wk ?_
      exact ⟨.d rfl (.inr rfl), .d rfl (.inl rfl), trivial⟩
     refine wk ?_
     refine AC.loop (X := Nat) (fun q => ⟨[(10, .r 78 i), (11, .d (.v (.int .i64 w))), (82, .d (.l (ls.map enLD))), (83, .d (.v (.int .i64 (ls.length : Int)))), (84, .d (.v (.int .i64 (i : Int)))), (13, .p 13 0), (129, .d (rowsD (l.G.map enIs))), (130, .d (.v (.int .i64 ((l.G.map enIs).length : Int)))), (131, .d (.v (.int .i64 (j : Int)))), (138, .d (enIs g)), (139, .d (.v (.int .i64 (g.length : Int)))), (140, .d (.v (.int .i64 (q : Int))))], [(13, .box 62 ((enLD l).map .d)), (78, .row i 3 1 (ws.map fun v => [.v (.int .i64 v)]))]⟩) (fun q => q ≤ g.length ∧ ∀ v ∈ g.take q, ¬ v < 0 ∧ v < w) (fun q => g.length - q) 0 ⟨Nat.zero_le _, by simp⟩ ⟨rfl, rfl, rfl, rfl, rfl, rfl, rfl, rfl, rfl, rfl, rfl, rfl, trivial⟩ ⟨rfl, rfl, trivial⟩ ?_
     intro q ⟨hq, hqs⟩
     dsimp only
     refine wk ?_
     refine s1 (fun h4 => ?_) (fun h4 => ?_)
     ·have hq' : q < g.length := by omega
      have hgq : g[q]? = some g[q] := List.getElem?_eq_getElem hq'
      have hnq : (¬ g[q] < 0 ∧ g[q] < w) → ∀ v ∈ g.take (q + 1), ¬ v < 0 ∧ v < w := fa hq' hqs
      have hbq : g[q] < 0 ∨ w ≤ g[q] → badG w g = true := fun h => by
       unfold badG
       rw [Bool.or_eq_true]
       exact .inr (List.any_eq_true.2 ⟨_, List.getElem_mem hq', by simpa using h⟩)
      generalize g[q] = v at hgq hnq hbq
      by_cases hv0 : v < 0
      ·rw [r4 (hbf (hbj (hbq (.inl hv0))))]
       refine wk ?_
       exact ⟨.d rfl (.inr rfl), .d rfl (.inl rfl), trivial⟩
      by_cases hvw : w ≤ v
      ·rw [r4 (hbf (hbj (hbq (.inr hvw))))]
       refine wk ?_
       exact ⟨.d rfl (.inr rfl), .d rfl (.inl rfl), trivial⟩
      refine wk ?_
      exact ⟨q + 1, ⟨hq', hnq ⟨hv0, by omega⟩⟩, by omega, ⟨rfl, rfl, rfl, rfl, rfl, rfl, rfl, rfl, rfl, rfl, rfl, rfl, trivial⟩, ⟨rfl, rfl, trivial⟩⟩
     ·rw [List.take_of_length_le (by omega)] at hqs
      refine wk ?_
      refine ⟨j + 1, ⟨hj', hnj ?_⟩, by omega, ⟨rfl, rfl, rfl, rfl, rfl, rfl, rfl, rfl, rfl, trivial⟩, ⟨rfl, rfl, trivial⟩⟩
      unfold badG
      rw [Bool.or_eq_false_iff]
      exact ⟨by simpa using hg0, List.any_eq_false.2 fun v hv => by have := hqs v hv; simp; omega⟩
    ·rw [List.take_of_length_le (by omega)] at hjs
     have ev : widN l w = (l.G.length : Int) := by
      rw [hwid, if_neg]
      rw [Bool.not_eq_true]
      exact List.any_eq_false.2 fun r hr => by rw [hjs r hr]; decide
     obtain ⟨e1, e2, e3⟩ := hnext _ ev (by omega)
     refine wk ?_
     exact ⟨i + 1, e1, by omega, ⟨rfl, by dsimp only; rw [e2]; exact ivw (by omega), rfl, rfl, rfl, trivial⟩, ⟨by dsimp only; rw [e3, List.map_append, ← hgl]; rfl, trivial⟩⟩
   ·rw [r4 (hbf (by unfold widN; rw [if_neg hk1, if_neg hk2, if_neg hk3]; omega))]
    refine wk ?_
    exact ⟨.d rfl (.inr rfl), .d rfl (.inl rfl), trivial⟩
  ·rw [List.take_of_length_le (by omega)] at hpos ⊢
   rw [r0 hpos]
   refine wk ?_
   exact ⟨.d rfl ⟨_, _, rfl⟩, .d rfl (.inl rfl), trivial⟩
end Go.Proofs.YthdkkpocihkgbaaGreatDoor
