import Derived.Test.YtbbpecfapohlaaaGreatDoorBitsW
import Derived.Test.YtbbpecfapohlaaaGreatDoorTr
import Derived.Test.YtbbpecfapohlaaaGreatDoorNtA
import Derived.Test.YtbbpecfapohlaaaGreatDoorPrG
namespace Go.Proofs.YtbbpecfapohlaaaGreatDoor
open Go.RowKit
attribute [local irreducible] AC Do St
theorem plainB_iff (c : UInt8) : plainB c = true ↔ 32 < c.toNat ∧ c.toNat < 127 ∧ c.toNat ≠ 40 ∧ c.toNat ≠ 41 ∧ c.toNat ≠ 59 := by unfold plainB; simp
theorem plainB_no {c : UInt8} (h : ¬ (32 < c.toNat ∧ c.toNat < 127 ∧ c.toNat ≠ 40 ∧ c.toNat ≠ 41 ∧ c.toNat ≠ 59)) : plainB c = false := by
  rw [← plainB_iff] at h
  simpa using h
set_option maxRecDepth 100000 in
set_option maxHeartbeats 4000000 in
theorem good12 (c : UInt8) : Fn Tryz.prog 146 [.d (.v (.int .u8 (c.toNat : Int)))] [.d (.v (.bool (plainB c)))] := by
  have hc := c.toNat_lt
  by_cases h1 : c.toNat < 33
  · rw [plainB_no (by omega)]
    refine Fn.of Tryz.func146 rfl (by kernel_rfl) Tryz.ntmps146 Tryz.results146 rfl fun w0 S0 => ?_
    refine wa ?_
    exact ⟨.d rfl (.inl rfl), trivial⟩
  by_cases h2 : 126 < c.toNat
  · rw [plainB_no (by omega)]
    refine Fn.of Tryz.func146 rfl (by kernel_rfl) Tryz.ntmps146 Tryz.results146 rfl fun w0 S0 => ?_
    refine wa ?_
    exact ⟨.d rfl (.inl rfl), trivial⟩
  by_cases h3 : c.toNat = 40
  · rw [plainB_no (by omega)]
    refine Fn.of Tryz.func146 rfl (by kernel_rfl) Tryz.ntmps146 Tryz.results146 rfl fun w0 S0 => ?_
    refine wa ?_
    exact ⟨.d rfl (.inl rfl), trivial⟩
  by_cases h4 : c.toNat = 41
  · rw [plainB_no (by omega)]
    refine Fn.of Tryz.func146 rfl (by kernel_rfl) Tryz.ntmps146 Tryz.results146 rfl fun w0 S0 => ?_
    refine wa ?_
    exact ⟨.d rfl (.inl rfl), trivial⟩
  by_cases h5 : c.toNat = 59
  · rw [plainB_no (by omega)]
    refine Fn.of Tryz.func146 rfl (by kernel_rfl) Tryz.ntmps146 Tryz.results146 rfl fun w0 S0 => ?_
    refine wa ?_
    exact ⟨.d rfl (.inl rfl), trivial⟩
  rw [(plainB_iff c).2 (by omega)]
  refine Fn.of Tryz.func146 rfl (by kernel_rfl) Tryz.ntmps146 Tryz.results146 rfl fun w0 S0 => ?_
  refine wa ?_
  exact ⟨.d rfl (.inl rfl), trivial⟩
def enTK (t : TK) : List D := [.v (.int .u8 (t.k.toNat : Int)), .v (.int .i64 (t.p : Int)), .v (.string (tx t.w))]
theorem tk_snoc (o : List TK) (k : UInt8) (p : Nat) (w : List UInt8) : o.map enTK ++ [[.v (.int .u8 (k.toNat : Int)), .v (.int .i64 (p : Int)), .v (.string (tx w))]] = (o ++ [(⟨k, p, w⟩ : TK)]).map enTK := by simp [enTK]
theorem tw_split {src : List UInt8} {j : Nat} {c : UInt8} (h : src[j]? = some c) : src.drop j = c :: src.drop (j + 1) := by
  obtain ⟨hj, rfl⟩ := List.getElem?_eq_some_iff.1 h
  exact List.drop_eq_getElem_cons hj
set_option maxRecDepth 100000 in
set_option maxHeartbeats 16000000 in
theorem tokens12 (src : List UInt8) (hl : src.length ≤ 1000000000) : Fn Tryz.prog 80 [.d (.v (.string (tx src)))] [.d (.l ((tokX (src.length + 1) src 0).map enTK))] := by
  obtain ⟨T, hT⟩ : ∃ T, tokX (src.length + 1) src 0 = T := ⟨_, rfl⟩
  rw [hT]
  refine Fn.of Tryz.func80 rfl (by kernel_rfl) Tryz.ntmps80 Tryz.results80 rfl fun w0 S0 => ?_
  refine wa ?_
  refine AC.loop (X := Nat × List TK) (fun x => ⟨[(0, .d (.v (.string (tx src)))), (3, .r 7 x.2.length), (4, .d (.v (.int .i64 (x.1 : Int))))], [(7, .row x.2.length 151 3 (x.2.map enTK))]⟩) (fun x => x.1 ≤ src.length ∧ x.2.length ≤ x.1 ∧ ∃ f, src.length < x.1 + f ∧ x.2 ++ tokX f (src.drop x.1) x.1 = T) (fun x => src.length - x.1) (0, []) ⟨Nat.zero_le _, Nat.le_refl _, src.length + 1, by dsimp only; omega, hT⟩ ⟨rfl, rfl, rfl, trivial⟩ ⟨rfl, trivial⟩ ?_
  intro ⟨i, out⟩ ⟨hi, ho, f, hf, hgo⟩
  dsimp only at hi ho hf hgo ⊢
  obtain ⟨f, rfl⟩ : ∃ g, f = g + 1 := ⟨f - 1, by omega⟩
  have hml : (out.map enTK).length = out.length := List.length_map ..
  by_cases h1 : i < src.length
  · have hg := List.getElem?_eq_getElem h1
    have hd := tw_split hg
    generalize src[i] = c at hg hd
    have hc := c.toNat_lt
    rw [hd, tokX] at hgo
    by_cases hb : blk8 c = true
    · rw [if_pos hb] at hgo
      have hb' : c.toNat = 32 ∨ c.toNat = 9 ∨ c.toNat = 10 ∨ c.toNat = 13 := by unfold blk8 at hb; simpa using hb
      rcases hb' with hb' | hb' | hb' | hb'
      all_goals
        refine wa ?_
        exact ⟨(i + 1, out), ⟨h1, by dsimp only; omega, f, by dsimp only; omega, hgo⟩, by dsimp only; omega, ⟨rfl, rfl, rfl, trivial⟩, ⟨rfl, trivial⟩⟩
    have hb' : c.toNat ≠ 32 ∧ c.toNat ≠ 9 ∧ c.toNat ≠ 10 ∧ c.toNat ≠ 13 := by unfold blk8 at hb; simpa using hb
    rw [if_neg hb] at hgo
    obtain ⟨n1, n2, n3, n4⟩ := hb'
    by_cases h59 : c.toNat = 59
    · rw [if_pos h59] at hgo
      have h0 : i ≤ i ∧ i ≤ src.length ∧ (src.drop i).dropWhile nlB = (src.drop (i + 1)).dropWhile nlB ∧ i + ((src.drop i).takeWhile nlB).length = i + 1 + ((src.drop (i + 1)).takeWhile nlB).length := by
        have : nlB c = true := by unfold nlB; simp; omega
        rw [hd, List.dropWhile_cons, if_pos this, List.takeWhile_cons, if_pos this, List.length_cons]
        exact ⟨Nat.le_refl _, hi, rfl, by omega⟩
      refine wa ?_
      refine AC.loop (X := Nat) (fun j => ⟨[(0, .d (.v (.string (tx src)))), (3, .r 7 out.length), (4, .d (.v (.int .i64 (j : Int))))], [(7, .row out.length 151 3 (out.map enTK))]⟩) (fun j => i ≤ j ∧ j ≤ src.length ∧ (src.drop j).dropWhile nlB = (src.drop (i + 1)).dropWhile nlB ∧ j + ((src.drop j).takeWhile nlB).length = i + 1 + ((src.drop (i + 1)).takeWhile nlB).length) (fun j => src.length - j) i ⟨h0.1, h0.2.1, h0.2.2.1, h0.2.2.2⟩ ⟨rfl, rfl, rfl, trivial⟩ ⟨rfl, trivial⟩ ?_
      intro j ⟨hij, hj, q1, q2⟩
      dsimp only
      by_cases h2 : j < src.length
      · have hgj := List.getElem?_eq_getElem h2
        have hdj := tw_split hgj
        generalize src[j] = e at hgj hdj
        have hce := e.toNat_lt
        by_cases h10 : e.toNat = 10
        · have : nlB e = false := by unfold nlB; simp [h10]
          rw [hdj, List.dropWhile_cons, if_neg (by simp [this]), ← hdj] at q1
          rw [hdj, List.takeWhile_cons, if_neg (by simp [this])] at q2
          simp only [List.length_nil] at q2
          rw [← q1, ← q2] at hgo
          refine wa ?_
          exact ⟨(j, out), ⟨hj, by dsimp only; omega, f, by dsimp only; omega, hgo⟩, by dsimp only; omega, ⟨rfl, rfl, rfl, trivial⟩, ⟨rfl, trivial⟩⟩
        · have : nlB e = true := by unfold nlB; simp [h10]
          rw [hdj, List.dropWhile_cons, if_pos this] at q1
          rw [hdj, List.takeWhile_cons, if_pos this, List.length_cons] at q2
          refine wa ?_
          exact ⟨j + 1, ⟨by omega, h2, q1, by omega⟩, by omega, ⟨rfl, rfl, rfl, trivial⟩, ⟨rfl, trivial⟩⟩
      · rw [List.drop_eq_nil_of_le (by omega)] at q1 q2
        simp only [List.takeWhile_nil, List.length_nil, List.dropWhile_nil] at q1 q2
        have e3 : src.drop j = [] := List.drop_eq_nil_of_le (by omega)
        rw [← q1, ← q2, ← e3] at hgo
        refine wa ?_
        exact ⟨(j, out), ⟨hj, by dsimp only; omega, f, by dsimp only; omega, hgo⟩, by dsimp only; omega, ⟨rfl, rfl, rfl, trivial⟩, ⟨rfl, trivial⟩⟩
    rw [if_neg h59] at hgo
    by_cases hbr : c.toNat = 40 ∨ c.toNat = 41
    · rw [if_pos hbr] at hgo
      have e := tk_snoc out c i []
      rw [show out ++ ⟨c, i, []⟩ :: tokX f (src.drop (i + 1)) (i + 1) = (out ++ [⟨c, i, []⟩]) ++ tokX f (src.drop (i + 1)) (i + 1) by simp] at hgo
      rcases hbr with hbr | hbr
      all_goals
        refine wa ?_
        exact ⟨(i + 1, out ++ [⟨c, i, []⟩]), ⟨h1, by simp; omega, f, by dsimp only; omega, hgo⟩, by dsimp only; omega, ⟨rfl, by dsimp only; rw [List.length_append]; rfl, rfl, trivial⟩, ⟨by dsimp only; rw [List.length_append, ← e]; rfl, trivial⟩⟩
    rw [if_neg hbr] at hgo
    have hbr1 : c.toNat ≠ 40 := fun h => hbr (.inl h)
    have hbr2 : c.toNat ≠ 41 := fun h => hbr (.inr h)
    have hgd := good12 c
    by_cases hp : plainB c = true
    · rw [if_pos hp] at hgo
      rw [hp] at hgd
      refine wa ?_
      refine AC.loop (X := Nat) (fun j => ⟨[(0, .d (.v (.string (tx src)))), (3, .r 7 out.length), (4, .d (.v (.int .i64 (i : Int)))), (6, .d (.v (.int .i64 (j : Int))))], [(7, .row out.length 151 3 (out.map enTK))]⟩) (fun j => i ≤ j ∧ j ≤ src.length ∧ (src.drop j).dropWhile plainB = (src.drop i).dropWhile plainB ∧ j + ((src.drop j).takeWhile plainB).length = i + ((src.drop i).takeWhile plainB).length) (fun j => src.length - j) i ⟨Nat.le_refl _, hi, rfl, rfl⟩ ⟨rfl, rfl, rfl, rfl, trivial⟩ ⟨rfl, trivial⟩ ?_
      intro j ⟨hij, hj, q1, q2⟩
      dsimp only
      have fin : src.drop j = (src.drop i).dropWhile plainB → j = i + ((src.drop i).takeWhile plainB).length → (src.drop i).take (j - i) = (src.drop i).takeWhile plainB ∧ i < j := fun e1 e2 => by
        refine ⟨?_, ?_⟩
        · conv => lhs; rw [← List.takeWhile_append_dropWhile (p := plainB) (l := src.drop i)]
          rw [List.take_append_of_le_length (by omega), List.take_of_length_le (by omega)]
        · rw [hd, List.takeWhile_cons, if_pos hp, List.length_cons] at e2
          omega
      by_cases h2 : j < src.length
      · have hgj := List.getElem?_eq_getElem h2
        have hdj := tw_split hgj
        generalize src[j] = e at hgj hdj
        have hce := e.toNat_lt
        have hge := good12 e
        by_cases hpe : plainB e = true
        · rw [hdj, List.dropWhile_cons, if_pos hpe] at q1
          rw [hdj, List.takeWhile_cons, if_pos hpe, List.length_cons] at q2
          rw [hpe] at hge
          clear hgd
          refine wa ?_
          exact ⟨j + 1, ⟨by omega, h2, q1, by omega⟩, by omega, ⟨rfl, rfl, rfl, rfl, trivial⟩, ⟨rfl, trivial⟩⟩
        · rw [hdj, List.dropWhile_cons, if_neg hpe, ← hdj] at q1
          rw [hdj, List.takeWhile_cons, if_neg hpe] at q2
          simp only [List.length_nil] at q2
          rw [Bool.eq_false_iff.2 hpe] at hge
          obtain ⟨e1, e2⟩ := fin q1 (by omega)
          rw [← hd, ← q1, ← e1, show i + ((src.drop i).take (j - i)).length = j by rw [e1]; omega] at hgo
          have e := tk_snoc out 119 i ((src.drop i).take (j - i))
          rw [show out ++ ⟨119, i, (src.drop i).take (j - i)⟩ :: tokX f (src.drop j) j = (out ++ [⟨119, i, (src.drop i).take (j - i)⟩]) ++ tokX f (src.drop j) j by simp] at hgo
          clear hgd
          refine wa ?_
          ((try (first | intro K ms hms hK | intro K hK)); (first | apply Chain.go | apply Chain.goD); exact rfl; exact rfl; exact Loc.strCutX i j rfl rfl rfl rfl rfl rfl hij hj (by kernel_rfl))
          refine wa ?_
          exact ⟨(j, out ++ [⟨119, i, (src.drop i).take (j - i)⟩]), ⟨hj, by simp; omega, f, by dsimp only; omega, hgo⟩, by dsimp only; omega, ⟨rfl, by dsimp only; rw [List.length_append]; rfl, rfl, trivial⟩, ⟨by dsimp only; rw [List.length_append, ← e]; rfl, trivial⟩⟩
      · have e3 : src.drop j = [] := List.drop_eq_nil_of_le (by omega)
        rw [e3] at q1 q2
        simp only [List.takeWhile_nil, List.length_nil, List.dropWhile_nil] at q1 q2
        obtain ⟨e1, e2⟩ := fin (e3.trans q1) (by omega)
        rw [← hd, ← q1, ← e3, ← e1, show i + ((src.drop i).take (j - i)).length = j by rw [e1]; omega] at hgo
        have e := tk_snoc out 119 i ((src.drop i).take (j - i))
        rw [show out ++ ⟨119, i, (src.drop i).take (j - i)⟩ :: tokX f (src.drop j) j = (out ++ [⟨119, i, (src.drop i).take (j - i)⟩]) ++ tokX f (src.drop j) j by simp] at hgo
        clear hgd
        refine wa ?_
        ((try (first | intro K ms hms hK | intro K hK)); (first | apply Chain.go | apply Chain.goD); exact rfl; exact rfl; exact Loc.strCutX i j rfl rfl rfl rfl rfl rfl hij hj (by kernel_rfl))
        refine wa ?_
        exact ⟨(j, out ++ [⟨119, i, (src.drop i).take (j - i)⟩]), ⟨hj, by simp; omega, f, by dsimp only; omega, hgo⟩, by dsimp only; omega, ⟨rfl, by dsimp only; rw [List.length_append]; rfl, rfl, trivial⟩, ⟨by dsimp only; rw [List.length_append, ← e]; rfl, trivial⟩⟩
    · rw [if_neg hp] at hgo
      rw [Bool.eq_false_iff.2 hp] at hgd
      have e := tk_snoc out 33 i []
      refine wa ?_
      exact ⟨.d rfl ⟨_, _, by rw [← hgo, ← e]; rfl⟩, trivial⟩
  · have e3 : src.drop i = [] := List.drop_eq_nil_of_le (by omega)
    obtain rfl : i = src.length := by omega
    rw [e3, tokX] at hgo
    have e := tk_snoc out 46 src.length []
    refine wa ?_
    exact ⟨.d rfl ⟨_, _, by rw [← hgo, ← e]; rfl⟩, trivial⟩
theorem tokX_len : ∀ (f : Nat) (s : List UInt8) (p : Nat), (tokX f s p).length ≤ s.length + 1
  | 0, s, p => by rw [tokX]; simp
  | f + 1, [], p => by rw [tokX]; simp
  | f + 1, c :: r, p => by
    rw [tokX, List.length_cons]
    split
    · have := tokX_len f r (p + 1); omega
    · split
      · have := tokX_len f (r.dropWhile nlB) (p + 1 + (r.takeWhile nlB).length)
        have := drop_len nlB r
        omega
      · split
        · have := tokX_len f r (p + 1); rw [List.length_cons]; omega
        · split
          · rename_i h
            have := tokX_len f ((c :: r).dropWhile plainB) (p + ((c :: r).takeWhile plainB).length)
            have h2 := drop_len plainB r
            rw [List.length_cons, dw_pl h] at *
            omega
          · simp
set_option maxRecDepth 100000 in
set_option maxHeartbeats 16000000 in
theorem fault12 (src : List UInt8) (hl : src.length ≤ 1000000000) : Fn Tryz.prog 34 [.d (.v (.string (tx src)))] [.d (.v (.int .i64 (fauX src).1)), .d (.v (.int .i64 (fauX src).2))] := by
  unfold fauX
  by_cases hb : 1000000 < src.length
  · rw [if_pos hb]
    refine Fn.of Tryz.func34 rfl (by kernel_rfl) Tryz.ntmps34 Tryz.results34 rfl fun w0 S0 => ?_
    refine wa ?_
    exact ⟨.d rfl (.inl rfl), .d rfl (.inl rfl), trivial⟩
  rw [if_neg hb]
  have hTk := tokens12 src hl
  have hTl := tokX_len (src.length + 1) src 0
  generalize tokX (src.length + 1) src 0 = T at hTk hTl
  obtain ⟨R, hR⟩ : ∃ R, faX T 0 0 = R := ⟨_, rfl⟩
  rw [hR]
  have hml : (T.map enTK).length = T.length := List.length_map ..
  refine Fn.of Tryz.func34 rfl (by kernel_rfl) Tryz.ntmps34 Tryz.results34 rfl fun w0 S0 => ?_
  refine wa ?_
  refine AC.loop (X := Nat × Nat × Int) (fun x => ⟨[(4, .d (.v (.int .i64 (x.2.1 : Int)))), (5, .d (.v (.int .i64 x.2.2))), (12, .d (.l (T.map enTK))), (13, .d (.v (.int .i64 (T.length : Int)))), (14, .d (.v (.int .i64 (x.1 : Int))))], []⟩) (fun x => x.1 ≤ T.length ∧ x.2.1 ≤ x.1 ∧ 0 ≤ x.2.2 ∧ x.2.2 ≤ 100000 ∧ faX (T.drop x.1) x.2.1 x.2.2 = R) (fun x => T.length - x.1) (0, 0, 0) ⟨Nat.zero_le _, Nat.le_refl _, Int.le_refl _, by decide, hR⟩ ⟨rfl, rfl, rfl, rfl, rfl, trivial⟩ trivial ?_
  intro ⟨j, o, n⟩ ⟨hj, ho, hn0, hn1, hgo⟩
  dsimp only at hj ho hn0 hn1 hgo ⊢
  by_cases h1 : j < T.length
  · have hg : T[j]? = some T[j] := List.getElem?_eq_getElem h1
    rw [List.drop_eq_getElem_cons h1, faX] at hgo
    generalize T[j] = t at hg hgo
    have hm : (T.map enTK)[j]? = some (enTK t) := by rw [List.getElem?_map, hg]; rfl
    have hk := t.k.toNat_lt
    by_cases a1 : t.k.toNat = 33
    · rw [if_pos a1] at hgo
      by_cases a2 : 100000 < n + 1
      · rw [if_pos a2] at hgo
        subst hgo
        refine wa ?_
        exact ⟨.d rfl (.inl rfl), .d rfl (.inl rfl), trivial⟩
      · rw [if_neg a2] at hgo
        subst hgo
        refine wa ?_
        exact ⟨.d rfl (.inl rfl), .d rfl (.inl rfl), trivial⟩
    rw [if_neg a1] at hgo
    by_cases a3 : t.k.toNat = 46
    · rw [if_pos a3] at hgo
      by_cases a4 : 0 < o
      · rw [if_pos a4] at hgo
        subst hgo
        refine wa ?_
        exact ⟨.d rfl (.inl rfl), .d rfl (.inl rfl), trivial⟩
      · rw [if_neg a4] at hgo
        refine wa ?_
        exact ⟨(j + 1, o, n), ⟨h1, by dsimp only; omega, hn0, hn1, hgo⟩, by dsimp only; omega, ⟨rfl, rfl, rfl, rfl, rfl, trivial⟩, trivial⟩
    rw [if_neg a3] at hgo
    by_cases a5 : t.k.toNat = 41
    · rw [if_pos a5] at hgo
      by_cases a6 : o = 0
      · rw [if_pos a6] at hgo
        subst hgo
        refine wa ?_
        exact ⟨.d rfl (.inl rfl), .d rfl (.inl rfl), trivial⟩
      · rw [if_neg a6] at hgo
        refine wa ?_
        exact ⟨(j + 1, o - 1, n), ⟨h1, by dsimp only; omega, hn0, hn1, hgo⟩, by dsimp only; omega, ⟨by dsimp only; exact ivw (by omega), rfl, rfl, rfl, rfl, trivial⟩, trivial⟩
    rw [if_neg a5] at hgo
    by_cases a7 : 100000 < n + 1
    · rw [if_pos (.inl a7)] at hgo
      subst hgo
      refine wa ?_
      exact ⟨.d rfl (.inl rfl), .d rfl (.inl rfl), trivial⟩
    by_cases a8 : t.k.toNat = 40
    · by_cases a9 : o = 200
      · rw [if_pos (.inr ⟨a8, a9⟩)] at hgo
        subst hgo
        refine wa ?_
        exact ⟨.d rfl (.inl rfl), .d rfl (.inl rfl), trivial⟩
      · rw [if_neg (fun h => h.elim a7 fun h => a9 h.2), if_pos a8] at hgo
        refine wa ?_
        exact ⟨(j + 1, o + 1, n + 1), ⟨h1, by dsimp only; omega, by dsimp only; omega, by dsimp only; omega, hgo⟩, by dsimp only; omega, ⟨rfl, rfl, rfl, rfl, rfl, trivial⟩, trivial⟩
    · rw [if_neg (fun h => h.elim a7 fun h => a8 h.1), if_neg a8] at hgo
      refine wa ?_
      exact ⟨(j + 1, o, n + 1), ⟨h1, by dsimp only; omega, by dsimp only; omega, by dsimp only; omega, hgo⟩, by dsimp only; omega, ⟨rfl, rfl, rfl, rfl, rfl, trivial⟩, trivial⟩
  · rw [List.drop_eq_nil_of_le (by omega), faX] at hgo
    subst hgo
    refine wa ?_
    exact ⟨.d rfl (.inl rfl), .d rfl (.inl rfl), trivial⟩
set_option maxRecDepth 100000 in
set_option maxHeartbeats 16000000 in
theorem told12 : ∀ (m : Nat) (l : List ST), szL l < m → nfXs l → l.length ≤ 1000000 → ∀ (n : Int), (cXs l : Int) ≤ n → n ≤ 1000000 → Fn Tryz.prog 83 [.d (.l (l.map enX)), .d (.v (.int .i64 n))] [.d (.l (l.map enX)), .d (.v (.int .i64 (n - cXs l)))] := by
  intro m
  induction m with
  | zero => intro s h; omega
  | succ m ih =>
  intro l hm hnf hlen n h0 h1
  have hml : (l.map enX).length = l.length := List.length_map ..
  have hcx := cXs_len l
  refine Fn.of Tryz.func83 rfl (by kernel_rfl) Tryz.ntmps83 Tryz.results83 rfl fun w0 S0 => ?_
  refine wa ?_
  refine AC.loop (X := Nat) (fun j => ⟨[(1, .d (.v (.int .i64 (n - cXs (l.take j))))), (6, .r 10 j), (11, .d (.l (l.map enX))), (12, .d (.v (.int .i64 (l.length : Int)))), (13, .d (.v (.int .i64 (j : Int))))], [(10, .row j 158 3 ((l.take j).map enX))]⟩) (fun j => j ≤ l.length) (fun j => l.length - j) 0 (Nat.zero_le _) ⟨by dsimp only; rw [List.take_zero, cXs_nil]; exact ivw (by simp), rfl, rfl, rfl, rfl, trivial⟩ ⟨rfl, trivial⟩ ?_
  intro j hj
  dsimp only at hj ⊢
  by_cases g1 : j < l.length
  · have hg : l[j]? = some l[j] := List.getElem?_eq_getElem g1
    have hmem := List.getElem_mem g1
    have hts : (l.take (j + 1)).map enX = (l.take j).map enX ++ [enX l[j]] := by rw [List.take_succ_eq_append_getElem g1, List.map_append]; rfl
    have hcs := cXs_tk l j g1
    have hnx := nfXs_mem hnf _ hmem
    have hc0 := cX_pos l[j]
    generalize l[j] = s at hg hmem hts hcs hnx hc0
    have hm1 : (l.map enX)[j]? = some (enX s) := by rw [List.getElem?_map, hg]; rfl
    obtain ⟨b, w, t⟩ := s
    rw [nfX_mk] at hnx
    rw [cX_mk] at hcs hc0
    have hsz := szL_lt hmem
    cases b with
    | true =>
      obtain rfl := hnx.1 rfl
      rw [cXs_nil] at hcs
      rw [enX_mk] at hts hm1
      refine wa ?_
      exact ⟨j + 1, g1, by omega, ⟨by dsimp only; exact ivw (by omega), rfl, rfl, rfl, rfl, trivial⟩, ⟨by dsimp only; rw [hts]; rfl, trivial⟩⟩
    | false =>
      obtain rfl := hnx.2.1 rfl
      have hc2 := cXs_len t
      have hf := ih t (by omega) hnx.2.2 (by omega) (n - cXs (l.take j) - 1) (by omega) (by omega)
      rw [show t.map enX = subX (.mk false [] t) by rw [subX, subXs_map]] at hf
      refine wa ?_
      exact ⟨j + 1, g1, by omega, ⟨by dsimp only; exact ivw (by omega), rfl, rfl, rfl, rfl, trivial⟩, ⟨by dsimp only; rw [hts]; rfl, trivial⟩⟩
  · obtain rfl : j = l.length := by omega
    rw [List.take_length]
    refine wa ?_
    exact ⟨.d rfl ⟨_, _, rfl⟩, .d rfl (.inl rfl), trivial⟩
theorem told12L (l : List ST) (hn : nfXs l) (hc : cXs l ≤ 100000) : Fn Tryz.prog 39 [.d (.l (l.map enX))] [.d (.l (l.map enX))] := by
  have h := told12 _ l (Nat.lt_succ_self _) hn (by have := cXs_len l; omega) 100002 (by omega) (by decide)
  refine Fn.of Tryz.func39 rfl (by kernel_rfl) Tryz.ntmps39 Tryz.results39 rfl fun w0 S0 => ?_
  refine wa ?_
  exact ⟨.d rfl (.inl rfl), trivial⟩
end Go.Proofs.YtbbpecfapohlaaaGreatDoor
