/-
 The law attestlaw15.NetParses.
-/
import Derived.Test.YthdkkpocihkgbaaGreatDoorNuE
namespace Go.Proofs.YthdkkpocihkgbaaGreatDoor
open Go.RowKit
attribute [local irreducible] AC Do St
theorem txD (s : ByteArray) : s = tx s.data.toList := by
 obtain ⟨a⟩ := s
 unfold tx
 rw [Array.toArray_toList]
theorem linesW_len (l : List UInt8) : ∀ x ∈ linesN l, ∀ y ∈ wordsN x, y.length ≤ l.length := fun x hx _ hy => Nat.le_trans (words_ok hy).2 ((lines_ok l).2 x hx)
theorem okR.sm {k n : Nat} {l : LN} (h : okR k n l) (hn : n ≤ 1000000) : smLN (4 * k + 4) l ∧ smG l := by
 obtain ⟨a, b, c, d, e, f⟩ := h
 exact ⟨⟨a, by omega, b, by omega⟩, by omega, c⟩
theorem sameL.rfl' (l : LN) : sameL l l := ⟨rfl, fun _ => ⟨rfl, rfl⟩, fun _ => rfl⟩
theorem same_refl {ls : List LN} : ∀ (i : Nat) (x y : LN), ls[i]? = some x → ls[i]? = some y → sameL x y := fun i x _ h1 h2 => by
 rw [h1] at h2
 cases h2
 exact sameL.rfl' x
set_option maxRecDepth 100000 in
set_option maxHeartbeats 8000000 in
theorem netParsesF {Kw : World → Prop} [KSt Kw] [KHas Kw MaxL] (l : List UInt8) : FnK Tryz.prog 6 Kw [.d (.v (.string (tx l)))] [.d (.v (.bool true))] := by
 have haw := awakeF (Kw := Kw)
 by_cases hb : 5000 < l.length
 ·refine FnK.of Tryz.func6 rfl (by kernel_rfl) Tryz.ntmps6 Tryz.results6 rfl fun w0 S0 hK0 => ?_
  refine wk ?_
  ((try (first | intro K ms hms hK | intro K hK)); (first | apply Chain.go | apply Chain.goD); exact rfl; exact rfl; exact Loc.strLen rfl rfl (by kernel_rfl))
  rw [tx_size]
  refine wk ?_
  refine c1 haw ?_
  refine wk ?_
  exact ⟨.d rfl (.inl rfl), trivial⟩
 have hp := parseNF (Kw := Kw) l (by omega) (fun x hx y hy => by have := linesW_len l x hx y hy; omega)
 have hd := parse15F l (by omega)
 have hln := (lines_ok l).1
 have hok : ∀ s, parseGo 0 ⟨0, [], none⟩ true (linesN l) = .inl s → okS 5000 (0 + (linesN l).length) s := fun s h => parseGo_ok (by decide) (linesN l) 0 _ s true (fun y hy => by have := (lines_ok l).2 y hy; omega) ⟨by simp, Nat.zero_le _, fun l h => by simp [NS.all] at h⟩ h
 have hps : ∀ k, parseGo 0 ⟨0, [], none⟩ true (linesN l) = .inr k → 0 < k ∧ k ≤ 0 + (linesN l).length := fun k h => parseGo_pos (linesN l) 0 k _ true h
 have ht0 := told15F 0 [] 4 (by decide) (fun l h => nomatch h) (by decide)
 have hs0 := same15F (k := 4) (m := 4) 0 [] [] (by decide) rfl (by decide) (fun l h => nomatch h) (fun l h => nomatch h) (fun i x y h => by cases h)
 unfold parseT at hp
 rw [if_neg (by omega)] at hp
 cases hg : parseGo 0 ⟨0, [], none⟩ true (linesN l) with
 | inr k =>
  obtain ⟨k0, k1⟩ := hps k hg
  rw [hg] at hp hd
  unfold parseRes at hp
  unfold docR at hd
  dsimp only at hp hd
  refine FnK.of Tryz.func6 rfl (by kernel_rfl) Tryz.ntmps6 Tryz.results6 rfl fun w0 S0 hK0 => ?_
  refine wk ?_
  ((try (first | intro K ms hms hK | intro K hK)); (first | apply Chain.go | apply Chain.goD); exact rfl; exact rfl; exact Loc.strLen rfl rfl (by kernel_rfl))
  rw [tx_size]
  refine wk ?_
  refine c1 hp ?_
  refine wk ?_
  refine c1 hd ?_
  refine wk ?_
  refine c1 haw ?_
  refine wk ?_
  refine c1 ht0 ?_
  refine wk ?_
  refine c1 hs0 ?_
  refine wk ?_
  exact ⟨.d rfl (.inl rfl), trivial⟩
 | inl s =>
  obtain ⟨⟨i0, i1⟩, w2, w3⟩ := hok s hg
  rw [hg] at hp hd
  unfold docR at hd
  dsimp only at hp hd
  generalize s.inn = n at hp hd i0 i1
  generalize s.all = ms at hp hd w2 w3
  have hsm : ∀ l ∈ ms, smLN 20004 l ∧ smG l := fun l hl => (w3 l hl).sm (by omega)
  have hw := widths15F n ms (by omega) (by omega) (fun l hl => by
   obtain ⟨⟨a, b, c, d⟩, e, f⟩ := hsm l hl
   exact ⟨d, b, e, fun r hr => (a r hr).1, f⟩)
  cases hgr : greatB n ms with
  | true =>
   rw [hgr, if_pos rfl] at hp
   rw [widsR_2 hgr] at hw
   unfold parseRes at hp
   dsimp only at hp
   refine FnK.of Tryz.func6 rfl (by kernel_rfl) Tryz.ntmps6 Tryz.results6 rfl fun w0 S0 hK0 => ?_
   refine wk ?_
   ((try (first | intro K ms hms hK | intro K hK)); (first | apply Chain.go | apply Chain.goD); exact rfl; exact rfl; exact Loc.strLen rfl rfl (by kernel_rfl))
   rw [tx_size]
   refine wk ?_
   refine c1 hp ?_
   refine wk ?_
   refine c1 hd ?_
   refine wk ?_
   refine c1 hw ?_
   refine wk ?_
   refine c1 haw ?_
   refine wk ?_
   refine c1 ht0 ?_
   refine wk ?_
   refine c1 hs0 ?_
   refine wk ?_
   exact ⟨.d rfl (.inl rfl), trivial⟩
  | false =>
  rw [hgr, if_neg (by decide)] at hp
  by_cases hf : ms.foldl stW n ≤ 0
  ·rw [if_pos hf] at hp
   rw [widsR_4 hgr hf] at hw
   unfold parseRes at hp
   dsimp only at hp
   refine FnK.of Tryz.func6 rfl (by kernel_rfl) Tryz.ntmps6 Tryz.results6 rfl fun w0 S0 hK0 => ?_
   refine wk ?_
   ((try (first | intro K ms hms hK | intro K hK)); (first | apply Chain.go | apply Chain.goD); exact rfl; exact rfl; exact Loc.strLen rfl rfl (by kernel_rfl))
   rw [tx_size]
   refine wk ?_
   refine c1 hp ?_
   refine wk ?_
   refine c1 hd ?_
   refine wk ?_
   refine c1 hw ?_
   refine wk ?_
   refine c1 haw ?_
   refine wk ?_
   refine c1 ht0 ?_
   refine wk ?_
   refine c1 hs0 ?_
   refine wk ?_
   exact ⟨.d rfl (.inl rfl), trivial⟩
  ·rw [if_neg hf] at hp
   rw [widsR_0 hgr (by omega)] at hw
   unfold parseRes at hp
   dsimp only at hp
   have ht := told15F n ms 20004 (by decide) (fun l hl => (hsm l hl).1) (by omega)
   have hs := same15F (k := 20004) (m := 20004) n ms ms (by decide) rfl (by omega) hsm (fun l hl => (hsm l hl).1) same_refl
   refine FnK.of Tryz.func6 rfl (by kernel_rfl) Tryz.ntmps6 Tryz.results6 rfl fun w0 S0 hK0 => ?_
   refine wk ?_
   ((try (first | intro K ms hms hK | intro K hK)); (first | apply Chain.go | apply Chain.goD); exact rfl; exact rfl; exact Loc.strLen rfl rfl (by kernel_rfl))
   rw [tx_size]
   refine wk ?_
   refine c1 hp ?_
   refine wk ?_
   refine c1 hd ?_
   refine wk ?_
   refine c1 hw ?_
   refine wk ?_
   refine c1 haw ?_
   refine wk ?_
   refine c1 ht ?_
   refine wk ?_
   refine c1 hs ?_
   refine wk ?_
   exact ⟨.d rfl (.inl rfl), trivial⟩
theorem netParsesB {Kw : World → Prop} [KSt Kw] [KHas Kw MaxL] (s : ByteArray) : FnK Tryz.prog 6 Kw [.d (.v (.string s))] [.d (.v (.bool true))] := by
 rw [txD s]
 exact netParsesF s.data.toList
end Go.Proofs.YthdkkpocihkgbaaGreatDoor
