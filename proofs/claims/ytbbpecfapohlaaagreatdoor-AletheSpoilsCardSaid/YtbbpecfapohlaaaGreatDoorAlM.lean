import Derived.Test.YtbbpecfapohlaaaGreatDoorAlN
namespace Go.Proofs.YtbbpecfapohlaaaGreatDoor
open Go.RowKit
attribute [local irreducible] AC Do St
theorem wlXs_nil : wlXs [] := by rw [wlXs]; trivial
theorem parseX_wl : ∀ (f d : Nat) (s : List UInt8) (n : Int) {out : List ST} {rest : List UInt8} {m : Int}, s.length ≤ 20000 → parseX f d s n = .ok out rest m → wlXs out ∧ rest.length ≤ s.length
  | 0, d, s, n, out, rest, m, _, h => by rw [parseX] at h; cases h
  | f + 1, d, s, n, out, rest, m, hl, h => by
    have hsk := skX_len false s
    rw [parseX] at h
    split at h
    · split at h
      · cases h
      · cases h; exact ⟨wlXs_nil, Nat.zero_le _⟩
    · rename_i c r hs
      rw [hs, List.length_cons] at hsk
      split at h
      · split at h
        · cases h
        · cases h; exact ⟨wlXs_nil, by omega⟩
      · split at h
        · cases h
        · split at h
          · cases hX : parseX f (d + 1) r (n + 1) with
            | bad e left => rw [hX] at h; cases h
            | ok sub r2 n2 =>
              rw [hX] at h
              have h : PX.cons (.mk false [] sub) (parseX f d r2 n2) = .ok out rest m := h
              have h1 := parseX_wl f _ _ _ (by omega) hX
              cases hY : parseX f d r2 n2 with
              | bad e left => rw [hY] at h; cases h
              | ok o2 r3 n3 =>
                rw [hY] at h
                cases h
                have h2 := parseX_wl f _ _ _ (by omega) hY
                rw [wlXs, wlX_mk]
                exact ⟨⟨⟨Nat.zero_le _, h1.1⟩, h2.1⟩, by omega⟩
          · split at h
            · have hd := (List.dropWhile_sublist (l := c :: r) plainB).length_le
              have ht := (List.takeWhile_sublist (l := c :: r) plainB).length_le
              rw [List.length_cons] at hd ht
              cases hY : parseX f d ((c :: r).dropWhile plainB) (n + 1) with
              | bad e left => rw [hY] at h; cases h
              | ok o2 r3 n3 =>
                rw [hY] at h
                cases h
                have h2 := parseX_wl f _ _ _ (by omega) hY
                rw [wlXs, wlX_mk]
                exact ⟨⟨⟨by omega, wlXs_nil⟩, h2.1⟩, by omega⟩
            · cases h
theorem readsA_eq (b : Int) : ∀ (l : List ST) (k : Nat), readsA b l k = if ((l.zipIdx k).all fun x => (readA b x.1 x.2).2) = true then some ((l.zipIdx k).map fun x => (readA b x.1 x.2).1) else none
  | [], _ => rfl
  | s :: r, k => by
    rw [readsA, readsA_eq b r (k + 1), List.zipIdx_cons, List.all_cons, List.map_cons]
    cases (readA b s k).2 with
    | false => rfl
    | true =>
      rw [if_pos rfl, Bool.true_and]
      cases (r.zipIdx (k + 1)).all fun x => (readA b x.1 x.2).2 <;> rfl
section
variable {Kw : World → Prop} [KSt Kw] [KHas Kw Tab] [KHas Kw ErrV] [KHas Kw MaxL]
set_option maxRecDepth 100000 in
set_option maxHeartbeats 16000000 in
theorem parseAF (b : Int) (src : List UInt8) (hwl : ∀ out rest m, src.length ≤ 1000000 → parseX (src.length + 1) 0 src 0 = .ok out rest m → wlXs out) : FnK Tryz.prog 33 Kw [.d (.v (.int .i64 b)), .d (.v (.string (tx src)))] [.d (.l ((paA b src).1.map enS)), .d (.v (.int .i64 (paA b src).2))] := by
  have hF := sexpParse src
  have hcw := parseX_cw (src.length + 1) 0 src 0
  have hsu := parseX_suf (src.length + 1) 0 src 0
  obtain ⟨R, hR⟩ : ∃ R, paA b src = R := ⟨_, rfl⟩
  rw [hR]
  unfold paA at hR
  unfold parX at hF
  by_cases hl : 1000000 < src.length
  · rw [if_pos hl] at hR hF
    subst hR
    refine FnK.of Tryz.func33 rfl (by kernel_rfl) Tryz.ntmps33 Tryz.results33 rfl fun w0 S0 hK0 => ?_
    refine wa ?_
    exact ⟨.d rfl (.inr rfl), .d rfl (.inl rfl), trivial⟩
  rw [if_neg hl] at hR hF
  have hwl := fun out rest m => hwl out rest m (by omega)
  cases hX : parseX (src.length + 1) 0 src 0 with
  | bad e left =>
    rw [hX] at hR hF hsu
    dsimp only at hR hF hsu
    have he := hsu.1
    subst hR
    refine FnK.of Tryz.func33 rfl (by kernel_rfl) Tryz.ntmps33 Tryz.results33 rfl fun w0 S0 hK0 => ?_
    refine wa ?_
    exact ⟨.d rfl (.inr rfl), .d rfl (.inl rfl), trivial⟩
  | ok out rest m =>
  have hwl := hwl _ _ _ hX
  rw [hX] at hR hF hcw
  dsimp only at hR hF
  rw [cwR] at hcw
  have hml : (out.map enX).length = out.length := List.length_map ..
  by_cases h1 : 1000 < b
  · rw [if_pos (.inl h1)] at hR
    subst hR
    refine FnK.of Tryz.func33 rfl (by kernel_rfl) Tryz.ntmps33 Tryz.results33 rfl fun w0 S0 hK0 => ?_
    refine wa ?_
    exact ⟨.d rfl (.inr rfl), .d rfl (.inl rfl), trivial⟩
  by_cases h2 : 300000 < out.length
  · rw [if_pos (.inr h2)] at hR
    subst hR
    refine FnK.of Tryz.func33 rfl (by kernel_rfl) Tryz.ntmps33 Tryz.results33 rfl fun w0 S0 hK0 => ?_
    refine wa ?_
    exact ⟨.d rfl (.inr rfl), .d rfl (.inl rfl), trivial⟩
  rw [if_neg (by omega)] at hR
  by_cases h3 : b < 0
  · rw [if_pos h3] at hR
    subst hR
    refine FnK.of Tryz.func33 rfl (by kernel_rfl) Tryz.ntmps33 Tryz.results33 rfl fun w0 S0 hK0 => ?_
    refine wa ?_
    exact ⟨.d rfl (.inr rfl), .d rfl (.inl rfl), trivial⟩
  rw [if_neg h3, readsA_eq] at hR
  have hwx : wXs out ≤ 100000000 := by have := hcw.1; omega
  have hrd : ∀ i (h : i < out.length), FnK Tryz.prog 79 Kw [.d (.v (.int .i64 b)), .g (enX out[i]), .d (.v (.int .i64 (i : Int)))] [.g (enS (readA b out[i] i).1), .d (.v (.bool (readA b out[i] i).2))] := fun i h => readF b _ i ⟨by omega, by omega⟩ (by omega) (by have := (wXs_mem (List.getElem_mem h)).1; omega) (wlXs_mem hwl _ (List.getElem_mem h))
  have hno : ∀ i (h : i < out.length), (readA b out[i] i).2 = false → R = ([], 6) := fun i h hf => by
    rw [if_neg] at hR
    · exact hR.symm
    · intro ha
      have := List.all_eq_true.1 ha (out[i], i) (List.mem_zipIdx_iff_getElem?.2 (List.getElem?_eq_getElem h))
      rw [hf] at this
      cases this
  have hyes : (∀ i (h : i < out.length), (readA b out[i] i).2 = true) → R = (out.zipIdx.map fun x => (readA b x.1 x.2).1, 0) := fun ha => by
    rw [if_pos] at hR
    · exact hR.symm
    · rw [List.all_eq_true]
      rintro ⟨s, i⟩ hx
      obtain ⟨hi, e⟩ := List.getElem?_eq_some_iff.1 (List.mem_zipIdx_iff_getElem?.1 hx)
      have := ha i hi
      dsimp only at e ⊢
      rw [← e]
      exact this
  clear hR hcw hsu hwl hwx
  refine FnK.of Tryz.func33 rfl (by kernel_rfl) Tryz.ntmps33 Tryz.results33 rfl fun w0 S0 hK0 => ?_
  refine wa ?_
  refine AC.rowVar 9 53 57 5 rfl rfl ?_
  refine AC.loop (X := Nat) (fun i => ⟨[(0, .d (.v (.int .i64 b))), (9, .r 53 i), (32, .d (.l (out.map enX))), (33, .d (.v (.int .i64 (out.length : Int)))), (34, .d (.v (.int .i64 (i : Int))))], [(53, .row i 57 5 ((out.zipIdx.take i).map fun x => enS (readA b x.1 x.2).1))]⟩) (fun i => i ≤ out.length ∧ ∀ j (h : j < out.length), j < i → (readA b out[j] j).2 = true) (fun i => out.length - i) 0 ⟨Nat.zero_le _, fun j h hj => absurd hj (Nat.not_lt_zero _)⟩ ⟨rfl, rfl, rfl, rfl, rfl, trivial⟩ ⟨rfl, trivial⟩ ?_
  intro i ⟨hi, ha⟩
  dsimp only at hi ha ⊢
  have hrl : ((out.zipIdx.take i).map fun x => enS (readA b x.1 x.2).1).length ≤ 300000 := by rw [List.length_map, List.length_take]; omega
  by_cases h4 : i < out.length
  · have hx := List.getElem?_eq_getElem h4
    have hr := hrd i h4
    have hn := hno i h4
    have hz : i < out.zipIdx.length := by rw [List.length_zipIdx]; exact h4
    have hst : ((out.zipIdx.take (i + 1)).map fun x => enS (readA b x.1 x.2).1) = ((out.zipIdx.take i).map fun x => enS (readA b x.1 x.2).1) ++ [enS (readA b out[i] i).1] := by
      rw [List.take_succ_eq_append_getElem hz, List.map_append, List.getElem_zipIdx, List.map_cons, List.map_nil]
      simp only [Nat.zero_add]
    have hsn : (readA b out[i] i).2 = true → ∀ j (h : j < out.length), j < i + 1 → (readA b out[j] j).2 = true := fun h j hj hji => by
      by_cases e : j = i
      · subst e; exact h
      · exact ha j hj (by omega)
    generalize readA b out[i] i = v at hr hn hst hsn
    generalize out[i] = s at hx hr
    generalize ((out.zipIdx.take i).map fun x => enS (readA b x.1 x.2).1) = T at hst hrl ⊢
    obtain ⟨st, ok⟩ := v
    dsimp only at hr hn hst hsn
    cases ok with
    | false =>
      obtain rfl := hn rfl
      refine wa ?_
      exact ⟨.d rfl (.inr rfl), .d rfl (.inl rfl), trivial⟩
    | true =>
      refine wa ?_
      exact ⟨i + 1, ⟨h4, hsn rfl⟩, by omega, ⟨rfl, rfl, rfl, rfl, rfl, trivial⟩, ⟨by dsimp only; rw [hst]; rfl, trivial⟩⟩
  · obtain rfl : i = out.length := by omega
    obtain rfl := hyes fun j hj => ha j hj hj
    have hmm : ((out.zipIdx.take out.length).map fun x => enS (readA b x.1 x.2).1) = (out.zipIdx.map fun x => (readA b x.1 x.2).1).map enS := by
      rw [List.take_of_length_le (by rw [List.length_zipIdx]; exact Nat.le_refl _), List.map_map]; rfl
    rw [hmm]
    generalize (out.zipIdx.map fun x => (readA b x.1 x.2).1) = T at *
    refine AC.frzVar 9 rfl rfl ?_
    refine wa ?_
    exact ⟨.d rfl (.inl rfl), .d rfl (.inl rfl), trivial⟩
end
end Go.Proofs.YtbbpecfapohlaaaGreatDoor
