import Derived.Test.YtbbpecfapohlaaaGreatDoorAlA
import Derived.Test.YtbbpecfapohlaaaGreatDoorNtB
import Derived.Test.YtbbpecfapohlaaaGreatDoorTr
namespace Go.Proofs.YtbbpecfapohlaaaGreatDoor
open Go.RowKit
attribute [local irreducible] AC Do St
theorem unA_ne {w : List UInt8} {l : List ST} (h : l.length ≠ 2) : unA (.mk false w l) = (1, .mk false w l) := by
  match l, h with
  | [], _ => rfl
  | [_], _ => rfl
  | [_, _], h => exact absurd rfl h
  | _ :: _ :: _ :: _, _ => rfl
section
variable {Kw : World → Prop} [KSt Kw] [KHas Kw Tab] [KHas Kw ErrV]
set_option maxRecDepth 100000 in
set_option maxHeartbeats 8000000 in
theorem literalF (b : Int) (s : ST) (hb : 0 ≤ b ∧ b ≤ 1000) (hw : wX s ≤ 100000000) : FnK Tryz.prog 143 Kw [.d (.v (.int .i64 b)), .g (enX s)] [.d (.v (.int .i64 (litA b s)))] := by
  obtain ⟨R, hR⟩ : ∃ R, litA b s = R := ⟨_, rfl⟩
  rw [hR]
  unfold litA at hR
  have hn : ∀ (t : ST) (k : UInt8), wX t ≤ 100000000 → FnK Tryz.prog 142 Kw [.g (enX t), .d (.v (.int .u8 (k.toNat : Int)))] [.d (.v (.int .i64 (nbA t k)))] := fun t k h => numberedF t k (by have := wX_word t; omega)
  obtain ⟨bb, w, l⟩ := s
  have hml : (l.map enX).length = l.length := List.length_map ..
  have hw0 := hw
  rw [wX_mk] at hw0
  cases bb with
  | true =>
    rw [show unA (ST.mk true w l) = (1, .mk true w l) from rfl] at hR
    rw [enX_mk]
    have r1 := nbA_rng (.mk true w l) 112
    have r2 := nbA_rng (.mk true w l) 97
    have h1 := hn (.mk true w l) 112 hw
    have h2 := hn (.mk true w l) 97 hw
    rw [enX_mk] at h1 h2
    unfold lit1 at hR
    dsimp only at hR
    generalize nbA (.mk true w l) 112 = n1 at hR r1 h1
    generalize nbA (.mk true w l) 97 = n2 at hR r2 h2
    have H1 := Lib.hid h1
    have H2 := Lib.hid h2
    clear h1 h2 hn
    refine FnK.of Tryz.func143 rfl (by kernel_rfl) Tryz.ntmps143 Tryz.results143 rfl fun w0 S0 hK0 => ?_
    by_cases c1' : 0 ≤ n1 ∧ n1 < b
    · rw [if_pos c1'] at hR
      subst hR
      refine wa ?_
      refine c1 H1.out ?_
      refine wa ?_
      exact ⟨.d rfl (.inl rfl), trivial⟩
    · rw [if_neg c1'] at hR
      have c1'' : n1 < 0 ∨ b ≤ n1 := by omega
      by_cases c2' : 0 ≤ n2 ∧ n2 < 4611686018427387904
      · rw [if_pos c2'] at hR
        subst hR
        rcases c1'' with c1'' | c1''
        · refine wa ?_
          refine c1 H1.out ?_
          refine wa ?_
          exact ⟨.d rfl (.inl rfl), trivial⟩
        · by_cases c3 : n1 < 0
          · omega
          refine wa ?_
          refine c1 H1.out ?_
          refine wa ?_
          exact ⟨.d rfl (.inl rfl), trivial⟩
      · rw [if_neg c2'] at hR
        subst hR
        have c2'' : n2 < 0 ∨ 4611686018427387904 ≤ n2 := by omega
        rcases c1'' with c1'' | c1'' <;> rcases c2'' with c2'' | c2''
        all_goals
          refine wa ?_
          refine c1 H1.out ?_
          refine wa ?_
          exact ⟨.d rfl (.inl rfl), trivial⟩
  | false =>
    by_cases hl : l.length = 2
    rotate_left
    · rw [unA_ne hl] at hR
      rw [enX_mk]
      have r1 := nbA_rng (.mk false w l) 112
      have r2 := nbA_rng (.mk false w l) 97
      have h1 := hn (.mk false w l) 112 hw
      have h2 := hn (.mk false w l) 97 hw
      rw [enX_mk] at h1 h2
      unfold lit1 at hR
      dsimp only at hR
      generalize nbA (.mk false w l) 112 = n1 at hR r1 h1
      generalize nbA (.mk false w l) 97 = n2 at hR r2 h2
      have H1 := Lib.hid h1
      have H2 := Lib.hid h2
      clear h1 h2 hn
      refine FnK.of Tryz.func143 rfl (by kernel_rfl) Tryz.ntmps143 Tryz.results143 rfl fun w0 S0 hK0 => ?_
      by_cases c1' : 0 ≤ n1 ∧ n1 < b
      · rw [if_pos c1'] at hR
        subst hR
        refine wa ?_
        refine c1 H1.out ?_
        refine wa ?_
        exact ⟨.d rfl (.inl rfl), trivial⟩
      · rw [if_neg c1'] at hR
        have c1'' : n1 < 0 ∨ b ≤ n1 := by omega
        by_cases c2' : 0 ≤ n2 ∧ n2 < 4611686018427387904
        · rw [if_pos c2'] at hR
          subst hR
          rcases c1'' with c1'' | c1''
          · refine wa ?_
            refine c1 H1.out ?_
            refine wa ?_
            exact ⟨.d rfl (.inl rfl), trivial⟩
          · by_cases c3 : n1 < 0
            · omega
            refine wa ?_
            refine c1 H1.out ?_
            refine wa ?_
            exact ⟨.d rfl (.inl rfl), trivial⟩
        · rw [if_neg c2'] at hR
          subst hR
          have c2'' : n2 < 0 ∨ 4611686018427387904 ≤ n2 := by omega
          rcases c1'' with c1'' | c1'' <;> rcases c2'' with c2'' | c2''
          all_goals
            refine wa ?_
            refine c1 H1.out ?_
            refine wa ?_
            exact ⟨.d rfl (.inl rfl), trivial⟩
    match l, hl with
    | [x, y], _ =>
    have hg0 : [x, y][0]? = some x := rfl
    have hg1 : [x, y][1]? = some y := rfl
    rw [wXs_cons, wXs_cons, wXs_nil] at hw0
    have hu : unA (.mk false w [x, y]) = if isW x cNot = true then (-1, y) else (1, .mk false w [x, y]) := rfl
    obtain ⟨xb, xw, xl⟩ := x
    rw [show isW (.mk xb xw xl) cNot = (xb && decide (xw = cNot)) from rfl] at hu
    rw [hu] at hR
    clear hu
    rw [enX_mk]
    cases xb with
    | false =>
      rw [Bool.false_and, if_neg (by decide)] at hR
      have r1 := nbA_rng (.mk false w [.mk false xw xl, y]) 112
      have r2 := nbA_rng (.mk false w [.mk false xw xl, y]) 97
      have h1 := hn (.mk false w [.mk false xw xl, y]) 112 hw
      have h2 := hn (.mk false w [.mk false xw xl, y]) 97 hw
      rw [enX_mk] at h1 h2
      unfold lit1 at hR
      dsimp only at hR
      generalize nbA (.mk false w [.mk false xw xl, y]) 112 = n1 at hR r1 h1
      generalize nbA (.mk false w [.mk false xw xl, y]) 97 = n2 at hR r2 h2
      have H1 := Lib.hid h1
      have H2 := Lib.hid h2
      clear h1 h2 hn
      refine FnK.of Tryz.func143 rfl (by kernel_rfl) Tryz.ntmps143 Tryz.results143 rfl fun w0 S0 hK0 => ?_
      by_cases c1' : 0 ≤ n1 ∧ n1 < b
      · rw [if_pos c1'] at hR
        subst hR
        refine wa ?_
        refine c1 H1.out ?_
        refine wa ?_
        exact ⟨.d rfl (.inl rfl), trivial⟩
      · rw [if_neg c1'] at hR
        have c1'' : n1 < 0 ∨ b ≤ n1 := by omega
        by_cases c2' : 0 ≤ n2 ∧ n2 < 4611686018427387904
        · rw [if_pos c2'] at hR
          subst hR
          rcases c1'' with c1'' | c1''
          · refine wa ?_
            refine c1 H1.out ?_
            refine wa ?_
            exact ⟨.d rfl (.inl rfl), trivial⟩
          · by_cases c3 : n1 < 0
            · omega
            refine wa ?_
            refine c1 H1.out ?_
            refine wa ?_
            exact ⟨.d rfl (.inl rfl), trivial⟩
        · rw [if_neg c2'] at hR
          subst hR
          have c2'' : n2 < 0 ∨ 4611686018427387904 ≤ n2 := by omega
          rcases c1'' with c1'' | c1'' <;> rcases c2'' with c2'' | c2''
          all_goals
            refine wa ?_
            refine c1 H1.out ?_
            refine wa ?_
            exact ⟨.d rfl (.inl rfl), trivial⟩
    | true =>
      by_cases hc : xw = cNot
      rotate_left
      · rw [decide_eq_false hc, Bool.and_false, if_neg (by decide)] at hR
        have hc2 : xw ≠ [110, 111, 116] := hc
        have r1 := nbA_rng (.mk false w [.mk true xw xl, y]) 112
        have r2 := nbA_rng (.mk false w [.mk true xw xl, y]) 97
        have h1 := hn (.mk false w [.mk true xw xl, y]) 112 hw
        have h2 := hn (.mk false w [.mk true xw xl, y]) 97 hw
        rw [enX_mk] at h1 h2
        unfold lit1 at hR
        dsimp only at hR
        generalize nbA (.mk false w [.mk true xw xl, y]) 112 = n1 at hR r1 h1
        generalize nbA (.mk false w [.mk true xw xl, y]) 97 = n2 at hR r2 h2
        have H1 := Lib.hid h1
        have H2 := Lib.hid h2
        clear h1 h2 hn
        refine FnK.of Tryz.func143 rfl (by kernel_rfl) Tryz.ntmps143 Tryz.results143 rfl fun w0 S0 hK0 => ?_
        by_cases c1' : 0 ≤ n1 ∧ n1 < b
        · rw [if_pos c1'] at hR
          subst hR
          refine wa ?_
          refine c1 H1.out ?_
          refine wa ?_
          exact ⟨.d rfl (.inl rfl), trivial⟩
        · rw [if_neg c1'] at hR
          have c1'' : n1 < 0 ∨ b ≤ n1 := by omega
          by_cases c2' : 0 ≤ n2 ∧ n2 < 4611686018427387904
          · rw [if_pos c2'] at hR
            subst hR
            rcases c1'' with c1'' | c1''
            · refine wa ?_
              refine c1 H1.out ?_
              refine wa ?_
              exact ⟨.d rfl (.inl rfl), trivial⟩
            · by_cases c3 : n1 < 0
              · omega
              refine wa ?_
              refine c1 H1.out ?_
              refine wa ?_
              exact ⟨.d rfl (.inl rfl), trivial⟩
          · rw [if_neg c2'] at hR
            subst hR
            have c2'' : n2 < 0 ∨ 4611686018427387904 ≤ n2 := by omega
            rcases c1'' with c1'' | c1'' <;> rcases c2'' with c2'' | c2''
            all_goals
              refine wa ?_
              refine c1 H1.out ?_
              refine wa ?_
              exact ⟨.d rfl (.inl rfl), trivial⟩
      · rw [decide_eq_true hc, Bool.and_true, if_pos rfl] at hR
        have hc2 : xw = [110, 111, 116] := hc
        have r1 := nbA_rng (y) 112
        have r2 := nbA_rng (y) 97
        have h1 := hn (y) 112 (by omega)
        have h2 := hn (y) 97 (by omega)
        unfold lit1 at hR
        dsimp only at hR
        generalize nbA (y) 112 = n1 at hR r1 h1
        generalize nbA (y) 97 = n2 at hR r2 h2
        have H1 := Lib.hid h1
        have H2 := Lib.hid h2
        clear h1 h2 hn
        refine FnK.of Tryz.func143 rfl (by kernel_rfl) Tryz.ntmps143 Tryz.results143 rfl fun w0 S0 hK0 => ?_
        by_cases c1' : 0 ≤ n1 ∧ n1 < b
        · rw [if_pos c1'] at hR
          subst hR
          refine wa ?_
          refine c1 H1.out ?_
          refine wa ?_
          exact ⟨.d rfl (.inl rfl), trivial⟩
        · rw [if_neg c1'] at hR
          have c1'' : n1 < 0 ∨ b ≤ n1 := by omega
          by_cases c2' : 0 ≤ n2 ∧ n2 < 4611686018427387904
          · rw [if_pos c2'] at hR
            subst hR
            rcases c1'' with c1'' | c1''
            · refine wa ?_
              refine c1 H1.out ?_
              refine wa ?_
              exact ⟨.d rfl (.inl rfl), trivial⟩
            · by_cases c3 : n1 < 0
              · omega
              refine wa ?_
              refine c1 H1.out ?_
              refine wa ?_
              exact ⟨.d rfl (.inl rfl), trivial⟩
          · rw [if_neg c2'] at hR
            subst hR
            have c2'' : n2 < 0 ∨ 4611686018427387904 ≤ n2 := by omega
            rcases c1'' with c1'' | c1'' <;> rcases c2'' with c2'' | c2''
            all_goals
              refine wa ?_
              refine c1 H1.out ?_
              refine wa ?_
              exact ⟨.d rfl (.inl rfl), trivial⟩
end
end Go.Proofs.YtbbpecfapohlaaaGreatDoor
