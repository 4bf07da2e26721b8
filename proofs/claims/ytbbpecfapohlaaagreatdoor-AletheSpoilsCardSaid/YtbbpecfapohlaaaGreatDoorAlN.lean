import Derived.Test.YtbbpecfapohlaaaGreatDoorAlR
namespace Go.Proofs.YtbbpecfapohlaaaGreatDoor
open Go.RowKit
attribute [local irreducible] AC Do St
/-- A number of a row, and whether it is one. -/
def nuV (s : ST) : Rat × Bool := if s.b = true then (match parseR s.w with | some q => (q, decide (printL q = s.w)) | none => (0, false)) else (0, false)
theorem nuV_some {s : ST} {q : Rat} (h : numA s = some q) : nuV s = (q, true) := by
  unfold numA at h
  unfold nuV
  split at h
  · rename_i h1
    rw [if_pos h1]
    split at h
    · rename_i p hp
      split at h
      · rename_i h2
        cases h
        rw [hp]
        dsimp only
        rw [decide_eq_true h2]
      · cases h
    · cases h
  · cases h
theorem nuV_none {s : ST} (h : numA s = none) : (nuV s).2 = false := by
  unfold numA at h
  unfold nuV
  split at h
  · rename_i h1
    rw [if_pos h1]
    split at h
    · rename_i p hp
      split at h
      · cases h
      · rename_i h2
        rw [hp]
        dsimp only
        rw [decide_eq_false h2]
    · rename_i hp
      rw [hp]
  · rename_i h1
    rw [if_neg h1]
theorem enR0 : enR 0 = [.v (.bool false), .l [], .l []] := by
  have h1 : limbs 0 = [] := limbs_eq_nil.2 rfl
  have h2 : denL 1 = [] := if_pos rfl
  show [D.v (.bool (decide ((0 : Rat).num < 0))), enL (limbs (0 : Rat).num.natAbs), enL (denL (0 : Rat).den)] = _
  rw [show (0 : Rat).num.natAbs = 0 from rfl, show (0 : Rat).den = 1 from rfl, h1, h2]
  rfl
section
variable {Kw : World → Prop} [KSt Kw] [KHas Kw MaxL]
set_option maxRecDepth 100000 in
set_option maxHeartbeats 4000000 in
theorem numberF (s : ST) (hw : s.w.length ≤ 20000) : FnK Tryz.prog 145 Kw [.g (enX s)] [.g (enR (nuV s).1), .d (.v (.bool (nuV s).2))] := by
  obtain ⟨b, w, l⟩ := s
  have hw : w.length ≤ 20000 := hw
  have hp := parseRF (Kw := Kw) w hw
  have hbd := fun q (h : parseR w = some q) => parseR_bd hw h
  obtain ⟨R, hR⟩ : ∃ R, nuV (.mk b w l) = R := ⟨_, rfl⟩
  rw [hR]
  have hR : (if b = true then (match parseR w with | some q => (q, decide (printL q = w)) | none => (0, false)) else (0, false)) = R := hR
  rw [enX_mk]
  cases b with
  | false =>
    rw [if_neg (by decide)] at hR
    subst hR
    dsimp only
    rw [enR0]
    refine FnK.of Tryz.func145 rfl (by kernel_rfl) Tryz.ntmps145 Tryz.results145 rfl fun w0 S0 hK0 => ?_
    refine wa ?_
    exact ⟨.cn rfl rfl inferInstance rfl ⟨.inl rfl, .inr rfl, .inr rfl, trivial⟩, .d rfl (.inl rfl), trivial⟩
  | true =>
    rw [if_pos rfl] at hR
    cases hq : parseR w with
    | none =>
      rw [hq] at hR hp
      dsimp only at hR
      subst hR
      have hp : FnK Tryz.prog 220 Kw [.d (.v (.string (tx w)))] [.g (enR 0), .d (.v (.int .i64 3))] := hp
      dsimp only
      rw [enR0] at hp ⊢
      refine FnK.of Tryz.func145 rfl (by kernel_rfl) Tryz.ntmps145 Tryz.results145 rfl fun w0 S0 hK0 => ?_
      refine wa ?_
      exact ⟨.cn rfl rfl inferInstance rfl ⟨.inl rfl, .inl rfl, .inl rfl, trivial⟩, .d rfl (.inl rfl), trivial⟩
    | some q =>
      rw [hq] at hR hp
      dsimp only at hR
      subst hR
      have hp : FnK Tryz.prog 220 Kw [.d (.v (.string (tx w)))] [.g (enR q), .d (.v (.int .i64 0))] := hp
      have hpf := printF (hbd q hq) (by omega)
      dsimp only
      unfold enR at *
      by_cases h : printL q = w
      · rw [decide_eq_true h]
        refine FnK.of Tryz.func145 rfl (by kernel_rfl) Tryz.ntmps145 Tryz.results145 rfl fun w0 S0 hK0 => ?_
        refine wa ?_
        exact ⟨.cn rfl rfl inferInstance rfl ⟨.inl rfl, .inl rfl, .inl rfl, trivial⟩, .d rfl (.inl rfl), trivial⟩
      · rw [decide_eq_false h]
        refine FnK.of Tryz.func145 rfl (by kernel_rfl) Tryz.ntmps145 Tryz.results145 rfl fun w0 S0 hK0 => ?_
        refine wa ?_
        exact ⟨.cn rfl rfl inferInstance rfl ⟨.inl rfl, .inl rfl, .inl rfl, trivial⟩, .d rfl (.inl rfl), trivial⟩
end
mutual
/-- Its words are no longer than a number may be. -/
def wlX : ST → Prop
  | .mk _ w l => w.length ≤ 20000 ∧ wlXs l
def wlXs : List ST → Prop
  | [] => True
  | s :: r => wlX s ∧ wlXs r
end
theorem wlX_mk (b : Bool) (w : List UInt8) (l : List ST) : wlX (.mk b w l) = (w.length ≤ 20000 ∧ wlXs l) := by rw [wlX]
theorem wlXs_mem : ∀ {l : List ST}, wlXs l → ∀ s ∈ l, wlX s
  | [], _, s, h => nomatch h
  | x :: r, h, s, hs => by
    rw [wlXs] at h
    rcases List.mem_cons.1 hs with rfl | hs
    · exact h.1
    · exact wlXs_mem h.2 s hs
theorem wlX_w {s : ST} (h : wlX s) : s.w.length ≤ 20000 := by obtain ⟨b, w, l⟩ := s; rw [wlX_mk] at h; exact h.1
theorem litA_rng {b : Int} (hb : 0 ≤ b ∧ b ≤ 1000) (s : ST) : inR (litA b s) := by
  have key : ∀ (g : Int) (t : ST), g = 1 ∨ g = -1 → inR (lit1 b g t) := fun g t hg => by
    unfold lit1
    split
    · rcases hg with rfl | rfl <;> exact ⟨by omega, by omega⟩
    · split
      · rcases hg with rfl | rfl <;> exact ⟨by omega, by omega⟩
      · exact ⟨by omega, by omega⟩
  unfold litA
  refine key _ _ ?_
  unfold unA
  split
  · split
    · exact .inr rfl
    · exact .inl rfl
  · exact .inl rfl
theorem nums_all : ∀ {l : List ST}, (∀ x ∈ l, numA x ≠ none) → numsA l = some (l.map fun x => (nuV x).1)
  | [], _ => rfl
  | x :: r, h => by
    cases hq : numA x with
    | none => exact absurd hq (h x (by simp))
    | some q =>
      rw [numsA, hq, nums_all (l := r) fun y hy => h y (by simp [hy]), List.map_cons, nuV_some hq]
theorem nums_none : ∀ {l : List ST} {x : ST}, x ∈ l → numA x = none → numsA l = none
  | y :: r, x, hx, hn => by
    rw [numsA]
    rcases List.mem_cons.1 hx with rfl | hx
    · rw [hn]
    · rw [nums_none hx hn]
      cases numA y <;> rfl
theorem readA_t (b : Int) (w : List UInt8) (l : List ST) (i : Nat) : readA b (.mk true w l) i = (zeroS, false) := rfl
theorem readA_ne {b : Int} {w : List UInt8} {l : List ST} {i : Nat} (h : l.length ≠ 7) : readA b (.mk false w l) i = (zeroS, false) := by
  match l, h with
  | [], _ => rfl
  | [_], _ => rfl
  | [_, _], _ => rfl
  | [_, _, _], _ => rfl
  | [_, _, _, _], _ => rfl
  | [_, _, _, _, _], _ => rfl
  | [_, _, _, _, _, _], _ => rfl
  | [_, _, _, _, _, _, _], h => exact absurd rfl h
  | _ :: _ :: _ :: _ :: _ :: _ :: _ :: _ :: _, _ => rfl
def bodyA (b : Int) (x4 x5 : ST) (l2 l6 : List ST) (i : Nat) : Stp × Bool := match l2 with
  | [] => (zeroS, false)
  | y :: ys => if isW y cCl = true then
      match litsA b ys with
      | none => (zeroS, false)
      | some cl => match ruleA cl x4 x5 l6 with
        | none => (zeroS, false)
        | some st => (st, fmA st i)
    else (zeroS, false)
theorem bodyA_cons {b : Int} {x4 x5 y : ST} {ys l6 : List ST} {i : Nat} : bodyA b x4 x5 (y :: ys) l6 i = if isW y cCl = true then
      match litsA b ys with
      | none => (zeroS, false)
      | some cl => match ruleA cl x4 x5 l6 with
        | none => (zeroS, false)
        | some st => (st, fmA st i)
    else (zeroS, false) := rfl
theorem readA_seven {b : Int} {w : List UInt8} {x0 x1 x2 x3 x4 x5 x6 : ST} {i : Nat} : readA b (.mk false w [x0, x1, x2, x3, x4, x5, x6]) i = if isW x0 cStep = true ∧ nbA x1 116 = i ∧ x2.b = false ∧ isW x3 cRule = true ∧ x6.b = false then bodyA b x4 x5 x2.l x6.l i else (zeroS, false) := rfl
def ivz (l : List Int) : List (List D) := l.map fun v => [.v (.int .i64 v)]
theorem inR_s (n : Int) (h : 0 ≤ n ∧ n ≤ 3) : inR n := ⟨by omega, by omega⟩
theorem enX_ln (s : ST) : (enX s).length = 3 := by obtain ⟨b, w, l⟩ := s; rw [enX_mk]; rfl
theorem enS_zero : enS zeroS = [.v (.int .i64 0), .l [], .v (.int .i64 0), .l [], .l []] := rfl
section
variable {Kw : World → Prop} [KSt Kw] [KHas Kw Tab] [KHas Kw ErrV] [KHas Kw MaxL]
set_option maxRecDepth 100000 in
set_option maxHeartbeats 16000000 in
theorem readF (b : Int) (s : ST) (i : Nat) (hb : 0 ≤ b ∧ b ≤ 1000) (hi : i ≤ 1000000) (hw : wX s ≤ 100000000) (hwl : wlX s) : FnK Tryz.prog 79 Kw [.d (.v (.int .i64 b)), .g (enX s), .d (.v (.int .i64 (i : Int)))] [.g (enS (readA b s i).1), .d (.v (.bool (readA b s i).2))] := by
  obtain ⟨R, hR⟩ : ∃ R, readA b s i = R := ⟨_, rfl⟩
  rw [hR]
  obtain ⟨sb, w, l⟩ := s
  have hml : (l.map enX).length = l.length := List.length_map ..
  rw [wX_mk] at hw
  rw [wlX_mk] at hwl
  have hcl := cXs_len l
  have hcw := cXs_w l
  rw [enX_mk]
  cases sb with
  | true =>
    rw [readA_t] at hR
    subst hR
    dsimp only
    rw [enS_zero]
    refine FnK.of Tryz.func79 rfl (by kernel_rfl) Tryz.ntmps79 Tryz.results79 rfl fun w0 S0 hK0 => ?_
    refine wa ?_
    exact ⟨.cn rfl rfl inferInstance rfl ⟨.inl rfl, .inr rfl, .inl rfl, .inr rfl, .inr rfl, trivial⟩, .d rfl (.inl rfl), trivial⟩
  | false =>
  by_cases h7 : l.length = 7
  rotate_left
  · rw [readA_ne h7] at hR
    subst hR
    dsimp only
    rw [enS_zero]
    refine FnK.of Tryz.func79 rfl (by kernel_rfl) Tryz.ntmps79 Tryz.results79 rfl fun w0 S0 hK0 => ?_
    refine wa ?_
    exact ⟨.cn rfl rfl inferInstance rfl ⟨.inl rfl, .inr rfl, .inl rfl, .inr rfl, .inr rfl, trivial⟩, .d rfl (.inl rfl), trivial⟩
  match l, h7 with
  | [x0, x1, x2, x3, x4, x5, x6], _ =>
  have hl7 : [x0, x1, x2, x3, x4, x5, x6].length = 7 := rfl
  have hg0 : [x0, x1, x2, x3, x4, x5, x6][0]? = some x0 := rfl
  have hg1 : [x0, x1, x2, x3, x4, x5, x6][1]? = some x1 := rfl
  have hg2 : [x0, x1, x2, x3, x4, x5, x6][2]? = some x2 := rfl
  have hg3 : [x0, x1, x2, x3, x4, x5, x6][3]? = some x3 := rfl
  have hg4 : [x0, x1, x2, x3, x4, x5, x6][4]? = some x4 := rfl
  have hg5 : [x0, x1, x2, x3, x4, x5, x6][5]? = some x5 := rfl
  have hg6 : [x0, x1, x2, x3, x4, x5, x6][6]? = some x6 := rfl
  have m2 := wXs_mem (l := [x0, x1, x2, x3, x4, x5, x6]) (s := x2) (by simp)
  have m6 := wXs_mem (l := [x0, x1, x2, x3, x4, x5, x6]) (s := x6) (by simp)
  have v1 := wlX_w (wlXs_mem hwl.2 x1 (by simp))
  have v2 := wlXs_mem hwl.2 x2 (by simp)
  have v6 := wlXs_mem hwl.2 x6 (by simp)
  have w0 := wordF x0 cStep
  have n1 := numberedF (Kw := Kw) x1 116 (by omega)
  have w3 := wordF x3 cRule
  have a4 := wordF x4 cAss
  have l4 := wordF x4 cLa
  have r4 := wordF x4 cRes
  have a5 := wordF x5 cArgs
  have p5 := wordF x5 cPrem
  have hx4 : ∀ {u v : List UInt8}, u ≠ v → isW x4 u = true → isW x4 v = false := fun {u v} hne h => by
    unfold isW at h ⊢
    rw [Bool.and_eq_true, decide_eq_true_eq] at h
    rw [h.1, h.2, decide_eq_false hne]
    rfl
  obtain ⟨b2, w2, l2⟩ := x2
  obtain ⟨b6, w6, l6⟩ := x6
  rw [wX_mk] at m2 m6
  rw [wlX_mk] at v2 v6
  generalize hL : [x0, x1, ST.mk b2 w2 l2, x3, x4, x5, ST.mk b6 w6 l6] = L at hg0 hg1 hg2 hg3 hg4 hg5 hg6 hl7 hml ⊢
  have hR0 : (if isW x0 cStep = true ∧ nbA x1 116 = i ∧ b2 = false ∧ isW x3 cRule = true ∧ b6 = false then bodyA b x4 x5 l2 l6 i else (zeroS, false)) = R := by rw [readA_seven] at hR; exact hR
  clear hR hL
  have hz : ¬ (isW x0 cStep = true ∧ nbA x1 116 = i ∧ b2 = false ∧ isW x3 cRule = true ∧ b6 = false) → R = (zeroS, false) := fun h => by rw [if_neg h] at hR0; exact hR0.symm
  generalize hn1 : nbA x1 116 = k1 at n1 hz hR0
  have hkr := nbA_rng x1 116
  rw [hn1] at hkr
  have W0 := Lib.hid w0
  have W3 := Lib.hid w3
  have A4 := Lib.hid a4
  have L4 := Lib.hid l4
  have R4 := Lib.hid r4
  have A5 := Lib.hid a5
  have P5 := Lib.hid p5
  clear w0 w3 a4 l4 r4 a5 p5
  cases c0 : isW x0 cStep with
  | false =>
    rw [c0] at W0
    obtain rfl := hz (by rw [c0]; simp)
    dsimp only
    rw [enS_zero]
    have zz := Lib.hid (wordF x5 [])
    refine FnK.of Tryz.func79 rfl (by kernel_rfl) Tryz.ntmps79 Tryz.results79 rfl fun w0 S0 hK0 => ?_
    refine wa ?_
    refine c1 W0.out ?_
    refine wa ?_
    exact ⟨.cn rfl rfl inferInstance rfl ⟨.inl rfl, .inr rfl, .inl rfl, .inr rfl, .inr rfl, trivial⟩, .d rfl (.inl rfl), trivial⟩
  | true =>
  rw [c0] at W0
  by_cases c1' : k1 = i
  rotate_left
  · obtain rfl := hz (by exact fun h => c1' h.2.1)
    dsimp only
    rw [enS_zero]
    have zz := Lib.hid (wordF x5 [])
    refine FnK.of Tryz.func79 rfl (by kernel_rfl) Tryz.ntmps79 Tryz.results79 rfl fun w0 S0 hK0 => ?_
    refine wa ?_
    refine c1 W0.out ?_
    refine wa ?_
    exact ⟨.cn rfl rfl inferInstance rfl ⟨.inl rfl, .inr rfl, .inl rfl, .inr rfl, .inr rfl, trivial⟩, .d rfl (.inl rfl), trivial⟩
  cases b2 with
  | true =>
    obtain rfl := hz (by simp)
    dsimp only
    rw [enS_zero]
    have zz := Lib.hid (wordF x5 [])
    refine FnK.of Tryz.func79 rfl (by kernel_rfl) Tryz.ntmps79 Tryz.results79 rfl fun w0 S0 hK0 => ?_
    refine wa ?_
    refine c1 W0.out ?_
    refine wa ?_
    exact ⟨.cn rfl rfl inferInstance rfl ⟨.inl rfl, .inr rfl, .inl rfl, .inr rfl, .inr rfl, trivial⟩, .d rfl (.inl rfl), trivial⟩
  | false =>
  by_cases hl0 : l2.length = 0
  · have hz : R = (zeroS, false) := by
      have hb : bodyA b x4 x5 l2 l6 i = (zeroS, false) := by
        cases l2 with
        | nil => rfl
        | cons => exact absurd hl0 (by simp)
      rw [hb, ite_self] at hR0
      exact hR0.symm
    subst hz
    have hlm : (subX (.mk false w2 l2)).length = 0 := by rw [subX, subXs_map, List.length_map]; exact hl0
    dsimp only
    rw [enS_zero]
    have zz := Lib.hid (wordF x5 [])
    refine FnK.of Tryz.func79 rfl (by kernel_rfl) Tryz.ntmps79 Tryz.results79 rfl fun w0 S0 hK0 => ?_
    refine wa ?_
    refine c1 W0.out ?_
    refine wa ?_
    exact ⟨.cn rfl rfl inferInstance rfl ⟨.inl rfl, .inr rfl, .inl rfl, .inr rfl, .inr rfl, trivial⟩, .d rfl (.inl rfl), trivial⟩
  cases l2 with
  | nil => exact absurd rfl hl0
  | cons y ys =>
  have hy0 : (y :: ys)[0]? = some y := rfl
  have hsx : subX (.mk false w2 (y :: ys)) = (y :: ys).map enX := by rw [subX, subXs_map]
  have hsl : (subX (.mk false w2 (y :: ys))).length ≠ 0 := by rw [hsx, List.length_map]; exact hl0
  have W2 := Lib.hid (wordF y cCl)
  have m2 := m2.1
  rw [wXs_cons] at m2
  have hcys := cXs_len ys
  have hcyw := cXs_w ys
  have hlit : ∀ x ∈ ys, FnK Tryz.prog 143 Kw [.d (.v (.int .i64 b)), .g (enX x)] [.d (.v (.int .i64 (litA b x)))] := fun x hx => literalF b x hb (by have := (wXs_mem hx).1; omega)
  have hyml : (ys.map enX).length = ys.length := List.length_map ..
  cases c4 : isW y cCl with
  | false =>
    rw [c4] at W2
    have hz : R = (zeroS, false) := by
      have hb : bodyA b x4 x5 (y :: ys) l6 i = (zeroS, false) := by rw [bodyA_cons, if_neg (by rw [c4]; decide)]
      rw [hb, ite_self] at hR0
      exact hR0.symm
    subst hz
    dsimp only
    rw [enS_zero]
    have zz := Lib.hid (wordF x5 [])
    refine FnK.of Tryz.func79 rfl (by kernel_rfl) Tryz.ntmps79 Tryz.results79 rfl fun w0 S0 hK0 => ?_
    refine wa ?_
    refine c1 W0.out ?_
    refine wa ?_
    rw [hsx]
    refine wa ?_
    refine c1 W2.out ?_
    refine wa ?_
    exact ⟨.cn rfl rfl inferInstance rfl ⟨.inl rfl, .inr rfl, .inl rfl, .inr rfl, .inr rfl, trivial⟩, .d rfl (.inl rfl), trivial⟩
  | true =>
  rw [c4] at W2
  cases c3 : isW x3 cRule with
  | false =>
    rw [c3] at W3
    obtain rfl := hz (by rw [c3]; simp)
    dsimp only
    rw [enS_zero]
    have zz := Lib.hid (wordF x5 [])
    refine FnK.of Tryz.func79 rfl (by kernel_rfl) Tryz.ntmps79 Tryz.results79 rfl fun w0 S0 hK0 => ?_
    refine wa ?_
    refine c1 W0.out ?_
    refine wa ?_
    rw [hsx]
    refine wa ?_
    refine c1 W2.out ?_
    refine wa ?_
    refine c1 W3.out ?_
    refine wa ?_
    exact ⟨.cn rfl rfl inferInstance rfl ⟨.inl rfl, .inr rfl, .inl rfl, .inr rfl, .inr rfl, trivial⟩, .d rfl (.inl rfl), trivial⟩
  | true =>
  rw [c3] at W3
  cases b6 with
  | true =>
    obtain rfl := hz (by simp)
    dsimp only
    rw [enS_zero]
    have zz := Lib.hid (wordF x5 [])
    refine FnK.of Tryz.func79 rfl (by kernel_rfl) Tryz.ntmps79 Tryz.results79 rfl fun w0 S0 hK0 => ?_
    refine wa ?_
    refine c1 W0.out ?_
    refine wa ?_
    rw [hsx]
    refine wa ?_
    refine c1 W2.out ?_
    refine wa ?_
    refine c1 W3.out ?_
    refine wa ?_
    exact ⟨.cn rfl rfl inferInstance rfl ⟨.inl rfl, .inr rfl, .inl rfl, .inr rfl, .inr rfl, trivial⟩, .d rfl (.inl rfl), trivial⟩
  | false =>
  rw [if_pos ⟨c0, c1', rfl, c3, rfl⟩] at hR0
  rw [bodyA_cons, if_pos c4] at hR0
  clear hz
  have hznone : litsA b ys = none → R = (zeroS, false) := fun h => by rw [h] at hR0; exact hR0.symm
  have hsome : ∀ cl, litsA b ys = some cl → ruleA cl x4 x5 l6 = none → R = (zeroS, false) := fun cl h h2 => by rw [h] at hR0; dsimp only at hR0; rw [h2] at hR0; exact hR0.symm
  have hyes : ∀ cl st, litsA b ys = some cl → ruleA cl x4 x5 l6 = some st → R = (st, fmA st i) := fun cl st h h2 => by rw [h] at hR0; dsimp only at hR0; rw [h2] at hR0; exact hR0.symm
  clear hR0
  have m6 := m6.1
  have v6 := v6.2
  have hc6 := cXs_len l6
  have hc6w := cXs_w l6
  have h6ml : (l6.map enX).length = l6.length := List.length_map ..
  have zz := Lib.hid (wordF x5 [])
  refine FnK.of Tryz.func79 rfl (by kernel_rfl) Tryz.ntmps79 Tryz.results79 rfl fun w0 S0 hK0 => ?_
  refine wa ?_
  refine c1 W0.out ?_
  refine wa ?_
  rw [hsx]
  refine wa ?_
  refine c1 W2.out ?_
  refine wa ?_
  refine c1 W3.out ?_
  refine wa ?_
  rw [hsx]
  have htl : ∀ c ∈ (y :: ys).map enX, c.length = 3 := fun c hc => by obtain ⟨z, _, rfl⟩ := List.mem_map.1 hc; exact enX_ln z
  ((try (first | intro K ms hms hK | intro K hK)); (first | apply Chain.go | apply Chain.goD); exact rfl; exact rfl; exact Loc.tailL 1 rfl rfl rfl rfl (by simp) htl)
  refine wa ?_
  rw [show List.drop 1 ((y :: ys).map enX) = ys.map enX from rfl]
  have hys : ys.length ≤ 100000000 := by omega
  have hl6 : l6.length ≤ 100000000 := by omega
  have hs6 : subX (.mk false w6 l6) = l6.map enX := by rw [subX, subXs_map]
  have hwl6 : ∀ x ∈ l6, x.w.length ≤ 20000 := fun x hx => wlX_w (wlXs_mem v6 x hx)
  clear hw hwl hcl hcw m2 m6 hcys hcyw hc6 hc6w v2 v6 hsl htl W0 W2 W3
  refine AC.rowBox 9 1 40 3 1 rfl rfl rfl ?_
  refine AC.loop (X := Nat) (fun j => ⟨[(0, .d (.v (.int .i64 b))), (2, .d (.v (.int .i64 (i : Int)))), (6, .p 6 0), (8, .d (.l (L.map enX))), (9, .p 9 0), (87, .d (.l (ys.map enX))), (88, .d (.v (.int .i64 (ys.length : Int)))), (89, .d (.v (.int .i64 (j : Int))))], [(9, .box 57 [.d (.v (.int .i64 0)), .r 40 j, .d (.v (.int .i64 0)), .d .n, .d .n]), (40, .row j 3 1 (ivz ((ys.take j).map (litA b)))), (6, .box 57 [.d (.v (.int .i64 0)), .d .n, .d (.v (.int .i64 0)), .d .n, .d .n])]⟩) (fun j => j ≤ ys.length ∧ ∀ x ∈ ys.take j, litA b x ≠ 0) (fun j => ys.length - j) 0 ⟨Nat.zero_le _, fun x hx => by simp at hx⟩ ⟨rfl, rfl, rfl, rfl, rfl, rfl, rfl, rfl, trivial⟩ ⟨rfl, rfl, rfl, trivial⟩ ?_
  intro j ⟨hj, hlz⟩
  dsimp only at hj hlz ⊢
  have hrl : (ivz ((ys.take j).map (litA b))).length ≤ ys.length := by rw [ivz, List.length_map, List.length_map, List.length_take]; omega
  by_cases h1 : j < ys.length
  · have hx := List.getElem?_eq_getElem h1
    have hF := hlit ys[j] (List.getElem_mem h1)
    have hst : ivz ((ys.take (j + 1)).map (litA b)) = ivz ((ys.take j).map (litA b)) ++ [[.v (.int .i64 (litA b ys[j]))]] := by
      rw [List.take_succ_eq_append_getElem h1, List.map_append, ivz, List.map_append]; rfl
    have hnz : litA b ys[j] = 0 → litsA b ys = none := fun h => by
      unfold litsA
      rw [if_neg]
      intro ha
      have := List.all_eq_true.1 ha _ (List.getElem_mem h1)
      exact of_decide_eq_true this h
    have hsn : litA b ys[j] ≠ 0 → ∀ x ∈ ys.take (j + 1), litA b x ≠ 0 := fun h x hx2 => by
      rw [List.take_succ_eq_append_getElem h1] at hx2
      rcases List.mem_append.1 hx2 with hx2 | hx2
      · exact hlz x hx2
      · rw [List.mem_singleton.1 hx2]; exact h
    generalize litA b ys[j] = n at hF hst hnz hsn
    generalize ys[j] = x at hx hF
    by_cases h0 : n = 0
    · obtain rfl := hznone (hnz h0)
      dsimp only
      rw [enS_zero]
      refine wa ?_
      exact ⟨.cn rfl rfl inferInstance rfl ⟨.inl rfl, .inr rfl, .inl rfl, .inr rfl, .inr rfl, trivial⟩, .d rfl (.inl rfl), trivial⟩
    · refine wa ?_
      exact ⟨j + 1, ⟨h1, hsn h0⟩, by omega, ⟨rfl, rfl, rfl, rfl, rfl, rfl, rfl, rfl, trivial⟩, ⟨rfl, by rw [hst]; rfl, rfl, trivial⟩⟩
  · obtain rfl : j = ys.length := by omega
    rw [List.take_length] at hlz ⊢
    have hL : litsA b ys = some (ys.map (litA b)) := by
      unfold litsA
      rw [if_pos]
      rw [List.all_eq_true]
      intro x hx
      exact decide_eq_true (hlz x hx)
    have hokc : ∀ l ∈ ys.map (litA b), inR l := fun l hl => by obtain ⟨x, _, rfl⟩ := List.mem_map.1 hl; exact litA_rng hb x
    have hlc : (ys.map (litA b)).length ≤ 100000000 := by rw [List.length_map]; exact hys
    have hno : ruleA (ys.map (litA b)) x4 x5 l6 = none → R = (zeroS, false) := hsome _ hL
    have hyes := fun st => hyes _ st hL
    generalize ys.map (litA b) = cl at hokc hlc hno hyes ⊢
    clear hsome hznone hL hlz
    unfold ruleA at hno hyes
    refine AC.frzBox 9 1 rfl rfl rfl ?_
    refine wa ?_
    rw [hs6]
    clear hyml hj h1 hl0 hsx c4 c3 hys hlit
    cases cA : isW x4 cAss with
    | true =>
      have cL : isW x4 cLa = false := hx4 (by decide) cA
      have cR : isW x4 cRes = false := hx4 (by decide) cA
      rw [cA] at A4
      rw [cL] at L4
      rw [cR] at R4
      have zz := Lib.hid (wordF x5 [])
      cases c5 : isW x5 cArgs with
      | false =>
        rw [c5] at A5
        have zz := Lib.hid (wordF x5 [])
        obtain rfl := hno (by rw [if_neg (fun h => by rw [c5] at h; exact absurd h.2.1 (by decide)), if_neg (fun h => by rw [cL] at h; exact absurd h.1 (by decide)), if_neg (fun h => by rw [cR] at h; exact absurd h.1 (by decide))])
        dsimp only
        rw [enS_zero]
        refine c1 A4.out ?_
        refine wa ?_
        refine c1 A5.out ?_
        refine wa ?_
        refine c1 L4.out ?_
        refine wa ?_
        refine c1 R4.out ?_
        refine wa ?_
        exact ⟨.cn rfl rfl inferInstance rfl ⟨.inl rfl, .inr rfl, .inl rfl, .inr rfl, .inr rfl, trivial⟩, .d rfl (.inl rfl), trivial⟩
      | true =>
        rw [c5] at A5
        have zz := Lib.hid (wordF x5 [])
        by_cases hl1 : l6.length = 1
        rotate_left
        · obtain rfl := hno (by rw [if_neg (fun h => by exact hl1 h.2.2.1), if_neg (fun h => by rw [cL] at h; exact absurd h.1 (by decide)), if_neg (fun h => by rw [cR] at h; exact absurd h.1 (by decide))])
          dsimp only
          rw [enS_zero]
          refine c1 A4.out ?_
          refine wa ?_
          refine c1 A5.out ?_
          refine wa ?_
          refine c1 L4.out ?_
          refine wa ?_
          refine c1 R4.out ?_
          refine wa ?_
          exact ⟨.cn rfl rfl inferInstance rfl ⟨.inl rfl, .inr rfl, .inl rfl, .inr rfl, .inr rfl, trivial⟩, .d rfl (.inl rfl), trivial⟩
        match l6, hl1 with
        | [a], _ =>
        have hga : [a][0]? = some a := rfl
        obtain ⟨ab, aw, al⟩ := a
        cases ab with
        | false =>
          have hb0 : ¬ ([ST.mk false aw al].all (·.b)) = true := by simp [ST.b]
          obtain rfl := hno (by rw [if_neg (fun h => hb0 h.2.2.2), if_neg (fun h => by rw [cL] at h; exact absurd h.1 (by decide)), if_neg (fun h => by rw [cR] at h; exact absurd h.1 (by decide))])
          dsimp only
          rw [enS_zero]
          refine c1 A4.out ?_
          refine wa ?_
          refine c1 A5.out ?_
          refine wa ?_
          refine c1 L4.out ?_
          refine wa ?_
          refine c1 R4.out ?_
          refine wa ?_
          exact ⟨.cn rfl rfl inferInstance rfl ⟨.inl rfl, .inr rfl, .inl rfl, .inr rfl, .inr rfl, trivial⟩, .d rfl (.inl rfl), trivial⟩
        | true =>
          have hcf := countedF (Kw := Kw) aw (by have := hwl6 _ (List.mem_singleton.2 rfl); have : aw.length ≤ 20000 := this; omega)
          have hcr := cntA_rng aw
          have hr : R = (⟨1, cl, cntA aw, [], []⟩, fmA ⟨1, cl, cntA aw, [], []⟩ i) := hyes _ (if_pos ⟨cA, c5, rfl, rfl⟩)
          generalize cntA aw = n at hcf hcr hr
          have hfo := formedF ⟨1, cl, n, [], []⟩ i ⟨inR_s 1 (by decide), ⟨by dsimp only; omega, by dsimp only; omega⟩, hokc, fun k hk => (by cases hk), hlc, Nat.zero_le _, Nat.zero_le _⟩ hi
          generalize fmA ⟨1, cl, n, [], []⟩ i = f at hfo hr
          subst hr
          unfold enS at hfo ⊢
          dsimp only at hfo ⊢
          refine c1 A4.out ?_
          refine wa ?_
          refine c1 A5.out ?_
          refine wa ?_
          exact ⟨.cn rfl rfl inferInstance rfl ⟨.inl rfl, .inl rfl, .inl rfl, .inr rfl, .inr rfl, trivial⟩, .d rfl (.inl rfl), trivial⟩
    | false =>
      rw [cA] at A4
      have zz := Lib.hid (wordF x5 [])
      refine c1 A4.out ?_
      refine wa ?_
      cases cL : isW x4 cLa with
      | true =>
        have cR : isW x4 cRes = false := hx4 (by decide) cL
        rw [cL] at L4
        rw [cR] at R4
        have zz := Lib.hid (wordF x5 [])
        cases c5 : isW x5 cArgs with
        | false =>
          rw [c5] at A5
          have zz := Lib.hid (wordF x5 [])
          obtain rfl := hno (by rw [if_neg (fun h => by rw [cA] at h; exact absurd h.1 (by decide)), if_neg (fun h => by rw [c5] at h; exact absurd h.2 (by decide)), if_neg (fun h => by rw [cR] at h; exact absurd h.1 (by decide))])
          dsimp only
          rw [enS_zero]
          refine c1 L4.out ?_
          refine wa ?_
          refine c1 A5.out ?_
          refine wa ?_
          refine c1 R4.out ?_
          refine wa ?_
          exact ⟨.cn rfl rfl inferInstance rfl ⟨.inl rfl, .inr rfl, .inl rfl, .inr rfl, .inr rfl, trivial⟩, .d rfl (.inl rfl), trivial⟩
        | true =>
          rw [c5] at A5
          have zz := Lib.hid (wordF x5 [])
          refine c1 L4.out ?_
          refine wa ?_
          refine c1 A5.out ?_
          refine wa ?_
          refine AC.rowBox 9 4 41 104 3 rfl rfl rfl ?_
          refine AC.loop (X := Nat) (fun j => ⟨[(2, .d (.v (.int .i64 (i : Int)))), (6, .p 6 0), (9, .p 9 0), (152, .d (.l (l6.map enX))), (153, .d (.v (.int .i64 (l6.length : Int)))), (154, .d (.v (.int .i64 (j : Int))))], [(9, .box 57 [.d (.v (.int .i64 2)), .d (enZ cl), .d (.v (.int .i64 0)), .d .n, .r 41 j]), (41, .row j 104 3 ((l6.take j).map fun x => enR (nuV x).1)), (6, .box 57 [.d (.v (.int .i64 0)), .d .n, .d (.v (.int .i64 0)), .d .n, .d .n])]⟩) (fun j => j ≤ l6.length ∧ ∀ x ∈ l6.take j, (nuV x).2 = true) (fun j => l6.length - j) 0 ⟨Nat.zero_le _, fun x hx => by simp at hx⟩ ⟨rfl, rfl, rfl, rfl, rfl, rfl, trivial⟩ ⟨rfl, rfl, rfl, trivial⟩ ?_
          intro j ⟨hj, hok⟩
          dsimp only at hj hok ⊢
          have hrl : ((l6.take j).map fun x => enR (nuV x).1).length ≤ l6.length := by rw [List.length_map, List.length_take]; omega
          by_cases h2 : j < l6.length
          · have hx := List.getElem?_eq_getElem h2
            have hF := numberF (Kw := Kw) l6[j] (hwl6 _ (List.getElem_mem h2))
            have hst : ((l6.take (j + 1)).map fun x => enR (nuV x).1) = ((l6.take j).map fun x => enR (nuV x).1) ++ [enR (nuV l6[j]).1] := by
              rw [List.take_succ_eq_append_getElem h2, List.map_append]; rfl
            have hnz : (nuV l6[j]).2 = false → R = (zeroS, false) := fun h => hno (by
              have hn : numsA l6 = none := nums_none (List.getElem_mem h2) (by
                cases hq : numA l6[j] with
                | none => rfl
                | some q => rw [nuV_some hq] at h; cases h)
              rw [if_neg (fun h => by rw [cA] at h; exact absurd h.1 (by decide)), if_pos ⟨cL, c5⟩, hn])
            have hsn : (nuV l6[j]).2 = true → ∀ x ∈ l6.take (j + 1), (nuV x).2 = true := fun h x hx2 => by
              rw [List.take_succ_eq_append_getElem h2] at hx2
              rcases List.mem_append.1 hx2 with hx2 | hx2
              · exact hok x hx2
              · rw [List.mem_singleton.1 hx2]; exact h
            generalize nuV l6[j] = v at hF hst hnz hsn
            generalize l6[j] = x at hx hF
            generalize ((l6.take j).map fun x => enR (nuV x).1) = T at hst hrl ⊢
            obtain ⟨q, ok⟩ := v
            dsimp only at hF hst hnz hsn
            cases ok with
            | false =>
              obtain rfl := hnz rfl
              dsimp only
              rw [enS_zero]
              refine wa ?_
              exact ⟨.cn rfl rfl inferInstance rfl ⟨.inl rfl, .inr rfl, .inl rfl, .inr rfl, .inr rfl, trivial⟩, .d rfl (.inl rfl), trivial⟩
            | true =>
              refine wa ?_
              exact ⟨j + 1, ⟨h2, hsn rfl⟩, by omega, ⟨rfl, rfl, rfl, rfl, rfl, rfl, trivial⟩, ⟨rfl, by dsimp only; rw [hst]; rfl, rfl, trivial⟩⟩
          · obtain rfl : j = l6.length := by omega
            rw [List.take_length] at hok ⊢
            have hna : numsA l6 = some (l6.map fun x => (nuV x).1) := nums_all fun x hx he => by
              have := nuV_none he
              rw [hok x hx] at this
              cases this
            have hmm : (l6.map fun x => enR (nuV x).1) = (l6.map fun x => (nuV x).1).map enR := by rw [List.map_map]; rfl
            have htl : (l6.map fun x => (nuV x).1).length ≤ 100000000 := by rw [List.length_map]; exact hl6
            have hr := hyes ⟨2, cl, 0, [], l6.map fun x => (nuV x).1⟩ (by rw [if_neg (fun h => by rw [cA] at h; exact absurd h.1 (by decide)), if_pos ⟨cL, c5⟩, hna])
            rw [hmm]
            generalize (l6.map fun x => (nuV x).1) = tm at hr htl ⊢
            have hfo := formedF ⟨2, cl, 0, [], tm⟩ i ⟨inR_s 2 (by decide), inR_s 0 (by decide), hokc, fun k hk => (by cases hk), hlc, Nat.zero_le _, htl⟩ hi
            generalize fmA ⟨2, cl, 0, [], tm⟩ i = f at hfo hr
            subst hr
            unfold enS at hfo ⊢
            dsimp only at hfo ⊢
            refine AC.frzBox 9 4 rfl rfl rfl ?_
            refine wa ?_
            exact ⟨.cn rfl rfl inferInstance rfl ⟨.inl rfl, .inl rfl, .inl rfl, .inr rfl, .inl rfl, trivial⟩, .d rfl (.inl rfl), trivial⟩
      | false =>
        rw [cL] at L4
        have zz := Lib.hid (wordF x5 [])
        cases cR : isW x4 cRes with
        | false =>
          rw [cR] at R4
          have zz := Lib.hid (wordF x5 [])
          obtain rfl := hno (by rw [if_neg (fun h => by rw [cA] at h; exact absurd h.1 (by decide)), if_neg (fun h => by rw [cL] at h; exact absurd h.1 (by decide)), if_neg (fun h => by rw [cR] at h; exact absurd h.1 (by decide))])
          dsimp only
          rw [enS_zero]
          refine c1 L4.out ?_
          refine wa ?_
          refine c1 R4.out ?_
          refine wa ?_
          exact ⟨.cn rfl rfl inferInstance rfl ⟨.inl rfl, .inr rfl, .inl rfl, .inr rfl, .inr rfl, trivial⟩, .d rfl (.inl rfl), trivial⟩
        | true =>
          rw [cR] at R4
          have zz := Lib.hid (wordF x5 [])
          cases c6 : isW x5 cPrem with
          | false =>
            rw [c6] at P5
            have zz := Lib.hid (wordF x5 [])
            obtain rfl := hno (by rw [if_neg (fun h => by rw [cA] at h; exact absurd h.1 (by decide)), if_neg (fun h => by rw [cL] at h; exact absurd h.1 (by decide)), if_neg (fun h => by rw [c6] at h; exact absurd h.2 (by decide))])
            dsimp only
            rw [enS_zero]
            refine c1 L4.out ?_
            refine wa ?_
            refine c1 R4.out ?_
            refine wa ?_
            refine c1 P5.out ?_
            refine wa ?_
            exact ⟨.cn rfl rfl inferInstance rfl ⟨.inl rfl, .inr rfl, .inl rfl, .inr rfl, .inr rfl, trivial⟩, .d rfl (.inl rfl), trivial⟩
          | true =>
            rw [c6] at P5
            have zz := Lib.hid (wordF x5 [])
            refine c1 L4.out ?_
            refine wa ?_
            refine c1 R4.out ?_
            refine wa ?_
            refine c1 P5.out ?_
            refine wa ?_
            clear n1
            refine AC.rowBox 9 3 42 3 1 rfl rfl rfl ?_
            refine AC.loop (X := Nat) (fun j => ⟨[(2, .d (.v (.int .i64 (i : Int)))), (6, .p 6 0), (9, .p 9 0), (185, .d (.l (l6.map enX))), (186, .d (.v (.int .i64 (l6.length : Int)))), (187, .d (.v (.int .i64 (j : Int))))], [(9, .box 57 [.d (.v (.int .i64 3)), .d (enZ cl), .d (.v (.int .i64 0)), .r 42 j, .d .n]), (42, .row j 3 1 ((l6.take j).map fun x => [D.v (.int .i64 (nbA x 116))])), (6, .box 57 [.d (.v (.int .i64 0)), .d .n, .d (.v (.int .i64 0)), .d .n, .d .n])]⟩) (fun j => j ≤ l6.length) (fun j => l6.length - j) 0 (Nat.zero_le _) ⟨rfl, rfl, rfl, rfl, rfl, rfl, trivial⟩ ⟨rfl, rfl, rfl, trivial⟩ ?_
            intro j hj
            dsimp only at hj ⊢
            have hrl : ((l6.take j).map fun x => [D.v (.int .i64 (nbA x 116))]).length ≤ l6.length := by rw [List.length_map, List.length_take]; omega
            by_cases h2 : j < l6.length
            · have hx := List.getElem?_eq_getElem h2
              have hF := numberedF (Kw := Kw) l6[j] 116 (by have := hwl6 _ (List.getElem_mem h2); omega)
              have hst : ((l6.take (j + 1)).map fun x => [D.v (.int .i64 (nbA x 116))]) = ((l6.take j).map fun x => [D.v (.int .i64 (nbA x 116))]) ++ [[.v (.int .i64 (nbA l6[j] 116))]] := by
                rw [List.take_succ_eq_append_getElem h2, List.map_append]; rfl
              generalize nbA l6[j] 116 = n at hF hst
              generalize l6[j] = x at hx hF
              generalize ((l6.take j).map fun x => [D.v (.int .i64 (nbA x 116))]) = T at hst hrl ⊢
              refine wa ?_
              exact ⟨j + 1, h2, by omega, ⟨rfl, rfl, rfl, rfl, rfl, rfl, trivial⟩, ⟨rfl, by dsimp only; rw [hst]; rfl, rfl, trivial⟩⟩
            · obtain rfl : j = l6.length := by omega
              rw [List.take_length]
              have hmm : (l6.map fun x => [D.v (.int .i64 (nbA x 116))]) = (l6.map (nbA · 116)).map fun v => [.v (.int .i64 v)] := by rw [List.map_map]; rfl
              have hpl : (l6.map (nbA · 116)).length ≤ 100000000 := by rw [List.length_map]; exact hl6
              have hpr : ∀ k ∈ l6.map (nbA · 116), inR k := fun k hk => by
                obtain ⟨x, _, rfl⟩ := List.mem_map.1 hk
                have := nbA_rng x 116
                exact ⟨by omega, by omega⟩
              have hr := hyes ⟨3, cl, 0, l6.map (nbA · 116), []⟩ (by rw [if_neg (fun h => by rw [cA] at h; exact absurd h.1 (by decide)), if_neg (fun h => by rw [cL] at h; exact absurd h.1 (by decide)), if_pos ⟨cR, c6⟩])
              rw [hmm]
              generalize l6.map (nbA · 116) = pr at hr hpl hpr ⊢
              have hfo := formedF ⟨3, cl, 0, pr, []⟩ i ⟨inR_s 3 (by decide), inR_s 0 (by decide), hokc, hpr, hlc, hpl, Nat.zero_le _⟩ hi
              generalize fmA ⟨3, cl, 0, pr, []⟩ i = f at hfo hr
              subst hr
              unfold enS at hfo ⊢
              dsimp only at hfo ⊢
              refine AC.frzBox 9 3 rfl rfl rfl ?_
              refine wa ?_
              exact ⟨.cn rfl rfl inferInstance rfl ⟨.inl rfl, .inl rfl, .inl rfl, .inl rfl, .inr rfl, trivial⟩, .d rfl (.inl rfl), trivial⟩
end
end Go.Proofs.YtbbpecfapohlaaaGreatDoor
