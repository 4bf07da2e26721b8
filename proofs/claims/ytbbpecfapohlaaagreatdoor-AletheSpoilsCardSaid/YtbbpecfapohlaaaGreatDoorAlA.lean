import Derived.Test.YtbbpecfapohlaaaGreatDoorAl
import Derived.Test.YtbbpecfapohlaaaGreatDoorAt
import Derived.Test.YtbbpecfapohlaaaGreatDoorPrE
import Derived.Test.YtbbpecfapohlaaaGreatDoorPrH
import Derived.Test.YtbbpecfapohlaaaGreatDoorOx
namespace Go.Proofs.YtbbpecfapohlaaaGreatDoor
open Go.RowKit
attribute [local irreducible] AC Do St
section
variable {Kw : World → Prop} [KSt Kw] [KHas Kw Tab] [KHas Kw ErrV]
set_option maxRecDepth 100000 in
set_option maxHeartbeats 4000000 in
theorem countedF (l : List UInt8) (hl : l.length ≤ 100000000) : FnK Tryz.prog 144 Kw [.d (.v (.string (tx l)))] [.d (.v (.int .i64 (cntA l)))] := by
  obtain ⟨R, hR⟩ : ∃ R, cntA l = R := ⟨_, rfl⟩
  rw [hR]
  cases hc : Lib.atoiAll l with
  | ok v =>
    have hb := Lib.atoiAll_bounds hc
    have ha := atoiOK hc (by omega)
    have hi := itoaK (Kw := Kw) v hb.1 hb.2
    have e : R = if v < 0 then -1 else if Lib.itoa v = l then v else -1 := by rw [← hR]; unfold cntA; rw [hc]
    refine FnK.of Tryz.func144 rfl (by kernel_rfl) Tryz.ntmps144 Tryz.results144 rfl fun w0 S0 hK0 => ?_
    refine wa ?_
    ((try (first | intro K ms hms hK | intro K hK)); (first | apply Chain.go | apply Chain.goD); exact rfl; exact rfl; exact Loc.nilNeF rfl rfl (fun w => by rfl))
    by_cases h1 : v < 0
    · rw [if_pos h1] at e
      subst e
      refine wa ?_
      exact ⟨.d rfl (.inl rfl), trivial⟩
    · rw [if_neg h1] at e
      by_cases h2 : Lib.itoa v = l
      · rw [if_pos h2] at e
        subst e
        refine wa ?_
        exact ⟨.d rfl (.inl rfl), trivial⟩
      · rw [if_neg h2] at e
        subst e
        refine wa ?_
        exact ⟨.d rfl (.inl rfl), trivial⟩
  | _ =>
    have e : R = -1 := by rw [← hR]; unfold cntA; rw [hc]
    have hf := atoiB (l := l) (Kw := Kw) (fun v h => by rw [hc] at h; cases h) (by omega)
    subst e
    refine FnK.of Tryz.func144 rfl (by kernel_rfl) Tryz.ntmps144 Tryz.results144 rfl fun w0 S0 hK0 => ?_
    refine wa ?_
    (first | intro K ms hms hK | intro K hK)
    refine Chain.callO [] hf rfl rfl rfl (by decide) rfl (fun j h => absurd h (by simp)) ⟨.inl rfl, trivial⟩ (kFr hK0 rfl _) (fun post res hpq _ => ?_)
    obtain ⟨rfl, n, t, p, rfl⟩ := hpq
    refine wa ?_
    ((try (first | intro K ms hms hK | intro K hK)); (first | apply Chain.go | apply Chain.goD); exact rfl; exact rfl; exact Loc.nilNeT rfl rfl (fun w => by rfl))
    refine wa ?_
    exact ⟨.d rfl (.inl rfl), trivial⟩
set_option maxRecDepth 100000 in
set_option maxHeartbeats 4000000 in
theorem numberedF (s : ST) (k : UInt8) (hl : s.w.length ≤ 100000000) : FnK Tryz.prog 142 Kw [.g (enX s), .d (.v (.int .u8 (k.toNat : Int)))] [.d (.v (.int .i64 (nbA s k)))] := by
  obtain ⟨R, hR⟩ : ∃ R, nbA s k = R := ⟨_, rfl⟩
  rw [hR]
  obtain ⟨b, w, l⟩ := s
  have hl : w.length ≤ 100000000 := hl
  have hco := countedF (Kw := Kw) (w.drop 1) (by rw [List.length_drop]; omega)
  unfold nbA at hR
  have hR : (if b = true ∧ 2 ≤ w.length ∧ w.head? = some k then cntA (w.drop 1) else -1) = R := hR
  rw [enX_mk]
  cases b with
  | false =>
    rw [if_neg (by simp)] at hR
    subst hR
    refine FnK.of Tryz.func142 rfl (by kernel_rfl) Tryz.ntmps142 Tryz.results142 rfl fun w0 S0 hK0 => ?_
    refine wa ?_
    exact ⟨.d rfl (.inl rfl), trivial⟩
  | true =>
    by_cases h2 : w.length < 2
    · rw [if_neg (by omega)] at hR
      subst hR
      refine FnK.of Tryz.func142 rfl (by kernel_rfl) Tryz.ntmps142 Tryz.results142 rfl fun w0 S0 hK0 => ?_
      refine wa ?_
      exact ⟨.d rfl (.inl rfl), trivial⟩
    · match w, h2 with
      | [], h2 => exact absurd (show ([] : List UInt8).length < 2 by decide) h2
      | c :: r, h2 =>
      have hg : (c :: r)[0]? = some c := rfl
      have hk := k.toNat_lt
      have hc := c.toNat_lt
      by_cases h3 : c = k
      · rw [if_pos ⟨rfl, by omega, by rw [h3]; rfl⟩] at hR
        have h3' : c.toNat = k.toNat := by rw [h3]
        rw [hR] at hco
        refine FnK.of Tryz.func142 rfl (by kernel_rfl) Tryz.ntmps142 Tryz.results142 rfl fun w0 S0 hK0 => ?_
        refine wa ?_
        ((try (first | intro K ms hms hK | intro K hK)); (first | apply Chain.go | apply Chain.goD); exact rfl; exact rfl; exact Loc.strFrom 1 rfl rfl rfl rfl (by omega) (by kernel_rfl))
        refine wa ?_
        exact ⟨.d rfl (.inl rfl), trivial⟩
      · rw [if_neg fun h => h3 (Option.some.inj h.2.2)] at hR
        have h3' : c.toNat ≠ k.toNat := fun h => h3 (UInt8.toNat_inj.1 h)
        subst hR
        refine FnK.of Tryz.func142 rfl (by kernel_rfl) Tryz.ntmps142 Tryz.results142 rfl fun w0 S0 hK0 => ?_
        refine wa ?_
        exact ⟨.d rfl (.inl rfl), trivial⟩
end
set_option maxRecDepth 100000 in
set_option maxHeartbeats 2000000 in
theorem wordF (s : ST) (w : List UInt8) : Fn Tryz.prog 141 [.g (enX s), .d (.v (.string (tx w)))] [.d (.v (.bool (isW s w)))] := by
  obtain ⟨b, v, l⟩ := s
  show Fn _ _ _ [.d (.v (.bool (b && decide (v = w))))]
  rw [enX_mk]
  cases b with
  | false =>
    refine Fn.of Tryz.func141 rfl (by kernel_rfl) Tryz.ntmps141 Tryz.results141 rfl fun w0 S0 => ?_
    refine wa ?_
    exact ⟨.d rfl (.inl rfl), trivial⟩
  | true =>
    by_cases h : v = w
    · rw [decide_eq_true h]
      refine Fn.of Tryz.func141 rfl (by kernel_rfl) Tryz.ntmps141 Tryz.results141 rfl fun w0 S0 => ?_
      refine wa ?_
      exact ⟨.d rfl (.inl rfl), trivial⟩
    · rw [decide_eq_false h]
      refine Fn.of Tryz.func141 rfl (by kernel_rfl) Tryz.ntmps141 Tryz.results141 rfl fun w0 S0 => ?_
      refine wa ?_
      exact ⟨.d rfl (.inl rfl), trivial⟩
section
variable {Kw : World → Prop} [KSt Kw] [KHas Kw Tab]
set_option maxRecDepth 100000 in
set_option maxHeartbeats 2000000 in
theorem nameAF (k : UInt8) (n : Int) (h0 : 0 ≤ n) (h1 : n ≤ 9223372036854775807) : FnK Tryz.prog 153 Kw [.d (.v (.string (tx [k]))), .d (.v (.int .i64 n))] [.g (enX (nmA k n))] := by
  have hi := itoaK (Kw := Kw) n (by omega) h1
  have hl := itoa_len20 h0 h1
  have hw := sexpWord (k :: Lib.itoa n)
  unfold nmA wdA
  rw [enX_mk] at hw ⊢
  refine FnK.of Tryz.func153 rfl (by kernel_rfl) Tryz.ntmps153 Tryz.results153 rfl fun w0 S0 hK0 => ?_
  refine wa ?_
  ((try (first | intro K ms hms hK | intro K hK)); (first | apply Chain.go | apply Chain.goD); exact rfl; exact rfl; exact Loc.strAdd (s := tx [k]) rfl rfl rfl (by show 1 + (Lib.itoa n).length ≤ _; omega))
  rw [tx_app]
  refine wa ?_
  exact ⟨.cn rfl rfl inferInstance rfl ⟨.inl rfl, .inl rfl, .inl rfl, trivial⟩, trivial⟩
set_option maxRecDepth 100000 in
set_option maxHeartbeats 4000000 in
theorem litAF (b l : Int) (hb : 0 ≤ b ∧ b ≤ 1000) (h : okLi l) (hs : szI l ≤ 2305843009213693952) : FnK Tryz.prog 152 Kw [.d (.v (.int .i64 b)), .d (.v (.int .i64 l))] [.g (enX (alLit b l))] := by
  have m1 := max_sz h
  have hz := szI_ok h
  have w1 : IntKind.i64.wrap (0 - l) = -l := by rw [Int.zero_sub]; exact IntWalk.i64_in _ (by have := h.2; omega)
  have hnot := sexpWord cNot
  unfold alLit
  generalize szI l = z at m1 hz hs ⊢
  dsimp only
  have n1 := nameAF (Kw := Kw) 112 (z - 1) (by omega) (by omega)
  have fin : ∀ (k : UInt8) (t : List UInt8), Fn Tryz.prog 154 [.d (.l [[.v (.bool true), .v (.string (tx cNot)), .l []], [.v (.bool true), .v (.string (tx (k :: t))), .l []]])] [.g [.v (.bool false), .v (.string (tx [])), .l [[.v (.bool true), .v (.string (tx cNot)), .l []], [.v (.bool true), .v (.string (tx (k :: t))), .l []]]]] := fun k t => by
    have hr := sexpRow [wdA cNot, wdA (k :: t)] (by simp)
    unfold wdA at hr
    simp only [List.map_cons, List.map_nil, enX_mk] at hr
    exact hr
  unfold nmA wdA at n1 ⊢
  generalize Lib.itoa (z - 1) = t at n1 ⊢
  simp only [List.map_nil, enX_mk] at n1 hnot
  by_cases h1 : z - 1 < b
  · rw [if_pos h1]
    have hr := fin 112 t
    by_cases h2 : l < 0
    · rw [if_pos h2]
      simp only [List.map_cons, List.map_nil, enX_mk]
      refine FnK.of Tryz.func152 rfl (by kernel_rfl) Tryz.ntmps152 Tryz.results152 rfl fun w0 S0 hK0 => ?_
      refine wa ?_
      ((try (first | intro K ms hms hK | intro K hK)); (first | apply Chain.go | apply Chain.goD); exact rfl; exact rfl; exact Loc.negM rfl rfl w1)
      refine wa ?_
      ((try (first | intro K ms hms hK | intro K hK)); (first | apply Chain.go | apply Chain.goD); exact rfl; exact rfl; exact Loc.maxZ rfl rfl rfl m1)
      refine wa ?_
      exact ⟨.cn rfl rfl inferInstance rfl ⟨.inl rfl, .inl rfl, .inl rfl, trivial⟩, trivial⟩
    · rw [if_neg h2]
      simp only [List.map_nil, enX_mk]
      refine FnK.of Tryz.func152 rfl (by kernel_rfl) Tryz.ntmps152 Tryz.results152 rfl fun w0 S0 hK0 => ?_
      refine wa ?_
      ((try (first | intro K ms hms hK | intro K hK)); (first | apply Chain.go | apply Chain.goD); exact rfl; exact rfl; exact Loc.negM rfl rfl w1)
      refine wa ?_
      ((try (first | intro K ms hms hK | intro K hK)); (first | apply Chain.go | apply Chain.goD); exact rfl; exact rfl; exact Loc.maxZ rfl rfl rfl m1)
      refine wa ?_
      exact ⟨.cn rfl rfl inferInstance rfl ⟨.inl rfl, .inl rfl, .inl rfl, trivial⟩, trivial⟩
  · rw [if_neg h1]
    have n2 := nameAF (Kw := Kw) 97 (z - 1 - b) (by omega) (by omega)
    unfold nmA wdA at n2
    generalize Lib.itoa (z - 1 - b) = t2 at n2 ⊢
    simp only [List.map_nil, enX_mk] at n2
    have hr := fin 97 t2
    clear fin
    by_cases h2 : l < 0
    · rw [if_pos h2]
      simp only [List.map_cons, List.map_nil, enX_mk]
      refine FnK.of Tryz.func152 rfl (by kernel_rfl) Tryz.ntmps152 Tryz.results152 rfl fun w0 S0 hK0 => ?_
      refine wa ?_
      ((try (first | intro K ms hms hK | intro K hK)); (first | apply Chain.go | apply Chain.goD); exact rfl; exact rfl; exact Loc.negM rfl rfl w1)
      refine wa ?_
      ((try (first | intro K ms hms hK | intro K hK)); (first | apply Chain.go | apply Chain.goD); exact rfl; exact rfl; exact Loc.maxZ rfl rfl rfl m1)
      refine wa ?_
      refine c1 n1 ?_
      refine wa ?_
      exact ⟨.cn rfl rfl inferInstance rfl ⟨.inl rfl, .inl rfl, .inl rfl, trivial⟩, trivial⟩
    · rw [if_neg h2]
      simp only [List.map_nil, enX_mk]
      refine FnK.of Tryz.func152 rfl (by kernel_rfl) Tryz.ntmps152 Tryz.results152 rfl fun w0 S0 hK0 => ?_
      refine wa ?_
      ((try (first | intro K ms hms hK | intro K hK)); (first | apply Chain.go | apply Chain.goD); exact rfl; exact rfl; exact Loc.negM rfl rfl w1)
      refine wa ?_
      ((try (first | intro K ms hms hK | intro K hK)); (first | apply Chain.go | apply Chain.goD); exact rfl; exact rfl; exact Loc.maxZ rfl rfl rfl m1)
      refine wa ?_
      refine c1 n1 ?_
      refine wa ?_
      exact ⟨.cn rfl rfl inferInstance rfl ⟨.inl rfl, .inl rfl, .inl rfl, trivial⟩, trivial⟩
end
/-- The numbers of a step are ints, its rows no longer than memory allows. -/
structure okA (s : Stp) : Prop where
  rule : inR s.rule
  idx : inR s.idx
  cl : ∀ l ∈ s.cl, inR l
  pr : ∀ k ∈ s.pr, inR k
  ncl : s.cl.length ≤ 100000000
  npr : s.pr.length ≤ 100000000
  ntm : s.tm.length ≤ 100000000
set_option maxRecDepth 100000 in
set_option maxHeartbeats 8000000 in
theorem formedF (s : Stp) (i : Nat) (hs : okA s) (_hi : i ≤ 1000000) : Fn Tryz.prog 86 [.g (enS s), .d (.v (.int .i64 (i : Int)))] [.d (.v (.bool (fmA s i)))] := by
  obtain ⟨R, hR⟩ : ∃ R, fmA s i = R := ⟨_, rfl⟩
  rw [hR]
  have hcan := canonC s.cl hs.cl hs.ncl
  obtain ⟨q1, q2, q3, q4, q5, q6, q7⟩ := hs
  obtain ⟨rl, cl, ix, pr, tm⟩ := s
  dsimp only at q1 q2 q3 q4 q5 q6 q7 hcan
  unfold enS
  dsimp only
  have hno : ¬ (fmA ⟨rl, cl, ix, pr, tm⟩ i = true) → R = false := fun h => by rw [← hR]; simpa using h
  have hyes : fmA ⟨rl, cl, ix, pr, tm⟩ i = true → R = true := fun h => by rw [← hR]; exact h
  unfold canC at hcan
  by_cases h1 : (cl.all fun l => decide (okLi l)) = true
  rotate_left
  · rw [if_neg h1] at hcan
    obtain rfl := hno fun h => h1 (by
      rw [List.all_eq_true]
      exact fun l hl => decide_eq_true ((fmA_iff.1 h).1 l hl))
    refine Fn.of Tryz.func86 rfl (by kernel_rfl) Tryz.ntmps86 Tryz.results86 rfl fun w0 S0 => ?_
    refine wa ?_
    exact ⟨.d rfl (.inl rfl), trivial⟩
  rw [if_pos h1] at hcan
  rw [List.all_eq_true] at h1
  have hcn := canI_len cl
  have hcm : ∀ l ∈ canI cl, okLi l := fun l hl => by simpa using h1 l ((canI_mem cl l).1 hl)
  generalize hC : canI cl = C at hcan hcn hcm
  have hml : (cl.map fun v => [D.v (.int .i64 v)]).length = cl.length := List.length_map ..
  have hml2 : (C.map fun v => [D.v (.int .i64 v)]).length = C.length := List.length_map ..
  by_cases h2 : C.length = cl.length
  rotate_left
  · obtain rfl := hno fun h => h2 (by
      have : canI cl = cl := (fmA_iff.1 h).2.1
      rw [← hC, this])
    refine Fn.of Tryz.func86 rfl (by kernel_rfl) Tryz.ntmps86 Tryz.results86 rfl fun w0 S0 => ?_
    refine wa ?_
    exact ⟨.d rfl (.inl rfl), trivial⟩
  refine Fn.of Tryz.func86 rfl (by kernel_rfl) Tryz.ntmps86 Tryz.results86 rfl fun w0 S0 => ?_
  refine wa ?_
  refine AC.loop (X := Nat) (fun j => ⟨[(1, .d (.v (.int .i64 (i : Int)))), (2, .p 2 0), (5, .d (enZ C)), (27, .d (.v (.int .i64 (C.length : Int)))), (28, .d (.v (.int .i64 (j : Int))))], [(2, .box 57 [.d (.v (.int .i64 rl)), .d (enZ cl), .d (.v (.int .i64 ix)), .d (enZ pr), .d (.l (tm.map enR))])]⟩) (fun j => j ≤ C.length ∧ C.take j = cl.take j ∧ ∀ l ∈ C.take j, szI l ≤ 2305843009213693952) (fun j => C.length - j) 0 ⟨Nat.zero_le _, rfl, fun l hl => by simp at hl⟩ ⟨rfl, rfl, rfl, rfl, rfl, trivial⟩ ⟨rfl, trivial⟩ ?_
  intro j ⟨hj, he, hz⟩
  dsimp only at hj he hz ⊢
  by_cases h3 : j < C.length
  · have h3' : j < cl.length := by omega
    have hx := List.getElem?_eq_getElem h3
    have hy := List.getElem?_eq_getElem h3'
    have hxo := hcm _ (List.getElem_mem h3)
    have hne : C[j] ≠ cl[j] → ¬ fmA ⟨rl, cl, ix, pr, tm⟩ i = true := fun h hf => h (by
      have : canI cl = cl := (fmA_iff.1 hf).2.1
      have : C = cl := by rw [← hC, this]
      simp only [this])
    have hbig : ¬ szI C[j] ≤ 2305843009213693952 → ¬ fmA ⟨rl, cl, ix, pr, tm⟩ i = true := fun h hf => h ((fmA_iff.1 hf).2.2.1 _ ((canI_mem cl _).1 (by rw [hC]; exact List.getElem_mem h3)))
    have hst : C[j] = cl[j] → C.take (j + 1) = cl.take (j + 1) := fun h => by rw [List.take_succ_eq_append_getElem h3, List.take_succ_eq_append_getElem h3', he, h]
    have hzt := all_take (P := fun l => szI l ≤ 2305843009213693952) h3 hz
    generalize C[j] = x at hx hxo hne hbig hst hzt
    generalize cl[j] = y at hy hne hst
    by_cases h4 : x = y
    · have m1 := max_sz hxo
      have w1 : IntKind.i64.wrap (0 - x) = -x := by rw [Int.zero_sub]; exact IntWalk.i64_in _ (by have := hxo.2; omega)
      by_cases h5 : szI x ≤ 2305843009213693952
      · refine wa ?_
        ((try (first | intro K ms hms hK | intro K hK)); (first | apply Chain.go | apply Chain.goD); exact rfl; exact rfl; exact Loc.negM rfl rfl w1)
        refine wa ?_
        ((try (first | intro K ms hms hK | intro K hK)); (first | apply Chain.go | apply Chain.goD); exact rfl; exact rfl; exact Loc.maxZ rfl rfl rfl m1)
        refine wa ?_
        exact ⟨j + 1, ⟨h3, hst h4, hzt h5⟩, by omega, ⟨rfl, rfl, rfl, rfl, rfl, trivial⟩, ⟨rfl, trivial⟩⟩
      · obtain rfl := hno (hbig h5)
        refine wa ?_
        ((try (first | intro K ms hms hK | intro K hK)); (first | apply Chain.go | apply Chain.goD); exact rfl; exact rfl; exact Loc.negM rfl rfl w1)
        refine wa ?_
        ((try (first | intro K ms hms hK | intro K hK)); (first | apply Chain.go | apply Chain.goD); exact rfl; exact rfl; exact Loc.maxZ rfl rfl rfl m1)
        refine wa ?_
        exact ⟨.d rfl (.inl rfl), trivial⟩
    · obtain rfl := hno (hne h4)
      refine wa ?_
      exact ⟨.d rfl (.inl rfl), trivial⟩
  obtain rfl : j = C.length := by omega
  rw [List.take_length, h2, List.take_length] at he
  subst he
  rw [List.take_length] at hz
  have hfm : (∀ k ∈ pr, 0 ≤ k ∧ k < (i : Int)) → ((rl = 1 ∧ 0 ≤ ix ∧ pr = [] ∧ tm = []) ∨ (rl = 2 ∧ ix = 0 ∧ pr = []) ∨ (rl = 3 ∧ ix = 0 ∧ tm = [])) → fmA ⟨rl, C, ix, pr, tm⟩ i = true := fun a c => fmA_iff.2 ⟨hcm, hC, hz, a, c⟩
  have hpl : (pr.map fun v => [D.v (.int .i64 v)]).length = pr.length := List.length_map ..
  refine wa ?_
  refine AC.loop (X := Nat) (fun j => ⟨[(1, .d (.v (.int .i64 (i : Int)))), (2, .p 2 0), (56, .d (enZ pr)), (57, .d (.v (.int .i64 (pr.length : Int)))), (58, .d (.v (.int .i64 (j : Int))))], [(2, .box 57 [.d (.v (.int .i64 rl)), .d (enZ C), .d (.v (.int .i64 ix)), .d (enZ pr), .d (.l (tm.map enR))])]⟩) (fun j => j ≤ pr.length ∧ ∀ k ∈ pr.take j, 0 ≤ k ∧ k < (i : Int)) (fun j => pr.length - j) 0 ⟨Nat.zero_le _, fun l hl => by simp at hl⟩ ⟨rfl, rfl, rfl, rfl, rfl, trivial⟩ ⟨rfl, trivial⟩ ?_
  intro j ⟨hj, hk⟩
  dsimp only at hj hk ⊢
  by_cases h3 : j < pr.length
  · have hx := List.getElem?_eq_getElem h3
    have hm := List.getElem_mem h3
    have hst := all_take (P := fun k => 0 ≤ k ∧ k < (i : Int)) h3 hk
    generalize pr[j] = x at hx hm hst
    have hbad : ¬ (0 ≤ x ∧ x < (i : Int)) → ¬ fmA ⟨rl, C, ix, pr, tm⟩ i = true := fun h hf => h ((fmA_iff.1 hf).2.2.2.1 x hm)
    by_cases h4 : x < 0
    · obtain rfl := hno (hbad (by omega))
      refine wa ?_
      exact ⟨.d rfl (.inl rfl), trivial⟩
    by_cases h5 : (i : Int) ≤ x
    · obtain rfl := hno (hbad (by omega))
      refine wa ?_
      exact ⟨.d rfl (.inl rfl), trivial⟩
    refine wa ?_
    exact ⟨j + 1, ⟨h3, hst ⟨by omega, by omega⟩⟩, by omega, ⟨rfl, rfl, rfl, rfl, rfl, trivial⟩, ⟨rfl, trivial⟩⟩
  rw [List.take_of_length_le (by omega)] at hk
  have hfm := hfm hk
  have hnf : ¬ ((rl = 1 ∧ 0 ≤ ix ∧ pr = [] ∧ tm = []) ∨ (rl = 2 ∧ ix = 0 ∧ pr = []) ∨ (rl = 3 ∧ ix = 0 ∧ tm = [])) → ¬ fmA ⟨rl, C, ix, pr, tm⟩ i = true := fun h hf => h (fmA_iff.1 hf).2.2.2.2
  have hp0 : (pr.length : Int) = 0 ↔ pr = [] := by rw [← List.length_eq_zero_iff]; omega
  have htl : (tm.map enR).length = tm.length := List.length_map ..
  have ht0 : (tm.length : Int) = 0 ↔ tm = [] := by rw [← List.length_eq_zero_iff]; omega
  by_cases r1 : rl = 1
  · by_cases a1 : 0 ≤ ix
    · by_cases a2 : (pr.length : Int) = 0
      · by_cases a3 : (tm.length : Int) = 0
        · obtain rfl := hyes (hfm (.inl ⟨r1, a1, hp0.1 a2, ht0.1 a3⟩))
          refine wa ?_
          exact ⟨.d rfl (.inl rfl), trivial⟩
        · obtain rfl := hno (hnf (by rw [← ht0]; omega))
          refine wa ?_
          exact ⟨.d rfl (.inl rfl), trivial⟩
      · obtain rfl := hno (hnf (by rw [← hp0]; omega))
        refine wa ?_
        exact ⟨.d rfl (.inl rfl), trivial⟩
    · obtain rfl := hno (hnf (by omega))
      refine wa ?_
      exact ⟨.d rfl (.inl rfl), trivial⟩
  by_cases r2 : rl = 2
  · by_cases a1 : ix = 0
    · by_cases a2 : (pr.length : Int) = 0
      · obtain rfl := hyes (hfm (.inr (.inl ⟨r2, a1, hp0.1 a2⟩)))
        refine wa ?_
        exact ⟨.d rfl (.inl rfl), trivial⟩
      · obtain rfl := hno (hnf (by rw [← hp0]; omega))
        refine wa ?_
        exact ⟨.d rfl (.inl rfl), trivial⟩
    · obtain rfl := hno (hnf (by omega))
      refine wa ?_
      exact ⟨.d rfl (.inl rfl), trivial⟩
  by_cases r3 : rl = 3
  · by_cases a1 : ix = 0
    · by_cases a2 : (tm.length : Int) = 0
      · obtain rfl := hyes (hfm (.inr (.inr ⟨r3, a1, ht0.1 a2⟩)))
        refine wa ?_
        exact ⟨.d rfl (.inl rfl), trivial⟩
      · obtain rfl := hno (hnf (by rw [← ht0]; omega))
        refine wa ?_
        exact ⟨.d rfl (.inl rfl), trivial⟩
    · obtain rfl := hno (hnf (by omega))
      refine wa ?_
      exact ⟨.d rfl (.inl rfl), trivial⟩
  obtain rfl := hno (hnf (by omega))
  refine wa ?_
  exact ⟨.d rfl (.inl rfl), trivial⟩
set_option maxRecDepth 100000 in
set_option maxHeartbeats 4000000 in
theorem checkAF (b : Int) (l : List Stp) (hl : ∀ s ∈ l, okA s) (hlen : l.length ≤ 1000000000) : Fn Tryz.prog 41 [.d (.v (.int .i64 b)), .d (.l (l.map enS))] [.d (.v (.int .i64 (chA b l)))] := by
  obtain ⟨R, hR⟩ : ∃ R, chA b l = R := ⟨_, rfl⟩
  rw [hR]
  have hml : (l.map enS).length = l.length := List.length_map ..
  unfold chA at hR
  by_cases h1 : 1000 < b
  · rw [if_pos (.inl h1)] at hR
    subst hR
    refine Fn.of Tryz.func41 rfl (by kernel_rfl) Tryz.ntmps41 Tryz.results41 rfl fun w0 S0 => ?_
    refine wa ?_
    exact ⟨.d rfl (.inl rfl), trivial⟩
  by_cases h2 : 300000 < l.length
  · rw [if_pos (.inr h2)] at hR
    subst hR
    refine Fn.of Tryz.func41 rfl (by kernel_rfl) Tryz.ntmps41 Tryz.results41 rfl fun w0 S0 => ?_
    refine wa ?_
    exact ⟨.d rfl (.inl rfl), trivial⟩
  rw [if_neg (by omega)] at hR
  by_cases h3 : b < 0
  · rw [if_pos h3] at hR
    subst hR
    refine Fn.of Tryz.func41 rfl (by kernel_rfl) Tryz.ntmps41 Tryz.results41 rfl fun w0 S0 => ?_
    refine wa ?_
    exact ⟨.d rfl (.inl rfl), trivial⟩
  rw [if_neg h3] at hR
  have hno : ∀ i (h : i < l.length), ¬ fmA l[i] i = true → R = 4 := fun i h hf => by
    rw [if_neg] at hR
    · exact hR.symm
    · intro ha
      exact hf (List.all_eq_true.1 ha (l[i], i) (List.mem_zipIdx_iff_getElem?.2 (List.getElem?_eq_getElem h)))
  have hyes : (∀ i (h : i < l.length), fmA l[i] i = true) → R = 0 := fun ha => by
    rw [if_pos] at hR
    · exact hR.symm
    · rw [List.all_eq_true]
      rintro ⟨s, i⟩ hx
      obtain ⟨hi, e⟩ := List.getElem?_eq_some_iff.1 (List.mem_zipIdx_iff_getElem?.1 hx)
      have hi : i < l.length := hi
      have e : l[i] = s := e
      show fmA s i = true
      rw [← e]
      exact ha i hi
  refine Fn.of Tryz.func41 rfl (by kernel_rfl) Tryz.ntmps41 Tryz.results41 rfl fun w0 S0 => ?_
  refine wa ?_
  refine AC.loop (X := Nat) (fun i => ⟨[(16, .d (.l (l.map enS))), (17, .d (.v (.int .i64 (l.length : Int)))), (18, .d (.v (.int .i64 (i : Int))))], []⟩) (fun i => i ≤ l.length ∧ ∀ j (h : j < l.length), j < i → fmA l[j] j = true) (fun i => l.length - i) 0 ⟨Nat.zero_le _, fun j h hj => absurd hj (by omega)⟩ ⟨rfl, rfl, rfl, trivial⟩ trivial ?_
  intro i ⟨hi, ha⟩
  dsimp only at hi ha ⊢
  by_cases h4 : i < l.length
  · have hx := List.getElem?_eq_getElem h4
    have hf := formedF l[i] i (hl _ (List.getElem_mem h4)) (by omega)
    have hno := hno i h4
    have hst : fmA l[i] i = true → ∀ j (h : j < l.length), j < i + 1 → fmA l[j] j = true := fun h j hj hj2 => by
      by_cases e : j = i
      · subst e; exact h
      · exact ha j hj (by omega)
    generalize l[i] = s at hx hf hno hst
    cases hv : fmA s i with
    | true =>
      rw [hv] at hf
      refine wa ?_
      exact ⟨i + 1, ⟨h4, hst hv⟩, by omega, ⟨rfl, rfl, rfl, trivial⟩, trivial⟩
    | false =>
      rw [hv] at hf
      obtain rfl := hno (by rw [hv]; decide)
      refine wa ?_
      exact ⟨.d rfl (.inl rfl), trivial⟩
  · obtain rfl := hyes fun j hj => ha j hj (by omega)
    refine wa ?_
    exact ⟨.d rfl (.inl rfl), trivial⟩
end Go.Proofs.YtbbpecfapohlaaaGreatDoor
