import Derived.Test.YtbbpecfapohlaaaGreatDoorAlA
import Derived.Test.YtbbpecfapohlaaaGreatDoorStS
import Derived.Test.YtbbpecfapohlaaaGreatDoorKyW
namespace Go.Proofs.YtbbpecfapohlaaaGreatDoor
open Go.RowKit
attribute [local irreducible] AC Do St
theorem printL_le {k : Nat} {q : Rat} (h : Bd k q) (hk : k ≤ 10000000) : (printL q).length ≤ 30000000 := by
  have h1 := printL_len q
  have h2 := limbs_len_bd h.1
  have h3 := limbs_len_bd h.2
  omega
theorem tl_snoc {α : Type} (f : α → ST) {l : List α} {j : Nat} (h : j < l.length) : tlX ((l.take (j + 1)).map f) = tlX ((l.take j).map f) ++ 32 :: putX (f l[j]) := by
  rw [List.take_succ_eq_append_getElem h, List.map_append, tlX_app, List.map_cons, List.map_nil, tlX, tlX, List.append_nil]
theorem tl_len {B : Nat} : ∀ {l : List ST}, (∀ x ∈ l, (putX x).length ≤ B) → (tlX l).length ≤ l.length * (B + 1)
  | [], _ => by rw [tlX]; exact Nat.zero_le _
  | x :: r, h => by
    have h1 := h x (by simp)
    have h2 := tl_len (l := r) fun y hy => h y (by simp [hy])
    rw [tlX, List.length_cons, List.length_append, List.length_cons, Nat.add_mul, Nat.one_mul]
    omega
theorem put_lit_len {b l : Int} (h : okLi l) (hb : 0 ≤ b) : (putX (alLit b l)).length ≤ 40 := by
  have h1 := szI_ok h
  rw [put_lit]
  have e : (nmB b l).length ≤ 23 := by
    unfold nmB
    split
    · have := itoa_len20 (n := szI l - 1) (by omega) (by omega)
      rw [List.length_cons]; omega
    · have := itoa_len20 (n := szI l - 1 - b) (by omega) (by omega)
      rw [List.length_cons]; omega
  split
  · simp only [List.length_cons, List.length_append, List.length_nil]
    have : cNot.length = 3 := rfl
    omega
  · omega
theorem Loc.catL {P : Program} {C : Cx} {o : Oper} {σ : AS} {T T' : TypeId} {x y : Operand} {l m : List UInt8} (r : List UInt8) (ho : o.op = .binOp .add T x y T') (hx : ev σ x = .d (.v (.string (tx l)))) (hy : ev σ y = .d (.v (.string (tx m)))) (hr : l ++ m = r) (hl : l.length + m.length ≤ 9223372036854775807) : Loc P C o σ (.d (.v (.string (tx r)))) := by
  have := Loc.strAdd (P := P) (C := C) ho hx hy (by rw [tx_size, tx_size]; exact hl)
  rwa [tx_app, hr] at this
section
variable {Kw : World → Prop} [KSt Kw] [KHas Kw Tab]
set_option maxRecDepth 100000 in
set_option maxHeartbeats 4000000 in
theorem nameQF (b l : Int) (hb : 0 ≤ b ∧ b ≤ 1000) (h : okLi l) : FnK Tryz.prog 89 Kw [.d (.v (.int .i64 b)), .d (.v (.int .i64 l))] [.d (.v (.string (tx (putX (alLit b l)))))] := by
  have m1 := max_sz h
  have hz := szI_ok h
  have w1 : IntKind.i64.wrap (0 - l) = -l := by rw [Int.zero_sub]; exact IntWalk.i64_in _ (by have := h.2; omega)
  rw [put_lit]
  unfold nmB
  generalize szI l = z at m1 hz ⊢
  have n1 := itoaK (Kw := Kw) (z - 1) (by omega) (by omega)
  have l1 := itoa_len20 (n := z - 1) (by omega) (by omega)
  by_cases h1 : z - 1 < b
  · rw [if_pos h1]
    generalize Lib.itoa (z - 1) = t at n1 l1 ⊢
    by_cases h2 : l < 0
    · rw [if_pos h2]
      refine FnK.of Tryz.func89 rfl (by kernel_rfl) Tryz.ntmps89 Tryz.results89 rfl fun w0 S0 hK0 => ?_
      refine wa ?_
      ((try (first | intro K ms hms hK | intro K hK)); (first | apply Chain.go | apply Chain.goD); exact rfl; exact rfl; exact Loc.negM rfl rfl w1)
      refine wa ?_
      ((try (first | intro K ms hms hK | intro K hK)); (first | apply Chain.go | apply Chain.goD); exact rfl; exact rfl; exact Loc.maxZ rfl rfl rfl m1)
      refine wa ?_
      ((try (first | intro K ms hms hK | intro K hK)); (first | apply Chain.go | apply Chain.goD); exact rfl; exact rfl; exact Loc.catL (l := [112]) (112 :: t) rfl rfl rfl rfl (by simp; omega))
      refine wa ?_
      ((try (first | intro K ms hms hK | intro K hK)); (first | apply Chain.go | apply Chain.goD); exact rfl; exact rfl; exact Loc.catL (l := [40, 110, 111, 116, 32]) (40 :: (cNot ++ 32 :: 112 :: t)) rfl rfl rfl rfl (by simp; omega))
      ((try (first | intro K ms hms hK | intro K hK)); (first | apply Chain.go | apply Chain.goD); exact rfl; exact rfl; exact Loc.catL (m := [41]) (40 :: (cNot ++ 32 :: ((112 :: t) ++ [41]))) rfl rfl rfl (by simp) (by simp [cNot]; omega))
      refine wa ?_
      exact ⟨.d rfl (.inl rfl), trivial⟩
    · rw [if_neg h2]
      refine FnK.of Tryz.func89 rfl (by kernel_rfl) Tryz.ntmps89 Tryz.results89 rfl fun w0 S0 hK0 => ?_
      refine wa ?_
      ((try (first | intro K ms hms hK | intro K hK)); (first | apply Chain.go | apply Chain.goD); exact rfl; exact rfl; exact Loc.negM rfl rfl w1)
      refine wa ?_
      ((try (first | intro K ms hms hK | intro K hK)); (first | apply Chain.go | apply Chain.goD); exact rfl; exact rfl; exact Loc.maxZ rfl rfl rfl m1)
      refine wa ?_
      ((try (first | intro K ms hms hK | intro K hK)); (first | apply Chain.go | apply Chain.goD); exact rfl; exact rfl; exact Loc.catL (l := [112]) (112 :: t) rfl rfl rfl rfl (by simp; omega))
      refine wa ?_
      exact ⟨.d rfl (.inl rfl), trivial⟩
  · rw [if_neg h1]
    have n2 := itoaK (Kw := Kw) (z - 1 - b) (by omega) (by omega)
    have l2 := itoa_len20 (n := z - 1 - b) (by omega) (by omega)
    generalize Lib.itoa (z - 1) = t at n1 l1 ⊢
    generalize Lib.itoa (z - 1 - b) = u at n2 l2 ⊢
    by_cases h2 : l < 0
    · rw [if_pos h2]
      refine FnK.of Tryz.func89 rfl (by kernel_rfl) Tryz.ntmps89 Tryz.results89 rfl fun w0 S0 hK0 => ?_
      refine wa ?_
      ((try (first | intro K ms hms hK | intro K hK)); (first | apply Chain.go | apply Chain.goD); exact rfl; exact rfl; exact Loc.negM rfl rfl w1)
      refine wa ?_
      ((try (first | intro K ms hms hK | intro K hK)); (first | apply Chain.go | apply Chain.goD); exact rfl; exact rfl; exact Loc.maxZ rfl rfl rfl m1)
      refine wa ?_
      refine c1 n1 ?_
      ((try (first | intro K ms hms hK | intro K hK)); (first | apply Chain.go | apply Chain.goD); exact rfl; exact rfl; exact Loc.catL (l := [112]) (112 :: t) rfl rfl rfl rfl (by simp; omega))
      refine wa ?_
      ((try (first | intro K ms hms hK | intro K hK)); (first | apply Chain.go | apply Chain.goD); exact rfl; exact rfl; exact Loc.catL (l := [97]) (97 :: u) rfl rfl rfl rfl (by simp; omega))
      refine wa ?_
      ((try (first | intro K ms hms hK | intro K hK)); (first | apply Chain.go | apply Chain.goD); exact rfl; exact rfl; exact Loc.catL (l := [40, 110, 111, 116, 32]) (40 :: (cNot ++ 32 :: 97 :: u)) rfl rfl rfl rfl (by simp; omega))
      ((try (first | intro K ms hms hK | intro K hK)); (first | apply Chain.go | apply Chain.goD); exact rfl; exact rfl; exact Loc.catL (m := [41]) (40 :: (cNot ++ 32 :: ((97 :: u) ++ [41]))) rfl rfl rfl (by simp) (by simp [cNot]; omega))
      refine wa ?_
      exact ⟨.d rfl (.inl rfl), trivial⟩
    · rw [if_neg h2]
      refine FnK.of Tryz.func89 rfl (by kernel_rfl) Tryz.ntmps89 Tryz.results89 rfl fun w0 S0 hK0 => ?_
      refine wa ?_
      ((try (first | intro K ms hms hK | intro K hK)); (first | apply Chain.go | apply Chain.goD); exact rfl; exact rfl; exact Loc.negM rfl rfl w1)
      refine wa ?_
      ((try (first | intro K ms hms hK | intro K hK)); (first | apply Chain.go | apply Chain.goD); exact rfl; exact rfl; exact Loc.maxZ rfl rfl rfl m1)
      refine wa ?_
      refine c1 n1 ?_
      ((try (first | intro K ms hms hK | intro K hK)); (first | apply Chain.go | apply Chain.goD); exact rfl; exact rfl; exact Loc.catL (l := [112]) (112 :: t) rfl rfl rfl rfl (by simp; omega))
      refine wa ?_
      ((try (first | intro K ms hms hK | intro K hK)); (first | apply Chain.go | apply Chain.goD); exact rfl; exact rfl; exact Loc.catL (l := [97]) (97 :: u) rfl rfl rfl rfl (by simp; omega))
      refine wa ?_
      exact ⟨.d rfl (.inl rfl), trivial⟩
end
section
variable {Kw : World → Prop} [KSt Kw] [KHas Kw Tab]
set_option maxRecDepth 100000 in
set_option maxHeartbeats 8000000 in
theorem lineQF {k : Nat} (b : Int) (s : Stp) (i : Nat) (hb : 0 ≤ b ∧ b ≤ 1000) (hs : okA s) (hf : fmA s i = true) (_hi : i ≤ 1000000) (hk : k ≤ 10000000) (hbd : ∀ q ∈ s.tm, Bd k q) : FnK Tryz.prog 43 Kw [.d (.v (.int .i64 b)), .g (enSQ s), .d (.v (.int .i64 (i : Int)))] [.d (.v (.string (tx (alLine b s i))))] := by
  have hit := itoaK (Kw := Kw) (i : Int) (by omega) (by omega)
  have hil := itoa_len20 (n := (i : Int)) (by omega) (by omega)
  obtain ⟨R, hR⟩ : ∃ R, alLine b s i = R := ⟨_, rfl⟩
  rw [hR]
  rw [alLine_eq] at hR
  obtain ⟨f1, f2, f3, f4, f5⟩ := fmA_iff.1 hf
  obtain ⟨q1, q2, q3, q4, q5, q6, q7⟩ := hs
  obtain ⟨rl, cl, ix, pr, tm⟩ := s
  dsimp only at q1 q2 q3 q4 q5 q6 q7 f1 f2 f3 f4 f5 hbd hR
  unfold enSQ
  dsimp only
  have hpl : ∀ j, (tlX ((cl.take j).map (alLit b))).length ≤ cl.length * 41 := fun j => by
    refine Nat.le_trans (tl_len (B := 40) fun x hx => ?_) ?_
    · obtain ⟨l, hl, rfl⟩ := List.mem_map.1 hx
      exact put_lit_len (f1 l (List.mem_of_mem_take hl)) hb.1
    · rw [List.length_map, List.length_take]
      exact Nat.mul_le_mul_right _ (Nat.min_le_right _ _)
  have hml : (cl.map fun v => [D.v (.int .i64 v)]).length = cl.length := List.length_map ..
  generalize Lib.itoa (i : Int) = ti at hit hil hR
  refine FnK.of Tryz.func43 rfl (by kernel_rfl) Tryz.ntmps43 Tryz.results43 rfl fun w0 S0 hK0 => ?_
  refine wa ?_
  ((try (first | intro K ms hms hK | intro K hK)); (first | apply Chain.go | apply Chain.goD); exact rfl; exact rfl; exact Loc.catL (l := [40, 115, 116, 101, 112, 32, 116]) ([40, 115, 116, 101, 112, 32, 116] ++ ti) rfl rfl rfl rfl (by simp; omega))
  ((try (first | intro K ms hms hK | intro K hK)); (first | apply Chain.go | apply Chain.goD); exact rfl; exact rfl; exact Loc.catL (m := [32, 40, 99, 108]) ([40, 115, 116, 101, 112, 32, 116] ++ ti ++ [32, 40, 99, 108]) rfl rfl rfl rfl (by simp; omega))
  have hhl : ([40, 115, 116, 101, 112, 32, 116] ++ ti ++ [32, 40, 99, 108]).length ≤ 50 := by simp; omega
  generalize ([40, 115, 116, 101, 112, 32, 116] ++ ti ++ [32, 40, 99, 108]) = H at hR hhl ⊢
  refine wa ?_
  refine AC.loop (X := Nat) (fun j => ⟨[(0, .d (.v (.int .i64 b))), (4, .p 4 0), (7, .d (.v (.string (tx (H ++ tlX ((cl.take j).map (alLit b))))))), (20, .d (enZ cl)), (21, .d (.v (.int .i64 (cl.length : Int)))), (22, .d (.v (.int .i64 (j : Int))))], [(4, .box 83 [.d (.v (.int .i64 rl)), .d (enZ cl), .d (.v (.int .i64 ix)), .d (enZ pr), .d (.l (tm.map enQ))])]⟩) (fun j => j ≤ cl.length) (fun j => cl.length - j) 0 (Nat.zero_le _) ⟨rfl, rfl, by dsimp only; rw [List.take_zero, List.map_nil, tlX, List.append_nil]; rfl, rfl, rfl, rfl, trivial⟩ ⟨rfl, trivial⟩ ?_
  intro j hj
  dsimp only at hj ⊢
  by_cases h1 : j < cl.length
  · have hx := List.getElem?_eq_getElem h1
    have hsn := tl_snoc (alLit b) h1
    have hnm := nameQF (Kw := Kw) b cl[j] hb (f1 _ (List.getElem_mem h1))
    have hnl := put_lit_len (b := b) (f1 _ (List.getElem_mem h1)) hb.1
    have hpj := hpl j
    generalize putX (alLit b cl[j]) = u at hsn hnm hnl
    generalize tlX ((cl.take j).map (alLit b)) = T at hsn hpj ⊢
    generalize cl[j] = l at hx hnm
    refine wa ?_
    ((try (first | intro K ms hms hK | intro K hK)); (first | apply Chain.go | apply Chain.goD); exact rfl; exact rfl; exact Loc.catL (l := [32]) (32 :: u) rfl rfl rfl rfl (by simp; omega))
    ((try (first | intro K ms hms hK | intro K hK)); (first | apply Chain.go | apply Chain.goD); exact rfl; exact rfl; exact Loc.catL (l := H ++ T) (H ++ (T ++ 32 :: u)) rfl rfl rfl (by simp) (by simp; omega))
    refine wa ?_
    exact ⟨j + 1, h1, by omega, ⟨rfl, rfl, by dsimp only; rw [hsn]; rfl, rfl, rfl, rfl, trivial⟩, ⟨rfl, trivial⟩⟩
  obtain rfl : j = cl.length := by omega
  have hpj := hpl cl.length
  rw [List.take_length] at hpj ⊢
  generalize tlX (cl.map (alLit b)) = T at hR hpj ⊢
  have hTl : (H ++ T).length ≤ 5000000000 := by rw [List.length_append]; omega
  generalize H ++ T = U at hR hTl ⊢
  by_cases r1 : rl = 1
  · subst r1
    have e : argA ⟨1, cl, ix, pr, tm⟩ = [wdA (Lib.itoa ix)] := rfl
    rw [e, tlX, tlX, put_wd, List.append_nil] at hR
    have hi0 : 0 ≤ ix := by rcases f5 with h | h | h <;> first | exact h.2.1 | (exfalso; omega)
    have hix := itoaK (Kw := Kw) ix (by omega) (by have := q2.2; omega)
    have hxl := itoa_len20 hi0 (by have := q2.2; omega)
    generalize Lib.itoa ix = u at hR hix hxl
    refine wa ?_
    ((try (first | intro K ms hms hK | intro K hK)); (first | apply Chain.go | apply Chain.goD); exact rfl; exact rfl; exact Loc.catL (m := [41, 32, 58, 114, 117, 108, 101, 32, 97, 115, 115, 117, 109, 101, 32, 58, 97, 114, 103, 115, 32, 40]) (U ++ midA 1) rfl rfl rfl rfl (by simp; omega))
    have hVl : (U ++ midA 1).length ≤ 5000000100 := by rw [List.length_append]; have : (midA 1).length = 22 := rfl; omega
    generalize U ++ midA 1 = V at hR hVl ⊢
    refine wa ?_
    ((try (first | intro K ms hms hK | intro K hK)); (first | apply Chain.go | apply Chain.goD); exact rfl; exact rfl; exact Loc.catL (l := [32]) (32 :: u) rfl rfl rfl rfl (by simp; omega))
    have hAl : (32 :: u).length ≤ 30 := by rw [List.length_cons]; omega
    generalize 32 :: u = A at hR hAl ⊢
    by_cases hA : A = []
    · subst hA
      refine wa ?_
      ((try (first | intro K ms hms hK | intro K hK)); (first | apply Chain.go | apply Chain.goD); exact rfl; exact rfl; exact Loc.catL (l := V) (m := []) V rfl rfl rfl (List.append_nil _) (by simp; omega))
      ((try (first | intro K ms hms hK | intro K hK)); (first | apply Chain.go | apply Chain.goD); exact rfl; exact rfl; exact Loc.catL (m := [41, 41, 10]) R rfl rfl rfl (by rw [← hR]; simp) (by simp; omega))
      refine wa ?_
      exact ⟨.d rfl (.inl rfl), trivial⟩
    · have hA1 : 1 ≤ A.length := List.length_pos_iff.2 hA
      refine wa ?_
      ((try (first | intro K ms hms hK | intro K hK)); (first | apply Chain.go | apply Chain.goD); exact rfl; exact rfl; exact Loc.strFrom 1 rfl rfl rfl rfl hA1 (by kernel_rfl))
      refine wa ?_
      ((try (first | intro K ms hms hK | intro K hK)); (first | apply Chain.go | apply Chain.goD); exact rfl; exact rfl; exact Loc.catL (l := V) (m := A.drop 1) (V ++ A.drop 1) rfl rfl rfl rfl (by simp; omega))
      ((try (first | intro K ms hms hK | intro K hK)); (first | apply Chain.go | apply Chain.goD); exact rfl; exact rfl; exact Loc.catL (m := [41, 41, 10]) R rfl rfl rfl hR (by simp; omega))
      refine wa ?_
      exact ⟨.d rfl (.inl rfl), trivial⟩
  by_cases r2 : rl = 2
  · subst r2
    have e : argA ⟨2, cl, ix, pr, tm⟩ = tm.map fun q => wdA (printL q) := rfl
    rw [e] at hR
    have hal : ∀ j, (tlX ((tm.take j).map fun q => wdA (printL q))).length ≤ tm.length * 30000001 := fun j => by
      refine Nat.le_trans (tl_len (B := 30000000) fun x hx => ?_) ?_
      · obtain ⟨q, hq, rfl⟩ := List.mem_map.1 hx
        rw [put_wd]
        exact printL_le (hbd q (List.mem_of_mem_take hq)) hk
      · rw [List.length_map, List.length_take]
        exact Nat.mul_le_mul_right _ (Nat.min_le_right _ _)
    have htl : (tm.map enQ).length = tm.length := List.length_map ..
    refine wa ?_
    ((try (first | intro K ms hms hK | intro K hK)); (first | apply Chain.go | apply Chain.goD); exact rfl; exact rfl; exact Loc.catL (m := [41, 32, 58, 114, 117, 108, 101, 32, 108, 97, 95, 103, 101, 110, 101, 114, 105, 99, 32, 58, 97, 114, 103, 115, 32, 40]) (U ++ midA 2) rfl rfl rfl rfl (by simp; omega))
    have hVl : (U ++ midA 2).length ≤ 5000000100 := by rw [List.length_append]; have : (midA 2).length = 26 := rfl; omega
    generalize U ++ midA 2 = V at hR hVl ⊢
    refine wa ?_
    refine AC.loop (X := Nat) (fun j => ⟨[(7, .d (.v (.string (tx V)))), (10, .d (.v (.string (tx (tlX ((tm.take j).map fun q => wdA (printL q))))))), (63, .d (.l (tm.map enQ))), (64, .d (.v (.int .i64 (tm.length : Int)))), (65, .d (.v (.int .i64 (j : Int))))], []⟩) (fun j => j ≤ tm.length) (fun j => tm.length - j) 0 (Nat.zero_le _) ⟨rfl, by dsimp only; rw [List.take_zero, List.map_nil, tlX]; rfl, rfl, rfl, rfl, trivial⟩ trivial ?_
    intro j hj
    dsimp only at hj ⊢
    have haj := hal j
    by_cases h2 : j < tm.length
    · have hx : tm[j]? = some tm[j] := List.getElem?_eq_getElem h2
      have hsn := tl_snoc (fun q => wdA (printL q)) h2
      have hpq := printQ tm[j] (hbd _ (List.getElem_mem h2)) (by omega)
      have hpl2 := printL_le (hbd _ (List.getElem_mem h2)) hk
      rw [put_wd] at hsn
      generalize printL tm[j] = u at hsn hpq hpl2
      generalize tlX ((tm.take j).map fun q => wdA (printL q)) = T2 at hsn haj ⊢
      generalize tm[j] = q at hx hpq
      refine wa ?_
      ((try (first | intro K ms hms hK | intro K hK)); (first | apply Chain.go | apply Chain.goD); exact rfl; exact rfl; exact Loc.catL (l := [32]) (32 :: u) rfl rfl rfl rfl (by simp; omega))
      ((try (first | intro K ms hms hK | intro K hK)); (first | apply Chain.go | apply Chain.goD); exact rfl; exact rfl; exact Loc.catL (T2 ++ 32 :: u) rfl rfl rfl rfl (by simp; omega))
      refine wa ?_
      exact ⟨j + 1, h2, by omega, ⟨rfl, by dsimp only; rw [hsn]; rfl, rfl, rfl, rfl, trivial⟩, trivial⟩
    · obtain rfl : j = tm.length := by omega
      rw [List.take_length] at haj ⊢
      generalize (tlX (tm.map fun q => wdA (printL q))) = A at hR haj ⊢
      by_cases hA : A = []
      · subst hA
        refine wa ?_
        ((try (first | intro K ms hms hK | intro K hK)); (first | apply Chain.go | apply Chain.goD); exact rfl; exact rfl; exact Loc.catL (l := V) (m := []) V rfl rfl rfl (List.append_nil _) (by simp; omega))
        ((try (first | intro K ms hms hK | intro K hK)); (first | apply Chain.go | apply Chain.goD); exact rfl; exact rfl; exact Loc.catL (m := [41, 41, 10]) R rfl rfl rfl (by rw [← hR]; simp) (by simp; omega))
        refine wa ?_
        exact ⟨.d rfl (.inl rfl), trivial⟩
      · have hA1 : 1 ≤ A.length := List.length_pos_iff.2 hA
        refine wa ?_
        ((try (first | intro K ms hms hK | intro K hK)); (first | apply Chain.go | apply Chain.goD); exact rfl; exact rfl; exact Loc.strFrom 1 rfl rfl rfl rfl hA1 (by kernel_rfl))
        refine wa ?_
        ((try (first | intro K ms hms hK | intro K hK)); (first | apply Chain.go | apply Chain.goD); exact rfl; exact rfl; exact Loc.catL (l := V) (m := A.drop 1) (V ++ A.drop 1) rfl rfl rfl rfl (by simp; omega))
        ((try (first | intro K ms hms hK | intro K hK)); (first | apply Chain.go | apply Chain.goD); exact rfl; exact rfl; exact Loc.catL (m := [41, 41, 10]) R rfl rfl rfl hR (by simp; omega))
        refine wa ?_
        exact ⟨.d rfl (.inl rfl), trivial⟩
  have r3 : rl = 3 := by rcases f5 with h | h | h <;> omega
  subst r3
  have e : argA ⟨3, cl, ix, pr, tm⟩ = pr.map (nmA 116) := rfl
  rw [e] at hR
  have hal : ∀ j, (tlX ((pr.take j).map (nmA 116))).length ≤ pr.length * 23 := fun j => by
    refine Nat.le_trans (tl_len (B := 22) fun x hx => ?_) ?_
    · obtain ⟨q, hq, rfl⟩ := List.mem_map.1 hx
      have := f4 q (List.mem_of_mem_take hq)
      have := itoa_len20 (n := q) this.1 (by omega)
      rw [put_nm, List.length_cons]
      omega
    · rw [List.length_map, List.length_take]
      exact Nat.mul_le_mul_right _ (Nat.min_le_right _ _)
  have htl : (pr.map fun v => [D.v (.int .i64 v)]).length = pr.length := List.length_map ..
  refine wa ?_
  ((try (first | intro K ms hms hK | intro K hK)); (first | apply Chain.go | apply Chain.goD); exact rfl; exact rfl; exact Loc.catL (m := [41, 32, 58, 114, 117, 108, 101, 32, 114, 101, 115, 111, 108, 117, 116, 105, 111, 110, 32, 58, 112, 114, 101, 109, 105, 115, 101, 115, 32, 40]) (U ++ midA 3) rfl rfl rfl rfl (by simp; omega))
  have hVl : (U ++ midA 3).length ≤ 5000000100 := by rw [List.length_append]; have : (midA 3).length = 30 := rfl; omega
  generalize U ++ midA 3 = V at hR hVl ⊢
  refine wa ?_
  refine AC.loop (X := Nat) (fun j => ⟨[(7, .d (.v (.string (tx V)))), (10, .d (.v (.string (tx (tlX ((pr.take j).map (nmA 116))))))), (38, .d (enZ pr)), (39, .d (.v (.int .i64 (pr.length : Int)))), (40, .d (.v (.int .i64 (j : Int))))], []⟩) (fun j => j ≤ pr.length) (fun j => pr.length - j) 0 (Nat.zero_le _) ⟨rfl, by dsimp only; rw [List.take_zero, List.map_nil, tlX]; rfl, rfl, rfl, rfl, trivial⟩ trivial ?_
  intro j hj
  dsimp only at hj ⊢
  have haj := hal j
  by_cases h2 : j < pr.length
  · have hx : pr[j]? = some pr[j] := List.getElem?_eq_getElem h2
    have hsn := tl_snoc (nmA 116) h2
    have hk0 := f4 _ (List.getElem_mem h2)
    have hpq := itoaK (Kw := Kw) pr[j] (by omega) (by omega)
    have hpl2 := itoa_len20 (n := pr[j]) hk0.1 (by omega)
    rw [put_nm] at hsn
    generalize Lib.itoa pr[j] = u at hsn hpq hpl2
    generalize tlX ((pr.take j).map (nmA 116)) = T2 at hsn haj ⊢
    generalize pr[j] = q at hx hpq
    refine wa ?_
    ((try (first | intro K ms hms hK | intro K hK)); (first | apply Chain.go | apply Chain.goD); exact rfl; exact rfl; exact Loc.catL (l := [32, 116]) (32 :: 116 :: u) rfl rfl rfl rfl (by simp; omega))
    ((try (first | intro K ms hms hK | intro K hK)); (first | apply Chain.go | apply Chain.goD); exact rfl; exact rfl; exact Loc.catL (T2 ++ 32 :: 116 :: u) rfl rfl rfl rfl (by simp; omega))
    refine wa ?_
    exact ⟨j + 1, h2, by omega, ⟨rfl, by dsimp only; rw [hsn]; rfl, rfl, rfl, rfl, trivial⟩, trivial⟩
  · obtain rfl : j = pr.length := by omega
    rw [List.take_length] at haj ⊢
    generalize tlX (pr.map (nmA 116)) = A at hR haj ⊢
    by_cases hA : A = []
    · subst hA
      refine wa ?_
      ((try (first | intro K ms hms hK | intro K hK)); (first | apply Chain.go | apply Chain.goD); exact rfl; exact rfl; exact Loc.catL (l := V) (m := []) V rfl rfl rfl (List.append_nil _) (by simp; omega))
      ((try (first | intro K ms hms hK | intro K hK)); (first | apply Chain.go | apply Chain.goD); exact rfl; exact rfl; exact Loc.catL (m := [41, 41, 10]) R rfl rfl rfl (by rw [← hR]; simp) (by simp; omega))
      refine wa ?_
      exact ⟨.d rfl (.inl rfl), trivial⟩
    · have hA1 : 1 ≤ A.length := List.length_pos_iff.2 hA
      refine wa ?_
      ((try (first | intro K ms hms hK | intro K hK)); (first | apply Chain.go | apply Chain.goD); exact rfl; exact rfl; exact Loc.strFrom 1 rfl rfl rfl rfl hA1 (by kernel_rfl))
      refine wa ?_
      ((try (first | intro K ms hms hK | intro K hK)); (first | apply Chain.go | apply Chain.goD); exact rfl; exact rfl; exact Loc.catL (l := V) (m := A.drop 1) (V ++ A.drop 1) rfl rfl rfl rfl (by simp; omega))
      ((try (first | intro K ms hms hK | intro K hK)); (first | apply Chain.go | apply Chain.goD); exact rfl; exact rfl; exact Loc.catL (m := [41, 41, 10]) R rfl rfl rfl hR (by simp; omega))
      refine wa ?_
      exact ⟨.d rfl (.inl rfl), trivial⟩
end
theorem textA_step (b : Int) {l : List Stp} {j : Nat} (h : j < l.length) : textA b (l.take (j + 1)) = textA b (l.take j) ++ alLine b l[j] j := by
  unfold textA
  rw [List.take_succ_eq_append_getElem h, List.zipIdx_append, List.flatMap_append, List.length_take, Nat.min_eq_left (by omega)]
  simp
theorem textA_len (b : Int) (l : List Stp) (j : Nat) : (textA b (l.take j)).length ≤ (textA b l).length := by
  conv => rhs; rw [← List.take_append_drop j l]
  unfold textA
  rw [List.zipIdx_append, List.flatMap_append, List.length_append]
  omega
section
variable {Kw : World → Prop} [KSt Kw] [KHas Kw Tab]
set_option maxRecDepth 100000 in
set_option maxHeartbeats 4000000 in
theorem textQF {k : Nat} (b : Int) (l : List Stp) (hb : 0 ≤ b ∧ b ≤ 1000) (hs : ∀ s ∈ l, okA s) (hf : ∀ i (h : i < l.length), fmA l[i] i = true) (hk : k ≤ 10000000) (hbd : ∀ s ∈ l, ∀ q ∈ s.tm, Bd k q) (hlen : l.length ≤ 300000) (htl : (textA b l).length ≤ 1000000000000) : FnK Tryz.prog 36 Kw [.d (.v (.int .i64 b)), .d (.l (l.map enSQ))] [.d (.v (.string (tx (textA b l))))] := by
  have hml : (l.map enSQ).length = l.length := List.length_map ..
  refine FnK.of Tryz.func36 rfl (by kernel_rfl) Tryz.ntmps36 Tryz.results36 rfl fun w0 S0 hK0 => ?_
  refine wa ?_
  refine AC.loop (X := Nat) (fun j => ⟨[(0, .d (.v (.int .i64 b))), (5, .d (.v (.string (tx (textA b (l.take j)))))), (8, .d (.l (l.map enSQ))), (9, .d (.v (.int .i64 (l.length : Int)))), (10, .d (.v (.int .i64 (j : Int))))], []⟩) (fun j => j ≤ l.length) (fun j => l.length - j) 0 (Nat.zero_le _) ⟨rfl, rfl, rfl, rfl, rfl, trivial⟩ trivial ?_
  intro j hj
  dsimp only at hj ⊢
  by_cases h1 : j < l.length
  · have hx := List.getElem?_eq_getElem h1
    have hst := textA_step b h1
    have hl1 := textA_len b l j
    have hl2 := textA_len b l (j + 1)
    have hm := List.getElem_mem h1
    have hln := lineQF (Kw := Kw) b l[j] j hb (hs _ hm) (hf j h1) (by omega) hk (hbd _ hm)
    rw [hst, List.length_append] at hl2
    generalize alLine b l[j] j = u at hst hln hl2
    generalize textA b (l.take j) = T at hst hl1 hl2 ⊢
    generalize l[j] = s at hx hln
    refine wa ?_
    ((try (first | intro K ms hms hK | intro K hK)); (first | apply Chain.go | apply Chain.goD); exact rfl; exact rfl; exact Loc.catL (T ++ u) rfl rfl rfl rfl (by omega))
    refine wa ?_
    exact ⟨j + 1, h1, by omega, ⟨rfl, by dsimp only; rw [hst]; rfl, rfl, rfl, rfl, trivial⟩, trivial⟩
  · obtain rfl : j = l.length := by omega
    rw [List.take_length]
    refine wa ?_
    exact ⟨.d rfl (.inl rfl), trivial⟩
end
end Go.Proofs.YtbbpecfapohlaaaGreatDoor
