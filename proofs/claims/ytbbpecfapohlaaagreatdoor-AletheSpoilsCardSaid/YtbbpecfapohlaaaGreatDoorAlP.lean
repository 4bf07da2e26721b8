import Derived.Test.YtbbpecfapohlaaaGreatDoorAlL
import Derived.Test.YtbbpecfapohlaaaGreatDoorBlB
namespace Go.Proofs.YtbbpecfapohlaaaGreatDoor
open Go.RowKit
attribute [local irreducible] AC Do St
theorem word0 (w : List UInt8) : Fn Tryz.prog 151 [.d (.v (.string (tx w)))] [.g [.v (.bool true), .v (.string (tx w)), .l []]] := by
  have := sexpWord w
  rw [enX_mk] at this
  exact this
theorem enX_nm (k : UInt8) (n : Int) : enX (nmA k n) = [.v (.bool true), .v (.string (tx (k :: Lib.itoa n))), .l []] := enX_mk _ _ _
theorem enX_wdA (w : List UInt8) : enX (wdA w) = [.v (.bool true), .v (.string (tx w)), .l []] := enX_mk _ _ _
theorem map_snoc {α : Type} (f : α → ST) {l : List α} {j : Nat} (h : j < l.length) : ((l.take (j + 1)).map f).map enX = ((l.take j).map f).map enX ++ [enX (f l[j])] := by
  rw [List.take_succ_eq_append_getElem h, List.map_append, List.map_append]
  rfl
section
variable {Kw : World → Prop} [KSt Kw] [KHas Kw Tab]
set_option maxRecDepth 100000 in
set_option maxHeartbeats 8000000 in
theorem rowAF {k : Nat} (b : Int) (s : Stp) (i : Nat) (hb : 0 ≤ b ∧ b ≤ 1000) (hs : okA s) (hf : fmA s i = true) (_hi : i ≤ 1000000) (hk : k ≤ 10000000) (hbd : ∀ q ∈ s.tm, Bd k q) : FnK Tryz.prog 85 Kw [.d (.v (.int .i64 b)), .g (enS s), .d (.v (.int .i64 (i : Int)))] [.g (enX (alRow b s i))] := by
  have hnt := nameAF (Kw := Kw) 116 (i : Int) (by omega) (by omega)
  have hrow : enX (alRow b s i) = [.v (.bool false), .v (.string (tx [])), .l [[.v (.bool true), .v (.string (tx cStep)), .l []], [.v (.bool true), .v (.string (tx (116 :: Lib.itoa (i : Int)))), .l []], [.v (.bool false), .v (.string (tx [])), .l (([.v (.bool true), .v (.string (tx cCl)), .l []] :: (s.cl.map (alLit b)).map enX))], [.v (.bool true), .v (.string (tx cRule)), .l []], [.v (.bool true), .v (.string (tx (if s.rule = 1 then cAss else if s.rule = 2 then cLa else cRes))), .l []], [.v (.bool true), .v (.string (tx (if s.rule = 1 ∨ s.rule = 2 then cArgs else cPrem))), .l []], [.v (.bool false), .v (.string (tx [])), .l ((argA s).map enX)]]] := by
    unfold alRow
    simp only [enX_mk, List.map_cons, List.map_nil, enX_nm, enX_wdA]
  have hr := sexpRow [wdA cStep, nmA 116 i, .mk false [] (wdA cCl :: s.cl.map (alLit b)), wdA cRule, wdA (if s.rule = 1 then cAss else if s.rule = 2 then cLa else cRes), wdA (if s.rule = 1 ∨ s.rule = 2 then cArgs else cPrem), .mk false [] (argA s)] (by simp)
  rw [show enX (.mk false [] [wdA cStep, nmA 116 i, .mk false [] (wdA cCl :: s.cl.map (alLit b)), wdA cRule, wdA (if s.rule = 1 then cAss else if s.rule = 2 then cLa else cRes), wdA (if s.rule = 1 ∨ s.rule = 2 then cArgs else cPrem), .mk false [] (argA s)]) = enX (alRow b s i) from rfl, hrow] at hr
  simp only [List.map_cons, List.map_nil, enX_mk, enX_nm, enX_wdA] at hr
  rw [hrow]
  rw [enX_nm] at hnt
  generalize hgt : Lib.itoa (i : Int) = ti at hnt hr ⊢
  clear hrow hgt
  obtain ⟨f1, f2, f3, f4, f5⟩ := fmA_iff.1 hf
  obtain ⟨q1, q2, q3, q4, q5, q6, q7⟩ := hs
  obtain ⟨rl, cl, ix, pr, tm⟩ := s
  dsimp only at q1 q2 q3 q4 q5 q6 q7 f1 f2 f3 f4 f5 hbd hr ⊢
  unfold enS
  dsimp only
  have hml : (cl.map fun v => [D.v (.int .i64 v)]).length = cl.length := List.length_map ..
  have hll : ∀ j, (((cl.take j).map (alLit b)).map enX).length ≤ cl.length := fun j => by simp; omega
  refine FnK.of Tryz.func85 rfl (by kernel_rfl) Tryz.ntmps85 Tryz.results85 rfl fun w0 S0 hK0 => ?_
  refine wn ?_
  refine c1 (word0 cCl) ?_
  ((try (first | intro K ms hms hK | intro K hK)); (first | apply Chain.ef | apply Chain.efD); exact rfl; exact rfl; exact Do.litR rfl rfl rfl rfl rfl rfl rfl rfl; exact rfl; exact rfl)
  refine wa ?_
  refine AC.loop (X := Nat × Nat) (fun x => ⟨[(0, .d (.v (.int .i64 b))), (2, .d (.v (.int .i64 (i : Int)))), (4, .p 4 0), (6, .p 6 0), (7, .r 18 x.2), (20, .d (enZ cl)), (21, .d (.v (.int .i64 (cl.length : Int)))), (22, .d (.v (.int .i64 (x.1 : Int))))], [(4, .box 57 [.d (.v (.int .i64 rl)), .d (enZ cl), .d (.v (.int .i64 ix)), .d (enZ pr), .d (.l (tm.map enR))]), (6, .box 98 [.d (.v (.bool false)), .d (.v (.string (tx []))), .d .n]), (18, .row x.2 98 3 ([.v (.bool true), .v (.string (tx cCl)), .l []] :: ((cl.take x.1).map (alLit b)).map enX))]⟩) (fun x => x.1 ≤ cl.length) (fun x => cl.length - x.1) (0, 0) (Nat.zero_le _) ⟨rfl, rfl, rfl, rfl, rfl, rfl, rfl, rfl, trivial⟩ ⟨rfl, rfl, rfl, trivial⟩ ?_
  intro ⟨j, g⟩ hj
  dsimp only at hj ⊢
  have hlj := hll j
  by_cases h1 : j < cl.length
  · have hx := List.getElem?_eq_getElem h1
    have hsn := map_snoc (alLit b) h1
    have hm := List.getElem_mem h1
    have hlt := litAF (Kw := Kw) b cl[j] hb (f1 _ hm) (f3 _ hm)
    have hlc : (([D.v (.bool true), .v (.string (tx cCl)), .l []] :: ((cl.take j).map (alLit b)).map enX)).length ≤ 100000001 := by rw [List.length_cons]; omega
    generalize alLit b cl[j] = u at hsn hlt
    generalize cl[j] = l at hx hlt
    generalize ((cl.take j).map (alLit b)).map enX = T at hsn hlj hlc ⊢
    refine wa ?_
    exact ⟨(j + 1, g + 1), h1, by dsimp only; omega, ⟨rfl, rfl, rfl, rfl, rfl, rfl, rfl, rfl, trivial⟩, ⟨rfl, rfl, by dsimp only; rw [hsn]; rfl, trivial⟩⟩
  obtain rfl : j = cl.length := by omega
  rw [List.take_length]
  refine AC.frzVar 7 rfl rfl ?_
  generalize ([D.v (.bool true), .v (.string (tx cCl)), .l []] :: (cl.map (alLit b)).map enX) = L at hr ⊢
  by_cases r1 : rl = 1
  · subst r1
    have hi0 : 0 ≤ ix := by rcases f5 with h | h | h <;> first | exact h.2.1 | (exfalso; omega)
    have hix := itoaK (Kw := Kw) ix (by omega) (by have := q2.2; omega)
    have e : (argA ⟨1, cl, ix, pr, tm⟩).map enX = [[.v (.bool true), .v (.string (tx (Lib.itoa ix))), .l []]] := by
      show [enX (wdA (Lib.itoa ix))] = _
      rw [enX_wdA]
    rw [e] at hr ⊢
    rw [if_pos rfl, if_pos (.inl rfl)] at hr ⊢
    generalize Lib.itoa ix = u at hr hix ⊢
    refine wn ?_
    refine c1 hix ?_
    refine c1 (word0 u) ?_
    ((try (first | intro K ms hms hK | intro K hK)); (first | apply Chain.go | apply Chain.goD); exact rfl; exact rfl; exact Loc.litP rfl rfl rfl rfl rfl rfl rfl)
    ((try (first | intro K ms hms hK | intro K hK)); (first | apply Chain.ef | apply Chain.efD); exact rfl; exact rfl; exact Do.appendN1 rfl rfl rfl rfl rfl rfl; exact rfl; exact rfl)
    ((try (first | intro K ms hms hK | intro K hK)); (first | apply Chain.go | apply Chain.goD); exact rfl; exact rfl; exact Loc.assign (v := .r _ _) rfl rfl)
    refine Chain.frzVar 10 rfl rfl ?_
    refine wn ?_
    refine c1 (word0 cStep) ?_
    refine wa ?_
    refine c1 (word0 cRule) ?_
    refine wa ?_
    refine c1 (word0 cAss) ?_
    refine wa ?_
    refine c1 (word0 cArgs) ?_
    refine wa ?_
    exact ⟨.cn rfl rfl inferInstance rfl ⟨.inl rfl, .inl rfl, .inl rfl, trivial⟩, trivial⟩
  by_cases r2 : rl = 2
  · subst r2
    have e : argA ⟨2, cl, ix, pr, tm⟩ = tm.map fun q => wdA (printL q) := rfl
    rw [e] at hr ⊢
    rw [if_neg (by decide), if_pos rfl, if_pos (.inr rfl)] at hr ⊢
    have htl : (tm.map enR).length = tm.length := List.length_map ..
    have hal : ∀ j, (((tm.take j).map fun q => wdA (printL q)).map enX).length ≤ tm.length := fun j => by simp; omega
    refine wa ?_
    refine AC.rowVar 10 72 98 3 rfl rfl ?_
    refine AC.loop (X := Nat × Nat) (fun x => ⟨[(0, .d (.v (.int .i64 b))), (2, .d (.v (.int .i64 (i : Int)))), (4, .p 4 0), (6, .p 6 0), (7, .d (.l L)), (10, .r 72 x.2), (11, .d (.v (.string (tx cLa)))), (12, .d (.v (.string (tx cArgs)))), (60, .d (.l (tm.map enR))), (61, .d (.v (.int .i64 (tm.length : Int)))), (62, .d (.v (.int .i64 (x.1 : Int))))], [(4, .box 57 [.d (.v (.int .i64 2)), .d (enZ cl), .d (.v (.int .i64 ix)), .d (enZ pr), .d (.l (tm.map enR))]), (6, .box 98 [.d (.v (.bool false)), .d (.v (.string (tx []))), .d .n]), (72, .row x.2 98 3 (((tm.take x.1).map fun q => wdA (printL q)).map enX))]⟩) (fun x => x.1 ≤ tm.length) (fun x => tm.length - x.1) (0, 0) (Nat.zero_le _) ⟨rfl, rfl, rfl, rfl, rfl, rfl, rfl, rfl, rfl, rfl, rfl, trivial⟩ ⟨rfl, rfl, rfl, trivial⟩ ?_
    intro ⟨m, g2⟩ hm
    dsimp only at hm ⊢
    have haj := hal m
    by_cases h2 : m < tm.length
    · have hx : tm[m]? = some tm[m] := List.getElem?_eq_getElem h2
      have hsn := map_snoc (fun q => wdA (printL q)) h2
      have hpq := printF (hbd _ (List.getElem_mem h2)) (by omega)
      rw [enX_wdA] at hsn
      generalize printL tm[m] = u at hsn hpq
      generalize ((tm.take m).map fun q => wdA (printL q)).map enX = T at hsn haj ⊢
      generalize tm[m] = q at hx hpq
      refine wa ?_
      refine c1 (word0 u) ?_
      refine wa ?_
      exact ⟨(m + 1, g2 + 1), h2, by dsimp only; omega, ⟨rfl, rfl, rfl, rfl, rfl, rfl, rfl, rfl, rfl, rfl, rfl, trivial⟩, ⟨rfl, rfl, by dsimp only; rw [hsn]; rfl, trivial⟩⟩
    obtain rfl : m = tm.length := by omega
    rw [List.take_length]
    refine AC.frzVar 10 rfl rfl ?_
    generalize (tm.map fun q => wdA (printL q)).map enX = A at hr ⊢
    refine wa ?_
    refine c1 (word0 cStep) ?_
    refine wa ?_
    refine c1 (word0 cRule) ?_
    refine wa ?_
    refine c1 (word0 cLa) ?_
    refine wa ?_
    refine c1 (word0 cArgs) ?_
    refine wa ?_
    exact ⟨.cn rfl rfl inferInstance rfl ⟨.inl rfl, .inl rfl, .inl rfl, trivial⟩, trivial⟩
  have r3 : rl = 3 := by rcases f5 with h | h | h <;> omega
  subst r3
  have e : argA ⟨3, cl, ix, pr, tm⟩ = pr.map (nmA 116) := rfl
  rw [e] at hr ⊢
  rw [if_neg (by decide), if_neg (by decide), if_neg (by decide)] at hr ⊢
  have htl : (pr.map fun v => [D.v (.int .i64 v)]).length = pr.length := List.length_map ..
  have hal : ∀ j, (((pr.take j).map (nmA 116)).map enX).length ≤ pr.length := fun j => by simp; omega
  refine wa ?_
  refine AC.rowVar 10 72 98 3 rfl rfl ?_
  refine AC.loop (X := Nat × Nat) (fun x => ⟨[(0, .d (.v (.int .i64 b))), (2, .d (.v (.int .i64 (i : Int)))), (4, .p 4 0), (6, .p 6 0), (7, .d (.l L)), (10, .r 72 x.2), (11, .d (.v (.string (tx cRes)))), (12, .d (.v (.string (tx cPrem)))), (36, .d (enZ pr)), (37, .d (.v (.int .i64 (pr.length : Int)))), (38, .d (.v (.int .i64 (x.1 : Int))))], [(4, .box 57 [.d (.v (.int .i64 3)), .d (enZ cl), .d (.v (.int .i64 ix)), .d (enZ pr), .d (.l (tm.map enR))]), (6, .box 98 [.d (.v (.bool false)), .d (.v (.string (tx []))), .d .n]), (72, .row x.2 98 3 (((pr.take x.1).map (nmA 116)).map enX))]⟩) (fun x => x.1 ≤ pr.length) (fun x => pr.length - x.1) (0, 0) (Nat.zero_le _) ⟨rfl, rfl, rfl, rfl, rfl, rfl, rfl, rfl, rfl, rfl, rfl, trivial⟩ ⟨rfl, rfl, rfl, trivial⟩ ?_
  intro ⟨m, g2⟩ hm
  dsimp only at hm ⊢
  have haj := hal m
  by_cases h2 : m < pr.length
  · have hx : pr[m]? = some pr[m] := List.getElem?_eq_getElem h2
    have hsn := map_snoc (nmA 116) h2
    have hk0 := f4 _ (List.getElem_mem h2)
    have hpq := nameAF (Kw := Kw) 116 pr[m] hk0.1 (by omega)
    rw [enX_nm] at hsn hpq
    generalize Lib.itoa pr[m] = u at hsn hpq
    generalize ((pr.take m).map (nmA 116)).map enX = T at hsn haj ⊢
    generalize pr[m] = q at hx hpq
    clear hnt
    refine wa ?_
    exact ⟨(m + 1, g2 + 1), h2, by dsimp only; omega, ⟨rfl, rfl, rfl, rfl, rfl, rfl, rfl, rfl, rfl, rfl, rfl, trivial⟩, ⟨rfl, rfl, by dsimp only; rw [hsn]; rfl, trivial⟩⟩
  obtain rfl : m = pr.length := by omega
  rw [List.take_length]
  refine AC.frzVar 10 rfl rfl ?_
  generalize (pr.map (nmA 116)).map enX = A at hr ⊢
  refine wa ?_
  refine c1 (word0 cStep) ?_
  refine wa ?_
  refine c1 (word0 cRule) ?_
  refine wa ?_
  refine c1 (word0 cRes) ?_
  refine wa ?_
  refine c1 (word0 cPrem) ?_
  refine wa ?_
  exact ⟨.cn rfl rfl inferInstance rfl ⟨.inl rfl, .inl rfl, .inl rfl, trivial⟩, trivial⟩
end
theorem prA_err {b : Int} {l : List Stp} (h : chA b l ≠ 0) : prA b l = ([], chA b l) := if_pos h
theorem prA_big {b : Int} {l : List Stp} (h : chA b l = 0) (h2 : bigA l = true ∨ chX (rowsA b l) ≠ 0 ∨ 1000000 < (textA b l).length) : prA b l = ([], 2) := by unfold prA; rw [if_neg (by simpa using h), if_pos h2]
theorem prA_ok {b : Int} {l : List Stp} (h : chA b l = 0) (h1 : bigA l = false) (h2 : chX (rowsA b l) = 0) (h3 : (textA b l).length ≤ 1000000) : prA b l = (textA b l, 0) := by
  unfold prA
  rw [if_neg (by simpa using h), if_neg]
  rintro (h4 | h4 | h4)
  · rw [h1] at h4; cases h4
  · exact h4 h2
  · omega
theorem rows_step (b : Int) {l : List Stp} {j : Nat} (h : j < l.length) : (rowsA b (l.take (j + 1))).map enX = (rowsA b (l.take j)).map enX ++ [enX (alRow b l[j] j)] := by
  unfold rowsA
  rw [List.take_succ_eq_append_getElem h, List.zipIdx_append, List.map_append, List.map_append, List.length_take, Nat.min_eq_left (by omega)]
  simp
section
variable {Kw : World → Prop} [KSt Kw] [KHas Kw Tab]
set_option maxRecDepth 100000 in
set_option maxHeartbeats 8000000 in
theorem printAF {k : Nat} (b : Int) (l : List Stp) (hs : ∀ s ∈ l, okA s) (hk : k ≤ 10000000) (hbd : ∀ s ∈ l, ∀ q ∈ s.tm, Bd k q) (hlen : l.length ≤ 1000000000) (hok : chA b l = 0 → okXs (rowsA b l)) (htl : chA b l = 0 → (textA b l).length ≤ 1000000000000) : FnK Tryz.prog 40 Kw [.d (.v (.int .i64 b)), .d (.l (l.map enS))] [.d (.v (.string (tx (prA b l).1))), .d (.v (.int .i64 (prA b l).2))] := by
  have hck := checkAF b l hs hlen
  obtain ⟨R, hR⟩ : ∃ R, prA b l = R := ⟨_, rfl⟩
  rw [hR]
  have hml : (l.map enS).length = l.length := List.length_map ..
  by_cases h0 : chA b l = 0
  rotate_left
  · rw [prA_err h0] at hR
    subst hR
    dsimp only
    generalize chA b l = c at hck h0 ⊢
    refine FnK.of Tryz.func40 rfl (by kernel_rfl) Tryz.ntmps40 Tryz.results40 rfl fun w0 S0 hK0 => ?_
    refine wa ?_
    exact ⟨.d rfl (.inl rfl), .d rfl (.inl rfl), trivial⟩
  have hok := hok h0
  have htl := htl h0
  obtain ⟨hb, hl3, hf⟩ := chA_0 h0
  rw [h0] at hck
  have hpr := sexpPrint (rowsA b l) (by rw [rowsA_len]; omega) hok (by rw [text_rows]; exact htl)
  have hbig : bigA l = true → R = ([], 2) := fun h => by rw [← hR]; exact prA_big h0 (.inl h)
  refine FnK.of Tryz.func40 rfl (by kernel_rfl) Tryz.ntmps40 Tryz.results40 rfl fun w0 S0 hK0 => ?_
  refine wa ?_
  refine AC.rowVar 7 59 98 3 rfl rfl ?_
  refine AC.loop (X := Nat × Nat) (fun x => ⟨[(0, .d (.v (.int .i64 b))), (7, .r 59 x.2), (20, .d (.l (l.map enS))), (21, .d (.v (.int .i64 (l.length : Int)))), (22, .d (.v (.int .i64 (x.1 : Int))))], [(59, .row x.2 98 3 ((rowsA b (l.take x.1)).map enX))]⟩) (fun x => x.1 ≤ l.length ∧ bigA (l.take x.1) = false) (fun x => l.length - x.1) (0, 0) ⟨Nat.zero_le _, rfl⟩ ⟨rfl, rfl, rfl, rfl, rfl, trivial⟩ ⟨rfl, trivial⟩ ?_
  intro ⟨i, g⟩ ⟨hi, hbg⟩
  dsimp only at hi hbg ⊢
  have hrl : ((rowsA b (l.take i)).map enX).length ≤ l.length := by rw [List.length_map, rowsA_len, List.length_take]; omega
  by_cases h1 : i < l.length
  · have hx := List.getElem?_eq_getElem h1
    have hm := List.getElem_mem h1
    have hst := rows_step b h1
    have hrw := rowAF (Kw := Kw) b l[i] i hb (hs _ hm) (hf i h1) (by omega) hk (hbd _ hm)
    have hbs : (l[i].tm.any fun q => decide (20000 < (printL q).length)) = false → bigA (l.take (i + 1)) = false := fun h => by
      rw [List.take_succ_eq_append_getElem h1]
      unfold bigA at hbg ⊢
      rw [List.any_append, hbg, Bool.false_or, List.any_cons, h, List.any_nil]
      rfl
    have hbb : (l[i].tm.any fun q => decide (20000 < (printL q).length)) = true → bigA l = true := fun h => List.any_eq_true.2 ⟨_, hm, h⟩
    have hbt := hbd _ hm
    have hts := (hs _ hm).ntm
    generalize alRow b l[i] i = u at hst hrw
    generalize (rowsA b (l.take i)).map enX = T at hst hrl ⊢
    generalize l[i] = s at hx hrw hbs hbb hbt hts
    obtain ⟨rl, cl, ix, pr, tm⟩ := s
    dsimp only at hbs hbb hbt hts
    unfold enS at hrw
    dsimp only at hrw
    have htm : (tm.map enR).length = tm.length := List.length_map ..
    have hx2 : (l.map enS)[i]? = some [.v (.int .i64 rl), enZ cl, .v (.int .i64 ix), enZ pr, .l (tm.map enR)] := by rw [List.getElem?_map, hx]; rfl
    refine wa ?_
    refine AC.loop (X := Nat) (fun j => ⟨[(0, .d (.v (.int .i64 b))), (7, .r 59 g), (8, .d (.v (.int .i64 (i : Int)))), (9, .p 9 0), (20, .d (.l (l.map enS))), (21, .d (.v (.int .i64 (l.length : Int)))), (22, .d (.v (.int .i64 (i : Int)))), (28, .d (.l (tm.map enR))), (29, .d (.v (.int .i64 (tm.length : Int)))), (30, .d (.v (.int .i64 (j : Int))))], [(9, .box 57 [.d (.v (.int .i64 rl)), .d (enZ cl), .d (.v (.int .i64 ix)), .d (enZ pr), .d (.l (tm.map enR))]), (59, .row g 98 3 T)]⟩) (fun j => j ≤ tm.length ∧ (∀ q ∈ tm.take j, (printL q).length ≤ 20000)) (fun j => tm.length - j) 0 ⟨Nat.zero_le _, fun q hq => by simp at hq⟩ ⟨rfl, rfl, rfl, rfl, rfl, rfl, rfl, rfl, rfl, rfl, trivial⟩ ⟨rfl, rfl, trivial⟩ ?_
    intro j ⟨hj, hq⟩
    dsimp only at hj hq ⊢
    by_cases h2 : j < tm.length
    · have hy : tm[j]? = some tm[j] := List.getElem?_eq_getElem h2
      have hpf := printF (hbt _ (List.getElem_mem h2)) (by omega)
      have hbj : 20000 < (printL tm[j]).length → (tm.any fun q => decide (20000 < (printL q).length)) = true := fun h => List.any_eq_true.2 ⟨_, List.getElem_mem h2, by simpa using h⟩
      have hsj : (printL tm[j]).length ≤ 20000 → ∀ q ∈ tm.take (j + 1), (printL q).length ≤ 20000 := fun h q hq2 => by
        rw [List.take_succ_eq_append_getElem h2] at hq2
        rcases List.mem_append.1 hq2 with hq2 | hq2
        · exact hq q hq2
        · rw [List.mem_singleton.1 hq2]; exact h
      generalize printL tm[j] = w at hpf hbj hsj
      generalize tm[j] = q at hy hpf
      by_cases h3 : 20000 < w.length
      · obtain rfl := hbig (hbb (hbj h3))
        refine wa ?_
        exact ⟨.d rfl (.inl rfl), .d rfl (.inl rfl), trivial⟩
      · refine wa ?_
        exact ⟨j + 1, ⟨h2, hsj (by omega)⟩, by omega, ⟨rfl, rfl, rfl, rfl, rfl, rfl, rfl, rfl, rfl, rfl, trivial⟩, ⟨rfl, rfl, trivial⟩⟩
    · rw [List.take_of_length_le (by omega)] at hq
      have hbs := hbs (by
        rw [List.any_eq_false]
        intro q hq2
        have := hq q hq2
        simpa using this)
      refine wa ?_
      exact ⟨(i + 1, g + 1), ⟨h1, hbs⟩, by dsimp only; omega, ⟨rfl, rfl, rfl, rfl, rfl, trivial⟩, ⟨by dsimp only; rw [hst]; rfl, trivial⟩⟩
  obtain rfl : i = l.length := by omega
  rw [List.take_length] at hbg ⊢
  refine AC.frzVar 7 rfl rfl ?_
  unfold prX at hpr
  by_cases h2 : chX (rowsA b l) = 0
  · rw [if_pos h2, text_rows] at hpr
    by_cases h3 : 1000000 < (textA b l).length
    · obtain rfl : R = ([], 2) := by rw [← hR]; exact prA_big h0 (.inr (.inr h3))
      refine wa ?_
      exact ⟨.d rfl (.inl rfl), .d rfl (.inl rfl), trivial⟩
    · obtain rfl : R = (textA b l, 0) := by rw [← hR]; exact prA_ok h0 hbg h2 (by omega)
      refine wa ?_
      exact ⟨.d rfl (.inl rfl), .d rfl (.inl rfl), trivial⟩
  · rw [if_neg h2] at hpr
    obtain rfl : R = ([], 2) := by rw [← hR]; exact prA_big h0 (.inr (.inl h2))
    generalize chX (rowsA b l) = c at hpr h2
    refine wa ?_
    exact ⟨.d rfl (.inl rfl), .d rfl (.inl rfl), trivial⟩
end
end Go.Proofs.YtbbpecfapohlaaaGreatDoor
