/-
  The law attestlaw15.NetJoins.
-/
import Derived.Test.YthdkkpocihkgbaaGreatDoorNtY
namespace Go.Proofs.YthdkkpocihkgbaaGreatDoor
open Go.RowKit
attribute [local irreducible] AC Do St
theorem szN_add (k m : Nat) (i : Nat) : ∀ j, szN k (szN k m i) j = szN k m (i + j)
  | 0 => rfl
  | j + 1 => by rw [szN, szN_add k m i j]; rfl
theorem wids_get : ∀ (n : Int) (ls : List LN) (i : Nat), i ≤ ls.length → (wids n ls)[i]? = some ((ls.take i).foldl stW n)
  | n, [], 0, _ => rfl
  | n, [], i + 1, h => by simp at h
  | n, l :: r, 0, _ => rfl
  | n, l :: r, i + 1, h => by
    rw [wids, List.getElem?_cons_succ, wids_get (stW n l) r i (by simpa using h)]
    rfl
theorem Loc.remZ {P : Program} {C : Cx} {o : Oper} {σ : AS} {T T' : TypeId} {x y : Operand} {k : IntKind} {a b : Int} (ho : o.op = .binOp .rem T x y T') (hx : ev σ x = .d (.v (.int k a))) (hy : ev σ y = .d (.v (.int k b))) (hb : 0 < b) : Loc P C o σ (.d (.v (.int k (a.tmod b)))) :=
  Loc.bin ho hx hy (fun w => by
    have h1 : ¬ b = 0 := by omega
    cases k <;> simp [binOp, Op.intDiv, h1]) rfl
set_option maxRecDepth 100000 in
set_option maxHeartbeats 8000000 in
theorem netJoinsF {Kw : World → Prop} [KSt Kw] [KHas Kw MaxL] (n : Int) (ls : List LQ) (xs : List (Bool × List Nat × List Nat)) (a : Int) (hn : -9223372036854775808 ≤ n ∧ n ≤ 9223372036854775807) (hl : ∀ l ∈ ls, okLQ l) (hx : okP xs) : FnK Tryz.prog 7 Kw [.g (enQN n ls), .d (enNs xs), .d (.v (.int .i64 a))] [.d (.v (.bool true))] := by
  have hlt := lightF n ls hl
  have hon := onesF xs hx
  refine FnK.of Tryz.func7 rfl (by kernel_rfl) Tryz.ntmps7 Tryz.results7 rfl fun w0 S0 hK0 => ?_
  cases hL : lightQ n ls with
  | mk ls2 ok =>
  rw [hL] at hlt
  cases ok with
  | false =>
    refine wk ?_
    refine c1 hlt ?_
    refine wk ?_
    refine c1 hon ?_
    refine wk ?_
    refine c1 (awakeF (Kw := Kw)) ?_
    refine wk ?_
    exact ⟨.d rfl (.inl rfl), trivial⟩
  | true =>
  obtain ⟨e1, hn4, h3⟩ := light_ok (n := n) (ls := ls) (by rw [hL])
  rw [hL] at e1
  dsimp only at e1
  subst e1
  have hol : ∀ l ∈ ls.map lightL, okLQ l := fun l h => by
    obtain ⟨q, _, rfl⟩ := List.mem_map.1 h
    exact lightL_ok q
  have hof := of15F n (ls.map lightL) hol
  have hra := ratsF (onesN xs) onesN_ok
  obtain ⟨m3, mW, mB, mS⟩ := light_m ls h3
  have hbx := bdOnes (l := xs)
  have hxl := ratsN_len (onesN xs)
  generalize ofNs (ls.map lightL) = m at hof m3 mW mB mS
  generalize ratsN (onesN xs) = x at hra hbx hxl
  have hsz := sz3 m3
  have hev := evalF (k := 16) (m := 16) n m x mW mB hbx (by omega)
  unfold evalR at hev
  by_cases hg : greatB n m = true
  · rw [if_pos hg] at hev
    refine wk ?_
    refine c1 hlt ?_
    refine wk ?_
    refine c1 hon ?_
    refine wk ?_
    refine c1 hof ?_
    refine wk ?_
    refine c1 hra ?_
    refine wk ?_
    refine c1 hev ?_
    refine wk ?_
    refine c1 (awakeF (Kw := Kw)) ?_
    refine wk ?_
    exact ⟨.d rfl (.inl rfl), trivial⟩
  rw [if_neg hg] at hev
  by_cases hf : m.foldl stW n ≤ 0
  · rw [if_pos hf] at hev
    refine wk ?_
    refine c1 hlt ?_
    refine wk ?_
    refine c1 hon ?_
    refine wk ?_
    refine c1 hof ?_
    refine wk ?_
    refine c1 hra ?_
    refine wk ?_
    refine c1 hev ?_
    refine wk ?_
    refine c1 (awakeF (Kw := Kw)) ?_
    refine wk ?_
    exact ⟨.d rfl (.inl rfl), trivial⟩
  rw [if_neg hf] at hev
  by_cases hc : (x.length : Int) ≠ n
  · rw [if_pos hc] at hev
    refine wk ?_
    refine c1 hlt ?_
    refine wk ?_
    refine c1 hon ?_
    refine wk ?_
    refine c1 hof ?_
    refine wk ?_
    refine c1 hra ?_
    refine wk ?_
    refine c1 hev ?_
    refine wk ?_
    refine c1 (awakeF (Kw := Kw)) ?_
    refine wk ?_
    exact ⟨.d rfl (.inl rfl), trivial⟩
  rw [if_neg hc] at hev
  have hc : (x.length : Int) = n := by omega
  have hwd := widthsF n m
  unfold widsR at hwd
  rw [if_neg hg, if_neg hf] at hwd
  rw [Bool.not_eq_true] at hg
  obtain ⟨g1, g2, g3⟩ := great_out hg
  have hpos : 0 < m.foldl stW n := by omega
  have hinv := trace_inv g2 g3 hpos hc mW mB hbx (by omega)
  have hwl := wids_len n m
  have hly := (hinv m.length (Nat.le_refl _)).2.1
  have hby : ∀ q ∈ m.foldl (fun x l => stepN l x) x, Bd 1500000 q := fun q hq => ((hinv m.length (Nat.le_refl _)).2.2 q (by rw [List.take_of_length_le (Nat.le_refl _)]; exact hq)).mono hsz
  rw [List.take_of_length_le (Nat.le_refl _)] at hly
  have hny : Fn Tryz.prog 24 [.d (enRs (m.foldl (fun x l => stepN l x) x))] [.d (enQs (m.foldl (fun x l => stepN l x) x))] := nums _ 1500000 (by decide) hby (by omega)
  have hry := ratsEF (k := 1500000) (m := 1500000) _ _ (by omega) hby hby (by omega)
  rw [decide_eq_true rfl] at hry
  -- where the net is cut
  have key : ∀ k : Nat, k ≤ m.length → ∃ w y, (wids n m)[k]? = some w ∧ Fn Tryz.prog 22 [.g (enNet n (m.take k)), .d (enRs x)] [.d (enRs y), .d (.v (.int .i64 0))] ∧ Fn Tryz.prog 22 [.g (enNet w (m.drop k)), .d (enRs y)] [.d (enRs (m.foldl (fun x l => stepN l x) x)), .d (.v (.int .i64 0))] := fun k hk => by
    obtain ⟨a1, a2, a3⟩ := hinv k hk
    have hpk := stW_pos hpos k
    have gt : greatB n (m.take k) = false := by
      unfold greatB
      simp only [Bool.or_eq_false_iff, decide_eq_false_iff_not]
      exact ⟨⟨by omega, by simp; omega⟩, List.any_eq_false.2 fun l hl => by simpa using g2 l (List.mem_of_mem_take hl)⟩
    have h1 := evalF (k := 16) (m := 16) n (m.take k) x (fun l hl => mW l (List.mem_of_mem_take hl)) (fun l hl => mB l (List.mem_of_mem_take hl)) hbx (Nat.le_trans (szN_mono 16 16 (j := m.length) (by simp; omega)) (by omega))
    unfold evalR at h1
    rw [if_neg (by rw [gt]; decide), if_neg (by omega), if_neg (by omega)] at h1
    have hfw : (m.drop k).foldl stW ((m.take k).foldl stW n) = m.foldl stW n := by rw [← List.foldl_append, List.take_append_drop]
    have hfy : (m.drop k).foldl (fun x l => stepN l x) ((m.take k).foldl (fun x l => stepN l x) x) = m.foldl (fun x l => stepN l x) x := by rw [← List.foldl_append, List.take_append_drop]
    have gd : greatB ((m.take k).foldl stW n) (m.drop k) = false := by
      unfold greatB
      simp only [Bool.or_eq_false_iff, decide_eq_false_iff_not]
      exact ⟨⟨by omega, by simp; omega⟩, List.any_eq_false.2 fun l hl => by simpa using g2 l (List.mem_of_mem_drop hl)⟩
    have h2 := evalF (k := 16) (m := szN 16 16 k) ((m.take k).foldl stW n) (m.drop k) ((m.take k).foldl (fun x l => stepN l x) x) (fun l hl => mW l (List.mem_of_mem_drop hl)) (fun l hl => mB l (List.mem_of_mem_drop hl)) a3 (by rw [szN_add]; exact Nat.le_trans (szN_mono 16 16 (j := m.length) (by simp; omega)) (by omega))
    unfold evalR at h2
    rw [if_neg (by rw [gd]; decide), if_neg (by omega), if_neg (by omega), hfy] at h2
    exact ⟨_, _, wids_get n m k hk, h1, h2⟩
  have hdk : ∀ k, (m.map enLN).drop k = (m.drop k).map enLN := fun k => List.map_drop.symm
  have h4 : ∀ y ∈ m.map enLN, y.length = 4 := fun y hy => by
    obtain ⟨l, _, rfl⟩ := List.mem_map.1 hy
    rfl
  have hmn : (m.map enLN).length = m.length := List.length_map ..
  have hb0 : (0 : Int) < (m.length : Int) + 1 := by omega
  have ht1 : ((a.tmod ((m.length : Int) + 1)).natAbs : Int) ≤ m.length := by
    have := Int.natAbs_tmod a ((m.length : Int) + 1)
    have h5 := Nat.mod_lt a.natAbs (show 0 < ((m.length : Int) + 1).natAbs by omega)
    omega
  refine wk ?_
  refine c1 hlt ?_
  refine wk ?_
  refine c1 hon ?_
  refine wk ?_
  refine c1 hof ?_
  refine wk ?_
  refine c1 hra ?_
  refine wk ?_
  refine c1 hev ?_
  refine wk ?_
  ((try (first | intro K ms hms hK | intro K hK)); (first | apply Chain.go | apply Chain.goD); exact rfl; exact rfl; exact Loc.remZ rfl rfl rfl (by omega))
  generalize a.tmod ((m.length : Int) + 1) = t at ht1
  by_cases htz : t < 0
  · obtain ⟨k, hk⟩ : ∃ k : Nat, t = -(k : Int) := ⟨t.natAbs, by omega⟩
    obtain ⟨w, y, k1, k2, k3⟩ := key k (by omega)
    refine wk ?_
    ((try (first | intro K ms hms hK | intro K hK)); (first | apply Chain.go | apply Chain.goD); exact rfl; exact rfl; exact Loc.neg rfl rfl (by rw [hk]; exact (IntWalk.i64_in _ (by omega)).trans (by omega)))
    rw [show -t = (k : Int) by omega]
    refine wk ?_
    refine c1 hwd ?_
    refine wk ?_
    ((try (first | intro K ms hms hK | intro K hK)); (first | apply Chain.go | apply Chain.goD); exact rfl; exact rfl; exact Loc.partM (f := enLN) (ts := m) k rfl rfl rfl rfl (by omega))
    refine wk ?_
    refine c1 hra ?_
    refine wk ?_
    refine c1 k2 ?_
    refine wk ?_
    ((try (first | intro K ms hms hK | intro K hK)); (first | apply Chain.go | apply Chain.goD); exact rfl; exact rfl; exact Loc.tailL k rfl rfl rfl rfl (by omega) h4)
    rw [hdk]
    refine wk ?_
    refine c1 k3 ?_
    refine wk ?_
    refine c1 (awakeF (Kw := Kw)) ?_
    refine wk ?_
    refine c1 hny ?_
    refine wk ?_
    refine c1 hny ?_
    refine wk ?_
    refine c1 hry ?_
    refine wk ?_
    exact ⟨.d rfl (.inl rfl), trivial⟩
  · obtain ⟨k, rfl⟩ : ∃ k : Nat, t = (k : Int) := ⟨t.natAbs, by omega⟩
    obtain ⟨w, y, k1, k2, k3⟩ := key k (by omega)
    refine wk ?_
    refine c1 hwd ?_
    refine wk ?_
    ((try (first | intro K ms hms hK | intro K hK)); (first | apply Chain.go | apply Chain.goD); exact rfl; exact rfl; exact Loc.partM (f := enLN) (ts := m) k rfl rfl rfl rfl (by omega))
    refine wk ?_
    refine c1 hra ?_
    refine wk ?_
    refine c1 k2 ?_
    refine wk ?_
    ((try (first | intro K ms hms hK | intro K hK)); (first | apply Chain.go | apply Chain.goD); exact rfl; exact rfl; exact Loc.tailL k rfl rfl rfl rfl (by omega) h4)
    rw [hdk]
    refine wk ?_
    refine c1 k3 ?_
    refine wk ?_
    refine c1 (awakeF (Kw := Kw)) ?_
    refine wk ?_
    refine c1 hny ?_
    refine wk ?_
    refine c1 hny ?_
    refine wk ?_
    refine c1 hry ?_
    refine wk ?_
    exact ⟨.d rfl (.inl rfl), trivial⟩
end Go.Proofs.YthdkkpocihkgbaaGreatDoor
