/-
  strings.Join by plain data.
  A step's key, whatever its numbers.
  Numbers packed into a text are told by it. No program in sight.
-/
import Derived.Test.YtfijmpmojhlnmaaGreatDoorDigA
import Derived.Test.YtfijmpmojhlnmaaGreatDoorLayJoin
import Derived.Test.YtfijmpmojhlnmaaGreatDoorCmpF
namespace Go.Proofs.YtfijmpmojhlnmaaGreatDoor
open Go.RowKit
theorem join_eq (c : UInt8) : ∀ xs : List (List UInt8), Lib.join xs [c] = joinL c xs
  | [] => rfl
  | [a] => Lib.join_one a [c]
  | a :: b :: r => by
    have ih := join_eq c (b :: r)
    rw [Lib.join_cons] at ih ⊢
    show a ++ Lib.joinTail [c] (b :: r) = a ++ c :: joinL c (b :: r)
    rw [← ih]
    simp [Lib.joinTail]
def enTx (s : List UInt8) : List D := [.v (.string (tx s))]
theorem joinF (xs : List (List UInt8)) (hl : (joinL 32 xs).length ≤ 140737488355328) (hn : xs.length ≤ 140737488355328) : Fn Tryz.prog 71 [.d (.l (xs.map enTx)), .d (.v (.string (tx [32])))] [.d (.v (.string (tx (joinL 32 xs))))] :=
  ⟨⟨_, Tryz.func71, by kernel_rfl, by kernel_rfl⟩, fun S w vs hS hv => by
    obtain ⟨u, v, rfl, ha, hb⟩ := hv.two
    have hb : RD S w v (.v (.string (tx [32]))) := hb
    have ha : RD S w u (.l (xs.map enTx)) := ha
    cases hb
    have hmap : (xs.map tx).map (·.data.toList) = xs := by
      rw [List.map_map]
      conv => rhs; rw [← List.map_id xs]
      exact List.map_congr_left fun x _ => rfl
    cases xs with
    | nil =>
      cases ha with
      | l k us h1 hc hm hk ha he =>
        have h1 : _ = 0 := h1
        subst h1
        refine (Tryz.strings_Join_none _ _ (tx [32]) w).mono ?_
        rintro e w' ⟨rfl, rfl⟩
        exact ⟨_, rfl, Below.refl _ _, (RD.v rfl : RD _ _ _ _)⟩
    | cons x r =>
      cases ha with
      | l k us h1 hc hm hk ha he =>
        rw [List.length_map] at h1
        subst h1
        obtain ⟨b, o, rfl, hb, hcell⟩ := ha (by simp)
        have hk1 : k = 1 := by rw [← hk 0 (by simp)]; rfl
        subst hk1
        have hget : ∀ (j : Nat) y, ((x :: r).map tx)[j]? = some y → w.cell? ⟨b, o + j, none⟩ = some (.string y) := fun j y hy => by
          obtain ⟨h2, h3⟩ := List.getElem?_eq_some_iff.1 hy
          have h4 : j < ((x :: r).map enTx).length := by simpa using h2
          have h5 := hcell j h4 0 (by rw [List.getElem_map]; simp [enTx])
          have h6 := he j h4 0 (by rw [List.getElem_map]; simp [enTx])
          rw [List.getElem_map] at h3
          have h7 : us j 0 = .string y := by
            have h8 : (((x :: r).map enTx)[j])[0]'(by rw [List.getElem_map]; simp [enTx]) = .v (.string y) := by
              simp only [List.getElem_map, enTx, h3]
              simp
            rw [h8] at h6
            generalize us j 0 = z at h6
            cases h6
            rfl
          rw [h7] at h5
          simpa using h5
        have hj := Tryz.strings_Join b o _ ((x :: r).map tx) (tx [32]) w hget (hS b hb) (by rw [List.length_map]; exact hn) (by rw [List.length_map]; exact hc) (by rw [hmap]; exact (join_eq 32 (x :: r)).symm ▸ hl)
        rw [hmap, List.length_map] at hj
        refine hj.mono ?_
        rintro e w' ⟨rfl, hw⟩
        refine ⟨_, rfl, hw, ?_⟩
        have e1 : (⟨(Lib.join (x :: r) (tx [32]).data.toList).toArray⟩ : ByteArray) = tx (joinL 32 (x :: r)) := by
          show tx (Lib.join (x :: r) [32]) = _
          rw [join_eq]
        rw [e1]
        exact RD.v (x := .string (tx (joinL 32 (x :: r)))) rfl⟩
end Go.Proofs.YtfijmpmojhlnmaaGreatDoor
namespace Go.Proofs.YtfijmpmojhlnmaaGreatDoor
open Go.RowKit
attribute [local irreducible] AC Do St
theorem joinL_len {c : UInt8} (B : Nat) : ∀ xs : List (List UInt8), (∀ x ∈ xs, x.length ≤ B) → (joinL c xs).length ≤ xs.length * (B + 1)
  | [], _ => by simp [joinL]
  | [a], h => by have := h a (by simp); simp [joinL]; omega
  | a :: b :: r, h => by
    have h1 := h a (by simp)
    have h2 := joinL_len (c := c) B (b :: r) fun x hx => h x (List.mem_cons_of_mem _ hx)
    simp only [joinL, List.length_append, List.length_cons] at h2 ⊢
    rw [Nat.add_mul (r.length + 1) 1]
    omega
theorem printL_small {q : Rat} (h : Bd 256 q) : (printL q).length ≤ 1000 := by
  have h1 := printL_len q
  have h2 := limbs_len_bd h.1
  have h3 := limbs_len_bd h.2
  omega
theorem joinP_len {l : List Rat} (h : ∀ q ∈ l, Bd 256 q) : (joinL 32 (l.map printL)).length ≤ l.length * 1001 := by
  have := joinL_len (c := 32) 1000 (l.map printL) fun x hx => by
    obtain ⟨q, hq, rfl⟩ := List.mem_map.1 hx
    exact printL_small (h q hq)
  rwa [List.length_map] at this
noncomputable def KyG : Ky := ⟨fun s => packS s.cl, fun s => packS s.pr, fun s => tx (joinL 32 (s.tm.map printL))⟩
set_option maxRecDepth 100000 in
set_option maxHeartbeats 2000000 in
theorem keyG (s : Stp) (h0 : ∀ q ∈ s.tm, Bd 256 q) (h3 : s.tm.length ≤ 1000) (h1 : s.cl.length ≤ 1000000) (h2 : s.pr.length ≤ 1000000) : Fn Tryz.prog 39 [.g (enS s)] [.g ((KyG.kv s).map D.v)] := by
  obtain ⟨rule, cl, idx, pr, tm⟩ := s
  dsimp only at h0 h1 h2 h3
  refine Fn.of Tryz.func39 rfl (by kernel_rfl) Tryz.ntmps39 Tryz.results39 rfl fun w0 S0 => ?_
  refine wk ?_
  refine AC.rowVar 3 17 9 1 rfl rfl ?_
  refine AC.loop (X := Nat) (fun i => ⟨[(1, .p 1 0), (2, .p 2 0), (3, .r 17 i), (7, .d (.l (tm.map enR))), (8, .d (.v (.int .i64 (tm.length : Int)))), (9, .d (.v (.int .i64 (i : Int))))], [(1, .box 100 ((enS ⟨rule, cl, idx, pr, tm⟩).map .d)), (2, .box 103 [.d (.v (.int .i64 0)), .d (.v (.int .i64 0)), .d (.v (.string ⟨#[]⟩)), .d (.v (.string ⟨#[]⟩)), .d (.v (.string ⟨#[]⟩))]), (17, .row i 9 1 (((tm.take i).map printL).map enTx))]⟩) (fun i => i ≤ tm.length) (fun i => tm.length - i) 0 (Nat.zero_le _) ⟨rfl, rfl, rfl, rfl, rfl, rfl, trivial⟩ ⟨rfl, rfl, rfl, trivial⟩ ?_
  intro i hi
  refine wk ?_
  ((try (first | intro K ms hms hK | intro K hK)); (first | refine Chain.lss rfl rfl rfl rfl rfl (fun h5 => ?_) (fun h5 => ?_) | refine Chain.lssD rfl rfl rfl rfl rfl (fun h5 => ?_) (fun h5 => ?_)))
  · have hi' : i < tm.length := by omega
    have hget : tm[i]? = some tm[i] := List.getElem?_eq_getElem hi'
    have hb := h0 _ (List.getElem_mem hi')
    have hts : ((tm.take (i + 1)).map printL).map enTx = ((tm.take i).map printL).map enTx ++ [enTx (printL tm[i])] := by
      rw [List.take_succ_eq_append_getElem hi', List.map_append, List.map_append]; rfl
    generalize tm[i] = x at hget hts hb
    refine wk ?_
    ((try (first | intro K ms hms hK | intro K hK)); (first | apply Chain.go | apply Chain.goD); exact rfl; exact rfl; refine Loc.callD (printF hb (by omega)) rfl ?_; (repeat (first | exact trivial | refine ⟨.inl rfl, ?_⟩ | refine ⟨.inr rfl, ?_⟩)))
    refine wk ?_
    exact ⟨i + 1, by omega, by omega, ⟨rfl, rfl, rfl, rfl, rfl, rfl, trivial⟩, ⟨rfl, rfl, by rw [hts]; rfl, trivial⟩⟩
  · rw [List.take_of_length_le (by omega)]
    have hjl := joinP_len h0
    refine Chain.frzVar 3 rfl rfl ?_
    refine wk ?_
    ((try (first | intro K ms hms hK | intro K hK)); (first | apply Chain.go | apply Chain.goD); exact rfl; exact rfl; refine Loc.callD (packedF cl (by omega)) rfl ?_; (repeat (first | exact trivial | refine ⟨.inl rfl, ?_⟩ | refine ⟨.inr rfl, ?_⟩)))
    refine wk ?_
    ((try (first | intro K ms hms hK | intro K hK)); (first | apply Chain.go | apply Chain.goD); exact rfl; exact rfl; refine Loc.callD (packedF pr (by omega)) rfl ?_; (repeat (first | exact trivial | refine ⟨.inl rfl, ?_⟩ | refine ⟨.inr rfl, ?_⟩)))
    refine wk ?_
    ((try (first | intro K ms hms hK | intro K hK)); (first | apply Chain.go | apply Chain.goD); exact rfl; exact rfl; refine Loc.callD (joinF (tm.map printL) (by omega) (by rw [List.length_map]; omega)) rfl ?_; (repeat (first | exact trivial | refine ⟨.inl rfl, ?_⟩ | refine ⟨.inr rfl, ?_⟩)))
    refine wk ?_
    exact ⟨.cn rfl rfl inferInstance rfl ⟨.inl rfl, .inl rfl, .inl rfl, .inl rfl, .inl rfl, trivial⟩, trivial⟩
end Go.Proofs.YtfijmpmojhlnmaaGreatDoor
namespace Go.Proofs.YtfijmpmojhlnmaaGreatDoor
open Go.RowKit
/-- An int of 64 bits. -/
def R64 (x : Int) : Prop := -9223372036854775808 ≤ x ∧ x ≤ 9223372036854775807
theorem wrapU_nat (x : Int) : (BitVec.ofInt 64 (IntKind.u64.wrap x)).toNat = (x % 18446744073709551616).toNat := by
  have e : IntKind.u64.wrap x = x % 18446744073709551616 := by simp [IntKind.wrap, IntKind.bits, IntKind.signed]
  rw [e, BitVec.toNat_ofInt]
  omega
theorem zigN_pos {x : Int} (h0 : 0 ≤ x) (h1 : x ≤ 9223372036854775807) : zigN x = 2 * x.toNat := by
  unfold zigN
  rw [BitVec.toNat_xor, wrapU_nat, wrapU_nat]
  have e1 : x.fdiv (2 ^ 63) = 0 := by
    rw [Int.fdiv_eq_ediv_of_nonneg _ (by decide)]
    omega
  have e2 : IntKind.u64.wrap x = x := wrap_u64 (by omega) (by omega)
  rw [e1, e2]
  show (_ : Nat) ^^^ 0 = _
  rw [Nat.xor_zero]
  omega
theorem zigN_neg {x : Int} (h0 : x < 0) (h1 : -9223372036854775808 ≤ x) : zigN x = (-2 * x - 1).toNat := by
  unfold zigN
  have e1 : x.fdiv (2 ^ 63) = -1 := by
    rw [Int.fdiv_eq_ediv_of_nonneg _ (by decide)]
    omega
  have e3 : BitVec.ofInt 64 (IntKind.u64.wrap (x.fdiv (2 ^ 63))) = BitVec.allOnes 64 := by rw [e1]; decide
  rw [e3, BitVec.xor_allOnes, BitVec.toNat_not, wrapU_nat]
  have e2 : IntKind.u64.wrap x = x + 18446744073709551616 := by
    simp [IntKind.wrap, IntKind.bits, IntKind.signed]
    omega
  rw [e2]
  omega
theorem zigN_inj {x y : Int} (hx : R64 x) (hy : R64 y) (h : zigN x = zigN y) : x = y := by
  obtain ⟨x1, x2⟩ := hx
  obtain ⟨y1, y2⟩ := hy
  by_cases hx0 : 0 ≤ x <;> by_cases hy0 : 0 ≤ y
  · rw [zigN_pos hx0 x2, zigN_pos hy0 y2] at h; omega
  · rw [zigN_pos hx0 x2, zigN_neg (by omega) y1] at h; omega
  · rw [zigN_neg (by omega) x1, zigN_pos hy0 y2] at h; omega
  · rw [zigN_neg (by omega) x1, zigN_neg (by omega) y1] at h; omega
theorem orB_nat (u : Nat) : (orB u).toNat = 128 + u % 128 := by
  have e : IntKind.u8.wrap (u : Int) = ((u % 256 : Nat) : Int) := by simp [IntKind.wrap, IntKind.bits, IntKind.signed]
  show (BitVec.ofInt 8 (IntKind.u8.wrap (u : Int)) ||| BitVec.ofInt 8 128).toNat = _
  rw [BitVec.toNat_or, BitVec.toNat_ofInt, e]
  have e2 : (((u % 256 : Nat) : Int) % ((2 ^ 8 : Nat) : Int)).toNat = u % 256 := by omega
  rw [e2]
  have e3 : (BitVec.ofInt 8 128).toNat = 128 := by decide
  rw [e3]
  have h1 : u % 256 = (u / 128 % 2) * 128 + u % 128 := by omega
  have h2 : ∀ b, b < 2 → ∀ r, r < 128 → (b * 128 + r) ||| 128 = 128 + r := by
    intro b hb r hr
    have h3 : 128 + r = 128 ||| r := by
      have := Nat.two_pow_add_eq_or_of_lt (i := 7) hr 1
      simpa using this
    rcases (by omega : b = 0 ∨ b = 1) with rfl | rfl
    · rw [h3, Nat.zero_mul, Nat.zero_add, Nat.or_comm]
    · rw [Nat.one_mul, h3, Nat.or_comm (128 ||| r), ← Nat.or_assoc, Nat.or_self]
  rw [h1]
  rw [h2 _ (Nat.mod_lt _ (by omega)) _ (Nat.mod_lt _ (by omega))]
theorem moreL_split (n : Nat) : ∀ (u v : Nat) (X Y : List UInt8), u ≤ n → moreL u ++ X = moreL v ++ Y → u = v ∧ X = Y := by
  induction n with
  | zero =>
    intro u v X Y hu h
    obtain rfl : u = 0 := by omega
    rw [moreL.eq_def 0, if_pos (by omega), moreL.eq_def v] at h
    split at h
    · rename_i hv
      simp only [List.singleton_append, List.cons.injEq] at h
      have := congrArg UInt8.toNat h.1
      simp only [UInt8.toNat_ofNat'] at this
      exact ⟨by omega, h.2⟩
    · rename_i hv
      simp only [List.cons_append, List.cons.injEq] at h
      have := congrArg UInt8.toNat h.1
      rw [orB_nat, UInt8.toNat_ofNat'] at this
      omega
  | succ n ih =>
    intro u v X Y hu h
    rw [moreL.eq_def u, moreL.eq_def v] at h
    split at h
    · rename_i h1
      split at h
      · rename_i h2
        simp only [List.singleton_append, List.cons.injEq] at h
        have := congrArg UInt8.toNat h.1
        simp only [UInt8.toNat_ofNat'] at this
        exact ⟨by omega, h.2⟩
      · rename_i h2
        rw [List.singleton_append, List.cons_append] at h
        have := congrArg UInt8.toNat (List.cons.inj h).1
        rw [orB_nat, UInt8.toNat_ofNat'] at this
        omega
    · rename_i h1
      split at h
      · rename_i h2
        simp only [List.cons_append, List.cons.injEq] at h
        have := congrArg UInt8.toNat h.1
        rw [orB_nat, UInt8.toNat_ofNat'] at this
        omega
      · rename_i h2
        simp only [List.cons_append, List.cons.injEq] at h
        have h3 := congrArg UInt8.toNat h.1
        rw [orB_nat, orB_nat] at h3
        obtain ⟨h4, h5⟩ := ih (u / 128) (v / 128) X Y (by omega) h.2
        exact ⟨by omega, h5⟩
theorem packL_inj : ∀ {us vs : List Nat}, packL us = packL vs → us = vs
  | [], [], _ => rfl
  | [], v :: r, h => by
    have h1 : ([] : List UInt8) = moreL v ++ packL r := by simpa [packL] using h
    have h2 := congrArg List.length h1
    have := moreL_pos v
    rw [List.length_append, List.length_nil] at h2
    omega
  | u :: r, [], h => by
    have h1 : moreL u ++ packL r = ([] : List UInt8) := by simpa [packL] using h
    have h2 := congrArg List.length h1
    have := moreL_pos u
    rw [List.length_append, List.length_nil] at h2
    omega
  | u :: r, v :: r', h => by
    have h : moreL u ++ packL r = moreL v ++ packL r' := by simpa [packL] using h
    obtain ⟨h1, h2⟩ := moreL_split u u v _ _ (Nat.le_refl _) h
    rw [h1, packL_inj h2]
theorem map_inj_on {α β : Type} {f : α → β} {P : α → Prop} (hf : ∀ x y, P x → P y → f x = f y → x = y) : ∀ {l m : List α}, (∀ x ∈ l, P x) → (∀ x ∈ m, P x) → l.map f = m.map f → l = m
  | [], [], _, _, _ => rfl
  | [], y :: m, _, _, h => by simp at h
  | x :: l, [], _, _, h => by simp at h
  | x :: l, y :: m, h1, h2, h => by
    simp only [List.map_cons, List.cons.injEq] at h
    rw [hf x y (h1 x (by simp)) (h2 y (by simp)) h.1, map_inj_on hf (fun z hz => h1 z (List.mem_cons_of_mem _ hz)) (fun z hz => h2 z (List.mem_cons_of_mem _ hz)) h.2]
theorem packS_inj {l m : List Int} (hl : ∀ x ∈ l, R64 x) (hm : ∀ x ∈ m, R64 x) (h : packS l = packS m) : l = m := by
  have h1 : tx (packL (l.map zigN)) = tx (packL (m.map zigN)) := h
  exact map_inj_on (fun x y hx hy => zigN_inj hx hy) hl hm (packL_inj (tx_inj h1))
/-- A step whose numbers are ints of 64 bits, and not too long. -/
structure WfS (s : Stp) : Prop where
  rule : R64 s.rule
  idx : R64 s.idx
  cl : ∀ x ∈ s.cl, R64 x
  pr : ∀ x ∈ s.pr, R64 x
  sm : SmS s
theorem WfS.lit {s : Stp} (h : WfS s) : keyOf Tryz.prog 103 (.agg (KyG.kv s).toArray) = some (klit KyG s) := by
  have e1 := packS_size s.cl
  have e2 := packS_size s.pr
  have e3 := joinP_len h.sm.1
  obtain ⟨_, h2, h3, h4⟩ := h.sm
  have r1 := h.rule
  have r2 := h.idx
  unfold R64 at r1 r2
  have m1 : (KyG.c1 s).size ≤ maxLen := by
    have : (KyG.c1 s).size = (packS s.cl).size := rfl
    rw [this]; unfold maxLen; omega
  have m2 : (KyG.c2 s).size ≤ maxLen := by
    have : (KyG.c2 s).size = (packS s.pr).size := rfl
    rw [this]; unfold maxLen; omega
  have m3 : (KyG.c3 s).size ≤ maxLen := by
    have : (KyG.c3 s).size = (joinL 32 (s.tm.map printL)).length := rfl
    rw [this]; unfold maxLen; omega
  have w1 : (Lit.int .i64 s.rule).wf = true := WalkArith.wf_i64 (by omega)
  have w2 : (Lit.int .i64 s.idx).wf = true := WalkArith.wf_i64 (by omega)
  exact klit_some KyG s w1 w2 m1 m2 m3
theorem klG_inj {x y : Stp} (hx : WfS x) (hy : WfS y) (h : klit KyG x = klit KyG y) : x = y := by
  have e1 := hx.lit
  rw [h] at e1
  have h1 := keyd.inj e1 hy.lit
  have h1 := congrArg Array.toList (Value.agg.inj h1)
  have h2 : [Value.int .i64 x.rule, .int .i64 x.idx, .string (packS x.cl), .string (packS x.pr), .string (tx (joinL 32 (x.tm.map printL)))] = [Value.int .i64 y.rule, .int .i64 y.idx, .string (packS y.cl), .string (packS y.pr), .string (tx (joinL 32 (y.tm.map printL)))] := h1
  simp only [List.cons.injEq, Value.int.injEq, Value.string.injEq, true_and, and_true] at h2
  obtain ⟨h3, h4, h5, h6, h7⟩ := h2
  have h5 := packS_inj hx.cl hy.cl h5
  have h6 := packS_inj hx.pr hy.pr h6
  have h7 := joinP_inj (tx_inj h7)
  obtain ⟨a, b, c, d, e⟩ := x
  obtain ⟨a', b', c', d', e'⟩ := y
  simp only at h3 h4 h5 h6 h7
  rw [h3, h4, h5, h6, h7]
theorem WfS.mv {s : Stp} (h : WfS s) {ft : List Int} (hf : ∀ k ∈ ft, 0 ≤ k ∧ k < 300000) : WfS (mvS s ft) := by
  refine ⟨h.rule, h.idx, h.cl, fun x hx => ?_, h.sm.mv ft⟩
  obtain ⟨j, hj, rfl⟩ := List.mem_map.1 hx
  rw [List.getD_eq_getElem?_getD]
  by_cases hlt : j.toNat < ft.length
  · rw [List.getElem?_eq_getElem hlt]
    have := hf _ (List.getElem_mem hlt)
    unfold R64
    simp only [Option.getD_some]
    omega
  · rw [List.getElem?_eq_none (by omega)]
    exact ⟨by simp, by simp⟩
theorem kyG_ok {l : List Stp} (h : ∀ s ∈ l, WfS s) : KyOK KyG (klit KyG) l := by
  refine ⟨fun s hs ft hf => ?_, fun s hs ft hf => ((h s hs).mv hf).lit⟩
  obtain ⟨h1, h2, h3, h4⟩ := ((h s hs).mv hf).sm
  exact keyG (mvS s ft) h1 h2 h3 h4
end Go.Proofs.YtfijmpmojhlnmaaGreatDoor
