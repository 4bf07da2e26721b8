import Derived.Test.YtbbpecfapohlaaaGreatDoorKy
namespace Go.Proofs.YtbbpecfapohlaaaGreatDoor
open Go.RowKit
attribute [local irreducible] AC Do St
theorem cutX (x : Nat) (hb : (limbs x).length ≤ 1000000000) : Fn Tryz.prog 244 [.d (enL (limbs x))] [.d (enL (limbs x))] := by
  have := cutU (limbs x) (limbsDg x) hb
  rwa [limbs_val] at this
section
variable {p q : Rat} {k : Nat}
end
def w4 (w : Nat) : List UInt8 := (four w).map UInt8.ofNat
theorem shr_nat (w s : Nat) : ((w : Nat) : Int).fdiv (2 ^ s) = ((w / 2 ^ s : Nat) : Int) := by
  rw [Int.fdiv_eq_ediv_of_nonneg _ (Int.le_of_lt (Int.pow_pos (by omega)))]
  simp
end Go.Proofs.YtbbpecfapohlaaaGreatDoor
namespace Go.Proofs.YtbbpecfapohlaaaGreatDoor
open Go.RowKit
attribute [local irreducible] AC Do St
section
variable {P : Program} {C : Cx} {o : Oper} {σ : AS}
theorem Loc.minI {x y : Operand} {ts : Array TypeId} {k : IntKind} {a b : Int} (ho : o.op = .call { callee := .builtin .min, args := #[x, y], argTypes := ts }) (hx : ev σ x = .d (.v (.int k a))) (hy : ev σ y = .d (.v (.int k b))) : Loc P C o σ (.d (.v (.int k (min a b)))) :=
  Loc.two (by rw [ho]; simp [Op.operands, Call.operands]) hx (by rw [ho]; simp [Op.operands, Call.operands]) hy fun S w β O c h1 h2 => by
    refine ⟨.int k (min a b), ?_, .mk rfl⟩
    unfold execOp
    rw [ho]
    have hr : (Builtin.min_ ts o.type #[.int k a, .int k b]).run P w = .ok (.int k (min a b)) w := by
      simp only [Builtin.min_, List.foldlM_cons, List.foldlM_nil, Builtin.min2]
      have : (if b < a then b else a) = min a b := by split <;> omega
      simp [this]
    simp only [resolve, invoke, builtin, Sem.run_bind, Sem.run_pure, Result.andThen_ok, List.map_toArray, List.map_cons, List.map_nil, RA.val h1, RA.val h2, hr]
end
section
variable {p q : Rat} {k : Nat}
end
end Go.Proofs.YtbbpecfapohlaaaGreatDoor
namespace Go.Proofs.YtbbpecfapohlaaaGreatDoor
open Go.RowKit
attribute [local irreducible] AC Do St
theorem u8_w {n : Int} (h : 0 ≤ n) (h2 : n < 256) : IntKind.u8.wrap n = n := by
  simp [IntKind.wrap, IntKind.bits, IntKind.signed]
  omega
theorem num_eq {k : IntKind} {a b : Int} (h : a = b) : some (AV.d (D.v (Value.int k a))) = some (AV.d (D.v (Value.int k b))) := by rw [h]
set_option maxRecDepth 100000 in
set_option maxHeartbeats 2000000 in
theorem lowQ (n : Nat) (hn : n < 1000) : Fn Tryz.prog 225 [.d (enB (bits n))] [.d (.v (.int .u64 (n : Int)))] := by
  have hv := bits_val n
  have hl : (bits n).length ≤ 10 := bits_len_le (by omega)
  generalize bits n = b at hv hl ⊢
  refine Fn.of Tryz.func225 rfl (by kernel_rfl) Tryz.ntmps225 Tryz.results225 rfl fun w0 S0 => ?_
  refine wk ?_
  ((try (first | intro K ms hms hK | intro K hK)); (first | apply Chain.go | apply Chain.goD); exact rfl; exact rfl; exact Loc.minI rfl rfl rfl)
  refine wk ?_
  refine AC.loop (X := Nat) (fun m => ⟨[(0, .d (enB b)), (4, .d (.v (.int .i64 ((m : Int) - 1)))), (3, .d (.v (.int .u64 ((bval (b.drop m) : Nat) : Int))))], []⟩) (fun m => m ≤ b.length) (fun m => m) b.length (Nat.le_refl _) ⟨rfl, ?_, ?_, trivial⟩ trivial ?_
  · exact num_eq (by omega)
  · rw [List.drop_length]
    rfl
  intro m hm
  refine wk ?_
  refine s1 (fun h2 => ?_) (fun h2 => ?_)
  · obtain ⟨k, rfl⟩ : ∃ k, m = k + 1 := ⟨m - 1, by omega⟩
    have hk : k < b.length := by omega
    have hgt : b[k]? = some b[k] := List.getElem?_eq_getElem hk
    have hstk := bval_drop hk
    have hle : bval (b.drop k) < 1024 := by
      have h3 := bval_lt (b.drop k)
      have h5 : 2 ^ (b.drop k).length ≤ 2 ^ 10 := Nat.pow_le_pow_right (by omega) (by simp; omega)
      omega
    obtain ⟨c1, hc1⟩ : ∃ c1, bval (b.drop k) = c1 := ⟨_, rfl⟩
    rw [hc1] at hstk hle
    generalize bval (b.drop (k + 1)) = c0 at hstk ⊢
    generalize b[k] = bit at hgt hstk
    refine wk ?_
    ((try (first | intro K ms hms hK | intro K hK)); (first | apply Chain.go | apply Chain.goD); exact rfl; exact rfl; exact Loc.mul rfl rfl rfl (wrap_u64 (by omega) (by omega)))
    refine wk ?_
    ((try (first | intro K ms hms hK | intro K hK)); (first | apply Chain.go | apply Chain.goD); exact rfl; exact rfl; exact Loc.idxM (i := k) rfl rfl rfl (by omega) hgt rfl)
    cases bit with
    | true =>
      simp only [Bool.toNat_true] at hstk
      refine wk ?_
      ((try (first | intro K ms hms hK | intro K hK)); (first | apply Chain.go | apply Chain.goD); exact rfl; exact rfl; exact Loc.add rfl rfl rfl (wrap_u64 (by omega) (by omega)))
      refine wk ?_
      exact ⟨k, by omega, by omega, ⟨rfl, num_eq (by omega), num_eq (by rw [hc1]; omega), trivial⟩, trivial⟩
    | false =>
      simp only [Bool.toNat_false] at hstk
      refine wk ?_
      exact ⟨k, by omega, by omega, ⟨rfl, num_eq (by omega), num_eq (by rw [hc1]; omega), trivial⟩, trivial⟩
  · obtain rfl : m = 0 := by omega
    rw [List.drop_zero, hv]
    refine wk ?_
    exact ⟨.d rfl (.inl rfl), trivial⟩
end Go.Proofs.YtbbpecfapohlaaaGreatDoor
namespace Go.Proofs.YtbbpecfapohlaaaGreatDoor
open Go.RowKit
attribute [local irreducible] AC Do St
theorem bits_pos0 {n : Nat} (hn : n ≠ 0) : 0 < (bits n).length := by
  rcases Nat.eq_zero_or_pos (bits n).length with h | h
  · exact absurd (bits_eq_nil.1 (List.eq_nil_of_length_eq_zero h)) hn
  · exact h
theorem decD_split {m : Nat} (h : ¬ m / 10 = 0) : Lib.decDigits m = Lib.decDigits (m / 10) ++ [UInt8.ofNat (48 + m % 10)] := by
  rw [Lib.decDigits, dif_neg (by omega)]
theorem decD_one {m : Nat} (h : m / 10 = 0) : Lib.decDigits m = [UInt8.ofNat (48 + m % 10)] := by
  rw [Lib.decDigits, dif_pos (by omega), Nat.mod_eq_of_lt (by omega)]
theorem decD_len (n : Nat) : (Lib.decDigits n).length ≤ (bits n).length + 1 := by
  induction n using Nat.strongRecOn with
  | _ n ih =>
    by_cases h : n / 10 = 0
    · rw [decD_one h]; simp
    · rw [decD_split h, List.length_append]
      have h1 := ih (n / 10) (by omega)
      have h2 : (bits (n / 10)).length < (bits n).length := by
        rw [bits_len, bits_len]
        have h3 : n / 10 ≤ n / 2 := by omega
        have h4 := digs_len_mono (B := 2) (by omega) h3
        rw [digs_pos (n := n) (by omega) (by omega), List.length_cons]
        omega
      simp only [List.length_cons, List.length_nil]
      omega
set_option maxRecDepth 100000 in
set_option maxHeartbeats 2000000 in
theorem textQ (n : Nat) (hl : (bits n).length ≤ 100000000) : Fn Tryz.prog 156 [.d (enB (bits n))] [.d (.v (.string (tx (Lib.decDigits n))))] := by
  by_cases hn : n = 0
  · subst hn
    have e : bits 0 = [] := bits_eq_nil.2 rfl
    have e2 : Lib.decDigits 0 = [48] := by rw [Lib.decDigits]; rfl
    rw [e, e2]
    refine Fn.of Tryz.func156 rfl (by kernel_rfl) Tryz.ntmps156 Tryz.results156 rfl fun w0 S0 => ?_
    refine wk ?_
    refine s1 (fun h0 => ?_) (fun h0 => ?_)
    · refine wk ?_
      exact ⟨.d rfl (.inl rfl), trivial⟩
    · exact absurd (by simp) h0
  · have hp := bits_pos0 hn
    have hdl := decD_len n
    refine Fn.of Tryz.func156 rfl (by kernel_rfl) Tryz.ntmps156 Tryz.results156 rfl fun w0 S0 => ?_
    refine wk ?_
    refine c1 (bWord 10 (by omega)) ?_
    refine wk ?_
    refine AC.loop (X := Nat × List UInt8) (fun x => ⟨[(0, .d (enB (bits x.1))), (3, .d (.v (.string (tx x.2)))), (4, .d (enB (bits 10)))], []⟩) (fun x => x.1 ≤ n ∧ (x.1 = 0 → x.2 = Lib.decDigits n) ∧ (x.1 ≠ 0 → Lib.decDigits n = Lib.decDigits x.1 ++ x.2) ∧ x.2.length ≤ (Lib.decDigits n).length) (fun x => x.1) (n, []) ⟨Nat.le_refl _, fun h => absurd h hn, fun _ => (List.append_nil _).symm, Nat.zero_le _⟩ ⟨rfl, rfl, rfl, trivial⟩ trivial ?_
    intro ⟨m, s⟩ ⟨hm, hz, hnz, hsl⟩
    dsimp only at hm hz hnz hsl ⊢
    refine wk ?_
    refine s1 (fun h1 => ?_) (fun h1 => ?_)
    · have hm0 : m ≠ 0 := by
        intro e
        subst e
        rw [bits_eq_nil.2 rfl] at h1
        simp at h1
      have hnz := hnz hm0
      have hlm : (bits m).length ≤ 200000000 := by
        have := digs_len_mono (B := 2) (by omega) hm
        rw [bits_len] at hl ⊢
        omega
      have h10 : (bits 10).length ≤ 200000000 := Nat.le_trans (bits_len_le (k := 4) (by omega)) (by omega)
      have hr := Nat.mod_lt m (by omega : 10 > 0)
      have hq : m / 10 < m := by omega
      have hsp := decD_split (m := m)
      have hone := decD_one (m := m)
      have hdm := qDivMod m 10 hlm h10 (by omega)
      have hlow := lowQ (m % 10) (by omega)
      generalize m % 10 = r at hr hsp hone hdm hlow
      generalize m / 10 = q at hq hsp hone hdm
      refine wk ?_
      refine c1 hdm ?_
      refine wk ?_
      refine c1 hlow ?_
      ((try (first | intro K ms hms hK | intro K hK)); (first | apply Chain.go | apply Chain.goD); exact rfl; exact rfl; exact Loc.add rfl rfl rfl (wrap_u64 (by omega) (by omega)))
      ((try (first | intro K ms hms hK | intro K hK)); (first | apply Chain.go | apply Chain.goD); exact rfl; exact rfl; exact Loc.conv (m := ((UInt8.ofNat (48 + r)).toNat : Int)) rfl rfl (by rw [dig_nat hr, u8_w (by omega) (by omega)]; omega))
      refine wk ?_
      ((try (first | intro K ms hms hK | intro K hK)); (first | apply Chain.go | apply Chain.goD); exact rfl; exact rfl; exact Loc.toStr (bs := [UInt8.ofNat (48 + r)]) (e := 5) rfl rfl (by kernel_rfl) (by kernel_rfl) (by kernel_rfl))
      refine wk ?_
      ((try (first | intro K ms hms hK | intro K hK)); (first | apply Chain.go | apply Chain.goD); exact rfl; exact rfl; exact Loc.strAdd rfl rfl rfl (by show 1 + s.length ≤ _; omega))
      refine wk ?_
      have hs2 : ∀ x, x = (⟨#[UInt8.ofNat (48 + r)]⟩ : ByteArray) ++ tx s → x = tx (UInt8.ofNat (48 + r) :: s) := fun x hx => hx.trans (tx_app [UInt8.ofNat (48 + r)] s)
      have hlen2 : (UInt8.ofNat (48 + r) :: s).length ≤ (Lib.decDigits n).length := by
        by_cases hq0 : q = 0
        · rw [hnz, hone hq0]; exact Nat.le_refl _
        · rw [hnz, hsp hq0]; simp <;> omega
      refine ⟨(q, UInt8.ofNat (48 + r) :: s), ⟨by dsimp only; omega, fun h => ?_, fun h => ?_, hlen2⟩, hq, ⟨rfl, congrArg (fun z => some (AV.d (D.v (Value.string z)))) (tx_app [UInt8.ofNat (48 + r)] s), rfl, trivial⟩, trivial⟩
      · dsimp only at h ⊢
        rw [hnz, hone h]
        rfl
      · dsimp only at h ⊢
        rw [hnz, hsp h, List.append_assoc]
        rfl
    · have hm0 : m = 0 := by
        rcases Nat.eq_zero_or_pos m with h | h
        · exact h
        · have := bits_pos0 (n := m) (by omega)
          omega
      rw [hz hm0]
      refine wk ?_
      exact ⟨.d rfl (.inl rfl), trivial⟩
theorem printD (q : Rat) : printL q = (if q.num < 0 then [45] else []) ++ (Lib.decDigits q.num.natAbs ++ if q.den = 1 then [] else 47 :: Lib.decDigits q.den) := by
  unfold printL
  rw [textL_dec, textL_dec]
theorem bits_one {d : Nat} (h0 : d ≠ 0) : 1 < (bits d).length ↔ d ≠ 1 := by
  constructor
  · intro h e
    subst e
    have := bits_len_le (n := 1) (k := 1) (by omega)
    omega
  · intro h
    rw [bits_len, digs_pos (by omega) h0, List.length_cons]
    have : 0 < (digs 2 (d / 2)).length := by
      rcases Nat.eq_zero_or_pos (digs 2 (d / 2)).length with h | h
      · have := (digs_eq_nil (B := 2) (by omega)).1 (List.eq_nil_of_length_eq_zero h)
        omega
      · exact h
    omega
set_option maxRecDepth 100000 in
set_option maxHeartbeats 2000000 in
theorem printQ {k : Nat} (q : Rat) (h : Bd k q) (hk : k ≤ 100000000) : Fn Tryz.prog 90 [.g (enQ q)] [.d (.v (.string (tx (printL q))))] := by
  have hp := printD q
  have h1 : (bits q.num.natAbs).length ≤ 100000000 := Nat.le_trans (bits_len_le h.1) hk
  have h2 : (bits q.den).length ≤ 100000000 := Nat.le_trans (bits_len_le h.2) hk
  have hb := bits_one q.den_nz
  have hn := textQ _ h1
  have hd := textQ _ h2
  have e1 := decD_len q.num.natAbs
  have e2 := decD_len q.den
  unfold enQ
  generalize printL q = R at hp ⊢
  generalize Lib.decDigits q.num.natAbs = A at hp hn e1
  generalize Lib.decDigits q.den = B at hp hd e2
  generalize q.num.natAbs = n at h1 hn e1 ⊢
  by_cases hd1 : q.den = 1
  · rw [if_pos hd1] at hp
    have hl1 : ¬ 1 < (bits q.den).length := fun h => hb.1 h hd1
    generalize q.den = d at *
    refine Fn.of Tryz.func90 rfl (by kernel_rfl) Tryz.ntmps90 Tryz.results90 rfl fun w0 S0 => ?_
    refine wk ?_
    refine c1 hn ?_
    refine wk ?_
    by_cases hneg : q.num < 0
    · rw [if_pos hneg] at hp
      rw [decide_eq_true hneg]
      refine wk ?_
      ((try (first | intro K ms hms hK | intro K hK)); (first | apply Chain.go | apply Chain.goD); exact rfl; exact rfl; exact Loc.strAdd rfl rfl rfl (by show 1 + A.length ≤ _; omega))
      refine wk ?_
      exact ⟨.d rfl (.inl (by rw [hp, List.append_nil]; exact congrArg (fun z => D.v (Value.string z)) (tx_app [45] A).symm)), trivial⟩
    · rw [if_neg hneg] at hp
      rw [decide_eq_false hneg]
      refine wk ?_
      exact ⟨.d rfl (.inl (by rw [hp, List.append_nil]; rfl)), trivial⟩
  · rw [if_neg hd1] at hp
    have hl1 := hb.2 hd1
    generalize q.den = d at *
    refine Fn.of Tryz.func90 rfl (by kernel_rfl) Tryz.ntmps90 Tryz.results90 rfl fun w0 S0 => ?_
    refine wk ?_
    refine c1 hn ?_
    refine wk ?_
    ((try (first | intro K ms hms hK | intro K hK)); (first | apply Chain.go | apply Chain.goD); exact rfl; exact rfl; exact Loc.strAdd rfl rfl rfl (by show A.length + 1 ≤ _; omega))
    refine wk ?_
    refine c1 hd ?_
    ((try (first | intro K ms hms hK | intro K hK)); (first | apply Chain.go | apply Chain.goD); exact rfl; exact rfl; exact Loc.strAdd rfl rfl rfl (by rw [show tx A ++ (⟨#[47]⟩ : ByteArray) = tx (A ++ [47]) from tx_app A [47], tx_size, tx_size, List.length_append]; simp; omega))
    refine wk ?_
    have hs : tx A ++ (⟨#[47]⟩ : ByteArray) ++ tx B = tx (A ++ 47 :: B) := by
      rw [show tx A ++ (⟨#[47]⟩ : ByteArray) = tx (A ++ [47]) from tx_app A [47], tx_app]
      simp
    by_cases hneg : q.num < 0
    · rw [if_pos hneg] at hp
      rw [decide_eq_true hneg]
      refine wk ?_
      ((try (first | intro K ms hms hK | intro K hK)); (first | apply Chain.go | apply Chain.goD); exact rfl; exact rfl; exact Loc.strAdd rfl rfl rfl (by rw [hs, tx_size]; show 1 + (A ++ 47 :: B).length ≤ _; simp; omega))
      refine wk ?_
      exact ⟨.d rfl (.inl (by rw [hp, hs]; exact congrArg (fun z => D.v (Value.string z)) (tx_app [45] (A ++ 47 :: B)).symm)), trivial⟩
    · rw [if_neg hneg] at hp
      rw [decide_eq_false hneg]
      refine wk ?_
      exact ⟨.d rfl (.inl (by rw [hp, hs]; rfl)), trivial⟩
end Go.Proofs.YtbbpecfapohlaaaGreatDoor
