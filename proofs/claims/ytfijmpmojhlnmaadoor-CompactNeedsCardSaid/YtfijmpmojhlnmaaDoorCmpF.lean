/-
  Packages compact and proof's steps by plain data.
-/
import Derived.Test.YtfijmpmojhlnmaaDoorCmpE
import Derived.Test.YtfijmpmojhlnmaaDoorRuleY
namespace Go.Proofs.YtfijmpmojhlnmaaDoor
open Go.RowKit
attribute [local irreducible] AC Do St
/-- 0, -1, 1, -2, .. as 0, 1, 2, 3, .. -/
def zigN (x : Int) : Nat := (BitVec.ofInt 64 (IntKind.u64.wrap (IntKind.u64.wrap x * 2 ^ 1)) ^^^ BitVec.ofInt 64 (IntKind.u64.wrap (x.fdiv (2 ^ 63)))).toNat
theorem zigN_lt (x : Int) : zigN x < 18446744073709551616 := BitVec.isLt _
theorem u64_wrap_nat {n : Nat} (h : n < 18446744073709551616) : IntKind.u64.wrap (n : Int) = n := wrap_u64 (by omega) (by omega)
set_option maxRecDepth 100000 in
set_option maxHeartbeats 2000000 in
theorem zigF (x : Int) : Fn Tryd.prog 42 [.d (.v (.int .i64 x))] [.d (.v (.int .u64 (zigN x)))] := by
  refine Fn.of Tryd.func42 rfl (by kernel_rfl) Tryd.ntmps42 Tryd.results42 rfl fun w0 S0 => ?_
  refine wk ?_
  ((try (first | intro K ms hms hK | intro K hK)); (first | apply Chain.go | apply Chain.goD); exact rfl; exact rfl; exact Loc.conv rfl rfl rfl)
  ((try (first | intro K ms hms hK | intro K hK)); (first | apply Chain.go | apply Chain.goD); exact rfl; exact rfl; exact Loc.shl 1 rfl rfl rfl rfl rfl)
  refine wk ?_
  ((try (first | intro K ms hms hK | intro K hK)); (first | apply Chain.go | apply Chain.goD); exact rfl; exact rfl; exact Loc.shr 63 rfl rfl rfl rfl rfl)
  ((try (first | intro K ms hms hK | intro K hK)); (first | apply Chain.go | apply Chain.goD); exact rfl; exact rfl; exact Loc.conv rfl rfl rfl)
  ((try (first | intro K ms hms hK | intro K hK)); (first | apply Chain.go | apply Chain.goD); exact rfl; exact rfl; exact Loc.xor rfl rfl rfl (u64_wrap_nat (zigN_lt x)))
  refine wk ?_
  exact ⟨.d rfl (.inl rfl), trivial⟩
def orB (u : Nat) : UInt8 := ⟨BitVec.ofInt 8 (IntKind.u8.wrap (u : Int)) ||| BitVec.ofInt 8 128⟩
/-- A number in groups of seven bits. -/
def moreL (u : Nat) : List UInt8 := if u < 128 then [UInt8.ofNat u] else orB u :: moreL (u / 128)
termination_by u
decreasing_by omega
theorem u8_wrap_nat {n : Nat} (h : n < 256) : IntKind.u8.wrap (n : Int) = n := by
  simp [IntKind.wrap, IntKind.bits, IntKind.signed]
  omega
theorem moreL_pos (u : Nat) : 1 ≤ (moreL u).length := by unfold moreL; split <;> simp
set_option maxRecDepth 100000 in
set_option maxHeartbeats 2000000 in
theorem moreF (bs : List UInt8) (u : Nat) (hu : u < 18446744073709551616) (hl : (bs ++ moreL u).length ≤ 1000000000) : FnA Tryd.prog 60 5 1 (bs.map enBy) [.d (.v (.int .u64 (u : Int)))] ((bs ++ moreL u).map enBy) := by
  refine FnA.of Tryd.func60 rfl (by kernel_rfl) Tryd.ntmps60 Tryd.results60 rfl fun w0 S0 v => ?_
  refine wk ?_
  refine AC.loop (X := Nat × List UInt8 × Nat) (fun x => ⟨[(0, .r 20 x.2.2), (1, .d (.v (.int .u64 (x.1 : Int))))], [(20, .row x.2.2 5 1 (x.2.1.map enBy))]⟩) (fun x => x.1 < 18446744073709551616 ∧ x.2.1 ++ moreL x.1 = bs ++ moreL u) (fun x => x.1) (u, bs, 0) ⟨hu, rfl⟩ ⟨rfl, rfl, trivial⟩ ⟨rfl, trivial⟩ ?_
  intro ⟨n, cs, g⟩ ⟨hn, hcs⟩
  dsimp only at hn hcs ⊢
  have hlen : cs.length + (moreL n).length ≤ 1000000000 := by rw [← List.length_append, hcs]; exact hl
  have hpos := moreL_pos n
  refine wk ?_
  ((try (first | intro K ms hms hK | intro K hK)); (first | refine Chain.geq rfl rfl rfl rfl rfl (fun h1 => ?_) (fun h1 => ?_) | refine Chain.geqD rfl rfl rfl rfl rfl (fun h1 => ?_) (fun h1 => ?_)))
  · have e1 : moreL n = orB n :: moreL (n / 128) := by rw [moreL, if_neg (by omega)]
    have hor : IntKind.u8.wrap ((BitVec.ofInt IntKind.u8.bits (IntKind.u8.wrap (n : Int)) ||| BitVec.ofInt IntKind.u8.bits 128).toNat : Int) = ((orB n).toNat : Int) := u8_wrap_nat (n := (orB n).toNat) (UInt8.toNat_lt _)
    have hdiv : (n : Int).fdiv (2 ^ 7) = ((n / 128 : Nat) : Int) := by
      rw [Int.fdiv_eq_ediv_of_nonneg _ (by decide)]
      omega
    refine wk ?_
    ((try (first | intro K ms hms hK | intro K hK)); (first | apply Chain.go | apply Chain.goD); exact rfl; exact rfl; exact Loc.conv rfl rfl rfl)
    ((try (first | intro K ms hms hK | intro K hK)); (first | apply Chain.go | apply Chain.goD); exact rfl; exact rfl; exact Loc.or rfl rfl rfl hor)
    refine wk ?_
    ((try (first | intro K ms hms hK | intro K hK)); (first | apply Chain.go | apply Chain.goD); exact rfl; exact rfl; exact Loc.shr 7 rfl rfl rfl rfl hdiv)
    refine wk ?_
    exact ⟨(n / 128, cs ++ [orB n], g + 1), ⟨by dsimp only; omega, by dsimp only; rw [List.append_assoc, List.singleton_append, ← e1]; exact hcs⟩, by dsimp only; omega, ⟨rfl, rfl, trivial⟩, ⟨by dsimp only; rw [List.map_append]; rfl, trivial⟩⟩
  · have e1 : moreL n = [UInt8.ofNat n] := by rw [moreL, if_pos (by omega)]
    have hby : IntKind.u8.wrap (n : Int) = ((UInt8.ofNat n).toNat : Int) := by
      have h2 : (UInt8.ofNat n).toNat = n := by rw [UInt8.toNat_ofNat']; omega
      rw [u8_wrap_nat (by omega), h2]
    refine wk ?_
    ((try (first | intro K ms hms hK | intro K hK)); (first | apply Chain.go | apply Chain.goD); exact rfl; exact rfl; exact Loc.conv rfl rfl hby)
    refine wk ?_
    refine ⟨4, g + 1, rfl, rfl, ?_⟩
    rw [← hcs, e1, List.map_append]
    rfl
def packL (us : List Nat) : List UInt8 := us.flatMap moreL
theorem packL_take {us : List Nat} {i : Nat} {u : Nat} (h : us[i]? = some u) : packL (us.take (i + 1)) = packL (us.take i) ++ moreL u := by
  obtain ⟨h1, h2⟩ := List.getElem?_eq_some_iff.1 h
  unfold packL
  rw [List.take_succ_eq_append_getElem h1, List.flatMap_append, h2]
  simp
theorem moreL_len : ∀ (k u : Nat), u < 128 ^ (k + 1) → (moreL u).length ≤ k + 1
  | 0, u, h => by unfold moreL; rw [if_pos (by omega)]; simp
  | k + 1, u, h => by
    unfold moreL
    split
    · simp
    · have := moreL_len k (u / 128) (by rw [Nat.pow_succ] at h; omega)
      simp
      omega
theorem packL_len {us : List Nat} (h : ∀ u ∈ us, u < 18446744073709551616) : (packL us).length ≤ us.length * 10 := by
  unfold packL
  induction us with
  | nil => simp
  | cons u r ih =>
    have h1 := moreL_len 9 u (by have := h u (by simp); omega)
    have h2 := ih fun x hx => h x (by simp [hx])
    rw [List.flatMap_cons, List.length_append, List.length_cons]
    omega
def enU6 (u : Nat) : List D := [.v (.int .u64 (u : Int))]
set_option maxRecDepth 100000 in
set_option maxHeartbeats 2000000 in
theorem packF (us : List Nat) (hu : ∀ u ∈ us, u < 18446744073709551616) (hl : us.length ≤ 10000000) : Fn Tryd.prog 43 [.d (.l (us.map enU6))] [.d (.l ((packL us).map enBy))] := by
  refine Fn.of Tryd.func43 rfl (by kernel_rfl) Tryd.ntmps43 Tryd.results43 rfl fun w0 S0 => ?_
  refine wk ?_
  refine AC.rowVar 3 14 5 1 rfl rfl ?_
  refine AC.loop (X := Nat) (fun i => ⟨[(3, .r 14 i), (6, .d (.l (us.map enU6))), (7, .d (.v (.int .i64 (us.length : Int)))), (8, .d (.v (.int .i64 (i : Int))))], [(14, .row i 5 1 ((packL (us.take i)).map enBy))]⟩) (fun i => i ≤ us.length) (fun i => us.length - i) 0 (Nat.zero_le _) ⟨rfl, rfl, rfl, rfl, trivial⟩ ⟨rfl, trivial⟩ ?_
  intro i hi
  refine wk ?_
  ((try (first | intro K ms hms hK | intro K hK)); (first | refine Chain.lss rfl rfl rfl rfl rfl (fun h1 => ?_) (fun h1 => ?_) | refine Chain.lssD rfl rfl rfl rfl rfl (fun h1 => ?_) (fun h1 => ?_)))
  · have hi' : i < us.length := by omega
    have hget : us[i]? = some us[i] := List.getElem?_eq_getElem hi'
    have hlt := hu us[i] (List.getElem_mem hi')
    have hpk := packL_take hget
    have hlen := packL_len (us := us.take (i + 1)) fun u h => hu u (List.mem_of_mem_take h)
    rw [List.length_take, hpk] at hlen
    generalize us[i] = u at hget hlt hpk hlen
    refine wk ?_
    ((try (first | intro K ms hms hK | intro K hK)); (first | apply Chain.ef | apply Chain.efD); exact rfl; exact rfl; (refine Do.callA (moreF (packL (us.take i)) u hlt (by omega)) rfl rfl rfl ?_; (repeat (first | exact trivial | refine ⟨.inl rfl, ?_⟩ | refine ⟨.inr rfl, ?_⟩))); exact rfl; exact rfl)
    refine wk ?_
    exact ⟨i + 1, by omega, by omega, ⟨rfl, rfl, rfl, rfl, trivial⟩, ⟨by rw [hpk]; rfl, trivial⟩⟩
  · rw [List.take_of_length_le (by omega)]
    refine wk ?_
    exact ⟨.d rfl ⟨_, _, rfl⟩, trivial⟩
/-- Numbers as a text. -/
def packS (l : List Int) : ByteArray := ⟨(packL (l.map zigN)).toArray⟩
set_option maxRecDepth 100000 in
set_option maxHeartbeats 2000000 in
theorem packedF (l : List Int) (hl : l.length ≤ 10000000) : Fn Tryd.prog 29 [.d (enZ l)] [.d (.v (.string (packS l)))] := by
  refine Fn.of Tryd.func29 rfl (by kernel_rfl) Tryd.ntmps29 Tryd.results29 rfl fun w0 S0 => ?_
  refine wk ?_
  refine AC.rowVar 3 15 96 1 rfl rfl ?_
  refine AC.loop (X := Nat) (fun i => ⟨[(3, .r 15 i), (6, .d (enZ l)), (7, .d (.v (.int .i64 (l.length : Int)))), (8, .d (.v (.int .i64 (i : Int))))], [(15, .row i 96 1 (((l.take i).map zigN).map enU6))]⟩) (fun i => i ≤ l.length) (fun i => l.length - i) 0 (Nat.zero_le _) ⟨rfl, rfl, rfl, rfl, trivial⟩ ⟨rfl, trivial⟩ ?_
  intro i hi
  refine wk ?_
  ((try (first | intro K ms hms hK | intro K hK)); (first | refine Chain.lss rfl rfl rfl rfl rfl (fun h1 => ?_) (fun h1 => ?_) | refine Chain.lssD rfl rfl rfl rfl rfl (fun h1 => ?_) (fun h1 => ?_)))
  · have hi' : i < l.length := by omega
    have hget : l[i]? = some l[i] := List.getElem?_eq_getElem hi'
    have hts : ((l.take (i + 1)).map zigN).map enU6 = ((l.take i).map zigN).map enU6 ++ [enU6 (zigN l[i])] := by
      rw [List.take_succ_eq_append_getElem hi', List.map_append, List.map_append]; rfl
    generalize l[i] = x at hget hts
    refine wk ?_
    ((try (first | intro K ms hms hK | intro K hK)); (first | apply Chain.go | apply Chain.goD); exact rfl; exact rfl; refine Loc.callD (zigF x) rfl ?_; (repeat (first | exact trivial | refine ⟨.inl rfl, ?_⟩ | refine ⟨.inr rfl, ?_⟩)))
    refine wk ?_
    exact ⟨i + 1, by omega, by omega, ⟨rfl, rfl, rfl, rfl, trivial⟩, ⟨by rw [hts]; rfl, trivial⟩⟩
  · rw [List.take_of_length_le (by omega)]
    refine wk ?_
    (first | intro K ms hms hK | intro K hK)
    refine Chain.frzVar 18 rfl rfl ?_
    ((try (first | intro K ms hms hK | intro K hK)); (first | apply Chain.go | apply Chain.goD); exact rfl; exact rfl; refine Loc.callD (packF (l.map zigN) (fun u h => by obtain ⟨x, _, rfl⟩ := List.mem_map.1 h; exact zigN_lt x) (by simpa using hl)) rfl ?_; (repeat (first | exact trivial | refine ⟨.inl rfl, ?_⟩ | refine ⟨.inr rfl, ?_⟩)))
    ((try (first | intro K ms hms hK | intro K hK)); (first | apply Chain.go | apply Chain.goD); exact rfl; exact rfl; exact Loc.toStr (e := 5) rfl rfl (by kernel_rfl) (by kernel_rfl) (by kernel_rfl))
    refine wk ?_
    exact ⟨.d rfl (.inl rfl), trivial⟩
end Go.Proofs.YtfijmpmojhlnmaaDoor
