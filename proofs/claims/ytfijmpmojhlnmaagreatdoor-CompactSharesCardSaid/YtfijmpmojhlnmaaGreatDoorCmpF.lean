/-
  Packages compact and proof's steps by plain data.
  Packages compact and proof's steps by plain data.
  Packages compact and proof's steps by plain data.
  Packages compact and proof's steps by plain data.
  Packages compact and proof's steps by plain data.
  Packages compact and proof's steps by plain data.
-/
import Derived.Test.YtfijmpmojhlnmaaGreatDoorCmpC
import Derived.Test.YtfijmpmojhlnmaaGreatDoorRuleX
import Derived.Test.YtfijmpmojhlnmaaGreatDoorOpen
import Derived.DeepKeys4
namespace Go.Proofs.YtfijmpmojhlnmaaGreatDoor
open Go.RowKit
attribute [local irreducible] AC Do St
/-- 0, -1, 1, -2, .. as 0, 1, 2, 3, .. -/
def zigN (x : Int) : Nat := (BitVec.ofInt 64 (IntKind.u64.wrap (IntKind.u64.wrap x * 2 ^ 1)) ^^^ BitVec.ofInt 64 (IntKind.u64.wrap (x.fdiv (2 ^ 63)))).toNat
theorem zigN_lt (x : Int) : zigN x < 18446744073709551616 := BitVec.isLt _
theorem u64_wrap_nat {n : Nat} (h : n < 18446744073709551616) : IntKind.u64.wrap (n : Int) = n := wrap_u64 (by omega) (by omega)
set_option maxRecDepth 100000 in
set_option maxHeartbeats 2000000 in
theorem zigF (x : Int) : Fn Tryz.prog 97 [.d (.v (.int .i64 x))] [.d (.v (.int .u64 (zigN x)))] := by
  refine Fn.of Tryz.func97 rfl (by kernel_rfl) Tryz.ntmps97 Tryz.results97 rfl fun w0 S0 => ?_
  refine wk ?_
  ((try (first | intro K ms hms hK | intro K hK)); (first | apply Chain.go | apply Chain.goD); exact rfl; exact rfl; exact Loc.conv rfl rfl rfl)
  ((try (first | intro K ms hms hK | intro K hK)); (first | apply Chain.go | apply Chain.goD); exact rfl; exact rfl; exact Loc.shl 1 rfl rfl rfl rfl rfl)
  refine wk ?_
  ((try (first | intro K ms hms hK | intro K hK)); (first | apply Chain.go | apply Chain.goD); exact rfl; exact rfl; exact Loc.shr 63 rfl rfl rfl rfl rfl)
  ((try (first | intro K ms hms hK | intro K hK)); (first | apply Chain.go | apply Chain.goD); exact rfl; exact rfl; exact Loc.conv rfl rfl rfl)
  ((try (first | intro K ms hms hK | intro K hK)); (first | apply Chain.go | apply Chain.goD); exact rfl; exact rfl; exact Loc.xor rfl rfl rfl (u64_wrap_nat (zigN_lt x)))
  refine wk ?_
  exact ⟨.d rfl (.inl rfl), trivial⟩
def orB (u : Nat) : UInt8 := ⟨BitVec.ofInt 8 (IntKind.u8.wrap (u : Int)) ||| BitVec.ofInt 8 128⟩
/-- A number in groups of seven bits. -/
def moreL (u : Nat) : List UInt8 := if u < 128 then [UInt8.ofNat u] else orB u :: moreL (u / 128)
termination_by u
decreasing_by omega
theorem u8_wrap_nat {n : Nat} (h : n < 256) : IntKind.u8.wrap (n : Int) = n := by
  simp [IntKind.wrap, IntKind.bits, IntKind.signed]
  omega
theorem moreL_pos (u : Nat) : 1 ≤ (moreL u).length := by unfold moreL; split <;> simp
set_option maxRecDepth 100000 in
set_option maxHeartbeats 2000000 in
theorem moreF (bs : List UInt8) (u : Nat) (hu : u < 18446744073709551616) (hl : (bs ++ moreL u).length ≤ 1000000000) : FnA Tryz.prog 124 5 1 (bs.map enBy) [.d (.v (.int .u64 (u : Int)))] ((bs ++ moreL u).map enBy) := by
  refine FnA.of Tryz.func124 rfl (by kernel_rfl) Tryz.ntmps124 Tryz.results124 rfl fun w0 S0 v => ?_
  refine wk ?_
  refine AC.loop (X := Nat × List UInt8 × Nat) (fun x => ⟨[(0, .r 20 x.2.2), (1, .d (.v (.int .u64 (x.1 : Int))))], [(20, .row x.2.2 5 1 (x.2.1.map enBy))]⟩) (fun x => x.1 < 18446744073709551616 ∧ x.2.1 ++ moreL x.1 = bs ++ moreL u) (fun x => x.1) (u, bs, 0) ⟨hu, rfl⟩ ⟨rfl, rfl, trivial⟩ ⟨rfl, trivial⟩ ?_
  intro ⟨n, cs, g⟩ ⟨hn, hcs⟩
  dsimp only at hn hcs ⊢
  have hlen : cs.length + (moreL n).length ≤ 1000000000 := by rw [← List.length_append, hcs]; exact hl
  have hpos := moreL_pos n
  refine wk ?_
  ((try (first | intro K ms hms hK | intro K hK)); (first | refine Chain.geq rfl rfl rfl rfl rfl (fun h1 => ?_) (fun h1 => ?_) | refine Chain.geqD rfl rfl rfl rfl rfl (fun h1 => ?_) (fun h1 => ?_)))
  · have e1 : moreL n = orB n :: moreL (n / 128) := by rw [moreL, if_neg (by omega)]
    have hor : IntKind.u8.wrap ((BitVec.ofInt IntKind.u8.bits (IntKind.u8.wrap (n : Int)) ||| BitVec.ofInt IntKind.u8.bits 128).toNat : Int) = ((orB n).toNat : Int) := u8_wrap_nat (n := (orB n).toNat) (UInt8.toNat_lt _)
    have hdiv : (n : Int).fdiv (2 ^ 7) = ((n / 128 : Nat) : Int) := by
      rw [Int.fdiv_eq_ediv_of_nonneg _ (by decide)]
      omega
    refine wk ?_
    ((try (first | intro K ms hms hK | intro K hK)); (first | apply Chain.go | apply Chain.goD); exact rfl; exact rfl; exact Loc.conv rfl rfl rfl)
    ((try (first | intro K ms hms hK | intro K hK)); (first | apply Chain.go | apply Chain.goD); exact rfl; exact rfl; exact Loc.or rfl rfl rfl hor)
    refine wk ?_
    ((try (first | intro K ms hms hK | intro K hK)); (first | apply Chain.go | apply Chain.goD); exact rfl; exact rfl; exact Loc.shr 7 rfl rfl rfl rfl hdiv)
    refine wk ?_
    exact ⟨(n / 128, cs ++ [orB n], g + 1), ⟨by dsimp only; omega, by dsimp only; rw [List.append_assoc, List.singleton_append, ← e1]; exact hcs⟩, by dsimp only; omega, ⟨rfl, rfl, trivial⟩, ⟨by dsimp only; rw [List.map_append]; rfl, trivial⟩⟩
  · have e1 : moreL n = [UInt8.ofNat n] := by rw [moreL, if_pos (by omega)]
    have hby : IntKind.u8.wrap (n : Int) = ((UInt8.ofNat n).toNat : Int) := by
      have h2 : (UInt8.ofNat n).toNat = n := by rw [UInt8.toNat_ofNat']; omega
      rw [u8_wrap_nat (by omega), h2]
    refine wk ?_
    ((try (first | intro K ms hms hK | intro K hK)); (first | apply Chain.go | apply Chain.goD); exact rfl; exact rfl; exact Loc.conv rfl rfl hby)
    refine wk ?_
    refine ⟨4, g + 1, rfl, rfl, ?_⟩
    rw [← hcs, e1, List.map_append]
    rfl
def packL (us : List Nat) : List UInt8 := us.flatMap moreL
theorem packL_take {us : List Nat} {i : Nat} {u : Nat} (h : us[i]? = some u) : packL (us.take (i + 1)) = packL (us.take i) ++ moreL u := by
  obtain ⟨h1, h2⟩ := List.getElem?_eq_some_iff.1 h
  unfold packL
  rw [List.take_succ_eq_append_getElem h1, List.flatMap_append, h2]
  simp
theorem moreL_len : ∀ (k u : Nat), u < 128 ^ (k + 1) → (moreL u).length ≤ k + 1
  | 0, u, h => by unfold moreL; rw [if_pos (by omega)]; simp
  | k + 1, u, h => by
    unfold moreL
    split
    · simp
    · have := moreL_len k (u / 128) (by rw [Nat.pow_succ] at h; omega)
      simp
      omega
theorem packL_len {us : List Nat} (h : ∀ u ∈ us, u < 18446744073709551616) : (packL us).length ≤ us.length * 10 := by
  unfold packL
  induction us with
  | nil => simp
  | cons u r ih =>
    have h1 := moreL_len 9 u (by have := h u (by simp); omega)
    have h2 := ih fun x hx => h x (by simp [hx])
    rw [List.flatMap_cons, List.length_append, List.length_cons]
    omega
def enU6 (u : Nat) : List D := [.v (.int .u64 (u : Int))]
set_option maxRecDepth 100000 in
set_option maxHeartbeats 2000000 in
theorem packF (us : List Nat) (hu : ∀ u ∈ us, u < 18446744073709551616) (hl : us.length ≤ 10000000) : Fn Tryz.prog 98 [.d (.l (us.map enU6))] [.d (.l ((packL us).map enBy))] := by
  refine Fn.of Tryz.func98 rfl (by kernel_rfl) Tryz.ntmps98 Tryz.results98 rfl fun w0 S0 => ?_
  refine wk ?_
  refine AC.rowVar 3 14 5 1 rfl rfl ?_
  refine AC.loop (X := Nat) (fun i => ⟨[(3, .r 14 i), (6, .d (.l (us.map enU6))), (7, .d (.v (.int .i64 (us.length : Int)))), (8, .d (.v (.int .i64 (i : Int))))], [(14, .row i 5 1 ((packL (us.take i)).map enBy))]⟩) (fun i => i ≤ us.length) (fun i => us.length - i) 0 (Nat.zero_le _) ⟨rfl, rfl, rfl, rfl, trivial⟩ ⟨rfl, trivial⟩ ?_
  intro i hi
  refine wk ?_
  ((try (first | intro K ms hms hK | intro K hK)); (first | refine Chain.lss rfl rfl rfl rfl rfl (fun h1 => ?_) (fun h1 => ?_) | refine Chain.lssD rfl rfl rfl rfl rfl (fun h1 => ?_) (fun h1 => ?_)))
  · have hi' : i < us.length := by omega
    have hget : us[i]? = some us[i] := List.getElem?_eq_getElem hi'
    have hlt := hu us[i] (List.getElem_mem hi')
    have hpk := packL_take hget
    have hlen := packL_len (us := us.take (i + 1)) fun u h => hu u (List.mem_of_mem_take h)
    rw [List.length_take, hpk] at hlen
    generalize us[i] = u at hget hlt hpk hlen
    refine wk ?_
    ((try (first | intro K ms hms hK | intro K hK)); (first | apply Chain.ef | apply Chain.efD); exact rfl; exact rfl; (refine Do.callA (moreF (packL (us.take i)) u hlt (by omega)) rfl rfl rfl ?_; (repeat (first | exact trivial | refine ⟨.inl rfl, ?_⟩ | refine ⟨.inr rfl, ?_⟩))); exact rfl; exact rfl)
    refine wk ?_
    exact ⟨i + 1, by omega, by omega, ⟨rfl, rfl, rfl, rfl, trivial⟩, ⟨by rw [hpk]; rfl, trivial⟩⟩
  · rw [List.take_of_length_le (by omega)]
    refine wk ?_
    exact ⟨.d rfl ⟨_, _, rfl⟩, trivial⟩
/-- Numbers as a text. -/
def packS (l : List Int) : ByteArray := ⟨(packL (l.map zigN)).toArray⟩
set_option maxRecDepth 100000 in
set_option maxHeartbeats 2000000 in
theorem packedF (l : List Int) (hl : l.length ≤ 10000000) : Fn Tryz.prog 70 [.d (enZ l)] [.d (.v (.string (packS l)))] := by
  refine Fn.of Tryz.func70 rfl (by kernel_rfl) Tryz.ntmps70 Tryz.results70 rfl fun w0 S0 => ?_
  refine wk ?_
  refine AC.rowVar 3 15 162 1 rfl rfl ?_
  refine AC.loop (X := Nat) (fun i => ⟨[(3, .r 15 i), (6, .d (enZ l)), (7, .d (.v (.int .i64 (l.length : Int)))), (8, .d (.v (.int .i64 (i : Int))))], [(15, .row i 162 1 (((l.take i).map zigN).map enU6))]⟩) (fun i => i ≤ l.length) (fun i => l.length - i) 0 (Nat.zero_le _) ⟨rfl, rfl, rfl, rfl, trivial⟩ ⟨rfl, trivial⟩ ?_
  intro i hi
  refine wk ?_
  ((try (first | intro K ms hms hK | intro K hK)); (first | refine Chain.lss rfl rfl rfl rfl rfl (fun h1 => ?_) (fun h1 => ?_) | refine Chain.lssD rfl rfl rfl rfl rfl (fun h1 => ?_) (fun h1 => ?_)))
  · have hi' : i < l.length := by omega
    have hget : l[i]? = some l[i] := List.getElem?_eq_getElem hi'
    have hts : ((l.take (i + 1)).map zigN).map enU6 = ((l.take i).map zigN).map enU6 ++ [enU6 (zigN l[i])] := by
      rw [List.take_succ_eq_append_getElem hi', List.map_append, List.map_append]; rfl
    generalize l[i] = x at hget hts
    refine wk ?_
    ((try (first | intro K ms hms hK | intro K hK)); (first | apply Chain.go | apply Chain.goD); exact rfl; exact rfl; refine Loc.callD (zigF x) rfl ?_; (repeat (first | exact trivial | refine ⟨.inl rfl, ?_⟩ | refine ⟨.inr rfl, ?_⟩)))
    refine wk ?_
    exact ⟨i + 1, by omega, by omega, ⟨rfl, rfl, rfl, rfl, trivial⟩, ⟨by rw [hts]; rfl, trivial⟩⟩
  · rw [List.take_of_length_le (by omega)]
    refine wk ?_
    (first | intro K ms hms hK | intro K hK)
    refine Chain.frzVar 18 rfl rfl ?_
    ((try (first | intro K ms hms hK | intro K hK)); (first | apply Chain.go | apply Chain.goD); exact rfl; exact rfl; refine Loc.callD (packF (l.map zigN) (fun u h => by obtain ⟨x, _, rfl⟩ := List.mem_map.1 h; exact zigN_lt x) (by simpa using hl)) rfl ?_; (repeat (first | exact trivial | refine ⟨.inl rfl, ?_⟩ | refine ⟨.inr rfl, ?_⟩)))
    ((try (first | intro K ms hms hK | intro K hK)); (first | apply Chain.go | apply Chain.goD); exact rfl; exact rfl; exact Loc.toStr (e := 5) rfl rfl (by kernel_rfl) (by kernel_rfl) (by kernel_rfl))
    refine wk ?_
    exact ⟨.d rfl (.inl rfl), trivial⟩
end Go.Proofs.YtfijmpmojhlnmaaGreatDoor
namespace Go.Proofs.YtfijmpmojhlnmaaGreatDoor
open Go.RowKit
attribute [local irreducible] AC Do St
set_option maxRecDepth 100000 in
set_option maxHeartbeats 4000000 in
theorem cloneZR (l : List Int) (hlen : l.length ≤ 1000000000) : FnRow Tryz.prog 68 [.d (enZ l)] 3 1 (l.map fun v => [.v (.int .i64 v)]) := by
  show FnRow Tryz.prog 68 [.d (.l (l.map fun v => [.v (.int .i64 v)]))] 3 1 _
  have hk := enZ_one l
  have hl : (l.map fun v => [D.v (.int .i64 v)]).length ≤ 1000000000 := by simpa using hlen
  generalize (l.map fun v => [D.v (.int .i64 v)]) = xs at hk hl
  refine FnRow.of Tryz.func68 rfl (by kernel_rfl) Tryz.ntmps68 Tryz.results68 rfl fun w0 S0 => ?_
  refine wk ?_
  (first | intro K ms hms hK | intro K hK)
  refine Chain.eqN rfl rfl rfl rfl (fun h u => ?_) (fun u => ?_)
  · subst h
    (repeat (first
      | refine Chain.no rfl rfl ?_
      | refine Chain.noD rfl rfl ?_
      | ((first | apply Chain.go | apply Chain.goD); exact rfl; exact rfl; first
        | exact Loc.move (v := .d _) rfl rfl
        | exact Loc.assign (v := .d _) rfl rfl
        | exact Loc.loadP1 rfl rfl rfl rfl
        | exact Loc.loadQ1 rfl rfl rfl
        | exact Loc.fieldP rfl rfl rfl
        | exact Loc.fieldQ rfl rfl
        | exact Loc.pickT (v := .d _) rfl rfl rfl
        | exact Loc.pickF (v := .d _) rfl rfl rfl
        | exact Loc.loadPn rfl rfl rfl rfl (by kernel_rfl)
        | exact Loc.loadQw rfl rfl rfl
        | exact Loc.loadQn rfl rfl rfl rfl
        | exact Loc.idxM rfl rfl rfl rfl (by assumption) rfl
        | exact Loc.lenM rfl rfl
        | exact Loc.lenN rfl rfl
        | exact Loc.lenR rfl rfl rfl
        | exact Loc.len rfl rfl
        | exact Loc.lssT rfl rfl rfl (by omega)
        | exact Loc.lssF rfl rfl rfl (by omega)
        | exact Loc.eqlT rfl rfl rfl (by omega)
        | exact Loc.eqlF rfl rfl rfl (by omega)
        | exact Loc.neqT rfl rfl rfl (by omega)
        | exact Loc.neqF rfl rfl rfl (by omega)
        | exact Loc.gtrT rfl rfl rfl (by omega)
        | exact Loc.gtrF rfl rfl rfl (by omega)
        | exact Loc.geqT rfl rfl rfl (by omega)
        | exact Loc.geqF rfl rfl rfl (by omega)
        | exact Loc.leqT rfl rfl rfl (by omega)
        | exact Loc.leqF rfl rfl rfl (by omega)
        | exact Loc.add rfl rfl rfl (IntWalk.i64_in _ (by omega))
        | exact Loc.sub rfl rfl rfl (IntWalk.i64_in _ (by omega))
        | exact Loc.notT rfl rfl
        | exact Loc.notF rfl rfl
        | exact Loc.fieldE rfl rfl rfl
        | exact Loc.loadE1 rfl rfl rfl (by assumption) rfl
        | exact Loc.idxR rfl rfl rfl rfl rfl (by omega) rfl
        | exact Loc.move (v := .g _) rfl rfl
        | exact Loc.move (v := .p _ _) rfl rfl
        | exact Loc.move (v := .r _ _) rfl rfl
        | exact Loc.move (v := .t _) rfl rfl
        | exact Loc.assign (v := .g _) rfl rfl
        | exact Loc.assign (v := .r _ _) rfl rfl
        | exact Loc.assign (v := .p _ _) rfl rfl
        | exact Loc.extract (v := .d _) rfl rfl rfl rfl
        | exact Loc.extract (v := .g _) rfl rfl rfl rfl
        | exact Loc.pickT (v := .g _) rfl rfl rfl
        | exact Loc.pickF (v := .g _) rfl rfl rfl
        | exact Loc.move (v := .un) rfl rfl
        | exact Loc.build rfl rfl rfl rfl
        | exact Loc.litP rfl rfl rfl rfl rfl rfl rfl)
      | refine Chain.nil0 (hK _ ?_)
      | ((first | apply Chain.st | apply Chain.stD); exact rfl; exact rfl; (first
        | exact Do.storeP rfl rfl rfl rfl .g rfl rfl rfl
        | exact Do.storeP rfl rfl rfl rfl .d rfl rfl rfl
        | exact Do.storeP rfl rfl rfl rfl (.r rfl) rfl rfl rfl); exact rfl; exact rfl)
      | ((first | apply Chain.ef | apply Chain.efD); exact rfl; exact rfl; (first
        | exact Do.alloc rfl rfl rfl
        | exact Do.box rfl rfl rfl .g rfl
        | exact Do.box rfl rfl rfl .d rfl
        | exact Do.lit0 rfl rfl
        | exact Do.append1 rfl rfl rfl rfl rfl rfl (by first | omega | (simp; omega))
        | exact Do.appendN1 rfl rfl rfl rfl rfl rfl); exact rfl; exact rfl)
      | refine Chain.nilD (by rw [hms]; kernel_rfl) (hK _ ?_)
      | refine Chain.noN rfl rfl ?_))
    refine AC.condT rfl ?_
    refine AC.seq ?_
    refine AC.reg (by decide +kernel) ?_
    (first | intro K ms hms hK | intro K hK)
    (repeat (first
      | refine Chain.no rfl rfl ?_
      | refine Chain.noD rfl rfl ?_
      | ((first | apply Chain.go | apply Chain.goD); exact rfl; exact rfl; first
        | exact Loc.move (v := .d _) rfl rfl
        | exact Loc.assign (v := .d _) rfl rfl
        | exact Loc.loadP1 rfl rfl rfl rfl
        | exact Loc.loadQ1 rfl rfl rfl
        | exact Loc.fieldP rfl rfl rfl
        | exact Loc.fieldQ rfl rfl
        | exact Loc.pickT (v := .d _) rfl rfl rfl
        | exact Loc.pickF (v := .d _) rfl rfl rfl
        | exact Loc.loadPn rfl rfl rfl rfl (by kernel_rfl)
        | exact Loc.loadQw rfl rfl rfl
        | exact Loc.loadQn rfl rfl rfl rfl
        | exact Loc.idxM rfl rfl rfl rfl (by assumption) rfl
        | exact Loc.lenM rfl rfl
        | exact Loc.lenN rfl rfl
        | exact Loc.lenR rfl rfl rfl
        | exact Loc.len rfl rfl
        | exact Loc.lssT rfl rfl rfl (by omega)
        | exact Loc.lssF rfl rfl rfl (by omega)
        | exact Loc.eqlT rfl rfl rfl (by omega)
        | exact Loc.eqlF rfl rfl rfl (by omega)
        | exact Loc.neqT rfl rfl rfl (by omega)
        | exact Loc.neqF rfl rfl rfl (by omega)
        | exact Loc.gtrT rfl rfl rfl (by omega)
        | exact Loc.gtrF rfl rfl rfl (by omega)
        | exact Loc.geqT rfl rfl rfl (by omega)
        | exact Loc.geqF rfl rfl rfl (by omega)
        | exact Loc.leqT rfl rfl rfl (by omega)
        | exact Loc.leqF rfl rfl rfl (by omega)
        | exact Loc.add rfl rfl rfl (IntWalk.i64_in _ (by omega))
        | exact Loc.sub rfl rfl rfl (IntWalk.i64_in _ (by omega))
        | exact Loc.notT rfl rfl
        | exact Loc.notF rfl rfl
        | exact Loc.fieldE rfl rfl rfl
        | exact Loc.loadE1 rfl rfl rfl (by assumption) rfl
        | exact Loc.idxR rfl rfl rfl rfl rfl (by omega) rfl
        | exact Loc.move (v := .g _) rfl rfl
        | exact Loc.move (v := .p _ _) rfl rfl
        | exact Loc.move (v := .r _ _) rfl rfl
        | exact Loc.move (v := .t _) rfl rfl
        | exact Loc.assign (v := .g _) rfl rfl
        | exact Loc.assign (v := .r _ _) rfl rfl
        | exact Loc.assign (v := .p _ _) rfl rfl
        | exact Loc.extract (v := .d _) rfl rfl rfl rfl
        | exact Loc.extract (v := .g _) rfl rfl rfl rfl
        | exact Loc.pickT (v := .g _) rfl rfl rfl
        | exact Loc.pickF (v := .g _) rfl rfl rfl
        | exact Loc.move (v := .un) rfl rfl
        | exact Loc.build rfl rfl rfl rfl
        | exact Loc.litP rfl rfl rfl rfl rfl rfl rfl)
      | refine Chain.nil0 (hK _ ?_)
      | ((first | apply Chain.st | apply Chain.stD); exact rfl; exact rfl; (first
        | exact Do.storeP rfl rfl rfl rfl .g rfl rfl rfl
        | exact Do.storeP rfl rfl rfl rfl .d rfl rfl rfl
        | exact Do.storeP rfl rfl rfl rfl (.r rfl) rfl rfl rfl); exact rfl; exact rfl)
      | ((first | apply Chain.ef | apply Chain.efD); exact rfl; exact rfl; (first
        | exact Do.alloc rfl rfl rfl
        | exact Do.box rfl rfl rfl .g rfl
        | exact Do.box rfl rfl rfl .d rfl
        | exact Do.lit0 rfl rfl
        | exact Do.append1 rfl rfl rfl rfl rfl rfl (by first | omega | (simp; omega))
        | exact Do.appendN1 rfl rfl rfl rfl rfl rfl); exact rfl; exact rfl)
      | refine Chain.nilD (by rw [hms]; kernel_rfl) (hK _ ?_)
      | refine Chain.noN rfl rfl ?_))
    refine AC.rowVar 2 7 3 1 rfl rfl ?_
    refine wk ?_
    exact ⟨2, 7, 0, rfl, rfl, rfl⟩
  · refine wk ?_
    ((try (first | intro K ms hms hK | intro K hK)); (first | apply Chain.ef | apply Chain.efD); exact rfl; exact rfl; exact Do.append rfl rfl rfl rfl rfl hk (by simp; omega); exact rfl; exact rfl)
    refine wk ?_
    exact ⟨2, 5, 1, rfl, rfl, rfl⟩
set_option maxRecDepth 100000 in
set_option maxHeartbeats 4000000 in
theorem cloneZ (l : List Int) (hlen : l.length ≤ 1000000000) : Fn Tryz.prog 68 [.d (enZ l)] [.d (enZ l)] := by
  show Fn Tryz.prog 68 [.d (.l (l.map fun v => [.v (.int .i64 v)]))] [.d (.l (l.map fun v => [.v (.int .i64 v)]))]
  have hk := enZ_one l
  have hl : (l.map fun v => [D.v (.int .i64 v)]).length ≤ 1000000000 := by simpa using hlen
  generalize (l.map fun v => [D.v (.int .i64 v)]) = xs at hk hl
  refine Fn.of Tryz.func68 rfl (by kernel_rfl) Tryz.ntmps68 Tryz.results68 rfl fun w0 S0 => ?_
  refine wk ?_
  (first | intro K ms hms hK | intro K hK)
  refine Chain.eqN rfl rfl rfl rfl (fun h u => ?_) (fun u => ?_)
  · subst h
    refine wk ?_
    exact ⟨.d rfl (.inr rfl), trivial⟩
  · refine wk ?_
    ((try (first | intro K ms hms hK | intro K hK)); (first | apply Chain.ef | apply Chain.efD); exact rfl; exact rfl; exact Do.append rfl rfl rfl rfl rfl hk (by simp; omega); exact rfl; exact rfl)
    refine wk ?_
    exact ⟨.d rfl ⟨_, _, rfl⟩, trivial⟩
set_option maxRecDepth 100000 in
set_option maxHeartbeats 4000000 in
theorem cloneR (l : List Rat) (hlen : l.length ≤ 1000000000) : Fn Tryz.prog 69 [.d (.l (l.map enR))] [.d (.l (l.map enR))] := by
  have hk : ∀ c ∈ l.map enR, c.length = 3 := fun c hc => by obtain ⟨t, _, rfl⟩ := List.mem_map.1 hc; rfl
  have hl : (l.map enR).length ≤ 1000000000 := by simpa using hlen
  generalize l.map enR = xs at hk hl
  refine Fn.of Tryz.func69 rfl (by kernel_rfl) Tryz.ntmps69 Tryz.results69 rfl fun w0 S0 => ?_
  refine wk ?_
  (first | intro K ms hms hK | intro K hK)
  refine Chain.eqN rfl rfl rfl rfl (fun h u => ?_) (fun u => ?_)
  · subst h
    refine wk ?_
    exact ⟨.d rfl (.inr rfl), trivial⟩
  · refine wk ?_
    ((try (first | intro K ms hms hK | intro K hK)); (first | apply Chain.ef | apply Chain.efD); exact rfl; exact rfl; exact Do.append rfl rfl rfl rfl rfl hk (by simp; omega); exact rfl; exact rfl)
    refine wk ?_
    exact ⟨.d rfl ⟨_, _, rfl⟩, trivial⟩
set_option maxRecDepth 100000 in
set_option maxHeartbeats 4000000 in
theorem joinNil (s : ByteArray) : Fn Tryz.prog 71 [.d (.l []), .d (.v (.string s))] [.d (.v (.string ⟨#[]⟩))] := by
  refine Fn.of Tryz.func71 rfl (by kernel_rfl) Tryz.ntmps71 Tryz.results71 rfl fun w0 S0 => ?_
  refine wk ?_
  ((try (first | intro K ms hms hK | intro K hK)); (first | apply Chain.go | apply Chain.goD); exact rfl; exact rfl; exact Loc.eqlT rfl rfl rfl rfl)
  refine wk ?_
  exact ⟨.d rfl (.inl rfl), trivial⟩
end Go.Proofs.YtfijmpmojhlnmaaGreatDoor
namespace Go.Proofs.YtfijmpmojhlnmaaGreatDoor
open Go.RowKit
attribute [local irreducible] AC Do St
/-- The step with other premises. -/
def mvS (s : Stp) (ft : List Int) : Stp := ⟨s.rule, s.cl, s.idx, s.pr.map fun k => ft.getD k.toNat 0, s.tm⟩
theorem enZ_get (l : List Int) (i : Nat) (h : i < l.length) : (l.map fun v => [D.v (.int .i64 v)])[i]? = some [.v (.int .i64 l[i])] := by simp [h]
def mixL (p : List Int) (g : Int → Int) (i : Nat) : List Int := (p.take i).map g ++ p.drop i
theorem mix_get {p : List Int} {g : Int → Int} {i : Nat} {k : Int} (h : p[i]? = some k) : (mixL p g i)[i]? = some k := by
  obtain ⟨h1, h2⟩ := List.getElem?_eq_some_iff.1 h
  unfold mixL
  rw [List.getElem?_append_right (by simp; omega)]
  simp [Nat.min_eq_left (Nat.le_of_lt h1), h]
theorem mix_set {p : List Int} {g : Int → Int} {i : Nat} {k : Int} (h : p[i]? = some k) : (mixL p g i).set i (g k) = mixL p g (i + 1) := by
  obtain ⟨h1, h2⟩ := List.getElem?_eq_some_iff.1 h
  unfold mixL
  rw [List.set_append_right _ _ (by simp; omega), List.take_succ_eq_append_getElem h1, List.map_append, h2]
  have : i - ((p.take i).map g).length = 0 := by simp; omega
  rw [this, List.drop_eq_getElem_cons h1, List.set_cons_zero]
  simp
theorem mix_len (p : List Int) (g : Int → Int) (i : Nat) : (mixL p g i).length = p.length := by unfold mixL; simp; omega
set_option maxRecDepth 100000 in
set_option maxHeartbeats 4000000 in
theorem copiedF (s : Stp) (ft : List Int) (h1 : s.cl.length ≤ 1000000) (h2 : s.pr.length ≤ 1000000) (h3 : s.tm.length ≤ 1000000) (hp : ∀ k ∈ s.pr, 0 ≤ k ∧ k < ft.length) :
    FnX Tryz.prog 38 [.g (enS s)] (.row 0 3 1 (ft.map fun v => [.v (.int .i64 v)])) (.row 0 3 1 (ft.map fun v => [.v (.int .i64 v)])) [] [.g (enS (mvS s ft))] := by
  have htl : (ft.map fun v => [D.v (.int .i64 v)]).length = ft.length := by simp
  refine FnX.of Tryz.func38 rfl (by kernel_rfl) Tryz.ntmps38 Tryz.results38 rfl .row fun w0 S0 v => ?_
  refine wk ?_
  ((try (first | intro K ms hms hK | intro K hK)); (first | apply Chain.go | apply Chain.goD); exact rfl; exact rfl; refine Loc.callD (cloneZ s.cl (by omega)) rfl ?_; (repeat (first | exact trivial | refine ⟨.inl rfl, ?_⟩ | refine ⟨.inr rfl, ?_⟩)))
  refine wk ?_
  ((try (first | intro K ms hms hK | intro K hK)); (first | apply Chain.go | apply Chain.goD); exact rfl; exact rfl; refine Loc.callD (cloneR s.tm (by omega)) rfl ?_; (repeat (first | exact trivial | refine ⟨.inl rfl, ?_⟩ | refine ⟨.inr rfl, ?_⟩)))
  refine wk ?_
  ((try (first | intro K ms hms hK | intro K hK)); (first | apply Chain.ef | apply Chain.efD); exact rfl; exact rfl; exact Do.callRow (cloneZR s.pr (by omega)) rfl ⟨.inl rfl, trivial⟩ rfl; exact rfl; exact rfl)
  refine wk ?_
  refine AC.loop (X := Nat) (fun i => ⟨[(1, .r 37 0), (2, .p 2 0), (4, .p 4 0), (5, .r 18 0), (19, .r 18 0), (20, .d (.v (.int .i64 ((s.pr.map fun v => [D.v (.int .i64 v)]).length : Int)))), (21, .d (.v (.int .i64 (i : Int))))], [(2, .box 100 ((enS s).map .d)), (4, .box 100 [.d (.v (.int .i64 0)), .d .n, .d (.v (.int .i64 0)), .d .n, .d .n]), (18, .row 0 3 1 ((mixL s.pr (fun k => ft.getD k.toNat 0) i).map fun v => [.v (.int .i64 v)])), (37, .row 0 3 1 (ft.map fun v => [.v (.int .i64 v)]))]⟩) (fun i => i ≤ s.pr.length) (fun i => s.pr.length - i) 0 (Nat.zero_le _) ⟨rfl, rfl, rfl, rfl, rfl, rfl, rfl, trivial⟩ ⟨rfl, rfl, rfl, rfl, trivial⟩ ?_
  intro i hi
  have hpl : (s.pr.map fun v => [D.v (.int .i64 v)]).length = s.pr.length := by simp
  refine wk ?_
  ((try (first | intro K ms hms hK | intro K hK)); (first | refine Chain.lss rfl rfl rfl rfl rfl (fun h4 => ?_) (fun h4 => ?_) | refine Chain.lssD rfl rfl rfl rfl rfl (fun h4 => ?_) (fun h4 => ?_)))
  · have hi' : i < s.pr.length := by omega
    have hget : s.pr[i]? = some s.pr[i] := List.getElem?_eq_getElem hi'
    obtain ⟨hk0, hk1⟩ := hp s.pr[i] (List.getElem_mem hi')
    have hmg := mix_get (g := fun k => ft.getD k.toNat 0) hget
    have hms := mix_set (g := fun k => ft.getD k.toNat 0) hget
    have hml := mix_len s.pr (fun k => ft.getD k.toNat 0) i
    generalize s.pr[i] = k at hget hk0 hk1 hmg hms
    have hml2 : ((mixL s.pr (fun k => ft.getD k.toNat 0) i).map fun v => [D.v (.int .i64 v)]).length = s.pr.length := by rw [List.length_map]; exact hml
    have hmg2 : ((mixL s.pr (fun k => ft.getD k.toNat 0) i).map fun v => [D.v (.int .i64 v)])[i]? = some [.v (.int .i64 k)] := by rw [List.getElem?_map, hmg]; rfl
    have hfg : (ft.map fun v => [D.v (.int .i64 v)])[k.toNat]? = some [.v (.int .i64 (ft.getD k.toNat 0))] := by
      rw [List.getElem?_map, List.getD_eq_getElem?_getD, List.getElem?_eq_getElem (by omega)]; rfl
    refine wk ?_
    ((try (first | intro K ms hms hK | intro K hK)); (first | apply Chain.go | apply Chain.goD); exact rfl; exact rfl; exact Loc.idxR (i := k.toNat) rfl rfl rfl rfl (by omega) (by omega) rfl)
    refine wk ?_
    ((try (first | intro K ms hms hK | intro K hK)); (first | apply Chain.st | apply Chain.stD); exact rfl; exact rfl; exact Do.setM (ft.getD k.toNat 0) rfl rfl rfl hmg rfl rfl rfl rfl rfl rfl; exact rfl; exact rfl)
    refine wk ?_
    exact ⟨i + 1, by omega, by omega, ⟨rfl, rfl, rfl, rfl, rfl, rfl, rfl, trivial⟩, ⟨rfl, rfl, by rw [← hms]; rfl, rfl, trivial⟩⟩
  · have hfin : mixL s.pr (fun k => ft.getD k.toNat 0) i = (mvS s ft).pr := by
      unfold mixL
      rw [List.take_of_length_le (by omega), List.drop_of_length_le (by omega), List.append_nil]
      rfl
    rw [hfin]
    refine wk ?_
    (first | intro K ms hms hK | intro K hK)
    refine Chain.frzBox 2 3 rfl rfl rfl ?_
    refine wk ?_
    exact ⟨⟨.cn rfl rfl inferInstance rfl ⟨.inl rfl, .inl rfl, .inl rfl, .inl rfl, .inl rfl, trivial⟩, trivial⟩, rfl⟩
end Go.Proofs.YtfijmpmojhlnmaaGreatDoor
namespace Go.Proofs.YtfijmpmojhlnmaaGreatDoor
open Go.RowKit
attribute [local irreducible] AC Do St
/-- A step's key: its numbers and three texts. -/
structure Ky where
  c1 : Stp → ByteArray
  c2 : Stp → ByteArray
  c3 : Stp → ByteArray
def Ky.kv (K : Ky) (s : Stp) : List Value := [.int .i64 s.rule, .int .i64 s.idx, .string (K.c1 s), .string (K.c2 s), .string (K.c3 s)]
section
variable (kl : Stp → Lit)
/-- Where the first step stands that has this key. -/
noncomputable def fiK (out : List Stp) (k : Lit) : Option Nat := by
  classical
  exact out.findIdx? (fun y => decide (kl y = k))
theorem fiK_some {out : List Stp} {k : Lit} {i : Nat} (h : fiK kl out k = some i) : ∃ h : i < out.length, kl out[i] = k := by
  unfold fiK at h
  rw [List.findIdx?_eq_some_iff_getElem] at h
  obtain ⟨h1, h2, _⟩ := h
  exact ⟨h1, by simpa using h2⟩
theorem fiK_none {out : List Stp} {k : Lit} (h : fiK kl out k = none) : ∀ y ∈ out, kl y ≠ k := fun y hy => by
  unfold fiK at h
  have := List.findIdx?_eq_none_iff.1 h y hy
  simpa using this
noncomputable def shStep (a : List Stp × List Int) (s : Stp) : List Stp × List Int := match fiK kl a.1 (kl (mvS s a.2)) with
  | some i => (a.1, a.2 ++ [(i : Int)])
  | none => (a.1 ++ [mvS s a.2], a.2 ++ [(a.1.length : Int)])
/-- Each step once, and where each step's like stands. -/
noncomputable def share (l : List Stp) : List Stp × List Int := l.foldl (shStep kl) ([], [])
theorem share_succ {l : List Stp} {i : Nat} {s : Stp} (h : l[i]? = some s) : share kl (l.take (i + 1)) = shStep kl (share kl (l.take i)) s := by
  obtain ⟨h1, h2⟩ := List.getElem?_eq_some_iff.1 h
  unfold share
  rw [List.take_succ_eq_append_getElem h1, List.foldl_append, h2]
  rfl
/-- What is known of a list of steps without two alike. -/
structure Shd (a : List Stp × List Int) (n : Nat) : Prop where
  len : a.2.length = n
  out : a.1.length ≤ n
  nd : (a.1.map kl).Nodup
  rg : ∀ k ∈ a.2, 0 ≤ k ∧ k < (a.1.length : Int)
theorem Shd.nil : Shd kl ([], []) 0 := ⟨rfl, Nat.le_refl _, List.nodup_nil, by simp⟩
variable {kl}
theorem Shd.found {a : List Stp × List Int} {n i : Nat} (h : Shd kl a n) (hi : i < a.1.length) : Shd kl (a.1, a.2 ++ [(i : Int)]) (n + 1) := by
  refine ⟨by simp [h.len], Nat.le_succ_of_le h.out, h.nd, fun k hk => ?_⟩
  rcases List.mem_append.1 hk with hk | hk
  · exact h.rg k hk
  · rw [List.mem_singleton.1 hk]; simp only; omega
theorem Shd.new {a : List Stp × List Int} {n : Nat} {x : Stp} (h : Shd kl a n) (hx : ∀ y ∈ a.1, kl y ≠ kl x) : Shd kl (a.1 ++ [x], a.2 ++ [(a.1.length : Int)]) (n + 1) := by
  refine ⟨by simp [h.len], by have := h.out; simp; omega, ?_, fun k hk => ?_⟩
  · rw [List.map_append, List.nodup_append]
    refine ⟨h.nd, by simp, fun a ha b hb => ?_⟩
    obtain ⟨y, hy, rfl⟩ := List.mem_map.1 ha
    rw [List.map_cons, List.map_nil, List.mem_singleton] at hb
    rw [hb]
    exact hx y hy
  · simp only [List.length_append, List.length_cons, List.length_nil]
    rcases List.mem_append.1 hk with hk | hk
    · have := h.rg k hk; omega
    · rw [List.mem_singleton.1 hk]; omega
/-- The map from keys to places. -/
def mapK : List Lit → Nat → DataW Unit → DataW Unit
  | [], _, M => M
  | k :: r, n, M => mapK r (n + 1) (M.put k (.lit (.int .i64 n)))
theorem mapK_snoc : ∀ (ks : List Lit) (k : Lit) (n : Nat) (M : DataW Unit), mapK (ks ++ [k]) n M = (mapK ks n M).put k (.lit (.int .i64 ((n + ks.length : Nat) : Int)))
  | [], k, n, M => rfl
  | x :: r, k, n, M => by
    rw [List.cons_append, mapK, mapK_snoc r k (n + 1)]
    rw [mapK, List.length_cons, show n + 1 + r.length = n + (r.length + 1) by omega]
theorem mapK_isMap : ∀ (ks : List Lit) (n : Nat) (M : DataW Unit), Go.Maps.IsMap M → Go.Maps.IsMap (mapK ks n M)
  | [], _, _, h => h
  | k :: r, n, _, h => mapK_isMap r (n + 1) _ (h.put k _)
theorem mapK_miss : ∀ (ks : List Lit) (n : Nat) (M : DataW Unit) (k : Lit), k ∉ ks → Go.Maps.has (mapK ks n M) k = Go.Maps.has M k ∧ ∀ z, (mapK ks n M).atKey k z = M.atKey k z
  | [], _, _, _, _ => ⟨rfl, fun _ => rfl⟩
  | x :: r, n, M, k, h => by
    have hne : k ≠ x := fun e => h (by simp [e])
    obtain ⟨h1, h2⟩ := mapK_miss r (n + 1) (M.put x (.lit (.int .i64 n))) k fun e => h (by simp [e])
    exact ⟨h1.trans (Go.Maps.has_put_other hne _), fun z => (h2 z).trans (Go.Maps.atKey_put_other hne _ _)⟩
theorem mapK_hit : ∀ (ks : List Lit) (n : Nat) (M : DataW Unit) (i : Nat) (k : Lit), Go.Maps.IsMap M → WideAt.IsKeyLit k → ks.Nodup → ks[i]? = some k → Go.Maps.has (mapK ks n M) k = true ∧ ∀ z, (mapK ks n M).atKey k z = .lit (.int .i64 ((n + i : Nat) : Int))
  | [], _, _, _, _, _, _, _, h => by simp at h
  | x :: r, n, M, 0, k, hM, hk, hnd, h => by
    simp only [List.getElem?_cons_zero, Option.some.injEq] at h
    subst h
    obtain ⟨h1, h2⟩ := mapK_miss r (n + 1) (M.put x (.lit (.int .i64 n))) x (List.nodup_cons.1 hnd).1
    exact ⟨h1.trans (Go.Maps.has_put_same hM hk _), fun z => (h2 z).trans (Go.Maps.atKey_put_same hM hk _ _)⟩
  | x :: r, n, M, i + 1, k, hM, hk, hnd, h => by
    have := mapK_hit r (n + 1) (M.put x (.lit (.int .i64 n))) i k (hM.put _ _) hk (List.nodup_cons.1 hnd).2 (by simpa using h)
    rw [mapK, show n + (i + 1) = n + 1 + i by omega]
    exact this
end
theorem mvS_pr (s : Stp) (ft : List Int) : (mvS s ft).pr.length = s.pr.length := by unfold mvS; simp
/-- What is asked of the keys of the steps that a list leads to. -/
structure KyOK (Y : Ky) (kl : Stp → Lit) (l : List Stp) : Prop where
  fn : ∀ s ∈ l, ∀ ft : List Int, (∀ k ∈ ft, 0 ≤ k ∧ k < 300000) → Fn Tryz.prog 39 [.g (enS (mvS s ft))] [.g ((Y.kv (mvS s ft)).map D.v)]
  lit : ∀ s ∈ l, ∀ ft : List Int, (∀ k ∈ ft, 0 ≤ k ∧ k < 300000) → keyOf Tryz.prog 103 (.agg (Y.kv (mvS s ft)).toArray) = some (kl (mvS s ft))
set_option maxRecDepth 100000 in
set_option maxHeartbeats 8000000 in
theorem shareF (Y : Ky) (kl : Stp → Lit) (l : List Stp) (hl : l.length ≤ 300000) (hsm : ∀ s ∈ l, SmS s) (hok : okS l) (hY : KyOK Y kl l) (hkd : Go.Maps.Keyed Tryz.prog 103) : Fn Tryz.prog 7 [.d (.l (l.map enS))] [.d (.l ((share kl l).1.map enS)), .d (enZ (share kl l).2), .d (.v (.int .i64 0))] := by
  have hchk := checkF l hl (fun s h => (hsm s h).2.2.2)
  rw [chk_ok hok] at hchk
  have hz : ∀ w, (zeroValue 3).run Tryz.prog w = .ok (.int .i64 0) w := fun w => by kernel_rfl
  have hT : (Tryz.prog).underlying 97 = some (.map 103 3) := by kernel_rfl
  have hE : (Tryz.prog).underlying 3 = some (.int .i64) := by kernel_rfl
  refine Fn.of Tryz.func7 rfl (by kernel_rfl) Tryz.ntmps7 Tryz.results7 rfl fun w0 S0 => ?_
  refine wk ?_
  ((try (first | intro K ms hms hK | intro K hK)); (first | apply Chain.go | apply Chain.goD); exact rfl; exact rfl; refine Loc.callD (hchk) rfl ?_; (repeat (first | exact trivial | refine ⟨.inl rfl, ?_⟩ | refine ⟨.inr rfl, ?_⟩)))
  refine wk ?_
  (first | intro K ms hms hK | intro K hK)
  refine Chain.mkMap 103 3 rfl rfl rfl rfl fun b => ?_
  refine wk ?_
  refine AC.rowVar 6 48 100 5 rfl rfl ?_
  refine AC.rowVar 7 52 3 1 rfl rfl ?_
  refine AC.loop (X := Nat) (fun i => ⟨[(6, .r 48 (share kl (l.take i)).1.length), (7, .r 52 i), (8, .d (.v (.map (some b)))), (21, .d (.l (l.map enS))), (22, .d (.v (.int .i64 (l.length : Int)))), (23, .d (.v (.int .i64 (i : Int))))],
    [(48, .row (share kl (l.take i)).1.length 100 5 ((share kl (l.take i)).1.map enS)), (52, .row i 3 1 ((share kl (l.take i)).2.map fun v => [.v (.int .i64 v)])), (20, mapO Tryz.prog 103 3 b (share kl (l.take i)).1.length (mapK ((share kl (l.take i)).1.map kl) 0 (.map [])))]⟩)
    (fun i => i ≤ l.length ∧ Shd kl (share kl (l.take i)) i) (fun i => l.length - i) 0 ⟨Nat.zero_le _, Shd.nil kl⟩ ⟨rfl, rfl, rfl, rfl, rfl, rfl, trivial⟩ ⟨rfl, rfl, rfl, trivial⟩ ?_
  intro i ⟨hi, hsh⟩
  refine wk ?_
  ((try (first | intro K ms hms hK | intro K hK)); (first | refine Chain.lss rfl rfl rfl rfl rfl (fun h1 => ?_) (fun h1 => ?_) | refine Chain.lssD rfl rfl rfl rfl rfl (fun h1 => ?_) (fun h1 => ?_)))
  · have hi' : i < l.length := by omega
    have hget : l[i]? = some l[i] := List.getElem?_eq_getElem hi'
    obtain ⟨hs1, hs2, hs3, hs4⟩ := hsm l[i] (List.getElem_mem hi')
    have hpr : ∀ k ∈ l[i].pr, 0 ≤ k ∧ k < i := fun k hk => okTo_pr hok hget hk
    have hsucc := share_succ kl hget
    have hft : ∀ k ∈ (share kl (l.take i)).2, 0 ≤ k ∧ k < 300000 := fun k hk => by
      have := hsh.rg k hk
      have := hsh.out
      omega
    have hky := hY.fn l[i] (List.getElem_mem hi') _ hft
    have hkl := hY.lit l[i] (List.getElem_mem hi') _ hft
    generalize l[i] = s at hget hs1 hs2 hs3 hs4 hpr hsucc hky hkl
    generalize share kl (l.take i) = a at hsh hsucc hky hkl ⊢
    obtain ⟨out, ft⟩ := a
    dsimp only at hsh hsucc hky hkl ⊢
    have hfl : ft.length = i := hsh.len
    have hol : out.length ≤ i := hsh.out
    refine wk ?_
    ((try (first | intro K ms hms hK | intro K hK)); (first | apply Chain.ef | apply Chain.efD); exact rfl; exact rfl; (refine Do.callKr (copiedF s ft (by omega) (by omega) (by omega) (fun k hk => by have := hpr k hk; omega)) rfl rfl rfl rfl ?_ ?_ <;> (first | exact trivial | repeat (first | exact trivial | refine ⟨.inl rfl, ?_⟩ | refine ⟨.inr rfl, ?_⟩))); exact rfl; exact rfl)
    refine wk ?_
    ((try (first | intro K ms hms hK | intro K hK)); (first | apply Chain.go | apply Chain.goD); exact rfl; exact rfl; refine Loc.callG (hky) rfl ?_; (repeat (first | exact trivial | refine ⟨.inl rfl, ?_⟩ | refine ⟨.inr rfl, ?_⟩)))
    refine wk ?_
    have hkey : WideAt.IsKeyLit (kl (mvS s ft)) := hkd.key hkl
    have hlen1 : (out.map enS).length = out.length := by simp
    cases hf : fiK kl out (kl (mvS s ft)) with
    | some j =>
      obtain ⟨hj, hjk⟩ := fiK_some kl hf
      have hst : shStep kl (out, ft) s = (out, ft ++ [(j : Int)]) := by unfold shStep; dsimp only; rw [hf]
      rw [hst] at hsucc
      obtain ⟨m1, m2⟩ := mapK_hit (out.map kl) 0 (.map []) j (kl (mvS s ft)) Go.Maps.isMap_empty hkey hsh.nd (by rw [List.getElem?_map, List.getElem?_eq_getElem hj, Option.map_some, hjk])
      rw [Nat.zero_add] at m2
      ((try (first | intro K ms hms hK | intro K hK)); (first | apply Chain.go | apply Chain.goD); exact rfl; exact rfl; exact Loc.lookM (id := 20) (xs := Y.kv (mvS s ft)) rfl rfl rfl rfl hT hE hz hkd hkl (m2 _) m1)
      refine wk ?_
      have hsh2 := hsh.found (i := j) hj
      refine ⟨i + 1, ⟨by omega, by rw [hsucc]; exact hsh2⟩, by omega, ⟨by rw [hsucc]; rfl, rfl, rfl, rfl, rfl, rfl, trivial⟩, ⟨by rw [hsucc]; rfl, by rw [hsucc, enZ_snoc]; rfl, by rw [hsucc]; rfl, trivial⟩⟩
    | none =>
      have hnone := fiK_none kl hf
      have hst : shStep kl (out, ft) s = (out ++ [mvS s ft], ft ++ [(out.length : Int)]) := by unfold shStep; dsimp only; rw [hf]
      rw [hst] at hsucc
      obtain ⟨m1, m2⟩ := mapK_miss (out.map kl) 0 (.map []) (kl (mvS s ft)) (fun h => by
        obtain ⟨y, hy, e⟩ := List.mem_map.1 h
        exact hnone y hy e)
      have hM : mapK ((out ++ [mvS s ft]).map kl) 0 (.map []) = (mapK (out.map kl) 0 (.map [])).put (kl (mvS s ft)) (.lit (.int .i64 (out.length : Int))) := by
        rw [List.map_append, List.map_cons, List.map_nil, mapK_snoc, List.length_map, Nat.zero_add]
      ((try (first | intro K ms hms hK | intro K hK)); (first | apply Chain.go | apply Chain.goD); exact rfl; exact rfl; exact Loc.lookM (id := 20) (xs := Y.kv (mvS s ft)) rfl rfl rfl rfl hT hE hz hkd hkl ((m2 _).trans rfl) (m1.trans rfl))
      refine wk ?_
      rw [hlen1]
      ((try (first | intro K ms hms hK | intro K hK)); (first | apply Chain.st | apply Chain.stD); exact rfl; exact rfl; exact Do.putM (id := 20) (xs := Y.kv (mvS s ft)) rfl rfl rfl rfl rfl hT hE hkd hkl (by omega) (WalkArith.wf_i64 (by omega)) rfl; exact rfl; exact rfl)
      refine wk ?_
      have hsh2 := hsh.new (x := mvS s ft) hnone
      refine ⟨i + 1, ⟨by omega, by rw [hsucc]; exact hsh2⟩, by omega, ⟨by rw [hsucc]; simp only [List.length_append, List.length_cons, List.length_nil]; rfl, rfl, rfl, rfl, rfl, rfl, trivial⟩, ⟨by rw [hsucc]; simp only [List.length_append, List.length_cons, List.length_nil, List.map_append]; rfl, by rw [hsucc, enZ_snoc]; rfl, by rw [hsucc, hM]; simp only [List.length_append, List.length_cons, List.length_nil]; rfl, trivial⟩⟩
  · obtain rfl : i = l.length := by omega
    rw [List.take_length]
    refine wk ?_
    exact ⟨.d rfl ⟨_, _, rfl⟩, .d rfl ⟨_, _, rfl⟩, .d rfl (.inl rfl), trivial⟩
end Go.Proofs.YtfijmpmojhlnmaaGreatDoor
namespace Go.Proofs.YtfijmpmojhlnmaaGreatDoor
open Go.RowKit
attribute [local irreducible] AC Do St
theorem keyd : Go.Maps.Keyed Tryz.prog 103 := Go.Maps.Keyed.of_law (deep_law_laid (m := 2) (by kernel_rfl) (by omega) (of_decide_eq_true (by kernel_rfl)) (by kernel_rfl) (by kernel_rfl))
theorem key_some (a b : Int) (x y z : ByteArray) (ha : (Lit.int .i64 a).wf = true) (hb : (Lit.int .i64 b).wf = true) (hx : x.size ≤ maxLen) (hy : y.size ≤ maxLen) (hz : z.size ≤ maxLen) : ∃ l, keyOf Tryz.prog 103 (.agg #[.int .i64 a, .int .i64 b, .string x, .string y, .string z]) = some l := by
  have hsz : (Tryz.prog).types.size + 1 = ((Tryz.prog).types.size - 1) + 2 := by
    have : (0 : Nat) < (Tryz.prog).types.size := of_decide_eq_true (by kernel_rfl)
    omega
  have hf : Value.formed Tryz.prog 103 (.agg #[.int .i64 a, .int .i64 b, .string x, .string y, .string z]) = true := by
    unfold Value.formed
    kernel_rfl
  have hl : ∃ ls, (Tryz.prog).keyLits ((Tryz.prog).types.size + 1) 103 [.int .i64 a, .int .i64 b, .string x, .string y, .string z] = some ls := by
    rw [hsz]
    generalize (Tryz.prog).types.size - 1 = n
    have hi : ∀ c : Int, (Lit.int .i64 c).wf = true → (Tryz.prog).keyLits (n + 1) 3 [.int .i64 c] = some [.int .i64 c] := fun c hc => by
      unfold Program.keyLits
      rw [Tryz.underlying3]
      simp [hc]
    have hs : ∀ c : ByteArray, c.size ≤ maxLen → (Tryz.prog).keyLits (n + 1) 9 [.string c] = some [.string c.data.toList] := fun c hc => by
      unfold Program.keyLits
      rw [Tryz.underlying9]
      simp [hc]
    have hci : (Tryz.prog).cellsOf 3 = 1 := by kernel_rfl
    have hcs : (Tryz.prog).cellsOf 9 = 1 := by kernel_rfl
    have hck : (Tryz.prog).cellsOf 103 = 5 := by kernel_rfl
    unfold Program.keyLits
    rw [Tryz.underlying103]
    refine ⟨[.int .i64 a, .int .i64 b, .string x.data.toList, .string y.data.toList, .string z.data.toList], ?_⟩
    simp [hci, hcs, hck, hi a ha, hi b hb, hs x hx, hs y hy, hs z hz]
  obtain ⟨ls, hl⟩ := hl
  unfold keyOf
  rw [Tryz.underlying103]
  have hkt : (Tryz.prog).keyType 103 = true := by kernel_rfl
  have hc : (Value.agg #[.int .i64 a, .int .i64 b, .string x, .string y, .string z]).cells.toList = [.int .i64 a, .int .i64 b, .string x, .string y, .string z] := rfl
  simp only [hkt, hf, Bool.and_self, if_true, hc, hl, Option.map_some]
  exact ⟨_, rfl⟩
noncomputable def klit (Y : Ky) (s : Stp) : Lit := (keyOf Tryz.prog 103 (.agg (Y.kv s).toArray)).getD .nil
theorem klit_some (Y : Ky) (s : Stp) (h1 : (Lit.int .i64 s.rule).wf = true) (h2 : (Lit.int .i64 s.idx).wf = true) (h3 : (Y.c1 s).size ≤ maxLen) (h4 : (Y.c2 s).size ≤ maxLen) (h5 : (Y.c3 s).size ≤ maxLen) : keyOf Tryz.prog 103 (.agg (Y.kv s).toArray) = some (klit Y s) := by
  obtain ⟨l, hl⟩ := key_some s.rule s.idx (Y.c1 s) (Y.c2 s) (Y.c3 s) h1 h2 h3 h4 h5
  have hl : keyOf Tryz.prog 103 (.agg (Y.kv s).toArray) = some l := hl
  unfold klit
  rw [hl]
  rfl
def Ky0 : Ky := ⟨fun s => packS s.cl, fun s => packS s.pr, fun _ => ⟨#[]⟩⟩
theorem packS_size (l : List Int) : (packS l).size ≤ l.length * 10 := by
  have := packL_len (us := l.map zigN) fun u h => by obtain ⟨x, _, rfl⟩ := List.mem_map.1 h; exact zigN_lt x
  rw [List.length_map] at this
  show (packL (l.map zigN)).toArray.size ≤ _
  simpa using this
set_option maxRecDepth 100000 in
set_option maxHeartbeats 2000000 in
theorem keyNil (s : Stp) (h0 : s.tm = []) (h1 : s.cl.length ≤ 1000000) (h2 : s.pr.length ≤ 1000000) : Fn Tryz.prog 39 [.g (enS s)] [.g ((Ky0.kv s).map D.v)] := by
  obtain ⟨rule, cl, idx, pr, tm⟩ := s
  dsimp only at h0 h1 h2
  subst h0
  refine Fn.of Tryz.func39 rfl (by kernel_rfl) Tryz.ntmps39 Tryz.results39 rfl fun w0 S0 => ?_
  refine wk ?_
  refine AC.loop (X := Nat) (fun _ => ⟨[(1, .p 1 0), (2, .p 2 0), (3, .d .n), (7, .d (.l [])), (8, .d (.v (.int .i64 0))), (9, .d (.v (.int .i64 0)))], [(1, .box 100 ((enS ⟨rule, cl, idx, pr, []⟩).map .d)), (2, .box 103 [.d (.v (.int .i64 0)), .d (.v (.int .i64 0)), .d (.v (.string ⟨#[]⟩)), .d (.v (.string ⟨#[]⟩)), .d (.v (.string ⟨#[]⟩))])]⟩) (fun _ => True) (fun i => i) 0 trivial ⟨rfl, rfl, rfl, rfl, rfl, rfl, trivial⟩ ⟨rfl, rfl, trivial⟩ ?_
  intro i _
  refine wk ?_
  ((try (first | intro K ms hms hK | intro K hK)); (first | apply Chain.go | apply Chain.goD); exact rfl; exact rfl; refine Loc.callD (packedF cl (by omega)) rfl ?_; (repeat (first | exact trivial | refine ⟨.inl rfl, ?_⟩ | refine ⟨.inr rfl, ?_⟩)))
  refine wk ?_
  ((try (first | intro K ms hms hK | intro K hK)); (first | apply Chain.go | apply Chain.goD); exact rfl; exact rfl; refine Loc.callD (packedF pr (by omega)) rfl ?_; (repeat (first | exact trivial | refine ⟨.inl rfl, ?_⟩ | refine ⟨.inr rfl, ?_⟩)))
  refine wk ?_
  ((try (first | intro K ms hms hK | intro K hK)); (first | apply Chain.go | apply Chain.goD); exact rfl; exact rfl; refine Loc.callD (joinNil ⟨#[32]⟩) rfl ?_; (repeat (first | exact trivial | refine ⟨.inl rfl, ?_⟩ | refine ⟨.inr rfl, ?_⟩)))
  refine wk ?_
  exact ⟨.cn rfl rfl inferInstance rfl ⟨.inl rfl, .inl rfl, .inl rfl, .inl rfl, .inl rfl, trivial⟩, trivial⟩
theorem share_inv {kl : Stp → Lit} {l : List Stp} (I : List Stp × List Int → Nat → Prop) (h0 : I ([], []) 0) (h1 : ∀ i a s, l[i]? = some s → I a i → I (shStep kl a s) (i + 1)) : ∀ n, n ≤ l.length → I (share kl (l.take n)) n
  | 0, _ => by simpa [share] using h0
  | n + 1, h => by
    have hg : l[n]? = some l[n] := List.getElem?_eq_getElem (by omega)
    rw [share_succ kl hg]
    exact h1 n _ _ hg (share_inv I h0 h1 n (by omega))
theorem shStep_cases (kl : Stp → Lit) (a : List Stp × List Int) (s : Stp) : (∃ j, ∃ h : j < a.1.length, kl a.1[j] = kl (mvS s a.2) ∧ shStep kl a s = (a.1, a.2 ++ [(j : Int)])) ∨ ((∀ y ∈ a.1, kl y ≠ kl (mvS s a.2)) ∧ shStep kl a s = (a.1 ++ [mvS s a.2], a.2 ++ [(a.1.length : Int)])) := by
  unfold shStep
  cases h : fiK kl a.1 (kl (mvS s a.2)) with
  | some j =>
    obtain ⟨h1, h2⟩ := fiK_some kl h
    exact .inl ⟨j, h1, h2, rfl⟩
  | none => exact .inr ⟨fiK_none kl h, rfl⟩
theorem share_shd {kl : Stp → Lit} (l : List Stp) : Shd kl (share kl l) l.length := by
  have := share_inv (kl := kl) (l := l) (fun a n => Shd kl a n) (Shd.nil kl) (fun i a s _ h => by
    rcases shStep_cases kl a s with ⟨j, hj, _, e⟩ | ⟨hn, e⟩
    · rw [e]; exact h.found hj
    · rw [e]; exact h.new hn) l.length (Nat.le_refl _)
  rwa [List.take_length] at this
theorem okS_snoc {out : List Stp} {x : Stp} (h : okS out) (hx : badP out.length x.pr = false) : okS (out ++ [x]) := fun i hi _ => by
  by_cases hi2 : i < out.length
  · rw [List.getElem_append_left hi2]; exact h i hi2 hi2
  · have e : i = out.length := by simp at hi; omega
    subst e
    rw [List.getElem_append_right (Nat.le_refl _)]
    simpa using hx
theorem badP_mvS {s : Stp} {ft : List Int} {n m : Nat} (hp : ∀ k ∈ s.pr, 0 ≤ k ∧ k < (n : Int)) (hl : ft.length = n) (hf : ∀ k ∈ ft, 0 ≤ k ∧ k < (m : Int)) : badP m (mvS s ft).pr = false := by
  refine List.any_eq_false.2 fun k hk => ?_
  obtain ⟨j, hj, rfl⟩ := List.mem_map.1 hk
  have := hp j hj
  have hlt : j.toNat < ft.length := by omega
  rw [List.getD_eq_getElem?_getD, List.getElem?_eq_getElem hlt]
  have := hf _ (List.getElem_mem hlt)
  simp only [Option.getD_some, Bool.or_eq_true, decide_eq_true_eq, not_or, Int.not_lt, Int.not_le]
  omega
theorem share_okS {kl : Stp → Lit} {l : List Stp} (hok : okS l) : okS (share kl l).1 := by
  have := share_inv (kl := kl) (l := l) (fun a n => Shd kl a n ∧ okS a.1) ⟨Shd.nil kl, fun i hi _ => absurd hi (by simp)⟩ (fun i a s hs ⟨h, h2⟩ => by
    rcases shStep_cases kl a s with ⟨j, hj, _, e⟩ | ⟨hn, e⟩
    · rw [e]; exact ⟨h.found hj, h2⟩
    · rw [e]
      exact ⟨h.new hn, okS_snoc h2 (badP_mvS (fun k hk => okTo_pr hok hs hk) h.len h.rg)⟩) l.length (Nat.le_refl _)
  rw [List.take_length] at this
  exact this.2
theorem share_mem {kl : Stp → Lit} {l : List Stp} : ∀ y ∈ (share kl l).1, ∃ s ∈ l, ∃ ft : List Int, (∀ k ∈ ft, 0 ≤ k ∧ k < (l.length : Int)) ∧ y = mvS s ft := by
  have := share_inv (kl := kl) (l := l) (fun a n => Shd kl a n ∧ ∀ y ∈ a.1, ∃ s ∈ l, ∃ ft : List Int, (∀ k ∈ ft, 0 ≤ k ∧ k < (n : Int)) ∧ y = mvS s ft) ⟨Shd.nil kl, by simp⟩ (fun i a s hs ⟨h, h2⟩ => by
    have hup : ∀ y ∈ a.1, ∃ s ∈ l, ∃ ft : List Int, (∀ k ∈ ft, 0 ≤ k ∧ k < ((i + 1 : Nat) : Int)) ∧ y = mvS s ft := fun y hy => by
      obtain ⟨s, q1, ft, q2, q3⟩ := h2 y hy
      exact ⟨s, q1, ft, fun k hk => by have := q2 k hk; omega, q3⟩
    rcases shStep_cases kl a s with ⟨j, hj, _, e⟩ | ⟨hn, e⟩
    · rw [e]; exact ⟨h.found hj, hup⟩
    · rw [e]
      refine ⟨h.new hn, fun y hy => ?_⟩
      rcases List.mem_append.1 hy with hy | hy
      · exact hup y hy
      · exact ⟨s, List.mem_of_getElem? hs, a.2, fun k hk => by have := h.rg k hk; have := h.out; omega, List.mem_singleton.1 hy⟩) l.length (Nat.le_refl _)
  rw [List.take_length] at this
  exact this.2
theorem SmS.mv {s : Stp} (h : SmS s) (ft : List Int) : SmS (mvS s ft) := ⟨h.1, h.2.1, h.2.2.1, by rw [mvS_pr]; exact h.2.2.2⟩
/-- What is left: the steps needed, with their new places. -/
def cmStep (sh : List Stp) (a : List Stp × List Int) (k : Int) : List Stp × List Int := (a.1 ++ [mvS (sh.getD k.toNat ⟨0, [], 0, [], []⟩) (a.2.set k.toNat (a.1.length : Int))], a.2.set k.toNat (a.1.length : Int))
def cmL (sh : List Stp) (nd : List Int) : List Stp × List Int := nd.foldl (cmStep sh) ([], List.replicate sh.length 0)
theorem cm_succ (sh : List Stp) {nd : List Int} {i : Nat} {k : Int} (h : nd[i]? = some k) : cmL sh (nd.take (i + 1)) = cmStep sh (cmL sh (nd.take i)) k := by
  obtain ⟨h1, h2⟩ := List.getElem?_eq_some_iff.1 h
  unfold cmL
  rw [List.take_succ_eq_append_getElem h1, List.foldl_append, h2]
  rfl
theorem cm_len (sh : List Stp) (nd : List Int) : ∀ i, i ≤ nd.length → (cmL sh (nd.take i)).1.length = i ∧ (cmL sh (nd.take i)).2.length = sh.length
  | 0, _ => by simp [cmL]
  | i + 1, h => by
    have hg : nd[i]? = some nd[i] := List.getElem?_eq_getElem (by omega)
    obtain ⟨h1, h2⟩ := cm_len sh nd i (by omega)
    rw [cm_succ sh hg]
    exact ⟨by simp [cmStep, h1], by simp [cmStep, h2]⟩
/-- The compacted list. -/
noncomputable def compL (kl : Stp → Lit) (l : List Stp) : List Stp := (cmL (share kl l).1 (needI (share kl l).1 ((share kl l).2.getD (l.length - 1) 0).toNat)).1
theorem trues_mem {nd : List Bool} {n : Nat} {k : Int} (h : k ∈ trues nd n) : 0 ≤ k ∧ k < (n : Int) := by
  unfold trues at h
  obtain ⟨i, hi, rfl⟩ := List.mem_map.1 h
  have := List.mem_range.1 (List.mem_filter.1 hi).1
  show (0 : Int) ≤ (i : Int) ∧ (i : Int) < n
  omega
end Go.Proofs.YtfijmpmojhlnmaaGreatDoor
namespace Go.Proofs.YtfijmpmojhlnmaaGreatDoor
open Go.RowKit
attribute [local irreducible] AC Do St
set_option maxRecDepth 100000 in
set_option maxHeartbeats 8000000 in
theorem compF (Y : Ky) (kl : Stp → Lit) (l : List Stp) (h0 : 0 < l.length) (hl : l.length ≤ 300000) (hsm : ∀ s ∈ l, SmS s) (hok : okS l) (hY : KyOK Y kl l) : Fn Tryz.prog 16 [.d (.l (l.map enS))] [.d (.l ((compL kl l).map enS)), .d (.v (.int .i64 0))] := by
  have hsh := shareF Y kl l hl hsm hok hY keyd
  have hS := share_shd (kl := kl) l
  have hokS := share_okS (kl := kl) hok
  have hsmS : ∀ y ∈ (share kl l).1, SmS y := fun y hy => by
    obtain ⟨s, q1, ft, _, rfl⟩ := share_mem y hy
    exact (hsm s q1).mv ft
  have hcomp : compL kl l = (cmL (share kl l).1 (needI (share kl l).1 ((share kl l).2.getD (l.length - 1) 0).toNat)).1 := rfl
  generalize compL kl l = res at hcomp ⊢
  generalize share kl l = a at hsh hS hokS hsmS hcomp
  obtain ⟨out, ft⟩ := a
  obtain ⟨hS1, hS2, _, hS4⟩ := hS
  dsimp only at hsh hokS hsmS hcomp hS1 hS2 hS4
  have hglast : ft[l.length - 1]? = some ft[l.length - 1] := List.getElem?_eq_getElem (by omega)
  obtain ⟨hr0, hr1⟩ := hS4 ft[l.length - 1] (List.getElem_mem (by omega))
  have hD : ft.getD (l.length - 1) 0 = ft[l.length - 1] := by rw [List.getD_eq_getElem?_getD, hglast]; rfl
  rw [hD] at hcomp
  generalize ft[l.length - 1] = last at hglast hr0 hr1 hcomp
  obtain ⟨m, rfl⟩ : ∃ m : Nat, last = (m : Int) := ⟨last.toNat, by omega⟩
  rw [Int.toNat_natCast] at hcomp
  have hneed := needF out (by omega) (fun s h => (hsmS s h).2.2.2) hokS m (by omega)
  have hnm : ∀ k ∈ needI out m, 0 ≤ k ∧ k < (out.length : Int) := fun k hk => by
    have := trues_mem hk
    omega
  have hnl : (needI out m).length ≤ m + 1 := trues_len _ _
  have hcl := cm_len out (needI out m)
  have hcs := fun i k => cm_succ out (nd := needI out m) (i := i) (k := k)
  generalize needI out m = nd at hneed hnm hcomp hnl hcl hcs
  refine Fn.of Tryz.func16 rfl (by kernel_rfl) Tryz.ntmps16 Tryz.results16 rfl fun w0 S0 => ?_
  refine wk ?_
  ((try (first | intro K ms hms hK | intro K hK)); (first | apply Chain.go | apply Chain.goD); exact rfl; exact rfl; refine Loc.callT (hsh) rfl ?_; (repeat (first | exact trivial | refine ⟨.inl rfl, ?_⟩ | refine ⟨.inr rfl, ?_⟩)))
  refine wk ?_
  ((try (first | intro K ms hms hK | intro K hK)); (first | apply Chain.go | apply Chain.goD); exact rfl; exact rfl; exact Loc.idxM (i := l.length - 1) rfl rfl rfl (by omega) hglast rfl)
  refine wk ?_
  ((try (first | intro K ms hms hK | intro K hK)); (first | apply Chain.go | apply Chain.goD); exact rfl; exact rfl; refine Loc.callT (hneed) rfl ?_; (repeat (first | exact trivial | refine ⟨.inl rfl, ?_⟩ | refine ⟨.inr rfl, ?_⟩)))
  refine wk ?_
  ((try (first | intro K ms hms hK | intro K hK)); (first | apply Chain.ef | apply Chain.efD); exact rfl; exact rfl; exact Do.makeM (f := fun v => [.v (.int .i64 v)]) (0 : Int) out.length out.length rfl rfl rfl rfl rfl rfl (Nat.le_refl _) (by omega); exact rfl; exact rfl)
  refine wk ?_
  refine AC.rowVar 9 60 100 5 rfl rfl ?_
  refine AC.loop (X := Nat) (fun i => ⟨[(4, .d (.l (out.map enS))), (9, .r 60 i), (10, .r 40 0), (41, .d (enZ nd)), (42, .d (.v (.int .i64 (nd.length : Int)))), (43, .d (.v (.int .i64 (i : Int))))], [(40, .row 0 3 1 ((cmL out (nd.take i)).2.map fun v => [.v (.int .i64 v)])), (60, .row i 100 5 ((cmL out (nd.take i)).1.map enS))]⟩) (fun i => i ≤ nd.length) (fun i => nd.length - i) 0 (Nat.zero_le _) ⟨rfl, rfl, rfl, rfl, rfl, rfl, trivial⟩ ⟨rfl, rfl, trivial⟩ ?_
  intro i hi
  refine wk ?_
  ((try (first | intro K ms hms hK | intro K hK)); (first | refine Chain.lss rfl rfl rfl rfl rfl (fun h1 => ?_) (fun h1 => ?_) | refine Chain.lssD rfl rfl rfl rfl rfl (fun h1 => ?_) (fun h1 => ?_)))
  · have hi' : i < nd.length := by omega
    have hget : nd[i]? = some nd[i] := List.getElem?_eq_getElem hi'
    obtain ⟨hk0, hk1⟩ := hnm nd[i] (List.getElem_mem hi')
    have hsucc := hcs i _ hget
    obtain ⟨hc1, hc2⟩ := hcl i hi
    generalize nd[i] = k at hget hk0 hk1 hsucc
    have hkl : k.toNat < out.length := by omega
    have hgo : out[k.toNat]? = some out[k.toNat] := List.getElem?_eq_getElem hkl
    have hgD : out.getD k.toNat ⟨0, [], 0, [], []⟩ = out[k.toNat] := by rw [List.getD_eq_getElem?_getD, hgo]; rfl
    obtain ⟨hs1, hs2, hs3, hs4⟩ := hsmS out[k.toNat] (List.getElem_mem hkl)
    have hpr : ∀ j ∈ out[k.toNat].pr, 0 ≤ j ∧ j < (k.toNat : Int) := fun j hj => okTo_pr hokS hgo hj
    unfold cmStep at hsucc
    rw [hgD, hc1] at hsucc
    generalize out[k.toNat] = s at hgo hsucc hs1 hs2 hs3 hs4 hpr
    generalize cmL out (nd.take i) = a at hsucc hc1 hc2 ⊢
    obtain ⟨ro, nw⟩ := a
    dsimp only at hsucc hc1 hc2 ⊢
    have hnwl : (nw.map fun v => [D.v (.int .i64 v)]).length = out.length := by rw [List.length_map]; exact hc2
    have hgw : nw[k.toNat]? = some (nw[k.toNat]'(by omega)) := List.getElem?_eq_getElem _
    refine wk ?_
    ((try (first | intro K ms hms hK | intro K hK)); (first | apply Chain.go | apply Chain.goD); exact rfl; exact rfl; exact Loc.idxR (i := k.toNat) rfl rfl rfl rfl (by omega) (by omega) rfl)
    ((try (first | intro K ms hms hK | intro K hK)); (first | apply Chain.st | apply Chain.stD); exact rfl; exact rfl; exact Do.setM (i : Int) rfl rfl rfl hgw rfl rfl rfl rfl rfl rfl; exact rfl; exact rfl)
    refine wk ?_
    ((try (first | intro K ms hms hK | intro K hK)); (first | apply Chain.go | apply Chain.goD); exact rfl; exact rfl; exact Loc.idxM (i := k.toNat) rfl rfl rfl (by omega) hgo rfl)
    refine wk ?_
    ((try (first | intro K ms hms hK | intro K hK)); (first | apply Chain.ef | apply Chain.efD); exact rfl; exact rfl; (refine Do.callKr (copiedF s (nw.set k.toNat (i : Int)) (by omega) (by omega) (by omega) (fun j hj => by have := hpr j hj; rw [List.length_set]; omega)) rfl rfl rfl rfl ?_ ?_ <;> (first | exact trivial | repeat (first | exact trivial | refine ⟨.inl rfl, ?_⟩ | refine ⟨.inr rfl, ?_⟩))); exact rfl; exact rfl)
    refine wk ?_
    refine ⟨i + 1, by omega, by omega, ⟨rfl, rfl, rfl, rfl, rfl, rfl, trivial⟩, ⟨by rw [hsucc]; rfl, by rw [hsucc]; simp only [List.map_append]; rfl, trivial⟩⟩
  · obtain rfl : i = nd.length := by omega
    rw [List.take_length, ← hcomp]
    refine wk ?_
    exact ⟨.d rfl ⟨_, _, rfl⟩, .d rfl (.inl rfl), trivial⟩
end Go.Proofs.YtfijmpmojhlnmaaGreatDoor
