import Derived.Test.YtbbpecfapohlaaaGreatDoorBr
import Derived.Test.YtbbpecfapohlaaaGreatDoorTy
import Derived.Test.YtbbpecfapohlaaaGreatDoorP1
namespace Go.Proofs.YtbbpecfapohlaaaGreatDoor
open Go.RowKit
attribute [local irreducible] AC Do St
def enN (n : Bool × List Nat × List Nat) : List D := [.v (.bool n.1), enL n.2.1, enL n.2.2]
def okN (n : Bool × List Nat × List Nat) : Prop := (∀ x ∈ n.2.1, x < 4294967296) ∧ (∀ x ∈ n.2.2, x < 4294967296)
def nQ (n : Bool × List Nat × List Nat) : Rat := numQ n.1 n.2.1 n.2.2
theorem bits_8 {l : List Nat} (h : ∀ y ∈ l, y < 4294967296) (hl : l.length ≤ 8) : (bits (dval 4294967296 l)).length ≤ 100000000 := by
  have h1 : dval 4294967296 l < 4294967296 ^ l.length := dval_lt h
  have h2 : 4294967296 ^ l.length ≤ 4294967296 ^ 8 := Nat.pow_le_pow_right (by decide) hl
  have h3 : (4294967296 : Nat) ^ 8 = 2 ^ 256 := by decide
  have := bits_len_le (k := 256) (show dval 4294967296 l < 2 ^ 256 by omega)
  omega
set_option maxRecDepth 100000 in
set_option maxHeartbeats 1000000 in
theorem both (n : Bool × List Nat × List Nat) (hn : okN n) : Fn Tryz.prog 123 [.g (enN n)] [.g (enR (nQ n)), .g (enQ (nQ n))] := by
  obtain ⟨nb, x, d⟩ := n
  obtain ⟨hx, hd⟩ := hn
  simp only at hx hd
  have hx8 : ∀ y ∈ x.take 8, y < 4294967296 := fun y hy => hx y (List.mem_of_mem_take hy)
  have hd8 : ∀ y ∈ d.take 8, y < 4294967296 := fun y hy => hd y (List.mem_of_mem_take hy)
  have lx : (x.take 8).length ≤ 8 := by simp; omega
  have ld : (d.take 8).length ≤ 8 := by simp; omega
  have bx : (bits (dval 4294967296 (x.take 8))).length ≤ 100000000 := bits_8 hx8 lx
  refine Fn.of Tryz.func123 rfl (by kernel_rfl) Tryz.ntmps123 Tryz.results123 rfl fun w0 S0 => ?_
  refine wk ?_
  (first | intro K ms hms hK | intro K hK)
  ((first | apply Chain.go | apply Chain.goD); exact rfl; exact rfl; refine Loc.callD (few x) rfl ?_; (repeat (first | exact trivial | refine ⟨.inl rfl, ?_⟩ | refine ⟨.inr rfl, ?_⟩)))
  refine wk ?_
  ((first | apply Chain.go | apply Chain.goD); exact rfl; exact rfl; refine Loc.callD (few d) rfl ?_; (repeat (first | exact trivial | refine ⟨.inl rfl, ?_⟩ | refine ⟨.inr rfl, ?_⟩)))
  refine wk ?_
  (first | intro K ms hms hK | intro K hK)
  ((first | apply Chain.go | apply Chain.goD); exact rfl; exact rfl; refine Loc.callD (bitsOf (d.take 8) (by omega) hd8) rfl ?_; (repeat (first | exact trivial | refine ⟨.inl rfl, ?_⟩ | refine ⟨.inr rfl, ?_⟩)))
  refine wk ?_
  have h0 : dval 4294967296 (d.take 8) = 0 ∨ dval 4294967296 (d.take 8) ≠ 0 := by omega
  rcases h0 with h0 | h0
  · have hb : barL d = [1] := by unfold barL; rw [if_pos h0]
    have hl : (bits (dval 4294967296 (d.take 8))).length = 0 := by rw [h0, bits_eq_nil.2 rfl]; rfl
    have hq : nQ (nb, x, d) = mkRat (sgn nb (dval 4294967296 (x.take 8))) (dval 4294967296 [1]) := by unfold nQ numQ; rw [hb]
    refine wk ?_
    (first | intro K ms hms hK | intro K hK)
    ((first | apply Chain.go | apply Chain.goD); exact rfl; exact rfl; refine Loc.callD (copyU (x.take 8) (by omega)) rfl ?_; (repeat (first | exact trivial | refine ⟨.inl rfl, ?_⟩ | refine ⟨.inr rfl, ?_⟩)))
    refine wk ?_
    ((first | apply Chain.go | apply Chain.goD); exact rfl; exact rfl; refine Loc.callD (copyU [1] (by simp)) rfl ?_; (repeat (first | exact trivial | refine ⟨.inl rfl, ?_⟩ | refine ⟨.inr rfl, ?_⟩)))
    refine wk ?_
    ((first | apply Chain.go | apply Chain.goD); exact rfl; exact rfl; refine Loc.callT (ratMake nb (x.take 8) [1] (by omega) (by simp) (by decide) hx8 (by simp)) rfl ?_; (repeat (first | exact trivial | refine ⟨.inl rfl, ?_⟩ | refine ⟨.inr rfl, ?_⟩)))
    refine wk ?_
    (first | intro K ms hms hK | intro K hK)
    ((first | apply Chain.go | apply Chain.goD); exact rfl; exact rfl; refine Loc.callD (bitsOf (x.take 8) (by omega) hx8) rfl ?_; (repeat (first | exact trivial | refine ⟨.inl rfl, ?_⟩ | refine ⟨.inr rfl, ?_⟩)))
    refine wk ?_
    ((first | apply Chain.go | apply Chain.goD); exact rfl; exact rfl; refine Loc.callD (bitsOf [1] (by simp) (by simp)) rfl ?_; (repeat (first | exact trivial | refine ⟨.inl rfl, ?_⟩ | refine ⟨.inr rfl, ?_⟩)))
    refine wk ?_
    ((first | apply Chain.go | apply Chain.goD); exact rfl; exact rfl; refine Loc.callG (qOf nb (dval 4294967296 (x.take 8)) (dval 4294967296 [1]) bx (bits_8 (by simp) (by simp)) (by decide)) rfl ?_; (repeat (first | exact trivial | refine ⟨.inl rfl, ?_⟩ | refine ⟨.inr rfl, ?_⟩)))
    refine wk ?_
    rw [hq]
    exact ⟨.cn rfl rfl inferInstance rfl ⟨.inl rfl, .inl rfl, .inl rfl, trivial⟩, .cn rfl rfl inferInstance rfl ⟨.inl rfl, .inl rfl, .inl rfl, trivial⟩, trivial⟩
  · have hb : barL d = d.take 8 := by unfold barL; rw [if_neg h0]
    have hl : 0 < (bits (dval 4294967296 (d.take 8))).length := List.length_pos_iff.2 (fun e => h0 (bits_eq_nil.1 e))
    have hq : nQ (nb, x, d) = mkRat (sgn nb (dval 4294967296 (x.take 8))) (dval 4294967296 (d.take 8)) := by unfold nQ numQ; rw [hb]
    refine wk ?_
    (first | intro K ms hms hK | intro K hK)
    ((first | apply Chain.go | apply Chain.goD); exact rfl; exact rfl; refine Loc.callD (copyU (x.take 8) (by omega)) rfl ?_; (repeat (first | exact trivial | refine ⟨.inl rfl, ?_⟩ | refine ⟨.inr rfl, ?_⟩)))
    refine wk ?_
    ((first | apply Chain.go | apply Chain.goD); exact rfl; exact rfl; refine Loc.callD (copyU (d.take 8) (by omega)) rfl ?_; (repeat (first | exact trivial | refine ⟨.inl rfl, ?_⟩ | refine ⟨.inr rfl, ?_⟩)))
    refine wk ?_
    ((first | apply Chain.go | apply Chain.goD); exact rfl; exact rfl; refine Loc.callT (ratMake nb (x.take 8) (d.take 8) (by omega) (by omega) (by omega) hx8 hd8) rfl ?_; (repeat (first | exact trivial | refine ⟨.inl rfl, ?_⟩ | refine ⟨.inr rfl, ?_⟩)))
    refine wk ?_
    (first | intro K ms hms hK | intro K hK)
    ((first | apply Chain.go | apply Chain.goD); exact rfl; exact rfl; refine Loc.callD (bitsOf (x.take 8) (by omega) hx8) rfl ?_; (repeat (first | exact trivial | refine ⟨.inl rfl, ?_⟩ | refine ⟨.inr rfl, ?_⟩)))
    refine wk ?_
    ((first | apply Chain.go | apply Chain.goD); exact rfl; exact rfl; refine Loc.callD (bitsOf (d.take 8) (by omega) hd8) rfl ?_; (repeat (first | exact trivial | refine ⟨.inl rfl, ?_⟩ | refine ⟨.inr rfl, ?_⟩)))
    refine wk ?_
    ((first | apply Chain.go | apply Chain.goD); exact rfl; exact rfl; refine Loc.callG (qOf nb (dval 4294967296 (x.take 8)) (dval 4294967296 (d.take 8)) bx (bits_8 hd8 (by omega)) (by omega)) rfl ?_; (repeat (first | exact trivial | refine ⟨.inl rfl, ?_⟩ | refine ⟨.inr rfl, ?_⟩)))
    refine wk ?_
    rw [hq]
    exact ⟨.cn rfl rfl inferInstance rfl ⟨.inl rfl, .inl rfl, .inl rfl, trivial⟩, .cn rfl rfl inferInstance rfl ⟨.inl rfl, .inl rfl, .inl rfl, trivial⟩, trivial⟩
end Go.Proofs.YtbbpecfapohlaaaGreatDoor
namespace Go.Proofs.YtbbpecfapohlaaaGreatDoor
open Go.RowKit
attribute [local irreducible] AC Do St
set_option maxRecDepth 100000 in
set_option maxHeartbeats 1000000 in
theorem ofN (n : Bool × List Nat × List Nat) (hn : okN n) : Fn Tryz.prog 65 [.g (enN n)] [.g (enR (nQ n))] := by
  refine Fn.of Tryz.func65 rfl (by kernel_rfl) Tryz.ntmps65 Tryz.results65 rfl fun w0 S0 => ?_
  refine wk ?_
  (first | intro K ms hms hK | intro K hK)
  ((first | apply Chain.go | apply Chain.goD); exact rfl; exact rfl; refine Loc.callT (both n hn) rfl ?_; (repeat (first | exact trivial | refine ⟨.inl rfl, ?_⟩ | refine ⟨.inr rfl, ?_⟩)))
  refine wk ?_
  exact ⟨.cn rfl rfl inferInstance rfl ⟨.inl rfl, .inl rfl, .inl rfl, trivial⟩, trivial⟩
end Go.Proofs.YtbbpecfapohlaaaGreatDoor
namespace Go.Proofs.YtbbpecfapohlaaaGreatDoor
open Go.RowKit
attribute [local irreducible] AC Do St
theorem bdN (n : Bool × List Nat × List Nat) (hn : okN n) : Bd 256 (nQ n) := by
  have lt8 : ∀ l : List Nat, (∀ y ∈ l, y < 4294967296) → l.length ≤ 8 → dval 4294967296 l < 2 ^ 256 := fun l h hl => by
    have h1 : dval 4294967296 l < 4294967296 ^ l.length := dval_lt h
    have h2 : 4294967296 ^ l.length ≤ 4294967296 ^ 8 := Nat.pow_le_pow_right (by decide) hl
    have h3 : (4294967296 : Nat) ^ 8 = 2 ^ 256 := by decide
    omega
  have hb : dval 4294967296 (barL n.2.2) < 2 ^ 256 := by
    refine lt8 _ (fun y hy => ?_) (barL_len _)
    unfold barL at hy
    split at hy
    · simp at hy; omega
    · exact hn.2 y (List.mem_of_mem_take hy)
  exact Bd.made (Nat.pos_iff_ne_zero.1 (barL_pos _)) (lt8 _ (fun y hy => hn.1 y (List.mem_of_mem_take hy)) (by simp; omega)) hb
def okP (l : List (Bool × List Nat × List Nat)) : Prop := ∀ n ∈ l, okN n
set_option maxRecDepth 100000 in
set_option maxHeartbeats 1000000 in
theorem nums (l : List Rat) (k : Nat) (hk : k ≤ 10000000) (ht : ∀ t ∈ l, Bd k t) (hlen : l.length ≤ 1000000) : Fn Tryz.prog 26 [.d (.l (l.map enR))] [.d (.l (l.map enQ))] := by
  refine Fn.of Tryz.func26 rfl (by kernel_rfl) Tryz.ntmps26 Tryz.results26 rfl fun w0 S0 => ?_
  refine wk ?_
  refine AC.loop (X := Nat) (fun i => ⟨[(3, .r 6 i), (7, .d (.l (l.map enR))), (8, .d (.v (.int .i64 (l.length : Int)))), (9, .d (.v (.int .i64 (i : Int))))], [(6, .row i 136 3 ((l.take i).map enQ))]⟩) (fun i => i ≤ l.length) (fun i => l.length - i) 0 (Nat.zero_le _) ⟨rfl, rfl, rfl, rfl, trivial⟩ ⟨rfl, trivial⟩ ?_
  intro i hi
  refine wk ?_
  (first | intro K ms hms hK | intro K hK)
  (first | refine Chain.lss rfl rfl rfl rfl rfl (fun h1 => ?_) (fun h1 => ?_) | refine Chain.lssD rfl rfl rfl rfl rfl (fun h1 => ?_) (fun h1 => ?_))
  · have hi' : i < l.length := by omega
    have hget : l[i]? = some l[i] := List.getElem?_eq_getElem hi'
    have hts : (l.take (i + 1)).map enQ = (l.take i).map enQ ++ [enQ l[i]] := by
      rw [List.take_succ_eq_append_getElem hi', List.map_append]; rfl
    refine wk ?_
    (first | intro K ms hms hK | intro K hK)
    ((first | apply Chain.go | apply Chain.goD); exact rfl; exact rfl; refine Loc.callG (told (ht _ (List.getElem_mem hi')) hk) rfl ?_; (repeat (first | exact trivial | refine ⟨.inl rfl, ?_⟩ | refine ⟨.inr rfl, ?_⟩)))
    refine wk ?_
    refine ⟨i + 1, by omega, by omega, ⟨rfl, rfl, rfl, rfl, trivial⟩, ⟨by rw [hts]; rfl, trivial⟩⟩
  · have hend : l.take i = l := List.take_of_length_le (by omega)
    refine wk ?_
    rw [hend]
    exact ⟨.d rfl ⟨_, _, rfl⟩, trivial⟩
end Go.Proofs.YtbbpecfapohlaaaGreatDoor
