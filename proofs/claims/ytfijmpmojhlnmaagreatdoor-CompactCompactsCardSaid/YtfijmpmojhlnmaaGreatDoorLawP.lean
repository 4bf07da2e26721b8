/-
  Expressions (attestlaw08) by plain data: made, and told.
-/
import Derived.Test.YtfijmpmojhlnmaaGreatDoorLawE8
import Derived.Test.YtfijmpmojhlnmaaGreatDoorLinP
namespace Go.Proofs.YtfijmpmojhlnmaaGreatDoor
open Go.RowKit
attribute [local irreducible] AC Do St
theorem bdN (n : Bool × List Nat × List Nat) (hn : okN n) : Bd 256 (nQ n) := by
  have lt8 : ∀ l : List Nat, (∀ y ∈ l, y < 4294967296) → l.length ≤ 8 → dval 4294967296 l < 2 ^ 256 := fun l h hl => by
    have h1 : dval 4294967296 l < 4294967296 ^ l.length := dval_lt h
    have h2 : 4294967296 ^ l.length ≤ 4294967296 ^ 8 := Nat.pow_le_pow_right (by decide) hl
    have h3 : (4294967296 : Nat) ^ 8 = 2 ^ 256 := by decide
    omega
  have hb : dval 4294967296 (barL n.2.2) < 2 ^ 256 := by
    refine lt8 _ (fun y hy => ?_) (barL_len _)
    unfold barL at hy
    split at hy
    · simp at hy; omega
    · exact hn.2 y (List.mem_of_mem_take hy)
  exact Bd.made (Nat.pos_iff_ne_zero.1 (barL_pos _)) (lt8 _ (fun y hy => hn.1 y (List.mem_of_mem_take hy)) (by simp; omega)) hb
def okP (l : List (Bool × List Nat × List Nat)) : Prop := ∀ n ∈ l, okN n
def ptN (l : List (Bool × List Nat × List Nat)) : List Rat := (l.take 6).map nQ
set_option maxRecDepth 100000 in
set_option maxHeartbeats 1000000 in
theorem told8 (e : Ex) (k : Nat) (hk : k ≤ 10000000) (hc : Bd k e.c) (ht : ∀ t ∈ e.t, Bd k t.2) (hlen : e.t.length ≤ 1000000) : Fn Tryz.prog 27 [.g (enE e)] [.g (enEQ e)] := by
  refine Fn.of Tryz.func27 rfl (by kernel_rfl) Tryz.ntmps27 Tryz.results27 rfl fun w0 S0 => ?_
  refine wk ?_
  (first | intro K ms hms hK | intro K hK)
  ((first | apply Chain.go | apply Chain.goD); exact rfl; exact rfl; refine Loc.callG (told hc hk) rfl ?_; (repeat (first | exact trivial | refine ⟨.inl rfl, ?_⟩ | refine ⟨.inr rfl, ?_⟩)))
  refine wk ?_
  refine AC.rowBox 3 0 26 133 4 rfl rfl rfl ?_
  refine AC.loop (X := Nat) (fun i => ⟨[(1, .p 1 0), (2, .p 2 0), (3, .p 3 0), (11, .d (.l (e.t.map enT))), (12, .d (.v (.int .i64 (e.t.length : Int)))), (13, .d (.v (.int .i64 (i : Int))))], [(2, .box 76 [.d .n, .d (.v (.bool false)), .d .n, .d .n]), (3, .box 76 (.r 26 i :: (enQ e.c).map .d)), (26, .row i 133 4 ((e.t.take i).map enTQ))]⟩) (fun i => i ≤ e.t.length) (fun i => e.t.length - i) 0 (Nat.zero_le _) ⟨rfl, rfl, rfl, rfl, rfl, rfl, trivial⟩ ⟨rfl, rfl, rfl, trivial⟩ ?_
  intro i hi
  refine wk ?_
  (first | intro K ms hms hK | intro K hK)
  (first | refine Chain.lss rfl rfl rfl rfl rfl (fun h1 => ?_) (fun h1 => ?_) | refine Chain.lssD rfl rfl rfl rfl rfl (fun h1 => ?_) (fun h1 => ?_))
  · have hi' : i < e.t.length := by omega
    have hget : e.t[i]? = some e.t[i] := List.getElem?_eq_getElem hi'
    have hts : (e.t.take (i + 1)).map enTQ = (e.t.take i).map enTQ ++ [enTQ e.t[i]] := by
      rw [List.take_succ_eq_append_getElem hi', List.map_append]; rfl
    refine wk ?_
    (first | intro K ms hms hK | intro K hK)
    ((first | apply Chain.go | apply Chain.goD); exact rfl; exact rfl; refine Loc.callG (told (ht _ (List.getElem_mem hi')) hk) rfl ?_; (repeat (first | exact trivial | refine ⟨.inl rfl, ?_⟩ | refine ⟨.inr rfl, ?_⟩)))
    refine wk ?_
    refine ⟨i + 1, by omega, by omega, ⟨rfl, rfl, rfl, rfl, rfl, rfl, trivial⟩, ⟨rfl, rfl, by rw [hts]; rfl, trivial⟩⟩
  · have hend : e.t.take i = e.t := List.take_of_length_le (by omega)
    refine wk ?_
    (first | intro K ms hms hK | intro K hK)
    refine Chain.frzBox 3 0 rfl rfl rfl ?_
    refine wk ?_
    rw [hend]
    exact ⟨.cn rfl rfl inferInstance rfl ⟨.inl rfl, .inl rfl, .inl rfl, .inl rfl, trivial⟩, trivial⟩
set_option maxRecDepth 100000 in
set_option maxHeartbeats 1000000 in
theorem nums (l : List Rat) (k : Nat) (hk : k ≤ 10000000) (ht : ∀ t ∈ l, Bd k t) (hlen : l.length ≤ 1000000) : Fn Tryz.prog 42 [.d (.l (l.map enR))] [.d (.l (l.map enQ))] := by
  refine Fn.of Tryz.func42 rfl (by kernel_rfl) Tryz.ntmps42 Tryz.results42 rfl fun w0 S0 => ?_
  refine wk ?_
  refine AC.loop (X := Nat) (fun i => ⟨[(3, .r 6 i), (7, .d (.l (l.map enR))), (8, .d (.v (.int .i64 (l.length : Int)))), (9, .d (.v (.int .i64 (i : Int))))], [(6, .row i 74 3 ((l.take i).map enQ))]⟩) (fun i => i ≤ l.length) (fun i => l.length - i) 0 (Nat.zero_le _) ⟨rfl, rfl, rfl, rfl, trivial⟩ ⟨rfl, trivial⟩ ?_
  intro i hi
  refine wk ?_
  (first | intro K ms hms hK | intro K hK)
  (first | refine Chain.lss rfl rfl rfl rfl rfl (fun h1 => ?_) (fun h1 => ?_) | refine Chain.lssD rfl rfl rfl rfl rfl (fun h1 => ?_) (fun h1 => ?_))
  · have hi' : i < l.length := by omega
    have hget : l[i]? = some l[i] := List.getElem?_eq_getElem hi'
    have hts : (l.take (i + 1)).map enQ = (l.take i).map enQ ++ [enQ l[i]] := by
      rw [List.take_succ_eq_append_getElem hi', List.map_append]; rfl
    refine wk ?_
    (first | intro K ms hms hK | intro K hK)
    ((first | apply Chain.go | apply Chain.goD); exact rfl; exact rfl; refine Loc.callG (told (ht _ (List.getElem_mem hi')) hk) rfl ?_; (repeat (first | exact trivial | refine ⟨.inl rfl, ?_⟩ | refine ⟨.inr rfl, ?_⟩)))
    refine wk ?_
    refine ⟨i + 1, by omega, by omega, ⟨rfl, rfl, rfl, rfl, trivial⟩, ⟨by rw [hts]; rfl, trivial⟩⟩
  · have hend : l.take i = l := List.take_of_length_le (by omega)
    refine wk ?_
    rw [hend]
    exact ⟨.d rfl ⟨_, _, rfl⟩, trivial⟩
end Go.Proofs.YtfijmpmojhlnmaaGreatDoor
