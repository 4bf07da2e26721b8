import Derived.Lib.ItoaLen
import Derived.Test.YtbbpecfapohlaaaGreatDoorP1
import Derived.Test.YtbbpecfapohlaaaGreatDoorDigA
namespace Go.Proofs.YtbbpecfapohlaaaGreatDoor
open Go.RowKit
theorem valF_dval : ∀ (l : List UInt8) (a : Nat), valF a l = a * 10 ^ l.length + dval 10 ((l.map fun c => c.toNat - 48).reverse)
  | [], a => by simp [valF]
  | c :: l, a => by
    have h := valF_dval l (a * 10 + (c.toNat - 48))
    have e : valF a (c :: l) = valF (a * 10 + (c.toNat - 48)) l := rfl
    rw [e, h, List.map_cons, List.reverse_cons, dval_concat, List.length_reverse, List.length_map, List.length_cons, Nat.pow_succ, Nat.add_mul]
    have e1 : a * 10 * 10 ^ l.length = a * (10 ^ l.length * 10) := by rw [Nat.mul_assoc, Nat.mul_comm 10]
    have e2 : (c.toNat - 48) * 10 ^ l.length = 10 ^ l.length * (c.toNat - 48) := Nat.mul_comm ..
    omega
/-- Digits, none ahead a nought: one text for each number. -/
theorem dec_uniq {l m : List UInt8} (hl : ∀ c ∈ l, DigC c) (hm : ∀ c ∈ m, DigC c) (h0 : l.head? ≠ some 48) (h1 : m.head? ≠ some 48) (h : valF 0 l = valF 0 m) : l = m := by
  have key : ∀ {l : List UInt8}, (∀ c ∈ l, DigC c) → l.head? ≠ some 48 → Dg 10 ((l.map fun c => c.toNat - 48).reverse) ∧ Nrm ((l.map fun c => c.toNat - 48).reverse) := fun {l} hl h0 => by
    refine ⟨fun x hx => ?_, ?_⟩
    · rw [List.mem_reverse] at hx
      obtain ⟨c, hc, rfl⟩ := List.mem_map.1 hx
      have := hl c hc
      unfold DigC at this
      show c.toNat - 48 < 10
      omega
    · unfold Nrm
      rw [List.getLast?_reverse]
      cases l with
      | nil => simp
      | cons c r =>
        simp only [List.map_cons, List.head?_cons]
        intro e
        injection e with e
        have := hl c (by simp)
        unfold DigC at this
        refine h0 ?_
        rw [List.head?_cons]
        congr 1
        refine UInt8.toNat_inj.1 ?_
        show c.toNat = 48
        omega
  rw [valF_dval, valF_dval] at h
  simp only [Nat.zero_mul, Nat.zero_add] at h
  obtain ⟨a1, a2⟩ := key hl h0
  obtain ⟨b1, b2⟩ := key hm h1
  have h2 := List.reverse_inj.1 (nrm_inj (by omega) a1 b1 a2 b2 h)
  have back : ∀ {l : List UInt8}, (∀ c ∈ l, DigC c) → (l.map fun c => c.toNat - 48).map (fun d => UInt8.ofNat (d + 48)) = l := fun {l} hl => by
    rw [List.map_map]
    conv => rhs; rw [← List.map_id l]
    refine List.map_congr_left fun c hc => ?_
    have := hl c hc
    unfold DigC at this
    refine UInt8.toNat_inj.1 ?_
    simp only [Function.comp, id]
    rw [UInt8.toNat_ofNat']
    omega
  rw [← back hl, h2, back hm]
theorem dig_nat {d : Nat} (h : d < 10) : (UInt8.ofNat (48 + d)).toNat = 48 + d := by
  rw [UInt8.toNat_ofNat']
  omega
theorem decD_dig (u : Nat) : ∀ c ∈ Lib.decDigits u, DigC c := by
  induction u using Nat.strongRecOn with
  | _ u ih =>
    intro c hc
    rw [Lib.decDigits] at hc
    split at hc
    · rename_i h
      rw [List.mem_singleton.1 hc]
      unfold DigC
      rw [dig_nat h]
      omega
    · rename_i h
      rcases List.mem_append.1 hc with hc | hc
      · exact ih (u / 10) (by omega) c hc
      · rw [List.mem_singleton.1 hc]
        unfold DigC
        rw [dig_nat (Nat.mod_lt _ (by omega))]
        have := Nat.mod_lt u (by omega : 10 > 0)
        omega
theorem decD_val (u : Nat) : valF 0 (Lib.decDigits u) = u := by
  induction u using Nat.strongRecOn with
  | _ u ih =>
    rw [Lib.decDigits]
    split
    · rename_i h
      have : (UInt8.ofNat (48 + u)).toNat = 48 + u := dig_nat h
      show 0 * 10 + ((UInt8.ofNat (48 + u)).toNat - 48) = u
      omega
    · rename_i h
      have h2 := dig_nat (Nat.mod_lt u (by omega : 10 > 0))
      rw [valF_app, ih (u / 10) (by omega)]
      show u / 10 * 10 + ((UInt8.ofNat (48 + u % 10)).toNat - 48) = u
      omega
theorem decD_ne (u : Nat) : Lib.decDigits u ≠ [] := by
  rw [Lib.decDigits]
  split <;> simp
theorem decD_head {u : Nat} : u ≠ 0 → (Lib.decDigits u).head? ≠ some 48 := by
  induction u using Nat.strongRecOn with
  | _ u ih =>
    intro h0
    rw [Lib.decDigits]
    split
    · rename_i h
      intro e
      injection e with e
      have := congrArg UInt8.toNat e
      rw [dig_nat h] at this
      have e2 : (48 : UInt8).toNat = 48 := rfl
      omega
    · rename_i h
      have h1 := ih (u / 10) (by omega) (by omega)
      cases hd : Lib.decDigits (u / 10) with
      | nil => exact absurd hd (decD_ne _)
      | cons c r => rw [hd] at h1; exact h1
/-- Both ways of telling a number give the same text. -/
theorem textL_dec (n : Nat) : textL n = Lib.decDigits n := by
  by_cases h : n = 0
  · subst h
    rw [Lib.decDigits]
    rfl
  · refine dec_uniq (textL_dig n) (decD_dig n) ?_ (decD_head h) (by rw [textL_val, decD_val])
    unfold textL
    rw [if_neg h]
    unfold trimZ
    have := List.head?_dropWhile_not (fun c : UInt8 => c == 48) (rawT n)
    intro e
    rw [e] at this
    simp at this
end Go.Proofs.YtbbpecfapohlaaaGreatDoor
