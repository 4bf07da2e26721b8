import Derived.Test.YtbbpecfapohlaaaGreatDoorKyW
import Derived.Test.YtbbpecfapohlaaaGreatDoorOw
namespace Go.Proofs.YtbbpecfapohlaaaGreatDoor
open Go.RowKit
attribute [local irreducible] AC Do St
theorem wrap32 (n : Nat) : IntKind.u32.wrap (n : Int) = ((n % 4294967296 : Nat) : Int) := by
  simp [IntKind.wrap, IntKind.bits, IntKind.signed]
theorem set_mid {α : Type} (o l : List α) (x : α) {i : Nat} (ho : o.length = i) (hi : i < l.length) : (o ++ l.drop i).set i x = (o ++ [x]) ++ l.drop (i + 1) := by
  rw [List.drop_eq_getElem_cons hi, List.set_append_right _ _ (by omega), ho, Nat.sub_self, List.set_cons_zero, List.append_assoc]
  rfl
theorem get_mid {α : Type} (o l : List α) {i : Nat} (ho : o.length = i) (hi : i < l.length) : (o ++ l.drop i)[i]? = some l[i] := by
  rw [List.getElem?_append_right (by omega), ho, Nat.sub_self, List.getElem?_drop, Nat.add_zero, List.getElem?_eq_getElem hi]
theorem grow_step {B D P u b s m c T : Nat} (hs : c + u * b = s) (h : D + P * c = m + b * T) : D + P * (s % B) + P * B * (s / B) = m + b * (T + P * u) := by
  have h1 := Nat.div_add_mod s B
  have h2 : P * (s % B) + P * B * (s / B) = P * s := by
    rw [Nat.mul_assoc, ← Nat.mul_add]
    congr 1
    omega
  have h3 : P * s = P * c + P * (u * b) := by rw [← hs, Nat.mul_add]
  have h4 : b * (T + P * u) = b * T + P * (u * b) := by
    rw [Nat.mul_add]
    congr 1
    rw [← Nat.mul_assoc, ← Nat.mul_assoc, Nat.mul_comm b P, Nat.mul_assoc, Nat.mul_comm b u, ← Nat.mul_assoc]
  omega
theorem grow_end {v b m c : Nat} {o : List Nat} (hb : 1 ≤ b) (ho : o.length = (limbs v).length) (hd : Dg 4294967296 o) (hc : c < 4294967296) (h : dval 4294967296 o + 4294967296 ^ (limbs v).length * c = m + b * v) : (if 0 < c then o ++ [c] else o) = limbs (v * b + m) := by
  have hv : v * b + m = m + b * v := by rw [Nat.mul_comm]; omega
  rw [hv, ← h]
  by_cases h0 : 0 < c
  · rw [if_pos h0]
    have e : dval 4294967296 (o ++ [c]) = dval 4294967296 o + 4294967296 ^ (limbs v).length * c := by rw [dval_concat, ho]
    rw [← e]
    exact (digs_of (by omega) (hd.concat hc) (by unfold Nrm; simp; omega)).symm
  · have hc0 : c = 0 := by omega
    subst hc0
    rw [if_neg h0, Nat.mul_zero, Nat.add_zero]
    refine (digs_of (by omega) hd ?_).symm
    by_cases hv0 : (limbs v).length = 0
    · have : o = [] := List.eq_nil_of_length_eq_zero (by omega)
      subst this
      simp [Nrm]
    · have hv1 : 4294967296 ^ ((limbs v).length - 1) ≤ v := by
        have := nrm_le (B := 4294967296) (by omega) (digs_nrm (by omega) v) (Nat.pos_of_ne_zero hv0)
        rwa [digs_val (by omega)] at this
      have hge : 4294967296 ^ ((limbs v).length - 1) ≤ dval 4294967296 o := by
        have h2 : v ≤ b * v := Nat.le_mul_of_pos_left _ hb
        rw [Nat.mul_zero, Nat.add_zero] at h
        omega
      unfold Nrm
      intro e
      have hl : 0 < o.length := by omega
      have hsp : o = o.take (o.length - 1) ++ [0] := by
        have hne : o ≠ [] := by
          intro e0
          rw [e0] at hl
          exact absurd hl (by simp)
        have h3 := List.dropLast_concat_getLast hne
        rw [List.getLast?_eq_some_getLast hne] at e
        rw [Option.some.inj e, List.dropLast_eq_take] at h3
        exact h3.symm
      have hlt := dval_lt (B := 4294967296) (hd.take (o.length - 1))
      rw [hsp, dval_concat, Nat.mul_zero, Nat.add_zero] at hge
      rw [List.length_take, Nat.min_eq_left (by omega), ho] at hlt
      rw [ho] at hge
      omega
set_option maxRecDepth 100000 in
set_option maxHeartbeats 4000000 in
theorem growF (n b m : Nat) (hb : 1 ≤ b) (hb2 : b < 4294967296) (hm : m < 4294967296) (hl : (limbs n).length ≤ 100000000) : FnA Tryz.prog 285 225 1 ((limbs n).map enW3) [.d (.v (.int .u32 (b : Int))), .d (.v (.int .u32 (m : Int)))] ((limbs (n * b + m)).map enW3) := by
  have hend := fun c o => grow_end (v := n) (b := b) (m := m) (c := c) (o := o) hb
  have hdg := limbs_dg n
  have hval : dval 4294967296 (limbs n) = n := limbs_val n
  generalize limbs (n * b + m) = R at hend ⊢
  generalize limbs n = L at *
  have hml : (L.map enW3).length = L.length := List.length_map ..
  refine FnA.of Tryz.func285 rfl (by kernel_rfl) Tryz.ntmps285 Tryz.results285 rfl fun w0 S0 v => ?_
  refine wk ?_
  ((try (first | intro K ms hms hK | intro K hK)); (first | apply Chain.go | apply Chain.goD); exact rfl; exact rfl; exact Loc.conv rfl rfl (wrap_u64 (by omega) (by omega)))
  refine wk ?_
  refine AC.loop (X := List Nat × Nat) (fun x => ⟨[(0, .r 42 0), (1, .d (.v (.int .u32 (b : Int)))), (12, .r 42 0), (13, .d (.v (.int .i64 ((L.map enW3).length : Int)))), (14, .d (.v (.int .i64 (x.1.length : Int)))), (7, .d (.v (.int .u64 (x.2 : Int))))], [(42, .row 0 225 1 ((x.1 ++ L.drop x.1.length).map enW3))]⟩)
    (fun x => x.1.length ≤ L.length ∧ Dg 4294967296 x.1 ∧ x.2 < 4294967296 ∧ dval 4294967296 x.1 + 4294967296 ^ x.1.length * x.2 = m + b * dval 4294967296 (L.take x.1.length)) (fun x => L.length - x.1.length) ([], m) ⟨Nat.zero_le _, Dg.nil, hm, by simp [dval]⟩ ⟨rfl, rfl, rfl, rfl, rfl, rfl, trivial⟩ ⟨rfl, trivial⟩ ?_
  intro ⟨o, c⟩ ⟨hol, hod, hc, hinv⟩
  dsimp only at hol hod hc hinv ⊢
  obtain ⟨i, hi⟩ : ∃ i, o.length = i := ⟨_, rfl⟩
  rw [hi] at hol hinv ⊢
  have hxl : ((o ++ L.drop i).map enW3).length = L.length := by simp; omega
  refine wk ?_
  refine s1 (fun h1 => ?_) (fun h1 => ?_)
  · have hi' : i < L.length := by omega
    have hgm := get_mid o L hi hi'
    have hsm := fun x => set_mid o L x hi hi'
    have htk := dval_take_succ (B := 4294967296) hi'
    have hu := hdg L[i] (List.getElem_mem hi')
    generalize L[i] = u at hgm htk hu
    have hgm2 : ((o ++ L.drop i).map enW3)[i]? = some (enW3 u) := by rw [List.getElem?_map, hgm]; rfl
    have hub : u * b ≤ 4294967295 * 4294967295 := Nat.mul_le_mul (by omega) (by omega)
    have hcm : ((u : Int) * (b : Int)) = ((u * b : Nat) : Int) := by simp
    refine wk ?_
    ((try (first | intro K ms hms hK | intro K hK)); (first | apply Chain.go | apply Chain.goD); exact rfl; exact rfl; exact Loc.conv rfl rfl (wrap_u64 (by omega) (by omega)))
    refine wk ?_
    ((try (first | intro K ms hms hK | intro K hK)); (first | apply Chain.go | apply Chain.goD); exact rfl; exact rfl; exact Loc.conv rfl rfl (wrap_u64 (by omega) (by omega)))
    ((try (first | intro K ms hms hK | intro K hK)); (first | apply Chain.go | apply Chain.goD); exact rfl; exact rfl; exact Loc.mul rfl rfl rfl (wrap_u64 (by rw [hcm]; omega) (by rw [hcm]; omega)))
    rw [hcm]
    obtain ⟨s, hs⟩ : ∃ s, c + u * b = s := ⟨_, rfl⟩
    have hcs : (c : Int) + ((u * b : Nat) : Int) = (s : Int) := by omega
    ((try (first | intro K ms hms hK | intro K hK)); (first | apply Chain.go | apply Chain.goD); exact rfl; exact rfl; exact Loc.add rfl rfl rfl (wrap_u64 (by omega) (by omega)))
    rw [hcs]
    refine wk ?_
    ((try (first | intro K ms hms hK | intro K hK)); (first | apply Chain.go | apply Chain.goD); exact rfl; exact rfl; exact Loc.conv rfl rfl (wrap32 s))
    ((try (first | intro K ms hms hK | intro K hK)); (first | apply Chain.go | apply Chain.goD); exact rfl; exact rfl; exact Loc.idxR (i := i) rfl rfl rfl rfl rfl (by omega) rfl)
    ((try (first | intro K ms hms hK | intro K hK)); (first | apply Chain.st | apply Chain.stD); exact rfl; exact rfl; exact Do.setM (s % 4294967296) rfl rfl rfl hgm rfl rfl rfl rfl rfl rfl; exact rfl; exact rfl)
    refine wk ?_
    ((try (first | intro K ms hms hK | intro K hK)); (first | apply Chain.go | apply Chain.goD); exact rfl; exact rfl; exact Loc.shr 32 rfl rfl rfl rfl (shr_nat s 32))
    refine wk ?_
    have hlt : s % 4294967296 < 4294967296 := Nat.mod_lt _ (by omega)
    refine ⟨(o ++ [s % 4294967296], s / 2 ^ 32), ⟨by simp; omega, hod.concat hlt, ?_, ?_⟩, by simp; omega, ⟨rfl, rfl, rfl, rfl, by dsimp only; rw [List.length_append, hi]; rfl, rfl, trivial⟩, ⟨?_, trivial⟩⟩
    · dsimp only
      omega
    · dsimp only
      rw [List.length_append, hi, List.length_singleton, htk, dval_concat, hi, Nat.pow_succ]
      exact grow_step hs hinv
    · dsimp only
      rw [hsm, List.length_append, hi]
      rfl
  · have hiL : i = L.length := by omega
    subst hiL
    have he := hend c o hi hod hc (by rw [List.take_length, hval] at hinv; exact hinv)
    rw [List.drop_length, List.append_nil] at hxl ⊢
    refine wk ?_
    refine s1 (fun h2 => ?_) (fun h2 => ?_)
    · rw [if_pos (by omega)] at he
      refine wk ?_
      ((try (first | intro K ms hms hK | intro K hK)); (first | apply Chain.go | apply Chain.goD); exact rfl; exact rfl; exact Loc.conv rfl rfl (wrap_u32 (by omega) (by omega)))
      refine wk ?_
      refine ⟨6, 1, rfl, rfl, ?_⟩
      rw [← he, List.map_append]
      rfl
    · rw [if_neg (by omega)] at he
      refine wk ?_
      refine ⟨6, 0, rfl, rfl, ?_⟩
      rw [← he]
      rfl

instance : DecidablePred DigC := fun c => by unfold DigC; infer_instance
def readN (l : List UInt8) : Option Nat := if l ≠ [] ∧ ∀ c ∈ l, DigC c then some (valF 0 l) else none
theorem valF_lt (l : List UInt8) (h : ∀ c ∈ l, DigC c) (a : Nat) : valF a l + 1 ≤ (a + 1) * 10 ^ l.length := by
  induction l generalizing a with
  | nil => simp [valF]
  | cons c l ih =>
    have h1 := ih (fun x hx => h x (List.mem_cons_of_mem _ hx)) (a * 10 + (c.toNat - 48))
    have h2 : DigC c := h c List.mem_cons_self
    unfold DigC at h2
    have e : valF a (c :: l) = valF (a * 10 + (c.toNat - 48)) l := rfl
    rw [e, List.length_cons, Nat.pow_succ, Nat.mul_comm (10 ^ l.length) 10, ← Nat.mul_assoc]
    exact Nat.le_trans h1 (Nat.mul_le_mul_right _ (by omega))
theorem valF_len (l : List UInt8) (h : ∀ c ∈ l, DigC c) (hl : l.length ≤ 20000) : (limbs (valF 0 l)).length ≤ 3000 := by
  have h1 := valF_lt l h 0
  have h2 : 10 ^ l.length ≤ 2 ^ (4 * l.length) := by
    rw [Nat.pow_mul]
    exact Nat.pow_le_pow_left (by decide) _
  have := limbs_len_bd (n := valF 0 l) (k := 4 * l.length) (by omega)
  omega
theorem valF_take {l : List UInt8} {i : Nat} {c : UInt8} (h : l[i]? = some c) (a : Nat) : valF a (l.take (i + 1)) = valF a (l.take i) * 10 + (c.toNat - 48) := by
  obtain ⟨hi, he⟩ := List.getElem?_eq_some_iff.1 h
  rw [List.take_succ_eq_append_getElem hi, valF_app, he]
  rfl
theorem txE : ((tx []).toList == (⟨#[]⟩ : ByteArray).toList) = true := by rw [tx_list, tx_nil]; rfl
theorem txN {l : List UInt8} (h : l ≠ []) : ((tx l).toList == (⟨#[]⟩ : ByteArray).toList) = false := by rw [tx_list, tx_nil]; simpa using h
theorem wrap_i32 {n : Int} (h : -2147483648 ≤ n) (h2 : n < 2147483648) : IntKind.wrap .i32 n = n := by
  simp [IntKind.wrap, IntKind.bits, IntKind.signed]
  omega
def resN : Option Nat → List DV
  | some n => [.d (enL (limbs n)), .d (.v (.int .i64 0))]
  | none => [.d (.l []), .d (.v (.int .i64 3))]
set_option maxRecDepth 100000 in
set_option maxHeartbeats 4000000 in
theorem parseN (l : List UInt8) (hl : l.length ≤ 20000) : Fn Tryz.prog 251 [.d (.v (.string (tx l)))] (resN (readN l)) := by
  refine Fn.of Tryz.func251 rfl (by kernel_rfl) Tryz.ntmps251 Tryz.results251 rfl fun w0 S0 => ?_
  refine wk ?_
  ((try (first | intro K ms hms hK | intro K hK)); (first | apply Chain.go | apply Chain.goD); exact rfl; exact rfl; exact Loc.strLen rfl rfl (by kernel_rfl))
  rw [tx_size]
  refine wk ?_
  by_cases h0 : l = []
  · subst h0
    refine wk ?_
    ((try (first | intro K ms hms hK | intro K hK)); (first | apply Chain.go | apply Chain.goD); exact rfl; exact rfl; exact Loc.strEq (r := true) rfl rfl rfl txE)
    refine wk ?_
    exact ⟨.d rfl (.inr rfl), .d rfl (.inl rfl), trivial⟩
  refine wk ?_
  ((try (first | intro K ms hms hK | intro K hK)); (first | apply Chain.go | apply Chain.goD); exact rfl; exact rfl; exact Loc.strEq (r := false) rfl rfl rfl (txN h0))
  refine wk ?_
  (first | intro K ms hms hK | intro K hK)
  refine Chain.mkIter rfl rfl rfl rfl (by kernel_rfl) rfl fun b => ?_
  refine wk ?_
  refine AC.rowVar 4 29 225 1 rfl rfl ?_
  refine AC.loop (X := Nat) (fun i => ⟨[(4, .r 29 i), (13, .d (.v (ptv b 0)))], [(13, iterO b (tx l) i), (29, .row i 225 1 ((limbs (valF 0 (l.take i))).map enW3))]⟩) (fun i => i ≤ l.length ∧ ∀ c ∈ l.take i, DigC c) (fun i => l.length - i) 0 ⟨Nat.zero_le _, by simp⟩ ⟨rfl, rfl, trivial⟩ ⟨rfl, by dsimp only; rw [List.take_zero, show limbs (valF 0 []) = [] from (digs_eq_nil (by omega)).2 rfl]; rfl, trivial⟩ ?_
  intro i ⟨hi, hd⟩
  dsimp only
  refine wk ?_
  by_cases h1 : i < l.length
  · obtain ⟨c, hc⟩ : ∃ c, l[i]? = some c := ⟨_, List.getElem?_eq_getElem h1⟩
    have htk := valF_take hc 0
    have hvl := valF_len (l.take i) hd (by rw [List.length_take]; omega)
    have hcl := c.toNat_lt
    ((try (first | intro K ms hms hK | intro K hK)); (first | apply Chain.ef | apply Chain.efD); exact rfl; exact rfl; exact Do.next (id := 13) (pos := i) rfl rfl rfl (by rw [tx_size]; exact h1); exact rfl; exact rfl)
    by_cases h2 : c.toNat < 128
    · rw [dec_ascii hc h2]
      dsimp only
      by_cases h3 : DigC c
      · have hd2 : ∀ x ∈ l.take (i + 1), DigC x := fun x hx => by
          rw [List.take_succ_eq_append_getElem h1, List.mem_append, List.mem_singleton] at hx
          rcases hx with hx | hx
          · exact hd x hx
          · obtain ⟨_, he⟩ := List.getElem?_eq_some_iff.1 hc
            rw [hx, he]
            exact h3
        unfold DigC at h3
        refine wk ?_
        ((try (first | intro K ms hms hK | intro K hK)); (first | apply Chain.go | apply Chain.goD); exact rfl; exact rfl; exact Loc.sub rfl rfl rfl (wrap_i32 (by omega) (by omega)))
        refine wk ?_
        ((try (first | intro K ms hms hK | intro K hK)); (first | apply Chain.go | apply Chain.goD); exact rfl; exact rfl; exact Loc.conv rfl rfl (wrap_u32 (by omega) (by omega)))
        rw [show ((c.toNat : Int) - 48) = ((c.toNat - 48 : Nat) : Int) by omega]
        ((try (first | intro K ms hms hK | intro K hK)); (first | apply Chain.ef | apply Chain.efD); exact rfl; exact rfl; (refine Do.callA (growF (valF 0 (l.take i)) 10 (c.toNat - 48) (by decide) (by decide) (by omega) (by omega)) rfl rfl rfl ?_; (repeat (first | exact trivial | refine ⟨.inl rfl, ?_⟩ | refine ⟨.inr rfl, ?_⟩))); exact rfl; exact rfl)
        refine wk ?_
        refine ⟨i + 1, ⟨by omega, hd2⟩, by omega, ⟨rfl, rfl, trivial⟩, ⟨rfl, by rw [htk]; rfl, trivial⟩⟩
      · have hr : readN l = none := if_neg fun h => h3 (h.2 c (List.mem_of_getElem? hc))
        unfold DigC at h3
        by_cases h4 : c.toNat < 48
        · refine wk ?_
          rw [hr]
          exact ⟨.d rfl (.inr rfl), .d rfl (.inl rfl), trivial⟩
        · refine wk ?_
          rw [hr]
          exact ⟨.d rfl (.inr rfl), .d rfl (.inl rfl), trivial⟩
    · have h3 := dec_high hc h2
      have hr : readN l = none := if_neg fun h => by
        have := h.2 c (List.mem_of_getElem? hc)
        unfold DigC at this
        omega
      generalize Utf8.decode (tx l) i = r at h3
      refine wk ?_
      rw [hr]
      exact ⟨.d rfl (.inr rfl), .d rfl (.inl rfl), trivial⟩
  · obtain rfl : i = l.length := by omega
    rw [List.take_length] at hd ⊢
    have hr : readN l = some (valF 0 l) := if_pos ⟨h0, hd⟩
    have hvl := valF_len l hd hl
    ((try (first | intro K ms hms hK | intro K hK)); (first | apply Chain.go | apply Chain.goD); exact rfl; exact rfl; exact Loc.nextEnd (id := 13) rfl rfl rfl (by rw [tx_size]; omega))
    refine wk ?_
    (first | intro K ms hms hK | intro K hK)
    refine Chain.frzVar 28 rfl rfl ?_
    refine c1 (normU (valF 0 l) (by omega)) ?_
    refine wk ?_
    rw [hr]
    exact ⟨.d rfl (.inl rfl), .d rfl (.inl rfl), trivial⟩
theorem ivw {x y : Int} (h : x = y) : some (AV.d (D.v (Value.int .i64 x))) = some (AV.d (D.v (Value.int .i64 y))) := by rw [h]
set_option maxRecDepth 100000 in
set_option maxHeartbeats 4000000 in
theorem tensF (n : Nat) (hn : n ≤ 20000) : Fn Tryz.prog 252 [.d (.v (.int .i64 (n : Int)))] [.d (enL (limbs (10 ^ n))), .d (.v (.int .i64 0))] := by
  have hlen : ∀ r ≤ n, (limbs (10 ^ (n - r))).length ≤ 3000 := fun r hr => by
    have h2 : 10 ^ (n - r) ≤ 2 ^ (4 * (n - r)) := by
      rw [Nat.pow_mul]
      exact Nat.pow_le_pow_left (by decide) _
    have := limbs_len_bd (n := 10 ^ (n - r)) (k := 4 * (n - r) + 1) (by rw [Nat.pow_succ]; have := Nat.pow_pos (n := 4 * (n - r)) (show 0 < 2 by decide); omega)
    omega
  refine Fn.of Tryz.func252 rfl (by kernel_rfl) Tryz.ntmps252 Tryz.results252 rfl fun w0 S0 => ?_
  refine wn ?_
  ((try (first | intro K ms hms hK | intro K hK)); (first | apply Chain.ef | apply Chain.efD); exact rfl; exact rfl; exact Do.litR rfl rfl rfl rfl rfl rfl rfl rfl; exact rfl; exact rfl)
  refine wk ?_
  refine AC.loop (X := Nat × Nat) (fun x => ⟨[(0, .d (.v (.int .i64 (x.1 : Int)))), (4, .r 9 x.2), (3, .d (.v (.int .i64 0)))], [(9, .row x.2 225 1 ((limbs (10 ^ (n - x.1))).map enW3))]⟩) (fun x => x.1 ≤ n) (fun x => x.1) (n, 0) (Nat.le_refl _) ⟨rfl, rfl, rfl, trivial⟩ ⟨by dsimp only; rw [Nat.sub_self, Nat.pow_zero, limbs_one]; rfl, trivial⟩ ?_
  intro ⟨r, g⟩ hr
  dsimp only at hr ⊢
  refine wk ?_
  refine s1 (fun h1 => ?_) (fun h1 => ?_)
  · have e1 : 10 ^ (n - (r - 9)) = 10 ^ (n - r) * 1000000000 + 0 := by rw [Nat.add_zero, show n - (r - 9) = (n - r) + 9 by omega, Nat.pow_add]
    refine wk ?_
    ((try (first | intro K ms hms hK | intro K hK)); (first | apply Chain.ef | apply Chain.efD); exact rfl; exact rfl; (refine Do.callA (growF (10 ^ (n - r)) 1000000000 0 (by decide) (by decide) (by decide) (by have := hlen r hr; omega)) rfl rfl rfl ?_; (repeat (first | exact trivial | refine ⟨.inl rfl, ?_⟩ | refine ⟨.inr rfl, ?_⟩))); exact rfl; exact rfl)
    refine wk ?_
    refine ⟨(r - 9, g + 1), by dsimp only; omega, by dsimp only; omega, ⟨ivw (by dsimp only; omega), rfl, rfl, trivial⟩, ⟨by dsimp only; rw [e1]; rfl, trivial⟩⟩
  · refine wk ?_
    refine AC.loop (X := Nat × Nat) (fun x => ⟨[(0, .d (.v (.int .i64 (x.1 : Int)))), (4, .r 9 x.2), (3, .d (.v (.int .i64 0)))], [(9, .row x.2 225 1 ((limbs (10 ^ (n - x.1))).map enW3))]⟩) (fun x => x.1 ≤ n) (fun x => x.1) (r, g) hr ⟨rfl, rfl, rfl, trivial⟩ ⟨rfl, trivial⟩ ?_
    intro ⟨r, g⟩ hr
    dsimp only at hr ⊢
    refine wk ?_
    refine s1 (fun h2 => ?_) (fun h2 => ?_)
    · have e1 : 10 ^ (n - (r - 1)) = 10 ^ (n - r) * 10 + 0 := by rw [Nat.add_zero, show n - (r - 1) = (n - r) + 1 by omega, Nat.pow_succ]
      refine wk ?_
      ((try (first | intro K ms hms hK | intro K hK)); (first | apply Chain.ef | apply Chain.efD); exact rfl; exact rfl; (refine Do.callA (growF (10 ^ (n - r)) 10 0 (by decide) (by decide) (by decide) (by have := hlen r hr; omega)) rfl rfl rfl ?_; (repeat (first | exact trivial | refine ⟨.inl rfl, ?_⟩ | refine ⟨.inr rfl, ?_⟩))); exact rfl; exact rfl)
      refine wk ?_
      refine ⟨(r - 1, g + 1), by dsimp only; omega, by dsimp only; omega, ⟨ivw (by dsimp only; omega), rfl, rfl, trivial⟩, ⟨by dsimp only; rw [e1]; rfl, trivial⟩⟩
    · obtain rfl : r = 0 := by omega
      rw [Nat.sub_zero]
      refine wk ?_
      refine ⟨.d rfl ⟨_, _, rfl⟩, .d rfl (.inl rfl), trivial⟩
end Go.Proofs.YtbbpecfapohlaaaGreatDoor
