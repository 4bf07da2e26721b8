/-
  AtomKeys, AtomPlaces: the laws by plain data.
  atom.Places and AtomPlaces by plain data.
-/
import Derived.Test.YtfijmpmojhlnmaaGreatDoorKyA
namespace Go.Proofs.YtfijmpmojhlnmaaGreatDoor
open Go.RowKit
attribute [local irreducible] AC Do St
theorem form_at : ∀ {l : List Tm}, Form l → ∀ t ∈ l, coef l t.1 = t.2
  | [], _, t, h => by simp at h
  | x :: l, hf, t, h => by
    rcases List.mem_cons.1 h with h | h
    · subst h; exact hf.head
    · have h1 := List.rel_of_pairwise_cons hf.1 h
      have h2 := form_at hf.tail t h
      have h3 : coef (x :: l) t.1 = (if x.1 = t.1 then x.2 else 0) + coef l t.1 := rfl
      rw [h3, if_neg (by omega), Rat.zero_add, h2]
theorem can_used (e : Ex) : canL e.t = (usedI e).map fun v => (v, coef e.t v) := by
  obtain ⟨hf, hc, _⟩ := canL_spec e.t
  have h1 : usedI e = (canL e.t).map (·.1) := by
    refine rising_ext (usedI_rising e) (List.pairwise_map.2 hf.1) fun v => ?_
    rw [usedI_mem, ← hc v]
    constructor
    · intro h
      obtain ⟨t, ht, h2⟩ := coef_ne_mem h
      exact List.mem_map.2 ⟨t, ht, h2⟩
    · intro h
      obtain ⟨t, ht, rfl⟩ := List.mem_map.1 h
      rw [form_at hf t ht]
      exact hf.2 t ht
  rw [h1, List.map_map]
  conv => lhs; rw [← List.map_id (canL e.t)]
  refine List.map_congr_left fun t ht => ?_
  simp only [Function.comp, id]
  rw [← hc t.1, form_at hf t ht]
theorem canA_used (a : At) {c : Rat} (hc : c ≠ 0) : (canA a c).e.t = (usedI a.e).map fun v => (v, byQ a.op c * coef a.e.t v) := by
  rw [canA_t a hc, can_used, List.map_map]
  rfl
theorem can_var {l : List Tm} {t : Tm} (h : t ∈ canL l) : ∃ u ∈ l, u.1 = t.1 := by
  obtain ⟨hf, hc, _⟩ := canL_spec l
  refine coef_ne_mem ?_
  rw [← hc t.1, form_at hf t h]
  exact hf.2 t h
theorem atN_var (a : AN) (ha : okEN a.e) : ∀ t ∈ (atN a).e.t, -9223372036854775808 ≤ t.1 ∧ t.1 ≤ 9223372036854775807 := fun t ht => by
  obtain ⟨x, hx, rfl⟩ := List.mem_map.1 (show t ∈ (a.e.t.take 12).map tmN from ht)
  exact (ha.t x (List.mem_of_mem_take hx)).2
theorem kv_none {a : At} (hl : leadQ a.e = none) : keyL (-(if sayB a.op a.e.c then 1 else 2)) enK0 [] = (keyV a).map D.v := by
  rw [keyV_none hl, truth_none hl]
  rfl
theorem kv_some {a : At} {v : Int} {c : Rat} (hl : leadQ a.e = some (v, c)) : keyL (canA a c).op (enK (canA a c).e.c) (keyT (canA a c).e.t) = (keyV a).map D.v := by
  rw [keyV_some hl]
  rfl
theorem byL_len {n k : Nat} (h : n < 2 ^ k) : (byL n).length ≤ k := by
  unfold byL
  rw [List.length_map]
  exact digs_len (B := 256) (by omega) (Nat.lt_of_lt_of_le h (Nat.pow_le_pow_left (by omega) _))
/-- The key of a constraint in form. -/
theorem keyGood (a : AN) (ha : okEN a.e) (ho : okOp a.op) : FnK Tryz.prog 20 Tab [.g (enA (atN a))] [.g ((keyV (atN a)).map D.v), .d (.v (.int .i64 0))] ∧ KV (keyV (atN a)) := by
  have hs := atN_sm a ha
  have ho' : okOp (atN a).op := ho
  rcases lead_can (atN a).e with ⟨hl, h0⟩ | ⟨v, c, l, hl, h0⟩
  · refine ⟨?_, ?_⟩
    · have := keyOfNum (atN a) 256 ho' hs.t (by have := hs.n; omega) h0
      rw [kv_none hl] at this
      exact this.k
    · rw [keyV_none hl]
      refine kvV_KV _ _ _ _ _ ?_ (by simp) (by simp) (by simp)
      rcases truth_shut hl with h | h <;> rw [h] <;> omega
  · have hne := (leadQ_ne hl).1
    have hsm := canA_sm (atN a) hs (by omega : (12 + 1) * (256 + 1) ≤ 3341) h0 hne
    have hcan := canOpen (atN a) 256 3341 ho' hs.c hs.t (by have := hs.n; omega) (by have := hs.n; omega) h0 hne
    have hvar : ∀ t ∈ (canA (atN a) c).e.t, -9223372036854775808 ≤ t.1 ∧ t.1 ≤ 9223372036854775807 := fun t ht => by
      rw [canA_t _ hne] at ht
      obtain ⟨x, hx, rfl⟩ := List.mem_map.1 ht
      obtain ⟨u, hu, h2⟩ := can_var hx
      have := atN_var a ha u hu
      show -9223372036854775808 ≤ x.1 ∧ x.1 ≤ 9223372036854775807
      rw [← h2]
      exact this
    refine ⟨?_, ?_⟩
    · have := keyOfOpen (atN a) (canA (atN a) c) 6682 hcan (by omega) (by have := hsm.n; omega) hsm.t hsm.c hvar
      rw [kv_some hl] at this
      exact this
    · rw [keyV_some hl]
      have hlen : ∀ l : List Tm, (∀ t ∈ l, Bd 6682 t.2 ∧ -9223372036854775808 ≤ t.1 ∧ t.1 ≤ 9223372036854775807) → (keyT l).length ≤ l.length * 1000000 := fun l => by
        induction l with
        | nil => intro _; simp [keyT]
        | cons t l ih =>
          intro h
          obtain ⟨h1, h2, h3⟩ := h t (by simp)
          have e1 := Lib.itoa_length_le t.1 h2 h3
          have e2 := printL_len t.2
          have e3 := limbs_len_bd h1.1
          have e4 := limbs_len_bd h1.2
          have := ih fun t ht => h t (by simp [ht])
          rw [keyT_cons, List.length_append, List.length_append, List.length_cons, List.length_cons, List.length_cons]
          omega
      refine kvV_KV _ _ _ _ _ ?_ (Nat.le_trans (byL_len hsm.c.1) (by omega)) (Nat.le_trans (byL_len hsm.c.2) (by omega)) ?_
      · unfold okOp at ho'
        omega
      · have := hlen _ fun t ht => ⟨hsm.t t ht, hvar t ht⟩
        have := hsm.n
        omega
theorem keyBad (a : AN) (ho : ¬ okOp a.op) : FnK Tryz.prog 20 Tab [.g (enA (atN a))] [.g ((kvV 0 false [] [] []).map D.v), .d (.v (.int .i64 4))] := (keyOfNo (atN a) ho).k
theorem kv0_KV : KV (kvV 0 false [] [] []) := kvV_KV _ _ _ _ _ (by omega) (by simp) (by simp) (by simp)
theorem keyV_form (a : At) : ∃ o n x y s, keyV a = kvV o n x y s := by
  unfold keyV
  split
  · exact ⟨_, _, _, _, _, rfl⟩
  · exact ⟨_, _, _, _, _, rfl⟩
set_option maxRecDepth 100000 in
set_option maxHeartbeats 8000000 in
/-- One of both is not in form. -/
theorem keysBad (a b : AN) (ha : okEN a.e) (hb : okEN b.e) (h : ¬ (okOp a.op ∧ okOp b.op)) : FnK Tryz.prog 5 Tab [.g (enAN a), .g (enAN b)] [.d (.v (.bool true))] := by
  by_cases h1 : okOp a.op
  · have h2 : ¬ okOp b.op := fun h2 => h ⟨h1, h2⟩
    obtain ⟨k1, _⟩ := keyGood a ha h1
    have k2 := keyBad b h2
    obtain ⟨o1, n1, x1, y1, s1, e1⟩ := keyV_form (atN a)
    rw [e1] at k1
    refine FnK.of Tryz.func5 rfl (by kernel_rfl) Tryz.ntmps5 Tryz.results5 rfl fun w0 S0 hK0 => ?_
    refine wk ?_
    refine c1 (ofA a ha) ?_
    refine c1 k1 ?_
    refine wk ?_
    refine c1 (ofA b hb) ?_
    refine c1 k2 ?_
    refine wk ?_
    refine c1 awake9 ?_
    refine wk ?_
    refine c1 (goodY a h1) ?_
    ((try (first | intro K ms hms hK | intro K hK)); (first | apply Chain.go | apply Chain.goD); exact rfl; exact rfl; exact Loc.neB rfl rfl rfl (by kernel_rfl) (rfl))
    refine wk ?_
    refine c1 (goodN b h2) ?_
    ((try (first | intro K ms hms hK | intro K hK)); (first | apply Chain.go | apply Chain.goD); exact rfl; exact rfl; exact Loc.neB rfl rfl rfl (by kernel_rfl) (rfl))
    refine wk ?_
    exact ⟨.d rfl (.inl rfl), trivial⟩
  · have k1 := keyBad a h1
    have hz := kv0_KV
    by_cases h2 : okOp b.op
    · obtain ⟨k2, _⟩ := keyGood b hb h2
      obtain ⟨o1, n1, x1, y1, s1, e1⟩ := keyV_form (atN b)
      rw [e1] at k2
      refine FnK.of Tryz.func5 rfl (by kernel_rfl) Tryz.ntmps5 Tryz.results5 rfl fun w0 S0 hK0 => ?_
      refine wk ?_
      refine c1 (ofA a ha) ?_
      refine c1 k1 ?_
      refine wk ?_
      refine c1 (ofA b hb) ?_
      refine c1 k2 ?_
      refine wk ?_
      refine c1 awake9 ?_
      refine wk ?_
      refine c1 (goodN a h1) ?_
      ((try (first | intro K ms hms hK | intro K hK)); (first | apply Chain.go | apply Chain.goD); exact rfl; exact rfl; exact Loc.neB rfl rfl rfl (by kernel_rfl) (rfl))
      refine wk ?_
      refine c1 (goodY b h2) ?_
      ((try (first | intro K ms hms hK | intro K hK)); (first | apply Chain.go | apply Chain.goD); exact rfl; exact rfl; exact Loc.neB rfl rfl rfl (by kernel_rfl) (rfl))
      refine wk ?_
      ((try (first | intro K ms hms hK | intro K hK)); (first | apply Chain.go | apply Chain.goD); exact rfl; exact rfl; exact Loc.eqKey (m := 3) (xs := kvV 0 false [] [] []) (ys := kvV 0 false [] [] []) (r := true) rfl rfl rfl (by omega) (by kernel_rfl) (by kernel_rfl) (by kernel_rfl) hz hz ⟨fun _ => rfl, fun _ => rfl⟩)
      refine wk ?_
      exact ⟨.d rfl (.inl rfl), trivial⟩
    · have k2 := keyBad b h2
      refine FnK.of Tryz.func5 rfl (by kernel_rfl) Tryz.ntmps5 Tryz.results5 rfl fun w0 S0 hK0 => ?_
      refine wk ?_
      refine c1 (ofA a ha) ?_
      refine c1 k1 ?_
      refine wk ?_
      refine c1 (ofA b hb) ?_
      refine c1 k2 ?_
      refine wk ?_
      refine c1 awake9 ?_
      refine wk ?_
      refine c1 (goodN a h1) ?_
      ((try (first | intro K ms hms hK | intro K hK)); (first | apply Chain.go | apply Chain.goD); exact rfl; exact rfl; exact Loc.neB rfl rfl rfl (by kernel_rfl) (rfl))
      refine wk ?_
      refine c1 (goodN b h2) ?_
      ((try (first | intro K ms hms hK | intro K hK)); (first | apply Chain.go | apply Chain.goD); exact rfl; exact rfl; exact Loc.neB rfl rfl rfl (by kernel_rfl) (rfl))
      refine wk ?_
      ((try (first | intro K ms hms hK | intro K hK)); (first | apply Chain.go | apply Chain.goD); exact rfl; exact rfl; exact Loc.eqKey (m := 3) (xs := kvV 0 false [] [] []) (ys := kvV 0 false [] [] []) (r := true) rfl rfl rfl (by omega) (by kernel_rfl) (by kernel_rfl) (by kernel_rfl) hz hz ⟨fun _ => rfl, fun _ => rfl⟩)
      refine wk ?_
      exact ⟨.d rfl (.inl rfl), trivial⟩
theorem keyR_some (neg : Bool) (x y : ByteArray) (hx : x.size ≤ maxLen) (hy : y.size ≤ maxLen) : ∃ l, keyOf Tryz.prog 56 (.agg #[.bool neg, .string x, .string y]) = some l := by
  have hsz : (Tryz.prog).types.size + 1 = ((Tryz.prog).types.size - 1) + 2 := by
    have : (0 : Nat) < (Tryz.prog).types.size := of_decide_eq_true (by kernel_rfl)
    omega
  have hf : Value.formed Tryz.prog 56 (.agg #[.bool neg, .string x, .string y]) = true := by
    unfold Value.formed
    kernel_rfl
  have hl : ∃ ls, (Tryz.prog).keyLits ((Tryz.prog).types.size + 1) 56 [.bool neg, .string x, .string y] = some ls := by
    rw [hsz]
    generalize (Tryz.prog).types.size - 1 = n
    have hb : ∀ n, (Tryz.prog).keyLits (n + 1) 4 [.bool neg] = some [.bool neg] := fun n => by
      unfold Program.keyLits
      rw [Tryz.underlying4]
    have hs : ∀ n, ∀ c : ByteArray, c.size ≤ maxLen → (Tryz.prog).keyLits (n + 1) 9 [.string c] = some [.string c.data.toList] := fun n c hc => by
      unfold Program.keyLits
      rw [Tryz.underlying9]
      simp [hc]
    have hcb : (Tryz.prog).cellsOf 4 = 1 := by kernel_rfl
    have hcs : (Tryz.prog).cellsOf 9 = 1 := by kernel_rfl
    have hcr : (Tryz.prog).cellsOf 56 = 3 := by kernel_rfl
    unfold Program.keyLits
    rw [Tryz.underlying56]
    exact ⟨[.bool neg, .string x.data.toList, .string y.data.toList], by simp [hcb, hcs, hcr, hb, hs n x hx, hs n y hy]⟩
  obtain ⟨ls, hl⟩ := hl
  unfold keyOf
  rw [Tryz.underlying56]
  have hkt : (Tryz.prog).keyType 56 = true := by kernel_rfl
  have hc : (Value.agg #[.bool neg, .string x, .string y]).cells.toList = [.bool neg, .string x, .string y] := rfl
  simp only [hkt, hf, Bool.and_self, if_true, hc, hl, Option.map_some]
  exact ⟨_, rfl⟩
theorem atN_sm2 (a : AN) (ha : okEN a.e) : Sm 12 3598 (atN a).e := (atN_sm a ha).mono (Nat.le_refl _) (by omega)
theorem lead_bd (a : AN) (ha : okEN a.e) {v : Int} {c : Rat} (h : leadQ (atN a).e = some (v, c)) : Bd 3598 c := by
  rw [(leadQ_ne h).2.1]
  exact ((atN_sm a ha).coef v).mono (by omega)
theorem sameAny (a b : AN) (ha : okEN a.e) (hb : okEN b.e) (r : Bool) (hr : r = true ↔ SameP (atN a) (atN b)) : Fn Tryz.prog 24 [.g (enAQ (atN a)), .g (enAQ (atN b))] [.d (.v (.bool r))] := by
  cases hla : leadQ (atN a).e with
  | none => exact sameShut _ _ (atN_sm2 a ha) (atN_sm2 b hb) (by omega) (.inl hla) r hr
  | some x =>
    obtain ⟨v, c⟩ := x
    cases hlb : leadQ (atN b).e with
    | none => exact sameShut _ _ (atN_sm2 a ha) (atN_sm2 b hb) (by omega) (.inr hlb) r hr
    | some y =>
      obtain ⟨w, d⟩ := y
      exact sameOpen _ _ (atN_sm2 a ha) (atN_sm2 b hb) (by omega) hla hlb (lead_bd a ha hla) (lead_bd b hb hlb) r hr
theorem toldN (a : AN) (ha : okEN a.e) : Fn Tryz.prog 25 [.g (enA (atN a))] [.g (enAQ (atN a))] := toldA (atN a) 256 (by omega) (atN_sm a ha).c (atN_sm a ha).t (by have := (atN_sm a ha).n; omega)
set_option maxRecDepth 100000 in
set_option maxHeartbeats 8000000 in
theorem keysShut (a b : AN) (ha : okEN a.e) (hb : okEN b.e) (h1 : okOp a.op) (h2 : okOp b.op) (hl : leadQ (atN a).e = none) : FnK Tryz.prog 5 Tab [.g (enAN a), .g (enAN b)] [.d (.v (.bool true))] := by
  obtain ⟨k1, v1⟩ := keyGood a ha h1
  obtain ⟨k2, v2⟩ := keyGood b hb h2
  have hks := keyV_same (atN a) (atN b)
  have hinj : kLit (keyV (atN a)) = kLit (keyV (atN b)) ↔ SameP (atN a) (atN b) := by
    rw [← hks]
    exact ⟨fun h => v1.inj v2 h, fun h => by rw [h]⟩
  have htr := truthQ (atN a) (atN_sm a ha) (by omega)
  have hts := truth_shut hl
  obtain ⟨o2, n2, x2, y2, s2, e2⟩ := keyV_form (atN b)
  rw [keyV_none hl] at k1 v1 hinj
  rw [e2] at k2 v2 hinj
  obtain ⟨r, hr⟩ : ∃ r : Bool, r = true ↔ SameP (atN a) (atN b) := by
    classical
    exact ⟨decide (SameP (atN a) (atN b)), by simp⟩
  have hsame := sameAny a b ha hb r hr
  rw [← hr] at hinj
  generalize truthI (atN a) = t at *
  have hneg : IntKind.i64.wrap (0 - t) = -t := by
    rcases hts with h | h <;> subst h <;> decide
  refine FnK.of Tryz.func5 rfl (by kernel_rfl) Tryz.ntmps5 Tryz.results5 rfl fun w0 S0 hK0 => ?_
  refine wk ?_
  refine c1 (ofA a ha) ?_
  refine c1 k1 ?_
  refine wk ?_
  refine c1 (ofA b hb) ?_
  refine c1 k2 ?_
  refine wk ?_
  refine c1 awake9 ?_
  refine wk ?_
  refine c1 (goodY a h1) ?_
  ((try (first | intro K ms hms hK | intro K hK)); (first | apply Chain.go | apply Chain.goD); exact rfl; exact rfl; exact Loc.neB rfl rfl rfl (by kernel_rfl) (rfl))
  refine wk ?_
  refine c1 (goodY b h2) ?_
  ((try (first | intro K ms hms hK | intro K hK)); (first | apply Chain.go | apply Chain.goD); exact rfl; exact rfl; exact Loc.neB rfl rfl rfl (by kernel_rfl) (rfl))
  refine wk ?_
  ((try (first | intro K ms hms hK | intro K hK)); (first | apply Chain.go | apply Chain.goD); exact rfl; exact rfl; exact Loc.eqKey (m := 3) (xs := kvV (-t) false [] [] []) (ys := kvV o2 n2 x2 y2 s2) (r := r) rfl rfl rfl (by omega) (by kernel_rfl) (by kernel_rfl) (by kernel_rfl) v1 v2 hinj.symm)
  refine wk ?_
  refine c1 (ofA a ha) ?_
  refine c1 (toldN a ha) ?_
  refine wk ?_
  refine c1 (ofA b hb) ?_
  refine c1 (toldN b hb) ?_
  refine c1 hsame ?_
  ((try (first | intro K ms hms hK | intro K hK)); (first | apply Chain.go | apply Chain.goD); exact rfl; exact rfl; exact Loc.neB rfl rfl rfl (by kernel_rfl) (bne_self_eq_false r))
  refine wk ?_
  refine c1 (ofA a ha) ?_
  refine c1 (toldN a ha) ?_
  refine c1 htr ?_
  refine wk ?_
  ((try (first | intro K ms hms hK | intro K hK)); (first | apply Chain.go | apply Chain.goD); exact rfl; exact rfl; exact Loc.neg rfl rfl hneg)
  refine wk ?_
  ((try (first | intro K ms hms hK | intro K hK)); (first | apply Chain.go | apply Chain.goD); exact rfl; exact rfl; exact Loc.eqKey (m := 3) (xs := kvV (-t) false [] [] []) (ys := kvV (-t) false [] [] []) (r := true) rfl rfl rfl (by omega) (by kernel_rfl) (by kernel_rfl) (by kernel_rfl) v1 v1 ⟨fun _ => rfl, fun _ => rfl⟩)
  refine wk ?_
  exact ⟨.d rfl (.inl rfl), trivial⟩
set_option maxRecDepth 100000 in
set_option maxHeartbeats 8000000 in
theorem keysOpen (a b : AN) (ha : okEN a.e) (hb : okEN b.e) (h1 : okOp a.op) (h2 : okOp b.op) {v : Int} {c : Rat} (hl : leadQ (atN a).e = some (v, c)) : FnK Tryz.prog 5 Tab [.g (enAN a), .g (enAN b)] [.d (.v (.bool true))] := by
  obtain ⟨k1, v1⟩ := keyGood a ha h1
  obtain ⟨k2, v2⟩ := keyGood b hb h2
  have hks := keyV_same (atN a) (atN b)
  have hinj : kLit (keyV (atN a)) = kLit (keyV (atN b)) ↔ SameP (atN a) (atN b) := by
    rw [← hks]
    exact ⟨fun h => v1.inj v2 h, fun h => by rw [h]⟩
  have hs := atN_sm a ha
  have htr := truthQ (atN a) hs (by omega)
  rw [truth_some hl] at htr
  have hne := (leadQ_ne hl).1
  have hby := byF (atN a) (atN_sm2 a ha) (by omega) hl (absR_ne hne)
  have hbd := Bd.byQ (atN a).op (lead_bd a ha hl) hne
  have hused := canA_used (atN a) hne
  have hcc := canA_c (atN a) c
  have huI : usedI (atN a).e = (varsE [(atN a).e]).filter fun v => !decide (coef (atN a).e.t v = 0) := rfl
  rw [huI] at hused
  have hvr : ∀ u ∈ varsE [(atN a).e], -9223372036854775808 ≤ u ∧ u ≤ 9223372036854775807 := fun u hu => by
    obtain ⟨e, he, t, ht, h3⟩ := ((varsE_spec [(atN a).e]).2.1 u).1 hu
    rw [List.mem_singleton.1 he] at ht
    rw [← h3]
    exact atN_var a ha t ht
  have hvl : (varsE [(atN a).e]).length ≤ 12 := by
    have h3 := (varsE_spec [(atN a).e]).2.2
    have := hs.n
    simp [tot] at h3
    omega
  have hvars := varsQ [(atN a).e] (by simp) (by
    intro x hx
    simp at hx
    subst hx
    have := hs.n
    omega)
  obtain ⟨o2, n2, x2, y2, s2, e2⟩ := keyV_form (atN b)
  have e1 : keyV (atN a) = kvV a.op (decide ((canA (atN a) c).e.c.num < 0)) (byL (canA (atN a) c).e.c.num.natAbs) (byL (canA (atN a) c).e.c.den) (keyT (canA (atN a) c).e.t) := keyV_some hl
  rw [e1] at k1 v1 hinj
  rw [e2] at k2 v2 hinj
  obtain ⟨r, hr⟩ : ∃ r : Bool, r = true ↔ SameP (atN a) (atN b) := by
    classical
    exact ⟨decide (SameP (atN a) (atN b)), by simp⟩
  have hsame := sameAny a b ha hb r hr
  rw [← hr] at hinj
  rw [hused, hcc] at k1 v1 hinj
  have hqc : Bd 4000 (byQ (atN a).op c * (atN a).e.c) := (hbd.mul hs.c).mono (by omega)
  have hmc := qMul hbd hs.c (by omega)
  have hlk := lawKey (byQ (atN a).op c * (atN a).e.c) (Nat.le_trans (bits_len_le hqc.1) (by omega)) (Nat.le_trans (bits_len_le hqc.2) (by omega))
  obtain ⟨lr, hlr⟩ := keyR_some (decide ((byQ (atN a).op c * (atN a).e.c).num < 0)) (tx (byL (byQ (atN a).op c * (atN a).e.c).num.natAbs)) (tx (byL (byQ (atN a).op c * (atN a).e.c).den)) (by rw [tx_size]; have := byL_len hqc.1; unfold maxLen; omega) (by rw [tx_size]; have := byL_len hqc.2; unfold maxLen; omega)
  generalize byQ (atN a).op c * (atN a).e.c = kc at *
  generalize byQ (atN a).op c = p at *
  generalize varsE [(atN a).e] = L at *
  refine FnK.of Tryz.func5 rfl (by kernel_rfl) Tryz.ntmps5 Tryz.results5 rfl fun w0 S0 hK0 => ?_
  refine wk ?_
  refine c1 (ofA a ha) ?_
  refine c1 k1 ?_
  refine wk ?_
  refine c1 (ofA b hb) ?_
  refine c1 k2 ?_
  refine wk ?_
  refine c1 awake9 ?_
  refine wk ?_
  refine c1 (goodY a h1) ?_
  ((try (first | intro K ms hms hK | intro K hK)); (first | apply Chain.go | apply Chain.goD); exact rfl; exact rfl; exact Loc.neB rfl rfl rfl (by kernel_rfl) (rfl))
  refine wk ?_
  refine c1 (goodY b h2) ?_
  ((try (first | intro K ms hms hK | intro K hK)); (first | apply Chain.go | apply Chain.goD); exact rfl; exact rfl; exact Loc.neB rfl rfl rfl (by kernel_rfl) (rfl))
  refine wk ?_
  ((try (first | intro K ms hms hK | intro K hK)); (first | apply Chain.go | apply Chain.goD); exact rfl; exact rfl; exact Loc.eqKey (m := 3) (r := r) rfl rfl rfl (by omega) (by kernel_rfl) (by kernel_rfl) (by kernel_rfl) v1 v2 hinj.symm)
  refine wk ?_
  refine c1 (ofA a ha) ?_
  refine c1 (toldN a ha) ?_
  refine wk ?_
  refine c1 (ofA b hb) ?_
  refine c1 (toldN b hb) ?_
  refine c1 hsame ?_
  ((try (first | intro K ms hms hK | intro K hK)); (first | apply Chain.go | apply Chain.goD); exact rfl; exact rfl; exact Loc.neB rfl rfl rfl (by kernel_rfl) (bne_self_eq_false r))
  refine wk ?_
  refine c1 (ofA a ha) ?_
  refine c1 (toldN a ha) ?_
  refine c1 htr ?_
  refine wk ?_
  refine c1 (expr a.e ha) ?_
  refine wk ?_
  refine c1 (told8 (atN a).e 256 (by omega) hs.c hs.t (by have := hs.n; omega)) ?_
  refine wk ?_
  refine c1 (ofA a ha) ?_
  refine c1 (toldN a ha) ?_
  refine c1 hby ?_
  refine wk ?_
  refine c1 hvars ?_
  refine wk ?_
  generalize hkt : keyT ((L.filter fun v => !decide (coef (atN a).e.t v = 0)).map fun v => (v, p * coef (atN a).e.t v)) = KT at *
  refine AC.loop (X := Nat) (fun i => ⟨[(2, .p 2 0), (5, .p 5 0), (10, .p 10 0), (11, .p 11 0), (12, .d (.v (.string (tx (keyT (((L.take i).filter fun v => !decide (coef (atN a).e.t v = 0)).map fun v => (v, p * coef (atN a).e.t v))))))), (93, .d (enI L)), (94, .d (.v (.int .i64 (L.length : Int)))), (95, .d (.v (.int .i64 (i : Int))))],
    [(2, .box 54 ((enAN a).map .d)), (5, .box 58 (((kvV a.op (decide (kc.num < 0)) (byL kc.num.natAbs) (byL kc.den) KT).map D.v).map .d)), (10, .box 76 ((enEQ (atN a).e).map .d)), (11, .box 74 ((enQ p).map .d))]⟩)
    (fun i => i ≤ L.length ∧ (keyT (((L.take i).filter fun v => !decide (coef (atN a).e.t v = 0)).map fun v => (v, p * coef (atN a).e.t v))).length ≤ i * 1000000) (fun i => L.length - i) 0 ⟨Nat.zero_le _, Nat.zero_le _⟩ ⟨rfl, rfl, rfl, rfl, rfl, rfl, rfl, rfl, trivial⟩ ⟨rfl, rfl, rfl, rfl, trivial⟩ ?_
  intro i ⟨hi, hlen⟩
  refine wk ?_
  refine s1 (fun h5 => ?_) (fun h5 => ?_)
  · have hi' : i < L.length := by omega
    have hget : L[i]? = some L[i] := List.getElem?_eq_getElem hi'
    obtain ⟨u1, u2⟩ := hvr _ (List.getElem_mem hi')
    have htk : L.take (i + 1) = L.take i ++ [L[i]] := List.take_succ_eq_append_getElem hi'
    generalize L[i] = u at hget u1 u2 htk
    have hcu := (atN_sm2 a ha).coefQ u (by omega)
    have hcb := hs.coef u
    refine wk ?_
    refine c1 hcu ?_
    refine wk ?_
    refine c1 (qSign (coef (atN a).e.t u)) ?_
    refine wk ?_
    refine s1 (fun h6 => ?_) (fun h6 => ?_)
    · have hnz : coef (atN a).e.t u ≠ 0 := fun h => h6 (sgnR_zero.2 h)
      have hks : keyT (((L.take (i + 1)).filter fun v => !decide (coef (atN a).e.t v = 0)).map fun v => (v, p * coef (atN a).e.t v)) = keyT (((L.take i).filter fun v => !decide (coef (atN a).e.t v = 0)).map fun v => (v, p * coef (atN a).e.t v)) ++ (Lib.itoa u ++ 58 :: (printL (p * coef (atN a).e.t u) ++ [32])) := by
        rw [htk, List.filter_append, List.filter_cons_of_pos (by simpa using hnz), List.filter_nil, List.map_append, List.map_cons, List.map_nil, keyT_snoc]
      have hpb : Bd 8000 (p * coef (atN a).e.t u) := (hbd.mul hcb).mono (by omega)
      have hmu := qMul hbd hcb (by omega)
      have hpr := printQ _ hpb (by omega)
      have hit := itoaF u u1 u2
      have e5 := Lib.itoa_length_le u u1 u2
      have e6 := printL_len (p * coef (atN a).e.t u)
      have e3 := limbs_len_bd hpb.1
      have e4 := limbs_len_bd hpb.2
      generalize p * coef (atN a).e.t u = pc at hks hmu hpr e6 e3 e4
      generalize Lib.itoa u = I at e5 hit hks
      generalize printL pc = R at e6 hpr hks
      generalize keyT (((L.take i).filter fun v => !decide (coef (atN a).e.t v = 0)).map fun v => (v, p * coef (atN a).e.t v)) = T at hks hlen ⊢
      refine wk ?_
      refine c1 hit ?_
      refine wk ?_
      ((try (first | intro K ms hms hK | intro K hK)); (first | apply Chain.go | apply Chain.goD); exact rfl; exact rfl; exact Loc.strAdd rfl rfl rfl (by show I.length + 1 ≤ _; omega))
      refine wk ?_
      refine c1 hmu ?_
      refine c1 hpr ?_
      rw [show tx I ++ (⟨#[58]⟩ : ByteArray) = tx (I ++ [58]) from tx_app I [58]]
      ((try (first | intro K ms hms hK | intro K hK)); (first | apply Chain.go | apply Chain.goD); exact rfl; exact rfl; exact Loc.strAdd rfl rfl rfl (by rw [tx_size, tx_size, List.length_append]; simp; omega))
      rw [tx_app]
      ((try (first | intro K ms hms hK | intro K hK)); (first | apply Chain.go | apply Chain.goD); exact rfl; exact rfl; exact Loc.strAdd rfl rfl rfl (by rw [tx_size]; show (I ++ [58] ++ R).length + 1 ≤ _; simp; omega))
      rw [show tx (I ++ [58] ++ R) ++ (⟨#[32]⟩ : ByteArray) = tx (I ++ [58] ++ R ++ [32]) from tx_app _ [32]]
      ((try (first | intro K ms hms hK | intro K hK)); (first | apply Chain.go | apply Chain.goD); exact rfl; exact rfl; exact Loc.strAdd rfl rfl rfl (by rw [tx_size, tx_size]; simp; omega))
      rw [tx_app]
      refine wk ?_
      refine ⟨i + 1, ⟨by omega, ?_⟩, by omega, ⟨rfl, rfl, rfl, rfl, ?_, rfl, rfl, rfl, trivial⟩, ⟨rfl, rfl, rfl, rfl, trivial⟩⟩
      · rw [hks]
        simp
        omega
      · rw [hks]
        simp only [List.append_assoc, List.cons_append, List.nil_append]
        rfl
    · have h6 : coef (atN a).e.t u = 0 := sgnR_zero.1 (Classical.byContradiction h6)
      have hks : ((L.take (i + 1)).filter fun v => !decide (coef (atN a).e.t v = 0)) = ((L.take i).filter fun v => !decide (coef (atN a).e.t v = 0)) := by
        rw [htk, List.filter_append, List.filter_cons_of_neg (by simpa using h6), List.filter_nil, List.append_nil]
      refine wk ?_
      have h7 : (keyT (((L.take (i + 1)).filter fun v => !decide (coef (atN a).e.t v = 0)).map fun v => (v, p * coef (atN a).e.t v))).length ≤ i * 1000000 := by simpa only [hks] using hlen
      refine ⟨i + 1, ⟨by omega, Nat.le_trans h7 (by omega)⟩, by omega, ⟨rfl, rfl, rfl, rfl, by rw [hks]; rfl, rfl, rfl, rfl, trivial⟩, ⟨rfl, rfl, rfl, rfl, trivial⟩⟩
  · obtain rfl : i = L.length := by omega
    rw [List.take_length, hkt]
    refine wk ?_
    ((try (first | intro K ms hms hK | intro K hK)); (first | apply Chain.go | apply Chain.goD); exact rfl; exact rfl; exact Loc.strEq (r := true) rfl rfl rfl (by simp))
    refine wk ?_
    refine c1 hmc ?_
    refine c1 hlk ?_
    ((try (first | intro K ms hms hK | intro K hK)); (first | apply Chain.go | apply Chain.goD); exact rfl; exact rfl; exact Loc.eqKey (m := 2) (xs := [.bool (decide (kc.num < 0)), .string (tx (byL kc.num.natAbs)), .string (tx (byL kc.den))]) (ys := [.bool (decide (kc.num < 0)), .string (tx (byL kc.num.natAbs)), .string (tx (byL kc.den))]) (r := true) rfl rfl rfl (by omega) (by kernel_rfl) (by kernel_rfl) (by kernel_rfl) hlr hlr ⟨fun _ => rfl, fun _ => rfl⟩)
    refine wk ?_
    exact ⟨.d rfl (.inl rfl), trivial⟩
theorem keysF (a b : AN) (ha : okEN a.e) (hb : okEN b.e) : FnK Tryz.prog 5 Tab [.g (enAN a), .g (enAN b)] [.d (.v (.bool true))] := by
  by_cases h : okOp a.op ∧ okOp b.op
  · cases hl : leadQ (atN a).e with
    | none => exact keysShut a b ha hb h.1 h.2 hl
    | some x => exact keysOpen a b ha hb h.1 h.2 hl
  · exact keysBad a b ha hb h
end Go.Proofs.YtfijmpmojhlnmaaGreatDoor
namespace Go.Proofs.YtfijmpmojhlnmaaGreatDoor
open Go.RowKit
attribute [local irreducible] AC Do St
/-! ### places -/
/-- A constraint's key, if it is in form. -/
noncomputable def kyO (a : AN) : Option Lit := by
  classical
  exact if okOp a.op then some (kLit (keyV (atN a))) else none
theorem kyO_yes {a : AN} (h : okOp a.op) : kyO a = some (kLit (keyV (atN a))) := by unfold kyO; rw [if_pos h]
theorem kyO_no {a : AN} (h : ¬ okOp a.op) : kyO a = none := by unfold kyO; rw [if_neg h]
/-- Where a key first stands. -/
noncomputable def fst9 (ls : List AN) (k : Lit) : Nat := by
  classical
  exact ls.findIdx fun a => decide (kyO a = some k)
noncomputable def plI (ls : List AN) (a : AN) : Int := match kyO a with
  | none => -1
  | some k => (fst9 ls k : Int)
theorem fst9_at {ls : List AN} {i : Nat} {k : Lit} (h : i < ls.length) (h1 : kyO ls[i] = some k) (h2 : ∀ a ∈ ls.take i, kyO a ≠ some k) : fst9 ls k = i := by
  classical
  unfold fst9
  have e : ls = ls.take i ++ ls[i] :: ls.drop (i + 1) := by rw [← List.drop_eq_getElem_cons h, List.take_append_drop]
  generalize ls[i] = x at h1 e
  have hl : (ls.take i).length = i := by rw [List.length_take]; omega
  rw [e, List.findIdx_append, if_neg, List.findIdx_cons, hl]
  · simp [h1]
  · rw [List.findIdx_lt_length]
    rintro ⟨a, ha, h3⟩
    exact h2 a ha (by simpa using h3)
/-- What the map knows of the constraints so far. -/
structure MP (ls : List AN) (i : Nat) (M : DataW Unit) : Prop where
  isMap : Go.Maps.IsMap M
  hit : ∀ k, WideAt.IsKeyLit k → (∃ a ∈ ls.take i, kyO a = some k) → Go.Maps.has M k = true ∧ ∀ z, M.atKey k z = .lit (.int .i64 (fst9 ls k : Int))
  miss : ∀ k, (∀ a ∈ ls.take i, kyO a ≠ some k) → Go.Maps.has M k = false ∧ ∀ z, M.atKey k z = z
theorem MP.keep {ls : List AN} {i : Nat} {M : DataW Unit} (h : MP ls i M) (hi : i < ls.length) (hk : kyO ls[i] = none ∨ ∃ a ∈ ls.take i, kyO a = kyO ls[i]) : MP ls (i + 1) M := by
  have ht := List.take_succ_eq_append_getElem hi
  refine ⟨h.isMap, fun k h1 ⟨a, h2, h3⟩ => h.hit k h1 ?_, fun k h1 => h.miss k fun a ha => h1 a (by rw [ht]; exact List.mem_append_left _ ha)⟩
  rw [ht] at h2
  rcases List.mem_append.1 h2 with h2 | h2
  · exact ⟨a, h2, h3⟩
  · rw [List.mem_singleton.1 h2] at h3
    rcases hk with hk | ⟨b, hb, hk⟩
    · rw [hk] at h3; cases h3
    · exact ⟨b, hb, hk.trans h3⟩
theorem MP.new {ls : List AN} {i : Nat} {M : DataW Unit} {k : Lit} (h : MP ls i M) (hi : i < ls.length) (hkl : WideAt.IsKeyLit k) (hk : kyO ls[i] = some k) (hm : ∀ a ∈ ls.take i, kyO a ≠ some k) : MP ls (i + 1) (M.put k (.lit (.int .i64 (i : Int)))) := by
  have ht := List.take_succ_eq_append_getElem hi
  refine ⟨h.isMap.put _ _, fun q h1 ⟨a, h2, h3⟩ => ?_, fun q h1 => ?_⟩
  · by_cases e : q = k
    · subst e
      rw [fst9_at hi hk hm]
      exact ⟨Go.Maps.has_put_same h.isMap hkl _, Go.Maps.atKey_put_same h.isMap hkl _⟩
    · rw [ht] at h2
      rcases List.mem_append.1 h2 with h2 | h2
      · obtain ⟨g1, g2⟩ := h.hit q h1 ⟨a, h2, h3⟩
        exact ⟨(Go.Maps.has_put_other e _).trans g1, fun z => (Go.Maps.atKey_put_other e _ _).trans (g2 z)⟩
      · rw [List.mem_singleton.1 h2, hk] at h3
        exact absurd (Option.some.inj h3).symm e
  · have e : q ≠ k := fun e => h1 ls[i] (by rw [ht]; exact List.mem_append_right _ (List.mem_singleton.2 rfl)) (by rw [hk, e])
    obtain ⟨g1, g2⟩ := h.miss q fun a ha => h1 a (by rw [ht]; exact List.mem_append_left _ ha)
    exact ⟨(Go.Maps.has_put_other e _).trans g1, fun z => (Go.Maps.atKey_put_other e _ _).trans (g2 z)⟩
theorem MP.zero (ls : List AN) : MP ls 0 (.map []) := ⟨Go.Maps.isMap_empty, fun _ _ ⟨_, h, _⟩ => by simp at h, fun _ _ => ⟨rfl, fun _ => rfl⟩⟩
theorem enI_snoc (l : List Int) (v : Int) : (l ++ [v]).map (fun v => [D.v (.int .i64 v)]) = l.map (fun v => [D.v (.int .i64 v)]) ++ [[.v (.int .i64 v)]] := by simp
def enAt (a : AN) : List D := enA (atN a)
def iv1 (v : Int) : List D := [.v (.int .i64 v)]
set_option maxRecDepth 100000 in
set_option maxHeartbeats 8000000 in
theorem placesF (ls : List AN) (hls : ∀ a ∈ ls, okEN a.e) (hl : ls.length ≤ 1000) : FnK Tryz.prog 37 Tab [.d (.l (ls.map enAt))] [.d (.l ((ls.map (plI ls)).map iv1))] := by
  have hz : ∀ w, (zeroValue 3).run Tryz.prog w = .ok (.int .i64 0) w := fun w => by kernel_rfl
  have hT : (Tryz.prog).underlying 142 = some (.map 58 3) := by kernel_rfl
  have hE : (Tryz.prog).underlying 3 = some (.int .i64) := by kernel_rfl
  refine FnK.of Tryz.func37 rfl (by kernel_rfl) Tryz.ntmps37 Tryz.results37 rfl fun w0 S0 hK0 => ?_
  refine wk ?_
  (first | intro K ms hms hK | intro K hK)
  refine Chain.mkMap 58 3 rfl rfl rfl rfl fun b => ?_
  refine wk ?_
  ((try (first | intro K ms hms hK | intro K hK)); (first | apply Chain.ef | apply Chain.efD); exact rfl; exact rfl; exact Do.makeM (f := iv1) (0 : Int) 0 ls.length rfl rfl rfl rfl rfl rfl (Nat.zero_le _) (by omega); exact rfl; exact rfl)
  refine wk ?_
  refine AC.loop (X := Nat × Nat × DataW Unit) (fun x => ⟨[(3, .d (.v (.map (some b)))), (4, .r 14 x.1), (15, .d (.l (ls.map enAt))), (16, .d (.v (.int .i64 (ls.length : Int)))), (17, .d (.v (.int .i64 (x.1 : Int))))],
    [(14, .row x.1 3 1 (((ls.take x.1).map (plI ls)).map iv1)), (11, mapO Tryz.prog 58 3 b x.2.1 x.2.2)]⟩)
    (fun x => x.1 ≤ ls.length ∧ x.2.1 ≤ x.1 ∧ MP ls x.1 x.2.2) (fun x => ls.length - x.1) (0, 0, .map []) ⟨Nat.zero_le _, Nat.zero_le _, MP.zero ls⟩ ⟨rfl, rfl, rfl, rfl, rfl, trivial⟩ ⟨rfl, rfl, trivial⟩ ?_
  intro ⟨i, n, M⟩ ⟨hi, hn, hM⟩
  dsimp only at hi hn hM ⊢
  refine wk ?_
  refine s1 (fun h1 => ?_) (fun h1 => ?_)
  · have hi' : i < ls.length := by omega
    have hget : ls[i]? = some ls[i] := List.getElem?_eq_getElem hi'
    have hok := hls _ (List.getElem_mem hi')
    have hs : ((ls.take (i + 1)).map (plI ls)).map iv1 = ((ls.take i).map (plI ls)).map iv1 ++ [iv1 (plI ls ls[i])] := by
      rw [List.take_succ_eq_append_getElem hi', List.map_append, List.map_append]
      rfl
    have hkeep := hM.keep hi'
    have hnew := fun k => hM.new (k := k) hi'
    have hfst := fun k => fst9_at (k := k) hi'
    have hrl : (((ls.take i).map (plI ls)).map iv1).length = i := by simp; omega
    generalize hQ : ((ls.take i).map (plI ls)).map iv1 = Q at hs hrl ⊢
    generalize ls[i] = a at hget hok hs hkeep hnew hfst
    by_cases ho : okOp a.op
    · obtain ⟨k1, v1⟩ := keyGood a hok ho
      have hky := kyO_yes ho
      have hpl : plI ls a = (fst9 ls (kLit (keyV (atN a))) : Int) := by unfold plI; rw [hky]
      obtain ⟨o1, n1, x1, y1, s1, e1⟩ := keyV_form (atN a)
      rw [e1] at k1 v1 hky hpl
      have hkl : WideAt.IsKeyLit (kLit (kvV o1 n1 x1 y1 s1)) := keyd9.key v1
      have v2 : keyOf Tryz.prog 58 (.agg (kvV o1 n1 x1 y1 s1).toArray) = some (kLit (kvV o1 n1 x1 y1 s1)) := v1
      generalize kLit (kvV o1 n1 x1 y1 s1) = kl at *
      refine wk ?_
      refine c1 k1 ?_
      refine wk ?_
      by_cases hex : ∃ c ∈ ls.take i, kyO c = some kl
      · obtain ⟨m1, m2⟩ := hM.hit kl hkl hex
        ((try (first | intro K ms hms hK | intro K hK)); (first | apply Chain.go | apply Chain.goD); exact rfl; exact rfl; exact Loc.lookM (id := 11) (xs := kvV o1 n1 x1 y1 s1) rfl rfl rfl rfl hT hE hz keyd9 v2 (m2 _) m1)
        refine wk ?_
        ((try (first | intro K ms hms hK | intro K hK)); (first | apply Chain.go | apply Chain.goD); exact rfl; exact rfl; exact Loc.lookV (id := 11) (xs := kvV o1 n1 x1 y1 s1) rfl rfl rfl rfl hT hE hz keyd9 v2 (m2 _))
        refine wk ?_
        obtain ⟨c, hc1, hc2⟩ := hex
        refine ⟨(i + 1, n, M), ⟨by dsimp only; omega, by dsimp only; omega, hkeep (.inr ⟨c, hc1, by rw [hc2, hky]⟩)⟩, by dsimp only; omega, ⟨rfl, rfl, rfl, rfl, rfl, trivial⟩, ⟨?_, rfl, trivial⟩⟩
        dsimp only
        rw [hs, hpl]
        rfl
      · have hno : ∀ c ∈ ls.take i, kyO c ≠ some kl := fun c hc e => hex ⟨c, hc, e⟩
        obtain ⟨m1, m2⟩ := hM.miss kl hno
        have hnew := hnew kl hkl hky hno
        have hfst := hfst kl hky hno
        have hin : ∃ c ∈ ls.take (i + 1), kyO c = some kl := ⟨a, List.mem_iff_getElem?.2 ⟨i, by rw [List.getElem?_take_of_lt (by omega), hget]⟩, hky⟩
        obtain ⟨p1, p2⟩ := hnew.hit kl hkl hin
        rw [hfst] at p2 hpl
        ((try (first | intro K ms hms hK | intro K hK)); (first | apply Chain.go | apply Chain.goD); exact rfl; exact rfl; exact Loc.lookM (id := 11) (xs := kvV o1 n1 x1 y1 s1) rfl rfl rfl rfl hT hE hz keyd9 v2 (m2 _) m1)
        refine wk ?_
        ((try (first | intro K ms hms hK | intro K hK)); (first | apply Chain.st | apply Chain.stD); exact rfl; exact rfl; exact Do.putM (id := 11) (xs := kvV o1 n1 x1 y1 s1) rfl rfl rfl rfl rfl hT hE keyd9 v2 (by omega) (WalkArith.wf_i64 (by omega)) rfl; exact rfl; exact rfl)
        refine wk ?_
        ((try (first | intro K ms hms hK | intro K hK)); (first | apply Chain.go | apply Chain.goD); exact rfl; exact rfl; exact Loc.lookV (id := 11) (xs := kvV o1 n1 x1 y1 s1) rfl rfl rfl rfl hT hE hz keyd9 v2 (p2 _))
        refine wk ?_
        refine ⟨(i + 1, n + 1, M.put kl (.lit (.int .i64 (i : Int)))), ⟨by dsimp only; omega, by dsimp only; omega, hnew⟩, by dsimp only; omega, ⟨rfl, rfl, rfl, rfl, rfl, trivial⟩, ⟨?_, rfl, trivial⟩⟩
        dsimp only
        rw [hs, hpl]
        rfl
    · have k1 := keyBad a ho
      have hky := kyO_no ho
      have hpl : plI ls a = -1 := by unfold plI; rw [hky]
      refine wk ?_
      refine c1 k1 ?_
      refine wk ?_
      refine ⟨(i + 1, n, M), ⟨by dsimp only; omega, by dsimp only; omega, hkeep (.inl hky)⟩, by dsimp only; omega, ⟨rfl, rfl, rfl, rfl, rfl, trivial⟩, ⟨?_, rfl, trivial⟩⟩
      dsimp only
      rw [hs, hpl]
      rfl
  · obtain rfl : i = ls.length := by omega
    rw [List.take_length]
    refine wk ?_
    exact ⟨.d rfl ⟨_, _, rfl⟩, trivial⟩
theorem same_ky {a b : AN} (ha : okEN a.e) (hb : okEN b.e) (h1 : okOp a.op) (h2 : okOp b.op) : SameP (atN a) (atN b) ↔ kyO a = kyO b := by
  rw [kyO_yes h1, kyO_yes h2, ← keyV_same]
  exact ⟨fun h => by rw [h], fun h => (keyGood a ha h1).2.inj (keyGood b hb h2).2 (Option.some.inj h)⟩
/-- What the law has found from place m on. -/
def Want (L : List AN) (i : Nat) (k : Option Lit) (m : Nat) (w : Int) : Prop :=
  (w = -1 ∧ ∀ j (h : j < L.length), m ≤ j → j ≤ i → kyO L[j] ≠ k) ∨ ∃ j0 : Nat, ∃ h0 : j0 < L.length, w = (j0 : Int) ∧ kyO L[j0] = k ∧ ∀ j (h : j < L.length), m ≤ j → j < j0 → kyO L[j] ≠ k
theorem Want.done {L : List AN} {i : Nat} {kl : Lit} {w : Int} (h : Want L i (some kl) 0 w) (hi : i < L.length) (hk : kyO L[i] = some kl) : w = (fst9 L kl : Int) := by
  rcases h with ⟨_, h⟩ | ⟨j0, h0, h1, h2, h3⟩
  · exact absurd hk (h i hi (Nat.zero_le _) (Nat.le_refl _))
  · rw [h1, fst9_at h0 h2 fun a ha => ?_]
    obtain ⟨j, hj, rfl⟩ := List.getElem_of_mem ha
    rw [List.getElem_take]
    rw [List.length_take] at hj
    exact h3 j (by omega) (Nat.zero_le _) (by omega)
theorem Want.yes {L : List AN} {i k : Nat} {kk : Option Lit} (hk : k < L.length) (h1 : kyO L[k] = kk) : Want L i kk k (k : Int) :=
  .inr ⟨k, hk, rfl, h1, fun j _ h2 h3 => by omega⟩
theorem Want.no {L : List AN} {i k : Nat} {kk : Option Lit} {w : Int} (h : Want L i kk (k + 1) w) (hk : k < L.length) (h1 : kyO L[k] ≠ kk) : Want L i kk k w := by
  have key : ∀ j (h : j < L.length), k ≤ j → (k + 1 ≤ j → kyO L[j] ≠ kk) → kyO L[j] ≠ kk := fun j h hj hh => by
    rcases Nat.eq_or_lt_of_le hj with e | e
    · subst e; exact h1
    · exact hh e
  rcases h with ⟨e, h⟩ | ⟨j0, h0, e, h2, h3⟩
  · exact .inl ⟨e, fun j hl hj hji => key j hl hj fun h4 => h j hl h4 hji⟩
  · exact .inr ⟨j0, h0, e, h2, fun j hl hj hji => key j hl hj fun h4 => h3 j hl h4 hji⟩
set_option maxRecDepth 100000 in
set_option maxHeartbeats 8000000 in
theorem lawPlaces (ls : List AN) (hls : ∀ a ∈ ls, okEN a.e) (hl : ls.length ≤ 9223372036854775807) : FnK Tryz.prog 6 Tab [.d (.l (ls.map enAN))] [.d (.v (.bool true))] := by
  refine FnK.of Tryz.func6 rfl (by kernel_rfl) Tryz.ntmps6 Tryz.results6 rfl fun w0 S0 hK0 => ?_
  refine wk ?_
  refine AC.mono (Q' := fun e σ' => e = .exit 0 ∧ ∃ g, subEnv σ'.env [(0, .d (.l (ls.map enAN))), (3, .r 9 g)] ∧ subObj σ'.objs [(9, .row g 67 5 ((ls.take 12).map enAt))]) ?_ ?_
  refine AC.loop (X := Nat) (fun i => ⟨[(0, .d (.l (ls.map enAN))), (3, .r 9 i), (4, .d (.v (.int .i64 (i : Int))))], [(9, .row i 67 5 ((ls.take i).map enAt))]⟩) (fun i => i ≤ ls.length ∧ i ≤ 12) (fun i => 12 - i) 0 ⟨Nat.zero_le _, by omega⟩ ⟨rfl, rfl, rfl, trivial⟩ ⟨rfl, trivial⟩ ?_
  intro i ⟨hi, hi2⟩
  refine wk ?_
  refine s1 (fun h1 => ?_) (fun h1 => ?_)
  · refine wk ?_
    refine s1 (fun h2 => ?_) (fun h2 => ?_)
    · have hi' : i < ls.length := by omega
      have hget : ls[i]? = some ls[i] := List.getElem?_eq_getElem hi'
      have hok := hls _ (List.getElem_mem hi')
      have hs : (ls.take (i + 1)).map enAt = (ls.take i).map enAt ++ [enAt ls[i]] := by
        rw [List.take_succ_eq_append_getElem hi', List.map_append]
        rfl
      have hrl : ((ls.take i).map enAt).length = i := by simp; omega
      generalize hQ : (ls.take i).map enAt = Q at hs hrl ⊢
      generalize ls[i] = a at hget hok hs
      refine wk ?_
      refine c1 (ofA a hok) ?_
      refine wk ?_
      refine ⟨i + 1, ⟨by omega, by omega⟩, by omega, ⟨rfl, rfl, rfl, trivial⟩, ⟨?_, trivial⟩⟩
      rw [hs]
      rfl
    · have hL : ls.take i = ls.take 12 := by rw [show i = 12 by omega]
      rw [hL]
      refine wk ?_
      exact ⟨rfl, i, ⟨rfl, rfl, trivial⟩, ⟨rfl, trivial⟩⟩
  · have hL : ls.take i = ls.take 12 := by
      rw [List.take_of_length_le (by omega), List.take_of_length_le (by omega)]
    rw [hL]
    refine wk ?_
    exact ⟨rfl, i, ⟨rfl, rfl, trivial⟩, ⟨rfl, trivial⟩⟩
  rintro e σ' ⟨rfl, g, q1, q2⟩
  refine AC.sub ⟨[(0, .d (.l (ls.map enAN))), (3, .r 9 g)], [(9, .row g 67 5 ((ls.take 12).map enAt))]⟩ q1 q2 ?_
  clear q1 q2
  have hLs : ∀ a ∈ ls.take 12, okEN a.e := fun a ha => hls a (List.mem_of_mem_take ha)
  have hLl : (ls.take 12).length ≤ 12 := by simp; omega
  have hLg : ∀ j (h : j < (ls.take 12).length), ls[j]? = some (ls.take 12)[j] := fun j h => by
    rw [List.getElem_take, List.getElem?_eq_getElem]
  have hpl := placesF (ls.take 12) hLs (by omega)
  refine AC.frzVar 3 rfl rfl ?_
  generalize ls.take 12 = L at hLs hLl hLg hpl ⊢
  refine wk ?_
  ((try (first | intro K ms hms hK | intro K hK)); (first | apply Chain.ef | apply Chain.efD); exact rfl; exact rfl; exact Do.append rfl rfl rfl rfl rfl (by intro y hy; obtain ⟨a, _, rfl⟩ := List.mem_map.1 hy; rfl) (by simp; omega); exact rfl; exact rfl)
  refine Chain.frzVar 30 rfl rfl ?_
  refine c1 hpl ?_
  refine wk ?_
  refine c1 awake9 ?_
  obtain ⟨P, hP⟩ : ∃ P, P = L.map (plI L) := ⟨_, rfl⟩
  have hPl : P.length = L.length := by rw [hP, List.length_map]
  rw [← hP]
  refine wk ?_
  refine AC.loop (X := Nat) (fun i => ⟨[(0, .d (.l (ls.map enAN))), (3, .d (.l (L.map enAt))), (5, .d (.l (P.map iv1))), (42, .d (.v (.int .i64 (L.length : Int)))), (43, .d (.v (.int .i64 (i : Int))))], []⟩) (fun i => i ≤ L.length) (fun i => L.length - i) 0 (Nat.zero_le _) ⟨rfl, rfl, rfl, rfl, rfl, trivial⟩ trivial ?_
  intro i hi
  refine wk ?_
  refine s1 (fun h1 => ?_) (fun h1 => ?_)
  · have hi' : i < L.length := by omega
    have hgL : L[i]? = some L[i] := List.getElem?_eq_getElem hi'
    have hgl : ls[i]? = some L[i] := hLg i hi'
    have hgP : P[i]? = some (plI L L[i]) := by rw [hP, List.getElem?_map, hgL]; rfl
    have hoi := hLs _ (List.getElem_mem hi')
    have hdone := fun kl w h hk => Want.done (L := L) (i := i) (kl := kl) (w := w) h hi' hk
    generalize L[i] = a at hgL hgl hgP hoi hdone
    by_cases ho : okOp a.op
    · have hka := kyO_yes ho
      have hpa : plI L a = (fst9 L (kLit (keyV (atN a))) : Int) := by unfold plI; rw [hka]
      generalize plI L a = pv at hgP hpa
      refine wk ?_
      refine AC.loop (X := Nat × Int) (fun x => ⟨[(0, .d (.l (ls.map enAN))), (3, .d (.l (L.map enAt))), (5, .d (.l (P.map iv1))), (6, .d (.v (.int .i64 (i : Int)))), (7, .d (.v (.int .i64 x.2))), (8, .d (.v (.int .i64 ((x.1 : Int) - 1)))), (42, .d (.v (.int .i64 (L.length : Int)))), (43, .d (.v (.int .i64 (i : Int))))], []⟩)
        (fun x => x.1 ≤ i + 1 ∧ Want L i (kyO a) x.1 x.2) (fun x => x.1) (i + 1, -1) ⟨Nat.le_refl _, .inl ⟨rfl, fun j _ h2 h3 => by dsimp only at h2; omega⟩⟩ ⟨rfl, rfl, rfl, rfl, rfl, num_eq (by dsimp only; omega), rfl, rfl, trivial⟩ trivial ?_
      intro ⟨m, wv⟩ ⟨hm, hw⟩
      dsimp only at hm hw ⊢
      refine wk ?_
      refine s1 (fun h2 => ?_) (fun h2 => ?_)
      · obtain ⟨k, rfl⟩ : ∃ k, m = k + 1 := ⟨m - 1, by omega⟩
        have hk' : k < L.length := by omega
        have hkL : L[k]? = some L[k] := List.getElem?_eq_getElem hk'
        have hkl : ls[k]? = some L[k] := hLg k hk'
        have hok := hLs _ (List.getElem_mem hk')
        have hno := fun h => hw.no hk' h
        have hyes := fun h => Want.yes (i := i) (kk := kyO a) hk' h
        generalize L[k] = c at hkL hkl hok hno hyes
        refine wk ?_
        refine c1 (goodY a ho) ?_
        refine wk ?_
        ((try (first | intro K ms hms hK | intro K hK)); (first | apply Chain.go | apply Chain.goD); exact rfl; exact rfl; exact Loc.idxM (i := k) rfl rfl rfl (by omega) hkl rfl)
        refine wk ?_
        by_cases hoc : okOp c.op
        · obtain ⟨r, hr⟩ : ∃ r : Bool, r = true ↔ SameP (atN c) (atN a) := by
            classical
            exact ⟨decide (SameP (atN c) (atN a)), by simp⟩
          have hsame := sameAny c a hok hoi r hr
          rw [same_ky hok hoi hoc ho] at hr
          refine c1 (goodY c hoc) ?_
          refine wk ?_
          ((try (first | intro K ms hms hK | intro K hK)); (first | apply Chain.go | apply Chain.goD); exact rfl; exact rfl; exact Loc.idxM (i := k) rfl rfl rfl (by omega) hkL rfl)
          refine wk ?_
          refine c1 (toldN c hok) ?_
          refine wk ?_
          refine c1 (toldN a hoi) ?_
          refine c1 hsame ?_
          cases r with
          | true =>
            refine wk ?_
            exact ⟨(k, (k : Int)), ⟨by dsimp only; omega, hyes (hr.1 rfl)⟩, by dsimp only; omega, ⟨rfl, rfl, rfl, rfl, num_eq (by dsimp only; omega), num_eq (by dsimp only; omega), rfl, rfl, trivial⟩, trivial⟩
          | false =>
            refine wk ?_
            exact ⟨(k, wv), ⟨by dsimp only; omega, hno fun h => by have := hr.2 h; cases this⟩, by dsimp only; omega, ⟨rfl, rfl, rfl, rfl, rfl, num_eq (by dsimp only; omega), rfl, rfl, trivial⟩, trivial⟩
        · have hkc := kyO_no hoc
          refine c1 (goodN c hoc) ?_
          refine wk ?_
          exact ⟨(k, wv), ⟨by dsimp only; omega, hno fun h => by rw [hkc, hka] at h; cases h⟩, by dsimp only; omega, ⟨rfl, rfl, rfl, rfl, rfl, num_eq (by dsimp only; omega), rfl, rfl, trivial⟩, trivial⟩
      · obtain rfl : m = 0 := by omega
        rw [hka] at hw
        have hwv : wv = pv := by rw [hpa]; exact hdone _ _ hw hka
        subst hwv
        refine wk ?_
        exact ⟨i + 1, by omega, by omega, ⟨rfl, rfl, rfl, rfl, rfl, trivial⟩, trivial⟩
    · have hka := kyO_no ho
      have hpa : plI L a = -1 := by unfold plI; rw [hka]
      rw [hpa] at hgP
      refine wk ?_
      refine AC.loop (X := Unit) (fun _ => ⟨[(0, .d (.l (ls.map enAN))), (3, .d (.l (L.map enAt))), (5, .d (.l (P.map iv1))), (6, .d (.v (.int .i64 (i : Int)))), (7, .d (.v (.int .i64 (-1)))), (8, .d (.v (.int .i64 (i : Int)))), (42, .d (.v (.int .i64 (L.length : Int)))), (43, .d (.v (.int .i64 (i : Int))))], []⟩)
        (fun _ => True) (fun _ => 0) () trivial ⟨rfl, rfl, rfl, rfl, rfl, rfl, rfl, rfl, trivial⟩ trivial ?_
      intro _ _
      refine wk ?_
      refine c1 (goodN a ho) ?_
      refine wk ?_
      exact ⟨i + 1, by omega, by omega, ⟨rfl, rfl, rfl, rfl, rfl, trivial⟩, trivial⟩
  · refine wk ?_
    exact ⟨.d rfl (.inl rfl), trivial⟩
/-- A constraint as it is handed in. -/
def OKA (a : AN) : Prop := okEN a.e ∧ -9223372036854775808 ≤ a.op ∧ a.op ≤ 9223372036854775807
end Go.Proofs.YtfijmpmojhlnmaaGreatDoor
