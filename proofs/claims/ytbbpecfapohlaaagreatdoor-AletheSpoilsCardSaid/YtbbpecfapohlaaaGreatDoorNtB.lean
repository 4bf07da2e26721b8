import Derived.Test.YtbbpecfapohlaaaGreatDoorNtA
import Derived.Test.YtbbpecfapohlaaaGreatDoorLayStr
namespace Go.Proofs.YtbbpecfapohlaaaGreatDoor
open Go.RowKit
attribute [local irreducible] AC Do St
/-- The world's condition K gives T. -/
class KHas (K T : World → Prop) : Prop where
  has : ∀ w, K w → T w
/-- The library's bytealg.MaxLen holds a number. -/
def MaxL (w : World) : Prop := ∃ m, w.cell? ⟨1, 0, none⟩ = some (.int .i64 m)
theorem cell_keep {w w' : World} {b : Nat} {v : Value} (h : w.cell? ⟨b, 0, none⟩ = some v) (hx : Ext w w') : w'.cell? ⟨b, 0, none⟩ = some v := by
  unfold World.cell? at h ⊢
  have hb : w.heap[b]? ≠ none := fun e => by
    simp only [e] at h
    cases h
  have hlt : b < w.heap.size := by
    rcases Nat.lt_or_ge b w.heap.size with h | h
    · exact h
    · exact absurd (Array.getElem?_eq_none h) hb
  simp only [hx.block b hlt]
  exact h
instance : KSt MaxL := ⟨fun _ _ ⟨m, h⟩ hx => ⟨m, cell_keep h hx⟩⟩
theorem trimPF (l p : List UInt8) : Fn Tryz.prog 178 [.d (.v (.string (tx l))), .d (.v (.string (tx p)))] [.d (.v (.string (tx (Lib.trimPrefix l p))))] :=
  ⟨⟨_, Tryz.func178, by kernel_rfl, by kernel_rfl⟩, fun S w vs hS hv => by
    obtain ⟨u, v, rfl, ha, hb⟩ := hv.two
    have ha : RD S w u (.v (.string (tx l))) := ha
    have hb : RD S w v (.v (.string (tx p))) := hb
    cases ha
    cases hb
    refine (Tryz.strings_TrimPrefix (tx l) (tx p) w).mono ?_
    rintro e w' ⟨rfl, rfl⟩
    exact ⟨_, rfl, Below.refl _ _, (RD.v rfl : RD _ _ _ _)⟩⟩
theorem cutF {Kw : World → Prop} [h : KHas Kw MaxL] (l s : List UInt8) (hl : l.length ≤ 4000000000) : FnK Tryz.prog 177 Kw [.d (.v (.string (tx l))), .d (.v (.string (tx s)))] [.d (.v (.string (tx (Lib.cut l s).1))), .d (.v (.string (tx (Lib.cut l s).2.1))), .d (.v (.bool (Lib.cut l s).2.2))] :=
  ⟨⟨_, Tryz.func177, by kernel_rfl, by kernel_rfl⟩, fun S w vs hK hS hv => by
    obtain ⟨u, v, rfl, ha, hb⟩ := hv.two
    have ha : RD S w u (.v (.string (tx l))) := ha
    have hb : RD S w v (.v (.string (tx s))) := hb
    cases ha
    cases hb
    obtain ⟨m, hm⟩ := h.has w hK
    refine (Tryz.strings_Cut (tx l) (tx s) m w (by rw [tx_size]; omega) hm).mono ?_
    rintro e w' ⟨rfl, k, rfl⟩
    refine ⟨_, rfl, Below.drN (Below.refl _ _) k, ⟨_, rfl, rfl, fun i h h' => ?_⟩⟩
    match i, h with
    | 0, _ => exact .v rfl
    | 1, _ => exact .v rfl
    | 2, _ => exact .v rfl⟩
theorem cut_len (l s : List UInt8) : (Lib.cut l s).1.length + (Lib.cut l s).2.1.length ≤ l.length := by
  unfold Lib.cut
  split <;> simp
  omega
theorem trimP_len (l s : List UInt8) : (Lib.trimPrefix l s).length ≤ l.length := by
  unfold Lib.trimPrefix
  split <;> simp
section
variable {P : Program} {C : Cx} {o : Oper} {σ : AS}
end
set_option maxRecDepth 100000 in
set_option maxHeartbeats 2000000 in
theorem bitsN0 : Fn Tryz.prog 241 [.d (enL (limbs 0))] [.d (.v (.int .i64 0))] := by
  refine Fn.of Tryz.func241 rfl (by kernel_rfl) Tryz.ntmps241 Tryz.results241 rfl fun w0 S0 => ?_
  refine wk ?_
  refine c1 (cutX 0 (by rw [limbs_zero]; decide)) ?_
  rw [limbs_zero, show enL [] = .l [] from rfl]
  have h0 : ([] : List (List D)).length = 0 := rfl
  refine wk ?_
  exact ⟨.d rfl (.inl rfl), trivial⟩
set_option maxRecDepth 100000 in
set_option maxHeartbeats 2000000 in
theorem make0 (neg : Bool) (n : Nat) : Fn Tryz.prog 201 [.d (.v (.bool neg)), .d (enL (limbs n)), .d (enL (limbs 0))] [.g (enR 0), .d (.v (.bool false))] := by
  refine Fn.of Tryz.func201 rfl (by kernel_rfl) Tryz.ntmps201 Tryz.results201 rfl fun w0 S0 => ?_
  refine wk ?_
  refine c1 bitsN0 ?_
  refine wk ?_
  exact ⟨.cn rfl rfl inferInstance rfl ⟨.inl rfl, .inr (by rw [show (0 : Rat).num.natAbs = 0 from rfl, limbs_zero]; rfl), .inr rfl, trivial⟩, .d rfl (.inl rfl), trivial⟩
def resR : Option Rat → List DV
  | some q => [.g (enR q), .d (.v (.int .i64 0))]
  | none => [.g (enR 0), .d (.v (.int .i64 3))]
/-- A sign, digits and a divisor: the number, where there is one. -/
def ratN (neg : Bool) (m : List UInt8) (d : Nat) : Option Rat := match readN m with
  | none => none
  | some n => if d = 0 then none else some (mkRat (sgn neg n) d)
/-- .. behind the sign. -/
def parseM (neg : Bool) (m : List UInt8) : Option Rat :=
  if (Lib.cut m [47]).2.2 = true then
    match readN (Lib.cut m [47]).2.1 with
    | none => none
    | some d => ratN neg (Lib.cut m [47]).1 d
  else if (Lib.cut m [46]).2.2 = true then
    if (Lib.cut m [46]).1 = [] ∨ (Lib.cut m [46]).2.1 = [] then none
    else ratN neg ((Lib.cut m [46]).1 ++ (Lib.cut m [46]).2.1) (10 ^ (Lib.cut m [46]).2.1.length)
  else ratN neg m 1
/-- The number that a text tells. -/
def parseR (l : List UInt8) : Option Rat := parseM (decide ((Lib.trimPrefix l [45]).length < l.length)) (Lib.trimPrefix l [45])
set_option maxRecDepth 100000 in
set_option maxHeartbeats 4000000 in
theorem parseRF {Kw : World → Prop} [KSt Kw] [KHas Kw MaxL] (l : List UInt8) (hl : l.length ≤ 20000) : FnK Tryz.prog 220 Kw [.d (.v (.string (tx l)))] (resR (parseR l)) := by
  have h1 := trimP_len l [45]
  have h2 := cut_len (Lib.trimPrefix l [45]) [47]
  have h3 := cut_len (Lib.trimPrefix l [45]) [46]
  have ht := trimPF l [45]
  unfold parseR
  generalize Lib.trimPrefix l [45] = m at *
  obtain ⟨neg, hneg⟩ : ∃ neg, decide (m.length < l.length) = neg := ⟨_, rfl⟩
  rw [hneg]
  refine FnK.of Tryz.func220 rfl (by kernel_rfl) Tryz.ntmps220 Tryz.results220 rfl fun w0 S0 hK0 => ?_
  refine wk ?_
  ((try (first | intro K ms hms hK | intro K hK)); (first | apply Chain.go | apply Chain.goD); exact rfl; exact rfl; exact Loc.strLen rfl rfl (by kernel_rfl))
  rw [tx_size]
  refine wk ?_
  refine c1 ht ?_
  refine wk ?_
  ((try (first | intro K ms hms hK | intro K hK)); (first | apply Chain.go | apply Chain.goD); exact rfl; exact rfl; exact Loc.strLen rfl rfl (by kernel_rfl))
  rw [tx_size]
  refine wk ?_
  ((try (first | intro K ms hms hK | intro K hK)); (first | apply Chain.go | apply Chain.goD); exact rfl; exact rfl; exact Loc.strLen rfl rfl (by kernel_rfl))
  rw [tx_size]
  refine wk ?_
  ((try (first | intro K ms hms hK | intro K hK)); (first | apply Chain.go | apply Chain.goD); exact rfl; exact rfl; exact Loc.lssB neg rfl rfl rfl (by rw [← hneg]; simp))
  refine wk ?_
  refine c1 (cutF m [47] (by omega)) ?_
  refine wk ?_
  refine AC.join (X := List UInt8 × Nat) (fun x => ⟨[(2, .p 2 0), (3, .d (.v (.int .i64 0))), (4, .d (.v (.string (tx x.1)))), (5, .d (.v (.bool neg))), (6, .d (enL (limbs x.2)))], [(2, AO.box 104 (constAVs [.bool false, .slice none 0 0, .slice none 0 0]))]⟩)
    (fun x => x.1.length ≤ 20000 ∧ (limbs x.2).length ≤ 3000 ∧ parseM neg m = ratN neg x.1 x.2) ?_ fun ⟨q, d⟩ ⟨hq, hd, hr⟩ => ?_
  · unfold parseM
    cases hc : (Lib.cut m [47]).2.2 with
    | true =>
      rw [if_pos rfl]
      generalize (Lib.cut m [47]).1 = a at *
      generalize (Lib.cut m [47]).2.1 = b at *
      have hp := parseN b (by omega)
      have hv := fun h => valF_len b h (by omega)
      refine wk ?_
      cases hb : readN b with
      | none =>
        rw [hb] at hp
        refine c1 hp ?_
        refine wk ?_
        exact ⟨.cn rfl rfl inferInstance rfl ⟨.inl rfl, .inr (by rw [show (0 : Rat).num.natAbs = 0 from rfl, limbs_zero]; rfl), .inr rfl, trivial⟩, .d rfl (.inl rfl), trivial⟩
      | some d =>
        rw [hb] at hp
        have hd : (limbs d).length ≤ 3000 := by
          unfold readN at hb
          split at hb
          · rename_i h
            cases hb
            exact hv h.2
          · cases hb
        refine c1 hp ?_
        refine wk ?_
        exact ⟨(a, d), ⟨by dsimp only; omega, hd, rfl⟩, ⟨rfl, rfl, rfl, rfl, rfl, trivial⟩, ⟨rfl, trivial⟩⟩
    | false =>
      rw [if_neg (by decide)]
      refine wk ?_
      refine c1 (cutF m [46] (by omega)) ?_
      refine wk ?_
      cases he : (Lib.cut m [46]).2.2 with
      | true =>
        rw [if_pos rfl]
        generalize (Lib.cut m [46]).1 = a at *
        generalize (Lib.cut m [46]).2.1 = b at *
        refine wk ?_
        by_cases ha : a = []
        · subst ha
          ((try (first | intro K ms hms hK | intro K hK)); (first | apply Chain.go | apply Chain.goD); exact rfl; exact rfl; exact Loc.strEq (r := true) rfl rfl rfl txE)
          refine wk ?_
          rw [if_pos (.inl rfl)]
          exact ⟨.cn rfl rfl inferInstance rfl ⟨.inl rfl, .inr (by rw [show (0 : Rat).num.natAbs = 0 from rfl, limbs_zero]; rfl), .inr rfl, trivial⟩, .d rfl (.inl rfl), trivial⟩
        ((try (first | intro K ms hms hK | intro K hK)); (first | apply Chain.go | apply Chain.goD); exact rfl; exact rfl; exact Loc.strEq (r := false) rfl rfl rfl (txN ha))
        refine wk ?_
        by_cases hb : b = []
        · subst hb
          ((try (first | intro K ms hms hK | intro K hK)); (first | apply Chain.go | apply Chain.goD); exact rfl; exact rfl; exact Loc.strEq (r := true) rfl rfl rfl txE)
          refine wk ?_
          rw [if_pos (.inr rfl)]
          exact ⟨.cn rfl rfl inferInstance rfl ⟨.inl rfl, .inr (by rw [show (0 : Rat).num.natAbs = 0 from rfl, limbs_zero]; rfl), .inr rfl, trivial⟩, .d rfl (.inl rfl), trivial⟩
        ((try (first | intro K ms hms hK | intro K hK)); (first | apply Chain.go | apply Chain.goD); exact rfl; exact rfl; exact Loc.strEq (r := false) rfl rfl rfl (txN hb))
        refine wk ?_
        ((try (first | intro K ms hms hK | intro K hK)); (first | apply Chain.go | apply Chain.goD); exact rfl; exact rfl; exact Loc.strAdd rfl rfl rfl (by rw [tx_size, tx_size]; omega))
        rw [tx_app]
        refine wk ?_
        ((try (first | intro K ms hms hK | intro K hK)); (first | apply Chain.go | apply Chain.goD); exact rfl; exact rfl; exact Loc.strLen rfl rfl (by kernel_rfl))
        rw [tx_size]
        refine c1 (tensF b.length (by omega)) ?_
        refine wk ?_
        have hl3 : (limbs (10 ^ b.length)).length ≤ 3000 := by
          have h2 : 10 ^ b.length ≤ 2 ^ (4 * b.length) := by
            rw [Nat.pow_mul]
            exact Nat.pow_le_pow_left (by decide) _
          have := limbs_len_bd (n := 10 ^ b.length) (k := 4 * b.length + 1) (by rw [Nat.pow_succ]; have := Nat.pow_pos (n := 4 * b.length) (show 0 < 2 by decide); omega)
          omega
        exact ⟨(a ++ b, 10 ^ b.length), ⟨by simp; omega, hl3, if_neg (by simp [ha, hb])⟩, ⟨rfl, rfl, rfl, rfl, rfl, trivial⟩, ⟨rfl, trivial⟩⟩
      | false =>
        rw [if_neg (by decide)]
        refine wk ?_
        exact ⟨(m, 1), ⟨by dsimp only; omega, by rw [limbs_one]; decide, rfl⟩, ⟨rfl, rfl, rfl, rfl, by dsimp only; rw [limbs_one]; rfl, trivial⟩, ⟨rfl, trivial⟩⟩
  · rw [hr]
    dsimp only at hq hd ⊢
    have hp := parseN q hq
    have hv := fun h => valF_len q h hq
    unfold ratN
    refine wk ?_
    cases hb : readN q with
    | none =>
      rw [hb] at hp
      refine c1 hp ?_
      refine wk ?_
      exact ⟨.cn rfl rfl inferInstance rfl ⟨.inl rfl, .inr (by rw [show (0 : Rat).num.natAbs = 0 from rfl, limbs_zero]; rfl), .inr rfl, trivial⟩, .d rfl (.inl rfl), trivial⟩
    | some n =>
      rw [hb] at hp
      have hn : (limbs n).length ≤ 3000 := by
        unfold readN at hb
        split at hb
        · rename_i h
          cases hb
          exact hv h.2
        · cases hb
      refine c1 hp ?_
      refine wk ?_
      by_cases h0 : d = 0
      · subst h0
        refine c1 (make0 neg n) ?_
        refine wk ?_
        exact ⟨.cn rfl rfl inferInstance rfl ⟨.inl rfl, .inr (by rw [show (0 : Rat).num.natAbs = 0 from rfl, limbs_zero]; rfl), .inr rfl, trivial⟩, .d rfl (.inl rfl), trivial⟩
      · have hmk := ratMake neg (limbs n) (limbs d) (by omega) (by omega) (by rw [limbs_val]; omega) (limbs_dg n) (limbs_dg d)
        rw [limbs_val, limbs_val] at hmk
        refine c1 hmk ?_
        refine wk ?_
        show Ret _ _ (resR (if d = 0 then none else some (mkRat (sgn neg n) d))) _ _
        rw [if_neg h0]
        exact ⟨.cn rfl rfl inferInstance rfl ⟨.inl rfl, .inl rfl, .inl rfl, trivial⟩, .d rfl (.inl rfl), trivial⟩
end Go.Proofs.YtbbpecfapohlaaaGreatDoor
