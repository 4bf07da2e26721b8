/-
  The laws of package atom (attestlaw09): what is handed in, and the answers that the document fixes.
-/
import Derived.Test.YtfijmpmojhlnmaaAtmD
namespace Go.Proofs.Ytfijmpmojhlnmaa
open Go.RowKit
attribute [local irreducible] AC Do St
theorem truth_none {a : At} (h : leadQ a.e = none) : truthI a = if sayB a.op a.e.c then 1 else 2 := by unfold truthI; rw [h]
theorem truth_some {a : At} {x : Int × Rat} (h : leadQ a.e = some x) : truthI a = 0 := by unfold truthI; rw [h]
set_option maxRecDepth 100000 in
set_option maxHeartbeats 4000000 in
theorem canonsNo (a : AN) (ha : okEN a.e) (ho : ¬ okOp a.op) : Fn Try.prog 3 [.g (enAN a)] [.d (.v (.bool true))] := by
  refine Fn.of Try.func3 rfl (by kernel_rfl) Try.ntmps3 Try.results3 rfl fun w0 S0 => ?_
  refine wk ?_
  ((try (first | intro K ms hms hK | intro K hK)); (first | apply Chain.go | apply Chain.goD); exact rfl; exact rfl; refine Loc.callG (ofA a ha) rfl ?_; (repeat (first | exact trivial | refine ⟨.inl rfl, ?_⟩ | refine ⟨.inr rfl, ?_⟩)))
  ((try (first | intro K ms hms hK | intro K hK)); (first | apply Chain.go | apply Chain.goD); exact rfl; exact rfl; refine Loc.callT (canNo (atN a) ho) rfl ?_; (repeat (first | exact trivial | refine ⟨.inl rfl, ?_⟩ | refine ⟨.inr rfl, ?_⟩)))
  refine wk ?_
  ((try (first | intro K ms hms hK | intro K hK)); (first | apply Chain.go | apply Chain.goD); exact rfl; exact rfl; refine Loc.callD (goodN a ho) rfl ?_; (repeat (first | exact trivial | refine ⟨.inl rfl, ?_⟩ | refine ⟨.inr rfl, ?_⟩)))
  refine wk ?_
  ((try (first | intro K ms hms hK | intro K hK)); (first | apply Chain.go | apply Chain.goD); exact rfl; exact rfl; refine Loc.callD (awake9) rfl ?_; (repeat (first | exact trivial | refine ⟨.inl rfl, ?_⟩ | refine ⟨.inr rfl, ?_⟩)))
  refine wk ?_
  ((try (first | intro K ms hms hK | intro K hK)); (first | apply Chain.go | apply Chain.goD); exact rfl; exact rfl; refine Loc.callG (ofA a ha) rfl ?_; (repeat (first | exact trivial | refine ⟨.inl rfl, ?_⟩ | refine ⟨.inr rfl, ?_⟩)))
  ((try (first | intro K ms hms hK | intro K hK)); (first | apply Chain.go | apply Chain.goD); exact rfl; exact rfl; refine Loc.callD (checkNo (atN a) ho) rfl ?_; (repeat (first | exact trivial | refine ⟨.inl rfl, ?_⟩ | refine ⟨.inr rfl, ?_⟩)))
  refine wk ?_
  ((try (first | intro K ms hms hK | intro K hK)); (first | apply Chain.go | apply Chain.goD); exact rfl; exact rfl; exact Loc.eqlT rfl rfl rfl rfl)
  refine wk ?_
  exact ⟨.d rfl (.inl rfl), trivial⟩
set_option maxRecDepth 100000 in
set_option maxHeartbeats 4000000 in
theorem canonsNum (a : AN) (ha : okEN a.e) (ho : okOp a.op) (hl : leadQ (atN a).e = none) (h0 : canL (atN a).e.t = []) : Fn Try.prog 3 [.g (enAN a)] [.d (.v (.bool true))] := by
  have hs := atN_sm a ha
  have htr := truth_none hl
  have hcan := canNum (atN a) 256 ho hs.t (Nat.le_trans (Nat.mul_le_mul_right _ (by have := hs.n; omega : _ ≤ 14)) (by omega)) h0
  have hr : (if sayB (atN a).op (atN a).e.c then 1 else 2 : Int) = 1 ∨ (if sayB (atN a).op (atN a).e.c then 1 else 2 : Int) = 2 := by split; exact .inl rfl; exact .inr rfl
  have htq := truthQ (atN a) hs (by omega)
  rw [htr] at htq
  generalize (if sayB (atN a).op (atN a).e.c then 1 else 2 : Int) = r at hcan hr htq
  have hz := ratSign 0
  rw [enR_zero] at hz
  refine Fn.of Try.func3 rfl (by kernel_rfl) Try.ntmps3 Try.results3 rfl fun w0 S0 => ?_
  refine wk ?_
  ((try (first | intro K ms hms hK | intro K hK)); (first | apply Chain.go | apply Chain.goD); exact rfl; exact rfl; refine Loc.callG (ofA a ha) rfl ?_; (repeat (first | exact trivial | refine ⟨.inl rfl, ?_⟩ | refine ⟨.inr rfl, ?_⟩)))
  ((try (first | intro K ms hms hK | intro K hK)); (first | apply Chain.go | apply Chain.goD); exact rfl; exact rfl; refine Loc.callT (hcan) rfl ?_; (repeat (first | exact trivial | refine ⟨.inl rfl, ?_⟩ | refine ⟨.inr rfl, ?_⟩)))
  refine wk ?_
  ((try (first | intro K ms hms hK | intro K hK)); (first | apply Chain.go | apply Chain.goD); exact rfl; exact rfl; refine Loc.callD (goodY a ho) rfl ?_; (repeat (first | exact trivial | refine ⟨.inl rfl, ?_⟩ | refine ⟨.inr rfl, ?_⟩)))
  refine wk ?_
  ((try (first | intro K ms hms hK | intro K hK)); (first | apply Chain.go | apply Chain.goD); exact rfl; exact rfl; refine Loc.callD (awake9) rfl ?_; (repeat (first | exact trivial | refine ⟨.inl rfl, ?_⟩ | refine ⟨.inr rfl, ?_⟩)))
  refine wk ?_
  ((try (first | intro K ms hms hK | intro K hK)); (first | apply Chain.go | apply Chain.goD); exact rfl; exact rfl; refine Loc.callG (ofA a ha) rfl ?_; (repeat (first | exact trivial | refine ⟨.inl rfl, ?_⟩ | refine ⟨.inr rfl, ?_⟩)))
  ((try (first | intro K ms hms hK | intro K hK)); (first | apply Chain.go | apply Chain.goD); exact rfl; exact rfl; refine Loc.callD (checkA (atN a) ho) rfl ?_; (repeat (first | exact trivial | refine ⟨.inl rfl, ?_⟩ | refine ⟨.inr rfl, ?_⟩)))
  refine wk ?_
  ((try (first | intro K ms hms hK | intro K hK)); (first | apply Chain.go | apply Chain.goD); exact rfl; exact rfl; refine Loc.callG (ofA a ha) rfl ?_; (repeat (first | exact trivial | refine ⟨.inl rfl, ?_⟩ | refine ⟨.inr rfl, ?_⟩)))
  ((try (first | intro K ms hms hK | intro K hK)); (first | apply Chain.go | apply Chain.goD); exact rfl; exact rfl; refine Loc.callG (toldA (atN a) 256 (by omega) hs.c hs.t (by have := hs.n; omega)) rfl ?_; (repeat (first | exact trivial | refine ⟨.inl rfl, ?_⟩ | refine ⟨.inr rfl, ?_⟩)))
  ((try (first | intro K ms hms hK | intro K hK)); (first | apply Chain.go | apply Chain.goD); exact rfl; exact rfl; refine Loc.callD (htq) rfl ?_; (repeat (first | exact trivial | refine ⟨.inl rfl, ?_⟩ | refine ⟨.inr rfl, ?_⟩)))
  refine wk ?_
  ((try (first | intro K ms hms hK | intro K hK)); (first | apply Chain.go | apply Chain.goD); exact rfl; exact rfl; exact Loc.eqlT rfl rfl rfl rfl)
  refine wk ?_
  ((try (first | intro K ms hms hK | intro K hK)); (first | apply Chain.go | apply Chain.goD); exact rfl; exact rfl; refine Loc.callD (hz) rfl ?_; (repeat (first | exact trivial | refine ⟨.inl rfl, ?_⟩ | refine ⟨.inr rfl, ?_⟩)))
  ((try (first | intro K ms hms hK | intro K hK)); (first | apply Chain.go | apply Chain.goD); exact rfl; exact rfl; exact Loc.eqlT rfl rfl rfl rfl)
  refine wk ?_
  exact ⟨.d rfl (.inl rfl), trivial⟩
theorem Sm.mono {N k N' k' : Nat} {e : Ex} (h : Sm N k e) (hN : N ≤ N') (hk : k ≤ k') : Sm N' k' e := ⟨h.c.mono hk, fun t ht => (h.t t ht).mono hk, Nat.le_trans h.n hN⟩
set_option maxRecDepth 100000 in
set_option maxHeartbeats 4000000 in
theorem canonsOpen (a : AN) (ha : okEN a.e) (ho : okOp a.op) {v : Int} {c : Rat} {l : List Tm} (hl : leadQ (atN a).e = some (v, c)) (h0 : canL (atN a).e.t = (v, c) :: l) (hne : c ≠ 0) : Fn Try.prog 3 [.g (enAN a)] [.d (.v (.bool true))] := by
  have hs := atN_sm a ha
  have hn := hs.n
  have hcan := canOpen (atN a) 256 3341 ho hs.c hs.t (Nat.le_trans (Nat.mul_le_mul_right _ (by omega : _ ≤ 13)) (by omega)) (Nat.le_trans (Nat.mul_le_mul_right _ (by omega : _ ≤ 14)) (by omega)) h0 hne
  have hs2 : Sm 12 (3341 + 3341) (canA (atN a) c).e := canA_sm (atN a) hs (by omega) h0 hne
  have hn2 := hs2.n
  obtain ⟨g1, g2, g3⟩ := canA_again (atN a) hne h0
  have hne2 : byQ (atN a).op c * c ≠ 0 := fun h => by
    rcases Rat.mul_eq_zero.1 h with h3 | h3
    · exact byQ_ne hne h3
    · exact hne h3
  have hop : (canA (atN a) c).op = a.op := rfl
  have hcan2 := canOpen (canA (atN a) c) (3341 + 3341) 86879 ho hs2.c hs2.t (Nat.le_trans (Nat.mul_le_mul_right _ (by omega : _ ≤ 13)) (by omega)) (Nat.le_trans (Nat.mul_le_mul_right _ (by omega : _ ≤ 14)) (by omega)) (g2.trans g1) hne2
  rw [g3] at hcan2
  have htq := truthQ (atN a) hs (by omega)
  rw [truth_some hl] at htq
  have hby := byF (atN a) hs (by omega) hl (absR_ne hne)
  have hcB : Bd 3341 c := ((canL_bd hs.t (v, c) (by rw [h0]; simp))).mono (Nat.le_trans (Nat.mul_le_mul_right _ (by omega : _ ≤ 13)) (by omega))
  have hz0 : ((0 : Int) : Rat) = 0 := rfl
  have hmean := meansQ (canA (atN a) c).e (byQ (atN a).op c) (atN a).e ((0 : Int) : Rat) ⟨[], ((0 : Int) : Rat)⟩ 12 (3341 + 3341) hs2 (hs.mono (by omega) (by omega)) ⟨by rw [hz0]; exact .zero (by omega), by simp, by simp⟩ ((hcB.byQ _ hne).mono (by omega)) (by rw [hz0]; exact .zero (by omega)) (by omega) true ⟨fun _ => by rw [hz0]; exact canA_means (atN a) hne, fun _ => rfl⟩
  have hsame := sameSelf (B := 86892) (canA (atN a) c).e hs2 (by omega) (by omega)
  clear g1 g2 g3 hne2
  generalize canA (atN a) c = X at *
  generalize byQ (atN a).op c = by_ at *
  refine Fn.of Try.func3 rfl (by kernel_rfl) Try.ntmps3 Try.results3 rfl fun w0 S0 => ?_
  refine wk ?_
  ((try (first | intro K ms hms hK | intro K hK)); (first | apply Chain.go | apply Chain.goD); exact rfl; exact rfl; refine Loc.callG (ofA a ha) rfl ?_; (repeat (first | exact trivial | refine ⟨.inl rfl, ?_⟩ | refine ⟨.inr rfl, ?_⟩)))
  ((try (first | intro K ms hms hK | intro K hK)); (first | apply Chain.go | apply Chain.goD); exact rfl; exact rfl; refine Loc.callT (hcan) rfl ?_; (repeat (first | exact trivial | refine ⟨.inl rfl, ?_⟩ | refine ⟨.inr rfl, ?_⟩)))
  refine wk ?_
  ((try (first | intro K ms hms hK | intro K hK)); (first | apply Chain.go | apply Chain.goD); exact rfl; exact rfl; refine Loc.callD (goodY a ho) rfl ?_; (repeat (first | exact trivial | refine ⟨.inl rfl, ?_⟩ | refine ⟨.inr rfl, ?_⟩)))
  refine wk ?_
  ((try (first | intro K ms hms hK | intro K hK)); (first | apply Chain.go | apply Chain.goD); exact rfl; exact rfl; refine Loc.callD (awake9) rfl ?_; (repeat (first | exact trivial | refine ⟨.inl rfl, ?_⟩ | refine ⟨.inr rfl, ?_⟩)))
  refine wk ?_
  ((try (first | intro K ms hms hK | intro K hK)); (first | apply Chain.go | apply Chain.goD); exact rfl; exact rfl; refine Loc.callG (ofA a ha) rfl ?_; (repeat (first | exact trivial | refine ⟨.inl rfl, ?_⟩ | refine ⟨.inr rfl, ?_⟩)))
  ((try (first | intro K ms hms hK | intro K hK)); (first | apply Chain.go | apply Chain.goD); exact rfl; exact rfl; refine Loc.callD (checkA (atN a) ho) rfl ?_; (repeat (first | exact trivial | refine ⟨.inl rfl, ?_⟩ | refine ⟨.inr rfl, ?_⟩)))
  refine wk ?_
  ((try (first | intro K ms hms hK | intro K hK)); (first | apply Chain.go | apply Chain.goD); exact rfl; exact rfl; refine Loc.callG (ofA a ha) rfl ?_; (repeat (first | exact trivial | refine ⟨.inl rfl, ?_⟩ | refine ⟨.inr rfl, ?_⟩)))
  ((try (first | intro K ms hms hK | intro K hK)); (first | apply Chain.go | apply Chain.goD); exact rfl; exact rfl; refine Loc.callG (toldA (atN a) 256 (by omega) hs.c hs.t (by omega)) rfl ?_; (repeat (first | exact trivial | refine ⟨.inl rfl, ?_⟩ | refine ⟨.inr rfl, ?_⟩)))
  ((try (first | intro K ms hms hK | intro K hK)); (first | apply Chain.go | apply Chain.goD); exact rfl; exact rfl; refine Loc.callD (htq) rfl ?_; (repeat (first | exact trivial | refine ⟨.inl rfl, ?_⟩ | refine ⟨.inr rfl, ?_⟩)))
  refine wk ?_
  ((try (first | intro K ms hms hK | intro K hK)); (first | apply Chain.go | apply Chain.goD); exact rfl; exact rfl; refine Loc.callT (hcan2) rfl ?_; (repeat (first | exact trivial | refine ⟨.inl rfl, ?_⟩ | refine ⟨.inr rfl, ?_⟩)))
  refine wk ?_
  ((try (first | intro K ms hms hK | intro K hK)); (first | apply Chain.go | apply Chain.goD); exact rfl; exact rfl; refine Loc.callG (told8 X.e (3341 + 3341) (by omega) hs2.c hs2.t (by omega)) rfl ?_; (repeat (first | exact trivial | refine ⟨.inl rfl, ?_⟩ | refine ⟨.inr rfl, ?_⟩)))
  refine wk ?_
  ((try (first | intro K ms hms hK | intro K hK)); (first | apply Chain.go | apply Chain.goD); exact rfl; exact rfl; refine Loc.callG (ofA a ha) rfl ?_; (repeat (first | exact trivial | refine ⟨.inl rfl, ?_⟩ | refine ⟨.inr rfl, ?_⟩)))
  ((try (first | intro K ms hms hK | intro K hK)); (first | apply Chain.go | apply Chain.goD); exact rfl; exact rfl; refine Loc.callG (toldA (atN a) 256 (by omega) hs.c hs.t (by omega)) rfl ?_; (repeat (first | exact trivial | refine ⟨.inl rfl, ?_⟩ | refine ⟨.inr rfl, ?_⟩)))
  ((try (first | intro K ms hms hK | intro K hK)); (first | apply Chain.go | apply Chain.goD); exact rfl; exact rfl; refine Loc.callG (hby) rfl ?_; (repeat (first | exact trivial | refine ⟨.inl rfl, ?_⟩ | refine ⟨.inr rfl, ?_⟩)))
  refine wk ?_
  ((try (first | intro K ms hms hK | intro K hK)); (first | apply Chain.go | apply Chain.goD); exact rfl; exact rfl; refine Loc.callG (expr a.e ha) rfl ?_; (repeat (first | exact trivial | refine ⟨.inl rfl, ?_⟩ | refine ⟨.inr rfl, ?_⟩)))
  ((try (first | intro K ms hms hK | intro K hK)); (first | apply Chain.go | apply Chain.goD); exact rfl; exact rfl; refine Loc.callG (told8 (exN a.e) 256 (by omega) hs.c hs.t (by show (atN a).e.t.length ≤ _; omega)) rfl ?_; (repeat (first | exact trivial | refine ⟨.inl rfl, ?_⟩ | refine ⟨.inr rfl, ?_⟩)))
  ((try (first | intro K ms hms hK | intro K hK)); (first | apply Chain.go | apply Chain.goD); exact rfl; exact rfl; refine Loc.callG (qInt 0 (by omega) (by omega)) rfl ?_; (repeat (first | exact trivial | refine ⟨.inl rfl, ?_⟩ | refine ⟨.inr rfl, ?_⟩)))
  ((try (first | intro K ms hms hK | intro K hK)); (first | apply Chain.go | apply Chain.goD); exact rfl; exact rfl; refine Loc.callG (qInt 0 (by omega) (by omega)) rfl ?_; (repeat (first | exact trivial | refine ⟨.inl rfl, ?_⟩ | refine ⟨.inr rfl, ?_⟩)))
  ((try (first | intro K ms hms hK | intro K hK)); (first | apply Chain.go | apply Chain.goD); exact rfl; exact rfl; refine Loc.callG (ofQ ((0 : Int) : Rat)) rfl ?_; (repeat (first | exact trivial | refine ⟨.inl rfl, ?_⟩ | refine ⟨.inr rfl, ?_⟩)))
  ((try (first | intro K ms hms hK | intro K hK)); (first | apply Chain.go | apply Chain.goD); exact rfl; exact rfl; refine Loc.callD (hmean) rfl ?_; (repeat (first | exact trivial | refine ⟨.inl rfl, ?_⟩ | refine ⟨.inr rfl, ?_⟩)))
  refine wk ?_
  ((try (first | intro K ms hms hK | intro K hK)); (first | apply Chain.go | apply Chain.goD); exact rfl; exact rfl; refine Loc.callD (hsame) rfl ?_; (repeat (first | exact trivial | refine ⟨.inl rfl, ?_⟩ | refine ⟨.inr rfl, ?_⟩)))
  refine wk ?_
  exact ⟨.d rfl (.inl rfl), trivial⟩
theorem canonsF (a : AN) (ha : okEN a.e) : Fn Try.prog 3 [.g (enAN a)] [.d (.v (.bool true))] := by
  by_cases ho : okOp a.op
  · rcases lead_can (atN a).e with ⟨h1, h2⟩ | ⟨v, c, l, h1, h2⟩
    · exact canonsNum a ha ho h1 h2
    · exact canonsOpen a ha ho h1 h2 (leadQ_ne h1).1
  · exact canonsNo a ha ho
end Go.Proofs.Ytfijmpmojhlnmaa
