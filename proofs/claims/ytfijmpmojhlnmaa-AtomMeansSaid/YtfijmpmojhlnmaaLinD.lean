/-
  Package lin by plain data.
  Package lin by plain data.
  Package lin by plain data.
  Package lin by plain data.
  Package lin by plain data.
-/
import Derived.Test.YtfijmpmojhlnmaaLinC
import Derived.Test.YtfijmpmojhlnmaaRef9
namespace Go.Proofs.Ytfijmpmojhlnmaa
open Go.RowKit
attribute [local irreducible] AC Do St
/-- The sum of two. -/
noncomputable def addE (a b : Ex) : Ex := ⟨canL (a.t ++ b.t), a.c + b.c⟩
set_option maxRecDepth 100000 in
set_option maxHeartbeats 4000000 in
theorem addF (a b : Ex) (k : Nat) (ha : ∀ t ∈ a.t, Bd k t.2) (hb : ∀ t ∈ b.t, Bd k t.2) (hac : Bd k a.c) (hbc : Bd k b.c) (hk : (a.t.length + b.t.length + 2) * (k + 1) ≤ 50000000) : Fn Try.prog 68 [.g (enE a), .g (enE b)] [.g (enE (addE a b))] := by
  have hlen : a.t.length + b.t.length ≤ 50000000 := Nat.le_trans (Nat.le_trans (by omega) (Nat.le_mul_of_pos_right (a.t.length + b.t.length + 2) (by omega : 0 < k + 1))) hk
  have hkk : k + k ≤ 50000000 := by
    have : 2 * (k + 1) ≤ (a.t.length + b.t.length + 2) * (k + 1) := Nat.mul_le_mul_right _ (by omega)
    omega
  have hap : a.t.map enT ++ b.t.map enT = (a.t ++ b.t).map enT := by simp
  refine Fn.of Try.func68 rfl (by kernel_rfl) Try.ntmps68 Try.results68 rfl fun w0 S0 => ?_
  refine wk ?_
  ((try (first | intro K ms hms hK | intro K hK)); (first | apply Chain.ef | apply Chain.efD); exact rfl; exact rfl; exact Do.callRow (cloneF (xs := a.t.map enT) (fun c hc => by obtain ⟨t, _, rfl⟩ := List.mem_map.1 hc; rfl) (by simp; omega)) rfl ⟨.inl rfl, trivial⟩ rfl; exact rfl; exact rfl)
  refine wk ?_
  ((try (first | intro K ms hms hK | intro K hK)); (first | apply Chain.ef | apply Chain.efD); exact rfl; exact rfl; exact Do.append rfl rfl rfl rfl rfl (fun c hc => by obtain ⟨t, _, rfl⟩ := List.mem_map.1 hc; rfl) (by simp; omega); exact rfl; exact rfl)
  rw [hap]
  refine wk ?_
  ((try (first | intro K ms hms hK | intro K hK)); (first | apply Chain.go | apply Chain.goD); exact rfl; exact rfl; refine Loc.callG (ratAdd hac hbc hkk) rfl ?_; (repeat (first | exact trivial | refine ⟨.inl rfl, ?_⟩ | refine ⟨.inr rfl, ?_⟩)))
  ((try (first | intro K ms hms hK | intro K hK)); (first | apply Chain.ef | apply Chain.efD); exact rfl; exact rfl; exact Do.frz 10 rfl rfl (by decide) (by simp) (Loc.build rfl rfl rfl rfl); exact rfl; exact rfl)
  ((try (first | intro K ms hms hK | intro K hK)); (first | apply Chain.go | apply Chain.goD); exact rfl; exact rfl; refine Loc.callG (canF ⟨a.t ++ b.t, a.c + b.c⟩ k (fun t h => (List.mem_append.1 h).elim (ha t) (hb t)) (by rw [List.length_append]; exact hk)) rfl ?_; (repeat (first | exact trivial | refine ⟨.inl rfl, ?_⟩ | refine ⟨.inr rfl, ?_⟩)))
  refine wk ?_
  exact ⟨.cn rfl rfl inferInstance rfl ⟨.inl rfl, .inl rfl, .inl rfl, .inl rfl, trivial⟩, trivial⟩
end Go.Proofs.Ytfijmpmojhlnmaa
namespace Go.Proofs.Ytfijmpmojhlnmaa
open Go.RowKit
attribute [local irreducible] AC Do St
/-- r times the terms. -/
def mulT (r : Rat) (t : Tm) : Tm := (t.1, r * t.2)
/-- r times an expression. -/
noncomputable def scaleE (r : Rat) (e : Ex) : Ex := ⟨canL (e.t.map (mulT r)), r * e.c⟩
set_option maxRecDepth 100000 in
set_option maxHeartbeats 4000000 in
theorem scaleF (r : Rat) (e : Ex) (m k : Nat) (hr : Bd m r) (ht : ∀ t ∈ e.t, Bd k t.2) (hc : Bd k e.c) (hk : (e.t.length + 2) * (m + k + 1) ≤ 50000000) : Fn Try.prog 31 [.g (enR r), .g (enE e)] [.g (enE (scaleE r e))] := by
  have hlen : e.t.length ≤ 50000000 := Nat.le_trans (Nat.le_trans (by omega) (Nat.le_mul_of_pos_right (e.t.length + 2) (by omega : 0 < m + k + 1))) hk
  have hmk : m + k ≤ 50000000 := by
    have : 2 * (m + k + 1) ≤ (e.t.length + 2) * (m + k + 1) := Nat.mul_le_mul_right _ (by omega)
    omega
  refine Fn.of Try.func31 rfl (by kernel_rfl) Try.ntmps31 Try.results31 rfl fun w0 S0 => ?_
  refine wk ?_
  ((try (first | intro K ms hms hK | intro K hK)); (first | apply Chain.go | apply Chain.goD); exact rfl; exact rfl; refine Loc.callG (ratMul hr hc hmk) rfl ?_; (repeat (first | exact trivial | refine ⟨.inl rfl, ?_⟩ | refine ⟨.inr rfl, ?_⟩)))
  refine wk ?_
  refine AC.rowBox 5 0 30 78 4 rfl rfl rfl ?_
  refine AC.loop (X := Nat) (fun i => ⟨[(2, .p 2 0), (4, .p 4 0), (5, .p 5 0), (14, .d (.l (e.t.map enT))), (15, .d (.v (.int .i64 (e.t.length : Int)))), (16, .d (.v (.int .i64 (i : Int))))], [(2, .box 32 ((enR r).map .d)), (4, .box 34 [.d .n, .d (.v (.bool false)), .d .n, .d .n]), (5, .box 34 (.r 30 i :: (enR (r * e.c)).map .d)), (30, .row i 78 4 ((e.t.take i).map fun t => enT (mulT r t)))]⟩) (fun i => i ≤ e.t.length) (fun i => e.t.length - i) 0 (Nat.zero_le _) ⟨rfl, rfl, rfl, rfl, rfl, rfl, trivial⟩ ⟨rfl, rfl, rfl, rfl, trivial⟩ ?_
  intro i hi
  refine wk ?_
  (first | intro K ms hms hK | intro K hK)
  ((try (first | intro K ms hms hK | intro K hK)); (first | refine Chain.lss rfl rfl rfl rfl rfl (fun h1 => ?_) (fun h1 => ?_) | refine Chain.lssD rfl rfl rfl rfl rfl (fun h1 => ?_) (fun h1 => ?_)))
  · have hi' : i < e.t.length := by omega
    have hget : e.t[i]? = some e.t[i] := List.getElem?_eq_getElem hi'
    have hts : ((e.t.take (i + 1)).map fun t => enT (mulT r t)) = ((e.t.take i).map fun t => enT (mulT r t)) ++ [enT (mulT r e.t[i])] := by
      rw [List.take_succ_eq_append_getElem hi', List.map_append]; rfl
    refine wk ?_
    ((try (first | intro K ms hms hK | intro K hK)); (first | apply Chain.go | apply Chain.goD); exact rfl; exact rfl; refine Loc.callG (ratMul hr (ht _ (List.getElem_mem hi')) hmk) rfl ?_; (repeat (first | exact trivial | refine ⟨.inl rfl, ?_⟩ | refine ⟨.inr rfl, ?_⟩)))
    refine wk ?_
    refine ⟨i + 1, by omega, by omega, ⟨rfl, rfl, rfl, rfl, rfl, rfl, trivial⟩, ⟨rfl, rfl, rfl, by rw [hts]; rfl, trivial⟩⟩
  · have hend : e.t.take i = e.t := List.take_of_length_le (by omega)
    have hmm : (e.t.map fun t => enT (mulT r t)) = (e.t.map (mulT r)).map enT := by simp
    refine wk ?_
    (first | intro K ms hms hK | intro K hK)
    refine Chain.frzBox 5 0 rfl rfl rfl ?_
    rw [hend, hmm]
    refine wk ?_
    ((try (first | intro K ms hms hK | intro K hK)); (first | apply Chain.go | apply Chain.goD); exact rfl; exact rfl; refine Loc.callG (canF ⟨e.t.map (mulT r), r * e.c⟩ (m + k) (fun t h => by obtain ⟨x, hx, rfl⟩ := List.mem_map.1 h; exact hr.mul (ht x hx)) (by rw [List.length_map]; exact hk)) rfl ?_; (repeat (first | exact trivial | refine ⟨.inl rfl, ?_⟩ | refine ⟨.inr rfl, ?_⟩)))
    refine wk ?_
    exact ⟨.cn rfl rfl inferInstance rfl ⟨.inl rfl, .inl rfl, .inl rfl, .inl rfl, trivial⟩, trivial⟩
end Go.Proofs.Ytfijmpmojhlnmaa
namespace Go.Proofs.Ytfijmpmojhlnmaa
open Go.RowKit
attribute [local irreducible] AC Do St
/-- a - b. -/
noncomputable def subE (a b : Ex) : Ex := addE a (scaleE (-1) b)
set_option maxRecDepth 100000 in
set_option maxHeartbeats 4000000 in
theorem subF (a b : Ex) (k B : Nat) (h1 : ∀ t ∈ b.t, Bd k t.2) (h2 : Bd k b.c) (h3 : (b.t.length + 2) * (1 + k + 1) ≤ 50000000) (ha : ∀ t ∈ a.t, Bd B t.2) (hb : ∀ t ∈ (scaleE (-1) b).t, Bd B t.2) (hac : Bd B a.c) (hbc : Bd B (scaleE (-1) b).c) (hk : (a.t.length + (scaleE (-1) b).t.length + 2) * (B + 1) ≤ 50000000) : Fn Try.prog 47 [.g (enE a), .g (enE b)] [.g (enE (subE a b))] := by
  have hm1 : Bd 1 (-1 : Rat) := ⟨by decide, by decide⟩
  refine Fn.of Try.func47 rfl (by kernel_rfl) Try.ntmps47 Try.results47 rfl fun w0 S0 => ?_
  refine wk ?_
  ((try (first | intro K ms hms hK | intro K hK)); (first | apply Chain.go | apply Chain.goD); exact rfl; exact rfl; refine Loc.callG (ratInt (-1) (by omega) (by omega)) rfl ?_; (repeat (first | exact trivial | refine ⟨.inl rfl, ?_⟩ | refine ⟨.inr rfl, ?_⟩)))
  refine wk ?_
  ((try (first | intro K ms hms hK | intro K hK)); (first | apply Chain.go | apply Chain.goD); exact rfl; exact rfl; refine Loc.callG (scaleF (-1) b 1 k hm1 h1 h2 h3) rfl ?_; (repeat (first | exact trivial | refine ⟨.inl rfl, ?_⟩ | refine ⟨.inr rfl, ?_⟩)))
  refine wk ?_
  ((try (first | intro K ms hms hK | intro K hK)); (first | apply Chain.go | apply Chain.goD); exact rfl; exact rfl; refine Loc.callG (addF a (scaleE (-1) b) B ha hb hac hbc hk) rfl ?_; (repeat (first | exact trivial | refine ⟨.inl rfl, ?_⟩ | refine ⟨.inr rfl, ?_⟩)))
  refine wk ?_
  exact ⟨.cn rfl rfl inferInstance rfl ⟨.inl rfl, .inl rfl, .inl rfl, .inl rfl, trivial⟩, trivial⟩
set_option maxRecDepth 100000 in
set_option maxHeartbeats 4000000 in
theorem sameF (a b : Ex) (k B : Nat) (h1 : ∀ t ∈ b.t, Bd k t.2) (h2 : Bd k b.c) (h3 : (b.t.length + 2) * (1 + k + 1) ≤ 50000000) (ha : ∀ t ∈ a.t, Bd B t.2) (hb : ∀ t ∈ (scaleE (-1) b).t, Bd B t.2) (hac : Bd B a.c) (hbc : Bd B (scaleE (-1) b).c) (hk : (a.t.length + (scaleE (-1) b).t.length + 2) * (B + 1) ≤ 50000000) : Fn Try.prog 20 [.g (enE a), .g (enE b)] [.d (.v (.bool (decide ((subE a b).t.length = 0 ∧ (subE a b).c = 0))))] := by
  refine Fn.of Try.func20 rfl (by kernel_rfl) Try.ntmps20 Try.results20 rfl fun w0 S0 => ?_
  refine wk ?_
  ((try (first | intro K ms hms hK | intro K hK)); (first | apply Chain.go | apply Chain.goD); exact rfl; exact rfl; refine Loc.callG (subF a b k B h1 h2 h3 ha hb hac hbc hk) rfl ?_; (repeat (first | exact trivial | refine ⟨.inl rfl, ?_⟩ | refine ⟨.inr rfl, ?_⟩)))
  refine wk ?_
  (first | intro K ms hms hK | intro K hK)
  ((try (first | intro K ms hms hK | intro K hK)); (first | refine Chain.eql rfl rfl rfl rfl rfl (fun e1 => ?_) (fun e1 => ?_) | refine Chain.eqlD rfl rfl rfl rfl rfl (fun e1 => ?_) (fun e1 => ?_)))
  · have e1' : (subE a b).t.length = 0 := by omega
    refine wk ?_
    ((try (first | intro K ms hms hK | intro K hK)); (first | apply Chain.go | apply Chain.goD); exact rfl; exact rfl; refine Loc.callD (ratSign (subE a b).c) rfl ?_; (repeat (first | exact trivial | refine ⟨.inl rfl, ?_⟩ | refine ⟨.inr rfl, ?_⟩)))
    ((try (first | intro K ms hms hK | intro K hK)); (first | refine Chain.eql rfl rfl rfl rfl rfl (fun e2 => ?_) (fun e2 => ?_) | refine Chain.eqlD rfl rfl rfl rfl rfl (fun e2 => ?_) (fun e2 => ?_)))
    · have e2' := sgnR_zero.1 e2
      refine wk ?_
      rw [decide_eq_true (show _ ∧ _ from ⟨e1', e2'⟩)]
      exact ⟨.d rfl (.inl rfl), trivial⟩
    · have e2' : ¬ (subE a b).c = 0 := fun h => e2 (sgnR_zero.2 h)
      refine wk ?_
      rw [decide_eq_false (fun h => e2' h.2)]
      exact ⟨.d rfl (.inl rfl), trivial⟩
  · have e1' : ¬ (subE a b).t.length = 0 := by omega
    refine wk ?_
    rw [decide_eq_false (fun h => e1' h.1)]
    exact ⟨.d rfl (.inl rfl), trivial⟩
end Go.Proofs.Ytfijmpmojhlnmaa
namespace Go.Proofs.Ytfijmpmojhlnmaa
open Go.RowKit
attribute [local irreducible] AC Do St
theorem evalT_take (p : List Rat) {l : List Tm} {i : Nat} (hi : i < l.length) : evalT p (l.take (i + 1)) = evalT p (l.take i) + l[i].2 * valAt p l[i].1 := by
  have happ : ∀ a b : List Tm, evalT p (a ++ b) = evalT p a + evalT p b := by
    intro a b
    induction a with
    | nil => simp only [List.nil_append, evalT]; grind
    | cons t a ih => simp only [List.cons_append, evalT, ih, Rat.add_assoc]
  rw [List.take_succ_eq_append_getElem hi, happ, evalT, evalT]
  grind
theorem valAt_in {p : List Rat} {v : Int} (h0 : 0 ≤ v) (h1 : v < p.length) : valAt p v = p[v.toNat]'(by omega) := by
  unfold valAt
  grind
theorem valAt_out {p : List Rat} {v : Int} (h : ¬ (0 ≤ v ∧ v < p.length)) : valAt p v = 0 := by
  unfold valAt
  grind
theorem evalT_bd {k : Nat} {e : Ex} {p : List Rat} (hc : Bd k e.c) (ht : ∀ t ∈ e.t, Bd k t.2) (hp : ∀ q ∈ p, Bd k q) (h1 : 0 < k) : ∀ i, i ≤ e.t.length → Bd ((i + 1) * (2 * k + 1)) (e.c + evalT p (e.t.take i)) := by
  intro i
  induction i with
  | zero =>
    intro _
    have : e.c + evalT p (e.t.take 0) = e.c := by simp only [List.take_zero, evalT]; grind
    rw [this]
    exact hc.mono (by omega)
  | succ i ih =>
    intro hi
    rw [evalT_take p (by omega), ← Rat.add_assoc]
    have hv : Bd k (valAt p e.t[i].1) := by
      by_cases h : 0 ≤ e.t[i].1 ∧ e.t[i].1 < p.length
      · rw [valAt_in h.1 h.2]; exact hp _ (List.getElem_mem _)
      · rw [valAt_out h]; exact Bd.zero h1
    refine ((ih (by omega)).add ((ht _ (List.getElem_mem (show i < e.t.length by omega))).mul hv)).mono ?_
    rw [Nat.add_mul (i + 1) 1]
    omega
set_option maxRecDepth 100000 in
set_option maxHeartbeats 4000000 in
theorem evalF (e : Ex) (p : List Rat) (k : Nat) (hc : Bd k e.c) (ht : ∀ t ∈ e.t, Bd k t.2) (hp : ∀ q ∈ p, Bd k q) (hk0 : 0 < k) (hk : (e.t.length + 2) * (2 * k + 1) ≤ 50000000) : Fn Try.prog 48 [.g (enE e), .d (.l (p.map enR))] [.g (enR (e.c + evalT p e.t))] := by
  have hlen : e.t.length ≤ 50000000 := Nat.le_trans (Nat.le_trans (by omega) (Nat.le_mul_of_pos_right (e.t.length + 2) (by omega : 0 < 2 * k + 1))) hk
  have h0 : e.c + evalT p (e.t.take 0) = e.c := by simp only [List.take_zero, evalT]; grind
  refine Fn.of Try.func48 rfl (by kernel_rfl) Try.ntmps48 Try.results48 rfl fun w0 S0 => ?_
  refine wk ?_
  refine AC.loop (X := Nat) (fun i => ⟨[(1, .d (.l (p.map enR))), (4, .p 4 0), (5, .p 5 0), (11, .d (.l (e.t.map enT))), (12, .d (.v (.int .i64 (e.t.length : Int)))), (13, .d (.v (.int .i64 (i : Int))))], [(4, .box 32 [.d (.v (.bool false)), .d .n, .d .n]), (5, .box 32 ((enR (e.c + evalT p (e.t.take i))).map .d))]⟩) (fun i => i ≤ e.t.length) (fun i => e.t.length - i) 0 (Nat.zero_le _) ⟨rfl, rfl, rfl, rfl, rfl, rfl, trivial⟩ ⟨rfl, by dsimp only; rw [h0]; rfl, trivial⟩ ?_
  intro i hi
  refine wk ?_
  (first | intro K ms hms hK | intro K hK)
  ((try (first | intro K ms hms hK | intro K hK)); (first | refine Chain.lss rfl rfl rfl rfl rfl (fun h1 => ?_) (fun h1 => ?_) | refine Chain.lssD rfl rfl rfl rfl rfl (fun h1 => ?_) (fun h1 => ?_)))
  · have hi' : i < e.t.length := by omega
    have hget : e.t[i]? = some e.t[i] := List.getElem?_eq_getElem hi'
    have htk := evalT_take p hi'
    have hpl : (p.map enR).length = p.length := by simp
    refine wk ?_
    (first | intro K ms hms hK | intro K hK)
    ((try (first | intro K ms hms hK | intro K hK)); (first | refine Chain.geq rfl rfl rfl rfl rfl (fun h2 => ?_) (fun h2 => ?_) | refine Chain.geqD rfl rfl rfl rfl rfl (fun h2 => ?_) (fun h2 => ?_)))
    · refine wk ?_
      ((try (first | intro K ms hms hK | intro K hK)); (first | refine Chain.lss rfl rfl rfl rfl rfl (fun h3 => ?_) (fun h3 => ?_) | refine Chain.lssD rfl rfl rfl rfl rfl (fun h3 => ?_) (fun h3 => ?_)))
      · have hv := valAt_in (p := p) h2 (by omega)
        have hgp : p[e.t[i].1.toNat]? = some (p[e.t[i].1.toNat]'(by omega)) := List.getElem?_eq_getElem _
        have hb1 := evalT_bd hc ht hp hk0 i hi
        have hb2 := (ht _ (List.getElem_mem hi')).mul (hp _ (List.getElem_mem (show e.t[i].1.toNat < p.length by omega)))
        have hs : (i + 1) * (2 * k + 1) + (k + k) ≤ 50000000 := by
          have q1 : (i + 1 + 1) * (2 * k + 1) ≤ (e.t.length + 2) * (2 * k + 1) := Nat.mul_le_mul_right _ (by omega)
          rw [Nat.add_mul (i + 1) 1] at q1
          omega
        have hs2 : e.c + evalT p (e.t.take (i + 1)) = e.c + evalT p (e.t.take i) + e.t[i].2 * p[e.t[i].1.toNat]'(by omega) := by
          rw [htk, hv, ← Rat.add_assoc]
        refine wk ?_
        ((try (first | intro K ms hms hK | intro K hK)); (first | apply Chain.go | apply Chain.goD); exact rfl; exact rfl; exact Loc.idxM (i := e.t[i].1.toNat) rfl rfl rfl (by omega) hgp rfl)
        refine wk ?_
        ((try (first | intro K ms hms hK | intro K hK)); (first | apply Chain.go | apply Chain.goD); exact rfl; exact rfl; refine Loc.callG (ratMul (ht _ (List.getElem_mem hi')) (hp _ (List.getElem_mem (show e.t[i].1.toNat < p.length by omega))) (by omega)) rfl ?_; (repeat (first | exact trivial | refine ⟨.inl rfl, ?_⟩ | refine ⟨.inr rfl, ?_⟩)))
        ((try (first | intro K ms hms hK | intro K hK)); (first | apply Chain.go | apply Chain.goD); exact rfl; exact rfl; refine Loc.callG (ratAdd hb1 hb2 hs) rfl ?_; (repeat (first | exact trivial | refine ⟨.inl rfl, ?_⟩ | refine ⟨.inr rfl, ?_⟩)))
        refine wk ?_
        exact ⟨i + 1, by omega, by omega, ⟨rfl, rfl, rfl, rfl, rfl, rfl, trivial⟩, ⟨rfl, by rw [hs2]; rfl, trivial⟩⟩
      · have hv := valAt_out (p := p) (v := e.t[i].1) (by omega)
        have hs2 : e.c + evalT p (e.t.take (i + 1)) = e.c + evalT p (e.t.take i) := by rw [htk, hv]; grind
        refine wk ?_
        exact ⟨i + 1, by omega, by omega, ⟨rfl, rfl, rfl, rfl, rfl, rfl, trivial⟩, ⟨rfl, by rw [hs2]; rfl, trivial⟩⟩
    · have hv := valAt_out (p := p) (v := e.t[i].1) (by omega)
      have hs2 : e.c + evalT p (e.t.take (i + 1)) = e.c + evalT p (e.t.take i) := by rw [htk, hv]; grind
      refine wk ?_
      exact ⟨i + 1, by omega, by omega, ⟨rfl, rfl, rfl, rfl, rfl, rfl, trivial⟩, ⟨rfl, by rw [hs2]; rfl, trivial⟩⟩
  · have hend : e.t.take i = e.t := List.take_of_length_le (by omega)
    refine wk ?_
    rw [hend]
    exact ⟨.cn rfl rfl inferInstance rfl ⟨.inl rfl, .inl rfl, .inl rfl, trivial⟩, trivial⟩
end Go.Proofs.Ytfijmpmojhlnmaa
namespace Go.Proofs.Ytfijmpmojhlnmaa
open Go.RowKit
attribute [local irreducible] AC Do St
/-- A term put into a form. -/
def insC (t : Tm) : List Tm → List Tm
  | [] => if t.2 = 0 then [] else [t]
  | u :: l => if t.1 < u.1 then (if t.2 = 0 then u :: l else t :: u :: l) else if t.1 = u.1 then (if t.2 + u.2 = 0 then l else (u.1, t.2 + u.2) :: l) else u :: insC t l
theorem insC_low {t : Tm} {b : Int} : ∀ {l : List Tm}, b < t.1 → (∀ u ∈ l, b < u.1) → ∀ u ∈ insC t l, b < u.1
  | [], hb, _, u, hu => by
    unfold insC at hu
    split at hu
    · cases hu
    · rw [List.mem_singleton.1 hu]; exact hb
  | v :: l, hb, h, u, hu => by
    unfold insC at hu
    have hv := h v (by simp)
    have hl : ∀ u ∈ l, b < u.1 := fun u hu => h u (by simp [hu])
    split at hu
    · split at hu
      · exact h u hu
      · rcases List.mem_cons.1 hu with h1 | h1
        · rw [h1]; exact hb
        · exact h u h1
    · split at hu
      · split at hu
        · exact hl u hu
        · rcases List.mem_cons.1 hu with h1 | h1
          · rw [h1]; exact hv
          · exact hl u h1
      · rcases List.mem_cons.1 hu with h1 | h1
        · rw [h1]; exact hv
        · exact insC_low hb hl u h1
theorem insC_form {t : Tm} : ∀ {l : List Tm}, Form l → Form (insC t l) ∧ ∀ v, coef (insC t l) v = coef (t :: l) v
  | [], _ => by
    unfold insC
    split
    · rename_i h; exact ⟨⟨.nil, by simp⟩, fun v => by simp only [coef, h]; grind⟩
    · rename_i h; exact ⟨⟨List.pairwise_singleton _ _, fun x hx => by rw [List.mem_singleton.1 hx]; exact h⟩, fun _ => rfl⟩
  | u :: l, hf => by
    obtain ⟨ih1, ih2⟩ := insC_form (t := t) hf.tail
    have hp := List.pairwise_cons.1 hf.1
    unfold insC
    split
    · rename_i h1
      split
      · rename_i h; exact ⟨hf, fun v => by simp only [coef, h]; grind⟩
      · rename_i h
        refine ⟨⟨List.pairwise_cons.2 ⟨fun x hx => ?_, hf.1⟩, fun x hx => ?_⟩, fun _ => rfl⟩
        · rcases List.mem_cons.1 hx with h2 | h2
          · rw [h2]; exact h1
          · have := hp.1 x h2; omega
        · rcases List.mem_cons.1 hx with h2 | h2
          · rw [h2]; exact h
          · exact hf.2 x h2
    · rename_i h1
      split
      · rename_i h2
        split
        · rename_i h; exact ⟨hf.tail, fun v => by simp only [coef, h2]; grind⟩
        · rename_i h
          refine ⟨⟨List.pairwise_cons.2 ⟨fun x hx => hp.1 x hx, hf.tail.1⟩, fun x hx => ?_⟩, fun v => by simp only [coef, h2]; grind⟩
          rcases List.mem_cons.1 hx with h3 | h3
          · rw [h3]; exact h
          · exact hf.2 x (by simp [h3])
      · rename_i h2
        refine ⟨⟨List.pairwise_cons.2 ⟨fun x hx => insC_low (by omega) hp.1 x hx, ih1.1⟩, fun x hx => ?_⟩, fun v => ?_⟩
        · rcases List.mem_cons.1 hx with h3 | h3
          · rw [h3]; exact hf.2 u (by simp)
          · exact ih1.2 x h3
        · rw [coef, ih2]; simp only [coef]; grind
theorem insC_len (t : Tm) : ∀ l : List Tm, (insC t l).length ≤ l.length + 1
  | [] => by unfold insC; split <;> simp
  | u :: l => by
    have := insC_len t l
    unfold insC
    repeat' split
    all_goals simp
    all_goals omega
theorem can_ex : ∀ l : List Tm, ∃ o, Form o ∧ (∀ v, coef o v = coef l v) ∧ o.length ≤ l.length
  | [] => ⟨[], ⟨.nil, by simp⟩, fun _ => rfl, Nat.le_refl _⟩
  | t :: l => by
    obtain ⟨o, h1, h2, h3⟩ := can_ex l
    obtain ⟨q1, q2⟩ := insC_form (t := t) h1
    exact ⟨insC t o, q1, fun v => by rw [q2, coef, coef, h2], by have := insC_len t o; simp; omega⟩
theorem canL_spec (l : List Tm) : Form (canL l) ∧ (∀ v, coef (canL l) v = coef l v) ∧ (canL l).length ≤ l.length := by
  obtain ⟨o, h1, h2, h3⟩ := can_ex l
  rw [canL_eq h1 h2]
  exact ⟨h1, h2, h3⟩
theorem canL_bd {k : Nat} {l : List Tm} (h : ∀ t ∈ l, Bd k t.2) : ∀ t ∈ canL l, Bd ((l.length + 1) * (k + 1)) t.2 := fun t ht => by
  obtain ⟨h1, h2, _⟩ := canL_spec l
  have key : ∀ o : List Tm, Form o → t ∈ o → coef o t.1 = t.2 := by
    intro o
    induction o with
    | nil => intro _ h; cases h
    | cons u o ih =>
      intro h1 ht
      rcases List.mem_cons.1 ht with h3 | h3
      · rw [h3]; exact h1.head
      · have := (List.pairwise_cons.1 h1.1).1 t h3
        rw [coef, if_neg (by omega), ih h1.tail h3]; grind
  have hc := key _ h1 ht
  have := coef_bd h t.1 l.length (Nat.le_refl _)
  rw [List.take_length] at this
  rw [← hc, h2]
  exact this
end Go.Proofs.Ytfijmpmojhlnmaa
