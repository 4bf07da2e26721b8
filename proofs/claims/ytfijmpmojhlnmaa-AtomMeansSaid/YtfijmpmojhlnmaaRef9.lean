/-
  attestref09 and package atom's smaller functions by plain data.
-/
import Derived.Test.YtfijmpmojhlnmaaRef8m
namespace Go.Proofs.Ytfijmpmojhlnmaa
open Go.RowKit
attribute [local irreducible] AC Do St
structure At where
  e : Ex
  op : Int
def enA (a : At) : List D := enE a.e ++ [.v (.int .i64 a.op)]
def enAQ (a : At) : List D := enEQ a.e ++ [.v (.int .i64 a.op)]
/-- Does a number compare so with 0? -/
def sayB (op : Int) (q : Rat) : Bool := if op = 1 then decide (sgnR q ≤ 0) else if op = 2 then decide (sgnR q < 0) else decide (sgnR q = 0)
set_option maxRecDepth 100000 in
set_option maxHeartbeats 2000000 in
theorem saysQ (op : Int) (q : Rat) : Fn Try.prog 23 [.d (.v (.int .i64 op)), .g (enQ q)] [.d (.v (.bool (sayB op q)))] := by
  refine Fn.of Try.func23 rfl (by kernel_rfl) Try.ntmps23 Try.results23 rfl fun w0 S0 => ?_
  refine wk ?_
  ((try (first | intro K ms hms hK | intro K hK)); (first | apply Chain.go | apply Chain.goD); exact rfl; exact rfl; refine Loc.callD (qSign q) rfl ?_; (repeat (first | exact trivial | refine ⟨.inl rfl, ?_⟩ | refine ⟨.inr rfl, ?_⟩)))
  refine wk ?_
  ((try (first | intro K ms hms hK | intro K hK)); (first | refine Chain.eql rfl rfl rfl rfl rfl (fun h1 => ?_) (fun h1 => ?_) | refine Chain.eqlD rfl rfl rfl rfl rfl (fun h1 => ?_) (fun h1 => ?_)))
  · have hs : sayB op q = decide (sgnR q ≤ 0) := by unfold sayB; rw [if_pos h1]
    refine wk ?_
    ((try (first | intro K ms hms hK | intro K hK)); (first | refine Chain.leq rfl rfl rfl rfl rfl (fun h2 => ?_) (fun h2 => ?_) | refine Chain.leqD rfl rfl rfl rfl rfl (fun h2 => ?_) (fun h2 => ?_)))
    · refine wk ?_
      rw [hs, decide_eq_true h2]
      exact ⟨.d rfl (.inl rfl), trivial⟩
    · refine wk ?_
      rw [hs, decide_eq_false h2]
      exact ⟨.d rfl (.inl rfl), trivial⟩
  · refine wk ?_
    ((try (first | intro K ms hms hK | intro K hK)); (first | refine Chain.eql rfl rfl rfl rfl rfl (fun h2 => ?_) (fun h2 => ?_) | refine Chain.eqlD rfl rfl rfl rfl rfl (fun h2 => ?_) (fun h2 => ?_)))
    · have hs : sayB op q = decide (sgnR q < 0) := by unfold sayB; rw [if_neg h1, if_pos h2]
      refine wk ?_
      ((try (first | intro K ms hms hK | intro K hK)); (first | refine Chain.lss rfl rfl rfl rfl rfl (fun h3 => ?_) (fun h3 => ?_) | refine Chain.lssD rfl rfl rfl rfl rfl (fun h3 => ?_) (fun h3 => ?_)))
      · refine wk ?_
        rw [hs, decide_eq_true h3]
        exact ⟨.d rfl (.inl rfl), trivial⟩
      · refine wk ?_
        rw [hs, decide_eq_false h3]
        exact ⟨.d rfl (.inl rfl), trivial⟩
    · have hs : sayB op q = decide (sgnR q = 0) := by unfold sayB; rw [if_neg h1, if_neg h2]
      refine wk ?_
      ((try (first | intro K ms hms hK | intro K hK)); (first | refine Chain.eql rfl rfl rfl rfl rfl (fun h3 => ?_) (fun h3 => ?_) | refine Chain.eqlD rfl rfl rfl rfl rfl (fun h3 => ?_) (fun h3 => ?_)))
      · refine wk ?_
        rw [hs, decide_eq_true h3]
        exact ⟨.d rfl (.inl rfl), trivial⟩
      · refine wk ?_
        rw [hs, decide_eq_false h3]
        exact ⟨.d rfl (.inl rfl), trivial⟩
/-- The least variable with a coefficient other than 0, and that. -/
noncomputable def leadQ (e : Ex) : Option (Int × Rat) := match (varsE [e]).find? (fun v => !decide (coef e.t v = 0)) with
  | some v => some (v, coef e.t v)
  | none => none
noncomputable def leadR (e : Ex) : List DV := match leadQ e with
  | some (v, c) => [.d (.v (.int .i64 v)), .g (enQ c), .d (.v (.bool true))]
  | none => [.d (.v (.int .i64 0)), .g (enQ 0), .d (.v (.bool false))]
theorem find_at {l : List Int} {p : Int → Bool} {i : Nat} (hi : i < l.length) (h1 : ∀ v ∈ l.take i, p v = false) (h2 : p l[i] = true) : l.find? p = some l[i] := by
  have e : l.find? p = (l.take i ++ l.drop i).find? p := by rw [List.take_append_drop]
  rw [e, List.find?_append]
  have : (l.take i).find? p = none := List.find?_eq_none.2 fun v hv => by rw [h1 v hv]; simp
  rw [this]
  have hd : l.drop i = l[i] :: l.drop (i + 1) := List.drop_eq_getElem_cons hi
  rw [hd, List.find?_cons, h2]
  rfl
set_option maxRecDepth 100000 in
set_option maxHeartbeats 2000000 in
theorem lead {N k : Nat} {e : Ex} (he : Sm N k e) (hk : 8 * ((N + 2) * (k + 1)) ≤ 8000000) : Fn Try.prog 34 [.g (enEQ e)] (leadR e) := by
  obtain ⟨hv1, hv2, hv3⟩ := varsE_spec [e]
  have hvl : (varsE [e]).length ≤ 30000000 := by
    have h1 := he.len 1000000 (by omega)
    simp [tot] at hv3
    omega
  refine Fn.of Try.func34 rfl (by kernel_rfl) Try.ntmps34 Try.results34 rfl fun w0 S0 => ?_
  refine wk ?_
  ((try (first | intro K ms hms hK | intro K hK)); (first | apply Chain.go | apply Chain.goD); exact rfl; exact rfl; refine Loc.callD (varsQ [e] (by simp) (by
    intro x hx
    simp at hx
    subst hx
    exact he.len 1000000 (by omega))) rfl ?_; (repeat (first | exact trivial | refine ⟨.inl rfl, ?_⟩ | refine ⟨.inr rfl, ?_⟩)))
  refine wk ?_
  refine AC.loop (X := Nat) (fun i => ⟨[(1, .p 1 0), (3, .p 3 0), (10, .d (enI (varsE [e]))), (11, .d (.v (.int .i64 ((varsE [e]).length : Int)))), (12, .d (.v (.int .i64 (i : Int))))], [(1, .box 50 ((enEQ e).map .d)), (3, .box 48 [.d (.v (.bool false)), .d .n, .d .n])]⟩) (fun i => i ≤ (varsE [e]).length ∧ ∀ v ∈ (varsE [e]).take i, coef e.t v = 0) (fun i => (varsE [e]).length - i) 0 ⟨Nat.zero_le _, by simp⟩ ⟨rfl, rfl, rfl, rfl, rfl, trivial⟩ ⟨rfl, rfl, trivial⟩ ?_
  intro i ⟨hi, hok⟩
  refine wk ?_
  ((try (first | intro K ms hms hK | intro K hK)); (first | refine Chain.lss rfl rfl rfl rfl rfl (fun h2 => ?_) (fun h2 => ?_) | refine Chain.lssD rfl rfl rfl rfl rfl (fun h2 => ?_) (fun h2 => ?_)))
  · have hi' : i < (varsE [e]).length := by omega
    have hget : (varsE [e])[i]? = some (varsE [e])[i] := List.getElem?_eq_getElem hi'
    have htk : (varsE [e]).take (i + 1) = (varsE [e]).take i ++ [(varsE [e])[i]] := List.take_succ_eq_append_getElem hi'
    have hfind := fun h => find_at (p := fun v => !decide (coef e.t v = 0)) hi' (fun v hv => by simpa using hok v hv) h
    generalize (varsE [e])[i] = v at hget htk hfind
    refine wk ?_
    ((try (first | intro K ms hms hK | intro K hK)); (first | apply Chain.go | apply Chain.goD); exact rfl; exact rfl; refine Loc.callG (he.coefQ v (by omega)) rfl ?_; (repeat (first | exact trivial | refine ⟨.inl rfl, ?_⟩ | refine ⟨.inr rfl, ?_⟩)))
    refine wk ?_
    ((try (first | intro K ms hms hK | intro K hK)); (first | apply Chain.go | apply Chain.goD); exact rfl; exact rfl; refine Loc.callD (qSign (coef e.t v)) rfl ?_; (repeat (first | exact trivial | refine ⟨.inl rfl, ?_⟩ | refine ⟨.inr rfl, ?_⟩)))
    refine wk ?_
    ((try (first | intro K ms hms hK | intro K hK)); (first | refine Chain.neq rfl rfl rfl rfl rfl (fun h3 => ?_) (fun h3 => ?_) | refine Chain.neqD rfl rfl rfl rfl rfl (fun h3 => ?_) (fun h3 => ?_)))
    · have hne : coef e.t v ≠ 0 := fun h => h3 (sgnR_zero.2 h)
      have hl : leadR e = [.d (.v (.int .i64 v)), .g (enQ (coef e.t v)), .d (.v (.bool true))] := by
        unfold leadR leadQ
        rw [hfind (by simpa using hne)]
      refine wk ?_
      rw [hl]
      exact ⟨.d rfl (.inl rfl), .cn rfl rfl inferInstance rfl ⟨.inl rfl, .inl rfl, .inl rfl, trivial⟩, .d rfl (.inl rfl), trivial⟩
    · have h3' : coef e.t v = 0 := sgnR_zero.1 (Classical.byContradiction h3)
      refine wk ?_
      refine ⟨i + 1, ⟨by omega, fun u hu => ?_⟩, by omega, ⟨rfl, rfl, rfl, rfl, rfl, trivial⟩, ⟨rfl, rfl, trivial⟩⟩
      rw [htk] at hu
      rcases List.mem_append.1 hu with hu | hu
      · exact hok u hu
      · rw [List.mem_singleton.1 hu]; exact h3'
  · rw [List.take_of_length_le (by omega)] at hok
    have hl : leadR e = [.d (.v (.int .i64 0)), .g (enQ 0), .d (.v (.bool false))] := by
      unfold leadR leadQ
      rw [List.find?_eq_none.2 fun v hv => by simpa using hok v hv]
    refine wk ?_
    ((try (first | intro K ms hms hK | intro K hK)); (first | apply Chain.go | apply Chain.goD); exact rfl; exact rfl; refine Loc.callG (qInt 0 (by omega) (by omega)) rfl ?_; (repeat (first | exact trivial | refine ⟨.inl rfl, ?_⟩ | refine ⟨.inr rfl, ?_⟩)))
    refine wk ?_
    rw [hl]
    exact ⟨.d rfl (.inl rfl), .cn rfl rfl inferInstance rfl ⟨.inl rfl, .inl rfl, .inl rfl, trivial⟩, .d rfl (.inl rfl), trivial⟩
theorem lead_some {N k : Nat} {e : Ex} (he : Sm N k e) (hk : 8 * ((N + 2) * (k + 1)) ≤ 8000000) {v : Int} {c : Rat} (h : leadQ e = some (v, c)) : Fn Try.prog 34 [.g (enEQ e)] [.d (.v (.int .i64 v)), .g (enQ c), .d (.v (.bool true))] := by
  have := lead he hk
  unfold leadR at this
  rwa [h] at this
theorem lead_none {N k : Nat} {e : Ex} (he : Sm N k e) (hk : 8 * ((N + 2) * (k + 1)) ≤ 8000000) (h : leadQ e = none) : Fn Try.prog 34 [.g (enEQ e)] [.d (.v (.int .i64 0)), .g (enQ 0), .d (.v (.bool false))] := by
  have := lead he hk
  unfold leadR at this
  rwa [h] at this
theorem leadQ_ne {e : Ex} {v : Int} {c : Rat} (h : leadQ e = some (v, c)) : c ≠ 0 ∧ c = coef e.t v ∧ ∀ u, u < v → coef e.t u = 0 := by
  unfold leadQ at h
  split at h
  · rename_i u hu
    simp only [Option.some.injEq, Prod.mk.injEq] at h
    obtain ⟨rfl, rfl⟩ := h
    have h1 := List.find?_some hu
    refine ⟨by simpa using h1, rfl, fun x hx => ?_⟩
    obtain ⟨hv1, hv2, _⟩ := varsE_spec [e]
    by_cases hm : x ∈ varsE [e]
    · obtain ⟨_, l1, l2, heq, hall⟩ := List.find?_eq_some_iff_append.1 hu
      rw [heq] at hm hv1
      rcases List.mem_append.1 hm with hm | hm
      · simpa using hall x hm
      · rcases List.mem_cons.1 hm with e2 | hm
        · omega
        · have := List.rel_of_pairwise_cons (List.pairwise_append.1 hv1).2.1 hm
          omega
    · exact coef_none fun t ht hv => hm ((hv2 x).2 ⟨e, by simp, t, ht, hv⟩)
  · cases h
theorem leadQ_none {e : Ex} (h : leadQ e = none) : ∀ v, coef e.t v = 0 := by
  intro v
  unfold leadQ at h
  split at h
  · cases h
  · rename_i hn
    obtain ⟨hv1, hv2, _⟩ := varsE_spec [e]
    by_cases hm : v ∈ varsE [e]
    · have := List.find?_eq_none.1 hn v hm
      simpa using this
    · exact coef_none fun t ht hv => hm ((hv2 v).2 ⟨e, by simp, t, ht, hv⟩)
/-- 0: it has variables, 1: it is true, 2: it is false. -/
noncomputable def truthI (a : At) : Int := match leadQ a.e with
  | some _ => 0
  | none => if sayB a.op a.e.c then 1 else 2
set_option maxRecDepth 100000 in
set_option maxHeartbeats 2000000 in
theorem truthQ {N k : Nat} (a : At) (he : Sm N k a.e) (hk : 8 * ((N + 2) * (k + 1)) ≤ 8000000) : Fn Try.prog 11 [.g (enAQ a)] [.d (.v (.int .i64 (truthI a)))] := by
  refine Fn.of Try.func11 rfl (by kernel_rfl) Try.ntmps11 Try.results11 rfl fun w0 S0 => ?_
  refine wk ?_
  cases hl : leadQ a.e with
  | some x =>
    obtain ⟨v, c⟩ := x
    have ht : truthI a = 0 := by unfold truthI; rw [hl]
    ((try (first | intro K ms hms hK | intro K hK)); (first | apply Chain.go | apply Chain.goD); exact rfl; exact rfl; refine Loc.callT (lead_some he hk hl) rfl ?_; (repeat (first | exact trivial | refine ⟨.inl rfl, ?_⟩ | refine ⟨.inr rfl, ?_⟩)))
    refine wk ?_
    rw [ht]
    exact ⟨.d rfl (.inl rfl), trivial⟩
  | none =>
    have ht : truthI a = if sayB a.op a.e.c then 1 else 2 := by unfold truthI; rw [hl]
    ((try (first | intro K ms hms hK | intro K hK)); (first | apply Chain.go | apply Chain.goD); exact rfl; exact rfl; refine Loc.callT (lead_none he hk hl) rfl ?_; (repeat (first | exact trivial | refine ⟨.inl rfl, ?_⟩ | refine ⟨.inr rfl, ?_⟩)))
    refine wk ?_
    ((try (first | intro K ms hms hK | intro K hK)); (first | apply Chain.go | apply Chain.goD); exact rfl; exact rfl; refine Loc.callD (saysQ a.op a.e.c) rfl ?_; (repeat (first | exact trivial | refine ⟨.inl rfl, ?_⟩ | refine ⟨.inr rfl, ?_⟩)))
    cases hs : sayB a.op a.e.c with
    | true => refine wk ?_; rw [ht, hs]; exact ⟨.d rfl (.inl rfl), trivial⟩
    | false => refine wk ?_; rw [ht, hs]; exact ⟨.d rfl (.inl rfl), trivial⟩
/-- What the one form multiplies with. -/
noncomputable def byQ (op : Int) (c : Rat) : Rat := (if op = 3 then c else absR c)⁻¹
set_option maxRecDepth 100000 in
set_option maxHeartbeats 2000000 in
theorem byF {N k : Nat} (a : At) (he : Sm N k a.e) (hk : 8 * ((N + 2) * (k + 1)) ≤ 8000000) {v : Int} {c : Rat} (hl : leadQ a.e = some (v, c)) (habs : absR c ≠ 0) : Fn Try.prog 16 [.g (enAQ a)] [.g (enQ (byQ a.op c))] := by
  have hc := (leadQ_ne hl).1
  refine Fn.of Try.func16 rfl (by kernel_rfl) Try.ntmps16 Try.results16 rfl fun w0 S0 => ?_
  refine wk ?_
  ((try (first | intro K ms hms hK | intro K hK)); (first | apply Chain.go | apply Chain.goD); exact rfl; exact rfl; refine Loc.callT (lead_some he hk hl) rfl ?_; (repeat (first | exact trivial | refine ⟨.inl rfl, ?_⟩ | refine ⟨.inr rfl, ?_⟩)))
  refine wk ?_
  ((try (first | intro K ms hms hK | intro K hK)); (first | refine Chain.neq rfl rfl rfl rfl rfl (fun h1 => ?_) (fun h1 => ?_) | refine Chain.neqD rfl rfl rfl rfl rfl (fun h1 => ?_) (fun h1 => ?_)))
  · have hb : byQ a.op c = (absR c)⁻¹ := by unfold byQ; rw [if_neg h1]
    refine wk ?_
    ((try (first | intro K ms hms hK | intro K hK)); (first | apply Chain.go | apply Chain.goD); exact rfl; exact rfl; refine Loc.callG (qAbs c) rfl ?_; (repeat (first | exact trivial | refine ⟨.inl rfl, ?_⟩ | refine ⟨.inr rfl, ?_⟩)))
    refine wk ?_
    ((try (first | intro K ms hms hK | intro K hK)); (first | apply Chain.go | apply Chain.goD); exact rfl; exact rfl; refine Loc.callG (qInv habs) rfl ?_; (repeat (first | exact trivial | refine ⟨.inl rfl, ?_⟩ | refine ⟨.inr rfl, ?_⟩)))
    refine wk ?_
    rw [hb]
    exact ⟨.cn rfl rfl inferInstance rfl ⟨.inl rfl, .inl rfl, .inl rfl, trivial⟩, trivial⟩
  · have hb : byQ a.op c = c⁻¹ := by unfold byQ; rw [if_pos (Classical.byContradiction h1)]
    refine wk ?_
    ((try (first | intro K ms hms hK | intro K hK)); (first | apply Chain.go | apply Chain.goD); exact rfl; exact rfl; refine Loc.callG (qInv hc) rfl ?_; (repeat (first | exact trivial | refine ⟨.inl rfl, ?_⟩ | refine ⟨.inr rfl, ?_⟩)))
    refine wk ?_
    rw [hb]
    exact ⟨.cn rfl rfl inferInstance rfl ⟨.inl rfl, .inl rfl, .inl rfl, trivial⟩, trivial⟩
def okOp (op : Int) : Prop := 1 ≤ op ∧ op ≤ 3
set_option maxRecDepth 100000 in
set_option maxHeartbeats 2000000 in
theorem checkA (a : At) (h : okOp a.op) : Fn Try.prog 10 [.g (enA a)] [.d (.v (.int .i64 0))] := by
  obtain ⟨h1, h2⟩ := h
  refine Fn.of Try.func10 rfl (by kernel_rfl) Try.ntmps10 Try.results10 rfl fun w0 S0 => ?_
  refine wk ?_
  exact ⟨.d rfl (.inl rfl), trivial⟩
set_option maxRecDepth 100000 in
set_option maxHeartbeats 2000000 in
theorem checkNo (a : At) (h : ¬ okOp a.op) : Fn Try.prog 10 [.g (enA a)] [.d (.v (.int .i64 4))] := by
  unfold okOp at h
  refine Fn.of Try.func10 rfl (by kernel_rfl) Try.ntmps10 Try.results10 rfl fun w0 S0 => ?_
  refine wk ?_
  ((try (first | intro K ms hms hK | intro K hK)); (first | refine Chain.lss rfl rfl rfl rfl rfl (fun h1 => ?_) (fun h1 => ?_) | refine Chain.lssD rfl rfl rfl rfl rfl (fun h1 => ?_) (fun h1 => ?_)))
  · refine wk ?_
    exact ⟨.d rfl (.inl rfl), trivial⟩
  · have h2 : 3 < a.op := by omega
    refine wk ?_
    exact ⟨.d rfl (.inl rfl), trivial⟩
set_option maxRecDepth 100000 in
set_option maxHeartbeats 2000000 in
theorem saysR (op : Int) (q : Rat) (h : okOp op) : Fn Try.prog 28 [.d (.v (.int .i64 op)), .g (enR q)] [.d (.v (.bool (sayB op q)))] := by
  obtain ⟨ho1, ho2⟩ := h
  have key : ∀ b : Bool, b = sayB op q → Fn Try.prog 28 [.d (.v (.int .i64 op)), .g (enR q)] [.d (.v (.bool b))] := by
    intro b hb
    refine Fn.of Try.func28 rfl (by kernel_rfl) Try.ntmps28 Try.results28 rfl fun w0 S0 => ?_
    refine wk ?_
    ((try (first | intro K ms hms hK | intro K hK)); (first | apply Chain.go | apply Chain.goD); exact rfl; exact rfl; refine Loc.callD (ratSign q) rfl ?_; (repeat (first | exact trivial | refine ⟨.inl rfl, ?_⟩ | refine ⟨.inr rfl, ?_⟩)))
    refine wk ?_
    ((try (first | intro K ms hms hK | intro K hK)); (first | refine Chain.eql rfl rfl rfl rfl rfl (fun h1 => ?_) (fun h1 => ?_) | refine Chain.eqlD rfl rfl rfl rfl rfl (fun h1 => ?_) (fun h1 => ?_)))
    · refine wk ?_
      ((try (first | intro K ms hms hK | intro K hK)); (first | refine Chain.neq rfl rfl rfl rfl rfl (fun h2 => ?_) (fun h2 => ?_) | refine Chain.neqD rfl rfl rfl rfl rfl (fun h2 => ?_) (fun h2 => ?_)))
      · have : b = true := by
          rw [hb]; unfold sayB; rw [h1]
          have : op = 1 ∨ op = 3 := by omega
          rcases this with h | h <;> simp [h]
        refine wk ?_
        rw [this]
        exact ⟨.d rfl (.inl rfl), trivial⟩
      · have h2' : op = 2 := Classical.byContradiction h2
        have : b = false := by rw [hb]; unfold sayB; rw [h1]; simp [h2']
        refine wk ?_
        rw [this]
        exact ⟨.d rfl (.inl rfl), trivial⟩
    · refine wk ?_
      ((try (first | intro K ms hms hK | intro K hK)); (first | refine Chain.lss rfl rfl rfl rfl rfl (fun h2 => ?_) (fun h2 => ?_) | refine Chain.lssD rfl rfl rfl rfl rfl (fun h2 => ?_) (fun h2 => ?_)))
      · refine wk ?_
        ((try (first | intro K ms hms hK | intro K hK)); (first | refine Chain.neq rfl rfl rfl rfl rfl (fun h3 => ?_) (fun h3 => ?_) | refine Chain.neqD rfl rfl rfl rfl rfl (fun h3 => ?_) (fun h3 => ?_)))
        · have : b = true := by
            rw [hb]; unfold sayB
            have : op = 1 ∨ op = 2 := by omega
            rcases this with h | h
            · simp [h]; omega
            · simp [h, h2]
          refine wk ?_
          rw [this]
          exact ⟨.d rfl (.inl rfl), trivial⟩
        · have h3' : op = 3 := Classical.byContradiction h3
          have : b = false := by rw [hb]; unfold sayB; simp [h3', h1]
          refine wk ?_
          rw [this]
          exact ⟨.d rfl (.inl rfl), trivial⟩
      · have : b = false := by
          rw [hb]; unfold sayB
          have : op = 1 ∨ op = 2 ∨ op = 3 := by omega
          rcases this with h | h | h
          · simp [h]; omega
          · simp [h]; omega
          · simp [h, h1]
        refine wk ?_
        rw [this]
        exact ⟨.d rfl (.inl rfl), trivial⟩
  exact key _ rfl
end Go.Proofs.Ytfijmpmojhlnmaa
