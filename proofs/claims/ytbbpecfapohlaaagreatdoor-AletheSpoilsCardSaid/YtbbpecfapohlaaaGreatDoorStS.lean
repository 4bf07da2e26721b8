import Derived.Test.YtbbpecfapohlaaaGreatDoorCmpB
namespace Go.Proofs.YtbbpecfapohlaaaGreatDoor
open Go.RowKit
attribute [local irreducible] AC Do St
/-- The numbers of a step are of k bits. -/
def SmK (k : Nat) (s : Stp) : Prop := (∀ t ∈ s.tm, Bd k t) ∧ s.tm.length ≤ 1000000 ∧ s.cl.length ≤ 1000000 ∧ s.pr.length ≤ 1000000
theorem SmS.k {s : Stp} (h : SmS s) : SmK 256 s := ⟨h.1, by have := h.2.1; omega, h.2.2⟩
set_option maxRecDepth 100000 in
set_option maxHeartbeats 4000000 in
theorem told22k {k : Nat} (hk : k ≤ 10000000) (l : List Stp) (hl : ∀ s ∈ l, SmK k s) (hlen : l.length ≤ 1000000) : Fn Tryz.prog 22 [.d (.l (l.map enS))] [.d (.l (l.map enSQ))] := by
  refine Fn.of Tryz.func22 rfl (by kernel_rfl) Tryz.ntmps22 Tryz.results22 rfl fun w0 S0 => ?_
  refine wk ?_
  refine AC.loop (X := Nat) (fun i => ⟨[(3, .r 6 i), (7, .d (.l (l.map enS))), (8, .d (.v (.int .i64 (l.length : Int)))), (9, .d (.v (.int .i64 (i : Int))))], [(6, .row i 83 5 ((l.take i).map enSQ))]⟩) (fun i => i ≤ l.length) (fun i => l.length - i) 0 (Nat.zero_le _) ⟨rfl, rfl, rfl, rfl, trivial⟩ ⟨rfl, trivial⟩ ?_
  intro i hi
  refine wk ?_
  refine s1 (fun h1 => ?_) (fun h1 => ?_)
  · have hi' : i < l.length := by omega
    have hget : l[i]? = some l[i] := List.getElem?_eq_getElem hi'
    obtain ⟨hs1, hs2, hs3, hs4⟩ := hl l[i] (List.getElem_mem hi')
    have hts : (l.take (i + 1)).map enSQ = (l.take i).map enSQ ++ [enSQ l[i]] := by
      rw [List.take_succ_eq_append_getElem hi', List.map_append]; rfl
    generalize l[i] = s at hget hts hs1 hs2 hs3 hs4
    refine wk ?_
    ((try (first | intro K ms hms hK | intro K hK)); (first | apply Chain.ef | apply Chain.efD); exact rfl; exact rfl; exact Do.appendF rfl rfl rfl rfl rfl (enZ_one s.cl) (by simp; omega); exact rfl; exact rfl)
    refine wk ?_
    ((try (first | intro K ms hms hK | intro K hK)); (first | apply Chain.ef | apply Chain.efD); exact rfl; exact rfl; exact Do.appendF rfl rfl rfl rfl rfl (enZ_one s.pr) (by simp; omega); exact rfl; exact rfl)
    refine wk ?_
    refine c1 (nums s.tm k hk hs1 (by omega)) ?_
    refine wk ?_
    refine ⟨i + 1, by omega, by omega, ⟨rfl, rfl, rfl, rfl, trivial⟩, ⟨by rw [hts]; rfl, trivial⟩⟩
  · refine wk ?_
    rw [List.take_of_length_le (by omega)]
    exact ⟨.d rfl ⟨_, _, rfl⟩, trivial⟩
theorem sgnK0 {q : Rat} : sgnR q = 0 ↔ q = 0 := by
  unfold sgnR
  constructor
  · intro h
    split at h
    · omega
    · split at h
      · rename_i h2; exact Rat.num_eq_zero.1 h2
      · omega
  · intro h
    subst h
    rfl
theorem sgnK_eq {p q : Rat} : sgnR (p - q) = 0 ↔ p = q := by
  have h : sgnR (p - q) = 0 ↔ p - q = 0 := sgnK0
  rw [h]
  constructor
  · intro h
    have : p - q + q = 0 + q := by rw [h]
    rwa [Rat.sub_add_cancel, Rat.zero_add] at this
  · rintro rfl; exact Rat.sub_self
set_option maxRecDepth 100000 in
set_option maxHeartbeats 2000000 in
theorem ratsK {k : Nat} (hk : k ≤ 10000000) (a b : List Rat) (ha : a.length ≤ 1000000000) (h1 : ∀ q ∈ a, Bd k q) (h2 : ∀ q ∈ b, Bd k q) : Fn Tryz.prog 31 [.d (.l (a.map enQ)), .d (.l (b.map enQ))] [.d (.v (.bool (decide (a = b))))] := by
  refine Fn.of Tryz.func31 rfl (by kernel_rfl) Tryz.ntmps31 Tryz.results31 rfl fun w0 S0 => ?_
  refine wk ?_
  refine s1 (fun h3 => ?_) (fun h3 => ?_)
  · have : ¬ a = b := fun h => h3 (by rw [h])
    refine wk ?_
    rw [decide_eq_false this]
    exact ⟨.d rfl (.inl rfl), trivial⟩
  · have hl : a.length = b.length := by omega
    refine wk ?_
    refine AC.loop (X := Nat) (fun i => ⟨[(0, .d (.l (a.map enQ))), (1, .d (.l (b.map enQ))), (12, .d (.v (.int .i64 (a.length : Int)))), (13, .d (.v (.int .i64 (i : Int))))], []⟩) (fun i => i ≤ a.length ∧ a.take i = b.take i) (fun i => a.length - i) 0 ⟨Nat.zero_le _, rfl⟩ ⟨rfl, rfl, rfl, rfl, trivial⟩ trivial ?_
    intro i ⟨hi, heq⟩
    refine wk ?_
    refine s1 (fun h4 => ?_) (fun h4 => ?_)
    · have hi' : i < a.length := by omega
      have hi2 : i < b.length := by omega
      have hga : a[i]? = some a[i] := List.getElem?_eq_getElem hi'
      have hgb : b[i]? = some b[i] := List.getElem?_eq_getElem hi2
      have hba := h1 _ (List.getElem_mem hi')
      have hbb := h2 _ (List.getElem_mem hi2)
      have hs : a[i] = b[i] → a.take (i + 1) = b.take (i + 1) := fun h => by rw [List.take_succ_eq_append_getElem hi', List.take_succ_eq_append_getElem hi2, heq, h]
      have hn : ¬ a[i] = b[i] → ¬ a = b := fun h h2 => h (by subst h2; rfl)
      generalize a[i] = x at hga hs hn hba
      generalize b[i] = y at hgb hs hn hbb
      have hsg : sgnR (x - y) = 0 ↔ x = y := sgnK_eq
      have hcm := qCmp hba hbb (by omega)
      generalize sgnR (x - y) = sg at hsg hcm
      refine wk ?_
      refine c1 hcm ?_
      refine s1 (fun h5 => ?_) (fun h5 => ?_)
      · refine wk ?_
        rw [decide_eq_false (hn fun h => h5 (hsg.2 h))]
        exact ⟨.d rfl (.inl rfl), trivial⟩
      · refine wk ?_
        exact ⟨i + 1, ⟨by omega, hs (hsg.1 (Classical.byContradiction h5))⟩, by omega, ⟨rfl, rfl, rfl, rfl, trivial⟩, trivial⟩
    · rw [List.take_of_length_le (by omega), List.take_of_length_le (by omega)] at heq
      refine wk ?_
      rw [decide_eq_true heq]
      exact ⟨.d rfl (.inl rfl), trivial⟩
def eqK (a b : Stp) : Bool := decide (a.rule = b.rule ∧ a.cl = b.cl ∧ a.idx = b.idx ∧ a.pr = b.pr ∧ a.tm = b.tm)
theorem eqK_iff {a b : Stp} : eqK a b = true ↔ a = b := by
  obtain ⟨r, cl, ix, pr, tm⟩ := a
  obtain ⟨r', cl', ix', pr', tm'⟩ := b
  unfold eqK
  rw [decide_eq_true_iff, Stp.mk.injEq]
theorem eqK_no {a b : Stp} (h : ¬ a = b) : eqK a b = false := by
  cases e : eqK a b with
  | true => exact absurd (eqK_iff.1 e) h
  | false => rfl
set_option maxRecDepth 100000 in
set_option maxHeartbeats 4000000 in
theorem alikeK {k : Nat} (hk : k ≤ 10000000) (a b : Stp) (ha : SmK k a) (hb : SmK k b) : Fn Tryz.prog 87 [.g (enSQ a), .g (enSQ b)] [.d (.v (.bool (eqK a b)))] := by
  obtain ⟨r, cl, ix, pr, tm⟩ := a
  obtain ⟨r', cl', ix', pr', tm'⟩ := b
  obtain ⟨ha1, ha2, ha3, ha4⟩ := ha
  obtain ⟨hb1, _⟩ := hb
  dsimp only at ha1 ha2 ha3 ha4 hb1
  have q1 := sameZ cl cl' (by omega)
  have q2 := sameZ pr pr' (by omega)
  have q3 := ratsK hk tm tm' (by omega) ha1 hb1
  by_cases h1 : r = r'
  · by_cases h2 : ix = ix'
    · by_cases h3 : cl = cl'
      · rw [decide_eq_true h3] at q1
        by_cases h4 : pr = pr'
        · rw [decide_eq_true h4] at q2
          have e : eqK ⟨r, cl, ix, pr, tm⟩ ⟨r', cl', ix', pr', tm'⟩ = decide (tm = tm') := by
            refine decide_eq_decide.2 ?_
            simp [h1, h2, h3, h4]
          rw [e]
          refine Fn.of Tryz.func87 rfl (by kernel_rfl) Tryz.ntmps87 Tryz.results87 rfl fun w0 S0 => ?_
          refine wk ?_
          refine c1 q1 ?_
          refine wk ?_
          refine c1 q2 ?_
          refine wk ?_
          refine c1 q3 ?_
          refine wk ?_
          exact ⟨.d rfl (.inl rfl), trivial⟩
        · rw [decide_eq_false h4] at q2
          have e : eqK ⟨r, cl, ix, pr, tm⟩ ⟨r', cl', ix', pr', tm'⟩ = false := eqK_no fun h => h4 (Stp.mk.inj h).2.2.2.1
          rw [e]
          refine Fn.of Tryz.func87 rfl (by kernel_rfl) Tryz.ntmps87 Tryz.results87 rfl fun w0 S0 => ?_
          refine wk ?_
          refine c1 q1 ?_
          refine wk ?_
          refine c1 q2 ?_
          refine wk ?_
          exact ⟨.d rfl (.inl rfl), trivial⟩
      · rw [decide_eq_false h3] at q1
        have e : eqK ⟨r, cl, ix, pr, tm⟩ ⟨r', cl', ix', pr', tm'⟩ = false := eqK_no fun h => h3 (Stp.mk.inj h).2.1
        rw [e]
        refine Fn.of Tryz.func87 rfl (by kernel_rfl) Tryz.ntmps87 Tryz.results87 rfl fun w0 S0 => ?_
        refine wk ?_
        refine c1 q1 ?_
        refine wk ?_
        exact ⟨.d rfl (.inl rfl), trivial⟩
    · have e : eqK ⟨r, cl, ix, pr, tm⟩ ⟨r', cl', ix', pr', tm'⟩ = false := eqK_no fun h => h2 (Stp.mk.inj h).2.2.1
      rw [e]
      refine Fn.of Tryz.func87 rfl (by kernel_rfl) Tryz.ntmps87 Tryz.results87 rfl fun w0 S0 => ?_
      refine wk ?_
      exact ⟨.d rfl (.inl rfl), trivial⟩
  · have e : eqK ⟨r, cl, ix, pr, tm⟩ ⟨r', cl', ix', pr', tm'⟩ = false := eqK_no fun h => h1 (Stp.mk.inj h).1
    rw [e]
    refine Fn.of Tryz.func87 rfl (by kernel_rfl) Tryz.ntmps87 Tryz.results87 rfl fun w0 S0 => ?_
    refine wk ?_
    exact ⟨.d rfl (.inl rfl), trivial⟩
end Go.Proofs.YtbbpecfapohlaaaGreatDoor
namespace Go.Proofs.YtbbpecfapohlaaaGreatDoor
open Go.RowKit
attribute [local irreducible] AC Do St
set_option maxRecDepth 100000 in
set_option maxHeartbeats 2000000 in
theorem refSameK {k : Nat} (hk : k ≤ 10000000) (a b : List Stp) (r : Bool) (hr : r = true ↔ a = b) (ha : a.length ≤ 1000000000) (h1 : ∀ s ∈ a, SmK k s) (h2 : ∀ s ∈ b, SmK k s) : Fn Tryz.prog 42 [.d (.l (a.map enSQ)), .d (.l (b.map enSQ))] [.d (.v (.bool r))] := by
  have hf : ¬ a = b → r = false := fun h => by
    cases r with
    | true => exact absurd (hr.1 rfl) h
    | false => rfl
  refine Fn.of Tryz.func42 rfl (by kernel_rfl) Tryz.ntmps42 Tryz.results42 rfl fun w0 S0 => ?_
  refine wk ?_
  refine s1 (fun h3 => ?_) (fun h3 => ?_)
  · have : ¬ a = b := fun h => h3 (by rw [h])
    refine wk ?_
    rw [hf this]
    exact ⟨.d rfl (.inl rfl), trivial⟩
  · have hl : a.length = b.length := by omega
    refine wk ?_
    refine AC.loop (X := Nat) (fun i => ⟨[(0, .d (.l (a.map enSQ))), (1, .d (.l (b.map enSQ))), (12, .d (.v (.int .i64 (a.length : Int)))), (13, .d (.v (.int .i64 (i : Int))))], []⟩) (fun i => i ≤ a.length ∧ a.take i = b.take i) (fun i => a.length - i) 0 ⟨Nat.zero_le _, rfl⟩ ⟨rfl, rfl, rfl, rfl, trivial⟩ trivial ?_
    intro i ⟨hi, heq⟩
    refine wk ?_
    refine s1 (fun h4 => ?_) (fun h4 => ?_)
    · have hi' : i < a.length := by omega
      have hi2 : i < b.length := by omega
      have hga : a[i]? = some a[i] := List.getElem?_eq_getElem hi'
      have hgb : b[i]? = some b[i] := List.getElem?_eq_getElem hi2
      have hba := h1 _ (List.getElem_mem hi')
      have hbb := h2 _ (List.getElem_mem hi2)
      have hs : a[i] = b[i] → a.take (i + 1) = b.take (i + 1) := fun h => by rw [List.take_succ_eq_append_getElem hi', List.take_succ_eq_append_getElem hi2, heq, h]
      have hn : ¬ a[i] = b[i] → ¬ a = b := fun h h2 => h (by subst h2; rfl)
      generalize a[i] = x at hga hs hn hba
      generalize b[i] = y at hgb hs hn hbb
      have hal := alikeK hk x y hba hbb
      cases he : eqK x y with
      | true =>
        rw [he] at hal
        refine wk ?_
        refine c1 hal ?_
        refine wk ?_
        exact ⟨i + 1, ⟨by omega, hs (eqK_iff.1 he)⟩, by omega, ⟨rfl, rfl, rfl, rfl, trivial⟩, trivial⟩
      | false =>
        rw [he] at hal
        have hne : ¬ x = y := fun h => by rw [eqK_iff.2 h] at he; cases he
        refine wk ?_
        refine c1 hal ?_
        refine wk ?_
        rw [hf (hn hne)]
        exact ⟨.d rfl (.inl rfl), trivial⟩
    · rw [List.take_of_length_le (by omega), List.take_of_length_le (by omega)] at heq
      refine wk ?_
      rw [hr.2 heq]
      exact ⟨.d rfl (.inl rfl), trivial⟩
end Go.Proofs.YtbbpecfapohlaaaGreatDoor
