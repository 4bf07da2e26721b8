/-
  Packages compact and proof's steps by plain data.
-/
import Derived.Test.YtfijmpmojhlnmaaGreatDoorFnF
import Derived.Test.YtfijmpmojhlnmaaGreatDoorMap
import Derived.Test.YtfijmpmojhlnmaaGreatDoorLawP
import Derived.Test.YtfijmpmojhlnmaaGreatDoorRuleX
namespace Go.Proofs.YtfijmpmojhlnmaaGreatDoor
open Go.RowKit
attribute [local irreducible] AC Do St
/-- A list of whole numbers. -/
def enZ (l : List Int) : D := .l (l.map fun v => [.v (.int .i64 v)])
/-- A step. -/
structure Stp where
  rule : Int
  cl : List Int
  idx : Int
  pr : List Int
  tm : List Rat
def enS (s : Stp) : List D := [.v (.int .i64 s.rule), enZ s.cl, .v (.int .i64 s.idx), enZ s.pr, .l (s.tm.map enR)]
def enSQ (s : Stp) : List D := [.v (.int .i64 s.rule), enZ s.cl, .v (.int .i64 s.idx), enZ s.pr, .l (s.tm.map enQ)]
/-- .. as the laws are handed it. -/
structure SN where
  rule : Int
  cl : List Int
  idx : Int
  pr : List Int
  tm : List (Bool × List Nat × List Nat)
def enSN (s : SN) : List D := [.v (.int .i64 s.rule), enZ s.cl, .v (.int .i64 s.idx), enZ s.pr, .l (s.tm.map enN)]
def okSN (s : SN) : Prop := okP s.tm ∧ s.cl.length ≤ 9223372036854775807 ∧ s.pr.length ≤ 9223372036854775807 ∧ s.tm.length ≤ 9223372036854775807
def stS (s : SN) : Stp := ⟨s.rule, s.cl.take 40, s.idx, s.pr.take 40, (s.tm.take 40).map nQ⟩
def stL (l : List SN) : List Stp := (l.take 60).map stS
set_option maxRecDepth 100000 in
set_option maxHeartbeats 2000000 in
theorem intsF (l : List Int) : Fn Tryz.prog 40 [.d (enZ l)] [.d (enZ (l.take 40))] := by
  refine Fn.of Tryz.func40 rfl (by kernel_rfl) Tryz.ntmps40 Tryz.results40 rfl fun w0 S0 => ?_
  refine wk ?_
  have hone : ∀ (m : List Int), ∀ c ∈ m.map (fun v => [D.v (.int .i64 v)]), c.length = 1 := fun m c hc => by
    obtain ⟨v, _, rfl⟩ := List.mem_map.1 hc; rfl
  ((try (first | intro K ms hms hK | intro K hK)); (first | refine Chain.gtr rfl rfl rfl rfl rfl (fun h1 => ?_) (fun h1 => ?_) | refine Chain.gtrD rfl rfl rfl rfl rfl (fun h1 => ?_) (fun h1 => ?_)))
  · refine wk ?_
    ((try (first | intro K ms hms hK | intro K hK)); (first | apply Chain.go | apply Chain.goD); exact rfl; exact rfl; exact Loc.partM 40 rfl rfl rfl rfl (by omega))
    refine wk ?_
    ((try (first | intro K ms hms hK | intro K hK)); (first | apply Chain.ef | apply Chain.efD); exact rfl; exact rfl; exact Do.append rfl rfl rfl rfl rfl (hone _) (by simp; omega); exact rfl; exact rfl)
    refine wk ?_
    exact ⟨.d rfl ⟨_, _, rfl⟩, trivial⟩
  · have e : l.take 40 = l := List.take_of_length_le (by omega)
    refine wk ?_
    ((try (first | intro K ms hms hK | intro K hK)); (first | apply Chain.ef | apply Chain.efD); exact rfl; exact rfl; exact Do.append rfl rfl rfl rfl rfl (hone _) (by simp; omega); exact rfl; exact rfl)
    refine wk ?_
    rw [e]
    exact ⟨.d rfl ⟨_, _, rfl⟩, trivial⟩
theorem enZ_one (m : List Int) : ∀ c ∈ m.map (fun v => [D.v (.int .i64 v)]), c.length = 1 := fun c hc => by
  obtain ⟨v, _, rfl⟩ := List.mem_map.1 hc; rfl
/-- Is some premise no place ahead of i? -/
def badP (i : Nat) (pr : List Int) : Bool := pr.any fun k => decide (k < 0) || decide ((i : Int) ≤ k)
/-- The first k steps are in form. -/
def okTo (l : List Stp) (n : Nat) : Prop := ∀ i (h : i < l.length), i < n → badP i l[i].pr = false
def okS (l : List Stp) : Prop := okTo l l.length
/-- 0, or the error's number. -/
noncomputable def chkI (l : List Stp) : Int := by classical exact if okS l then 0 else 4
theorem chk_ok {l : List Stp} (h : okS l) : chkI l = 0 := by unfold chkI; rw [if_pos h]
theorem chk_no {l : List Stp} {i : Nat} (hi : i < l.length) (h : badP i l[i].pr = true) : chkI l = 4 := by
  unfold chkI
  rw [if_neg fun h2 => ?_]
  have := h2 i hi hi
  rw [h] at this
  cases this
set_option maxRecDepth 100000 in
set_option maxHeartbeats 2000000 in
theorem refCheck (l : List Stp) (hl : l.length ≤ 300000) (hpl : ∀ s ∈ l, s.pr.length ≤ 1000000) : Fn Tryz.prog 9 [.d (.l (l.map enSQ))] [.d (.v (.int .i64 (chkI l)))] := by
  refine Fn.of Tryz.func9 rfl (by kernel_rfl) Tryz.ntmps9 Tryz.results9 rfl fun w0 S0 => ?_
  refine wk ?_
  refine AC.loop (X := Nat) (fun i => ⟨[(10, .d (.l (l.map enSQ))), (11, .d (.v (.int .i64 (l.length : Int)))), (12, .d (.v (.int .i64 (i : Int))))], []⟩) (fun i => i ≤ l.length ∧ okTo l i) (fun i => l.length - i) 0 ⟨Nat.zero_le _, fun i _ h => by omega⟩ ⟨rfl, rfl, rfl, trivial⟩ trivial ?_
  intro i ⟨hi, hok⟩
  refine wk ?_
  ((try (first | intro K ms hms hK | intro K hK)); (first | refine Chain.lss rfl rfl rfl rfl rfl (fun h1 => ?_) (fun h1 => ?_) | refine Chain.lssD rfl rfl rfl rfl rfl (fun h1 => ?_) (fun h1 => ?_)))
  · have hi' : i < l.length := by omega
    have hget : l[i]? = some l[i] := List.getElem?_eq_getElem hi'
    have hno := chk_no hi'
    have hsl := hpl l[i] (List.getElem_mem hi')
    have hok2 : badP i l[i].pr = false → okTo l (i + 1) := fun h j hj hj2 => by
      by_cases e : j = i
      · subst e; exact h
      · exact hok j hj (by omega)
    generalize l[i] = s at hget hno hok2 hsl
    refine wk ?_
    refine AC.loop (X := Nat) (fun j => ⟨[(3, .d (.v (.int .i64 (i : Int)))), (10, .d (.l (l.map enSQ))), (11, .d (.v (.int .i64 (l.length : Int)))), (12, .d (.v (.int .i64 (i : Int)))), (18, .d (enZ s.pr)), (19, .d (.v (.int .i64 (s.pr.length : Int)))), (20, .d (.v (.int .i64 (j : Int))))], []⟩) (fun j => j ≤ s.pr.length ∧ badP i (s.pr.take j) = false) (fun j => s.pr.length - j) 0 ⟨Nat.zero_le _, rfl⟩ ⟨rfl, rfl, rfl, rfl, rfl, rfl, rfl, trivial⟩ trivial ?_
    intro j ⟨hj, hb⟩
    refine wk ?_
    ((try (first | intro K ms hms hK | intro K hK)); (first | refine Chain.lss rfl rfl rfl rfl rfl (fun h2 => ?_) (fun h2 => ?_) | refine Chain.lssD rfl rfl rfl rfl rfl (fun h2 => ?_) (fun h2 => ?_)))
    · have hj' : j < s.pr.length := by omega
      have hget2 : s.pr[j]? = some s.pr[j] := List.getElem?_eq_getElem hj'
      have hbs : badP i (s.pr.take (j + 1)) = (decide (s.pr[j] < 0) || decide ((i : Int) ≤ s.pr[j])) := by
        unfold badP at hb ⊢
        rw [List.take_succ_eq_append_getElem hj', List.any_append, hb]
        simp
      have hall : (decide (s.pr[j] < 0) || decide ((i : Int) ≤ s.pr[j])) = true → badP i s.pr = true := fun h => List.any_eq_true.2 ⟨_, List.getElem_mem hj', h⟩
      generalize s.pr[j] = k at hget2 hbs hall
      refine wk ?_
      ((try (first | intro K ms hms hK | intro K hK)); (first | refine Chain.lss rfl rfl rfl rfl rfl (fun h3 => ?_) (fun h3 => ?_) | refine Chain.lssD rfl rfl rfl rfl rfl (fun h3 => ?_) (fun h3 => ?_)))
      · have := hno (hall (by simp [h3]))
        refine wk ?_
        rw [this]
        exact ⟨.d rfl (.inl rfl), trivial⟩
      · refine wk ?_
        ((try (first | intro K ms hms hK | intro K hK)); (first | refine Chain.geq rfl rfl rfl rfl rfl (fun h4 => ?_) (fun h4 => ?_) | refine Chain.geqD rfl rfl rfl rfl rfl (fun h4 => ?_) (fun h4 => ?_)))
        · have := hno (hall (by simp; omega))
          refine wk ?_
          rw [this]
          exact ⟨.d rfl (.inl rfl), trivial⟩
        · refine wk ?_
          exact ⟨j + 1, ⟨by omega, by rw [hbs]; simp; omega⟩, by omega, ⟨rfl, rfl, rfl, rfl, rfl, rfl, rfl, trivial⟩, trivial⟩
    · rw [List.take_of_length_le (by omega)] at hb
      refine wk ?_
      exact ⟨i + 1, ⟨by omega, hok2 hb⟩, by omega, ⟨rfl, rfl, rfl, trivial⟩, trivial⟩
  · have : chkI l = 0 := chk_ok fun j hj _ => hok j hj (by omega)
    refine wk ?_
    rw [this]
    exact ⟨.d rfl (.inl rfl), trivial⟩
set_option maxRecDepth 100000 in
set_option maxHeartbeats 2000000 in
theorem sameZ (a b : List Int) (ha : a.length ≤ 1000000000) : Fn Tryz.prog 15 [.d (enZ a), .d (enZ b)] [.d (.v (.bool (decide (a = b))))] := by
  refine Fn.of Tryz.func15 rfl (by kernel_rfl) Tryz.ntmps15 Tryz.results15 rfl fun w0 S0 => ?_
  refine wk ?_
  ((try (first | intro K ms hms hK | intro K hK)); (first | refine Chain.neq rfl rfl rfl rfl rfl (fun h1 => ?_) (fun h1 => ?_) | refine Chain.neqD rfl rfl rfl rfl rfl (fun h1 => ?_) (fun h1 => ?_)))
  · have : ¬ a = b := fun h => h1 (by rw [h])
    refine wk ?_
    rw [decide_eq_false this]
    exact ⟨.d rfl (.inl rfl), trivial⟩
  · have hl : a.length = b.length := by omega
    refine wk ?_
    refine AC.loop (X := Nat) (fun i => ⟨[(0, .d (enZ a)), (1, .d (enZ b)), (12, .d (.v (.int .i64 (a.length : Int)))), (13, .d (.v (.int .i64 (i : Int))))], []⟩) (fun i => i ≤ a.length ∧ a.take i = b.take i) (fun i => a.length - i) 0 ⟨Nat.zero_le _, rfl⟩ ⟨rfl, rfl, rfl, rfl, trivial⟩ trivial ?_
    intro i ⟨hi, heq⟩
    refine wk ?_
    ((try (first | intro K ms hms hK | intro K hK)); (first | refine Chain.lss rfl rfl rfl rfl rfl (fun h2 => ?_) (fun h2 => ?_) | refine Chain.lssD rfl rfl rfl rfl rfl (fun h2 => ?_) (fun h2 => ?_)))
    · have hi' : i < a.length := by omega
      have hi2 : i < b.length := by omega
      have hga : a[i]? = some a[i] := List.getElem?_eq_getElem hi'
      have hgb : b[i]? = some b[i] := List.getElem?_eq_getElem hi2
      have hs : a[i] = b[i] → a.take (i + 1) = b.take (i + 1) := fun h => by rw [List.take_succ_eq_append_getElem hi', List.take_succ_eq_append_getElem hi2, heq, h]
      have hn : ¬ a[i] = b[i] → ¬ a = b := fun h h2 => h (by subst h2; rfl)
      generalize a[i] = x at hga hs hn
      generalize b[i] = y at hgb hs hn
      refine wk ?_
      ((try (first | intro K ms hms hK | intro K hK)); (first | refine Chain.neq rfl rfl rfl rfl rfl (fun h3 => ?_) (fun h3 => ?_) | refine Chain.neqD rfl rfl rfl rfl rfl (fun h3 => ?_) (fun h3 => ?_)))
      · refine wk ?_
        rw [decide_eq_false (hn h3)]
        exact ⟨.d rfl (.inl rfl), trivial⟩
      · refine wk ?_
        exact ⟨i + 1, ⟨by omega, hs (Classical.byContradiction h3)⟩, by omega, ⟨rfl, rfl, rfl, rfl, trivial⟩, trivial⟩
    · rw [List.take_of_length_le (by omega), List.take_of_length_le (by omega)] at heq
      refine wk ?_
      rw [decide_eq_true heq]
      exact ⟨.d rfl (.inl rfl), trivial⟩
end Go.Proofs.YtfijmpmojhlnmaaGreatDoor
