/-
  Packages compact and proof's steps by plain data.
-/
import Derived.Test.YtfijmpmojhlnmaaDoorCmpA
namespace Go.Proofs.YtfijmpmojhlnmaaDoor
open Go.RowKit
attribute [local irreducible] AC Do St
theorem FV.ext {P : Program} {w w' : World} {u r : Value} {x : List DV} (h : FV P w u x r) (hx : Ext w w') : FV P w' u x r := by
  obtain ⟨g, cap, h1, h2, h3⟩ := h
  exact ⟨g, cap, h1, h2, fun S w2 vs h4 => h3 S w2 vs ⟨h4.os.trans hx.os, h4.tape.trans hx.tape, h4.output.trans hx.output, Nat.le_trans hx.size h4.size, fun k hk => (h4.block k (Nat.lt_of_lt_of_le hk hx.size)).trans (hx.block k hk)⟩⟩
theorem Inv.ext0 {C : Cx} {σ : AS} {β : Nat → Value} {a : Act} {w : World} (hi : Inv C σ β a w) (hm : C.m = []) : Ext C.w0 w :=
  ⟨hi.os, hi.tape, hi.output, hi.size, fun k hk => hi.fr k hk (by rintro ⟨_, h, _⟩; rw [hm] at h; cases h)⟩
/-- Where the first number is of which p holds; -1: there is none. -/
def idxI (xs : List Int) (p : Int → Bool) : Int := match xs.findIdx? p with
  | some i => i
  | none => -1
set_option maxRecDepth 100000 in
set_option maxHeartbeats 2000000 in
theorem idxF (xs : List Int) (p : Int → Bool) (u : Value) (hlen : xs.length ≤ 1000000000) : FnK Tryd.prog 32 (fun w => ∀ x ∈ xs, FV Tryd.prog w u [.d (.v (.int .i64 x))] (.bool (p x))) [.d (enZ xs), .d (.v u)] [.d (.v (.int .i64 (idxI xs p)))] := by
  refine FnK.of Tryd.func32 rfl (by kernel_rfl) Tryd.ntmps32 Tryd.results32 rfl fun w0 S0 hK0 => ?_
  refine wk ?_
  refine AC.loop (X := Nat) (fun i => ⟨[(0, .d (enZ xs)), (1, .d (.v u)), (7, .d (.v (.int .i64 (xs.length : Int)))), (8, .d (.v (.int .i64 (i : Int))))], []⟩) (fun i => i ≤ xs.length ∧ ∀ x ∈ xs.take i, p x = false) (fun i => xs.length - i) 0 ⟨Nat.zero_le _, by simp⟩ ⟨rfl, rfl, rfl, rfl, trivial⟩ trivial ?_
  intro i ⟨hi, hb⟩
  refine wk ?_
  ((try (first | intro K ms hms hK | intro K hK)); (first | refine Chain.lss rfl rfl rfl rfl rfl (fun h1 => ?_) (fun h1 => ?_) | refine Chain.lssD rfl rfl rfl rfl rfl (fun h1 => ?_) (fun h1 => ?_)))
  · have hi' : i < xs.length := by omega
    have hget : xs[i]? = some xs[i] := List.getElem?_eq_getElem hi'
    have hF := hK0 xs[i] (List.getElem_mem hi')
    have hno : p xs[i] = false → ∀ x ∈ xs.take (i + 1), p x = false := fun h x hx => by
      rw [List.take_succ_eq_append_getElem hi'] at hx
      rcases List.mem_append.1 hx with hx | hx
      · exact hb x hx
      · rw [List.mem_singleton.1 hx]; exact h
    have hyes : p xs[i] = true → idxI xs p = (i : Int) := fun h => by
      unfold idxI
      have : xs.findIdx? p = some i := by
        rw [List.findIdx?_eq_some_iff_getElem]
        refine ⟨hi', h, fun j hj => ?_⟩
        have := hb xs[j] (List.mem_take_iff_getElem.2 ⟨j, by omega, rfl⟩)
        simp [this]
      rw [this]
    generalize xs[i] = x at hget hF hno hyes
    refine wk ?_
    ((try (first | intro K ms hms hK | intro K hK)); (first | apply Chain.go | apply Chain.goD); exact rfl; exact rfl; exact Loc.callF hF rfl rfl rfl ⟨.inl rfl, trivial⟩ rfl)
    cases hp : p x with
    | true =>
      refine wk ?_
      rw [hyes hp]
      exact ⟨.d rfl (.inl rfl), trivial⟩
    | false =>
      refine wk ?_
      exact ⟨i + 1, ⟨by omega, hno hp⟩, by omega, ⟨rfl, rfl, rfl, rfl, trivial⟩, trivial⟩
  · rw [List.take_of_length_le (by omega)] at hb
    have : idxI xs p = -1 := by
      unfold idxI
      rw [List.findIdx?_eq_none_iff.2 hb]
    refine wk ?_
    rw [this]
    exact ⟨.d rfl (.inl rfl), trivial⟩
theorem idxI_any (xs : List Int) (p : Int → Bool) : decide (0 ≤ idxI xs p) = xs.any p := by
  unfold idxI
  cases h : xs.findIdx? p with
  | none =>
    have := List.findIdx?_eq_none_iff.1 h
    rw [show xs.any p = false from List.any_eq_false.2 fun x hx => by rw [this x hx]; decide]
    rfl
  | some i =>
    rw [List.findIdx?_eq_some_iff_getElem] at h
    obtain ⟨h1, h2, _⟩ := h
    rw [show xs.any p = true from List.any_eq_true.2 ⟨_, List.getElem_mem h1, h2⟩]
    simp
set_option maxRecDepth 100000 in
set_option maxHeartbeats 2000000 in
theorem hasF (xs : List Int) (p : Int → Bool) (u : Value) (hlen : xs.length ≤ 1000000000) : FnK Tryd.prog 22 (fun w => ∀ x ∈ xs, FV Tryd.prog w u [.d (.v (.int .i64 x))] (.bool (p x))) [.d (enZ xs), .d (.v u)] [.d (.v (.bool (xs.any p)))] := by
  rw [← idxI_any]
  refine FnK.of Tryd.func22 rfl (by kernel_rfl) Tryd.ntmps22 Tryd.results22 rfl fun w0 S0 hK0 => ?_
  refine wk ?_
  ((try (first | intro K ms hms hK | intro K hK)); (first | apply Chain.go | apply Chain.goD); exact rfl; exact rfl; exact Loc.callW (R := []) (idxF xs p u hlen) rfl ⟨.inl rfl, .inl rfl, trivial⟩ (fun _ _ _ _ _ hi x hx => (hK0 x hx).ext (hi.ext0 rfl)))
  ((try (first | intro K ms hms hK | intro K hK)); (first | refine Chain.geq rfl rfl rfl rfl rfl (fun h1 => ?_) (fun h1 => ?_) | refine Chain.geqD rfl rfl rfl rfl rfl (fun h1 => ?_) (fun h1 => ?_)))
  · refine wk ?_
    rw [decide_eq_true h1]
    exact ⟨.d rfl (.inl rfl), trivial⟩
  · refine wk ?_
    rw [decide_eq_false h1]
    exact ⟨.d rfl (.inl rfl), trivial⟩
set_option maxRecDepth 100000 in
set_option maxHeartbeats 2000000 in
theorem check1F (k i : Int) : FnB Tryd.prog 23 [.d (.v (.int .i64 k))] [.v (.int .i64 i)] (.bool (decide (k < 0) || decide (i ≤ k))) := by
  refine FnB.of Tryd.func23 rfl (by kernel_rfl) Tryd.ntmps23 Tryd.results23 rfl fun w0 S0 => ?_
  refine wk ?_
  ((try (first | intro K ms hms hK | intro K hK)); (first | refine Chain.lss rfl rfl rfl rfl rfl (fun h1 => ?_) (fun h1 => ?_) | refine Chain.lssD rfl rfl rfl rfl rfl (fun h1 => ?_) (fun h1 => ?_)))
  · refine wk ?_
    rw [decide_eq_true h1]
    exact ⟨.d rfl (.inl rfl), trivial⟩
  · refine wk ?_
    ((try (first | intro K ms hms hK | intro K hK)); (first | refine Chain.geq rfl rfl rfl rfl rfl (fun h2 => ?_) (fun h2 => ?_) | refine Chain.geqD rfl rfl rfl rfl rfl (fun h2 => ?_) (fun h2 => ?_)))
    · refine wk ?_
      rw [decide_eq_false h1, decide_eq_true h2]
      exact ⟨.d rfl (.inl rfl), trivial⟩
    · refine wk ?_
      rw [decide_eq_false h1, decide_eq_false h2]
      exact ⟨.d rfl (.inl rfl), trivial⟩
set_option maxRecDepth 100000 in
set_option maxHeartbeats 2000000 in
theorem checkF (l : List Stp) (hl : l.length ≤ 300000) (hpl : ∀ s ∈ l, s.pr.length ≤ 1000000) : Fn Tryd.prog 15 [.d (.l (l.map enS))] [.d (.v (.int .i64 (chkI l)))] := by
  refine Fn.of Tryd.func15 rfl (by kernel_rfl) Tryd.ntmps15 Tryd.results15 rfl fun w0 S0 => ?_
  refine wk ?_
  refine AC.loop (X := Nat) (fun i => ⟨[(8, .d (.l (l.map enS))), (9, .d (.v (.int .i64 (l.length : Int)))), (10, .d (.v (.int .i64 (i : Int))))], []⟩) (fun i => i ≤ l.length ∧ okTo l i) (fun i => l.length - i) 0 ⟨Nat.zero_le _, fun i _ h => by omega⟩ ⟨rfl, rfl, rfl, trivial⟩ trivial ?_
  intro i ⟨hi, hok⟩
  refine wk ?_
  ((try (first | intro K ms hms hK | intro K hK)); (first | refine Chain.lss rfl rfl rfl rfl rfl (fun h1 => ?_) (fun h1 => ?_) | refine Chain.lssD rfl rfl rfl rfl rfl (fun h1 => ?_) (fun h1 => ?_)))
  · have hi' : i < l.length := by omega
    have hget : l[i]? = some l[i] := List.getElem?_eq_getElem hi'
    have hno := chk_no hi'
    have hsl := hpl l[i] (List.getElem_mem hi')
    have hok2 : badP i l[i].pr = false → okTo l (i + 1) := fun h j hj hj2 => by
      by_cases e : j = i
      · subst e; exact h
      · exact hok j hj (by omega)
    generalize l[i] = s at hget hno hok2 hsl
    refine wk ?_
    (first | intro K ms hms hK | intro K hK)
    refine Chain.pin 3 3 [.v (.int .i64 (i : Int))] rfl rfl fun b => ?_
    ((try (first | intro K ms hms hK | intro K hK)); (first | apply Chain.go | apply Chain.goD); exact rfl; exact rfl; exact Loc.mkFn rfl rfl)
    ((try (first | intro K ms hms hK | intro K hK)); (first | apply Chain.go | apply Chain.goD); exact rfl; exact rfl; exact Loc.callW (R := [3]) (hasF s.pr (fun k => decide (k < 0) || decide ((i : Int) ≤ k)) _ (by omega)) rfl ⟨.inl rfl, .inl rfl, trivial⟩ (fun _ _ _ _ hR hi k _ => (check1F k i).here hi (id := 3) (by rw [hR 3 (by simp)]; rfl)))
    cases hp : s.pr.any (fun k => decide (k < 0) || decide ((i : Int) ≤ k)) with
    | true =>
      refine wk ?_
      rw [hno hp]
      exact ⟨.d rfl (.inl rfl), trivial⟩
    | false =>
      refine wk ?_
      exact ⟨i + 1, ⟨by omega, hok2 hp⟩, by omega, ⟨rfl, rfl, rfl, trivial⟩, trivial⟩
  · have : chkI l = 0 := chk_ok fun j hj _ => hok j hj (by omega)
    refine wk ?_
    rw [this]
    exact ⟨.d rfl (.inl rfl), trivial⟩
end Go.Proofs.YtfijmpmojhlnmaaDoor
