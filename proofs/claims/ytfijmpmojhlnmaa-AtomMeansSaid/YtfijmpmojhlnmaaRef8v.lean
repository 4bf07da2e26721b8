/-
  attestref08 by plain data, more: the variables of some expressions; one sum of two.
-/
import Derived.Test.YtfijmpmojhlnmaaRef8
namespace Go.Proofs.Ytfijmpmojhlnmaa
open Go.RowKit
attribute [local irreducible] AC Do St
/-- One variable into a rising list, as the loop does it. -/
def insStep (x : Int) (s : List Int × Bool) (v : Int) : List Int × Bool :=
  let s1 := if s.2 = false ∧ x ≤ v then (s.1 ++ [x], true) else s
  if v ≠ x then (s1.1 ++ [v], s1.2) else s1
def insV (out : List Int) (x : Int) : List Int :=
  let s := out.foldl (insStep x) ([], false)
  if s.2 then s.1 else s.1 ++ [x]
def varsT (vs : List Int) (l : List Tm) : List Int := l.foldl (fun o t => insV o t.1) vs
def varsE (es : List Ex) : List Int := es.foldl (fun o e => varsT o e.t) []
theorem insStep_len (x : Int) (s : List Int × Bool) (v : Int) : (insStep x s v).1.length ≤ s.1.length + 2 := by
  unfold insStep
  simp only
  split <;> split <;> simp
def enI (l : List Int) : D := .l (l.map fun v => [.v (.int .i64 v)])
def ivs (l : List Int) : List (List D) := l.map fun v => [.v (.int .i64 v)]
theorem foldl_take {α β : Type} (f : β → α → β) (b : β) {l : List α} {i : Nat} (hi : i < l.length) : (l.take (i + 1)).foldl f b = f ((l.take i).foldl f b) l[i] := by
  rw [List.take_succ_eq_append_getElem hi, List.foldl_append]; rfl
theorem insFold_len (x : Int) : ∀ (out : List Int) (s : List Int × Bool), (out.foldl (insStep x) s).1.length ≤ s.1.length + 2 * out.length
  | [], s => by simp
  | v :: r, s => by
    have h1 := insStep_len x s v
    have h2 := insFold_len x r (insStep x s v)
    simp only [List.foldl_cons, List.length_cons]
    omega
/-- Into a rising list: rising, with one more. -/
theorem insV_spec (x : Int) : ∀ (out : List Int), out.Pairwise (· < ·) → insV out x = out.filter (· < x) ++ [x] ++ out.filter (x < ·) := by
  have skip : ∀ (out : List Int) (a : List Int), (∀ v ∈ out, x < v) → out.foldl (insStep x) (a, true) = (a ++ out, true) := by
    intro out
    induction out with
    | nil => intro a _; simp
    | cons v r ih =>
      intro a h
      have hv := h v (by simp)
      rw [List.foldl_cons]
      have : insStep x (a, true) v = (a ++ [v], true) := by unfold insStep; simp; omega
      rw [this, ih _ (fun u hu => h u (by simp [hu]))]
      simp
  have key : ∀ (out : List Int) (a : List Int), out.Pairwise (· < ·) → (let s := out.foldl (insStep x) (a, false); if s.2 then s.1 else s.1 ++ [x]) = a ++ out.filter (· < x) ++ [x] ++ out.filter (x < ·) := by
    intro out
    induction out with
    | nil => intro a _; simp
    | cons v r ih =>
      intro a hp
      obtain ⟨h1, h2⟩ := List.pairwise_cons.1 hp
      rw [List.foldl_cons]
      by_cases hlt : v < x
      · have : insStep x (a, false) v = (a ++ [v], false) := by
          unfold insStep
          have h3 : ¬ x ≤ v := by omega
          have h4 : v ≠ x := by omega
          simp [h3, h4]
        rw [this]
        have := ih (a ++ [v]) h2
        simp only at this
        rw [this]
        have h3 : ¬ x < v := by omega
        simp [hlt, h3]
      · have hall : ∀ u ∈ r, x < u := fun u hu => by have := h1 u hu; omega
        have hf1 : r.filter (· < x) = [] := List.filter_eq_nil_iff.2 fun u hu => by have := hall u hu; simp; omega
        have hf2 : r.filter (x < ·) = r := List.filter_eq_self.2 fun u hu => by simpa using hall u hu
        by_cases he : v = x
        · have : insStep x (a, false) v = (a ++ [x], true) := by
            unfold insStep
            have h3 : x ≤ v := by omega
            simp [he]
          rw [this, skip r _ hall]
          simp [he, hf1, hf2]
        · have hgt : x < v := by omega
          have : insStep x (a, false) v = (a ++ [x] ++ [v], true) := by
            unfold insStep
            have h3 : x ≤ v := by omega
            simp [h3, he]
          rw [this, skip r _ hall]
          simp [hlt, hgt, hf1, hf2]
  intro out hp
  have := key out [] hp
  simpa [insV] using this
theorem insV_rising {x : Int} {out : List Int} (h : out.Pairwise (· < ·)) : (insV out x).Pairwise (· < ·) ∧ (∀ v, v ∈ insV out x ↔ v = x ∨ v ∈ out) ∧ (insV out x).length ≤ out.length + 1 := by
  rw [insV_spec x out h]
  refine ⟨?_, fun v => ?_, ?_⟩
  · rw [List.append_assoc, List.pairwise_append]
    refine ⟨h.filter _, ?_, fun a ha b hb => ?_⟩
    · rw [List.singleton_append, List.pairwise_cons]
      exact ⟨fun b hb => by simpa using (List.mem_filter.1 hb).2, h.filter _⟩
    · have h1 : a < x := by simpa using (List.mem_filter.1 ha).2
      rcases List.mem_append.1 hb with hb | hb
      · have : b = x := by simpa using hb
        omega
      · have : x < b := by simpa using (List.mem_filter.1 hb).2
        omega
  · simp only [List.mem_append, List.mem_filter, List.mem_singleton, decide_eq_true_eq]
    constructor
    · rintro ((⟨h1, _⟩ | h1) | ⟨h1, _⟩)
      · exact .inr h1
      · exact .inl h1
      · exact .inr h1
    · rintro (h1 | h1)
      · exact .inl (.inr h1)
      · rcases Int.lt_trichotomy v x with h2 | h2 | h2
        · exact .inl (.inl ⟨h1, h2⟩)
        · exact .inl (.inr h2)
        · exact .inr ⟨h1, h2⟩
  · have hc : ∀ l : List Int, (l.filter (· < x)).length + (l.filter (x < ·)).length ≤ l.length := by
      intro l
      induction l with
      | nil => simp
      | cons a r ih =>
        simp only [List.filter_cons, List.length_cons]
        by_cases h1 : a < x
        · have h2 : ¬ x < a := by omega
          simp [h1, h2]; omega
        · rw [if_neg (by simpa using h1)]
          split <;> (try simp only [List.length_cons]) <;> omega
    have := hc out
    simp; omega
theorem varsT_spec : ∀ (l : List Tm) (vs : List Int), vs.Pairwise (· < ·) → (varsT vs l).Pairwise (· < ·) ∧ (∀ v, v ∈ varsT vs l ↔ v ∈ vs ∨ ∃ t ∈ l, t.1 = v) ∧ (varsT vs l).length ≤ vs.length + l.length
  | [], vs, h => ⟨h, fun v => by simp [varsT], by simp [varsT]⟩
  | t :: l, vs, h => by
    obtain ⟨h1, h2, h3⟩ := insV_rising (x := t.1) h
    obtain ⟨q1, q2, q3⟩ := varsT_spec l (insV vs t.1) h1
    refine ⟨q1, fun v => ?_, ?_⟩
    · show v ∈ varsT (insV vs t.1) l ↔ _
      rw [q2, h2]
      constructor
      · rintro ((h | h) | ⟨u, hu, hv⟩)
        · exact .inr ⟨t, by simp, h.symm⟩
        · exact .inl h
        · exact .inr ⟨u, by simp [hu], hv⟩
      · rintro (h | ⟨u, hu, hv⟩)
        · exact .inl (.inr h)
        · rcases List.mem_cons.1 hu with e | hu
          · subst e; exact .inl (.inl hv.symm)
          · exact .inr ⟨u, hu, hv⟩
    · show (varsT (insV vs t.1) l).length ≤ _
      simp only [List.length_cons]
      omega
def tot (es : List Ex) : Nat := (es.map fun e => e.t.length).sum
theorem varsE_spec' : ∀ (es : List Ex) (vs : List Int), vs.Pairwise (· < ·) → (es.foldl (fun o e => varsT o e.t) vs).Pairwise (· < ·) ∧ (∀ v, v ∈ es.foldl (fun o e => varsT o e.t) vs ↔ v ∈ vs ∨ ∃ e ∈ es, ∃ t ∈ e.t, t.1 = v) ∧ (es.foldl (fun o e => varsT o e.t) vs).length ≤ vs.length + tot es
  | [], vs, h => ⟨h, fun v => by simp, by simp [tot]⟩
  | e :: es, vs, h => by
    obtain ⟨h1, h2, h3⟩ := varsT_spec e.t vs h
    obtain ⟨q1, q2, q3⟩ := varsE_spec' es (varsT vs e.t) h1
    refine ⟨q1, fun v => ?_, ?_⟩
    · rw [List.foldl_cons, q2, h2]
      constructor
      · rintro ((h | ⟨t, ht, hv⟩) | ⟨e', he, t, ht, hv⟩)
        · exact .inl h
        · exact .inr ⟨e, by simp, t, ht, hv⟩
        · exact .inr ⟨e', by simp [he], t, ht, hv⟩
      · rintro (h | ⟨e', he, t, ht, hv⟩)
        · exact .inl (.inl h)
        · rcases List.mem_cons.1 he with e2 | he
          · subst e2; exact .inl (.inr ⟨t, ht, hv⟩)
          · exact .inr ⟨e', he, t, ht, hv⟩
    · rw [List.foldl_cons]
      simp only [tot, List.map_cons, List.sum_cons] at q3 ⊢
      omega
theorem varsE_spec (es : List Ex) : (varsE es).Pairwise (· < ·) ∧ (∀ v, v ∈ varsE es ↔ ∃ e ∈ es, ∃ t ∈ e.t, t.1 = v) ∧ (varsE es).length ≤ tot es := by
  obtain ⟨h1, h2, h3⟩ := varsE_spec' es [] .nil
  exact ⟨h1, fun v => (h2 v).trans (by simp), Nat.le_trans h3 (by simp)⟩
theorem ivs_snoc (l : List Int) (x : Int) : ivs (l ++ [x]) = ivs l ++ [[.v (.int .i64 x)]] := by simp [ivs]
set_option maxRecDepth 100000 in
set_option maxHeartbeats 2000000 in
theorem varsQ (es : List Ex) (hl : es.length ≤ 1000) (ht : ∀ e ∈ es, e.t.length ≤ 1000000) : Fn Try.prog 39 [.d (.l (es.map enEQ))] [.d (enI (varsE es))] := by
  have hpre : ∀ i, i ≤ es.length → ((es.take i).foldl (fun o e => varsT o e.t) []).Pairwise (· < ·) ∧ ((es.take i).foldl (fun o e => varsT o e.t) []).length ≤ i * 1000000 := fun i hi => by
    obtain ⟨h1, _, h3⟩ := varsE_spec (es.take i)
    refine ⟨h1, Nat.le_trans h3 ?_⟩
    have : ∀ l : List Ex, (∀ e ∈ l, e.t.length ≤ 1000000) → tot l ≤ l.length * 1000000 := by
      intro l
      induction l with
      | nil => simp [tot]
      | cons e r ih =>
        intro h
        have h1 := h e (by simp)
        have h2 := ih (fun e he => h e (by simp [he]))
        simp only [tot, List.map_cons, List.sum_cons, List.length_cons] at h2 ⊢
        rw [Nat.add_mul]
        omega
    have h2 := this (es.take i) (fun e he => ht e (List.mem_of_mem_take he))
    rwa [List.length_take, Nat.min_eq_left hi] at h2
  refine Fn.of Try.func39 rfl (by kernel_rfl) Try.ntmps39 Try.results39 rfl fun w0 S0 => ?_
  refine wk ?_
  refine AC.frzVar 3 rfl rfl ?_
  refine AC.loop (X := Nat × List Int) (fun x => ⟨[(3, .d (.l (ivs x.2))), (13, .d (.l (es.map enEQ))), (14, .d (.v (.int .i64 (es.length : Int)))), (15, .d (.v (.int .i64 (x.1 : Int))))], []⟩) (fun x => x.1 ≤ es.length ∧ x.2 = (es.take x.1).foldl (fun o e => varsT o e.t) []) (fun x => es.length - x.1) (0, []) ⟨Nat.zero_le _, rfl⟩ ⟨rfl, rfl, rfl, rfl, trivial⟩ trivial ?_
  rintro ⟨i, vs⟩ ⟨hi, hvs⟩
  simp only at hi hvs
  dsimp only
  obtain ⟨hvp, hvl⟩ := hpre i hi
  rw [← hvs] at hvp hvl
  refine wk ?_
  (first | intro K ms hms hK | intro K hK)
  ((try (first | intro K ms hms hK | intro K hK)); (first | refine Chain.lss rfl rfl rfl rfl rfl (fun h1 => ?_) (fun h1 => ?_) | refine Chain.lssD rfl rfl rfl rfl rfl (fun h1 => ?_) (fun h1 => ?_)))
  · have hi' : i < es.length := by omega
    have hget : es[i]? = some es[i] := List.getElem?_eq_getElem hi'
    have hti := ht es[i] (List.getElem_mem hi')
    have hfold := foldl_take (fun o (e : Ex) => varsT o e.t) [] hi'
    refine wk ?_
    -- the terms of one expression
    refine AC.loopW (X := Nat × List Int) (fun x => ⟨[(3, .d (.l (ivs x.2))), (13, .d (.l (es.map enEQ))), (14, .d (.v (.int .i64 (es.length : Int)))), (15, .d (.v (.int .i64 (i : Int)))), (20, .d (.l (es[i].t.map enTQ))), (21, .d (.v (.int .i64 (es[i].t.length : Int)))), (22, .d (.v (.int .i64 (x.1 : Int))))], []⟩) (fun x => x.1 ≤ es[i].t.length ∧ x.2 = varsT vs (es[i].t.take x.1)) (fun x => es[i].t.length - x.1) (0, vs) ⟨Nat.zero_le _, rfl⟩ (fun _ _ hs => hs.sub ⟨rfl, rfl, rfl, rfl, rfl, rfl, rfl, trivial⟩ trivial) ?_
    rintro ⟨j, us⟩ ⟨hj, hus⟩
    simp only at hj hus
    dsimp only
    obtain ⟨hup, _, hul⟩ := varsT_spec (es[i].t.take j) vs hvp
    rw [← hus] at hup hul
    have hul2 : us.length ≤ 2000000000 := by
      have : (es[i].t.take j).length ≤ j := by simp; omega
      have : i * 1000000 ≤ 1000 * 1000000 := Nat.mul_le_mul_right _ (by omega)
      omega
    refine wk ?_
    (first | intro K ms hms hK | intro K hK)
    ((try (first | intro K ms hms hK | intro K hK)); (first | refine Chain.lss rfl rfl rfl rfl rfl (fun h2 => ?_) (fun h2 => ?_) | refine Chain.lssD rfl rfl rfl rfl rfl (fun h2 => ?_) (fun h2 => ?_)))
    · have hj' : j < es[i].t.length := by omega
      have hgetj : es[i].t[j]? = some es[i].t[j] := List.getElem?_eq_getElem hj'
      have hfoldj : varsT vs (es[i].t.take (j + 1)) = insV us es[i].t[j].1 := by
        rw [hus]; exact foldl_take (fun o (t : Tm) => insV o t.1) vs hj'
      generalize hx : es[i].t[j].1 = x at hfoldj
      refine wk ?_
      -- one variable into the list
      refine AC.loop (X := Nat × List Int × Bool × Nat) (fun y => ⟨[(7, .p 7 0), (8, .r 26 y.2.2.2), (9, .d (.v (.bool y.2.2.1))), (13, .d (.l (es.map enEQ))), (14, .d (.v (.int .i64 (es.length : Int)))), (15, .d (.v (.int .i64 (i : Int)))), (20, .d (.l (es[i].t.map enTQ))), (21, .d (.v (.int .i64 (es[i].t.length : Int)))), (22, .d (.v (.int .i64 (j : Int)))), (27, .d (.l (us.map fun v => [.v (.int .i64 v)]))), (28, .d (.v (.int .i64 (us.length : Int)))), (29, .d (.v (.int .i64 (y.1 : Int))))], [(7, .box 96 (.d (.v (.int .i64 x)) :: (enQ es[i].t[j].2).map .d)), (26, .row y.2.2.2 3 1 (ivs y.2.1))]⟩) (fun y => y.1 ≤ us.length ∧ (y.2.1, y.2.2.1) = (us.take y.1).foldl (insStep x) ([], false)) (fun y => us.length - y.1) (0, [], false, 0) ⟨Nat.zero_le _, rfl⟩ ⟨rfl, rfl, rfl, rfl, rfl, rfl, rfl, rfl, rfl, rfl, rfl, rfl, trivial⟩ ⟨by rw [← hx]; rfl, rfl, trivial⟩ ?_
      rintro ⟨m, nx, dn, g⟩ ⟨hm, hs⟩
      simp only at hm hs
      dsimp only
      have hnl : nx.length ≤ 2 * m := by
        have := insFold_len x (us.take m) ([], false)
        rw [← hs] at this
        simp at this
        omega
      have hil : (ivs nx).length = nx.length := by simp [ivs]
      have hil1 : (ivs nx ++ [[D.v (.int .i64 x)]]).length = nx.length + 1 := by simp [ivs]
      refine wk ?_
      (first | intro K ms hms hK | intro K hK)
      ((try (first | intro K ms hms hK | intro K hK)); (first | refine Chain.lss rfl rfl rfl rfl rfl (fun h3 => ?_) (fun h3 => ?_) | refine Chain.lssD rfl rfl rfl rfl rfl (fun h3 => ?_) (fun h3 => ?_)))
      · have hm' : m < us.length := by omega
        have hgetm : us[m]? = some us[m] := List.getElem?_eq_getElem hm'
        have hfm : insStep x (nx, dn) us[m] = (us.take (m + 1)).foldl (insStep x) ([], false) := by
          rw [foldl_take (insStep x) ([], false) hm', ← hs]
        generalize hv : us[m] = v at hfm hgetm
        have fin1 : ∀ (nx' : List Int) (dn' : Bool), insStep x (nx, dn) v = (nx', dn') → (nx', dn') = (us.take (m + 1)).foldl (insStep x) ([], false) := fun nx' dn' h => by rw [← h]; exact hfm
        cases dn with
        | false =>
          refine wk ?_
          ((try (first | intro K ms hms hK | intro K hK)); (first | refine Chain.geq rfl rfl rfl rfl rfl (fun h4 => ?_) (fun h4 => ?_) | refine Chain.geqD rfl rfl rfl rfl rfl (fun h4 => ?_) (fun h4 => ?_)))
          · refine wk ?_
            ((try (first | intro K ms hms hK | intro K hK)); (first | refine Chain.neq rfl rfl rfl rfl rfl (fun h5 => ?_) (fun h5 => ?_) | refine Chain.neqD rfl rfl rfl rfl rfl (fun h5 => ?_) (fun h5 => ?_)))
            · refine wk ?_
              refine ⟨(m + 1, nx ++ [x] ++ [v], true, g + 1 + 1), ⟨by simp only; omega, fin1 _ _ (by unfold insStep; simp [h4, h5])⟩, by simp only; omega, ⟨rfl, rfl, rfl, rfl, rfl, rfl, rfl, rfl, rfl, rfl, rfl, rfl, trivial⟩, ⟨rfl, by rw [ivs_snoc, ivs_snoc]; rfl, trivial⟩⟩
            · refine wk ?_
              refine ⟨(m + 1, nx ++ [x], true, g + 1), ⟨by simp only; omega, fin1 _ _ (by unfold insStep; simp [h4, h5])⟩, by simp only; omega, ⟨rfl, rfl, rfl, rfl, rfl, rfl, rfl, rfl, rfl, rfl, rfl, rfl, trivial⟩, ⟨rfl, by rw [ivs_snoc]; rfl, trivial⟩⟩
          · have h5 : v ≠ x := by omega
            refine wk ?_
            refine ⟨(m + 1, nx ++ [v], false, g + 1), ⟨by simp only; omega, fin1 _ _ (by unfold insStep; simp [h4, h5])⟩, by simp only; omega, ⟨rfl, rfl, rfl, rfl, rfl, rfl, rfl, rfl, rfl, rfl, rfl, rfl, trivial⟩, ⟨rfl, by rw [ivs_snoc]; rfl, trivial⟩⟩
        | true =>
          refine wk ?_
          ((try (first | intro K ms hms hK | intro K hK)); (first | refine Chain.neq rfl rfl rfl rfl rfl (fun h5 => ?_) (fun h5 => ?_) | refine Chain.neqD rfl rfl rfl rfl rfl (fun h5 => ?_) (fun h5 => ?_)))
          · refine wk ?_
            refine ⟨(m + 1, nx ++ [v], true, g + 1), ⟨by simp only; omega, fin1 _ _ (by unfold insStep; simp [h5])⟩, by simp only; omega, ⟨rfl, rfl, rfl, rfl, rfl, rfl, rfl, rfl, rfl, rfl, rfl, rfl, trivial⟩, ⟨rfl, by rw [ivs_snoc]; rfl, trivial⟩⟩
          · refine wk ?_
            refine ⟨(m + 1, nx, true, g), ⟨by simp only; omega, fin1 _ _ (by unfold insStep; simp [h5])⟩, by simp only; omega, ⟨rfl, rfl, rfl, rfl, rfl, rfl, rfl, rfl, rfl, rfl, rfl, rfl, trivial⟩, ⟨rfl, rfl, trivial⟩⟩
      · have hmu : us.take m = us := List.take_of_length_le (by omega)
        rw [hmu] at hs
        have hins : insV us x = if dn then nx else nx ++ [x] := by unfold insV; simp only [← hs]
        cases dn with
        | false =>
          refine wk ?_
          refine ⟨(j + 1, nx ++ [x]), ⟨by simp only; omega, by simp only; rw [hfoldj, hins]; rfl⟩, by simp only; omega, fun a w hs => (St.frzVar 3 rfl rfl hs).sub ⟨by rw [ivs_snoc]; rfl, rfl, rfl, rfl, rfl, rfl, rfl, trivial⟩ trivial⟩
        | true =>
          refine wk ?_
          refine ⟨(j + 1, nx), ⟨by simp only; omega, by simp only; rw [hfoldj, hins]; rfl⟩, by simp only; omega, fun a w hs => (St.frzVar 3 rfl rfl hs).sub ⟨rfl, rfl, rfl, rfl, rfl, rfl, rfl, trivial⟩ trivial⟩
    · have hju : es[i].t.take j = es[i].t := List.take_of_length_le (by omega)
      rw [hju] at hus
      refine wk ?_
      refine ⟨(i + 1, us), ⟨by simp only; omega, by simp only; rw [hfold, ← hvs]; exact hus⟩, by simp only; omega, ⟨rfl, rfl, rfl, rfl, trivial⟩, trivial⟩
  · have hie : es.take i = es := List.take_of_length_le (by omega)
    rw [hie] at hvs
    refine wk ?_
    refine ⟨.d rfl (.inl ?_), trivial⟩
    rw [hvs]; rfl
end Go.Proofs.Ytfijmpmojhlnmaa
