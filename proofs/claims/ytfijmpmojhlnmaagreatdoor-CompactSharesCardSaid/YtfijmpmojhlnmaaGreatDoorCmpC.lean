/-
  Packages compact and proof's steps by plain data.
  Packages compact and proof's steps by plain data.
  Packages compact and proof's steps by plain data.
-/
import Derived.Test.YtfijmpmojhlnmaaGreatDoorCmpA
import Derived.Test.YtfijmpmojhlnmaaGreatDoorCmpB
namespace Go.Proofs.YtfijmpmojhlnmaaGreatDoor
open Go.RowKit
attribute [local irreducible] AC Do St
theorem FV.ext {P : Program} {w w' : World} {u r : Value} {x : List DV} (h : FV P w u x r) (hx : Ext w w') : FV P w' u x r := by
  obtain ⟨g, cap, h1, h2, h3⟩ := h
  exact ⟨g, cap, h1, h2, fun S w2 vs h4 => h3 S w2 vs ⟨h4.os.trans hx.os, h4.tape.trans hx.tape, h4.output.trans hx.output, Nat.le_trans hx.size h4.size, fun k hk => (h4.block k (Nat.lt_of_lt_of_le hk hx.size)).trans (hx.block k hk)⟩⟩
theorem Inv.ext0 {C : Cx} {σ : AS} {β : Nat → Value} {a : Act} {w : World} (hi : Inv C σ β a w) (hm : C.m = []) : Ext C.w0 w :=
  ⟨hi.os, hi.tape, hi.output, hi.size, fun k hk => hi.fr k hk (by rintro ⟨_, h, _⟩; rw [hm] at h; cases h)⟩
/-- Where the first number is of which p holds; -1: there is none. -/
def idxI (xs : List Int) (p : Int → Bool) : Int := match xs.findIdx? p with
  | some i => i
  | none => -1
set_option maxRecDepth 100000 in
set_option maxHeartbeats 2000000 in
theorem idxF (xs : List Int) (p : Int → Bool) (u : Value) (hlen : xs.length ≤ 1000000000) : FnK Tryz.prog 73 (fun w => ∀ x ∈ xs, FV Tryz.prog w u [.d (.v (.int .i64 x))] (.bool (p x))) [.d (enZ xs), .d (.v u)] [.d (.v (.int .i64 (idxI xs p)))] := by
  refine FnK.of Tryz.func73 rfl (by kernel_rfl) Tryz.ntmps73 Tryz.results73 rfl fun w0 S0 hK0 => ?_
  refine wk ?_
  refine AC.loop (X := Nat) (fun i => ⟨[(0, .d (enZ xs)), (1, .d (.v u)), (7, .d (.v (.int .i64 (xs.length : Int)))), (8, .d (.v (.int .i64 (i : Int))))], []⟩) (fun i => i ≤ xs.length ∧ ∀ x ∈ xs.take i, p x = false) (fun i => xs.length - i) 0 ⟨Nat.zero_le _, by simp⟩ ⟨rfl, rfl, rfl, rfl, trivial⟩ trivial ?_
  intro i ⟨hi, hb⟩
  refine wk ?_
  ((try (first | intro K ms hms hK | intro K hK)); (first | refine Chain.lss rfl rfl rfl rfl rfl (fun h1 => ?_) (fun h1 => ?_) | refine Chain.lssD rfl rfl rfl rfl rfl (fun h1 => ?_) (fun h1 => ?_)))
  · have hi' : i < xs.length := by omega
    have hget : xs[i]? = some xs[i] := List.getElem?_eq_getElem hi'
    have hF := hK0 xs[i] (List.getElem_mem hi')
    have hno : p xs[i] = false → ∀ x ∈ xs.take (i + 1), p x = false := fun h x hx => by
      rw [List.take_succ_eq_append_getElem hi'] at hx
      rcases List.mem_append.1 hx with hx | hx
      · exact hb x hx
      · rw [List.mem_singleton.1 hx]; exact h
    have hyes : p xs[i] = true → idxI xs p = (i : Int) := fun h => by
      unfold idxI
      have : xs.findIdx? p = some i := by
        rw [List.findIdx?_eq_some_iff_getElem]
        refine ⟨hi', h, fun j hj => ?_⟩
        have := hb xs[j] (List.mem_take_iff_getElem.2 ⟨j, by omega, rfl⟩)
        simp [this]
      rw [this]
    generalize xs[i] = x at hget hF hno hyes
    refine wk ?_
    ((try (first | intro K ms hms hK | intro K hK)); (first | apply Chain.go | apply Chain.goD); exact rfl; exact rfl; exact Loc.callF hF rfl rfl rfl ⟨.inl rfl, trivial⟩ rfl)
    cases hp : p x with
    | true =>
      refine wk ?_
      rw [hyes hp]
      exact ⟨.d rfl (.inl rfl), trivial⟩
    | false =>
      refine wk ?_
      exact ⟨i + 1, ⟨by omega, hno hp⟩, by omega, ⟨rfl, rfl, rfl, rfl, trivial⟩, trivial⟩
  · rw [List.take_of_length_le (by omega)] at hb
    have : idxI xs p = -1 := by
      unfold idxI
      rw [List.findIdx?_eq_none_iff.2 hb]
    refine wk ?_
    rw [this]
    exact ⟨.d rfl (.inl rfl), trivial⟩
theorem idxI_any (xs : List Int) (p : Int → Bool) : decide (0 ≤ idxI xs p) = xs.any p := by
  unfold idxI
  cases h : xs.findIdx? p with
  | none =>
    have := List.findIdx?_eq_none_iff.1 h
    rw [show xs.any p = false from List.any_eq_false.2 fun x hx => by rw [this x hx]; decide]
    rfl
  | some i =>
    rw [List.findIdx?_eq_some_iff_getElem] at h
    obtain ⟨h1, h2, _⟩ := h
    rw [show xs.any p = true from List.any_eq_true.2 ⟨_, List.getElem_mem h1, h2⟩]
    simp
set_option maxRecDepth 100000 in
set_option maxHeartbeats 2000000 in
theorem hasF (xs : List Int) (p : Int → Bool) (u : Value) (hlen : xs.length ≤ 1000000000) : FnK Tryz.prog 43 (fun w => ∀ x ∈ xs, FV Tryz.prog w u [.d (.v (.int .i64 x))] (.bool (p x))) [.d (enZ xs), .d (.v u)] [.d (.v (.bool (xs.any p)))] := by
  rw [← idxI_any]
  refine FnK.of Tryz.func43 rfl (by kernel_rfl) Tryz.ntmps43 Tryz.results43 rfl fun w0 S0 hK0 => ?_
  refine wk ?_
  ((try (first | intro K ms hms hK | intro K hK)); (first | apply Chain.go | apply Chain.goD); exact rfl; exact rfl; exact Loc.callW (R := []) (idxF xs p u hlen) rfl ⟨.inl rfl, .inl rfl, trivial⟩ (fun _ _ _ _ _ hi x hx => (hK0 x hx).ext (hi.ext0 rfl)))
  ((try (first | intro K ms hms hK | intro K hK)); (first | refine Chain.geq rfl rfl rfl rfl rfl (fun h1 => ?_) (fun h1 => ?_) | refine Chain.geqD rfl rfl rfl rfl rfl (fun h1 => ?_) (fun h1 => ?_)))
  · refine wk ?_
    rw [decide_eq_true h1]
    exact ⟨.d rfl (.inl rfl), trivial⟩
  · refine wk ?_
    rw [decide_eq_false h1]
    exact ⟨.d rfl (.inl rfl), trivial⟩
set_option maxRecDepth 100000 in
set_option maxHeartbeats 2000000 in
theorem check1F (k i : Int) : FnB Tryz.prog 44 [.d (.v (.int .i64 k))] [.v (.int .i64 i)] (.bool (decide (k < 0) || decide (i ≤ k))) := by
  refine FnB.of Tryz.func44 rfl (by kernel_rfl) Tryz.ntmps44 Tryz.results44 rfl fun w0 S0 => ?_
  refine wk ?_
  ((try (first | intro K ms hms hK | intro K hK)); (first | refine Chain.lss rfl rfl rfl rfl rfl (fun h1 => ?_) (fun h1 => ?_) | refine Chain.lssD rfl rfl rfl rfl rfl (fun h1 => ?_) (fun h1 => ?_)))
  · refine wk ?_
    rw [decide_eq_true h1]
    exact ⟨.d rfl (.inl rfl), trivial⟩
  · refine wk ?_
    ((try (first | intro K ms hms hK | intro K hK)); (first | refine Chain.geq rfl rfl rfl rfl rfl (fun h2 => ?_) (fun h2 => ?_) | refine Chain.geqD rfl rfl rfl rfl rfl (fun h2 => ?_) (fun h2 => ?_)))
    · refine wk ?_
      rw [decide_eq_false h1, decide_eq_true h2]
      exact ⟨.d rfl (.inl rfl), trivial⟩
    · refine wk ?_
      rw [decide_eq_false h1, decide_eq_false h2]
      exact ⟨.d rfl (.inl rfl), trivial⟩
set_option maxRecDepth 100000 in
set_option maxHeartbeats 2000000 in
theorem checkF (l : List Stp) (hl : l.length ≤ 300000) (hpl : ∀ s ∈ l, s.pr.length ≤ 1000000) : Fn Tryz.prog 11 [.d (.l (l.map enS))] [.d (.v (.int .i64 (chkI l)))] := by
  refine Fn.of Tryz.func11 rfl (by kernel_rfl) Tryz.ntmps11 Tryz.results11 rfl fun w0 S0 => ?_
  refine wk ?_
  refine AC.loop (X := Nat) (fun i => ⟨[(8, .d (.l (l.map enS))), (9, .d (.v (.int .i64 (l.length : Int)))), (10, .d (.v (.int .i64 (i : Int))))], []⟩) (fun i => i ≤ l.length ∧ okTo l i) (fun i => l.length - i) 0 ⟨Nat.zero_le _, fun i _ h => by omega⟩ ⟨rfl, rfl, rfl, trivial⟩ trivial ?_
  intro i ⟨hi, hok⟩
  refine wk ?_
  ((try (first | intro K ms hms hK | intro K hK)); (first | refine Chain.lss rfl rfl rfl rfl rfl (fun h1 => ?_) (fun h1 => ?_) | refine Chain.lssD rfl rfl rfl rfl rfl (fun h1 => ?_) (fun h1 => ?_)))
  · have hi' : i < l.length := by omega
    have hget : l[i]? = some l[i] := List.getElem?_eq_getElem hi'
    have hno := chk_no hi'
    have hsl := hpl l[i] (List.getElem_mem hi')
    have hok2 : badP i l[i].pr = false → okTo l (i + 1) := fun h j hj hj2 => by
      by_cases e : j = i
      · subst e; exact h
      · exact hok j hj (by omega)
    generalize l[i] = s at hget hno hok2 hsl
    refine wk ?_
    (first | intro K ms hms hK | intro K hK)
    refine Chain.pin 3 3 [.v (.int .i64 (i : Int))] rfl rfl fun b => ?_
    ((try (first | intro K ms hms hK | intro K hK)); (first | apply Chain.go | apply Chain.goD); exact rfl; exact rfl; exact Loc.mkFn rfl rfl)
    ((try (first | intro K ms hms hK | intro K hK)); (first | apply Chain.go | apply Chain.goD); exact rfl; exact rfl; exact Loc.callW (R := [3]) (hasF s.pr (fun k => decide (k < 0) || decide ((i : Int) ≤ k)) _ (by omega)) rfl ⟨.inl rfl, .inl rfl, trivial⟩ (fun _ _ _ _ hR hi k _ => (check1F k i).here hi (id := 3) (by rw [hR 3 (by simp)]; rfl)))
    cases hp : s.pr.any (fun k => decide (k < 0) || decide ((i : Int) ≤ k)) with
    | true =>
      refine wk ?_
      rw [hno hp]
      exact ⟨.d rfl (.inl rfl), trivial⟩
    | false =>
      refine wk ?_
      exact ⟨i + 1, ⟨by omega, hok2 hp⟩, by omega, ⟨rfl, rfl, rfl, trivial⟩, trivial⟩
  · have : chkI l = 0 := chk_ok fun j hj _ => hok j hj (by omega)
    refine wk ?_
    rw [this]
    exact ⟨.d rfl (.inl rfl), trivial⟩
end Go.Proofs.YtfijmpmojhlnmaaGreatDoor
namespace Go.Proofs.YtfijmpmojhlnmaaGreatDoor
open Go.RowKit
attribute [local irreducible] AC Do St
theorem ivx {x y : Int} (h : x = y) : some (AV.d (D.v (Value.int .i64 x))) = some (AV.d (D.v (Value.int .i64 y))) := by rw [h]
/-- A row of truths. -/
def enY (b : Bool) : List D := [.v (.bool b)]
/-- The premises are marked. -/
def markPr (nd : List Bool) (pr : List Int) : List Bool := pr.foldl (fun nd k => nd.set k.toNat true) nd
theorem markPr_len (nd : List Bool) (pr : List Int) : (markPr nd pr).length = nd.length := by
  unfold markPr
  induction pr generalizing nd with
  | nil => rfl
  | cons k r ih => rw [List.foldl_cons, ih, List.length_set]
theorem markPr_take (nd : List Bool) {pr : List Int} {j : Nat} {k : Int} (h : pr[j]? = some k) : markPr nd (pr.take (j + 1)) = (markPr nd (pr.take j)).set k.toNat true := by
  obtain ⟨h1, h2⟩ := List.getElem?_eq_some_iff.1 h
  unfold markPr
  rw [List.take_succ_eq_append_getElem h1, List.foldl_append, h2]
  rfl
/-- Which steps are needed, from the n first ones down. -/
def needDown (l : List Stp) : Nat → List Bool → List Bool
  | 0, nd => nd
  | n + 1, nd => needDown l n (if nd.getD n false then markPr nd (l.getD n ⟨0, [], 0, [], []⟩).pr else nd)
theorem needDown_len (l : List Stp) : ∀ n nd, (needDown l n nd).length = nd.length
  | 0, _ => rfl
  | n + 1, nd => by
    rw [needDown, needDown_len]
    split
    · exact markPr_len _ _
    · rfl
def need0 (l : List Stp) (a : Nat) : List Bool := needDown l (a + 1) ((List.replicate (a + 1) false).set a true)
def trues (nd : List Bool) (n : Nat) : List Int := ((List.range n).filter fun i => nd.getD i false).map Int.ofNat
theorem trues_succ (nd : List Bool) (n : Nat) : trues nd (n + 1) = trues nd n ++ if nd.getD n false then [(n : Int)] else [] := by
  unfold trues
  rw [List.range_succ, List.filter_append, List.map_append]
  congr 1
  by_cases h : nd.getD n false = true
  · rw [if_pos h]; simp only [List.filter_cons, h, if_true, List.filter_nil, List.map_cons, List.map_nil]; rfl
  · rw [if_neg h]; simp only [List.filter_cons, h, List.filter_nil]; rfl
theorem trues_len (nd : List Bool) : ∀ n, (trues nd n).length ≤ n
  | 0 => by simp [trues]
  | n + 1 => by
    have := trues_len nd n
    rw [trues_succ, List.length_append]
    split <;> simp <;> omega
/-- The steps on which step a stands, and that one. -/
def needI (l : List Stp) (a : Nat) : List Int := trues (need0 l a) (a + 1)
theorem enZ_snoc (l : List Int) (x : Int) : (l ++ [x]).map (fun v => [D.v (.int .i64 v)]) = l.map (fun v => [D.v (.int .i64 v)]) ++ [[.v (.int .i64 x)]] := by simp
theorem okTo_pr {l : List Stp} {i : Nat} {s : Stp} (h : okS l) (hs : l[i]? = some s) {k : Int} (hk : k ∈ s.pr) : 0 ≤ k ∧ k < i := by
  obtain ⟨h1, h2⟩ := List.getElem?_eq_some_iff.1 hs
  have := h i h1 h1
  rw [h2] at this
  have := List.any_eq_false.1 this k hk
  simp at this
  omega
set_option maxRecDepth 100000 in
set_option maxHeartbeats 4000000 in
theorem needF (l : List Stp) (hl : l.length ≤ 300000) (hpl : ∀ s ∈ l, s.pr.length ≤ 1000000) (hok : okS l) (a : Nat) (ha : a < l.length) : Fn Tryz.prog 46 [.d (.l (l.map enS)), .d (.v (.int .i64 (a : Int)))] [.d (enZ (needI l a)), .d (.v (.int .i64 0))] := by
  have hchk := checkF l hl hpl
  rw [chk_ok hok] at hchk
  have hl0 : ((List.replicate (a + 1) false).map enY).length = a + 1 := by simp
  have hg0 : (List.replicate (a + 1) false)[a]? = some false := by simp
  refine Fn.of Tryz.func46 rfl (by kernel_rfl) Tryz.ntmps46 Tryz.results46 rfl fun w0 S0 => ?_
  refine wk ?_
  ((try (first | intro K ms hms hK | intro K hK)); (first | apply Chain.go | apply Chain.goD); exact rfl; exact rfl; refine Loc.callD (hchk) rfl ?_; (repeat (first | exact trivial | refine ⟨.inl rfl, ?_⟩ | refine ⟨.inr rfl, ?_⟩)))
  refine wk ?_
  ((try (first | intro K ms hms hK | intro K hK)); (first | apply Chain.ef | apply Chain.efD); exact rfl; exact rfl; exact Do.makeM (f := enY) false (a + 1) (a + 1) rfl rfl rfl rfl rfl rfl (Nat.le_refl _) (by omega); exact rfl; exact rfl)
  refine wk ?_
  ((try (first | intro K ms hms hK | intro K hK)); (first | apply Chain.st | apply Chain.stD); exact rfl; exact rfl; exact Do.setM true rfl rfl rfl hg0 rfl rfl rfl rfl rfl rfl; exact rfl; exact rfl)
  refine wk ?_
  refine AC.loop (X := Nat × List Bool) (fun x => ⟨[(0, .d (.l (l.map enS))), (7, .r 29 0), (8, .d (.v (.int .i64 ((x.1 : Int) - 1))))], [(29, .row 0 4 1 (x.2.map enY))]⟩) (fun x => x.1 ≤ a + 1 ∧ x.2.length = a + 1 ∧ needDown l x.1 x.2 = need0 l a) (fun x => x.1) (a + 1, (List.replicate (a + 1) false).set a true) ⟨Nat.le_refl _, by simp, rfl⟩ ⟨rfl, rfl, ivx (by dsimp only; omega), trivial⟩ ⟨rfl, trivial⟩ ?_
  intro ⟨n, nd⟩ ⟨hn, hnl, hnd⟩
  dsimp only at hn hnl hnd ⊢
  have hnl2 : (nd.map enY).length = a + 1 := by rw [List.length_map]; exact hnl
  refine wk ?_
  ((try (first | intro K ms hms hK | intro K hK)); (first | refine Chain.geq rfl rfl rfl rfl rfl (fun h1 => ?_) (fun h1 => ?_) | refine Chain.geqD rfl rfl rfl rfl rfl (fun h1 => ?_) (fun h1 => ?_)))
  · obtain ⟨m, rfl⟩ : ∃ m, n = m + 1 := ⟨n - 1, by omega⟩
    rw [show (((m + 1 : Nat) : Int) - 1) = (m : Int) by omega]
    have hm : m < nd.length := by omega
    have hml : m < l.length := by omega
    have hgb : nd[m]? = some nd[m] := List.getElem?_eq_getElem hm
    have hgD : nd.getD m false = nd[m] := by rw [List.getD_eq_getElem?_getD, hgb]; rfl
    have hget : l[m]? = some l[m] := List.getElem?_eq_getElem hml
    have hsl := hpl l[m] (List.getElem_mem hml)
    have hpr : ∀ k ∈ l[m].pr, 0 ≤ k ∧ k < m := fun k hk => okTo_pr hok hget hk
    have hlD : l.getD m ⟨0, [], 0, [], []⟩ = l[m] := by rw [List.getD_eq_getElem?_getD, hget]; rfl
    rw [needDown, hgD, hlD] at hnd
    have hgb2 : (nd.map enY)[m]? = some (enY nd[m]) := by rw [List.getElem?_map, hgb]; rfl
    generalize l[m] = s at hget hsl hpr hnd hlD
    generalize hb : nd[m] = b at hgb hgb2 hnd
    refine wk ?_
    cases b with
    | false =>
      rw [if_neg (by decide)] at hnd
      refine wk ?_
      exact ⟨(m, nd), ⟨by dsimp only; omega, hnl, hnd⟩, by dsimp only; omega, ⟨rfl, rfl, rfl, trivial⟩, ⟨rfl, trivial⟩⟩
    | true =>
      rw [if_pos rfl] at hnd
      refine wk ?_
      refine AC.loop (X := Nat × List Bool) (fun x => ⟨[(0, .d (.l (l.map enS))), (7, .r 29 0), (8, .d (.v (.int .i64 (m : Int)))), (46, .d (enZ s.pr)), (47, .d (.v (.int .i64 (s.pr.length : Int)))), (48, .d (.v (.int .i64 (x.1 : Int))))], [(29, .row 0 4 1 (x.2.map enY))]⟩) (fun x => x.1 ≤ s.pr.length ∧ x.2 = markPr nd (s.pr.take x.1)) (fun x => s.pr.length - x.1) (0, nd) ⟨Nat.zero_le _, rfl⟩ ⟨rfl, rfl, rfl, rfl, rfl, rfl, trivial⟩ ⟨rfl, trivial⟩ ?_
      intro ⟨j, ne⟩ ⟨hj, hne⟩
      dsimp only at hj hne ⊢
      refine wk ?_
      ((try (first | intro K ms hms hK | intro K hK)); (first | refine Chain.lss rfl rfl rfl rfl rfl (fun h2 => ?_) (fun h2 => ?_) | refine Chain.lssD rfl rfl rfl rfl rfl (fun h2 => ?_) (fun h2 => ?_)))
      · have hj' : j < s.pr.length := by omega
        have hgj : s.pr[j]? = some s.pr[j] := List.getElem?_eq_getElem hj'
        obtain ⟨hk0, hkm⟩ := hpr s.pr[j] (List.getElem_mem hj')
        have hmk := markPr_take nd hgj
        rw [← hne] at hmk
        have hnel : ne.length = a + 1 := by rw [hne, markPr_len]; exact hnl
        have hnel2 : (ne.map enY).length = a + 1 := by rw [List.length_map]; exact hnel
        generalize s.pr[j] = k at hgj hk0 hkm hmk
        have hgk : ne[k.toNat]? = some (ne[k.toNat]'(by omega)) := List.getElem?_eq_getElem _
        refine wk ?_
        ((try (first | intro K ms hms hK | intro K hK)); (first | apply Chain.go | apply Chain.goD); exact rfl; exact rfl; exact Loc.idxR (i := k.toNat) rfl rfl rfl rfl (by omega) (by omega) rfl)
        ((try (first | intro K ms hms hK | intro K hK)); (first | apply Chain.st | apply Chain.stD); exact rfl; exact rfl; exact Do.setM true rfl rfl rfl hgk rfl rfl rfl rfl rfl rfl; exact rfl; exact rfl)
        refine wk ?_
        exact ⟨(j + 1, ne.set k.toNat true), ⟨by dsimp only; omega, hmk.symm⟩, by dsimp only; omega, ⟨rfl, rfl, rfl, rfl, rfl, rfl, trivial⟩, ⟨rfl, trivial⟩⟩
      · rw [List.take_of_length_le (by omega)] at hne
        refine wk ?_
        exact ⟨(m, ne), ⟨by dsimp only; omega, by dsimp only; rw [hne, markPr_len]; exact hnl, by dsimp only; rw [hne]; exact hnd⟩, by dsimp only; omega, ⟨rfl, rfl, rfl, trivial⟩, ⟨rfl, trivial⟩⟩
  · obtain rfl : n = 0 := by omega
    have hnd0 : nd = need0 l a := hnd
    refine wk ?_
    refine AC.rowVar 11 67 3 1 rfl rfl ?_
    refine AC.loop (X := Nat) (fun i => ⟨[(11, .r 67 (trues nd i).length), (56, .r 29 0), (57, .d (.v (.int .i64 ((nd.map enY).length : Int)))), (58, .d (.v (.int .i64 (i : Int))))], [(29, .row 0 4 1 (nd.map enY)), (67, .row (trues nd i).length 3 1 ((trues nd i).map fun v => [.v (.int .i64 v)]))]⟩) (fun i => i ≤ a + 1) (fun i => a + 1 - i) 0 (Nat.zero_le _) ⟨rfl, rfl, rfl, rfl, trivial⟩ ⟨rfl, rfl, trivial⟩ ?_
    intro i hi
    refine wk ?_
    ((try (first | intro K ms hms hK | intro K hK)); (first | refine Chain.lss rfl rfl rfl rfl rfl (fun h2 => ?_) (fun h2 => ?_) | refine Chain.lssD rfl rfl rfl rfl rfl (fun h2 => ?_) (fun h2 => ?_)))
    · have hi' : i < nd.length := by omega
      have hgb : nd[i]? = some nd[i] := List.getElem?_eq_getElem hi'
      have hsucc := trues_succ nd i
      have hgD : nd.getD i false = nd[i] := by rw [List.getD_eq_getElem?_getD, hgb]; rfl
      rw [hgD] at hsucc
      have hgb2 : (nd.map enY)[i]? = some (enY nd[i]) := by rw [List.getElem?_map, hgb]; rfl
      have htl := trues_len nd i
      generalize nd[i] = b at hgb2 hsucc
      refine wk ?_
      cases b with
      | false =>
        rw [if_neg (by decide), List.append_nil] at hsucc
        refine wk ?_
        exact ⟨i + 1, by omega, by omega, ⟨by rw [hsucc]; rfl, rfl, rfl, rfl, trivial⟩, ⟨rfl, by rw [hsucc]; rfl, trivial⟩⟩
      | true =>
        rw [if_pos rfl] at hsucc
        have hlen1 : (trues nd (i + 1)).length = (trues nd i).length + 1 := by rw [hsucc]; simp
        refine wk ?_
        exact ⟨i + 1, by omega, by omega, ⟨by rw [hlen1]; rfl, rfl, rfl, rfl, trivial⟩, ⟨rfl, by rw [hlen1, hsucc, enZ_snoc]; rfl, trivial⟩⟩
    · obtain rfl : i = a + 1 := by omega
      have : needI l a = trues nd (a + 1) := by rw [hnd0]; rfl
      refine wk ?_
      rw [this]
      exact ⟨.d rfl ⟨_, _, rfl⟩, .d rfl (.inl rfl), trivial⟩
end Go.Proofs.YtfijmpmojhlnmaaGreatDoor
namespace Go.Proofs.YtfijmpmojhlnmaaGreatDoor
open Go.RowKit
attribute [local irreducible] AC Do St
theorem set_self {nd : List Bool} {k : Nat} {c : Bool} (h : nd[k]? = some c) : nd.set k c = nd := by
  refine List.ext_getElem? fun i => ?_
  rw [List.getElem?_set]
  split
  · rename_i e
    subst e
    split
    · exact h.symm
    · rename_i h2
      rw [List.getElem?_eq_none (by omega)] at h
      cases h
  · rfl
theorem markPr_get {nd : List Bool} {m : Nat} : ∀ {pr : List Int}, (∀ k ∈ pr, 0 ≤ k ∧ k < m) → (markPr nd pr)[m]? = nd[m]? := by
  intro pr
  unfold markPr
  induction pr generalizing nd with
  | nil => intro _; rfl
  | cons k r ih =>
    intro h
    rw [List.foldl_cons, ih fun x hx => h x (by simp [hx]), List.getElem?_set]
    have := h k (by simp)
    rw [if_neg (by omega)]
theorem markPr_app {nd z : List Bool} : ∀ {pr : List Int}, (∀ k ∈ pr, 0 ≤ k ∧ k < nd.length) → markPr (nd ++ z) pr = markPr nd pr ++ z := by
  intro pr
  unfold markPr
  induction pr generalizing nd with
  | nil => intro _; rfl
  | cons k r ih =>
    intro h
    have hk := h k (by simp)
    rw [List.foldl_cons, List.foldl_cons, List.set_append_left _ _ (by omega)]
    exact ih fun x hx => by rw [List.length_set]; exact h x (by simp [hx])
theorem needDown_app {l : List Stp} (hok : okS l) : ∀ (n : Nat) (nd z : List Bool), n ≤ nd.length → n ≤ l.length → needDown l n (nd ++ z) = needDown l n nd ++ z
  | 0, _, _, _, _ => rfl
  | n + 1, nd, z, h, hl => by
    have hget : l[n]? = some l[n] := List.getElem?_eq_getElem (by omega)
    have hlD : l.getD n ⟨0, [], 0, [], []⟩ = l[n] := by rw [List.getD_eq_getElem?_getD, hget]; rfl
    have hpr : ∀ k ∈ l[n].pr, 0 ≤ k ∧ k < nd.length := fun k hk => by
      have := okTo_pr hok hget hk
      omega
    have hD : (nd ++ z).getD n false = nd.getD n false := by
      rw [List.getD_eq_getElem?_getD, List.getD_eq_getElem?_getD, List.getElem?_append_left (by omega)]
    rw [needDown, needDown, hD, hlD]
    split
    · rw [markPr_app hpr, needDown_app hok n _ _ (by rw [markPr_len]; omega) (by omega)]
    · rw [needDown_app hok n _ _ (by omega) (by omega)]
theorem trues_app (nd : List Bool) : ∀ (d : Nat), trues (nd ++ List.replicate d false) (nd.length + d) = trues nd nd.length
  | 0 => by simp
  | d + 1 => by
    have h0 : ∀ n e, n ≤ nd.length + d → trues (nd ++ List.replicate (d + 1) false) n = trues (nd ++ List.replicate e false) n ∨ e < d := by
      intro n e hn
      by_cases he : e < d
      · exact .inr he
      · left
        unfold trues
        congr 1
        refine List.filter_congr fun i hi => ?_
        have hi := List.mem_range.1 hi
        by_cases h : i < nd.length
        · simp [List.getD_eq_getElem?_getD, List.getElem?_append_left h]
        · simp [List.getD_eq_getElem?_getD, List.getElem?_append_right (Nat.le_of_not_lt h), List.getElem?_replicate]
          split <;> split <;> rfl
    rw [← Nat.add_assoc, trues_succ]
    rw [(h0 (nd.length + d) d (Nat.le_refl _)).resolve_right (by omega), trues_app nd d]
    have : (nd ++ List.replicate (d + 1) false).getD (nd.length + d) false = false := by
      rw [List.getD_eq_getElem?_getD, List.getElem?_append_right (by omega), List.getElem?_replicate]
      split <;> rfl
    rw [this]
    simp
theorem need_ref {l : List Stp} (hok : okS l) {a : Nat} (ha : a < l.length) : trues (needDown l (a + 1) ((List.replicate l.length false).set a true)) l.length = needI l a := by
  obtain ⟨d, hd⟩ : ∃ d, l.length = (a + 1) + d := ⟨l.length - (a + 1), by omega⟩
  have e1 : (List.replicate l.length false).set a true = (List.replicate (a + 1) false).set a true ++ List.replicate d false := by
    rw [hd, ← List.replicate_append_replicate, List.set_append_left _ _ (by simp)]
  rw [e1, needDown_app hok _ _ _ (by simp) (by omega)]
  have e2 : l.length = (needDown l (a + 1) ((List.replicate (a + 1) false).set a true)).length + d := by rw [needDown_len]; simp; omega
  rw [e2, trues_app]
  unfold needI need0
  rw [needDown_len]
  simp
set_option maxRecDepth 100000 in
set_option maxHeartbeats 4000000 in
theorem refNeed (l : List Stp) (hl : l.length ≤ 300000) (hpl : ∀ s ∈ l, s.pr.length ≤ 1000000) (hok : okS l) (a : Nat) (ha : a < l.length) : Fn Tryz.prog 19 [.d (.l (l.map enSQ)), .d (.v (.int .i64 (a : Int)))] [.d (enZ (needI l a))] := by
  have hl0 : ((List.replicate l.length false).map enY).length = l.length := by simp
  have hg0 : (List.replicate l.length false)[a]? = some false := by simp [ha]
  refine Fn.of Tryz.func19 rfl (by kernel_rfl) Tryz.ntmps19 Tryz.results19 rfl fun w0 S0 => ?_
  refine wk ?_
  ((try (first | intro K ms hms hK | intro K hK)); (first | apply Chain.ef | apply Chain.efD); exact rfl; exact rfl; exact Do.makeM (f := enY) false l.length l.length rfl rfl rfl rfl rfl rfl (Nat.le_refl _) (by omega); exact rfl; exact rfl)
  refine wk ?_
  ((try (first | intro K ms hms hK | intro K hK)); (first | apply Chain.st | apply Chain.stD); exact rfl; exact rfl; exact Do.setM true rfl rfl rfl hg0 rfl rfl rfl rfl rfl rfl; exact rfl; exact rfl)
  refine wk ?_
  refine AC.loop (X := Nat × List Bool) (fun x => ⟨[(0, .d (.l (l.map enSQ))), (5, .r 13 0), (6, .d (.v (.int .i64 ((x.1 : Int) - 1))))], [(13, .row 0 4 1 (x.2.map enY))]⟩) (fun x => x.1 ≤ a + 1 ∧ x.2.length = l.length ∧ needDown l x.1 x.2 = needDown l (a + 1) ((List.replicate l.length false).set a true)) (fun x => x.1) (a + 1, (List.replicate l.length false).set a true) ⟨Nat.le_refl _, by simp, rfl⟩ ⟨rfl, rfl, ivx (by dsimp only; omega), trivial⟩ ⟨rfl, trivial⟩ ?_
  intro ⟨n, nd⟩ ⟨hn, hnl, hnd⟩
  dsimp only at hn hnl hnd ⊢
  have hnl2 : (nd.map enY).length = l.length := by rw [List.length_map]; exact hnl
  refine wk ?_
  ((try (first | intro K ms hms hK | intro K hK)); (first | refine Chain.geq rfl rfl rfl rfl rfl (fun h1 => ?_) (fun h1 => ?_) | refine Chain.geqD rfl rfl rfl rfl rfl (fun h1 => ?_) (fun h1 => ?_)))
  · obtain ⟨m, rfl⟩ : ∃ m, n = m + 1 := ⟨n - 1, by omega⟩
    rw [show (((m + 1 : Nat) : Int) - 1) = (m : Int) by omega]
    have hm : m < nd.length := by omega
    have hml : m < l.length := by omega
    have hgb : nd[m]? = some nd[m] := List.getElem?_eq_getElem hm
    have hgD : nd.getD m false = nd[m] := by rw [List.getD_eq_getElem?_getD, hgb]; rfl
    have hget : l[m]? = some l[m] := List.getElem?_eq_getElem hml
    have hsl := hpl l[m] (List.getElem_mem hml)
    have hpr : ∀ k ∈ l[m].pr, 0 ≤ k ∧ k < m := fun k hk => okTo_pr hok hget hk
    have hlD : l.getD m ⟨0, [], 0, [], []⟩ = l[m] := by rw [List.getD_eq_getElem?_getD, hget]; rfl
    rw [needDown, hgD, hlD] at hnd
    generalize l[m] = s at hget hsl hpr hnd hlD
    generalize hb : nd[m] = b at hgb hnd
    refine wk ?_
    refine AC.loop (X := Nat × List Bool) (fun x => ⟨[(0, .d (.l (l.map enSQ))), (5, .r 13 0), (6, .d (.v (.int .i64 (m : Int)))), (26, .d (enZ s.pr)), (27, .d (.v (.int .i64 (s.pr.length : Int)))), (28, .d (.v (.int .i64 (x.1 : Int))))], [(13, .row 0 4 1 (x.2.map enY))]⟩) (fun x => x.1 ≤ s.pr.length ∧ x.2 = if b = true then markPr nd (s.pr.take x.1) else nd) (fun x => s.pr.length - x.1) (0, nd) ⟨Nat.zero_le _, by cases b <;> rfl⟩ ⟨rfl, rfl, rfl, rfl, rfl, rfl, trivial⟩ ⟨rfl, trivial⟩ ?_
    intro ⟨j, ne⟩ ⟨hj, hne⟩
    dsimp only at hj hne ⊢
    refine wk ?_
    ((try (first | intro K ms hms hK | intro K hK)); (first | refine Chain.lss rfl rfl rfl rfl rfl (fun h2 => ?_) (fun h2 => ?_) | refine Chain.lssD rfl rfl rfl rfl rfl (fun h2 => ?_) (fun h2 => ?_)))
    · have hj' : j < s.pr.length := by omega
      have hgj : s.pr[j]? = some s.pr[j] := List.getElem?_eq_getElem hj'
      obtain ⟨hk0, hkm⟩ := hpr s.pr[j] (List.getElem_mem hj')
      have hmk := markPr_take nd hgj
      have hnel : ne.length = l.length := by
        rw [hne]
        split
        · rw [markPr_len]; exact hnl
        · exact hnl
      have hnel2 : (ne.map enY).length = l.length := by rw [List.length_map]; exact hnel
      have hgm : ne[m]? = some b := by
        rw [hne]
        split
        · rw [markPr_get fun k hk => hpr k (List.mem_of_mem_take hk)]; exact hgb
        · exact hgb
      have hgm2 : (ne.map enY)[m]? = some (enY b) := by rw [List.getElem?_map, hgm]; rfl
      generalize s.pr[j] = k at hgj hk0 hkm hmk
      have hgk : ne[k.toNat]? = some (ne[k.toNat]'(by omega)) := List.getElem?_eq_getElem _
      generalize (ne[k.toNat]'(by omega)) = c at hgk
      have hgk2 : (ne.map enY)[k.toNat]? = some (enY c) := by rw [List.getElem?_map, hgk]; rfl
      have hnext : ne.set k.toNat (c || b) = if b = true then markPr nd (s.pr.take (j + 1)) else nd := by
        cases b with
        | true => rw [if_pos rfl] at hne ⊢; rw [hmk, ← hne]; simp
        | false => rw [if_neg (by decide)] at hne ⊢; rw [Bool.or_false, set_self hgk, hne]
      refine wk ?_
      ((try (first | intro K ms hms hK | intro K hK)); (first | apply Chain.go | apply Chain.goD); exact rfl; exact rfl; exact Loc.idxR (i := k.toNat) rfl rfl rfl rfl (by omega) (by omega) rfl)
      refine wk ?_
      cases c with
      | true =>
        refine wk ?_
        ((try (first | intro K ms hms hK | intro K hK)); (first | apply Chain.go | apply Chain.goD); exact rfl; exact rfl; exact Loc.idxR (i := k.toNat) rfl rfl rfl rfl (by omega) (by omega) rfl)
        ((try (first | intro K ms hms hK | intro K hK)); (first | apply Chain.st | apply Chain.stD); exact rfl; exact rfl; exact Do.setM true rfl rfl rfl hgk rfl rfl rfl rfl rfl rfl; exact rfl; exact rfl)
        refine wk ?_
        exact ⟨(j + 1, ne.set k.toNat true), ⟨by dsimp only; omega, hnext⟩, by dsimp only; omega, ⟨rfl, rfl, rfl, rfl, rfl, rfl, trivial⟩, ⟨rfl, trivial⟩⟩
      | false =>
        refine wk ?_
        ((try (first | intro K ms hms hK | intro K hK)); (first | apply Chain.go | apply Chain.goD); exact rfl; exact rfl; exact Loc.idxR (i := k.toNat) rfl rfl rfl rfl (by omega) (by omega) rfl)
        ((try (first | intro K ms hms hK | intro K hK)); (first | apply Chain.st | apply Chain.stD); exact rfl; exact rfl; exact Do.setM b rfl rfl rfl hgk rfl rfl rfl rfl rfl rfl; exact rfl; exact rfl)
        refine wk ?_
        exact ⟨(j + 1, ne.set k.toNat b), ⟨by dsimp only; omega, hnext⟩, by dsimp only; omega, ⟨rfl, rfl, rfl, rfl, rfl, rfl, trivial⟩, ⟨rfl, trivial⟩⟩
    · rw [List.take_of_length_le (by omega)] at hne
      refine wk ?_
      exact ⟨(m, ne), ⟨by dsimp only; omega, by dsimp only; rw [hne]; split; (rw [markPr_len]; exact hnl); exact hnl, by dsimp only; rw [hne]; exact hnd⟩, by dsimp only; omega, ⟨rfl, rfl, rfl, trivial⟩, ⟨rfl, trivial⟩⟩
  · obtain rfl : n = 0 := by omega
    have hnd0 : nd = needDown l (a + 1) ((List.replicate l.length false).set a true) := hnd
    refine wk ?_
    refine AC.loop (X := Nat) (fun i => ⟨[(9, .r 46 (trues nd i).length), (5, .r 13 0), (48, .d (.v (.int .i64 ((nd.map enY).length : Int)))), (49, .d (.v (.int .i64 (i : Int))))], [(13, .row 0 4 1 (nd.map enY)), (46, .row (trues nd i).length 3 1 ((trues nd i).map fun v => [.v (.int .i64 v)]))]⟩) (fun i => i ≤ l.length) (fun i => l.length - i) 0 (Nat.zero_le _) ⟨rfl, rfl, rfl, rfl, trivial⟩ ⟨rfl, rfl, trivial⟩ ?_
    intro i hi
    refine wk ?_
    ((try (first | intro K ms hms hK | intro K hK)); (first | refine Chain.lss rfl rfl rfl rfl rfl (fun h2 => ?_) (fun h2 => ?_) | refine Chain.lssD rfl rfl rfl rfl rfl (fun h2 => ?_) (fun h2 => ?_)))
    · have hi' : i < nd.length := by omega
      have hgb : nd[i]? = some nd[i] := List.getElem?_eq_getElem hi'
      have hsucc := trues_succ nd i
      have hgD : nd.getD i false = nd[i] := by rw [List.getD_eq_getElem?_getD, hgb]; rfl
      rw [hgD] at hsucc
      have hgb2 : (nd.map enY)[i]? = some (enY nd[i]) := by rw [List.getElem?_map, hgb]; rfl
      have htl := trues_len nd i
      generalize nd[i] = b at hgb2 hsucc
      refine wk ?_
      cases b with
      | false =>
        rw [if_neg (by decide), List.append_nil] at hsucc
        refine wk ?_
        exact ⟨i + 1, by omega, by omega, ⟨by rw [hsucc]; rfl, rfl, rfl, rfl, trivial⟩, ⟨rfl, by rw [hsucc]; rfl, trivial⟩⟩
      | true =>
        rw [if_pos rfl] at hsucc
        have hlen1 : (trues nd (i + 1)).length = (trues nd i).length + 1 := by rw [hsucc]; simp
        refine wk ?_
        exact ⟨i + 1, by omega, by omega, ⟨by rw [hlen1]; rfl, rfl, rfl, rfl, trivial⟩, ⟨rfl, by rw [hlen1, hsucc, enZ_snoc]; rfl, trivial⟩⟩
    · obtain rfl : i = l.length := by omega
      have : needI l a = trues nd l.length := by rw [hnd0]; exact (need_ref hok ha).symm
      refine wk ?_
      rw [this]
      exact ⟨.d rfl ⟨_, _, rfl⟩, trivial⟩
end Go.Proofs.YtfijmpmojhlnmaaGreatDoor
