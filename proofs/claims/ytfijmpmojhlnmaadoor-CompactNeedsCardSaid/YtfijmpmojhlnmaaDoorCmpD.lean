/-
  Packages compact and proof's steps by plain data.
-/
import Derived.Test.YtfijmpmojhlnmaaDoorCmpC
import Derived.Test.YtfijmpmojhlnmaaDoorCmpB
namespace Go.Proofs.YtfijmpmojhlnmaaDoor
open Go.RowKit
attribute [local irreducible] AC Do St
theorem ivx {x y : Int} (h : x = y) : some (AV.d (D.v (Value.int .i64 x))) = some (AV.d (D.v (Value.int .i64 y))) := by rw [h]
/-- A row of truths. -/
def enY (b : Bool) : List D := [.v (.bool b)]
/-- The premises are marked. -/
def markPr (nd : List Bool) (pr : List Int) : List Bool := pr.foldl (fun nd k => nd.set k.toNat true) nd
theorem markPr_len (nd : List Bool) (pr : List Int) : (markPr nd pr).length = nd.length := by
  unfold markPr
  induction pr generalizing nd with
  | nil => rfl
  | cons k r ih => rw [List.foldl_cons, ih, List.length_set]
theorem markPr_take (nd : List Bool) {pr : List Int} {j : Nat} {k : Int} (h : pr[j]? = some k) : markPr nd (pr.take (j + 1)) = (markPr nd (pr.take j)).set k.toNat true := by
  obtain ⟨h1, h2⟩ := List.getElem?_eq_some_iff.1 h
  unfold markPr
  rw [List.take_succ_eq_append_getElem h1, List.foldl_append, h2]
  rfl
/-- Which steps are needed, from the n first ones down. -/
def needDown (l : List Stp) : Nat → List Bool → List Bool
  | 0, nd => nd
  | n + 1, nd => needDown l n (if nd.getD n false then markPr nd (l.getD n ⟨0, [], 0, [], []⟩).pr else nd)
theorem needDown_len (l : List Stp) : ∀ n nd, (needDown l n nd).length = nd.length
  | 0, _ => rfl
  | n + 1, nd => by
    rw [needDown, needDown_len]
    split
    · exact markPr_len _ _
    · rfl
def need0 (l : List Stp) (a : Nat) : List Bool := needDown l (a + 1) ((List.replicate (a + 1) false).set a true)
def trues (nd : List Bool) (n : Nat) : List Int := ((List.range n).filter fun i => nd.getD i false).map Int.ofNat
theorem trues_succ (nd : List Bool) (n : Nat) : trues nd (n + 1) = trues nd n ++ if nd.getD n false then [(n : Int)] else [] := by
  unfold trues
  rw [List.range_succ, List.filter_append, List.map_append]
  congr 1
  by_cases h : nd.getD n false = true
  · rw [if_pos h]; simp only [List.filter_cons, h, if_true, List.filter_nil, List.map_cons, List.map_nil]; rfl
  · rw [if_neg h]; simp only [List.filter_cons, h, List.filter_nil]; rfl
theorem trues_len (nd : List Bool) : ∀ n, (trues nd n).length ≤ n
  | 0 => by simp [trues]
  | n + 1 => by
    have := trues_len nd n
    rw [trues_succ, List.length_append]
    split <;> simp <;> omega
/-- The steps on which step a stands, and that one. -/
def needI (l : List Stp) (a : Nat) : List Int := trues (need0 l a) (a + 1)
theorem enZ_snoc (l : List Int) (x : Int) : (l ++ [x]).map (fun v => [D.v (.int .i64 v)]) = l.map (fun v => [D.v (.int .i64 v)]) ++ [[.v (.int .i64 x)]] := by simp
theorem okTo_pr {l : List Stp} {i : Nat} {s : Stp} (h : okS l) (hs : l[i]? = some s) {k : Int} (hk : k ∈ s.pr) : 0 ≤ k ∧ k < i := by
  obtain ⟨h1, h2⟩ := List.getElem?_eq_some_iff.1 hs
  have := h i h1 h1
  rw [h2] at this
  have := List.any_eq_false.1 this k hk
  simp at this
  omega
set_option maxRecDepth 100000 in
set_option maxHeartbeats 4000000 in
theorem needF (l : List Stp) (hl : l.length ≤ 300000) (hpl : ∀ s ∈ l, s.pr.length ≤ 1000000) (hok : okS l) (a : Nat) (ha : a < l.length) : Fn Tryd.prog 5 [.d (.l (l.map enS)), .d (.v (.int .i64 (a : Int)))] [.d (enZ (needI l a)), .d (.v (.int .i64 0))] := by
  have hchk := checkF l hl hpl
  rw [chk_ok hok] at hchk
  have hl0 : ((List.replicate (a + 1) false).map enY).length = a + 1 := by simp
  have hg0 : (List.replicate (a + 1) false)[a]? = some false := by simp
  refine Fn.of Tryd.func5 rfl (by kernel_rfl) Tryd.ntmps5 Tryd.results5 rfl fun w0 S0 => ?_
  refine wk ?_
  ((try (first | intro K ms hms hK | intro K hK)); (first | apply Chain.go | apply Chain.goD); exact rfl; exact rfl; refine Loc.callD (hchk) rfl ?_; (repeat (first | exact trivial | refine ⟨.inl rfl, ?_⟩ | refine ⟨.inr rfl, ?_⟩)))
  refine wk ?_
  ((try (first | intro K ms hms hK | intro K hK)); (first | apply Chain.ef | apply Chain.efD); exact rfl; exact rfl; exact Do.makeM (f := enY) false (a + 1) (a + 1) rfl rfl rfl rfl rfl rfl (Nat.le_refl _) (by omega); exact rfl; exact rfl)
  refine wk ?_
  ((try (first | intro K ms hms hK | intro K hK)); (first | apply Chain.st | apply Chain.stD); exact rfl; exact rfl; exact Do.setM true rfl rfl rfl hg0 rfl rfl rfl rfl rfl rfl; exact rfl; exact rfl)
  refine wk ?_
  refine AC.loop (X := Nat × List Bool) (fun x => ⟨[(0, .d (.l (l.map enS))), (7, .r 29 0), (8, .d (.v (.int .i64 ((x.1 : Int) - 1))))], [(29, .row 0 4 1 (x.2.map enY))]⟩) (fun x => x.1 ≤ a + 1 ∧ x.2.length = a + 1 ∧ needDown l x.1 x.2 = need0 l a) (fun x => x.1) (a + 1, (List.replicate (a + 1) false).set a true) ⟨Nat.le_refl _, by simp, rfl⟩ ⟨rfl, rfl, ivx (by dsimp only; omega), trivial⟩ ⟨rfl, trivial⟩ ?_
  intro ⟨n, nd⟩ ⟨hn, hnl, hnd⟩
  dsimp only at hn hnl hnd ⊢
  have hnl2 : (nd.map enY).length = a + 1 := by rw [List.length_map]; exact hnl
  refine wk ?_
  ((try (first | intro K ms hms hK | intro K hK)); (first | refine Chain.geq rfl rfl rfl rfl rfl (fun h1 => ?_) (fun h1 => ?_) | refine Chain.geqD rfl rfl rfl rfl rfl (fun h1 => ?_) (fun h1 => ?_)))
  · obtain ⟨m, rfl⟩ : ∃ m, n = m + 1 := ⟨n - 1, by omega⟩
    rw [show (((m + 1 : Nat) : Int) - 1) = (m : Int) by omega]
    have hm : m < nd.length := by omega
    have hml : m < l.length := by omega
    have hgb : nd[m]? = some nd[m] := List.getElem?_eq_getElem hm
    have hgD : nd.getD m false = nd[m] := by rw [List.getD_eq_getElem?_getD, hgb]; rfl
    have hget : l[m]? = some l[m] := List.getElem?_eq_getElem hml
    have hsl := hpl l[m] (List.getElem_mem hml)
    have hpr : ∀ k ∈ l[m].pr, 0 ≤ k ∧ k < m := fun k hk => okTo_pr hok hget hk
    have hlD : l.getD m ⟨0, [], 0, [], []⟩ = l[m] := by rw [List.getD_eq_getElem?_getD, hget]; rfl
    rw [needDown, hgD, hlD] at hnd
    have hgb2 : (nd.map enY)[m]? = some (enY nd[m]) := by rw [List.getElem?_map, hgb]; rfl
    generalize l[m] = s at hget hsl hpr hnd hlD
    generalize hb : nd[m] = b at hgb hgb2 hnd
    refine wk ?_
    cases b with
    | false =>
      rw [if_neg (by decide)] at hnd
      refine wk ?_
      exact ⟨(m, nd), ⟨by dsimp only; omega, hnl, hnd⟩, by dsimp only; omega, ⟨rfl, rfl, rfl, trivial⟩, ⟨rfl, trivial⟩⟩
    | true =>
      rw [if_pos rfl] at hnd
      refine wk ?_
      refine AC.loop (X := Nat × List Bool) (fun x => ⟨[(0, .d (.l (l.map enS))), (7, .r 29 0), (8, .d (.v (.int .i64 (m : Int)))), (46, .d (enZ s.pr)), (47, .d (.v (.int .i64 (s.pr.length : Int)))), (48, .d (.v (.int .i64 (x.1 : Int))))], [(29, .row 0 4 1 (x.2.map enY))]⟩) (fun x => x.1 ≤ s.pr.length ∧ x.2 = markPr nd (s.pr.take x.1)) (fun x => s.pr.length - x.1) (0, nd) ⟨Nat.zero_le _, rfl⟩ ⟨rfl, rfl, rfl, rfl, rfl, rfl, trivial⟩ ⟨rfl, trivial⟩ ?_
      intro ⟨j, ne⟩ ⟨hj, hne⟩
      dsimp only at hj hne ⊢
      refine wk ?_
      ((try (first | intro K ms hms hK | intro K hK)); (first | refine Chain.lss rfl rfl rfl rfl rfl (fun h2 => ?_) (fun h2 => ?_) | refine Chain.lssD rfl rfl rfl rfl rfl (fun h2 => ?_) (fun h2 => ?_)))
      · have hj' : j < s.pr.length := by omega
        have hgj : s.pr[j]? = some s.pr[j] := List.getElem?_eq_getElem hj'
        obtain ⟨hk0, hkm⟩ := hpr s.pr[j] (List.getElem_mem hj')
        have hmk := markPr_take nd hgj
        rw [← hne] at hmk
        have hnel : ne.length = a + 1 := by rw [hne, markPr_len]; exact hnl
        have hnel2 : (ne.map enY).length = a + 1 := by rw [List.length_map]; exact hnel
        generalize s.pr[j] = k at hgj hk0 hkm hmk
        have hgk : ne[k.toNat]? = some (ne[k.toNat]'(by omega)) := List.getElem?_eq_getElem _
        refine wk ?_
        ((try (first | intro K ms hms hK | intro K hK)); (first | apply Chain.go | apply Chain.goD); exact rfl; exact rfl; exact Loc.idxR (i := k.toNat) rfl rfl rfl rfl (by omega) (by omega) rfl)
        ((try (first | intro K ms hms hK | intro K hK)); (first | apply Chain.st | apply Chain.stD); exact rfl; exact rfl; exact Do.setM true rfl rfl rfl hgk rfl rfl rfl rfl rfl rfl; exact rfl; exact rfl)
        refine wk ?_
        exact ⟨(j + 1, ne.set k.toNat true), ⟨by dsimp only; omega, hmk.symm⟩, by dsimp only; omega, ⟨rfl, rfl, rfl, rfl, rfl, rfl, trivial⟩, ⟨rfl, trivial⟩⟩
      · rw [List.take_of_length_le (by omega)] at hne
        refine wk ?_
        exact ⟨(m, ne), ⟨by dsimp only; omega, by dsimp only; rw [hne, markPr_len]; exact hnl, by dsimp only; rw [hne]; exact hnd⟩, by dsimp only; omega, ⟨rfl, rfl, rfl, trivial⟩, ⟨rfl, trivial⟩⟩
  · obtain rfl : n = 0 := by omega
    have hnd0 : nd = need0 l a := hnd
    refine wk ?_
    refine AC.rowVar 11 67 3 1 rfl rfl ?_
    refine AC.loop (X := Nat) (fun i => ⟨[(11, .r 67 (trues nd i).length), (56, .r 29 0), (57, .d (.v (.int .i64 ((nd.map enY).length : Int)))), (58, .d (.v (.int .i64 (i : Int))))], [(29, .row 0 4 1 (nd.map enY)), (67, .row (trues nd i).length 3 1 ((trues nd i).map fun v => [.v (.int .i64 v)]))]⟩) (fun i => i ≤ a + 1) (fun i => a + 1 - i) 0 (Nat.zero_le _) ⟨rfl, rfl, rfl, rfl, trivial⟩ ⟨rfl, rfl, trivial⟩ ?_
    intro i hi
    refine wk ?_
    ((try (first | intro K ms hms hK | intro K hK)); (first | refine Chain.lss rfl rfl rfl rfl rfl (fun h2 => ?_) (fun h2 => ?_) | refine Chain.lssD rfl rfl rfl rfl rfl (fun h2 => ?_) (fun h2 => ?_)))
    · have hi' : i < nd.length := by omega
      have hgb : nd[i]? = some nd[i] := List.getElem?_eq_getElem hi'
      have hsucc := trues_succ nd i
      have hgD : nd.getD i false = nd[i] := by rw [List.getD_eq_getElem?_getD, hgb]; rfl
      rw [hgD] at hsucc
      have hgb2 : (nd.map enY)[i]? = some (enY nd[i]) := by rw [List.getElem?_map, hgb]; rfl
      have htl := trues_len nd i
      generalize nd[i] = b at hgb2 hsucc
      refine wk ?_
      cases b with
      | false =>
        rw [if_neg (by decide), List.append_nil] at hsucc
        refine wk ?_
        exact ⟨i + 1, by omega, by omega, ⟨by rw [hsucc]; rfl, rfl, rfl, rfl, trivial⟩, ⟨rfl, by rw [hsucc]; rfl, trivial⟩⟩
      | true =>
        rw [if_pos rfl] at hsucc
        have hlen1 : (trues nd (i + 1)).length = (trues nd i).length + 1 := by rw [hsucc]; simp
        refine wk ?_
        exact ⟨i + 1, by omega, by omega, ⟨by rw [hlen1]; rfl, rfl, rfl, rfl, trivial⟩, ⟨rfl, by rw [hlen1, hsucc, enZ_snoc]; rfl, trivial⟩⟩
    · obtain rfl : i = a + 1 := by omega
      have : needI l a = trues nd (a + 1) := by rw [hnd0]; rfl
      refine wk ?_
      rw [this]
      exact ⟨.d rfl ⟨_, _, rfl⟩, .d rfl (.inl rfl), trivial⟩
end Go.Proofs.YtfijmpmojhlnmaaDoor
