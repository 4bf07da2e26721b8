/-
  Packages compact and proof's steps by plain data.
-/
import Derived.Test.YtfijmpmojhlnmaaDoorCmpD
namespace Go.Proofs.YtfijmpmojhlnmaaDoor
open Go.RowKit
attribute [local irreducible] AC Do St
theorem set_self {nd : List Bool} {k : Nat} {c : Bool} (h : nd[k]? = some c) : nd.set k c = nd := by
  refine List.ext_getElem? fun i => ?_
  rw [List.getElem?_set]
  split
  · rename_i e
    subst e
    split
    · exact h.symm
    · rename_i h2
      rw [List.getElem?_eq_none (by omega)] at h
      cases h
  · rfl
theorem markPr_get {nd : List Bool} {m : Nat} : ∀ {pr : List Int}, (∀ k ∈ pr, 0 ≤ k ∧ k < m) → (markPr nd pr)[m]? = nd[m]? := by
  intro pr
  unfold markPr
  induction pr generalizing nd with
  | nil => intro _; rfl
  | cons k r ih =>
    intro h
    rw [List.foldl_cons, ih fun x hx => h x (by simp [hx]), List.getElem?_set]
    have := h k (by simp)
    rw [if_neg (by omega)]
theorem markPr_app {nd z : List Bool} : ∀ {pr : List Int}, (∀ k ∈ pr, 0 ≤ k ∧ k < nd.length) → markPr (nd ++ z) pr = markPr nd pr ++ z := by
  intro pr
  unfold markPr
  induction pr generalizing nd with
  | nil => intro _; rfl
  | cons k r ih =>
    intro h
    have hk := h k (by simp)
    rw [List.foldl_cons, List.foldl_cons, List.set_append_left _ _ (by omega)]
    exact ih fun x hx => by rw [List.length_set]; exact h x (by simp [hx])
theorem needDown_app {l : List Stp} (hok : okS l) : ∀ (n : Nat) (nd z : List Bool), n ≤ nd.length → n ≤ l.length → needDown l n (nd ++ z) = needDown l n nd ++ z
  | 0, _, _, _, _ => rfl
  | n + 1, nd, z, h, hl => by
    have hget : l[n]? = some l[n] := List.getElem?_eq_getElem (by omega)
    have hlD : l.getD n ⟨0, [], 0, [], []⟩ = l[n] := by rw [List.getD_eq_getElem?_getD, hget]; rfl
    have hpr : ∀ k ∈ l[n].pr, 0 ≤ k ∧ k < nd.length := fun k hk => by
      have := okTo_pr hok hget hk
      omega
    have hD : (nd ++ z).getD n false = nd.getD n false := by
      rw [List.getD_eq_getElem?_getD, List.getD_eq_getElem?_getD, List.getElem?_append_left (by omega)]
    rw [needDown, needDown, hD, hlD]
    split
    · rw [markPr_app hpr, needDown_app hok n _ _ (by rw [markPr_len]; omega) (by omega)]
    · rw [needDown_app hok n _ _ (by omega) (by omega)]
theorem trues_app (nd : List Bool) : ∀ (d : Nat), trues (nd ++ List.replicate d false) (nd.length + d) = trues nd nd.length
  | 0 => by simp
  | d + 1 => by
    have h0 : ∀ n e, n ≤ nd.length + d → trues (nd ++ List.replicate (d + 1) false) n = trues (nd ++ List.replicate e false) n ∨ e < d := by
      intro n e hn
      by_cases he : e < d
      · exact .inr he
      · left
        unfold trues
        congr 1
        refine List.filter_congr fun i hi => ?_
        have hi := List.mem_range.1 hi
        by_cases h : i < nd.length
        · simp [List.getD_eq_getElem?_getD, List.getElem?_append_left h]
        · simp [List.getD_eq_getElem?_getD, List.getElem?_append_right (Nat.le_of_not_lt h), List.getElem?_replicate]
          split <;> split <;> rfl
    rw [← Nat.add_assoc, trues_succ]
    rw [(h0 (nd.length + d) d (Nat.le_refl _)).resolve_right (by omega), trues_app nd d]
    have : (nd ++ List.replicate (d + 1) false).getD (nd.length + d) false = false := by
      rw [List.getD_eq_getElem?_getD, List.getElem?_append_right (by omega), List.getElem?_replicate]
      split <;> rfl
    rw [this]
    simp
theorem need_ref {l : List Stp} (hok : okS l) {a : Nat} (ha : a < l.length) : trues (needDown l (a + 1) ((List.replicate l.length false).set a true)) l.length = needI l a := by
  obtain ⟨d, hd⟩ : ∃ d, l.length = (a + 1) + d := ⟨l.length - (a + 1), by omega⟩
  have e1 : (List.replicate l.length false).set a true = (List.replicate (a + 1) false).set a true ++ List.replicate d false := by
    rw [hd, ← List.replicate_append_replicate, List.set_append_left _ _ (by simp)]
  rw [e1, needDown_app hok _ _ _ (by simp) (by omega)]
  have e2 : l.length = (needDown l (a + 1) ((List.replicate (a + 1) false).set a true)).length + d := by rw [needDown_len]; simp; omega
  rw [e2, trues_app]
  unfold needI need0
  rw [needDown_len]
  simp
set_option maxRecDepth 100000 in
set_option maxHeartbeats 4000000 in
theorem refNeed (l : List Stp) (hl : l.length ≤ 300000) (hpl : ∀ s ∈ l, s.pr.length ≤ 1000000) (hok : okS l) (a : Nat) (ha : a < l.length) : Fn Tryd.prog 11 [.d (.l (l.map enSQ)), .d (.v (.int .i64 (a : Int)))] [.d (enZ (needI l a))] := by
  have hl0 : ((List.replicate l.length false).map enY).length = l.length := by simp
  have hg0 : (List.replicate l.length false)[a]? = some false := by simp [ha]
  refine Fn.of Tryd.func11 rfl (by kernel_rfl) Tryd.ntmps11 Tryd.results11 rfl fun w0 S0 => ?_
  refine wk ?_
  ((try (first | intro K ms hms hK | intro K hK)); (first | apply Chain.ef | apply Chain.efD); exact rfl; exact rfl; exact Do.makeM (f := enY) false l.length l.length rfl rfl rfl rfl rfl rfl (Nat.le_refl _) (by omega); exact rfl; exact rfl)
  refine wk ?_
  ((try (first | intro K ms hms hK | intro K hK)); (first | apply Chain.st | apply Chain.stD); exact rfl; exact rfl; exact Do.setM true rfl rfl rfl hg0 rfl rfl rfl rfl rfl rfl; exact rfl; exact rfl)
  refine wk ?_
  refine AC.loop (X := Nat × List Bool) (fun x => ⟨[(0, .d (.l (l.map enSQ))), (5, .r 13 0), (6, .d (.v (.int .i64 ((x.1 : Int) - 1))))], [(13, .row 0 4 1 (x.2.map enY))]⟩) (fun x => x.1 ≤ a + 1 ∧ x.2.length = l.length ∧ needDown l x.1 x.2 = needDown l (a + 1) ((List.replicate l.length false).set a true)) (fun x => x.1) (a + 1, (List.replicate l.length false).set a true) ⟨Nat.le_refl _, by simp, rfl⟩ ⟨rfl, rfl, ivx (by dsimp only; omega), trivial⟩ ⟨rfl, trivial⟩ ?_
  intro ⟨n, nd⟩ ⟨hn, hnl, hnd⟩
  dsimp only at hn hnl hnd ⊢
  have hnl2 : (nd.map enY).length = l.length := by rw [List.length_map]; exact hnl
  refine wk ?_
  ((try (first | intro K ms hms hK | intro K hK)); (first | refine Chain.geq rfl rfl rfl rfl rfl (fun h1 => ?_) (fun h1 => ?_) | refine Chain.geqD rfl rfl rfl rfl rfl (fun h1 => ?_) (fun h1 => ?_)))
  · obtain ⟨m, rfl⟩ : ∃ m, n = m + 1 := ⟨n - 1, by omega⟩
    rw [show (((m + 1 : Nat) : Int) - 1) = (m : Int) by omega]
    have hm : m < nd.length := by omega
    have hml : m < l.length := by omega
    have hgb : nd[m]? = some nd[m] := List.getElem?_eq_getElem hm
    have hgD : nd.getD m false = nd[m] := by rw [List.getD_eq_getElem?_getD, hgb]; rfl
    have hget : l[m]? = some l[m] := List.getElem?_eq_getElem hml
    have hsl := hpl l[m] (List.getElem_mem hml)
    have hpr : ∀ k ∈ l[m].pr, 0 ≤ k ∧ k < m := fun k hk => okTo_pr hok hget hk
    have hlD : l.getD m ⟨0, [], 0, [], []⟩ = l[m] := by rw [List.getD_eq_getElem?_getD, hget]; rfl
    rw [needDown, hgD, hlD] at hnd
    generalize l[m] = s at hget hsl hpr hnd hlD
    generalize hb : nd[m] = b at hgb hnd
    refine wk ?_
    refine AC.loop (X := Nat × List Bool) (fun x => ⟨[(0, .d (.l (l.map enSQ))), (5, .r 13 0), (6, .d (.v (.int .i64 (m : Int)))), (26, .d (enZ s.pr)), (27, .d (.v (.int .i64 (s.pr.length : Int)))), (28, .d (.v (.int .i64 (x.1 : Int))))], [(13, .row 0 4 1 (x.2.map enY))]⟩) (fun x => x.1 ≤ s.pr.length ∧ x.2 = if b = true then markPr nd (s.pr.take x.1) else nd) (fun x => s.pr.length - x.1) (0, nd) ⟨Nat.zero_le _, by cases b <;> rfl⟩ ⟨rfl, rfl, rfl, rfl, rfl, rfl, trivial⟩ ⟨rfl, trivial⟩ ?_
    intro ⟨j, ne⟩ ⟨hj, hne⟩
    dsimp only at hj hne ⊢
    refine wk ?_
    ((try (first | intro K ms hms hK | intro K hK)); (first | refine Chain.lss rfl rfl rfl rfl rfl (fun h2 => ?_) (fun h2 => ?_) | refine Chain.lssD rfl rfl rfl rfl rfl (fun h2 => ?_) (fun h2 => ?_)))
    · have hj' : j < s.pr.length := by omega
      have hgj : s.pr[j]? = some s.pr[j] := List.getElem?_eq_getElem hj'
      obtain ⟨hk0, hkm⟩ := hpr s.pr[j] (List.getElem_mem hj')
      have hmk := markPr_take nd hgj
      have hnel : ne.length = l.length := by
        rw [hne]
        split
        · rw [markPr_len]; exact hnl
        · exact hnl
      have hnel2 : (ne.map enY).length = l.length := by rw [List.length_map]; exact hnel
      have hgm : ne[m]? = some b := by
        rw [hne]
        split
        · rw [markPr_get fun k hk => hpr k (List.mem_of_mem_take hk)]; exact hgb
        · exact hgb
      have hgm2 : (ne.map enY)[m]? = some (enY b) := by rw [List.getElem?_map, hgm]; rfl
      generalize s.pr[j] = k at hgj hk0 hkm hmk
      have hgk : ne[k.toNat]? = some (ne[k.toNat]'(by omega)) := List.getElem?_eq_getElem _
      generalize (ne[k.toNat]'(by omega)) = c at hgk
      have hgk2 : (ne.map enY)[k.toNat]? = some (enY c) := by rw [List.getElem?_map, hgk]; rfl
      have hnext : ne.set k.toNat (c || b) = if b = true then markPr nd (s.pr.take (j + 1)) else nd := by
        cases b with
        | true => rw [if_pos rfl] at hne ⊢; rw [hmk, ← hne]; simp
        | false => rw [if_neg (by decide)] at hne ⊢; rw [Bool.or_false, set_self hgk, hne]
      refine wk ?_
      ((try (first | intro K ms hms hK | intro K hK)); (first | apply Chain.go | apply Chain.goD); exact rfl; exact rfl; exact Loc.idxR (i := k.toNat) rfl rfl rfl rfl (by omega) (by omega) rfl)
      refine wk ?_
      cases c with
      | true =>
        refine wk ?_
        ((try (first | intro K ms hms hK | intro K hK)); (first | apply Chain.go | apply Chain.goD); exact rfl; exact rfl; exact Loc.idxR (i := k.toNat) rfl rfl rfl rfl (by omega) (by omega) rfl)
        ((try (first | intro K ms hms hK | intro K hK)); (first | apply Chain.st | apply Chain.stD); exact rfl; exact rfl; exact Do.setM true rfl rfl rfl hgk rfl rfl rfl rfl rfl rfl; exact rfl; exact rfl)
        refine wk ?_
        exact ⟨(j + 1, ne.set k.toNat true), ⟨by dsimp only; omega, hnext⟩, by dsimp only; omega, ⟨rfl, rfl, rfl, rfl, rfl, rfl, trivial⟩, ⟨rfl, trivial⟩⟩
      | false =>
        refine wk ?_
        ((try (first | intro K ms hms hK | intro K hK)); (first | apply Chain.go | apply Chain.goD); exact rfl; exact rfl; exact Loc.idxR (i := k.toNat) rfl rfl rfl rfl (by omega) (by omega) rfl)
        ((try (first | intro K ms hms hK | intro K hK)); (first | apply Chain.st | apply Chain.stD); exact rfl; exact rfl; exact Do.setM b rfl rfl rfl hgk rfl rfl rfl rfl rfl rfl; exact rfl; exact rfl)
        refine wk ?_
        exact ⟨(j + 1, ne.set k.toNat b), ⟨by dsimp only; omega, hnext⟩, by dsimp only; omega, ⟨rfl, rfl, rfl, rfl, rfl, rfl, trivial⟩, ⟨rfl, trivial⟩⟩
    · rw [List.take_of_length_le (by omega)] at hne
      refine wk ?_
      exact ⟨(m, ne), ⟨by dsimp only; omega, by dsimp only; rw [hne]; split; (rw [markPr_len]; exact hnl); exact hnl, by dsimp only; rw [hne]; exact hnd⟩, by dsimp only; omega, ⟨rfl, rfl, rfl, trivial⟩, ⟨rfl, trivial⟩⟩
  · obtain rfl : n = 0 := by omega
    have hnd0 : nd = needDown l (a + 1) ((List.replicate l.length false).set a true) := hnd
    refine wk ?_
    refine AC.loop (X := Nat) (fun i => ⟨[(9, .r 46 (trues nd i).length), (5, .r 13 0), (48, .d (.v (.int .i64 ((nd.map enY).length : Int)))), (49, .d (.v (.int .i64 (i : Int))))], [(13, .row 0 4 1 (nd.map enY)), (46, .row (trues nd i).length 3 1 ((trues nd i).map fun v => [.v (.int .i64 v)]))]⟩) (fun i => i ≤ l.length) (fun i => l.length - i) 0 (Nat.zero_le _) ⟨rfl, rfl, rfl, rfl, trivial⟩ ⟨rfl, rfl, trivial⟩ ?_
    intro i hi
    refine wk ?_
    ((try (first | intro K ms hms hK | intro K hK)); (first | refine Chain.lss rfl rfl rfl rfl rfl (fun h2 => ?_) (fun h2 => ?_) | refine Chain.lssD rfl rfl rfl rfl rfl (fun h2 => ?_) (fun h2 => ?_)))
    · have hi' : i < nd.length := by omega
      have hgb : nd[i]? = some nd[i] := List.getElem?_eq_getElem hi'
      have hsucc := trues_succ nd i
      have hgD : nd.getD i false = nd[i] := by rw [List.getD_eq_getElem?_getD, hgb]; rfl
      rw [hgD] at hsucc
      have hgb2 : (nd.map enY)[i]? = some (enY nd[i]) := by rw [List.getElem?_map, hgb]; rfl
      have htl := trues_len nd i
      generalize nd[i] = b at hgb2 hsucc
      refine wk ?_
      cases b with
      | false =>
        rw [if_neg (by decide), List.append_nil] at hsucc
        refine wk ?_
        exact ⟨i + 1, by omega, by omega, ⟨by rw [hsucc]; rfl, rfl, rfl, rfl, trivial⟩, ⟨rfl, by rw [hsucc]; rfl, trivial⟩⟩
      | true =>
        rw [if_pos rfl] at hsucc
        have hlen1 : (trues nd (i + 1)).length = (trues nd i).length + 1 := by rw [hsucc]; simp
        refine wk ?_
        exact ⟨i + 1, by omega, by omega, ⟨by rw [hlen1]; rfl, rfl, rfl, rfl, trivial⟩, ⟨rfl, by rw [hlen1, hsucc, enZ_snoc]; rfl, trivial⟩⟩
    · obtain rfl : i = l.length := by omega
      have : needI l a = trues nd l.length := by rw [hnd0]; exact (need_ref hok ha).symm
      refine wk ?_
      rw [this]
      exact ⟨.d rfl ⟨_, _, rfl⟩, trivial⟩
end Go.Proofs.YtfijmpmojhlnmaaDoor
