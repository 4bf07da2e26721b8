/-
  Packages compact and proof's steps by plain data.
-/
import Derived.Test.YtfijmpmojhlnmaaDoorCmpG
namespace Go.Proofs.YtfijmpmojhlnmaaDoor
open Go.RowKit
attribute [local irreducible] AC Do St
/-- The step with other premises. -/
def mvS (s : Stp) (ft : List Int) : Stp := ⟨s.rule, s.cl, s.idx, s.pr.map fun k => ft.getD k.toNat 0, s.tm⟩
theorem enZ_get (l : List Int) (i : Nat) (h : i < l.length) : (l.map fun v => [D.v (.int .i64 v)])[i]? = some [.v (.int .i64 l[i])] := by simp [h]
def mixL (p : List Int) (g : Int → Int) (i : Nat) : List Int := (p.take i).map g ++ p.drop i
theorem mix_get {p : List Int} {g : Int → Int} {i : Nat} {k : Int} (h : p[i]? = some k) : (mixL p g i)[i]? = some k := by
  obtain ⟨h1, h2⟩ := List.getElem?_eq_some_iff.1 h
  unfold mixL
  rw [List.getElem?_append_right (by simp; omega)]
  simp [Nat.min_eq_left (Nat.le_of_lt h1), h]
theorem mix_set {p : List Int} {g : Int → Int} {i : Nat} {k : Int} (h : p[i]? = some k) : (mixL p g i).set i (g k) = mixL p g (i + 1) := by
  obtain ⟨h1, h2⟩ := List.getElem?_eq_some_iff.1 h
  unfold mixL
  rw [List.set_append_right _ _ (by simp; omega), List.take_succ_eq_append_getElem h1, List.map_append, h2]
  have : i - ((p.take i).map g).length = 0 := by simp; omega
  rw [this, List.drop_eq_getElem_cons h1, List.set_cons_zero]
  simp
theorem mix_len (p : List Int) (g : Int → Int) (i : Nat) : (mixL p g i).length = p.length := by unfold mixL; simp; omega
set_option maxRecDepth 100000 in
set_option maxHeartbeats 4000000 in
theorem copiedF (s : Stp) (ft : List Int) (h1 : s.cl.length ≤ 1000000) (h2 : s.pr.length ≤ 1000000) (h3 : s.tm.length ≤ 1000000) (hp : ∀ k ∈ s.pr, 0 ≤ k ∧ k < ft.length) :
    FnX Tryd.prog 19 [.g (enS s)] (.row 0 3 1 (ft.map fun v => [.v (.int .i64 v)])) (.row 0 3 1 (ft.map fun v => [.v (.int .i64 v)])) [] [.g (enS (mvS s ft))] := by
  have htl : (ft.map fun v => [D.v (.int .i64 v)]).length = ft.length := by simp
  refine FnX.of Tryd.func19 rfl (by kernel_rfl) Tryd.ntmps19 Tryd.results19 rfl .row fun w0 S0 v => ?_
  refine wk ?_
  ((try (first | intro K ms hms hK | intro K hK)); (first | apply Chain.go | apply Chain.goD); exact rfl; exact rfl; refine Loc.callD (cloneZ s.cl (by omega)) rfl ?_; (repeat (first | exact trivial | refine ⟨.inl rfl, ?_⟩ | refine ⟨.inr rfl, ?_⟩)))
  refine wk ?_
  ((try (first | intro K ms hms hK | intro K hK)); (first | apply Chain.go | apply Chain.goD); exact rfl; exact rfl; refine Loc.callD (cloneR s.tm (by omega)) rfl ?_; (repeat (first | exact trivial | refine ⟨.inl rfl, ?_⟩ | refine ⟨.inr rfl, ?_⟩)))
  refine wk ?_
  ((try (first | intro K ms hms hK | intro K hK)); (first | apply Chain.ef | apply Chain.efD); exact rfl; exact rfl; exact Do.callRow (cloneZR s.pr (by omega)) rfl ⟨.inl rfl, trivial⟩ rfl; exact rfl; exact rfl)
  refine wk ?_
  refine AC.loop (X := Nat) (fun i => ⟨[(1, .r 37 0), (2, .p 2 0), (4, .p 4 0), (5, .r 18 0), (19, .r 18 0), (20, .d (.v (.int .i64 ((s.pr.map fun v => [D.v (.int .i64 v)]).length : Int)))), (21, .d (.v (.int .i64 (i : Int))))], [(2, .box 43 ((enS s).map .d)), (4, .box 43 [.d (.v (.int .i64 0)), .d .n, .d (.v (.int .i64 0)), .d .n, .d .n]), (18, .row 0 3 1 ((mixL s.pr (fun k => ft.getD k.toNat 0) i).map fun v => [.v (.int .i64 v)])), (37, .row 0 3 1 (ft.map fun v => [.v (.int .i64 v)]))]⟩) (fun i => i ≤ s.pr.length) (fun i => s.pr.length - i) 0 (Nat.zero_le _) ⟨rfl, rfl, rfl, rfl, rfl, rfl, rfl, trivial⟩ ⟨rfl, rfl, rfl, rfl, trivial⟩ ?_
  intro i hi
  have hpl : (s.pr.map fun v => [D.v (.int .i64 v)]).length = s.pr.length := by simp
  refine wk ?_
  ((try (first | intro K ms hms hK | intro K hK)); (first | refine Chain.lss rfl rfl rfl rfl rfl (fun h4 => ?_) (fun h4 => ?_) | refine Chain.lssD rfl rfl rfl rfl rfl (fun h4 => ?_) (fun h4 => ?_)))
  · have hi' : i < s.pr.length := by omega
    have hget : s.pr[i]? = some s.pr[i] := List.getElem?_eq_getElem hi'
    obtain ⟨hk0, hk1⟩ := hp s.pr[i] (List.getElem_mem hi')
    have hmg := mix_get (g := fun k => ft.getD k.toNat 0) hget
    have hms := mix_set (g := fun k => ft.getD k.toNat 0) hget
    have hml := mix_len s.pr (fun k => ft.getD k.toNat 0) i
    generalize s.pr[i] = k at hget hk0 hk1 hmg hms
    have hml2 : ((mixL s.pr (fun k => ft.getD k.toNat 0) i).map fun v => [D.v (.int .i64 v)]).length = s.pr.length := by rw [List.length_map]; exact hml
    have hmg2 : ((mixL s.pr (fun k => ft.getD k.toNat 0) i).map fun v => [D.v (.int .i64 v)])[i]? = some [.v (.int .i64 k)] := by rw [List.getElem?_map, hmg]; rfl
    have hfg : (ft.map fun v => [D.v (.int .i64 v)])[k.toNat]? = some [.v (.int .i64 (ft.getD k.toNat 0))] := by
      rw [List.getElem?_map, List.getD_eq_getElem?_getD, List.getElem?_eq_getElem (by omega)]; rfl
    refine wk ?_
    ((try (first | intro K ms hms hK | intro K hK)); (first | apply Chain.go | apply Chain.goD); exact rfl; exact rfl; exact Loc.idxR (i := k.toNat) rfl rfl rfl rfl (by omega) (by omega) rfl)
    refine wk ?_
    ((try (first | intro K ms hms hK | intro K hK)); (first | apply Chain.st | apply Chain.stD); exact rfl; exact rfl; exact Do.setM (ft.getD k.toNat 0) rfl rfl rfl hmg rfl rfl rfl rfl rfl rfl; exact rfl; exact rfl)
    refine wk ?_
    exact ⟨i + 1, by omega, by omega, ⟨rfl, rfl, rfl, rfl, rfl, rfl, rfl, trivial⟩, ⟨rfl, rfl, by rw [← hms]; rfl, rfl, trivial⟩⟩
  · have hfin : mixL s.pr (fun k => ft.getD k.toNat 0) i = (mvS s ft).pr := by
      unfold mixL
      rw [List.take_of_length_le (by omega), List.drop_of_length_le (by omega), List.append_nil]
      rfl
    rw [hfin]
    refine wk ?_
    (first | intro K ms hms hK | intro K hK)
    refine Chain.frzBox 2 3 rfl rfl rfl ?_
    refine wk ?_
    exact ⟨⟨.cn rfl rfl inferInstance rfl ⟨.inl rfl, .inl rfl, .inl rfl, .inl rfl, .inl rfl, trivial⟩, trivial⟩, rfl⟩
end Go.Proofs.YtfijmpmojhlnmaaDoor
