/-
  Packages compact and proof's steps by plain data.
  Packages compact and proof's steps by plain data.
-/
import Derived.Test.YtfijmpmojhlnmaaGreatDoorCmpF
namespace Go.Proofs.YtfijmpmojhlnmaaGreatDoor
open Go.RowKit
attribute [local irreducible] AC Do St
def awa : Stp := ⟨1, [1], 0, [], []⟩
def awb : Stp := ⟨1, [-1], 1, [], []⟩
def awc : Stp := ⟨3, [], 0, [2, 1], []⟩
def awd : Stp := ⟨3, [], 0, [0, 1], []⟩
theorem kl0_ne {x y : Stp} (hx : keyOf Tryz.prog 103 (.agg (Ky0.kv x).toArray) = some (klit Ky0 x)) (hy : keyOf Tryz.prog 103 (.agg (Ky0.kv y).toArray) = some (klit Ky0 y)) (h : x.rule ≠ y.rule ∨ x.idx ≠ y.idx) : klit Ky0 x ≠ klit Ky0 y := fun e => by
  rw [e] at hx
  have h1 := keyd.inj hx hy
  injection h1 with h1
  have h2 : Ky0.kv x = Ky0.kv y := by simpa using congrArg Array.toList h1
  unfold Ky.kv at h2
  injection h2 with h3 h4
  injection h4 with h5 _
  injection h3 with _ h6
  injection h5 with _ h7
  rcases h with h | h
  · exact h h6
  · exact h h7
theorem aw_lit (s : Stp) (h1 : -100 ≤ s.rule ∧ s.rule ≤ 100) (h2 : -100 ≤ s.idx ∧ s.idx ≤ 100) (h3 : s.cl.length ≤ 100) (h4 : s.pr.length ≤ 100) : keyOf Tryz.prog 103 (.agg (Ky0.kv s).toArray) = some (klit Ky0 s) := by
  have e1 := packS_size s.cl
  have e2 := packS_size s.pr
  exact klit_some Ky0 s (WalkArith.wf_i64 (by omega)) (WalkArith.wf_i64 (by omega)) (by show (packS s.cl).size ≤ _; unfold maxLen; omega) (by show (packS s.pr).size ≤ _; unfold maxLen; omega) (by show (0 : Nat) ≤ _; omega)
theorem aw_share : share (klit Ky0) [awa, awb, awa, awc] = ([awa, awb, awd], [0, 1, 0, 2]) := by
  have la := aw_lit awa (by decide) (by decide) (by decide) (by decide)
  have lb := aw_lit awb (by decide) (by decide) (by decide) (by decide)
  have ld := aw_lit awd (by decide) (by decide) (by decide) (by decide)
  have n1 : klit Ky0 awa ≠ klit Ky0 awb := kl0_ne la lb (.inr (by decide))
  have n2 : klit Ky0 awa ≠ klit Ky0 awd := kl0_ne la ld (.inl (by decide))
  have n3 : klit Ky0 awb ≠ klit Ky0 awd := kl0_ne lb ld (.inl (by decide))
  have s1 : shStep (klit Ky0) ([], []) awa = ([awa], [0]) := by
    unfold shStep fiK
    rfl
  have s2 : shStep (klit Ky0) ([awa], [0]) awb = ([awa, awb], [0, 1]) := by
    rcases shStep_cases (klit Ky0) ([awa], [0]) awb with ⟨j, hj, hk, _⟩ | ⟨_, e⟩
    · obtain rfl : j = 0 := by simp at hj; omega
      exact absurd hk n1
    · rw [e]; rfl
  have s3 : shStep (klit Ky0) ([awa, awb], [0, 1]) awa = ([awa, awb], [0, 1, 0]) := by
    rcases shStep_cases (klit Ky0) ([awa, awb], [0, 1]) awa with ⟨j, hj, hk, e⟩ | ⟨h, _⟩
    · have : j = 0 ∨ j = 1 := by simp at hj; omega
      rcases this with rfl | rfl
      · rw [e]; rfl
      · exact absurd hk.symm n1
    · exact absurd rfl (h awa (by simp))
  have s4 : shStep (klit Ky0) ([awa, awb], [0, 1, 0]) awc = ([awa, awb, awd], [0, 1, 0, 2]) := by
    rcases shStep_cases (klit Ky0) ([awa, awb], [0, 1, 0]) awc with ⟨j, hj, hk, e⟩ | ⟨_, e⟩
    · have : j = 0 ∨ j = 1 := by simp at hj; omega
      rcases this with rfl | rfl
      · exact absurd hk n2
      · exact absurd hk n3
    · rw [e]; rfl
  unfold share
  simp only [List.foldl_cons, List.foldl_nil, s1, s2, s3, s4]
theorem aw_need : needI [awa, awb, awd] 2 = [0, 1, 2] := by decide +kernel
theorem aw_comp : compL (klit Ky0) [awa, awb, awa, awc] = [awa, awb, awd] := by
  unfold compL
  rw [aw_share]
  show (cmL [awa, awb, awd] (needI [awa, awb, awd] 2)).1 = _
  rw [aw_need]
  rfl
theorem aw_ok : KyOK Ky0 (klit Ky0) [awa, awb, awa, awc] := by
  have hs : ∀ s ∈ [awa, awb, awa, awc], s.tm = [] ∧ -100 ≤ s.rule ∧ s.rule ≤ 100 ∧ -100 ≤ s.idx ∧ s.idx ≤ 100 ∧ s.cl.length ≤ 100 ∧ s.pr.length ≤ 100 := by
    intro s hs
    simp only [List.mem_cons, List.not_mem_nil, or_false] at hs
    rcases hs with rfl | rfl | rfl | rfl <;> exact ⟨rfl, by decide, by decide, by decide, by decide, by decide, by decide⟩
  refine ⟨fun s h ft _ => ?_, fun s h ft _ => ?_⟩
  · obtain ⟨h0, h1, h2, h3, h4, h5, h6⟩ := hs s h
    exact keyNil (mvS s ft) h0 (by show s.cl.length ≤ _; omega) (by rw [mvS_pr]; omega)
  · obtain ⟨h0, h1, h2, h3, h4, h5, h6⟩ := hs s h
    exact aw_lit (mvS s ft) ⟨h1, h2⟩ ⟨h3, h4⟩ h5 (by rw [mvS_pr]; exact h6)
theorem aw_okS : okS [awa, awb, awa, awc] := by
  intro i hi _
  have : i = 0 ∨ i = 1 ∨ i = 2 ∨ i = 3 := by simp at hi; omega
  rcases this with rfl | rfl | rfl | rfl <;> rfl
theorem aw_fn : ∃ X : List Stp, Fn Tryz.prog 16 [.d (.l ([awa, awb, awa, awc].map enS))] [.d (.l (X.map enS)), .d (.v (.int .i64 0))] ∧ X.length = 3 ∧ X[2]? = some awd := by
  refine ⟨_, compF Ky0 (klit Ky0) [awa, awb, awa, awc] (by decide) (by decide) (fun s hs => ?_) aw_okS aw_ok, by rw [aw_comp]; rfl, by rw [aw_comp]; rfl⟩
  simp only [List.mem_cons, List.not_mem_nil, or_false] at hs
  rcases hs with rfl | rfl | rfl | rfl <;> exact ⟨(by simp [awa, awb, awc]), by decide, by decide, by decide⟩
set_option maxRecDepth 100000 in
set_option maxHeartbeats 4000000 in
theorem awake24 : Fn Tryz.prog 12 [] [.d (.v (.bool true))] := by
  obtain ⟨X, hX, hX1, hX2⟩ := aw_fn
  have hsame : Fn Tryz.prog 15 [.d (enZ [0, 1]), .d (enZ [0, 1])] [.d (.v (.bool true))] := by
    have := sameZ [0, 1] [0, 1] (by decide)
    rwa [decide_eq_true rfl] at this
  refine Fn.of Tryz.func12 rfl (by kernel_rfl) Tryz.ntmps12 Tryz.results12 rfl fun w0 S0 => ?_
  refine wk ?_
  ((try (first | intro K ms hms hK | intro K hK)); (first | apply Chain.go | apply Chain.goD); exact rfl; exact rfl; refine Loc.callT (hX) rfl ?_; (repeat (first | exact trivial | refine ⟨.inl rfl, ?_⟩ | refine ⟨.inr rfl, ?_⟩)))
  refine wk ?_
  ((try (first | intro K ms hms hK | intro K hK)); (first | apply Chain.go | apply Chain.goD); exact rfl; exact rfl; refine Loc.callD (hsame) rfl ?_; (repeat (first | exact trivial | refine ⟨.inl rfl, ?_⟩ | refine ⟨.inr rfl, ?_⟩)))
  refine wk ?_
  exact ⟨.d rfl (.inl rfl), trivial⟩
end Go.Proofs.YtfijmpmojhlnmaaGreatDoor
namespace Go.Proofs.YtfijmpmojhlnmaaGreatDoor
open Go.RowKit
attribute [local irreducible] AC Do St
theorem chk_no4 {l : List Stp} (h : ¬ okS l) : chkI l = 4 := by unfold chkI; rw [if_neg h]
set_option maxRecDepth 100000 in
set_option maxHeartbeats 4000000 in
theorem needNo4 (l : List Stp) (hl : l.length ≤ 300000) (hpl : ∀ s ∈ l, s.pr.length ≤ 1000000) (hok : ¬ okS l) (a : Int) : Fn Tryz.prog 46 [.d (.l (l.map enS)), .d (.v (.int .i64 a))] [.d (.l []), .d (.v (.int .i64 4))] := by
  have hchk := checkF l hl hpl
  rw [chk_no4 hok] at hchk
  refine Fn.of Tryz.func46 rfl (by kernel_rfl) Tryz.ntmps46 Tryz.results46 rfl fun w0 S0 => ?_
  refine wk ?_
  ((try (first | intro K ms hms hK | intro K hK)); (first | apply Chain.go | apply Chain.goD); exact rfl; exact rfl; refine Loc.callD (hchk) rfl ?_; (repeat (first | exact trivial | refine ⟨.inl rfl, ?_⟩ | refine ⟨.inr rfl, ?_⟩)))
  refine wk ?_
  exact ⟨.d rfl (.inr rfl), .d rfl (.inl rfl), trivial⟩
set_option maxRecDepth 100000 in
set_option maxHeartbeats 4000000 in
theorem needNo1 (l : List Stp) (hl : l.length ≤ 300000) (hpl : ∀ s ∈ l, s.pr.length ≤ 1000000) (hok : okS l) (a : Int) (ha : a < 0 ∨ (l.length : Int) ≤ a) : Fn Tryz.prog 46 [.d (.l (l.map enS)), .d (.v (.int .i64 a))] [.d (.l []), .d (.v (.int .i64 1))] := by
  have hchk := checkF l hl hpl
  rw [chk_ok hok] at hchk
  refine Fn.of Tryz.func46 rfl (by kernel_rfl) Tryz.ntmps46 Tryz.results46 rfl fun w0 S0 => ?_
  refine wk ?_
  ((try (first | intro K ms hms hK | intro K hK)); (first | apply Chain.go | apply Chain.goD); exact rfl; exact rfl; refine Loc.callD (hchk) rfl ?_; (repeat (first | exact trivial | refine ⟨.inl rfl, ?_⟩ | refine ⟨.inr rfl, ?_⟩)))
  refine wk ?_
  ((try (first | intro K ms hms hK | intro K hK)); (first | refine Chain.lss rfl rfl rfl rfl rfl (fun h1 => ?_) (fun h1 => ?_) | refine Chain.lssD rfl rfl rfl rfl rfl (fun h1 => ?_) (fun h1 => ?_)))
  · refine wk ?_
    exact ⟨.d rfl (.inr rfl), .d rfl (.inl rfl), trivial⟩
  · refine wk ?_
    exact ⟨.d rfl (.inr rfl), .d rfl (.inl rfl), trivial⟩
end Go.Proofs.YtfijmpmojhlnmaaGreatDoor
