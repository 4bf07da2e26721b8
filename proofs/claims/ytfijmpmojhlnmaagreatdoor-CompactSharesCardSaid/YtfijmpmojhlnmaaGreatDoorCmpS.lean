/-
  The laws CompactShares and CompactCompacts by plain data.
-/
import Derived.Test.YtfijmpmojhlnmaaGreatDoorRefA
import Derived.Test.YtfijmpmojhlnmaaGreatDoorCmpP
import Derived.Test.YtfijmpmojhlnmaaGreatDoorCmpL
namespace Go.Proofs.YtfijmpmojhlnmaaGreatDoor
open Go.RowKit
attribute [local irreducible] AC Do St
/-- A step, as the laws are handed it: its numbers are ints of 64 bits. -/
def okSR (s : SN) : Prop := okSN s ∧ R64 s.rule ∧ R64 s.idx ∧ (∀ x ∈ s.cl, R64 x) ∧ ∀ x ∈ s.pr, R64 x
theorem stL_wf {l : List SN} (hl : ∀ s ∈ l, okSR s) : ∀ s ∈ stL l, WfS s := fun s hs => by
  have hsm := stL_sm (fun s h => (hl s h).1) s hs
  obtain ⟨n, hn, rfl⟩ := List.mem_map.1 hs
  obtain ⟨_, h1, h2, h3, h4⟩ := hl n (List.mem_of_mem_take hn)
  exact ⟨h1, h2, fun x hx => h3 x (List.mem_of_mem_take hx), fun x hx => h4 x (List.mem_of_mem_take hx), hsm⟩
set_option maxRecDepth 100000 in
set_option maxHeartbeats 4000000 in
theorem shareNo4 (l : List Stp) (hl : l.length ≤ 300000) (hpl : ∀ s ∈ l, s.pr.length ≤ 1000000) (hok : ¬ okS l) : Fn Tryz.prog 7 [.d (.l (l.map enS))] [.d (.l []), .d (.l []), .d (.v (.int .i64 4))] := by
  have hchk := checkF l hl hpl
  rw [chk_no4 hok] at hchk
  refine Fn.of Tryz.func7 rfl (by kernel_rfl) Tryz.ntmps7 Tryz.results7 rfl fun w0 S0 => ?_
  refine wk ?_
  ((try (first | intro K ms hms hK | intro K hK)); (first | apply Chain.go | apply Chain.goD); exact rfl; exact rfl; refine Loc.callD (hchk) rfl ?_; (repeat (first | exact trivial | refine ⟨.inl rfl, ?_⟩ | refine ⟨.inr rfl, ?_⟩)))
  refine wk ?_
  exact ⟨.d rfl (.inr rfl), .d rfl (.inr rfl), .d rfl (.inl rfl), trivial⟩
set_option maxRecDepth 100000 in
set_option maxHeartbeats 4000000 in
theorem compNo4 (l : List Stp) (hl : l.length ≤ 300000) (hpl : ∀ s ∈ l, s.pr.length ≤ 1000000) (hok : ¬ okS l) : Fn Tryz.prog 16 [.d (.l (l.map enS))] [.d (.l []), .d (.v (.int .i64 4))] := by
  refine Fn.of Tryz.func16 rfl (by kernel_rfl) Tryz.ntmps16 Tryz.results16 rfl fun w0 S0 => ?_
  refine wk ?_
  ((try (first | intro K ms hms hK | intro K hK)); (first | apply Chain.go | apply Chain.goD); exact rfl; exact rfl; refine Loc.callT (shareNo4 l hl hpl hok) rfl ?_; (repeat (first | exact trivial | refine ⟨.inl rfl, ?_⟩ | refine ⟨.inr rfl, ?_⟩)))
  refine wk ?_
  exact ⟨.d rfl (.inr rfl), .d rfl (.inl rfl), trivial⟩
set_option maxRecDepth 100000 in
set_option maxHeartbeats 4000000 in
theorem compNil : Fn Tryz.prog 16 [.d (.l [])] [.d (.l []), .d (.v (.int .i64 0))] := by
  have hsh := shareF KyG (klit KyG) [] (by simp) (by simp) (fun i h => absurd h (by simp)) (kyG_ok (by simp)) keyd
  have e : share (klit KyG) [] = ([], []) := rfl
  rw [e] at hsh
  refine Fn.of Tryz.func16 rfl (by kernel_rfl) Tryz.ntmps16 Tryz.results16 rfl fun w0 S0 => ?_
  refine wk ?_
  ((try (first | intro K ms hms hK | intro K hK)); (first | apply Chain.go | apply Chain.goD); exact rfl; exact rfl; refine Loc.callT (hsh) rfl ?_; (repeat (first | exact trivial | refine ⟨.inl rfl, ?_⟩ | refine ⟨.inr rfl, ?_⟩)))
  refine wk ?_
  ((try (first | intro K ms hms hK | intro K hK)); (first | apply Chain.go | apply Chain.goD); exact rfl; exact rfl; exact Loc.eqlT rfl rfl rfl rfl)
  refine wk ?_
  exact ⟨.d rfl (.inr rfl), .d rfl (.inl rfl), trivial⟩
theorem share_wf {l : List Stp} (hl : l.length ≤ 300000) (hw : ∀ s ∈ l, WfS s) (kl : Stp → Lit) : ∀ y ∈ (share kl l).1, WfS y := fun y hy => by
  obtain ⟨s, q1, ft, q2, rfl⟩ := share_mem y hy
  exact (hw s q1).mv fun k hk => by have := q2 k hk; omega
set_option maxRecDepth 100000 in
set_option maxHeartbeats 4000000 in
theorem sharesF (l : List SN) (hl : ∀ s ∈ l, okSR s) : Fn Tryz.prog 3 [.d (.l (l.map enSN))] [.d (.v (.bool true))] := by
  have hof := of22 l fun s h => (hl s h).1
  have hwf := stL_wf hl
  have hlen := stL_len l
  generalize stL l = L at hof hwf hlen
  have hsm : ∀ s ∈ L, SmS s := fun s h => (hwf s h).sm
  have hpl : ∀ s ∈ L, s.pr.length ≤ 1000000 := fun s h => (hsm s h).2.2.2
  have htold := told22 L hsm (by omega)
  have hrc := refCheck L (by omega) hpl
  have hchk := checkF L (by omega) hpl
  by_cases hok : okS L
  · rw [chk_ok hok] at hrc hchk
    have hsh := shareF KyG (klit KyG) L (by omega) hsm hok (kyG_ok hwf) keyd
    have hrs := refShare (klit KyG) (fun x y hx hy => klG_inj hx hy) L (by omega) hwf hok
    have hS := share_shd (kl := klit KyG) L
    have hsw := share_wf (by omega) hwf (klit KyG)
    generalize share (klit KyG) L = a at hsh hrs hS hsw
    obtain ⟨out, ft⟩ := a
    obtain ⟨s1, s2, _, _⟩ := hS
    dsimp only at hsh hrs s1 s2 hsw
    have htold2 := told22 out (fun s h => (hsw s h).sm) (by omega)
    have hsame := refSame out out true (by simp) (by omega) (fun s h => (hsw s h).sm) (fun s h => (hsw s h).sm)
    have hsz := sameZ ft ft (by omega)
    rw [decide_eq_true rfl] at hsz
    refine Fn.of Tryz.func3 rfl (by kernel_rfl) Tryz.ntmps3 Tryz.results3 rfl fun w0 S0 => ?_
    refine wk ?_
    ((try (first | intro K ms hms hK | intro K hK)); (first | apply Chain.go | apply Chain.goD); exact rfl; exact rfl; refine Loc.callD (hof) rfl ?_; (repeat (first | exact trivial | refine ⟨.inl rfl, ?_⟩ | refine ⟨.inr rfl, ?_⟩)))
    ((try (first | intro K ms hms hK | intro K hK)); (first | apply Chain.go | apply Chain.goD); exact rfl; exact rfl; refine Loc.callT (hsh) rfl ?_; (repeat (first | exact trivial | refine ⟨.inl rfl, ?_⟩ | refine ⟨.inr rfl, ?_⟩)))
    refine wk ?_
    ((try (first | intro K ms hms hK | intro K hK)); (first | apply Chain.go | apply Chain.goD); exact rfl; exact rfl; refine Loc.callD (hof) rfl ?_; (repeat (first | exact trivial | refine ⟨.inl rfl, ?_⟩ | refine ⟨.inr rfl, ?_⟩)))
    ((try (first | intro K ms hms hK | intro K hK)); (first | apply Chain.go | apply Chain.goD); exact rfl; exact rfl; refine Loc.callD (htold) rfl ?_; (repeat (first | exact trivial | refine ⟨.inl rfl, ?_⟩ | refine ⟨.inr rfl, ?_⟩)))
    ((try (first | intro K ms hms hK | intro K hK)); (first | apply Chain.go | apply Chain.goD); exact rfl; exact rfl; refine Loc.callD (hrc) rfl ?_; (repeat (first | exact trivial | refine ⟨.inl rfl, ?_⟩ | refine ⟨.inr rfl, ?_⟩)))
    refine wk ?_
    ((try (first | intro K ms hms hK | intro K hK)); (first | apply Chain.go | apply Chain.goD); exact rfl; exact rfl; refine Loc.callD (hof) rfl ?_; (repeat (first | exact trivial | refine ⟨.inl rfl, ?_⟩ | refine ⟨.inr rfl, ?_⟩)))
    ((try (first | intro K ms hms hK | intro K hK)); (first | apply Chain.go | apply Chain.goD); exact rfl; exact rfl; refine Loc.callD (hchk) rfl ?_; (repeat (first | exact trivial | refine ⟨.inl rfl, ?_⟩ | refine ⟨.inr rfl, ?_⟩)))
    refine wk ?_
    ((try (first | intro K ms hms hK | intro K hK)); (first | apply Chain.go | apply Chain.goD); exact rfl; exact rfl; refine Loc.callD (hof) rfl ?_; (repeat (first | exact trivial | refine ⟨.inl rfl, ?_⟩ | refine ⟨.inr rfl, ?_⟩)))
    ((try (first | intro K ms hms hK | intro K hK)); (first | apply Chain.go | apply Chain.goD); exact rfl; exact rfl; refine Loc.callD (htold) rfl ?_; (repeat (first | exact trivial | refine ⟨.inl rfl, ?_⟩ | refine ⟨.inr rfl, ?_⟩)))
    ((try (first | intro K ms hms hK | intro K hK)); (first | apply Chain.go | apply Chain.goD); exact rfl; exact rfl; refine Loc.callT (hrs) rfl ?_; (repeat (first | exact trivial | refine ⟨.inl rfl, ?_⟩ | refine ⟨.inr rfl, ?_⟩)))
    refine wk ?_
    ((try (first | intro K ms hms hK | intro K hK)); (first | apply Chain.go | apply Chain.goD); exact rfl; exact rfl; refine Loc.callD (awake24) rfl ?_; (repeat (first | exact trivial | refine ⟨.inl rfl, ?_⟩ | refine ⟨.inr rfl, ?_⟩)))
    refine wk ?_
    ((try (first | intro K ms hms hK | intro K hK)); (first | apply Chain.go | apply Chain.goD); exact rfl; exact rfl; refine Loc.callD (htold2) rfl ?_; (repeat (first | exact trivial | refine ⟨.inl rfl, ?_⟩ | refine ⟨.inr rfl, ?_⟩)))
    refine wk ?_
    ((try (first | intro K ms hms hK | intro K hK)); (first | apply Chain.go | apply Chain.goD); exact rfl; exact rfl; refine Loc.callD (hsame) rfl ?_; (repeat (first | exact trivial | refine ⟨.inl rfl, ?_⟩ | refine ⟨.inr rfl, ?_⟩)))
    refine wk ?_
    ((try (first | intro K ms hms hK | intro K hK)); (first | apply Chain.go | apply Chain.goD); exact rfl; exact rfl; refine Loc.callD (hsz) rfl ?_; (repeat (first | exact trivial | refine ⟨.inl rfl, ?_⟩ | refine ⟨.inr rfl, ?_⟩)))
    refine wk ?_
    exact ⟨.d rfl (.inl rfl), trivial⟩
  · rw [chk_no4 hok] at hrc hchk
    have hsh := shareNo4 L (by omega) hpl hok
    refine Fn.of Tryz.func3 rfl (by kernel_rfl) Tryz.ntmps3 Tryz.results3 rfl fun w0 S0 => ?_
    refine wk ?_
    ((try (first | intro K ms hms hK | intro K hK)); (first | apply Chain.go | apply Chain.goD); exact rfl; exact rfl; refine Loc.callD (hof) rfl ?_; (repeat (first | exact trivial | refine ⟨.inl rfl, ?_⟩ | refine ⟨.inr rfl, ?_⟩)))
    ((try (first | intro K ms hms hK | intro K hK)); (first | apply Chain.go | apply Chain.goD); exact rfl; exact rfl; refine Loc.callT (hsh) rfl ?_; (repeat (first | exact trivial | refine ⟨.inl rfl, ?_⟩ | refine ⟨.inr rfl, ?_⟩)))
    refine wk ?_
    ((try (first | intro K ms hms hK | intro K hK)); (first | apply Chain.go | apply Chain.goD); exact rfl; exact rfl; refine Loc.callD (hof) rfl ?_; (repeat (first | exact trivial | refine ⟨.inl rfl, ?_⟩ | refine ⟨.inr rfl, ?_⟩)))
    ((try (first | intro K ms hms hK | intro K hK)); (first | apply Chain.go | apply Chain.goD); exact rfl; exact rfl; refine Loc.callD (htold) rfl ?_; (repeat (first | exact trivial | refine ⟨.inl rfl, ?_⟩ | refine ⟨.inr rfl, ?_⟩)))
    ((try (first | intro K ms hms hK | intro K hK)); (first | apply Chain.go | apply Chain.goD); exact rfl; exact rfl; refine Loc.callD (hrc) rfl ?_; (repeat (first | exact trivial | refine ⟨.inl rfl, ?_⟩ | refine ⟨.inr rfl, ?_⟩)))
    refine wk ?_
    ((try (first | intro K ms hms hK | intro K hK)); (first | apply Chain.go | apply Chain.goD); exact rfl; exact rfl; refine Loc.callD (hof) rfl ?_; (repeat (first | exact trivial | refine ⟨.inl rfl, ?_⟩ | refine ⟨.inr rfl, ?_⟩)))
    ((try (first | intro K ms hms hK | intro K hK)); (first | apply Chain.go | apply Chain.goD); exact rfl; exact rfl; refine Loc.callD (hchk) rfl ?_; (repeat (first | exact trivial | refine ⟨.inl rfl, ?_⟩ | refine ⟨.inr rfl, ?_⟩)))
    refine wk ?_
    ((try (first | intro K ms hms hK | intro K hK)); (first | apply Chain.go | apply Chain.goD); exact rfl; exact rfl; refine Loc.callD (awake24) rfl ?_; (repeat (first | exact trivial | refine ⟨.inl rfl, ?_⟩ | refine ⟨.inr rfl, ?_⟩)))
    refine wk ?_
    ((try (first | intro K ms hms hK | intro K hK)); (first | apply Chain.go | apply Chain.goD); exact rfl; exact rfl; exact Loc.eqlT rfl rfl rfl rfl)
    refine wk ?_
    ((try (first | intro K ms hms hK | intro K hK)); (first | apply Chain.go | apply Chain.goD); exact rfl; exact rfl; exact Loc.eqlT rfl rfl rfl rfl)
    refine wk ?_
    exact ⟨.d rfl (.inl rfl), trivial⟩
theorem compL_wf {kl : Stp → Lit} {l : List Stp} (h0 : 0 < l.length) (hl : l.length ≤ 60) (hw : ∀ s ∈ l, WfS s) (hok : okS l) (hinj : ∀ x y, WfS x → WfS y → kl x = kl y → x = y) : 0 < (compL kl l).length ∧ (compL kl l).length ≤ l.length ∧ (∀ y ∈ compL kl l, WfS y) ∧ okS (compL kl l) ∧ (compL kl l).Nodup ∧ compL kl (compL kl l) = compL kl l ∧ (needI (compL kl l) ((compL kl l).length - 1)).length = (compL kl l).length := by
  obtain ⟨out, m, h1, h2, h3, h4, h5, e⟩ := comp_form (kl := kl) h0 hok
  rw [e]
  have hp := nN_pos h2 h3
  have hlen : (nN out m).length ≤ out.length := by
    have h6 : (nN out m).length ≤ m + 1 := by
      unfold nN
      have := List.length_filter_le (fun i => (need0 out m).getD i false) (List.range (m + 1))
      simpa using this
    omega
  have hwR : ∀ y ∈ cmp out m, WfS y := fun y hy => by
    obtain ⟨k, hk, rfl⟩ := List.mem_map.1 hy
    have hkl := nN_lt h3 k hk
    rw [getD_get hkl]
    obtain ⟨s, q1, ft, q2, q3⟩ := h5 _ (List.getElem_mem hkl)
    rw [q3]
    have hw1 := (hw s q1).mv (ft := ft) fun j hj => by have := q2 j hj; omega
    refine ⟨hw1.rule, hw1.idx, hw1.cl, fun x hx => ?_, hw1.sm.1, hw1.sm.2.1, hw1.sm.2.2.1, by show (List.map _ _).length ≤ _; rw [List.length_map]; exact hw1.sm.2.2.2⟩
    obtain ⟨p, hp, rfl⟩ := List.mem_map.1 hx
    have := List.idxOf_le_length (a := p.toNat) (l := nN out m)
    unfold R64
    omega
  have hndp := cmp_need h2 h3
  have hpos : 0 < (cmp out m).length := by rw [cmp_len]; exact hp
  refine ⟨hpos, by rw [cmp_len]; omega, hwR, cmp_ok h2 h3, cmp_nodup h2 h3 h1, comp_id hpos (cmp_ok h2 h3) (cmp_nodup h2 h3 h1) (fun x hx y hy h => hinj x y (hwR x hx) (hwR y hy) h) hndp, by rw [hndp]; simp⟩
set_option maxRecDepth 100000 in
set_option maxHeartbeats 8000000 in
theorem compactsF (l : List SN) (hl : ∀ s ∈ l, okSR s) : Fn Tryz.prog 4 [.d (.l (l.map enSN))] [.d (.v (.bool true))] := by
  have hof := of22 l fun s h => (hl s h).1
  have hwf := stL_wf hl
  have hlen := stL_len l
  generalize stL l = L at hof hwf hlen
  have hsm : ∀ s ∈ L, SmS s := fun s h => (hwf s h).sm
  have hpl : ∀ s ∈ L, s.pr.length ≤ 1000000 := fun s h => (hsm s h).2.2.2
  have htold := told22 L hsm (by omega)
  have hrc := refCheck L (by omega) hpl
  by_cases hok : okS L
  · rw [chk_ok hok] at hrc
    by_cases h0 : L.length = 0
    · have h0' : L = [] := List.eq_nil_of_length_eq_zero h0
      subst h0'
      have hcn : Fn Tryz.prog 16 [.d (.l (([] : List Stp).map enS))] [.d (.l []), .d (.v (.int .i64 0))] := compNil
      refine Fn.of Tryz.func4 rfl (by kernel_rfl) Tryz.ntmps4 Tryz.results4 rfl fun w0 S0 => ?_
      refine wk ?_
      ((try (first | intro K ms hms hK | intro K hK)); (first | apply Chain.go | apply Chain.goD); exact rfl; exact rfl; refine Loc.callD (hof) rfl ?_; (repeat (first | exact trivial | refine ⟨.inl rfl, ?_⟩ | refine ⟨.inr rfl, ?_⟩)))
      ((try (first | intro K ms hms hK | intro K hK)); (first | apply Chain.go | apply Chain.goD); exact rfl; exact rfl; refine Loc.callT (hcn) rfl ?_; (repeat (first | exact trivial | refine ⟨.inl rfl, ?_⟩ | refine ⟨.inr rfl, ?_⟩)))
      refine wk ?_
      ((try (first | intro K ms hms hK | intro K hK)); (first | apply Chain.go | apply Chain.goD); exact rfl; exact rfl; refine Loc.callD (hof) rfl ?_; (repeat (first | exact trivial | refine ⟨.inl rfl, ?_⟩ | refine ⟨.inr rfl, ?_⟩)))
      refine wk ?_
      ((try (first | intro K ms hms hK | intro K hK)); (first | apply Chain.go | apply Chain.goD); exact rfl; exact rfl; refine Loc.callD (htold) rfl ?_; (repeat (first | exact trivial | refine ⟨.inl rfl, ?_⟩ | refine ⟨.inr rfl, ?_⟩)))
      ((try (first | intro K ms hms hK | intro K hK)); (first | apply Chain.go | apply Chain.goD); exact rfl; exact rfl; refine Loc.callD (hrc) rfl ?_; (repeat (first | exact trivial | refine ⟨.inl rfl, ?_⟩ | refine ⟨.inr rfl, ?_⟩)))
      refine wk ?_
      ((try (first | intro K ms hms hK | intro K hK)); (first | apply Chain.go | apply Chain.goD); exact rfl; exact rfl; refine Loc.callD (awake24) rfl ?_; (repeat (first | exact trivial | refine ⟨.inl rfl, ?_⟩ | refine ⟨.inr rfl, ?_⟩)))
      refine wk ?_
      exact ⟨.d rfl (.inl rfl), trivial⟩
    · have hinj : ∀ x y, WfS x → WfS y → klit KyG x = klit KyG y → x = y := fun x y hx hy => klG_inj hx hy
      have hc := compF KyG (klit KyG) L (by omega) (by omega) hsm hok (kyG_ok hwf)
      have hrc2 := refComp (klit KyG) hinj L (by omega) (by omega) hwf hok
      obtain ⟨r1, r2, r3, r4, r5, r6, r7⟩ := compL_wf (by omega) hlen hwf hok hinj
      have hc2 := compF KyG (klit KyG) (compL (klit KyG) L) r1 (by omega) (fun s h => (r3 s h).sm) r4 (kyG_ok r3)
      rw [r6] at hc2
      clear r6
      generalize compL (klit KyG) L = R at hc hrc2 hc2 r1 r2 r3 r4 r5 r7
      have hsmR : ∀ s ∈ R, SmS s := fun s h => (r3 s h).sm
      have hnd := refNeed R (by omega) (fun s h => (hsmR s h).2.2.2) r4 (R.length - 1) (by omega)
      have hcast : ((R.length - 1 : Nat) : Int) = (R.length : Int) - 1 := by omega
      rw [hcast] at hnd
      generalize needI R (R.length - 1) = nd at hnd r7
      have htR := told22 R hsmR (by omega)
      have hsame := refSame R R true (by simp) (by omega) hsmR hsmR
      have hRl : (R.map enS).length = R.length := by simp
      have hLl : (L.map enS).length = L.length := by simp
      refine Fn.of Tryz.func4 rfl (by kernel_rfl) Tryz.ntmps4 Tryz.results4 rfl fun w0 S0 => ?_
      refine wk ?_
      ((try (first | intro K ms hms hK | intro K hK)); (first | apply Chain.go | apply Chain.goD); exact rfl; exact rfl; refine Loc.callD (hof) rfl ?_; (repeat (first | exact trivial | refine ⟨.inl rfl, ?_⟩ | refine ⟨.inr rfl, ?_⟩)))
      ((try (first | intro K ms hms hK | intro K hK)); (first | apply Chain.go | apply Chain.goD); exact rfl; exact rfl; refine Loc.callT (hc) rfl ?_; (repeat (first | exact trivial | refine ⟨.inl rfl, ?_⟩ | refine ⟨.inr rfl, ?_⟩)))
      refine wk ?_
      ((try (first | intro K ms hms hK | intro K hK)); (first | apply Chain.go | apply Chain.goD); exact rfl; exact rfl; refine Loc.callD (hof) rfl ?_; (repeat (first | exact trivial | refine ⟨.inl rfl, ?_⟩ | refine ⟨.inr rfl, ?_⟩)))
      refine wk ?_
      ((try (first | intro K ms hms hK | intro K hK)); (first | apply Chain.go | apply Chain.goD); exact rfl; exact rfl; refine Loc.callD (htold) rfl ?_; (repeat (first | exact trivial | refine ⟨.inl rfl, ?_⟩ | refine ⟨.inr rfl, ?_⟩)))
      ((try (first | intro K ms hms hK | intro K hK)); (first | apply Chain.go | apply Chain.goD); exact rfl; exact rfl; refine Loc.callD (hrc) rfl ?_; (repeat (first | exact trivial | refine ⟨.inl rfl, ?_⟩ | refine ⟨.inr rfl, ?_⟩)))
      refine wk ?_
      ((try (first | intro K ms hms hK | intro K hK)); (first | apply Chain.go | apply Chain.goD); exact rfl; exact rfl; refine Loc.callD (awake24) rfl ?_; (repeat (first | exact trivial | refine ⟨.inl rfl, ?_⟩ | refine ⟨.inr rfl, ?_⟩)))
      refine wk ?_
      ((try (first | intro K ms hms hK | intro K hK)); (first | apply Chain.go | apply Chain.goD); exact rfl; exact rfl; refine Loc.callD (htR) rfl ?_; (repeat (first | exact trivial | refine ⟨.inl rfl, ?_⟩ | refine ⟨.inr rfl, ?_⟩)))
      refine wk ?_
      ((try (first | intro K ms hms hK | intro K hK)); (first | apply Chain.go | apply Chain.goD); exact rfl; exact rfl; refine Loc.callD (htold) rfl ?_; (repeat (first | exact trivial | refine ⟨.inl rfl, ?_⟩ | refine ⟨.inr rfl, ?_⟩)))
      ((try (first | intro K ms hms hK | intro K hK)); (first | apply Chain.go | apply Chain.goD); exact rfl; exact rfl; refine Loc.callD (hrc2) rfl ?_; (repeat (first | exact trivial | refine ⟨.inl rfl, ?_⟩ | refine ⟨.inr rfl, ?_⟩)))
      ((try (first | intro K ms hms hK | intro K hK)); (first | apply Chain.go | apply Chain.goD); exact rfl; exact rfl; refine Loc.callD (hsame) rfl ?_; (repeat (first | exact trivial | refine ⟨.inl rfl, ?_⟩ | refine ⟨.inr rfl, ?_⟩)))
      refine wk ?_
      refine AC.loop (X := Nat) (fun i => ⟨[(3, .d (.l (R.map enS))), (63, .d (.v (.int .i64 (R.length : Int)))), (64, .d (.v (.int .i64 (i : Int))))], []⟩) (fun i => i ≤ R.length) (fun i => R.length - i) 0 (Nat.zero_le _) ⟨rfl, rfl, rfl, trivial⟩ trivial ?_
      intro i hi
      refine wk ?_
      ((try (first | intro K ms hms hK | intro K hK)); (first | refine Chain.lss rfl rfl rfl rfl rfl (fun h1 => ?_) (fun h1 => ?_) | refine Chain.lssD rfl rfl rfl rfl rfl (fun h1 => ?_) (fun h1 => ?_)))
      · have hi' : i < R.length := by omega
        have hgi : R[i]? = some R[i] := List.getElem?_eq_getElem hi'
        refine wk ?_
        refine AC.loop (X := Nat) (fun j => ⟨[(3, .d (.l (R.map enS))), (63, .d (.v (.int .i64 (R.length : Int)))), (64, .d (.v (.int .i64 (i : Int)))), (7, .d (.v (.int .i64 (i : Int)))), (8, .d (.v (.int .i64 (j : Int))))], []⟩) (fun j => j ≤ i) (fun j => i - j) 0 (Nat.zero_le _) ⟨rfl, rfl, rfl, rfl, rfl, trivial⟩ trivial ?_
        intro j hj
        refine wk ?_
        ((try (first | intro K ms hms hK | intro K hK)); (first | refine Chain.lss rfl rfl rfl rfl rfl (fun h2 => ?_) (fun h2 => ?_) | refine Chain.lssD rfl rfl rfl rfl rfl (fun h2 => ?_) (fun h2 => ?_)))
        · have hj' : j < R.length := by omega
          have hgj : R[j]? = some R[j] := List.getElem?_eq_getElem hj'
          have hne : eqS R[i] R[j] = false := eqS_no fun e => by
            have := (List.getElem_inj r5).1 e
            omega
          have hal := alikeF R[i] R[j] (hsmR _ (List.getElem_mem hi')) (hsmR _ (List.getElem_mem hj'))
          rw [hne] at hal
          generalize R[i] = x at hgi hal
          generalize R[j] = y at hgj hal
          refine wk ?_
          ((try (first | intro K ms hms hK | intro K hK)); (first | apply Chain.go | apply Chain.goD); exact rfl; exact rfl; refine Loc.callD (htR) rfl ?_; (repeat (first | exact trivial | refine ⟨.inl rfl, ?_⟩ | refine ⟨.inr rfl, ?_⟩)))
          refine wk ?_
          ((try (first | intro K ms hms hK | intro K hK)); (first | apply Chain.go | apply Chain.goD); exact rfl; exact rfl; refine Loc.callD (htR) rfl ?_; (repeat (first | exact trivial | refine ⟨.inl rfl, ?_⟩ | refine ⟨.inr rfl, ?_⟩)))
          refine wk ?_
          ((try (first | intro K ms hms hK | intro K hK)); (first | apply Chain.go | apply Chain.goD); exact rfl; exact rfl; refine Loc.callD (hal) rfl ?_; (repeat (first | exact trivial | refine ⟨.inl rfl, ?_⟩ | refine ⟨.inr rfl, ?_⟩)))
          refine wk ?_
          exact ⟨j + 1, by omega, by omega, ⟨rfl, rfl, rfl, rfl, rfl, trivial⟩, trivial⟩
        · refine wk ?_
          exact ⟨i + 1, by omega, by omega, ⟨rfl, rfl, rfl, trivial⟩, trivial⟩
      · refine wk ?_
        ((try (first | intro K ms hms hK | intro K hK)); (first | apply Chain.go | apply Chain.goD); exact rfl; exact rfl; refine Loc.callT (hc2) rfl ?_; (repeat (first | exact trivial | refine ⟨.inl rfl, ?_⟩ | refine ⟨.inr rfl, ?_⟩)))
        refine wk ?_
        ((try (first | intro K ms hms hK | intro K hK)); (first | apply Chain.go | apply Chain.goD); exact rfl; exact rfl; refine Loc.callD (htR) rfl ?_; (repeat (first | exact trivial | refine ⟨.inl rfl, ?_⟩ | refine ⟨.inr rfl, ?_⟩)))
        refine wk ?_
        ((try (first | intro K ms hms hK | intro K hK)); (first | apply Chain.go | apply Chain.goD); exact rfl; exact rfl; refine Loc.callD (htR) rfl ?_; (repeat (first | exact trivial | refine ⟨.inl rfl, ?_⟩ | refine ⟨.inr rfl, ?_⟩)))
        ((try (first | intro K ms hms hK | intro K hK)); (first | apply Chain.go | apply Chain.goD); exact rfl; exact rfl; refine Loc.callD (hsame) rfl ?_; (repeat (first | exact trivial | refine ⟨.inl rfl, ?_⟩ | refine ⟨.inr rfl, ?_⟩)))
        refine wk ?_
        ((try (first | intro K ms hms hK | intro K hK)); (first | apply Chain.go | apply Chain.goD); exact rfl; exact rfl; refine Loc.callD (htR) rfl ?_; (repeat (first | exact trivial | refine ⟨.inl rfl, ?_⟩ | refine ⟨.inr rfl, ?_⟩)))
        refine wk ?_
        ((try (first | intro K ms hms hK | intro K hK)); (first | apply Chain.go | apply Chain.goD); exact rfl; exact rfl; refine Loc.callD (hnd) rfl ?_; (repeat (first | exact trivial | refine ⟨.inl rfl, ?_⟩ | refine ⟨.inr rfl, ?_⟩)))
        refine wk ?_
        exact ⟨.d rfl (.inl rfl), trivial⟩
  · rw [chk_no4 hok] at hrc
    have hcn := compNo4 L (by omega) hpl hok
    refine Fn.of Tryz.func4 rfl (by kernel_rfl) Tryz.ntmps4 Tryz.results4 rfl fun w0 S0 => ?_
    refine wk ?_
    ((try (first | intro K ms hms hK | intro K hK)); (first | apply Chain.go | apply Chain.goD); exact rfl; exact rfl; refine Loc.callD (hof) rfl ?_; (repeat (first | exact trivial | refine ⟨.inl rfl, ?_⟩ | refine ⟨.inr rfl, ?_⟩)))
    ((try (first | intro K ms hms hK | intro K hK)); (first | apply Chain.go | apply Chain.goD); exact rfl; exact rfl; refine Loc.callT (hcn) rfl ?_; (repeat (first | exact trivial | refine ⟨.inl rfl, ?_⟩ | refine ⟨.inr rfl, ?_⟩)))
    refine wk ?_
    ((try (first | intro K ms hms hK | intro K hK)); (first | apply Chain.go | apply Chain.goD); exact rfl; exact rfl; refine Loc.callD (hof) rfl ?_; (repeat (first | exact trivial | refine ⟨.inl rfl, ?_⟩ | refine ⟨.inr rfl, ?_⟩)))
    refine wk ?_
    ((try (first | intro K ms hms hK | intro K hK)); (first | apply Chain.go | apply Chain.goD); exact rfl; exact rfl; refine Loc.callD (htold) rfl ?_; (repeat (first | exact trivial | refine ⟨.inl rfl, ?_⟩ | refine ⟨.inr rfl, ?_⟩)))
    ((try (first | intro K ms hms hK | intro K hK)); (first | apply Chain.go | apply Chain.goD); exact rfl; exact rfl; refine Loc.callD (hrc) rfl ?_; (repeat (first | exact trivial | refine ⟨.inl rfl, ?_⟩ | refine ⟨.inr rfl, ?_⟩)))
    refine wk ?_
    ((try (first | intro K ms hms hK | intro K hK)); (first | apply Chain.go | apply Chain.goD); exact rfl; exact rfl; refine Loc.callD (awake24) rfl ?_; (repeat (first | exact trivial | refine ⟨.inl rfl, ?_⟩ | refine ⟨.inr rfl, ?_⟩)))
    refine wk ?_
    ((try (first | intro K ms hms hK | intro K hK)); (first | apply Chain.go | apply Chain.goD); exact rfl; exact rfl; exact Loc.eqlT rfl rfl rfl rfl)
    refine wk ?_
    exact ⟨.d rfl (.inl rfl), trivial⟩
end Go.Proofs.YtfijmpmojhlnmaaGreatDoor
