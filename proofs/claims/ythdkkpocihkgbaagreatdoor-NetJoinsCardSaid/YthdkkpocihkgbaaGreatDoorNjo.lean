/-
  NetJoins: a network cut in two anywhere answers what the second part makes of the first one's answers: the law answers true at every network, list of numbers and place, and leaves them as they are. The card: the tables that its row lists start as the program's text lays them.
-/
import Derived.Test.YthdkkpocihkgbaaGreatDoorLaw
import Derived.Test.YthdkkpocihkgbaaGreatDoorWrap
import Derived.Test.YthdkkpocihkgbaaGreatDoorOpenQ
import Derived.Test.YthdkkpocihkgbaaGreatDoorNtZ
import Derived.Test.YthdkkpocihkgbaaGreatDoorPf
import Derived.Test.YthdkkpocihkgbaaGreatDoorCards
import Derived.Test.YthdkkpocihkgbaaGreatDoorTie
import Derived.LaidMore
import Derived.Lay
import Derived.SevenTiedAt
import Derived.Stop.Joined
import Derived.LaidSub
import Derived.Stop.LaidErr
import Derived.Lib.LaidTab
namespace Go.Proofs.YthdkkpocihkgbaaGreatDoor.joins
open Go.RowKit Go.ChangeShapes Go.WideShapes Go.ChangeAt
theorem own : ownKnob Tryz.prog.godebug = none := pf_own
theorem laid : laidOutB Tryz.prog = true := pf_laid
theorem calls (a0 : Int × List LQ) (h0 : r64 (a0).1 ∧ ∀ l ∈ a0.2, okL l) (a1 : List (Bool × List Nat × List Nat)) (h1 : ∀ x ∈ a1, okN x) (k1 : a1.length ≤ 9223372036854775807) (a2 : Int) (h2 : -9223372036854775808 ≤ a2 ∧ a2 ≤ 9223372036854775807) (v0 v1 v2 : Value) (w : World) (hT : MaxL w) (r0 : RV (Lt w.heap.size) w v0 (.g ((fun a : Int × List LQ => enQN a.1 a.2) a0))) (r1 : RV (Lt w.heap.size) w v1 (.d (.l (a1.map enN)))) (r2 : RV (Lt w.heap.size) w v2 (.d (.v (.int .i64 a2)))) : Calls Tryz.prog 7 #[v0, v1, v2] w fun e w' => e = .returned (.bool true) ∧ Ext w w' := by
  have _ := k1
  have _ := h2
  refine ((netJoinsF (Kw := MaxL) a0.1 a0.2 a1 a2 h0.1 (fun l hl => (h0.2 l hl).1) h1).run (Lt w.heap.size) w [v0, v1, v2] hT (fun _ h => h) ⟨rfl, fun i h _ => ?_⟩).mono fun e w' ⟨u, h1, h2, h3⟩ => ?_
  · match i, h with
    | 0, _ => exact r0
    | 1, _ => exact r1
    | 2, _ => exact r2
  · subst h1
    exact ⟨by rw [RA.val h3], h2⟩
set_option maxRecDepth 100000 in
theorem lifted (os : Os) (started : os.Started) (H : Type) (enc : TypeId × Value → H) :
    ReturnsInHanded {} Tryz.checked os 7 .any (fun w args => (Rows.netJoinsSpec.pre enc Tryz.prog Tryz.f7 Rows.netJoinsRow.domain false w args ∧ laidMetH Tryz.prog Rows.netJoinsRow.laid w) ∧ sizedMet enc Tryz.prog Tryz.f7 (OpenSpec.ofChange Rows.netJoinsSpec) false w args)
      (Rows.netJoinsSpec.post enc Tryz.prog Tryz.f7 false true false false) := by
  refine handed_both (C := Tryz.checked) (X := fun w _ => laidMetH Tryz.prog Rows.netJoinsRow.laid w) (fun _ _ _ hh h => h.of_heap hh) own started (by kernel_rfl) Tryz.func7
    (ChangeSpec.witness_shaped (enc := enc) (C := Tryz.checked) (os := os) (X := fun w _ => laidMetH Tryz.prog Rows.netJoinsRow.laid w) false (World.laidAll Tryz.prog os Rows.netJoinsRow.laid) #[.agg #[.int .i64 0, .slice none 0 0], .slice none 0 0, .int .i64 0] 8 (World.laidAll_os _ _ _)
      (World.shaped_of_ZipB (by kernel_rfl) (by kernel_rfl)) (by kernel_rfl) (by kernel_rfl) (by kernel_rfl)
      (by rw [MakeChecks.laidMetH_plain _ _ _ (by kernel_rfl)]; exact laidMet_laidAll _ (by kernel_rfl) (by kernel_rfl))) ?_
  intro W base args ds gs before hsh hval0 hW _ _ _ _
  have hTab : MaxL W := maxL_shaped hsh
  have hval : ∀ (j : Nat) t v, Tryz.f7.params[j]? = some t → args[j]? = some v → Value.okWide Tryz.prog W .any base t v := hval0
  have hW' := hW
  obtain ⟨p, q, hA0, hV, rfl, hfz, hnd⟩ := hW
  have hA : DataW.TrodAll enc Tryz.prog W 0 (fun _ => true) true Tryz.f7.params.toList args.toList ds p := hA0
  rw [Tryz.params7] at hA hval
  obtain ⟨v0, v1, v2, d0, d1, d2, p0, p1, p2, rfl, rfl, rfl, t0, t1, t2⟩ := trodAll_three hA
  obtain ⟨ds0, r0, a0, rfl, h0⟩ := RV.ofTrod Tryz.underlying38 (hval 0 38 v0 rfl rfl) t0 oqNet
  obtain ⟨xs1, r1, q1⟩ := RV.ofTrodL Tryz.underlying47 (hval 1 47 v1 rfl rfl) t1 oqNl
  obtain ⟨a1, hpt1, h1, k1⟩ := QList.of (fun _ h => h) q1
  simp only [List.cons.injEq, D.l.injEq, and_true] at hpt1
  subst hpt1
  obtain ⟨a2, rfl, rfl, e2, hw2⟩ := open_int Tryz.underlying3 (hval 2 3 v2 rfl rfl) t2
  refine (calls a0 h0 a1 h1 k1 a2 (i64_of hw2) _ _ _ W hTab r0 r1 (.v rfl)).mono fun e W' ⟨he, hb⟩ => ?_
  subst he
  exact ⟨_, rfl, law_post laid (by decide +kernel) rfl Tryz.underlying4 rfl hW' hb rfl rfl rfl⟩
theorem j_inPlace : (Rows.netJoinsRow.inPlace == (Tryz.prog).inPlace 7) = true := by kernel_rfl
theorem j_unfollowed : (Rows.netJoinsRow.unfollowed == (Tryz.prog).unfollowed 7) = true := by kernel_rfl
theorem j_recurses : (Rows.netJoinsRow.recurses == (Tryz.prog).recurses 7) = true := by kernel_rfl
theorem j_named : (Rows.netJoinsRow.named == (Tryz.prog).varsNamed 7) = true := by kernel_rfl
theorem j_lifted : (Rows.netJoinsRow.lifted == (Tryz.prog).liftsFinal) = true := by kernel_rfl
theorem joined : joinedFacts Tryz.pinned.checked.prog 7 Tryz.f7 Rows.netJoinsSpec Rows.netJoinsRow = true := by
  simp only [joinedFacts, Bool.and_eq_true]
  refine ⟨⟨⟨⟨⟨⟨⟨⟨⟨⟨⟨⟨⟨⟨⟨⟨⟨⟨⟨⟨⟨⟨⟨⟨⟨⟨⟨⟨⟨⟨⟨?_, pf_laid⟩, pf_maps⟩, ?_⟩, ?_⟩, ?_⟩, ?_⟩, ?_⟩, ?_⟩, j_inPlace⟩, j_unfollowed⟩, j_recurses⟩, j_named⟩, ?_⟩, ?_⟩, ?_⟩, ?_⟩, ?_⟩, ?_⟩, ?_⟩, ?_⟩, ?_⟩, ?_⟩, ?_⟩, pf_heard⟩, pf_enter⟩, j_lifted⟩, ?_⟩, ?_⟩, ?_⟩, ?_⟩, ?_⟩
  all_goals kernel_rfl
theorem said : Rows.NetJoinsSaid :=
  OpenClaim.holds_of_wide 7 Tryz.f7 rfl rfl rfl rfl rfl rfl rfl ⟨rfl, rfl, rfl, rfl, rfl⟩ rfl rfl rfl rfl rfl (by kernel_rfl) Tryz.func7 joined
    (of_decide_eq_true (by kernel_rfl)) (by unfold Func.isWrapper; first | (rw [if_pos (by decide +kernel)]; kernel_rfl) | (rw [if_neg (by decide +kernel)]; exact ⟨rfl, rfl⟩))
    (fun os started H enc _ => lifted os started H enc)
theorem plain (f : FuncId) (fn : Func) (hf : Tryz.pinned.checked.prog.funcNamed "attest/attestlaw15.NetJoins" = some f) (hfn : Tryz.pinned.checked.prog.funcs[f]? = some fn) :
    true = Tryz.pinned.checked.prog.looks [] ∧ ∀ (j : Nat) t, fn.params[j]? = some t → Tryz.pinned.checked.prog.wantsStandIn t = false := by
  obtain rfl : f = 7 := Option.some.inj ((show Tryz.prog.funcNamed "attest/attestlaw15.NetJoins" = some 7 by kernel_rfl).symm.trans hf) |>.symm
  obtain rfl : fn = Tryz.f7 := (Option.some.inj (Tryz.func7.symm.trans hfn)).symm
  refine ⟨by kernel_rfl, fun j t ht => ?_⟩
  rw [Tryz.params7] at ht
  have hm : t ∈ [38, 47, 3] := by simpa using Array.mem_of_getElem? ht
  have hall : ([38, 47, 3].all fun u => !Tryz.prog.wantsStandIn u) = true := by kernel_rfl
  exact (show Tryz.prog.wantsStandIn t = false by simpa using List.all_eq_true.1 hall t hm)
theorem card : Rows.NetJoinsCardSaid :=
  Claim7.holds_tied_plain_at .later [] _ _ _ _ said (fun _ h => by cases h) (by kernel_rfl) (fun _ h => by cases h) netJoins_row_tie rfl ⟨rfl, rfl⟩ (by kernel_rfl) rfl plain (by kernel_rfl)
end Go.Proofs.YthdkkpocihkgbaaGreatDoor.joins
