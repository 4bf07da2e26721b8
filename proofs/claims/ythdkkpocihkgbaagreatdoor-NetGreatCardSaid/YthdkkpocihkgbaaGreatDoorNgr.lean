/-
  NetGreat: networks are taken just up to the limits of units, layers and groups: the law answers true at every three numbers. The card: the tables that its row lists start as the program's text lays them.
-/
import Derived.Test.YthdkkpocihkgbaaGreatDoorLaw
import Derived.Test.YthdkkpocihkgbaaGreatDoorWrap
import Derived.Test.YthdkkpocihkgbaaGreatDoorOpenD
import Derived.Test.YthdkkpocihkgbaaGreatDoorNtT
import Derived.Test.YthdkkpocihkgbaaGreatDoorPf
import Derived.Test.YthdkkpocihkgbaaGreatDoorCards
import Derived.Test.YthdkkpocihkgbaaGreatDoorTie
import Derived.LaidMore
import Derived.Lay
import Derived.SevenTiedAt
import Derived.Stop.Joined
import Derived.LaidSub
import Derived.Stop.LaidErr
import Derived.Lib.LaidTab
namespace Go.Proofs.YthdkkpocihkgbaaGreatDoor.great
open Go.RowKit Go.ChangeShapes Go.WideShapes Go.ChangeAt
theorem own : ownKnob Tryz.prog.godebug = none := pf_own
theorem laid : laidOutB Tryz.prog = true := pf_laid
theorem calls (a0 : Int) (h0 : -9223372036854775808 ≤ a0 ∧ a0 ≤ 9223372036854775807) (a1 : Int) (h1 : -9223372036854775808 ≤ a1 ∧ a1 ≤ 9223372036854775807) (a2 : Int) (h2 : -9223372036854775808 ≤ a2 ∧ a2 ≤ 9223372036854775807) (v0 v1 v2 : Value) (w : World) (hT : MaxL w) (r0 : RV (Lt w.heap.size) w v0 (.d (.v (.int .i64 a0)))) (r1 : RV (Lt w.heap.size) w v1 (.d (.v (.int .i64 a1)))) (r2 : RV (Lt w.heap.size) w v2 (.d (.v (.int .i64 a2)))) : Calls Tryz.prog 3 #[v0, v1, v2] w fun e w' => e = .returned (.bool true) ∧ Ext w w' := by
  refine ((netGreatF (Kw := MaxL) a0 a1 a2 h0 h1 h2).run (Lt w.heap.size) w [v0, v1, v2] hT (fun _ h => h) ⟨rfl, fun i h _ => ?_⟩).mono fun e w' ⟨u, h1, h2, h3⟩ => ?_
  · match i, h with
    | 0, _ => exact r0
    | 1, _ => exact r1
    | 2, _ => exact r2
  · subst h1
    exact ⟨by rw [RA.val h3], h2⟩
set_option maxRecDepth 100000 in
theorem lifted (os : Os) (started : os.Started) (H : Type) (enc : TypeId × Value → H) :
    ReturnsInHanded {} Tryz.checked os 3 .any (fun w args => (Rows.netGreatSpec.pre enc Tryz.prog Tryz.f3 Rows.netGreatRow.domain false w args ∧ laidMetH Tryz.prog Rows.netGreatRow.laid w) ∧ sizedMet enc Tryz.prog Tryz.f3 (OpenSpec.ofChange Rows.netGreatSpec) false w args)
      (Rows.netGreatSpec.post enc Tryz.prog Tryz.f3 false true false false) := by
  refine handed_both (C := Tryz.checked) (X := fun w _ => laidMetH Tryz.prog Rows.netGreatRow.laid w) (fun _ _ _ hh h => h.of_heap hh) own started (by kernel_rfl) Tryz.func3
    (ChangeSpec.witness_shaped (enc := enc) (C := Tryz.checked) (os := os) (X := fun w _ => laidMetH Tryz.prog Rows.netGreatRow.laid w) false (World.laidAll Tryz.prog os Rows.netGreatRow.laid) #[.int .i64 0, .int .i64 0, .int .i64 0] 8 (World.laidAll_os _ _ _)
      (World.shaped_of_ZipB (by kernel_rfl) (by kernel_rfl)) (by kernel_rfl) (by kernel_rfl) (by kernel_rfl)
      (by rw [MakeChecks.laidMetH_plain _ _ _ (by kernel_rfl)]; exact laidMet_laidAll _ (by kernel_rfl) (by kernel_rfl))) ?_
  intro W base args ds gs before hsh hval0 hW _ _ _ _
  have hTab : MaxL W := maxL_shaped hsh
  have hval : ∀ (j : Nat) t v, Tryz.f3.params[j]? = some t → args[j]? = some v → Value.okWide Tryz.prog W .any base t v := hval0
  have hW' := hW
  obtain ⟨p, q, hA0, hV, rfl, hfz, hnd⟩ := hW
  have hA : DataW.TrodAll enc Tryz.prog W 0 (fun _ => true) true Tryz.f3.params.toList args.toList ds p := hA0
  rw [Tryz.params3] at hA hval
  obtain ⟨v0, v1, v2, d0, d1, d2, p0, p1, p2, rfl, rfl, rfl, t0, t1, t2⟩ := trodAll_three hA
  obtain ⟨a0, rfl, rfl, e0, hw0⟩ := open_int Tryz.underlying3 (hval 0 3 v0 rfl rfl) t0
  obtain ⟨a1, rfl, rfl, e1, hw1⟩ := open_int Tryz.underlying3 (hval 1 3 v1 rfl rfl) t1
  obtain ⟨a2, rfl, rfl, e2, hw2⟩ := open_int Tryz.underlying3 (hval 2 3 v2 rfl rfl) t2
  refine (calls a0 (i64_of hw0) a1 (i64_of hw1) a2 (i64_of hw2) _ _ _ W hTab (.v rfl) (.v rfl) (.v rfl)).mono fun e W' ⟨he, hb⟩ => ?_
  subst he
  exact ⟨_, rfl, law_post laid (by decide +kernel) rfl Tryz.underlying4 rfl hW' hb rfl rfl rfl⟩
theorem j_inPlace : (Rows.netGreatRow.inPlace == (Tryz.prog).inPlace 3) = true := by kernel_rfl
theorem j_unfollowed : (Rows.netGreatRow.unfollowed == (Tryz.prog).unfollowed 3) = true := by kernel_rfl
theorem j_recurses : (Rows.netGreatRow.recurses == (Tryz.prog).recurses 3) = true := by kernel_rfl
theorem j_named : (Rows.netGreatRow.named == (Tryz.prog).varsNamed 3) = true := by kernel_rfl
theorem j_lifted : (Rows.netGreatRow.lifted == (Tryz.prog).liftsFinal) = true := by kernel_rfl
theorem joined : joinedFacts Tryz.pinned.checked.prog 3 Tryz.f3 Rows.netGreatSpec Rows.netGreatRow = true := by
  simp only [joinedFacts, Bool.and_eq_true]
  refine ⟨⟨⟨⟨⟨⟨⟨⟨⟨⟨⟨⟨⟨⟨⟨⟨⟨⟨⟨⟨⟨⟨⟨⟨⟨⟨⟨⟨⟨⟨⟨?_, pf_laid⟩, pf_maps⟩, ?_⟩, ?_⟩, ?_⟩, ?_⟩, ?_⟩, ?_⟩, j_inPlace⟩, j_unfollowed⟩, j_recurses⟩, j_named⟩, ?_⟩, ?_⟩, ?_⟩, ?_⟩, ?_⟩, ?_⟩, ?_⟩, ?_⟩, ?_⟩, ?_⟩, ?_⟩, pf_heard⟩, pf_enter⟩, j_lifted⟩, ?_⟩, ?_⟩, ?_⟩, ?_⟩, ?_⟩
  all_goals kernel_rfl
theorem said : Rows.NetGreatSaid :=
  OpenClaim.holds_of_wide 3 Tryz.f3 rfl rfl rfl rfl rfl rfl rfl ⟨rfl, rfl, rfl, rfl, rfl⟩ rfl rfl rfl rfl rfl (by kernel_rfl) Tryz.func3 joined
    (of_decide_eq_true (by kernel_rfl)) (by unfold Func.isWrapper; first | (rw [if_pos (by decide +kernel)]; kernel_rfl) | (rw [if_neg (by decide +kernel)]; exact ⟨rfl, rfl⟩))
    (fun os started H enc _ => lifted os started H enc)
theorem plain (f : FuncId) (fn : Func) (hf : Tryz.pinned.checked.prog.funcNamed "attest/attestlaw15.NetGreat" = some f) (hfn : Tryz.pinned.checked.prog.funcs[f]? = some fn) :
    true = Tryz.pinned.checked.prog.looks [] ∧ ∀ (j : Nat) t, fn.params[j]? = some t → Tryz.pinned.checked.prog.wantsStandIn t = false := by
  obtain rfl : f = 3 := Option.some.inj ((show Tryz.prog.funcNamed "attest/attestlaw15.NetGreat" = some 3 by kernel_rfl).symm.trans hf) |>.symm
  obtain rfl : fn = Tryz.f3 := (Option.some.inj (Tryz.func3.symm.trans hfn)).symm
  refine ⟨by kernel_rfl, fun j t ht => ?_⟩
  rw [Tryz.params3] at ht
  have hm : t ∈ [3, 3, 3] := by simpa using Array.mem_of_getElem? ht
  have hall : ([3, 3, 3].all fun u => !Tryz.prog.wantsStandIn u) = true := by kernel_rfl
  exact (show Tryz.prog.wantsStandIn t = false by simpa using List.all_eq_true.1 hall t hm)
theorem card : Rows.NetGreatCardSaid :=
  Claim7.holds_tied_plain_at .later [] _ _ _ _ said (fun _ h => by cases h) (by kernel_rfl) (fun _ h => by cases h) netGreat_row_tie rfl ⟨rfl, rfl⟩ (by kernel_rfl) rfl plain (by kernel_rfl)
end Go.Proofs.YthdkkpocihkgbaaGreatDoor.great
