/-
  AtomKeys: two constraints have the same map key just if their one forms are the same: the law answers true for every two constraints, and leaves them as they are. The card: the tables that its row lists start as the program's text lays them.
-/
import Derived.Test.YtfijmpmojhlnmaaGreatDoorLaw
import Derived.Test.YtfijmpmojhlnmaaGreatDoorOpenN
import Derived.Test.YtfijmpmojhlnmaaGreatDoorKyL
import Derived.Test.YtfijmpmojhlnmaaGreatDoorCards
import Derived.Test.YtfijmpmojhlnmaaGreatDoorTie
import Derived.LaidMore
import Derived.Lay
import Derived.SevenTiedAt
import Derived.Stop.Joined
import Derived.LaidSub
import Derived.Stop.LaidErr
import Derived.Lib.LaidTab
namespace Go.Proofs.YtfijmpmojhlnmaaGreatDoor.keys
open Go.RowKit Go.ChangeShapes Go.WideShapes Go.ChangeAt
theorem own : ownKnob Tryz.prog.godebug = none := by kernel_rfl
theorem laid : laidOutB Tryz.prog = true := by kernel_rfl
theorem tab {w : World} (h : laidMetH Tryz.prog Rows.atomKeysRow.laid w) : Tab w := by
  have h1 := h.filter (fun x => x.1 == "internal/strconv.uint64pow10")
  have e : (Rows.atomKeysRow.laid.filter fun x => x.1 == "internal/strconv.uint64pow10") = [("internal/strconv.uint64pow10", Lib.tabData .u64 Lib.pow10Tab)] := by kernel_rfl
  rw [e, MakeChecks.laidMetH_plain _ _ _ (by kernel_rfl)] at h1
  exact Lib.tabIs_of_head (g := 0) (t := 221) (e := 162) (n := 20) (by kernel_rfl) (by kernel_rfl) (by kernel_rfl) (by kernel_rfl) (by kernel_rfl) (by kernel_rfl) h1
theorem calls (a0 : AN) (h0 : OKA a0) (a1 : AN) (h1 : OKA a1) (v0 v1 : Value) (w : World) (hT : Tab w) (r0 : RV (Lt w.heap.size) w v0 (.g (enAN a0))) (r1 : RV (Lt w.heap.size) w v1 (.g (enAN a1))) : Calls Tryz.prog 5 #[v0, v1] w fun e w' => e = .returned (.bool true) ∧ Ext w w' := by
  refine ((keysF a0 a1 h0.1 h1.1).run (Lt w.heap.size) w [v0, v1] hT (fun _ h => h) ⟨rfl, fun i h _ => ?_⟩).mono fun e w' ⟨u, h1, h2, h3⟩ => ?_
  · match i, h with
    | 0, _ => exact r0
    | 1, _ => exact r1
  · subst h1
    exact ⟨by rw [RA.val h3], h2⟩
set_option maxRecDepth 100000 in
theorem lifted (os : Os) (started : os.Started) (H : Type) (enc : TypeId × Value → H) :
    ReturnsInHanded {} Tryz.checked os 5 .any (fun w args => (Rows.atomKeysSpec.pre enc Tryz.prog Tryz.f5 Rows.atomKeysRow.domain false w args ∧ laidMetH Tryz.prog Rows.atomKeysRow.laid w) ∧ sizedMet enc Tryz.prog Tryz.f5 (OpenSpec.ofChange Rows.atomKeysSpec) false w args)
      (Rows.atomKeysSpec.post enc Tryz.prog Tryz.f5 false true false false) := by
  refine returnsInHanded_of_change_and (C := Tryz.checked) (X := fun w _ => laidMetH Tryz.prog Rows.atomKeysRow.laid w) (fun _ _ _ hh h => h.of_heap hh) own started (by kernel_rfl) Tryz.func5
    (ChangeSpec.witness_shaped (enc := enc) (C := Tryz.checked) (os := os) (X := fun w _ => laidMetH Tryz.prog Rows.atomKeysRow.laid w) false (World.laidAll Tryz.prog os Rows.atomKeysRow.laid) #[.agg #[.slice none 0 0, .bool false, .slice none 0 0, .slice none 0 0, .int .i64 0], .agg #[.slice none 0 0, .bool false, .slice none 0 0, .slice none 0 0, .int .i64 0]] 8 (World.laidAll_os _ _ _)
      (World.shaped_of_ZipB (by kernel_rfl) (by kernel_rfl)) (by kernel_rfl) (by kernel_rfl) (by kernel_rfl)
      (by rw [MakeChecks.laidMetH_plain _ _ _ (by kernel_rfl)]; exact laidMet_laidAll _ (by kernel_rfl) (by kernel_rfl))) ?_
  intro W base args ds gs before hval0 hW x1 x2 x3 x4
  have hTab : Tab W := by first | exact tab x1 | exact tab x2 | exact tab x3 | exact tab x4 | exact tab x2.2 | exact tab x1.2 | exact tab x3.2
  have hval : ∀ (j : Nat) t v, Tryz.f5.params[j]? = some t → args[j]? = some v → Value.okWide Tryz.prog W .any base t v := hval0
  have hW' := hW
  obtain ⟨p, q, hA0, hV, rfl, hfz, hnd⟩ := hW
  have hA : DataW.TrodAll enc Tryz.prog W 0 (fun _ => true) true Tryz.f5.params.toList args.toList ds p := hA0
  rw [Tryz.params5] at hA hval
  obtain ⟨v0, v1, d0, d1, p0, p1, rfl, rfl, rfl, t0, t1⟩ := trodAll_two hA
  obtain ⟨ds0, r0, a0, rfl, h0⟩ := RV.ofTrod Tryz.underlying54 (hval 0 54 v0 rfl rfl) t0 odA
  obtain ⟨ds1, r1, a1, rfl, h1⟩ := RV.ofTrod Tryz.underlying54 (hval 1 54 v1 rfl rfl) t1 odA
  refine (calls a0 h0 a1 h1 _ _ W hTab r0 r1).mono fun e W' ⟨he, hb⟩ => ?_
  subst he
  exact ⟨_, rfl, law_post laid (by decide +kernel) rfl Tryz.underlying4 rfl hW' hb rfl rfl rfl⟩
theorem said : Rows.AtomKeysSaid :=
  OpenClaim.holds_of_wide 5 Tryz.f5 rfl rfl rfl rfl rfl rfl rfl ⟨rfl, rfl, rfl, rfl, rfl⟩ rfl rfl rfl rfl rfl (by kernel_rfl) Tryz.func5 (by kernel_rfl)
    (of_decide_eq_true (by kernel_rfl)) (by unfold Func.isWrapper; first | (rw [if_pos (by decide +kernel)]; kernel_rfl) | (rw [if_neg (by decide +kernel)]; exact ⟨rfl, rfl⟩))
    (fun os started H enc _ => lifted os started H enc)
theorem plain (f : FuncId) (fn : Func) (hf : Tryz.pinned.checked.prog.funcNamed "attest/attestlaw09.AtomKeys" = some f) (hfn : Tryz.pinned.checked.prog.funcs[f]? = some fn) :
    false = Tryz.pinned.checked.prog.looks [] ∧ ∀ (j : Nat) t, fn.params[j]? = some t → Tryz.pinned.checked.prog.wantsStandIn t = false := by
  obtain rfl : f = 5 := Option.some.inj ((show Tryz.prog.funcNamed "attest/attestlaw09.AtomKeys" = some 5 by kernel_rfl).symm.trans hf) |>.symm
  obtain rfl : fn = Tryz.f5 := (Option.some.inj (Tryz.func5.symm.trans hfn)).symm
  refine ⟨by kernel_rfl, fun j t ht => ?_⟩
  rw [Tryz.params5] at ht
  have hm : t ∈ [54, 54] := by simpa using Array.mem_of_getElem? ht
  have hall : ([54, 54].all fun u => !Tryz.prog.wantsStandIn u) = true := by kernel_rfl
  exact (show Tryz.prog.wantsStandIn t = false by simpa using List.all_eq_true.1 hall t hm)
theorem card : Rows.AtomKeysCardSaid :=
  Claim7.holds_tied_plain_at .later [] _ _ _ _ said (fun _ h => by cases h) (by kernel_rfl) (fun _ h => by cases h) atomKeys_row_tie rfl ⟨rfl, rfl⟩ (by kernel_rfl) rfl plain (by kernel_rfl)
end Go.Proofs.YtfijmpmojhlnmaaGreatDoor.keys
