/-
  AtomPlaces: in any list each constraint is matched with the first one that says the same: the law answers true for every list of constraints, and leaves it as it is. The card: the tables that its row lists start as the program's text lays them.
-/
import Derived.Test.YtfijmpmojhlnmaaGreatDoorLaw
import Derived.Test.YtfijmpmojhlnmaaGreatDoorOpenN
import Derived.Test.YtfijmpmojhlnmaaGreatDoorKyL
import Derived.Test.YtfijmpmojhlnmaaGreatDoorCards
import Derived.Test.YtfijmpmojhlnmaaGreatDoorTie
import Derived.LaidMore
import Derived.Lay
import Derived.SevenTiedAt
import Derived.Stop.Joined
import Derived.LaidSub
import Derived.Stop.LaidErr
import Derived.Lib.LaidTab
namespace Go.Proofs.YtfijmpmojhlnmaaGreatDoor.places
open Go.RowKit Go.ChangeShapes Go.WideShapes Go.ChangeAt
theorem own : ownKnob Tryz.prog.godebug = none := by kernel_rfl
theorem laid : laidOutB Tryz.prog = true := by kernel_rfl
theorem odAs {H : Type} {enc : TypeId × Value → H} {W : World} (m : Nat) : OD enc Tryz.prog W m 93 (QList (QOf enAN OKA)) := by
  cases m with
  | zero => intro n hn; omega
  | succ m => exact OD.slice (by kernel_rfl) (k := 4) (by kernel_rfl) ((odA m).imp fun _ h => h)
theorem tab {w : World} (h : laidMetH Tryz.prog Rows.atomPlacesRow.laid w) : Tab w := by
  have h1 := h.filter (fun x => x.1 == "internal/strconv.uint64pow10")
  have e : (Rows.atomPlacesRow.laid.filter fun x => x.1 == "internal/strconv.uint64pow10") = [("internal/strconv.uint64pow10", Lib.tabData .u64 Lib.pow10Tab)] := by kernel_rfl
  rw [e, MakeChecks.laidMetH_plain _ _ _ (by kernel_rfl)] at h1
  exact Lib.tabIs_of_head (g := 0) (t := 221) (e := 162) (n := 20) (by kernel_rfl) (by kernel_rfl) (by kernel_rfl) (by kernel_rfl) (by kernel_rfl) (by kernel_rfl) h1
theorem calls (a0 : List AN) (h0 : ∀ x ∈ a0, OKA x) (k0 : a0.length ≤ 9223372036854775807) (v0 : Value) (w : World) (hT : Tab w) (r0 : RV (Lt w.heap.size) w v0 (.d (.l (a0.map enAN)))) : Calls Tryz.prog 6 #[v0] w fun e w' => e = .returned (.bool true) ∧ Ext w w' := by
  refine ((lawPlaces a0 (fun x h => (h0 x h).1) k0).run (Lt w.heap.size) w [v0] hT (fun _ h => h) ⟨rfl, fun i h _ => ?_⟩).mono fun e w' ⟨u, h1, h2, h3⟩ => ?_
  · match i, h with
    | 0, _ => exact r0
  · subst h1
    exact ⟨by rw [RA.val h3], h2⟩
set_option maxRecDepth 100000 in
theorem lifted (os : Os) (started : os.Started) (H : Type) (enc : TypeId × Value → H) :
    ReturnsInHanded {} Tryz.checked os 6 .any (fun w args => (Rows.atomPlacesSpec.pre enc Tryz.prog Tryz.f6 Rows.atomPlacesRow.domain false w args ∧ laidMetH Tryz.prog Rows.atomPlacesRow.laid w) ∧ sizedMet enc Tryz.prog Tryz.f6 (OpenSpec.ofChange Rows.atomPlacesSpec) false w args)
      (Rows.atomPlacesSpec.post enc Tryz.prog Tryz.f6 false true false false) := by
  refine returnsInHanded_of_change_and (C := Tryz.checked) (X := fun w _ => laidMetH Tryz.prog Rows.atomPlacesRow.laid w) (fun _ _ _ hh h => h.of_heap hh) own started (by kernel_rfl) Tryz.func6
    (ChangeSpec.witness_shaped (enc := enc) (C := Tryz.checked) (os := os) (X := fun w _ => laidMetH Tryz.prog Rows.atomPlacesRow.laid w) false (World.laidAll Tryz.prog os Rows.atomPlacesRow.laid) #[.slice none 0 0] 8 (World.laidAll_os _ _ _)
      (World.shaped_of_ZipB (by kernel_rfl) (by kernel_rfl)) (by kernel_rfl) (by kernel_rfl) (by kernel_rfl)
      (by rw [MakeChecks.laidMetH_plain _ _ _ (by kernel_rfl)]; exact laidMet_laidAll _ (by kernel_rfl) (by kernel_rfl))) ?_
  intro W base args ds gs before hval0 hW x1 x2 x3 x4
  have hTab : Tab W := by first | exact tab x1 | exact tab x2 | exact tab x3 | exact tab x4 | exact tab x2.2 | exact tab x1.2 | exact tab x3.2
  have hval : ∀ (j : Nat) t v, Tryz.f6.params[j]? = some t → args[j]? = some v → Value.okWide Tryz.prog W .any base t v := hval0
  have hW' := hW
  obtain ⟨p, q, hA0, hV, rfl, hfz, hnd⟩ := hW
  have hA : DataW.TrodAll enc Tryz.prog W 0 (fun _ => true) true Tryz.f6.params.toList args.toList ds p := hA0
  rw [Tryz.params6] at hA hval
  obtain ⟨v0, d0, rfl, rfl, t0⟩ := trodAll_one hA
  obtain ⟨xs0, r0, q0⟩ := RV.ofTrodL Tryz.underlying93 (hval 0 93 v0 rfl rfl) t0 odAs
  obtain ⟨a0, hpt0, h0, k0⟩ := QList.of (fun _ h => h) q0
  simp only [List.cons.injEq, D.l.injEq, and_true] at hpt0
  subst hpt0
  refine (calls a0 h0 k0 _ W hTab r0).mono fun e W' ⟨he, hb⟩ => ?_
  subst he
  exact ⟨_, rfl, law_post laid (by decide +kernel) rfl Tryz.underlying4 rfl hW' hb rfl rfl rfl⟩
theorem said : Rows.AtomPlacesSaid :=
  OpenClaim.holds_of_wide 6 Tryz.f6 rfl rfl rfl rfl rfl rfl rfl ⟨rfl, rfl, rfl, rfl, rfl⟩ rfl rfl rfl rfl rfl (by kernel_rfl) Tryz.func6 (by kernel_rfl)
    (of_decide_eq_true (by kernel_rfl)) (by unfold Func.isWrapper; first | (rw [if_pos (by decide +kernel)]; kernel_rfl) | (rw [if_neg (by decide +kernel)]; exact ⟨rfl, rfl⟩))
    (fun os started H enc _ => lifted os started H enc)
theorem plain (f : FuncId) (fn : Func) (hf : Tryz.pinned.checked.prog.funcNamed "attest/attestlaw09.AtomPlaces" = some f) (hfn : Tryz.pinned.checked.prog.funcs[f]? = some fn) :
    false = Tryz.pinned.checked.prog.looks [] ∧ ∀ (j : Nat) t, fn.params[j]? = some t → Tryz.pinned.checked.prog.wantsStandIn t = false := by
  obtain rfl : f = 6 := Option.some.inj ((show Tryz.prog.funcNamed "attest/attestlaw09.AtomPlaces" = some 6 by kernel_rfl).symm.trans hf) |>.symm
  obtain rfl : fn = Tryz.f6 := (Option.some.inj (Tryz.func6.symm.trans hfn)).symm
  refine ⟨by kernel_rfl, fun j t ht => ?_⟩
  rw [Tryz.params6] at ht
  have hm : t ∈ [93] := by simpa using Array.mem_of_getElem? ht
  have hall : ([93].all fun u => !Tryz.prog.wantsStandIn u) = true := by kernel_rfl
  exact (show Tryz.prog.wantsStandIn t = false by simpa using List.all_eq_true.1 hall t hm)
theorem card : Rows.AtomPlacesCardSaid :=
  Claim7.holds_tied_plain_at .later [] _ _ _ _ said (fun _ h => by cases h) (by kernel_rfl) (fun _ h => by cases h) atomPlaces_row_tie rfl ⟨rfl, rfl⟩ (by kernel_rfl) rfl plain (by kernel_rfl)
end Go.Proofs.YtfijmpmojhlnmaaGreatDoor.places
