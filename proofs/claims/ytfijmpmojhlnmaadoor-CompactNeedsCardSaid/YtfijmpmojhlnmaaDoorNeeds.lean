/-
  CompactNeeds: the steps on which a step stands are told rightly: the law answers true for every list of steps and every place, and leaves both as they are. The card: the two tables of unicode/utf8 that its row lists start as the program's text lays them.
-/
import Derived.Test.YtfijmpmojhlnmaaDoorLaw
import Derived.Test.YtfijmpmojhlnmaaDoorOpenS
import Derived.Test.YtfijmpmojhlnmaaDoorCmpM
import Derived.Test.YtfijmpmojhlnmaaDoorCards
import Derived.Test.YtfijmpmojhlnmaaDoorTie
import Derived.LaidMore
import Derived.Lay
import Derived.SevenTiedAt
import Derived.Stop.Joined
namespace Go.Proofs.YtfijmpmojhlnmaaDoor.needs
open Go.RowKit Go.ChangeShapes Go.WideShapes Go.ChangeAt
theorem own : ownKnob Tryd.prog.godebug = none := by kernel_rfl
theorem laid : laidOutB Tryd.prog = true := by kernel_rfl
theorem calls (l : List SN) (a : Int) (v v' : Value) (w : World) (hl : ∀ s ∈ l, okSN s) (hv : RV (Lt w.heap.size) w v (.d (.l (l.map enSN)))) (hv' : RV (Lt w.heap.size) w v' (.d (.v (.int .i64 a)))) : Calls Tryd.prog 3 #[v, v'] w fun e w' => e = .returned (.bool true) ∧ Ext w w' := by
  refine ((needsF l a hl).run (Lt w.heap.size) w [v, v'] (fun _ h => h) ⟨rfl, fun i h _ => ?_⟩).mono fun e w' ⟨u, h1, h2, h3⟩ => ?_
  · match i, h with
    | 0, _ => exact hv
    | 1, _ => exact hv'
  · subst h1
    exact ⟨by rw [RA.val h3], h2⟩
set_option maxRecDepth 100000 in
theorem lifted (os : Os) (started : os.Started) (H : Type) (enc : TypeId × Value → H) :
    ReturnsInHanded {} Tryd.checked os 3 .any (fun w args => (Rows.compactNeedsSpec.pre enc Tryd.prog Tryd.f3 Rows.compactNeedsRow.domain false w args ∧ laidMetH Tryd.prog Rows.compactNeedsRow.laid w) ∧ sizedMet enc Tryd.prog Tryd.f3 (OpenSpec.ofChange Rows.compactNeedsSpec) false w args)
      (Rows.compactNeedsSpec.post enc Tryd.prog Tryd.f3 false true false false) := by
  refine returnsInHanded_of_change_and (C := Tryd.checked) (X := fun w _ => laidMetH Tryd.prog Rows.compactNeedsRow.laid w) (fun _ _ _ hh h => h.of_heap hh) own started (by kernel_rfl) Tryd.func3
    (ChangeSpec.witness_shaped (enc := enc) (C := Tryd.checked) (os := os) (X := fun w _ => laidMetH Tryd.prog Rows.compactNeedsRow.laid w) false (World.laidAll Tryd.prog os Rows.compactNeedsRow.laid) #[.slice none 0 0, .int .i64 0] 8 (World.laidAll_os _ _ _)
      (World.shaped_of_ZipB (by kernel_rfl) (by kernel_rfl)) (by kernel_rfl) (by kernel_rfl) (by kernel_rfl)
      (by rw [MakeChecks.laidMetH_plain _ _ _ (by kernel_rfl)]; exact laidMet_laidAll _ (by kernel_rfl) (by kernel_rfl))) ?_
  intro W base args ds gs before hval0 hW _ _ _ _
  have hval : ∀ (j : Nat) t v, Tryd.f3.params[j]? = some t → args[j]? = some v → Value.okWide Tryd.prog W .any base t v := hval0
  have hW' := hW
  obtain ⟨p, q, hA0, hV, rfl, hfz, hnd⟩ := hW
  have hA : DataW.TrodAll enc Tryd.prog W 0 (fun _ => true) true Tryd.f3.params.toList args.toList ds p := hA0
  rw [Tryd.params3] at hA hval
  obtain ⟨v0, v1, d0, d1, p0, p1, rfl, rfl, rfl, h0, h1⟩ := trodAll_two hA
  obtain ⟨xs, hr, hq⟩ := RV.ofTrodL Tryd.underlying22 (hval 0 22 v0 rfl rfl) h0 odSs
  obtain ⟨l, hpt, hp, _⟩ := QList.of (fun _ h => h) hq
  simp only [List.cons.injEq, D.l.injEq, and_true] at hpt
  subst hpt
  obtain ⟨n, rfl, rfl, rfl, hwn⟩ := open_int Tryd.underlying3 (hval 1 3 v1 rfl rfl) h1
  refine (calls l n v0 _ W hp hr (.v rfl)).mono fun e W' ⟨he, hb⟩ => ?_
  subst he
  exact ⟨_, rfl, law_post laid (by decide +kernel) rfl Tryd.underlying4 rfl hW' hb rfl rfl rfl⟩
theorem said : Rows.CompactNeedsSaid :=
  OpenClaim.holds_of_wide 3 Tryd.f3 rfl rfl rfl rfl rfl rfl rfl ⟨rfl, rfl, rfl, rfl, rfl⟩ rfl rfl rfl rfl rfl (by kernel_rfl) Tryd.func3 (by kernel_rfl)
    (of_decide_eq_true (by kernel_rfl)) (by unfold Func.isWrapper; first | (rw [if_pos (by decide +kernel)]; kernel_rfl) | (rw [if_neg (by decide +kernel)]; exact ⟨rfl, rfl⟩))
    (fun os started H enc _ => lifted os started H enc)
theorem plain (f : FuncId) (fn : Func) (hf : Tryd.pinned.checked.prog.funcNamed "attest/attestlaw24.CompactNeeds" = some f) (hfn : Tryd.pinned.checked.prog.funcs[f]? = some fn) :
    false = Tryd.pinned.checked.prog.looks [] ∧ ∀ (j : Nat) t, fn.params[j]? = some t → Tryd.pinned.checked.prog.wantsStandIn t = false := by
  obtain rfl : f = 3 := Option.some.inj ((show Tryd.prog.funcNamed "attest/attestlaw24.CompactNeeds" = some 3 by kernel_rfl).symm.trans hf) |>.symm
  obtain rfl : fn = Tryd.f3 := (Option.some.inj (Tryd.func3.symm.trans hfn)).symm
  refine ⟨by kernel_rfl, fun j t ht => ?_⟩
  rw [Tryd.params3] at ht
  have hm : t ∈ [22, 3] := by simpa using Array.mem_of_getElem? ht
  have hall : ([22, 3].all fun u => !Tryd.prog.wantsStandIn u) = true := by kernel_rfl
  exact (show Tryd.prog.wantsStandIn t = false by simpa using List.all_eq_true.1 hall t hm)
theorem card : Rows.CompactNeedsCardSaid :=
  Claim7.holds_tied_plain_at .later [] _ _ _ _ said (fun _ h => by cases h) (by kernel_rfl) (fun _ h => by cases h) compactNeeds_row_tie rfl ⟨rfl, rfl⟩ (by kernel_rfl) rfl plain (by kernel_rfl)
end Go.Proofs.YtfijmpmojhlnmaaDoor.needs
