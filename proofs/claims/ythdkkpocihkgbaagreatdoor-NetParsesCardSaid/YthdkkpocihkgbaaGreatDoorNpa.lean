/-
  NetParses: a text is read as the document reads it, as a network or as what is wrong with it: the law answers true at every text, and leaves it as it is. The card: the tables that its row lists start as the program's text lays them.
-/
import Derived.Test.YthdkkpocihkgbaaGreatDoorLaw
import Derived.Test.YthdkkpocihkgbaaGreatDoorWrap
import Derived.Test.YthdkkpocihkgbaaGreatDoorOpenD
import Derived.Test.YthdkkpocihkgbaaGreatDoorNuF
import Derived.Test.YthdkkpocihkgbaaGreatDoorPf
import Derived.Test.YthdkkpocihkgbaaGreatDoorCards
import Derived.Test.YthdkkpocihkgbaaGreatDoorTie
import Derived.LaidMore
import Derived.Lay
import Derived.SevenTiedAt
import Derived.Stop.Joined
import Derived.LaidSub
import Derived.Stop.LaidErr
import Derived.Lib.LaidTab
namespace Go.Proofs.YthdkkpocihkgbaaGreatDoor.parses
open Go.RowKit Go.ChangeShapes Go.WideShapes Go.ChangeAt
theorem own : ownKnob Tryz.prog.godebug = none := pf_own
theorem laid : laidOutB Tryz.prog = true := pf_laid
theorem openS {H : Type} {enc : TypeId × Value → H} {P : Program} {w : World} {base b0 : Nat} {r : Reach} {spare : Nat → Bool} {held : Bool} {t : TypeId} {v : Value} {d : DataW H} {ps : List MemPlace} (ht : P.underlying t = some .string) (hval : Value.okWide P w r b0 t v) (hd : DataW.Trod enc P w base spare held t v d ps) : ∃ s l, v = .string s ∧ d = .lit (.string l) ∧ ps = [] := by
  obtain ⟨s, rfl⟩ := okWide_string ht hval
  obtain ⟨fuel, hf⟩ := hd
  obtain ⟨s', h, hx, hw⟩ := DataW.trod_string ht hf
  simp [Value.cells] at h
  subst h
  simp only [Prod.mk.injEq] at hx
  exact ⟨s, _, rfl, hx.1, hx.2⟩
theorem calls (a0 : ByteArray) (v0 : Value) (w : World) (hT : MaxL w) (r0 : RV (Lt w.heap.size) w v0 (.d (.v (.string a0)))) : Calls Tryz.prog 6 #[v0] w fun e w' => e = .returned (.bool true) ∧ Ext w w' := by
  refine ((netParsesB (Kw := MaxL) a0).run (Lt w.heap.size) w [v0] hT (fun _ h => h) ⟨rfl, fun i h _ => ?_⟩).mono fun e w' ⟨u, h1, h2, h3⟩ => ?_
  · match i, h with
    | 0, _ => exact r0
  · subst h1
    exact ⟨by rw [RA.val h3], h2⟩
set_option maxRecDepth 100000 in
theorem lifted (os : Os) (started : os.Started) (H : Type) (enc : TypeId × Value → H) :
    ReturnsInHanded {} Tryz.checked os 6 .any (fun w args => (Rows.netParsesSpec.pre enc Tryz.prog Tryz.f6 Rows.netParsesRow.domain false w args ∧ laidMetH Tryz.prog Rows.netParsesRow.laid w) ∧ sizedMet enc Tryz.prog Tryz.f6 (OpenSpec.ofChange Rows.netParsesSpec) false w args)
      (Rows.netParsesSpec.post enc Tryz.prog Tryz.f6 false true false false) := by
  refine handed_both (C := Tryz.checked) (X := fun w _ => laidMetH Tryz.prog Rows.netParsesRow.laid w) (fun _ _ _ hh h => h.of_heap hh) own started (by kernel_rfl) Tryz.func6
    (ChangeSpec.witness_shaped (enc := enc) (C := Tryz.checked) (os := os) (X := fun w _ => laidMetH Tryz.prog Rows.netParsesRow.laid w) false (World.laidAll Tryz.prog os Rows.netParsesRow.laid) #[.string ⟨#[]⟩] 8 (World.laidAll_os _ _ _)
      (World.shaped_of_ZipB (by kernel_rfl) (by kernel_rfl)) (by kernel_rfl) (by kernel_rfl) (by kernel_rfl)
      (by rw [MakeChecks.laidMetH_plain _ _ _ (by kernel_rfl)]; exact laidMet_laidAll _ (by kernel_rfl) (by kernel_rfl))) ?_
  intro W base args ds gs before hsh hval0 hW _ _ _ _
  have hTab : MaxL W := maxL_shaped hsh
  have hval : ∀ (j : Nat) t v, Tryz.f6.params[j]? = some t → args[j]? = some v → Value.okWide Tryz.prog W .any base t v := hval0
  have hW' := hW
  obtain ⟨p, q, hA0, hV, rfl, hfz, hnd⟩ := hW
  have hA : DataW.TrodAll enc Tryz.prog W 0 (fun _ => true) true Tryz.f6.params.toList args.toList ds p := hA0
  rw [Tryz.params6] at hA hval
  obtain ⟨v0, d0, rfl, rfl, t0⟩ := trodAll_one hA
  obtain ⟨a0, l0, rfl, rfl, e0⟩ := openS Tryz.underlying9 (hval 0 9 v0 rfl rfl) t0
  refine (calls a0 _ W hTab (.v rfl)).mono fun e W' ⟨he, hb⟩ => ?_
  subst he
  exact ⟨_, rfl, law_post laid (by decide +kernel) rfl Tryz.underlying4 rfl hW' hb rfl rfl rfl⟩
theorem j_inPlace : (Rows.netParsesRow.inPlace == (Tryz.prog).inPlace 6) = true := by kernel_rfl
theorem j_unfollowed : (Rows.netParsesRow.unfollowed == (Tryz.prog).unfollowed 6) = true := by kernel_rfl
theorem j_recurses : (Rows.netParsesRow.recurses == (Tryz.prog).recurses 6) = true := by kernel_rfl
theorem j_named : (Rows.netParsesRow.named == (Tryz.prog).varsNamed 6) = true := by kernel_rfl
theorem j_lifted : (Rows.netParsesRow.lifted == (Tryz.prog).liftsFinal) = true := by kernel_rfl
theorem joined : joinedFacts Tryz.pinned.checked.prog 6 Tryz.f6 Rows.netParsesSpec Rows.netParsesRow = true := by
  simp only [joinedFacts, Bool.and_eq_true]
  refine ⟨⟨⟨⟨⟨⟨⟨⟨⟨⟨⟨⟨⟨⟨⟨⟨⟨⟨⟨⟨⟨⟨⟨⟨⟨⟨⟨⟨⟨⟨⟨?_, pf_laid⟩, pf_maps⟩, ?_⟩, ?_⟩, ?_⟩, ?_⟩, ?_⟩, ?_⟩, j_inPlace⟩, j_unfollowed⟩, j_recurses⟩, j_named⟩, ?_⟩, ?_⟩, ?_⟩, ?_⟩, ?_⟩, ?_⟩, ?_⟩, ?_⟩, ?_⟩, ?_⟩, ?_⟩, pf_heard⟩, pf_enter⟩, j_lifted⟩, ?_⟩, ?_⟩, ?_⟩, ?_⟩, ?_⟩
  all_goals kernel_rfl
theorem said : Rows.NetParsesSaid :=
  OpenClaim.holds_of_wide 6 Tryz.f6 rfl rfl rfl rfl rfl rfl rfl ⟨rfl, rfl, rfl, rfl, rfl⟩ rfl rfl rfl rfl rfl (by kernel_rfl) Tryz.func6 joined
    (of_decide_eq_true (by kernel_rfl)) (by unfold Func.isWrapper; first | (rw [if_pos (by decide +kernel)]; kernel_rfl) | (rw [if_neg (by decide +kernel)]; exact ⟨rfl, rfl⟩))
    (fun os started H enc _ => lifted os started H enc)
theorem plain (f : FuncId) (fn : Func) (hf : Tryz.pinned.checked.prog.funcNamed "attest/attestlaw15.NetParses" = some f) (hfn : Tryz.pinned.checked.prog.funcs[f]? = some fn) :
    true = Tryz.pinned.checked.prog.looks [] ∧ ∀ (j : Nat) t, fn.params[j]? = some t → Tryz.pinned.checked.prog.wantsStandIn t = false := by
  obtain rfl : f = 6 := Option.some.inj ((show Tryz.prog.funcNamed "attest/attestlaw15.NetParses" = some 6 by kernel_rfl).symm.trans hf) |>.symm
  obtain rfl : fn = Tryz.f6 := (Option.some.inj (Tryz.func6.symm.trans hfn)).symm
  refine ⟨by kernel_rfl, fun j t ht => ?_⟩
  rw [Tryz.params6] at ht
  have hm : t ∈ [9] := by simpa using Array.mem_of_getElem? ht
  have hall : ([9].all fun u => !Tryz.prog.wantsStandIn u) = true := by kernel_rfl
  exact (show Tryz.prog.wantsStandIn t = false by simpa using List.all_eq_true.1 hall t hm)
theorem card : Rows.NetParsesCardSaid :=
  Claim7.holds_tied_plain_at .later [] _ _ _ _ said (fun _ h => by cases h) (by kernel_rfl) (fun _ h => by cases h) netParses_row_tie rfl ⟨rfl, rfl⟩ (by kernel_rfl) rfl plain (by kernel_rfl)
end Go.Proofs.YthdkkpocihkgbaaGreatDoor.parses
