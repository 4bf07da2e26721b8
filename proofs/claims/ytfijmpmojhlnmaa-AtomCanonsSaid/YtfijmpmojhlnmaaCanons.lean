/-
  AtomCanons: every linear constraint is put into its one form, or told to be simply true or false, and doing it twice changes nothing: the law answers true for every constraint, and leaves it as it is.
-/
import Derived.Test.YtfijmpmojhlnmaaLaw
import Derived.Test.YtfijmpmojhlnmaaOpenN
import Derived.Test.YtfijmpmojhlnmaaAtmE
import Derived.Test.YtfijmpmojhlnmaaRows
namespace Go.Proofs.Ytfijmpmojhlnmaa.canons
open Go.RowKit Go.ChangeShapes Go.WideShapes Go.ChangeAt
theorem own : ownKnob Try.prog.godebug = none := by kernel_rfl
theorem laid : laidOutB Try.prog = true := by kernel_rfl
theorem calls (a : AN) (v : Value) (w : World) (ha : okEN a.e) (hv : RV (Lt w.heap.size) w v (.g (enAN a))) : Calls Try.prog 3 #[v] w fun e w' => e = .returned (.bool true) ∧ Ext w w' := by
  refine ((canonsF a ha).run (Lt w.heap.size) w [v] (fun _ h => h) ⟨rfl, fun i h _ => ?_⟩).mono fun e w' ⟨u, h1, h2, h3⟩ => ?_
  · obtain rfl : i = 0 := by simpa using h
    exact hv
  · subst h1
    exact ⟨by rw [RA.val h3], h2⟩
set_option maxRecDepth 100000 in
theorem lifted (os : Os) (started : os.Started) (H : Type) (enc : TypeId × Value → H) :
    ReturnsInHanded {} Try.checked os 3 .any (Rows.atomCanonsSpec.pre6 enc Try.prog Try.f3 Rows.atomCanonsRow.domain false) (Rows.atomCanonsSpec.post enc Try.prog Try.f3 false true false false) := by
  refine returnsInHanded_of_change (C := Try.checked) own started (by kernel_rfl) Try.func3
    (ChangeSpec.witness6 (enc := enc) (C := Try.checked) false ⟨#[], #[.agg #[.slice none 0 0, .bool false, .slice none 0 0, .slice none 0 0, .int .i64 0]], []⟩ 8 (by kernel_rfl) (by kernel_rfl) (by kernel_rfl) (by kernel_rfl)) ?_
  intro W base args ds gs before hval0 hW hcnd _
  have hval : ∀ (j : Nat) t v, Try.f3.params[j]? = some t → args[j]? = some v → Value.okWide Try.prog W .any base t v := hval0
  have hW' := hW
  obtain ⟨p, q, hA0, hV, rfl, hfz, hnd⟩ := hW
  have hA : DataW.TrodAll enc Try.prog W 0 (fun _ => true) true Try.f3.params.toList args.toList ds p := hA0
  rw [Try.params3] at hA hval
  obtain ⟨v0, d0, rfl, rfl, h0⟩ := trodAll_one hA
  obtain ⟨ds0, hr, a, rfl, ha, _⟩ := RV.ofTrod Try.underlying29 (hval 0 29 v0 rfl rfl) h0 odA
  refine (calls a v0 W ha hr).mono fun e W' ⟨he, hb⟩ => ?_
  subst he
  exact ⟨_, rfl, law_post laid (by decide +kernel) rfl Try.underlying4 rfl hW' hb rfl rfl rfl⟩
theorem holds : Rows.AtomCanonsSaid :=
  OpenClaim.holds_of_wide 3 Try.f3 rfl rfl rfl rfl rfl rfl rfl ⟨rfl, rfl, rfl, rfl, rfl⟩ rfl rfl rfl rfl rfl (by kernel_rfl) Try.func3 (by kernel_rfl)
    (of_decide_eq_true (by kernel_rfl)) (by unfold Func.isWrapper; rw [if_neg (of_decide_eq_false (by kernel_rfl))]; exact ⟨rfl, rfl⟩)
    (fun os started H enc _ => lifted os started H enc)
end Go.Proofs.Ytfijmpmojhlnmaa.canons
