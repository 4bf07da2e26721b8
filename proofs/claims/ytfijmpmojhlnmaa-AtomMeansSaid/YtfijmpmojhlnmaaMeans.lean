/-
  AtomMeans: a constraint and its one form hold at the same points: the law answers true for every constraint and every point, and leaves both as they are.
-/
import Derived.Test.YtfijmpmojhlnmaaLaw
import Derived.Test.YtfijmpmojhlnmaaOpenN
import Derived.Test.YtfijmpmojhlnmaaAtmF
import Derived.Test.YtfijmpmojhlnmaaRows
namespace Go.Proofs.Ytfijmpmojhlnmaa.means
open Go.RowKit Go.ChangeShapes Go.WideShapes Go.ChangeAt
theorem own : ownKnob Try.prog.godebug = none := by kernel_rfl
theorem laid : laidOutB Try.prog = true := by kernel_rfl
theorem calls (a : AN) (pt : List (Bool × List Nat × List Nat)) (v v' : Value) (w : World) (ha : okEN a.e) (hp : okP pt) (hv : RV (Lt w.heap.size) w v (.g (enAN a))) (hv' : RV (Lt w.heap.size) w v' (.d (.l (pt.map enN)))) : Calls Try.prog 4 #[v, v'] w fun e w' => e = .returned (.bool true) ∧ Ext w w' := by
  refine ((meansF9 a pt ha hp).run (Lt w.heap.size) w [v, v'] (fun _ h => h) ⟨rfl, fun i h _ => ?_⟩).mono fun e w' ⟨u, h1, h2, h3⟩ => ?_
  · match i, h with
    | 0, _ => exact hv
    | 1, _ => exact hv'
  · subst h1
    exact ⟨by rw [RA.val h3], h2⟩
set_option maxRecDepth 100000 in
theorem lifted (os : Os) (started : os.Started) (H : Type) (enc : TypeId × Value → H) :
    ReturnsInHanded {} Try.checked os 4 .any (Rows.atomMeansSpec.pre6 enc Try.prog Try.f4 Rows.atomMeansRow.domain false) (Rows.atomMeansSpec.post enc Try.prog Try.f4 false true false false) := by
  refine returnsInHanded_of_change (C := Try.checked) own started (by kernel_rfl) Try.func4
    (ChangeSpec.witness6 (enc := enc) (C := Try.checked) false ⟨#[], #[.agg #[.slice none 0 0, .bool false, .slice none 0 0, .slice none 0 0, .int .i64 0], .slice none 0 0], []⟩ 8 (by kernel_rfl) (by kernel_rfl) (by kernel_rfl) (by kernel_rfl)) ?_
  intro W base args ds gs before hval0 hW hcnd _
  have hval : ∀ (j : Nat) t v, Try.f4.params[j]? = some t → args[j]? = some v → Value.okWide Try.prog W .any base t v := hval0
  have hW' := hW
  obtain ⟨p, q, hA0, hV, rfl, hfz, hnd⟩ := hW
  have hA : DataW.TrodAll enc Try.prog W 0 (fun _ => true) true Try.f4.params.toList args.toList ds p := hA0
  rw [Try.params4] at hA hval
  obtain ⟨v0, v1, d0, d1, p0, p1, rfl, rfl, rfl, h0, h1⟩ := trodAll_two hA
  obtain ⟨ds0, hr, a, rfl, ha, _⟩ := RV.ofTrod Try.underlying29 (hval 0 29 v0 rfl rfl) h0 odA
  obtain ⟨xs, hr1, hq⟩ := RV.ofTrodL Try.underlying62 (hval 1 62 v1 rfl rfl) h1 odNs
  obtain ⟨pt, hpt, hp, _⟩ := QList.of (fun _ h => h) hq
  simp only [List.cons.injEq, D.l.injEq, and_true] at hpt
  subst hpt
  refine (calls a pt v0 v1 W ha hp hr hr1).mono fun e W' ⟨he, hb⟩ => ?_
  subst he
  exact ⟨_, rfl, law_post laid (by decide +kernel) rfl Try.underlying4 rfl hW' hb rfl rfl rfl⟩
theorem holds : Rows.AtomMeansSaid :=
  OpenClaim.holds_of_wide 4 Try.f4 rfl rfl rfl rfl rfl rfl rfl ⟨rfl, rfl, rfl, rfl, rfl⟩ rfl rfl rfl rfl rfl (by kernel_rfl) Try.func4 (by kernel_rfl)
    (of_decide_eq_true (by kernel_rfl)) (by unfold Func.isWrapper; rw [if_neg (of_decide_eq_false (by kernel_rfl))]; exact ⟨rfl, rfl⟩)
    (fun os started H enc _ => lifted os started H enc)
end Go.Proofs.Ytfijmpmojhlnmaa.means
