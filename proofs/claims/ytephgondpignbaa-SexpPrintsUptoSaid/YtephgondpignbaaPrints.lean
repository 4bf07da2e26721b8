/-
  SexpPrints: a tree's text is as said and is read back as the tree; wrong or too great trees are refused: the law answers true for every row of trees of bulk at most 1048576, and leaves it as it is.
-/
import Derived.Test.YtephgondpignbaaLaw
import Derived.Test.YtephgondpignbaaPrintsW
namespace Go.Proofs.Ytephgondpignbaa.prints
open Go.RowKit Go.ChangeShapes Go.WideShapes Go.ChangeAt

theorem own : ownKnob Try.prog.godebug = none := by kernel_rfl
theorem laid : laidOutB Try.prog = true := by kernel_rfl
theorem calls (d : Nat) (l : List T) (v : Value) (w : World) (hl : (Rp.slice (RpT d)).rel (Lt w.heap.size) w [v] l) (hz : szL l ≤ 1048576) :
    Calls Try.prog 3 #[v] w fun e w' => e = .returned (.bool true) ∧ Ext w w' := by
  cases h : (sizedL l 0 0).2 with
  | false => exact prints_big d l v w hl hz h
  | true =>
    cases h2 : wordedL l with
    | false => exact prints_bad d l v w hl hz h h2
    | true => exact prints_ok d l v w hl hz h h2
theorem contract (H : Type) (enc : TypeId × Value → H) (W : World) (base : Nat) (args : Array Value) (ds gs : List (DataW H)) (before : List MemPlace)
    (hval : ∀ (j : Nat) t v, Try.f3.params[j]? = some t → args[j]? = some v → Value.okWide Try.prog W .any base t v)
    (hW : DataW.Whole enc Try.prog Try.f3.params.toList Rows.sexpPrintsSpec.vars false W args.toList ds gs before) (hk : Rows.uptoSmall H (ds ++ gs) = true) :
    Calls Try.prog 3 args W fun e W' => ∃ v, e = .returned v ∧ Rows.sexpPrintsSpec.post enc Try.prog Try.f3 false true false false W args v W' := by
  have hW' := hW
  obtain ⟨p, q, hA0, hV, rfl, hfz, hnd⟩ := hW
  have hA : DataW.TrodAll enc Try.prog W 0 (fun _ => true) true Try.f3.params.toList args.toList ds p := hA0
  rw [Try.params3] at hA hval
  obtain ⟨v0, d0, hargs, rfl, h0⟩ := trodAll_one hA
  obtain ⟨rfl, rfl⟩ := trodVars_none hV
  obtain rfl : args = #[v0] := by cases args; simp_all
  obtain ⟨a0, len, cap, rfl⟩ := okWide_slice Try.underlying22 (hval 0 22 v0 rfl rfl)
  obtain ⟨fuel, hf⟩ := h0
  obtain ⟨l, hl, hz⟩ := opensTs fuel fuel (by omega) _ _ _ hf
  have hb : Rows.uptoBulkAll [d0] ≤ 1048576 := of_decide_eq_true hk
  simp only [Rows.uptoBulkAll] at hb
  have hz2 : szL l + 1 ≤ Rows.uptoBulk d0 := hz
  refine (calls fuel l _ W hl (by omega)).mono fun e W' ⟨he, hx⟩ => ?_
  subst he
  exact ⟨_, rfl, law_post laid (by decide +kernel) rfl Try.underlying4 rfl hW' hx rfl rfl rfl⟩
set_option maxRecDepth 100000 in
theorem lifted (os : Os) (started : os.Started) (H : Type) (enc : TypeId × Value → H) (F : Stop.Interp) :
    ReturnsInHanded {} Try.checked os 3 .any ((Rows.OpenSpec.upto Rows.sexpPrintsSpec).pre6 enc Try.prog Try.f3 Rows.sexpPrintsUptoRow.domain false) (((Rows.OpenSpec.upto Rows.sexpPrintsSpec).at F).post enc Try.prog Try.f3 false true false false) := by
  refine returnsInHanded_of_cond (C := Try.checked) (s := Rows.OpenSpec.upto Rows.sexpPrintsSpec) (k := Rows.uptoSmall) rfl own started (by kernel_rfl) Try.func3
    (OpenSpec.witness (enc := enc) (C := Try.checked) (s := Rows.OpenSpec.upto Rows.sexpPrintsSpec) (k := Rows.uptoSmall) rfl false ⟨#[], #[.slice none 0 0], []⟩ 8 (by kernel_rfl) (by kernel_rfl) (by kernel_rfl)
      (x := ([.nil], [], [])) (by kernel_rfl) rfl (by kernel_rfl)) ?_
  intro W base args ds gs before hval hW _ hk _
  exact contract H enc W base args ds gs before hval hW hk
theorem holds : Rows.SexpPrintsUptoSaid :=
  OpenClaim.holds_of_cond 3 Try.f3 rfl rfl rfl rfl rfl rfl rfl ⟨rfl, rfl, rfl, rfl, rfl⟩ rfl rfl rfl rfl rfl (by kernel_rfl) Try.func3 (by kernel_rfl)
    (of_decide_eq_true (by kernel_rfl)) (by unfold Func.isWrapper; rw [if_neg (of_decide_eq_false (by kernel_rfl))]; exact ⟨rfl, rfl⟩)
    (fun os started H enc _ F => lifted os started H enc F)
end Go.Proofs.Ytephgondpignbaa.prints
