/-
  AletheSpoils: a proof's text with a row left out, doubled or exchanged is read as what it then says, or refused, never as other steps: the law answers true at every input, and leaves it as it is. The card: the tables and the two errors that its row lists start as the program's text lays them.
-/
import Derived.Test.YtbbpecfapohlaaaGreatDoorLaw
import Derived.Test.YtbbpecfapohlaaaGreatDoorOpen
import Derived.Test.YtbbpecfapohlaaaGreatDoorAlC
import Derived.Test.YtbbpecfapohlaaaGreatDoorPf
import Derived.Test.YtbbpecfapohlaaaGreatDoorAlE
import Derived.Test.YtbbpecfapohlaaaGreatDoorCards
import Derived.Test.YtbbpecfapohlaaaGreatDoorTie
import Derived.LaidMore
import Derived.Lay
import Derived.SevenTiedAt
import Derived.Stop.Joined
import Derived.LaidSub
import Derived.Stop.LaidErr
import Derived.Lib.LaidTab
namespace Go.Proofs.YtbbpecfapohlaaaGreatDoor.alspoils
open Go.RowKit Go.ChangeShapes Go.WideShapes Go.ChangeAt
theorem own : ownKnob Tryz.prog.godebug = none := pf_own
theorem laid : laidOutB Tryz.prog = true := pf_laid
instance instTab : KSt Tab := ⟨fun _ _ h hx => Tab.ext h hx⟩
instance hasErr : KHas (And2 Tab (And2 ErrV MaxL)) ErrV := ⟨fun _ h => h.2.1⟩
instance hasMax : KHas (And2 Tab (And2 ErrV MaxL)) MaxL := ⟨fun _ h => h.2.2⟩
theorem tab {w : World} (h : laidMetH Tryz.prog Rows.aletheSpoilsRow.laid w) : Tab w := by
  have h1 := h.filter (fun x => x.1 == "internal/strconv.uint64pow10")
  have e : (Rows.aletheSpoilsRow.laid.filter fun x => x.1 == "internal/strconv.uint64pow10") = [("internal/strconv.uint64pow10", Lib.tabData .u64 Lib.pow10Tab)] := by kernel_rfl
  rw [e, MakeChecks.laidMetH_plain _ _ _ (by kernel_rfl)] at h1
  exact Lib.tabIs_of_head (g := 0) (t := 379) (e := 218) (n := 20) (by kernel_rfl) (by kernel_rfl) (by kernel_rfl) (by kernel_rfl) (by kernel_rfl) (by kernel_rfl) h1
theorem star : "*" ++ "errors.errorString" = "*errors.errorString" := by decide
theorem row (u : TypeId) (h : Tryz.prog.typeName? 3 u = some "*errors.errorString") : u = 410 :=
  typeName_ptr_named (nm := "errors.errorString") (by rw [star]; kernel_rfl) (by kernel_rfl) (by decide) u (by rw [star]; exact h)
theorem errv {w : World} (h : laidMetH Tryz.prog Rows.aletheSpoilsRow.laid w) : ErrV w := by
  have g0 := h.filter (fun x => x.1 == "strconv.ErrSyntax")
  rw [show (Rows.aletheSpoilsRow.laid.filter fun x => x.1 == "strconv.ErrSyntax") = [("strconv.ErrSyntax", Rows.laid_strconv_ErrSyntax)] by kernel_rfl, MakeChecks.laidMetH_plain _ _ _ (by kernel_rfl)] at g0
  obtain ⟨a0, s0, e0, _⟩ := laid_sentinel g0 (g := 2) (by kernel_rfl) (ti := 310) (by kernel_rfl) Tryz.underlying310 row Tryz.underlying410 Tryz.underlying412 rfl rfl Tryz.underlying9 (by kernel_rfl) (by kernel_rfl)
  have g1 := h.filter (fun x => x.1 == "strconv.ErrRange")
  rw [show (Rows.aletheSpoilsRow.laid.filter fun x => x.1 == "strconv.ErrRange") = [("strconv.ErrRange", Rows.laid_strconv_ErrRange)] by kernel_rfl, MakeChecks.laidMetH_plain _ _ _ (by kernel_rfl)] at g1
  obtain ⟨a1, s1, e1, _⟩ := laid_sentinel g1 (g := 3) (by kernel_rfl) (ti := 310) (by kernel_rfl) Tryz.underlying310 row Tryz.underlying410 Tryz.underlying412 rfl rfl Tryz.underlying9 (by kernel_rfl) (by kernel_rfl)
  exact ⟨⟨_, _, e0⟩, _, _, e1⟩
theorem calls (a0 : Int) (h0 : -9223372036854775808 ≤ a0 ∧ a0 ≤ 9223372036854775807) (a1 : List SN) (h1 : ∀ x ∈ a1, okSA x) (k1 : a1.length ≤ 9223372036854775807) (a2 : Int) (h2 : -9223372036854775808 ≤ a2 ∧ a2 ≤ 9223372036854775807) (a3 : Int) (h3 : -9223372036854775808 ≤ a3 ∧ a3 ≤ 9223372036854775807) (v0 v1 v2 v3 : Value) (w : World) (hT : And2 Tab (And2 ErrV MaxL) w) (r0 : RV (Lt w.heap.size) w v0 (.d (.v (.int .i64 a0)))) (r1 : RV (Lt w.heap.size) w v1 (.d (.l (a1.map enSN)))) (r2 : RV (Lt w.heap.size) w v2 (.d (.v (.int .i64 a2)))) (r3 : RV (Lt w.heap.size) w v3 (.d (.v (.int .i64 a3)))) : Calls Tryz.prog 9 #[v0, v1, v2, v3] w fun e w' => e = .returned (.bool true) ∧ Ext w w' := by
  have _ := h0
  have _ := k1
  have _ := h2
  have _ := h3
  refine ((aletheSpoilsF (Kw := And2 Tab (And2 ErrV MaxL)) a0 a1 a2 a3 (fun s h => (h1 s h).1) (stL_law h1)).run (Lt w.heap.size) w [v0, v1, v2, v3] hT (fun _ h => h) ⟨rfl, fun i h _ => ?_⟩).mono fun e w' ⟨u, h1, h2, h3⟩ => ?_
  · match i, h with
    | 0, _ => exact r0
    | 1, _ => exact r1
    | 2, _ => exact r2
    | 3, _ => exact r3
  · subst h1
    exact ⟨by rw [RA.val h3], h2⟩
set_option maxRecDepth 100000 in
theorem lifted (os : Os) (started : os.Started) (H : Type) (enc : TypeId × Value → H) :
    ReturnsInHanded {} Tryz.checked os 9 .any (fun w args => (Rows.aletheSpoilsSpec.pre enc Tryz.prog Tryz.f9 Rows.aletheSpoilsRow.domain false w args ∧ laidMetH Tryz.prog Rows.aletheSpoilsRow.laid w) ∧ sizedMet enc Tryz.prog Tryz.f9 (OpenSpec.ofChange Rows.aletheSpoilsSpec) false w args)
      (Rows.aletheSpoilsSpec.post enc Tryz.prog Tryz.f9 false true false false) := by
  refine handed_both (C := Tryz.checked) (X := fun w _ => laidMetH Tryz.prog Rows.aletheSpoilsRow.laid w) (fun _ _ _ hh h => h.of_heap hh) own started (by kernel_rfl) Tryz.func9
    (ChangeSpec.witness_shaped (enc := enc) (C := Tryz.checked) (os := os) (X := fun w _ => laidMetH Tryz.prog Rows.aletheSpoilsRow.laid w) false (World.laidAll Tryz.prog os Rows.aletheSpoilsRow.laid) #[.int .i64 0, .slice none 0 0, .int .i64 0, .int .i64 0] 8 (World.laidAll_os _ _ _)
      (World.shaped_of_ZipB (by kernel_rfl) (by kernel_rfl)) (by kernel_rfl) (by kernel_rfl) (by kernel_rfl)
      (by rw [MakeChecks.laidMetH_plain _ _ _ (by kernel_rfl)]; exact laidMet_laidAll _ (by kernel_rfl) (by kernel_rfl))) ?_
  intro W base args ds gs before hsh hval0 hW x1 x2 x3 x4
  have hTab1 : MaxL W := maxL_shaped hsh
  have hTab2 : Tab W := by first | exact tab x1 | exact tab x2 | exact tab x3 | exact tab x4 | exact tab x2.2 | exact tab x1.2 | exact tab x3.2
  have hTab3 : ErrV W := by first | exact errv x1 | exact errv x2 | exact errv x3 | exact errv x4 | exact errv x2.2 | exact errv x1.2 | exact errv x3.2
  have hTab : And2 Tab (And2 ErrV MaxL) W := ⟨hTab2, hTab3, hTab1⟩
  have hval : ∀ (j : Nat) t v, Tryz.f9.params[j]? = some t → args[j]? = some v → Value.okWide Tryz.prog W .any base t v := hval0
  have hW' := hW
  obtain ⟨p, q, hA0, hV, rfl, hfz, hnd⟩ := hW
  have hA : DataW.TrodAll enc Tryz.prog W 0 (fun _ => true) true Tryz.f9.params.toList args.toList ds p := hA0
  rw [Tryz.params9] at hA hval
  obtain ⟨v0, v1, v2, v3, d0, d1, d2, d3, p0, p1, p2, p3, rfl, rfl, rfl, t0, t1, t2, t3⟩ := trodAll_four hA
  obtain ⟨a0, rfl, rfl, e0, hw0⟩ := open_int Tryz.underlying3 (hval 0 3 v0 rfl rfl) t0
  obtain ⟨xs1, r1, q1⟩ := RV.ofTrodL Tryz.underlying26 (hval 1 26 v1 rfl rfl) t1 odSA
  obtain ⟨a1, hpt1, h1, k1⟩ := QList.of (fun _ h => h) q1
  simp only [List.cons.injEq, D.l.injEq, and_true] at hpt1
  subst hpt1
  obtain ⟨a2, rfl, rfl, e2, hw2⟩ := open_int Tryz.underlying3 (hval 2 3 v2 rfl rfl) t2
  obtain ⟨a3, rfl, rfl, e3, hw3⟩ := open_int Tryz.underlying3 (hval 3 3 v3 rfl rfl) t3
  refine (calls a0 (i64_of hw0) a1 h1 k1 a2 (i64_of hw2) a3 (i64_of hw3) _ _ _ _ W hTab (.v rfl) r1 (.v rfl) (.v rfl)).mono fun e W' ⟨he, hb⟩ => ?_
  subst he
  exact ⟨_, rfl, law_post laid (by decide +kernel) rfl Tryz.underlying4 rfl hW' hb rfl rfl rfl⟩
theorem j_inPlace : (Rows.aletheSpoilsRow.inPlace == (Tryz.prog).inPlace 9) = true := by kernel_rfl
theorem j_unfollowed : (Rows.aletheSpoilsRow.unfollowed == (Tryz.prog).unfollowed 9) = true := by kernel_rfl
theorem j_recurses : (Rows.aletheSpoilsRow.recurses == (Tryz.prog).recurses 9) = true := by kernel_rfl
theorem j_named : (Rows.aletheSpoilsRow.named == (Tryz.prog).varsNamed 9) = true := by kernel_rfl
theorem j_lifted : (Rows.aletheSpoilsRow.lifted == (Tryz.prog).liftsFinal) = true := by kernel_rfl
theorem joined : joinedFacts Tryz.pinned.checked.prog 9 Tryz.f9 Rows.aletheSpoilsSpec Rows.aletheSpoilsRow = true := by
  simp only [joinedFacts, Bool.and_eq_true]
  refine ⟨⟨⟨⟨⟨⟨⟨⟨⟨⟨⟨⟨⟨⟨⟨⟨⟨⟨⟨⟨⟨⟨⟨⟨⟨⟨⟨⟨⟨⟨⟨?_, pf_laid⟩, pf_maps⟩, ?_⟩, ?_⟩, ?_⟩, ?_⟩, ?_⟩, ?_⟩, j_inPlace⟩, j_unfollowed⟩, j_recurses⟩, j_named⟩, ?_⟩, ?_⟩, ?_⟩, ?_⟩, ?_⟩, ?_⟩, ?_⟩, ?_⟩, ?_⟩, ?_⟩, ?_⟩, pf_heard⟩, pf_enter⟩, j_lifted⟩, ?_⟩, ?_⟩, ?_⟩, ?_⟩, ?_⟩
  all_goals kernel_rfl
theorem said : Rows.AletheSpoilsSaid :=
  OpenClaim.holds_of_wide 9 Tryz.f9 rfl rfl rfl rfl rfl rfl rfl ⟨rfl, rfl, rfl, rfl, rfl⟩ rfl rfl rfl rfl rfl (by kernel_rfl) Tryz.func9 joined
    (of_decide_eq_true (by kernel_rfl)) (by unfold Func.isWrapper; first | (rw [if_pos (by decide +kernel)]; kernel_rfl) | (rw [if_neg (by decide +kernel)]; exact ⟨rfl, rfl⟩))
    (fun os started H enc _ => lifted os started H enc)
theorem plain (f : FuncId) (fn : Func) (hf : Tryz.pinned.checked.prog.funcNamed "attest/attestlaw25.AletheSpoils" = some f) (hfn : Tryz.pinned.checked.prog.funcs[f]? = some fn) :
    true = Tryz.pinned.checked.prog.looks [] ∧ ∀ (j : Nat) t, fn.params[j]? = some t → Tryz.pinned.checked.prog.wantsStandIn t = false := by
  obtain rfl : f = 9 := Option.some.inj ((show Tryz.prog.funcNamed "attest/attestlaw25.AletheSpoils" = some 9 by kernel_rfl).symm.trans hf) |>.symm
  obtain rfl : fn = Tryz.f9 := (Option.some.inj (Tryz.func9.symm.trans hfn)).symm
  refine ⟨by kernel_rfl, fun j t ht => ?_⟩
  rw [Tryz.params9] at ht
  have hm : t ∈ [3, 26, 3, 3] := by simpa using Array.mem_of_getElem? ht
  have hall : ([3, 26, 3, 3].all fun u => !Tryz.prog.wantsStandIn u) = true := by kernel_rfl
  exact (show Tryz.prog.wantsStandIn t = false by simpa using List.all_eq_true.1 hall t hm)
theorem c_wf : Rows.aletheSpoilsRow.wfByText (OpenSpec.ofChange Rows.aletheSpoilsSpec) = true := by kernel_rfl
theorem c_main : Tryz.pinned.checked.prog.mainIs = some (Rows.aletheSpoilsCard.stood.harness.1, Rows.aletheSpoilsCard.stood.harness.2.toList) := by kernel_rfl
theorem c_goes : false = Rows.aletheSpoilsRow.goesBy Tryz.pinned.checked.prog := by kernel_rfl
theorem card : Rows.AletheSpoilsCardSaid :=
  Claim7.holds_tied_plain_at .later [] _ _ _ _ said (fun _ h => by cases h) c_wf (fun _ h => by cases h) aletheSpoils_row_tie rfl ⟨rfl, rfl⟩ c_main rfl plain c_goes
end Go.Proofs.YtbbpecfapohlaaaGreatDoor.alspoils
