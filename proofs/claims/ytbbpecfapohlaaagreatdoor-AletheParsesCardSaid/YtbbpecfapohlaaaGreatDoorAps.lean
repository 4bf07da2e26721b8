import Derived.LaidMore
import Derived.Lay
import Derived.SevenTiedAt
import Derived.Stop.Joined
import Derived.LaidSub
import Derived.Stop.LaidErr
import Derived.Lib.LaidTab
import Derived.Test.YtbbpecfapohlaaaGreatDoorLaw
import Derived.Test.YtbbpecfapohlaaaGreatDoorOpen
import Derived.Test.YtbbpecfapohlaaaGreatDoorOpenD
import Derived.Test.YtbbpecfapohlaaaGreatDoorPf
import Derived.Test.YtbbpecfapohlaaaGreatDoorAlD
import Derived.Test.YtbbpecfapohlaaaGreatDoorCards
import Derived.Test.YtbbpecfapohlaaaGreatDoorTie
namespace Go.Proofs.YtbbpecfapohlaaaGreatDoor.alparses
open Go.RowKit Go.ChangeShapes Go.WideShapes Go.ChangeAt
theorem own : ownKnob Tryz.prog.godebug = none := pf_own
theorem laid : laidOutB Tryz.prog = true := pf_laid
instance instTab : KSt Tab := ⟨fun _ _ h hx => Tab.ext h hx⟩
instance hasErr : KHas (And2 Tab (And2 ErrV MaxL)) ErrV := ⟨fun _ h => h.2.1⟩
instance hasMax : KHas (And2 Tab (And2 ErrV MaxL)) MaxL := ⟨fun _ h => h.2.2⟩
theorem openS {H : Type} {enc : TypeId × Value → H} {P : Program} {w : World} {base b0 : Nat} {r : Reach} {spare : Nat → Bool} {held : Bool} {t : TypeId} {v : Value} {d : DataW H} {ps : List MemPlace} (ht : P.underlying t = some .string) (hval : Value.okWide P w r b0 t v) (hd : DataW.Trod enc P w base spare held t v d ps) : ∃ s l, v = .string s ∧ d = .lit (.string l) ∧ ps = [] := by
  obtain ⟨s, rfl⟩ := okWide_string ht hval
  obtain ⟨fuel, hf⟩ := hd
  obtain ⟨s', h, hx, hw⟩ := DataW.trod_string ht hf
  simp [Value.cells] at h
  subst h
  simp only [Prod.mk.injEq] at hx
  exact ⟨s, _, rfl, hx.1, hx.2⟩
theorem tab {w : World} (h : laidMetH Tryz.prog Rows.aletheParsesRow.laid w) : Tab w := by
  have h1 := h.filter (fun x => x.1 == "internal/strconv.uint64pow10")
  have e : (Rows.aletheParsesRow.laid.filter fun x => x.1 == "internal/strconv.uint64pow10") = [("internal/strconv.uint64pow10", Lib.tabData .u64 Lib.pow10Tab)] := by kernel_rfl
  rw [e, MakeChecks.laidMetH_plain _ _ _ (by kernel_rfl)] at h1
  exact Lib.tabIs_of_head (g := 0) (t := 379) (e := 218) (n := 20) (by kernel_rfl) (by kernel_rfl) (by kernel_rfl) (by kernel_rfl) (by kernel_rfl) (by kernel_rfl) h1
theorem star : "*" ++ "errors.errorString" = "*errors.errorString" := by decide
theorem row (u : TypeId) (h : Tryz.prog.typeName? 3 u = some "*errors.errorString") : u = 410 :=
  typeName_ptr_named (nm := "errors.errorString") (by rw [star]; kernel_rfl) (by kernel_rfl) (by decide) u (by rw [star]; exact h)
theorem errv {w : World} (h : laidMetH Tryz.prog Rows.aletheParsesRow.laid w) : ErrV w := by
  have g0 := h.filter (fun x => x.1 == "strconv.ErrSyntax")
  rw [show (Rows.aletheParsesRow.laid.filter fun x => x.1 == "strconv.ErrSyntax") = [("strconv.ErrSyntax", Rows.laid_strconv_ErrSyntax)] by kernel_rfl, MakeChecks.laidMetH_plain _ _ _ (by kernel_rfl)] at g0
  obtain ⟨a0, s0, e0, _⟩ := laid_sentinel g0 (g := 2) (by kernel_rfl) (ti := 310) (by kernel_rfl) Tryz.underlying310 row Tryz.underlying410 Tryz.underlying412 rfl rfl Tryz.underlying9 (by kernel_rfl) (by kernel_rfl)
  have g1 := h.filter (fun x => x.1 == "strconv.ErrRange")
  rw [show (Rows.aletheParsesRow.laid.filter fun x => x.1 == "strconv.ErrRange") = [("strconv.ErrRange", Rows.laid_strconv_ErrRange)] by kernel_rfl, MakeChecks.laidMetH_plain _ _ _ (by kernel_rfl)] at g1
  obtain ⟨a1, s1, e1, _⟩ := laid_sentinel g1 (g := 3) (by kernel_rfl) (ti := 310) (by kernel_rfl) Tryz.underlying310 row Tryz.underlying410 Tryz.underlying412 rfl rfl Tryz.underlying9 (by kernel_rfl) (by kernel_rfl)
  exact ⟨⟨_, _, e0⟩, _, _, e1⟩
theorem calls (a0 : Int) (h0 : -9223372036854775808 ≤ a0 ∧ a0 ≤ 9223372036854775807) (a1 : ByteArray) (v0 v1 : Value) (w : World) (hT : And2 Tab (And2 ErrV MaxL) w) (r0 : RV (Lt w.heap.size) w v0 (.d (.v (.int .i64 a0)))) (r1 : RV (Lt w.heap.size) w v1 (.d (.v (.string a1)))) : Calls Tryz.prog 6 #[v0, v1] w fun e w' => e = .returned (.bool true) ∧ Ext w w' := by
  have _ := h0
  refine ((aletheParsesB (Kw := And2 Tab (And2 ErrV MaxL)) a0 a1).run (Lt w.heap.size) w [v0, v1] hT (fun _ h => h) ⟨rfl, fun i h _ => ?_⟩).mono fun e w' ⟨u, h1, h2, h3⟩ => ?_
  · match i, h with
    | 0, _ => exact r0
    | 1, _ => exact r1
  · subst h1
    exact ⟨by rw [RA.val h3], h2⟩
set_option maxRecDepth 100000 in
theorem lifted (os : Os) (started : os.Started) (H : Type) (enc : TypeId × Value → H) :
    ReturnsInHanded {} Tryz.checked os 6 .any (fun w args => (Rows.aletheParsesSpec.pre enc Tryz.prog Tryz.f6 Rows.aletheParsesRow.domain false w args ∧ laidMetH Tryz.prog Rows.aletheParsesRow.laid w) ∧ sizedMet enc Tryz.prog Tryz.f6 (OpenSpec.ofChange Rows.aletheParsesSpec) false w args)
      (Rows.aletheParsesSpec.post enc Tryz.prog Tryz.f6 false true false false) := by
  refine handed_both (C := Tryz.checked) (X := fun w _ => laidMetH Tryz.prog Rows.aletheParsesRow.laid w) (fun _ _ _ hh h => h.of_heap hh) own started (by kernel_rfl) Tryz.func6
    (ChangeSpec.witness_shaped (enc := enc) (C := Tryz.checked) (os := os) (X := fun w _ => laidMetH Tryz.prog Rows.aletheParsesRow.laid w) false (World.laidAll Tryz.prog os Rows.aletheParsesRow.laid) #[.int .i64 0, .string ⟨#[]⟩] 8 (World.laidAll_os _ _ _)
      (World.shaped_of_ZipB (by kernel_rfl) (by kernel_rfl)) (by kernel_rfl) (by kernel_rfl) (by kernel_rfl)
      (by rw [MakeChecks.laidMetH_plain _ _ _ (by kernel_rfl)]; exact laidMet_laidAll _ (by kernel_rfl) (by kernel_rfl))) ?_
  intro W base args ds gs before hsh hval0 hW x1 x2 x3 x4
  have hTab1 : MaxL W := maxL_shaped hsh
  have hTab2 : Tab W := by first | exact tab x1 | exact tab x2 | exact tab x3 | exact tab x4 | exact tab x2.2 | exact tab x1.2 | exact tab x3.2
  have hTab3 : ErrV W := by first | exact errv x1 | exact errv x2 | exact errv x3 | exact errv x4 | exact errv x2.2 | exact errv x1.2 | exact errv x3.2
  have hTab : And2 Tab (And2 ErrV MaxL) W := ⟨hTab2, hTab3, hTab1⟩
  have hval : ∀ (j : Nat) t v, Tryz.f6.params[j]? = some t → args[j]? = some v → Value.okWide Tryz.prog W .any base t v := hval0
  have hW' := hW
  obtain ⟨p, q, hA0, hV, rfl, hfz, hnd⟩ := hW
  have hA : DataW.TrodAll enc Tryz.prog W 0 (fun _ => true) true Tryz.f6.params.toList args.toList ds p := hA0
  rw [Tryz.params6] at hA hval
  obtain ⟨v0, v1, d0, d1, p0, p1, rfl, rfl, rfl, t0, t1⟩ := trodAll_two hA
  obtain ⟨a0, rfl, rfl, e0, hw0⟩ := open_int Tryz.underlying3 (hval 0 3 v0 rfl rfl) t0
  obtain ⟨a1, l1, rfl, rfl, e1⟩ := openS Tryz.underlying9 (hval 1 9 v1 rfl rfl) t1
  refine (calls a0 (i64_of hw0) a1 _ _ W hTab (.v rfl) (.v rfl)).mono fun e W' ⟨he, hb⟩ => ?_
  subst he
  exact ⟨_, rfl, law_post laid (by decide +kernel) rfl Tryz.underlying4 rfl hW' hb rfl rfl rfl⟩
theorem j_inPlace : (Rows.aletheParsesRow.inPlace == (Tryz.prog).inPlace 6) = true := by kernel_rfl
theorem j_unfollowed : (Rows.aletheParsesRow.unfollowed == (Tryz.prog).unfollowed 6) = true := by kernel_rfl
theorem j_recurses : (Rows.aletheParsesRow.recurses == (Tryz.prog).recurses 6) = true := by kernel_rfl
theorem j_named : (Rows.aletheParsesRow.named == (Tryz.prog).varsNamed 6) = true := by kernel_rfl
theorem j_lifted : (Rows.aletheParsesRow.lifted == (Tryz.prog).liftsFinal) = true := by kernel_rfl
theorem joined : joinedFacts Tryz.pinned.checked.prog 6 Tryz.f6 Rows.aletheParsesSpec Rows.aletheParsesRow = true := by
  simp only [joinedFacts, Bool.and_eq_true]
  refine ⟨⟨⟨⟨⟨⟨⟨⟨⟨⟨⟨⟨⟨⟨⟨⟨⟨⟨⟨⟨⟨⟨⟨⟨⟨⟨⟨⟨⟨⟨⟨?_, pf_laid⟩, pf_maps⟩, ?_⟩, ?_⟩, ?_⟩, ?_⟩, ?_⟩, ?_⟩, j_inPlace⟩, j_unfollowed⟩, j_recurses⟩, j_named⟩, ?_⟩, ?_⟩, ?_⟩, ?_⟩, ?_⟩, ?_⟩, ?_⟩, ?_⟩, ?_⟩, ?_⟩, ?_⟩, pf_heard⟩, pf_enter⟩, j_lifted⟩, ?_⟩, ?_⟩, ?_⟩, ?_⟩, ?_⟩
  all_goals kernel_rfl
theorem said : Rows.AletheParsesSaid :=
  OpenClaim.holds_of_wide 6 Tryz.f6 rfl rfl rfl rfl rfl rfl rfl ⟨rfl, rfl, rfl, rfl, rfl⟩ rfl rfl rfl rfl rfl (by kernel_rfl) Tryz.func6 joined
    (of_decide_eq_true (by kernel_rfl)) (by unfold Func.isWrapper; first | (rw [if_pos (by decide +kernel)]; kernel_rfl) | (rw [if_neg (by decide +kernel)]; exact ⟨rfl, rfl⟩))
    (fun os started H enc _ => lifted os started H enc)
theorem plain (f : FuncId) (fn : Func) (hf : Tryz.pinned.checked.prog.funcNamed "attest/attestlaw25.AletheParses" = some f) (hfn : Tryz.pinned.checked.prog.funcs[f]? = some fn) :
    true = Tryz.pinned.checked.prog.looks [] ∧ ∀ (j : Nat) t, fn.params[j]? = some t → Tryz.pinned.checked.prog.wantsStandIn t = false := by
  obtain rfl : f = 6 := Option.some.inj ((show Tryz.prog.funcNamed "attest/attestlaw25.AletheParses" = some 6 by kernel_rfl).symm.trans hf) |>.symm
  obtain rfl : fn = Tryz.f6 := (Option.some.inj (Tryz.func6.symm.trans hfn)).symm
  refine ⟨by kernel_rfl, fun j t ht => ?_⟩
  rw [Tryz.params6] at ht
  have hm : t ∈ [3, 9] := by simpa using Array.mem_of_getElem? ht
  have hall : ([3, 9].all fun u => !Tryz.prog.wantsStandIn u) = true := by kernel_rfl
  exact (show Tryz.prog.wantsStandIn t = false by simpa using List.all_eq_true.1 hall t hm)
theorem c_wf : Rows.aletheParsesRow.wfByText (OpenSpec.ofChange Rows.aletheParsesSpec) = true := by kernel_rfl
theorem c_main : Tryz.pinned.checked.prog.mainIs = some (Rows.aletheParsesCard.stood.harness.1, Rows.aletheParsesCard.stood.harness.2.toList) := by kernel_rfl
theorem c_goes : false = Rows.aletheParsesRow.goesBy Tryz.pinned.checked.prog := by kernel_rfl
theorem card : Rows.AletheParsesCardSaid :=
  Claim7.holds_tied_plain_at .later [] _ _ _ _ said (fun _ h => by cases h) c_wf (fun _ h => by cases h) aletheParses_row_tie rfl ⟨rfl, rfl⟩ c_main rfl plain c_goes
end Go.Proofs.YtbbpecfapohlaaaGreatDoor.alparses
