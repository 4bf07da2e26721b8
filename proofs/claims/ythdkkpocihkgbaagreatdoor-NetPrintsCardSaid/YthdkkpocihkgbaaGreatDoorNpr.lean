/-
  NetPrints: a network's text is as the document says, and is read back as the same network: the law answers true at every network, and leaves it as it is. The card: the tables that its row lists start as the program's text lays them.
-/
import Derived.Test.YthdkkpocihkgbaaGreatDoorNuH
import Derived.Test.YthdkkpocihkgbaaGreatDoorNtS
import Derived.Test.YthdkkpocihkgbaaGreatDoorNtU
import Derived.Test.YthdkkpocihkgbaaGreatDoorLaw
import Derived.Test.YthdkkpocihkgbaaGreatDoorWrap
import Derived.Test.YthdkkpocihkgbaaGreatDoorOpenQ
import Derived.Test.YthdkkpocihkgbaaGreatDoorPf
import Derived.Test.YthdkkpocihkgbaaGreatDoorCards
import Derived.Test.YthdkkpocihkgbaaGreatDoorTie
import Derived.LaidMore
import Derived.Lay
import Derived.SevenTiedAt
import Derived.Stop.Joined
import Derived.LaidSub
import Derived.Stop.LaidErr
import Derived.Lib.LaidTab
namespace Go.Proofs.YthdkkpocihkgbaaGreatDoor
open Go.RowKit
attribute [local irreducible] AC Do St
set_option maxRecDepth 100000 in
set_option maxHeartbeats 8000000 in
theorem netPrintsF {Kw : World → Prop} [KSt Kw] [KHas Kw MaxL] [KHas Kw Tab] (n : Int) (ls : List LQ) (hn : -9223372036854775808 ≤ n ∧ n ≤ 9223372036854775807) (hl : ∀ l ∈ ls, okLQ l) : FnK Tryz.prog 12 Kw [.g (enQN n ls)] [.d (.v (.bool true))] := by
  have haw := awakeF (Kw := Kw)
  have hof := of15F n ls hl
  have hsm := ofNs_sm hl
  have h8 := ofNs_len ls
  generalize ofNs ls = m at hof hsm h8
  have hw := widthsF n m
  have ht := told15F n m 256 (by decide) (fun l h => (hsm l h).1) (by omega)
  have hd := widths15F n m (by omega) hn (fun l h => (hsm l h).2)
  have hp := printNF (Kw := Kw) n m (fun l h => (hsm l h).1)
  unfold printR at hp
  cases hg : greatB n m with
  | true =>
    rw [widsR_2 hg] at hd
    rw [hg, if_pos rfl] at hp
    refine FnK.of Tryz.func12 rfl (by kernel_rfl) Tryz.ntmps12 Tryz.results12 rfl fun w0 S0 hK0 => ?_
    refine wk ?_
    refine c1 hof ?_
    refine wk ?_
    refine c1 hp ?_
    refine wk ?_
    refine c1 hof ?_
    refine wk ?_
    refine c1 ht ?_
    refine wk ?_
    refine c1 hd ?_
    refine wk ?_
    refine c1 haw ?_
    refine wk ?_
    ((try (first | intro K ms hms hK | intro K hK)); (first | apply Chain.go | apply Chain.goD); exact rfl; exact rfl; exact Loc.strEq (r := true) rfl rfl rfl txE)
    refine wk ?_
    exact ⟨.d rfl (.inl rfl), trivial⟩
  | false =>
  rw [hg, if_neg (by decide)] at hp
  by_cases hf : m.foldl stW n ≤ 0
  · rw [if_pos hf] at hp
    rw [widsR_4 hg hf] at hd
    refine FnK.of Tryz.func12 rfl (by kernel_rfl) Tryz.ntmps12 Tryz.results12 rfl fun w0 S0 hK0 => ?_
    refine wk ?_
    refine c1 hof ?_
    refine wk ?_
    refine c1 hp ?_
    refine wk ?_
    refine c1 hof ?_
    refine wk ?_
    refine c1 ht ?_
    refine wk ?_
    refine c1 hd ?_
    refine wk ?_
    refine c1 haw ?_
    refine wk ?_
    ((try (first | intro K ms hms hK | intro K hK)); (first | apply Chain.go | apply Chain.goD); exact rfl; exact rfl; exact Loc.strEq (r := true) rfl rfl rfl txE)
    refine wk ?_
    exact ⟨.d rfl (.inl rfl), trivial⟩
  rw [if_neg hf] at hp
  rw [widsR_0 hg (by omega)] at hd
  obtain ⟨g1, g2, g3⟩ := great_out hg
  obtain ⟨n0, hok⟩ := fold_ok m n g3 g2 (by omega)
  have hfit : ∀ l ∈ m, fitL l ∧ okY l := fun l h => ⟨fit_of (g2 l h) (hok l h) (hsm l h).1, hok l h⟩
  have hlen := netY_len (n := n) (by omega) hfit g1
  have hx := text15F (Kw := Kw) n m (by omega) hfit g1
  have hq := parseNF (Kw := Kw) (netY n m) (by omega) (words_short (by omega) hfit)
  by_cases hb : 1000000 < (netY n m).length
  · have hR : parseT (netY n m) = ((0, []), 0, 2) := if_pos hb
    rw [hR] at hq
    unfold parseRes at hq
    dsimp only at hq
    generalize netY n m = T at *
    refine FnK.of Tryz.func12 rfl (by kernel_rfl) Tryz.ntmps12 Tryz.results12 rfl fun w0 S0 hK0 => ?_
    refine wk ?_
    refine c1 hof ?_
    refine wk ?_
    refine c1 hp ?_
    refine wk ?_
    refine c1 hof ?_
    refine wk ?_
    refine c1 ht ?_
    refine wk ?_
    refine c1 hd ?_
    refine wk ?_
    refine c1 hq ?_
    refine wk ?_
    refine c1 haw ?_
    refine wk ?_
    refine c1 hof ?_
    refine wk ?_
    refine c1 ht ?_
    refine wk ?_
    refine c1 hx ?_
    ((try (first | intro K ms hms hK | intro K hK)); (first | apply Chain.go | apply Chain.goD); exact rfl; exact rfl; exact Loc.strNe (r := false) rfl rfl rfl (by simp))
    refine wk ?_
    ((try (first | intro K ms hms hK | intro K hK)); (first | apply Chain.go | apply Chain.goD); exact rfl; exact rfl; exact Loc.strLen rfl rfl (by kernel_rfl))
    rw [tx_size]
    refine wk ?_
    exact ⟨.d rfl (.inl rfl), trivial⟩
  · have hR := (parse_back hg (by omega) (by omega)).1
    rw [hR] at hq
    unfold parseRes at hq
    dsimp only at hq
    have ht2 := told15F n (m.map nrm) 256 (by decide) (fun l h => by
      obtain ⟨l', h', rfl⟩ := List.mem_map.1 h
      exact nrm_sm (hsm l' h').1) (by rw [List.length_map]; omega)
    have hsG : ∀ l ∈ m, smG l := fun l h => ⟨(hsm l h).2.2.2.1, (hsm l h).2.2.2.2.2⟩
    have hs := same15F (k := 256) (m := 256) n (m.map nrm) m (by decide) (by rw [List.length_map]) (by rw [List.length_map]; omega) (fun l h => by
      obtain ⟨l', h', rfl⟩ := List.mem_map.1 h
      exact ⟨nrm_sm (hsm l' h').1, nrm_smG (hsG l' h')⟩) (fun l h => (hsm l h).1) (fun i x y h1 h2 => by
      rw [List.getElem?_map, h2] at h1
      cases h1
      exact nrm_same (hok y (List.mem_of_getElem? h2)))
    generalize netY n m = T at *
    refine FnK.of Tryz.func12 rfl (by kernel_rfl) Tryz.ntmps12 Tryz.results12 rfl fun w0 S0 hK0 => ?_
    refine wk ?_
    refine c1 hof ?_
    refine wk ?_
    refine c1 hp ?_
    refine wk ?_
    refine c1 hof ?_
    refine wk ?_
    refine c1 ht ?_
    refine wk ?_
    refine c1 hd ?_
    refine wk ?_
    refine c1 hq ?_
    refine wk ?_
    refine c1 haw ?_
    refine wk ?_
    refine c1 hof ?_
    refine wk ?_
    refine c1 ht ?_
    refine wk ?_
    refine c1 hx ?_
    ((try (first | intro K ms hms hK | intro K hK)); (first | apply Chain.go | apply Chain.goD); exact rfl; exact rfl; exact Loc.strNe (r := false) rfl rfl rfl (by simp))
    refine wk ?_
    ((try (first | intro K ms hms hK | intro K hK)); (first | apply Chain.go | apply Chain.goD); exact rfl; exact rfl; exact Loc.strLen rfl rfl (by kernel_rfl))
    rw [tx_size]
    refine wk ?_
    refine c1 ht2 ?_
    refine wk ?_
    refine c1 hof ?_
    refine wk ?_
    refine c1 ht ?_
    refine wk ?_
    refine c1 hs ?_
    refine wk ?_
    exact ⟨.d rfl (.inl rfl), trivial⟩
end Go.Proofs.YthdkkpocihkgbaaGreatDoor
namespace Go.Proofs.YthdkkpocihkgbaaGreatDoor.prints
open Go.RowKit Go.ChangeShapes Go.WideShapes Go.ChangeAt
theorem own : ownKnob Tryz.prog.godebug = none := pf_own
theorem laid : laidOutB Tryz.prog = true := pf_laid
instance instTab : KSt Tab := ⟨fun _ _ h hx => Tab.ext h hx⟩
theorem tab {w : World} (h : laidMetH Tryz.prog Rows.netPrintsRow.laid w) : Tab w := by
  have h1 := h.filter (fun x => x.1 == "internal/strconv.uint64pow10")
  have e : (Rows.netPrintsRow.laid.filter fun x => x.1 == "internal/strconv.uint64pow10") = [("internal/strconv.uint64pow10", Lib.tabData .u64 Lib.pow10Tab)] := by kernel_rfl
  rw [e, MakeChecks.laidMetH_plain _ _ _ (by kernel_rfl)] at h1
  exact Lib.tabIs_of_head (g := 1) (t := 377) (e := 218) (n := 20) (by kernel_rfl) (by kernel_rfl) (by kernel_rfl) (by kernel_rfl) (by kernel_rfl) (by kernel_rfl) h1
theorem calls (a0 : Int × List LQ) (h0 : r64 (a0).1 ∧ ∀ l ∈ a0.2, okL l) (v0 : Value) (w : World) (hT : And2 Tab MaxL w) (r0 : RV (Lt w.heap.size) w v0 (.g ((fun a : Int × List LQ => enQN a.1 a.2) a0))) : Calls Tryz.prog 12 #[v0] w fun e w' => e = .returned (.bool true) ∧ Ext w w' := by
  refine ((netPrintsF (Kw := And2 Tab MaxL) a0.1 a0.2 h0.1 (fun l hl => (h0.2 l hl).1)).run (Lt w.heap.size) w [v0] hT (fun _ h => h) ⟨rfl, fun i h _ => ?_⟩).mono fun e w' ⟨u, h1, h2, h3⟩ => ?_
  · match i, h with
    | 0, _ => exact r0
  · subst h1
    exact ⟨by rw [RA.val h3], h2⟩
set_option maxRecDepth 100000 in
theorem lifted (os : Os) (started : os.Started) (H : Type) (enc : TypeId × Value → H) :
    ReturnsInHanded {} Tryz.checked os 12 .any (fun w args => (Rows.netPrintsSpec.pre enc Tryz.prog Tryz.f12 Rows.netPrintsRow.domain false w args ∧ laidMetH Tryz.prog Rows.netPrintsRow.laid w) ∧ sizedMet enc Tryz.prog Tryz.f12 (OpenSpec.ofChange Rows.netPrintsSpec) false w args)
      (Rows.netPrintsSpec.post enc Tryz.prog Tryz.f12 false true false false) := by
  refine handed_both (C := Tryz.checked) (X := fun w _ => laidMetH Tryz.prog Rows.netPrintsRow.laid w) (fun _ _ _ hh h => h.of_heap hh) own started (by kernel_rfl) Tryz.func12
    (ChangeSpec.witness_shaped (enc := enc) (C := Tryz.checked) (os := os) (X := fun w _ => laidMetH Tryz.prog Rows.netPrintsRow.laid w) false (World.laidAll Tryz.prog os Rows.netPrintsRow.laid) #[.agg #[.int .i64 0, .slice none 0 0]] 8 (World.laidAll_os _ _ _)
      (World.shaped_of_ZipB (by kernel_rfl) (by kernel_rfl)) (by kernel_rfl) (by kernel_rfl) (by kernel_rfl)
      (by rw [MakeChecks.laidMetH_plain _ _ _ (by kernel_rfl)]; exact laidMet_laidAll _ (by kernel_rfl) (by kernel_rfl))) ?_
  intro W base args ds gs before hsh hval0 hW x1 x2 x3 x4
  have hTab1 : MaxL W := maxL_shaped hsh
  have hTab2 : Tab W := by first | exact tab x1 | exact tab x2 | exact tab x3 | exact tab x4 | exact tab x2.2 | exact tab x1.2 | exact tab x3.2
  have hTab : And2 Tab MaxL W := ⟨hTab2, hTab1⟩
  have hval : ∀ (j : Nat) t v, Tryz.f12.params[j]? = some t → args[j]? = some v → Value.okWide Tryz.prog W .any base t v := hval0
  have hW' := hW
  obtain ⟨p, q, hA0, hV, rfl, hfz, hnd⟩ := hW
  have hA : DataW.TrodAll enc Tryz.prog W 0 (fun _ => true) true Tryz.f12.params.toList args.toList ds p := hA0
  rw [Tryz.params12] at hA hval
  obtain ⟨v0, d0, rfl, rfl, t0⟩ := trodAll_one hA
  obtain ⟨ds0, r0, a0, rfl, h0⟩ := RV.ofTrod Tryz.underlying38 (hval 0 38 v0 rfl rfl) t0 oqNet
  refine (calls a0 h0 _ W hTab r0).mono fun e W' ⟨he, hb⟩ => ?_
  subst he
  exact ⟨_, rfl, law_post laid (by decide +kernel) rfl Tryz.underlying4 rfl hW' hb rfl rfl rfl⟩
theorem j_inPlace : (Rows.netPrintsRow.inPlace == (Tryz.prog).inPlace 12) = true := by kernel_rfl
theorem j_unfollowed : (Rows.netPrintsRow.unfollowed == (Tryz.prog).unfollowed 12) = true := by kernel_rfl
theorem j_recurses : (Rows.netPrintsRow.recurses == (Tryz.prog).recurses 12) = true := by kernel_rfl
theorem j_named : (Rows.netPrintsRow.named == (Tryz.prog).varsNamed 12) = true := by kernel_rfl
theorem j_lifted : (Rows.netPrintsRow.lifted == (Tryz.prog).liftsFinal) = true := by kernel_rfl
theorem joined : joinedFacts Tryz.pinned.checked.prog 12 Tryz.f12 Rows.netPrintsSpec Rows.netPrintsRow = true := by
  simp only [joinedFacts, Bool.and_eq_true]
  refine ⟨⟨⟨⟨⟨⟨⟨⟨⟨⟨⟨⟨⟨⟨⟨⟨⟨⟨⟨⟨⟨⟨⟨⟨⟨⟨⟨⟨⟨⟨⟨?_, pf_laid⟩, pf_maps⟩, ?_⟩, ?_⟩, ?_⟩, ?_⟩, ?_⟩, ?_⟩, j_inPlace⟩, j_unfollowed⟩, j_recurses⟩, j_named⟩, ?_⟩, ?_⟩, ?_⟩, ?_⟩, ?_⟩, ?_⟩, ?_⟩, ?_⟩, ?_⟩, ?_⟩, ?_⟩, pf_heard⟩, pf_enter⟩, j_lifted⟩, ?_⟩, ?_⟩, ?_⟩, ?_⟩, ?_⟩
  all_goals kernel_rfl
theorem said : Rows.NetPrintsSaid :=
  OpenClaim.holds_of_wide 12 Tryz.f12 rfl rfl rfl rfl rfl rfl rfl ⟨rfl, rfl, rfl, rfl, rfl⟩ rfl rfl rfl rfl rfl (by kernel_rfl) Tryz.func12 joined
    (of_decide_eq_true (by kernel_rfl)) (by unfold Func.isWrapper; first | (rw [if_pos (by decide +kernel)]; kernel_rfl) | (rw [if_neg (by decide +kernel)]; exact ⟨rfl, rfl⟩))
    (fun os started H enc _ => lifted os started H enc)
theorem plain (f : FuncId) (fn : Func) (hf : Tryz.pinned.checked.prog.funcNamed "attest/attestlaw15.NetPrints" = some f) (hfn : Tryz.pinned.checked.prog.funcs[f]? = some fn) :
    true = Tryz.pinned.checked.prog.looks [] ∧ ∀ (j : Nat) t, fn.params[j]? = some t → Tryz.pinned.checked.prog.wantsStandIn t = false := by
  obtain rfl : f = 12 := Option.some.inj ((show Tryz.prog.funcNamed "attest/attestlaw15.NetPrints" = some 12 by kernel_rfl).symm.trans hf) |>.symm
  obtain rfl : fn = Tryz.f12 := (Option.some.inj (Tryz.func12.symm.trans hfn)).symm
  refine ⟨by kernel_rfl, fun j t ht => ?_⟩
  rw [Tryz.params12] at ht
  have hm : t ∈ [38] := by simpa using Array.mem_of_getElem? ht
  have hall : ([38].all fun u => !Tryz.prog.wantsStandIn u) = true := by kernel_rfl
  exact (show Tryz.prog.wantsStandIn t = false by simpa using List.all_eq_true.1 hall t hm)
theorem card : Rows.NetPrintsCardSaid :=
  Claim7.holds_tied_plain_at .later [] _ _ _ _ said (fun _ h => by cases h) (by kernel_rfl) (fun _ h => by cases h) netPrints_row_tie rfl ⟨rfl, rfl⟩ (by kernel_rfl) rfl plain (by kernel_rfl)
end Go.Proofs.YthdkkpocihkgbaaGreatDoor.prints
