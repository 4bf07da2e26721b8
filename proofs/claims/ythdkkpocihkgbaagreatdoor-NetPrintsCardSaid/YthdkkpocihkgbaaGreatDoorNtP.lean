/-
 (*net.Net).line: the words that make a layer.
-/
import Derived.Test.YthdkkpocihkgbaaGreatDoorNtO
namespace Go.Proofs.YthdkkpocihkgbaaGreatDoor
open Go.RowKit
attribute [local irreducible] AC Do St
set_option maxRecDepth 100000 in
set_option maxHeartbeats 4000000 in
theorem line0aff (b : Nat) (inn : Int) (t : List (List UInt8)) (first : Bool) (hw : ∀ x ∈ t, x ≠ [] ∧ x.length ≤ 20000) (ht : t.length ≤ 1000000000) :
  FnO Tryz.prog 67 MaxL (netP b (.slice none 0 0) (.slice none 0 0) (.slice none 0 0) (.slice none 0 0) ⟨inn, [], none⟩) (NS.args b bAff t first) (lineQ b ⟨inn, [], none⟩ bAff t first) := by
 have _ := hw
 have _ := ht
 have hml : (bAff :: t).length = t.length + 1 := List.length_cons ..
 have hz : ∀ w, (zeroValue 3).run Tryz.prog w = .ok (.int .i64 0) w := fun w => by kernel_rfl
 have hT : (Tryz.prog).underlying 250 = some (.map 9 3) := by kernel_rfl
 have hE : (Tryz.prog).underlying 3 = some (.int .i64) := by kernel_rfl
 have hkd : Go.Maps.Keyed Tryz.prog 9 := Go.Maps.string_keyed (by kernel_rfl)
 refine FnO.of Tryz.func67 rfl (by kernel_rfl) Tryz.ntmps67 Tryz.results67 rfl rfl fun w0 S0 vs hS hv hKW => ?_
 obtain ⟨u, bw, pw, n, c, rfl, hu, hn0, hcell⟩ := words_told hS hv
 refine ⟨(1, .d (.v (.slice (some ⟨bw, pw, none⟩) n c))) :: entry 0 (NS.args b bAff t first), fun t v h => ?_, ?_⟩
 ·rw [get?_cons] at h
  by_cases e : 1 = t
  ·rw [if_pos e] at h
   cases h
   exact .inr ⟨_, e ▸ hu, rfl, rfl⟩
  ·rw [if_neg e] at h
   exact .inl h
 refine wl ?_
 ((try (first | intro K ms hms hK | intro K hK)); (first | apply Chain.go | apply Chain.goD); exact rfl; exact rfl; exact Loc.idxVo 0 rfl rfl rfl rfl (by omega))
 refine wl ?_
 ((try (first | intro K ms hms hK | intro K hK)); (first | apply Chain.go | apply Chain.goD); exact rfl; exact rfl; exact Loc.loadW rfl rfl rfl fun σ' β a w hi => hcell σ' a w (St.of hi))
 refine wl ?_
 ((try (first | intro K ms hms hK | intro K hK)); (first | apply Chain.go | apply Chain.goD); exact rfl; exact rfl; exact Loc.strEq (r := false) rfl rfl rfl (neT (m := bNet) (by decide)))
 refine wl ?_
 ((try (first | intro K ms hms hK | intro K hK)); (first | apply Chain.go | apply Chain.goD); exact rfl; exact rfl; exact Loc.strEq (r := true) rfl rfl rfl (eqT (m := bAff) rfl))
 refine wl ?_
 refine AC.drwS _ rfl (by kernel_rfl) (by decide +kernel) 19 rfl fun Qc hp hn a w hs => ?_
 refine ⟨fun w => w.cell? ⟨b, 1, none⟩ = some (.slice none 0 0) ∧ w.cell? ⟨bw, pw, none⟩ = some (.string (tx bAff)), ?_⟩
 have hp' : ∀ c σ, ¬ Qc (.panic c) σ := fun c σ h => hp c σ h
 have hSw : (fun w : World => w.cell? ⟨b, 1, none⟩ = some (.slice none 0 0) ∧ w.cell? ⟨bw, pw, none⟩ = some (.string (tx bAff))) w := ⟨hs.boxCell (id := 288) (p := 1) rfl rfl, hcell _ _ _ hs⟩
 refine hoistT 0 (ptv b 0) hs hp' rfl rfl rfl rfl (by decide +kernel) (by decide +kernel) (by decide +kernel) hSw (fun w' hw' => ex_move rfl (hs.val rfl)) rfl fun a hs => ?_
 refine hoistT 1 (ptv b 0) hs hp' rfl rfl rfl rfl (by decide +kernel) (by decide +kernel) (by decide +kernel) hSw (fun w' hw' => ex_move rfl (hs.val rfl)) rfl fun a hs => ?_
 refine hoistT 2 (ptv b 0) hs hp' rfl rfl rfl rfl (by decide +kernel) (by decide +kernel) (by decide +kernel) hSw (fun w' hw' => ex_nil rfl (hs.val rfl)) rfl fun a hs => ?_
 refine hoistT 3 (ptv b (0 + 1)) hs hp' rfl rfl rfl rfl (by decide +kernel) (by decide +kernel) (by decide +kernel) hSw (fun w' hw' => ex_field rfl (hs.val rfl)) rfl fun a hs => ?_
 refine hoistT 4 (.slice none 0 0) hs hp' rfl rfl rfl rfl (by decide +kernel) (by decide +kernel) (by decide +kernel) hSw (fun w' hw' => ex_load rfl (hs.val rfl) hw'.1) rfl fun a hs => ?_
 refine hoistT 10 (.slice (some ⟨bw, pw, none⟩) n c) hs hp' rfl rfl rfl rfl (by decide +kernel) (by decide +kernel) (by decide +kernel) hSw (fun w' hw' => ex_move rfl (hs.val rfl)) rfl fun a hs => ?_
 refine hoistT 11 (ptv bw (pw + 0 * 1)) hs hp' rfl rfl rfl rfl (by decide +kernel) (by decide +kernel) (by decide +kernel) hSw (fun w' hw' => ex_idx 0 rfl (hs.val rfl) rfl (by omega)) rfl fun a hs => ?_
 refine hoistT 12 (.string (tx bAff)) hs hp' rfl rfl rfl rfl (by decide +kernel) (by decide +kernel) (by decide +kernel) hSw (fun w' hw' => ex_load rfl (hs.val rfl) hw'.2) rfl fun a hs => ?_
 refine hoistE 5 _ hs rfl rfl (by decide +kernel) (mkMap_eff 9 3 rfl rfl rfl rfl) (by rintro _ ⟨bm, rfl⟩ a w hs; exact ⟨hs.boxCell (id := 288) (p := 1) rfl rfl, hcell _ _ _ hs⟩) ?_
 rintro _ ⟨bm, rfl⟩ a w hSw hs
 refine hoistM (id := 71) (b := bm) 6 7 8 (.string bAff) (.string bRel) (.string bMax) 1 2 3 (.map [(.string bAff, .lit (.int .i64 1)), (.string bMax, .lit (.int .i64 3)), (.string bRel, .lit (.int .i64 2))]) hs rfl rfl rfl rfl rfl rfl (fun n M hn => putI_eff (kv := .string ⟨#[97, 102, 102, 105, 110, 101]⟩) rfl rfl rfl rfl hT hE hkd (by kernel_rfl) (by omega) (by decide) rfl) (fun n M hn => putI_eff (kv := .string ⟨#[114, 101, 108, 117]⟩) rfl rfl rfl rfl hT hE hkd (by kernel_rfl) (by omega) (by decide) rfl) (fun n M hn => putI_eff (kv := .string ⟨#[109, 97, 120]⟩) rfl rfl rfl rfl hT hE hkd (by kernel_rfl) (by omega) (by decide) rfl) (by intro n M a w hs; exact ⟨hs.boxCell (id := 288) (p := 1) rfl rfl, hcell _ _ _ hs⟩) ⟨⟨by kernel_rfl, by kernel_rfl⟩, ⟨by kernel_rfl, by kernel_rfl⟩, by kernel_rfl, by kernel_rfl⟩ (by decide) (by decide) (by decide) (by decide +kernel) fun a w hSw hs => ?_
 refine hoistT 9 (.map (some bm)) hs hp' rfl rfl rfl rfl (by decide +kernel) (by decide +kernel) (by decide +kernel) hSw (fun w' hw' => ex_move rfl (hs.val rfl)) rfl fun a hs => ?_
 refine hoistE 13 (fun σ' => σ' = _) hs rfl rfl (by decide +kernel) (Do.eff (Loc.lookV (id := 71) (c := 1) (kl := .string bAff) rfl rfl rfl rfl hT hE hz hkd (by kernel_rfl) (by kernel_rfl)) rfl rfl) (by rintro _ rfl a w hs; exact ⟨hs.boxCell (id := 288) (p := 1) rfl rfl, hcell _ _ _ hs⟩) ?_
 rintro _ rfl a w hSw hs
 refine hoistE 14 (fun σ' => σ' = _) hs rfl rfl (by decide +kernel) (Do.eff (Loc.build rfl rfl rfl rfl) rfl rfl) (by rintro _ rfl a w hs; exact ⟨hs.boxCell (id := 288) (p := 1) rfl rfl, hcell _ _ _ hs⟩) ?_
 rintro _ rfl a w hSw hs
 replace hs := hs.nilG 77 rfl
 refine hoistE 15 (fun σ' => σ' = _) hs rfl rfl (by decide +kernel) (Do.eff (Loc.litP rfl rfl rfl rfl rfl rfl rfl) rfl rfl) (by rintro _ rfl a w hs; exact ⟨hs.boxCell (id := 288) (p := 1) rfl rfl, hcell _ _ _ hs⟩) ?_
 rintro _ rfl a w hSw hs
 refine hoistE 16 (fun σ' => σ' = _) hs rfl rfl (by decide +kernel) (Do.eff (Do.appendP 289 rfl rfl rfl rfl rfl (by intro y hy; rw [List.mem_singleton.1 hy]; rfl) (by simp [rowsOf] <;> omega) (Nat.zero_lt_one)) rfl rfl) (by rintro _ rfl a w hs; exact ⟨hs.boxCell (id := 288) (p := 1) rfl rfl, hcell _ _ _ hs⟩) ?_
 rintro _ rfl a w hSw hs
 refine hoistT 17 (ptv b 0) hs hp' rfl rfl rfl rfl (by decide +kernel) (by decide +kernel) (by decide +kernel) hSw (fun w' hw' => ex_nil rfl (hs.val rfl)) rfl fun a hs => ?_
 refine hoistT 18 (ptv b (0 + 1)) hs hp' rfl rfl rfl rfl (by decide +kernel) (by decide +kernel) (by decide +kernel) hSw (fun w' hw' => ex_field rfl (hs.val rfl)) rfl fun a hs => ?_
 refine wpAnyH_done (by decide +kernel) ⟨_, hn _ (fun K hK => ?_), hs⟩ _
 refine Chain.pinR 79 79 rfl rfl fun xL' hxL => ?_
 ((try (first | intro K ms hms hK | intro K hK)); (first | apply Chain.st | apply Chain.stD); exact rfl; exact rfl; exact Do.storeB (id := 288) rfl rfl rfl rfl rfl rfl rfl rfl; exact rfl; exact rfl)
 refine Chain.giveO 79 289 rfl rfl ?_
 obtain ⟨bL', cL', rfl⟩ : ∃ bL' cL', xL' = slv bL' (([] : List LN).length + 1) cL' := by
  rcases hxL with h | ⟨bL', cL', h⟩
  ·exact absurd h (by simp)
  ·exact ⟨bL', cL', by rw [h]; simp [rowsOf]⟩
 refine Chain.sub ⟨[(1, .d (.v (.slice (some ⟨bw, pw, none⟩) n c))), (2, .d (.v (.bool first)))], [(288, boxO b 25 [.v (.int .i64 inn), .v (slv bL' (([] : List LN).length + 1) cL')]), (289, rowO (slv bL' (([] : List LN).length + 1) cL') 30 4 (rowsOf ⟨inn, [], some ⟨1, [], [], []⟩⟩ nil3 nil3 nil3)), (290, rowO nil3 27 1 []), (291, rowO nil3 119 3 []), (292, rowO nil3 31 1 [])]⟩ ⟨rfl, rfl, trivial⟩ ⟨rfl, rfl, rfl, rfl, rfl, trivial⟩ ?_
 by_cases ht0 : t.length = 0
 ·obtain rfl := List.length_eq_zero_iff.1 ht0
  cases first with
  | false =>
   refine wl ?_
   exact ⟨netP b (slv bL' (([] : List LN).length + 1) cL') nil3 nil3 nil3 ⟨inn, [], some ⟨1, [], [], []⟩⟩, [.d (.v (.bool true))], .inr ⟨_, (lineS_kind (by decide) (by decide)).trans (if_pos ⟨rfl, rfl⟩), rfl, _, _, _, _, ⟨.inr ⟨_, _, rfl⟩, fun h => absurd h (by simp)⟩, rfl⟩, rfl, ⟨.d rfl (.inl rfl), trivial⟩, netP_get rfl rfl rfl rfl rfl⟩
  | true =>
   refine wl ?_
   exact ⟨netP b (slv bL' (([] : List LN).length + 1) cL') nil3 nil3 nil3 ⟨inn, [], some ⟨1, [], [], []⟩⟩, [.d (.v (.bool false))], .inl ⟨(lineS_kind (k := 1) (by decide) (by decide)).trans (if_neg (by simp)), rfl⟩, rfl, ⟨.d rfl (.inl rfl), trivial⟩, netP_get rfl rfl rfl rfl rfl⟩
 ·refine wl ?_
  exact ⟨netP b (slv bL' (([] : List LN).length + 1) cL') nil3 nil3 nil3 ⟨inn, [], some ⟨1, [], [], []⟩⟩, [.d (.v (.bool false))], .inl ⟨(lineS_kind (k := 1) (by decide) (by decide)).trans (if_neg fun h => ht0 (by rw [h.1]; rfl)), rfl⟩, rfl, ⟨.d rfl (.inl rfl), trivial⟩, netP_get rfl rfl rfl rfl rfl⟩
set_option maxRecDepth 100000 in
set_option maxHeartbeats 4000000 in
theorem line0rel (b : Nat) (inn : Int) (t : List (List UInt8)) (first : Bool) (hw : ∀ x ∈ t, x ≠ [] ∧ x.length ≤ 20000) (ht : t.length ≤ 1000000000) :
  FnO Tryz.prog 67 MaxL (netP b (.slice none 0 0) (.slice none 0 0) (.slice none 0 0) (.slice none 0 0) ⟨inn, [], none⟩) (NS.args b bRel t first) (lineQ b ⟨inn, [], none⟩ bRel t first) := by
 have _ := hw
 have _ := ht
 have hml : (bRel :: t).length = t.length + 1 := List.length_cons ..
 have hz : ∀ w, (zeroValue 3).run Tryz.prog w = .ok (.int .i64 0) w := fun w => by kernel_rfl
 have hT : (Tryz.prog).underlying 250 = some (.map 9 3) := by kernel_rfl
 have hE : (Tryz.prog).underlying 3 = some (.int .i64) := by kernel_rfl
 have hkd : Go.Maps.Keyed Tryz.prog 9 := Go.Maps.string_keyed (by kernel_rfl)
 refine FnO.of Tryz.func67 rfl (by kernel_rfl) Tryz.ntmps67 Tryz.results67 rfl rfl fun w0 S0 vs hS hv hKW => ?_
 obtain ⟨u, bw, pw, n, c, rfl, hu, hn0, hcell⟩ := words_told hS hv
 refine ⟨(1, .d (.v (.slice (some ⟨bw, pw, none⟩) n c))) :: entry 0 (NS.args b bRel t first), fun t v h => ?_, ?_⟩
 ·rw [get?_cons] at h
  by_cases e : 1 = t
  ·rw [if_pos e] at h
   cases h
   exact .inr ⟨_, e ▸ hu, rfl, rfl⟩
  ·rw [if_neg e] at h
   exact .inl h
 refine wl ?_
 ((try (first | intro K ms hms hK | intro K hK)); (first | apply Chain.go | apply Chain.goD); exact rfl; exact rfl; exact Loc.idxVo 0 rfl rfl rfl rfl (by omega))
 refine wl ?_
 ((try (first | intro K ms hms hK | intro K hK)); (first | apply Chain.go | apply Chain.goD); exact rfl; exact rfl; exact Loc.loadW rfl rfl rfl fun σ' β a w hi => hcell σ' a w (St.of hi))
 refine wl ?_
 ((try (first | intro K ms hms hK | intro K hK)); (first | apply Chain.go | apply Chain.goD); exact rfl; exact rfl; exact Loc.strEq (r := false) rfl rfl rfl (neT (m := bNet) (by decide)))
 refine wl ?_
 ((try (first | intro K ms hms hK | intro K hK)); (first | apply Chain.go | apply Chain.goD); exact rfl; exact rfl; exact Loc.strEq (r := false) rfl rfl rfl (neT (m := bAff) (by decide)))
 refine wl ?_
 ((try (first | intro K ms hms hK | intro K hK)); (first | apply Chain.go | apply Chain.goD); exact rfl; exact rfl; exact Loc.strEq (r := true) rfl rfl rfl (eqT (m := bRel) rfl))
 refine wl ?_
 refine AC.drwS _ rfl (by kernel_rfl) (by decide +kernel) 19 rfl fun Qc hp hn a w hs => ?_
 refine ⟨fun w => w.cell? ⟨b, 1, none⟩ = some (.slice none 0 0) ∧ w.cell? ⟨bw, pw, none⟩ = some (.string (tx bRel)), ?_⟩
 have hp' : ∀ c σ, ¬ Qc (.panic c) σ := fun c σ h => hp c σ h
 have hSw : (fun w : World => w.cell? ⟨b, 1, none⟩ = some (.slice none 0 0) ∧ w.cell? ⟨bw, pw, none⟩ = some (.string (tx bRel))) w := ⟨hs.boxCell (id := 288) (p := 1) rfl rfl, hcell _ _ _ hs⟩
 refine hoistT 0 (ptv b 0) hs hp' rfl rfl rfl rfl (by decide +kernel) (by decide +kernel) (by decide +kernel) hSw (fun w' hw' => ex_move rfl (hs.val rfl)) rfl fun a hs => ?_
 refine hoistT 1 (ptv b 0) hs hp' rfl rfl rfl rfl (by decide +kernel) (by decide +kernel) (by decide +kernel) hSw (fun w' hw' => ex_move rfl (hs.val rfl)) rfl fun a hs => ?_
 refine hoistT 2 (ptv b 0) hs hp' rfl rfl rfl rfl (by decide +kernel) (by decide +kernel) (by decide +kernel) hSw (fun w' hw' => ex_nil rfl (hs.val rfl)) rfl fun a hs => ?_
 refine hoistT 3 (ptv b (0 + 1)) hs hp' rfl rfl rfl rfl (by decide +kernel) (by decide +kernel) (by decide +kernel) hSw (fun w' hw' => ex_field rfl (hs.val rfl)) rfl fun a hs => ?_
 refine hoistT 4 (.slice none 0 0) hs hp' rfl rfl rfl rfl (by decide +kernel) (by decide +kernel) (by decide +kernel) hSw (fun w' hw' => ex_load rfl (hs.val rfl) hw'.1) rfl fun a hs => ?_
 refine hoistT 10 (.slice (some ⟨bw, pw, none⟩) n c) hs hp' rfl rfl rfl rfl (by decide +kernel) (by decide +kernel) (by decide +kernel) hSw (fun w' hw' => ex_move rfl (hs.val rfl)) rfl fun a hs => ?_
 refine hoistT 11 (ptv bw (pw + 0 * 1)) hs hp' rfl rfl rfl rfl (by decide +kernel) (by decide +kernel) (by decide +kernel) hSw (fun w' hw' => ex_idx 0 rfl (hs.val rfl) rfl (by omega)) rfl fun a hs => ?_
 refine hoistT 12 (.string (tx bRel)) hs hp' rfl rfl rfl rfl (by decide +kernel) (by decide +kernel) (by decide +kernel) hSw (fun w' hw' => ex_load rfl (hs.val rfl) hw'.2) rfl fun a hs => ?_
 refine hoistE 5 _ hs rfl rfl (by decide +kernel) (mkMap_eff 9 3 rfl rfl rfl rfl) (by rintro _ ⟨bm, rfl⟩ a w hs; exact ⟨hs.boxCell (id := 288) (p := 1) rfl rfl, hcell _ _ _ hs⟩) ?_
 rintro _ ⟨bm, rfl⟩ a w hSw hs
 refine hoistM (id := 71) (b := bm) 6 7 8 (.string bAff) (.string bRel) (.string bMax) 1 2 3 (.map [(.string bAff, .lit (.int .i64 1)), (.string bMax, .lit (.int .i64 3)), (.string bRel, .lit (.int .i64 2))]) hs rfl rfl rfl rfl rfl rfl (fun n M hn => putI_eff (kv := .string ⟨#[97, 102, 102, 105, 110, 101]⟩) rfl rfl rfl rfl hT hE hkd (by kernel_rfl) (by omega) (by decide) rfl) (fun n M hn => putI_eff (kv := .string ⟨#[114, 101, 108, 117]⟩) rfl rfl rfl rfl hT hE hkd (by kernel_rfl) (by omega) (by decide) rfl) (fun n M hn => putI_eff (kv := .string ⟨#[109, 97, 120]⟩) rfl rfl rfl rfl hT hE hkd (by kernel_rfl) (by omega) (by decide) rfl) (by intro n M a w hs; exact ⟨hs.boxCell (id := 288) (p := 1) rfl rfl, hcell _ _ _ hs⟩) ⟨⟨by kernel_rfl, by kernel_rfl⟩, ⟨by kernel_rfl, by kernel_rfl⟩, by kernel_rfl, by kernel_rfl⟩ (by decide) (by decide) (by decide) (by decide +kernel) fun a w hSw hs => ?_
 refine hoistT 9 (.map (some bm)) hs hp' rfl rfl rfl rfl (by decide +kernel) (by decide +kernel) (by decide +kernel) hSw (fun w' hw' => ex_move rfl (hs.val rfl)) rfl fun a hs => ?_
 refine hoistE 13 (fun σ' => σ' = _) hs rfl rfl (by decide +kernel) (Do.eff (Loc.lookV (id := 71) (c := 2) (kl := .string bRel) rfl rfl rfl rfl hT hE hz hkd (by kernel_rfl) (by kernel_rfl)) rfl rfl) (by rintro _ rfl a w hs; exact ⟨hs.boxCell (id := 288) (p := 1) rfl rfl, hcell _ _ _ hs⟩) ?_
 rintro _ rfl a w hSw hs
 refine hoistE 14 (fun σ' => σ' = _) hs rfl rfl (by decide +kernel) (Do.eff (Loc.build rfl rfl rfl rfl) rfl rfl) (by rintro _ rfl a w hs; exact ⟨hs.boxCell (id := 288) (p := 1) rfl rfl, hcell _ _ _ hs⟩) ?_
 rintro _ rfl a w hSw hs
 replace hs := hs.nilG 77 rfl
 refine hoistE 15 (fun σ' => σ' = _) hs rfl rfl (by decide +kernel) (Do.eff (Loc.litP rfl rfl rfl rfl rfl rfl rfl) rfl rfl) (by rintro _ rfl a w hs; exact ⟨hs.boxCell (id := 288) (p := 1) rfl rfl, hcell _ _ _ hs⟩) ?_
 rintro _ rfl a w hSw hs
 refine hoistE 16 (fun σ' => σ' = _) hs rfl rfl (by decide +kernel) (Do.eff (Do.appendP 289 rfl rfl rfl rfl rfl (by intro y hy; rw [List.mem_singleton.1 hy]; rfl) (by simp [rowsOf] <;> omega) (Nat.zero_lt_one)) rfl rfl) (by rintro _ rfl a w hs; exact ⟨hs.boxCell (id := 288) (p := 1) rfl rfl, hcell _ _ _ hs⟩) ?_
 rintro _ rfl a w hSw hs
 refine hoistT 17 (ptv b 0) hs hp' rfl rfl rfl rfl (by decide +kernel) (by decide +kernel) (by decide +kernel) hSw (fun w' hw' => ex_nil rfl (hs.val rfl)) rfl fun a hs => ?_
 refine hoistT 18 (ptv b (0 + 1)) hs hp' rfl rfl rfl rfl (by decide +kernel) (by decide +kernel) (by decide +kernel) hSw (fun w' hw' => ex_field rfl (hs.val rfl)) rfl fun a hs => ?_
 refine wpAnyH_done (by decide +kernel) ⟨_, hn _ (fun K hK => ?_), hs⟩ _
 refine Chain.pinR 79 79 rfl rfl fun xL' hxL => ?_
 ((try (first | intro K ms hms hK | intro K hK)); (first | apply Chain.st | apply Chain.stD); exact rfl; exact rfl; exact Do.storeB (id := 288) rfl rfl rfl rfl rfl rfl rfl rfl; exact rfl; exact rfl)
 refine Chain.giveO 79 289 rfl rfl ?_
 obtain ⟨bL', cL', rfl⟩ : ∃ bL' cL', xL' = slv bL' (([] : List LN).length + 1) cL' := by
  rcases hxL with h | ⟨bL', cL', h⟩
  ·exact absurd h (by simp)
  ·exact ⟨bL', cL', by rw [h]; simp [rowsOf]⟩
 refine Chain.sub ⟨[(1, .d (.v (.slice (some ⟨bw, pw, none⟩) n c))), (2, .d (.v (.bool first)))], [(288, boxO b 25 [.v (.int .i64 inn), .v (slv bL' (([] : List LN).length + 1) cL')]), (289, rowO (slv bL' (([] : List LN).length + 1) cL') 30 4 (rowsOf ⟨inn, [], some ⟨2, [], [], []⟩⟩ nil3 nil3 nil3)), (290, rowO nil3 27 1 []), (291, rowO nil3 119 3 []), (292, rowO nil3 31 1 [])]⟩ ⟨rfl, rfl, trivial⟩ ⟨rfl, rfl, rfl, rfl, rfl, trivial⟩ ?_
 by_cases ht0 : t.length = 0
 ·obtain rfl := List.length_eq_zero_iff.1 ht0
  cases first with
  | false =>
   refine wl ?_
   exact ⟨netP b (slv bL' (([] : List LN).length + 1) cL') nil3 nil3 nil3 ⟨inn, [], some ⟨2, [], [], []⟩⟩, [.d (.v (.bool true))], .inr ⟨_, (lineS_kind (by decide) (by decide)).trans (if_pos ⟨rfl, rfl⟩), rfl, _, _, _, _, ⟨.inr ⟨_, _, rfl⟩, fun h => absurd h (by simp)⟩, rfl⟩, rfl, ⟨.d rfl (.inl rfl), trivial⟩, netP_get rfl rfl rfl rfl rfl⟩
  | true =>
   refine wl ?_
   exact ⟨netP b (slv bL' (([] : List LN).length + 1) cL') nil3 nil3 nil3 ⟨inn, [], some ⟨2, [], [], []⟩⟩, [.d (.v (.bool false))], .inl ⟨(lineS_kind (k := 2) (by decide) (by decide)).trans (if_neg (by simp)), rfl⟩, rfl, ⟨.d rfl (.inl rfl), trivial⟩, netP_get rfl rfl rfl rfl rfl⟩
 ·refine wl ?_
  exact ⟨netP b (slv bL' (([] : List LN).length + 1) cL') nil3 nil3 nil3 ⟨inn, [], some ⟨2, [], [], []⟩⟩, [.d (.v (.bool false))], .inl ⟨(lineS_kind (k := 2) (by decide) (by decide)).trans (if_neg fun h => ht0 (by rw [h.1]; rfl)), rfl⟩, rfl, ⟨.d rfl (.inl rfl), trivial⟩, netP_get rfl rfl rfl rfl rfl⟩
set_option maxRecDepth 100000 in
set_option maxHeartbeats 4000000 in
theorem line0max (b : Nat) (inn : Int) (t : List (List UInt8)) (first : Bool) (hw : ∀ x ∈ t, x ≠ [] ∧ x.length ≤ 20000) (ht : t.length ≤ 1000000000) :
  FnO Tryz.prog 67 MaxL (netP b (.slice none 0 0) (.slice none 0 0) (.slice none 0 0) (.slice none 0 0) ⟨inn, [], none⟩) (NS.args b bMax t first) (lineQ b ⟨inn, [], none⟩ bMax t first) := by
 have _ := hw
 have _ := ht
 have hml : (bMax :: t).length = t.length + 1 := List.length_cons ..
 have hz : ∀ w, (zeroValue 3).run Tryz.prog w = .ok (.int .i64 0) w := fun w => by kernel_rfl
 have hT : (Tryz.prog).underlying 250 = some (.map 9 3) := by kernel_rfl
 have hE : (Tryz.prog).underlying 3 = some (.int .i64) := by kernel_rfl
 have hkd : Go.Maps.Keyed Tryz.prog 9 := Go.Maps.string_keyed (by kernel_rfl)
 refine FnO.of Tryz.func67 rfl (by kernel_rfl) Tryz.ntmps67 Tryz.results67 rfl rfl fun w0 S0 vs hS hv hKW => ?_
 obtain ⟨u, bw, pw, n, c, rfl, hu, hn0, hcell⟩ := words_told hS hv
 refine ⟨(1, .d (.v (.slice (some ⟨bw, pw, none⟩) n c))) :: entry 0 (NS.args b bMax t first), fun t v h => ?_, ?_⟩
 ·rw [get?_cons] at h
  by_cases e : 1 = t
  ·rw [if_pos e] at h
   cases h
   exact .inr ⟨_, e ▸ hu, rfl, rfl⟩
  ·rw [if_neg e] at h
   exact .inl h
 refine wl ?_
 ((try (first | intro K ms hms hK | intro K hK)); (first | apply Chain.go | apply Chain.goD); exact rfl; exact rfl; exact Loc.idxVo 0 rfl rfl rfl rfl (by omega))
 refine wl ?_
 ((try (first | intro K ms hms hK | intro K hK)); (first | apply Chain.go | apply Chain.goD); exact rfl; exact rfl; exact Loc.loadW rfl rfl rfl fun σ' β a w hi => hcell σ' a w (St.of hi))
 refine wl ?_
 ((try (first | intro K ms hms hK | intro K hK)); (first | apply Chain.go | apply Chain.goD); exact rfl; exact rfl; exact Loc.strEq (r := false) rfl rfl rfl (neT (m := bNet) (by decide)))
 refine wl ?_
 ((try (first | intro K ms hms hK | intro K hK)); (first | apply Chain.go | apply Chain.goD); exact rfl; exact rfl; exact Loc.strEq (r := false) rfl rfl rfl (neT (m := bAff) (by decide)))
 refine wl ?_
 ((try (first | intro K ms hms hK | intro K hK)); (first | apply Chain.go | apply Chain.goD); exact rfl; exact rfl; exact Loc.strEq (r := false) rfl rfl rfl (neT (m := bRel) (by decide)))
 refine wl ?_
 ((try (first | intro K ms hms hK | intro K hK)); (first | apply Chain.go | apply Chain.goD); exact rfl; exact rfl; exact Loc.strEq (r := true) rfl rfl rfl (eqT (m := bMax) rfl))
 refine wl ?_
 refine AC.drwS _ rfl (by kernel_rfl) (by decide +kernel) 19 rfl fun Qc hp hn a w hs => ?_
 refine ⟨fun w => w.cell? ⟨b, 1, none⟩ = some (.slice none 0 0) ∧ w.cell? ⟨bw, pw, none⟩ = some (.string (tx bMax)), ?_⟩
 have hp' : ∀ c σ, ¬ Qc (.panic c) σ := fun c σ h => hp c σ h
 have hSw : (fun w : World => w.cell? ⟨b, 1, none⟩ = some (.slice none 0 0) ∧ w.cell? ⟨bw, pw, none⟩ = some (.string (tx bMax))) w := ⟨hs.boxCell (id := 288) (p := 1) rfl rfl, hcell _ _ _ hs⟩
 refine hoistT 0 (ptv b 0) hs hp' rfl rfl rfl rfl (by decide +kernel) (by decide +kernel) (by decide +kernel) hSw (fun w' hw' => ex_move rfl (hs.val rfl)) rfl fun a hs => ?_
 refine hoistT 1 (ptv b 0) hs hp' rfl rfl rfl rfl (by decide +kernel) (by decide +kernel) (by decide +kernel) hSw (fun w' hw' => ex_move rfl (hs.val rfl)) rfl fun a hs => ?_
 refine hoistT 2 (ptv b 0) hs hp' rfl rfl rfl rfl (by decide +kernel) (by decide +kernel) (by decide +kernel) hSw (fun w' hw' => ex_nil rfl (hs.val rfl)) rfl fun a hs => ?_
 refine hoistT 3 (ptv b (0 + 1)) hs hp' rfl rfl rfl rfl (by decide +kernel) (by decide +kernel) (by decide +kernel) hSw (fun w' hw' => ex_field rfl (hs.val rfl)) rfl fun a hs => ?_
 refine hoistT 4 (.slice none 0 0) hs hp' rfl rfl rfl rfl (by decide +kernel) (by decide +kernel) (by decide +kernel) hSw (fun w' hw' => ex_load rfl (hs.val rfl) hw'.1) rfl fun a hs => ?_
 refine hoistT 10 (.slice (some ⟨bw, pw, none⟩) n c) hs hp' rfl rfl rfl rfl (by decide +kernel) (by decide +kernel) (by decide +kernel) hSw (fun w' hw' => ex_move rfl (hs.val rfl)) rfl fun a hs => ?_
 refine hoistT 11 (ptv bw (pw + 0 * 1)) hs hp' rfl rfl rfl rfl (by decide +kernel) (by decide +kernel) (by decide +kernel) hSw (fun w' hw' => ex_idx 0 rfl (hs.val rfl) rfl (by omega)) rfl fun a hs => ?_
 refine hoistT 12 (.string (tx bMax)) hs hp' rfl rfl rfl rfl (by decide +kernel) (by decide +kernel) (by decide +kernel) hSw (fun w' hw' => ex_load rfl (hs.val rfl) hw'.2) rfl fun a hs => ?_
 refine hoistE 5 _ hs rfl rfl (by decide +kernel) (mkMap_eff 9 3 rfl rfl rfl rfl) (by rintro _ ⟨bm, rfl⟩ a w hs; exact ⟨hs.boxCell (id := 288) (p := 1) rfl rfl, hcell _ _ _ hs⟩) ?_
 rintro _ ⟨bm, rfl⟩ a w hSw hs
 refine hoistM (id := 71) (b := bm) 6 7 8 (.string bAff) (.string bRel) (.string bMax) 1 2 3 (.map [(.string bAff, .lit (.int .i64 1)), (.string bMax, .lit (.int .i64 3)), (.string bRel, .lit (.int .i64 2))]) hs rfl rfl rfl rfl rfl rfl (fun n M hn => putI_eff (kv := .string ⟨#[97, 102, 102, 105, 110, 101]⟩) rfl rfl rfl rfl hT hE hkd (by kernel_rfl) (by omega) (by decide) rfl) (fun n M hn => putI_eff (kv := .string ⟨#[114, 101, 108, 117]⟩) rfl rfl rfl rfl hT hE hkd (by kernel_rfl) (by omega) (by decide) rfl) (fun n M hn => putI_eff (kv := .string ⟨#[109, 97, 120]⟩) rfl rfl rfl rfl hT hE hkd (by kernel_rfl) (by omega) (by decide) rfl) (by intro n M a w hs; exact ⟨hs.boxCell (id := 288) (p := 1) rfl rfl, hcell _ _ _ hs⟩) ⟨⟨by kernel_rfl, by kernel_rfl⟩, ⟨by kernel_rfl, by kernel_rfl⟩, by kernel_rfl, by kernel_rfl⟩ (by decide) (by decide) (by decide) (by decide +kernel) fun a w hSw hs => ?_
 refine hoistT 9 (.map (some bm)) hs hp' rfl rfl rfl rfl (by decide +kernel) (by decide +kernel) (by decide +kernel) hSw (fun w' hw' => ex_move rfl (hs.val rfl)) rfl fun a hs => ?_
 refine hoistE 13 (fun σ' => σ' = _) hs rfl rfl (by decide +kernel) (Do.eff (Loc.lookV (id := 71) (c := 3) (kl := .string bMax) rfl rfl rfl rfl hT hE hz hkd (by kernel_rfl) (by kernel_rfl)) rfl rfl) (by rintro _ rfl a w hs; exact ⟨hs.boxCell (id := 288) (p := 1) rfl rfl, hcell _ _ _ hs⟩) ?_
 rintro _ rfl a w hSw hs
 refine hoistE 14 (fun σ' => σ' = _) hs rfl rfl (by decide +kernel) (Do.eff (Loc.build rfl rfl rfl rfl) rfl rfl) (by rintro _ rfl a w hs; exact ⟨hs.boxCell (id := 288) (p := 1) rfl rfl, hcell _ _ _ hs⟩) ?_
 rintro _ rfl a w hSw hs
 replace hs := hs.nilG 77 rfl
 refine hoistE 15 (fun σ' => σ' = _) hs rfl rfl (by decide +kernel) (Do.eff (Loc.litP rfl rfl rfl rfl rfl rfl rfl) rfl rfl) (by rintro _ rfl a w hs; exact ⟨hs.boxCell (id := 288) (p := 1) rfl rfl, hcell _ _ _ hs⟩) ?_
 rintro _ rfl a w hSw hs
 refine hoistE 16 (fun σ' => σ' = _) hs rfl rfl (by decide +kernel) (Do.eff (Do.appendP 289 rfl rfl rfl rfl rfl (by intro y hy; rw [List.mem_singleton.1 hy]; rfl) (by simp [rowsOf] <;> omega) (Nat.zero_lt_one)) rfl rfl) (by rintro _ rfl a w hs; exact ⟨hs.boxCell (id := 288) (p := 1) rfl rfl, hcell _ _ _ hs⟩) ?_
 rintro _ rfl a w hSw hs
 refine hoistT 17 (ptv b 0) hs hp' rfl rfl rfl rfl (by decide +kernel) (by decide +kernel) (by decide +kernel) hSw (fun w' hw' => ex_nil rfl (hs.val rfl)) rfl fun a hs => ?_
 refine hoistT 18 (ptv b (0 + 1)) hs hp' rfl rfl rfl rfl (by decide +kernel) (by decide +kernel) (by decide +kernel) hSw (fun w' hw' => ex_field rfl (hs.val rfl)) rfl fun a hs => ?_
 refine wpAnyH_done (by decide +kernel) ⟨_, hn _ (fun K hK => ?_), hs⟩ _
 refine Chain.pinR 79 79 rfl rfl fun xL' hxL => ?_
 ((try (first | intro K ms hms hK | intro K hK)); (first | apply Chain.st | apply Chain.stD); exact rfl; exact rfl; exact Do.storeB (id := 288) rfl rfl rfl rfl rfl rfl rfl rfl; exact rfl; exact rfl)
 refine Chain.giveO 79 289 rfl rfl ?_
 obtain ⟨bL', cL', rfl⟩ : ∃ bL' cL', xL' = slv bL' (([] : List LN).length + 1) cL' := by
  rcases hxL with h | ⟨bL', cL', h⟩
  ·exact absurd h (by simp)
  ·exact ⟨bL', cL', by rw [h]; simp [rowsOf]⟩
 refine Chain.sub ⟨[(1, .d (.v (.slice (some ⟨bw, pw, none⟩) n c))), (2, .d (.v (.bool first)))], [(288, boxO b 25 [.v (.int .i64 inn), .v (slv bL' (([] : List LN).length + 1) cL')]), (289, rowO (slv bL' (([] : List LN).length + 1) cL') 30 4 (rowsOf ⟨inn, [], some ⟨3, [], [], []⟩⟩ nil3 nil3 nil3)), (290, rowO nil3 27 1 []), (291, rowO nil3 119 3 []), (292, rowO nil3 31 1 [])]⟩ ⟨rfl, rfl, trivial⟩ ⟨rfl, rfl, rfl, rfl, rfl, trivial⟩ ?_
 by_cases ht0 : t.length = 0
 ·obtain rfl := List.length_eq_zero_iff.1 ht0
  cases first with
  | false =>
   refine wl ?_
   exact ⟨netP b (slv bL' (([] : List LN).length + 1) cL') nil3 nil3 nil3 ⟨inn, [], some ⟨3, [], [], []⟩⟩, [.d (.v (.bool true))], .inr ⟨_, (lineS_kind (by decide) (by decide)).trans (if_pos ⟨rfl, rfl⟩), rfl, _, _, _, _, ⟨.inr ⟨_, _, rfl⟩, fun h => absurd h (by simp)⟩, rfl⟩, rfl, ⟨.d rfl (.inl rfl), trivial⟩, netP_get rfl rfl rfl rfl rfl⟩
  | true =>
   refine wl ?_
   exact ⟨netP b (slv bL' (([] : List LN).length + 1) cL') nil3 nil3 nil3 ⟨inn, [], some ⟨3, [], [], []⟩⟩, [.d (.v (.bool false))], .inl ⟨(lineS_kind (k := 3) (by decide) (by decide)).trans (if_neg (by simp)), rfl⟩, rfl, ⟨.d rfl (.inl rfl), trivial⟩, netP_get rfl rfl rfl rfl rfl⟩
 ·refine wl ?_
  exact ⟨netP b (slv bL' (([] : List LN).length + 1) cL') nil3 nil3 nil3 ⟨inn, [], some ⟨3, [], [], []⟩⟩, [.d (.v (.bool false))], .inl ⟨(lineS_kind (k := 3) (by decide) (by decide)).trans (if_neg fun h => ht0 (by rw [h.1]; rfl)), rfl⟩, rfl, ⟨.d rfl (.inl rfl), trivial⟩, netP_get rfl rfl rfl rfl rfl⟩
set_option maxRecDepth 100000 in
set_option maxHeartbeats 4000000 in
theorem line1aff (b : Nat) (xW xB xG : Value) (inn : Int) (ls : List LN) (l : LN) (t : List (List UInt8)) (first : Bool) (bL cL : Nat) (hls : ls.length ≤ 1000000) (hlw : l.W.length ≤ 1000000) (hlb : l.B.length ≤ 1000000) (hlg : l.G.length ≤ 1000000) (hw : ∀ x ∈ t, x ≠ [] ∧ x.length ≤ 20000) (ht : t.length ≤ 1000000000) :
  FnO Tryz.prog 67 MaxL (netP b (slv bL (ls.length + 1) cL) xW xB xG ⟨inn, ls, some l⟩) (NS.args b bAff t first) (lineQ b ⟨inn, ls, some l⟩ bAff t first) := by
 have _ := hw
 have _ := ht
 have _ := hls
 have _ := hlw
 have _ := hlb
 have _ := hlg
 have hml : (bAff :: t).length = t.length + 1 := List.length_cons ..
 have hz : ∀ w, (zeroValue 3).run Tryz.prog w = .ok (.int .i64 0) w := fun w => by kernel_rfl
 have hT : (Tryz.prog).underlying 250 = some (.map 9 3) := by kernel_rfl
 have hE : (Tryz.prog).underlying 3 = some (.int .i64) := by kernel_rfl
 have hkd : Go.Maps.Keyed Tryz.prog 9 := Go.Maps.string_keyed (by kernel_rfl)
 refine FnO.of Tryz.func67 rfl (by kernel_rfl) Tryz.ntmps67 Tryz.results67 rfl rfl fun w0 S0 vs hS hv hKW => ?_
 obtain ⟨u, bw, pw, n, c, rfl, hu, hn0, hcell⟩ := words_told hS hv
 refine ⟨(1, .d (.v (.slice (some ⟨bw, pw, none⟩) n c))) :: entry 0 (NS.args b bAff t first), fun t v h => ?_, ?_⟩
 ·rw [get?_cons] at h
  by_cases e : 1 = t
  ·rw [if_pos e] at h
   cases h
   exact .inr ⟨_, e ▸ hu, rfl, rfl⟩
  ·rw [if_neg e] at h
   exact .inl h
 refine wl ?_
 refine AC.drwL _ rfl (by kernel_rfl) (by decide +kernel) ?_
 refine wl ?_
 ((try (first | intro K ms hms hK | intro K hK)); (first | apply Chain.go | apply Chain.goD); exact rfl; exact rfl; exact Loc.idxV ls.length rfl rfl rfl (by omega) (by omega))
 refine wl ?_
 refine wl ?_
 ((try (first | intro K ms hms hK | intro K hK)); (first | apply Chain.go | apply Chain.goD); exact rfl; exact rfl; exact Loc.idxVo 0 rfl rfl rfl rfl (by omega))
 refine wl ?_
 ((try (first | intro K ms hms hK | intro K hK)); (first | apply Chain.go | apply Chain.goD); exact rfl; exact rfl; exact Loc.loadW rfl rfl rfl fun σ' β a w hi => hcell σ' a w (St.of hi))
 refine wl ?_
 ((try (first | intro K ms hms hK | intro K hK)); (first | apply Chain.go | apply Chain.goD); exact rfl; exact rfl; exact Loc.strEq (r := false) rfl rfl rfl (neT (m := bNet) (by decide)))
 refine wl ?_
 ((try (first | intro K ms hms hK | intro K hK)); (first | apply Chain.go | apply Chain.goD); exact rfl; exact rfl; exact Loc.strEq (r := true) rfl rfl rfl (eqT (m := bAff) rfl))
 refine wl ?_
 refine AC.drwS _ rfl (by kernel_rfl) (by decide +kernel) 19 rfl fun Qc hp hn a w hs => ?_
 refine ⟨fun w => w.cell? ⟨b, 1, none⟩ = some (slv bL (ls.length + 1) cL) ∧ w.cell? ⟨bw, pw, none⟩ = some (.string (tx bAff)), ?_⟩
 have hp' : ∀ c σ, ¬ Qc (.panic c) σ := fun c σ h => hp c σ h
 have hSw : (fun w : World => w.cell? ⟨b, 1, none⟩ = some (slv bL (ls.length + 1) cL) ∧ w.cell? ⟨bw, pw, none⟩ = some (.string (tx bAff))) w := ⟨hs.boxCell (id := 288) (p := 1) rfl rfl, hcell _ _ _ hs⟩
 refine hoistT 0 (ptv b 0) hs hp' rfl rfl rfl rfl (by decide +kernel) (by decide +kernel) (by decide +kernel) hSw (fun w' hw' => ex_move rfl (hs.val rfl)) rfl fun a hs => ?_
 refine hoistT 1 (ptv b 0) hs hp' rfl rfl rfl rfl (by decide +kernel) (by decide +kernel) (by decide +kernel) hSw (fun w' hw' => ex_move rfl (hs.val rfl)) rfl fun a hs => ?_
 refine hoistT 2 (ptv b 0) hs hp' rfl rfl rfl rfl (by decide +kernel) (by decide +kernel) (by decide +kernel) hSw (fun w' hw' => ex_nil rfl (hs.val rfl)) rfl fun a hs => ?_
 refine hoistT 3 (ptv b (0 + 1)) hs hp' rfl rfl rfl rfl (by decide +kernel) (by decide +kernel) (by decide +kernel) hSw (fun w' hw' => ex_field rfl (hs.val rfl)) rfl fun a hs => ?_
 refine hoistT 4 (slv bL (ls.length + 1) cL) hs hp' rfl rfl rfl rfl (by decide +kernel) (by decide +kernel) (by decide +kernel) hSw (fun w' hw' => ex_load rfl (hs.val rfl) hw'.1) rfl fun a hs => ?_
 refine hoistT 10 (.slice (some ⟨bw, pw, none⟩) n c) hs hp' rfl rfl rfl rfl (by decide +kernel) (by decide +kernel) (by decide +kernel) hSw (fun w' hw' => ex_move rfl (hs.val rfl)) rfl fun a hs => ?_
 refine hoistT 11 (ptv bw (pw + 0 * 1)) hs hp' rfl rfl rfl rfl (by decide +kernel) (by decide +kernel) (by decide +kernel) hSw (fun w' hw' => ex_idx 0 rfl (hs.val rfl) rfl (by omega)) rfl fun a hs => ?_
 refine hoistT 12 (.string (tx bAff)) hs hp' rfl rfl rfl rfl (by decide +kernel) (by decide +kernel) (by decide +kernel) hSw (fun w' hw' => ex_load rfl (hs.val rfl) hw'.2) rfl fun a hs => ?_
 refine hoistE 5 _ hs rfl rfl (by decide +kernel) (mkMap_eff 9 3 rfl rfl rfl rfl) (by rintro _ ⟨bm, rfl⟩ a w hs; exact ⟨hs.boxCell (id := 288) (p := 1) rfl rfl, hcell _ _ _ hs⟩) ?_
 rintro _ ⟨bm, rfl⟩ a w hSw hs
 refine hoistM (id := 71) (b := bm) 6 7 8 (.string bAff) (.string bRel) (.string bMax) 1 2 3 (.map [(.string bAff, .lit (.int .i64 1)), (.string bMax, .lit (.int .i64 3)), (.string bRel, .lit (.int .i64 2))]) hs rfl rfl rfl rfl rfl rfl (fun n M hn => putI_eff (kv := .string ⟨#[97, 102, 102, 105, 110, 101]⟩) rfl rfl rfl rfl hT hE hkd (by kernel_rfl) (by omega) (by decide) rfl) (fun n M hn => putI_eff (kv := .string ⟨#[114, 101, 108, 117]⟩) rfl rfl rfl rfl hT hE hkd (by kernel_rfl) (by omega) (by decide) rfl) (fun n M hn => putI_eff (kv := .string ⟨#[109, 97, 120]⟩) rfl rfl rfl rfl hT hE hkd (by kernel_rfl) (by omega) (by decide) rfl) (by intro n M a w hs; exact ⟨hs.boxCell (id := 288) (p := 1) rfl rfl, hcell _ _ _ hs⟩) ⟨⟨by kernel_rfl, by kernel_rfl⟩, ⟨by kernel_rfl, by kernel_rfl⟩, by kernel_rfl, by kernel_rfl⟩ (by decide) (by decide) (by decide) (by decide +kernel) fun a w hSw hs => ?_
 refine hoistT 9 (.map (some bm)) hs hp' rfl rfl rfl rfl (by decide +kernel) (by decide +kernel) (by decide +kernel) hSw (fun w' hw' => ex_move rfl (hs.val rfl)) rfl fun a hs => ?_
 refine hoistE 13 (fun σ' => σ' = _) hs rfl rfl (by decide +kernel) (Do.eff (Loc.lookV (id := 71) (c := 1) (kl := .string bAff) rfl rfl rfl rfl hT hE hz hkd (by kernel_rfl) (by kernel_rfl)) rfl rfl) (by rintro _ rfl a w hs; exact ⟨hs.boxCell (id := 288) (p := 1) rfl rfl, hcell _ _ _ hs⟩) ?_
 rintro _ rfl a w hSw hs
 refine hoistE 14 (fun σ' => σ' = _) hs rfl rfl (by decide +kernel) (Do.eff (Loc.build rfl rfl rfl rfl) rfl rfl) (by rintro _ rfl a w hs; exact ⟨hs.boxCell (id := 288) (p := 1) rfl rfl, hcell _ _ _ hs⟩) ?_
 rintro _ rfl a w hSw hs
 replace hs := hs.nilG 77 rfl
 refine hoistE 15 (fun σ' => σ' = _) hs rfl rfl (by decide +kernel) (Do.eff (Loc.litP rfl rfl rfl rfl rfl rfl rfl) rfl rfl) (by rintro _ rfl a w hs; exact ⟨hs.boxCell (id := 288) (p := 1) rfl rfl, hcell _ _ _ hs⟩) ?_
 rintro _ rfl a w hSw hs
 refine hoistE 16 (fun σ' => σ' = _) hs rfl rfl (by decide +kernel) (Do.eff (Do.appendP 289 rfl rfl rfl rfl rfl (by intro y hy; rw [List.mem_singleton.1 hy]; rfl) (by simp [rowsOf] <;> omega) (Nat.zero_lt_one)) rfl rfl) (by rintro _ rfl a w hs; exact ⟨hs.boxCell (id := 288) (p := 1) rfl rfl, hcell _ _ _ hs⟩) ?_
 rintro _ rfl a w hSw hs
 refine hoistT 17 (ptv b 0) hs hp' rfl rfl rfl rfl (by decide +kernel) (by decide +kernel) (by decide +kernel) hSw (fun w' hw' => ex_nil rfl (hs.val rfl)) rfl fun a hs => ?_
 refine hoistT 18 (ptv b (0 + 1)) hs hp' rfl rfl rfl rfl (by decide +kernel) (by decide +kernel) (by decide +kernel) hSw (fun w' hw' => ex_field rfl (hs.val rfl)) rfl fun a hs => ?_
 refine wpAnyH_done (by decide +kernel) ⟨_, hn _ (fun K hK => ?_), hs⟩ _
 refine Chain.pinR 79 79 rfl rfl fun xL' hxL => ?_
 ((try (first | intro K ms hms hK | intro K hK)); (first | apply Chain.st | apply Chain.stD); exact rfl; exact rfl; exact Do.storeB (id := 288) rfl rfl rfl rfl rfl rfl rfl rfl; exact rfl; exact rfl)
 refine Chain.frzIn 79 290 (rowR xL' _ 4 (ls.map enLN ++ [[D.v (.int .i64 l.kind), D.l (lastW ⟨inn, ls, some l⟩), D.v xB, D.v xG]] ++ [[D.v (.int .i64 1), D.v nil3, D.v nil3, D.v nil3]])) (by decide) rfl rfl (rowR_stable _ _ _ _) (fun S w h0 hb h => rowR_putM (c := [D.v (.int .i64 l.kind), D.v xW, D.v xB, D.v xG]) (j := 1) rfl S w h0 hb h) ?_
 refine Chain.frzIn 79 291 (rowR xL' _ 4 (ls.map enLN ++ [[D.v (.int .i64 l.kind), D.l (lastW ⟨inn, ls, some l⟩), D.l (lastB ⟨inn, ls, some l⟩), D.v xG]] ++ [[D.v (.int .i64 1), D.v nil3, D.v nil3, D.v nil3]])) (by decide) rfl rfl (rowR_stable _ _ _ _) (fun S w h0 hb h => rowR_putM (c := [D.v (.int .i64 l.kind), D.l (lastW ⟨inn, ls, some l⟩), D.v xB, D.v xG]) (j := 2) rfl S w h0 hb h) ?_
 refine Chain.frzIn 79 292 (rowR xL' _ 4 (rowsOf ⟨inn, ls ++ [l], some ⟨1, [], [], []⟩⟩ nil3 nil3 nil3)) (by decide) rfl rfl (rowR_stable _ _ _ _) (fun S w h0 hb h => by rw [← rows_end]; exact rowR_putM (c := [D.v (.int .i64 l.kind), D.l (lastW ⟨inn, ls, some l⟩), D.l (lastB ⟨inn, ls, some l⟩), D.v xG]) (j := 3) rfl S w h0 hb h) ?_
 refine Chain.giveO 79 289 rfl rfl ?_
 refine Chain.sub ⟨[(1, .d (.v (.slice (some ⟨bw, pw, none⟩) n c))), (2, .d (.v (.bool first)))], [(288, boxO b 25 [.v (.int .i64 inn), .v xL']), (289, rowO xL' 30 4 (rowsOf ⟨inn, ls ++ [l], some ⟨1, [], [], []⟩⟩ nil3 nil3 nil3)), (290, .dead), (291, .dead), (292, .dead)]⟩ ⟨rfl, rfl, trivial⟩ ⟨rfl, rfl, rfl, rfl, rfl, trivial⟩ ?_
 refine Chain.newO 101 27 1 rfl ?_
 refine Chain.giveO 101 290 rfl rfl ?_
 refine Chain.newO 102 119 3 rfl ?_
 refine Chain.giveO 102 291 rfl rfl ?_
 refine Chain.newO 103 31 1 rfl ?_
 refine Chain.giveO 103 292 rfl rfl ?_
 obtain ⟨bL', cL', rfl⟩ : ∃ bL' cL', xL' = slv bL' ((ls ++ [l]).length + 1) cL' := by
  rcases hxL with h | ⟨bL', cL', h⟩
  ·exact absurd h (by simp)
  ·exact ⟨bL', cL', by rw [h]; simp [rowsOf]⟩
 refine Chain.sub ⟨[(1, .d (.v (.slice (some ⟨bw, pw, none⟩) n c))), (2, .d (.v (.bool first)))], [(288, boxO b 25 [.v (.int .i64 inn), .v (slv bL' ((ls ++ [l]).length + 1) cL')]), (289, rowO (slv bL' ((ls ++ [l]).length + 1) cL') 30 4 (rowsOf ⟨inn, ls ++ [l], some ⟨1, [], [], []⟩⟩ nil3 nil3 nil3)), (290, rowO nil3 27 1 []), (291, rowO nil3 119 3 []), (292, rowO nil3 31 1 [])]⟩ ⟨rfl, rfl, trivial⟩ ⟨rfl, rfl, rfl, rfl, rfl, trivial⟩ ?_
 by_cases ht0 : t.length = 0
 ·obtain rfl := List.length_eq_zero_iff.1 ht0
  cases first with
  | false =>
   refine wl ?_
   exact ⟨netP b (slv bL' ((ls ++ [l]).length + 1) cL') nil3 nil3 nil3 ⟨inn, ls ++ [l], some ⟨1, [], [], []⟩⟩, [.d (.v (.bool true))], .inr ⟨_, (lineS_kind (by decide) (by decide)).trans (if_pos ⟨rfl, rfl⟩), rfl, _, _, _, _, ⟨.inr ⟨_, _, rfl⟩, fun h => absurd h (by simp)⟩, rfl⟩, rfl, ⟨.d rfl (.inl rfl), trivial⟩, netP_get rfl rfl rfl rfl rfl⟩
  | true =>
   refine wl ?_
   exact ⟨netP b (slv bL' ((ls ++ [l]).length + 1) cL') nil3 nil3 nil3 ⟨inn, ls ++ [l], some ⟨1, [], [], []⟩⟩, [.d (.v (.bool false))], .inl ⟨(lineS_kind (k := 1) (by decide) (by decide)).trans (if_neg (by simp)), rfl⟩, rfl, ⟨.d rfl (.inl rfl), trivial⟩, netP_get rfl rfl rfl rfl rfl⟩
 ·refine wl ?_
  exact ⟨netP b (slv bL' ((ls ++ [l]).length + 1) cL') nil3 nil3 nil3 ⟨inn, ls ++ [l], some ⟨1, [], [], []⟩⟩, [.d (.v (.bool false))], .inl ⟨(lineS_kind (k := 1) (by decide) (by decide)).trans (if_neg fun h => ht0 (by rw [h.1]; rfl)), rfl⟩, rfl, ⟨.d rfl (.inl rfl), trivial⟩, netP_get rfl rfl rfl rfl rfl⟩
set_option maxRecDepth 100000 in
set_option maxHeartbeats 4000000 in
theorem line1rel (b : Nat) (xW xB xG : Value) (inn : Int) (ls : List LN) (l : LN) (t : List (List UInt8)) (first : Bool) (bL cL : Nat) (hls : ls.length ≤ 1000000) (hlw : l.W.length ≤ 1000000) (hlb : l.B.length ≤ 1000000) (hlg : l.G.length ≤ 1000000) (hw : ∀ x ∈ t, x ≠ [] ∧ x.length ≤ 20000) (ht : t.length ≤ 1000000000) :
  FnO Tryz.prog 67 MaxL (netP b (slv bL (ls.length + 1) cL) xW xB xG ⟨inn, ls, some l⟩) (NS.args b bRel t first) (lineQ b ⟨inn, ls, some l⟩ bRel t first) := by
 have _ := hw
 have _ := ht
 have _ := hls
 have _ := hlw
 have _ := hlb
 have _ := hlg
 have hml : (bRel :: t).length = t.length + 1 := List.length_cons ..
 have hz : ∀ w, (zeroValue 3).run Tryz.prog w = .ok (.int .i64 0) w := fun w => by kernel_rfl
 have hT : (Tryz.prog).underlying 250 = some (.map 9 3) := by kernel_rfl
 have hE : (Tryz.prog).underlying 3 = some (.int .i64) := by kernel_rfl
 have hkd : Go.Maps.Keyed Tryz.prog 9 := Go.Maps.string_keyed (by kernel_rfl)
 refine FnO.of Tryz.func67 rfl (by kernel_rfl) Tryz.ntmps67 Tryz.results67 rfl rfl fun w0 S0 vs hS hv hKW => ?_
 obtain ⟨u, bw, pw, n, c, rfl, hu, hn0, hcell⟩ := words_told hS hv
 refine ⟨(1, .d (.v (.slice (some ⟨bw, pw, none⟩) n c))) :: entry 0 (NS.args b bRel t first), fun t v h => ?_, ?_⟩
 ·rw [get?_cons] at h
  by_cases e : 1 = t
  ·rw [if_pos e] at h
   cases h
   exact .inr ⟨_, e ▸ hu, rfl, rfl⟩
  ·rw [if_neg e] at h
   exact .inl h
 refine wl ?_
 refine AC.drwL _ rfl (by kernel_rfl) (by decide +kernel) ?_
 refine wl ?_
 ((try (first | intro K ms hms hK | intro K hK)); (first | apply Chain.go | apply Chain.goD); exact rfl; exact rfl; exact Loc.idxV ls.length rfl rfl rfl (by omega) (by omega))
 refine wl ?_
 refine wl ?_
 ((try (first | intro K ms hms hK | intro K hK)); (first | apply Chain.go | apply Chain.goD); exact rfl; exact rfl; exact Loc.idxVo 0 rfl rfl rfl rfl (by omega))
 refine wl ?_
 ((try (first | intro K ms hms hK | intro K hK)); (first | apply Chain.go | apply Chain.goD); exact rfl; exact rfl; exact Loc.loadW rfl rfl rfl fun σ' β a w hi => hcell σ' a w (St.of hi))
 refine wl ?_
 ((try (first | intro K ms hms hK | intro K hK)); (first | apply Chain.go | apply Chain.goD); exact rfl; exact rfl; exact Loc.strEq (r := false) rfl rfl rfl (neT (m := bNet) (by decide)))
 refine wl ?_
 ((try (first | intro K ms hms hK | intro K hK)); (first | apply Chain.go | apply Chain.goD); exact rfl; exact rfl; exact Loc.strEq (r := false) rfl rfl rfl (neT (m := bAff) (by decide)))
 refine wl ?_
 ((try (first | intro K ms hms hK | intro K hK)); (first | apply Chain.go | apply Chain.goD); exact rfl; exact rfl; exact Loc.strEq (r := true) rfl rfl rfl (eqT (m := bRel) rfl))
 refine wl ?_
 refine AC.drwS _ rfl (by kernel_rfl) (by decide +kernel) 19 rfl fun Qc hp hn a w hs => ?_
 refine ⟨fun w => w.cell? ⟨b, 1, none⟩ = some (slv bL (ls.length + 1) cL) ∧ w.cell? ⟨bw, pw, none⟩ = some (.string (tx bRel)), ?_⟩
 have hp' : ∀ c σ, ¬ Qc (.panic c) σ := fun c σ h => hp c σ h
 have hSw : (fun w : World => w.cell? ⟨b, 1, none⟩ = some (slv bL (ls.length + 1) cL) ∧ w.cell? ⟨bw, pw, none⟩ = some (.string (tx bRel))) w := ⟨hs.boxCell (id := 288) (p := 1) rfl rfl, hcell _ _ _ hs⟩
 refine hoistT 0 (ptv b 0) hs hp' rfl rfl rfl rfl (by decide +kernel) (by decide +kernel) (by decide +kernel) hSw (fun w' hw' => ex_move rfl (hs.val rfl)) rfl fun a hs => ?_
 refine hoistT 1 (ptv b 0) hs hp' rfl rfl rfl rfl (by decide +kernel) (by decide +kernel) (by decide +kernel) hSw (fun w' hw' => ex_move rfl (hs.val rfl)) rfl fun a hs => ?_
 refine hoistT 2 (ptv b 0) hs hp' rfl rfl rfl rfl (by decide +kernel) (by decide +kernel) (by decide +kernel) hSw (fun w' hw' => ex_nil rfl (hs.val rfl)) rfl fun a hs => ?_
 refine hoistT 3 (ptv b (0 + 1)) hs hp' rfl rfl rfl rfl (by decide +kernel) (by decide +kernel) (by decide +kernel) hSw (fun w' hw' => ex_field rfl (hs.val rfl)) rfl fun a hs => ?_
 refine hoistT 4 (slv bL (ls.length + 1) cL) hs hp' rfl rfl rfl rfl (by decide +kernel) (by decide +kernel) (by decide +kernel) hSw (fun w' hw' => ex_load rfl (hs.val rfl) hw'.1) rfl fun a hs => ?_
 refine hoistT 10 (.slice (some ⟨bw, pw, none⟩) n c) hs hp' rfl rfl rfl rfl (by decide +kernel) (by decide +kernel) (by decide +kernel) hSw (fun w' hw' => ex_move rfl (hs.val rfl)) rfl fun a hs => ?_
 refine hoistT 11 (ptv bw (pw + 0 * 1)) hs hp' rfl rfl rfl rfl (by decide +kernel) (by decide +kernel) (by decide +kernel) hSw (fun w' hw' => ex_idx 0 rfl (hs.val rfl) rfl (by omega)) rfl fun a hs => ?_
 refine hoistT 12 (.string (tx bRel)) hs hp' rfl rfl rfl rfl (by decide +kernel) (by decide +kernel) (by decide +kernel) hSw (fun w' hw' => ex_load rfl (hs.val rfl) hw'.2) rfl fun a hs => ?_
 refine hoistE 5 _ hs rfl rfl (by decide +kernel) (mkMap_eff 9 3 rfl rfl rfl rfl) (by rintro _ ⟨bm, rfl⟩ a w hs; exact ⟨hs.boxCell (id := 288) (p := 1) rfl rfl, hcell _ _ _ hs⟩) ?_
 rintro _ ⟨bm, rfl⟩ a w hSw hs
 refine hoistM (id := 71) (b := bm) 6 7 8 (.string bAff) (.string bRel) (.string bMax) 1 2 3 (.map [(.string bAff, .lit (.int .i64 1)), (.string bMax, .lit (.int .i64 3)), (.string bRel, .lit (.int .i64 2))]) hs rfl rfl rfl rfl rfl rfl (fun n M hn => putI_eff (kv := .string ⟨#[97, 102, 102, 105, 110, 101]⟩) rfl rfl rfl rfl hT hE hkd (by kernel_rfl) (by omega) (by decide) rfl) (fun n M hn => putI_eff (kv := .string ⟨#[114, 101, 108, 117]⟩) rfl rfl rfl rfl hT hE hkd (by kernel_rfl) (by omega) (by decide) rfl) (fun n M hn => putI_eff (kv := .string ⟨#[109, 97, 120]⟩) rfl rfl rfl rfl hT hE hkd (by kernel_rfl) (by omega) (by decide) rfl) (by intro n M a w hs; exact ⟨hs.boxCell (id := 288) (p := 1) rfl rfl, hcell _ _ _ hs⟩) ⟨⟨by kernel_rfl, by kernel_rfl⟩, ⟨by kernel_rfl, by kernel_rfl⟩, by kernel_rfl, by kernel_rfl⟩ (by decide) (by decide) (by decide) (by decide +kernel) fun a w hSw hs => ?_
 refine hoistT 9 (.map (some bm)) hs hp' rfl rfl rfl rfl (by decide +kernel) (by decide +kernel) (by decide +kernel) hSw (fun w' hw' => ex_move rfl (hs.val rfl)) rfl fun a hs => ?_
 refine hoistE 13 (fun σ' => σ' = _) hs rfl rfl (by decide +kernel) (Do.eff (Loc.lookV (id := 71) (c := 2) (kl := .string bRel) rfl rfl rfl rfl hT hE hz hkd (by kernel_rfl) (by kernel_rfl)) rfl rfl) (by rintro _ rfl a w hs; exact ⟨hs.boxCell (id := 288) (p := 1) rfl rfl, hcell _ _ _ hs⟩) ?_
 rintro _ rfl a w hSw hs
 refine hoistE 14 (fun σ' => σ' = _) hs rfl rfl (by decide +kernel) (Do.eff (Loc.build rfl rfl rfl rfl) rfl rfl) (by rintro _ rfl a w hs; exact ⟨hs.boxCell (id := 288) (p := 1) rfl rfl, hcell _ _ _ hs⟩) ?_
 rintro _ rfl a w hSw hs
 replace hs := hs.nilG 77 rfl
 refine hoistE 15 (fun σ' => σ' = _) hs rfl rfl (by decide +kernel) (Do.eff (Loc.litP rfl rfl rfl rfl rfl rfl rfl) rfl rfl) (by rintro _ rfl a w hs; exact ⟨hs.boxCell (id := 288) (p := 1) rfl rfl, hcell _ _ _ hs⟩) ?_
 rintro _ rfl a w hSw hs
 refine hoistE 16 (fun σ' => σ' = _) hs rfl rfl (by decide +kernel) (Do.eff (Do.appendP 289 rfl rfl rfl rfl rfl (by intro y hy; rw [List.mem_singleton.1 hy]; rfl) (by simp [rowsOf] <;> omega) (Nat.zero_lt_one)) rfl rfl) (by rintro _ rfl a w hs; exact ⟨hs.boxCell (id := 288) (p := 1) rfl rfl, hcell _ _ _ hs⟩) ?_
 rintro _ rfl a w hSw hs
 refine hoistT 17 (ptv b 0) hs hp' rfl rfl rfl rfl (by decide +kernel) (by decide +kernel) (by decide +kernel) hSw (fun w' hw' => ex_nil rfl (hs.val rfl)) rfl fun a hs => ?_
 refine hoistT 18 (ptv b (0 + 1)) hs hp' rfl rfl rfl rfl (by decide +kernel) (by decide +kernel) (by decide +kernel) hSw (fun w' hw' => ex_field rfl (hs.val rfl)) rfl fun a hs => ?_
 refine wpAnyH_done (by decide +kernel) ⟨_, hn _ (fun K hK => ?_), hs⟩ _
 refine Chain.pinR 79 79 rfl rfl fun xL' hxL => ?_
 ((try (first | intro K ms hms hK | intro K hK)); (first | apply Chain.st | apply Chain.stD); exact rfl; exact rfl; exact Do.storeB (id := 288) rfl rfl rfl rfl rfl rfl rfl rfl; exact rfl; exact rfl)
 refine Chain.frzIn 79 290 (rowR xL' _ 4 (ls.map enLN ++ [[D.v (.int .i64 l.kind), D.l (lastW ⟨inn, ls, some l⟩), D.v xB, D.v xG]] ++ [[D.v (.int .i64 2), D.v nil3, D.v nil3, D.v nil3]])) (by decide) rfl rfl (rowR_stable _ _ _ _) (fun S w h0 hb h => rowR_putM (c := [D.v (.int .i64 l.kind), D.v xW, D.v xB, D.v xG]) (j := 1) rfl S w h0 hb h) ?_
 refine Chain.frzIn 79 291 (rowR xL' _ 4 (ls.map enLN ++ [[D.v (.int .i64 l.kind), D.l (lastW ⟨inn, ls, some l⟩), D.l (lastB ⟨inn, ls, some l⟩), D.v xG]] ++ [[D.v (.int .i64 2), D.v nil3, D.v nil3, D.v nil3]])) (by decide) rfl rfl (rowR_stable _ _ _ _) (fun S w h0 hb h => rowR_putM (c := [D.v (.int .i64 l.kind), D.l (lastW ⟨inn, ls, some l⟩), D.v xB, D.v xG]) (j := 2) rfl S w h0 hb h) ?_
 refine Chain.frzIn 79 292 (rowR xL' _ 4 (rowsOf ⟨inn, ls ++ [l], some ⟨2, [], [], []⟩⟩ nil3 nil3 nil3)) (by decide) rfl rfl (rowR_stable _ _ _ _) (fun S w h0 hb h => by rw [← rows_end]; exact rowR_putM (c := [D.v (.int .i64 l.kind), D.l (lastW ⟨inn, ls, some l⟩), D.l (lastB ⟨inn, ls, some l⟩), D.v xG]) (j := 3) rfl S w h0 hb h) ?_
 refine Chain.giveO 79 289 rfl rfl ?_
 refine Chain.sub ⟨[(1, .d (.v (.slice (some ⟨bw, pw, none⟩) n c))), (2, .d (.v (.bool first)))], [(288, boxO b 25 [.v (.int .i64 inn), .v xL']), (289, rowO xL' 30 4 (rowsOf ⟨inn, ls ++ [l], some ⟨2, [], [], []⟩⟩ nil3 nil3 nil3)), (290, .dead), (291, .dead), (292, .dead)]⟩ ⟨rfl, rfl, trivial⟩ ⟨rfl, rfl, rfl, rfl, rfl, trivial⟩ ?_
 refine Chain.newO 101 27 1 rfl ?_
 refine Chain.giveO 101 290 rfl rfl ?_
 refine Chain.newO 102 119 3 rfl ?_
 refine Chain.giveO 102 291 rfl rfl ?_
 refine Chain.newO 103 31 1 rfl ?_
 refine Chain.giveO 103 292 rfl rfl ?_
 obtain ⟨bL', cL', rfl⟩ : ∃ bL' cL', xL' = slv bL' ((ls ++ [l]).length + 1) cL' := by
  rcases hxL with h | ⟨bL', cL', h⟩
  ·exact absurd h (by simp)
  ·exact ⟨bL', cL', by rw [h]; simp [rowsOf]⟩
 refine Chain.sub ⟨[(1, .d (.v (.slice (some ⟨bw, pw, none⟩) n c))), (2, .d (.v (.bool first)))], [(288, boxO b 25 [.v (.int .i64 inn), .v (slv bL' ((ls ++ [l]).length + 1) cL')]), (289, rowO (slv bL' ((ls ++ [l]).length + 1) cL') 30 4 (rowsOf ⟨inn, ls ++ [l], some ⟨2, [], [], []⟩⟩ nil3 nil3 nil3)), (290, rowO nil3 27 1 []), (291, rowO nil3 119 3 []), (292, rowO nil3 31 1 [])]⟩ ⟨rfl, rfl, trivial⟩ ⟨rfl, rfl, rfl, rfl, rfl, trivial⟩ ?_
 by_cases ht0 : t.length = 0
 ·obtain rfl := List.length_eq_zero_iff.1 ht0
  cases first with
  | false =>
   refine wl ?_
   exact ⟨netP b (slv bL' ((ls ++ [l]).length + 1) cL') nil3 nil3 nil3 ⟨inn, ls ++ [l], some ⟨2, [], [], []⟩⟩, [.d (.v (.bool true))], .inr ⟨_, (lineS_kind (by decide) (by decide)).trans (if_pos ⟨rfl, rfl⟩), rfl, _, _, _, _, ⟨.inr ⟨_, _, rfl⟩, fun h => absurd h (by simp)⟩, rfl⟩, rfl, ⟨.d rfl (.inl rfl), trivial⟩, netP_get rfl rfl rfl rfl rfl⟩
  | true =>
   refine wl ?_
   exact ⟨netP b (slv bL' ((ls ++ [l]).length + 1) cL') nil3 nil3 nil3 ⟨inn, ls ++ [l], some ⟨2, [], [], []⟩⟩, [.d (.v (.bool false))], .inl ⟨(lineS_kind (k := 2) (by decide) (by decide)).trans (if_neg (by simp)), rfl⟩, rfl, ⟨.d rfl (.inl rfl), trivial⟩, netP_get rfl rfl rfl rfl rfl⟩
 ·refine wl ?_
  exact ⟨netP b (slv bL' ((ls ++ [l]).length + 1) cL') nil3 nil3 nil3 ⟨inn, ls ++ [l], some ⟨2, [], [], []⟩⟩, [.d (.v (.bool false))], .inl ⟨(lineS_kind (k := 2) (by decide) (by decide)).trans (if_neg fun h => ht0 (by rw [h.1]; rfl)), rfl⟩, rfl, ⟨.d rfl (.inl rfl), trivial⟩, netP_get rfl rfl rfl rfl rfl⟩
set_option maxRecDepth 100000 in
set_option maxHeartbeats 4000000 in
theorem line1max (b : Nat) (xW xB xG : Value) (inn : Int) (ls : List LN) (l : LN) (t : List (List UInt8)) (first : Bool) (bL cL : Nat) (hls : ls.length ≤ 1000000) (hlw : l.W.length ≤ 1000000) (hlb : l.B.length ≤ 1000000) (hlg : l.G.length ≤ 1000000) (hw : ∀ x ∈ t, x ≠ [] ∧ x.length ≤ 20000) (ht : t.length ≤ 1000000000) :
  FnO Tryz.prog 67 MaxL (netP b (slv bL (ls.length + 1) cL) xW xB xG ⟨inn, ls, some l⟩) (NS.args b bMax t first) (lineQ b ⟨inn, ls, some l⟩ bMax t first) := by
 have _ := hw
 have _ := ht
 have _ := hls
 have _ := hlw
 have _ := hlb
 have _ := hlg
 have hml : (bMax :: t).length = t.length + 1 := List.length_cons ..
 have hz : ∀ w, (zeroValue 3).run Tryz.prog w = .ok (.int .i64 0) w := fun w => by kernel_rfl
 have hT : (Tryz.prog).underlying 250 = some (.map 9 3) := by kernel_rfl
 have hE : (Tryz.prog).underlying 3 = some (.int .i64) := by kernel_rfl
 have hkd : Go.Maps.Keyed Tryz.prog 9 := Go.Maps.string_keyed (by kernel_rfl)
 refine FnO.of Tryz.func67 rfl (by kernel_rfl) Tryz.ntmps67 Tryz.results67 rfl rfl fun w0 S0 vs hS hv hKW => ?_
 obtain ⟨u, bw, pw, n, c, rfl, hu, hn0, hcell⟩ := words_told hS hv
 refine ⟨(1, .d (.v (.slice (some ⟨bw, pw, none⟩) n c))) :: entry 0 (NS.args b bMax t first), fun t v h => ?_, ?_⟩
 ·rw [get?_cons] at h
  by_cases e : 1 = t
  ·rw [if_pos e] at h
   cases h
   exact .inr ⟨_, e ▸ hu, rfl, rfl⟩
  ·rw [if_neg e] at h
   exact .inl h
 refine wl ?_
 refine AC.drwL _ rfl (by kernel_rfl) (by decide +kernel) ?_
 refine wl ?_
 ((try (first | intro K ms hms hK | intro K hK)); (first | apply Chain.go | apply Chain.goD); exact rfl; exact rfl; exact Loc.idxV ls.length rfl rfl rfl (by omega) (by omega))
 refine wl ?_
 refine wl ?_
 ((try (first | intro K ms hms hK | intro K hK)); (first | apply Chain.go | apply Chain.goD); exact rfl; exact rfl; exact Loc.idxVo 0 rfl rfl rfl rfl (by omega))
 refine wl ?_
 ((try (first | intro K ms hms hK | intro K hK)); (first | apply Chain.go | apply Chain.goD); exact rfl; exact rfl; exact Loc.loadW rfl rfl rfl fun σ' β a w hi => hcell σ' a w (St.of hi))
 refine wl ?_
 ((try (first | intro K ms hms hK | intro K hK)); (first | apply Chain.go | apply Chain.goD); exact rfl; exact rfl; exact Loc.strEq (r := false) rfl rfl rfl (neT (m := bNet) (by decide)))
 refine wl ?_
 ((try (first | intro K ms hms hK | intro K hK)); (first | apply Chain.go | apply Chain.goD); exact rfl; exact rfl; exact Loc.strEq (r := false) rfl rfl rfl (neT (m := bAff) (by decide)))
 refine wl ?_
 ((try (first | intro K ms hms hK | intro K hK)); (first | apply Chain.go | apply Chain.goD); exact rfl; exact rfl; exact Loc.strEq (r := false) rfl rfl rfl (neT (m := bRel) (by decide)))
 refine wl ?_
 ((try (first | intro K ms hms hK | intro K hK)); (first | apply Chain.go | apply Chain.goD); exact rfl; exact rfl; exact Loc.strEq (r := true) rfl rfl rfl (eqT (m := bMax) rfl))
 refine wl ?_
 refine AC.drwS _ rfl (by kernel_rfl) (by decide +kernel) 19 rfl fun Qc hp hn a w hs => ?_
 refine ⟨fun w => w.cell? ⟨b, 1, none⟩ = some (slv bL (ls.length + 1) cL) ∧ w.cell? ⟨bw, pw, none⟩ = some (.string (tx bMax)), ?_⟩
 have hp' : ∀ c σ, ¬ Qc (.panic c) σ := fun c σ h => hp c σ h
 have hSw : (fun w : World => w.cell? ⟨b, 1, none⟩ = some (slv bL (ls.length + 1) cL) ∧ w.cell? ⟨bw, pw, none⟩ = some (.string (tx bMax))) w := ⟨hs.boxCell (id := 288) (p := 1) rfl rfl, hcell _ _ _ hs⟩
 refine hoistT 0 (ptv b 0) hs hp' rfl rfl rfl rfl (by decide +kernel) (by decide +kernel) (by decide +kernel) hSw (fun w' hw' => ex_move rfl (hs.val rfl)) rfl fun a hs => ?_
 refine hoistT 1 (ptv b 0) hs hp' rfl rfl rfl rfl (by decide +kernel) (by decide +kernel) (by decide +kernel) hSw (fun w' hw' => ex_move rfl (hs.val rfl)) rfl fun a hs => ?_
 refine hoistT 2 (ptv b 0) hs hp' rfl rfl rfl rfl (by decide +kernel) (by decide +kernel) (by decide +kernel) hSw (fun w' hw' => ex_nil rfl (hs.val rfl)) rfl fun a hs => ?_
 refine hoistT 3 (ptv b (0 + 1)) hs hp' rfl rfl rfl rfl (by decide +kernel) (by decide +kernel) (by decide +kernel) hSw (fun w' hw' => ex_field rfl (hs.val rfl)) rfl fun a hs => ?_
 refine hoistT 4 (slv bL (ls.length + 1) cL) hs hp' rfl rfl rfl rfl (by decide +kernel) (by decide +kernel) (by decide +kernel) hSw (fun w' hw' => ex_load rfl (hs.val rfl) hw'.1) rfl fun a hs => ?_
 refine hoistT 10 (.slice (some ⟨bw, pw, none⟩) n c) hs hp' rfl rfl rfl rfl (by decide +kernel) (by decide +kernel) (by decide +kernel) hSw (fun w' hw' => ex_move rfl (hs.val rfl)) rfl fun a hs => ?_
 refine hoistT 11 (ptv bw (pw + 0 * 1)) hs hp' rfl rfl rfl rfl (by decide +kernel) (by decide +kernel) (by decide +kernel) hSw (fun w' hw' => ex_idx 0 rfl (hs.val rfl) rfl (by omega)) rfl fun a hs => ?_
 refine hoistT 12 (.string (tx bMax)) hs hp' rfl rfl rfl rfl (by decide +kernel) (by decide +kernel) (by decide +kernel) hSw (fun w' hw' => ex_load rfl (hs.val rfl) hw'.2) rfl fun a hs => ?_
 refine hoistE 5 _ hs rfl rfl (by decide +kernel) (mkMap_eff 9 3 rfl rfl rfl rfl) (by rintro _ ⟨bm, rfl⟩ a w hs; exact ⟨hs.boxCell (id := 288) (p := 1) rfl rfl, hcell _ _ _ hs⟩) ?_
 rintro _ ⟨bm, rfl⟩ a w hSw hs
 refine hoistM (id := 71) (b := bm) 6 7 8 (.string bAff) (.string bRel) (.string bMax) 1 2 3 (.map [(.string bAff, .lit (.int .i64 1)), (.string bMax, .lit (.int .i64 3)), (.string bRel, .lit (.int .i64 2))]) hs rfl rfl rfl rfl rfl rfl (fun n M hn => putI_eff (kv := .string ⟨#[97, 102, 102, 105, 110, 101]⟩) rfl rfl rfl rfl hT hE hkd (by kernel_rfl) (by omega) (by decide) rfl) (fun n M hn => putI_eff (kv := .string ⟨#[114, 101, 108, 117]⟩) rfl rfl rfl rfl hT hE hkd (by kernel_rfl) (by omega) (by decide) rfl) (fun n M hn => putI_eff (kv := .string ⟨#[109, 97, 120]⟩) rfl rfl rfl rfl hT hE hkd (by kernel_rfl) (by omega) (by decide) rfl) (by intro n M a w hs; exact ⟨hs.boxCell (id := 288) (p := 1) rfl rfl, hcell _ _ _ hs⟩) ⟨⟨by kernel_rfl, by kernel_rfl⟩, ⟨by kernel_rfl, by kernel_rfl⟩, by kernel_rfl, by kernel_rfl⟩ (by decide) (by decide) (by decide) (by decide +kernel) fun a w hSw hs => ?_
 refine hoistT 9 (.map (some bm)) hs hp' rfl rfl rfl rfl (by decide +kernel) (by decide +kernel) (by decide +kernel) hSw (fun w' hw' => ex_move rfl (hs.val rfl)) rfl fun a hs => ?_
 refine hoistE 13 (fun σ' => σ' = _) hs rfl rfl (by decide +kernel) (Do.eff (Loc.lookV (id := 71) (c := 3) (kl := .string bMax) rfl rfl rfl rfl hT hE hz hkd (by kernel_rfl) (by kernel_rfl)) rfl rfl) (by rintro _ rfl a w hs; exact ⟨hs.boxCell (id := 288) (p := 1) rfl rfl, hcell _ _ _ hs⟩) ?_
 rintro _ rfl a w hSw hs
 refine hoistE 14 (fun σ' => σ' = _) hs rfl rfl (by decide +kernel) (Do.eff (Loc.build rfl rfl rfl rfl) rfl rfl) (by rintro _ rfl a w hs; exact ⟨hs.boxCell (id := 288) (p := 1) rfl rfl, hcell _ _ _ hs⟩) ?_
 rintro _ rfl a w hSw hs
 replace hs := hs.nilG 77 rfl
 refine hoistE 15 (fun σ' => σ' = _) hs rfl rfl (by decide +kernel) (Do.eff (Loc.litP rfl rfl rfl rfl rfl rfl rfl) rfl rfl) (by rintro _ rfl a w hs; exact ⟨hs.boxCell (id := 288) (p := 1) rfl rfl, hcell _ _ _ hs⟩) ?_
 rintro _ rfl a w hSw hs
 refine hoistE 16 (fun σ' => σ' = _) hs rfl rfl (by decide +kernel) (Do.eff (Do.appendP 289 rfl rfl rfl rfl rfl (by intro y hy; rw [List.mem_singleton.1 hy]; rfl) (by simp [rowsOf] <;> omega) (Nat.zero_lt_one)) rfl rfl) (by rintro _ rfl a w hs; exact ⟨hs.boxCell (id := 288) (p := 1) rfl rfl, hcell _ _ _ hs⟩) ?_
 rintro _ rfl a w hSw hs
 refine hoistT 17 (ptv b 0) hs hp' rfl rfl rfl rfl (by decide +kernel) (by decide +kernel) (by decide +kernel) hSw (fun w' hw' => ex_nil rfl (hs.val rfl)) rfl fun a hs => ?_
 refine hoistT 18 (ptv b (0 + 1)) hs hp' rfl rfl rfl rfl (by decide +kernel) (by decide +kernel) (by decide +kernel) hSw (fun w' hw' => ex_field rfl (hs.val rfl)) rfl fun a hs => ?_
 refine wpAnyH_done (by decide +kernel) ⟨_, hn _ (fun K hK => ?_), hs⟩ _
 refine Chain.pinR 79 79 rfl rfl fun xL' hxL => ?_
 ((try (first | intro K ms hms hK | intro K hK)); (first | apply Chain.st | apply Chain.stD); exact rfl; exact rfl; exact Do.storeB (id := 288) rfl rfl rfl rfl rfl rfl rfl rfl; exact rfl; exact rfl)
 refine Chain.frzIn 79 290 (rowR xL' _ 4 (ls.map enLN ++ [[D.v (.int .i64 l.kind), D.l (lastW ⟨inn, ls, some l⟩), D.v xB, D.v xG]] ++ [[D.v (.int .i64 3), D.v nil3, D.v nil3, D.v nil3]])) (by decide) rfl rfl (rowR_stable _ _ _ _) (fun S w h0 hb h => rowR_putM (c := [D.v (.int .i64 l.kind), D.v xW, D.v xB, D.v xG]) (j := 1) rfl S w h0 hb h) ?_
 refine Chain.frzIn 79 291 (rowR xL' _ 4 (ls.map enLN ++ [[D.v (.int .i64 l.kind), D.l (lastW ⟨inn, ls, some l⟩), D.l (lastB ⟨inn, ls, some l⟩), D.v xG]] ++ [[D.v (.int .i64 3), D.v nil3, D.v nil3, D.v nil3]])) (by decide) rfl rfl (rowR_stable _ _ _ _) (fun S w h0 hb h => rowR_putM (c := [D.v (.int .i64 l.kind), D.l (lastW ⟨inn, ls, some l⟩), D.v xB, D.v xG]) (j := 2) rfl S w h0 hb h) ?_
 refine Chain.frzIn 79 292 (rowR xL' _ 4 (rowsOf ⟨inn, ls ++ [l], some ⟨3, [], [], []⟩⟩ nil3 nil3 nil3)) (by decide) rfl rfl (rowR_stable _ _ _ _) (fun S w h0 hb h => by rw [← rows_end]; exact rowR_putM (c := [D.v (.int .i64 l.kind), D.l (lastW ⟨inn, ls, some l⟩), D.l (lastB ⟨inn, ls, some l⟩), D.v xG]) (j := 3) rfl S w h0 hb h) ?_
 refine Chain.giveO 79 289 rfl rfl ?_
 refine Chain.sub ⟨[(1, .d (.v (.slice (some ⟨bw, pw, none⟩) n c))), (2, .d (.v (.bool first)))], [(288, boxO b 25 [.v (.int .i64 inn), .v xL']), (289, rowO xL' 30 4 (rowsOf ⟨inn, ls ++ [l], some ⟨3, [], [], []⟩⟩ nil3 nil3 nil3)), (290, .dead), (291, .dead), (292, .dead)]⟩ ⟨rfl, rfl, trivial⟩ ⟨rfl, rfl, rfl, rfl, rfl, trivial⟩ ?_
 refine Chain.newO 101 27 1 rfl ?_
 refine Chain.giveO 101 290 rfl rfl ?_
 refine Chain.newO 102 119 3 rfl ?_
 refine Chain.giveO 102 291 rfl rfl ?_
 refine Chain.newO 103 31 1 rfl ?_
 refine Chain.giveO 103 292 rfl rfl ?_
 obtain ⟨bL', cL', rfl⟩ : ∃ bL' cL', xL' = slv bL' ((ls ++ [l]).length + 1) cL' := by
  rcases hxL with h | ⟨bL', cL', h⟩
  ·exact absurd h (by simp)
  ·exact ⟨bL', cL', by rw [h]; simp [rowsOf]⟩
 refine Chain.sub ⟨[(1, .d (.v (.slice (some ⟨bw, pw, none⟩) n c))), (2, .d (.v (.bool first)))], [(288, boxO b 25 [.v (.int .i64 inn), .v (slv bL' ((ls ++ [l]).length + 1) cL')]), (289, rowO (slv bL' ((ls ++ [l]).length + 1) cL') 30 4 (rowsOf ⟨inn, ls ++ [l], some ⟨3, [], [], []⟩⟩ nil3 nil3 nil3)), (290, rowO nil3 27 1 []), (291, rowO nil3 119 3 []), (292, rowO nil3 31 1 [])]⟩ ⟨rfl, rfl, trivial⟩ ⟨rfl, rfl, rfl, rfl, rfl, trivial⟩ ?_
 by_cases ht0 : t.length = 0
 ·obtain rfl := List.length_eq_zero_iff.1 ht0
  cases first with
  | false =>
   refine wl ?_
   exact ⟨netP b (slv bL' ((ls ++ [l]).length + 1) cL') nil3 nil3 nil3 ⟨inn, ls ++ [l], some ⟨3, [], [], []⟩⟩, [.d (.v (.bool true))], .inr ⟨_, (lineS_kind (by decide) (by decide)).trans (if_pos ⟨rfl, rfl⟩), rfl, _, _, _, _, ⟨.inr ⟨_, _, rfl⟩, fun h => absurd h (by simp)⟩, rfl⟩, rfl, ⟨.d rfl (.inl rfl), trivial⟩, netP_get rfl rfl rfl rfl rfl⟩
  | true =>
   refine wl ?_
   exact ⟨netP b (slv bL' ((ls ++ [l]).length + 1) cL') nil3 nil3 nil3 ⟨inn, ls ++ [l], some ⟨3, [], [], []⟩⟩, [.d (.v (.bool false))], .inl ⟨(lineS_kind (k := 3) (by decide) (by decide)).trans (if_neg (by simp)), rfl⟩, rfl, ⟨.d rfl (.inl rfl), trivial⟩, netP_get rfl rfl rfl rfl rfl⟩
 ·refine wl ?_
  exact ⟨netP b (slv bL' ((ls ++ [l]).length + 1) cL') nil3 nil3 nil3 ⟨inn, ls ++ [l], some ⟨3, [], [], []⟩⟩, [.d (.v (.bool false))], .inl ⟨(lineS_kind (k := 3) (by decide) (by decide)).trans (if_neg fun h => ht0 (by rw [h.1]; rfl)), rfl⟩, rfl, ⟨.d rfl (.inl rfl), trivial⟩, netP_get rfl rfl rfl rfl rfl⟩
end Go.Proofs.YthdkkpocihkgbaaGreatDoor
