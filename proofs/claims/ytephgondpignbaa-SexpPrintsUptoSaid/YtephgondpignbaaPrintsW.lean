/-
  SexpPrints, walked: the law answers true in each of its three cases.
-/
import Derived.Test.YtephgondpignbaaSexpOpen
namespace Go.Proofs.Ytephgondpignbaa
open Go.RowKit
theorem wordedL_exact (l : List T) : wordedL (exactL l) = wordedL l := exactL_worded l
theorem checkE_big {l : List T} (h : (sizedL l 0 0).2 = false) : checkE l = 2 := by unfold checkE; rw [if_pos h]
theorem checkE_bad {l : List T} (h : (sizedL l 0 0).2 = true) (h2 : wordedL l = false) : checkE l = 4 := by unfold checkE; rw [if_neg (by simp [h]), if_pos h2]
theorem checkE_ok {l : List T} (h : (sizedL l 0 0).2 = true) (h2 : wordedL l = true) : checkE l = 0 := by unfold checkE; rw [if_neg (by simp [h]), if_neg (by simp [h2])]
theorem ba_ext {s t : ByteArray} (h : s.data.toList = t.data.toList) : s = t := by
  cases s; cases t; simp only [ByteArray.mk.injEq]; exact Array.ext' h
theorem count_ge {l : List T} (h : (sizedL l 0 0).2 = true) : ¬ countL (toldL l 100002).1 0 0 < 0 := fun h2 => by
  have := (told_count l).1 h2; rw [h] at this; cases this
set_option maxRecDepth 100000 in
set_option maxHeartbeats 1600000 in
theorem prints_big (d : Nat) (l : List T) (v : Value) (w : World) (hl : (Rp.slice (RpT d)).rel (Lt w.heap.size) w [v] l) (hz : szL l ≤ 1048576) (hsb : (sizedL l 0 0).2 = false) :
    Calls Try.prog 3 #[v] w fun e w' => e = .returned (.bool true) ∧ Ext w w' := by
  have HL := Lib.hid hl; clear hl
  have hlz := linesL_sz l
  have HC := Lib.hid (checkE_big hsb)
  have HN := Lib.hid ((told_count l).2 hsb)
  clear hsb
  go_enter Try.func3, Try.ntmps3
  go_wp2_with fail
  refine (print_calls d l _ _ HL.out (by omega)).mono ?_
  rintro e w1 ⟨s, rfl, hs, hx1⟩
  rw [HC.out, if_neg (by decide)] at hs
  have hse : s = ⟨#[]⟩ := ba_ext hs
  subst hse
  rw [HC.out]
  have HX1 := Lib.hid hx1; clear hx1 hs
  go_wp2_with fail
  refine (Told_calls d l _ _ ((Rp.slice _).below HL.out HX1.out HX1.out.size)).mono ?_
  rintro e w2 ⟨a, c, rfl, hx2, hr2⟩
  have HX2 := Lib.hid (HX1.out.tr hx2)
  have HR2 := Lib.hid hr2; clear hx2 hr2
  go_wp2_with fail
  refine (count_calls d _ _ 0 _ ((Rp.slice _).mono HR2.out fun b hb => hb.2) (by omega) (by omega)).mono ?_
  rintro e w3 ⟨rfl, hx3⟩
  have HX3 := Lib.hid (HX2.out.tr hx3); clear hx3
  have hneg := HN.out
  generalize countL (toldL l 100002).1 0 0 = m at *
  go_wp2_with fail
  refine (awake_calls _).mono ?_
  rintro e w4 ⟨rfl, hx4⟩
  have HX4 := Lib.hid (HX3.out.tr hx4); clear hx4
  go_wp2_with fail
  refine (check_calls d l _ _ ((Rp.slice _).below HL.out HX4.out HX4.out.size)).mono ?_
  rintro e w5 ⟨rfl, hx5⟩
  rw [HC.out]
  have HX5 := Lib.hid (HX4.out.tr hx5); clear hx5
  go_wp2
  go_ret
  exact ⟨rfl, HX5.out⟩
set_option maxRecDepth 100000 in
set_option maxHeartbeats 1600000 in
theorem prints_bad (d : Nat) (l : List T) (v : Value) (w : World) (hl : (Rp.slice (RpT d)).rel (Lt w.heap.size) w [v] l) (hz : szL l ≤ 1048576) (hsb : (sizedL l 0 0).2 = true) (hwb : wordedL l = false) :
    Calls Try.prog 3 #[v] w fun e w' => e = .returned (.bool true) ∧ Ext w w' := by
  have HL := Lib.hid hl; clear hl
  have hlz := linesL_sz l
  have HC := Lib.hid (checkE_bad hsb hwb)
  have HN := Lib.hid (count_ge hsb)
  have HT := Lib.hid (told_all l hsb)
  have HW : Hid (wordedL (toldL l 100002).1 = false) := by show _ = _; rw [HT.out, exactL_worded]; exact hwb
  clear hsb hwb
  go_enter Try.func3, Try.ntmps3
  go_wp2_with fail
  refine (print_calls d l _ _ HL.out (by omega)).mono ?_
  rintro e w1 ⟨s, rfl, hs, hx1⟩
  rw [HC.out, if_neg (by decide)] at hs
  have hse : s = ⟨#[]⟩ := ba_ext hs
  subst hse
  rw [HC.out]
  have HX1 := Lib.hid hx1; clear hx1 hs
  go_wp2_with fail
  refine (Told_calls d l _ _ ((Rp.slice _).below HL.out HX1.out HX1.out.size)).mono ?_
  rintro e w2 ⟨a, c, rfl, hx2, hr2⟩
  have HX2 := Lib.hid (HX1.out.tr hx2)
  have HR2 := Lib.hid hr2; clear hx2 hr2
  go_wp2_with fail
  refine (count_calls d _ _ 0 _ ((Rp.slice _).mono HR2.out fun b hb => hb.2) (by omega) (by omega)).mono ?_
  rintro e w3 ⟨rfl, hx3⟩
  have HX3 := Lib.hid (HX2.out.tr hx3); clear hx3
  have hneg := HN.out
  generalize countL (toldL l 100002).1 0 0 = m at *
  go_wp2_with fail
  refine (Told_calls d l _ _ ((Rp.slice _).below HL.out HX3.out HX3.out.size)).mono ?_
  rintro e w4 ⟨a2, c2, rfl, hx4, hr4⟩
  have HX4 := Lib.hid (HX3.out.tr hx4)
  have HR4 := Lib.hid hr4; clear hx4 hr4
  go_wp2_with fail
  refine (words_calls d _ _ _ ((Rp.slice _).mono HR4.out fun b hb => hb.2)).mono ?_
  rintro e w5 ⟨rfl, hx5⟩
  rw [HW.out]
  have HX5 := Lib.hid (HX4.out.tr hx5); clear hx5
  go_wp2_with fail
  refine (awake_calls _).mono ?_
  rintro e w6 ⟨rfl, hx6⟩
  have HX6 := Lib.hid (HX5.out.tr hx6); clear hx6
  go_wp2_with fail
  refine (check_calls d l _ _ ((Rp.slice _).below HL.out HX6.out HX6.out.size)).mono ?_
  rintro e w7 ⟨rfl, hx7⟩
  rw [HC.out]
  have HX7 := Lib.hid (HX6.out.tr hx7); clear hx7
  go_wp2
  go_ret
  exact ⟨rfl, HX7.out⟩
theorem parse_print {l : List T} {s : ByteArray} (h : (sizedL l 0 0).2 = true) (h2 : wordedL l = true) (hs : s.data.toList = linesL l) (hz : s.size ≤ 2000) : ∃ n, parseTop s = .ok (normL l) [] n := by
  have hl : (linesL l).length < s.size + 1 := by rw [← hs]; simp
  refine ⟨(sizedL l 0 0).1, ?_⟩
  unfold parseTop
  rw [if_neg (by omega), hs]
  exact parse_lines l (s.size + 1) 0 h2 h hl
theorem norm_sized {l : List T} (h : (sizedL l 0 0).2 = true) : (toldL (normL l) 100002).1 = exactL (normL l) := by
  have := ((sizedL_spec l 0 0 (by omega)).1.1 h).1
  rw [(toldL_spec (normL l) 100002 (by omega)).2.2.1 (by rw [normL_nodes]; omega)]
set_option maxRecDepth 100000 in
set_option maxHeartbeats 1600000 in
theorem prints_ok (d : Nat) (l : List T) (v : Value) (w : World) (hl : (Rp.slice (RpT d)).rel (Lt w.heap.size) w [v] l) (hz : szL l ≤ 1048576) (hsb : (sizedL l 0 0).2 = true) (hwb : wordedL l = true) :
    Calls Try.prog 3 #[v] w fun e w' => e = .returned (.bool true) ∧ Ext w w' := by
  have HL := Lib.hid hl; clear hl
  have hlz := linesL_sz l
  have HC := Lib.hid (checkE_ok hsb hwb)
  have HN := Lib.hid (count_ge hsb)
  have HT := Lib.hid (told_all l hsb)
  have HW : Hid (wordedL (toldL l 100002).1 = true) := by show _ = _; rw [HT.out, exactL_worded]; exact hwb
  have HSB := Lib.hid hsb
  have HWB := Lib.hid hwb
  clear hsb hwb
  go_enter Try.func3, Try.ntmps3
  go_wp2_with fail
  refine (print_calls d l _ _ HL.out (by omega)).mono ?_
  rintro e w1 ⟨s, rfl, hs, hx1⟩
  rw [HC.out, if_pos rfl] at hs
  rw [HC.out]
  have HX1 := Lib.hid hx1
  have HS := Lib.hid hs; clear hx1 hs
  go_wp2_with fail
  refine (Told_calls d l _ _ ((Rp.slice _).below HL.out HX1.out HX1.out.size)).mono ?_
  rintro e w2 ⟨a, c, rfl, hx2, hr2⟩
  have HX2 := Lib.hid (HX1.out.tr hx2)
  have HR2 := Lib.hid hr2; clear hx2 hr2
  go_wp2_with fail
  refine (count_calls d _ _ 0 _ ((Rp.slice _).mono HR2.out fun b hb => hb.2) (by omega) (by omega)).mono ?_
  rintro e w3 ⟨rfl, hx3⟩
  have HX3 := Lib.hid (HX2.out.tr hx3); clear hx3
  have hneg := HN.out
  generalize countL (toldL l 100002).1 0 0 = m at *
  go_wp2_with fail
  refine (Told_calls d l _ _ ((Rp.slice _).below HL.out HX3.out HX3.out.size)).mono ?_
  rintro e w4 ⟨a2, c2, rfl, hx4, hr4⟩
  have HX4 := Lib.hid (HX3.out.tr hx4)
  have HR4 := Lib.hid hr4; clear hx4 hr4
  go_wp2_with fail
  refine (words_calls d _ _ _ ((Rp.slice _).mono HR4.out fun b hb => hb.2)).mono ?_
  rintro e w5 ⟨rfl, hx5⟩
  rw [HW.out]
  have HX5 := Lib.hid (HX4.out.tr hx5); clear hx5
  go_wp2_with fail
  refine (awake_calls _).mono ?_
  rintro e w6 ⟨rfl, hx6⟩
  have HX6 := Lib.hid (HX5.out.tr hx6); clear hx6
  go_wp2_with fail
  refine (check_calls d l _ _ ((Rp.slice _).below HL.out HX6.out HX6.out.size)).mono ?_
  rintro e w7 ⟨rfl, hx7⟩
  rw [HC.out]
  have HX7 := Lib.hid (HX6.out.tr hx7); clear hx7 hneg
  by_cases hbig : 2000 < s.size
  · go_wp2
    go_ret
    exact ⟨rfl, HX7.out⟩
  · have hsz : s.size ≤ 2000 := by omega
    clear hbig
    go_wp2_with fail
    refine (Told_calls d l _ _ ((Rp.slice _).below HL.out HX7.out HX7.out.size)).mono ?_
    rintro e w8 ⟨a3, c3, rfl, hx8, hr8⟩
    have HX8 := Lib.hid (HX7.out.tr hx8)
    rw [HT.out] at hr8 ⊢
    have hr9 := (Rp.slice _).mono hr8 fun b hb => hb.2
    obtain ⟨_, _, e, hlc, hcm, _⟩ := id hr9
    have hel : (exactL l).length ≤ 9223372036854775807 := by unfold maxLen at hcm; omega
    have HR8 : Hid ((Rp.slice (RpT d)).rel (Lt w8.heap.size) w8 [.slice a3 (exactL l).length c3] (exactL l)) := hr9
    have hxl := exactL_lines l
    have HSM := Lib.hid (normL_same l)
    generalize exactL l = x at *
    have HXL := Lib.hid hxl
    clear hx8 hr8 hr9 hlc hcm e hxl
    have hln : (linesL l).length = s.size := by rw [← HS.out]; simp
    go_wp2_with fail
    go_loopw [5, 69] (fun r i wr => ∃ k : Nat, k ≤ x.length ∧ i = .int .i64 k ∧ ∃ u : ByteArray, r = .string u ∧ Hid (u.data.toList = linesL (x.take k)) ∧ u.size ≤ 1048576 ∧ Ext w8 wr) (fun _ i _ => x.length - (intOf i).toNat)
    case atStart => exact ⟨0, Nat.zero_le _, rfl, _, rfl, rfl, by decide, Below.refl _ _⟩
    case round =>
      obtain ⟨k, hk, rfl, u, rfl, HU, hus, hbr⟩ := hrel
      by_cases hlt : k < x.length
      · obtain ⟨b, o, a', n', c', d', rfl, hbl, hdd, h0, h1, hwz, h2, hsub⟩ := elemT ((Rp.slice _).below HR8.out hbr hbr.size) k hlt
        have hbt := linesL_take x k hlt
        have hle := linesL_le x (k + 1)
        rw [HXL.out] at hle
        rw [hbt] at hle
        simp only [List.length_append, List.length_cons, List.length_nil] at hle
        have HR := Lib.hid (text_calls d' x[k] (.slice a' n' c') (wr.alloc (.cells #[.bool x[k].leaf, .string x[k].word, .slice a' n' c'] 33)) ((Rp.slice _).below hsub ((Below.refl _ _).al _) (by simp)) hwz (by omega))
        have HB := Lib.hid hbr
        have HBT := Lib.hid hbt
        clear hsub hbr hbt hdd
        go_wp2_with fail
        refine HR.out.mono ?_
        rintro e w9 ⟨t, rfl, ht, hx9⟩
        have HX9 := Lib.hid ((HB.out.al _).tr hx9)
        have hts : t.size ≤ 1048576 := by rw [size_list t ht]; omega
        have hq : (u ++ (t ++ { data := #[10] })).data.toList = linesL (x.take (k + 1)) := by
          rw [app_list, app_list, ht, HU.out, HBT.out]; simp
        have hqs : (u ++ (t ++ { data := #[10] })).size ≤ 1048576 := by
          rw [size_list _ hq, HBT.out]; simp only [List.length_append, List.length_cons, List.length_nil]; omega
        have HQ := Lib.hid hq
        clear hx9 ht hq
        go_wp2_with fail
        go_roundw
        case rel => exact ⟨k + 1, by omega, by go_num, _, rfl, HQ.out, hqs, HX9.out⟩
        case measure => simp [intOf]; omega
      · have hus2 : u = s := by
          have := HU.out
          rw [List.take_of_length_le (by omega), HXL.out] at this
          exact ba_ext (this.trans HS.out.symm)
        subst hus2
        have HB := Lib.hid (HX8.out.tr hbr)
        obtain ⟨pn, hpn⟩ := parse_print HSB.out HWB.out HS.out hsz
        have HPN := Lib.hid hpn
        have HNZ := Lib.hid (norm_sized HSB.out)
        clear hbr hpn
        go_wp2_with fail
        refine (parse_calls u _).mono ?_
        rintro e w9 ⟨lb, ab, cb, pl, er, rfl, hx9, hlb, hm⟩
        rw [HPN.out] at hm
        obtain ⟨rfl, rfl, rfl⟩ := hm
        have HX9 := Lib.hid (HB.out.tr hx9)
        have HLB := Lib.hid ((Rp.slice _).mono hlb fun b hb => hb.2 : (Rp.slice (RpT 201)).rel (Lt w9.heap.size) w9 [.slice ab (normL l).length cb] (normL l))
        clear hx9 hlb
        go_wp2_with fail
        refine (Told_calls 201 (normL l) _ _ HLB.out).mono ?_
        rintro e w10 ⟨a5, c5, rfl, hx10, hr10⟩
        have HX10 := Lib.hid (HX9.out.tr hx10)
        rw [HNZ.out] at hr10 ⊢
        have HR10 := Lib.hid ((Rp.slice _).mono hr10 fun b hb => hb.2 : (Rp.slice (RpT 201)).rel (Lt w10.heap.size) w10 [.slice a5 (exactL (normL l)).length c5] (exactL (normL l)))
        clear hx10 hr10
        go_wp2_with fail
        refine (Told_calls d l _ _ ((Rp.slice _).below HL.out HX10.out HX10.out.size)).mono ?_
        rintro e w11 ⟨a6, c6, rfl, hx11, hr11⟩
        rw [HT.out] at hr11 ⊢
        have HX11 := Lib.hid (HX10.out.tr hx11)
        have HR11 := Lib.hid ((Rp.slice _).mono hr11 fun b hb => hb.2 : (Rp.slice (RpT d)).rel (Lt w11.heap.size) w11 [.slice a6 x.length c6] x)
        have HR12 := Lib.hid ((Rp.slice _).below HR10.out hx11 hx11.size)
        clear hx11 hr11
        go_wp2_with fail
        refine (same_calls 201 d _ _ _ _ _ HR12.out HR11.out).mono ?_
        rintro e w12 ⟨rfl, nn, rfl⟩
        rw [HSM.out]
        go_wp2
        go_ret
        exact ⟨rfl, HX11.out.drN _⟩
end Go.Proofs.Ytephgondpignbaa
