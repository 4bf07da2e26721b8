/-
  The walks of layer 12's references.
-/
import Derived.Test.YtephgondpignbaaSexpW
namespace Go.Proofs.Ytephgondpignbaa
open Go.RowKit

set_option maxRecDepth 100000 in
theorem good_calls (c : UInt8) (w : World) :
    Calls Try.prog 21 #[.int .u8 c.toNat] w fun e w' => e = .returned (.bool (isPlain c)) ∧ w = w' := by
  have hp : isPlain c = (decide (32 < c.toNat) && decide (c.toNat < 127) && !(c.toNat == 40) && !(c.toNat == 41) && !(c.toNat == 59)) := rfl
  rw [hp]
  clear hp
  generalize c.toNat = n
  go_enter Try.func21, Try.ntmps21
  go_wp2
  all_goals go_ret
  all_goals refine ⟨ret_bool ?_, rfl⟩
  all_goals (rw [Bool.eq_iff_iff]; simp; try omega)
theorem elemR : Elem Try.prog 27 33 3 48 := Elem.of (by kernel_rfl) (by kernel_rfl)
theorem toldL_step (l : List T) (k : Nat) (h : k < l.length) (m : Int) : toldL (l.drop k) m = if m ≤ 0 then ([], m) else ((l[k].told m).1 :: (toldL (l.drop (k + 1)) (l[k].told m).2).1, (toldL (l.drop (k + 1)) (l[k].told m).2).2) := by
  rw [List.drop_eq_getElem_cons h]; rfl
theorem T.told_less (t : T) (m : Int) (h : 1 ≤ m) : 0 ≤ (t.told m).2 ∧ (t.told m).2 + 1 ≤ m := by
  have := T.told_spec t m h
  have := T.nodes_pos (t.told m).1
  omega

set_option maxRecDepth 100000 in
set_option maxHeartbeats 400000 in
theorem told_calls (d : Nat) : ∀ (l : List T) (v : Value) (m : Int) (w : World), (Rp.slice (RpT d)).rel (Lt w.heap.size) w [v] l → 0 ≤ m → m ≤ 100002 →
    Calls Try.prog 18 #[v, .int .i64 m] w fun e w' => ∃ a c, e = .returned (.tuple #[.slice a (toldL l m).1.length c, .int .i64 (toldL l m).2]) ∧ Ext w w' ∧
      (Rp.slice (RpT d)).rel (Mo (fun _ => False) w.heap.size w') w' [.slice a (toldL l m).1.length c] (toldL l m).1 := by
  induction d using Nat.strongRecOn with | _ d ih => ?_
  intro l v m w hl hm0 hm1
  obtain ⟨a, c, e, hlc, hcm, hel⟩ := id hl
  injection e with e; subst e
  have hlen : l.length ≤ 9223372036854775807 := by unfold maxLen at hcm; omega
  have IH := Lib.hid ih; clear ih
  have HL := Lib.hid hl; clear hl hel hcm hlc
  go_enter Try.func18, Try.ntmps18
  go_wp2
  go_loopw [1, 6, 13] (fun q r i wr => ∃ k : Nat, k ≤ l.length ∧ i = .int .i64 k ∧ ∃ m' : Int, q = .int .i64 m' ∧ 0 ≤ m' ∧ m' ≤ 100002 ∧ Ext w wr ∧ ∃ out : List T, (out.length : Int) + m' ≤ m ∧ Hid (toldL l m = (out ++ (toldL (l.drop k) m').1, (toldL (l.drop k) m').2)) ∧
      OwnL (RpT d) (fun _ => False) w.heap.size 33 wr r out) (fun _ _ i _ => l.length - (intOf i).toNat)
  case atStart => exact ⟨0, Nat.zero_le _, rfl, m, rfl, hm0, hm1, (Below.refl _ _).al _, [], by simp, by simp [Hid], OwnL.made _ _ _ _ _ _ _ (Nat.le_refl _) (by simp [maxLen]) (by simp)⟩
  case round =>
    obtain ⟨k, hk, rfl, m', rfl, hq0, hq1, hb, out, hout, HQ, hown⟩ := hrel
    obtain ⟨ra, rc, rfl, _, _⟩ := hown.shape
    have HB := Lib.hid hb
    by_cases hlt : k < l.length
    · by_cases hm : m' ≤ 0
      · have hq := HQ.out
        rw [toldL_step l k hlt, if_pos hm] at hq
        have HO := Lib.hid hown.shut
        obtain ⟨b, o, a', n', c', d', ha, hbl, hdd, c0, c1, hwz, c2, hsub⟩ := elemT HL.out k hlt
        obtain ⟨hc, hf⟩ := bcell hb
        subst ha
        have h0 := (hc _ _ hbl).trans c0
        have h1 := (hc _ _ hbl).trans c1
        have h2 := (hc _ _ hbl).trans c2
        clear hc hf hb c0 c1 c2 hsub hown IH HL HQ hdd
        have HQ := Lib.hid hq; clear hq
        go_wp2_with fail
        have hq := HQ.out
        simp only [List.append_nil] at hq
        go_ret2
        rw [hq]
        refine ⟨ra, rc, rfl, HB.out.al _, (Rp.slice _).keep HO.out fun b hb => ⟨⟨hb.1, by have := hb.2; simp; omega⟩, ((Below.refl _ _).al _).block b hb.2⟩⟩
      · have hq := HQ.out
        rw [toldL_step l k hlt, if_neg hm] at hq
        have hle := T.told_less l[k] m' (by omega)
        have hto := T.told_eq l[k] m'
        obtain ⟨b, o, a', n', c', d', ha, hbl, hdd, c0, c1, hwz, c2, hsub⟩ := elemT HL.out k hlt
        obtain ⟨hc, hf⟩ := bcell hb
        subst ha
        have h0 := (hc _ _ hbl).trans c0
        have h1 := (hc _ _ hbl).trans c1
        have h2 := (hc _ _ hbl).trans c2
        have HT := Lib.hid hto; clear hto
        have HLE := Lib.hid hle; clear hle
        have HO := Lib.hid hown; clear hown
        have HS := Lib.hid hsub; clear hsub
        clear hc hf hb c0 c1 c2 HL HQ
        have HQ := Lib.hid hq; clear hq
        have ih' := Lib.hid (IH.out d' (by omega)); clear IH
        subst hdd
        cases hlf : l[k].leaf with
        | true =>
          rw [hlf] at h0
          have HF := Lib.hid hlf; clear hlf
          go_wp2_with (at_builtin; refine wp_push rfl _ _ _ rfl elemR (y := .mk true l[k].word []) rfl rfl (HO.out.ext (((Below.refl _ _).al _).al _)) ?_ ?_ ?_ ?_ ?_)
          · exact mkT ⟨none, 0, rfl, by simp, by simp [maxLen], by simp⟩ hwz
          · omega
          · have := HB.out.size; simp; omega
          · intro v' w' hown' hgr hbel
            have hq := HQ.out
            rw [HT.out, if_pos HF.out] at hq
            have hO := Lib.hid hown'
            have hB := Lib.hid hbel
            clear hown' hbel hgr
            go_wp2_with fail
            go_roundw
            case rel => exact ⟨k + 1, by omega, by go_num, m' - 1, rfl, by omega, by omega, ((HB.out.al _).al _).trans hB.out, _, by simp; omega, by rw [hq]; simp [Hid], hO.out⟩
            case measure => simp [intOf]; omega
        | false =>
          rw [hlf] at h0
          have HF := Lib.hid hlf; clear hlf
          go_wp2_with fail
          refine (ih'.out _ _ _ _ ((Rp.slice _).below HS.out (((HB.out.al _).al _)) (((HB.out.al _).al _)).size) (by omega) (by omega)).mono ?_
          rintro e w1 ⟨sa, sc, rfl, hb1, hs1⟩
          have hq := HQ.out
          rw [HT.out, HF.out, if_neg (by simp)] at hq
          have hle := HLE.out
          rw [HT.out, HF.out, if_neg (by simp)] at hle
          simp only at hq hle
          generalize toldL l[k].list (m' - 1) = tt at *
          obtain ⟨t1, t2⟩ := tt
          simp only at hq hle hs1
          obtain ⟨hc, hf⟩ := bcell hb1
          have hx1 : Ext wr w1 := (((Below.refl _ _).al _).al _).tr hb1
          have hx2 := Lib.hid (hx1.st (p := ⟨wr.heap.size + 1, 2, none⟩) (by simp) (.slice sa t1.length sc))
          have hx3 := Lib.hid ((HB.out.tr hx1).st (p := ⟨wr.heap.size + 1, 2, none⟩) (by have := HB.out.size; simp; omega) (.slice sa t1.length sc))
          have hs2 := Lib.hid hs1
          have hq' := Lib.hid hq
          clear hq hs1 hb1 hx1
          go_wp2_with (at_builtin; refine wp_push rfl _ _ _ rfl elemR (y := .mk false l[k].word t1) rfl rfl (HO.out.ext hx2.out) ?_ ?_ ?_ ?_ ?_)
          · simp [World.setCell]
          · exact mkT (HO.out.fresh HB.out.size hs2.out (by simp; omega) (by simp [World.setCell]) fun b hb => Below.heap_setCell _ _ _ _ (by simp at hb; simp; omega)) hwz
          · omega
          · have := hx3.out.size; omega
          · intro v' w' hown' hgr hbel
            have hO := Lib.hid hown'
            have hB := Lib.hid (hx3.out.trans hbel)
            clear hown' hbel hgr hc hf
            go_wp2_with fail
            go_roundw
            case rel => exact ⟨k + 1, by omega, by go_num, t2, rfl, by omega, by omega, hB.out, _, by simp; omega, by rw [hq'.out]; simp [Hid], hO.out⟩
            case measure => simp [intOf]; omega
    · have hq := HQ.out
      rw [List.drop_eq_nil_of_le (by omega)] at hq
      simp only [toldL, List.append_nil] at hq
      have hO := Lib.hid hown.shut; clear hown
      go_wp2
      go_ret2
      rw [hq]
      exact ⟨ra, rc, rfl, HB.out, hO.out⟩
theorem ret_int {k : IntKind} {a b : Int} (h : a = b) : Ending.returned (.int k a) = .returned (.int k b) := by rw [h]

set_option maxRecDepth 100000 in
set_option maxHeartbeats 400000 in
theorem count_calls (d : Nat) : ∀ (l : List T) (v : Value) (dep : Int) (w : World), (Rp.slice (RpT d)).rel (Lt w.heap.size) w [v] l → 0 ≤ dep → dep ≤ 200 →
    Calls Try.prog 7 #[v, .int .i64 dep] w fun e w' => e = .returned (.int .i64 (countL l 0 dep)) ∧ Ext w w' := by
  induction d using Nat.strongRecOn with | _ d ih => ?_
  intro l v dep w hl hd0 hd1
  obtain ⟨a, c, e, hlc, hcm, hel⟩ := id hl
  injection e with e; subst e
  have hlen : l.length ≤ 9223372036854775807 := by unfold maxLen at hcm; omega
  have IH := Lib.hid ih; clear ih
  have HL := Lib.hid hl; clear hl hel hcm hlc
  go_enter Try.func7, Try.ntmps7
  go_wp2
  go_loopw [5, 11] (fun r i wr => ∃ k : Nat, k ≤ l.length ∧ i = .int .i64 k ∧ ∃ q : Int, r = .int .i64 q ∧ 0 ≤ q ∧ q ≤ 100000 ∧ Hid (countL (l.drop k) q dep = countL l 0 dep) ∧ Ext w wr) (fun _ i _ => l.length - (intOf i).toNat)
  case atStart => exact ⟨0, Nat.zero_le _, rfl, 0, rfl, by omega, by omega, rfl, Below.refl _ _⟩
  case round =>
    obtain ⟨k, hk, rfl, q, rfl, hq0, hq1, HQ, hb⟩ := hrel
    by_cases hlt : k < l.length
    · obtain ⟨b, o, a', n', c', d', rfl, hbl, hdd, h0, h1, hwz, h2, hs⟩ := elemT ((Rp.slice _).below HL.out hb hb.size) k hlt
      have HS := Lib.hid hs; clear hs
      have HB := Lib.hid hb; clear hb
      have hst := Lib.hid ((countL_step l k hlt q dep).symm.trans HQ.out)
      have hse := Lib.hid (T.count_eq l[k] q dep)
      have ih' := Lib.hid (IH.out d' (by omega)); clear IH HL hdd
      cases hlf : l[k].leaf with
      | true =>
        rw [hlf] at h0
        have e9 := hse.out
        simp only [hlf, if_true] at e9
        have hst' := hst.out
        by_cases h9 : 100000 < q + 1
        · rw [if_pos h9] at e9
          rw [e9, if_pos (by omega)] at hst'
          have H := Lib.hid hst'; clear hst' hlf e9
          go_wp2_with fail
          go_ret
          exact ⟨ret_int H.out, HB.out.al _⟩
        · rw [if_neg h9] at e9
          rw [e9, if_neg (by omega)] at hst'
          have H := Lib.hid hst'; clear hst' hlf e9
          go_wp2_with fail
          go_roundw
          case rel => exact ⟨k + 1, by omega, by go_num, _, rfl, by omega, by omega, H.out, HB.out.al _⟩
          case measure => simp [intOf]; omega
      | false =>
        rw [hlf] at h0
        have e9 := hse.out
        simp only [hlf, Bool.false_eq_true, if_false] at e9
        have hst' := hst.out
        by_cases h9 : dep = 200
        · rw [if_pos h9] at e9
          rw [e9, if_pos (by omega)] at hst'
          have H := Lib.hid hst'; clear hst' hlf e9
          have h8 : (dep == 200) = true := by simpa using h9
          clear h9
          go_wp2_with fail
          go_ret
          exact ⟨ret_int H.out, HB.out.al _⟩
        · rw [if_neg h9] at e9
          have h8 : (dep == 200) = false := by simpa using h9
          have hsp := countL_spec l[k].list 0 (dep + 1) (by omega) (by omega)
          have HR := Lib.hid (ih'.out l[k].list (.slice a' n' c') (dep + 1) (wr.alloc (.cells #[.bool false, .string l[k].word, .slice a' n' c'] 33)) ((Rp.slice _).below HS.out ((Below.refl _ _).al _) (by simp)) (by omega) (by omega))
          have hp := nodesL_pos l[k].list
          generalize countL l[k].list 0 (dep + 1) = m at *
          have hm : -1 ≤ m ∧ m ≤ 100000 := by rw [hsp]; split <;> omega
          clear hsp hlf h9 hp
          have E9 := Lib.hid e9; clear e9
          have H := Lib.hid hst'; clear hst'
          go_wp2_with fail
          refine HR.out.mono ?_
          rintro e w1 ⟨rfl, hb1⟩
          have HX := Lib.hid ((HB.out.al _).tr hb1); clear hb1
          have e9 := E9.out
          have hst' := H.out
          by_cases hm0 : m < 0
          · rw [if_pos hm0] at e9
            rw [e9, if_pos (by omega)] at hst'
            have H := Lib.hid hst'; clear hst' e9
            go_wp2_with fail
            go_ret
            exact ⟨ret_int H.out, HX.out⟩
          · rw [if_neg hm0] at e9
            by_cases hm1 : 100000 < q + 1 + m
            · rw [if_pos hm1] at e9
              rw [e9, if_pos (by omega)] at hst'
              have H := Lib.hid hst'; clear hst' e9
              go_wp2_with fail
              go_ret
              exact ⟨ret_int H.out, HX.out⟩
            · rw [if_neg hm1] at e9
              rw [e9, if_neg (by omega)] at hst'
              have H := Lib.hid hst'; clear hst' e9
              go_wp2_with fail
              go_roundw
              case rel => exact ⟨k + 1, by omega, by go_num, _, rfl, by omega, by omega, H.out, HX.out⟩
              case measure => simp [intOf]; omega
    · go_wp2
      have hst' := HQ.out
      rw [List.drop_eq_nil_of_le (by omega)] at hst'
      go_ret
      exact ⟨ret_int hst', hb⟩

set_option maxRecDepth 100000 in
set_option maxHeartbeats 400000 in
theorem words_calls (d : Nat) : ∀ (l : List T) (v : Value) (w : World), (Rp.slice (RpT d)).rel (Lt w.heap.size) w [v] l →
    Calls Try.prog 11 #[v] w fun e w' => e = .returned (.bool (wordedL l)) ∧ Ext w w' := by
  induction d using Nat.strongRecOn with | _ d ih => ?_
  intro l v w hl
  obtain ⟨a, c, e, hlc, hcm, hel⟩ := id hl
  injection e with e; subst e
  have hlen : l.length ≤ 9223372036854775807 := by unfold maxLen at hcm; omega
  have IH := Lib.hid ih; clear ih
  have HL := Lib.hid hl; clear hl hel hcm hlc
  go_enter Try.func11, Try.ntmps11
  go_wp2
  go_loopw [8] (fun i wr => ∃ k : Nat, k ≤ l.length ∧ i = .int .i64 k ∧ Hid (wordedL (l.drop k) = wordedL l) ∧ Ext w wr) (fun i _ => l.length - (intOf i).toNat)
  case atStart => exact ⟨0, Nat.zero_le _, rfl, rfl, Below.refl _ _⟩
  case round =>
    obtain ⟨k, hk, rfl, HQ, hb⟩ := hrel
    by_cases hlt : k < l.length
    · obtain ⟨b, o, a', n', c', d', rfl, hbl, hdd, h0, h1, hwz, h2, hs⟩ := elemT ((Rp.slice _).below HL.out hb hb.size) k hlt
      have HS := Lib.hid hs; clear hs
      have HB := Lib.hid hb; clear hb
      have hst := (wordedL_step l k hlt).symm.trans HQ.out
      have hse := T.worded_eq l[k]
      have ih' := Lib.hid (IH.out d' (by omega)); clear IH HL hdd
      cases hlf : l[k].leaf with
      | true =>
        rw [hlf] at h0 hse
        rw [hse, if_pos rfl] at hst
        generalize l[k].word = wd at *
        have hw : wordOk wd = (!wd.toList.isEmpty && wd.data.toList.all isPlain) := by rw [ByteArray.toList_eq]; rfl
        rw [hw] at hst
        have hz : wd.toList.isEmpty = decide (wd.size = 0) := by
          rw [ByteArray.toList_eq, Bool.eq_iff_iff, List.isEmpty_iff_length_eq_zero]; simp
        rw [hz] at hst
        by_cases he : wd.size = 0
        · have H := Lib.hid hst
          have he2 : ((wd.size : Int) == 0) = true := by simp [he]
          clear hlf hse hst hw hz
          go_wp2_with fail
          go_ret
          exact ⟨ret_bool (by rw [← H.out]; simp [he]), HB.out.al _⟩
        · have H := Lib.hid hst
          have he2 : ((wd.size : Int) == 0) = false := by simp [he]
          clear hlf hse hst hw hz
          go_wp2_with fail
          obtain ⟨wo, rfl⟩ : ∃ wo : World, wo = wr := ⟨_, rfl⟩
          go_loopw [5] (fun i wr => ∃ j : Nat, j ≤ wd.size ∧ i = .int .i64 j ∧ Hid ((wd.data.toList.drop j).all isPlain = wd.data.toList.all isPlain) ∧ wr = wo.alloc (Obj.cells #[.bool true, .string wd, .slice a' n' c'] 33)) (fun i _ => wd.size - (intOf i).toNat)
          case atStart => exact ⟨0, Nat.zero_le _, rfl, rfl, rfl⟩
          case round =>
            obtain ⟨j, hj, rfl, HJ, rfl⟩ := hrel
            by_cases hjl : j < wd.size
            · have hsj := (all_step wd j hjl isPlain).symm.trans HJ.out
              cases hr : isPlain wd[j] with
              | true =>
                rw [hr] at hsj
                have hsj2 := Lib.hid hsj; clear hsj
                have HR := Lib.hid hr; clear hr
                go_wp2_with fail
                refine (good_calls wd[j] _).mono ?_
                rintro e w1 ⟨rfl, rfl⟩
                rw [HR.out]
                go_wp2_with fail
                go_roundw
                case rel => exact ⟨j + 1, by omega, by go_num, hsj2.out, trivial⟩
                case measure => simp [intOf]; omega
              | false =>
                rw [hr] at hsj
                have hsj2 := Lib.hid hsj; clear hsj
                have HR := Lib.hid hr; clear hr
                go_wp2_with fail
                refine (good_calls wd[j] _).mono ?_
                rintro e w1 ⟨rfl, rfl⟩
                rw [HR.out]
                go_wp2_with fail
                go_ret
                exact ⟨ret_bool (by rw [← H.out, ← hsj2.out]; simp), HB.out.al _⟩
            · have hj1 := HJ.out
              rw [List.drop_eq_nil_of_le (by simpa using hjl)] at hj1
              have hj2 := Lib.hid hj1; clear hj1
              have he3 := Lib.hid he; clear he
              go_wp2_with fail
              go_roundw
              case rel => exact ⟨k + 1, by omega, by go_num, by have := H.out; rw [← hj2.out] at this; simpa [Hid, he3.out] using this, HB.out.al _⟩
              case measure => simp [intOf]; omega
      | false =>
        rw [hlf] at h0 hse
        rw [hse, if_neg (by simp)] at hst
        have HR := Lib.hid (ih'.out l[k].list (.slice a' n' c') (wr.alloc (.cells #[.bool false, .string l[k].word, .slice a' n' c'] 33)) ((Rp.slice _).below HS.out ((Below.refl _ _).al _) (by simp)))
        cases hr : wordedL l[k].list with
        | true =>
          rw [hr] at hst HR
          have H := Lib.hid hst; clear hst hlf hse hr
          go_wp2_with fail
          refine HR.out.mono ?_
          rintro e w1 ⟨rfl, hb1⟩
          have hc9 : w1.cell? ⟨wr.heap.size, 0, none⟩ = some (.bool false) := by rw [(bcell hb1).1 _ _ (by simp)]; simp
          have HX := Lib.hid ((HB.out.al _).tr hb1); clear hb1
          go_wp2_with fail
          refine wp_loop_once ?_
          go_wp2_with fail
          go_roundw
          case rel => exact ⟨k + 1, by omega, by go_num, H.out, HX.out⟩
          case measure => simp [intOf]; omega
        | false =>
          rw [hr] at hst HR
          have H := Lib.hid hst; clear hst hlf hse hr
          go_wp2_with fail
          refine HR.out.mono ?_
          rintro e w1 ⟨rfl, hb1⟩
          have HX := Lib.hid ((HB.out.al _).tr hb1); clear hb1
          go_wp2_with fail
          go_ret
          exact ⟨ret_bool (by rw [← H.out]; rfl), HX.out⟩
    · go_wp2
      have hst' := HQ.out
      rw [List.drop_eq_nil_of_le (by omega)] at hst'
      go_ret
      exact ⟨ret_bool hst', hb⟩
theorem moreL_append (a b : List T) : moreL (a ++ b) = moreL a ++ moreL b := by
  induction a with
  | nil => rfl
  | cons t r ih => simp [moreL, ih]
theorem bodyL_append (a b : List T) (h : a ≠ []) : bodyL (a ++ b) = bodyL a ++ moreL b := by
  cases a with
  | nil => exact absurd rfl h
  | cons t r => simp [bodyL, moreL_append]
theorem bodyL_take (l : List T) (k : Nat) (h : k < l.length) : bodyL (l.take (k + 1)) = bodyL (l.take k) ++ (if 0 < k then [32] else []) ++ l[k].text := by
  rw [List.take_succ_eq_append_getElem h]
  by_cases hk : 0 < k
  · rw [bodyL_append _ _ (by intro h0; have := congrArg List.length h0; rw [List.length_take, Nat.min_eq_left (by omega)] at this; simp at this; omega), if_pos hk]
    simp [moreL]
  · obtain rfl : k = 0 := by omega
    simp [bodyL, moreL]
theorem bodyL_le (l : List T) (k : Nat) : (bodyL (l.take k)).length ≤ (bodyL l).length := by
  by_cases h : l.take k = []
  · rw [h]; simp [bodyL]
  · have := bodyL_append (l.take k) (l.drop k) h
    rw [List.take_append_drop] at this
    rw [this, List.length_append]
    omega
theorem size_list (s : ByteArray) {x : List UInt8} (h : s.data.toList = x) : s.size = x.length := by
  rw [← h]; simp
theorem app_list (s t : ByteArray) : (s ++ t).data.toList = s.data.toList ++ t.data.toList := by simp

set_option maxRecDepth 100000 in
set_option maxHeartbeats 400000 in
theorem text_calls (d : Nat) : ∀ (t : T) (v : Value) (w : World), (Rp.slice (RpT d)).rel (Lt w.heap.size) w [v] t.list → t.word.size ≤ 9223372036854775807 → t.text.length ≤ 1048576 →
    Calls Try.prog 12 #[.agg #[.bool t.leaf, .string t.word, v]] w fun e w' => ∃ s : ByteArray, e = .returned (.string s) ∧ s.data.toList = t.text ∧ Ext w w' := by
  induction d using Nat.strongRecOn with | _ d ih => ?_
  intro t v w hl hwz htl
  have hte := T.text_eq t
  obtain ⟨a, c, e, hlc, hcm, hel⟩ := id hl
  injection e with e; subst e
  generalize hL : t.list = l at *
  have hlen : l.length ≤ 9223372036854775807 := by unfold maxLen at hcm; omega
  have IH := Lib.hid ih; clear ih
  have HL := Lib.hid hl; clear hl hel hcm hlc
  generalize hW : t.word = wd at *
  cases hlf : t.leaf with
  | true =>
    rw [hlf, if_pos rfl] at hte
    have HT := Lib.hid hte; clear hte hlf hL hW
    go_enter Try.func12, Try.ntmps12
    go_wp2
    go_ret
    exact ⟨_, rfl, HT.out.symm, (Below.refl _ _).al _⟩
  | false =>
    rw [hlf, if_neg (by simp)] at hte
    rw [hte] at htl
    have HT := Lib.hid hte; clear hte hlf hL hW
    go_enter Try.func12, Try.ntmps12
    go_wp2
    go_loopw [3, 13] (fun r i wr => ∃ k : Nat, k ≤ l.length ∧ i = .int .i64 k ∧ ∃ s : ByteArray, r = .string s ∧ Hid (s.data.toList = 40 :: bodyL (l.take k)) ∧ s.size ≤ 1048576 ∧ Ext w wr) (fun _ i _ => l.length - (intOf i).toNat)
    case atStart => exact ⟨0, Nat.zero_le _, rfl, _, rfl, rfl, by decide, (Below.refl _ _).al _⟩
    case round =>
      obtain ⟨k, hk, rfl, s, rfl, HQ, hsz, hb⟩ := hrel
      by_cases hlt : k < l.length
      · obtain ⟨b, o, a', n', c', d', rfl, hbl, hdd, h0, h1, hwz, h2, hs⟩ := elemT ((Rp.slice _).below HL.out hb hb.size) k hlt
        have HS := Lib.hid hs; clear hs
        have HB := Lib.hid hb; clear hb
        have ih' := Lib.hid (IH.out d' (by omega)); clear IH HL hdd
        have hbt := Lib.hid (bodyL_take l k hlt)
        have hle := bodyL_le l (k + 1)
        simp only [List.length_cons, List.length_append, List.length_nil] at htl
        have hxt : l[k].text.length ≤ 1048576 := by
          have := hbt.out; rw [this, List.length_append] at hle; omega
        have HR := Lib.hid (ih'.out l[k] (.slice a' n' c') (wr.alloc (.cells #[.bool l[k].leaf, .string l[k].word, .slice a' n' c'] 33)) ((Rp.slice _).below HS.out ((Below.refl _ _).al _) (by simp)) hwz hxt)
        by_cases hk0 : 0 < k
        · have hbt' := hbt.out
          rw [if_pos hk0] at hbt'
          have HBT := Lib.hid hbt'; clear hbt'
          go_wp2_with fail
          refine HR.out.mono ?_
          rintro e w1 ⟨u, rfl, hu, hb1⟩
          have HX := Lib.hid ((HB.out.al _).tr hb1); clear hb1
          have hq : (s ++ { data := #[32] } ++ u).data.toList = 40 :: bodyL (l.take (k + 1)) := by
            rw [app_list, app_list, hu, HQ.out, HBT.out]; simp
          have hsz2 : (s ++ { data := #[32] } ++ u).size ≤ 1048576 := by
            rw [size_list _ hq, List.length_cons]; omega
          have hus : u.size ≤ 1048576 := by rw [size_list u hu]; exact hxt
          have HQ2 := Lib.hid hq; clear hq hu
          go_wp2_with fail
          go_roundw
          case rel => exact ⟨k + 1, by omega, by go_num, _, rfl, HQ2.out, hsz2, HX.out⟩
          case measure => simp [intOf]; omega
        · have hbt' := hbt.out
          rw [if_neg hk0] at hbt'
          have HBT := Lib.hid hbt'; clear hbt'
          go_wp2_with fail
          refine HR.out.mono ?_
          rintro e w1 ⟨u, rfl, hu, hb1⟩
          have HX := Lib.hid ((HB.out.al _).tr hb1); clear hb1
          have hq : (s ++ u).data.toList = 40 :: bodyL (l.take (k + 1)) := by
            rw [app_list, hu, HQ.out, HBT.out]; simp
          have hsz2 : (s ++ u).size ≤ 1048576 := by
            rw [size_list _ hq, List.length_cons]; omega
          have hus : u.size ≤ 1048576 := by rw [size_list u hu]; exact hxt
          have HQ2 := Lib.hid hq; clear hq hu
          go_wp2_with fail
          go_roundw
          case rel => exact ⟨k + 1, by omega, by go_num, _, rfl, HQ2.out, hsz2, HX.out⟩
          case measure => simp [intOf]; omega
      · go_wp2
        have hq := HQ.out
        rw [List.take_of_length_le (by omega)] at hq
        go_ret
        exact ⟨_, rfl, by rw [HT.out, app_list, hq]; rfl, hb⟩
theorem sameL_len : (a b : List T) → a.length ≠ b.length → sameL a b = false
  | [], [], h => absurd rfl h
  | [], _ :: _, _ => rfl
  | _ :: _, [], _ => rfl
  | x :: a, y :: b, h => by simp only [sameL, sameL_len a b (by simpa using h), Bool.and_false]
theorem sameL_step (a b : List T) (k : Nat) (h : k < a.length) (h' : k < b.length) : sameL (a.drop k) (b.drop k) = (a[k].same b[k] && sameL (a.drop (k + 1)) (b.drop (k + 1))) := by
  rw [List.drop_eq_getElem_cons h, List.drop_eq_getElem_cons h']; rfl
theorem ba_beq (s t : ByteArray) : (s.toList == t.toList) = decide (s = t) := by
  rw [Bool.eq_iff_iff]
  simp only [beq_iff_eq, decide_eq_true_eq, ByteArray.toList_eq]
  constructor
  · intro h
    cases s; cases t
    simp only [ByteArray.mk.injEq]
    exact Array.ext' h
  · rintro rfl; rfl

set_option maxRecDepth 100000 in
set_option maxHeartbeats 1600000 in
theorem same_calls (d : Nat) : ∀ (d2 : Nat) (l l2 : List T) (v v2 : Value) (w : World), (Rp.slice (RpT d)).rel (Lt w.heap.size) w [v] l → (Rp.slice (RpT d2)).rel (Lt w.heap.size) w [v2] l2 →
    Calls Try.prog 14 #[v, v2] w fun e w' => e = .returned (.bool (sameL l l2)) ∧ ∃ n, w' = w.drewN n := by
  induction d using Nat.strongRecOn with | _ d ih => ?_
  intro d2 l l2 v v2 w hl hl2
  obtain ⟨a, c, e, hlc, hcm, hel⟩ := id hl
  injection e with e; subst e
  obtain ⟨a2, c2, e, hlc2, hcm2, hel2⟩ := id hl2
  injection e with e; subst e
  have hlen : l.length ≤ 9223372036854775807 := by unfold maxLen at hcm; omega
  have hlen2 : l2.length ≤ 9223372036854775807 := by unfold maxLen at hcm2; omega
  have IH := Lib.hid ih; clear ih
  have HL := Lib.hid hl; clear hl hel hcm hlc
  have HL2 := Lib.hid hl2; clear hl2 hel2 hcm2 hlc2
  by_cases hll : l.length = l2.length
  · have hln : ((l.length : Int) != (l2.length : Int)) = false := by simp [hll]
    have hlle : l.length ≤ l2.length := by omega
    have hlle2 : l2.length ≤ l.length := by omega
    clear hll
    go_enter Try.func14, Try.ntmps14
    go_wp2
    go_loopw [13] (fun i wr => ∃ k : Nat, k ≤ l.length ∧ i = .int .i64 k ∧ Hid (sameL (l.drop k) (l2.drop k) = sameL l l2) ∧ Hid (∃ n, wr = w.drewN n)) (fun i _ => l.length - (intOf i).toNat)
    case atStart => exact ⟨0, Nat.zero_le _, rfl, rfl, 0, rfl⟩
    case round =>
      obtain ⟨k, hk, rfl, HQ, hb⟩ := hrel
      have HLr : Hid ((Rp.slice (RpT d)).rel (Lt wr.heap.size) wr [.slice a l.length c] l ∧ (Rp.slice (RpT d2)).rel (Lt wr.heap.size) wr [.slice a2 l2.length c2] l2) := by
        obtain ⟨nd, rfl⟩ := hb.out
        exact ⟨(Rp.slice _).keep HL.out fun b hb => ⟨hb, rfl⟩, (Rp.slice _).keep HL2.out fun b hb => ⟨hb, rfl⟩⟩
      clear HL HL2
      by_cases hlt : k < l.length
      · obtain ⟨b, o, a', n', c', d', rfl, hbl, hdd, h0, h1, hwz, h2, hs⟩ := elemT HLr.out.1 k hlt
        obtain ⟨b2, o2, a2', n2', c2', d2', rfl, hbl2, hdd2, h02, h12, hwz2, h22, hs2⟩ := elemT HLr.out.2 k (by omega)
        have hlt2 : k < l2.length := by omega
        have HS := Lib.hid hs; clear hs
        have HS2 := Lib.hid hs2; clear hs2
        have ih' := Lib.hid (IH.out d' (by omega)); clear IH HLr hdd hdd2
        have hst := (sameL_step l l2 k hlt (by omega)).symm.trans HQ.out
        rw [T.same_eq] at hst
        cases hla : l[k].leaf <;> cases hlb : l2[k].leaf <;> rw [hla] at h0 hst <;> rw [hlb] at h02 hst
        · -- both lists
          cases hr : sameL l[k].list l2[k].list with
          | true =>
            simp only [hr, beq_self_eq_true, Bool.true_and, Bool.false_eq_true, if_false] at hst
            have H := Lib.hid hst; clear hst hla hlb
            have HR : Hid (∀ n, Calls Try.prog 14 #[.slice a' n' c', .slice a2' n2' c2'] (wr.drewN n) fun e w' => e = .returned (.bool true) ∧ ∃ m, w' = (wr.drewN n).drewN m) := fun n => by
              have := ih'.out d2' l[k].list l2[k].list (.slice a' n' c') (.slice a2' n2' c2') (wr.drewN n) ((Rp.slice _).keep HS.out fun b hb => ⟨hb, rfl⟩) ((Rp.slice _).keep HS2.out fun b hb => ⟨hb, rfl⟩)
              rw [hr] at this; exact this
            clear hr ih' HS HS2
            go_wp2_with fail
            go_quiet ((go_at_call 14; exact Calls.quiet_of (HR.out _)))
            go_wp2_with fail
            go_roundw
            case rel => exact ⟨k + 1, by omega, by go_num, H.out, by obtain ⟨nd, rfl⟩ := hb.out; exact ⟨_, World.drewN_drewN _ _ _⟩⟩
            case measure => simp [intOf]; omega
          | false =>
            simp only [hr, beq_self_eq_true, Bool.true_and, Bool.false_eq_true, if_false, Bool.false_and] at hst
            have H := Lib.hid hst; clear hst hla hlb
            have HR : Hid (∀ n, Calls Try.prog 14 #[.slice a' n' c', .slice a2' n2' c2'] (wr.drewN n) fun e w' => e = .returned (.bool false) ∧ ∃ m, w' = (wr.drewN n).drewN m) := fun n => by
              have := ih'.out d2' l[k].list l2[k].list (.slice a' n' c') (.slice a2' n2' c2') (wr.drewN n) ((Rp.slice _).keep HS.out fun b hb => ⟨hb, rfl⟩) ((Rp.slice _).keep HS2.out fun b hb => ⟨hb, rfl⟩)
              rw [hr] at this; exact this
            clear hr ih' HS HS2
            go_wp2_with fail
            go_quiet ((go_at_call 14; exact Calls.quiet_of (HR.out _)))
            go_wp2_with fail
            go_ret
            exact ⟨ret_bool H.out, by obtain ⟨nd, rfl⟩ := hb.out; exact ⟨_, World.drewN_drewN _ _ _⟩⟩
        · change false = _ at hst
          have H := Lib.hid hst; clear hst hla hlb ih' HS HS2
          go_wp2_with fail
          go_quiet (fail)
          go_wp2_with fail
          go_ret
          exact ⟨ret_bool H.out, by obtain ⟨nd, rfl⟩ := hb.out; exact ⟨_, World.drewN_drewN _ _ _⟩⟩
        · change false = _ at hst
          have H := Lib.hid hst; clear hst hla hlb ih' HS HS2
          go_wp2_with fail
          go_quiet (fail)
          go_wp2_with fail
          go_ret
          exact ⟨ret_bool H.out, by obtain ⟨nd, rfl⟩ := hb.out; exact ⟨_, World.drewN_drewN _ _ _⟩⟩
        · simp only [beq_self_eq_true, Bool.true_and, if_true] at hst
          have hbq := ba_beq l[k].word l2[k].word
          clear hla hlb ih' HS HS2
          by_cases hw : l[k].word = l2[k].word
          · rw [decide_eq_true hw] at hst hbq
            have hbq2 : (l[k].word.toList != l2[k].word.toList) = false := by rw [bne, hbq]; rfl
            have H := Lib.hid hst; clear hst hw
            go_wp2_with fail
            go_quiet (fail)
            go_wp2_with fail
            go_roundw
            case rel => exact ⟨k + 1, by omega, by go_num, by simpa [Hid] using H.out, by obtain ⟨nd, rfl⟩ := hb.out; exact ⟨_, World.drewN_drewN _ _ _⟩⟩
            case measure => simp [intOf]; omega
          · rw [decide_eq_false hw] at hst hbq
            have hbq2 : (l[k].word.toList != l2[k].word.toList) = true := by rw [bne, hbq]; rfl
            have H := Lib.hid hst; clear hst hw
            go_wp2_with fail
            go_quiet (fail)
            go_wp2_with fail
            go_ret
            exact ⟨ret_bool (by simpa using H.out), by obtain ⟨nd, rfl⟩ := hb.out; exact ⟨_, World.drewN_drewN _ _ _⟩⟩
      · go_wp2
        have hst' := HQ.out
        rw [List.drop_eq_nil_of_le (by omega), List.drop_eq_nil_of_le (by omega)] at hst'
        go_ret
        exact ⟨ret_bool hst', hb.out⟩
  · have hln : ((l.length : Int) != (l2.length : Int)) = true := by simp; omega
    have H := Lib.hid (sameL_len l l2 hll); clear hll
    go_enter Try.func14, Try.ntmps14
    go_wp2
    go_ret
    exact ⟨ret_bool (by rw [H.out]), 0, rfl⟩
theorem elemB : Elem Try.prog 42 5 1 1 := Elem.of (by kernel_rfl) (by kernel_rfl)
theorem under_string : Try.prog.underlying 9 = some .string := by kernel_rfl

set_option maxRecDepth 100000 in
set_option maxHeartbeats 400000 in
theorem put_calls (d : Nat) : ∀ (t : T) (bv sv : Value) (n0 : Nat) (xs : List UInt8) (w : World), (Rp.slice (RpT d)).rel (Apart w bv) w [sv] t.list → t.word.size ≤ 9223372036854775807 →
    OwnL Rp.u8 (fun _ => False) n0 5 w bv xs → n0 ≤ w.heap.size → xs.length + t.text.length ≤ 1048576 →
    Calls Try.prog 17 #[bv, .agg #[.bool t.leaf, .string t.word, sv]] w fun e w' => ∃ bv', e = .returned bv' ∧ OwnL Rp.u8 (fun _ => False) n0 5 w' bv' (xs ++ t.text) ∧ Upd w w' bv bv' := by
  induction d using Nat.strongRecOn with | _ d ih => ?_
  intro t bv sv n0 xs w hl hwz hown hn0 hsz
  have hte := T.text_eq t
  obtain ⟨a, c, e, hlc, hcm, hel⟩ := id hl
  injection e with e; subst e
  generalize hL : t.list = l at *
  have hlen : l.length ≤ 9223372036854775807 := by unfold maxLen at hcm; omega
  have IH := Lib.hid ih; clear ih
  have HL := Lib.hid hl; clear hl hel hcm hlc
  generalize hW : t.word = wd at *
  have HO := Lib.hid hown; clear hown
  cases hlf : t.leaf with
  | true =>
    rw [hlf, if_pos rfl] at hte
    have HT := Lib.hid hte; clear hte hlf hL hW
    have hwl : wd.size = t.text.length := by rw [HT.out]; simp
    go_enter Try.func17, Try.ntmps17
    go_wp2_with (at_builtin; refine wp_pushS rfl _ _ _ _ rfl elemB under_string rfl rfl (HO.out.ext ((Below.refl _ _).al _)) ?_ ?_ ?_)
    · omega
    · omega
    · intro v' w' hown' hU _
      have HR := Lib.hid hown'; have HU := Lib.hid ((Upd.of_ext ((Below.refl _ _).al _) bv).tr hU)
      clear hown' hU
      go_wp2
      go_ret
      exact ⟨_, rfl, by rw [HT.out]; exact HR.out, HU.out⟩
  | false =>
    rw [hlf, if_neg (by simp)] at hte
    rw [hte] at hsz
    simp only [List.length_cons, List.length_append, List.length_nil] at hsz
    have HT := Lib.hid hte; clear hte hlf hL hW
    go_enter Try.func17, Try.ntmps17
    go_wp2_with (at_builtin; refine wp_push rfl _ _ _ rfl elemB (y := 40) rfl rfl (HO.out.ext ((Below.refl _ _).al _)) (by simp) (by rfl) (by omega) (by simp; omega) ?_)
    intro v1 w1 hown1 hU1 _
    have hx1 := (Upd.of_ext ((Below.refl _ _).al _) bv).tr hU1
    have hl1 : w1.cell? ⟨w.heap.size, 2, none⟩ = some (.slice a l.length c) := by
      rw [World.cell?_of_block (hU1.block w.heap.size (by simp) (fun e => by have := (HO.out.own_lt _ e).2; omega))]; simp
    have HO1 := Lib.hid hown1
    have HU1 := Lib.hid hx1
    clear hown1 hx1 hU1
    go_wp2_with fail
    go_loopw [0, 19] (fun r i wr => ∃ k : Nat, k ≤ l.length ∧ i = .int .i64 k ∧ Hid (OwnL Rp.u8 (fun _ => False) n0 5 wr r (xs ++ 40 :: bodyL (l.take k))) ∧ Hid (Upd w wr bv r)) (fun _ i _ => l.length - (intOf i).toNat)
    case atStart => exact ⟨0, Nat.zero_le _, rfl, by simpa [bodyL, Hid] using HO1.out, HU1.out⟩
    case round =>
      obtain ⟨k, hk, rfl, HOk, HUk⟩ := hrel
      by_cases hlt : k < l.length
      · obtain ⟨b, o, a', n', c', d', rfl, hbl, hdd, h0, h1, hwz, h2, hs⟩ := elemT (HUk.out.rel HL.out) k hlt
        have HS := Lib.hid hs; clear hs
        have ih' := Lib.hid (IH.out d' (by omega)); clear IH HL hdd
        have hbt := bodyL_take l k hlt
        have hle := bodyL_le l (k + 1)
        have hn2 := HUk.out.size
        have hown2 := HOk.out.own_lt
        by_cases hk0 : 0 < k
        · rw [if_pos hk0] at hbt
          have hle2 := hle
          rw [hbt, List.length_append, List.length_append] at hle2
          simp only [List.length_cons, List.length_nil] at hle2
          have HBT := Lib.hid hbt; clear hbt
          have HW2 := Lib.hid hown2; clear hown2
          go_wp2_with (at_builtin; refine wp_push rfl _ _ _ rfl elemB (y := 32) rfl rfl (HOk.out.ext ((Below.refl _ _).al _)) (by simp) (by rfl) (by simp only [List.length_append, List.length_cons]; omega) (by simp; omega) ?_)
          intro v2 w2 hown3 hU3 _
          have hx3 := (Upd.of_ext ((Below.refl _ wr).al (.cells #[.bool l[k].leaf, .string l[k].word, .slice a' n' c'] 40)) _).tr hU3
          have hbx : ∀ j, w2.cell? ⟨wr.heap.size, j, none⟩ = (#[.bool l[k].leaf, .string l[k].word, .slice a' n' c'] : Array Value)[j]? := fun j => by
            rw [World.cell?_of_block (hU3.block wr.heap.size (by simp) (fun e => by have := (HW2.out _ e).2; omega))]; simp
          have hb0 := hbx 0
          have hb1 := hbx 1
          have hb2 := hbx 2
          simp at hb0 hb1 hb2
          have HR := Lib.hid (ih'.out l[k] v2 (.slice a' n' c') n0 _ w2 (hx3.rel HS.out) hwz hown3 (by have := hx3.size; omega) (by simp only [List.length_append, List.length_cons, List.length_nil]; omega))
          have HX3 := Lib.hid (HUk.out.tr hx3)
          clear hown3 hx3 hU3 hbx HS
          go_wp2_with fail
          refine HR.out.mono ?_
          rintro e w3 ⟨v3, rfl, ho4, hu4⟩
          have HO4 := Lib.hid ho4
          have HU4 := Lib.hid (HX3.out.tr hu4)
          clear ho4 hu4
          go_wp2_with fail
          go_roundw
          case rel => exact ⟨k + 1, by omega, by go_num, by have := HO4.out; rw [HBT.out]; simpa [Hid] using this, HU4.out⟩
          case measure => simp [intOf]; omega
        · rw [if_neg hk0] at hbt
          have hle2 := hle
          rw [hbt, List.length_append, List.length_append] at hle2
          have HBT := Lib.hid hbt; clear hbt
          have hx3 : Upd wr (wr.alloc (.cells #[.bool l[k].leaf, .string l[k].word, .slice a' n' c'] 40)) u0 u0 := Upd.of_ext ((Below.refl _ wr).al _) _
          have HR := Lib.hid (ih'.out l[k] u0 (.slice a' n' c') n0 _ (wr.alloc (.cells #[.bool l[k].leaf, .string l[k].word, .slice a' n' c'] 40)) (hx3.rel HS.out) hwz (HOk.out.ext ((Below.refl _ _).al _)) (by simp; omega) (by simp only [List.length_append, List.length_cons, List.length_nil] at hle2 ⊢; omega))
          have HX3 := Lib.hid (HUk.out.tr hx3)
          clear hown2 hx3 HS
          go_wp2_with fail
          refine HR.out.mono ?_
          rintro e w3 ⟨v3, rfl, ho4, hu4⟩
          have HO4 := Lib.hid ho4
          have HU4 := Lib.hid (HX3.out.tr hu4)
          clear ho4 hu4
          go_wp2_with fail
          go_roundw
          case rel => exact ⟨k + 1, by omega, by go_num, by have := HO4.out; rw [HBT.out]; simpa [Hid] using this, HU4.out⟩
          case measure => simp [intOf]; omega
      · have ho := HOk.out
        rw [List.take_of_length_le (by omega)] at ho
        have HO5 := Lib.hid ho; clear ho
        have hn2 := HUk.out.size
        go_wp2_with (at_builtin; refine wp_push rfl _ _ _ rfl elemB (y := 41) rfl rfl HO5.out (by rfl) (by rfl) (by simp only [List.length_append, List.length_cons]; omega) (by omega) ?_)
        intro v2 w2 hown3 hU3 _
        have HO6 := Lib.hid hown3
        have HU6 := Lib.hid (HUk.out.tr hU3)
        clear hown3 hU3
        go_wp2
        go_ret
        exact ⟨_, rfl, by have := HO6.out; rw [HT.out]; simpa using this, HU6.out⟩
def checkE (l : List T) : Int := if (sizedL l 0 0).2 = false then 2 else if wordedL l = false then 4 else 0
set_option maxRecDepth 100000 in
set_option maxHeartbeats 400000 in
theorem check_calls (d : Nat) (l : List T) (v : Value) (w : World) (hl : (Rp.slice (RpT d)).rel (Lt w.heap.size) w [v] l) :
    Calls Try.prog 10 #[v] w fun e w' => e = .returned (.int .i64 (checkE l)) ∧ Ext w w' := by
  have HL := Lib.hid hl; clear hl
  have HC : Hid (checkE l = if (sizedL l 0 0).2 = false then 2 else if wordedL l = false then 4 else 0) := rfl
  go_enter Try.func10, Try.ntmps10
  go_wp2_with fail
  refine (sized_calls d l _ 0 0 _ HL.out (by omega) (by omega) (by omega) (by omega)).mono ?_
  rintro e w1 ⟨rfl, hb1⟩
  generalize sizedL l 0 0 = r at *
  obtain ⟨r1, r2⟩ := r
  have HB := Lib.hid hb1; clear hb1
  cases r2 with
  | false =>
    go_wp2_with fail
    go_ret
    exact ⟨ret_int (by rw [HC.out]; rfl), HB.out⟩
  | true =>
    go_wp2_with fail
    refine (worded_calls d l _ _ ((Rp.slice _).below HL.out HB.out HB.out.size)).mono ?_
    rintro e w2 ⟨rfl, hb2⟩
    have HB2 := Lib.hid (HB.out.tr hb2); clear hb2
    generalize wordedL l = x at *
    cases x with
    | false =>
      go_wp2_with fail
      go_ret
      exact ⟨ret_int (by rw [HC.out]; rfl), HB2.out⟩
    | true =>
      go_wp2_with fail
      go_ret
      exact ⟨ret_int (by rw [HC.out]; rfl), HB2.out⟩
set_option maxHeartbeats 400000 in
theorem Told_calls (d : Nat) (l : List T) (v : Value) (w : World) (hl : (Rp.slice (RpT d)).rel (Lt w.heap.size) w [v] l) :
    Calls Try.prog 8 #[v] w fun e w' => ∃ a c, e = .returned (.slice a (toldL l 100002).1.length c) ∧ Ext w w' ∧ (Rp.slice (RpT d)).rel (Mo (fun _ => False) w.heap.size w') w' [.slice a (toldL l 100002).1.length c] (toldL l 100002).1 := by
  have HL := Lib.hid hl; clear hl
  go_enter Try.func8, Try.ntmps8
  go_wp2_with fail
  refine (told_calls d l _ 100002 _ HL.out (by omega) (by omega)).mono ?_
  rintro e w1 ⟨a, c, rfl, hb1, hr⟩
  have HB := Lib.hid hb1; clear hb1
  have HR := Lib.hid hr; clear hr
  go_wp2_with fail
  go_ret
  exact ⟨a, c, rfl, HB.out, HR.out⟩
theorem word_calls (s : ByteArray) (w : World) :
    Calls Try.prog 16 #[.string s] w fun e w' => e = .returned (.agg #[.bool true, .string s, .slice none 0 0]) ∧ Ext w w' := by
  go_enter Try.func16, Try.ntmps16
  go_wp2
  exact bodyPost_ret (v := .agg #[.bool true, .string s, .slice none 0 0]) (by simp [results, Try.results16, go_sem]) rfl ⟨rfl, (Below.refl _ _).al _⟩

theorem linesL_append (a b : List T) : linesL (a ++ b) = linesL a ++ linesL b := by
  induction a with
  | nil => rfl
  | cons t r ih => simp [linesL, ih]
theorem linesL_take (l : List T) (k : Nat) (h : k < l.length) : linesL (l.take (k + 1)) = linesL (l.take k) ++ l[k].text ++ [10] := by
  rw [List.take_succ_eq_append_getElem h, linesL_append]; simp [linesL]
theorem linesL_le (l : List T) (k : Nat) : (linesL (l.take k)).length ≤ (linesL l).length := by
  have := linesL_append (l.take k) (l.drop k)
  rw [List.take_append_drop] at this
  rw [this, List.length_append]
  omega
set_option maxRecDepth 100000 in
set_option maxHeartbeats 400000 in
theorem print_calls (d : Nat) (l : List T) (v : Value) (w : World) (hl : (Rp.slice (RpT d)).rel (Lt w.heap.size) w [v] l) (hz : (linesL l).length ≤ 1048576) :
    Calls Try.prog 6 #[v] w fun e w' => ∃ s : ByteArray, e = .returned (.tuple #[.string s, .int .i64 (checkE l)]) ∧ s.data.toList = (if checkE l = 0 then linesL l else []) ∧ Ext w w' := by
  obtain ⟨a, c, e, hlc, hcm, hel⟩ := id hl
  injection e with e; subst e
  have hlen : l.length ≤ 9223372036854775807 := by unfold maxLen at hcm; omega
  have HL := Lib.hid hl; clear hl hel hcm hlc
  by_cases hc : checkE l = 0
  · have hcc := check_calls d l _ _ HL.out
    rw [if_pos hc]
    rw [hc] at hcc ⊢
    have HCC := Lib.hid hcc; clear hcc hc
    go_enter Try.func6, Try.ntmps6
    go_wp2_with fail
    refine HCC.out.mono ?_
    rintro e w1 ⟨rfl, hb1⟩
    have HB := Lib.hid hb1; clear hb1
    have hl1 := (Rp.slice _).below HL.out HB.out HB.out.size
    have HL1 := Lib.hid hl1; clear hl1
    go_wp2_with fail
    go_loopw [5, 15] (fun r i wr => ∃ k : Nat, k ≤ l.length ∧ i = .int .i64 k ∧ Hid (OwnL Rp.u8 (fun _ => False) w1.heap.size 5 wr r (linesL (l.take k))) ∧ Hid (Upd w1 wr (.slice none 0 0) r)) (fun _ i _ => l.length - (intOf i).toNat)
    case atStart => exact ⟨0, Nat.zero_le _, rfl, OwnL.nil _ _ _ _ _, Upd.refl _ _⟩
    case round =>
      obtain ⟨k, hk, rfl, HOk, HUk⟩ := hrel
      have hn2 := HUk.out.size
      by_cases hlt : k < l.length
      · obtain ⟨b, o, a', n', c', d', rfl, hbl, hdd, h0, h1, hwz, h2, hs⟩ := elemT (HUk.out.rel ((Rp.slice _).mono HL1.out fun b hb => ⟨hb, by simp [Value.ownBlock]⟩)) k hlt
        have hbt := linesL_take l k hlt
        have hle := linesL_le l (k + 1)
        rw [hbt] at hle
        simp only [List.length_append, List.length_cons, List.length_nil] at hle
        have hx3 : Upd wr (wr.alloc (.cells #[.bool l[k].leaf, .string l[k].word, .slice a' n' c'] 40)) u5 u5 := Upd.of_ext ((Below.refl _ wr).al _) _
        have HR := Lib.hid (put_calls d' l[k] u5 (.slice a' n' c') w1.heap.size _ (wr.alloc (.cells #[.bool l[k].leaf, .string l[k].word, .slice a' n' c'] 40)) (hx3.rel hs) hwz (HOk.out.ext ((Below.refl _ _).al _)) (by simp; omega) (by omega))
        have HX3 := Lib.hid (HUk.out.tr hx3)
        have HBT := Lib.hid hbt
        clear hs hx3 hbt
        go_wp2_with fail
        refine HR.out.mono ?_
        rintro e w3 ⟨v3, rfl, ho4, hu4⟩
        have HO4 := Lib.hid ho4
        have hu5 := HX3.out.tr hu4
        have hn3 := hu5.size
        have HU4 := Lib.hid hu5
        clear ho4 hu4 hu5
        go_wp2_with (at_builtin; refine wp_push rfl _ _ _ rfl elemB (y := 10) rfl rfl HO4.out (by rfl) (by rfl) (by simp only [List.length_append]; omega) (by omega) ?_)
        intro v4 w4 ho6 hu6 _
        have HO6 := Lib.hid ho6
        have HU6 := Lib.hid (HU4.out.tr hu6)
        clear ho6 hu6
        go_wp2_with fail
        go_roundw
        case rel => exact ⟨k + 1, by omega, by go_num, by have := HO6.out; rw [HBT.out]; simpa [Hid] using this, HU6.out⟩
        case measure => simp [intOf]; omega
      · have ho := HOk.out
        rw [List.take_of_length_le (by omega)] at ho
        have hcv := ho.toStr (P := Try.prog) 42 9 (by kernel_rfl) (by kernel_rfl) (by kernel_rfl)
        have HX := Lib.hid (HB.out.trans (HUk.out.below (Nat.le_refl _) (fun g hg => by simp [Value.ownBlock] at hg) |>.mono HB.out.size))
        clear ho
        go_wp2
        go_ret2
        exact ⟨_, rfl, rfl, HX.out⟩
  · have hcc := check_calls d l _ _ HL.out
    rw [if_neg hc]
    have hcn : ((checkE l) != 0) = true := by simpa using hc
    have HCC := Lib.hid hcc; clear hcc hc
    go_enter Try.func6, Try.ntmps6
    go_wp2_with fail
    refine HCC.out.mono ?_
    rintro e w1 ⟨rfl, hb1⟩
    have HB := Lib.hid hb1; clear hb1
    go_wp2_with fail
    go_ret2
    exact ⟨_, rfl, rfl, HB.out⟩
def Rd (w : World) (b : Nat) (s : ByteArray) (at_ nd er pl : Int) : Prop := w.heap[b]? = some (.cells #[.string s, .int .i64 at_, .int .i64 nd, .int .i64 er, .int .i64 pl] 54 (0, 0))
abbrev rv (b : Nat) : Value := .slice (some ⟨b, 0, none⟩) 0 0
theorem Rd.cell {w : World} {b : Nat} {s : ByteArray} {at_ nd er pl : Int} (h : Rd w b s at_ nd er pl) : w.cell? ⟨b, 0, none⟩ = some (.string s) ∧ w.cell? ⟨b, 1, none⟩ = some (.int .i64 at_) ∧ w.cell? ⟨b, 2, none⟩ = some (.int .i64 nd) ∧ w.cell? ⟨b, 3, none⟩ = some (.int .i64 er) ∧ w.cell? ⟨b, 4, none⟩ = some (.int .i64 pl) ∧ ∀ j, w.frozen? ⟨b, j, none⟩ = false := by
  unfold Rd at h
  simp [World.cell?, World.frozen?, h]
theorem Rd.set_at {w : World} {b : Nat} {s : ByteArray} {at_ nd er pl : Int} (h : Rd w b s at_ nd er pl) (n : Nat) (x : Int) : Rd ((w.drewN n).setCell ⟨b, 1, none⟩ (.int .i64 x)) b s x nd er pl := by
  unfold Rd at h ⊢
  simp [World.setCell, Array.getElem?_modify, h]
theorem Upd.dN {w wr : World} {u v : Value} (h : Upd w wr u v) (n : Nat) : Upd w (wr.drewN n) u v := ⟨h.os, h.tape, h.output, h.size, h.block, h.own⟩
theorem Upd.set_rv {w wr : World} {b : Nat} (h : Upd w wr (rv b) (rv b)) (n j : Nat) (x : Value) : Upd w ((wr.drewN n).setCell ⟨b, j, none⟩ x) (rv b) (rv b) :=
  ⟨h.os, h.tape, h.output, by have := h.size; simpa [World.setCell] using this, fun k hk hne => by
    rw [Below.heap_setCell _ _ _ _ (fun e => hne (by rw [e]; rfl))]; exact h.block k hk hne, fun g hg => h.own g hg⟩
theorem drop_byte (s : ByteArray) (p : Nat) (h : p < s.size) : s.data.toList.drop p = s[p] :: s.data.toList.drop (p + 1) := by
  rw [List.drop_eq_getElem_cons (by simpa using h)]; rfl
theorem byte_eq (c : UInt8) (n : Nat) (hn : n < 256) : (((c.toNat : Int)) == (n : Int)) = (c == UInt8.ofNat n) := by
  rw [Bool.eq_iff_iff]
  simp only [beq_iff_eq]
  constructor
  · intro h; have h' : c.toNat = n := by omega
    rw [← h']; simp
  · rintro rfl
    simp; omega
theorem skip_blank (c : UInt8) (r : List UInt8) (h : isBlank c = true) : skipL false (c :: r) = skipL false r := by simp [skipL, h]
theorem skip_rem {c : UInt8} (r : List UInt8) (h : c = 59) : skipL false (c :: r) = skipL true (c :: r) := by subst h; simp [skipL, isBlank]
theorem skip_stop {c : UInt8} (r : List UInt8) (h : isBlank c = false) (h2 : (c == 59) = false) : skipL false (c :: r) = c :: r := by simp [skipL, h, h2]
theorem skip_in {c : UInt8} (r : List UInt8) (h : (c == 10) = false) : skipL true (c :: r) = skipL true r := by simp [skipL, h]
theorem skip_out {c : UInt8} (r : List UInt8) (h : (c == 10) = true) : skipL true (c :: r) = skipL false (c :: r) := by
  simp only [beq_iff_eq] at h; subst h; simp [skipL, isBlank]
set_option maxRecDepth 100000 in
set_option maxHeartbeats 800000 in
theorem skip_calls (b : Nat) (s : ByteArray) (p : Nat) (nd er pl : Int) (w : World) (hr : Rd w b s p nd er pl) (hp : p ≤ s.size) (hs : s.size ≤ 1000000) :
    Calls Try.prog 24 #[.pointer (some ⟨b, 0, none⟩)] w fun e w' => ∃ p' : Nat, e = .returned (.tuple #[]) ∧ p ≤ p' ∧ p' ≤ s.size ∧ s.data.toList.drop p' = skipL false (s.data.toList.drop p) ∧ Rd w' b s p' nd er pl ∧ Upd w w' (rv b) (rv b) := by
  have HR := Lib.hid hr; clear hr
  go_enter Try.func24, Try.ntmps24
  go_wp2_with fail
  go_loopw [] (fun wr => ∃ p' : Nat, p ≤ p' ∧ p' ≤ s.size ∧ Hid (skipL false (s.data.toList.drop p') = skipL false (s.data.toList.drop p)) ∧ Hid (Rd wr b s p' nd er pl) ∧ Hid (Upd w wr (rv b) (rv b))) (fun wr => s.size - (intOf ((wr.cell? ⟨b, 1, none⟩).getD undef)).toNat)
  case atStart => exact ⟨p, Nat.le_refl _, hp, rfl, HR.out, Upd.refl _ _⟩
  case round =>
    obtain ⟨p', hp1, hp2, HQ, HRr, HU⟩ := hrel
    obtain ⟨c0, c1, c2, c3, c4, hf⟩ := HRr.out.cell
    by_cases hlt : p' < s.size
    · have hdb := drop_byte s p' hlt
      have e32 := byte_eq s[p'] 32 (by omega)
      have e9 := byte_eq s[p'] 9 (by omega)
      have e10 := byte_eq s[p'] 10 (by omega)
      have e13 := byte_eq s[p'] 13 (by omega)
      have e59 := byte_eq s[p'] 59 (by omega)
      have HE : Hid (isBlank s[p'] = (((s[p'].toNat : Int) == 32) || ((s[p'].toNat : Int) == 9) || ((s[p'].toNat : Int) == 10) || ((s[p'].toNat : Int) == 13)) ∧ (s[p'] == 59) = ((s[p'].toNat : Int) == 59)) := by
        refine ⟨?_, e59.symm⟩
        show (_ || _ || _ || _) = _
        rw [show ((s[p'].toNat : Int) == 32) = _ from e32, show ((s[p'].toNat : Int) == 9) = _ from e9, show ((s[p'].toNat : Int) == 10) = _ from e10, show ((s[p'].toNat : Int) == 13) = _ from e13]
        rfl
      clear e32 e9 e10 e13 e59
      have HDB := Lib.hid hdb; clear hdb
      by_cases hbl : isBlank s[p'] = true
      · have hq := HQ.out
        rw [HDB.out, skip_blank _ _ hbl] at hq
        have HQ2 := Lib.hid hq
        have HB := Lib.hid hbl
        clear hq hbl
        go_wp2_with fail
        go_quiet (fail)
        go_wp2_with fail
        go_quiet (fail)
        go_wp2_with fail
        all_goals first
          | (exfalso; have h9 := HB.out; rw [HE.out.1] at h9; simp [*] at h9; done)
          | skip
        all_goals go_roundw
        all_goals first
          | exact ⟨p' + 1, by omega, by omega, HQ2.out, HRr.out.set_at _ _, HU.out.set_rv _ _ _⟩
          | (rw [((HRr.out.set_at _ _).cell).2.1, c1]; simp [intOf]; omega)
      · have hbf : isBlank s[p'] = false := by simpa using hbl
        have HB := Lib.hid hbf
        by_cases h59 : (s[p'] == 59) = true
        · have hq := HQ.out
          rw [HDB.out, skip_rem _ (by simpa using h59), ← HDB.out] at hq
          have HQ2 := Lib.hid hq
          have H59 := Lib.hid h59
          clear hq hbl hbf h59
          go_wp2_with fail
          go_quiet (fail)
          go_wp2_with fail
          go_quiet (fail)
          go_wp2_with fail
          all_goals first
            | (exfalso; have h9 := HB.out; rw [HE.out.1] at h9; simp [*] at h9; done)
            | (exfalso; have h9 := H59.out; rw [HE.out.2] at h9; simp [*] at h9; done)
            | skip
          have hn1 : p' < s.size := hlt
          clear c0 c1 c2 c3 c4 hf
          go_loopw [] (fun wr => ∃ q : Nat, p' ≤ q ∧ q ≤ s.size ∧ Hid (skipL true (s.data.toList.drop q) = skipL false (s.data.toList.drop p)) ∧ Hid (Rd wr b s q nd er pl) ∧ Hid (Upd w wr (rv b) (rv b))) (fun wr => s.size - (intOf ((wr.cell? ⟨b, 1, none⟩).getD undef)).toNat)
          case atStart => exact ⟨p', Nat.le_refl _, by omega, HQ2.out, HRr.out, HU.out.dN _⟩
          case round =>
            obtain ⟨q, hq1, hq2, HQq, HRq, HUq⟩ := hrel
            obtain ⟨c0, c1, c2, c3, c4, hf⟩ := HRq.out.cell
            by_cases hql : q < s.size
            · have HDq := Lib.hid (drop_byte s q hql)
              have e10 := byte_eq s[q] 10 (by omega)
              cases hc : (s[q] == 10) with
              | true =>
                have h10 : ((s[q].toNat : Int) != 10) = false := by
                  rw [show (10 : Int) = ((10 : Nat) : Int) from rfl, bne, e10]; simpa using hc
                have hqe := HQq.out
                rw [HDq.out, skip_out _ hc, ← HDq.out] at hqe
                have hne : q ≠ p' := by
                  rintro rfl
                  have h1 := H59.out
                  simp only [beq_iff_eq] at h1 hc
                  rw [h1] at hc
                  exact absurd hc (by decide)
                have hlt2 : p' < q := by omega
                have HQe := Lib.hid hqe
                clear hqe e10 hc hne
                go_wp2_with fail
                go_quiet (fail)
                go_wp2_with fail
                go_roundw
                case rel => exact ⟨q, by omega, by omega, HQe.out, HRq.out, HUq.out.dN _⟩
                case measure =>
                  rw [show (World.drewN _ _).cell? _ = _ from c1, (HRr.out.cell).2.1]; simp [intOf]; omega
              | false =>
                have h10 : ((s[q].toNat : Int) != 10) = true := by
                  rw [show (10 : Int) = ((10 : Nat) : Int) from rfl, bne, e10]; simpa using hc
                have hqe := HQq.out
                rw [HDq.out, skip_in _ hc] at hqe
                have HQe := Lib.hid hqe
                clear hqe e10 hc
                go_wp2_with fail
                go_quiet (fail)
                go_wp2_with fail
                go_roundw
                case rel => exact ⟨q + 1, by omega, by omega, HQe.out, HRq.out.set_at _ _, HUq.out.set_rv _ _ _⟩
                case measure => rw [((HRq.out.set_at _ _).cell).2.1, c1]; simp [intOf]; omega
            · have hqe := HQq.out
              rw [List.drop_eq_nil_of_le (by simpa using hql)] at hqe
              have HQe := Lib.hid hqe; clear hqe
              go_wp2_with fail
              go_quiet (fail)
              go_wp2_with fail
              go_roundw
              case rel => exact ⟨q, by omega, by omega, by rw [List.drop_eq_nil_of_le (by simpa using hql)]; exact HQe.out, HRq.out, HUq.out.dN _⟩
              case measure =>
                rw [show (World.drewN _ _).cell? _ = _ from c1, (HRr.out.cell).2.1]; simp [intOf]; omega
        · have hq := HQ.out
          rw [HDB.out, skip_stop _ hbf (by simpa using h59), ← HDB.out] at hq
          have HQ2 := Lib.hid hq
          have h59f : (s[p'] == 59) = false := by simpa using h59
          have H59 := Lib.hid h59f
          clear hq hbl hbf h59 h59f
          go_wp2_with fail
          go_quiet (fail)
          go_wp2_with fail
          go_quiet (fail)
          go_wp2_with fail
          all_goals first
            | (exfalso; have h9 := HB.out; rw [HE.out.1] at h9; simp [*] at h9; done)
            | (exfalso; have h9 := H59.out; rw [HE.out.2] at h9; simp [*] at h9; done)
            | skip
          exact bodyPost_ret (results_none rfl _ _ _) rfl ⟨p', rfl, hp1, hp2, HQ2.out, HRr.out, HU.out.dN _⟩
    · have hq := HQ.out
      rw [List.drop_eq_nil_of_le (by simpa using hlt)] at hq
      have HQ2 := Lib.hid hq; clear hq
      go_wp2_with fail
      go_quiet (fail)
      go_wp2_with fail
      go_end0
      exact ⟨p', rfl, hp1, hp2, by rw [← HQ2.out, List.drop_eq_nil_of_le (by simpa using hlt)]; rfl, HRr.out, HU.out.dN _⟩
theorem Upd.new {w w1 : World} {u v : Value} (h : Upd w w1 u v) {p : Addr} (hp : w.heap.size ≤ p.block) (x : Value) : Upd w (w1.setCell p x) u v :=
  ⟨h.os, h.tape, h.output, by have := h.size; simpa [World.setCell] using this, fun k hk hne => by rw [Below.heap_setCell _ _ _ _ (by omega)]; exact h.block k hk hne, h.own⟩
abbrev no : Nat → Prop := fun _ => False
/-- What reading a list comes to. -/
def ListPost (b : Nat) (s : ByteArray) (dd : Nat) (X : PR) (w : World) (e : Ending) (w' : World) : Prop :=
  ∃ (l : List T) (a : Option Addr) (c p' : Nat) (n' er' pl' : Int), e = .returned (.slice a l.length c) ∧ (Rp.slice (RpT dd)).rel (Mo no w.heap.size w') w' [.slice a l.length c] l ∧ Rd w' b s p' n' er' pl' ∧ p' ≤ s.size ∧ Upd w w' (rv b) (rv b) ∧
    match X with
    | .ok out rest nn => l = out ∧ er' = 0 ∧ n' = nn ∧ s.data.toList.drop p' = rest ∧ nn ≤ 100000
    | .bad ee left => er' = ee ∧ (ee = 2 ∨ ee = 3) ∧ pl' = s.size - left
def OnePost (b : Nat) (s : ByteArray) (dd : Nat) (X : PR) (w : World) (e : Ending) (w' : World) : Prop :=
  ∃ (t : T) (c0 c1 c2 : Value) (p' : Nat) (n' er' pl' : Int), e = .returned (.agg #[c0, c1, c2]) ∧ (RpT dd).rel (Mo no w.heap.size w') w' [c0, c1, c2] t ∧ Rd w' b s p' n' er' pl' ∧ p' ≤ s.size ∧ Upd w w' (rv b) (rv b) ∧
    match X with
    | .ok out rest nn => out = [t] ∧ er' = 0 ∧ n' = nn ∧ s.data.toList.drop p' = rest ∧ nn ≤ 100000
    | .bad ee left => er' = ee ∧ (ee = 2 ∨ ee = 3) ∧ pl' = s.size - left
/-- What one word or list at the beginning comes to. -/
def oneL (f : Nat) (d : Int) (c : UInt8) (r : List UInt8) (n : Int) : PR :=
  if c = 40 then (parseL f (d + 1) r n).next fun sub r' n' => .ok [.mk false .empty sub] r' n'
  else if isPlain c then .ok [.mk true ⟨((c :: r).takeWhile isPlain).toArray⟩ []] ((c :: r).dropWhile isPlain) n
  else .bad 3 (r.length + 1)
theorem Rd.setN {w : World} {b : Nat} {s : ByteArray} {at_ nd er pl : Int} (h : Rd w b s at_ nd er pl) (n : Nat) : Rd (w.drewN n) b s at_ nd er pl := h
theorem Rd.alloc {w : World} {b : Nat} {s : ByteArray} {at_ nd er pl : Int} (h : Rd w b s at_ nd er pl) (o : Obj) : Rd (w.alloc o) b s at_ nd er pl := by
  unfold Rd at h ⊢
  rw [heap_alloc_old w o (Array.getElem?_eq_some_iff.1 h).1, h]
theorem Rd.lt {w : World} {b : Nat} {s : ByteArray} {at_ nd er pl : Int} (h : Rd w b s at_ nd er pl) : b < w.heap.size := (Array.getElem?_eq_some_iff.1 h).1
theorem Rd.fail {w : World} {b : Nat} {s : ByteArray} {at_ nd er pl : Int} (h : Rd w b s at_ nd er pl) (x y : Int) : Rd ((w.setCell ⟨b, 3, none⟩ (.int .i64 x)).setCell ⟨b, 4, none⟩ (.int .i64 y)) b s at_ nd x y := by
  unfold Rd at h ⊢
  simp [World.setCell, Array.getElem?_modify, h]
theorem Upd.set1 {w wr : World} {b : Nat} (h : Upd w wr (rv b) (rv b)) (j : Nat) (x : Value) : Upd w (wr.setCell ⟨b, j, none⟩ x) (rv b) (rv b) := by
  have := h.set_rv 0 j x
  exact this
theorem fail_calls (b : Nat) (s : ByteArray) (at_ nd pl p er : Int) (w : World) (hr : Rd w b s at_ nd 0 pl) :
    Calls Try.prog 25 #[.pointer (some ⟨b, 0, none⟩), .int .i64 p, .int .i64 er] w fun e w' => e = .returned (.tuple #[]) ∧ Rd w' b s at_ nd er p ∧ Upd w w' (rv b) (rv b) := by
  obtain ⟨c0, c1, c2, c3, c4, hf⟩ := hr.cell
  have HR := Lib.hid hr; clear hr
  go_enter Try.func25, Try.ntmps25
  go_wp2
  go_end0
  exact ⟨rfl, HR.out.fail _ _, ((Upd.refl _ _).set1 _ _).set1 _ _⟩

theorem Rd.other {w : World} {b : Nat} {s : ByteArray} {at_ nd er pl : Int} (h : Rd w b s at_ nd er pl) {p : Addr} (hp : p.block ≠ b) (x : Value) : Rd (w.setCell p x) b s at_ nd er pl := by
  unfold Rd at h ⊢
  rw [Below.heap_setCell _ _ _ _ (fun e => hp e.symm)]; exact h
theorem word_end {b p q k D : Nat} {s : ByteArray} {n er pl : Int} {w wr : World} (hU : Upd w wr (rv b) (rv b)) (hR : Rd wr b s q n er pl) (hbl : b < w.heap.size) (hq : q ≤ s.size) (hsz : (s.extract p q).size ≤ 9223372036854775807) (X : PR)
    (hX : match X with
    | .ok out rest nn => out = [.mk true (s.extract p q) []] ∧ er = 0 ∧ n = nn ∧ s.data.toList.drop q = rest ∧ nn ≤ 100000
    | .bad ee left => er = ee ∧ (ee = 2 ∨ ee = 3) ∧ pl = s.size - left) :
    OnePost b s (D + 1) X w (.returned (.agg #[.bool true, .string (s.extract p q), .slice none 0 0]))
      ((((wr.drewN k).setCell ⟨w.heap.size, 0, none⟩ (.bool true)).setCell ⟨w.heap.size, 1, none⟩ (.string (s.extract p q))).setCell ⟨w.heap.size, 2, none⟩ (.slice none 0 0)) :=
  ⟨.mk true (s.extract p q) [], _, _, _, q, n, er, pl, rfl, mkT ⟨none, 0, rfl, by simp, by simp [maxLen], by simp⟩ hsz,
    (((hR.setN k).other (by simp; omega) _).other (by simp; omega) _).other (by simp; omega) _, hq, (((hU.dN k).new (by simp) _).new (by simp) _).new (by simp) _, hX⟩
theorem extract_list (s : ByteArray) (p q : Nat) : (s.extract p q).data.toList = (s.data.toList.drop p).take (q - p) := by
  simp [ByteArray.data_extract, List.take_drop, List.extract]
theorem word_at {s : ByteArray} {p q : Nat} (hpq : p ≤ q) (hA : ((s.data.toList.drop p).take (q - p)).all isPlain = true) (hE : Ends (s.data.toList.drop q)) :
    (⟨((s.data.toList.drop p).takeWhile isPlain).toArray⟩ : ByteArray) = s.extract p q ∧ (s.data.toList.drop p).dropWhile isPlain = s.data.toList.drop q := by
  have e1 : s.data.toList.drop p = (s.data.toList.drop p).take (q - p) ++ s.data.toList.drop q := by
    have := List.take_append_drop (q - p) (s.data.toList.drop p)
    rw [List.drop_drop, show p + (q - p) = q by omega] at this
    exact this.symm
  have h := take_word hA hE
  rw [← e1] at h
  refine ⟨?_, h.2⟩
  rw [h.1, ← extract_list]
theorem first_plain {s : ByteArray} {p q : Nat} (hpq : p < q) (hp : p < s.size) (hA : ((s.data.toList.drop p).take (q - p)).all isPlain = true) : isPlain s[p] = true := by
  rw [drop_byte s p hp, show q - p = (q - p - 1) + 1 by omega, List.take_succ_cons, List.all_cons, Bool.and_eq_true] at hA
  exact hA.1
set_option maxRecDepth 100000 in
set_option maxHeartbeats 1600000 in
theorem one_calls (b : Nat) (s : ByteArray) (f p : Nat) (d n pl : Int) (w : World) (hr : Rd w b s p n 0 pl) (hp : p < s.size) (hs : s.size ≤ 1000000) (hd0 : 0 ≤ d) (hd1 : d ≤ 200) (hn : n ≤ 100000) (hd2 : s[p] = 40 → d < 200)
    (hls : s[p] = 40 → ∀ (w : World), Rd w b s (p + 1 : Nat) n 0 pl →
      Calls Try.prog 22 #[.pointer (some ⟨b, 0, none⟩), .int .i64 (d + 1)] w (ListPost b s (200 - d.toNat) (parseL f (d + 1) (s.data.toList.drop (p + 1)) n) w)) :
    Calls Try.prog 26 #[.pointer (some ⟨b, 0, none⟩), .int .i64 d] w (OnePost b s (201 - d.toNat) (oneL f d s[p] (s.data.toList.drop (p + 1)) n) w) := by
  obtain ⟨c0, c1, c2, c3, c4, hf⟩ := hr.cell
  have hbl := hr.lt
  have e40 := byte_eq s[p] 40 (by omega)
  by_cases h40 : s[p] = 40
  · have hc : ((s[p].toNat : Int) == 40) = true := by rw [show (40 : Int) = ((40 : Nat) : Int) from rfl, e40, h40]; rfl
    have HLS := Lib.hid (hls h40); clear hls
    have HX : Hid (oneL f d s[p] (s.data.toList.drop (p + 1)) n = (parseL f (d + 1) (s.data.toList.drop (p + 1)) n).next fun sub r' n' => .ok [.mk false .empty sub] r' n') := by
      unfold oneL; rw [if_pos h40]; rfl
    rw [HX.out]
    have hd3 := hd2 h40
    generalize parseL f (d + 1) (s.data.toList.drop (p + 1)) n = X at *
    have HR := Lib.hid hr
    clear hr e40 h40 HX hd2
    go_enter Try.func26, Try.ntmps26
    go_wp2_with fail
    go_quiet (fail)
    go_wp2_with fail
    refine (HLS.out _ ((HR.out.alloc _).set_at _ _)).mono ?_
    rintro e w1 ⟨l, a, c, p', n', er', pl', rfl, hl, hR, hp', hU, hX⟩
    have hbk : w1.heap[w.heap.size]? = some (.cells #[.bool false, .string ⟨#[]⟩, .slice none 0 0] 40 (0, 0)) := by
      rw [hU.block w.heap.size (by simp [World.setCell]) (fun e => by injection e with e; simp at e; omega), Below.heap_setCell _ _ _ _ (by simp; omega)]
      exact heap_alloc_new w _
    have k0 : w1.cell? ⟨w.heap.size, 0, none⟩ = some (.bool false) := by simp [World.cell?, hbk]
    have k1 : w1.cell? ⟨w.heap.size, 1, none⟩ = some (.string ⟨#[]⟩) := by simp [World.cell?, hbk]
    have k2 : w1.cell? ⟨w.heap.size, 2, none⟩ = some (.slice none 0 0) := by simp [World.cell?, hbk]
    have k3 : ∀ j, w1.frozen? ⟨w.heap.size, j, none⟩ = false := fun j => by simp [World.frozen?, hbk]
    have hsz := hU.size
    simp [World.setCell] at hsz
    have HXX := Lib.hid hX
    have HU : Hid (Upd w w1 (rv b) (rv b)) := (((Upd.of_ext ((Below.refl _ w).al _) (rv b)).set_rv _ _ _).tr hU)
    have HL : Hid ((Rp.slice (RpT (200 - d.toNat))).rel (Mo no (w.heap.size + 1) w1) w1 [.slice a l.length c] l) := by simpa [World.setCell, Hid] using hl
    have HRR := Lib.hid hR
    clear hU hl hR hX hbk
    go_wp2_with fail
    refine bodyPost_ret (v := .agg #[.bool false, .string ⟨#[]⟩, .slice a l.length c]) (by simp [results, Try.results26, go_sem, k0, k1, k2]) rfl ?_
    have hw2 : Upd w (((w1.setCell ⟨w.heap.size, 0, none⟩ (.bool false)).setCell ⟨w.heap.size, 1, none⟩ (.string ⟨#[]⟩)).setCell ⟨w.heap.size, 2, none⟩ (.slice a l.length c)) (rv b) (rv b) := ((HU.out.new (by simp) _).new (by simp) _).new (by simp) _
    have hl2 : (Rp.slice (RpT (200 - d.toNat))).rel (Mo no w.heap.size (((w1.setCell ⟨w.heap.size, 0, none⟩ (.bool false)).setCell ⟨w.heap.size, 1, none⟩ (.string ⟨#[]⟩)).setCell ⟨w.heap.size, 2, none⟩ (.slice a l.length c))) (((w1.setCell ⟨w.heap.size, 0, none⟩ (.bool false)).setCell ⟨w.heap.size, 1, none⟩ (.string ⟨#[]⟩)).setCell ⟨w.heap.size, 2, none⟩ (.slice a l.length c)) [.slice a l.length c] l := by
      refine (Rp.slice _).keep HL.out fun k hk => ?_
      have h1 := hk.1.resolve_left id
      have h2 := hk.2
      refine ⟨⟨.inr (by omega), by simpa [World.setCell] using h2⟩, ?_⟩
      rw [Below.heap_setCell _ _ _ _ (by simp; omega), Below.heap_setCell _ _ _ _ (by simp; omega), Below.heap_setCell _ _ _ _ (by simp; omega)]
    refine ⟨.mk false .empty l, _, _, _, p', n', er', pl', rfl, ?_, ((HRR.out.other (by simp; omega) _).other (by simp; omega) _).other (by simp; omega) _, hp', hw2, ?_⟩
    · rw [show 201 - d.toNat = (200 - d.toNat) + 1 by omega]
      exact mkT hl2 (by decide)
    · have hX := HXX.out
      cases X with
      | ok out rest nn => obtain ⟨rfl, h2, h3, h4, h5⟩ := hX; exact ⟨rfl, h2, h3, h4, h5⟩
      | bad ee left => exact hX
  · have hc : ((s[p].toNat : Int) == 40) = false := by rw [show (40 : Int) = ((40 : Nat) : Int) from rfl, e40]; simpa using h40
    have HDP := Lib.hid (drop_byte s p hp)
    have HX : Hid (oneL f d s[p] (s.data.toList.drop (p + 1)) n = if isPlain s[p] then .ok [.mk true ⟨((s.data.toList.drop p).takeWhile isPlain).toArray⟩ []] ((s.data.toList.drop p).dropWhile isPlain) n else .bad 3 ((s.data.toList.drop p).length)) := by
      unfold oneL; rw [if_neg h40, ← HDP.out]
      congr 1
      rw [HDP.out]; rfl
    rw [HX.out]
    generalize hXe : (if isPlain s[p] then PR.ok [.mk true ⟨((s.data.toList.drop p).takeWhile isPlain).toArray⟩ []] ((s.data.toList.drop p).dropWhile isPlain) n else .bad 3 ((s.data.toList.drop p).length)) = X
    have HXE := Lib.hid hXe
    have HR := Lib.hid hr
    clear hr e40 h40 HX hd2 hls hXe
    go_enter Try.func26, Try.ntmps26
    go_wp2_with fail
    go_quiet (fail)
    go_wp2_with fail
    go_loopw [] (fun wr => ∃ q : Nat, p ≤ q ∧ q ≤ s.size ∧ Hid (((s.data.toList.drop p).take (q - p)).all isPlain = true) ∧ Hid (Rd wr b s q n 0 pl) ∧ Hid (Upd w wr (rv b) (rv b)) ∧ Hid (wr.heap[w.heap.size]? = some (.cells #[.bool false, .string ⟨#[]⟩, .slice none 0 0] 40 (0, 0)))) (fun wr => s.size - (intOf ((wr.cell? ⟨b, 1, none⟩).getD undef)).toNat)
    case atStart => exact ⟨p, Nat.le_refl _, by omega, by simp [Hid], HR.out.alloc _, (Upd.of_ext ((Below.refl _ w).al _) (rv b)).dN _, heap_alloc_new w _⟩
    case round =>
      obtain ⟨q, hq1, hq2, HA, HRr, HU, HK⟩ := hrel
      clear c0 c1 c2 c3 c4 hf
      obtain ⟨c0, c1, c2, c3, c4, hf⟩ := HRr.out.cell
      by_cases hql : q < s.size
      · cases hpl : isPlain s[q] with
        | true =>
          have hA := HA.out
          have HA2 : Hid (((s.data.toList.drop p).take (q + 1 - p)).all isPlain = true) := by
            have e1 : q + 1 - p = (q - p) + 1 := by omega
            have e2 : (s.data.toList.drop p).take (q - p + 1) = (s.data.toList.drop p).take (q - p) ++ [s[q]] := by
              rw [List.take_succ_eq_append_getElem (by simp; omega)]
              congr 2
              rw [List.getElem_drop]
              have e3 : p + (q - p) = q := by omega
              simp only [e3]
              rfl
            show _ = true
            rw [e1, e2, List.all_append, hA]
            simp [hpl]
          have HPC : Hid (∀ w, Calls Try.prog 23 #[.int .u8 s[q].toNat] w fun e w' => e = .returned (.bool true) ∧ w' = w) := fun w => by
            have := plain_calls s[q] w
            rw [hpl] at this
            exact this.mono fun _ _ h => ⟨h.1, h.2.symm⟩
          clear hA hpl
          go_wp2_with fail
          go_quiet ((go_at_call 23; exact Calls.quiet_of_same (HPC.out _)))
          go_wp2_with fail
          go_roundw
          case rel => exact ⟨q + 1, by omega, by omega, HA2.out, HRr.out.set_at _ _, HU.out.set_rv _ _ _, by
            rw [Below.heap_setCell _ _ _ _ (by simp; omega)]; exact HK.out⟩
          case measure => rw [((HRr.out.set_at _ _).cell).2.1, c1]; simp [intOf]; omega
        | false =>
          have HE : Hid (Ends (s.data.toList.drop q)) := by
            rw [drop_byte s q hql]; intro c r h; injection h with h1 h2; rw [← h1]; exact hpl
          have HPC : Hid (∀ w, Calls Try.prog 23 #[.int .u8 s[q].toNat] w fun e w' => e = .returned (.bool false) ∧ w' = w) := fun w => by
            have := plain_calls s[q] w
            rw [hpl] at this
            exact this.mono fun _ _ h => ⟨h.1, h.2.symm⟩
          have HPL := Lib.hid hpl; clear hpl
          have hbk := HK.out
          by_cases hqp : q = p
          · have hqp2 : ((q : Int) == (p : Int)) = true := by simp [hqp]
            have HQP := Lib.hid hqp; clear hqp
            clear hbk
            go_wp2_with fail
            go_quiet ((go_at_call 23; exact Calls.quiet_of_same (HPC.out _)))
            go_wp2_with fail
            refine (fail_calls b s q n pl p 3 _ (HRr.out.setN _)).mono ?_
            rintro e w1 ⟨rfl, hR1, hU1⟩
            have hbk : w1.heap[w.heap.size]? = some (.cells #[.bool false, .string ⟨#[]⟩, .slice none 0 0] 40 (0, 0)) := by
              rw [hU1.block w.heap.size (by have := (Array.getElem?_eq_some_iff.1 HK.out).1; exact this) (fun e => by injection e with e; simp at e; omega)]
              exact HK.out
            have k0 : w1.cell? ⟨w.heap.size, 0, none⟩ = some (.bool false) := by simp [World.cell?, hbk]
            have k1 : w1.cell? ⟨w.heap.size, 1, none⟩ = some (.string ⟨#[]⟩) := by simp [World.cell?, hbk]
            have k2 : w1.cell? ⟨w.heap.size, 2, none⟩ = some (.slice none 0 0) := by simp [World.cell?, hbk]
            have k3 : ∀ j, w1.frozen? ⟨w.heap.size, j, none⟩ = false := fun j => by simp [World.frozen?, hbk]
            clear c0 c1 c2 c3 c4 hf hbk
            obtain ⟨c0, c1, c2, c3, c4, hf⟩ := hR1.cell
            have HR1 := Lib.hid hR1
            have HU1 := Lib.hid ((HU.out.dN _).tr hU1)
            clear hR1 hU1
            go_wp2_with fail
            go_region
            go_wp2_with fail
            refine bodyPost_ret (v := .agg #[.bool true, .string (s.extract p q), .slice none 0 0]) (by simp [results, Try.results26, go_sem, k0, k1, k2]) rfl ?_
            rw [show 201 - d.toNat = (200 - d.toNat) + 1 by omega]
            refine word_end HU1.out HR1.out hbl hq2 (by simp; omega) _ ?_
            have hp1 := HPL.out
            simp only [HQP.out] at hp1
            rw [← HXE.out, if_neg (by simp [hp1])]
            refine ⟨rfl, .inr rfl, ?_⟩
            simp
            omega
          · have hqp2 : ((q : Int) == (p : Int)) = false := by simp; omega
            have HQP := Lib.hid hqp; clear hqp
            have k0 : wr.cell? ⟨w.heap.size, 0, none⟩ = some (.bool false) := by simp [World.cell?, hbk]
            have k1 : wr.cell? ⟨w.heap.size, 1, none⟩ = some (.string ⟨#[]⟩) := by simp [World.cell?, hbk]
            have k2 : wr.cell? ⟨w.heap.size, 2, none⟩ = some (.slice none 0 0) := by simp [World.cell?, hbk]
            have k3 : ∀ j, wr.frozen? ⟨w.heap.size, j, none⟩ = false := fun j => by simp [World.frozen?, hbk]
            clear hbk
            go_wp2_with fail
            go_quiet ((go_at_call 23; exact Calls.quiet_of_same (HPC.out _)))
            go_wp2_with fail
            go_region
            go_wp2_with fail
            refine bodyPost_ret (v := .agg #[.bool true, .string (s.extract p q), .slice none 0 0]) (by simp [results, Try.results26, go_sem, k0, k1, k2]) rfl ?_
            rw [show 201 - d.toNat = (200 - d.toNat) + 1 by omega]
            refine word_end HU.out HRr.out hbl hq2 (by simp; omega) _ ?_
            have hw := word_at hq1 HA.out HE.out
            rw [← HXE.out, if_pos (first_plain (by have := HQP.out; omega) hp HA.out), hw.1, hw.2]
            exact ⟨rfl, rfl, rfl, rfl, hn⟩
      · have HE : Hid (Ends (s.data.toList.drop q)) := by
          rw [List.drop_eq_nil_of_le (by simpa using hql)]; intro c r h; cases h
        have hqp2 : ((q : Int) == (p : Int)) = false := by simp; omega
        have hbk := HK.out
        have k0 : wr.cell? ⟨w.heap.size, 0, none⟩ = some (.bool false) := by simp [World.cell?, hbk]
        have k1 : wr.cell? ⟨w.heap.size, 1, none⟩ = some (.string ⟨#[]⟩) := by simp [World.cell?, hbk]
        have k2 : wr.cell? ⟨w.heap.size, 2, none⟩ = some (.slice none 0 0) := by simp [World.cell?, hbk]
        have k3 : ∀ j, wr.frozen? ⟨w.heap.size, j, none⟩ = false := fun j => by simp [World.frozen?, hbk]
        clear hbk
        go_wp2_with fail
        go_quiet (fail)
        go_wp2_with fail
        go_region
        go_wp2_with fail
        refine bodyPost_ret (v := .agg #[.bool true, .string (s.extract p q), .slice none 0 0]) (by simp [results, Try.results26, go_sem, k0, k1, k2]) rfl ?_
        rw [show 201 - d.toNat = (200 - d.toNat) + 1 by omega]
        refine word_end HU.out HRr.out hbl hq2 (by simp; omega) _ ?_
        have hw := word_at hq1 HA.out HE.out
        rw [← HXE.out, if_pos (first_plain (by omega) hp HA.out), hw.1, hw.2]
        exact ⟨rfl, rfl, rfl, rfl, hn⟩
theorem skip_idem (b : Bool) (s : List UInt8) : skipL false (skipL b s) = skipL b s := by
  induction s generalizing b with
  | nil => cases b <;> rfl
  | cons c r ih =>
    cases b with
    | false =>
      simp only [skipL]
      split
      · exact ih false
      · split
        · exact ih true
        · rename_i h1 h2; simp [skipL, h1, h2]
    | true =>
      simp only [skipL]
      split
      · exact ih false
      · exact ih true
theorem parse_skip (f : Nat) (d : Int) (s : List UInt8) (n : Int) : parseL f d (skipL false s) n = parseL f d s n := by
  cases f with
  | zero => rfl
  | succ f => simp only [parseL, skip_idem]
def PR.pre (o : List T) : PR → PR
  | .ok out r n => .ok (o ++ out) r n
  | .bad e p => .bad e p
theorem PR.pre_nil (X : PR) : X.pre [] = X := by cases X <;> rfl
theorem PR.pre_pre (a b : List T) (X : PR) : (X.pre b).pre a = X.pre (a ++ b) := by cases X <;> simp [PR.pre]
/-- The reader, one piece after another. -/
theorem parse_step (f : Nat) (d n : Int) (c : UInt8) (r : List UInt8) (hs : skipL false (c :: r) = c :: r) (h41 : c ≠ 41) :
    parseL (f + 1) d (c :: r) n = if 100000 < n + 1 ∨ (c = 40 ∧ d = 200) then .bad 2 (r.length + 1) else (oneL f d c r (n + 1)).next fun o r' n' => (parseL f d r' n').pre o := by
  simp only [parseL, hs, if_neg h41]
  split
  · rfl
  · unfold oneL
    split
    · cases parseL f (d + 1) r (n + 1) with
      | ok out r' n' =>
        simp only [PR.next]
        cases parseL f d r' n' <;> rfl
      | bad e p => rfl
    · split
      · simp only [PR.next]
        cases parseL f d ((c :: r).dropWhile isPlain) (n + 1) <;> rfl
      · rfl
theorem dropWhile_len (p : UInt8 → Bool) (s : List UInt8) : (s.dropWhile p).length ≤ s.length := by
  induction s with
  | nil => simp
  | cons c r ih => simp only [List.dropWhile_cons]; split <;> simp <;> omega
theorem parse_len (f : Nat) : ∀ (d : Int) (s : List UInt8) (n : Int) (out : List T) (r : List UInt8) (nn : Int), parseL f d s n = .ok out r nn → r.length ≤ s.length := by
  induction f with
  | zero => intro d s n out r nn h; simp [parseL] at h
  | succ f ih =>
    intro d s n out r nn h
    have hl := skipL_len false s
    have hi := skip_idem false s
    rw [← parse_skip] at h
    cases e : skipL false s with
    | nil =>
      rw [e] at h
      simp only [parseL, skipL] at h
      split at h
      · cases h
      · cases h; simp
    | cons c t =>
      rw [e] at h hl hi
      simp only [List.length_cons] at hl
      by_cases h41 : c = 41
      · simp only [parseL, hi, if_pos h41] at h
        split at h
        · cases h
        · cases h; omega
      · rw [parse_step f d n c t hi h41] at h
        split at h
        · cases h
        · unfold oneL at h
          split at h
          · cases e2 : parseL f (d + 1) t (n + 1) with
            | bad a b => rw [e2] at h; cases h
            | ok o r' n' =>
              rw [e2] at h
              have h1 := ih _ _ _ _ _ _ e2
              simp only [PR.next] at h
              cases e3 : parseL f d r' n' with
              | bad a b => rw [e3] at h; cases h
              | ok o2 r2 n2 =>
                rw [e3] at h
                have h2 := ih _ _ _ _ _ _ e3
                cases h; omega
          · split at h
            · rename_i hpl
              simp only [PR.next] at h
              have hd := dropWhile_len isPlain t
              rw [List.dropWhile_cons, if_pos hpl] at h
              cases e3 : parseL f d (t.dropWhile isPlain) (n + 1) with
              | bad a b => rw [e3] at h; cases h
              | ok o2 r2 n2 =>
                rw [e3] at h
                have h2 := ih _ _ _ _ _ _ e3
                cases h; omega
            · cases h
theorem oneL_len {f : Nat} {d n : Int} {c : UInt8} {r : List UInt8} {o : List T} {r' : List UInt8} {n' : Int} (h : oneL f d c r n = .ok o r' n') : r'.length ≤ r.length := by
  unfold oneL at h
  split at h
  · cases e2 : parseL f (d + 1) r n with
    | bad a b => rw [e2] at h; cases h
    | ok o2 r2 n2 => rw [e2] at h; cases h; exact parse_len _ _ _ _ _ _ _ e2
  · split at h
    · rename_i hpl
      rw [List.dropWhile_cons, if_pos hpl] at h
      cases h; exact dropWhile_len _ _
    · cases h
theorem OwnL.upd {α : Type} {R : Rp α} {n0 b : Nat} {e : TypeId} {w1 w2 : World} {v : Value} {l : List α} (h : OwnL R no n0 e w1 v l) (hU : Upd w1 w2 (rv b) (rv b)) (hb : b < n0) : OwnL R no n0 e w2 v l := by
  obtain ⟨css, hl, hr, hown⟩ := h
  have hne : ∀ k, n0 ≤ k → (rv b).ownBlock ≠ some k := fun k hk e => by injection e with e; simp at e; omega
  have hsz := hU.size
  refine ⟨css, hl, fun i h1 h2 => R.keep (hr i h1 h2) fun k hk => ?_, hown.1, ?_⟩
  · have := hk.1.resolve_left id
    exact ⟨⟨hk.1, by have := hk.2.1; omega, hk.2.2⟩, hU.block k hk.2.1 (hne k this)⟩
  · rcases hown.2 with h0 | ⟨g, cap, cur, hv', hg0, hg, rest⟩
    · exact .inl h0
    · exact .inr ⟨g, cap, cur, hv', hg0, by rw [hU.block g (Array.getElem?_eq_some_iff.1 hg).1 (hne g hg0)]; exact hg, rest⟩
theorem Rd.set_nd {w : World} {b : Nat} {s : ByteArray} {at_ nd er pl : Int} (h : Rd w b s at_ nd er pl) (n : Nat) (x : Int) : Rd ((w.drewN n).setCell ⟨b, 2, none⟩ (.int .i64 x)) b s at_ x er pl := by
  unfold Rd at h ⊢
  simp [World.setCell, Array.getElem?_modify, h]
theorem elemS : Elem Try.prog 22 40 3 48 := Elem.of (by kernel_rfl) (by kernel_rfl)
theorem elemSd (D : Nat) : Elem Try.prog 22 40 (RpT D).k 48 := by rw [RpT_k]; exact elemS
theorem parse_nodes (f : Nat) : ∀ (d : Int) (s : List UInt8) (n : Int) (out : List T) (r : List UInt8) (nn : Int), parseL f d s n = .ok out r nn → n ≤ nn := by
  induction f with
  | zero => intro d s n out r nn h; simp [parseL] at h
  | succ f ih =>
    intro d s n out r nn h
    have hi := skip_idem false s
    rw [← parse_skip] at h
    cases e : skipL false s with
    | nil =>
      rw [e] at h
      simp only [parseL, skipL] at h
      split at h
      · cases h
      · cases h; omega
    | cons c t =>
      rw [e] at h hi
      by_cases h41 : c = 41
      · simp only [parseL, hi, if_pos h41] at h
        split at h
        · cases h
        · cases h; omega
      · rw [parse_step f d n c t hi h41] at h
        split at h
        · cases h
        · unfold oneL at h
          split at h
          · cases e2 : parseL f (d + 1) t (n + 1) with
            | bad a b => rw [e2] at h; cases h
            | ok o r' n' =>
              rw [e2] at h
              have h1 := ih _ _ _ _ _ _ e2
              simp only [PR.next] at h
              cases e3 : parseL f d r' n' with
              | bad a b => rw [e3] at h; cases h
              | ok o2 r2 n2 =>
                rw [e3] at h
                have h2 := ih _ _ _ _ _ _ e3
                cases h; omega
          · split at h
            · simp only [PR.next] at h
              cases e3 : parseL f d ((c :: t).dropWhile isPlain) (n + 1) with
              | bad a b => rw [e3] at h; cases h
              | ok o2 r2 n2 =>
                rw [e3] at h
                have h2 := ih _ _ _ _ _ _ e3
                cases h; omega
            · cases h
theorem oneL_nodes {f : Nat} {d n : Int} {c : UInt8} {r : List UInt8} {o : List T} {r' : List UInt8} {n' : Int} (h : oneL f d c r n = .ok o r' n') : n ≤ n' := by
  unfold oneL at h
  split at h
  · cases e2 : parseL f (d + 1) r n with
    | bad a b => rw [e2] at h; cases h
    | ok o2 r2 n2 => rw [e2] at h; cases h; exact parse_nodes _ _ _ _ _ _ _ e2
  · split at h
    · cases h; omega
    · cases h
def LState (s : ByteArray) (X : PR) (d : Int) (f p : Nat) (n er pl : Int) (out : List T) : Prop :=
  (er = 0 ∧ 0 ≤ n ∧ n ≤ 100000 ∧ (out.length : Int) ≤ n ∧ skipL false (s.data.toList.drop p) = s.data.toList.drop p ∧ ∃ f', f' ≤ f ∧ (s.data.toList.drop p).length < f' ∧ X = (parseL f' d (s.data.toList.drop p) n).pre out) ∨
  (∃ ee left, X = .bad ee left ∧ er = ee ∧ (ee = 2 ∨ ee = 3) ∧ pl = s.size - (left : Int))
def LInv (w : World) (b : Nat) (s : ByteArray) (X : PR) (d : Int) (f dd : Nat) (r : Value) (wr : World) : Prop :=
  ∃ (p : Nat) (n er pl : Int) (out : List T), Rd wr b s p n er pl ∧ p ≤ s.size ∧ OwnL (RpT dd) no w.heap.size 40 wr r out ∧ Upd w wr (rv b) (rv b) ∧ LState s X d f p n er pl out
def lMeas (b : Nat) (s : ByteArray) (wr : World) : Nat := if intOf ((wr.cell? ⟨b, 3, none⟩).getD undef) = 0 then s.size - (intOf ((wr.cell? ⟨b, 1, none⟩).getD undef)).toNat + 1 else 0

theorem lMeas_rd {w : World} {b : Nat} {s : ByteArray} {p : Nat} {nd er pl : Int} (h : Rd w b s p nd er pl) : lMeas b s w = if er = 0 then s.size - p + 1 else 0 := by
  have k := h.cell
  simp [lMeas, k.2.1, k.2.2.2.1, intOf]
set_option maxRecDepth 100000 in
set_option maxHeartbeats 1600000 in
theorem list_calls (f : Nat) : ∀ (b : Nat) (s : ByteArray) (p : Nat) (d n pl : Int) (w : World), Rd w b s p n 0 pl → p ≤ s.size → s.size ≤ 1000000 → (s.data.toList.drop p).length < f → 0 ≤ d → d ≤ 200 → 0 ≤ n → n ≤ 100000 →
    Calls Try.prog 22 #[.pointer (some ⟨b, 0, none⟩), .int .i64 d] w (ListPost b s (201 - d.toNat) (parseL f d (s.data.toList.drop p) n) w) := by
  induction f using Nat.strongRecOn with | _ f ih => ?_
  intro b s p d n pl w hr hp hs hf hd0 hd1 hn0 hn1
  have hbl := hr.lt
  have HF := Lib.hid hf; clear hf
  generalize hX : parseL f d (s.data.toList.drop p) n = X
  have HX := Lib.hid hX; clear hX
  have HR := Lib.hid hr; clear hr
  have IH := Lib.hid ih; clear ih
  go_enter Try.func22, Try.ntmps22
  go_wp2_with fail
  refine (skip_calls b s p n 0 pl _ HR.out hp hs).mono ?_
  rintro e w1 ⟨p1, rfl, hp1, hp2, hsk, hR1, hU1⟩
  have HI : Hid (LInv w b s X d f (201 - d.toNat) (.slice none 0 0) w1) := by
    refine ⟨p1, n, 0, pl, [], hR1, hp2, OwnL.nil _ _ _ _ _, hU1, .inl ⟨rfl, hn0, hn1, by simpa using hn0, by rw [hsk, skip_idem], f, Nat.le_refl _, ?_, ?_⟩⟩
    · have h1 := skipL_len false (s.data.toList.drop p)
      have h2 := HF.out
      rw [hsk]; omega
    · rw [PR.pre_nil, hsk, parse_skip, HX.out]
  clear hsk hR1 hU1
  go_wp2_with fail
  go_loopw [5] (fun r wr => Hid (LInv w b s X d f (201 - d.toNat) r wr)) (fun _ wr => lMeas b s wr)
  case atStart => exact HI.out
  case round =>
    obtain ⟨q, m, er, pl', out, hR, hq, hO, hU, hS⟩ := hrel.out
    clear hrel HI
    obtain ⟨ra, rc, rfl, _, _⟩ := hO.shape
    obtain ⟨c0, c1, c2, c3, c4, hfz⟩ := hR.cell
    have hn2 := hU.size
    rcases hS with ⟨rfl, hm0, hm1, hol, hsk, f', hf1, hf2, hXe⟩ | ⟨ee, left, hXe, rfl, hee, hpl⟩
    · have HXE := Lib.hid hXe
      have HSK := Lib.hid hsk
      have HRr := Lib.hid hR
      have HO := Lib.hid hO
      have HU := Lib.hid hU
      clear hXe hsk hR hO hU
      by_cases hql : q < s.size
      · have hdb := drop_byte s q hql
        have e41 := byte_eq s[q] 41 (by omega)
        have e40 := byte_eq s[q] 40 (by omega)
        obtain ⟨f1, rfl⟩ : ∃ f1, f' = f1 + 1 := ⟨f' - 1, by omega⟩
        have hXX := HXE.out
        have hsk := HSK.out
        rw [hdb] at hXX hsk hf2
        simp only [List.length_cons] at hf2
        by_cases h41 : s[q] = 41
        · have hc : ((s[q].toNat : Int) == 41) = true := by rw [show (41 : Int) = ((41 : Nat) : Int) from rfl, e41, h41]; rfl
          by_cases hd : d = 0
          · have hdd : (d == 0) = true := by simpa using hd
            have HXF : Hid (X = .bad 3 ((s.data.toList.drop (q + 1)).length + 1)) := by
              rw [h41] at hsk hXX
              rw [hXX]
              simp only [parseL, hsk, hd, if_true]; rfl
            clear hXX hsk hdb e41 e40 h41 hd hf2
            go_wp2_with fail
            go_quiet (fail)
            go_wp2_with fail
            go_quiet (fail)
            go_wp2_with fail
            refine (fail_calls b s _ m pl' _ 3 _ (HRr.out.setN _)).mono ?_
            rintro e w2 ⟨rfl, hR2, hU2⟩
            obtain ⟨k0, k1, k2, k3, k4, hfk⟩ := hR2.cell
            have HR2 := Lib.hid (hR2.set_at 0 (q + 1))
            have hU3 := ((Upd.refl wr (rv b)).dN _).tr hU2
            have HU2 := Lib.hid ((HU.out.tr hU3).set_rv 0 1 (.int .i64 (q + 1)))
            have HO2 := Lib.hid (HO.out.upd (hU3.set_rv 0 1 (.int .i64 (q + 1))) hbl)
            clear hR2 hU2 hU3
            go_wp2_with fail
            go_ret
            exact ⟨out, ra, rc, q + 1, _, _, _, rfl, HO2.out.shut, HR2.out, by omega, HU2.out, by rw [HXF.out]; exact ⟨rfl, .inr rfl, by simp; omega⟩⟩
          · have hdd : (d == 0) = false := by simpa using hd
            have HXF : Hid (X = .ok out (s.data.toList.drop (q + 1)) m) := by
              rw [h41] at hsk hXX
              rw [hXX]
              simp only [parseL, hsk, hd, if_true, if_false, PR.pre, List.append_nil]; trivial
            clear hXX hsk hdb e41 e40 h41 hd hf2
            go_wp2_with fail
            go_quiet (fail)
            go_wp2_with fail
            go_quiet (fail)
            go_wp2_with fail
            go_ret
            exact ⟨out, ra, rc, q + 1, _, _, _, rfl, (HO.out.upd ((Upd.refl _ _).set_rv _ _ _) hbl).shut, HRr.out.set_at _ _, by omega, HU.out.set_rv _ _ _, by rw [HXF.out]; exact ⟨rfl, rfl, rfl, rfl, hm1⟩⟩
        · have hc : ((s[q].toNat : Int) == 41) = false := by rw [show (41 : Int) = ((41 : Nat) : Int) from rfl, e41]; simpa using h41
          rw [parse_step f1 d m _ _ hsk h41] at hXX
          by_cases hbig : 100000 < m + 1 ∨ (s[q] = 40 ∧ d = 200)
          · rw [if_pos hbig] at hXX
            have HXF : Hid (X = .bad 2 ((s.data.toList.drop (q + 1)).length + 1)) := hXX
            have hbg : decide (100000 < m + 1) = true ∨ decide (100000 < m + 1) = false ∧ ((s[q].toNat : Int) == 40) = true ∧ (d == 200) = true := by
              rcases hbig with h | ⟨h, h'⟩
              · exact .inl (by simpa using h)
              · by_cases h9 : 100000 < m + 1
                · exact .inl (by simpa using h9)
                · exact .inr ⟨by simpa using h9, by rw [show (40 : Int) = ((40 : Nat) : Int) from rfl, e40, h]; rfl, by simpa using h'⟩
            clear hXX hsk hdb e41 e40 h41 hf2 hbig
            rcases hbg with hb1 | ⟨hb1, hb2, hb3⟩
            all_goals
              go_wp2_with fail
              go_quiet (fail)
              go_wp2_with fail
              go_quiet (fail)
              go_wp2_with fail
              go_quiet (fail)
              go_wp2_with fail
              refine (fail_calls b s q (m + 1) pl' _ 2 _ ((HRr.out.set_nd _ _).setN _)).mono ?_
              rintro e w2 ⟨rfl, hR2, hU2⟩
              have HR2 := Lib.hid hR2
              have HU2 := Lib.hid (((HU.out.set_rv _ _ _).dN _).tr hU2)
              clear hR2 hU2
              go_wp2_with fail
              go_ret
              exact ⟨[], none, 0, q, _, _, _, rfl, ⟨none, 0, rfl, by simp, by simp [maxLen], by simp⟩, HR2.out, hq, HU2.out, by rw [HXF.out]; exact ⟨rfl, .inl rfl, by simp; omega⟩⟩
          · rw [if_neg hbig] at hXX
            have hm9 : ¬ 100000 < m + 1 := fun h => hbig (.inl h)
            have hb1 : decide (100000 < m + 1) = false := by simpa using hm9
            have hone := fun (W : World) (hW : Rd W b s q (m + 1) 0 pl') => one_calls b s f1 q d (m + 1) pl' W hW hql hs hd0 hd1 (by omega) (fun h40 => by
              have : d ≠ 200 := fun h => hbig (.inr ⟨h40, h⟩)
              omega) (fun h40 w hw => by
              have := IH.out f1 (by omega) b s (q + 1) (d + 1) (m + 1) pl' w hw (by omega) hs (by omega) (by omega) (by
                have : d ≠ 200 := fun h => hbig (.inr ⟨h40, h⟩)
                omega) (by omega) (by omega)
              rw [show 201 - (d + 1).toNat = 200 - d.toNat by omega] at this
              exact this)
            have HONE := Lib.hid hone; clear hone
            have hlen1 : ∀ o r' n', oneL f1 d s[q] (s.data.toList.drop (q + 1)) (m + 1) = .ok o r' n' → r'.length ≤ (s.data.toList.drop (q + 1)).length ∧ m + 1 ≤ n' := fun _ _ _ h => ⟨oneL_len h, oneL_nodes h⟩
            have HL1 := Lib.hid hlen1; clear hlen1
            generalize oneL f1 d s[q] (s.data.toList.drop (q + 1)) (m + 1) = Y at *
            have HXX := Lib.hid hXX
            have hb2 : ((s[q].toNat : Int) == 40) = false ∨ ((s[q].toNat : Int) == 40) = true ∧ (d == 200) = false := by
              by_cases h : s[q] = 40
              · exact .inr ⟨by rw [show (40 : Int) = ((40 : Nat) : Int) from rfl, e40, h]; rfl, by simpa using fun h2 => hbig (.inr ⟨h, h2⟩)⟩
              · exact .inl (by rw [show (40 : Int) = ((40 : Nat) : Int) from rfl, e40]; simpa using h)
            clear hXX hsk hdb e41 e40 h41 hbig hm9
            rcases hb2 with hb2 | ⟨hb2, hb3⟩
            all_goals
              go_wp2_with fail
              go_quiet (fail)
              go_wp2_with fail
              go_quiet (fail)
              go_wp2_with fail
              go_quiet (fail)
              go_wp2_with fail
              refine (HONE.out _ ((HRr.out.set_nd _ _).setN _)).mono ?_
              rintro e w2 ⟨t, v0, v1, v2, p', n', er', pl2, rfl, hrel, hR2, hp', hU2, hY⟩
              have hU3 := (((Upd.refl wr (rv b)).set_rv _ _ _).dN _).tr hU2
              have HO2 := Lib.hid (HO.out.upd hU3 hbl)
              have HU2 := Lib.hid (HU.out.tr hU3)
              have hsz := hU3.size
              have HREL := Lib.hid hrel
              have HR2 := Lib.hid hR2
              have HY := Lib.hid hY
              clear hrel hR2 hY hU3 hU2
              go_wp2_with (at_builtin; go_must (refine wp_push rfl _ _ _ rfl (elemSd _) (y := t) rfl rfl HO2.out (by rfl) (HO.out.fresh hn2 HREL.out (by simp [World.setCell]) (Nat.le_refl _) (fun _ _ => rfl)) (by omega) (by omega) ?_))
              intro v3 w3 ho3 hu3 hbel3
              have hR3 : Rd w3 b s p' n' er' pl2 := by
                have := HR2.out; unfold Rd at this ⊢; rw [hbel3.block b hbl]; exact this
              have HO3 := Lib.hid ho3
              have HU3 : Hid (Upd w w3 (rv b) (rv b)) := ⟨hbel3.os.trans HU2.out.os, hbel3.tape.trans HU2.out.tape, hbel3.output.trans HU2.out.output, Nat.le_trans HU2.out.size hbel3.size, fun k hk hne => (hbel3.block k hk).trans (HU2.out.block k hk hne), fun _ h => .inl h⟩
              have HR3 := Lib.hid hR3
              clear ho3 hu3 hbel3 hR3
              go_wp2_with fail
              refine (skip_calls b s p' n' er' pl2 _ HR3.out hp' hs).mono ?_
              rintro e w4 ⟨p4, rfl, hp4, hp5, hsk4, hR4, hU4⟩
              have HI4 : Hid (LInv w b s X d f (201 - d.toNat) v3 w4) := by
                refine ⟨p4, n', er', pl2, out ++ [t], hR4, hp5, HO3.out.upd hU4 hbl, HU3.out.tr hU4, ?_⟩
                have hY := HY.out
                have hXX := HXX.out
                have hL1 := HL1.out
                cases Y with
                | ok o rest nn =>
                  obtain ⟨rfl, h2, h3, h4, h5⟩ := hY
                  have h6 := hL1 _ _ _ rfl
                  have h7 := skipL_len false (s.data.toList.drop p')
                  refine .inl ⟨h2, by omega, by omega, by simp; omega, by rw [hsk4, skip_idem], f1, by omega, by rw [hsk4]; rw [← h4] at h6; omega, ?_⟩
                  rw [hXX, hsk4, parse_skip, h4, h3]
                  simp only [PR.next, PR.pre_pre]
                | bad ee left =>
                  exact .inr ⟨ee, left, hXX, hY⟩
              have HM : Hid (lMeas b s w4 < lMeas b s wr) := by
                have hY := HY.out
                have hL1 := HL1.out
                show _ < _
                rw [lMeas_rd hR4, lMeas_rd HRr.out, if_pos rfl]
                cases Y with
                | ok o rest nn =>
                  obtain ⟨rfl, h2, h3, h4, h5⟩ := hY
                  have h6 := (hL1 _ _ _ rfl).1
                  rw [← h4] at h6
                  simp at h6
                  rw [if_pos h2]
                  omega
                | bad ee left =>
                  rw [if_neg (by rw [hY.1]; rcases hY.2.1 with h | h <;> rw [h] <;> decide)]
                  omega
              clear hsk4 hR4 hU4
              go_wp2_with fail
              go_roundw
              case rel => exact HI4.out
              case measure => exact HM.out
      · have hqe : q = s.size := by omega
        subst hqe
        have hXX := HXE.out
        rw [List.drop_eq_nil_of_le (by simp)] at hXX
        by_cases hd : 0 < d
        · have HXF : Hid (X = .bad 3 0) := by
            rw [hXX]
            cases f' with
            | zero => simp at hf2
            | succ f' => simp [parseL, skipL, hd, PR.pre]; trivial
          clear hXX
          go_wp2_with fail
          go_quiet (fail)
          go_wp2_with fail
          refine (fail_calls b s _ m pl' _ 3 _ (HRr.out.setN _)).mono ?_
          rintro e w2 ⟨rfl, hR2, hU2⟩
          have HR2 := Lib.hid hR2
          have HU2 := Lib.hid ((HU.out.dN _).tr hU2)
          have HO2 := Lib.hid (HO.out.upd (((Upd.refl _ _).dN _).tr hU2) hbl)
          clear hR2 hU2
          go_wp2_with fail
          go_ret
          exact ⟨out, ra, rc, _, _, _, _, rfl, HO2.out.shut, HR2.out, Nat.le_refl _, HU2.out, by rw [HXF.out]; exact ⟨rfl, .inr rfl, by simp⟩⟩
        · have HXF : Hid (X = .ok out [] m) := by
            rw [hXX]
            cases f' with
            | zero => simp at hf2
            | succ f' => simp [parseL, skipL, hd, PR.pre]; trivial
          clear hXX
          go_wp2_with fail
          go_quiet (fail)
          go_wp2_with fail
          go_ret
          exact ⟨out, ra, rc, _, _, _, _, rfl, (HO.out.upd ((Upd.refl _ _).dN _) hbl).shut, HRr.out.setN _, Nat.le_refl _, HU.out.dN _, by rw [HXF.out]; exact ⟨rfl, rfl, rfl, by simp, hm1⟩⟩
    · have he : (er == 0) = false := by rcases hee with rfl | rfl <;> rfl
      have HEE := Lib.hid hee; clear hee
      have HXE := Lib.hid hXe
      have HRr := Lib.hid hR
      have HU := Lib.hid hU
      clear hXe hR hO hU
      have HPL := Lib.hid hpl; clear hpl
      go_wp2_with fail
      go_ret
      exact ⟨[], none, 0, _, _, _, _, rfl, ⟨none, 0, rfl, by simp, by simp [maxLen], by simp⟩, HRr.out, hq, HU.out, by rw [HXE.out]; exact ⟨rfl, HEE.out, HPL.out⟩⟩
def parseTop (s : ByteArray) : PR := if 1000000 < s.size then .bad 2 s.size else parseL (s.size + 1) 0 s.data.toList 0
def ParsePost (s : ByteArray) (w : World) (e : Ending) (w' : World) : Prop :=
  ∃ (l : List T) (a : Option Addr) (c : Nat) (pl er : Int), e = .returned (.tuple #[.slice a l.length c, .int .i64 pl, .int .i64 er]) ∧ Ext w w' ∧ (Rp.slice (RpT 201)).rel (Mo no w.heap.size w') w' [.slice a l.length c] l ∧
    match parseTop s with
    | .ok out _ _ => l = out ∧ pl = 0 ∧ er = 0
    | .bad ee left => l = [] ∧ er = ee ∧ (ee = 2 ∨ ee = 3) ∧ pl = s.size - (left : Int)
set_option maxRecDepth 100000 in
set_option maxHeartbeats 800000 in
theorem parse_calls (s : ByteArray) (w : World) : Calls Try.prog 13 #[.string s] w (ParsePost s w) := by
  have HP : Hid (∀ (l : List T) (a : Option Addr) (c : Nat) (pl er : Int) (w' : World), Ext w w' → (Rp.slice (RpT 201)).rel (Mo no w.heap.size w') w' [.slice a l.length c] l → (match parseTop s with
    | .ok out _ _ => l = out ∧ pl = 0 ∧ er = 0
    | .bad ee left => l = [] ∧ er = ee ∧ (ee = 2 ∨ ee = 3) ∧ pl = s.size - (left : Int)) → ParsePost s w (.returned (.tuple #[.slice a l.length c, .int .i64 pl, .int .i64 er])) w') :=
    fun l a c pl er w' h1 h2 h3 => ⟨l, a, c, pl, er, rfl, h1, h2, h3⟩
  have hnil : ∀ w', (Rp.slice (RpT 201)).rel (Mo no w.heap.size w') w' [.slice none 0 0] [] := fun w' => ⟨none, 0, rfl, by simp, by simp [maxLen], by simp⟩
  have HN := Lib.hid hnil; clear hnil
  by_cases hbig : 1000000 < s.size
  · have HE : Hid (parseTop s = .bad 2 s.size) := by unfold parseTop; rw [if_pos hbig]; trivial
    go_enter Try.func13, Try.ntmps13
    go_wp2
    go_ret3
    exact HP.out [] none 0 0 2 w (Below.refl _ _) (HN.out _) (by rw [HE.out]; exact ⟨rfl, rfl, .inl rfl, by simp⟩)
  · have hs : s.size ≤ 1000000 := by omega
    have HE : Hid (parseTop s = parseL (s.size + 1) 0 s.data.toList 0) := by unfold parseTop; rw [if_neg hbig]; trivial
    clear hbig
    go_enter Try.func13, Try.ntmps13
    go_wp2_with fail
    refine (list_calls (s.size + 1) w.heap.size s 0 0 0 0 _ (by unfold Rd; exact heap_alloc_new w _) (by omega) hs (by simp) (by omega) (by omega) (by omega) (by omega)).mono ?_
    rintro e w1 ⟨l, a, c, p', n', er', pl', rfl, hl, hR, hp', hU, hX⟩
    obtain ⟨c0, c1, c2, c3, c4, hf⟩ := hR.cell
    rw [List.drop_zero, ← HE.out] at hX
    have HXX := Lib.hid hX
    have HL : Hid ((Rp.slice (RpT 201)).rel (Mo no w.heap.size w1) w1 [.slice a l.length c] l) := (Rp.slice _).keep hl fun b hb => ⟨⟨.inr (by have := hb.1.resolve_left id; simp at this; omega), hb.2⟩, rfl⟩
    have HX : Hid (Ext w w1) := ⟨hU.os, hU.tape, hU.output, by have := hU.size; simp at this; omega, fun k hk => by
      rw [hU.block k (by simp; omega) (fun e => by injection e with e; simp at e; omega)]
      exact heap_alloc_old w _ hk⟩
    clear hl hR hU hX
    by_cases he : er' = 0
    · have he2 : (er' != 0) = false := by simp [he]
      have HH := Lib.hid he; clear he
      go_wp2_with fail
      go_ret3
      refine HP.out l a c 0 0 w1 HX.out HL.out ?_
      have h := HXX.out
      cases hp : parseTop s with
      | ok out r nn => rw [hp] at h; exact ⟨h.1, rfl, rfl⟩
      | bad ee left => rw [hp] at h; have := HH.out; rcases h.2.1 with h2 | h2 <;> (rw [h.1, h2] at this; cases this)
    · have he2 : (er' != 0) = true := by simpa using he
      have HH := Lib.hid he; clear he
      go_wp2_with fail
      go_quiet (fail)
      go_wp2_with fail
      go_ret3
      refine HP.out [] none 0 pl' er' _ (HX.out.drN _) (HN.out _) ?_
      have h := HXX.out
      cases hp : parseTop s with
      | ok out r nn => rw [hp] at h; exact absurd h.2.1 HH.out
      | bad ee left => rw [hp] at h; exact ⟨rfl, h.1, h.2.1, h.2.2⟩

set_option maxHeartbeats 800000 in
theorem row_calls (d : Nat) (S : Nat → Prop) (l : List T) (a : Option Addr) (c : Nat) (w : World) (hS : ∀ b, S b → b < w.heap.size) (hl : SlC (RpT d) S w a l.length l) (hab : ∀ g, a.map (·.block) = some g → g < w.heap.size) (hz : l.length ≤ 1048576) :
    Calls Try.prog 15 #[.slice a l.length c] w fun e w' => ∃ a c, e = .returned (.agg #[.bool false, .string ⟨#[]⟩, .slice a l.length c]) ∧ Ext w w' ∧ (Rp.slice (RpT d)).rel (Mo S w.heap.size w') w' [.slice a l.length c] l := by
  have HL := Lib.hid hl
  have HS := Lib.hid hS
  have HA := Lib.hid hab
  clear hl hS hab
  go_enter Try.func15, Try.ntmps15
  go_wp2_with (at_builtin; go_must (refine wp_append_all rfl _ _ _ rfl (elemSd d) (v := .slice none 0 0) rfl rfl (OwnL.nil (RpT d) S (w.heap.size + 1) _ _) (HL.out.keep (fun b hb => ⟨⟨.inl hb, by have := HS.out b hb; simp; omega, by simp [Value.ownBlock]⟩, heap_alloc_old w _ (HS.out b hb)⟩) (fun g hg => heap_alloc_old w _ (HA.out g hg))) (by simp; omega) (by simp) ?_))
  intro v' w' ho hU hB
  obtain ⟨ra, rc, rfl, _, _⟩ := ho.shape
  have hbk : w'.heap[w.heap.size]? = some (.cells #[.bool false, .string ⟨#[]⟩, .slice none 0 0] 40 (0, 0)) := by
    rw [hU.block w.heap.size (by simp) (by simp [Value.ownBlock])]
    exact heap_alloc_new w _
  have k0 : w'.cell? ⟨w.heap.size, 0, none⟩ = some (.bool false) := by simp [World.cell?, hbk]
  have k1 : w'.cell? ⟨w.heap.size, 1, none⟩ = some (.string ⟨#[]⟩) := by simp [World.cell?, hbk]
  have k2 : w'.cell? ⟨w.heap.size, 2, none⟩ = some (.slice none 0 0) := by simp [World.cell?, hbk]
  have k3 : ∀ j, w'.frozen? ⟨w.heap.size, j, none⟩ = false := fun j => by simp [World.frozen?, hbk]
  have HO := Lib.hid ho.shut
  have HX := Lib.hid (((Below.refl _ w).al (.cells #[.bool false, .string ⟨#[]⟩, .slice none 0 0] 40)).trans (hB.mono (Nat.le_succ _)))
  have hsz := HX.out.size
  clear ho hU hB hbk
  go_wp2_with fail
  refine bodyPost_ret (v := .agg #[.bool false, .string ⟨#[]⟩, .slice ra l.length rc]) (by simp [results, Try.results15, go_sem, k0, k1, k2]) rfl ⟨ra, rc, rfl, ((HX.out.st (by simp) _).st (by simp) _).st (by simp) _, (Rp.slice _).keep HO.out fun b hb => ⟨⟨hb.1.imp id (by omega), by have := hb.2; simpa [World.setCell] using this⟩, ?_⟩⟩
  have hbn : b ≠ w.heap.size := by
    rcases hb.1 with h | h
    · have := HS.out b h; omega
    · omega
  rw [Below.heap_setCell _ _ _ _ (by simpa using hbn), Below.heap_setCell _ _ _ _ (by simpa using hbn), Below.heap_setCell _ _ _ _ (by simpa using hbn)]
def wak1 : T := .mk false .empty [.mk true ⟨#[97]⟩ [], .mk false .empty [.mk true ⟨#[98]⟩ []], .mk false .empty []]
def wak2 : T := .mk true ⟨#[99]⟩ []
theorem wak_parse : parseTop ⟨#[40, 97, 32, 40, 98, 41, 32, 40, 41, 41, 32, 99, 32, 59, 32, 100, 10]⟩ = .ok [wak1, wak2] [] 6 := by kernel_rfl
theorem wak_lines : linesL [wak1, wak2] = [40, 97, 32, 40, 98, 41, 32, 40, 41, 41, 10, 99, 10] := by kernel_rfl
theorem wak_check : checkE [wak1, wak2] = 0 := by kernel_rfl
set_option maxRecDepth 100000 in
set_option maxHeartbeats 800000 in
theorem awake_calls (w : World) : Calls Try.prog 9 #[] w fun e w' => e = .returned (.bool true) ∧ Ext w w' := by
  go_enter Try.func9, Try.ntmps9
  go_wp2_with fail
  refine (parse_calls _ _).mono ?_
  rintro e w1 ⟨l, a, c, pl, er, rfl, hx, hl, hm⟩
  rw [wak_parse] at hm
  obtain ⟨rfl, rfl, rfl⟩ := hm
  have HX := Lib.hid hx
  have HL := Lib.hid hl
  clear hx hl
  go_wp2_with fail
  refine (print_calls 201 [wak1, wak2] _ _ ((Rp.slice _).mono HL.out fun b hb => hb.2) (by rw [wak_lines]; decide)).mono ?_
  rintro e w2 ⟨s, rfl, hs, hx2⟩
  rw [wak_check, if_pos rfl, wak_lines] at hs
  have hse : s = ⟨#[40, 97, 32, 40, 98, 41, 32, 40, 41, 41, 10, 99, 10]⟩ := by
    cases s; simp only [ByteArray.mk.injEq]; exact Array.ext' hs
  subst hse
  rw [wak_check]
  have HX2 := Lib.hid (HX.out.tr hx2)
  clear hx2 hs
  go_wp2
  go_ret
  exact ⟨rfl, HX2.out⟩
theorem leafRel (S : Nat → Prop) (w : World) (s : ByteArray) (hs : s.size ≤ 9223372036854775807) : (RpT 1).rel S w [.bool true, .string s, .slice none 0 0] (.mk true s []) :=
  mkT ⟨none, 0, rfl, by simp, by simp [maxLen], by simp⟩ hs
set_option maxRecDepth 100000 in
set_option maxHeartbeats 1600000 in
theorem makes_calls (s t : ByteArray) (w : World) (hs : s.size ≤ 9223372036854775807) (ht : t.size ≤ 9223372036854775807) : Calls Try.prog 5 #[.string s, .string t] w fun e w' => e = .returned (.bool true) ∧ Ext w w' := by
  go_enter Try.func5, Try.ntmps5
  go_wp2_with fail
  refine (word_calls s _).mono ?_
  rintro e w1 ⟨rfl, hx1⟩
  go_wp2_with fail
  go_region_with (go_at_call 16; refine (word_calls t _).mono ?_; rintro e w2 ⟨rfl, hx2⟩; obtain ⟨hc, hf⟩ := bcell hx2)
  all_goals
    clear hc hf
    have hx3 : Ext w1 w2 := ((Below.refl _ w1).al (.cells #[.bool true, .string s, .slice none 0 0] 40)).dr.tr hx2
    have h5 : w2.heap[w1.heap.size]? = some (.cells #[.bool true, .string s, .slice none 0 0] 40 (0, 0)) := by
      rw [hx2.block w1.heap.size (by simp)]; exact heap_alloc_new w1 _
    have HSL : Hid (SlC (RpT 1) no (w2.alloc (.cells #[.bool true, .string s, .slice none 0 0, .bool true, .string t, .slice none 0 0] 40)) (some ⟨w2.heap.size, 0, none⟩) [T.mk true s [], T.mk true t []].length [T.mk true s [], T.mk true t []]) :=
      SlC.lit [[.bool true, .string s, .slice none 0 0], [.bool true, .string t, .slice none 0 0]] rfl (fun i h h' => by
        match i, h with
        | 0, _ => exact leafRel _ _ s hs
        | 1, _ => exact leafRel _ _ t ht) rfl
    have HX1 := Lib.hid hx1
    have HX3 := Lib.hid hx3
    have H5 := Lib.hid h5
    clear hx1 hx2 hx3 h5
    go_wp2_with fail
    refine (row_calls 1 no _ _ _ _ (fun _ h => h.elim) HSL.out (fun g hg => by injection hg with hg; rw [← hg]; simp) (by simp)).mono ?_
    rintro e w3 ⟨ra, rc, rfl, hx4, hr4⟩
    obtain ⟨b, o, a0, n0, k0, d0, hra, hb, hd0, p0, p1, hw0, p2, hs0⟩ := elemT hr4 0 (by simp)
    obtain ⟨b', o', a1, n1, k1, d1, hra', hb', hd1, q0, q1, hw1, q2, hs1⟩ := elemT hr4 1 (by simp)
    clear hd0 hw0 hs0 hd1 hw1 hs1
    subst hra
    injection hra' with hra'
    injection hra' with e1 e2
    subst e1 e2
    have hbn : w2.heap.size + 1 ≤ b := by have := hb.1.resolve_left id; simpa using this
    have hbl := hb.2
    simp at p0 p1 p2 q0 q1 q2
    have hx5 : Ext w2 w3 := ((Below.refl _ w2).al (.cells #[.bool true, .string s, .slice none 0 0, .bool true, .string t, .slice none 0 0] 40)).tr hx4
    have h6 : w3.heap[w2.heap.size]? = some (.cells #[.bool true, .string s, .slice none 0 0, .bool true, .string t, .slice none 0 0] 40 (0, 0)) := by
      rw [hx4.block w2.heap.size (by simp)]; exact heap_alloc_new w2 _
    have H6 := Lib.hid h6
    have HX5 := Lib.hid hx5
    have hsz4 : w2.heap.size + 1 ≤ w3.heap.size := by have := hx4.size; rw [World.size_alloc] at this; exact this
    have HPQ := Lib.hid (And.intro (And.intro p0 p1) (And.intro q0 q1))
    have HSZ4 := Lib.hid hsz4
    have HBN := Lib.hid hbn
    have HBL := Lib.hid hbl
    clear hb hb' hr4 hx4 hx5 h6 hsz4 hbn hbl p0 p1 p2 q0 q1 q2
    go_wp2_with fail
    refine (word_calls _ _).mono ?_
    rintro e w4 ⟨rfl, hx6⟩
    have hsz4 := HSZ4.out
    have hbn := HBN.out
    have hbl := HBL.out
    have h7 : w4.heap[w2.heap.size]? = some (.cells #[.bool true, .string s, .slice none 0 0, .bool true, .string t, .slice none 0 0] 40 (0, 0)) := by
      rw [hx6.block w2.heap.size (by simp; omega), heap_alloc_old _ _ (by omega)]; exact H6.out
    have k0 : w4.cell? ⟨w2.heap.size, 0, none⟩ = some (.bool true) := by simp [World.cell?, h7]
    have k1 : w4.cell? ⟨w2.heap.size, 1, none⟩ = some (.string s) := by simp [World.cell?, h7]
    have k2 : w4.cell? ⟨w2.heap.size, 2, none⟩ = some (.slice none 0 0) := by simp [World.cell?, h7]
    have k3 : ∀ j, w4.frozen? ⟨w2.heap.size, j, none⟩ = false := fun j => by simp [World.frozen?, h7]
    have HB := Lib.hid (fun (B : Nat) (hB : B < w3.heap.size + 1) => hx6.block B (by simpa using hB))
    have HX7 : Hid (Ext w w4) := (HX1.out.tr (HX3.out.tr (HX5.out.al _ |>.tr hx6)))
    have hsz6 := hx6.size
    have hsz3 := HX3.out.size
    have hsz1 := HX1.out.size
    rw [World.size_alloc] at hsz6
    have HA := Lib.hid (And.intro hsz6 (And.intro hsz3 hsz1))
    clear h7 hx6 hsz4 hbn hbl hsz6 hsz3 hsz1
    go_wp2_with fail
    refine (awake_calls _).mono ?_
    rintro e w6 ⟨rfl, hx8⟩
    have hsz4 := HSZ4.out
    have hbn := HBN.out
    have hbl := HBL.out
    obtain ⟨hsz6, hsz3, hsz1⟩ := HA.out
    have hBB : ∀ (B : Nat), B < w3.heap.size + 1 → B ≠ w2.heap.size → w6.heap[B]? = (w3.alloc (.cells #[.bool false, .string ⟨#[]⟩, .slice (some ⟨b, o, none⟩) 2 rc] 40)).heap[B]? := fun B hB hn => by
      rw [hx8.block B (by simp [World.setCell]; omega), Below.heap_setCell _ _ _ _ (by simpa using hn), Below.heap_setCell _ _ _ _ (by simpa using hn), Below.heap_setCell _ _ _ _ (by simpa using hn)]
      exact HB.out B hB
    have g5 : w6.heap[w1.heap.size]? = some (.cells #[.bool true, .string s, .slice none 0 0] 40 (0, 0)) := by
      rw [hBB _ (by omega) (by have := (Array.getElem?_eq_some_iff.1 H5.out).1; omega), heap_alloc_old _ _ (by have := (Array.getElem?_eq_some_iff.1 H5.out).1; omega), HX5.out.block _ (Array.getElem?_eq_some_iff.1 H5.out).1]
      exact H5.out
    have gr : w6.heap[w3.heap.size]? = some (.cells #[.bool false, .string ⟨#[]⟩, .slice (some ⟨b, o, none⟩) 2 rc] 40 (0, 0)) := by
      rw [hBB _ (by omega) (by omega)]; exact heap_alloc_new w3 _
    have gb : w6.heap[b]? = w3.heap[b]? := by
      rw [hBB _ (by omega) (by omega)]; exact heap_alloc_old w3 _ hbl
    have m0 : w6.cell? ⟨w1.heap.size, 0, none⟩ = some (.bool true) := by simp [World.cell?, g5]
    have m1 : w6.cell? ⟨w1.heap.size, 1, none⟩ = some (.string s) := by simp [World.cell?, g5]
    have r0 : w6.cell? ⟨w3.heap.size, 0, none⟩ = some (.bool false) := by simp [World.cell?, gr]
    have r2 : w6.cell? ⟨w3.heap.size, 2, none⟩ = some (.slice (some ⟨b, o, none⟩) 2 rc) := by simp [World.cell?, gr]
    obtain ⟨⟨p0, p1⟩, q0, q1⟩ := HPQ.out
    have x0 : w6.cell? ⟨b, o, none⟩ = some (.bool true) := (World.cell?_of_block (a := ⟨b, o, none⟩) gb).trans p0
    have x1 : w6.cell? ⟨b, o + 1, none⟩ = some (.string s) := (World.cell?_of_block (a := ⟨b, o + 1, none⟩) gb).trans p1
    have x3 : w6.cell? ⟨b, o + 3, none⟩ = some (.bool true) := (World.cell?_of_block (a := ⟨b, o + 3, none⟩) gb).trans q0
    have x4 : w6.cell? ⟨b, o + 3 + 1, none⟩ = some (.string t) := (World.cell?_of_block (a := ⟨b, o + 3 + 1, none⟩) gb).trans q1
    have HX9 : Hid (Ext w w6) := (((HX7.out.st (by simp; omega) _).st (by simp; omega) _).st (by simp; omega) _).tr hx8
    clear hsz4 hbn hbl hsz6 hsz3 hsz1 hx8 hBB g5 gr gb p0 p1 q0 q1 k0 k1 k2 k3
    go_wp2
    go_ret
    exact ⟨ret_bool (by simp), HX9.out⟩
end Go.Proofs.Ytephgondpignbaa
