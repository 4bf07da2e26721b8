/-
  The walks of layer 12 (sexp): what the program's functions compute.
-/
import Derived.Test.YtephgondpignbaaRows
import Derived.Test.YtephgondpignbaaSexpPlain
import Derived.Test.YtephgondpignbaaMem
namespace Go.Proofs.Ytephgondpignbaa
open Go.RowKit

theorem ret_bool {a b : Bool} (h : a = b) : Ending.returned (.bool a) = .returned (.bool b) := by rw [h]
theorem ret_pair {a b c d : Value} (h : a = c) (h' : b = d) : Ending.returned (.tuple #[a, b]) = .returned (.tuple #[c, d]) := by rw [h, h']
theorem all_step (s : ByteArray) (k : Nat) (h : k < s.size) (p : UInt8 → Bool) : (s.data.toList.drop k).all p = (p s[k] && (s.data.toList.drop (k + 1)).all p) := by
  have h' : k < s.data.toList.length := by simpa using h
  rw [List.drop_eq_getElem_cons h', List.all_cons]
  rfl

set_option maxRecDepth 100000 in
theorem plain_calls (c : UInt8) (w : World) :
    Calls Try.prog 23 #[.int .u8 c.toNat] w fun e w' => e = .returned (.bool (isPlain c)) ∧ w = w' := by
  have hp : isPlain c = (decide (32 < c.toNat) && decide (c.toNat < 127) && !(c.toNat == 40) && !(c.toNat == 41) && !(c.toNat == 59)) := rfl
  rw [hp]
  clear hp
  generalize c.toNat = n
  go_enter Try.func23, Try.ntmps23
  go_wp2
  all_goals go_ret
  all_goals refine ⟨ret_bool ?_, rfl⟩
  all_goals (rw [Bool.eq_iff_iff]; simp; try omega)
set_option maxRecDepth 100000 in
set_option maxHeartbeats 400000 in
theorem worded_calls (d : Nat) : ∀ (l : List T) (v : Value) (w : World), (Rp.slice (RpT d)).rel (Lt w.heap.size) w [v] l →
    Calls Try.prog 20 #[v] w fun e w' => e = .returned (.bool (wordedL l)) ∧ Below w.heap.size w w' := by
  induction d using Nat.strongRecOn with | _ d ih => ?_
  intro l v w hl
  obtain ⟨a, c, e, hlc, hcm, hel⟩ := id hl
  injection e with e; subst e
  have hlen : l.length ≤ 9223372036854775807 := by unfold maxLen at hcm; omega
  have IH := Lib.hid ih; clear ih
  have HL := Lib.hid hl; clear hl hel hcm hlc
  go_enter Try.func20, Try.ntmps20
  go_wp2
  go_loopw [8] (fun i wr => ∃ k : Nat, k ≤ l.length ∧ i = .int .i64 k ∧ Hid (wordedL (l.drop k) = wordedL l) ∧ Below w.heap.size w wr) (fun i _ => l.length - (intOf i).toNat)
  case atStart => exact ⟨0, Nat.zero_le _, rfl, rfl, Below.refl _ _⟩
  case round =>
    obtain ⟨k, hk, rfl, HQ, hb⟩ := hrel
    by_cases hlt : k < l.length
    · obtain ⟨b, o, a', n', c', d', ha, hbl, hdd, c0, c1, hwz, c2, hsub⟩ := elemT HL.out k hlt
      obtain ⟨hc, hf⟩ := bcell hb
      subst ha
      have h0 : wr.cell? ⟨b, o + k * 3, none⟩ = some (.bool l[k].leaf) := (hc _ _ hbl).trans c0
      have h1 : wr.cell? ⟨b, o + k * 3 + 1, none⟩ = some (.string l[k].word) := (hc _ _ hbl).trans c1
      have h2 : wr.cell? ⟨b, o + k * 3 + 2, none⟩ = some (.slice a' n' c') := (hc _ _ hbl).trans c2
      have hst := Lib.hid ((wordedL_step l k hlt).symm.trans HQ.out)
      have hse := Lib.hid (T.worded_eq l[k])
      generalize l[k].leaf = lf at *
      generalize l[k].word = wd at *
      clear hc hf c0 c1 c2
      have HS := Lib.hid hsub; clear hsub
      have HB := Lib.hid hb; clear hb
      have ih' := Lib.hid (IH.out d' (by omega))
      clear IH hdd
      cases lf with
      | true =>
        have hw : wordOk wd = (!wd.toList.isEmpty && wd.data.toList.all isPlain) := by rw [ByteArray.toList_eq]; rfl
        have hst' := hst.out
        rw [hse.out, if_pos rfl, hw] at hst'
        clear hw
        by_cases he : wd.toList.isEmpty = true
        · have hst2 := Lib.hid hst'; clear hst'
          go_wp2_with fail
          go_ret
          exact ⟨ret_bool (by rw [← hst2.out, he]; rfl), HB.out.al _⟩
        · have he2 : wd.toList.isEmpty = false := by simpa using he
          rw [he2] at hst'
          have hst2 := Lib.hid hst'; clear hst' he
          go_wp2_with fail
          obtain ⟨wo, rfl⟩ : ∃ wo : World, wo = wr := ⟨_, rfl⟩
          go_loopw [25] (fun i wr => ∃ j : Nat, j ≤ wd.size ∧ i = .int .i64 j ∧ Hid ((wd.data.toList.drop j).all isPlain = wd.data.toList.all isPlain) ∧ wr = wo.alloc (Obj.cells #[.bool true, .string wd, .slice a' n' c'] 40)) (fun i _ => wd.size - (intOf i).toNat)
          case atStart => exact ⟨0, Nat.zero_le _, rfl, rfl, rfl⟩
          case round =>
            obtain ⟨j, hj, rfl, HJ, rfl⟩ := hrel
            by_cases hjl : j < wd.size
            · have hsj := Lib.hid ((all_step wd j hjl isPlain).symm.trans HJ.out)
              go_wp2_with fail
              refine (plain_calls wd[j] _).mono ?_
              rintro e w1 ⟨rfl, rfl⟩
              have hsj' := hsj.out
              cases hr : isPlain wd[j] with
              | true =>
                rw [hr] at hsj'
                have hsj2 := Lib.hid hsj'; clear hsj' hr
                go_wp2_with fail
                go_roundw
                case rel => exact ⟨j + 1, by omega, by go_num, hsj2.out, trivial⟩
                case measure => simp [intOf]; omega
              | false =>
                rw [hr] at hsj'
                have hsj2 := Lib.hid hsj'; clear hsj' hr
                go_wp2_with fail
                go_ret
                exact ⟨ret_bool (by rw [← hst2.out, ← hsj2.out]; rfl), HB.out.al _⟩
            · have hj1 := HJ.out
              rw [List.drop_eq_nil_of_le (by simpa using hjl)] at hj1
              have hj2 := Lib.hid hj1; clear hj1
              go_wp2_with fail
              go_roundw
              case rel => exact ⟨k + 1, by omega, by go_num, by have := hst2.out; rw [← hj2.out] at this; exact this, HB.out.al _⟩
              case measure => simp [intOf]; omega
      | false =>
        go_wp2_with fail
        refine (ih'.out _ _ _ ((Rp.slice _).below HS.out (HB.out.al _) (HB.out.al _).size)).mono ?_
        rintro e w1 ⟨rfl, hb1⟩
        have hb2 := Lib.hid ((HB.out.al _).tr hb1)
        clear hb1
        have hst' := hst.out
        rw [hse.out, if_neg (by simp)] at hst'
        generalize wordedL l[k].list = r at *
        have hst2 := Lib.hid hst'; clear hst'
        cases r with
        | true =>
          go_wp2_with fail
          go_roundw
          case rel => exact ⟨k + 1, by omega, by go_num, hst2.out, hb2.out⟩
          case measure => simp [intOf]; omega
        | false =>
          go_wp2_with fail
          go_ret
          exact ⟨ret_bool (by rw [← hst2.out]; rfl), hb2.out⟩
    · go_wp2
      have hst' := HQ.out
      rw [List.drop_eq_nil_of_le (by omega)] at hst'
      go_ret
      exact ⟨ret_bool hst', hb⟩
set_option maxRecDepth 100000 in
set_option maxHeartbeats 400000 in
theorem sized_calls (d : Nat) : ∀ (l : List T) (v : Value) (n dep : Int) (w : World), (Rp.slice (RpT d)).rel (Lt w.heap.size) w [v] l → 0 ≤ n → n ≤ 100000 → 0 ≤ dep → dep ≤ 200 →
    Calls Try.prog 19 #[v, .int .i64 n, .int .i64 dep] w fun e w' => e = .returned (.tuple #[.int .i64 (sizedL l n dep).1, .bool (sizedL l n dep).2]) ∧ Below w.heap.size w w' := by
  induction d using Nat.strongRecOn with | _ d ih => ?_
  intro l v n dep w hl hn0 hn1 hd0 hd1
  obtain ⟨a, c, e, hlc, hcm, hel⟩ := id hl
  injection e with e; subst e
  have hlen : l.length ≤ 9223372036854775807 := by unfold maxLen at hcm; omega
  have IH := Lib.hid ih; clear ih
  have HL := Lib.hid hl; clear hl hel hcm hlc
  go_enter Try.func19, Try.ntmps19
  go_wp2
  go_loopw [1, 13] (fun m i wr => ∃ k : Nat, k ≤ l.length ∧ i = .int .i64 k ∧ ∃ q : Int, m = .int .i64 q ∧ 0 ≤ q ∧ q ≤ 100000 ∧ Hid (sizedL (l.drop k) q dep = sizedL l n dep) ∧ Below w.heap.size w wr) (fun _ i _ => l.length - (intOf i).toNat)
  case atStart => exact ⟨0, Nat.zero_le _, rfl, n, rfl, hn0, hn1, rfl, Below.refl _ _⟩
  case round =>
    obtain ⟨k, hk, rfl, q, rfl, hq0, hq1, HQ, hb⟩ := hrel
    by_cases hlt : k < l.length
    · obtain ⟨b, o, a', n', c', d', ha, hbl, hdd, c0, c1, hwz, c2, hsub⟩ := elemT HL.out k hlt
      obtain ⟨hc, hf⟩ := bcell hb
      subst ha
      generalize hlf : l[k].leaf = lf at *
      generalize hwd : l[k].word = wd at *
      have h0 : wr.cell? ⟨b, o + k * 3, none⟩ = some (.bool lf) := (hc _ _ hbl).trans c0
      have h1 : wr.cell? ⟨b, o + k * 3 + 1, none⟩ = some (.string wd) := (hc _ _ hbl).trans c1
      have h2 : wr.cell? ⟨b, o + k * 3 + 2, none⟩ = some (.slice a' n' c') := (hc _ _ hbl).trans c2
      clear hc hf c0 c1 c2
      have HS := Lib.hid hsub; clear hsub
      have HLF := Lib.hid hlf; clear hlf
      have HB := Lib.hid hb; clear hb
      have ih' := Lib.hid (IH.out d' (by omega))
      clear IH hdd
      have hst := Lib.hid ((sizedL_step l k hlt q dep).symm.trans HQ.out)
      have hse := Lib.hid (T.sized_eq l[k] q dep)
      have hle := Lib.hid (T.sized_le l[k] q dep hq1)
      cases lf with
      | true =>
        go_wp2_with fail
        · rename_i h9
          have hse' := hse.out
          rw [if_neg (by omega), if_pos HLF.out] at hse'
          have hst' := hst.out
          rw [hse', if_pos rfl] at hst'
          go_roundw
          case rel => exact ⟨k + 1, by omega, by go_num, _, rfl, by omega, by omega, hst', HB.out.al _⟩
          case measure => simp [intOf]; omega
        · rename_i h9
          have hse' := hse.out
          rw [if_pos h9] at hse'
          have hst' := hst.out
          rw [hse', if_neg (by simp)] at hst'
          go_ret2
          exact ⟨by rw [← hst']; rfl, HB.out.al _⟩
      | false =>
        go_wp2_with fail
        · rename_i h8 h9
          have hse' := hse.out
          have e9 : l[k].sized q dep = (q + 1, false) := by
            rw [hse', HLF.out]
            rcases h9 with h | h
            · rw [if_pos h]
            · rw [if_neg (by omega), if_neg (by simp), if_pos (by simpa using h)]
          have hst' := hst.out
          rw [e9, if_neg (by simp)] at hst'
          go_ret2
          exact ⟨by rw [← hst']; rfl, HB.out.al _⟩
        · have h9 : q + 1 ≤ 100000 ∧ (dep == 200) = false := by assumption
          have e9 : l[k].sized q dep = sizedL l[k].list (q + 1) (dep + 1) := by
            rw [hse.out, if_neg (by omega), HLF.out, if_neg (by simp), if_neg (by simpa using h9.2)]
          have hd3 : dep ≠ 200 := by simpa using h9.2
          have E9 := Lib.hid e9; clear e9
          refine (ih'.out _ _ _ _ _ ((Rp.slice _).below HS.out (HB.out.al _) (HB.out.al _).size) (by omega) (by omega) (by omega) (by omega)).mono ?_
          rintro e w1 ⟨rfl, hb1⟩
          have hb2 := Lib.hid ((HB.out.al _).tr hb1)
          have hc1 : w1.cell? ⟨wr.heap.size, 0, none⟩ = some (.bool false) := by rw [(bcell hb1).1 _ _ (by simp)]; simp
          clear hb1
          generalize hr : sizedL l[k].list (q + 1) (dep + 1) = r at *
          have hst' := hst.out
          have hle' := hle.out
          rw [E9.out] at hst' hle'
          obtain ⟨r1, r2⟩ := r
          cases r2 with
          | true =>
            have hst2 := Lib.hid hst'; clear hst'
            have hle2 := hle'.2.2 rfl
            have hle1 := hle'.1
            clear hle' hr
            go_wp2_with fail
            go_roundw
            case rel => exact ⟨k + 1, by omega, by go_num, _, rfl, by omega, hle2, hst2.out, hb2.out⟩
            case measure => simp [intOf]; omega
          | false =>
            have hst2 := Lib.hid hst'; clear hst' hle' hr
            go_wp2_with fail
            go_ret2
            exact ⟨by rw [← hst2.out]; rfl, hb2.out⟩
        · rename_i h9
          have e9 : l[k].sized q dep = (q + 1, false) := by rw [hse.out, if_pos h9]
          have hst' := hst.out
          rw [e9, if_neg (by simp)] at hst'
          go_ret2
          exact ⟨by rw [← hst']; rfl, HB.out.al _⟩
    · go_wp2
      have hst' := HQ.out
      rw [List.drop_eq_nil_of_le (by omega)] at hst'
      go_ret2
      exact ⟨by rw [← hst']; rfl, hb⟩
end Go.Proofs.Ytephgondpignbaa
