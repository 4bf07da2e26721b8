/-
  Layer 12, deep and long rows: the walk of SexpDeep.
-/
import Derived.Test.YtephgondpignbaaSexpDeepP
import Derived.Test.YtephgondpignbaaSexpOpen
import Derived.Deep.CutRange
namespace Go.Proofs.Ytephgondpignbaa
open Go.RowKit
theorem SlC.rel_lt {α : Type} {R : Rp α} {S : Nat → Prop} {w : World} {a : Option Addr} {n c : Nat} {l : List α} (h : SlC R S w a n l) (hS : ∀ b, S b → b < w.heap.size) (hab : ∀ g, a.map (·.block) = some g → g < w.heap.size) (h1 : n ≤ c) (h2 : c ≤ maxLen) : (Rp.slice R).rel (Lt w.heap.size) w [.slice a n c] l := by
  obtain ⟨rfl, css, hl, hr, hc⟩ := h
  have hk := OwnL.css_len hl hr
  refine ⟨a, c, rfl, h1, h2, fun hp => ?_⟩
  obtain ⟨b, o, ha, hcc⟩ := hc hp
  refine ⟨b, o, ha, hab b (by rw [ha]; rfl), fun i hi => ?_⟩
  have hi' : i < css.length := by omega
  refine ⟨css[i], R.mono (hr i hi hi') hS, fun j hj => hcc _ _ ?_⟩
  rw [flatten_get hk i j hi' (by rw [← hk css[i] (List.getElem_mem hi')]; exact hj)]
  exact List.getElem?_eq_getElem hj
def wordsV (q : Nat) : List Value := (List.replicate q [Value.bool true, .string ⟨#[97]⟩, .slice none 0 0]).flatten
theorem wordsV_succ (q : Nat) : wordsV (q + 1) = wordsV q ++ [.bool true, .string ⟨#[97]⟩, .slice none 0 0] := by
  unfold wordsV
  rw [List.replicate_succ', List.flatten_append]; simp
theorem ownsRow_ext {w w' : World} {n0 : Nat} {e : TypeId} {k : Nat} {v : Value} {n : Nat} {xs : List Value} (h : w.ownsRow n0 e k v n xs) (hx : Ext w w') : w'.ownsRow n0 e k v n xs :=
  h.kept (row := none) ⟨hx.os, hx.tape, hx.output, hx.size, fun i hi _ => hx.block i hi⟩ (by cases v.ownBlock <;> simp)
theorem words_rel {w : World} {n0 : Nat} {e : TypeId} {v : Value} {q : Nat} (h : w.ownsRow n0 e 3 v q (wordsV q)) : OwnL (RpT 1) no n0 e w v (List.replicate q wa) :=
  ⟨List.replicate q [Value.bool true, .string ⟨#[97]⟩, .slice none 0 0], by simp, fun i h1 h2 => by
    simp only [List.getElem_replicate]
    exact mkT ⟨none, 0, rfl, by simp, by simp [maxLen], by simp⟩ (by decide), by rw [List.length_replicate]; exact h⟩
def BoxX (B : Nat) (wr : World) (j : Nat) : Prop := ∃ va n' c', wr.heap[B]? = some (.cells #[.bool false, .string ⟨#[]⟩, .slice va n' c'] 40 (0, 0)) ∧ (RpT (j + 1)).rel (But wr.heap.size B) wr [.bool false, .string ⟨#[]⟩, .slice va n' c'] (nest (j - 1))
theorem box_set {w : World} {B : Nat} {a b c x y z : Value} {t : TypeId} (h : w.heap[B]? = some (.cells #[a, b, c] t (0, 0))) : (((w.setCell ⟨B, 0, none⟩ x).setCell ⟨B, 1, none⟩ y).setCell ⟨B, 2, none⟩ z).heap[B]? = some (.cells #[x, y, z] t (0, 0)) := by
  simp [World.setCell, Array.getElem?_modify, h]
theorem box_cells {w : World} {B : Nat} {a b c : Value} {t : TypeId} (h : w.heap[B]? = some (.cells #[a, b, c] t (0, 0))) : w.cell? ⟨B, 0, none⟩ = some a ∧ w.cell? ⟨B, 1, none⟩ = some b ∧ w.cell? ⟨B, 2, none⟩ = some c ∧ ∀ j, w.frozen? ⟨B, j, none⟩ = false := by
  simp [World.cell?, World.frozen?, h]
theorem tmod230 (n : Int) : -229 ≤ n.tmod 230 ∧ n.tmod 230 ≤ 229 := by
  have h1 := Int.tmod_lt_of_pos n (show (0 : Int) < 230 by decide)
  have h2 := Int.tmod_lt_of_pos (-n) (show (0 : Int) < 230 by decide)
  rw [Int.neg_tmod] at h2
  omega
set_option maxRecDepth 100000 in
set_option maxHeartbeats 4000000 in
theorem deep_calls (n m : Int) (w : World) (hm0 : -9223372036854775808 ≤ m) (hm1 : m ≤ 9223372036854775807) :
    Calls Try.prog 4 #[.int .i64 n, .int .i64 m] w fun e w' => e = .returned (.bool true) ∧ Ext w w' := by
  have hr := tmod230 n
  go_enter Try.func4, Try.ntmps4
  go_upto_if 18 with (fail)
  go_cut [1, 5] from 6 (fun mm kk wc => mm = .int .i64 m ∧ (∃ k : Nat, k ≤ 229 ∧ kk = .int .i64 k) ∧ w = wc)
  case first =>
    go_wp2_with fail
    all_goals go_meet
    all_goals exact ⟨rfl, ⟨(n.tmod 230).natAbs, by omega, by congr 1; omega⟩, rfl⟩
  case rest =>
  obtain ⟨rfl, ⟨k, hk2, rfl⟩, rfl⟩ := hcut
  clear hr
  go_wp2_with fail
  refine (row_calls 0 no [] none 0 _ (fun _ h => h.elim) ⟨rfl, [], rfl, fun i h => absurd h (by simp), fun h => absurd h (by simp)⟩ (fun g h => by cases h) (by simp)).mono ?_
  rintro e w1 ⟨ra, rc, rfl, hx1, hr1⟩
  have HX1 := Lib.hid hx1
  have HR1 := Lib.hid hr1
  clear hx1 hr1
  go_wp2_with fail
  go_loopw [6, 8] (fun s i wr => ∃ j : Nat, j ≤ k ∧ i = .int .i64 j ∧ ∃ u : ByteArray, s = .string u ∧ Hid (u.data.toList = List.replicate j 40 ++ List.replicate j 41) ∧ u.size ≤ 1000 ∧ Hid (Ext w wr) ∧ Hid (BoxX w1.heap.size wr j)) (fun _ i _ => k - (intOf i).toNat)
  case atStart =>
    refine ⟨0, Nat.zero_le _, rfl, _, rfl, rfl, by decide, HX1.out.al _, ?_⟩
    refine ⟨ra, 0, rc, heap_alloc_new w1 _, mkT ((Rp.slice _).keep HR1.out fun b hb => ⟨⟨by have := hb.2; simp; omega, by have := hb.2; omega⟩, heap_alloc_old w1 _ hb.2⟩) (by decide)⟩
  case round =>
    obtain ⟨j, hj, rfl, u, rfl, HU, hus, HX, HB⟩ := hrel
    by_cases hlt : j < k
    · have hu2 : ({ data := #[40] } ++ u ++ { data := #[41] } : ByteArray).data.toList = List.replicate (j + 1) 40 ++ List.replicate (j + 1) 41 := by
        rw [app_list, app_list, HU.out, List.replicate_succ (n := j), List.replicate_succ' (n := j)]; simp
      have hus2 : ({ data := #[40] } ++ u ++ { data := #[41] } : ByteArray).size ≤ 1000 := by
        rw [size_list _ hu2]; simp; omega
      have HU2 := Lib.hid hu2; clear hu2
      obtain ⟨va, n', c', hbk, hrel⟩ := HB.out
      obtain ⟨k0, k1, k2, k3⟩ := box_cells hbk
      have hBl := (Array.getElem?_eq_some_iff.1 hbk).1
      have HBK := Lib.hid hbk
      have HRL := Lib.hid hrel
      have HBL := Lib.hid hBl
      clear hbk hrel hBl
      by_cases hj0 : 0 < j
      · go_wp2_with fail
        have hsl : SlC (RpT (j + 1)) (But wr.heap.size w1.heap.size) (wr.alloc (.cells #[.bool false, .string ⟨#[]⟩, .slice va n' c'] 40)) (some ⟨wr.heap.size, 0, none⟩) [nest (j - 1)].length [nest (j - 1)] :=
          SlC.lit [[.bool false, .string ⟨#[]⟩, .slice va n' c']] rfl (fun i h h' => by
            match i, h with
            | 0, _ => exact (RpT _).keep HRL.out fun b hb => ⟨hb, heap_alloc_old wr _ hb.1⟩) rfl
        refine (row_calls (j + 1) _ [nest (j - 1)] _ 1 _ (fun b hb => by have := hb.1; simp; omega) hsl (fun g hg => by injection hg with hg; rw [← hg]; simp) (by simp)).mono ?_
        rintro e w2 ⟨rb, rd, rfl, hx2, hr2⟩
        have hbk2 : w2.heap[w1.heap.size]? = some (.cells #[.bool false, .string ⟨#[]⟩, .slice va n' c'] 40 (0, 0)) := by
          rw [hx2.block _ (by have := HBL.out; simp; omega), heap_alloc_old _ _ HBL.out]; exact HBK.out
        clear k0 k1 k2 k3
        obtain ⟨k0, k1, k2, k3⟩ := box_cells hbk2
        have HNB : Hid (BoxX w1.heap.size (((w2.setCell ⟨w1.heap.size, 0, none⟩ (.bool false)).setCell ⟨w1.heap.size, 1, none⟩ (.string ⟨#[]⟩)).setCell ⟨w1.heap.size, 2, none⟩ (.slice rb 1 rd)) (j + 1)) := by
          refine ⟨rb, 1, rd, box_set hbk2, ?_⟩
          have e1 : nest (j + 1 - 1) = .mk false .empty [nest (j - 1)] := by
            obtain ⟨i, rfl⟩ : ∃ i, j = i + 1 := ⟨j - 1, by omega⟩
            rfl
          rw [e1]
          refine mkT ((Rp.slice _).keep hr2 fun b hb => ?_) (by decide)
          have hne : b ≠ w1.heap.size := by
            rcases hb.1 with h | h
            · exact h.2
            · have := HBL.out; simp at h; omega
          refine ⟨⟨by have := hb.2; simpa [World.setCell] using this, hne⟩, ?_⟩
          rw [Below.heap_setCell _ _ _ _ (by simpa using hne), Below.heap_setCell _ _ _ _ (by simpa using hne), Below.heap_setCell _ _ _ _ (by simpa using hne)]
        have hws := HX1.out.size
        have HNX : Hid (Ext w (((w2.setCell ⟨w1.heap.size, 0, none⟩ (.bool false)).setCell ⟨w1.heap.size, 1, none⟩ (.string ⟨#[]⟩)).setCell ⟨w1.heap.size, 2, none⟩ (.slice rb 1 rd))) :=
          ((((HX.out.al _).tr hx2).st (by simpa using hws) _).st (by simpa using hws) _).st (by simpa using hws) _
        clear hx2 hr2 hbk2 hws hsl
        go_wp2_with fail
        go_roundw
        case rel => exact ⟨j + 1, by omega, by go_num, _, rfl, HU2.out, hus2, HNX.out, HNB.out⟩
        case measure => simp [intOf]; omega
      · go_wp2_with fail
        go_roundw
        case rel => exact ⟨j + 1, by omega, by go_num, _, rfl, HU2.out, hus2, HX.out, ⟨va, n', c', HBK.out, by
          have : j = 0 := by omega
          subst this
          exact RpT_succ 1 HRL.out⟩⟩
        case measure => simp [intOf]; omega
    · have hjk : j = k := by omega
      subst hjk
      go_wp2_with fail
      refine (parse_calls u _).mono ?_
      rintro e w3 ⟨lp, pa, pc, pl, er, rfl, hx3, hlp, hm⟩
      have hbk3 : ∃ va n' c', w3.heap[w1.heap.size]? = some (.cells #[.bool false, .string ⟨#[]⟩, .slice va n' c'] 40 (0, 0)) ∧ (RpT (j + 1)).rel (But w3.heap.size w1.heap.size) w3 [.bool false, .string ⟨#[]⟩, .slice va n' c'] (nest (j - 1)) := by
        obtain ⟨va, n', c', h1, h2⟩ := HB.out
        have hsz := hx3.size
        exact ⟨va, n', c', by rw [hx3.block _ (Array.getElem?_eq_some_iff.1 h1).1]; exact h1, (RpT _).keep h2 fun b hb => ⟨⟨by have := hb.1; omega, hb.2⟩, hx3.block b hb.1⟩⟩
      obtain ⟨va, n', c', hbk, hrel⟩ := hbk3
      obtain ⟨k0, k1, k2, k3⟩ := box_cells hbk
      have hsl : SlC (RpT (j + 1)) (But w3.heap.size w1.heap.size) (w3.alloc (.cells #[.bool false, .string ⟨#[]⟩, .slice va n' c'] 40)) (some ⟨w3.heap.size, 0, none⟩) [nest (j - 1)].length [nest (j - 1)] :=
        SlC.lit [[.bool false, .string ⟨#[]⟩, .slice va n' c']] rfl (fun i h h' => by
          match i, h with
          | 0, _ => exact (RpT _).keep hrel fun b hb => ⟨hb, heap_alloc_old w3 _ hb.1⟩) rfl
      have hcc := check_calls (j + 1) [nest (j - 1)] _ _ (hsl.rel_lt (fun b hb => by have := hb.1; simp; omega) (fun g hg => by injection hg with hg; rw [← hg]; simp) (c := 1) (by simp) (by simp [maxLen]))
      have HX3 := Lib.hid (HX.out.tr hx3)
      clear hsl hrel hbk hx3 hlp
      go_upto_if 42 with (fail)
      go_cut [1] from 5 (fun mm wc => mm = .int .i64 m ∧ Hid (Ext w wc))
      case first =>
        rcases (show 200 < j ∨ j = 0 ∨ j = 1 ∨ (2 ≤ j ∧ j ≤ 200) by omega) with hbig | hj0 | hj1 | hj2
        · rw [deep_big j hbig (by omega) u HU.out] at hm
          obtain ⟨rfl, rfl, _, hpl⟩ := hm
          have hpl2 : pl = 200 := by
            rw [hpl, size_list u HU.out]; simp; omega
          subst hpl2
          rw [nest_check (j - 1) (by omega), if_pos (by omega)] at hcc
          have HCC := Lib.hid hcc
          clear hcc hpl
          go_wp2_with fail
          refine HCC.out.mono ?_
          rintro e w4 ⟨rfl, hx4⟩
          have HX4 := Lib.hid ((HX3.out.al _).tr hx4)
          clear hx4 k0 k1 k2 k3
          go_wp2_with fail
          all_goals go_meet
          all_goals exact ⟨rfl, HX4.out⟩
        · obtain rfl := hj0
          rw [deep_none u HU.out] at hm
          obtain ⟨rfl, rfl, rfl⟩ := hm
          rw [nest_check _ (by omega), if_neg (by omega)] at hcc
          have HCC := Lib.hid hcc
          clear hcc
          go_wp2_with fail
          refine HCC.out.mono ?_
          rintro e w4 ⟨rfl, hx4⟩
          have HX4 := Lib.hid ((HX3.out.al _).tr hx4)
          clear hx4 k0 k1 k2 k3
          go_wp2_with fail
          all_goals go_meet
          all_goals exact ⟨rfl, HX4.out⟩
        · subst hj1
          obtain ⟨nn, hd⟩ := deep_ok (1 - 1) (by omega) u (by rw [show 1 - 1 + 1 = 1 by omega]; exact HU.out)
          rw [hd] at hm
          obtain ⟨rfl, rfl, rfl⟩ := hm
          clear hd
          skip
          rw [nest_check _ (by omega), if_neg (by omega)] at hcc
          have HCC := Lib.hid hcc
          clear hcc
          go_wp2_with fail
          refine HCC.out.mono ?_
          rintro e w4 ⟨rfl, hx4⟩
          have HX4 := Lib.hid ((HX3.out.al _).tr hx4)
          clear hx4 k0 k1 k2 k3
          go_wp2_with fail
          all_goals go_meet
          all_goals exact ⟨rfl, HX4.out⟩
        · obtain ⟨nn, hd⟩ := deep_ok (j - 1) (by omega) u (by rw [show j - 1 + 1 = j by omega]; exact HU.out)
          rw [hd] at hm
          obtain ⟨rfl, rfl, rfl⟩ := hm
          clear hd
          have hj3 : ¬ (j : Int) ≤ 1 := by omega
          rw [nest_check _ (by omega), if_neg (by omega)] at hcc
          have HCC := Lib.hid hcc
          clear hcc
          go_wp2_with fail
          refine HCC.out.mono ?_
          rintro e w4 ⟨rfl, hx4⟩
          have HX4 := Lib.hid ((HX3.out.al _).tr hx4)
          clear hx4 k0 k1 k2 k3
          go_wp2_with fail
          all_goals go_meet
          all_goals exact ⟨rfl, HX4.out⟩
      case rest =>
        obtain ⟨rfl, HXw⟩ := hcut
        clear HX3 HX HB HX1 HR1 HU hm hcc hlt hj hus hk2 k0 k1 k2 k3
        have hout : (m < 99990 ∨ 100010 < m) ∨ ∃ M : Nat, m = (M : Int) ∧ 99990 ≤ M ∧ M ≤ 100010 := by
          by_cases h1 : m < 99990
          · exact .inl (.inl h1)
          · by_cases h2 : 100010 < m
            · exact .inl (.inr h2)
            · exact .inr ⟨m.toNat, by omega, by omega, by omega⟩
        rcases hout with hout | ⟨M, rfl, hM0, hM1⟩
        · rcases hout with h1 | h1
          all_goals
            go_wp2_with fail
            refine (awake_calls _).mono ?_
            rintro e w4 ⟨rfl, hx4⟩
            have HX4 := Lib.hid (HXw.out.tr hx4)
            clear hx4
            go_wp2_with fail
            go_ret
            exact ⟨rfl, HX4.out⟩
        · go_wp2_with fail
          have hsw := HXw.out.size
          go_loopw [12, 13, 14] (fun bv rw i wr => ∃ q : Nat, q ≤ M ∧ i = .int .i64 q ∧ Hid (wr.ownsRow w.heap.size 5 1 bv (abL q).length (byteV (abL q))) ∧ Hid (wr.ownsRow w.heap.size 40 3 rw q (wordsV q)) ∧ Hid (∀ g, bv.ownBlock = some g → rw.ownBlock ≠ some g) ∧ Hid (Ext w wr)) (fun _ _ i _ => M - (intOf i).toNat)
          case atStart =>
            refine ⟨0, Nat.zero_le _, rfl, ?_, ?_, ?_, (HXw.out.al _).al _⟩
            · exact (World.ownsRow_made wc #[] 0 hsw (by simp [maxLen]) (by simp)).alloc _
            · have := World.ownsRow_made (base := w.heap.size) (size := 3) (e := 40) (wc.alloc (.cells #[] 5)) #[] 0 (by rw [World.size_alloc]; omega) (by simp [maxLen]) (by simp)
              simpa [Hid, wordsV] using this
            · intro g hg hg2
              simp [Value.ownBlock] at hg hg2
              omega
          case round =>
            obtain ⟨q, hq, rfl, HB1, HR1, HD, HXr⟩ := hrel
            by_cases hlt : q < M
            · have hlen2 : (abL q).length ≤ 300000 := by rw [abL_len]; omega
              have hsr := HXr.out.size
              have hlt1 := HB1.out.lt
              have hlt2 := HR1.out.lt
              have HLT := Lib.hid (And.intro hlt1 hlt2)
              clear hlt1 hlt2
              have HS : Hid (Src Try.prog 1 42 (.slice (some ⟨wr.heap.size, 0, none⟩) 2 2) 2 [.int .u8 97, .int .u8 32] (wr.alloc (.cells #[.int .u8 97, .int .u8 32] 5))) :=
                Src.ofSlice _ elemB.under _ 2 2 _ (by simp) (fun j u hj => by
                  rw [Addr.add_lit]; simp only [World.cell?, heap_alloc_new]; simpa using hj) (by simp [Value.oneCell'])
              go_wp2_with (at_builtin; go_must (refine wp_append_src rfl _ _ _ _ rfl elemB w.heap.size _ _ _ rfl (HB1.out.alloc _) _ 2 _ rfl HS.out (by omega) (by omega) (by simp; omega) ?_))
              intro v1 w2 ho1 hg1 hv1
              have hne1 : ∀ g, v1.ownBlock = some g → u13.ownBlock ≠ some g := fun g hg hg2 => by
                rcases hv1 g hg with h | h
                · exact HD.out g h hg2
                · have := (HLT.out.2 g hg2).2; rw [h] at this; omega
              have hrow1 : w2.ownsRow w.heap.size 40 3 u13 q (wordsV q) := (HR1.out.alloc _).kept hg1 (by
                cases h : u13.ownBlock with
                | none => exact .inl rfl
                | some g => right; intro h2; exact HD.out g h2.symm h)
              have hx2 : Ext w w2 := ⟨hg1.os.trans HXr.out.os, hg1.tape.trans HXr.out.tape, hg1.output.trans HXr.out.output, by have := hg1.size; simp at this; omega, fun k hk => by
                rw [hg1.block k (by simp; omega) (fun e => by have := (HLT.out.1 k e.symm).1; omega), heap_alloc_old _ _ (by omega)]
                exact HXr.out.block k hk⟩
              have HO1 : Hid (w2.ownsRow w.heap.size 5 1 v1 (abL (q + 1)).length (byteV (abL (q + 1)))) := by
                have := ho1
                rw [abL_snoc, byteV_app, List.length_append]
                exact this
              have HR2 := Lib.hid hrow1
              have HN1 := Lib.hid hne1
              have HX2 := Lib.hid hx2
              clear ho1 hg1 hv1 hne1 hrow1 hx2
              go_wp2_with fail
              refine (word_calls _ _).mono ?_
              rintro e w3 ⟨rfl, hx3⟩
              have HX3 := Lib.hid hx3
              have HX4 := Lib.hid (HX2.out.tr hx3)
              have hs3 := HX4.out.size
              have HO2 := Lib.hid (ownsRow_ext HO1.out hx3)
              have HR3 := Lib.hid (ownsRow_ext HR2.out hx3)
              clear hx3
              have HS2 : Hid (Src Try.prog 3 22 (.slice (some ⟨w3.heap.size, 0, none⟩) 1 1) 1 [.bool true, .string ⟨#[97]⟩, .slice none 0 0] (w3.alloc (.cells #[.bool true, .string ⟨#[97]⟩, .slice none 0 0] 40))) :=
                Src.ofSlice _ elemS.under _ 1 1 _ (by simp) (fun j u hj => by
                  rw [Addr.add_lit]; simp only [World.cell?, heap_alloc_new]; simpa using hj) (by simp [Value.oneCell'])
              go_wp2_with (at_builtin; go_must (refine wp_append_src rfl _ _ _ _ rfl elemS w.heap.size _ _ _ rfl (HR3.out.alloc _) _ 1 _ rfl HS2.out (by omega) (by omega) (by simp; omega) ?_))
              intro v2 w4 ho2 hg2 hv2
              have hlt3 := HO2.out.lt
              have hne2 : ∀ g, v1.ownBlock = some g → v2.ownBlock ≠ some g := fun g hg h2 => by
                rcases hv2 g h2 with h | h
                · exact HN1.out g hg h
                · have := (hlt3 g hg).2; rw [h] at this; omega
              have hrow2 : w4.ownsRow w.heap.size 5 1 v1 (abL (q + 1)).length (byteV (abL (q + 1))) := (HO2.out.alloc _).kept hg2 (by
                cases h : v1.ownBlock with
                | none => exact .inl rfl
                | some g => right; intro h2; exact HN1.out g h h2.symm)
              have hlt4 := HR3.out.lt
              have hx4 : Ext w w4 := ⟨hg2.os.trans HX4.out.os, hg2.tape.trans HX4.out.tape, hg2.output.trans HX4.out.output, by have := hg2.size; simp at this; omega, fun k hk => by
                rw [hg2.block k (by simp; omega) (fun e => by have := (hlt4 k e.symm).1; omega), heap_alloc_old _ _ (by omega)]
                exact HX4.out.block k hk⟩
              rw [← wordsV_succ] at ho2
              have HA := Lib.hid hrow2
              have HBB := Lib.hid ho2
              have HC := Lib.hid hne2
              have HDD := Lib.hid hx4
              clear ho2 hg2 hv2 hlt3 hne2 hrow2 hlt4 hx4
              go_wp2_with fail
              go_roundw
              case rel => exact ⟨q + 1, by omega, by go_num, HA.out, HBB.out, HC.out, HDD.out⟩
              case measure => simp [intOf]; omega
            · have hqM : q = M := by omega
              subst hqM
              have hcv := (u8_row.2 HB1.out : OwnL Rp.u8 no w.heap.size 5 wr u12 (abL q)).toStr (P := Try.prog) 42 9 (by kernel_rfl) (by kernel_rfl) (by kernel_rfl)
              have hws := (words_rel HR1.out).shut
              have hsh := (words_rel HR1.out).shape
              rw [List.length_replicate] at hsh
              obtain ⟨sa, sc, rfl, _, _⟩ := hsh
              have HWS := Lib.hid ((Rp.slice _).mono hws fun b hb => hb.2 : (Rp.slice (RpT 1)).rel (Lt wr.heap.size) wr [.slice sa q sc] (List.replicate q wa))
              have hpt := long_top q (by omega) ⟨(abL q).toArray⟩ (by simp)
              have hchk := long_check q
              clear hws HB1 HR1 HD
              by_cases hbig : 100000 < q
              · rw [if_neg (by omega)] at hpt
                rw [if_pos hbig] at hchk
                have HPT := Lib.hid hpt
                have HCK := Lib.hid hchk
                clear hpt hchk
                go_wp2_with fail
                refine (parse_calls _ _).mono ?_
                rintro e w5 ⟨l5, a5, c5, pl5, er5, rfl, hx5, hl5, hm5⟩
                rw [HPT.out] at hm5
                obtain ⟨rfl, rfl, _, hpl5⟩ := hm5
                have hpl6 : pl5 = 200000 := by
                  rw [hpl5]
                  have : (⟨(abL q).toArray⟩ : ByteArray).size = 2 * q := by
                    show (abL q).toArray.size = _
                    simp [abL_len]
                  omega
                subst hpl6
                have HX5 := Lib.hid (HXr.out.tr hx5)
                have HW5 := Lib.hid ((Rp.slice _).below HWS.out hx5 hx5.size)
                clear hx5 hl5 hpl5 hcv
                go_wp2_with fail
                refine (awake_calls _).mono ?_
                rintro e w6 ⟨rfl, hx6⟩
                have HX6 := Lib.hid (HX5.out.tr hx6)
                have HW6 := Lib.hid ((Rp.slice _).below HW5.out hx6 hx6.size)
                clear hx6
                go_wp2_with fail
                refine (check_calls 1 _ _ _ HW6.out).mono ?_
                rintro e w7 ⟨rfl, hx7⟩
                rw [HCK.out]
                have HX7 := Lib.hid (HX6.out.tr hx7)
                clear hx7
                go_wp2
                go_ret
                exact ⟨rfl, HX7.out⟩
              · rw [if_pos (by omega)] at hpt
                rw [if_neg hbig] at hchk
                have HPT := Lib.hid hpt
                have HCK := Lib.hid hchk
                have hsmall : q ≤ 100000 := by omega
                clear hpt hchk hbig
                go_wp2_with fail
                refine (parse_calls _ _).mono ?_
                rintro e w5 ⟨l5, a5, c5, pl5, er5, rfl, hx5, hl5, hm5⟩
                rw [HPT.out] at hm5
                obtain ⟨rfl, rfl, rfl⟩ := hm5
                rw [List.length_replicate]
                have HX5 := Lib.hid (HXr.out.tr hx5)
                have HW5 := Lib.hid ((Rp.slice _).below HWS.out hx5 hx5.size)
                clear hx5 hl5 hcv
                go_wp2_with fail
                refine (awake_calls _).mono ?_
                rintro e w6 ⟨rfl, hx6⟩
                have HX6 := Lib.hid (HX5.out.tr hx6)
                have HW6 := Lib.hid ((Rp.slice _).below HW5.out hx6 hx6.size)
                clear hx6
                go_wp2_with fail
                refine (check_calls 1 _ _ _ HW6.out).mono ?_
                rintro e w7 ⟨rfl, hx7⟩
                rw [HCK.out]
                have HX7 := Lib.hid (HX6.out.tr hx7)
                clear hx7
                go_wp2
                go_ret
                exact ⟨rfl, HX7.out⟩
end Go.Proofs.Ytephgondpignbaa
