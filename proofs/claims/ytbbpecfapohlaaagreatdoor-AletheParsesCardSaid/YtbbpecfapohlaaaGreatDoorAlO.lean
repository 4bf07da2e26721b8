import Derived.Test.YtbbpecfapohlaaaGreatDoorAlP
import Derived.Test.YtbbpecfapohlaaaGreatDoorStS
import Derived.Test.YtbbpecfapohlaaaGreatDoorLaySort
namespace Go.Proofs.YtbbpecfapohlaaaGreatDoor
open Go.RowKit
mutual
theorem putX_wc : ∀ s : ST, (putX s).length + 1 ≤ wX s + 2 * cX s
  | .mk b w l => by
    have := putXs_wc l
    rw [putX, wX_mk, cX_mk]
    split
    · omega
    · simp only [List.length_cons, List.length_append, List.length_nil]
      omega
theorem putXs_wc : ∀ l : List ST, (putXs l).length ≤ wXs l + 2 * cXs l
  | [] => by rw [putXs]; exact Nat.zero_le _
  | s :: r => by
    have h1 := putX_wc s
    have h2 := tlX_wc r
    rw [putXs, wXs_cons, cXs_cons, List.length_append]
    omega
theorem tlX_wc : ∀ l : List ST, (tlX l).length ≤ wXs l + 2 * cXs l
  | [] => by rw [tlX]; exact Nat.zero_le _
  | s :: r => by
    have h1 := putX_wc s
    have h2 := tlX_wc r
    rw [tlX, wXs_cons, cXs_cons, List.length_cons, List.length_append]
    omega
end
theorem allX_wc : ∀ l : List ST, (allX l).length ≤ wXs l + 2 * cXs l
  | [] => Nat.zero_le _
  | s :: r => by
    have h1 := putX_wc s
    have h2 := allX_wc r
    have e : allX (s :: r) = putX s ++ 10 :: allX r := by unfold allX; simp
    rw [e, wXs_cons, cXs_cons, List.length_append, List.length_cons]
    omega
theorem printL_329 {q : Rat} (h : Bd 256 q) : (printL q).length < 329 := by
  have h1 := limbs_len_bd h.1
  have h2 := limbs_len_bd h.2
  have t1 := textL_len q.num.natAbs
  have t2 := textL_len q.den
  unfold printL
  rw [List.length_append, List.length_append]
  split <;> split <;> simp only [List.length_cons, List.length_nil] <;> omega
/-- A step as the laws build them. -/
structure LawS (s : Stp) : Prop where
  ok : okA s
  cl : s.cl.length ≤ 40
  pr : s.pr.length ≤ 40
  tm : s.tm.length ≤ 40
  bd : ∀ q ∈ s.tm, Bd 256 q
theorem law_fit {b : Int} (hb : 0 ≤ b) {s : Stp} {i : Nat} (hi : i ≤ 9223372036854775807) (hs : LawS s) (h : fmA s i = true) : Fit (alRow b s i) 172 15589 3 := by
  have f := fit_step hb hi h (by have := hs.ok.idx.2; omega) (by decide : 23 ≤ 329) fun q hq => printL_329 (hs.bd q hq)
  have h1 := hs.cl
  have h2 := hs.pr
  have h3 := hs.tm
  have h4 : s.tm.length + s.pr.length ≤ 40 := by
    obtain ⟨_, _, _, _, h5⟩ := fmA_iff.1 h
    rcases h5 with ⟨_, _, e, _⟩ | ⟨_, _, e⟩ | ⟨_, _, e⟩ <;> rw [e, List.length_nil] <;> omega
  have h5 : 329 * (1 + s.tm.length + s.pr.length) ≤ 329 * 41 := Nat.mul_le_mul_left _ (by omega)
  exact f.up (by omega) (by omega) (Nat.le_refl _)
theorem mem_rows {b : Int} {l : List Stp} {x : ST} (h : x ∈ rowsA b l) : ∃ i, ∃ hi : i < l.length, x = alRow b l[i] i := by
  obtain ⟨⟨s, i⟩, hz, rfl⟩ := List.mem_map.1 h
  obtain ⟨hi, e⟩ := List.getElem?_eq_some_iff.1 (List.mem_zipIdx_iff_getElem?.1 hz)
  dsimp only at e ⊢
  exact ⟨i, hi, by rw [← e]⟩
/-- Steps of a law that can be told: their rows. -/
theorem law_rows {b : Int} {l : List Stp} (hl : l.length ≤ 60) (hs : ∀ s ∈ l, LawS s) (h : chA b l = 0) : ∀ x ∈ rowsA b l, Fit x 172 15589 3 := fun x hx => by
  obtain ⟨hb, h1, h2⟩ := chA_0 h
  obtain ⟨i, hi, rfl⟩ := mem_rows hx
  exact law_fit hb.1 (by omega) (hs _ (List.getElem_mem hi)) (h2 i hi)
theorem fits_w {rows : List ST} (h : ∀ x ∈ rows, Fit x 172 15589 3) : wXs rows ≤ rows.length * 15589 ∧ cXs rows ≤ rows.length * 172 := ⟨wXs_le fun x hx => (h x hx).w, cXs_le fun x hx => (h x hx).c⟩
theorem fits_ch {rows : List ST} (h : ∀ x ∈ rows, Fit x 172 15589 3) (hl : rows.length ≤ 500) : chX rows = 0 := fit_chX (fun x hx => ⟨(h x hx).nf, (h x hx).wd, (h x hx).h⟩) (by have := (fits_w h).2; omega)
theorem law_text {b : Int} {l : List Stp} (hl : l.length ≤ 60) (hs : ∀ s ∈ l, LawS s) (h : chA b l = 0) : (textA b l).length ≤ 1000000 := by
  have f := fits_w (law_rows hl hs h)
  have := allX_wc (rowsA b l)
  rw [rowsA_len] at f
  rw [← text_rows]
  omega
theorem law_pr {b : Int} {l : List Stp} (hl : l.length ≤ 60) (hs : ∀ s ∈ l, LawS s) : prA b l = if chA b l = 0 then (textA b l, 0) else ([], chA b l) := by
  by_cases h : chA b l = 0
  · rw [if_pos h]
    refine prA_ok h ?_ (fits_ch (law_rows hl hs h) (by rw [rowsA_len]; omega)) (law_text hl hs h)
    unfold bigA
    rw [List.any_eq_false]
    intro s hm
    rw [Bool.not_eq_true, List.any_eq_false]
    intro q hq
    have := printL_329 ((hs s hm).bd q hq)
    rw [decide_eq_true_eq]
    omega
  · rw [if_neg h]
    exact prA_err h
theorem law_pa {b : Int} {l : List Stp} (hl : l.length ≤ 60) (hs : ∀ s ∈ l, LawS s) (h : chA b l = 0) : paA b (textA b l) = (l, 0) :=
  pa_text h (fun s hm => by have := (hs s hm).ok.idx.2; omega) (fun x hx => (law_rows hl hs h x hx).nf) (fits_ch (law_rows hl hs h) (by rw [rowsA_len]; omega)) (law_text hl hs h)
end Go.Proofs.YtbbpecfapohlaaaGreatDoor
namespace Go.Proofs.YtbbpecfapohlaaaGreatDoor
open Go.RowKit
/-- A step, as the laws are handed it: its numbers are ints of 64 bits. -/
def okSA (s : SN) : Prop := okSN s ∧ inR s.rule ∧ inR s.idx ∧ (∀ x ∈ s.cl, inR x) ∧ ∀ x ∈ s.pr, inR x
theorem stL_law {l : List SN} (hl : ∀ s ∈ l, okSA s) : ∀ s ∈ stL l, LawS s := fun s hs => by
  have hsm := stL_sm (fun s h => (hl s h).1) s hs
  obtain ⟨n, hn, rfl⟩ := List.mem_map.1 hs
  obtain ⟨_, h1, h2, h3, h4⟩ := hl n (List.mem_of_mem_take hn)
  have e1 : (stS n).cl.length ≤ 40 := by show (n.cl.take 40).length ≤ _; simp; omega
  have e2 : (stS n).pr.length ≤ 40 := by show (n.pr.take 40).length ≤ _; simp; omega
  have e3 : (stS n).tm.length ≤ 40 := by rw [stS_tm]; simp; omega
  exact ⟨⟨h1, h2, fun x hx => h3 x (List.mem_of_mem_take hx), fun x hx => h4 x (List.mem_of_mem_take hx), by omega, by omega, by omega⟩, e1, e2, e3, hsm.1⟩
section
variable {H : Type} {enc : TypeId × Value → H} {W : World}
theorem inR_of {n : Int} (h1 : IntKind.i64.min ≤ n) (h2 : n ≤ IntKind.i64.max) : inR n := by
  simp [IntKind.min, IntKind.max, IntKind.signed, IntKind.bits] at h1 h2
  exact ⟨by omega, by omega⟩
theorem rIA {ds : List D} (h : QInt .i64 ds) : QOf (fun v : Int => [D.v (.int .i64 v)]) inR ds := by
  obtain ⟨n, rfl, h1, h2⟩ := h
  exact ⟨n, rfl, inR_of h1 h2⟩
theorem rodSA (m : Nat) : OD enc Tryz.prog W m 124 (QOf enSN okSA) := by
  cases m with
  | zero => intro n hn; omega
  | succ m =>
    refine (OD.fields (l := [(3, 0), (55, 1), (3, 2), (55, 3), (48, 4)]) (Qs := [QInt .i64, QList (QInt .i64), QInt .i64, QList (QInt .i64), QList (QOf enN okN)]) (by kernel_rfl) (by kernel_rfl) ⟨rodI m, rodIs m, rodI m, rodIs m, rodNs m, trivial⟩).imp fun ds h => ?_
    obtain ⟨a, r1, rfl, ⟨x, rfl, x1, x2⟩, b, r2, rfl, hb, h3⟩ := h
    obtain ⟨c, d, e, rfl, ⟨y, rfl, y1, y2⟩, hd, he⟩ := QAll.three h3
    obtain ⟨l, rfl, hl0, hl⟩ := QList.of (fun _ => rIA) hb
    obtain ⟨p, rfl, hp0, hp⟩ := QList.of (fun _ => rIA) hd
    obtain ⟨t, rfl, ht, htl⟩ := QList.of (fun _ h => h) he
    exact ⟨⟨x, l, y, p, t⟩, rfl, ⟨ht, hl, hp, htl⟩, inR_of x1 x2, inR_of y1 y2, hl0, hp0⟩
theorem odSA (m : Nat) : OD enc Tryz.prog W m 26 (QList (QOf enSN okSA)) := by
  cases m with
  | zero => intro n hn; omega
  | succ m => exact OD.slice (by kernel_rfl) (k := 4) (by kernel_rfl) (rodSA m)
end
end Go.Proofs.YtbbpecfapohlaaaGreatDoor
