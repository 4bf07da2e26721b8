import Derived.Test.YtbbpecfapohlaaaGreatDoorAlP
import Derived.Test.YtbbpecfapohlaaaGreatDoorStS
import Derived.Test.YtbbpecfapohlaaaGreatDoorLaySort
import Derived.Test.YtbbpecfapohlaaaGreatDoorAlM
import Derived.Test.YtbbpecfapohlaaaGreatDoorAlQ
namespace Go.Proofs.YtbbpecfapohlaaaGreatDoor
open Go.RowKit
mutual
theorem putX_wc : ∀ s : ST, (putX s).length + 1 ≤ wX s + 2 * cX s
  | .mk b w l => by
    have := putXs_wc l
    rw [putX, wX_mk, cX_mk]
    split
    · omega
    · simp only [List.length_cons, List.length_append, List.length_nil]
      omega
theorem putXs_wc : ∀ l : List ST, (putXs l).length ≤ wXs l + 2 * cXs l
  | [] => by rw [putXs]; exact Nat.zero_le _
  | s :: r => by
    have h1 := putX_wc s
    have h2 := tlX_wc r
    rw [putXs, wXs_cons, cXs_cons, List.length_append]
    omega
theorem tlX_wc : ∀ l : List ST, (tlX l).length ≤ wXs l + 2 * cXs l
  | [] => by rw [tlX]; exact Nat.zero_le _
  | s :: r => by
    have h1 := putX_wc s
    have h2 := tlX_wc r
    rw [tlX, wXs_cons, cXs_cons, List.length_cons, List.length_append]
    omega
end
theorem allX_wc : ∀ l : List ST, (allX l).length ≤ wXs l + 2 * cXs l
  | [] => Nat.zero_le _
  | s :: r => by
    have h1 := putX_wc s
    have h2 := allX_wc r
    have e : allX (s :: r) = putX s ++ 10 :: allX r := by unfold allX; simp
    rw [e, wXs_cons, cXs_cons, List.length_append, List.length_cons]
    omega
theorem printL_329 {q : Rat} (h : Bd 256 q) : (printL q).length < 329 := by
  have h1 := limbs_len_bd h.1
  have h2 := limbs_len_bd h.2
  have t1 := textL_len q.num.natAbs
  have t2 := textL_len q.den
  unfold printL
  rw [List.length_append, List.length_append]
  split <;> split <;> simp only [List.length_cons, List.length_nil] <;> omega
/-- A step as the laws build them. -/
structure LawS (s : Stp) : Prop where
  ok : okA s
  cl : s.cl.length ≤ 40
  pr : s.pr.length ≤ 40
  tm : s.tm.length ≤ 40
  bd : ∀ q ∈ s.tm, Bd 256 q
theorem law_fit {b : Int} (hb : 0 ≤ b) {s : Stp} {i : Nat} (hi : i ≤ 9223372036854775807) (hs : LawS s) (h : fmA s i = true) : Fit (alRow b s i) 172 15589 3 := by
  have f := fit_step hb hi h (by have := hs.ok.idx.2; omega) (by decide : 23 ≤ 329) fun q hq => printL_329 (hs.bd q hq)
  have h1 := hs.cl
  have h2 := hs.pr
  have h3 := hs.tm
  have h4 : s.tm.length + s.pr.length ≤ 40 := by
    obtain ⟨_, _, _, _, h5⟩ := fmA_iff.1 h
    rcases h5 with ⟨_, _, e, _⟩ | ⟨_, _, e⟩ | ⟨_, _, e⟩ <;> rw [e, List.length_nil] <;> omega
  have h5 : 329 * (1 + s.tm.length + s.pr.length) ≤ 329 * 41 := Nat.mul_le_mul_left _ (by omega)
  exact f.up (by omega) (by omega) (Nat.le_refl _)
theorem mem_rows {b : Int} {l : List Stp} {x : ST} (h : x ∈ rowsA b l) : ∃ i, ∃ hi : i < l.length, x = alRow b l[i] i := by
  obtain ⟨⟨s, i⟩, hz, rfl⟩ := List.mem_map.1 h
  obtain ⟨hi, e⟩ := List.getElem?_eq_some_iff.1 (List.mem_zipIdx_iff_getElem?.1 hz)
  dsimp only at e ⊢
  exact ⟨i, hi, by rw [← e]⟩
/-- Steps of a law that can be told: their rows. -/
theorem law_rows {b : Int} {l : List Stp} (hl : l.length ≤ 60) (hs : ∀ s ∈ l, LawS s) (h : chA b l = 0) : ∀ x ∈ rowsA b l, Fit x 172 15589 3 := fun x hx => by
  obtain ⟨hb, h1, h2⟩ := chA_0 h
  obtain ⟨i, hi, rfl⟩ := mem_rows hx
  exact law_fit hb.1 (by omega) (hs _ (List.getElem_mem hi)) (h2 i hi)
theorem fits_w {rows : List ST} (h : ∀ x ∈ rows, Fit x 172 15589 3) : wXs rows ≤ rows.length * 15589 ∧ cXs rows ≤ rows.length * 172 := ⟨wXs_le fun x hx => (h x hx).w, cXs_le fun x hx => (h x hx).c⟩
theorem fits_ch {rows : List ST} (h : ∀ x ∈ rows, Fit x 172 15589 3) (hl : rows.length ≤ 500) : chX rows = 0 := fit_chX (fun x hx => ⟨(h x hx).nf, (h x hx).wd, (h x hx).h⟩) (by have := (fits_w h).2; omega)
theorem law_text {b : Int} {l : List Stp} (hl : l.length ≤ 60) (hs : ∀ s ∈ l, LawS s) (h : chA b l = 0) : (textA b l).length ≤ 1000000 := by
  have f := fits_w (law_rows hl hs h)
  have := allX_wc (rowsA b l)
  rw [rowsA_len] at f
  rw [← text_rows]
  omega
theorem law_pr {b : Int} {l : List Stp} (hl : l.length ≤ 60) (hs : ∀ s ∈ l, LawS s) : prA b l = if chA b l = 0 then (textA b l, 0) else ([], chA b l) := by
  by_cases h : chA b l = 0
  · rw [if_pos h]
    refine prA_ok h ?_ (fits_ch (law_rows hl hs h) (by rw [rowsA_len]; omega)) (law_text hl hs h)
    unfold bigA
    rw [List.any_eq_false]
    intro s hm
    rw [Bool.not_eq_true, List.any_eq_false]
    intro q hq
    have := printL_329 ((hs s hm).bd q hq)
    rw [decide_eq_true_eq]
    omega
  · rw [if_neg h]
    exact prA_err h
theorem law_pa {b : Int} {l : List Stp} (hl : l.length ≤ 60) (hs : ∀ s ∈ l, LawS s) (h : chA b l = 0) : paA b (textA b l) = (l, 0) :=
  pa_text h (fun s hm => by have := (hs s hm).ok.idx.2; omega) (fun x hx => (law_rows hl hs h x hx).nf) (fits_ch (law_rows hl hs h) (by rw [rowsA_len]; omega)) (law_text hl hs h)
end Go.Proofs.YtbbpecfapohlaaaGreatDoor
namespace Go.Proofs.YtbbpecfapohlaaaGreatDoor
open Go.RowKit
/-- A step, as the laws are handed it: its numbers are ints of 64 bits. -/
def okSA (s : SN) : Prop := okSN s ∧ inR s.rule ∧ inR s.idx ∧ (∀ x ∈ s.cl, inR x) ∧ ∀ x ∈ s.pr, inR x
theorem stL_law {l : List SN} (hl : ∀ s ∈ l, okSA s) : ∀ s ∈ stL l, LawS s := fun s hs => by
  have hsm := stL_sm (fun s h => (hl s h).1) s hs
  obtain ⟨n, hn, rfl⟩ := List.mem_map.1 hs
  obtain ⟨_, h1, h2, h3, h4⟩ := hl n (List.mem_of_mem_take hn)
  have e1 : (stS n).cl.length ≤ 40 := by show (n.cl.take 40).length ≤ _; simp; omega
  have e2 : (stS n).pr.length ≤ 40 := by show (n.pr.take 40).length ≤ _; simp; omega
  have e3 : (stS n).tm.length ≤ 40 := by rw [stS_tm]; simp; omega
  exact ⟨⟨h1, h2, fun x hx => h3 x (List.mem_of_mem_take hx), fun x hx => h4 x (List.mem_of_mem_take hx), by omega, by omega, by omega⟩, e1, e2, e3, hsm.1⟩
section
variable {H : Type} {enc : TypeId × Value → H} {W : World}
theorem inR_of {n : Int} (h1 : IntKind.i64.min ≤ n) (h2 : n ≤ IntKind.i64.max) : inR n := by
  simp [IntKind.min, IntKind.max, IntKind.signed, IntKind.bits] at h1 h2
  exact ⟨by omega, by omega⟩
theorem rIA {ds : List D} (h : QInt .i64 ds) : QOf (fun v : Int => [D.v (.int .i64 v)]) inR ds := by
  obtain ⟨n, rfl, h1, h2⟩ := h
  exact ⟨n, rfl, inR_of h1 h2⟩
theorem rodSA (m : Nat) : OD enc Tryz.prog W m 124 (QOf enSN okSA) := by
  cases m with
  | zero => intro n hn; omega
  | succ m =>
    refine (OD.fields (l := [(3, 0), (55, 1), (3, 2), (55, 3), (48, 4)]) (Qs := [QInt .i64, QList (QInt .i64), QInt .i64, QList (QInt .i64), QList (QOf enN okN)]) (by kernel_rfl) (by kernel_rfl) ⟨rodI m, rodIs m, rodI m, rodIs m, rodNs m, trivial⟩).imp fun ds h => ?_
    obtain ⟨a, r1, rfl, ⟨x, rfl, x1, x2⟩, b, r2, rfl, hb, h3⟩ := h
    obtain ⟨c, d, e, rfl, ⟨y, rfl, y1, y2⟩, hd, he⟩ := QAll.three h3
    obtain ⟨l, rfl, hl0, hl⟩ := QList.of (fun _ => rIA) hb
    obtain ⟨p, rfl, hp0, hp⟩ := QList.of (fun _ => rIA) hd
    obtain ⟨t, rfl, ht, htl⟩ := QList.of (fun _ h => h) he
    exact ⟨⟨x, l, y, p, t⟩, rfl, ⟨ht, hl, hp, htl⟩, inR_of x1 x2, inR_of y1 y2, hl0, hp0⟩
theorem odSA (m : Nat) : OD enc Tryz.prog W m 26 (QList (QOf enSN okSA)) := by
  cases m with
  | zero => intro n hn; omega
  | succ m => exact OD.slice (by kernel_rfl) (k := 4) (by kernel_rfl) (rodSA m)
end
end Go.Proofs.YtbbpecfapohlaaaGreatDoor
namespace Go.Proofs.YtbbpecfapohlaaaGreatDoor
open Go.RowKit
attribute [local irreducible] AC Do St
mutual
theorem wl_of : ∀ (s : ST), wX s ≤ 20000 → wlX s
  | .mk b w l, h => by
    rw [wX_mk] at h
    rw [wlX_mk]
    exact ⟨by omega, wls_of l (by omega)⟩
theorem wls_of : ∀ (l : List ST), wXs l ≤ 20000 → wlXs l
  | [], _ => wlXs_nil
  | s :: r, h => by
    rw [wXs_cons] at h
    rw [wlXs]
    exact ⟨wl_of s (by omega), wls_of r (by omega)⟩
end
theorem wls_all : ∀ {l : List ST}, (∀ s ∈ l, wX s ≤ 20000) → wlXs l
  | [], _ => wlXs_nil
  | s :: r, h => by
    rw [wlXs]
    exact ⟨wl_of s (h s (by simp)), wls_all fun x hx => h x (by simp [hx])⟩
theorem fits_wl {rows : List ST} (h : ∀ x ∈ rows, Fit x 172 15589 3) : wlXs rows := wls_all fun x hx => by have := (h x hx).w; omega
def awS : Stp := ⟨1, [1, -2], 3, [], []⟩
theorem aw_ck : chA 1 [awS] = 0 := by decide +kernel
theorem aw_tx : textA 1 [awS] = [40, 115, 116, 101, 112, 32, 116, 48, 32, 40, 99, 108, 32, 112, 48, 32, 40, 110, 111, 116, 32, 97, 48, 41, 41, 32, 58, 114, 117, 108, 101, 32, 97, 115, 115, 117, 109, 101, 32, 58, 97, 114, 103, 115, 32, 40, 51, 41, 41, 10] := by decide +kernel
theorem aw_law : ∀ s ∈ [awS], LawS s := fun s hs => by
  obtain rfl := List.mem_singleton.1 hs
  have hcl : ∀ x ∈ awS.cl, inR x := fun x hx => by
    have : x = 1 ∨ x = -2 := by simpa [awS] using hx
    rcases this with rfl | rfl
    · exact inR_s 1 (by decide)
    · exact ⟨by omega, by omega⟩
  exact ⟨⟨inR_s 1 (by decide), inR_s 3 (by decide), hcl, fun k hk => (by cases hk), by decide, by decide, by decide⟩, by decide, by decide, by decide, fun q hq => (by cases hq)⟩
section
variable {Kw : World → Prop} [KSt Kw] [KHas Kw Tab]
theorem law_printF {b : Int} {l : List Stp} (hl : l.length ≤ 60) (hs : ∀ s ∈ l, LawS s) : FnK Tryz.prog 40 Kw [.d (.v (.int .i64 b)), .d (.l (l.map enS))] [.d (.v (.string (tx (prA b l).1))), .d (.v (.int .i64 (prA b l).2))] :=
  printAF (k := 256) b l (fun s h => (hs s h).ok) (by decide) (fun s h => (hs s h).bd) (by omega) (fun h => okXs_w (by have := (fits_w (law_rows hl hs h)).1; rw [rowsA_len] at this; omega)) fun h => by have := law_text hl hs h; omega
variable [KHas Kw ErrV] [KHas Kw MaxL]
theorem law_parseF {b : Int} {l : List Stp} (hl : l.length ≤ 60) (hs : ∀ s ∈ l, LawS s) (h : chA b l = 0) : FnK Tryz.prog 33 Kw [.d (.v (.int .i64 b)), .d (.v (.string (tx (textA b l))))] [.d (.l (l.map enS)), .d (.v (.int .i64 0))] := by
  have hf := law_rows hl hs h
  have := parseAF (Kw := Kw) b (textA b l) fun out rest m _ hp => by
    obtain ⟨m', hm⟩ := all_parse (fun x hx => (hf x hx).nf) (fits_ch hf (by rw [rowsA_len]; omega))
    rw [text_rows, hp] at hm
    cases hm
    exact fits_wl hf
  rw [law_pa hl hs h] at this
  exact this
set_option maxRecDepth 100000 in
set_option maxHeartbeats 4000000 in
theorem awake25 : FnK Tryz.prog 32 Kw [] [.d (.v (.bool true))] := by
  have hpr := law_printF (Kw := Kw) (b := 1) (by decide : [awS].length ≤ 60) aw_law
  rw [law_pr (by decide) aw_law, if_pos aw_ck] at hpr
  have hpa := law_parseF (Kw := Kw) (b := 1) (by decide : [awS].length ≤ 60) aw_law aw_ck
  dsimp only at hpr hpa
  have ht := aw_tx
  generalize textA 1 [awS] = T at hpr hpa ht
  have hix : awS.idx = 3 := rfl
  obtain ⟨A, hpa, hA1, hA0⟩ : ∃ A : List Stp, FnK Tryz.prog 33 Kw [.d (.v (.int .i64 1)), .d (.v (.string (tx T)))] [.d (.l (A.map enS)), .d (.v (.int .i64 0))] ∧ A.length = 1 ∧ A[0]? = some awS := ⟨_, hpa, rfl, rfl⟩
  refine FnK.of Tryz.func32 rfl (by kernel_rfl) Tryz.ntmps32 Tryz.results32 rfl fun w0 S0 hK0 => ?_
  refine wa ?_
  exact ⟨.d rfl (.inl rfl), trivial⟩
end
theorem lawS_sm {s : Stp} (h : LawS s) : SmK 256 s := ⟨h.bd, by have := h.tm; omega, by have := h.cl; omega, by have := h.pr; omega⟩
section
variable {Kw : World → Prop} [KSt Kw] [KHas Kw Tab] [KHas Kw ErrV] [KHas Kw MaxL]
set_option maxRecDepth 100000 in
set_option maxHeartbeats 4000000 in
theorem alethePrintsF (b : Int) (l : List SN) (hl : ∀ s ∈ l, okSN s) (hs : ∀ s ∈ stL l, LawS s) : FnK Tryz.prog 7 Kw [.d (.v (.int .i64 b)), .d (.l (l.map enSN))] [.d (.v (.bool true))] := by
  have hof := of22 l hl
  have hlen := stL_len l
  generalize stL l = L at hof hs hlen
  have htold := told22k (k := 256) (by decide) L (fun s h => lawS_sm (hs s h)) (by omega)
  have hcq := checkQF b L (fun s h => (hs s h).ok) (by omega)
  have hca := checkAF b L (fun s h => (hs s h).ok) (by omega)
  have hpr := law_printF (Kw := Kw) (b := b) hlen hs
  have haw := awake25 (Kw := Kw)
  rw [law_pr hlen hs] at hpr
  by_cases hc : chA b L = 0
  · rw [if_pos hc] at hpr
    obtain ⟨hb, h1, h2⟩ := chA_0 hc
    have htx := textQF (Kw := Kw) (k := 256) b L hb (fun s h => (hs s h).ok) h2 (by decide) (fun s h => (hs s h).bd) h1 (by have := law_text hlen hs hc; omega)
    rw [hc] at hcq hca
    dsimp only at hpr
    generalize textA b L = T at hpr htx
    refine FnK.of Tryz.func7 rfl (by kernel_rfl) Tryz.ntmps7 Tryz.results7 rfl fun w0 S0 hK0 => ?_
    refine wa ?_
    exact ⟨.d rfl (.inl rfl), trivial⟩
  · rw [if_neg hc] at hpr
    dsimp only at hpr
    generalize chA b L = c at hpr hcq hca hc
    refine FnK.of Tryz.func7 rfl (by kernel_rfl) Tryz.ntmps7 Tryz.results7 rfl fun w0 S0 hK0 => ?_
    refine wa ?_
    exact ⟨.d rfl (.inl rfl), trivial⟩
set_option maxRecDepth 100000 in
set_option maxHeartbeats 4000000 in
theorem aletheBackF (b : Int) (l : List SN) (hl : ∀ s ∈ l, okSN s) (hs : ∀ s ∈ stL l, LawS s) : FnK Tryz.prog 8 Kw [.d (.v (.int .i64 b)), .d (.l (l.map enSN))] [.d (.v (.bool true))] := by
  have hof := of22 l hl
  have hlen := stL_len l
  generalize stL l = L at hof hs hlen
  have htold := told22k (k := 256) (by decide) L (fun s h => lawS_sm (hs s h)) (by omega)
  have hpr := law_printF (Kw := Kw) (b := b) hlen hs
  have haw := awake25 (Kw := Kw)
  rw [law_pr hlen hs] at hpr
  by_cases hc : chA b L = 0
  · rw [if_pos hc] at hpr
    have hpa := law_parseF (Kw := Kw) hlen hs hc
    have hsame := refSameK (k := 256) (by decide) L L true (by simp) (by omega) (fun s h => lawS_sm (hs s h)) fun s h => lawS_sm (hs s h)
    dsimp only at hpr hpa
    generalize textA b L = T at hpr hpa
    refine FnK.of Tryz.func8 rfl (by kernel_rfl) Tryz.ntmps8 Tryz.results8 rfl fun w0 S0 hK0 => ?_
    refine wa ?_
    exact ⟨.d rfl (.inl rfl), trivial⟩
  · rw [if_neg hc] at hpr
    dsimp only at hpr
    generalize chA b L = c at hpr hc
    refine FnK.of Tryz.func8 rfl (by kernel_rfl) Tryz.ntmps8 Tryz.results8 rfl fun w0 S0 hK0 => ?_
    refine wa ?_
    exact ⟨.d rfl (.inl rfl), trivial⟩
end
end Go.Proofs.YtbbpecfapohlaaaGreatDoor
