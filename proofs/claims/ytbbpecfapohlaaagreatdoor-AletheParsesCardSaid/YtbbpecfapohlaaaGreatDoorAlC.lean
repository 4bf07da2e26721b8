import Derived.Test.YtbbpecfapohlaaaGreatDoorAlO
import Derived.Test.YtbbpecfapohlaaaGreatDoorAlM
import Derived.Test.YtbbpecfapohlaaaGreatDoorAlQ
namespace Go.Proofs.YtbbpecfapohlaaaGreatDoor
open Go.RowKit
attribute [local irreducible] AC Do St
mutual
theorem wl_of : ∀ (s : ST), wX s ≤ 20000 → wlX s
  | .mk b w l, h => by
    rw [wX_mk] at h
    rw [wlX_mk]
    exact ⟨by omega, wls_of l (by omega)⟩
theorem wls_of : ∀ (l : List ST), wXs l ≤ 20000 → wlXs l
  | [], _ => wlXs_nil
  | s :: r, h => by
    rw [wXs_cons] at h
    rw [wlXs]
    exact ⟨wl_of s (by omega), wls_of r (by omega)⟩
end
theorem wls_all : ∀ {l : List ST}, (∀ s ∈ l, wX s ≤ 20000) → wlXs l
  | [], _ => wlXs_nil
  | s :: r, h => by
    rw [wlXs]
    exact ⟨wl_of s (h s (by simp)), wls_all fun x hx => h x (by simp [hx])⟩
theorem fits_wl {rows : List ST} (h : ∀ x ∈ rows, Fit x 172 15589 3) : wlXs rows := wls_all fun x hx => by have := (h x hx).w; omega
def awS : Stp := ⟨1, [1, -2], 3, [], []⟩
theorem aw_ck : chA 1 [awS] = 0 := by decide +kernel
theorem aw_tx : textA 1 [awS] = [40, 115, 116, 101, 112, 32, 116, 48, 32, 40, 99, 108, 32, 112, 48, 32, 40, 110, 111, 116, 32, 97, 48, 41, 41, 32, 58, 114, 117, 108, 101, 32, 97, 115, 115, 117, 109, 101, 32, 58, 97, 114, 103, 115, 32, 40, 51, 41, 41, 10] := by decide +kernel
theorem aw_law : ∀ s ∈ [awS], LawS s := fun s hs => by
  obtain rfl := List.mem_singleton.1 hs
  have hcl : ∀ x ∈ awS.cl, inR x := fun x hx => by
    have : x = 1 ∨ x = -2 := by simpa [awS] using hx
    rcases this with rfl | rfl
    · exact inR_s 1 (by decide)
    · exact ⟨by omega, by omega⟩
  exact ⟨⟨inR_s 1 (by decide), inR_s 3 (by decide), hcl, fun k hk => (by cases hk), by decide, by decide, by decide⟩, by decide, by decide, by decide, fun q hq => (by cases hq)⟩
section
variable {Kw : World → Prop} [KSt Kw] [KHas Kw Tab]
theorem law_printF {b : Int} {l : List Stp} (hl : l.length ≤ 60) (hs : ∀ s ∈ l, LawS s) : FnK Tryz.prog 40 Kw [.d (.v (.int .i64 b)), .d (.l (l.map enS))] [.d (.v (.string (tx (prA b l).1))), .d (.v (.int .i64 (prA b l).2))] :=
  printAF (k := 256) b l (fun s h => (hs s h).ok) (by decide) (fun s h => (hs s h).bd) (by omega) (fun h => okXs_w (by have := (fits_w (law_rows hl hs h)).1; rw [rowsA_len] at this; omega)) fun h => by have := law_text hl hs h; omega
variable [KHas Kw ErrV] [KHas Kw MaxL]
theorem law_parseF {b : Int} {l : List Stp} (hl : l.length ≤ 60) (hs : ∀ s ∈ l, LawS s) (h : chA b l = 0) : FnK Tryz.prog 33 Kw [.d (.v (.int .i64 b)), .d (.v (.string (tx (textA b l))))] [.d (.l (l.map enS)), .d (.v (.int .i64 0))] := by
  have hf := law_rows hl hs h
  have := parseAF (Kw := Kw) b (textA b l) fun out rest m _ hp => by
    obtain ⟨m', hm⟩ := all_parse (fun x hx => (hf x hx).nf) (fits_ch hf (by rw [rowsA_len]; omega))
    rw [text_rows, hp] at hm
    cases hm
    exact fits_wl hf
  rw [law_pa hl hs h] at this
  exact this
set_option maxRecDepth 100000 in
set_option maxHeartbeats 4000000 in
theorem awake25 : FnK Tryz.prog 32 Kw [] [.d (.v (.bool true))] := by
  have hpr := law_printF (Kw := Kw) (b := 1) (by decide : [awS].length ≤ 60) aw_law
  rw [law_pr (by decide) aw_law, if_pos aw_ck] at hpr
  have hpa := law_parseF (Kw := Kw) (b := 1) (by decide : [awS].length ≤ 60) aw_law aw_ck
  dsimp only at hpr hpa
  have ht := aw_tx
  generalize textA 1 [awS] = T at hpr hpa ht
  have hix : awS.idx = 3 := rfl
  obtain ⟨A, hpa, hA1, hA0⟩ : ∃ A : List Stp, FnK Tryz.prog 33 Kw [.d (.v (.int .i64 1)), .d (.v (.string (tx T)))] [.d (.l (A.map enS)), .d (.v (.int .i64 0))] ∧ A.length = 1 ∧ A[0]? = some awS := ⟨_, hpa, rfl, rfl⟩
  refine FnK.of Tryz.func32 rfl (by kernel_rfl) Tryz.ntmps32 Tryz.results32 rfl fun w0 S0 hK0 => ?_
  refine wa ?_
  exact ⟨.d rfl (.inl rfl), trivial⟩
end
theorem lawS_sm {s : Stp} (h : LawS s) : SmK 256 s := ⟨h.bd, by have := h.tm; omega, by have := h.cl; omega, by have := h.pr; omega⟩
section
variable {Kw : World → Prop} [KSt Kw] [KHas Kw Tab] [KHas Kw ErrV] [KHas Kw MaxL]
set_option maxRecDepth 100000 in
set_option maxHeartbeats 4000000 in
theorem alethePrintsF (b : Int) (l : List SN) (hl : ∀ s ∈ l, okSN s) (hs : ∀ s ∈ stL l, LawS s) : FnK Tryz.prog 7 Kw [.d (.v (.int .i64 b)), .d (.l (l.map enSN))] [.d (.v (.bool true))] := by
  have hof := of22 l hl
  have hlen := stL_len l
  generalize stL l = L at hof hs hlen
  have htold := told22k (k := 256) (by decide) L (fun s h => lawS_sm (hs s h)) (by omega)
  have hcq := checkQF b L (fun s h => (hs s h).ok) (by omega)
  have hca := checkAF b L (fun s h => (hs s h).ok) (by omega)
  have hpr := law_printF (Kw := Kw) (b := b) hlen hs
  have haw := awake25 (Kw := Kw)
  rw [law_pr hlen hs] at hpr
  by_cases hc : chA b L = 0
  · rw [if_pos hc] at hpr
    obtain ⟨hb, h1, h2⟩ := chA_0 hc
    have htx := textQF (Kw := Kw) (k := 256) b L hb (fun s h => (hs s h).ok) h2 (by decide) (fun s h => (hs s h).bd) h1 (by have := law_text hlen hs hc; omega)
    rw [hc] at hcq hca
    dsimp only at hpr
    generalize textA b L = T at hpr htx
    refine FnK.of Tryz.func7 rfl (by kernel_rfl) Tryz.ntmps7 Tryz.results7 rfl fun w0 S0 hK0 => ?_
    refine wa ?_
    exact ⟨.d rfl (.inl rfl), trivial⟩
  · rw [if_neg hc] at hpr
    dsimp only at hpr
    generalize chA b L = c at hpr hcq hca hc
    refine FnK.of Tryz.func7 rfl (by kernel_rfl) Tryz.ntmps7 Tryz.results7 rfl fun w0 S0 hK0 => ?_
    refine wa ?_
    exact ⟨.d rfl (.inl rfl), trivial⟩
set_option maxRecDepth 100000 in
set_option maxHeartbeats 4000000 in
theorem aletheBackF (b : Int) (l : List SN) (hl : ∀ s ∈ l, okSN s) (hs : ∀ s ∈ stL l, LawS s) : FnK Tryz.prog 8 Kw [.d (.v (.int .i64 b)), .d (.l (l.map enSN))] [.d (.v (.bool true))] := by
  have hof := of22 l hl
  have hlen := stL_len l
  generalize stL l = L at hof hs hlen
  have htold := told22k (k := 256) (by decide) L (fun s h => lawS_sm (hs s h)) (by omega)
  have hpr := law_printF (Kw := Kw) (b := b) hlen hs
  have haw := awake25 (Kw := Kw)
  rw [law_pr hlen hs] at hpr
  by_cases hc : chA b L = 0
  · rw [if_pos hc] at hpr
    have hpa := law_parseF (Kw := Kw) hlen hs hc
    have hsame := refSameK (k := 256) (by decide) L L true (by simp) (by omega) (fun s h => lawS_sm (hs s h)) fun s h => lawS_sm (hs s h)
    dsimp only at hpr hpa
    generalize textA b L = T at hpr hpa
    refine FnK.of Tryz.func8 rfl (by kernel_rfl) Tryz.ntmps8 Tryz.results8 rfl fun w0 S0 hK0 => ?_
    refine wa ?_
    exact ⟨.d rfl (.inl rfl), trivial⟩
  · rw [if_neg hc] at hpr
    dsimp only at hpr
    generalize chA b L = c at hpr hc
    refine FnK.of Tryz.func8 rfl (by kernel_rfl) Tryz.ntmps8 Tryz.results8 rfl fun w0 S0 hK0 => ?_
    refine wa ?_
    exact ⟨.d rfl (.inl rfl), trivial⟩
end
end Go.Proofs.YtbbpecfapohlaaaGreatDoor
