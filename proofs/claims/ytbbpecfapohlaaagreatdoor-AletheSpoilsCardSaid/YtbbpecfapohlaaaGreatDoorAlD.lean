import Derived.Test.YtbbpecfapohlaaaGreatDoorAlC
import Derived.Test.YtbbpecfapohlaaaGreatDoorPpC
namespace Go.Proofs.YtbbpecfapohlaaaGreatDoor
open Go.RowKit
attribute [local irreducible] AC Do St
theorem numsA_mem : ∀ {a : List ST} {l : List Rat}, numsA a = some l → l.length = a.length ∧ ∀ q ∈ l, ∃ x ∈ a, numA x = some q
  | [], l, h => by rw [numsA] at h; cases h; exact ⟨rfl, fun q hq => by cases hq⟩
  | x :: r, l, h => by
    rw [numsA] at h
    cases hq : numA x with
    | none => rw [hq] at h; cases h
    | some q =>
      cases hr : numsA r with
      | none => rw [hq, hr] at h; cases h
      | some m =>
        rw [hq, hr] at h
        cases h
        obtain ⟨h1, h2⟩ := numsA_mem hr
        refine ⟨by rw [List.length_cons, List.length_cons, h1], fun p hp => ?_⟩
        rcases List.mem_cons.1 hp with rfl | hp
        · exact ⟨x, by simp, hq⟩
        · obtain ⟨y, hy, e⟩ := h2 p hp
          exact ⟨y, by simp [hy], e⟩
theorem numA_par {s : ST} {q : Rat} (h : numA s = some q) : parseR s.w = some q := by
  unfold numA at h
  split at h
  · split at h
    · rename_i p hp
      split at h
      · cases h; exact hp
      · cases h
    · cases h
  · cases h
/-- A step of a short text. -/
structure TxS (s : Stp) : Prop where
  ok : okA s
  bd : ∀ q ∈ s.tm, Bd (4 * 20000 + 4) q
  cl : s.cl.length ≤ 1000000
  pr : s.pr.length ≤ 1000000
  tm : s.tm.length ≤ 1000000
theorem TxS.sm {s : Stp} (h : TxS s) : SmK (4 * 20000 + 4) s := ⟨h.bd, h.tm, h.cl, h.pr⟩
theorem ruleA_ok {cl : List Int} {x4 x5 : ST} {args : List ST} {st : Stp} (h : ruleA cl x4 x5 args = some st) (hcl : ∀ l ∈ cl, inR l) (hn : cl.length ≤ 1000000) (ha : args.length ≤ 1000000) (hw : ∀ x ∈ args, x.w.length ≤ 20000) : TxS st := by
  unfold ruleA at h
  split at h
  · cases h
    have := cntA_rng (args.headD (wdA [])).w
    exact ⟨⟨inR_s 1 (by decide), ⟨by dsimp only; omega, by dsimp only; omega⟩, hcl, fun k hk => (by cases hk), by dsimp only; omega, Nat.zero_le _, Nat.zero_le _⟩, fun q hq => (by cases hq), hn, Nat.zero_le _, Nat.zero_le _⟩
  · split at h
    · split at h
      · rename_i l hl
        cases h
        obtain ⟨h1, h2⟩ := numsA_mem hl
        refine ⟨⟨inR_s 2 (by decide), inR_s 0 (by decide), hcl, fun k hk => (by cases hk), by dsimp only; omega, Nat.zero_le _, by dsimp only; omega⟩, fun q hq => ?_, hn, Nat.zero_le _, by dsimp only; omega⟩
        obtain ⟨x, hx, e⟩ := h2 q hq
        exact parseR_bd (hw x hx) (numA_par e)
      · cases h
    · split at h
      · cases h
        refine ⟨⟨inR_s 3 (by decide), inR_s 0 (by decide), hcl, fun k hk => ?_, by dsimp only; omega, by rw [List.length_map]; omega, Nat.zero_le _⟩, fun q hq => (by cases hq), hn, by rw [List.length_map]; exact ha, Nat.zero_le _⟩
        obtain ⟨x, _, rfl⟩ := List.mem_map.1 hk
        have := nbA_rng x 116
        exact ⟨by omega, by omega⟩
      · cases h
/-- A step that is read is small. -/
theorem readA_ok {b : Int} {s : ST} {i : Nat} (hb : 0 ≤ b ∧ b ≤ 1000) (hwl : wlX s) (hc : cX s ≤ 1000000) (h : (readA b s i).2 = true) : TxS (readA b s i).1 := by
  obtain ⟨sb, w, l⟩ := s
  cases sb with
  | true => rw [readA_t] at h; cases h
  | false =>
  by_cases h7 : l.length = 7
  rotate_left
  · rw [readA_ne h7] at h; cases h
  match l, h7 with
  | [x0, x1, x2, x3, x4, x5, x6], _ =>
  rw [wlX_mk] at hwl
  rw [cX_mk] at hc
  have w6 := wlXs_mem hwl.2 x6 (by simp)
  simp only [cXs_cons, cXs_nil] at hc
  obtain ⟨b2, w2, l2⟩ := x2
  obtain ⟨b6, w6', l6⟩ := x6
  rw [wlX_mk] at w6
  rw [cX_mk, cX_mk] at hc
  have e2 := cXs_len l2
  have e6 := cXs_len l6
  rw [readA_seven] at h ⊢
  split at h
  rotate_left
  · cases h
  rename_i h0
  rw [if_pos h0]
  clear h0
  have h : (bodyA b x4 x5 l2 l6 i).2 = true := h
  show TxS (bodyA b x4 x5 l2 l6 i).1
  cases l2 with
  | nil => cases h
  | cons y ys =>
  rw [bodyA_cons] at h ⊢
  split at h
  rotate_left
  · cases h
  rename_i h0
  rw [if_pos h0]
  clear h0
  cases hL : litsA b ys with
  | none => rw [hL] at h; cases h
  | some cl =>
  rw [hL] at h
  dsimp only at h ⊢
  cases hr : ruleA cl x4 x5 l6 with
  | none => rw [hr] at h; cases h
  | some st =>
  rw [hr] at h
  dsimp only at h ⊢
  have hcl : cl = ys.map (litA b) := by
    unfold litsA at hL
    split at hL
    · cases hL; rfl
    · cases hL
  rw [List.length_cons] at e2
  refine ruleA_ok hr (fun l hl => ?_) (by rw [hcl, List.length_map]; omega) (by omega) fun x hx => wlX_w (wlXs_mem w6.2 x hx)
  rw [hcl] at hl
  obtain ⟨x, _, rfl⟩ := List.mem_map.1 hl
  exact litA_rng hb x
/-- What is read of rows. -/
theorem reads_small {b : Int} (hb : 0 ≤ b ∧ b ≤ 1000) {out : List ST} {l : List Stp} (hwl : wlXs out) (hc : cXs out ≤ 1000000) (h : readsA b out 0 = some l) : ∀ s ∈ l, TxS s := fun s hs => by
  rw [readsA_eq] at h
  split at h
  · rename_i ha
    cases h
    obtain ⟨⟨x, i⟩, hz, rfl⟩ := List.mem_map.1 hs
    have h1 := List.all_eq_true.1 ha _ hz
    obtain ⟨hi, e⟩ := List.getElem?_eq_some_iff.1 (List.mem_zipIdx_iff_getElem?.1 hz)
    dsimp only at e h1 ⊢
    have hm : x ∈ out := e ▸ List.getElem_mem hi
    exact readA_ok hb (wlXs_mem hwl x hm) (by have := (wXs_mem hm).2; omega) h1
  · cases h
set_option maxRecDepth 100000 in
set_option maxHeartbeats 4000000 in
/-- A list of trees and itself. -/
theorem same12 : ∀ (m : Nat) (l : List ST), wXs l < m → wXs l ≤ 1000000000 → Fn Tryz.prog 38 [.d (.l (l.map enX)), .d (.l (l.map enX))] [.d (.v (.bool true))]
  | 0, l, h, _ => absurd h (Nat.not_lt_zero _)
  | m + 1, l, hm, hw => by
    have hml : (l.map enX).length = l.length := List.length_map ..
    have hcl := cXs_len l
    have hcw := cXs_w l
    have ih : ∀ (i : Nat) (hi : i < l.length) (w : List UInt8) (k : List ST), l[i] = .mk false w k → Fn Tryz.prog 38 [.d (.l (subX (.mk false w k))), .d (.l (subX (.mk false w k)))] [.d (.v (.bool true))] := fun i hi w k e => by
      have h1 := (wXs_mem (List.getElem_mem hi)).1
      rw [e, wX_mk] at h1
      rw [subX, subXs_map]
      exact same12 m k (by omega) (by omega)
    refine Fn.of Tryz.func38 rfl (by kernel_rfl) Tryz.ntmps38 Tryz.results38 rfl fun w0 S0 => ?_
    refine wa ?_
    refine AC.loop (X := Nat) (fun i => ⟨[(0, .d (.l (l.map enX))), (1, .d (.l (l.map enX))), (12, .d (.v (.int .i64 (l.length : Int)))), (13, .d (.v (.int .i64 (i : Int))))], []⟩) (fun i => i ≤ l.length) (fun i => l.length - i) 0 (Nat.zero_le _) ⟨rfl, rfl, rfl, rfl, trivial⟩ trivial ?_
    intro i hi
    dsimp only at hi ⊢
    by_cases h1 : i < l.length
    · have hx := List.getElem?_eq_getElem h1
      have ih := ih i h1
      generalize l[i] = x at hx ih
      obtain ⟨xb, xw, xl⟩ := x
      cases xb with
      | true =>
        clear ih
        refine wa ?_
        exact ⟨i + 1, h1, by omega, ⟨rfl, rfl, rfl, rfl, trivial⟩, trivial⟩
      | false =>
        have ih := ih xw xl rfl
        refine wa ?_
        exact ⟨i + 1, h1, by omega, ⟨rfl, rfl, rfl, rfl, trivial⟩, trivial⟩
    · obtain rfl : i = l.length := by omega
      refine wa ?_
      exact ⟨.d rfl (.inl rfl), trivial⟩
theorem chA_mk {b : Int} {l : List Stp} (hb : 0 ≤ b ∧ b ≤ 1000) (h1 : l.length ≤ 300000) (h2 : ∀ i (h : i < l.length), fmA l[i] i = true) : chA b l = 0 := by
  unfold chA
  rw [if_neg (by omega), if_neg (by omega), if_pos]
  rw [List.all_eq_true]
  rintro ⟨s, i⟩ hx
  obtain ⟨hi, e⟩ := List.getElem?_eq_some_iff.1 (List.mem_zipIdx_iff_getElem?.1 hx)
  have := h2 i hi
  dsimp only at e ⊢
  rw [← e]
  exact this
/-- Rows that are read, and the steps read of them. -/
structure RdA (b : Int) (out : List ST) (l : List Stp) : Prop where
  rows : rowsA b l = out
  ch : chA b l = 0
  fm : ∀ i (h : i < l.length), fmA l[i] i = true
  tx : ∀ s ∈ l, TxS s
  len : l.length ≤ 300000
  nf : ∀ s ∈ out, nfX s
  okr : chX out = 0
  txt : (textA b l).length ≤ 1000000
theorem rd_mk {b : Int} (hb : 0 ≤ b ∧ b ≤ 1000) {out : List ST} {l : List Stp} (hn : ∀ s ∈ out, nfX s) (hwl : wlXs out) (hc : cXs out + wXs out ≤ 300000) (hc2 : cXs out ≤ 100000) (h : readsA b out 0 = some l) : RdA b out l := by
  obtain ⟨h1, h2⟩ := reads_ok hb.1 hn h
  have hs := reads_small hb hwl (by omega) h
  have hlen : l.length ≤ 300000 := by
    have := cXs_len out
    rw [h1, rowsA_len] at this
    rw [h1] at hc
    omega
  have hf : ∀ s ∈ out, nfX s ∧ wdX s = true ∧ htX s ≤ 3 := fun s hm => by
    rw [h1] at hm
    obtain ⟨i, hi, rfl⟩ := mem_rows hm
    have ht := hs _ (List.getElem_mem hi)
    have f := fit_step (N := 30000001) hb.1 (by omega) (h2 i hi) (by have := ht.ok.idx.2; omega) (by decide) fun q hq => Nat.lt_succ_of_le (printL_le (ht.bd q hq) (by decide))
    exact ⟨f.nf, f.wd, f.h⟩
  refine ⟨h1.symm, chA_mk hb hlen h2, h2, hs, hlen, hn, fit_chX hf hc2, ?_⟩
  have := allX_wc (rowsA b l)
  rw [← h1] at this
  rw [← text_rows, ← h1]
  omega
section
variable {Kw : World → Prop} [KSt Kw] [KHas Kw Tab] [KHas Kw ErrV] [KHas Kw MaxL]
set_option maxRecDepth 100000 in
set_option maxHeartbeats 4000000 in
theorem aletheParsesF (b : Int) (src : List UInt8) : FnK Tryz.prog 6 Kw [.d (.v (.int .i64 b)), .d (.v (.string (tx src)))] [.d (.v (.bool true))] := by
  have haw := awake25 (Kw := Kw)
  by_cases hl : 20000 < src.length
  · refine FnK.of Tryz.func6 rfl (by kernel_rfl) Tryz.ntmps6 Tryz.results6 rfl fun w0 S0 hK0 => ?_
    refine wa ?_
    exact ⟨.d rfl (.inl rfl), trivial⟩
  have hpa := parseAF (Kw := Kw) b src fun out rest m _ h => (parseX_wl _ _ _ _ (by omega) h).1
  have hfl := fault12 src (by omega)
  have hsx := sexpParse src
  have hfp := fault_parse (src.length + 1) 0 src 0 (src.length + 1) 0 (by omega) (by omega)
  have hfa : fauX src = faX (tokX (src.length + 1) src 0) 0 0 := if_neg (by omega)
  have hcw := parseX_cw (src.length + 1) 0 src 0
  have hwl := fun out rest m (h : parseX (src.length + 1) 0 src 0 = .ok out rest m) => (parseX_wl _ _ _ _ (by omega) h).1
  have hnf := fun out rest m (h : parseX (src.length + 1) 0 src 0 = .ok out rest m) => parseX_nf _ _ _ _ h
  rw [← hfa] at hfp
  clear hfa
  obtain ⟨R, hR⟩ : ∃ R, paA b src = R := ⟨_, rfl⟩
  rw [hR] at hpa
  unfold paA at hR
  unfold parX at hsx
  rw [if_neg (by omega)] at hR hsx
  generalize fauX src = F at hfp hfl
  obtain ⟨fa, fe⟩ := F
  cases hX : parseX (src.length + 1) 0 src 0 with
  | bad e left =>
    rw [hX] at hR hfp
    dsimp only at hR hfl
    rw [fpR] at hfp
    obtain ⟨he0, he⟩ := hfp
    have he0 : fe = e := he0
    subst he0
    subst hR
    obtain ⟨E, hE, hpa⟩ : ∃ E : List Stp, E.length = 0 ∧ FnK Tryz.prog 33 Kw [.d (.v (.int .i64 b)), .d (.v (.string (tx src)))] [.d (.l (E.map enS)), .d (.v (.int .i64 fe))] := ⟨[], rfl, hpa⟩
    clear hsx hcw hwl hnf
    refine FnK.of Tryz.func6 rfl (by kernel_rfl) Tryz.ntmps6 Tryz.results6 rfl fun w0 S0 hK0 => ?_
    refine wa ?_
    exact ⟨.d rfl (.inl rfl), trivial⟩
  | ok out rest m =>
  have hwl := hwl _ _ _ hX
  have hnf := hnf _ _ _ hX
  rw [hX] at hR hfp hsx hcw
  dsimp only at hR hfl hsx
  rw [fpR, if_pos rfl] at hfp
  rw [cwR] at hcw
  have hcw := hcw.1
  have hcl := cXs_len out
  have hcx := cXs_w out
  obtain rfl : fe = 0 := hfp
  by_cases h1 : 1000 < b
  · rw [if_pos (.inl h1)] at hR
    subst hR
    obtain ⟨E, hE, hpa⟩ : ∃ E : List Stp, E.length = 0 ∧ FnK Tryz.prog 33 Kw [.d (.v (.int .i64 b)), .d (.v (.string (tx src)))] [.d (.l (E.map enS)), .d (.v (.int .i64 2))] := ⟨[], rfl, hpa⟩
    refine FnK.of Tryz.func6 rfl (by kernel_rfl) Tryz.ntmps6 Tryz.results6 rfl fun w0 S0 hK0 => ?_
    refine wa ?_
    exact ⟨.d rfl (.inl rfl), trivial⟩
  rw [if_neg (by omega)] at hR
  by_cases h2 : b < 0
  · rw [if_pos h2] at hR
    subst hR
    obtain ⟨E, hE, hpa⟩ : ∃ E : List Stp, E.length = 0 ∧ FnK Tryz.prog 33 Kw [.d (.v (.int .i64 b)), .d (.v (.string (tx src)))] [.d (.l (E.map enS)), .d (.v (.int .i64 4))] := ⟨[], rfl, hpa⟩
    refine FnK.of Tryz.func6 rfl (by kernel_rfl) Tryz.ntmps6 Tryz.results6 rfl fun w0 S0 hK0 => ?_
    refine wa ?_
    exact ⟨.d rfl (.inl rfl), trivial⟩
  rw [if_neg h2] at hR
  cases hr : readsA b out 0 with
  | none =>
    rw [hr] at hR
    dsimp only at hR
    subst hR
    obtain ⟨E, hE, hpa⟩ : ∃ E : List Stp, E.length = 0 ∧ FnK Tryz.prog 33 Kw [.d (.v (.int .i64 b)), .d (.v (.string (tx src)))] [.d (.l (E.map enS)), .d (.v (.int .i64 6))] := ⟨[], rfl, hpa⟩
    refine FnK.of Tryz.func6 rfl (by kernel_rfl) Tryz.ntmps6 Tryz.results6 rfl fun w0 S0 hK0 => ?_
    refine wa ?_
    exact ⟨.d rfl (.inl rfl), trivial⟩
  | some l =>
    rw [hr] at hR
    dsimp only at hR
    subst hR
    have hb : 0 ≤ b ∧ b ≤ 1000 := by omega
    obtain ⟨g1, g2, g3, g4, g5, g6, g7, g8⟩ := rd_mk hb (fun s hs => nfXs_mem hnf s hs) hwl (by omega) (by omega) hr
    have htold := told22k (k := 4 * 20000 + 4) (by decide) l (fun s h => (g4 s h).sm) (by omega)
    have hcq := checkQF b l (fun s h => (g4 s h).ok) (by omega)
    have htx := textQF (Kw := Kw) (k := 4 * 20000 + 4) b l hb (fun s h => (g4 s h).ok) g3 (by decide) (fun s h => (g4 s h).bd) g5 (by omega)
    rw [g2] at hcq
    have hs2 := sexpParse (textA b l)
    unfold parX at hs2
    obtain ⟨m2, hm2⟩ := all_parse g6 g7
    rw [← g1, text_rows, g1] at hm2
    rw [if_neg (by omega), hm2] at hs2
    dsimp only at hs2
    have ht12 := told12L out hnf (by omega)
    have hsame := same12 _ out (Nat.lt_succ_self _) (by omega)
    dsimp only at hpa
    generalize textA b l = T at htx hs2
    have hsx := Lib.hid hsx
    have hs2 := Lib.hid hs2
    refine FnK.of Tryz.func6 rfl (by kernel_rfl) Tryz.ntmps6 Tryz.results6 rfl fun w0 S0 hK0 => ?_
    refine wa ?_
    refine c1 hsx.out ?_
    refine wa ?_
    exact ⟨.d rfl (.inl rfl), trivial⟩
end
theorem aletheParsesB {Kw : World → Prop} [KSt Kw] [KHas Kw Tab] [KHas Kw ErrV] [KHas Kw MaxL] (b : Int) (src : ByteArray) : FnK Tryz.prog 6 Kw [.d (.v (.int .i64 b)), .d (.v (.string src))] [.d (.v (.bool true))] := by
  have h := aletheParsesF (Kw := Kw) b src.data.toList
  rwa [show tx src.data.toList = src by cases src; rfl] at h
end Go.Proofs.YtbbpecfapohlaaaGreatDoor
