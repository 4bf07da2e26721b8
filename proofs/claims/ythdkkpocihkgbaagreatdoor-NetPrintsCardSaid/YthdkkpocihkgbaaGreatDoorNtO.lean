/-
  (*net.Net).line: what a line makes of a net.
-/
import Derived.Test.YthdkkpocihkgbaaGreatDoorNtN
namespace Go.Proofs.YthdkkpocihkgbaaGreatDoor
open Go.RowKit
attribute [local irreducible] AC Do St
def wordsE (w : List (List UInt8)) : D := .l (w.map fun x => [.v (.string (tx x))])
def NS.args (b : Nat) (h : List UInt8) (t : List (List UInt8)) (first : Bool) : List DV := [.d (.v (ptv b 0)), .d (wordsE (h :: t)), .d (.v (.bool first))]
theorem eqT {l m : List UInt8} (h : l = m) : ((tx l).toList == (tx m).toList) = true := by rw [h]; simp
theorem neT {l m : List UInt8} (h : l ≠ m) : ((tx l).toList == (tx m).toList) = false := by rw [tx_list, tx_list]; simpa using h
theorem words_len (w : List (List UInt8)) : (w.map fun x => [D.v (.string (tx x))]).length = w.length := List.length_map ..
theorem netP_get {b : Nat} {xL xW xB xG : Value} {s : NS} {O : List (Nat × AO)} (h0 : get? O 288 = some (boxO b 25 [.v (.int .i64 s.inn), .v xL])) (h1 : get? O 289 = some (rowO xL 30 4 (rowsOf s xW xB xG))) (h2 : get? O 290 = some (rowO xW 27 1 (lastW s))) (h3 : get? O 291 = some (rowO xB 119 3 (lastB s))) (h4 : get? O 292 = some (rowO xG 31 1 (lastG s))) : ∀ j (h : j < (netP b xL xW xB xG s).length), get? O (188 + 100 + j) = some (.own (netP b xL xW xB xG s)[j].1 (netP b xL xW xB xG s)[j].2) := fun j h => by
  match j, h with
  | 0, _ => exact h0
  | 1, _ => exact h1
  | 2, _ => exact h2
  | 3, _ => exact h3
  | 4, _ => exact h4
  | j + 5, h => exact absurd h (by simp [netP])
theorem ratsW_app : ∀ (a b : List (List UInt8)), ratsW (a ++ b) = (ratsW a).bind fun x => (ratsW b).map (x ++ ·)
  | [], b => by simp [ratsW]
  | x :: a, b => by
    simp only [List.cons_append, ratsW, ratsW_app a b]
    cases parseR x <;> simp
    cases ratsW a <;> simp
    cases ratsW b <;> simp
theorem ratsW_step {t : List (List UInt8)} {x : List Rat} {y : List UInt8} (h : ratsW (t.take x.length) = some x) (hy : t[x.length]? = some y) : (∀ r, parseR y = some r → ratsW (t.take (x.length + 1)) = some (x ++ [r])) ∧ (parseR y = none → ratsW t = none) := by
  obtain ⟨hlt, he⟩ := List.getElem?_eq_some_iff.1 hy
  refine ⟨fun r hr => ?_, fun hn => ?_⟩
  · rw [List.take_succ_eq_append_getElem hlt, he, ratsW_app, h]
    simp [ratsW, hr]
  · have e : t = t.take x.length ++ (y :: t.drop (x.length + 1)) := by rw [← he, ← List.drop_eq_getElem_cons hlt, List.take_append_drop]
    rw [e, ratsW_app, h]
    simp [ratsW, hn]
theorem cntsW_app : ∀ (a b : List (List UInt8)), cntsW (a ++ b) = (cntsW a).bind fun x => (cntsW b).map (x ++ ·)
  | [], b => by simp [cntsW]
  | x :: a, b => by
    simp only [List.cons_append, cntsW, cntsW_app a b]
    cases cntN x <;> simp
    cases cntsW a <;> simp
    cases cntsW b <;> simp
theorem cntsW_step {t : List (List UInt8)} {x : List Int} {y : List UInt8} (h : cntsW (t.take x.length) = some x) (hy : t[x.length]? = some y) : (∀ r : Nat, cntN y = some r → cntsW (t.take (x.length + 1)) = some (x ++ [(r : Int)])) ∧ (cntN y = none → cntsW t = none) := by
  obtain ⟨hlt, he⟩ := List.getElem?_eq_some_iff.1 hy
  refine ⟨fun r hr => ?_, fun hn => ?_⟩
  · rw [List.take_succ_eq_append_getElem hlt, he, cntsW_app, h]
    simp [cntsW, hr]
  · have e : t = t.take x.length ++ (y :: t.drop (x.length + 1)) := by rw [← he, ← List.drop_eq_getElem_cons hlt, List.take_append_drop]
    rw [e, cntsW_app, h]
    simp [cntsW, hn]
theorem rows_get (ls : List LN) (c : List D) : (ls.map enLN ++ [c])[ls.length]? = some c := by
  rw [List.getElem?_append_right (by simp)]
  simp
theorem rows_set (ls : List LN) (c c' : List D) : (ls.map enLN ++ [c]).set ls.length c' = ls.map enLN ++ [c'] := by
  have := List.set_append_right (s := ls.map enLN) (t := [c]) (i := ls.length) (x := c') (by simp)
  simp at this ⊢
theorem iv10 {i n m : Nat} (h : n = m) : some (AV.r i n) = some (AV.r i m) := by rw [h]
theorem lineS_kind {s : NS} {h : List UInt8} {t : List (List UInt8)} {first : Bool} {k : Int} (h1 : h ≠ bNet) (h2 : kindOf h = some k) : lineS s h t first = if t = [] ∧ first = false then some ⟨s.inn, s.all, some ⟨k, [], [], []⟩⟩ else none := by
  unfold lineS
  rw [if_neg h1, h2]
theorem lineS_row {s : NS} {t : List (List UInt8)} {first : Bool} : lineS s bRow t first = (match s.last with
      | some l => if l.kind = 1 then (match ratsW t with
        | some rs => (match rs.getLast? with
          | some q => some ⟨s.inn, s.ls, some ⟨l.kind, l.W ++ [rs.dropLast], l.B ++ [q], l.G⟩⟩
          | none => none)
        | none => none) else none
      | none => none) := by
  unfold lineS
  rw [if_neg (by decide), show kindOf bRow = none by decide]
  exact if_pos rfl
theorem lineS_of {s : NS} {t : List (List UInt8)} {first : Bool} : lineS s bOf t first = (match s.last with
      | some l => if l.kind = 3 then (match cntsW t with
        | some g => some ⟨s.inn, s.ls, some ⟨l.kind, l.W, l.B, l.G ++ [g]⟩⟩
        | none => none) else none
      | none => none) := by
  unfold lineS
  rw [if_neg (by decide), show kindOf bOf = none by decide]
  exact (if_neg (by decide)).trans (if_pos rfl)
theorem words_told {pre : List (Value × Rel)} {w0 : World} {S0 : Nat → Prop} {vs : List Value} {b : Nat} {h : List UInt8} {t : List (List UInt8)} {first : Bool} (hS : ∀ b, S0 b → b < w0.heap.size ∧ ∀ x ∈ pre, blk x.1 ≠ some b) (hv : RVs S0 w0 vs (NS.args b h t first)) :
    ∃ u bw pw n c, u = Value.slice (some ⟨bw, pw, none⟩) n c ∧ vs[1]? = some u ∧ n = t.length + 1 ∧ ∀ (σ : AS) a w, St ⟨w0, S0, pre.map (·.1), 188⟩ σ a w → w.cell? ⟨bw, pw, none⟩ = some (.string (tx h)) := by
  have h1 : 1 < vs.length := by rw [hv.1]; simp [NS.args]
  have h2 := hv.2 1 h1 (by simp [NS.args])
  have h2 : RD S0 w0 vs[1] (wordsE (h :: t)) := h2
  have h3 : vs[1]? = some vs[1] := List.getElem?_eq_getElem h1
  generalize vs[1] = u at h2 h3
  have h2' : RD S0 w0 u (.l ((h :: t).map fun x => [.v (.string (tx x))])) := h2
  obtain ⟨a, n, c, rfl⟩ : ∃ a n c, u = .slice a n c := by cases h2'; exact ⟨_, _, _, rfl⟩
  obtain ⟨q1, q2, q3, k, css, q4, q5, q6, q7⟩ := h2'.cells
  have hn : 0 < n := by rw [q1]; simp
  obtain ⟨bw, pw, rfl, hb, hr⟩ := q7 hn
  have hc0 : 0 < css.length := by rw [q4]; simp
  have h6 : RDs S0 w0 css[0] [.v (.string (tx h))] := q6 0 hc0 (by simp)
  obtain ⟨x, g1, g2⟩ := h6.at (show ([D.v (.string (tx h))] : List D)[0]? = some (.v (.string (tx h))) from rfl)
  have g2 : RD S0 w0 x (.v (.string (tx h))) := g2
  cases g2
  have h7 := hr 0 hc0 0 _ g1
  simp only [Nat.zero_mul, Nat.add_zero] at h7
  obtain ⟨hlt, hne⟩ := hS bw hb
  refine ⟨_, bw, pw, n, c, rfl, h3, by rw [q1]; simp, fun σ a w hst => ?_⟩
  obtain ⟨β, hi⟩ := hst.inv
  have := hi.fr bw hlt (by
    rintro ⟨y, hy, e⟩
    obtain ⟨z, hz, rfl⟩ := List.mem_map.1 hy
    exact hne z hz e)
  exact (World.cell?_of_block (a := ⟨bw, pw, none⟩) this).trans h7
theorem rows_getM (ls : List LN) (c n : List D) : (ls.map enLN ++ [c] ++ [n])[ls.length]? = some c := by simp
theorem rows_setM (ls : List LN) (c c' n : List D) : (ls.map enLN ++ [c] ++ [n]).set ls.length c' = ls.map enLN ++ [c'] ++ [n] := by
  have := List.set_append_right (s := ls.map enLN) (t := [c] ++ [n]) (i := ls.length) (x := c') (by simp)
  simp at this ⊢
theorem rowR_putM {x1 x0 : Value} {e1 e : TypeId} {k1 k j : Nat} {ls : List LN} {c n : List D} {ys : List (List D)} (hj : c[j]? = some (.v x0)) (S : Nat → Prop) (w : World) (h0 : rowR x0 e k ys S w) (hb : ∀ b, blk x0 = some b → S b) (h : rowR x1 e1 k1 (ls.map enLN ++ [c] ++ [n]) S w) : rowR x1 e1 k1 (ls.map enLN ++ [c.set j (.l ys)] ++ [n]) S w := by
  have := rowR_put (i := ls.length) (rows_getM ls c n) hj S w h0 hb h
  rwa [rows_setM] at this
theorem rows_end (inn : Int) (ls : List LN) (l : LN) (kv : Int) : ls.map enLN ++ [[.v (.int .i64 l.kind), .l (lastW ⟨inn, ls, some l⟩), .l (lastB ⟨inn, ls, some l⟩), .l (lastG ⟨inn, ls, some l⟩)]] ++ [[.v (.int .i64 kv), .v nil3, .v nil3, .v nil3]] = rowsOf ⟨inn, ls ++ [l], some ⟨kv, [], [], []⟩⟩ nil3 nil3 nil3 := by
  simp [rowsOf, enLN, lastW, lastB, lastG, rowsD, enRs]
set_option maxRecDepth 100000 in
set_option maxHeartbeats 4000000 in
theorem line0net (b : Nat) (inn : Int) (t : List (List UInt8)) (first : Bool) (hw : ∀ x ∈ t, x ≠ [] ∧ x.length ≤ 20000) (ht : t.length ≤ 1000000000) :
    FnO Tryz.prog 67 MaxL (netP b (.slice none 0 0) (.slice none 0 0) (.slice none 0 0) (.slice none 0 0) ⟨inn, [], none⟩) (NS.args b bNet t first) (lineQ b ⟨inn, [], none⟩ bNet t first) := by
  have _ := hw
  have _ := ht
  have hml : (bNet :: t).length = t.length + 1 := List.length_cons ..
  have hget : (bNet :: t)[0]? = some bNet := rfl
  refine FnO.of Tryz.func67 rfl (by kernel_rfl) Tryz.ntmps67 Tryz.results67 rfl rfl fun w0 S0 vs hS hv hKW => ⟨_, fun t v h => .inl h, ?_⟩
  refine wl ?_
  ((try (first | intro K ms hms hK | intro K hK)); (first | apply Chain.go | apply Chain.goD); exact rfl; exact rfl; exact Loc.strEq (r := true) rfl rfl rfl (eqT (m := bNet) rfl))
  refine wl ?_
  refine s1 (fun h1 => ?_) (fun h1 => ?_)
  · obtain ⟨x, rfl⟩ : ∃ x, t = [x] := List.length_eq_one_iff.1 (by simp at h1; omega)
    obtain ⟨o1, o2⟩ := hw x (by simp)
    have hget : ([bNet, x] : List (List UInt8))[1]? = some x := rfl
    have hf := countF x o1 (by omega)
    cases hc : cntN x with
    | none =>
      rw [hc] at hf
      refine wl ?_
      refine c1 hf ?_
      refine wl ?_
      exact ⟨netP b (.slice none 0 0) (.slice none 0 0) (.slice none 0 0) (.slice none 0 0) ⟨0, [], none⟩, [.d (.v (.bool false))], .inl ⟨by simp [lineS, hc], rfl⟩, rfl, ⟨.d rfl (.inl rfl), trivial⟩, netP_get rfl rfl rfl rfl rfl⟩
    | some n =>
      rw [hc] at hf
      refine wl ?_
      refine c1 hf ?_
      cases first with
      | false =>
        refine wl ?_
        exact ⟨netP b (.slice none 0 0) (.slice none 0 0) (.slice none 0 0) (.slice none 0 0) ⟨n, [], none⟩, [.d (.v (.bool false))], .inl ⟨by simp [lineS, hc], rfl⟩, rfl, ⟨.d rfl (.inl rfl), trivial⟩, netP_get rfl rfl rfl rfl rfl⟩
      | true =>
        refine wl ?_
        exact ⟨netP b (.slice none 0 0) (.slice none 0 0) (.slice none 0 0) (.slice none 0 0) ⟨n, [], none⟩, [.d (.v (.bool true))], .inr ⟨⟨n, [], none⟩, by simp [lineS, hc], rfl, _, _, _, _, ⟨.inl ⟨rfl, rfl⟩, fun _ => ⟨rfl, rfl, rfl, rfl⟩⟩, rfl⟩, rfl, ⟨.d rfl (.inl rfl), trivial⟩, netP_get rfl rfl rfl rfl rfl⟩
  · refine wl ?_
    exact ⟨netP b (.slice none 0 0) (.slice none 0 0) (.slice none 0 0) (.slice none 0 0) ⟨0, [], none⟩, [.d (.v (.bool false))], 
      .inl ⟨by
        unfold lineS
        rw [if_pos rfl]
        match t, h1 with
        | [], _ => rfl
        | [x], h1 => simp at h1
        | x :: y :: r, _ => rfl, rfl⟩, rfl, ⟨.d rfl (.inl rfl), trivial⟩, netP_get rfl rfl rfl rfl rfl⟩
set_option maxRecDepth 100000 in
set_option maxHeartbeats 4000000 in
theorem line0oth (b : Nat) (h : List UInt8) (inn : Int) (t : List (List UInt8)) (first : Bool) (hw : ∀ x ∈ t, x ≠ [] ∧ x.length ≤ 20000) (ht : t.length ≤ 1000000000) (n1 : h ≠ bNet) (n2 : h ≠ bAff) (n3 : h ≠ bRel) (n4 : h ≠ bMax) (n5 : h ≠ bRow) (n6 : h ≠ bOf) :
    FnO Tryz.prog 67 MaxL (netP b (.slice none 0 0) (.slice none 0 0) (.slice none 0 0) (.slice none 0 0) ⟨inn, [], none⟩) (NS.args b h t first) (lineQ b ⟨inn, [], none⟩ h t first) := by
  have _ := hw
  have _ := ht
  have hml : (h :: t).length = t.length + 1 := List.length_cons ..
  have hget : (h :: t)[0]? = some h := rfl
  refine FnO.of Tryz.func67 rfl (by kernel_rfl) Tryz.ntmps67 Tryz.results67 rfl rfl fun w0 S0 vs hS hv hKW => ⟨_, fun t v h => .inl h, ?_⟩
  refine wl ?_
  ((try (first | intro K ms hms hK | intro K hK)); (first | apply Chain.go | apply Chain.goD); exact rfl; exact rfl; exact Loc.strEq (r := false) rfl rfl rfl (neT (m := bNet) n1))
  refine wl ?_
  ((try (first | intro K ms hms hK | intro K hK)); (first | apply Chain.go | apply Chain.goD); exact rfl; exact rfl; exact Loc.strEq (r := false) rfl rfl rfl (neT (m := bAff) n2))
  refine wl ?_
  ((try (first | intro K ms hms hK | intro K hK)); (first | apply Chain.go | apply Chain.goD); exact rfl; exact rfl; exact Loc.strEq (r := false) rfl rfl rfl (neT (m := bRel) n3))
  refine wl ?_
  ((try (first | intro K ms hms hK | intro K hK)); (first | apply Chain.go | apply Chain.goD); exact rfl; exact rfl; exact Loc.strEq (r := false) rfl rfl rfl (neT (m := bMax) n4))
  refine wl ?_
  ((try (first | intro K ms hms hK | intro K hK)); (first | apply Chain.go | apply Chain.goD); exact rfl; exact rfl; exact Loc.strEq (r := false) rfl rfl rfl (neT (m := bRow) n5))
  refine wl ?_
  ((try (first | intro K ms hms hK | intro K hK)); (first | apply Chain.go | apply Chain.goD); exact rfl; exact rfl; exact Loc.strEq (r := false) rfl rfl rfl (neT (m := bOf) n6))
  refine wl ?_
  exact ⟨netP b (.slice none 0 0) (.slice none 0 0) (.slice none 0 0) (.slice none 0 0) ⟨inn, [], none⟩, [.d (.v (.bool false))], .inl ⟨by simp [lineS, kindOf, n1, n2, n3, n4, n5, n6], rfl⟩, rfl, ⟨.d rfl (.inl rfl), trivial⟩, netP_get rfl rfl rfl rfl rfl⟩
set_option maxRecDepth 100000 in
set_option maxHeartbeats 4000000 in
theorem line1net (b : Nat) (xW xB xG : Value) (inn : Int) (ls : List LN) (l : LN) (t : List (List UInt8)) (first : Bool) (bL cL : Nat) (hls : ls.length ≤ 1000000) (hlw : l.W.length ≤ 1000000) (hlb : l.B.length ≤ 1000000) (hlg : l.G.length ≤ 1000000) (hw : ∀ x ∈ t, x ≠ [] ∧ x.length ≤ 20000) (ht : t.length ≤ 1000000000) :
    FnO Tryz.prog 67 MaxL (netP b (slv bL (ls.length + 1) cL) xW xB xG ⟨inn, ls, some l⟩) (NS.args b bNet t first) (lineQ b ⟨inn, ls, some l⟩ bNet t first) := by
  have _ := hw
  have _ := ht
  have _ := hls
  have _ := hlw
  have _ := hlb
  have _ := hlg
  have hml : (bNet :: t).length = t.length + 1 := List.length_cons ..
  have hget : (bNet :: t)[0]? = some bNet := rfl
  refine FnO.of Tryz.func67 rfl (by kernel_rfl) Tryz.ntmps67 Tryz.results67 rfl rfl fun w0 S0 vs hS hv hKW => ⟨_, fun t v h => .inl h, ?_⟩
  refine wl ?_
  refine AC.drwL _ rfl (by kernel_rfl) (by decide +kernel) ?_
  refine wl ?_
  ((try (first | intro K ms hms hK | intro K hK)); (first | apply Chain.go | apply Chain.goD); exact rfl; exact rfl; exact Loc.idxV ls.length rfl rfl rfl (by omega) (by omega))
  refine wl ?_
  refine wl ?_
  ((try (first | intro K ms hms hK | intro K hK)); (first | apply Chain.go | apply Chain.goD); exact rfl; exact rfl; exact Loc.strEq (r := true) rfl rfl rfl (eqT (m := bNet) rfl))
  refine wl ?_
  refine s1 (fun h1 => ?_) (fun h1 => ?_)
  · obtain ⟨x, rfl⟩ : ∃ x, t = [x] := List.length_eq_one_iff.1 (by simp at h1; omega)
    obtain ⟨o1, o2⟩ := hw x (by simp)
    have hget : ([bNet, x] : List (List UInt8))[1]? = some x := rfl
    have hf := countF x o1 (by omega)
    cases hc : cntN x with
    | none =>
      rw [hc] at hf
      refine wl ?_
      refine c1 hf ?_
      refine wl ?_
      exact ⟨netP b (slv bL (ls.length + 1) cL) xW xB xG ⟨0, ls, some l⟩, [.d (.v (.bool false))], .inl ⟨by simp [lineS, hc], rfl⟩, rfl, ⟨.d rfl (.inl rfl), trivial⟩, netP_get rfl rfl rfl rfl rfl⟩
    | some n =>
      rw [hc] at hf
      refine wl ?_
      refine c1 hf ?_
      cases first with
      | false =>
        refine wl ?_
        exact ⟨netP b (slv bL (ls.length + 1) cL) xW xB xG ⟨n, ls, some l⟩, [.d (.v (.bool false))], .inl ⟨by simp [lineS, hc], rfl⟩, rfl, ⟨.d rfl (.inl rfl), trivial⟩, netP_get rfl rfl rfl rfl rfl⟩
      | true =>
        refine wl ?_
        exact ⟨netP b (slv bL (ls.length + 1) cL) xW xB xG ⟨n, ls, some l⟩, [.d (.v (.bool true))], .inr ⟨⟨n, ls, some l⟩, by simp [lineS, hc], rfl, _, _, _, _, ⟨.inr ⟨_, _, rfl⟩, fun h => absurd h (by simp)⟩, rfl⟩, rfl, ⟨.d rfl (.inl rfl), trivial⟩, netP_get rfl rfl rfl rfl rfl⟩
  · refine wl ?_
    exact ⟨netP b (slv bL (ls.length + 1) cL) xW xB xG ⟨0, ls, some l⟩, [.d (.v (.bool false))], 
      .inl ⟨by
        unfold lineS
        rw [if_pos rfl]
        match t, h1 with
        | [], _ => rfl
        | [x], h1 => simp at h1
        | x :: y :: r, _ => rfl, rfl⟩, rfl, ⟨.d rfl (.inl rfl), trivial⟩, netP_get rfl rfl rfl rfl rfl⟩
set_option maxRecDepth 100000 in
set_option maxHeartbeats 4000000 in
theorem line1oth (b : Nat) (h : List UInt8) (xW xB xG : Value) (inn : Int) (ls : List LN) (l : LN) (t : List (List UInt8)) (first : Bool) (bL cL : Nat) (hls : ls.length ≤ 1000000) (hlw : l.W.length ≤ 1000000) (hlb : l.B.length ≤ 1000000) (hlg : l.G.length ≤ 1000000) (hw : ∀ x ∈ t, x ≠ [] ∧ x.length ≤ 20000) (ht : t.length ≤ 1000000000) (n1 : h ≠ bNet) (n2 : h ≠ bAff) (n3 : h ≠ bRel) (n4 : h ≠ bMax) (n5 : h ≠ bRow) (n6 : h ≠ bOf) :
    FnO Tryz.prog 67 MaxL (netP b (slv bL (ls.length + 1) cL) xW xB xG ⟨inn, ls, some l⟩) (NS.args b h t first) (lineQ b ⟨inn, ls, some l⟩ h t first) := by
  have _ := hw
  have _ := ht
  have _ := hls
  have _ := hlw
  have _ := hlb
  have _ := hlg
  have hml : (h :: t).length = t.length + 1 := List.length_cons ..
  have hget : (h :: t)[0]? = some h := rfl
  refine FnO.of Tryz.func67 rfl (by kernel_rfl) Tryz.ntmps67 Tryz.results67 rfl rfl fun w0 S0 vs hS hv hKW => ⟨_, fun t v h => .inl h, ?_⟩
  refine wl ?_
  refine AC.drwL _ rfl (by kernel_rfl) (by decide +kernel) ?_
  refine wl ?_
  ((try (first | intro K ms hms hK | intro K hK)); (first | apply Chain.go | apply Chain.goD); exact rfl; exact rfl; exact Loc.idxV ls.length rfl rfl rfl (by omega) (by omega))
  refine wl ?_
  refine wl ?_
  ((try (first | intro K ms hms hK | intro K hK)); (first | apply Chain.go | apply Chain.goD); exact rfl; exact rfl; exact Loc.strEq (r := false) rfl rfl rfl (neT (m := bNet) n1))
  refine wl ?_
  ((try (first | intro K ms hms hK | intro K hK)); (first | apply Chain.go | apply Chain.goD); exact rfl; exact rfl; exact Loc.strEq (r := false) rfl rfl rfl (neT (m := bAff) n2))
  refine wl ?_
  ((try (first | intro K ms hms hK | intro K hK)); (first | apply Chain.go | apply Chain.goD); exact rfl; exact rfl; exact Loc.strEq (r := false) rfl rfl rfl (neT (m := bRel) n3))
  refine wl ?_
  ((try (first | intro K ms hms hK | intro K hK)); (first | apply Chain.go | apply Chain.goD); exact rfl; exact rfl; exact Loc.strEq (r := false) rfl rfl rfl (neT (m := bMax) n4))
  refine wl ?_
  ((try (first | intro K ms hms hK | intro K hK)); (first | apply Chain.go | apply Chain.goD); exact rfl; exact rfl; exact Loc.strEq (r := false) rfl rfl rfl (neT (m := bRow) n5))
  refine wl ?_
  ((try (first | intro K ms hms hK | intro K hK)); (first | apply Chain.go | apply Chain.goD); exact rfl; exact rfl; exact Loc.strEq (r := false) rfl rfl rfl (neT (m := bOf) n6))
  refine wl ?_
  exact ⟨netP b (slv bL (ls.length + 1) cL) xW xB xG ⟨inn, ls, some l⟩, [.d (.v (.bool false))], .inl ⟨by simp [lineS, kindOf, n1, n2, n3, n4, n5, n6], rfl⟩, rfl, ⟨.d rfl (.inl rfl), trivial⟩, netP_get rfl rfl rfl rfl rfl⟩
set_option maxRecDepth 100000 in
set_option maxHeartbeats 4000000 in
theorem line0row (b : Nat) (inn : Int) (t : List (List UInt8)) (first : Bool) (hw : ∀ x ∈ t, x ≠ [] ∧ x.length ≤ 20000) (ht : t.length ≤ 1000000000) :
    FnO Tryz.prog 67 MaxL (netP b (.slice none 0 0) (.slice none 0 0) (.slice none 0 0) (.slice none 0 0) ⟨inn, [], none⟩) (NS.args b bRow t first) (lineQ b ⟨inn, [], none⟩ bRow t first) := by
  have _ := hw
  have _ := ht
  have hml : (bRow :: t).length = t.length + 1 := List.length_cons ..
  have hget : (bRow :: t)[0]? = some bRow := rfl
  refine FnO.of Tryz.func67 rfl (by kernel_rfl) Tryz.ntmps67 Tryz.results67 rfl rfl fun w0 S0 vs hS hv hKW => ⟨_, fun t v h => .inl h, ?_⟩
  refine wl ?_
  ((try (first | intro K ms hms hK | intro K hK)); (first | apply Chain.go | apply Chain.goD); exact rfl; exact rfl; exact Loc.strEq (r := false) rfl rfl rfl (neT (m := bNet) (by decide)))
  refine wl ?_
  ((try (first | intro K ms hms hK | intro K hK)); (first | apply Chain.go | apply Chain.goD); exact rfl; exact rfl; exact Loc.strEq (r := false) rfl rfl rfl (neT (m := bAff) (by decide)))
  refine wl ?_
  ((try (first | intro K ms hms hK | intro K hK)); (first | apply Chain.go | apply Chain.goD); exact rfl; exact rfl; exact Loc.strEq (r := false) rfl rfl rfl (neT (m := bRel) (by decide)))
  refine wl ?_
  ((try (first | intro K ms hms hK | intro K hK)); (first | apply Chain.go | apply Chain.goD); exact rfl; exact rfl; exact Loc.strEq (r := false) rfl rfl rfl (neT (m := bMax) (by decide)))
  refine wl ?_
  ((try (first | intro K ms hms hK | intro K hK)); (first | apply Chain.go | apply Chain.goD); exact rfl; exact rfl; exact Loc.strEq (r := true) rfl rfl rfl (eqT (m := bRow) rfl))
  refine wl ?_
  exact ⟨netP b (.slice none 0 0) (.slice none 0 0) (.slice none 0 0) (.slice none 0 0) ⟨inn, [], none⟩, [.d (.v (.bool false))], .inl ⟨by rw [lineS_row], rfl⟩, rfl, ⟨.d rfl (.inl rfl), trivial⟩, netP_get rfl rfl rfl rfl rfl⟩
set_option maxRecDepth 100000 in
set_option maxHeartbeats 4000000 in
theorem line0of (b : Nat) (inn : Int) (t : List (List UInt8)) (first : Bool) (hw : ∀ x ∈ t, x ≠ [] ∧ x.length ≤ 20000) (ht : t.length ≤ 1000000000) :
    FnO Tryz.prog 67 MaxL (netP b (.slice none 0 0) (.slice none 0 0) (.slice none 0 0) (.slice none 0 0) ⟨inn, [], none⟩) (NS.args b bOf t first) (lineQ b ⟨inn, [], none⟩ bOf t first) := by
  have _ := hw
  have _ := ht
  have hml : (bOf :: t).length = t.length + 1 := List.length_cons ..
  have hget : (bOf :: t)[0]? = some bOf := rfl
  refine FnO.of Tryz.func67 rfl (by kernel_rfl) Tryz.ntmps67 Tryz.results67 rfl rfl fun w0 S0 vs hS hv hKW => ⟨_, fun t v h => .inl h, ?_⟩
  refine wl ?_
  ((try (first | intro K ms hms hK | intro K hK)); (first | apply Chain.go | apply Chain.goD); exact rfl; exact rfl; exact Loc.strEq (r := false) rfl rfl rfl (neT (m := bNet) (by decide)))
  refine wl ?_
  ((try (first | intro K ms hms hK | intro K hK)); (first | apply Chain.go | apply Chain.goD); exact rfl; exact rfl; exact Loc.strEq (r := false) rfl rfl rfl (neT (m := bAff) (by decide)))
  refine wl ?_
  ((try (first | intro K ms hms hK | intro K hK)); (first | apply Chain.go | apply Chain.goD); exact rfl; exact rfl; exact Loc.strEq (r := false) rfl rfl rfl (neT (m := bRel) (by decide)))
  refine wl ?_
  ((try (first | intro K ms hms hK | intro K hK)); (first | apply Chain.go | apply Chain.goD); exact rfl; exact rfl; exact Loc.strEq (r := false) rfl rfl rfl (neT (m := bMax) (by decide)))
  refine wl ?_
  ((try (first | intro K ms hms hK | intro K hK)); (first | apply Chain.go | apply Chain.goD); exact rfl; exact rfl; exact Loc.strEq (r := false) rfl rfl rfl (neT (m := bRow) (by decide)))
  refine wl ?_
  ((try (first | intro K ms hms hK | intro K hK)); (first | apply Chain.go | apply Chain.goD); exact rfl; exact rfl; exact Loc.strEq (r := true) rfl rfl rfl (eqT (m := bOf) rfl))
  refine wl ?_
  exact ⟨netP b (.slice none 0 0) (.slice none 0 0) (.slice none 0 0) (.slice none 0 0) ⟨inn, [], none⟩, [.d (.v (.bool false))], .inl ⟨by rw [lineS_of], rfl⟩, rfl, ⟨.d rfl (.inl rfl), trivial⟩, netP_get rfl rfl rfl rfl rfl⟩
set_option maxRecDepth 100000 in
set_option maxHeartbeats 4000000 in
theorem line1row (b : Nat) (xW xB xG : Value) (inn : Int) (ls : List LN) (l : LN) (t : List (List UInt8)) (first : Bool) (bL cL : Nat) (hls : ls.length ≤ 1000000) (hlw : l.W.length ≤ 1000000) (hlb : l.B.length ≤ 1000000) (hlg : l.G.length ≤ 1000000) (hw : ∀ x ∈ t, x ≠ [] ∧ x.length ≤ 20000) (ht : t.length ≤ 1000000000) :
    FnO Tryz.prog 67 MaxL (netP b (slv bL (ls.length + 1) cL) xW xB xG ⟨inn, ls, some l⟩) (NS.args b bRow t first) (lineQ b ⟨inn, ls, some l⟩ bRow t first) := by
  have _ := hw
  have _ := ht
  have _ := hls
  have _ := hlw
  have _ := hlb
  have _ := hlg
  have hml : (bRow :: t).length = t.length + 1 := List.length_cons ..
  have hget : (bRow :: t)[0]? = some bRow := rfl
  have hrow := rows_get ls [.v (.int .i64 l.kind), .v xW, .v xB, .v xG]
  have htl : (t.map fun x => [D.v (.string (tx x))]).length = t.length := words_len t
  refine FnO.of Tryz.func67 rfl (by kernel_rfl) Tryz.ntmps67 Tryz.results67 rfl rfl fun w0 S0 vs hS hv hKW => ⟨_, fun t v h => .inl h, ?_⟩
  refine wl ?_
  refine AC.drwL _ rfl (by kernel_rfl) (by decide +kernel) ?_
  refine wl ?_
  ((try (first | intro K ms hms hK | intro K hK)); (first | apply Chain.go | apply Chain.goD); exact rfl; exact rfl; exact Loc.idxV ls.length rfl rfl rfl (by omega) (by omega))
  refine wl ?_
  refine wl ?_
  ((try (first | intro K ms hms hK | intro K hK)); (first | apply Chain.go | apply Chain.goD); exact rfl; exact rfl; exact Loc.strEq (r := false) rfl rfl rfl (neT (m := bNet) (by decide)))
  refine wl ?_
  ((try (first | intro K ms hms hK | intro K hK)); (first | apply Chain.go | apply Chain.goD); exact rfl; exact rfl; exact Loc.strEq (r := false) rfl rfl rfl (neT (m := bAff) (by decide)))
  refine wl ?_
  ((try (first | intro K ms hms hK | intro K hK)); (first | apply Chain.go | apply Chain.goD); exact rfl; exact rfl; exact Loc.strEq (r := false) rfl rfl rfl (neT (m := bRel) (by decide)))
  refine wl ?_
  ((try (first | intro K ms hms hK | intro K hK)); (first | apply Chain.go | apply Chain.goD); exact rfl; exact rfl; exact Loc.strEq (r := false) rfl rfl rfl (neT (m := bMax) (by decide)))
  refine wl ?_
  ((try (first | intro K ms hms hK | intro K hK)); (first | apply Chain.go | apply Chain.goD); exact rfl; exact rfl; exact Loc.strEq (r := true) rfl rfl rfl (eqT (m := bRow) rfl))
  refine wl ?_
  ((try (first | intro K ms hms hK | intro K hK)); (first | apply Chain.go | apply Chain.goD); exact rfl; exact rfl; exact Loc.loadO1 (id := 289) ls.length 0 rfl rfl rfl rfl hrow rfl)
  refine wl ?_
  by_cases hk1 : l.kind = 1
  rotate_left
  · refine wl ?_
    exact ⟨netP b (slv bL (ls.length + 1) cL) xW xB xG ⟨inn, ls, some l⟩, [.d (.v (.bool false))], .inl ⟨by rw [lineS_row]; simp [hk1], rfl⟩, rfl, ⟨.d rfl (.inl rfl), trivial⟩, netP_get rfl rfl rfl rfl rfl⟩
  by_cases ht0 : t.length = 0
  · refine wl ?_
    exact ⟨netP b (slv bL (ls.length + 1) cL) xW xB xG ⟨inn, ls, some l⟩, [.d (.v (.bool false))], .inl ⟨by rw [List.length_eq_zero_iff.1 ht0, lineS_row]; simp [ratsW], rfl⟩, rfl, ⟨.d rfl (.inl rfl), trivial⟩, netP_get rfl rfl rfl rfl rfl⟩
  refine wl ?_
  ((try (first | intro K ms hms hK | intro K hK)); (first | apply Chain.go | apply Chain.goD); exact rfl; exact rfl; exact Loc.tailL 1 rfl rfl rfl rfl (by simp) (by simp))
  refine wl ?_
  refine AC.rowVar 10 100 119 3 rfl rfl ?_
  refine AC.loop (X := List Rat) (fun x => ⟨[(0, .d (.v (ptv b 0))), (7, .d (.v (ptv bL (ls.length * 4)))), (10, .r 100 x.length), (102, .d (.l (t.map fun x => [D.v (.string (tx x))]))), (103, .d (.v (.int .i64 (t.length : Int)))), (104, .d (.v (.int .i64 (x.length : Int))))], [(100, .row x.length 119 3 (x.map enR)), (288, boxO b 25 [.v (.int .i64 inn), .v (slv bL (ls.length + 1) cL)]), (289, rowO (slv bL (ls.length + 1) cL) 30 4 (rowsOf ⟨inn, ls, some l⟩ xW xB xG)), (290, rowO xW 27 1 (lastW ⟨inn, ls, some l⟩)), (291, rowO xB 119 3 (lastB ⟨inn, ls, some l⟩)), (292, rowO xG 31 1 (lastG ⟨inn, ls, some l⟩))]⟩) (fun x => ratsW (t.take x.length) = some x ∧ x.length ≤ t.length) (fun x => t.length - x.length) [] ⟨rfl, Nat.zero_le _⟩ ⟨rfl, rfl, rfl, rfl, rfl, rfl, trivial⟩ ⟨rfl, rfl, rfl, rfl, rfl, rfl, trivial⟩ ?_
  intro x ⟨hx, hxl⟩
  have hmx : (x.map enR).length = x.length := List.length_map ..
  dsimp only
  refine wl ?_
  refine s1 (fun h2 => ?_) (fun h2 => ?_)
  · have hi' : x.length < t.length := by omega
    have hgt : t[x.length]? = some t[x.length] := List.getElem?_eq_getElem hi'
    obtain ⟨o1, o2⟩ := hw _ (List.getElem_mem hi')
    obtain ⟨p1, p2⟩ := ratsW_step hx hgt
    generalize t[x.length] = y at hgt o1 o2 p1 p2
    have hf := parseRF (Kw := MaxL) y o2
    cases hc : parseR y with
    | none =>
      rw [hc] at hf
      refine wl ?_
      ((try (first | intro K ms hms hK | intro K hK)); (first | apply Chain.go | apply Chain.goD); exact rfl; exact rfl; (refine Loc.callWT hf rfl ?_ (kHereO hKW); (repeat (first | exact trivial | refine ⟨.inl rfl, ?_⟩ | refine ⟨.inr rfl, ?_⟩))))
      refine wl ?_
      exact ⟨netP b (slv bL (ls.length + 1) cL) xW xB xG ⟨inn, ls, some l⟩, [.d (.v (.bool false))], .inl ⟨by rw [lineS_row]; simp [hk1, p2 hc], rfl⟩, rfl, ⟨.d rfl (.inl rfl), trivial⟩, netP_get rfl rfl rfl rfl rfl⟩
    | some r =>
      rw [hc] at hf
      have q1 := p1 r hc
      refine wl ?_
      ((try (first | intro K ms hms hK | intro K hK)); (first | apply Chain.go | apply Chain.goD); exact rfl; exact rfl; (refine Loc.callWT hf rfl ?_ (kHereO hKW); (repeat (first | exact trivial | refine ⟨.inl rfl, ?_⟩ | refine ⟨.inr rfl, ?_⟩))))
      refine wl ?_
      exact ⟨x ++ [r], ⟨by simpa using q1, by simp; omega⟩, by simp; omega, ⟨rfl, rfl, iv10 (by simp), rfl, rfl, ivw (by simp), trivial⟩, ⟨by simp; rfl, rfl, rfl, rfl, rfl, rfl, trivial⟩⟩
  · have hall : ratsW t = some x := by rw [List.take_of_length_le (by omega)] at hx; exact hx
    have hx0 : x.length = t.length := by omega
    have hne : x ≠ [] := fun e => by rw [e] at hx0; simp at hx0; omega
    have hlast : x.getLast? = some (x.getLast hne) := List.getLast?_eq_some_getLast hne
    have hxe := List.dropLast_concat_getLast hne
    generalize x.getLast hne = q at hlast hxe
    have hdl : x.dropLast.length = x.length - 1 := List.length_dropLast
    have hgl : x[x.length - 1]? = some q := by rw [← hlast, List.getLast?_eq_getElem?]
    have htk : (x.map enR).take (x.length - 1) = x.dropLast.map enR := by rw [List.dropLast_eq_take, List.map_take]
    refine wl ?_
    refine AC.frzVar 10 rfl rfl ?_
    refine AC.drwL _ rfl (by kernel_rfl) (by decide +kernel) ?_
    refine wl ?_
    ((try (first | intro K ms hms hK | intro K hK)); (first | apply Chain.go | apply Chain.goD); exact rfl; exact rfl; exact Loc.loadO1 (id := 289) ls.length 1 rfl rfl rfl rfl hrow rfl)
    refine wl ?_
    ((try (first | intro K ms hms hK | intro K hK)); (first | apply Chain.go | apply Chain.goD); exact rfl; exact rfl; exact Loc.partHM (x.length - 1) rfl rfl rfl rfl (by omega) (by omega) (by simp))
    rw [htk]
    refine wl ?_
    ((try (first | intro K ms hms hK | intro K hK)); (first | apply Chain.ef2 | apply Chain.efD2); exact rfl; exact rfl; exact Do.appendP 290 rfl rfl rfl rfl rfl (by simp) (by simp [lastW]; omega) (Nat.zero_lt_one); exact rfl; exact rfl)
    refine wl ?_
    (first | intro K ms hms hK | intro K hK)
    refine Chain.pinR 134 134 rfl rfl fun xW' hxW => ?_
    ((try (first | intro K ms hms hK | intro K hK)); (first | apply Chain.st | apply Chain.stD); exact rfl; exact rfl; exact Do.storeO (id := 289) ls.length 1 rfl rfl rfl rfl hrow rfl rfl rfl rfl rfl; exact rfl; exact rfl)
    refine wl ?_
    refine AC.giveO 134 290 rfl rfl ?_
    have hrow' := rows_get ls [.v (.int .i64 l.kind), .v xW', .v xB, .v xG]
    have hset : (rowsOf ⟨inn, ls, some l⟩ xW xB xG).set ls.length [.v (.int .i64 l.kind), .v xW', .v xB, .v xG] = ls.map enLN ++ [[.v (.int .i64 l.kind), .v xW', .v xB, .v xG]] := rows_set ls _ _
    have hset2 : ∀ xB', (ls.map enLN ++ [[D.v (.int .i64 l.kind), D.v xW', D.v xB, D.v xG]]).set ls.length [D.v (.int .i64 l.kind), D.v xW', D.v xB', D.v xG] = rowsOf ⟨inn, ls, some ⟨l.kind, l.W ++ [x.dropLast], l.B ++ [q], l.G⟩⟩ xW' xB' xG := fun xB' => rows_set ls _ _
    have eW : lastW ⟨inn, ls, some l⟩ ++ [[enRs x.dropLast]] = lastW ⟨inn, ls, some ⟨l.kind, l.W ++ [x.dropLast], l.B ++ [q], l.G⟩⟩ := by simp [lastW]
    have eB : lastB ⟨inn, ls, some l⟩ ++ [enR q] = lastB ⟨inn, ls, some ⟨l.kind, l.W ++ [x.dropLast], l.B ++ [q], l.G⟩⟩ := by simp [lastB]
    refine AC.sub ⟨[(0, .d (.v (ptv b 0))), (7, .d (.v (ptv bL (ls.length * 4)))), (10, .d (.l (x.map enR)))], [(288, boxO b 25 [.v (.int .i64 inn), .v (slv bL (ls.length + 1) cL)]), (289, rowO (slv bL (ls.length + 1) cL) 30 4 (ls.map enLN ++ [[D.v (.int .i64 l.kind), D.v xW', D.v xB, D.v xG]])), (290, rowO xW' 27 1 (lastW ⟨inn, ls, some l⟩ ++ [[enRs x.dropLast]])), (291, rowO xB 119 3 (lastB ⟨inn, ls, some l⟩)), (292, rowO xG 31 1 (lastG ⟨inn, ls, some l⟩))]⟩ ⟨rfl, rfl, rfl, trivial⟩ ⟨rfl, congrArg (fun r => some (rowO _ _ _ r)) hset, rfl, rfl, rfl, trivial⟩ ?_
    refine AC.drwL _ rfl (by kernel_rfl) (by decide +kernel) ?_
    refine wl ?_
    ((try (first | intro K ms hms hK | intro K hK)); (first | apply Chain.go | apply Chain.goD); exact rfl; exact rfl; exact Loc.loadO1 (id := 289) ls.length 2 rfl rfl rfl rfl hrow' rfl)
    refine wl ?_
    ((try (first | intro K ms hms hK | intro K hK)); (first | apply Chain.go | apply Chain.goD); exact rfl; exact rfl; exact Loc.idxM (i := x.length - 1) rfl rfl rfl (by omega) hgl rfl)
    refine wl ?_
    ((try (first | intro K ms hms hK | intro K hK)); (first | apply Chain.ef2 | apply Chain.efD2); exact rfl; exact rfl; exact Do.appendP 291 rfl rfl rfl rfl rfl (by simp [enR]) (by simp [lastB]; omega) (Nat.zero_lt_one); exact rfl; exact rfl)
    refine wl ?_
    (first | intro K ms hms hK | intro K hK)
    refine Chain.pinR 149 149 rfl rfl fun xB' hxB => ?_
    ((try (first | intro K ms hms hK | intro K hK)); (first | apply Chain.st | apply Chain.stD); exact rfl; exact rfl; exact Do.storeO (id := 289) ls.length 2 rfl rfl rfl rfl hrow' rfl rfl rfl rfl rfl; exact rfl; exact rfl)
    (first | intro K ms hms hK | intro K hK | skip)
    refine Chain.giveO 149 291 rfl rfl ?_
    refine Chain.sub ⟨[], [(288, boxO b 25 [.v (.int .i64 inn), .v (slv bL (ls.length + 1) cL)]), (289, rowO (slv bL (ls.length + 1) cL) 30 4 (rowsOf ⟨inn, ls, some ⟨l.kind, l.W ++ [x.dropLast], l.B ++ [q], l.G⟩⟩ xW' xB' xG)), (290, rowO xW' 27 1 (lastW ⟨inn, ls, some ⟨l.kind, l.W ++ [x.dropLast], l.B ++ [q], l.G⟩⟩)), (291, rowO xB' 119 3 (lastB ⟨inn, ls, some ⟨l.kind, l.W ++ [x.dropLast], l.B ++ [q], l.G⟩⟩)), (292, rowO xG 31 1 (lastG ⟨inn, ls, some ⟨l.kind, l.W ++ [x.dropLast], l.B ++ [q], l.G⟩⟩))]⟩ trivial ⟨rfl, congrArg (fun r => some (rowO _ _ _ r)) (hset2 xB'), congrArg (fun r => some (rowO _ _ _ r)) eW, congrArg (fun r => some (rowO _ _ _ r)) eB, rfl, trivial⟩ ?_
    refine wl ?_
    exact ⟨netP b (slv bL (ls.length + 1) cL) xW' xB' xG ⟨inn, ls, some ⟨l.kind, l.W ++ [x.dropLast], l.B ++ [q], l.G⟩⟩, [.d (.v (.bool true))], .inr ⟨_, by rw [lineS_row]; simp [hk1, hall, hlast], rfl, _, _, _, _, ⟨.inr ⟨_, _, rfl⟩, fun h => absurd h (by simp)⟩, rfl⟩, rfl, ⟨.d rfl (.inl rfl), trivial⟩, netP_get rfl rfl rfl rfl rfl⟩
set_option maxRecDepth 100000 in
set_option maxHeartbeats 4000000 in
theorem line1of (b : Nat) (xW xB xG : Value) (inn : Int) (ls : List LN) (l : LN) (t : List (List UInt8)) (first : Bool) (bL cL : Nat) (hls : ls.length ≤ 1000000) (hlw : l.W.length ≤ 1000000) (hlb : l.B.length ≤ 1000000) (hlg : l.G.length ≤ 1000000) (hw : ∀ x ∈ t, x ≠ [] ∧ x.length ≤ 20000) (ht : t.length ≤ 1000000000) :
    FnO Tryz.prog 67 MaxL (netP b (slv bL (ls.length + 1) cL) xW xB xG ⟨inn, ls, some l⟩) (NS.args b bOf t first) (lineQ b ⟨inn, ls, some l⟩ bOf t first) := by
  have _ := hw
  have _ := ht
  have _ := hls
  have _ := hlw
  have _ := hlb
  have _ := hlg
  have hml : (bOf :: t).length = t.length + 1 := List.length_cons ..
  have hget : (bOf :: t)[0]? = some bOf := rfl
  have hrow := rows_get ls [.v (.int .i64 l.kind), .v xW, .v xB, .v xG]
  refine FnO.of Tryz.func67 rfl (by kernel_rfl) Tryz.ntmps67 Tryz.results67 rfl rfl fun w0 S0 vs hS hv hKW => ⟨_, fun t v h => .inl h, ?_⟩
  refine wl ?_
  refine AC.drwL _ rfl (by kernel_rfl) (by decide +kernel) ?_
  refine wl ?_
  ((try (first | intro K ms hms hK | intro K hK)); (first | apply Chain.go | apply Chain.goD); exact rfl; exact rfl; exact Loc.idxV ls.length rfl rfl rfl (by omega) (by omega))
  refine wl ?_
  refine wl ?_
  ((try (first | intro K ms hms hK | intro K hK)); (first | apply Chain.go | apply Chain.goD); exact rfl; exact rfl; exact Loc.strEq (r := false) rfl rfl rfl (neT (m := bNet) (by decide)))
  refine wl ?_
  ((try (first | intro K ms hms hK | intro K hK)); (first | apply Chain.go | apply Chain.goD); exact rfl; exact rfl; exact Loc.strEq (r := false) rfl rfl rfl (neT (m := bAff) (by decide)))
  refine wl ?_
  ((try (first | intro K ms hms hK | intro K hK)); (first | apply Chain.go | apply Chain.goD); exact rfl; exact rfl; exact Loc.strEq (r := false) rfl rfl rfl (neT (m := bRel) (by decide)))
  refine wl ?_
  ((try (first | intro K ms hms hK | intro K hK)); (first | apply Chain.go | apply Chain.goD); exact rfl; exact rfl; exact Loc.strEq (r := false) rfl rfl rfl (neT (m := bMax) (by decide)))
  refine wl ?_
  ((try (first | intro K ms hms hK | intro K hK)); (first | apply Chain.go | apply Chain.goD); exact rfl; exact rfl; exact Loc.strEq (r := false) rfl rfl rfl (neT (m := bRow) (by decide)))
  refine wl ?_
  ((try (first | intro K ms hms hK | intro K hK)); (first | apply Chain.go | apply Chain.goD); exact rfl; exact rfl; exact Loc.strEq (r := true) rfl rfl rfl (eqT (m := bOf) rfl))
  refine wl ?_
  ((try (first | intro K ms hms hK | intro K hK)); (first | apply Chain.go | apply Chain.goD); exact rfl; exact rfl; exact Loc.loadO1 (id := 289) ls.length 0 rfl rfl rfl rfl hrow rfl)
  refine wl ?_
  by_cases hk1 : l.kind = 3
  rotate_left
  · refine wl ?_
    exact ⟨netP b (slv bL (ls.length + 1) cL) xW xB xG ⟨inn, ls, some l⟩, [.d (.v (.bool false))], .inl ⟨by rw [lineS_of]; simp [hk1], rfl⟩, rfl, ⟨.d rfl (.inl rfl), trivial⟩, netP_get rfl rfl rfl rfl rfl⟩
  refine wl ?_
  ((try (first | intro K ms hms hK | intro K hK)); (first | apply Chain.go | apply Chain.goD); exact rfl; exact rfl; exact Loc.tailL 1 rfl rfl rfl rfl (by simp) (by simp))
  refine wl ?_
  refine AC.rowVar 15 100 3 1 rfl rfl ?_
  refine AC.loop (X := List Int) (fun x => ⟨[(0, .d (.v (ptv b 0))), (7, .d (.v (ptv bL (ls.length * 4)))), (15, .r 100 x.length), (160, .d (.l (t.map fun x => [D.v (.string (tx x))]))), (161, .d (.v (.int .i64 (t.length : Int)))), (162, .d (.v (.int .i64 (x.length : Int))))], [(100, .row x.length 3 1 (x.map fun v => [.v (.int .i64 v)])), (288, boxO b 25 [.v (.int .i64 inn), .v (slv bL (ls.length + 1) cL)]), (289, rowO (slv bL (ls.length + 1) cL) 30 4 (rowsOf ⟨inn, ls, some l⟩ xW xB xG)), (290, rowO xW 27 1 (lastW ⟨inn, ls, some l⟩)), (291, rowO xB 119 3 (lastB ⟨inn, ls, some l⟩)), (292, rowO xG 31 1 (lastG ⟨inn, ls, some l⟩))]⟩) (fun x => cntsW (t.take x.length) = some x ∧ x.length ≤ t.length) (fun x => t.length - x.length) [] ⟨rfl, Nat.zero_le _⟩ ⟨rfl, rfl, rfl, rfl, rfl, rfl, trivial⟩ ⟨rfl, rfl, rfl, rfl, rfl, rfl, trivial⟩ ?_
  intro x ⟨hx, hxl⟩
  have hmx : (x.map fun v => [D.v (.int .i64 v)]).length = x.length := List.length_map ..
  dsimp only
  refine wl ?_
  refine s1 (fun h2 => ?_) (fun h2 => ?_)
  · have hi' : x.length < t.length := by omega
    have hgt : t[x.length]? = some t[x.length] := List.getElem?_eq_getElem hi'
    obtain ⟨o1, o2⟩ := hw _ (List.getElem_mem hi')
    obtain ⟨p1, p2⟩ := cntsW_step hx hgt
    generalize t[x.length] = y at hgt o1 o2 p1 p2
    have hf := countF y o1 (by omega)
    cases hc : cntN y with
    | none =>
      rw [hc] at hf
      refine wl ?_
      refine c1 hf ?_
      refine wl ?_
      exact ⟨netP b (slv bL (ls.length + 1) cL) xW xB xG ⟨inn, ls, some l⟩, [.d (.v (.bool false))], .inl ⟨by rw [lineS_of]; simp [hk1, p2 hc], rfl⟩, rfl, ⟨.d rfl (.inl rfl), trivial⟩, netP_get rfl rfl rfl rfl rfl⟩
    | some r =>
      rw [hc] at hf
      have q1 := p1 r hc
      refine wl ?_
      refine c1 hf ?_
      refine wl ?_
      exact ⟨x ++ [(r : Int)], ⟨by simpa using q1, by simp; omega⟩, by simp; omega, ⟨rfl, rfl, iv10 (by simp), rfl, rfl, ivw (by simp), trivial⟩, ⟨by simp; rfl, rfl, rfl, rfl, rfl, rfl, trivial⟩⟩
  · have hall : cntsW t = some x := by rw [List.take_of_length_le (by omega)] at hx; exact hx
    have hset2 : ∀ xG', (rowsOf ⟨inn, ls, some l⟩ xW xB xG).set ls.length [D.v (.int .i64 l.kind), D.v xW, D.v xB, D.v xG'] = rowsOf ⟨inn, ls, some ⟨l.kind, l.W, l.B, l.G ++ [x]⟩⟩ xW xB xG' := fun xG' => rows_set ls _ _
    have eG : lastG ⟨inn, ls, some l⟩ ++ [[enIs x]] = lastG ⟨inn, ls, some ⟨l.kind, l.W, l.B, l.G ++ [x]⟩⟩ := by simp [lastG]
    refine wl ?_
    ((try (first | intro K ms hms hK | intro K hK)); (first | apply Chain.go | apply Chain.goD); exact rfl; exact rfl; exact Loc.loadO1 (id := 289) ls.length 3 rfl rfl rfl rfl hrow rfl)
    refine Chain.frzVar 15 rfl rfl ?_
    refine wl ?_
    ((try (first | intro K ms hms hK | intro K hK)); (first | apply Chain.ef2 | apply Chain.efD2); exact rfl; exact rfl; exact Do.appendP 292 rfl rfl rfl rfl rfl (by simp) (by simp [lastG]; omega) (Nat.zero_lt_one); exact rfl; exact rfl)
    refine wl ?_
    (first | intro K ms hms hK | intro K hK | skip)
    refine Chain.pinR 185 185 rfl rfl fun xG' hxG => ?_
    ((try (first | intro K ms hms hK | intro K hK)); (first | apply Chain.st | apply Chain.stD); exact rfl; exact rfl; exact Do.storeO (id := 289) ls.length 3 rfl rfl rfl rfl hrow rfl rfl rfl rfl rfl; exact rfl; exact rfl)
    (first | intro K ms hms hK | intro K hK | skip)
    refine Chain.giveO 185 292 rfl rfl ?_
    refine Chain.sub ⟨[], [(288, boxO b 25 [.v (.int .i64 inn), .v (slv bL (ls.length + 1) cL)]), (289, rowO (slv bL (ls.length + 1) cL) 30 4 (rowsOf ⟨inn, ls, some ⟨l.kind, l.W, l.B, l.G ++ [x]⟩⟩ xW xB xG')), (290, rowO xW 27 1 (lastW ⟨inn, ls, some ⟨l.kind, l.W, l.B, l.G ++ [x]⟩⟩)), (291, rowO xB 119 3 (lastB ⟨inn, ls, some ⟨l.kind, l.W, l.B, l.G ++ [x]⟩⟩)), (292, rowO xG' 31 1 (lastG ⟨inn, ls, some ⟨l.kind, l.W, l.B, l.G ++ [x]⟩⟩))]⟩ trivial ⟨rfl, congrArg (fun r => some (rowO _ _ _ r)) (hset2 xG'), rfl, rfl, congrArg (fun r => some (rowO _ _ _ r)) eG, trivial⟩ ?_
    refine wl ?_
    exact ⟨netP b (slv bL (ls.length + 1) cL) xW xB xG' ⟨inn, ls, some ⟨l.kind, l.W, l.B, l.G ++ [x]⟩⟩, [.d (.v (.bool true))], .inr ⟨_, by rw [lineS_of]; simp [hk1, hall], rfl, _, _, _, _, ⟨.inr ⟨_, _, rfl⟩, fun h => absurd h (by simp)⟩, rfl⟩, rfl, ⟨.d rfl (.inl rfl), trivial⟩, netP_get rfl rfl rfl rfl rfl⟩
end Go.Proofs.YthdkkpocihkgbaaGreatDoor
