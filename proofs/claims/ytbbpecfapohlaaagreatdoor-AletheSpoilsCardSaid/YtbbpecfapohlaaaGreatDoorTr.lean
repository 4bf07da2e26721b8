import Derived.Test.YtbbpecfapohlaaaGreatDoorPrP
namespace Go.Proofs.YtbbpecfapohlaaaGreatDoor
open Go.RowKit
attribute [local irreducible] AC Do St
/-! ### what a tree weighs -/
mutual
def wX : ST → Nat
  | .mk _ w l => w.length + 1 + wXs l
def wXs : List ST → Nat
  | [] => 0
  | s :: r => wX s + wXs r
end
mutual
def cX : ST → Nat
  | .mk _ _ l => 1 + cXs l
def cXs : List ST → Nat
  | [] => 0
  | s :: r => cX s + cXs r
end
theorem wX_mk (b : Bool) (w : List UInt8) (l : List ST) : wX (.mk b w l) = w.length + 1 + wXs l := by rw [wX]
theorem cX_mk (b : Bool) (w : List UInt8) (l : List ST) : cX (.mk b w l) = 1 + cXs l := by rw [cX]
theorem wXs_cons (s : ST) (r : List ST) : wXs (s :: r) = wX s + wXs r := by rw [wXs]
theorem cXs_cons (s : ST) (r : List ST) : cXs (s :: r) = cX s + cXs r := by rw [cXs]
theorem wXs_nil : wXs [] = 0 := by rw [wXs]
theorem cXs_nil : cXs [] = 0 := by rw [cXs]
mutual
theorem cX_w : ∀ s : ST, cX s ≤ wX s
  | .mk b w l => by have := cXs_w l; rw [cX_mk, wX_mk]; omega
theorem cXs_w : ∀ l : List ST, cXs l ≤ wXs l
  | [] => by rw [cXs_nil]; exact Nat.zero_le _
  | s :: r => by have := cX_w s; have := cXs_w r; rw [cXs_cons, wXs_cons]; omega
end
theorem wXs_mem : ∀ {l : List ST} {s : ST}, s ∈ l → wX s ≤ wXs l ∧ cX s ≤ cXs l
  | [], s, h => nomatch h
  | x :: r, s, h => by
    rw [wXs_cons, cXs_cons]
    rcases List.mem_cons.1 h with rfl | h
    · omega
    · have := wXs_mem h; omega
theorem cX_pos (s : ST) : 1 ≤ cX s := by obtain ⟨b, w, l⟩ := s; rw [cX_mk]; omega
theorem cXs_len : ∀ l : List ST, l.length ≤ cXs l
  | [] => Nat.zero_le _
  | s :: r => by have := cXs_len r; have := cX_pos s; rw [cXs_cons, List.length_cons]; omega
theorem wX_word (s : ST) : s.w.length < wX s := by obtain ⟨b, w, l⟩ := s; rw [wX_mk]; show w.length < _; omega
theorem okX_w : ∀ (m : Nat) (s : ST), wX s < m → wX s ≤ 9223372036854775807 → okX s := by
  intro m
  induction m with
  | zero => intro s h; omega
  | succ m ih =>
  intro s h h1
  obtain ⟨b, w, l⟩ := s
  rw [wX_mk] at h h1
  rw [okX]
  have h2 := cXs_len l
  have h3 := cXs_w l
  refine ⟨by omega, by omega, ?_⟩
  have h4 : ∀ x ∈ l, okX x := fun x hx => ih x (by have := (wXs_mem hx).1; omega) (by have := (wXs_mem hx).1; omega)
  clear h h1 h2 h3
  induction l with
  | nil => rw [okXs]; trivial
  | cons x r ihr => rw [okXs]; exact ⟨h4 x (by simp), ihr fun y hy => h4 y (by simp [hy])⟩
theorem okXs_w {l : List ST} (h : wXs l ≤ 9223372036854775807) : okXs l := by
  have h4 : ∀ x ∈ l, okX x := fun x hx => okX_w _ x (Nat.lt_succ_self _) (by have := (wXs_mem hx).1; omega)
  clear h
  induction l with
  | nil => rw [okXs]; trivial
  | cons x r ihr => rw [okXs]; exact ⟨h4 x (by simp), ihr fun y hy => h4 y (by simp [hy])⟩
theorem wXs_le {B : Nat} : ∀ {l : List ST}, (∀ x ∈ l, wX x ≤ B) → wXs l ≤ l.length * B
  | [], _ => by rw [wXs_nil]; exact Nat.zero_le _
  | x :: r, h => by
    have h1 := h x (by simp)
    have h2 := wXs_le (l := r) fun y hy => h y (by simp [hy])
    rw [wXs_cons, List.length_cons, Nat.add_mul, Nat.one_mul]
    omega
theorem cXs_le {B : Nat} : ∀ {l : List ST}, (∀ x ∈ l, cX x ≤ B) → cXs l ≤ l.length * B
  | [], _ => by rw [cXs_nil]; exact Nat.zero_le _
  | x :: r, h => by
    have h1 := h x (by simp)
    have h2 := cXs_le (l := r) fun y hy => h y (by simp [hy])
    rw [cXs_cons, List.length_cons, Nat.add_mul, Nat.one_mul]
    omega
theorem nf_l {l : List ST} (h : ∀ x ∈ l, nfX x) : nfX (.mk false [] l) := by
  rw [nfX_mk]
  exact ⟨(fun h => nomatch h), fun _ => rfl, nfXs_all h⟩
theorem wdAll {l : List ST} (h : wdXs l = true) : ∀ s ∈ l, wdX s = true := by
  induction l with
  | nil => intro s hs; cases hs
  | cons x r ih =>
    rw [wdXs, Bool.and_eq_true] at h
    intro s hs
    rcases List.mem_cons.1 hs with rfl | hs
    · exact h.1
    · exact ih h.2 s hs
theorem cXs_tk : ∀ (l : List ST) (j : Nat) (h : j < l.length), cXs (l.take (j + 1)) = cXs (l.take j) + cX l[j] ∧ cXs (l.take (j + 1)) ≤ cXs l
  | s :: r, 0, h => by simp only [List.take_succ_cons, List.take_zero, List.getElem_cons_zero]; rw [cXs_cons, cXs_cons, cXs_nil]; omega
  | s :: r, j + 1, h => by
    obtain ⟨h1, h2⟩ := cXs_tk r j (by simpa using h)
    rw [List.take_succ_cons, List.take_succ_cons, List.getElem_cons_succ, cXs_cons, cXs_cons, cXs_cons]
    omega
/-- A piece of a text. -/
structure TK where
  k : UInt8
  p : Nat
  w : List UInt8
def nlB (c : UInt8) : Bool := !decide (c.toNat = 10)
def tokX : Nat → List UInt8 → Nat → List TK
  | 0, _, p => [⟨46, p, []⟩]
  | _ + 1, [], p => [⟨46, p, []⟩]
  | f + 1, c :: r, p =>
    if blk8 c = true then tokX f r (p + 1)
    else if c.toNat = 59 then tokX f (r.dropWhile nlB) (p + 1 + (r.takeWhile nlB).length)
    else if c.toNat = 40 ∨ c.toNat = 41 then ⟨c, p, []⟩ :: tokX f r (p + 1)
    else if plainB c = true then ⟨119, p, (c :: r).takeWhile plainB⟩ :: tokX f ((c :: r).dropWhile plainB) (p + ((c :: r).takeWhile plainB).length)
    else [⟨33, p, []⟩]
/-- The first fault of these, so many brackets open, so many nodes seen. -/
def faX : List TK → Nat → Int → Int × Int
  | [], _, _ => (0, 0)
  | t :: r, o, n =>
    if t.k.toNat = 33 then (if 100000 < n + 1 then (t.p, 2) else (t.p, 3))
    else if t.k.toNat = 46 then (if 0 < o then (t.p, 3) else faX r o n)
    else if t.k.toNat = 41 then (if o = 0 then (t.p, 3) else faX r (o - 1) n)
    else if 100000 < n + 1 ∨ (t.k.toNat = 40 ∧ o = 200) then (t.p, 2)
    else faX r (if t.k.toNat = 40 then o + 1 else o) (n + 1)
theorem skX_true : ∀ r : List UInt8, skX true r = skX false (r.dropWhile nlB)
  | [] => by rw [skX, List.dropWhile_nil, skX]
  | c :: r => by
    by_cases h : c.toNat = 10
    · rw [skX_nl h, List.dropWhile_cons, if_neg (by unfold nlB; simp [h])]
    · rw [skX_in h, List.dropWhile_cons, if_pos (by unfold nlB; simp [h])]
      exact skX_true r
theorem drop_len (q : UInt8 → Bool) (l : List UInt8) : (l.dropWhile q).length ≤ l.length := (List.dropWhile_sublist q).length_le
theorem tok_sk : ∀ (g : Nat) (s : List UInt8) (p : Nat), s.length < g → ∃ g' p', (skX false s).length < g' ∧ tokX g s p = tokX g' (skX false s) p'
  | 0, s, p, h => absurd h (Nat.not_lt_zero _)
  | g + 1, [], p, h => ⟨g + 1, p, by rw [skX]; simp, by rw [skX]⟩
  | g + 1, c :: r, p, h => by
    rw [List.length_cons] at h
    by_cases h1 : blk8 c = true
    · obtain ⟨g', p', e1, e2⟩ := tok_sk g r (p + 1) (by omega)
      have e : skX false (c :: r) = skX false r := by rw [skX]; exact if_pos h1
      refine ⟨g', p', by rw [e]; exact e1, ?_⟩
      rw [tokX, if_pos h1, e, e2]
    by_cases h2 : c.toNat = 59
    · have h3 := drop_len nlB r
      obtain ⟨g', p', e1, e2⟩ := tok_sk g (r.dropWhile nlB) (p + 1 + (r.takeWhile nlB).length) (by omega)
      have e : skX false (c :: r) = skX false (r.dropWhile nlB) := by
        rw [skX, if_neg h1, if_pos h2, skX_true]
      refine ⟨g', p', by rw [e]; exact e1, ?_⟩
      rw [tokX, if_neg h1, if_pos h2, e, e2]
    · have e : skX false (c :: r) = c :: r := by rw [skX, if_neg h1, if_neg h2]
      exact ⟨g + 1, p, by rw [e, List.length_cons]; omega, by rw [e]⟩
theorem skX_head : ∀ (b : Bool) (s : List UInt8) {c : UInt8} {r : List UInt8}, skX b s = c :: r → ¬ blk8 c = true ∧ c.toNat ≠ 59
  | b, [], c, r, h => by cases b <;> (rw [skX] at h; cases h)
  | false, d :: s, c, r, h => by
    rw [skX] at h
    split at h
    · exact skX_head false s h
    · rename_i h1
      split at h
      · exact skX_head true s h
      · rename_i h2
        cases h
        exact ⟨h1, h2⟩
  | true, d :: s, c, r, h => by
    rw [skX] at h
    split at h
    · exact skX_head false s h
    · exact skX_head true s h
theorem tokX_cons {g p : Nat} {c : UInt8} {r : List UInt8} (h1 : ¬ blk8 c = true) (h2 : c.toNat ≠ 59) : tokX (g + 1) (c :: r) p = if c.toNat = 40 ∨ c.toNat = 41 then ⟨c, p, []⟩ :: tokX g r (p + 1) else if plainB c = true then ⟨119, p, (c :: r).takeWhile plainB⟩ :: tokX g ((c :: r).dropWhile plainB) (p + ((c :: r).takeWhile plainB).length) else [⟨33, p, []⟩] := by
  rw [tokX, if_neg h1, if_neg h2]
/-- What the reader makes of the rest and what the pieces say of it. -/
def fpR (d : Nat) (s : List UInt8) (F : Int × Int) : PX → Prop
  | .bad e _ => F.2 = e ∧ e ≠ 0
  | .ok _ rest m => if d = 0 then F.2 = 0 else rest.length < s.length ∧ ∃ g' p', rest.length < g' ∧ F = faX (tokX g' rest p') (d - 1) m
theorem fault_parse : ∀ (f d : Nat) (s : List UInt8) (n : Int) (g p : Nat), s.length < f → s.length < g → fpR d s (faX (tokX g s p) d n) (parseX f d s n)
  | 0, d, s, n, g, p, h, _ => absurd h (Nat.not_lt_zero _)
  | f + 1, d, s, n, g, p, h, hg => by
    obtain ⟨g', p', e1, e2⟩ := tok_sk g s p hg
    have hsk := skX_len false s
    rw [e2, parseX]
    cases hs : skX false s with
    | nil =>
      dsimp only
      obtain ⟨g1, rfl⟩ : ∃ g1, g' = g1 + 1 := ⟨g' - 1, by omega⟩
      rw [tokX, faX, if_neg (show ¬(46 : UInt8).toNat = 33 by decide), if_pos (show (46 : UInt8).toNat = 46 from rfl)]
      by_cases k0 : 0 < d
      · rw [if_pos k0, if_pos k0]; exact ⟨rfl, by decide⟩
      · rw [if_neg k0, if_neg k0, faX, fpR, if_pos (by omega)]
    | cons c r =>
      dsimp only
      obtain ⟨b1, b2⟩ := skX_head false s hs
      rw [hs] at e1 hsk
      rw [List.length_cons] at e1 hsk
      obtain ⟨g1, rfl⟩ : ∃ g1, g' = g1 + 1 := ⟨g' - 1, by omega⟩
      rw [tokX_cons b1 b2]
      by_cases k1 : c.toNat = 41
      · rw [if_pos k1, if_pos (.inr k1), faX, if_neg (by dsimp only; omega), if_neg (by dsimp only; omega), if_pos k1]
        by_cases k2 : d = 0
        · rw [if_pos k2, if_pos k2]; exact ⟨rfl, by decide⟩
        · rw [if_neg k2, if_neg k2, fpR, if_neg k2]
          exact ⟨by omega, g1, p' + 1, by omega, rfl⟩
      rw [if_neg k1]
      by_cases k4 : c.toNat = 40
      · rw [if_pos (.inl k4), faX, if_neg (by dsimp only; omega), if_neg (by dsimp only; omega), if_neg k1]
        by_cases k3 : 100000 < n + 1 ∨ (c.toNat = 40 ∧ d = 200)
        · rw [if_pos k3, if_pos k3]; exact ⟨rfl, by decide⟩
        rw [if_neg k3, if_neg k3, if_pos k4, if_pos k4]
        have h2 := fault_parse f (d + 1) r (n + 1) g1 (p' + 1) (by omega) (by omega)
        cases hX : parseX f (d + 1) r (n + 1) with
        | bad e left => rw [hX] at h2; exact h2
        | ok sub r2 n2 =>
          rw [hX, fpR, if_neg (Nat.succ_ne_zero d)] at h2
          obtain ⟨l2, g2, p2, q1, q2⟩ := h2
          rw [q2, Nat.add_sub_cancel]
          have h3 := fault_parse f d r2 n2 g2 p2 (by omega) q1
          show fpR d s _ (PX.cons (.mk false [] sub) (parseX f d r2 n2))
          cases hY : parseX f d r2 n2 with
          | bad e left => rw [hY] at h3; exact h3
          | ok out r3 n3 =>
            rw [hY, fpR] at h3
            show fpR d s _ (.ok _ r3 n3)
            rw [fpR]
            split at h3
            · rename_i hd; rw [if_pos hd]; exact h3
            · rename_i hd; rw [if_neg hd]; exact ⟨by omega, h3.2⟩
      rw [if_neg (by omega), if_neg k4]
      by_cases k5 : plainB c = true
      · rw [if_pos k5, if_pos k5, faX, if_neg (show ¬(119 : UInt8).toNat = 33 by decide), if_neg (show ¬(119 : UInt8).toNat = 46 by decide), if_neg (show ¬(119 : UInt8).toNat = 41 by decide)]
        by_cases k3 : 100000 < n + 1
        · rw [if_pos (.inl k3), if_pos (.inl k3)]; exact ⟨rfl, by decide⟩
        rw [if_neg (show ¬(100000 < n + 1 ∨ ((119 : UInt8).toNat = 40 ∧ d = 200)) from fun h => h.elim k3 fun h => absurd h.1 (by decide)), if_neg (show ¬(100000 < n + 1 ∨ (c.toNat = 40 ∧ d = 200)) from fun h => h.elim k3 fun h => k4 h.1), if_neg (show ¬(119 : UInt8).toNat = 40 by decide)]
        have hdl := dw_len r
        rw [dw_pl k5]
        have h3 := fault_parse f d (r.dropWhile plainB) (n + 1) g1 (p' + ((c :: r).takeWhile plainB).length) (by omega) (by omega)
        show fpR d s _ (PX.cons (.mk true _ []) (parseX f d (r.dropWhile plainB) (n + 1)))
        cases hY : parseX f d (r.dropWhile plainB) (n + 1) with
        | bad e left => rw [hY] at h3; exact h3
        | ok out r3 n3 =>
          rw [hY, fpR] at h3
          show fpR d s _ (.ok _ r3 n3)
          rw [fpR]
          split at h3
          · rename_i hd; rw [if_pos hd]; exact h3
          · rename_i hd; rw [if_neg hd]; exact ⟨by omega, h3.2⟩
      · rw [if_neg k5, if_neg k5, faX, if_pos (show (33 : UInt8).toNat = 33 from rfl)]
        by_cases k3 : 100000 < n + 1
        · rw [if_pos (show 100000 < n + 1 ∨ (c.toNat = 40 ∧ d = 200) from .inl k3), if_pos k3]; exact ⟨rfl, by decide⟩
        · rw [if_neg (show ¬(100000 < n + 1 ∨ (c.toNat = 40 ∧ d = 200)) from fun h => h.elim k3 fun h => k4 h.1), if_neg k3]; exact ⟨rfl, by decide⟩
/-- The fault of a text. -/
def fauX (src : List UInt8) : Int × Int := if 1000000 < src.length then (0, 2) else faX (tokX (src.length + 1) src 0) 0 0
/-- Words have no parts, lists no word. -/
theorem parseX_nf : ∀ (f d : Nat) (s : List UInt8) (n : Int) {out : List ST} {rest : List UInt8} {m : Int}, parseX f d s n = .ok out rest m → nfXs out
  | 0, d, s, n, out, rest, m, h => by rw [parseX] at h; cases h
  | f + 1, d, s, n, out, rest, m, h => by
    rw [parseX] at h
    split at h
    · split at h
      · cases h
      · cases h; rw [nfXs]; trivial
    · split at h
      · split at h
        · cases h
        · cases h; rw [nfXs]; trivial
      · split at h
        · cases h
        · split at h
          · cases hX : parseX f (d + 1) _ (n + 1) with
            | bad e left => rw [hX] at h; cases h
            | ok sub r2 n2 =>
              rw [hX] at h
              have h : PX.cons (.mk false [] sub) (parseX f d r2 n2) = .ok out rest m := h
              cases hY : parseX f d r2 n2 with
              | bad e left => rw [hY] at h; cases h
              | ok o2 r3 n3 =>
                rw [hY] at h
                cases h
                rw [nfXs, nfX_mk]
                exact ⟨⟨(fun h => nomatch h), fun _ => rfl, parseX_nf f _ _ _ hX⟩, parseX_nf f _ _ _ hY⟩
          · split at h
            · rename_i c r _ _ _ _ _
              cases hY : parseX f d ((c :: r).dropWhile plainB) (n + 1) with
              | bad e left => rw [hY] at h; cases h
              | ok o2 r3 n3 =>
                rw [hY] at h
                cases h
                rw [nfXs, nfX_mk, nfXs]
                exact ⟨⟨fun _ => rfl, fun h => (nomatch h), trivial⟩, parseX_nf f _ _ _ hY⟩
            · cases h
def npX : List UInt8 → Prop
  | [] => True
  | c :: _ => ¬ plainB c = true
theorem np_dw : ∀ r : List UInt8, npX (r.dropWhile plainB)
  | [] => trivial
  | c :: r => by
    rw [List.dropWhile_cons]
    split
    · exact np_dw r
    · rename_i h; exact h
theorem tw_dw (q : UInt8 → Bool) (l : List UInt8) : (l.takeWhile q).length + (l.dropWhile q).length = l.length := by
  rw [← List.length_append, List.takeWhile_append_dropWhile]
/-- A text holds no more nodes and letters than this. -/
def cwR (d : Nat) (s : List UInt8) : PX → Prop
  | .bad _ _ => True
  | .ok out rest _ => cXs out + wXs out + 2 * rest.length + (if d = 0 then 0 else 2) ≤ 2 * s.length + 1 ∧ (npX s → cXs out + wXs out + 2 * rest.length + (if d = 0 then 0 else 2) ≤ 2 * s.length)
theorem parseX_cw : ∀ (f d : Nat) (s : List UInt8) (n : Int), cwR d s (parseX f d s n)
  | 0, d, s, n => trivial
  | f + 1, d, s, n => by
    have hsk := skX_len false s
    -- the rest behind the blanks
    have key : ∀ X : PX, cwR d (skX false s) X → ((skX false s).length < s.length ∨ skX false s = s) → cwR d s X := by
      intro X hX hl
      cases X with
      | bad e left => trivial
      | ok out rest m =>
        obtain ⟨h1, h2⟩ := hX
        rcases hl with hl | hl
        · exact ⟨by omega, fun _ => by omega⟩
        · rw [hl] at h1 h2; exact ⟨h1, h2⟩
    have hl : (skX false s).length < s.length ∨ skX false s = s := by
      cases s with
      | nil => exact .inr (by rw [skX])
      | cons c r =>
        rw [skX]
        split
        · have := skX_len false r; exact .inl (by rw [List.length_cons]; omega)
        · split
          · have := skX_len true r; exact .inl (by rw [List.length_cons]; omega)
          · exact .inr rfl
    refine key _ ?_ hl
    rw [parseX]
    cases skX false s with
    | nil =>
      dsimp only
      by_cases k0 : 0 < d
      · rw [if_pos k0]; trivial
      · rw [if_neg k0, cwR, if_pos (by omega), cXs_nil, wXs_nil]; exact ⟨by simp, fun _ => by simp⟩
    | cons c r =>
      dsimp only
      by_cases k1 : c.toNat = 41
      · rw [if_pos k1]
        by_cases k2 : d = 0
        · rw [if_pos k2]; trivial
        · rw [if_neg k2, cwR, if_neg k2, cXs_nil, wXs_nil, List.length_cons]; exact ⟨by omega, fun _ => by omega⟩
      rw [if_neg k1]
      by_cases k3 : 100000 < n + 1 ∨ (c.toNat = 40 ∧ d = 200)
      · rw [if_pos k3]; trivial
      rw [if_neg k3]
      by_cases k4 : c.toNat = 40
      · rw [if_pos k4]
        have h2 := parseX_cw f (d + 1) r (n + 1)
        cases hX : parseX f (d + 1) r (n + 1) with
        | bad e left => trivial
        | ok sub r2 n2 =>
          rw [hX, cwR, if_neg (Nat.succ_ne_zero d)] at h2
          have h3 := parseX_cw f d r2 n2
          show cwR d _ (PX.cons (.mk false [] sub) (parseX f d r2 n2))
          cases hY : parseX f d r2 n2 with
          | bad e left => trivial
          | ok out r3 n3 =>
            rw [hY, cwR] at h3
            show cwR d _ (.ok (.mk false [] sub :: out) r3 n3)
            rw [cwR, cXs_cons, wXs_cons, cX_mk, wX_mk, List.length_cons, List.length_nil]
            have e1 := h2.1
            have e2 := h3.1
            generalize (if d = 0 then 0 else 2) = k at *
            exact ⟨by omega, fun _ => by omega⟩
      rw [if_neg k4]
      by_cases k5 : plainB c = true
      · rw [if_pos k5]
        have h3 := parseX_cw f d ((c :: r).dropWhile plainB) (n + 1)
        have hnp : npX ((c :: r).dropWhile plainB) := np_dw _
        have htw := tw_dw plainB (c :: r)
        have ht1 : 1 ≤ ((c :: r).takeWhile plainB).length := by rw [List.takeWhile_cons, if_pos k5, List.length_cons]; omega
        cases hY : parseX f d ((c :: r).dropWhile plainB) (n + 1) with
        | bad e left => trivial
        | ok out r3 n3 =>
          rw [hY, cwR] at h3
          show cwR d _ (.ok (.mk true ((c :: r).takeWhile plainB) [] :: out) r3 n3)
          rw [cwR, cXs_cons, wXs_cons, cX_mk, wX_mk, cXs_nil, wXs_nil]
          have e2 := h3.2 hnp
          generalize (if d = 0 then 0 else 2) = k at *
          exact ⟨by omega, fun h => absurd k5 h⟩
      · rw [if_neg k5]; trivial
/-- What is printed is read back. -/
theorem all_parse {l : List ST} (hn : ∀ s ∈ l, nfX s) (hc : chX l = 0) : ∃ m, parseX ((allX l).length + 1) 0 (allX l) 0 = .ok l [] m := by
  unfold chX at hc
  split at hc
  · rename_i h1
    split at hc
    · rename_i h2
      exact ⟨_, parse_all l hn (wdAll h2) _ 0 (Nat.lt_succ_self _) h1⟩
    · cases hc
  · cases hc
end Go.Proofs.YtbbpecfapohlaaaGreatDoor
