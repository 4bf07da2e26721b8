/-
 The text of a network reads back: plain law.
-/
import Derived.Test.YthdkkpocihkgbaaGreatDoorNuB
import Derived.Test.YthdkkpocihkgbaaGreatDoorNuD
import Derived.Test.YthdkkpocihkgbaaGreatDoorKy
namespace Go.Proofs.YthdkkpocihkgbaaGreatDoor
open Go.RowKit
attribute [local irreducible] AC Do St
/-- Words, a space before each. -/
def spW (ws : List (List UInt8)) : List UInt8 := ws.flatMap fun w => 32 :: w
def rowY (p : List Rat × Rat) : List UInt8 := bRow ++ spW ((p.1 ++ [p.2]).map printL)
def ofY (g : List Int) : List UInt8 := bOf ++ spW (g.map Lib.itoa)
/-- The lines of a layer. -/
def layY (l : LN) : List (List UInt8) := if l.kind = 1 then bAff :: (l.W.zip l.B).map rowY else if l.kind = 2 then [bRel] else bMax :: l.G.map ofY
def unl (ls : List (List UInt8)) : List UInt8 := ls.flatMap fun y => y ++ [10]
/-- The text of a network. -/
def netY (n : Int) (ls : List LN) : List UInt8 := unl ((bNet ++ spW [Lib.itoa n]) :: ls.flatMap layY)
/-- What a layer's text tells. -/
def nrm (l : LN) : LN := if l.kind = 1 then ⟨1, l.W, l.B, []⟩ else if l.kind = 2 then ⟨2, [], [], []⟩ else ⟨3, [], [], l.G⟩
def okY (l : LN) : Prop := (l.kind = 1 ∧ l.B.length = l.W.length) ∨ l.kind = 2 ∨ (l.kind = 3 ∧ ∀ g ∈ l.G, ∀ v ∈ g, 0 ≤ v ∧ v < 32)
theorem linesGo_line : ∀ (a cur t : List UInt8), 10 ∉ a → linesGo cur (a ++ 10 :: t) = (cur ++ a) :: linesGo [] t
 | [], cur, t, _ => by
  show linesGo cur (10 :: t) = _
  rw [linesGo, if_pos rfl, List.append_nil]
 | c :: a, cur, t, h => by
  have h1 : c ≠ 10 := fun e => h (by rw [e]; exact List.mem_cons_self ..)
  show linesGo cur (c :: (a ++ 10 :: t)) = _
  rw [linesGo, if_neg h1, linesGo_line a _ t fun h2 => h (List.mem_cons_of_mem _ h2), List.append_assoc]
  rfl
theorem lines_unl : ∀ (ls : List (List UInt8)), (∀ y ∈ ls, 10 ∉ y) → linesN (unl ls) = ls ++ [[]]
 | [], _ => rfl
 | y :: r, h => by
  have e : unl (y :: r) = y ++ 10 :: unl r := by simp [unl]
  rw [e]
  unfold linesN
  rw [linesGo_line y [] _ (h y (List.mem_cons_self ..))]
  have := lines_unl r fun z hz => h z (List.mem_cons_of_mem _ hz)
  unfold linesN at this
  rw [this]
  rfl
theorem wordsGo_sp {cur t : List UInt8} (hc : cur ≠ []) : wordsGo cur (32 :: t) = cur :: wordsGo [] t := by
 rw [wordsGo, if_pos (by decide), if_neg hc]
theorem words_spW : ∀ (ws : List (List UInt8)) (cur : List UInt8), cur ≠ [] → (∀ w ∈ ws, w ≠ [] ∧ ∀ c ∈ w, spa8 c = false) → wordsGo cur (spW ws) = cur :: ws
 | [], cur, hc, _ => by
  show wordsGo cur [] = _
  rw [wordsGo, if_neg hc]
 | w :: r, cur, hc, h => by
  have hw := h w (List.mem_cons_self ..)
  have e : spW (w :: r) = 32 :: (w ++ spW r) := rfl
  rw [e, wordsGo_sp hc, wordsGo_skip w [] _ hw.2, List.nil_append, words_spW r w hw.1 fun x hx => h x (List.mem_cons_of_mem _ hx)]
theorem words_line {h : List UInt8} {ws : List (List UInt8)} (h0 : h ≠ []) (h1 : ∀ c ∈ h, spa8 c = false) (h2 : ∀ w ∈ ws, w ≠ [] ∧ ∀ c ∈ w, spa8 c = false) : wordsN (h ++ spW ws) = h :: ws := by
 unfold wordsN
 rw [wordsGo_skip h [] _ h1, List.nil_append, words_spW ws h h0 h2]
theorem spa_dig {c : UInt8} (h : DigC c) : spa8 c = false := by
 have : ∀ n : Fin 256, 48 ≤ n.val → n.val ≤ 57 → spaR n.val = false := by decide +kernel
 exact this ⟨c.toNat, c.toNat_lt⟩ h.1 h.2
theorem printL_sp (q : Rat) : printL q ≠ [] ∧ ∀ c ∈ printL q, spa8 c = false := by
 refine ⟨printL_ne q, fun c hc => ?_⟩
 by_cases hd : DigC c
 ·exact spa_dig hd
 ·by_cases h1 : c = 45
  ·subst h1; decide
  ·by_cases h2 : c = 47
   ·subst h2; decide
   ·exact absurd hc (printL_no q hd h1 h2)
theorem no46 : ¬ DigC 46 := by unfold DigC; decide
theorem no10 : ¬ DigC 10 := by unfold DigC; decide
theorem itoa_sp (n : Int) : Lib.itoa n ≠ [] ∧ ∀ c ∈ Lib.itoa n, spa8 c = false := by
 refine ⟨fun e => ?_, fun c hc => ?_⟩
 ·unfold Lib.itoa at e
  split at e
  ·cases e
  ·exact decD_ne _ e
 ·by_cases hd : DigC c
  ·exact spa_dig hd
  ·by_cases h1 : c = 45
   ·subst h1; decide
   ·exact absurd hc (itoa_no n hd h1)
theorem readN_text (n : Nat) : readN (textL n) = some n := by
 unfold readN
 rw [if_pos ⟨textL_ne n, textL_dig n⟩, textL_val]
theorem take_app {α : Type} (a b : List α) (c : α) : (a ++ c :: b).take a.length = a ∧ (a ++ c :: b).drop (a.length + 1) = b ∧ (a ++ c :: b)[a.length]? = some c := by
 refine ⟨by simp, ?_, by simp⟩
 rw [List.drop_append]
 simp
theorem mk_back (q : Rat) (neg : Bool) (hn : neg = decide (q.num < 0)) : mkRat (sgn neg q.num.natAbs) q.den = q := by
 have e : sgn neg q.num.natAbs = q.num := by
  subst hn
  exact sgn_neg q.num
 rw [e]
 exact Rat.mkRat_self q
theorem parseM_print (q : Rat) (neg : Bool) (hn : neg = decide (q.num < 0)) : parseM neg (textL q.num.natAbs ++ (if q.den = 1 then [] else 47 :: textL q.den)) = some q := by
 have hb := mk_back q neg hn
 by_cases hd : q.den = 1
 ·rw [if_pos hd, List.append_nil, pM_plain (index_no (textL_no _ no47)) (index_no (textL_no _ no46))]
  unfold ratN
  rw [readN_text]
  rw [hd] at hb
  exact congrArg some hb
 ·rw [if_neg hd]
  obtain ⟨e1, e2, e3⟩ := take_app (textL q.num.natAbs) (textL q.den) 47
  rw [pM_bar (i := (textL q.num.natAbs).length) (index_at e3 (by rw [e1]; exact textL_no _ no47)), e1, e2, readN_text]
  dsimp only
  unfold ratN
  rw [readN_text]
  dsimp only
  rw [if_neg q.den_nz, hb]
theorem parseR_print (q : Rat) : parseR (printL q) = some q := by
 unfold printL
 by_cases h : q.num < 0
 ·rw [if_pos h]
  show parseR (45 :: _) = _
  rw [parseR_cons, if_pos rfl]
  exact parseM_print q true (by simp [h])
 ·rw [if_neg h, List.nil_append]
  have hp := parseM_print q false (by simp [h])
  have hne := textL_ne q.num.natAbs
  have hno := textL_no q.num.natAbs no45
  generalize textL q.num.natAbs = m at hp hne hno
  match m, hne, hno with
  | c :: t, _, hno =>
   rw [List.cons_append] at hp ⊢
   rw [parseR_cons, if_neg (fun e => hno (by rw [e]; exact List.mem_cons_self ..))]
   exact hp
theorem ratsW_print : ∀ (l : List Rat), ratsW (l.map printL) = some l
 | [] => rfl
 | q :: r => by
  show ratsW (printL q :: r.map printL) = _
  unfold ratsW
  rw [parseR_print, ratsW_print r]
theorem itoa_nat (n : Nat) : Lib.itoa (n : Int) = Lib.decDigits n := by
 unfold Lib.itoa
 rw [if_neg (by omega)]
 rfl
theorem cntN_small (n : Nat) (h : n < 100) : cntN (Lib.itoa (n : Int)) = some n := by
 have : ∀ n : Fin 100, (Lib.itoa (n.val : Int)).length ≤ 6 := by decide +kernel
 have hl := this ⟨n, h⟩
 dsimp only at hl
 unfold cntN
 rw [if_pos ⟨hl, by rw [itoa_nat]; exact decD_dig n⟩, itoa_nat, decD_val]
theorem cntsW_print : ∀ (g : List Int), (∀ v ∈ g, 0 ≤ v ∧ v < 32) → cntsW (g.map Lib.itoa) = some g
 | [], _ => rfl
 | v :: r, h => by
  obtain ⟨h1, h2⟩ := h v (List.mem_cons_self ..)
  obtain ⟨n, rfl⟩ := Int.eq_ofNat_of_zero_le h1
  show cntsW (Lib.itoa (n : Int) :: r.map Lib.itoa) = _
  unfold cntsW
  rw [cntN_small n (by omega), cntsW_print r fun x hx => h x (List.mem_cons_of_mem _ hx)]
theorem pg_line {y h : List UInt8} {t r : List (List UInt8)} {i : Nat} {s s' : NS} {f : Bool} (hw : wordsN y = h :: t) (hh : h.head? ≠ some 35) (hl : lineS s h t f = some s') : parseGo i s f (y :: r) = parseGo (i + 1) s' false r := by
 rw [parseGo, hw]
 dsimp only
 rw [if_neg hh, hl]
theorem pg_rows (n : Int) (A : List LN) (G : List (List Int)) (r : List (List UInt8)) : ∀ (P : List (List Rat × Rat)) (i : Nat) (W : List (List Rat)) (B : List Rat), ∃ j, parseGo i ⟨n, A, some ⟨1, W, B, G⟩⟩ false (P.map rowY ++ r) = parseGo j ⟨n, A, some ⟨1, W ++ P.map (·.1), B ++ P.map (·.2), G⟩⟩ false r
 | [], i, W, B => ⟨i, by simp⟩
 | p :: P, i, W, B => by
  obtain ⟨j, hj⟩ := pg_rows n A G r P (i + 1) (W ++ [p.1]) (B ++ [p.2])
  refine ⟨j, ?_⟩
  have hw : wordsN (rowY p) = bRow :: (p.1 ++ [p.2]).map printL := words_line (by decide) (by decide) fun w hw => by
   obtain ⟨q, _, rfl⟩ := List.mem_map.1 hw
   exact printL_sp q
  have hl : lineS ⟨n, A, some ⟨1, W, B, G⟩⟩ bRow ((p.1 ++ [p.2]).map printL) false = some ⟨n, A, some ⟨1, W ++ [p.1], B ++ [p.2], G⟩⟩ := by
   unfold lineS
   rw [if_neg (by decide), show kindOf bRow = none from by decide]
   dsimp only
   rw [if_pos rfl, if_pos rfl, ratsW_print]
   simp
  show parseGo i _ false (rowY p :: (P.map rowY ++ r)) = _
  rw [pg_line hw (by decide) hl, hj]
  simp
theorem pg_ofs (n : Int) (A : List LN) (W : List (List Rat)) (B : List Rat) (r : List (List UInt8)) : ∀ (P : List (List Int)) (_ : ∀ g ∈ P, ∀ v ∈ g, 0 ≤ v ∧ v < 32) (i : Nat) (G : List (List Int)), ∃ j, parseGo i ⟨n, A, some ⟨3, W, B, G⟩⟩ false (P.map ofY ++ r) = parseGo j ⟨n, A, some ⟨3, W, B, G ++ P⟩⟩ false r
 | [], _, i, G => ⟨i, by simp⟩
 | g :: P, h, i, G => by
  obtain ⟨j, hj⟩ := pg_ofs n A W B r P (fun x hx => h x (List.mem_cons_of_mem _ hx)) (i + 1) (G ++ [g])
  refine ⟨j, ?_⟩
  have hw : wordsN (ofY g) = bOf :: g.map Lib.itoa := words_line (by decide) (by decide) fun w hw => by
   obtain ⟨q, _, rfl⟩ := List.mem_map.1 hw
   exact itoa_sp q
  have hl : lineS ⟨n, A, some ⟨3, W, B, G⟩⟩ bOf (g.map Lib.itoa) false = some ⟨n, A, some ⟨3, W, B, G ++ [g]⟩⟩ := by
   unfold lineS
   rw [if_neg (by decide), show kindOf bOf = none from by decide]
   dsimp only
   rw [if_neg (by decide), if_pos rfl, if_pos rfl, cntsW_print g (h g (List.mem_cons_self ..))]
  show parseGo i _ false (ofY g :: (P.map ofY ++ r)) = _
  rw [pg_line hw (by decide) hl, hj]
  simp
theorem zip_fst {α β : Type} : ∀ (a : List α) (b : List β), b.length = a.length → (a.zip b).map (·.1) = a ∧ (a.zip b).map (·.2) = b
 | [], [], _ => ⟨rfl, rfl⟩
 | x :: a, y :: b, h => by
  obtain ⟨h1, h2⟩ := zip_fst a b (by simpa using h)
  exact ⟨by simp [h1], by simp [h2]⟩
 | [], _ :: _, h => by simp at h
 | _ :: _, [], h => by simp at h
theorem kind_line {s : NS} {h : List UInt8} {k : Int} (h1 : h ≠ bNet) (h2 : kindOf h = some k) : lineS s h [] false = some ⟨s.inn, s.all, some ⟨k, [], [], []⟩⟩ := by
 unfold lineS
 rw [if_neg h1, h2]
 exact if_pos ⟨rfl, rfl⟩
theorem head_words {h : List UInt8} (h0 : h ≠ []) (h1 : ∀ c ∈ h, spa8 c = false) : wordsN h = [h] := by
 have := words_line (h := h) (ws := []) h0 h1 (fun w hw => nomatch hw)
 rwa [show spW [] = [] from rfl, List.append_nil] at this
theorem pg_lay (l : LN) (hl : okY l) (r : List (List UInt8)) (i : Nat) (s : NS) : ∃ j, parseGo i s false (layY l ++ r) = parseGo j ⟨s.inn, s.all, some (nrm l)⟩ false r := by
 obtain ⟨k, W, B, G⟩ := l
 rcases hl with ⟨hk, hB⟩ | hk | ⟨hk, hG⟩ <;> dsimp only at hk <;> subst hk
 ·obtain ⟨j, hj⟩ := pg_rows s.inn s.all [] r (W.zip B) (i + 1) [] []
  obtain ⟨z1, z2⟩ := zip_fst W B hB
  rw [z1, z2] at hj
  refine ⟨j, ?_⟩
  show parseGo i s false (bAff :: ((W.zip B).map rowY ++ r)) = _
  rw [pg_line (head_words (by decide) (by decide)) (by decide) (kind_line (k := 1) (by decide) (by decide)), hj]
  rfl
 ·refine ⟨i + 1, ?_⟩
  show parseGo i s false (bRel :: r) = _
  rw [pg_line (head_words (by decide) (by decide)) (by decide) (kind_line (k := 2) (by decide) (by decide))]
  rfl
 ·obtain ⟨j, hj⟩ := pg_ofs s.inn s.all [] [] r G hG (i + 1) []
  refine ⟨j, ?_⟩
  show parseGo i s false (bMax :: (G.map ofY ++ r)) = _
  rw [pg_line (head_words (by decide) (by decide)) (by decide) (kind_line (k := 3) (by decide) (by decide)), hj]
  rfl
theorem pg_all : ∀ (ls : List LN) (_ : ∀ l ∈ ls, okY l) (i : Nat) (s : NS), ∃ s', parseGo i s false (ls.flatMap layY ++ [[]]) = .inl s' ∧ s'.inn = s.inn ∧ s'.all = s.all ++ ls.map nrm
 | [], _, i, s => ⟨s, by
   show parseGo i s false [[]] = _
   rw [parseGo]
   rfl, rfl, by simp⟩
 | l :: ls, h, i, s => by
  obtain ⟨j, hj⟩ := pg_lay l (h l (List.mem_cons_self ..)) (ls.flatMap layY ++ [[]]) i s
  obtain ⟨s', h1, h2, h3⟩ := pg_all ls (fun x hx => h x (List.mem_cons_of_mem _ hx)) j ⟨s.inn, s.all, some (nrm l)⟩
  refine ⟨s', ?_, h2, ?_⟩
  ·rw [List.flatMap_cons, List.append_assoc, hj, h1]
  ·rw [h3]
   simp [NS.all]
theorem wid_ok {l : LN} {w : Int} (h : 0 < widN l w) (hb : bigL l = false) (hw : w ≤ 32) : okY l ∧ widN l w ≤ 32 := by
 obtain ⟨k, W, B, G⟩ := l
 unfold widN at h ⊢
 unfold bigL at hb
 unfold okY
 dsimp only at h hb ⊢
 by_cases h1 : k = 1
 ·subst h1
  rw [if_pos rfl] at h ⊢
  simp only [decide_true, Bool.true_and, Bool.or_eq_false_iff, decide_eq_false_iff_not] at hb
  split at h
  ·omega
  ·rename_i h2
   rw [if_neg h2]
   simp only [Bool.or_eq_true, decide_eq_true_eq, not_or, ne_eq, Decidable.not_not] at h2
   exact ⟨.inl ⟨rfl, h2.1⟩, by omega⟩
 ·rw [if_neg h1] at h ⊢
  by_cases h2 : k = 2
  ·rw [if_pos h2] at h ⊢
   exact ⟨.inr (.inl h2), hw⟩
  ·rw [if_neg h2] at h ⊢
   by_cases h3 : k = 3
   ·subst h3
    rw [if_pos rfl] at h ⊢
    simp only [decide_true, Bool.true_and, Bool.or_eq_false_iff, decide_eq_false_iff_not] at hb
    split at h
    ·omega
    ·rename_i h4
     rw [if_neg h4]
     refine ⟨.inr (.inr ⟨rfl, fun g hg v hv => ?_⟩), by omega⟩
     have h5 : badG w g = false := by
      cases h6 : badG w g with
      | false => rfl
      | true => exact absurd (List.any_eq_true.2 ⟨g, hg, h6⟩) h4
     unfold badG at h5
     rw [Bool.or_eq_false_iff] at h5
     have h7 := List.any_eq_false.1 h5.2 v hv
     simp at h7
     omega
   ·rw [if_neg h3] at h
    omega
theorem fold_neg : ∀ (ls : List LN) (w : Int), w ≤ 0 → ls.foldl stW w ≤ 0
 | [], w, h => h
 | l :: r, w, h => by
  show r.foldl stW (stW w l) ≤ 0
  refine fold_neg r _ ?_
  unfold stW
  rw [if_neg (by omega)]
  exact h
theorem fold_ok : ∀ (ls : List LN) (w : Int), w ≤ 32 → (∀ l ∈ ls, bigL l = false) → 0 < ls.foldl stW w → 0 < w ∧ ∀ l ∈ ls, okY l
 | [], w, _, _, h => ⟨h, fun l hl => nomatch hl⟩
 | l :: r, w, hw, hb, h => by
  have h' : 0 < r.foldl stW (stW w l) := h
  by_cases h0 : 0 < w
  ·have e : stW w l = widN l w := if_pos h0
   by_cases h1 : 0 < widN l w
   ·obtain ⟨g1, g2⟩ := wid_ok h1 (hb l (List.mem_cons_self ..)) hw
    obtain ⟨_, g3⟩ := fold_ok r (stW w l) (by omega) (fun x hx => hb x (List.mem_cons_of_mem _ hx)) h'
    refine ⟨h0, fun x hx => ?_⟩
    rcases List.mem_cons.1 hx with rfl | hx
    ·exact g1
    ·exact g3 x hx
   ·exact absurd (fold_neg r (stW w l) (by omega)) (by omega)
  ·have e : stW w l = w := if_neg h0
   exact absurd (fold_neg r (stW w l) (by omega)) (by omega)
theorem nrm_wid {l : LN} (h : okY l) (w : Int) : widN (nrm l) w = widN l w := by
 obtain ⟨k, W, B, G⟩ := l
 rcases h with ⟨hk, _⟩ | hk | ⟨hk, _⟩ <;> dsimp only at hk <;> subst hk <;> rfl
theorem nrm_big {l : LN} (h : okY l) : bigL (nrm l) = bigL l := by
 obtain ⟨k, W, B, G⟩ := l
 rcases h with ⟨hk, _⟩ | hk | ⟨hk, _⟩ <;> dsimp only at hk <;> subst hk <;> rfl
theorem nrm_fold : ∀ (ls : List LN) (w : Int), (∀ l ∈ ls, okY l) → (ls.map nrm).foldl stW w = ls.foldl stW w
 | [], w, _ => rfl
 | l :: r, w, h => by
  show (r.map nrm).foldl stW (stW w (nrm l)) = r.foldl stW (stW w l)
  have e : stW w (nrm l) = stW w l := by
   unfold stW
   rw [nrm_wid (h l (List.mem_cons_self ..))]
  rw [e, nrm_fold r _ fun x hx => h x (List.mem_cons_of_mem _ hx)]
theorem nrm_great {n : Int} {ls : List LN} (h : ∀ l ∈ ls, okY l) : greatB n (ls.map nrm) = greatB n ls := by
 unfold greatB
 rw [List.length_map, List.any_map]
 congr 1
 rw [Bool.eq_iff_iff, List.any_eq_true, List.any_eq_true]
 refine ⟨fun ⟨x, h1, h2⟩ => ⟨x, h1, ?_⟩, fun ⟨x, h1, h2⟩ => ⟨x, h1, ?_⟩⟩
 ·rw [← nrm_big (h x h1)]; exact h2
 ·show bigL (nrm x) = true
  rw [nrm_big (h x h1)]; exact h2
theorem nrm_same {l : LN} (h : okY l) : sameL (nrm l) l := by
 obtain ⟨k, W, B, G⟩ := l
 rcases h with ⟨hk, _⟩ | hk | ⟨hk, _⟩ <;> dsimp only at hk <;> subst hk
 ·exact ⟨rfl, fun _ => ⟨rfl, rfl⟩, fun h => absurd (show (1 : Int) = 3 from h) (by decide)⟩
 ·exact ⟨rfl, fun h => absurd (show (2 : Int) = 1 from h) (by decide), fun h => absurd (show (2 : Int) = 3 from h) (by decide)⟩
 ·exact ⟨rfl, fun h => absurd (show (3 : Int) = 1 from h) (by decide), fun _ => rfl⟩
theorem spW_no {c : UInt8} {ws : List (List UInt8)} (hc : c ≠ 32) (h : ∀ w ∈ ws, c ∉ w) : c ∉ spW ws := fun e => by
 obtain ⟨w, hw, hm⟩ := List.mem_flatMap.1 e
 rcases List.mem_cons.1 hm with h1 | h1
 ·exact hc h1
 ·exact h w hw h1
theorem layY_no (l : LN) : ∀ y ∈ layY l, 10 ∉ y := fun y hy => by
 have hr : ∀ p, 10 ∉ rowY p := fun p e => by
  unfold rowY at e
  rcases List.mem_append.1 e with h | h
  ·exact absurd h (by decide)
  ·refine spW_no (by decide) (fun w hw => ?_) h
   obtain ⟨q, _, rfl⟩ := List.mem_map.1 hw
   exact printL_no q no10 (by decide) (by decide)
 have ho : ∀ g, 10 ∉ ofY g := fun p e => by
  unfold ofY at e
  rcases List.mem_append.1 e with h | h
  ·exact absurd h (by decide)
  ·refine spW_no (by decide) (fun w hw => ?_) h
   obtain ⟨q, _, rfl⟩ := List.mem_map.1 hw
   exact itoa_no q no10 (by decide)
 unfold layY at hy
 split at hy
 ·rcases List.mem_cons.1 hy with rfl | hy
  ·decide
  ·obtain ⟨p, _, rfl⟩ := List.mem_map.1 hy
   exact hr p
 ·split at hy
  ·rw [List.mem_singleton.1 hy]; decide
  ·rcases List.mem_cons.1 hy with rfl | hy
   ·decide
   ·obtain ⟨p, _, rfl⟩ := List.mem_map.1 hy
    exact ho p
theorem netY_lines (n : Int) (ls : List LN) : linesN (netY n ls) = ((bNet ++ spW [Lib.itoa n]) :: ls.flatMap layY) ++ [[]] := by
 refine lines_unl _ fun y hy => ?_
 rcases List.mem_cons.1 hy with rfl | hy
 ·intro e
  rcases List.mem_append.1 e with h | h
  ·exact absurd h (by decide)
  ·refine spW_no (by decide) (fun w hw => ?_) h
   rw [List.mem_singleton.1 hw]
   exact itoa_no n no10 (by decide)
 ·obtain ⟨l, _, hl⟩ := List.mem_flatMap.1 hy
  exact layY_no l y hl
theorem lineS_netA {s : NS} {x : List UInt8} : lineS s bNet [x] true = match cntN x with
  | some n => some ⟨n, s.ls, s.last⟩
  | none => none := by
 unfold lineS
 rw [if_pos rfl]
 rfl
/-- The text of a network in form reads back. -/
theorem parse_back {n : Int} {ls : List LN} (hg : greatB n ls = false) (hf : 0 < ls.foldl stW n) (hlen : (netY n ls).length ≤ 1000000) : parseT (netY n ls) = ((n, ls.map nrm), 0, 0) ∧ ∀ l ∈ ls, okY l := by
 obtain ⟨g1, g2, g3⟩ := great_out hg
 obtain ⟨n0, hok⟩ := fold_ok ls n g3 g2 hf
 refine ⟨?_, hok⟩
 obtain ⟨m, rfl⟩ := Int.eq_ofNat_of_zero_le (Int.le_of_lt n0)
 have hw : wordsN (bNet ++ spW [Lib.itoa (m : Int)]) = bNet :: [Lib.itoa (m : Int)] := words_line (by decide) (by decide) fun w hw => by
  rw [List.mem_singleton.1 hw]
  exact itoa_sp _
 have hl : lineS ⟨0, [], none⟩ bNet [Lib.itoa (m : Int)] true = some ⟨m, [], none⟩ := by
  rw [lineS_netA, cntN_small m (by omega)]
 obtain ⟨s', h1, h2, h3⟩ := pg_all ls hok 1 ⟨m, [], none⟩
 have hp : parseGo 0 ⟨0, [], none⟩ true (linesN (netY (m : Int) ls)) = .inl s' := by
  rw [netY_lines]
  show parseGo 0 _ true ((bNet ++ spW [Lib.itoa (m : Int)]) :: (ls.flatMap layY ++ [[]])) = _
  rw [pg_line hw (by decide) hl, h1]
 have h3 : s'.all = ls.map nrm := by rw [h3]; rfl
 have h2 : s'.inn = (m : Int) := h2
 unfold parseT
 rw [if_neg (by omega), hp]
 dsimp only
 rw [h2, h3, nrm_great hok, nrm_fold ls _ hok, hg, if_neg (by decide), if_neg (by omega)]
end Go.Proofs.YthdkkpocihkgbaaGreatDoor
