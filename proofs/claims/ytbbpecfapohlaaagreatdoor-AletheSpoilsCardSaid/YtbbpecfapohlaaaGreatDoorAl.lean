import Derived.Lib.AtoiAllCases
import Derived.Test.YtbbpecfapohlaaaGreatDoorClW
import Derived.Test.YtbbpecfapohlaaaGreatDoorTr
import Derived.Test.YtbbpecfapohlaaaGreatDoorPrP
import Derived.Test.YtbbpecfapohlaaaGreatDoorCmpB
import Derived.Test.YtbbpecfapohlaaaGreatDoorNuT
namespace Go.Proofs.YtbbpecfapohlaaaGreatDoor
open Go.RowKit
attribute [local irreducible] AC Do St
/-! ### numbers as they are printed -/
theorem pu_app : ∀ (l m : List UInt8) (a u : Nat), Lib.parseUint10 a l = .ok u → Lib.parseUint10 a (l ++ m) = Lib.parseUint10 u m
  | [], m, a, u, h => by
    simp only [Lib.parseUint10] at h
    injection h with h
    subst h
    rfl
  | c :: l, m, a, u, h => by
    rw [List.cons_append]
    simp only [Lib.parseUint10] at h ⊢
    split at h
    · rename_i h1
      rw [if_pos h1]
      split at h
      · cases h
      · rename_i h2
        rw [if_neg h2]
        split at h
        · cases h
        · rename_i h3
          rw [if_neg h3]
          exact pu_app l m _ u h
    · cases h
theorem pu_dec (n : Nat) : n < 18446744073709551616 → Lib.parseUint10 0 (Lib.decDigits n) = .ok n := by
  induction n using Nat.strongRecOn with
  | _ n ih =>
  intro hn
  have one : ∀ a d : Nat, d < 10 → a * 10 + d < 18446744073709551616 → Lib.parseUint10 a [UInt8.ofNat (48 + d)] = .ok (a * 10 + d) := fun a d hd hb => by
    have e : (UInt8.ofNat (48 + d)).toNat = 48 + d := by rw [UInt8.toNat_ofNat']; omega
    simp only [Lib.parseUint10, e]
    rw [if_pos (by omega), if_neg (by omega), if_neg (by omega)]
    congr 1
    omega
  rw [Lib.decDigits]
  split
  · rename_i h
    have := one 0 n h (by omega)
    simpa using this
  · rename_i h
    rw [pu_app _ _ _ _ (ih (n / 10) (by omega) (by omega)), one _ _ (by omega) (by omega)]
    congr 1
    omega
theorem dec_head (n : Nat) : ∃ c r, Lib.decDigits n = c :: r ∧ 48 ≤ c.toNat ∧ c.toNat ≤ 57 := by
  induction n using Nat.strongRecOn with
  | _ n ih =>
  rw [Lib.decDigits]
  split
  · rename_i h
    exact ⟨_, [], rfl, by rw [UInt8.toNat_ofNat']; omega, by rw [UInt8.toNat_ofNat']; omega⟩
  · obtain ⟨c, r, e, h1, h2⟩ := ih (n / 10) (by omega)
    exact ⟨c, r ++ _, by rw [e]; rfl, h1, h2⟩
theorem atoi_dec {n : Nat} (h : n < 9223372036854775808) : Lib.atoiAll (Lib.decDigits n) = .ok (n : Int) := by
  have hp := pu_dec n (by omega)
  obtain ⟨c, r, e, h1, h2⟩ := dec_head n
  rw [e] at hp ⊢
  have g1 : ¬ (c.toNat = 43 ∨ c.toNat = 45) := by omega
  have g2 : ¬ (¬ c.toNat = 45 ∧ 9223372036854775808 ≤ n) := by omega
  have g3 : ¬ (c.toNat = 45 ∧ 9223372036854775808 < n) := by omega
  have g4 : ¬ c.toNat = 45 := by omega
  unfold Lib.atoiAll Lib.parseMag
  simp only [if_neg g1, if_neg (List.cons_ne_nil c r), hp, if_neg g2, if_neg g3, if_neg g4]
/-- A number as it is printed; -1: it is none. -/
def cntA (w : List UInt8) : Int := match Lib.atoiAll w with
  | .ok v => if v < 0 then -1 else if Lib.itoa v = w then v else -1
  | _ => -1
theorem cntA_rng (w : List UInt8) : -1 ≤ cntA w ∧ cntA w ≤ 9223372036854775807 := by
  unfold cntA
  split
  · rename_i v h
    have := Lib.atoiAll_bounds h
    split
    · omega
    · split <;> omega
  · omega
theorem cntA_w {w : List UInt8} (h : 0 ≤ cntA w) : Lib.itoa (cntA w) = w := by
  revert h
  unfold cntA
  split
  · split
    · intro h; omega
    · split
      · intro _; assumption
      · intro h; omega
  · intro h; omega
theorem cntA_itoa {n : Int} (h0 : 0 ≤ n) (h : n ≤ 9223372036854775807) : cntA (Lib.itoa n) = n := by
  have e : Lib.itoa n = Lib.decDigits n.toNat := if_neg (by omega)
  have h1 : Lib.atoiAll (Lib.itoa n) = .ok n := by
    rw [e, atoi_dec (by omega)]
    congr 1
    omega
  unfold cntA
  rw [h1]
  dsimp only
  rw [if_neg (by omega), if_pos rfl]
theorem itoa_plain (n : Int) (h0 : 0 ≤ n) : (Lib.itoa n).all plainB = true ∧ Lib.itoa n ≠ [] := by
  have e : Lib.itoa n = Lib.decDigits n.toNat := if_neg (by omega)
  rw [e]
  generalize n.toNat = m
  refine ⟨?_, fun h => by obtain ⟨c, r, e2, _⟩ := dec_head m; rw [e2] at h; cases h⟩
  induction m using Nat.strongRecOn with
  | _ m ih =>
  have one : ∀ d : Nat, d < 10 → plainB (UInt8.ofNat (48 + d)) = true := fun d hd => by
    have : d = 0 ∨ d = 1 ∨ d = 2 ∨ d = 3 ∨ d = 4 ∨ d = 5 ∨ d = 6 ∨ d = 7 ∨ d = 8 ∨ d = 9 := by omega
    rcases this with rfl | rfl | rfl | rfl | rfl | rfl | rfl | rfl | rfl | rfl <;> decide
  rw [Lib.decDigits]
  split
  · rename_i h
    rw [List.all_cons, one m h]
    rfl
  · rw [List.all_append, ih (m / 10) (by omega), List.all_cons, one _ (by omega)]
    rfl
/-! ### words of steps -/
def wdA (w : List UInt8) : ST := .mk true w []
def isW (s : ST) (w : List UInt8) : Bool := s.b && decide (s.w = w)
theorem isW_eq {s : ST} {w : List UInt8} (hn : nfX s) (h : isW s w = true) : s = wdA w := by
  obtain ⟨b, v, l⟩ := s
  unfold isW at h
  rw [Bool.and_eq_true, decide_eq_true_eq] at h
  obtain ⟨h1, h2⟩ := h
  have h1 : b = true := h1
  have h2 : v = w := h2
  rw [nfX_mk] at hn
  rw [h1, h2, hn.1 h1]
  rfl
def cNot : List UInt8 := [110, 111, 116]
def cStep : List UInt8 := [115, 116, 101, 112]
def cCl : List UInt8 := [99, 108]
def cRule : List UInt8 := [58, 114, 117, 108, 101]
def cArgs : List UInt8 := [58, 97, 114, 103, 115]
def cPrem : List UInt8 := [58, 112, 114, 101, 109, 105, 115, 101, 115]
def cAss : List UInt8 := [97, 115, 115, 117, 109, 101]
def cLa : List UInt8 := [108, 97, 95, 103, 101, 110, 101, 114, 105, 99]
def cRes : List UInt8 := [114, 101, 115, 111, 108, 117, 116, 105, 111, 110]
/-- The number behind a letter. -/
def nbA (s : ST) (k : UInt8) : Int := if s.b = true ∧ 2 ≤ s.w.length ∧ s.w.head? = some k then cntA (s.w.drop 1) else -1
def nmA (k : UInt8) (n : Int) : ST := wdA (k :: Lib.itoa n)
theorem nbA_rng (s : ST) (k : UInt8) : -1 ≤ nbA s k ∧ nbA s k ≤ 9223372036854775807 := by
  unfold nbA
  split
  · exact cntA_rng _
  · omega
theorem nbA_w {s : ST} {k : UInt8} (hn : nfX s) (h : 0 ≤ nbA s k) : s = nmA k (nbA s k) := by
  obtain ⟨b, w, l⟩ := s
  rw [nfX_mk] at hn
  unfold nbA at h ⊢
  split at h
  · rename_i hc
    rw [if_pos hc]
    obtain ⟨h1, h2, h3⟩ := hc
    have h1 : b = true := h1
    have h3 : w.head? = some k := h3
    have hw := cntA_w h
    have hw : Lib.itoa (cntA (w.drop 1)) = w.drop 1 := hw
    show ST.mk b w l = .mk true (k :: Lib.itoa (cntA (w.drop 1))) []
    rw [hw, h1, hn.1 h1]
    cases w with
    | nil => cases h3
    | cons c r =>
      cases h3
      rfl
  · omega
theorem nbA_nm {k : UInt8} {n : Int} (h0 : 0 ≤ n) (h : n ≤ 9223372036854775807) : nbA (nmA k n) k = n := by
  unfold nbA
  rw [if_pos ⟨rfl, by
    show 2 ≤ (Lib.itoa n).length + 1
    have := List.length_pos_iff.2 (itoa_plain n h0).2
    omega, rfl⟩]
  exact cntA_itoa h0 h
theorem nbA_ne {k k' : UInt8} {n : Int} (h : k ≠ k') : nbA (nmA k n) k' = -1 := if_neg fun hc => h (Option.some.inj hc.2.2)
/-- A literal. -/
def alLit (b l : Int) : ST :=
  let s := if szI l - 1 < b then nmA 112 (szI l - 1) else nmA 97 (szI l - 1 - b)
  if l < 0 then .mk false [] [wdA cNot, s] else s
def lit1 (b g : Int) (t : ST) : Int := if 0 ≤ nbA t 112 ∧ nbA t 112 < b then g * (nbA t 112 + 1) else if 0 ≤ nbA t 97 ∧ nbA t 97 < 4611686018427387904 then g * (nbA t 97 + 1 + b) else 0
/-- The literal without its 'not', and its sign. -/
def unA (s : ST) : Int × ST := match s with
  | .mk false _ [x, y] => if isW x cNot = true then (-1, y) else (1, s)
  | _ => (1, s)
def litA (b : Int) (s : ST) : Int := lit1 b (unA s).1 (unA s).2
theorem lit1_eq {b g : Int} {t : ST} (hn : nfX t) (hg : g = 1 ∨ g = -1) (h : lit1 b g t ≠ 0) (hb : 0 ≤ b) : alLit b (lit1 b g t) = if g = 1 then t else .mk false [] [wdA cNot, t] := by
  have key : ∀ m : Int, 1 ≤ m → szI (g * m) = m ∧ (g * m < 0 ↔ g = -1) := fun m hm => by
    unfold szI
    rcases hg with rfl | rfl
    · rw [Int.one_mul, if_neg (by omega)]
      omega
    · rw [if_pos (by omega)]
      omega
  unfold lit1 at h ⊢
  split
  · rename_i h1
    obtain ⟨k1, k2⟩ := key (nbA t 112 + 1) (by omega)
    have e := nbA_w hn h1.1
    have e2 : nbA t 112 + 1 - 1 = nbA t 112 := by omega
    unfold alLit
    rw [k1, e2]
    dsimp only
    rw [if_pos h1.2, ← e]
    rcases hg with rfl | rfl
    · rw [if_neg (by rw [k2]; decide), if_pos rfl]
    · rw [if_pos (k2.2 rfl), if_neg (by decide)]
  · rename_i h1
    rw [if_neg h1] at h
    split
    · rename_i h2
      obtain ⟨k1, k2⟩ := key (nbA t 97 + 1 + b) (by omega)
      have e := nbA_w hn h2.1
      have e2 : nbA t 97 + 1 + b - 1 - b = nbA t 97 := by omega
      have e3 : ¬ nbA t 97 + 1 + b - 1 < b := by omega
      unfold alLit
      rw [k1]
      dsimp only
      rw [if_neg e3, e2, ← e]
      rcases hg with rfl | rfl
      · rw [if_neg (by rw [k2]; decide), if_pos rfl]
      · rw [if_pos (k2.2 rfl), if_neg (by decide)]
    · rename_i h2
      rw [if_neg h2] at h
      exact absurd rfl h
theorem litA_eq {b : Int} {s : ST} (hn : nfX s) (h : litA b s ≠ 0) (hb : 0 ≤ b) : alLit b (litA b s) = s := by
  unfold litA unA at h ⊢
  split at h
  · rename_i w x y
    rw [nfX_mk] at hn
    obtain ⟨_, hw, hl⟩ := hn
    have hx := nfXs_mem hl x (by simp)
    have hy := nfXs_mem hl y (by simp)
    try dsimp only
    split at h
    · rename_i h1
      rw [if_pos h1, lit1_eq hy (.inr rfl) h hb, if_neg (by decide), ← isW_eq hx h1, hw rfl]
    · rename_i h1
      rw [if_neg h1, lit1_eq (by rw [nfX_mk]; exact ⟨by simp, fun _ => hw rfl, hl⟩) (.inl rfl) h hb, if_pos rfl]
  · rw [lit1_eq hn (.inl rfl) h hb, if_pos rfl]
theorem lit_back {b l : Int} (h : okLi l) (hs : szI l ≤ 2305843009213693952) (hb : 0 ≤ b) : litA b (alLit b l) = l := by
  have h1 := szI_ok h
  have key : ∀ g : Int, g = 1 ∨ g = -1 → lit1 b g (if szI l - 1 < b then nmA 112 (szI l - 1) else nmA 97 (szI l - 1 - b)) = g * szI l := fun g hg => by
    unfold lit1
    split
    · rw [nbA_nm (by omega) (by omega), if_pos (by omega), show szI l - 1 + 1 = szI l by omega]
    · rw [nbA_ne (by decide), if_neg (by omega), nbA_nm (by omega) (by omega), if_pos (by omega), show szI l - 1 - b + 1 + b = szI l by omega]
  have hu : ∀ (k : UInt8) (n : Int), unA (nmA k n) = (1, nmA k n) := fun k n => rfl
  unfold litA alLit
  dsimp only
  by_cases hl : l < 0
  · rw [if_pos hl]
    show lit1 b (-1) (if szI l - 1 < b then nmA 112 (szI l - 1) else nmA 97 (szI l - 1 - b)) = l
    rw [key _ (.inr rfl)]
    unfold szI
    rw [if_pos hl]
    omega
  · rw [if_neg hl]
    have e : unA (if szI l - 1 < b then nmA 112 (szI l - 1) else nmA 97 (szI l - 1 - b)) = (1, if szI l - 1 < b then nmA 112 (szI l - 1) else nmA 97 (szI l - 1 - b)) := by
      split <;> rfl
    rw [e]
    dsimp only
    rw [key _ (.inl rfl)]
    unfold szI
    rw [if_neg hl]
    omega
/-! ### steps -/
/-- Can the step be told, at place i? -/
def fmA (s : Stp) (i : Nat) : Bool := s.cl.all (fun l => decide (okLi l)) && (decide (canI s.cl = s.cl) && (s.cl.all (fun l => decide (szI l ≤ 2305843009213693952)) && (s.pr.all (fun k => decide (0 ≤ k ∧ k < i)) && (if s.rule = 1 then decide (0 ≤ s.idx ∧ s.pr = [] ∧ s.tm = []) else if s.rule = 2 then decide (s.idx = 0 ∧ s.pr = []) else if s.rule = 3 then decide (s.idx = 0 ∧ s.tm = []) else false))))
def argA (s : Stp) : List ST := if s.rule = 1 then [wdA (Lib.itoa s.idx)] else if s.rule = 2 then s.tm.map fun q => wdA (printL q) else s.pr.map (nmA 116)
/-- A step as a row. -/
def alRow (b : Int) (s : Stp) (i : Nat) : ST := .mk false [] [wdA cStep, nmA 116 i, .mk false [] (wdA cCl :: s.cl.map (alLit b)), wdA cRule, wdA (if s.rule = 1 then cAss else if s.rule = 2 then cLa else cRes), wdA (if s.rule = 1 ∨ s.rule = 2 then cArgs else cPrem), .mk false [] (argA s)]
def numA (s : ST) : Option Rat := if s.b = true then (match parseR s.w with | some q => if printL q = s.w then some q else none | none => none) else none
def zeroS : Stp := ⟨0, [], 0, [], []⟩
/-- The literals of a row. -/
def litsA (b : Int) (l : List ST) : Option (List Int) := if (l.all fun x => decide (litA b x ≠ 0)) = true then some (l.map (litA b)) else none
def numsA : List ST → Option (List Rat)
  | [] => some []
  | x :: r => match numA x, numsA r with
    | some q, some l => some (q :: l)
    | _, _ => none
/-- What a row's rule and arguments make of a clause. -/
def ruleA (cl : List Int) (x4 x5 : ST) (args : List ST) : Option Stp :=
  if isW x4 cAss = true ∧ isW x5 cArgs = true ∧ args.length = 1 ∧ (args.all (·.b)) = true then some ⟨1, cl, cntA (args.headD (wdA [])).w, [], []⟩
  else if isW x4 cLa = true ∧ isW x5 cArgs = true then (match numsA args with | some l => some ⟨2, cl, 0, [], l⟩ | none => none)
  else if isW x4 cRes = true ∧ isW x5 cPrem = true then some ⟨3, cl, 0, args.map (nbA · 116), []⟩
  else none
/-- The step of a row, number i. -/
def readA (b : Int) (s : ST) (i : Nat) : Stp × Bool := match s with
  | .mk false _ [x0, x1, x2, x3, x4, x5, x6] =>
    if isW x0 cStep = true ∧ nbA x1 116 = i ∧ x2.b = false ∧ isW x3 cRule = true ∧ x6.b = false then
      match x2.l with
      | [] => (zeroS, false)
      | y :: ys => if isW y cCl = true then
          match litsA b ys with
          | none => (zeroS, false)
          | some cl => match ruleA cl x4 x5 x6.l with
            | none => (zeroS, false)
            | some st => (st, fmA st i)
        else (zeroS, false)
    else (zeroS, false)
  | _ => (zeroS, false)
theorem litsA_eq {b : Int} (hb : 0 ≤ b) {l : List ST} {c : List Int} (hn : ∀ x ∈ l, nfX x) (h : litsA b l = some c) : c.map (alLit b) = l := by
  unfold litsA at h
  split at h
  · rename_i h1
    cases h
    rw [List.map_map]
    rw [List.all_eq_true] at h1
    conv => rhs; rw [← List.map_id l]
    refine List.map_congr_left fun x hx => ?_
    exact litA_eq (hn x hx) (by simpa using h1 x hx) hb
  · cases h
theorem numA_eq {s : ST} {q : Rat} (hn : nfX s) (h : numA s = some q) : s = wdA (printL q) := by
  obtain ⟨b, w, l⟩ := s
  unfold numA at h
  split at h
  · rename_i h1
    have h1 : b = true := h1
    rw [nfX_mk] at hn
    split at h
    · split at h
      · rename_i h2
        cases h
        have h2 : printL q = w := h2
        rw [h1, hn.1 h1, h2]
        rfl
      · cases h
    · cases h
  · cases h
theorem numA_print (q : Rat) : numA (wdA (printL q)) = some q := by
  unfold numA
  rw [if_pos (show (wdA (printL q)).b = true from rfl), show (wdA (printL q)).w = printL q from rfl, parseR_print]
  dsimp only
  rw [if_pos rfl]
theorem numsA_eq : ∀ {l : List ST} {c : List Rat}, (∀ x ∈ l, nfX x) → numsA l = some c → l = c.map fun q => wdA (printL q)
  | [], c, _, h => by cases h; rfl
  | x :: r, c, hn, h => by
    rw [numsA] at h
    split at h
    · rename_i q l h1 h2
      cases h
      rw [List.map_cons, ← numA_eq (hn x (by simp)) h1, ← numsA_eq (fun y hy => hn y (by simp [hy])) h2]
    · cases h
theorem numsA_print : ∀ c : List Rat, numsA (c.map fun q => wdA (printL q)) = some c
  | [] => rfl
  | q :: r => by
    rw [List.map_cons, numsA, numA_print, numsA_print r]
theorem fmA_iff {s : Stp} {i : Nat} : fmA s i = true ↔ (∀ l ∈ s.cl, okLi l) ∧ canI s.cl = s.cl ∧ (∀ l ∈ s.cl, szI l ≤ 2305843009213693952) ∧ (∀ k ∈ s.pr, 0 ≤ k ∧ k < (i : Int)) ∧ ((s.rule = 1 ∧ 0 ≤ s.idx ∧ s.pr = [] ∧ s.tm = []) ∨ (s.rule = 2 ∧ s.idx = 0 ∧ s.pr = []) ∨ (s.rule = 3 ∧ s.idx = 0 ∧ s.tm = [])) := by
  unfold fmA
  simp only [Bool.and_eq_true, List.all_eq_true, decide_eq_true_eq]
  refine and_congr_right fun _ => and_congr_right fun _ => and_congr_right fun _ => and_congr_right fun _ => ?_
  split
  · rename_i h
    simp [h]
  · split
    · rename_i h1 h
      simp [h]
    · split
      · rename_i h2 h1 h
        simp [h]
      · rename_i h3 h2 h1
        simp [h1, h2, h3]
/-- What is read stands in the row just so. -/
theorem read_row {b : Int} (hb : 0 ≤ b) {s : ST} {i : Nat} (hn : nfX s) (h : (readA b s i).2 = true) : alRow b (readA b s i).1 i = s ∧ fmA (readA b s i).1 i = true := by
  unfold readA at h ⊢
  split at h
  · rename_i w x0 x1 x2 x3 x4 x5 x6
    rw [nfX_mk] at hn
    obtain ⟨_, hw, hl⟩ := hn
    have n0 := nfXs_mem hl x0 (by simp)
    have n1 := nfXs_mem hl x1 (by simp)
    have n2 := nfXs_mem hl x2 (by simp)
    have n3 := nfXs_mem hl x3 (by simp)
    have n4 := nfXs_mem hl x4 (by simp)
    have n5 := nfXs_mem hl x5 (by simp)
    have n6 := nfXs_mem hl x6 (by simp)
    try dsimp only
    split at h
    · rename_i hc
      rw [if_pos hc]
      obtain ⟨c0, c1, c2, c3, c6⟩ := hc
      obtain ⟨b2, w2, l2⟩ := x2
      obtain ⟨b6, w6, l6⟩ := x6
      have c2 : b2 = false := c2
      have c6 : b6 = false := c6
      subst c2 c6
      rw [nfX_mk] at n2 n6
      have e2 := n2.2.1 rfl
      have e6 := n6.2.1 rfl
      have m2 := nfXs_mem n2.2.2
      have m6 := nfXs_mem n6.2.2
      have e1 : x1 = nmA 116 i := by rw [← c1]; exact nbA_w n1 (by rw [c1]; omega)
      rw [show (ST.mk false w6 l6).l = l6 from rfl] at h ⊢
      rw [show (ST.mk false w2 l2).l = l2 from rfl] at h ⊢
      cases l2 with
      | nil => cases h
      | cons y ys =>
        dsimp only at h ⊢
        split at h
        · rename_i hy
          rw [if_pos hy]
          cases hL : litsA b ys with
          | none => rw [hL] at h; cases h
          | some cl =>
            rw [hL] at h
            dsimp only at h ⊢
            cases hR : ruleA cl x4 x5 l6 with
            | none => rw [hR] at h; cases h
            | some st =>
              rw [hR] at h
              dsimp only at h ⊢
              refine ⟨?_, h⟩
              have hcl := litsA_eq hb (fun x hx => m2 x (List.mem_cons_of_mem _ hx)) hL
              obtain ⟨f1, f2, f3, f4, f5⟩ := fmA_iff.1 h
              have done : st.cl = cl → x4 = wdA (if st.rule = 1 then cAss else if st.rule = 2 then cLa else cRes) → x5 = wdA (if st.rule = 1 ∨ st.rule = 2 then cArgs else cPrem) → l6 = argA st → alRow b st i = ST.mk false w [x0, x1, ST.mk false w2 (y :: ys), x3, x4, x5, ST.mk false w6 l6] := fun d1 d2 d3 d4 => by
                unfold alRow
                rw [d1, hcl, ← d2, ← d3, ← d4, ← e1, ← isW_eq n0 c0, ← isW_eq n3 c3, ← isW_eq (m2 y (by simp)) hy, hw rfl, e2, e6]
              unfold ruleA at hR
              split at hR
              · rename_i hr
                obtain ⟨r1, r2, r3, r4⟩ := hr
                cases hR
                refine done rfl (isW_eq n4 r1) (isW_eq n5 r2) ?_
                cases l6 with
                | nil => cases r3
                | cons a t =>
                  have ht : t = [] := List.length_eq_zero_iff.1 (by simpa using r3)
                  subst ht
                  have hab : a.b = true := by simpa using r4
                  rcases f5 with f5 | f5 | f5
                  · have f6 : 0 ≤ cntA a.w := f5.2.1
                    show [a] = [wdA (Lib.itoa (cntA a.w))]
                    rw [cntA_w f6]
                    have na := m6 a (by simp)
                    obtain ⟨ab, aw, al⟩ := a
                    have hab : ab = true := hab
                    rw [nfX_mk] at na
                    rw [hab, na.1 hab]
                    rfl
                  · exact absurd f5.1 (show ¬ (1 : Int) = 2 by decide)
                  · exact absurd f5.1 (show ¬ (1 : Int) = 3 by decide)
              · split at hR
                · rename_i hr
                  cases hN : numsA l6 with
                  | none => rw [hN] at hR; cases hR
                  | some l =>
                    rw [hN] at hR
                    cases hR
                    exact done rfl (isW_eq n4 hr.1) (isW_eq n5 hr.2) (numsA_eq m6 hN)
                · split at hR
                  · rename_i hr
                    cases hR
                    refine done rfl (isW_eq n4 hr.1) (isW_eq n5 hr.2) ?_
                    show l6 = (l6.map (nbA · 116)).map (nmA 116)
                    rw [List.map_map]
                    conv => lhs; rw [← List.map_id l6]
                    refine List.map_congr_left fun x hx => ?_
                    exact nbA_w (m6 x hx) (f4 _ (List.mem_map_of_mem hx)).1
                  · cases hR
        · cases h
    · cases h
  · cases h
/-- What can be told is read back. -/
theorem row_read {b : Int} (hb : 0 ≤ b) {s : Stp} {i : Nat} (hi : i ≤ 9223372036854775807) (hix : s.idx ≤ 9223372036854775807) (h : fmA s i = true) : readA b (alRow b s i) i = (s, true) := by
  obtain ⟨f1, f2, f3, f4, f5⟩ := fmA_iff.1 h
  have hw : ∀ w, isW (wdA w) w = true := fun w => by unfold isW; simp [wdA, ST.b, ST.w]
  have hL : litsA b (s.cl.map (alLit b)) = some s.cl := by
    have e : (s.cl.map (alLit b)).map (litA b) = s.cl := by
      rw [List.map_map]
      conv => rhs; rw [← List.map_id s.cl]
      exact List.map_congr_left fun l hl => lit_back (f1 l hl) (f3 l hl) hb
    unfold litsA
    rw [e, if_pos]
    rw [List.all_eq_true]
    intro x hx
    obtain ⟨l, hl, rfl⟩ := List.mem_map.1 hx
    rw [lit_back (f1 l hl) (f3 l hl) hb]
    simpa using (f1 l hl).1
  unfold readA alRow
  dsimp only
  rw [if_pos ⟨hw _, nbA_nm (by omega) (by omega), rfl, hw _, rfl⟩]
  show (match (wdA cCl :: s.cl.map (alLit b)) with | [] => (zeroS, false) | y :: ys => _) = _
  dsimp only
  rw [if_pos (hw _), hL]
  dsimp only
  have hR : ruleA s.cl (wdA (if s.rule = 1 then cAss else if s.rule = 2 then cLa else cRes)) (wdA (if s.rule = 1 ∨ s.rule = 2 then cArgs else cPrem)) (ST.mk false [] (argA s)).l = some s := by
    obtain ⟨r, cl, ix, pr, tm⟩ := s
    show ruleA cl _ _ (argA ⟨r, cl, ix, pr, tm⟩) = _
    dsimp only at f1 f2 f3 f4 f5 hL hix ⊢
    rcases f5 with ⟨rfl, g1, rfl, rfl⟩ | ⟨rfl, rfl, rfl⟩ | ⟨rfl, rfl, rfl⟩
    · show ruleA cl (wdA cAss) (wdA cArgs) [wdA (Lib.itoa ix)] = _
      unfold ruleA
      rw [if_pos ⟨hw _, hw _, rfl, rfl⟩]
      show some (Stp.mk 1 cl (cntA (Lib.itoa ix)) [] []) = _
      rw [cntA_itoa g1 hix]
    · show ruleA cl (wdA cLa) (wdA cArgs) (tm.map fun q => wdA (printL q)) = _
      unfold ruleA
      rw [if_neg (fun h => absurd h.1 (by decide)), if_pos ⟨by decide, by decide⟩, numsA_print]
    · show ruleA cl (wdA cRes) (wdA cPrem) (pr.map (nmA 116)) = _
      unfold ruleA
      rw [if_neg (fun h => absurd h.1 (by decide)), if_neg (fun h => absurd h.1 (by decide)), if_pos ⟨by decide, by decide⟩]
      have e : (pr.map (nmA 116)).map (nbA · 116) = pr := by
        rw [List.map_map]
        conv => rhs; rw [← List.map_id pr]
        exact List.map_congr_left fun k hk => nbA_nm (f4 k hk).1 (by have := (f4 k hk).2; omega)
      rw [e]
  rw [hR]
  dsimp only
  rw [h]
/-! ### the text of steps -/
theorem put_nm (k : UInt8) (n : Int) : putX (nmA k n) = k :: Lib.itoa n := putX_t _ _
theorem put_wd (w : List UInt8) : putX (wdA w) = w := putX_t _ _
def nmB (b l : Int) : List UInt8 := if szI l - 1 < b then 112 :: Lib.itoa (szI l - 1) else 97 :: Lib.itoa (szI l - 1 - b)
theorem put_lit (b l : Int) : putX (alLit b l) = if l < 0 then 40 :: (cNot ++ 32 :: (nmB b l ++ [41])) else nmB b l := by
  have e : putX (if szI l - 1 < b then nmA 112 (szI l - 1) else nmA 97 (szI l - 1 - b)) = nmB b l := by
    unfold nmB
    split <;> exact put_nm _ _
  unfold alLit
  dsimp only
  by_cases h : l < 0
  · rw [if_pos h, if_pos h, putX_l, putXs, tlX, tlX, put_wd, e]
    simp
  · rw [if_neg h, if_neg h, e]
theorem putXs_drop (l : List ST) : putXs l = (tlX l).drop 1 := by
  cases l with
  | nil => rw [putXs, tlX]; rfl
  | cons s r => rw [putXs, tlX]; rfl
/-- A step's line. -/
def alLine (b : Int) (s : Stp) (i : Nat) : List UInt8 := putX (alRow b s i) ++ [10]
def midA (r : Int) : List UInt8 := [41, 32] ++ cRule ++ [32] ++ (if r = 1 then cAss else if r = 2 then cLa else cRes) ++ [32] ++ (if r = 1 ∨ r = 2 then cArgs else cPrem) ++ [32, 40]
theorem alLine_eq (b : Int) (s : Stp) (i : Nat) : alLine b s i = [40, 115, 116, 101, 112, 32, 116] ++ Lib.itoa i ++ [32, 40, 99, 108] ++ tlX (s.cl.map (alLit b)) ++ midA s.rule ++ (tlX (argA s)).drop 1 ++ [41, 41, 10] := by
  unfold alLine alRow midA
  rw [putX_l]
  simp only [putXs, tlX, put_wd, put_nm, putX_l, ← putXs_drop]
  simp [cStep, cCl]
def rowsA (b : Int) (l : List Stp) : List ST := l.zipIdx.map fun x => alRow b x.1 x.2
def textA (b : Int) (l : List Stp) : List UInt8 := l.zipIdx.flatMap fun x => alLine b x.1 x.2
theorem text_rows (b : Int) (l : List Stp) : allX (rowsA b l) = textA b l := by
  unfold allX rowsA textA alLine
  rw [List.flatMap_map]
/-! ### what the rows hold -/
mutual
def htX : ST → Nat
  | .mk b _ l => if b = true then 0 else 1 + htXs l
def htXs : List ST → Nat
  | [] => 0
  | s :: r => max (htX s) (htXs r)
end
mutual
theorem nu_ok : ∀ (s : ST) (n : Int) (d : Nat), nfX s → n + cX s ≤ 100001 → d + htX s ≤ 200 → nuX s n d = (n + cX s - 1, true)
  | .mk b w l, n, d, hn, hc, hd => by
    rw [nfX_mk] at hn
    rw [cX_mk] at hc ⊢
    rw [htX] at hd
    cases b with
    | true =>
      rw [nuX_t, hn.1 rfl, cXs_nil]
      congr 1
      omega
    | false =>
      rw [if_neg (by decide)] at hd
      rw [nuX_l, nus_ok l n (d + 1) hn.2.2 (by omega) (by omega)]
      congr 1
      omega
theorem nus_ok : ∀ (l : List ST) (n : Int) (d : Nat), nfXs l → n + cXs l ≤ 100000 → d + htXs l ≤ 200 → nuXs l n d = (n + cXs l, true)
  | [], n, d, _, _, _ => by rw [nuXs, cXs_nil]; simp
  | s :: r, n, d, hn, hc, hd => by
    rw [nfXs] at hn
    rw [cXs_cons] at hc ⊢
    rw [htXs] at hd
    have h1 := cX_pos s
    have e := nu_ok s (n + 1) d hn.1 (by omega) (by omega)
    rw [nuXs, if_neg (by
      rintro (h | ⟨h2, h3⟩)
      · omega
      · obtain ⟨b, w, l⟩ := s
        have h2 : b = false := h2
        rw [htX, if_neg (by rw [h2]; decide)] at hd
        omega), e]
    dsimp only
    rw [if_pos rfl, nus_ok r _ d hn.2 (by omega) (by omega)]
    congr 1
    omega
end
theorem nf_wdA (w : List UInt8) : nfX (wdA w) := by unfold wdA; rw [nfX_mk, nfXs]; exact ⟨fun _ => rfl, (fun h => nomatch h), trivial⟩
theorem c_wdA (w : List UInt8) : cX (wdA w) = 1 := by unfold wdA; rw [cX_mk, cXs_nil]
theorem w_wdA (w : List UInt8) : wX (wdA w) = w.length + 1 := by unfold wdA; rw [wX_mk, wXs_nil]
theorem h_wdA (w : List UInt8) : htX (wdA w) = 0 := by unfold wdA; rw [htX]; rfl
theorem wd_wdA (w : List UInt8) : wdX (wdA w) = (!w.isEmpty && w.all plainB) := wdX_t _ _
/-- Of a tree: in form, words, at most c nodes, at most w letters, at most h deep. -/
structure Fit (s : ST) (c w h : Nat) : Prop where
  nf : nfX s
  wd : wdX s = true
  c : cX s ≤ c
  w : wX s ≤ w
  h : htX s ≤ h
theorem Fit.up {s : ST} {c w h c' w' h' : Nat} (f : Fit s c w h) (h1 : c ≤ c') (h2 : w ≤ w') (h3 : h ≤ h') : Fit s c' w' h' := ⟨f.nf, f.wd, Nat.le_trans f.c h1, Nat.le_trans f.w h2, Nat.le_trans f.h h3⟩
theorem Fit.word {w : List UInt8} (h1 : w ≠ []) (h2 : w.all plainB = true) : Fit (wdA w) 1 (w.length + 1) 0 :=
  ⟨nf_wdA w, by rw [wd_wdA, h2]; cases w with | nil => exact absurd rfl h1 | cons c r => rfl, Nat.le_of_eq (c_wdA w), Nat.le_of_eq (w_wdA w), Nat.le_of_eq (h_wdA w)⟩
theorem itoa_len20 {n : Int} (h0 : 0 ≤ n) (h : n ≤ 9223372036854775807) : (Lib.itoa n).length ≤ 21 := Lib.itoa_length_le n (by omega) (by omega)
theorem Fit.nm {k : UInt8} {n : Int} (hk : plainB k = true) (h0 : 0 ≤ n) (h : n ≤ 9223372036854775807) : Fit (nmA k n) 1 23 0 :=
  (Fit.word (w := k :: Lib.itoa n) (List.cons_ne_nil _ _) (by rw [List.all_cons, hk, (itoa_plain n h0).1]; rfl)).up (Nat.le_refl _) (by have := itoa_len20 h0 h; rw [List.length_cons]; omega) (Nat.le_refl _)
theorem htXs_le {h : Nat} : ∀ {l : List ST}, (∀ s ∈ l, htX s ≤ h) → htXs l ≤ h
  | [], _ => by rw [htXs]; omega
  | s :: r, hl => by
    rw [htXs]
    have := hl s (by simp)
    have := htXs_le (l := r) fun x hx => hl x (by simp [hx])
    omega
theorem Fit.row {l : List ST} {c w h : Nat} (hl : ∀ s ∈ l, nfX s ∧ wdX s = true ∧ htX s ≤ h) (hc : cXs l + 1 ≤ c) (hw : wXs l + 1 ≤ w) : Fit (.mk false [] l) c w (h + 1) :=
  ⟨nf_l fun s hs => (hl s hs).1, by rw [wdX_l, wdXs_all, List.all_eq_true]; exact fun s hs => (hl s hs).2.1, by rw [cX_mk]; omega, by rw [wX_mk]; simp only [List.length_nil]; omega, by
    rw [htX, if_neg (by decide)]
    have := htXs_le fun s hs => (hl s hs).2.2
    omega⟩
theorem Fit.rowB {l : List ST} {c w h : Nat} (hl : ∀ s ∈ l, Fit s c w h) : Fit (.mk false [] l) (l.length * c + 1) (l.length * w + 1) (h + 1) :=
  Fit.row (fun s hs => ⟨(hl s hs).nf, (hl s hs).wd, (hl s hs).h⟩) (Nat.succ_le_succ (cXs_le fun s hs => (hl s hs).c)) (Nat.succ_le_succ (wXs_le fun s hs => (hl s hs).w))
theorem fit_lit {b l : Int} (h : okLi l) (hb : 0 ≤ b) : Fit (alLit b l) 3 50 1 := by
  have h1 := szI_ok h
  have f : Fit (if szI l - 1 < b then nmA 112 (szI l - 1) else nmA 97 (szI l - 1 - b)) 1 23 0 := by
    split
    · exact Fit.nm (by decide) (by omega) (by omega)
    · exact Fit.nm (by decide) (by omega) (by omega)
  unfold alLit
  dsimp only
  split
  · have g := Fit.word (w := cNot) (by decide) (by decide)
    refine Fit.row (fun s hs => ?_) ?_ ?_
    · simp only [List.mem_cons, List.not_mem_nil, or_false] at hs
      rcases hs with rfl | rfl
      · exact ⟨g.nf, g.wd, g.h⟩
      · exact ⟨f.nf, f.wd, f.h⟩
    · rw [cXs_cons, cXs_cons, cXs_nil]
      have := g.c
      have := f.c
      omega
    · rw [wXs_cons, wXs_cons, wXs_nil]
      have := g.w
      have := f.w
      have : cNot.length = 3 := rfl
      omega
  · exact f.up (by omega) (by omega) (by omega)
theorem plain_print (q : Rat) : printL q ≠ [] ∧ (printL q).all plainB = true := by
  refine ⟨printL_ne q, List.all_eq_true.2 fun c hc => ?_⟩
  by_cases h : DigC c
  · have : ∀ n : Fin 256, 48 ≤ n.val → n.val ≤ 57 → (decide (32 < n.val) && (decide (n.val < 127) && (!decide (n.val = 40) && (!decide (n.val = 41) && !decide (n.val = 59))))) = true := by decide +kernel
    exact this ⟨c.toNat, c.toNat_lt⟩ h.1 h.2
  · by_cases h45 : c = 45
    · subst h45; decide
    · by_cases h47 : c = 47
      · subst h47; decide
      · exact absurd hc (printL_no q h h45 h47)
/-- The arguments of a step that can be told. -/
theorem fit_args {s : Stp} {i N : Nat} (hi : i ≤ 9223372036854775807) (h : fmA s i = true) (hix : s.idx ≤ 9223372036854775807) (hN : 23 ≤ N) (ht : ∀ q ∈ s.tm, (printL q).length < N) : (∀ x ∈ argA s, Fit x 1 N 0) ∧ (argA s).length ≤ 1 + s.tm.length + s.pr.length := by
  obtain ⟨f1, f2, f3, f4, f5⟩ := fmA_iff.1 h
  unfold argA
  rcases f5 with ⟨h1, h2, h3, h4⟩ | ⟨h1, h2, h3⟩ | ⟨h1, h2, h3⟩
  · rw [if_pos h1]
    refine ⟨fun x hx => ?_, by simp; omega⟩
    obtain rfl := List.mem_singleton.1 hx
    exact (Fit.word (itoa_plain _ h2).2 (itoa_plain _ h2).1).up (Nat.le_refl _) (by have := itoa_len20 h2 hix; omega) (Nat.le_refl _)
  · rw [if_neg (by omega), if_pos h1]
    refine ⟨fun x hx => ?_, by rw [List.length_map]; omega⟩
    obtain ⟨q, hq, rfl⟩ := List.mem_map.1 hx
    exact (Fit.word (plain_print q).1 (plain_print q).2).up (Nat.le_refl _) (ht q hq) (Nat.le_refl _)
  · rw [if_neg (by omega), if_neg (by omega)]
    refine ⟨fun x hx => ?_, by rw [List.length_map]; omega⟩
    obtain ⟨k, hk, rfl⟩ := List.mem_map.1 hx
    exact (Fit.nm (by decide) (f4 k hk).1 (by have := (f4 k hk).2; omega)).up (Nat.le_refl _) hN (Nat.le_refl _)
theorem fit_step {b : Int} (hb : 0 ≤ b) {s : Stp} {i N : Nat} (hi : i ≤ 9223372036854775807) (h : fmA s i = true) (hix : s.idx ≤ 9223372036854775807) (hN : 23 ≤ N) (ht : ∀ q ∈ s.tm, (printL q).length < N) : Fit (alRow b s i) (12 + 3 * s.cl.length + s.tm.length + s.pr.length) (100 + 50 * s.cl.length + N * (1 + s.tm.length + s.pr.length)) 3 := by
  obtain ⟨f1, f2, f3, f4, f5⟩ := fmA_iff.1 h
  obtain ⟨a1, a2⟩ := fit_args hi h hix hN ht
  have fa := Fit.rowB a1
  have hcl : ∀ x ∈ s.cl.map (alLit b), Fit x 3 50 1 := fun x hx => by
    obtain ⟨l, hl, rfl⟩ := List.mem_map.1 hx
    exact fit_lit (f1 l hl) hb
  have w0 := Fit.word (w := cStep) (by decide) (by decide)
  have w1 := Fit.nm (k := 116) (n := (i : Int)) (by decide) (by omega) (by omega)
  have w2 := Fit.word (w := cCl) (by decide) (by decide)
  have w3 := Fit.word (w := cRule) (by decide) (by decide)
  have w4 : Fit (wdA (if s.rule = 1 then cAss else if s.rule = 2 then cLa else cRes)) 1 11 0 := by
    split
    · exact (Fit.word (w := cAss) (by decide) (by decide)).up (Nat.le_refl _) (by decide) (Nat.le_refl _)
    · split
      · exact Fit.word (w := cLa) (by decide) (by decide)
      · exact Fit.word (w := cRes) (by decide) (by decide)
  have w5 : Fit (wdA (if s.rule = 1 ∨ s.rule = 2 then cArgs else cPrem)) 1 10 0 := by
    split
    · exact (Fit.word (w := cArgs) (by decide) (by decide)).up (Nat.le_refl _) (by decide) (Nat.le_refl _)
    · exact Fit.word (w := cPrem) (by decide) (by decide)
  have fc : Fit (.mk false [] (wdA cCl :: s.cl.map (alLit b))) (3 * s.cl.length + 2) (50 * s.cl.length + 4) 2 := by
    have e1 := cXs_le fun x hx => (hcl x hx).c
    have e2 := wXs_le fun x hx => (hcl x hx).w
    rw [List.length_map] at e1 e2
    refine Fit.row (fun x hx => ?_) ?_ ?_
    · rcases List.mem_cons.1 hx with rfl | hx
      · exact ⟨w2.nf, w2.wd, Nat.le_trans w2.h (by omega)⟩
      · exact ⟨(hcl x hx).nf, (hcl x hx).wd, (hcl x hx).h⟩
    · rw [cXs_cons]
      have := w2.c
      omega
    · rw [wXs_cons]
      have : wX (wdA cCl) ≤ 3 := w2.w
      omega
  have e3 : (argA s).length * N ≤ N * (1 + s.tm.length + s.pr.length) := by
    rw [Nat.mul_comm]
    exact Nat.mul_le_mul_left _ a2
  have e0 : wX (wdA cStep) ≤ 5 := w0.w
  have e5 : wX (wdA cRule) ≤ 6 := w3.w
  unfold alRow
  refine Fit.row (fun x hx => ?_) ?_ ?_
  · simp only [List.mem_cons, List.not_mem_nil, or_false] at hx
    rcases hx with rfl | rfl | rfl | rfl | rfl | rfl | rfl
    · exact ⟨w0.nf, w0.wd, Nat.le_trans w0.h (by omega)⟩
    · exact ⟨w1.nf, w1.wd, Nat.le_trans w1.h (by omega)⟩
    · exact ⟨fc.nf, fc.wd, fc.h⟩
    · exact ⟨w3.nf, w3.wd, Nat.le_trans w3.h (by omega)⟩
    · exact ⟨w4.nf, w4.wd, Nat.le_trans w4.h (by omega)⟩
    · exact ⟨w5.nf, w5.wd, Nat.le_trans w5.h (by omega)⟩
    · exact ⟨fa.nf, fa.wd, Nat.le_trans fa.h (by omega)⟩
  · simp only [cXs_cons, cXs_nil]
    have := w0.c
    have := w1.c
    have := w3.c
    have := w4.c
    have := w5.c
    have := fc.c
    have := fa.c
    omega
  · simp only [wXs_cons, wXs_nil]
    have := w1.w
    have := w4.w
    have := w5.w
    have := fc.w
    have := fa.w
    omega
/-! ### what printing and parsing answer -/
def chA (b : Int) (l : List Stp) : Int := if 1000 < b ∨ 300000 < l.length then 2 else if b < 0 then 4 else if (l.zipIdx.all fun x => fmA x.1 x.2) = true then 0 else 4
def bigA (l : List Stp) : Bool := l.any fun s => s.tm.any fun q => decide (20000 < (printL q).length)
def prA (b : Int) (l : List Stp) : List UInt8 × Int := if chA b l ≠ 0 then ([], chA b l) else if bigA l = true ∨ chX (rowsA b l) ≠ 0 ∨ 1000000 < (textA b l).length then ([], 2) else (textA b l, 0)
def readsA (b : Int) : List ST → Nat → Option (List Stp)
  | [], _ => some []
  | s :: r, i => if (readA b s i).2 = true then (match readsA b r (i + 1) with | some l => some ((readA b s i).1 :: l) | none => none) else none
def paA (b : Int) (src : List UInt8) : List Stp × Int := if 1000000 < src.length then ([], 2) else match parseX (src.length + 1) 0 src 0 with
  | .bad e _ => ([], e)
  | .ok out _ _ => if 1000 < b ∨ 300000 < out.length then ([], 2) else if b < 0 then ([], 4) else match readsA b out 0 with
    | some l => (l, 0)
    | none => ([], 6)
theorem chA_0 {b : Int} {l : List Stp} (h : chA b l = 0) : (0 ≤ b ∧ b ≤ 1000) ∧ l.length ≤ 300000 ∧ ∀ i (h : i < l.length), fmA l[i] i = true := by
  unfold chA at h
  split at h
  · cases h
  · rename_i h1
    split at h
    · cases h
    · rename_i h2
      split at h
      · rename_i h3
        refine ⟨by omega, by omega, fun i hi => ?_⟩
        have := List.all_eq_true.1 h3 (l[i], i) (List.mem_zipIdx_iff_getElem?.2 (List.getElem?_eq_getElem hi))
        exact this
      · cases h
theorem rowsA_len (b : Int) (l : List Stp) : (rowsA b l).length = l.length := by unfold rowsA; simp
theorem reads_rows {b : Int} (hb : 0 ≤ b) : ∀ {rows : List ST} {i : Nat} {l : List Stp}, (∀ s ∈ rows, nfX s) → readsA b rows i = some l → rows = (l.zipIdx i).map (fun x => alRow b x.1 x.2) ∧ ∀ j (h : j < l.length), fmA l[j] (i + j) = true
  | [], i, l, _, h => by
    cases h
    exact ⟨rfl, fun j h => absurd h (by simp)⟩
  | s :: r, i, l, hn, h => by
    rw [readsA] at h
    split at h
    · rename_i h1
      split at h
      · rename_i m h2
        cases h
        obtain ⟨e1, e2⟩ := read_row hb (hn s (by simp)) h1
        obtain ⟨g1, g2⟩ := reads_rows hb (fun x hx => hn x (by simp [hx])) h2
        refine ⟨?_, fun j hj => ?_⟩
        · rw [List.zipIdx_cons, List.map_cons, e1, ← g1]
        · cases j with
          | zero => exact e2
          | succ j =>
            have := g2 j (by simpa using hj)
            rw [List.getElem_cons_succ, show i + (j + 1) = i + 1 + j by omega]
            exact this
      · cases h
    · cases h
theorem reads_ok {b : Int} (hb : 0 ≤ b) {rows : List ST} {l : List Stp} (hn : ∀ s ∈ rows, nfX s) (h : readsA b rows 0 = some l) : rows = rowsA b l ∧ ∀ j (h : j < l.length), fmA l[j] j = true := by
  obtain ⟨h1, h2⟩ := reads_rows hb hn h
  exact ⟨h1, fun j hj => by have := h2 j hj; rwa [Nat.zero_add] at this⟩
theorem rows_reads {b : Int} (hb : 0 ≤ b) : ∀ {l : List Stp} {i : Nat}, i + l.length ≤ 1000000 → (∀ s ∈ l, s.idx ≤ 9223372036854775807) → (∀ j (h : j < l.length), fmA l[j] (i + j) = true) → readsA b ((l.zipIdx i).map fun x => alRow b x.1 x.2) i = some l
  | [], i, _, _, _ => rfl
  | s :: r, i, hi, hx, h => by
    rw [List.length_cons] at hi
    rw [List.zipIdx_cons, List.map_cons, readsA]
    have h0 := row_read hb (s := s) (i := i) (by omega) (hx s (by simp)) (h 0 (by simp))
    dsimp only
    rw [h0]
    dsimp only
    rw [if_pos rfl, rows_reads hb (l := r) (i := i + 1) (by omega) (fun t ht => hx t (by simp [ht])) fun j hj => by
      have := h (j + 1) (by simpa using hj)
      rw [List.getElem_cons_succ] at this
      rw [show i + 1 + j = i + (j + 1) by omega]
      exact this]
theorem rows_ok {b : Int} (hb : 0 ≤ b) {l : List Stp} (hl : l.length ≤ 1000000) (hx : ∀ s ∈ l, s.idx ≤ 9223372036854775807) (h : ∀ j (h : j < l.length), fmA l[j] j = true) : readsA b (rowsA b l) 0 = some l :=
  rows_reads hb (i := 0) (by omega) hx fun j hj => by rw [Nat.zero_add]; exact h j hj
/-- Rows that are few and short print and read back. -/
theorem fit_chX {rows : List ST} (hf : ∀ s ∈ rows, nfX s ∧ wdX s = true ∧ htX s ≤ 3) (hc : cXs rows ≤ 100000) : chX rows = 0 := by
  have hn := nfXs_all fun s hs => (hf s hs).1
  have hh := htXs_le fun s hs => (hf s hs).2.2
  unfold chX
  rw [nus_ok rows 0 0 hn (by omega) (by omega)]
  dsimp only
  rw [if_pos rfl, if_pos]
  rw [wdXs_all, List.all_eq_true]
  exact fun s hs => (hf s hs).2.1
/-- What is printed is read back. -/
theorem pa_text {b : Int} {l : List Stp} (h : chA b l = 0) (hx : ∀ s ∈ l, s.idx ≤ 9223372036854775807) (hf : ∀ s ∈ rowsA b l, nfX s) (hc : chX (rowsA b l) = 0) (hl : (textA b l).length ≤ 1000000) : paA b (textA b l) = (l, 0) := by
  obtain ⟨hb, h1, h2⟩ := chA_0 h
  obtain ⟨m, hm⟩ := all_parse hf hc
  rw [text_rows] at hm
  unfold paA
  rw [if_neg (by omega), hm]
  dsimp only
  rw [if_neg (by rw [rowsA_len]; omega), if_neg (by omega), rows_ok hb.1 (by omega) hx h2]
end Go.Proofs.YtbbpecfapohlaaaGreatDoor
