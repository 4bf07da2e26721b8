/-
 The words of a line, byte by byte.
-/
import Derived.Test.YthdkkpocihkgbaaGreatDoorNtH
import Derived.Lib.TrimUEq
import Derived.Test.YthdkkpocihkgbaaGreatDoorOx
namespace Go.Proofs.YthdkkpocihkgbaaGreatDoor
open Go.RowKit
attribute [local irreducible] AC Do St
/-- A space between words, as a byte. -/
def spa8 (c : UInt8) : Bool := spaR c.toNat
/-- The words behind what is read of one. -/
def wordsGo : List UInt8 → List UInt8 → List (List UInt8)
 | cur, [] => if cur = [] then [] else [cur]
 | cur, c :: t => if spa8 c then (if cur = [] then wordsGo [] t else cur :: wordsGo [] t) else wordsGo (cur ++ [c]) t
/-- The words of a line. -/
def wordsN (l : List UInt8) : List (List UInt8) := wordsGo [] l
theorem wordsGo_skip : ∀ (a cur t : List UInt8), (∀ c ∈ a, spa8 c = false) → wordsGo cur (a ++ t) = wordsGo (cur ++ a) t
 | [], cur, t, _ => by simp
 | c :: a, cur, t, h => by
  have h1 := h c (List.mem_cons_self ..)
  show wordsGo cur (c :: (a ++ t)) = _
  rw [wordsGo, if_neg (by rw [h1]; decide), wordsGo_skip a (cur ++ [c]) t fun d hd => h d (List.mem_cons_of_mem _ hd)]
  simp
theorem decN_hi (n b0 b1 b2 b3 : Nat) (h : ¬ b0 < 128) : 128 ≤ (Lib.decodeN n b0 b1 b2 b3).1 ∧ 1 ≤ (Lib.decodeN n b0 b1 b2 b3).2 ∧ (Lib.decodeN n b0 b1 b2 b3).2 ≤ 4 ∧ (2 ≤ (Lib.decodeN n b0 b1 b2 b3).2 → 1 < n ∧ 128 ≤ b1) ∧ (3 ≤ (Lib.decodeN n b0 b1 b2 b3).2 → 2 < n ∧ 128 ≤ b2) ∧ (4 ≤ (Lib.decodeN n b0 b1 b2 b3).2 → 3 < n ∧ 128 ≤ b3) := by
 unfold Lib.decodeN
 rw [if_neg h]
 repeat' split
 all_goals (refine ⟨?_, ?_, ?_, ?_, ?_, ?_⟩ <;> dsimp only <;> omega)
theorem getD_some {l : List UInt8} {i : Nat} (h : i < l.length) : l[i]? = some (l.getD i 0) := by
 rw [List.getD_eq_getElem?_getD, List.getElem?_eq_getElem h]; rfl
theorem dec_hi {l : List UInt8} {pos : Nat} {c : UInt8} (h : l[pos]? = some c) (h1 : ¬ c.toNat < 128) : 128 ≤ (Utf8.decode (tx l) pos).1 ∧ 1 ≤ (Utf8.decode (tx l) pos).2 ∧ pos + (Utf8.decode (tx l) pos).2 ≤ l.length ∧ ∀ d ∈ (l.drop pos).take (Utf8.decode (tx l) pos).2, 128 ≤ d.toNat := by
 obtain ⟨hlt, he⟩ := List.getElem?_eq_some_iff.1 h
 have e0 : l.getD pos 0 = c := by rw [List.getD_eq_getElem?_getD, h]; rfl
 have e := Lib.decode_N (tx l) pos
 rw [tx_data, e0] at e
 have := decN_hi (l.length - pos) c.toNat (l.getD (pos + 1) 0).toNat (l.getD (pos + 2) 0).toNat (l.getD (pos + 3) 0).toNat h1
 rw [e]
 obtain ⟨g1, g2, g3, g4, g5, g6⟩ := this
 generalize Lib.decodeN (l.length - pos) c.toNat (l.getD (pos + 1) 0).toNat (l.getD (pos + 2) 0).toNat (l.getD (pos + 3) 0).toNat = D at g1 g2 g3 g4 g5 g6
 have hcs : D.2 = 1 ∨ D.2 = 2 ∨ D.2 = 3 ∨ D.2 = 4 := by omega
 have hle : pos + D.2 ≤ l.length := by
  rcases hcs with h | h | h | h
  ·omega
  ·have := g4 (by omega); omega
  ·have := g5 (by omega); omega
  ·have := g6 (by omega); omega
 refine ⟨g1, g2, hle, fun d hd => ?_⟩
 obtain ⟨j, hj, rfl⟩ := List.getElem_of_mem hd
 simp only [List.length_take, List.length_drop] at hj
 rw [List.getElem_take, List.getElem_drop]
 have hget : l[pos + j]'(by omega) = l.getD (pos + j) 0 := by
  have := getD_some (l := l) (i := pos + j) (by omega)
  rw [List.getElem?_eq_getElem (by omega)] at this
  exact Option.some.inj this
 rw [hget]
 have hj3 : j = 0 ∨ j = 1 ∨ j = 2 ∨ j = 3 := by omega
 rcases hj3 with rfl | rfl | rfl | rfl
 ·rw [Nat.add_zero, e0]; omega
 ·exact (g4 (by omega)).2
 ·exact (g5 (by omega)).2
 ·exact (g6 (by omega)).2
theorem tx_cut (l : List UInt8) (a b : Nat) : (tx l).extract a b = tx ((l.drop a).take (b - a)) := by
 apply ByteArray.ext
 simp [tx]
theorem spa8_hi {c : UInt8} (h : 128 ≤ c.toNat) : spa8 c = false := by
 unfold spa8 spaR
 simp only [Bool.or_eq_false_iff, decide_eq_false_iff_not]
 omega
def curOf (l : List UInt8) (pos : Nat) : Option Nat → List UInt8
 | some a => (l.drop a).take (pos - a)
 | none => []
theorem curOf_add (l : List UInt8) (pos w : Nat) (st : Option Nat) (h : ∀ a, st = some a → a < pos) (hw : 1 ≤ w) : curOf l (pos + w) (some (st.getD pos)) = curOf l pos st ++ (l.drop pos).take w := by
 cases st with
 | none => simp [curOf]
 | some a =>
  have := h a rfl
  simp only [curOf, Option.getD_some]
  rw [show pos + w - a = (pos - a) + w by omega, List.take_add, List.drop_drop, show a + (pos - a) = pos by omega]
theorem spans_words (l : List UInt8) : ∀ (f pos : Nat) (st : Option Nat) (acc : List (Nat × Nat)), l.length ≤ pos + f → pos ≤ l.length → (∀ a, st = some a → a < pos) →
  (Lib.closeSpans (tx l) (Lib.spansFromP spaR (tx l) f pos st acc)).map (fun x => (tx l).extract x.1 x.2) = acc.map (fun x => (tx l).extract x.1 x.2) ++ (wordsGo (curOf l pos st) (l.drop pos)).map tx
 | f, pos, st, acc, hf, hp, hst => by
  by_cases hlt : pos < l.length
  ·cases f with
   | zero => omega
   | succ f =>
    have hc : l[pos]? = some l[pos] := List.getElem?_eq_getElem hlt
    have hd : l.drop pos = l[pos] :: l.drop (pos + 1) := List.drop_eq_getElem_cons hlt
    rw [Lib.spansFromP.eq_def]
    dsimp only
    rw [if_pos (by rw [tx_size]; exact hlt)]
    by_cases ha : l[pos].toNat < 128
    ·rw [dec_ascii hc ha]
     dsimp only
     by_cases hs : spaR l[pos].toNat = true
     ·rw [if_pos hs]
      cases st with
      | none =>
       dsimp only
       rw [spans_words l f (pos + 1) none acc (by omega) (by omega) (by intro a h; cases h), hd]
       simp only [curOf]
       rw [wordsGo, if_pos (show spa8 l[pos] = true from hs), if_pos rfl]
      | some a =>
       have hap := hst a rfl
       dsimp only
       rw [spans_words l f (pos + 1) none _ (by omega) (by omega) (by intro a h; cases h), hd]
       have hne : ¬ (l.drop a).take (pos - a) = [] := fun e => by
        have := congrArg List.length e
        simp at this
        omega
       simp only [curOf]
       rw [wordsGo, if_pos (show spa8 l[pos] = true from hs), if_neg hne]
       simp [tx_cut]
     ·rw [if_neg hs]
      have hs' : spa8 l[pos] = false := by simpa [spa8] using hs
      have e1 := curOf_add l pos 1 st hst (Nat.le_refl 1)
      rw [hd] at e1
      rw [hd, wordsGo, if_neg (by rw [hs']; decide)]
      have e2 : curOf l pos st ++ [l[pos]] = curOf l (pos + 1) (some (st.getD pos)) := by rw [e1]; rfl
      rw [e2]
      have := spans_words l f (pos + 1) (some (st.getD pos)) acc (by omega) (by omega) (by
       intro a h
       cases h
       cases st with
       | none => simp
       | some b => have := hst b rfl; simp; omega)
      cases st with
      | none => exact this
      | some b => exact this
    ·obtain ⟨g1, g2, g3, g4⟩ := dec_hi hc ha
     generalize Utf8.decode (tx l) pos = D at g1 g2 g3 g4
     have hs : ¬ spaR D.1 = true := by
      unfold spaR
      simp
      omega
     rw [if_neg hs]
     have e1 := curOf_add l pos D.2 st hst g2
     have e3 : wordsGo (curOf l pos st) (l.drop pos) = wordsGo (curOf l (pos + D.2) (some (st.getD pos))) (l.drop (pos + D.2)) := by
      rw [e1, ← wordsGo_skip _ _ _ (fun c hc => spa8_hi (g4 c hc)), ← List.drop_drop, List.take_append_drop]
     rw [e3]
     have := spans_words l f (pos + D.2) (some (st.getD pos)) acc (by omega) g3 (by
       intro a h
       cases h
       cases st with
       | none => simp; omega
       | some b => have := hst b rfl; simp; omega)
     cases st with
     | none => exact this
     | some b => exact this
  ·have hpe : pos = l.length := by omega
   rw [Lib.spansFromP_end _ _ _ _ _ _ (by rw [tx_size]; exact hlt), List.drop_eq_nil_of_le (by omega)]
   cases st with
   | none => simp [Lib.closeSpans, curOf, wordsGo]
   | some a =>
    have hap := hst a rfl
    have hne : ¬ (l.drop a).take (pos - a) = [] := fun e => by
     have := congrArg List.length e
     simp at this
     omega
    have e : wordsGo (curOf l pos (some a)) [] = [curOf l pos (some a)] := by
     unfold wordsGo
     exact if_neg hne
    rw [e]
    simp [Lib.closeSpans, curOf, tx_cut, tx_size, hpe]
theorem wordsB_eq (l : List UInt8) : wordsB (tx l) = (wordsN l).map tx := by
 have := spans_words l l.length 0 none [] (by omega) (by omega) (by intro a h; cases h)
 simpa [wordsB, Lib.goFieldsP, Lib.spansOfP, curOf, tx_size, wordsN] using this
theorem wordsGo_ok : ∀ (t cur : List UInt8), ∀ w ∈ wordsGo cur t, w ≠ [] ∧ w.length ≤ cur.length + t.length
 | [], cur, w, hw => by
  unfold wordsGo at hw
  split at hw
  ·cases hw
  ·rw [List.mem_singleton] at hw
   subst hw
   exact ⟨by assumption, by simp⟩
 | c :: t, cur, w, hw => by
  unfold wordsGo at hw
  split at hw
  ·split at hw
   ·have := wordsGo_ok t [] w hw
    simp at this ⊢
    exact ⟨this.1, by omega⟩
   ·rcases List.mem_cons.1 hw with h | h
    ·subst h
     exact ⟨by assumption, by simp⟩
    ·have := wordsGo_ok t [] w h
     simp at this ⊢
     exact ⟨this.1, by omega⟩
  ·have := wordsGo_ok t (cur ++ [c]) w hw
   simp at this ⊢
   exact ⟨this.1, by omega⟩
theorem words_ok {l w : List UInt8} (h : w ∈ wordsN l) : w ≠ [] ∧ w.length ≤ l.length := by
 have := wordsGo_ok l [] w h
 simpa using this
theorem wordsGo_len : ∀ (t cur : List UInt8), (wordsGo cur t).length ≤ t.length + 1
 | [], cur => by unfold wordsGo; split <;> simp
 | c :: t, cur => by
  unfold wordsGo
  have h1 := wordsGo_len t []
  have h2 := wordsGo_len t (cur ++ [c])
  split
  ·split
   ·simp; omega
   ·simp; omega
  ·simp; omega
/-- The lines of a text behind what is read of one. -/
def linesGo : List UInt8 → List UInt8 → List (List UInt8)
 | cur, [] => [cur]
 | cur, c :: t => if c = 10 then cur :: linesGo [] t else linesGo (cur ++ [c]) t
/-- The lines of a text. -/
def linesN (l : List UInt8) : List (List UInt8) := linesGo [] l
theorem index10 : ∀ s : List UInt8, (Lib.index s [10] = -1 ∧ ∀ cur, linesGo cur s = [cur ++ s]) ∨ ∃ i : Nat, Lib.index s [10] = (i : Int) ∧ i < s.length ∧ ∀ cur, linesGo cur s = (cur ++ s.take i) :: linesGo [] (s.drop (i + 1))
 | [] => .inl ⟨rfl, fun cur => by simp [linesGo]⟩
 | c :: t => by
  by_cases hc : c = 10
  ·refine .inr ⟨0, ?_, by simp, fun cur => ?_⟩
   ·unfold Lib.index
    rw [if_pos (by rw [hc]; rfl)]
    rfl
   ·rw [linesGo, if_pos hc]
    simp
  ·have hp : ¬ ([10] : List UInt8).isPrefixOf (c :: t) = true := by
    simp [List.isPrefixOf]
    exact fun h => hc h.symm
   rcases index10 t with ⟨h1, h2⟩ | ⟨i, h1, h2, h3⟩
   ·refine .inl ⟨?_, fun cur => ?_⟩
    ·unfold Lib.index
     rw [if_neg hp, h1, if_pos (by decide)]
    ·rw [linesGo, if_neg hc, h2]
     simp
   ·refine .inr ⟨i + 1, ?_, by simp; omega, fun cur => ?_⟩
    ·unfold Lib.index
     rw [if_neg hp, h1, if_neg (by simp)]
     omega
    ·rw [linesGo, if_neg hc, h3]
     simp
theorem split_lines : ∀ (f : Nat) (s : List UInt8), s.length < f → Lib.splitK [10] 0 (Lib.countFrom [10] f s) s = linesGo [] s
 | 0, s, h => by omega
 | f + 1, s, h => by
  rcases index10 s with ⟨h1, h2⟩ | ⟨i, h1, h2, h3⟩
  ·rw [Lib.countFrom, if_pos (by rw [h1]; rfl), h2]
   simp [Lib.splitK]
  ·have hb : ¬ (Lib.index s [10] == -1) = true := by rw [h1]; simp
   have e : (Lib.index s [10]).toNat = i := by rw [h1]; rfl
   rw [Lib.countFrom, if_neg hb, Nat.add_comm 1, Lib.splitK, if_neg hb, e]
   simp only [List.length_singleton, Nat.add_zero]
   rw [split_lines f _ (by simp; omega), h3]
   simp
theorem linesB_eq (l : List UInt8) : linesB l = (linesN l).map tx := by
 have h := Lib.splitB_data (tx [10]) 0 (Lib.countB (tx l) (tx [10])) (tx l)
 have h2 : (linesB l).map (·.data.toList) = linesN l := by
  refine h.trans ?_
  exact split_lines (l.length + 1) l (by omega)
 rw [← h2, List.map_map]
 have : (tx ∘ fun x : ByteArray => x.data.toList) = id := by
  funext x
  simp [tx]
 rw [this, List.map_id]
theorem linesGo_ok : ∀ (t cur : List UInt8), (linesGo cur t).length ≤ t.length + 1 ∧ ∀ w ∈ linesGo cur t, w.length ≤ cur.length + t.length
 | [], cur => by simp [linesGo]
 | c :: t, cur => by
  unfold linesGo
  have h1 := linesGo_ok t []
  have h2 := linesGo_ok t (cur ++ [c])
  simp at h1 h2
  split
  ·refine ⟨by simp; omega, fun w hw => ?_⟩
   rcases List.mem_cons.1 hw with h | h
   ·subst h; omega
   ·have := h1.2 w h
    simp; omega
  ·refine ⟨by simp; omega, fun w hw => ?_⟩
   have := h2.2 w hw
   simp; omega
theorem lines_ok (l : List UInt8) : (linesN l).length ≤ l.length + 1 ∧ ∀ w ∈ linesN l, w.length ≤ l.length := by
 have := linesGo_ok l []
 simpa [linesN] using this
/-- A net under way: the layers behind which others stand, and the last. -/
structure NS where
 inn : Int
 ls : List LN
 last : Option LN
def NS.all (s : NS) : List LN := s.ls ++ s.last.toList
def bNet : List UInt8 := [110, 101, 116]
def bAff : List UInt8 := [97, 102, 102, 105, 110, 101]
def bRel : List UInt8 := [114, 101, 108, 117]
def bMax : List UInt8 := [109, 97, 120]
def bRow : List UInt8 := [114, 111, 119]
def bOf : List UInt8 := [111, 102]
def kindOf (h : List UInt8) : Option Int := if h = bAff then some 1 else if h = bRel then some 2 else if h = bMax then some 3 else none
def ratsW : List (List UInt8) → Option (List Rat)
 | [] => some []
 | x :: t => match parseR x with
  | none => none
  | some r => match ratsW t with
   | none => none
   | some l => some (r :: l)
def cntsW : List (List UInt8) → Option (List Int)
 | [] => some []
 | x :: t => match cntN x with
  | none => none
  | some n => match cntsW t with
   | none => none
   | some l => some ((n : Int) :: l)
/-- What a line makes of a net; none: it is wrong. -/
def lineS (s : NS) (h : List UInt8) (t : List (List UInt8)) (first : Bool) : Option NS :=
 if h = bNet then (match t with
  | [x] => (match cntN x with
   | some n => if first = true then some ⟨n, s.ls, s.last⟩ else none
   | none => none)
  | _ => none)
 else match kindOf h with
 | some k => if t = [] ∧ first = false then some ⟨s.inn, s.all, some ⟨k, [], [], []⟩⟩ else none
 | none =>
  if h = bRow then (match s.last with
   | some l => if l.kind = 1 then (match ratsW t with
    | some rs => (match rs.getLast? with
     | some q => some ⟨s.inn, s.ls, some ⟨l.kind, l.W ++ [rs.dropLast], l.B ++ [q], l.G⟩⟩
     | none => none)
    | none => none) else none
   | none => none)
  else if h = bOf then (match s.last with
   | some l => if l.kind = 3 then (match cntsW t with
    | some g => some ⟨s.inn, s.ls, some ⟨l.kind, l.W, l.B, l.G ++ [g]⟩⟩
    | none => none) else none
   | none => none)
  else none
def rowsOf (s : NS) (xW xB xG : Value) : List (List D) := s.ls.map enLN ++ (match s.last with
 | none => []
 | some l => [[.v (.int .i64 l.kind), .v xW, .v xB, .v xG]])
def lastW (s : NS) : List (List D) := match s.last with
 | none => []
 | some l => l.W.map fun r => [enRs r]
def lastB (s : NS) : List (List D) := match s.last with
 | none => []
 | some l => l.B.map enR
def lastG (s : NS) : List (List D) := match s.last with
 | none => []
 | some l => l.G.map fun g => [enIs g]
/-- The net's own things: its variable, its row of layers, the last layer's rows. -/
def netP (b : Nat) (xL xW xB xG : Value) (s : NS) : List (Value × Rel) :=
 [(ptv b 0, boxR b 25 [.v (.int .i64 s.inn), .v xL]), (xL, rowR xL 30 4 (rowsOf s xW xB xG)), (xW, rowR xW 27 1 (lastW s)), (xB, rowR xB 119 3 (lastB s)), (xG, rowR xG 31 1 (lastG s))]
/-- A row of n that lies somewhere. -/
def Plc (x : Value) (n : Nat) : Prop := (n = 0 ∧ x = .slice none 0 0) ∨ ∃ b c, x = slv b n c
def NS.wf (s : NS) (n : Nat) : Prop := s.ls.length ≤ n ∧ (s.last = none → s.ls = []) ∧ ∀ l, s.last = some l → l.W.length ≤ n ∧ l.B.length ≤ n ∧ l.G.length ≤ n
abbrev nil3 : Value := .slice none 0 0
def lineQ (b : Nat) (s : NS) (h : List UInt8) (t : List (List UInt8)) (first : Bool) (post : List (Value × Rel)) (res : List DV) : Prop :=
 (lineS s h t first = none ∧ res = [.d (.v (.bool false))]) ∨ ∃ s', lineS s h t first = some s' ∧ res = [.d (.v (.bool true))] ∧ ∃ xL xW xB xG, (Plc xL (s'.ls.length + s'.last.toList.length) ∧ (s'.last = none → xL = nil3 ∧ xW = nil3 ∧ xB = nil3 ∧ xG = nil3)) ∧ post = netP b xL xW xB xG s'
section
variable {P : Program} {C : Cx} {o : Oper} {σ : AS}
theorem Loc.nilV {x : Operand} {b p : Nat} (ho : o.op = .nilCheck x) (hx : ev σ x = .d (.v (ptv b p))) : Loc P C o σ (.d (.v (ptv b p))) :=
 Loc.one (by rw [ho]; simp [Op.operands]) hx fun S w β O a h1 => ⟨ptv b p, by unfold execOp; rw [ho]; simp [RA.val h1], .mk rfl⟩
theorem Loc.nilP {x : Operand} {id off : Nat} {T' : TypeId} {cs : List AV} (ho : o.op = .nilCheck x) (hx : ev σ x = .p id off) (hO : get? σ.objs id = some (.box T' cs)) : LocX P C o σ (.p id off) id :=
 Loc.quiet fun σ' hl β a w hi => by
  have h1 := hl.ra hi (x := x) (by rw [ho]; simp [Op.operands])
  rw [hx] at h1
  obtain ⟨T2, cs2, hO2⟩ := hl.box id (by simp) T' cs hO
  obtain ⟨b, hb, hu⟩ := h1 T2 cs2 hO2
  refine ⟨_, by unfold execOp; rw [ho]; simp [hu], fun T'' cs'' h => ⟨b, hb, rfl⟩⟩
theorem Loc.idxVo {T : TypeId} {x y : Operand} {kd : IntKind} {m : Int} {b p n c e k by_ : Nat} (i : Nat) (ho : o.op = .indexAddr T x y) (hx : ev σ x = .d (.v (.slice (some ⟨b, p, none⟩) n c))) (hy : ev σ y = .d (.v (.int kd m))) (hm : m = (i : Int)) (hi : i < n) [h : Sl P T e k by_] : Loc P C o σ (.d (.v (ptv b (p + i * k)))) := by
 subst hm
 exact Loc.two (by rw [ho]; simp [Op.operands]) hx (by rw [ho]; simp [Op.operands]) hy fun S w β O a h1 h2 =>
  ⟨ptv b (p + i * k), by unfold execOp; rw [ho]; simp [RA.val h1, RA.val h2, run_indexAt h.e b p n c kd i hi], .mk rfl⟩
/-- A cell that stays as it is in all worlds of the call. -/
theorem Loc.loadW {T : TypeId} {x : Operand} {b p m : Nat} {v : Value} (ho : o.op = .load T x) (hx : ev σ x = .d (.v (ptv b p))) [h : Sz P T false m] (hv : v.oneCell' = true) (hc : ∀ σ' β a w, Inv C σ' β a w → w.cell? ⟨b, p, none⟩ = some v) : Loc P C o σ (.d (.v v)) :=
 Loc.quiet fun σ' hl β a w hi' => by
  have h1 := hl.ra hi' (x := x) (by rw [ho]; simp [Op.operands])
  rw [hx] at h1
  obtain ⟨td, hd1, hd2⟩ := h.u
  exact ⟨v, by unfold execOp; rw [ho]; simp [RA.val h1, run_loadAt_one hd1 hd2 b p v w (hc _ _ _ _ hi')], .v hv⟩
end
/-- A walk that stops at regions of any order; the net's variable is told. -/
theorem wl {p q : Prop} (k : q) (hs : Wk q → p := by
  intro k
  try (first | intro K ms hms hK | intro K hK)
  repeat (first
   | refine Chain.no rfl rfl ?_
   | refine Chain.noD rfl rfl ?_
   | ((first | apply Chain.go | apply Chain.goD); exact rfl; exact rfl; first
    | exact Loc.move (v := .d _) rfl rfl
    | exact Loc.assign (v := .d _) rfl rfl
    | exact Loc.nilV rfl rfl
    | exact Loc.nilP rfl rfl rfl
    | exact Loc.fieldV rfl rfl
    | exact Loc.lenV rfl rfl
    | exact Loc.loadB1 (id := 288) rfl rfl rfl rfl
    | exact Loc.loadP1 rfl rfl rfl rfl
    | exact Loc.loadQ1 rfl rfl rfl
    | exact Loc.fieldP rfl rfl rfl
    | exact Loc.fieldQ rfl rfl
    | exact Loc.pickT (v := .d _) rfl rfl rfl
    | exact Loc.pickF (v := .d _) rfl rfl rfl
    | exact Loc.loadPn rfl rfl rfl rfl (by kernel_rfl)
    | exact Loc.loadQw rfl rfl rfl
    | exact Loc.loadQn rfl rfl rfl rfl
    | exact Loc.idxM rfl rfl rfl rfl (by assumption) rfl
    | exact Loc.lenM rfl rfl
    | exact Loc.lenN rfl rfl
    | exact Loc.lenR rfl rfl rfl
    | exact Loc.len rfl rfl
    | exact Loc.lssT rfl rfl rfl (by omega)
    | exact Loc.lssF rfl rfl rfl (by omega)
    | exact Loc.eqlT rfl rfl rfl (by omega)
    | exact Loc.eqlF rfl rfl rfl (by omega)
    | exact Loc.neqT rfl rfl rfl (by omega)
    | exact Loc.neqF rfl rfl rfl (by omega)
    | exact Loc.gtrT rfl rfl rfl (by omega)
    | exact Loc.gtrF rfl rfl rfl (by omega)
    | exact Loc.geqT rfl rfl rfl (by omega)
    | exact Loc.geqF rfl rfl rfl (by omega)
    | exact Loc.leqT rfl rfl rfl (by omega)
    | exact Loc.leqF rfl rfl rfl (by omega)
    | exact Loc.add rfl rfl rfl (IntWalk.i64_in _ (by omega))
    | exact Loc.sub rfl rfl rfl (IntWalk.i64_in _ (by omega))
    | exact Loc.notT rfl rfl
    | exact Loc.notF rfl rfl
    | exact Loc.fieldE rfl rfl rfl
    | exact Loc.loadE1 rfl rfl rfl (by assumption) rfl
    | exact Loc.idxR rfl rfl rfl rfl rfl (by omega) rfl
    | exact Loc.move (v := .g _) rfl rfl
    | exact Loc.move (v := .p _ _) rfl rfl
    | exact Loc.move (v := .r _ _) rfl rfl
    | exact Loc.move (v := .t _) rfl rfl
    | exact Loc.assign (v := .g _) rfl rfl
    | exact Loc.assign (v := .r _ _) rfl rfl
    | exact Loc.assign (v := .p _ _) rfl rfl
    | exact Loc.extract (v := .d _) rfl rfl rfl rfl
    | exact Loc.extract (v := .g _) rfl rfl rfl rfl
    | exact Loc.pickT (v := .g _) rfl rfl rfl
    | exact Loc.pickF (v := .g _) rfl rfl rfl
    | exact Loc.move (v := .un) rfl rfl
    | exact Loc.build rfl rfl rfl rfl
    | exact Loc.litP rfl rfl rfl rfl rfl rfl rfl)
   | refine Chain.nil0 (hK _ ?_)
   | ((first | apply Chain.st | apply Chain.stD); exact rfl; exact rfl; (first
    | exact Do.storeB (id := 288) rfl rfl rfl rfl rfl rfl rfl rfl
    | exact Do.storeP rfl rfl rfl rfl .g rfl rfl rfl
    | exact Do.storeP rfl rfl rfl rfl .d rfl rfl rfl
    | exact Do.storeP rfl rfl rfl rfl (.r rfl) rfl rfl rfl); exact rfl; exact rfl)
   | ((first | apply Chain.ef | apply Chain.efD); exact rfl; exact rfl; (first
    | exact Do.alloc rfl rfl rfl
    | exact Do.box rfl rfl rfl .g rfl
    | exact Do.box rfl rfl rfl .d rfl
    | exact Do.lit0 rfl rfl
    | exact Do.append1 rfl rfl rfl rfl rfl rfl (by first | omega | (simp; omega))
    | exact Do.appendN1 rfl rfl rfl rfl rfl rfl); exact rfl; exact rfl)
   | refine Chain.nilD (by rw [hms]; kernel_rfl) (hK _ ?_)
   | refine Chain.noN rfl rfl ?_
   | refine AC.seq ?_
   | (refine AC.reg (by decide +kernel) ?_; intro K hK)
   | (refine AC.regG (by decide +kernel) ?_; intro K hK)
   | refine AC.condT rfl ?_
   | refine AC.condF rfl ?_
   | refine AC.block ?_
   | refine AC.exit ?_
   | refine AC.ret ?_
   | refine AC.skip ?_)
  first
   | exact k.out
   | (revert K; exact k.out)
   | (revert K ms; exact k.out)) : p := hs ⟨k⟩
end Go.Proofs.YthdkkpocihkgbaaGreatDoor
