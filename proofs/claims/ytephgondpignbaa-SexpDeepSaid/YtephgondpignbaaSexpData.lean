/-
  Texts in brackets as plain data, and what the functions of layer 12 compute of them. No program in sight.
-/
import Derived.Test.YtephgondpignbaaBase
namespace Go.Proofs.Ytephgondpignbaa

/-- A word, or a list. -/
inductive T where
  | mk (leaf : Bool) (word : ByteArray) (list : List T)
def T.leaf : T → Bool | .mk l _ _ => l
def T.word : T → ByteArray | .mk _ w _ => w
def T.list : T → List T | .mk _ _ l => l
instance : Inhabited T := ⟨.mk false .empty []⟩

def RpT : Nat → Rp T
  | 0 => { k := 3, rel := fun _ _ _ _ => False, len := fun h => h.elim, one := fun h => h.elim, keep := fun h _ => h }
  | d + 1 => (Rp.pair Rp.bool (Rp.pair Rp.str (Rp.slice (RpT d)))).map fun t => (t.leaf, t.word, t.list)

theorem RpT_k (d : Nat) : (RpT d).k = 3 := by cases d <;> rfl

/-- An element's three cells. -/
theorem openT {S : Nat → Prop} {w : World} {d : Nat} {cs : List Value} {t : T} (h : (RpT d).rel S w cs t) :
    ∃ d' v, d = d' + 1 ∧ cs = [.bool t.leaf, .string t.word, v] ∧ t.word.size ≤ 9223372036854775807 ∧ (Rp.slice (RpT d')).rel S w [v] t.list := by
  cases d with
  | zero => exact h.elim
  | succ d =>
    obtain ⟨c, e, rfl, hc, hd⟩ := h
    obtain ⟨c2, e2, rfl, hc2, hd2⟩ := hd
    obtain ⟨a, cc, rfl, _⟩ := id hd2
    exact ⟨d, _, rfl, by rw [show c = _ from hc, show c2 = _ from hc2.1]; rfl, hc2.2, hd2⟩

theorem mkT {S : Nat → Prop} {w : World} {d : Nat} {v : Value} {l : Bool} {s : ByteArray} {ts : List T} (h : (Rp.slice (RpT d)).rel S w [v] ts) (hs : s.size ≤ 9223372036854775807) :
    (RpT (d + 1)).rel S w [.bool l, .string s, v] (.mk l s ts) :=
  ⟨[.bool l], [.string s, v], rfl, rfl, [.string s], [v], rfl, ⟨rfl, hs⟩, h⟩

/-- A slice of them: element i's cells as the walk spells them. -/
theorem elemT {S : Nat → Prop} {w : World} {d : Nat} {a : Option Addr} {n c : Nat} {l : List T} (h : (Rp.slice (RpT d)).rel S w [.slice a n c] l) (i : Nat) (hi : i < l.length) :
    ∃ b o a' n' c' d', a = some ⟨b, o, none⟩ ∧ S b ∧ d = d' + 1 ∧ w.cell? ⟨b, o + i * 3, none⟩ = some (.bool l[i].leaf) ∧ w.cell? ⟨b, o + i * 3 + 1, none⟩ = some (.string l[i].word) ∧ l[i].word.size ≤ 9223372036854775807 ∧
      w.cell? ⟨b, o + i * 3 + 2, none⟩ = some (.slice a' n' c') ∧ (Rp.slice (RpT d')).rel S w [.slice a' n' c'] l[i].list := by
  obtain ⟨a', c', e, h1, h2, h3⟩ := h
  injection e with e
  injection e with e1 e2 e3
  obtain ⟨b, o, ha, hb, hel⟩ := h3 (by omega)
  obtain ⟨es, hr, hc⟩ := hel i hi
  obtain ⟨d', v, hd, rfl, hwz, hs⟩ := openT hr
  rw [RpT_k] at hc
  obtain ⟨a2, c2, e4, _⟩ := id hs
  injection e4 with e4
  subst e4
  exact ⟨b, o, a2, _, c2, d', by rw [e1, ha], hb, hd, by simpa using hc 0 (by simp), by simpa [Nat.add_assoc] using hc 1 (by simp), hwz, by simpa [Nat.add_assoc] using hc 2 (by simp), hs⟩

/-! ### sized -/
mutual
def T.sized : T → Int → Int → Int × Bool
  | .mk leaf _ l, n, d =>
    if 100000 < n + 1 then (n + 1, false)
    else if leaf then (n + 1, true)
    else if d = 200 then (n + 1, false) else sizedL l (n + 1) (d + 1)
def sizedL : List T → Int → Int → Int × Bool
  | [], n, _ => (n, true)
  | t :: r, n, d => if (t.sized n d).2 then sizedL r (t.sized n d).1 d else t.sized n d
end
mutual
theorem T.sized_le : (t : T) → (n d : Int) → n ≤ 100000 → n ≤ (t.sized n d).1 ∧ (t.sized n d).1 ≤ 100001 ∧ ((t.sized n d).2 = true → (t.sized n d).1 ≤ 100000)
  | .mk leaf _ l, n, d, h => by
    unfold T.sized
    split
    · exact ⟨by simp; omega, by simp; omega, by simp⟩
    · split
      · exact ⟨by simp; omega, by simp; omega, by simp; omega⟩
      · split
        · exact ⟨by simp; omega, by simp; omega, by simp⟩
        · have h := sizedL_le l (n + 1) (d + 1) (by omega); exact ⟨by omega, h.2.1, h.2.2⟩
theorem sizedL_le : (l : List T) → (n d : Int) → n ≤ 100000 → n ≤ (sizedL l n d).1 ∧ (sizedL l n d).1 ≤ 100001 ∧ ((sizedL l n d).2 = true → (sizedL l n d).1 ≤ 100000)
  | [], n, d, h => by unfold sizedL; exact ⟨by simp, by simp; omega, by simp; omega⟩
  | t :: r, n, d, h => by
    have h1 := T.sized_le t n d h
    unfold sizedL
    split
    · rename_i hs
      have h2 := sizedL_le r (t.sized n d).1 d (h1.2.2 hs)
      exact ⟨by omega, h2.2.1, h2.2.2⟩
    · exact h1
end
theorem T.sized_eq (t : T) (n d : Int) : t.sized n d = if 100000 < n + 1 then (n + 1, false) else if t.leaf then (n + 1, true) else if d = 200 then (n + 1, false) else sizedL t.list (n + 1) (d + 1) := by
  cases t; rfl
theorem sizedL_step (l : List T) (k : Nat) (h : k < l.length) (q d : Int) : sizedL (l.drop k) q d = if (l[k].sized q d).2 then sizedL (l.drop (k + 1)) (l[k].sized q d).1 d else l[k].sized q d := by
  rw [List.drop_eq_getElem_cons h]; rfl

/-! ### words -/
def isPlain (c : UInt8) : Bool := decide (32 < c.toNat) && decide (c.toNat < 127) && !(c.toNat == 40) && !(c.toNat == 41) && !(c.toNat == 59)
def wordOk (s : ByteArray) : Bool := !s.data.toList.isEmpty && s.data.toList.all isPlain
mutual
def T.worded : T → Bool
  | .mk leaf w l => if leaf then wordOk w else wordedL l
def wordedL : List T → Bool
  | [] => true
  | t :: r => t.worded && wordedL r
end
theorem T.worded_eq (t : T) : t.worded = if t.leaf then wordOk t.word else wordedL t.list := by cases t; rfl
theorem wordedL_step (l : List T) (k : Nat) (h : k < l.length) : wordedL (l.drop k) = (l[k].worded && wordedL (l.drop (k + 1))) := by
  rw [List.drop_eq_getElem_cons h]; rfl

/-! ### texts -/
mutual
def T.text : T → List UInt8
  | .mk leaf w l => if leaf then w.data.toList else 40 :: (bodyL l ++ [41])
def bodyL : List T → List UInt8
  | [] => []
  | t :: r => t.text ++ moreL r
def moreL : List T → List UInt8
  | [] => []
  | t :: r => 32 :: (t.text ++ moreL r)
end
def linesL : List T → List UInt8
  | [] => []
  | t :: r => t.text ++ 10 :: linesL r
theorem T.text_eq (t : T) : t.text = if t.leaf then t.word.data.toList else 40 :: (bodyL t.list ++ [41]) := by cases t; rfl

/-! ### the reader -/
def isBlank (c : UInt8) : Bool := c == 32 || c == 9 || c == 10 || c == 13
/-- Over blanks and remarks (true: within one). -/
def skipL : Bool → List UInt8 → List UInt8
  | _, [] => []
  | false, c :: r => if isBlank c then skipL false r else if c == 59 then skipL true r else c :: r
  | true, c :: r => if c == 10 then skipL false r else skipL true r
theorem skipL_len (b : Bool) (s : List UInt8) : (skipL b s).length ≤ s.length := by
  induction s generalizing b with
  | nil => cases b <;> simp [skipL]
  | cons c r ih =>
    have h1 := ih true
    have h2 := ih false
    cases b <;> simp only [skipL] <;> (repeat' split) <;> simp only [List.length_cons] <;> omega

/-- What has been read; or the error, and how many bytes lie from its place on. -/
inductive PR where
  | ok (out : List T) (rest : List UInt8) (nodes : Int)
  | bad (err : Int) (left : Nat)
def PR.cons (t : T) : PR → PR
  | .ok out r n => .ok (t :: out) r n
  | .bad e p => .bad e p
def PR.next (p : PR) (f : List T → List UInt8 → Int → PR) : PR := match p with
  | .ok out r n => f out r n
  | .bad e p => .bad e p
def parseL : Nat → Int → List UInt8 → Int → PR
  | 0, _, _, _ => .bad 0 0
  | f + 1, d, s, n =>
    match skipL false s with
    | [] => if 0 < d then .bad 3 0 else .ok [] [] n
    | c :: r =>
      if c = 41 then (if d = 0 then .bad 3 (r.length + 1) else .ok [] r n)
      else if 100000 < n + 1 ∨ (c = 40 ∧ d = 200) then .bad 2 (r.length + 1)
      else if c = 40 then
        (parseL f (d + 1) r (n + 1)).next fun sub r' n' => (parseL f d r' n').cons (.mk false .empty sub)
      else if isPlain c then
        (parseL f d ((c :: r).dropWhile isPlain) (n + 1)).cons (.mk true ⟨((c :: r).takeWhile isPlain).toArray⟩ [])
      else .bad 3 (r.length + 1)

mutual
def T.norm : T → T
  | .mk leaf w l => if leaf then .mk true w [] else .mk false .empty (normL l)
def normL : List T → List T
  | [] => []
  | t :: r => t.norm :: normL r
end

theorem skip_plain {c : UInt8} (h : isPlain c = true) (r : List UInt8) : skipL false (c :: r) = c :: r := by
  have h1 : isBlank c = false := by
    simp only [isPlain, isBlank, Bool.and_eq_true, decide_eq_true_eq] at h ⊢
    have := h.1.1.1.1
    simp only [Bool.or_eq_false_iff, beq_eq_false_iff_ne, ne_eq]
    refine ⟨⟨⟨?_, ?_⟩, ?_⟩, ?_⟩ <;> (rintro rfl; simp at this)
  have h2 : (c == 59) = false := by
    simp only [isPlain, Bool.and_eq_true] at h
    have := h.2
    simp only [beq_eq_false_iff_ne, ne_eq]
    rintro rfl; simp at this
  simp [skipL, h1, h2]
theorem plain_ne {c : UInt8} (h : isPlain c = true) : c ≠ 40 ∧ c ≠ 41 := by
  simp only [isPlain, Bool.and_eq_true] at h
  constructor <;> (rintro rfl; simp at h)

/-- What a text may go on with: a byte that is of no word. -/
def Ends (s : List UInt8) : Prop := ∀ c r, s = c :: r → isPlain c = false
theorem take_word {w : List UInt8} (h : w.all isPlain = true) {s : List UInt8} (hs : Ends s) : (w ++ s).takeWhile isPlain = w ∧ (w ++ s).dropWhile isPlain = s := by
  induction w with
  | nil =>
    cases s with
    | nil => simp
    | cons c r => have := hs c r rfl; simp [this]
  | cons c r ih =>
    simp only [List.all_cons, Bool.and_eq_true] at h
    simp [h.1, ih h.2]

theorem parse_blank {c : UInt8} (h : isBlank c = true) (f : Nat) (d : Int) (s : List UInt8) (n : Int) : parseL f d (c :: s) n = parseL f d s n := by
  cases f with
  | zero => rfl
  | succ f => simp [parseL, skipL, h]
theorem parse_close (f : Nat) (d : Int) (s : List UInt8) (n : Int) (h : 0 < d) : parseL (f + 1) d (41 :: s) n = .ok [] s n := by
  have hsk : skipL false (41 :: s) = 41 :: s := by simp [skipL, isBlank]
  simp only [parseL, hsk, if_true]
  rw [if_neg (by omega)]
theorem ends_more (l : List T) (s : List UInt8) : Ends (moreL l ++ 41 :: s) := by
  intro c r h
  cases l with
  | nil => simp only [moreL, List.nil_append, List.cons.injEq] at h; rw [← h.1]; rfl
  | cons t l => simp only [moreL, List.cons_append, List.cons.injEq] at h; rw [← h.1]; rfl
theorem text_pos (t : T) (h : t.worded = true) : 0 < t.text.length := by
  rw [T.text_eq]
  rw [T.worded_eq] at h
  split
  · rename_i hl
    rw [if_pos hl] at h
    simp only [wordOk, Bool.and_eq_true] at h
    cases e : t.word.data.toList with
    | nil => simp [e] at h
    | cons => simp
  · simp

mutual
theorem parse_T : (t : T) → (f : Nat) → (d n : Int) → (s : List UInt8) → t.worded = true → (t.sized n d).2 = true → Ends s → (t.text ++ s).length < f + 2 → 0 ≤ d →
    parseL (f + 1) d (t.text ++ s) n = (parseL f d s (t.sized n d).1).cons t.norm
  | .mk leaf w l, f, d, n, s, hw, hz, hs, hf, hd0 => by
    cases leaf with
    | true =>
      simp only [T.worded, if_true, wordOk, Bool.and_eq_true] at hw
      have htw := take_word hw.2 hs
      simp only [T.sized, if_true] at hz ⊢
      split at hz
      · simp at hz
      rename_i hn
      simp only [T.text, if_true, T.norm]
      have hne : w.data.toList ≠ [] := by simpa using hw.1
      obtain ⟨c, r, hcr⟩ := List.exists_cons_of_ne_nil hne
      have hc : isPlain c = true := by have := hw.2; rw [hcr] at this; simp at this; exact this.1
      have hpn := plain_ne hc
      rw [hcr] at htw
      simp only [hcr, List.cons_append, parseL, skip_plain hc]
      rw [if_neg hpn.2, if_neg (by rintro (h | h); exact hn h; exact hpn.1 h.1), if_neg hpn.1, if_pos hc]
      rw [← List.cons_append, htw.1, htw.2, ← hcr, if_neg hn]
    | false =>
      simp only [T.worded, Bool.false_eq_true, if_false] at hw
      simp only [T.sized, Bool.false_eq_true, if_false] at hz ⊢
      split at hz
      · simp at hz
      rename_i hn
      split at hz
      · simp at hz
      rename_i hd
      simp only [T.text, Bool.false_eq_true, if_false, List.length_append, List.length_cons, List.length_nil] at hf
      have hb := parse_body l f (d + 1) (n + 1) s hw hz (by simp only [List.length_append, List.length_cons]; omega) (by omega)
      simp only [T.text, Bool.false_eq_true, if_false, T.norm, List.cons_append, List.append_assoc, List.nil_append]
      have hsk : ∀ x, skipL false (40 :: x) = 40 :: x := fun x => by simp [skipL, isBlank]
      simp only [parseL, hsk, if_true]
      rw [if_neg (by decide), if_neg (by rintro (h | h); exact hn h; exact hd h.2), if_neg hn, if_neg hd, hb]
      rfl
theorem parse_body : (l : List T) → (f : Nat) → (d n : Int) → (s : List UInt8) → wordedL l = true → (sizedL l n d).2 = true → (bodyL l ++ 41 :: s).length < f + 1 → 0 < d →
    parseL f d (bodyL l ++ 41 :: s) n = .ok (normL l) s (sizedL l n d).1
  | [], f, d, n, s, _, _, hf, hd => by
    cases f with
    | zero => simp at hf
    | succ f => exact parse_close f d s n hd
  | t :: r, f, d, n, s, hw, hz, hf, hd => by
    simp only [wordedL, Bool.and_eq_true] at hw
    have hp := text_pos t hw.1
    simp only [bodyL, List.append_assoc] at hf ⊢
    simp only [sizedL] at hz ⊢
    cases e : (t.sized n d).2 with
    | false => rw [e] at hz; simp [e] at hz
    | true =>
      rw [e] at hz
      simp only [if_true] at hz ⊢
      cases f with
      | zero => simp only [List.length_append] at hf; omega
      | succ f =>
        simp only [List.length_append] at hf
        rw [parse_T t f d n _ hw.1 e (ends_more r s) (by simp only [List.length_append]; omega) (by omega), parse_more r f d _ s hw.2 hz (by simp only [List.length_append]; omega) hd]
        rfl
theorem parse_more : (l : List T) → (f : Nat) → (d n : Int) → (s : List UInt8) → wordedL l = true → (sizedL l n d).2 = true → (moreL l ++ 41 :: s).length < f + 1 → 0 < d →
    parseL f d (moreL l ++ 41 :: s) n = .ok (normL l) s (sizedL l n d).1
  | [], f, d, n, s, _, _, hf, hd => by
    cases f with
    | zero => simp at hf
    | succ f => exact parse_close f d s n hd
  | t :: r, f, d, n, s, hw, hz, hf, hd => by
    simp only [wordedL, Bool.and_eq_true] at hw
    have hp := text_pos t hw.1
    simp only [moreL, List.append_assoc, List.cons_append] at hf ⊢
    simp only [sizedL] at hz ⊢
    rw [parse_blank (by rfl)]
    cases e : (t.sized n d).2 with
    | false => rw [e] at hz; simp [e] at hz
    | true =>
      rw [e] at hz
      simp only [if_true] at hz ⊢
      cases f with
      | zero => simp only [List.length_cons, List.length_append] at hf; omega
      | succ f =>
        simp only [List.length_cons, List.length_append] at hf
        rw [parse_T t f d n _ hw.1 e (ends_more r s) (by simp only [List.length_append, List.length_cons]; omega) (by omega), parse_more r f d _ s hw.2 hz (by simp only [List.length_append, List.length_cons]; omega) hd]
        rfl
end
theorem parse_lines : (l : List T) → (f : Nat) → (n : Int) → wordedL l = true → (sizedL l n 0).2 = true → (linesL l).length < f →
    parseL f 0 (linesL l) n = .ok (normL l) [] (sizedL l n 0).1
  | [], f, n, _, _, hf => by
    cases f with
    | zero => simp at hf
    | succ f => simp [linesL, parseL, skipL, normL, sizedL]
  | t :: r, f, n, hw, hz, hf => by
    simp only [wordedL, Bool.and_eq_true] at hw
    have hp := text_pos t hw.1
    simp only [linesL, List.length_append, List.length_cons] at hf ⊢
    simp only [sizedL] at hz ⊢
    cases e : (t.sized n 0).2 with
    | false => rw [e] at hz; simp [e] at hz
    | true =>
      rw [e] at hz
      simp only [if_true] at hz ⊢
      cases f with
      | zero => omega
      | succ f =>
        rw [parse_T t f 0 n _ hw.1 e (by intro c x h; simp only [List.cons.injEq] at h; rw [← h.1]; rfl) (by simp only [List.length_append, List.length_cons]; omega) (by omega),
          parse_blank (by rfl), parse_lines r f _ hw.2 hz (by omega)]
        rfl
end Go.Proofs.Ytephgondpignbaa
