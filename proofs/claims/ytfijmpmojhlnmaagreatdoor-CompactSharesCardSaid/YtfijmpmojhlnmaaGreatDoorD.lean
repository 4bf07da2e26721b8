/-
  Plain data (trees without addresses) and what values in memory stand for them; what slots hold, told by such data. No program in sight.
-/
import Derived.Test.YtfijmpmojhlnmaaGreatDoorMem
import Derived.Deep.MidRow
namespace Go.Proofs.YtfijmpmojhlnmaaGreatDoor
open Go.RowKit

/-- A list of pairs, asked by a number. -/
def get? {α : Type} : List (Nat × α) → Nat → Option α
  | [], _ => none
  | (k, v) :: r, t => bif Nat.beq k t then some v else get? r t
theorem get?_cons {α : Type} (k : Nat) (v : α) (r : List (Nat × α)) (t : Nat) : get? ((k, v) :: r) t = if k = t then some v else get? r t := by
  simp only [get?]
  by_cases h : k = t
  · subst h; simp
  · have : Nat.beq k t = false := by
      cases e : Nat.beq k t with
      | false => rfl
      | true => exact absurd (Nat.eq_of_beq_eq_true e) h
    simp [h, this]
theorem get?_mem {α : Type} {l : List (Nat × α)} {t : Nat} {v : α} (h : get? l t = some v) : (t, v) ∈ l := by
  induction l with
  | nil => simp [get?] at h
  | cons x r ih =>
    obtain ⟨k, u⟩ := x
    rw [get?_cons] at h
    by_cases hk : k = t
    · rw [if_pos hk] at h
      injection h with h
      subst hk h
      simp
    · rw [if_neg hk] at h
      exact List.mem_cons_of_mem _ (ih h)

/-- The datum of one cell: a value that leads nowhere; a list (its elements' cells); the nil slice, known to be nil. -/
inductive D where
  | v (x : Value)
  | l (xs : List (List D))
  | n
  deriving Inhabited
/-- Forget that a nil slice is nil. -/
def D.fg : D → D
  | .n => .l []
  | d => d

/-- The value u stands for the datum; the blocks through which it is read lie in S. -/
inductive RD (S : Nat → Prop) (w : World) : Value → D → Prop
  | v {x : Value} (h : x.oneCell' = true) : RD S w x (.v x)
  | n : RD S w (.slice none 0 0) .n
  | l {a : Option Addr} {n c : Nat} {xs : List (List D)} (k : Nat) (us : Nat → Nat → Value) (hn : n = xs.length) (hc : n ≤ c) (hm : c ≤ maxLen) (hk : ∀ i (h : i < xs.length), xs[i].length = k)
      (ha : 0 < n → ∃ b o, a = some ⟨b, o, none⟩ ∧ S b ∧ ∀ i (h : i < xs.length) j, j < xs[i].length → w.cell? ⟨b, o + (i * k + j), none⟩ = some (us i j))
      (he : ∀ i (h : i < xs.length) j (hj : j < xs[i].length), RD S w (us i j) (xs[i])[j]) : RD S w (.slice a n c) (.l xs)
theorem RD.keep {S S' : Nat → Prop} {w w' : World} {u : Value} {d : D} (h : RD S w u d) (hs : ∀ b, S b → S' b ∧ w'.heap[b]? = w.heap[b]?) : RD S' w' u d := by
  induction h with
  | v h => exact .v h
  | n => exact .n
  | l k us hn hc hm hk ha he ih =>
    refine .l k us hn hc hm hk (fun hp => ?_) (fun i h j hj => ih i h j hj)
    obtain ⟨b, o, e, hb, hcell⟩ := ha hp
    exact ⟨b, o, e, (hs b hb).1, fun i h j hj => (World.cell?_of_block (w := w) (hs b hb).2).trans (hcell i h j hj)⟩
theorem RD.mono {S S' : Nat → Prop} {w : World} {u : Value} {d : D} (h : RD S w u d) (hs : ∀ b, S b → S' b) : RD S' w u d := h.keep fun b hb => ⟨hs b hb, rfl⟩
theorem RD.one {S : Nat → Prop} {w : World} {u : Value} {d : D} (h : RD S w u d) : u.oneCell' = true := by
  cases h <;> first | assumption | rfl
theorem RD.fg {S : Nat → Prop} {w : World} {u : Value} {d : D} (h : RD S w u d) : RD S w u d.fg := by
  cases h with
  | v h => exact .v h
  | n => exact .l 0 (fun _ _ => undef) rfl (Nat.le_refl _) (by simp [maxLen]) (fun i h => absurd h (by simp)) (fun h => absurd h (by simp)) (fun i h => absurd h (by simp))
  | l k us hn hc hm hk ha he => exact .l k us hn hc hm hk ha he
theorem RD.lenLe {S : Nat → Prop} {w : World} {u : Value} {xs : List (List D)} (h : RD S w u (.l xs)) : xs.length ≤ 9223372036854775807 := by
  cases h with
  | l k us hn hc hm hk ha he => unfold maxLen at hm; omega
/-- Cells that stand for data, one by one. -/
def RDs (S : Nat → Prop) (w : World) (us : List Value) (ds : List D) : Prop := us.length = ds.length ∧ ∀ i (h : i < us.length) (h' : i < ds.length), RD S w us[i] ds[i]
section
variable {S S' : Nat → Prop} {w w' : World} {us vs : List Value} {ds es : List D}
theorem RDs.keep (h : RDs S w us ds) (hs : ∀ b, S b → S' b ∧ w'.heap[b]? = w.heap[b]?) : RDs S' w' us ds := ⟨h.1, fun i h1 h2 => (h.2 i h1 h2).keep hs⟩
theorem RDs.mono (h : RDs S w us ds) (hs : ∀ b, S b → S' b) : RDs S' w us ds := h.keep fun b hb => ⟨hs b hb, rfl⟩
theorem RDs.one (h : RDs S w us ds) : ∀ u ∈ us, u.oneCell' = true := by
  intro u hu
  obtain ⟨i, hi, rfl⟩ := List.getElem_of_mem hu
  exact (h.2 i hi (by rw [← h.1]; exact hi)).one
theorem RDs.nil : RDs S w [] [] := ⟨rfl, fun i h => absurd h (by simp)⟩
theorem RDs.cons {u : Value} {d : D} (h : RD S w u d) (k : RDs S w us ds) : RDs S w (u :: us) (d :: ds) := by
  refine ⟨by simp [k.1], fun i h1 h2 => ?_⟩
  cases i with
  | zero => exact h
  | succ i => exact k.2 i (by simpa using h1) (by simpa using h2)
theorem RDs.app (h : RDs S w us ds) (k : RDs S w vs es) : RDs S w (us ++ vs) (ds ++ es) := by
  refine ⟨by simp [h.1, k.1], fun i h1 h2 => ?_⟩
  by_cases hi : i < us.length
  · rw [List.getElem_append_left hi, List.getElem_append_left (by rw [← h.1]; exact hi)]
    exact h.2 _ _ _
  · rw [List.getElem_append_right (by omega), List.getElem_append_right (by rw [← h.1]; omega)]
    simp only [h.1]
    exact k.2 _ _ _
theorem RDs.fg (h : RDs S w us ds) : RDs S w us (ds.map D.fg) := ⟨by simp [h.1], fun i h1 h2 => by rw [List.getElem_map]; exact (h.2 i h1 (by simpa using h2)).fg⟩
theorem RDs.take (h : RDs S w us ds) (n : Nat) : RDs S w (us.take n) (ds.take n) := ⟨by simp [h.1], fun i h1 h2 => by rw [List.getElem_take, List.getElem_take]; exact h.2 _ _ _⟩
theorem RDs.drop (h : RDs S w us ds) (n : Nat) : RDs S w (us.drop n) (ds.drop n) := ⟨by simp [h.1], fun i h1 h2 => by rw [List.getElem_drop, List.getElem_drop]; exact h.2 _ _ _⟩
theorem RDs.at {i : Nat} {d : D} (h : RDs S w us ds) (hi : ds[i]? = some d) : ∃ u, us[i]? = some u ∧ RD S w u d := by
  obtain ⟨h1, h2⟩ := List.getElem?_eq_some_iff.1 hi
  have h3 : i < us.length := by rw [h.1]; exact h1
  exact ⟨us[i], List.getElem?_eq_getElem h3, by rw [← h2]; exact h.2 i h3 h1⟩
end

/-- The nil slice, the empty slice: both read as the empty list. -/
theorem RD.nil {S : Nat → Prop} {w : World} : RD S w (.slice none 0 0) (.l []) := (RD.n (S := S) (w := w)).fg
/-- A list's cells, as a row of lists of cells. -/
theorem RD.cells {S : Nat → Prop} {w : World} {a : Option Addr} {n c : Nat} {xs : List (List D)} (h : RD S w (.slice a n c) (.l xs)) :
    n = xs.length ∧ n ≤ c ∧ c ≤ maxLen ∧ ∃ (k : Nat) (css : List (List Value)), css.length = xs.length ∧ (∀ i (h : i < xs.length), xs[i].length = k) ∧ (∀ i (h : i < css.length) (h' : i < xs.length), RDs S w css[i] xs[i]) ∧
      (0 < n → ∃ b o, a = some ⟨b, o, none⟩ ∧ S b ∧ ∀ i (h : i < css.length), w.rangeAt b (o + i * k) css[i]) := by
  cases h with
  | l k us hn hc hm hk ha he =>
    refine ⟨hn, hc, hm, k, xs.zipIdx.map (fun x => (List.range x.1.length).map fun j => us x.2 j), by simp, hk, fun i h h' => ⟨by simp, fun j h1 h2 => ?_⟩, fun hp => ?_⟩
    · simp only [List.getElem_map, List.getElem_zipIdx, List.getElem_range, Nat.zero_add]
      exact he i h' j h2
    · obtain ⟨b, o, e, hb, hcell⟩ := ha hp
      refine ⟨b, o, e, hb, fun i h j v hv => ?_⟩
      have h' : i < xs.length := by simpa using h
      simp only [List.getElem_map, List.getElem_zipIdx, Nat.zero_add] at hv
      obtain ⟨hj, hv⟩ := List.getElem?_eq_some_iff.1 hv
      simp at hj hv
      rw [← hv, ← hcell i h' j hj]
      congr 2
      omega
/-- .. and back. -/
theorem RD.ofCells {S : Nat → Prop} {w : World} {a : Option Addr} {n c k : Nat} {xs : List (List D)} {css : List (List Value)} (hn : n = xs.length) (hc : n ≤ c) (hm : c ≤ maxLen) (hl : css.length = xs.length) (hk : ∀ i (h : i < xs.length), xs[i].length = k)
    (hr : ∀ i (h : i < css.length) (h' : i < xs.length), RDs S w css[i] xs[i]) (ha : 0 < n → ∃ b o, a = some ⟨b, o, none⟩ ∧ S b ∧ ∀ i (h : i < css.length), w.rangeAt b (o + i * k) css[i]) : RD S w (.slice a n c) (.l xs) := by
  refine .l k (fun i j => (css.getD i []).getD j undef) hn hc hm hk (fun hp => ?_) (fun i h j hj => ?_)
  · obtain ⟨b, o, e, hb, hcell⟩ := ha hp
    refine ⟨b, o, e, hb, fun i h j hj => ?_⟩
    have h1 : i < css.length := by omega
    have h2 : j < (css[i]).length := by rw [(hr i h1 h).1]; exact hj
    have := hcell i h1 j _ (List.getElem?_eq_getElem h2)
    rw [← Nat.add_assoc, this]
    simp [List.getD_eq_getElem?_getD, List.getElem?_eq_getElem h1, List.getElem?_eq_getElem h2]
  · have h1 : i < css.length := by omega
    have h2 : j < (css[i]).length := by rw [(hr i h1 h).1]; exact hj
    have := (hr i h1 h).2 j h2 hj
    simpa [List.getD_eq_getElem?_getD, List.getElem?_eq_getElem h1, List.getElem?_eq_getElem h2] using this

/-! ### what slots hold -/
/-- A datum by value: one cell, or several. -/
inductive DV where
  | d (c : D)
  | g (cs : List D)
  deriving Inhabited
/-- What is known of a slot: a datum; the value of a struct; several results; an address in a variable's block; a row of the call's own (its number of turns told); an address in it; an address in a list that nobody writes; nothing. -/
inductive AV where
  | d (c : D)
  | g (cs : List D)
  | t (xs : List DV)
  | p (id off : Nat)
  | r (id gen : Nat)
  | e (id gen idx off : Nat)
  | q (cs : List D)
  | un
  deriving Inhabited
/-- What a block of the call's own holds: a variable's cells; a row's elements (their type, the cells of each, how often it has been turned); what is said of it by a predicate. -/
inductive AO where
  | box (T : TypeId) (cs : List AV)
  | row (gen : Nat) (e : TypeId) (k : Nat) (xs : List (List D))
  | dead
  | own (x : Value) (R : (Nat → Prop) → World → Prop)
  deriving Inhabited
def RV (S : Nat → Prop) (w : World) (u : Value) : DV → Prop
  | .d c => RD S w u c
  | .g cs => ∃ us : List Value, u = .agg us.toArray ∧ RDs S w us cs
theorem RV.keep {S S' : Nat → Prop} {w w' : World} {u : Value} {x : DV} (h : RV S w u x) (hs : ∀ b, S b → S' b ∧ w'.heap[b]? = w.heap[b]?) : RV S' w' u x := by
  cases x with
  | d c => exact RD.keep h hs
  | g cs => obtain ⟨us, h1, h2⟩ := h; exact ⟨us, h1, h2.keep hs⟩
def RA (S : Nat → Prop) (w : World) (β : Nat → Value) (O : List (Nat × AO)) (u : Value) : AV → Prop
  | .d c => RD S w u c
  | .g cs => ∃ us : List Value, u = .agg us.toArray ∧ RDs S w us cs
  | .t xs => ∃ us : List Value, u = .tuple us.toArray ∧ us.length = xs.length ∧ ∀ i (h : i < us.length) (h' : i < xs.length), RV S w us[i] xs[i]
  | .p id off => ∀ T cs, get? O id = some (.box T cs) → ∃ b, β id = .pointer (some ⟨b, 0, none⟩) ∧ u = .pointer (some ⟨b, off, none⟩)
  | .r id g => ∀ g' e k xs, get? O id = some (.row g' e k xs) → g ≤ g' ∧ (g = g' → u = β id)
  | .e id g idx off => ∀ g' e k xs, get? O id = some (.row g' e k xs) → g ≤ g' ∧ (g = g' → ∃ b n c, β id = .slice (some ⟨b, 0, none⟩) n c ∧ u = .pointer (some ⟨b, idx * k + off, none⟩))
  | .q cs => ∃ b o us, u = .pointer (some ⟨b, o, none⟩) ∧ S b ∧ RDs S w us cs ∧ w.rangeAt b o us
  | .un => True
theorem range_keep {w w' : World} {b o : Nat} {us : List Value} (h : w.rangeAt b o us) (hb : w'.heap[b]? = w.heap[b]?) : w'.rangeAt b o us := fun j v hv => (World.cell?_of_block (w := w) (a := ⟨b, o + j, none⟩) hb).trans (h j v hv)
/-- What a slot holds stays so where the blocks it reads stay so, and the call's own blocks that are still known. -/
theorem RA.keep {S S' : Nat → Prop} {w w' : World} {β β' : Nat → Value} {O O' : List (Nat × AO)} {u : Value} {x : AV} (h : RA S w β O u x) (hs : ∀ b, S b → S' b ∧ w'.heap[b]? = w.heap[b]?)
    (hb : ∀ id T cs, get? O' id = some (.box T cs) → (∃ T' cs', get? O id = some (.box T' cs')) ∧ β' id = β id)
    (hr : ∀ id g e k xs, get? O' id = some (.row g e k xs) → ∃ g0 e0 k0 xs0, get? O id = some (.row g0 e0 k0 xs0) ∧ g0 ≤ g ∧ (g0 = g → k0 = k ∧ β' id = β id)) : RA S' w' β' O' u x := by
  cases x with
  | d c => exact RD.keep h hs
  | g cs => obtain ⟨us, h1, h2⟩ := h; exact ⟨us, h1, h2.keep hs⟩
  | t xs => obtain ⟨us, h1, h2, h3⟩ := h; exact ⟨us, h1, h2, fun i h h' => (h3 i h h').keep hs⟩
  | p id off => intro T cs hO; obtain ⟨⟨T', cs', h1⟩, h2⟩ := hb id T cs hO; rw [h2]; exact h T' cs' h1
  | r id g =>
    intro g' e k xs hO
    obtain ⟨g0, e0, k0, xs0, h1, h2, h3⟩ := hr id g' e k xs hO
    obtain ⟨h4, h5⟩ := h g0 e0 k0 xs0 h1
    refine ⟨Nat.le_trans h4 h2, fun hg => ?_⟩
    have e1 : g0 = g' := by omega
    rw [(h3 e1).2]
    exact h5 (by omega)
  | e id g idx off =>
    intro g' e k xs hO
    obtain ⟨g0, e0, k0, xs0, h1, h2, h3⟩ := hr id g' e k xs hO
    obtain ⟨h4, h5⟩ := h g0 e0 k0 xs0 h1
    refine ⟨Nat.le_trans h4 h2, fun hg => ?_⟩
    have e1 : g0 = g' := by omega
    rw [(h3 e1).2, ← (h3 e1).1]
    exact h5 (by omega)
  | q cs => obtain ⟨b, o, us, h1, h2, h3, h4⟩ := h; exact ⟨b, o, us, h1, (hs b h2).1, h3.keep hs, range_keep h4 (hs b h2).2⟩
  | un => trivial
end Go.Proofs.YtfijmpmojhlnmaaGreatDoor
