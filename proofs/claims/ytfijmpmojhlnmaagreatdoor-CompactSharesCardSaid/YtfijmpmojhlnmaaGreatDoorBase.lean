/-
  What a Go value in memory stands for, as plain data (relations of values, footprints of blocks), and the laws by which they live on in later worlds. No program in sight.
-/
import Derived.WalkKit
import Derived.WalkSpells
import Derived.WalkLawsBesides
import Derived.BigQuiet
import Derived.ProofKit
import Derived.OpenShut
import Derived.JoinedCond
import Derived.Deep.Slices
import Derived.Lib.Hide
import Derived.Deep.RegionWith
import Derived.Deep.RegionHeld3
namespace Go.Proofs.YtfijmpmojhlnmaaGreatDoor
open Go.RowKit

/-! ### worlds -/
theorem bcell {n : Nat} {W w1 : World} (hb : Below n W w1) : (∀ b o, b < n → w1.cell? ⟨b, o, none⟩ = W.cell? ⟨b, o, none⟩) ∧ (∀ b o, b < n → w1.frozen? ⟨b, o, none⟩ = W.frozen? ⟨b, o, none⟩) :=
  ⟨fun b o h => hb.cell (p := ⟨b, o, none⟩) h, fun b o h => hb.frozen (p := ⟨b, o, none⟩) h⟩

theorem lt_of_cell {w : World} {b o : Nat} {s : Option Nat} {v : Value} (h : w.cell? ⟨b, o, s⟩ = some v) : b < w.heap.size := by
  unfold World.cell? at h
  cases e : w.heap[b]? with
  | none => simp [e] at h
  | some x => exact (Array.getElem?_eq_some_iff.1 e).1

/-- All old blocks are as they were. -/
abbrev Ext (w w' : World) : Prop := Below w.heap.size w w'
theorem _root_.Go.RowKit.Below.al {w w' : World} (h : Ext w w') (o : Obj) : Ext w (w'.alloc o) := h.alloc h.size o
theorem _root_.Go.RowKit.Below.dr {w w' : World} (h : Ext w w') : Ext w w'.drew := h.drew
theorem _root_.Go.RowKit.Below.drN {w w' : World} (h : Ext w w') (n : Nat) : Ext w (w'.drewN n) := ⟨h.os, h.tape, h.output, h.size, h.block⟩
theorem _root_.Go.RowKit.Below.tr {a b c : World} (h : Ext a b) (k : Ext b c) : Ext a c := h.trans (k.mono h.size)
theorem _root_.Go.RowKit.Below.st {w w' : World} (h : Ext w w') {p : Addr} (hp : w.heap.size ≤ p.block) (u : Value) : Ext w (w'.setCell p u) := h.setCell hp u
/-- Behind a call made in w1 (blocks laid by us may follow w0). -/
theorem _root_.Go.RowKit.Below.of_alloc {a b c : World} (h : Ext a b) {o : Obj} (k : Ext (b.alloc o) c) : Ext a c := (h.al o).tr k

/-! ### relations of cells and data -/
/-- k cells that stand for a datum; the blocks through which it is read lie in S. -/
structure Rp (α : Type) where
  k : Nat
  rel : (Nat → Prop) → World → List Value → α → Prop
  len : ∀ {S w cs a}, rel S w cs a → cs.length = k
  one : ∀ {S w cs a}, rel S w cs a → ∀ u ∈ cs, u.oneCell' = true
  keep : ∀ {S S' : Nat → Prop} {w w' : World} {cs a}, rel S w cs a → (∀ b, S b → S' b ∧ w'.heap[b]? = w.heap[b]?) → rel S' w' cs a

abbrev Lt (n : Nat) : Nat → Prop := fun b => b < n
abbrev But (n g : Nat) : Nat → Prop := fun b => b < n ∧ b ≠ g

theorem Rp.mono {α : Type} (R : Rp α) {S S' : Nat → Prop} {w : World} {cs : List Value} {a : α} (h : R.rel S w cs a) (hs : ∀ b, S b → S' b) : R.rel S' w cs a :=
  R.keep h fun b hb => ⟨hs b hb, rfl⟩
theorem Rp.below {α : Type} (R : Rp α) {n m : Nat} {w w' : World} {cs : List Value} {a : α} (h : R.rel (Lt n) w cs a) (hb : Below n w w') (hm : n ≤ m) : R.rel (Lt m) w' cs a :=
  R.keep h fun b hlt => ⟨Nat.lt_of_lt_of_le hlt hm, hb.block b hlt⟩

def Rp.bool : Rp Bool where
  k := 1
  rel _ _ cs b := cs = [.bool b]
  len h := by subst h; rfl
  one h := by subst h; simp [Value.oneCell']
  keep h _ := h
def Rp.int (k : IntKind) : Rp Int where
  k := 1
  rel _ _ cs n := cs = [.int k n] ∧ k.min ≤ n ∧ n ≤ k.max
  len h := by rw [h.1]; rfl
  one h := by rw [h.1]; simp [Value.oneCell']
  keep h _ := h
def Rp.str : Rp ByteArray where
  k := 1
  rel _ _ cs s := cs = [.string s] ∧ s.size ≤ 9223372036854775807
  len h := by rw [h.1]; rfl
  one h := by rw [h.1]; simp [Value.oneCell']
  keep h _ := h
def Rp.pair {α β : Type} (A : Rp α) (B : Rp β) : Rp (α × β) where
  k := A.k + B.k
  rel S w cs x := ∃ c d, cs = c ++ d ∧ A.rel S w c x.1 ∧ B.rel S w d x.2
  len h := by obtain ⟨c, d, rfl, hc, hd⟩ := h; rw [List.length_append, A.len hc, B.len hd]
  one h := by
    obtain ⟨c, d, rfl, hc, hd⟩ := h
    intro u hu
    rcases List.mem_append.1 hu with h | h
    · exact A.one hc u h
    · exact B.one hd u h
  keep h hs := by obtain ⟨c, d, e, hc, hd⟩ := h; exact ⟨c, d, e, A.keep hc hs, B.keep hd hs⟩
def Rp.map {α β : Type} (A : Rp α) (f : β → α) : Rp β where
  k := A.k
  rel S w cs x := A.rel S w cs (f x)
  len h := A.len h
  one h := A.one h
  keep h hs := A.keep h hs

/-- The elements' cells, one after another from an offset on. -/
def Elems {α : Type} (R : Rp α) (S : Nat → Prop) (w : World) (b o : Nat) (l : List α) : Prop :=
  ∀ i (h : i < l.length), ∃ es, R.rel S w es l[i] ∧ ∀ j (hj : j < es.length), w.cell? ⟨b, o + (i * R.k + j), none⟩ = some es[j]

def Rp.slice {α : Type} (R : Rp α) : Rp (List α) where
  k := 1
  rel S w cs l := ∃ a c, cs = [.slice a l.length c] ∧ l.length ≤ c ∧ c ≤ maxLen ∧ (0 < l.length → ∃ b o, a = some ⟨b, o, none⟩ ∧ S b ∧ Elems R S w b o l)
  len h := by obtain ⟨a, c, rfl, _⟩ := h; rfl
  one h := by obtain ⟨a, c, rfl, _⟩ := h; simp [Value.oneCell']
  keep h hs := by
    obtain ⟨a, c, e, h1, h2, h3⟩ := h
    refine ⟨a, c, e, h1, h2, fun hp => ?_⟩
    obtain ⟨b, o, ha, hb, hel⟩ := h3 hp
    refine ⟨b, o, ha, (hs b hb).1, fun i hi => ?_⟩
    obtain ⟨es, hr, hc⟩ := hel i hi
    exact ⟨es, R.keep hr hs, fun j hj => (World.cell?_of_block (w := _) ((hs b hb).2)).trans (hc j hj)⟩

theorem flatten_len {css : List (List Value)} {k : Nat} (h : ∀ cs ∈ css, cs.length = k) : css.flatten.length = css.length * k := by
  induction css with
  | nil => simp
  | cons c r ih =>
    rw [List.flatten_cons, List.length_append, h c (by simp), ih (fun cs hc => h cs (by simp [hc])), List.length_cons, Nat.add_mul]
    omega
theorem flatten_get {css : List (List Value)} {k : Nat} (h : ∀ cs ∈ css, cs.length = k) (i j : Nat) (hi : i < css.length) (hj : j < k) :
    css.flatten[i * k + j]? = (css[i])[j]? := by
  induction css generalizing i with
  | nil => simp at hi
  | cons c r ih =>
    have hc := h c (by simp)
    cases i with
    | zero =>
      simp only [Nat.zero_mul, Nat.zero_add, List.flatten_cons, List.getElem_cons_zero]
      rw [List.getElem?_append_left (by omega)]
    | succ i =>
      have e : (i + 1) * k + j = k + (i * k + j) := by rw [Nat.add_mul]; omega
      rw [e, List.flatten_cons, List.getElem?_append_right (by omega), hc, Nat.add_sub_cancel_left]
      simpa using ih (fun cs hcs => h cs (by simp [hcs])) i (by simpa using hi)

end Go.Proofs.YtfijmpmojhlnmaaGreatDoor
