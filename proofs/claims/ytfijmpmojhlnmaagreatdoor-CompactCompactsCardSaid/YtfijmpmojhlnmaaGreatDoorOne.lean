/-
  Rows of elements of one cell each (numbers, truths): read, made and written in place. No program in sight.
-/
import Derived.Test.YtfijmpmojhlnmaaGreatDoorMem
namespace Go.Proofs.YtfijmpmojhlnmaaGreatDoor
open Go.RowKit
/-- A datum in one cell. -/
structure One {α : Type} (R : Rp α) (enc : α → Value) (ok : α → Prop) : Prop where
  k : R.k = 1
  rel : ∀ {S w cs a}, R.rel S w cs a ↔ cs = [enc a] ∧ ok a
def Rp.u32 : Rp Nat where
  k := 1
  rel _ _ cs c := cs = [.int .u32 (c : Int)] ∧ c < 4294967296
  len h := by rw [h.1]; rfl
  one h := by rw [h.1]; simp [Value.oneCell']
  keep h _ := h
def encU (c : Nat) : Value := .int .u32 (c : Int)
def encB (b : Bool) : Value := .bool b
theorem oneU : One Rp.u32 encU (· < 4294967296) := ⟨rfl, Iff.rfl⟩
theorem oneB : One Rp.bool encB (fun _ => True) := ⟨rfl, by intros; simp [Rp.bool, encB]⟩
section
variable {α : Type} {R : Rp α} {enc : α → Value} {ok : α → Prop} {S0 : Nat → Prop} {n0 : Nat} {e : TypeId} {w w' : World} {v : Value} {xs : List α}
theorem One.row (O : One R enc ok) : OwnL R S0 n0 e w v xs ↔ w.ownsRow n0 e 1 v xs.length (xs.map enc) ∧ ∀ x ∈ xs, ok x := by
  have hfl : ∀ ys : List α, (ys.map fun c => [enc c]).flatten = ys.map enc := by
    intro ys
    induction ys with
    | nil => rfl
    | cons c r ih => simpa using ih
  constructor
  · rintro ⟨css, hl, hr, hown⟩
    have e1 : css = xs.map fun c => [enc c] := by
      refine List.ext_getElem (by simp [hl]) fun i h1 h2 => ?_
      rw [(O.rel.1 (hr i (by simpa using h2) h1)).1]
      simp
    rw [e1, hfl, O.k] at hown
    refine ⟨hown, fun x hx => ?_⟩
    obtain ⟨i, hi, rfl⟩ := List.getElem_of_mem hx
    exact (O.rel.1 (hr i hi (by omega))).2
  · rintro ⟨hown, hok⟩
    refine ⟨xs.map fun c => [enc c], by simp, fun i h1 h2 => O.rel.2 ⟨by simp, hok _ (List.getElem_mem h1)⟩, ?_⟩
    rw [hfl, O.k]
    exact hown
theorem One.cell (O : One R enc ok) {g cap n : Nat} (h : OwnL R S0 n0 e w (.slice (some ⟨g, 0, none⟩) n cap) xs) (i : Nat) (hi : i < xs.length) :
    w.cell? ⟨g, i, none⟩ = some (enc xs[i]) ∧ w.frozen? ⟨g, i, none⟩ = false := by
  have hrow := (O.row.1 h).1
  have hn : n = xs.length := by
    obtain ⟨a, c, e1, _⟩ := h.shape
    simp at e1
    exact e1.2.1
  subst hn
  refine ⟨?_, hrow.frozenAt i⟩
  rw [hrow.cellAt i (by omega), List.getElem?_map, List.getElem?_eq_getElem hi]
  rfl
theorem One.okAll (O : One R enc ok) (h : OwnL R S0 n0 e w v xs) : ∀ x ∈ xs, ok x := (O.row.1 h).2
theorem One.store (O : One R enc ok) {g cap n : Nat} (h : OwnL R S0 n0 e w (.slice (some ⟨g, 0, none⟩) n cap) xs) (i : Nat) (y : α) (hy : ok y) :
    OwnL R S0 n0 e (w.setCell ⟨g, i, none⟩ (enc y)) (.slice (some ⟨g, 0, none⟩) n cap) (xs.set i y) ∧ Upd w (w.setCell ⟨g, i, none⟩ (enc y)) (.slice (some ⟨g, 0, none⟩) n cap) (.slice (some ⟨g, 0, none⟩) n cap) := by
  have hn : n = xs.length := by
    obtain ⟨a, c, e1, _⟩ := h.shape
    simp at e1
    exact e1.2.1
  obtain ⟨hrow, hok⟩ := O.row.1 h
  rw [← hn] at hrow
  obtain ⟨h1, h2⟩ := hrow.stored i (enc y)
  refine ⟨O.row.2 ⟨?_, fun x hx => ?_⟩, ⟨h2.os, h2.tape, h2.output, h2.size, fun k hk hne => h2.block k hk (fun e => hne e.symm), fun g hg => .inl hg⟩⟩
  · rw [List.length_set, ← hn, List.map_set]; exact h1
  · rcases List.mem_or_eq_of_mem_set hx with h3 | h3
    · exact hok x h3
    · rw [h3]; exact hy
/-- What is read at a place of a list. -/
theorem One.get (O : One R enc ok) {S : Nat → Prop} {a : Option Addr} {n c : Nat} (h : (Rp.slice R).rel S w [.slice a n c] xs) (i : Nat) (hi : i < xs.length) :
    ∃ b o, a = some ⟨b, o, none⟩ ∧ S b ∧ w.cell? ⟨b, o + i, none⟩ = some (enc xs[i]) ∧ ok xs[i] := by
  obtain ⟨a', c', e1, h1, h2, h3⟩ := h
  injection e1 with e1
  injection e1 with e1 e2 e3
  subst e1
  obtain ⟨b, o, ha, hb, hel⟩ := h3 (by omega)
  obtain ⟨es, hr, hc⟩ := hel i hi
  obtain ⟨rfl, hok⟩ := O.rel.1 hr
  refine ⟨b, o, ha, hb, ?_, hok⟩
  have := hc 0 (by simp)
  rw [O.k, Nat.mul_one, Nat.add_zero] at this
  simpa using this
theorem One.all (O : One R enc ok) {S : Nat → Prop} {a : Option Addr} {n c : Nat} (h : (Rp.slice R).rel S w [.slice a n c] xs) : ∀ x ∈ xs, ok x := by
  intro x hx
  obtain ⟨i, hi, rfl⟩ := List.getElem_of_mem hx
  obtain ⟨_, _, _, _, _, h⟩ := O.get h i hi
  exact h
theorem slice_len {S : Nat → Prop} {a : Option Addr} {n c : Nat} (h : (Rp.slice R).rel S w [.slice a n c] xs) : n = xs.length ∧ n ≤ c ∧ c ≤ maxLen := by
  obtain ⟨a', c', e1, h1, h2, h3⟩ := h
  injection e1 with e1
  injection e1 with e1 e2 e3
  subst e2 e3
  exact ⟨rfl, h1, h2⟩
/-- A part of a list. -/
theorem slice_part {S : Nat → Prop} {b o n c : Nat} (h : (Rp.slice R).rel S w [.slice (some ⟨b, o, none⟩) n c] xs) (i j d : Nat) (hij : i ≤ j) (hj : j ≤ n) (hd : j - i ≤ d) (hd2 : d ≤ maxLen) :
    (Rp.slice R).rel S w [.slice (some ⟨b, o + i * R.k, none⟩) (j - i) d] ((xs.take j).drop i) := by
  obtain ⟨a', c', e1, h1, h2, h3⟩ := h
  injection e1 with e1
  injection e1 with e1 e2 e3
  subst e1 e2 e3
  have hl : ((xs.take j).drop i).length = j - i := by simp; omega
  refine ⟨_, d, by rw [hl], by omega, hd2, fun hp => ?_⟩
  obtain ⟨b', o', ha, hb, hel⟩ := h3 (by omega)
  injection ha with ha
  injection ha with ha1 ha2
  subst ha1 ha2
  refine ⟨_, _, rfl, hb, fun q hq => ?_⟩
  obtain ⟨es, hr, hc⟩ := hel (i + q) (by omega)
  refine ⟨es, ?_, fun k hk => ?_⟩
  · rw [List.getElem_drop, List.getElem_take]; exact hr
  · rw [← hc k hk]; congr 2; rw [Nat.add_mul]; omega
end
/-- The element type's row of the table, its zero value told. -/
structure ElemZ (P : Program) (t e : TypeId) (z : Value) (size bytes : Nat) : Prop where
  under : P.underlying t = some (.slice e)
  info : ∃ i, P.info? e = some i ∧ i.zero = some z ∧ i.size = size ∧ i.bytes = bytes
theorem ElemZ.of {P : Program} {t e : TypeId} {z : Value} {size bytes : Nat} (h1 : P.underlying t = some (.slice e)) (h2 : (P.info? e).map (fun i => (i.zero, i.size, i.bytes)) = some (some z, size, bytes)) : ElemZ P t e z size bytes :=
  ⟨h1, info_parts h2⟩
/-- 'make([]T, l, c)': zero elements of one cell. -/
theorem wp_makeZ {α : Type} {R : Rp α} {enc : α → Value} {ok : α → Prop} (O : One R enc ok) {P : Program} {w : World} {ops : Array Oper} {rest : List Oper} {o : Oper} {a : Act} {Q : Exit → Act → World → Prop} (hgd : o.guard = none) (lo co : Operand) (t : TypeId)
    (hop : o.op = .makeSlice t lo co) {e : TypeId} {z : Value} {bytes : Nat} (hE : ElemZ P t e z 1 bytes) (x0 : α) (hz : z.cells = #[enc x0]) (hok : ok x0) (S0 : Nat → Prop) (n0 : Nat)
    (kl kc : IntKind) (L C : Int) (l c : Nat) (hl : a.eval lo = .int kl L) (hc : a.eval co = .int kc C) (hL : L = (l : Int)) (hC : C = (c : Int)) (hlc : l ≤ c) (hby : c * bytes ≤ 281474976710656) (hmx : c ≤ 9223372036854775807) (hn : n0 ≤ w.heap.size)
    (h : ∀ w', OwnL R S0 n0 e w' (.slice (some ⟨w.heap.size, 0, none⟩) l c) (List.replicate l x0) → Ext w w' → w'.heap.size = w.heap.size + 1 → wpList P ops Q rest (a.put o.dst (.slice (some ⟨w.heap.size, 0, none⟩) l c)) w') :
    wpList P ops Q (o :: rest) a w := by
  refine wpList_plain hgd fun K hK => ?_
  obtain ⟨i, hi, hzz, hsize, hbytes⟩ := hE.info
  subst hL hC
  have hb' : (i.bytes : Int) * (c : Int) ≤ 281474976710656 := by
    rw [hbytes]
    have h : ((c * bytes : Nat) : Int) ≤ 281474976710656 := by omega
    rw [Int.natCast_mul, Int.mul_comm] at h
    exact h
  have hr := run_make (P := P) w t e i z hE.under hi hzz kl kc l c (by omega) (by omega) hb' (by omega)
  simp only [Int.toNat_natCast] at hr
  rw [hsize, Nat.mul_one] at hr
  unfold Oper.wp
  simp [execOp, hop, hl, hc, hr, Result.andThen]
  refine hK _ _ (h _ (O.row.2 ⟨⟨by simp, .inr ⟨w.heap.size, c, madeCells z.cells c, by simp, hn, heap_alloc_new w _, by simpa using hlc, by unfold maxLen; omega, by rw [size_madeCells, Nat.mul_one], ?_⟩⟩, fun x hx => ?_⟩) ((Below.refl _ _).al _) (by simp))
  · rw [hz]
    apply List.ext_getElem
    · simp [size_madeCells]; omega
    · intro j h1 h2
      simp [madeCells, Nat.mod_one]
  · rw [(List.mem_replicate.1 hx).2]; exact hok
/-- 'make([]T, 0, c)'. -/
theorem wp_make0 {α : Type} {R : Rp α} {P : Program} {w : World} {ops : Array Oper} {rest : List Oper} {o : Oper} {a : Act} {Q : Exit → Act → World → Prop} (hgd : o.guard = none) (lo co : Operand) (t : TypeId)
    (hop : o.op = .makeSlice t lo co) {e : TypeId} {bytes : Nat} (hE : Elem P t e R.k bytes) (S0 : Nat → Prop) (n0 : Nat)
    (kl kc : IntKind) (C : Int) (c : Nat) (hl : a.eval lo = .int kl 0) (hc : a.eval co = .int kc C) (hC : C = (c : Int)) (hby : c * bytes ≤ 281474976710656) (hmx : c ≤ 9223372036854775807) (hn : n0 ≤ w.heap.size)
    (h : ∀ w', OwnL R S0 n0 e w' (.slice (some ⟨w.heap.size, 0, none⟩) 0 c) [] → Ext w w' → w'.heap.size = w.heap.size + 1 → wpList P ops Q rest (a.put o.dst (.slice (some ⟨w.heap.size, 0, none⟩) 0 c)) w') :
    wpList P ops Q (o :: rest) a w := by
  refine wpList_plain hgd fun K hK => ?_
  obtain ⟨i, z, hi, hzz, hsize, hbytes, _⟩ := hE.info
  subst hC
  have hb' : (i.bytes : Int) * (c : Int) ≤ 281474976710656 := by
    rw [hbytes]
    have h : ((c * bytes : Nat) : Int) ≤ 281474976710656 := by omega
    rw [Int.natCast_mul, Int.mul_comm] at h
    exact h
  have hr := run_make (P := P) w t e i z hE.under hi hzz kl kc 0 c (by omega) (by omega) hb' (by omega)
  simp only [Int.toNat_natCast, Int.toNat_zero] at hr
  unfold Oper.wp
  simp [execOp, hop, hl, hc, hr, Result.andThen]
  exact hK _ _ (h _ (OwnL.made R S0 n0 e w (madeCells z.cells (c * i.size)) c hn (by unfold maxLen; omega) (by rw [size_madeCells, hsize])) ((Below.refl _ _).al _) (by simp))
end Go.Proofs.YtfijmpmojhlnmaaGreatDoor
