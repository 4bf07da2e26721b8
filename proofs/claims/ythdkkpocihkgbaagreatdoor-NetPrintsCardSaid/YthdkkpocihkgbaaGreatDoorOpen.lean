/-
 What a law is handed, read as data by the form of claims, is what our relations say; and it is no longer than its bulk.
-/
import Derived.Test.YthdkkpocihkgbaaGreatDoorRows
import Derived.Test.YthdkkpocihkgbaaGreatDoorK1
namespace Go.Proofs.YthdkkpocihkgbaaGreatDoor
open Go.RowKit Go.ChangeShapes Go.WideShapes

section
variable {H : Type} {enc : TypeId × Value → H} {P : Program} {W : World} {α β : Type}

/-- Of fuel less than m: what is read at type t is of R, and at most as great as its bulk. -/
def Opens (enc : TypeId × Value → H) (P : Program) (W : World) (m : Nat) (t : TypeId) (R : Rp α) (sz : α → Nat) : Prop :=
 ∀ n, n < m → ∀ cs d ps, DataW.trod enc P W 0 (fun _ => true) true n t cs = some (d, ps) → ∃ a, R.rel (Lt W.heap.size) W cs a ∧ sz a ≤ Rows.uptoBulk d

theorem Opens.less {m m' : Nat} {t : TypeId} {R : Rp α} {sz : α → Nat} (h : Opens enc P W m t R sz) (hm : m' ≤ m) : Opens enc P W m' t R sz := fun n hn => h n (by omega)
theorem Opens.bool {t : TypeId} (ht : P.underlying t = some .bool) (m : Nat) : Opens enc P W m t Rp.bool (fun _ => 1) := by
 intro n _ cs d ps h
 obtain ⟨b, rfl, hx⟩ := DataW.trod_bool ht h
 simp only [Prod.mk.injEq] at hx
 exact ⟨b, rfl, by rw [hx.1]; simp [Rows.uptoBulk]⟩
theorem Opens.int {t : TypeId} {k : IntKind} (ht : P.underlying t = some (.int k)) (m : Nat) : Opens enc P W m t (Rp.int k) (fun _ => 1) := by
 intro n _ cs d ps h
 obtain ⟨x, rfl, hx, hw⟩ := DataW.trod_int ht h
 simp only [Prod.mk.injEq] at hx
 simp only [Lit.wf, Bool.and_eq_true, decide_eq_true_eq] at hw
 exact ⟨x, ⟨rfl, hw.1, hw.2⟩, by rw [hx.1]; simp [Rows.uptoBulk]⟩
theorem Opens.str {t : TypeId} (ht : P.underlying t = some .string) (m : Nat) : Opens enc P W m t Rp.str (fun s => s.size + 1) := by
 intro n _ cs d ps h
 obtain ⟨s, rfl, hx, hs⟩ := DataW.trod_string ht h
 simp only [Prod.mk.injEq] at hx
 unfold maxLen at hs
 exact ⟨s, ⟨rfl, hs⟩, by rw [hx.1]; simp [Rows.uptoBulk]⟩
theorem Opens.map {m : Nat} {t : TypeId} {R : Rp α} {sz : α → Nat} (f : β → α) (g : α → β) (hg : ∀ a, f (g a) = a) (h : Opens enc P W m t R sz) : Opens enc P W m t (R.map f) (fun b => sz (f b)) := by
 intro n hn cs d ps hx
 obtain ⟨a, h1, h2⟩ := h n hn cs d ps hx
 exact ⟨g a, by show R.rel _ _ _ (f (g a)); rw [hg]; exact h1, by show sz (f (g a)) ≤ _; rw [hg]; exact h2⟩
theorem bulk_all (l : List (DataW H × List MemPlace)) (r : List (DataW H)) : Rows.uptoBulkAll (l.map (·.1)) ≤ Rows.uptoBulk (.slice (l.map (·.1)) r) := by
 simp only [Rows.uptoBulk]; omega
theorem cells_at {base : Nat} {a : Addr} {n : Nat} {cs : List Value} (h : W.cells? base a n = some cs) (hn : 0 < n) : a.spot = none ∧ a.block < W.heap.size ∧ cs.length = n ∧ ∀ j (hj : j < cs.length), W.cell? ⟨a.block, a.off + j, none⟩ = some cs[j] := by
 obtain ⟨_, hl, hc⟩ := World.cells?_some h
 have h0 := hc 0 hn
 have hz : a.add 0 = a := by simp [Addr.add]
 rw [hz, List.getElem?_eq_getElem (by omega)] at h0
 have hs := World.cell?_spot h0
 refine ⟨hs, lt_of_cell (b := a.block) (o := a.off) (s := a.spot) h0, hl, fun j hj => ?_⟩
 have := hc j (by omega)
 rw [List.getElem?_eq_getElem hj] at this
 rw [show (⟨a.block, a.off + j, none⟩ : Addr) = a.add j by
  obtain ⟨b, o, s⟩ := a
  simp only at hs
  subst hs
  unfold Addr.add
  split <;> simp_all]
 exact this
theorem Opens.slice {m : Nat} {t e : TypeId} {R : Rp α} {sz : α → Nat} (ht : P.underlying t = some (.slice e)) (hk : P.cellsOf e = R.k) (hp : 0 < R.k) (he : Opens enc P W m e R sz) :
  Opens enc P W (m + 1) t (Rp.slice R) (fun l => (l.map sz).sum + 1) := by
 intro n hn cs d ps h
 rcases DataW.trod_slice ht h with ⟨rfl, hx⟩ | ⟨a, len, cap, elems, rest, n', hf, rfl, hx, _, hl, hm, hlen, hel, _, _⟩
 ·simp only [Prod.mk.injEq] at hx
  exact ⟨[], ⟨none, 0, rfl, by simp, by simp [maxLen], by simp⟩, by rw [hx.1]; simp [Rows.uptoBulk]⟩
 ·simp only [Prod.mk.injEq] at hx
  have hall : ∀ i, i < len → ∃ x : α × List Value, (W.cells? 0 (a.add (i * P.cellsOf e)) (P.cellsOf e) = some x.2 ∧ R.rel (Lt W.heap.size) W x.2 x.1 ∧ ∃ hi : i < elems.length, sz x.1 ≤ Rows.uptoBulk elems[i].1) := by
   intro i hi
   have h1 := hel i hi
   rw [List.getElem?_eq_getElem (by omega)] at h1
   obtain ⟨cs', hc1, hc2⟩ := Option.bind_eq_some_iff.1 h1
   obtain ⟨x, hx1, hx2⟩ := he n' (by omega) cs' elems[i].1 elems[i].2 hc2
   exact ⟨(x, cs'), hc1, hx1, by omega, hx2⟩
  obtain ⟨xs, hxl, hxs⟩ := choose_list len hall
  refine ⟨xs.map (·.1), ⟨some a, cap, by simp [hxl], by simp [hxl, hl], hm, fun h0 => ?_⟩, ?_⟩
  ·have h0' : 0 < len := by simpa [hxl] using h0
   have hc0 := (hxs 0 (by omega)).1
   have hz := cells_at hc0 (by rw [hk]; exact hp)
   have ha0 : a.add (0 * P.cellsOf e) = a := by simp [Addr.add]
   rw [ha0] at hz
   refine ⟨a.block, a.off, ?_, hz.2.1, fun i hi => ?_⟩
   ·obtain ⟨b, o, s⟩ := a
    simp only at hz
    rw [hz.1]
   ·have hi' : i < xs.length := by simpa using hi
    obtain ⟨hc, hr, _⟩ := hxs i hi'
    refine ⟨(xs[i]).2, by simpa using hr, fun j hj => ?_⟩
    have := (cells_at hc (by rw [hk]; exact hp)).2.2.2 j hj
    rw [hk] at this
    have e1 : (a.add (i * R.k)).block = a.block := by unfold Addr.add; split <;> rfl
    have e2 : (a.add (i * R.k)).off = a.off + i * R.k := by unfold Addr.add; split <;> simp_all
    rw [e1, e2, Nat.add_assoc] at this
    exact this
  ·rw [hx.1]
   simp only [Rows.uptoBulk]
   have hsum : ∀ (ys : List (α × List Value)) (es : List (DataW H × List MemPlace)), ys.length = es.length → (∀ i (h : i < ys.length) (h' : i < es.length), sz ys[i].1 ≤ Rows.uptoBulk es[i].1) → ((ys.map (·.1)).map sz).sum ≤ Rows.uptoBulkAll (es.map (·.1)) := by
    intro ys
    induction ys with
    | nil => intro es _ _; simp
    | cons y ys ih =>
     intro es hl h
     cases es with
     | nil => simp at hl
     | cons z es =>
      have h0 := h 0 (by simp) (by simp)
      have h1 := ih es (by simpa using hl) (fun i h1 h2 => h (i + 1) (by simpa using h1) (by simpa using h2))
      simp only [List.getElem_cons_zero] at h0
      simp only [List.map_cons, List.sum_cons, Rows.uptoBulkAll]
      omega
   have := hsum xs elems (by omega) (fun i h1 h2 => (hxs i h1).2.2.2)
   omega
theorem Opens.struct2 {γ : Type} {m : Nat} {t : TypeId} {f0 f1 : Field} {A : Rp α} {B : Rp γ} {sa : α → Nat} {sb : γ → Nat} (hs : P.underlying t = some (.struct #[f0, f1])) (hk : P.cellsOf t = A.k + B.k)
  (h0 : P.cellsOf f0.type = A.k) (h1 : P.cellsOf f1.type = B.k) (o0 : f0.offset = 0) (o1 : f1.offset = A.k) (ha : Opens enc P W m f0.type A sa) (hb : Opens enc P W m f1.type B sb) :
  Opens enc P W (m + 1) t (Rp.pair A B) (fun x => sa x.1 + sb x.2 + 1) := by
 intro n hn cs d ps h
 obtain ⟨xs, n', rfl, hx, hl, hxl, hf⟩ := DataW.trod_struct hs h
 match xs, hxl with
 | [x0, x1], _ =>
  have e0 := hf 0 f0 rfl
  have e1 := hf 1 f1 rfl
  simp only [Prod.mk.injEq] at hx
  obtain ⟨a, ha1, ha2⟩ := ha n' (by omega) _ x0.1 x0.2 e0
  obtain ⟨b, hb1, hb2⟩ := hb n' (by omega) _ x1.1 x1.2 e1
  rw [h0, o0] at ha1
  rw [h1, o1] at hb1
  refine ⟨(a, b), ⟨_, _, ?_, ha1, hb1⟩, ?_⟩
  ·rw [List.drop_zero, List.take_of_length_le (l := cs.drop A.k) (by rw [List.length_drop]; omega), List.take_append_drop]
  ·rw [hx.1]
   simp only [Rows.uptoBulk, List.map_cons, List.map_nil, Rows.uptoBulkAll]
   omega
theorem Opens.struct3 {γ δ : Type} {m : Nat} {t : TypeId} {f0 f1 f2 : Field} {A : Rp α} {B : Rp γ} {C : Rp δ} {sa : α → Nat} {sb : γ → Nat} {sc : δ → Nat} (hs : P.underlying t = some (.struct #[f0, f1, f2])) (hk : P.cellsOf t = A.k + (B.k + C.k))
  (h0 : P.cellsOf f0.type = A.k) (h1 : P.cellsOf f1.type = B.k) (h2 : P.cellsOf f2.type = C.k) (o0 : f0.offset = 0) (o1 : f1.offset = A.k) (o2 : f2.offset = A.k + B.k)
  (ha : Opens enc P W m f0.type A sa) (hb : Opens enc P W m f1.type B sb) (hc : Opens enc P W m f2.type C sc) :
  Opens enc P W (m + 1) t (Rp.pair A (Rp.pair B C)) (fun x => sa x.1 + sb x.2.1 + sc x.2.2 + 1) := by
 intro n hn cs d ps h
 obtain ⟨xs, n', rfl, hx, hl, hxl, hf⟩ := DataW.trod_struct hs h
 match xs, hxl with
 | [x0, x1, x2], _ =>
  have e0 := hf 0 f0 rfl
  have e1 := hf 1 f1 rfl
  have e2 := hf 2 f2 rfl
  simp only [Prod.mk.injEq] at hx
  obtain ⟨a, ha1, ha2⟩ := ha n' (by omega) _ x0.1 x0.2 e0
  obtain ⟨b, hb1, hb2⟩ := hb n' (by omega) _ x1.1 x1.2 e1
  obtain ⟨c, hc1, hc2⟩ := hc n' (by omega) _ x2.1 x2.2 e2
  rw [h0, o0] at ha1
  rw [h1, o1] at hb1
  rw [h2, o2] at hc1
  refine ⟨(a, b, c), ⟨_, _, ?_, ha1, _, _, rfl, hb1, hc1⟩, ?_⟩
  ·rw [List.drop_zero, List.take_of_length_le (l := cs.drop (A.k + B.k)) (by rw [List.length_drop]; omega), ← List.drop_drop, List.take_append_drop, List.take_append_drop]
  ·rw [hx.1]
   simp only [Rows.uptoBulk, List.map_cons, List.map_nil, Rows.uptoBulkAll]
   omega
/-- A struct's fields by their types and offsets. -/
def fieldsOf (P : Program) (t : TypeId) : Option (List (Nat × Nat)) := (P.underlying t).bind fun x => match x with
 | .struct fs => some (fs.toList.map fun f => (f.type, f.offset))
 | _ => none
theorem fields_some {l : List (Nat × Nat)} {t : TypeId} (h : fieldsOf P t = some l) : ∃ fs : List Field, P.underlying t = some (.struct fs.toArray) ∧ fs.map (fun f => (f.type, f.offset)) = l := by
 unfold fieldsOf at h
 obtain ⟨x, h1, h2⟩ := Option.bind_eq_some_iff.1 h
 cases x with
 | struct fs => simp only [Option.some.injEq] at h2; exact ⟨fs.toList, by simpa using h1, h2⟩
 | _ => simp at h2
theorem fields2 {t t0 t1 o0 o1 : Nat} (h : fieldsOf P t = some [(t0, o0), (t1, o1)]) : ∃ f0 f1 : Field, P.underlying t = some (.struct #[f0, f1]) ∧ f0.type = t0 ∧ f0.offset = o0 ∧ f1.type = t1 ∧ f1.offset = o1 := by
 obtain ⟨fs, h1, h2⟩ := fields_some h
 match fs, h2 with
 | [f0, f1], h2 => simp at h2; exact ⟨f0, f1, h1, h2.1.1, h2.1.2, h2.2.1, h2.2.2⟩
theorem fields3 {t t0 t1 t2 o0 o1 o2 : Nat} (h : fieldsOf P t = some [(t0, o0), (t1, o1), (t2, o2)]) : ∃ f0 f1 f2 : Field, P.underlying t = some (.struct #[f0, f1, f2]) ∧ f0.type = t0 ∧ f0.offset = o0 ∧ f1.type = t1 ∧ f1.offset = o1 ∧ f2.type = t2 ∧ f2.offset = o2 := by
 obtain ⟨fs, h1, h2⟩ := fields_some h
 match fs, h2 with
 | [f0, f1, f2], h2 => simp at h2; exact ⟨f0, f1, f2, h1, h2.1.1, h2.1.2, h2.2.1.1, h2.2.1.2, h2.2.2.1, h2.2.2.2⟩
end
end Go.Proofs.YthdkkpocihkgbaaGreatDoor
