import Derived.HandedShaped
import Derived.Shelf.Vars
import Derived.Test.YtbbpecfapohlaaaGreatDoorNtB
import Derived.Test.YtbbpecfapohlaaaGreatDoorRows
import Derived.Test.YtbbpecfapohlaaaGreatDoorK1
namespace Go.Proofs.YtbbpecfapohlaaaGreatDoor
open Go.RowKit
theorem handed_both {H : Type} {enc : TypeId × Value → H} {a : Assume} {C : Checked} {os : Os} {f : FuncId} {fn : Func} {s : ChangeSpec} {conds : List PathCond} {apart fresh handsOn again : Bool} {X : World → Array Value → Prop}
    (hX : ∀ (w w' : World) (args : Array Value), w.heap = w'.heap → X w args → X w' args)
    (own : ownKnob C.prog.godebug = none) (started : os.Started) (noInit : C.prog.inits.idxOf? f = none) (hfn : C.prog.funcs[f]? = some fn)
    (witness : ∃ (w : World) (tape : Tape) (i : Input), w.os = os ∧ (w.forCall tape i).Shaped C.prog ∧ i.vars = [] ∧ Input.okWide C.prog (w.forCall tape i) .any w.heap.size f i ∧
      ((s.pre enc C.prog fn conds apart (w.forCall tape i).memory i.args ∧ X (w.forCall tape i).memory i.args) ∧ sizedMet enc C.prog fn (OpenSpec.ofChange s) apart (w.forCall tape i).memory i.args) ∧ a.holds C.prog (lone (Frame.enter C.prog f i.args .normal) [] (w.forCall tape i)))
    (contract : ∀ (W : World) (base : Nat) (args : Array Value) (ds gs : List (DataW H)) (before : List MemPlace), W.ShapedOpen C.prog →
      (∀ (j : Nat) t v, fn.params[j]? = some t → args[j]? = some v → Value.okWide C.prog W .any base t v) →
      DataW.Whole enc C.prog fn.params.toList s.vars apart W args.toList ds gs before →
      conds.all (PathCond.test C.prog ⟨fn.params.toList, ds, s.plain.varTypes C.prog, gs⟩) = true →
      (DataW.weightsEach C.prog (fn.params.toList ++ s.plain.varTypes C.prog) (ds ++ gs)).all (· ≤ reachBytes) = true → X W args →
      a.holds C.prog (lone (Frame.enter C.prog f args .normal) [] W) →
      Calls C.prog f args W fun e W' => ∃ v, e = .returned v ∧ s.post enc C.prog fn apart fresh handsOn again W args v W') :
    ReturnsInHanded a C os f .any (fun w args => (s.pre enc C.prog fn conds apart w args ∧ X w args) ∧ sizedMet enc C.prog fn (OpenSpec.ofChange s) apart w args) (s.post enc C.prog fn apart fresh handsOn again) := by
  refine returnsInHanded_of_calls own started noInit witness ?_
  intro w tape i _ hsh _ hok hpre hholds
  obtain ⟨_, _, _, fn', hfn', _, _, _, _, hval⟩ := hok
  have e : fn' = fn := Option.some.inj (hfn'.symm.trans hfn)
  subst e
  obtain ⟨⟨⟨ds, gs, before, hw, hc⟩, hx⟩, hz⟩ := hpre
  have hw' := DataW.Whole.of_heap (w' := w.forCall tape i) (by rfl) hw
  refine (contract (w.forCall tape i) w.heap.size i.args ds gs before hsh hval hw' hc (hz.weights hw) (hX _ _ _ (by rfl) hx) hholds).mono fun e W' ⟨v, he, hp⟩ => ?_
  subst he
  exact ChangeSpec.post_blind hp
theorem maxL_shaped {w : World} (h : w.ShapedOpen Tryz.prog) : MaxL w :=
  cell_of_shapedOpen_int (k := .i64) (zero := #[.int .i64 0]) h (t := 3) (by decide +kernel) (by kernel_rfl) rfl (by kernel_rfl) (by kernel_rfl) (by kernel_rfl)
/-- Two conditions. -/
def And2 (K T : World → Prop) (w : World) : Prop := K w ∧ T w
instance {K T : World → Prop} : KHas (And2 K T) K := ⟨fun _ h => h.1⟩
instance {K T : World → Prop} [hK : KSt K] [hT : KSt T] : KSt (And2 K T) := ⟨fun w w' h hx => ⟨hK.st w w' h.1 hx, hT.st w w' h.2 hx⟩⟩
theorem i64_of {a : Int} (h : (Lit.int .i64 a).wf = true) : -9223372036854775808 ≤ a ∧ a ≤ 9223372036854775807 := by
  simp [Lit.wf, IntKind.min, IntKind.max, IntKind.signed, IntKind.bits] at h
  exact h
end Go.Proofs.YtbbpecfapohlaaaGreatDoor
namespace Go.Proofs.YtbbpecfapohlaaaGreatDoor
open Go.RowKit Go.ChangeShapes Go.WideShapes

section
variable {H : Type} {enc : TypeId × Value → H} {P : Program} {W : World} {α β : Type}

/-- Of fuel less than m: what is read at type t is of R, and at most as great as its bulk. -/
def Opens (enc : TypeId × Value → H) (P : Program) (W : World) (m : Nat) (t : TypeId) (R : Rp α) (sz : α → Nat) : Prop :=
  ∀ n, n < m → ∀ cs d ps, DataW.trod enc P W 0 (fun _ => true) true n t cs = some (d, ps) → ∃ a, R.rel (Lt W.heap.size) W cs a ∧ sz a ≤ Rows.uptoBulk d

theorem Opens.less {m m' : Nat} {t : TypeId} {R : Rp α} {sz : α → Nat} (h : Opens enc P W m t R sz) (hm : m' ≤ m) : Opens enc P W m' t R sz := fun n hn => h n (by omega)
theorem Opens.bool {t : TypeId} (ht : P.underlying t = some .bool) (m : Nat) : Opens enc P W m t Rp.bool (fun _ => 1) := by
  intro n _ cs d ps h
  obtain ⟨b, rfl, hx⟩ := DataW.trod_bool ht h
  simp only [Prod.mk.injEq] at hx
  exact ⟨b, rfl, by rw [hx.1]; simp [Rows.uptoBulk]⟩
theorem Opens.int {t : TypeId} {k : IntKind} (ht : P.underlying t = some (.int k)) (m : Nat) : Opens enc P W m t (Rp.int k) (fun _ => 1) := by
  intro n _ cs d ps h
  obtain ⟨x, rfl, hx, hw⟩ := DataW.trod_int ht h
  simp only [Prod.mk.injEq] at hx
  simp only [Lit.wf, Bool.and_eq_true, decide_eq_true_eq] at hw
  exact ⟨x, ⟨rfl, hw.1, hw.2⟩, by rw [hx.1]; simp [Rows.uptoBulk]⟩
theorem Opens.map {m : Nat} {t : TypeId} {R : Rp α} {sz : α → Nat} (f : β → α) (g : α → β) (hg : ∀ a, f (g a) = a) (h : Opens enc P W m t R sz) : Opens enc P W m t (R.map f) (fun b => sz (f b)) := by
  intro n hn cs d ps hx
  obtain ⟨a, h1, h2⟩ := h n hn cs d ps hx
  exact ⟨g a, by show R.rel _ _ _ (f (g a)); rw [hg]; exact h1, by show sz (f (g a)) ≤ _; rw [hg]; exact h2⟩
theorem cells_at {base : Nat} {a : Addr} {n : Nat} {cs : List Value} (h : W.cells? base a n = some cs) (hn : 0 < n) : a.spot = none ∧ a.block < W.heap.size ∧ cs.length = n ∧ ∀ j (hj : j < cs.length), W.cell? ⟨a.block, a.off + j, none⟩ = some cs[j] := by
  obtain ⟨_, hl, hc⟩ := World.cells?_some h
  have h0 := hc 0 hn
  have hz : a.add 0 = a := by simp [Addr.add]
  rw [hz, List.getElem?_eq_getElem (by omega)] at h0
  have hs := World.cell?_spot h0
  refine ⟨hs, lt_of_cell (b := a.block) (o := a.off) (s := a.spot) h0, hl, fun j hj => ?_⟩
  have := hc j (by omega)
  rw [List.getElem?_eq_getElem hj] at this
  rw [show (⟨a.block, a.off + j, none⟩ : Addr) = a.add j by
    obtain ⟨b, o, s⟩ := a
    simp only at hs
    subst hs
    unfold Addr.add
    split <;> simp_all]
  exact this
theorem Opens.slice {m : Nat} {t e : TypeId} {R : Rp α} {sz : α → Nat} (ht : P.underlying t = some (.slice e)) (hk : P.cellsOf e = R.k) (hp : 0 < R.k) (he : Opens enc P W m e R sz) :
    Opens enc P W (m + 1) t (Rp.slice R) (fun l => (l.map sz).sum + 1) := by
  intro n hn cs d ps h
  rcases DataW.trod_slice ht h with ⟨rfl, hx⟩ | ⟨a, len, cap, elems, rest, n', hf, rfl, hx, _, hl, hm, hlen, hel, _, _⟩
  · simp only [Prod.mk.injEq] at hx
    exact ⟨[], ⟨none, 0, rfl, by simp, by simp [maxLen], by simp⟩, by rw [hx.1]; simp [Rows.uptoBulk]⟩
  · simp only [Prod.mk.injEq] at hx
    have hall : ∀ i, i < len → ∃ x : α × List Value, (W.cells? 0 (a.add (i * P.cellsOf e)) (P.cellsOf e) = some x.2 ∧ R.rel (Lt W.heap.size) W x.2 x.1 ∧ ∃ hi : i < elems.length, sz x.1 ≤ Rows.uptoBulk elems[i].1) := by
      intro i hi
      have h1 := hel i hi
      rw [List.getElem?_eq_getElem (by omega)] at h1
      obtain ⟨cs', hc1, hc2⟩ := Option.bind_eq_some_iff.1 h1
      obtain ⟨x, hx1, hx2⟩ := he n' (by omega) cs' elems[i].1 elems[i].2 hc2
      exact ⟨(x, cs'), hc1, hx1, by omega, hx2⟩
    obtain ⟨xs, hxl, hxs⟩ := choose_list len hall
    refine ⟨xs.map (·.1), ⟨some a, cap, by simp [hxl], by simp [hxl, hl], hm, fun h0 => ?_⟩, ?_⟩
    · have h0' : 0 < len := by simpa [hxl] using h0
      have hc0 := (hxs 0 (by omega)).1
      have hz := cells_at hc0 (by rw [hk]; exact hp)
      have ha0 : a.add (0 * P.cellsOf e) = a := by simp [Addr.add]
      rw [ha0] at hz
      refine ⟨a.block, a.off, ?_, hz.2.1, fun i hi => ?_⟩
      · obtain ⟨b, o, s⟩ := a
        simp only at hz
        rw [hz.1]
      · have hi' : i < xs.length := by simpa using hi
        obtain ⟨hc, hr, _⟩ := hxs i hi'
        refine ⟨(xs[i]).2, by simpa using hr, fun j hj => ?_⟩
        have := (cells_at hc (by rw [hk]; exact hp)).2.2.2 j hj
        rw [hk] at this
        have e1 : (a.add (i * R.k)).block = a.block := by unfold Addr.add; split <;> rfl
        have e2 : (a.add (i * R.k)).off = a.off + i * R.k := by unfold Addr.add; split <;> simp_all
        rw [e1, e2, Nat.add_assoc] at this
        exact this
    · rw [hx.1]
      simp only [Rows.uptoBulk]
      have hsum : ∀ (ys : List (α × List Value)) (es : List (DataW H × List MemPlace)), ys.length = es.length → (∀ i (h : i < ys.length) (h' : i < es.length), sz ys[i].1 ≤ Rows.uptoBulk es[i].1) → ((ys.map (·.1)).map sz).sum ≤ Rows.uptoBulkAll (es.map (·.1)) := by
        intro ys
        induction ys with
        | nil => intro es _ _; simp
        | cons y ys ih =>
          intro es hl h
          cases es with
          | nil => simp at hl
          | cons z es =>
            have h0 := h 0 (by simp) (by simp)
            have h1 := ih es (by simpa using hl) (fun i h1 h2 => h (i + 1) (by simpa using h1) (by simpa using h2))
            simp only [List.getElem_cons_zero] at h0
            simp only [List.map_cons, List.sum_cons, Rows.uptoBulkAll]
            omega
      have := hsum xs elems (by omega) (fun i h1 h2 => (hxs i h1).2.2.2)
      omega
/-- A struct's fields by their types and offsets. -/
def fieldsOf (P : Program) (t : TypeId) : Option (List (Nat × Nat)) := (P.underlying t).bind fun x => match x with
  | .struct fs => some (fs.toList.map fun f => (f.type, f.offset))
  | _ => none
theorem fields_some {l : List (Nat × Nat)} {t : TypeId} (h : fieldsOf P t = some l) : ∃ fs : List Field, P.underlying t = some (.struct fs.toArray) ∧ fs.map (fun f => (f.type, f.offset)) = l := by
  unfold fieldsOf at h
  obtain ⟨x, h1, h2⟩ := Option.bind_eq_some_iff.1 h
  cases x with
  | struct fs => simp only [Option.some.injEq] at h2; exact ⟨fs.toList, by simpa using h1, h2⟩
  | _ => simp at h2
end
end Go.Proofs.YtbbpecfapohlaaaGreatDoor
