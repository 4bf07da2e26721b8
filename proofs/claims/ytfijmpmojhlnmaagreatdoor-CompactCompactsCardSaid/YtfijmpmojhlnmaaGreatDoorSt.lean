/-
  The state of a function's body, told by plain data: what each slot and each block of the call's own holds; what an operation does to it; regions, whatever their order. No program in sight.
-/
import Derived.Test.YtfijmpmojhlnmaaGreatDoorD
import Derived.OrdersHeld
namespace Go.Proofs.YtfijmpmojhlnmaaGreatDoor
open Go.RowKit

/-- A call: the world at its beginning, the blocks through which its arguments are read, the values through which blocks are handed in to be written, the number of its slots. -/
structure Cx where
  w0 : World
  S0 : Nat → Prop
  m : List Value
  nt : Nat
structure AS where
  env : List (Nat × AV)
  objs : List (Nat × AO)
def blk : Value → Option Nat
  | .pointer (some a) => some a.block
  | .slice (some a) _ _ => some a.block
  | .map (some b) => some b
  | _ => none
/-- The blocks that are handed in to be written. -/
def Cx.M (C : Cx) (b : Nat) : Prop := ∃ x ∈ C.m, blk x = some b
/-- A thing handed in to be written lies where it lay. -/
def still : AO → Bool
  | .box .. => true
  | .row g .. => Nat.beq g 0
  | .dead => false
  | .own .. => true
/-- The blocks that nobody writes any more. -/
def Dat (C : Cx) (β : Nat → Value) (O : List (Nat × AO)) (w : World) : Nat → Prop := fun b => (C.S0 b ∨ C.w0.heap.size ≤ b ∨ C.M b) ∧ b < w.heap.size ∧ ∀ id o, get? O id = some o → blk (β id) ≠ some b
/-- What is said of a block stays so where that block stays so, and those that it leads to. -/
def RStable (x : Value) (R : (Nat → Prop) → World → Prop) : Prop := ∀ (S S' : Nat → Prop) (w w' : World), R S w → (∀ b, S b → S' b ∧ w'.heap[b]? = w.heap[b]?) → (∀ b, blk x = some b → w'.heap[b]? = w.heap[b]?) → R S' w'
def RO (S : Nat → Prop) (w : World) (β : Nat → Value) (O : List (Nat × AO)) (id : Nat) : AO → Prop
  | .box T cs => ∃ b us, β id = .pointer (some ⟨b, 0, none⟩) ∧ w.heap[b]? = some (.cells (us : List Value).toArray T (0, 0)) ∧ us.length = cs.length ∧ (∀ u ∈ us, u.oneCell' = true) ∧ ∀ i (h : i < us.length) (h' : i < cs.length), RA S w β O us[i] cs[i]
  | .row _ e k xs => ∃ css : List (List Value), css.length = xs.length ∧ (∀ i (h : i < css.length) (h' : i < xs.length), RDs S w css[i] xs[i]) ∧ (∀ x ∈ xs, x.length = k) ∧ w.ownsRow 0 e k (β id) xs.length css.flatten
  | .dead => True
  | .own x R => β id = x ∧ R S w ∧ RStable x R
structure Inv (C : Cx) (σ : AS) (β : Nat → Value) (a : Act) (w : World) : Prop where
  defs : a.defers = []
  nt : a.tmps.size = C.nt
  os : w.os = C.w0.os
  tape : w.tape = C.w0.tape
  output : w.output = C.w0.output
  size : C.w0.heap.size ≤ w.heap.size
  fr : ∀ b, b < C.w0.heap.size → ¬ C.M b → w.heap[b]? = C.w0.heap[b]?
  env : ∀ t v, get? σ.env t = some v → ∃ u, a.tmps[t]? = some u ∧ RA (Dat C β σ.objs w) w β σ.objs u v
  obj : ∀ id o, get? σ.objs id = some o → RO (Dat C β σ.objs w) w β σ.objs id o
  dis : ∀ i j oi oj b, get? σ.objs i = some oi → get? σ.objs j = some oj → blk (β i) = some b → blk (β j) = some b → i = j
  own : ∀ i oi b, get? σ.objs i = some oi → blk (β i) = some b → (C.M b ∨ C.w0.heap.size ≤ b) ∧ b < w.heap.size
  pin : ∀ i x o, C.m[i]? = some x → get? σ.objs (C.nt + i) = some o → still o = true → β (C.nt + i) = x
def St (C : Cx) (σ : AS) (a : Act) (w : World) : Prop := ∃ β, Inv C σ β a w

section
variable {C : Cx} {σ : AS} {β : Nat → Value} {a : Act} {w w' : World}
theorem Dat.ext {O : List (Nat × AO)} (hx : Ext w w') : ∀ b, Dat C β O w b → Dat C β O w' b ∧ w'.heap[b]? = w.heap[b]? := fun b hb =>
  ⟨⟨hb.1, Nat.lt_of_lt_of_le hb.2.1 hx.size, hb.2.2⟩, hx.block b hb.2.1⟩
theorem RA.same {S S' : Nat → Prop} {O : List (Nat × AO)} {u : Value} {x : AV} (h : RA S w β O u x) (hs : ∀ b, S b → S' b ∧ w'.heap[b]? = w.heap[b]?) : RA S' w' β O u x :=
  h.keep hs (fun _ T cs h => ⟨⟨T, cs, h⟩, rfl⟩) (fun _ g e k xs h => ⟨g, e, k, xs, h, Nat.le_refl _, fun _ => ⟨rfl, rfl⟩⟩)
theorem ownsRow_ext {e : TypeId} {k n : Nat} {v : Value} {xs : List Value} (h : w.ownsRow 0 e k v n xs) (hb : ∀ b, blk v = some b → w'.heap[b]? = w.heap[b]?) : w'.ownsRow 0 e k v n xs := by
  refine ⟨h.1, ?_⟩
  rcases h.2 with h0 | ⟨g, cap, cur, hv, hb0, hg, rest⟩
  · exact .inl h0
  · exact .inr ⟨g, cap, cur, hv, hb0, by rw [hb g (by rw [hv]; rfl)]; exact hg, rest⟩
theorem RO.same {S S' : Nat → Prop} {O : List (Nat × AO)} {id : Nat} {o : AO} (h : RO S w β O id o) (hs : ∀ b, S b → S' b ∧ w'.heap[b]? = w.heap[b]?) (hb : ∀ b, blk (β id) = some b → w'.heap[b]? = w.heap[b]?) : RO S' w' β O id o := by
  cases o with
  | box T cs =>
    obtain ⟨b, us, h1, h2, h3, h4, h5⟩ := h
    exact ⟨b, us, h1, by rw [hb b (by rw [h1]; rfl)]; exact h2, h3, h4, fun i h h' => (h5 i h h').same hs⟩
  | row g e k xs =>
    obtain ⟨css, h1, h2, h3, h4⟩ := h
    exact ⟨css, h1, fun i h h' => (h2 i h h').keep hs, h3, ownsRow_ext h4 hb⟩
  | dead => trivial
  | own x R => exact ⟨h.1, h.2.2 _ _ _ _ h.2.1 hs fun b hb' => hb b (by rw [h.1]; exact hb'), h.2.2⟩
theorem Inv.ext (h : Inv C σ β a w) (hx : Ext w w') : Inv C σ β a w' where
  defs := h.defs
  nt := h.nt
  os := hx.os.trans h.os
  tape := hx.tape.trans h.tape
  output := hx.output.trans h.output
  size := Nat.le_trans h.size hx.size
  fr := fun b hb hm => (hx.block b (Nat.lt_of_lt_of_le hb h.size)).trans (h.fr b hb hm)
  env := fun t v ht => by
    obtain ⟨u, h1, h2⟩ := h.env t v ht
    exact ⟨u, h1, h2.same (Dat.ext hx)⟩
  obj := fun id o ho => (h.obj id o ho).same (Dat.ext hx) fun b hb => hx.block b (h.own id o b ho hb).2
  dis := h.dis
  own := fun i oi b h1 h2 => ⟨(h.own i oi b h1 h2).1, Nat.lt_of_lt_of_le (h.own i oi b h1 h2).2 hx.size⟩
  pin := h.pin
def AS.put (σ : AS) (d : Option Nat) (v : AV) : AS := match d with
  | some t => ⟨(t, v) :: σ.env, σ.objs⟩
  | none => σ
theorem AS.put_objs (d : Option Nat) (v : AV) : (σ.put d v).objs = σ.objs := by cases d <;> rfl
theorem Inv.put (h : Inv C σ β a w) (d : Option Nat) (hd : ∀ t, d = some t → t < C.nt) {u : Value} {v : AV} (hv : RA (Dat C β σ.objs w) w β σ.objs u v) : Inv C (σ.put d v) β (a.put d u) w := by
  cases d with
  | none => exact h
  | some d =>
    refine ⟨h.defs, by simp [Act.put, h.nt], h.os, h.tape, h.output, h.size, h.fr, fun t x ht => ?_, h.obj, h.dis, h.own, h.pin⟩
    simp only [AS.put, get?_cons] at ht
    have hd' : d < a.tmps.size := by rw [h.nt]; exact hd d rfl
    by_cases e : d = t
    · subst e
      rw [if_pos rfl] at ht
      injection ht with ht
      subst ht
      exact ⟨u, by simp [Act.put, Array.getElem?_setIfInBounds_self_of_lt hd'], hv⟩
    · rw [if_neg e] at ht
      obtain ⟨u', h1, h2⟩ := h.env t x ht
      exact ⟨u', by simp only [Act.put]; rw [Array.getElem?_setIfInBounds_ne e]; exact h1, h2⟩
/-- Nothing known of a slot. -/
theorem Inv.putUn (h : Inv C σ β a w) (d : Option Nat) (hd : ∀ t, d = some t → t < C.nt) (u : Value) : Inv C (σ.put d .un) β (a.put d u) w := h.put d hd trivial
/-- Of an operation that is not carried out. -/
theorem Inv.putNo (h : Inv C σ β a w) (d : Option Nat) (hd : ∀ t, d = some t → t < C.nt) : Inv C (σ.put d (.t [])) β (a.put d undef) w := h.put d hd ⟨[], rfl, rfl, fun i h => absurd h (by simp)⟩

/-! ### operands -/
def constD : Value → Option D
  | .slice none 0 0 => some .n
  | .agg _ => none
  | .tuple _ => none
  | v => some (.v v)
theorem constD_sound {S : Nat → Prop} {v : Value} {d : D} (h : constD v = some d) : RD S w v d := by
  unfold constD at h
  split at h
  · injection h with h; subst h; exact .n
  · cases h
  · cases h
  · injection h with h
    subst h
    refine .v ?_
    cases v <;> first | rfl | (rename_i h1 h2 _ _; simp at *)
def constDs : List Value → Option (List D)
  | [] => some []
  | v :: r => match constD v, constDs r with
    | some d, some ds => some (d :: ds)
    | _, _ => none
theorem constDs_sound {S : Nat → Prop} : ∀ {vs : List Value} {ds : List D}, constDs vs = some ds → RDs S w vs ds
  | [], ds, h => by simp [constDs] at h; subst h; exact .nil
  | v :: r, ds, h => by
    unfold constDs at h
    split at h
    · rename_i d ds' h1 h2
      injection h with h
      subst h
      exact .cons (constD_sound h1) (constDs_sound h2)
    · cases h
def constAV : Value → AV
  | .agg cs => match constDs cs.toList with
    | some ds => .g ds
    | none => .un
  | v => match constD v with
    | some d => .d d
    | none => .un
theorem constAV_sound {S : Nat → Prop} {O : List (Nat × AO)} (v : Value) : RA S w β O v (constAV v) := by
  unfold constAV
  split
  · split
    · rename_i cs _ ds h
      exact ⟨cs.toList, by simp, constDs_sound h⟩
    · trivial
  · split
    · rename_i d h
      exact constD_sound h
    · trivial
def ev (σ : AS) : Operand → AV
  | .tmp t => match get? σ.env t with
    | some v => v
    | none => .un
  | .const v => constAV v
  | .func f => .d (.v (.func (.func f) #[] #[]))
  | .global g => .d (.v (.pointer (some ⟨g, 0, none⟩)))
theorem Inv.ev (h : Inv C σ β a w) (x : Operand) : RA (Dat C β σ.objs w) w β σ.objs (a.eval x) (ev σ x) := by
  cases x with
  | tmp t =>
    simp only [YtfijmpmojhlnmaaGreatDoor.ev]
    split
    · rename_i v hv
      obtain ⟨u, h1, h2⟩ := h.env t v hv
      have : a.eval (.tmp t) = u := by simp [Act.eval, Array.getD_eq_getD_getElem?, h1]
      rw [this]; exact h2
    · trivial
  | const v => exact constAV_sound v
  | func f => exact RD.v rfl
  | global g => exact RD.v rfl
/-- The slots that an operation reads. -/
def Oper.rd (o : Oper) : List Nat := o.op.operands.toList.filterMap fun | .tmp t => some t | _ => none
end
/-! ### who speaks of a block of the call's own -/
def refsL : AV → List Nat
  | .p i _ => [i]
  | .r i _ => [i]
  | .e i _ _ _ => [i]
  | _ => []
def refsA (d : Nat) (v : AV) : Bool := (refsL v).elem d
def refsOL : AO → List Nat
  | .box _ cs => cs.flatMap refsL
  | .row .. => []
  | .dead => []
  | .own .. => []
def refsO (d : Nat) (o : AO) : Bool := (refsOL o).elem d
/-- Nobody speaks of d. -/
def noRef (σ : AS) (d : Nat) : Bool := (σ.env.all fun x => !refsA d x.2) && (σ.objs.all fun x => !Nat.beq x.1 d && !refsO d x.2)
/-- .. as far as questions go. -/
structure NoRef (σ : AS) (d : Nat) : Prop where
  env : ∀ t v, get? σ.env t = some v → refsA d v = false
  obj : ∀ id o, get? σ.objs id = some o → id ≠ d ∧ refsO d o = false
theorem noRef.out {σ : AS} {d : Nat} (h : noRef σ d = true) : NoRef σ d := by
  unfold noRef at h
  rw [Bool.and_eq_true, List.all_eq_true, List.all_eq_true] at h
  refine ⟨fun t v ht => by simpa using h.1 _ (get?_mem ht), fun id o ht => ?_⟩
  have := h.2 _ (get?_mem ht)
  simp only [Bool.and_eq_true, Bool.not_eq_true'] at this
  refine ⟨fun e => ?_, this.2⟩
  subst e
  simp at this
/-! ### operations -/
/-- What an operation looks at and changes among the blocks of the call's own: blocks that it reads, blocks of which it wants the address alone, blocks that it writes (what they hold then), a block that it makes. -/
structure Fx where
  R : List Nat := []
  X : List Nat := []
  W : List (Nat × AO) := []
  nw : Option Nat := none
abbrev Fx.nil : Fx := {}
/-- σ' is as σ is, as far as an operation looks. -/
structure Like (o : Oper) (σ σ' : AS) (f : Fx) : Prop where
  env : ∀ t, t ∈ Oper.rd o → ∀ v, get? σ.env t = some v → v = .un ∨ get? σ'.env t = some v
  rd : ∀ id, id ∈ f.R → get? σ'.objs id = get? σ.objs id
  box : ∀ id, id ∈ f.X → ∀ T cs, get? σ.objs id = some (.box T cs) → ∃ T' cs', get? σ'.objs id = some (.box T' cs')
  new : ∀ d, f.nw = some d → NoRef σ' d
theorem Like.refl {o : Oper} {σ : AS} {f : Fx} (h : ∀ d, f.nw = some d → NoRef σ d) : Like o σ σ f := ⟨fun _ _ _ h => .inr h, fun _ _ => rfl, fun _ _ T cs h => ⟨T, cs, h⟩, h⟩
theorem Like.ra {C : Cx} {β : Nat → Value} {a : Act} {w : World} {o : Oper} {σ σ' : AS} {f : Fx} (h : Like o σ σ' f) (hi : Inv C σ' β a w) {x : Operand} (hx : x ∈ o.op.operands.toList) : RA (Dat C β σ'.objs w) w β σ'.objs (a.eval x) (ev σ x) := by
  have h1 := hi.ev x
  cases x with
  | tmp t =>
    have ht : t ∈ Oper.rd o := List.mem_filterMap.2 ⟨.tmp t, hx, rfl⟩
    have h2 := h.env t ht
    simp only [YtfijmpmojhlnmaaGreatDoor.ev] at h1 ⊢
    cases e : get? σ.env t with
    | none => trivial
    | some v =>
      rcases h2 v e with h3 | h3
      · subst h3; trivial
      · rw [h3] at h1; exact h1
  | _ => exact h1
def dstOK (nt : Nat) (o : Oper) : Bool := match o.dst with
  | some d => Nat.blt d nt
  | none => true
theorem dstOK.out {nt : Nat} {o : Oper} (h : dstOK nt o = true) : ∀ t, o.dst = some t → t < nt := by
  intro t ht
  unfold dstOK at h
  rw [ht] at h
  simpa [Nat.blt_eq] using h
def AS.upd (σ : AS) (d : Option Nat) (v : AV) (W : List (Nat × AO)) : AS := ⟨(σ.put d v).env, W ++ σ.objs⟩
/-- What an operation does: from every state that is like σ as far as it looks. -/
def Do (P : Program) (C : Cx) (o : Oper) (σ : AS) (v : AV) (f : Fx) : Prop :=
  ∀ σ', Like o σ σ' f → dstOK C.nt o = true → ∀ a w K Q, St C σ' a w → (∀ a' w', St C (σ'.upd o.dst v f.W) a' w' → K a' w') → o.wp P a w K Q
/-- The usual way: the operation runs, the old blocks stay. -/
theorem Do.of {P : Program} {C : Cx} {o : Oper} {σ : AS} {v : AV} {R X : List Nat}
    (h : ∀ σ', Like o σ σ' ⟨R, X, [], none⟩ → ∀ β a w, Inv C σ' β a w → ∃ u w', (execOp a.eval o).run P w = .ok (.value u) w' ∧ Ext w w' ∧ RA (Dat C β σ'.objs w') w' β σ'.objs u v) : Do P C o σ v ⟨R, X, [], none⟩ := by
  intro σ' hl hd a w K Q ⟨β, hi⟩ hk
  obtain ⟨u, w', hr, hx, hv⟩ := h σ' hl β a w hi
  unfold Oper.wp
  rw [hr]
  have := (hi.ext hx).put _ (dstOK.out hd) hv
  refine hk _ _ ⟨β, ?_⟩
  cases e : o.dst with
  | none => rw [e] at this; exact this
  | some d => rw [e] at this; exact this

/-! ### regions -/
def gslot (ops : Array Oper) (g : Nat) : Option Nat := (ops[g]?).bind (·.dst)
def isB (σ : AS) (t : Option Nat) (b : Bool) : Prop := match t with
  | some t => get? σ.env t = some (.d (.v (.bool b)))
  | none => False
def notB (σ : AS) (t : Option Nat) (b : Bool) : Prop := match t with
  | some t => get? σ.env t = some (.d (.v (.bool (!b)))) ∨ get? σ.env t = some (.t [])
  | none => False
/-- What is noted of a step: the blocks it reads, addresses, writes, makes, speaks of. -/
structure Inf where
  R : List Nat
  X : List Nat
  W : List Nat
  nw : Option Nat
  rf : List Nat
def infOf (v : AV) (f : Fx) : Inf := ⟨f.R, f.X, f.W.map (·.1), f.nw, refsL v ++ f.W.flatMap fun x => refsOL x.2⟩
def addI (m : Option (List Inf)) (i : Inf) : Option (List Inf) := match m with
  | some l => some (l ++ [i])
  | none => none
def isBox : AO → Bool
  | .box .. => true
  | .row .. => false
  | .dead => false
  | .own .. => false
/-- What is written keeps its kind. -/
def kindB (σ : AS) (f : Fx) : Bool := f.W.all fun x => (match f.nw with | some d => Nat.beq x.1 d | none => false) || (match get? σ.objs x.1 with | some o => isBox o == isBox x.2 | none => false)
def newOK (σ : AS) (f : Fx) : Bool := match f.nw with
  | some d => noRef σ d
  | none => true
/-- The operations of a region, one after another; what each step looked at is noted where the order is open; ms: for each operation those that come ahead of it, as bits. -/
inductive Chain (P : Program) (C : Cx) (ops : Array Oper) (fin : List Inf → Prop) (Q : AS → Prop) : Option (List Inf) → List Oper → AS → Prop
  | nil {m : Option (List Inf)} {σ : AS} (hm : ∀ l, m = some l → fin l) (h : Q σ) : Chain P C ops fin Q m [] σ
  | step {m : Option (List Inf)} {o : Oper} {rest : List Oper} {σ : AS} (v : AV) (f : Fx) (hg : o.guard = none ∨ ∃ g b, o.guard = some (g, b) ∧ isB σ (gslot ops g) b) (h : Do P C o σ v f) (hk : kindB σ f = true) (hn : newOK σ f = true) (k : Chain P C ops fin Q (addI m (infOf v f)) rest (σ.upd o.dst v f.W)) : Chain P C ops fin Q m (o :: rest) σ
  | off {m : Option (List Inf)} {o : Oper} {rest : List Oper} {σ : AS} (g : Nat) (b : Bool) (hg : o.guard = some (g, b)) (hb : notB σ (gslot ops g) b) (k : Chain P C ops fin Q (addI m (infOf (.t []) {})) rest (σ.upd o.dst (.t []) [])) : Chain P C ops fin Q m (o :: rest) σ
  | weak {rest : List Oper} {σ : AS} (σ' : AS) (h : ∀ a w, St C σ a w → St C σ' a w) (k : Chain P C ops fin Q none rest σ') : Chain P C ops fin Q none rest σ
  | any {rest : List Oper} {σ : AS} (V : AS → Prop) (h : ∀ a w, St C σ a w → ∃ σ', V σ' ∧ St C σ' a w) (k : ∀ σ', V σ' → Chain P C ops fin Q none rest σ') : Chain P C ops fin Q none rest σ
  | eff {o : Oper} {rest : List Oper} {σ : AS} (V : AS → Prop) (hg : o.guard = none) (h : dstOK C.nt o = true → ∀ a w K Q', St C σ a w → (∀ σ' a' w', V σ' → St C σ' a' w' → K a' w') → o.wp P a w K Q') (k : ∀ σ', V σ' → Chain P C ops fin Q none rest σ') : Chain P C ops fin Q none (o :: rest) σ
theorem isB.yields {C : Cx} {σ : AS} {β : Nat → Value} {a : Act} {w : World} {ops : Array Oper} {g : Nat} {b : Bool} (h : Inv C σ β a w) (hb : isB σ (gslot ops g) b) : yielded ops a.tmps g = some b := by
  unfold isB gslot at hb
  unfold yielded
  cases e : (ops[g]?).bind (·.dst) with
  | none => rw [e] at hb; exact hb.elim
  | some t =>
    rw [e] at hb
    obtain ⟨u, h1, h2⟩ := h.env t _ hb
    have : u = .bool b := by cases h2; rfl
    subst this
    simp [h1]
theorem notB.yields {C : Cx} {σ : AS} {β : Nat → Value} {a : Act} {w : World} {ops : Array Oper} {g : Nat} {b : Bool} (h : Inv C σ β a w) (hb : notB σ (gslot ops g) b) : yielded ops a.tmps g ≠ some b := by
  unfold notB gslot at hb
  unfold yielded
  cases e : (ops[g]?).bind (·.dst) with
  | none => rw [e] at hb; exact hb.elim
  | some t =>
    rw [e] at hb
    rcases hb with hb | hb
    · obtain ⟨u, h1, h2⟩ := h.env t _ hb
      have : u = .bool (!b) := by cases h2; rfl
      subst this
      simp [h1]
    · obtain ⟨u, h1, us, h2, h3, _⟩ := h.env t _ hb
      subst h2
      simp [h1]
theorem Inv.offS {C : Cx} {σ : AS} {β : Nat → Value} {a : Act} {w : World} (h : Inv C σ β a w) (d : Option Nat) (hd : ∀ t, d = some t → t < C.nt) : Inv C (σ.upd d (.t []) []) β (a.put d undef) w := by
  have := h.putNo d hd
  cases d <;> exact this
theorem newOK.out {σ : AS} {f : Fx} (h : newOK σ f = true) : ∀ d, f.nw = some d → NoRef σ d := by
  intro d hd
  unfold newOK at h
  rw [hd] at h
  exact noRef.out h
def liftQ (C : Cx) (Q : Exit → AS → Prop) : Exit → Act → World → Prop := fun e a w => ∃ σ, Q e σ ∧ St C σ a w
theorem Chain.seq {P : Program} {C : Cx} {ops : Array Oper} {fin : List Inf → Prop} {Q : Exit → AS → Prop} {rest : List Oper} {σ : AS} {m : Option (List Inf)} (h : Chain P C ops fin (Q .normal) m rest σ) (hd : ∀ o ∈ rest, dstOK C.nt o = true) :
    ∀ a w, St C σ a w → wpList P ops (liftQ C Q) rest a w := by
  induction h with
  | nil hm h => intro a w hs; exact ⟨_, h, hs⟩
  | step v f hg h hk hn k ih =>
    intro a w hs
    obtain ⟨β, hi⟩ := id hs
    refine wpList_step fun K hK => ?_
    have go := h _ (.refl (newOK.out hn)) (hd _ (by simp)) a w K (liftQ C Q) hs fun a' w' hs' => hK _ _ (ih (fun o ho => hd o (by simp [ho])) a' w' hs')
    rcases hg with hg | ⟨g, b, hg, hb⟩
    · rw [if_pos (by simp [Region.wanted, hg])]; exact go
    · rw [if_pos (by simp [Region.wanted, hg, hb.yields hi])]; exact go
  | off g b hg hb k ih =>
    intro a w hs
    obtain ⟨β, hi⟩ := id hs
    refine wpList_step fun K hK => ?_
    rw [if_neg (by have := hb.yields hi; simp [Region.wanted, hg, this])]
    exact hK _ _ (ih (fun o ho => hd o (by simp [ho])) _ _ ⟨β, hi.offS _ (dstOK.out (hd _ (by simp)))⟩)
  | weak σ' h k ih => intro a w hs; exact ih hd a w (h a w hs)
  | any V h k ih => intro a w hs; obtain ⟨σ', h1, h2⟩ := h a w hs; exact ih σ' h1 hd a w h2
  | eff V hg h k ih =>
    intro a w hs
    refine wpList_step fun K hK => ?_
    rw [if_pos (by simp [Region.wanted, hg])]
    exact h (hd _ (by simp)) a w K (liftQ C Q) hs fun σ' a' w' hv hs' => hK _ _ (ih σ' hv (fun o ho => hd o (by simp [ho])) a' w' hs')
end Go.Proofs.YtfijmpmojhlnmaaGreatDoor
