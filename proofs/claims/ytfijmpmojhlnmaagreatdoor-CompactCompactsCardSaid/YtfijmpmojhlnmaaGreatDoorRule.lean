/-
  What each kind of operation does to a state told by plain data. No program in sight.
-/
import Derived.Test.YtfijmpmojhlnmaaGreatDoorReg
import Derived.WalkKit
import Derived.IntWalk
namespace Go.Proofs.YtfijmpmojhlnmaaGreatDoor
open Go.RowKit

/-! ### facts of types -/
/-- A type's cells: is it a struct or an array, how many cells has it? -/
class Sz (P : Program) (T : TypeId) (ag : outParam Bool) (n : outParam Nat) : Prop where
  u : ∃ d, P.underlying T = some d ∧ d.isRow = ag
  s : (P.info? T).map (·.size) = some n
/-- A struct's field: where its cells begin. -/
class Fl (P : Program) (T : TypeId) (f : Nat) (off : outParam Nat) : Prop where
  u : ∃ fs fd, P.underlying T = some (.struct fs) ∧ fs[f]? = some fd ∧ fd.offset = off ∧ ∃ n, (P.info? fd.type).map (·.size) = some (n + 1)
/-- A slice type: its elements' type, their cells, their bytes. -/
class Sl (P : Program) (T : TypeId) (e : outParam TypeId) (k bytes : outParam Nat) : Prop where
  e : Elem P T e k bytes
/-- A type of whole numbers. -/
class It (P : Program) (T : TypeId) (k : outParam IntKind) : Prop where
  u : P.underlying T = some (.int k)
/-- A type's zero value, cell by cell. -/
class Zr (P : Program) (T : TypeId) (zs : outParam (List Value)) : Prop where
  z : ∃ i z, P.info? T = some i ∧ i.zero = some z ∧ z.cells.toList = zs
def flOf (P : Program) (T f : Nat) : Option (Nat × Nat) := match P.underlying T with
  | some (.struct fs) => match fs[f]? with
    | some fd => (P.info? fd.type).map fun i => (fd.offset, i.size)
    | none => none
  | _ => none
theorem Fl.mk' {P : Program} {T f off n : Nat} (h : flOf P T f = some (off, n + 1)) : Fl P T f off := by
  unfold flOf at h
  split at h
  · rename_i fs h1
    split at h
    · rename_i fd h2
      obtain ⟨i, h3, h4⟩ := Option.map_eq_some_iff.1 h
      simp only [Prod.mk.injEq] at h4
      exact ⟨fs, fd, h1, h2, h4.1, n, by rw [h3]; simp [h4.2]⟩
    · cases h
  · cases h
def szOf (P : Program) (T : Nat) : Option (Bool × Nat) := match P.underlying T, P.info? T with
  | some d, some i => some (d.isRow, i.size)
  | _, _ => none
theorem Sz.mk' {P : Program} {T : Nat} {b : Bool} {n : Nat} (h : szOf P T = some (b, n)) : Sz P T b n := by
  unfold szOf at h
  split at h
  · rename_i d i h1 h2
    simp only [Option.some.injEq, Prod.mk.injEq] at h
    exact ⟨⟨d, h1, h.1⟩, by rw [h2]; simp [h.2]⟩
  · cases h
theorem Zr.mk' {P : Program} {T : Nat} {zs : List Value} (h : (P.info? T).bind (fun i => i.zero.map fun z => z.cells.toList) = some zs) : Zr P T zs := by
  obtain ⟨i, h1, h2⟩ := Option.bind_eq_some_iff.1 h
  obtain ⟨z, h3, h4⟩ := Option.map_eq_some_iff.1 h2
  exact ⟨i, z, h1, h3, h4⟩

section
variable {P : Program} {C : Cx} {ops : Array Oper} {fin : List Inf → Prop} {Q : AS → Prop} {m : Option (List Inf)} {l : List Inf} {o : Oper} {rest : List Oper} {σ : AS}
/-- Is an operation carried out? -/
def gst (ops : Array Oper) (σ : AS) (o : Oper) : Option Bool := match o.guard with
  | none => some true
  | some (g, b) => match gslot ops g with
    | some t => match get? σ.env t with
      | some (.d (.v (.bool c))) => some (match b, c with | true, true => true | false, false => true | _, _ => false)
      | some (.t []) => some false
      | _ => none
    | none => none
theorem Chain.run {v : AV} {f : Fx} (hg : gst ops σ o = some true) (h : Do P C o σ v f) (hk : kindB σ f = true) (hn : newOK σ f = true) (k : Chain P C ops fin Q (addI m (infOf v f)) rest (σ.upd o.dst v f.W)) : Chain P C ops fin Q m (o :: rest) σ := by
  unfold gst at hg
  cases e : o.guard with
  | none => exact .step v f (.inl e) h hk hn k
  | some x =>
    obtain ⟨g, b⟩ := x
    simp only [e] at hg
    split at hg
    · rename_i t ht
      split at hg
      · rename_i c hc
        refine .step v f (.inr ⟨g, b, e, ?_⟩) h hk hn k
        unfold isB
        rw [ht]
        show get? σ.env t = _
        rw [hc]
        cases b <;> cases c <;> simp_all
      · cases hg
      · cases hg
    · cases hg
theorem Chain.skip (hg : gst ops σ o = some false) (k : Chain P C ops fin Q (addI m (infOf (.t []) {})) rest (σ.upd o.dst (.t []) [])) : Chain P C ops fin Q m (o :: rest) σ := by
  unfold gst at hg
  cases e : o.guard with
  | none => simp [e] at hg
  | some x =>
    obtain ⟨g, b⟩ := x
    simp only [e] at hg
    split at hg
    · rename_i t ht
      split at hg
      · rename_i c hc
        refine .off g b e ?_ k
        unfold notB
        rw [ht]
        refine .inl ?_
        rw [hc]
        cases b <;> cases c <;> simp_all
      · rename_i hc
        refine .off g b e ?_ k
        unfold notB
        rw [ht]
        exact .inr hc
      · cases hg
    · cases hg
section
variable {E : List (Nat × AV)} {O : List (Nat × AO)} {v : AV} {d id : Nat} {ob : AO} {R X : List Nat} {nw : Option Nat}
theorem Chain.go (hg : gst ops ⟨E, O⟩ o = some true) (hd : o.dst = some d) (h : Do P C o ⟨E, O⟩ v ⟨R, X, [], none⟩) (k : Chain P C ops fin Q none rest ⟨(d, v) :: E, O⟩) : Chain P C ops fin Q none (o :: rest) ⟨E, O⟩ :=
  .run hg h rfl rfl (by rw [hd]; exact k)
theorem Chain.goD (hg : gst ops ⟨E, O⟩ o = some true) (hd : o.dst = some d) (h : Do P C o ⟨E, O⟩ v ⟨R, X, [], none⟩) (k : Chain P C ops fin Q (some (l ++ [infOf v ⟨R, X, [], none⟩])) rest ⟨(d, v) :: E, O⟩) : Chain P C ops fin Q (some l) (o :: rest) ⟨E, O⟩ :=
  .run hg h rfl rfl (by rw [hd]; exact k)
theorem Chain.no (hg : gst ops ⟨E, O⟩ o = some false) (hd : o.dst = some d) (k : Chain P C ops fin Q none rest ⟨(d, .t []) :: E, O⟩) : Chain P C ops fin Q none (o :: rest) ⟨E, O⟩ :=
  .skip hg (by rw [hd]; exact k)
theorem Chain.noD (hg : gst ops ⟨E, O⟩ o = some false) (hd : o.dst = some d) (k : Chain P C ops fin Q (some (l ++ [infOf (.t []) {}])) rest ⟨(d, .t []) :: E, O⟩) : Chain P C ops fin Q (some l) (o :: rest) ⟨E, O⟩ :=
  .skip hg (by rw [hd]; exact k)
theorem Chain.noN (hg : gst ops ⟨E, O⟩ o = some false) (hd : o.dst = none) (k : Chain P C ops fin Q (addI m (infOf (.t []) {})) rest ⟨E, O⟩) : Chain P C ops fin Q m (o :: rest) ⟨E, O⟩ :=
  .skip hg (by rw [hd]; exact k)
/-- A write, its result in a slot. -/
theorem Chain.ef (hg : gst ops ⟨E, O⟩ o = some true) (hd : o.dst = some d) (h : Do P C o ⟨E, O⟩ v ⟨R, X, [(id, ob)], nw⟩) (hk : kindB ⟨E, O⟩ ⟨R, X, [(id, ob)], nw⟩ = true) (hn : newOK ⟨E, O⟩ ⟨R, X, [(id, ob)], nw⟩ = true) (k : Chain P C ops fin Q none rest ⟨(d, v) :: E, (id, ob) :: O⟩) : Chain P C ops fin Q none (o :: rest) ⟨E, O⟩ :=
  .run hg h hk hn (by rw [hd]; exact k)
theorem Chain.efD (hg : gst ops ⟨E, O⟩ o = some true) (hd : o.dst = some d) (h : Do P C o ⟨E, O⟩ v ⟨R, X, [(id, ob)], nw⟩) (hk : kindB ⟨E, O⟩ ⟨R, X, [(id, ob)], nw⟩ = true) (hn : newOK ⟨E, O⟩ ⟨R, X, [(id, ob)], nw⟩ = true) (k : Chain P C ops fin Q (some (l ++ [infOf v ⟨R, X, [(id, ob)], nw⟩])) rest ⟨(d, v) :: E, (id, ob) :: O⟩) : Chain P C ops fin Q (some l) (o :: rest) ⟨E, O⟩ :=
  .run hg h hk hn (by rw [hd]; exact k)
/-- A write without a result. -/
theorem Chain.st (hg : gst ops ⟨E, O⟩ o = some true) (hd : o.dst = none) (h : Do P C o ⟨E, O⟩ v ⟨R, X, [(id, ob)], nw⟩) (hk : kindB ⟨E, O⟩ ⟨R, X, [(id, ob)], nw⟩ = true) (hn : newOK ⟨E, O⟩ ⟨R, X, [(id, ob)], nw⟩ = true) (k : Chain P C ops fin Q none rest ⟨E, (id, ob) :: O⟩) : Chain P C ops fin Q none (o :: rest) ⟨E, O⟩ :=
  .run hg h hk hn (by rw [hd]; exact k)
theorem Chain.stD (hg : gst ops ⟨E, O⟩ o = some true) (hd : o.dst = none) (h : Do P C o ⟨E, O⟩ v ⟨R, X, [(id, ob)], nw⟩) (hk : kindB ⟨E, O⟩ ⟨R, X, [(id, ob)], nw⟩ = true) (hn : newOK ⟨E, O⟩ ⟨R, X, [(id, ob)], nw⟩ = true) (k : Chain P C ops fin Q (some (l ++ [infOf v ⟨R, X, [(id, ob)], nw⟩])) rest ⟨E, (id, ob) :: O⟩) : Chain P C ops fin Q (some l) (o :: rest) ⟨E, O⟩ :=
  .run hg h hk hn (by rw [hd]; exact k)
end
theorem Chain.nil0 {σ : AS} (h : Q σ) : Chain P C ops fin Q none [] σ := .nil (fun _ h => by cases h) h
theorem Chain.nilD {ms : List Nat} {σ : AS} (hm : okI ms l = true) (h : Q σ) : Chain P C ops (YtfijmpmojhlnmaaGreatDoor.fin ms) Q (some l) [] σ := .nil (fun _ h => by cases h; exact hm) h
/-- An operation that writes no block of the call's own, and reads none. -/
abbrev Loc (P : Program) (C : Cx) (o : Oper) (σ : AS) (v : AV) : Prop := Do P C o σ v ⟨[], [], [], none⟩
abbrev LocR (P : Program) (C : Cx) (o : Oper) (σ : AS) (v : AV) (id : Nat) : Prop := Do P C o σ v ⟨[id], [], [], none⟩
abbrev LocX (P : Program) (C : Cx) (o : Oper) (σ : AS) (v : AV) (id : Nat) : Prop := Do P C o σ v ⟨[], [id], [], none⟩
/-! ### operations that look at their operands alone -/
theorem Loc.quiet {v : AV} {R X : List Nat} (h : ∀ σ', Like o σ σ' ⟨R, X, [], none⟩ → ∀ β a w, Inv C σ' β a w → ∃ u, (execOp a.eval o).run P w = .ok (.value u) w ∧ RA (Dat C β σ'.objs w) w β σ'.objs u v) : Do P C o σ v ⟨R, X, [], none⟩ :=
  Do.of fun σ' hl β a w hi => by
    obtain ⟨u, h1, h2⟩ := h σ' hl β a w hi
    exact ⟨u, w, h1, Below.refl _ _, h2⟩
/-- One operand. -/
theorem Loc.one {v x : AV} {X : Operand} (hX : X ∈ o.op.operands.toList) (hx : ev σ X = x)
    (h : ∀ S w β O (a : Act), RA S w β O (a.eval X) x → ∃ u, (execOp a.eval o).run P w = .ok (.value u) w ∧ RA S w β O u v) : Loc P C o σ v :=
  Loc.quiet fun σ' hl β a w hi => h _ _ _ _ a (by have := hl.ra hi hX; rwa [hx] at this)
/-- Two operands. -/
theorem Loc.two {v x y : AV} {X Y : Operand} (hX : X ∈ o.op.operands.toList) (hx : ev σ X = x) (hY : Y ∈ o.op.operands.toList) (hy : ev σ Y = y)
    (h : ∀ S w β O (a : Act), RA S w β O (a.eval X) x → RA S w β O (a.eval Y) y → ∃ u, (execOp a.eval o).run P w = .ok (.value u) w ∧ RA S w β O u v) : Loc P C o σ v :=
  Loc.quiet fun σ' hl β a w hi => h _ _ _ _ a (by have := hl.ra hi hX; rwa [hx] at this) (by have := hl.ra hi hY; rwa [hy] at this)
theorem RA.val {S : Nat → Prop} {w : World} {β : Nat → Value} {O : List (Nat × AO)} {u x : Value} (h : RA S w β O u (.d (.v x))) : u = x := by cases h; rfl
theorem RA.mk {S : Nat → Prop} {w : World} {β : Nat → Value} {O : List (Nat × AO)} {x : Value} (h : x.oneCell' = true) : RA S w β O x (.d (.v x)) := RD.v h
theorem Loc.move {x : Operand} {v : AV} (ho : o.op = .move x) (hx : ev σ x = v) : Loc P C o σ v :=
  Loc.one (by rw [ho]; simp [Op.operands]) hx fun S w β O a h => ⟨a.eval x, by unfold execOp; rw [ho]; rfl, h⟩
theorem Loc.assign {x : Operand} {v : AV} (ho : o.op = .assign x) (hx : ev σ x = v) : Loc P C o σ v :=
  Loc.one (by rw [ho]; simp [Op.operands]) hx fun S w β O a h => ⟨a.eval x, by unfold execOp; rw [ho]; rfl, h⟩
theorem Loc.pickT {c x y : Operand} {v : AV} (ho : o.op = .pick c x y) (hc : ev σ c = .d (.v (.bool true))) (hx : ev σ x = v) : Loc P C o σ v :=
  Loc.two (X := c) (Y := x) (by rw [ho]; simp [Op.operands]) hc (by rw [ho]; simp [Op.operands]) hx fun S w β O a h1 h2 => ⟨a.eval x, by unfold execOp; rw [ho]; simp [RA.val h1, asBool], h2⟩
theorem Loc.pickF {c x y : Operand} {v : AV} (ho : o.op = .pick c x y) (hc : ev σ c = .d (.v (.bool false))) (hx : ev σ y = v) : Loc P C o σ v :=
  Loc.two (X := c) (Y := y) (by rw [ho]; simp [Op.operands]) hc (by rw [ho]; simp [Op.operands]) hx fun S w β O a h1 h2 => ⟨a.eval y, by unfold execOp; rw [ho]; simp [RA.val h1, asBool], h2⟩
theorem Loc.not {x : Operand} {T : TypeId} {b : Bool} (ho : o.op = .unOp .not T x) (hx : ev σ x = .d (.v (.bool b))) : Loc P C o σ (.d (.v (.bool (!b)))) :=
  Loc.one (by rw [ho]; simp [Op.operands]) hx fun S w β O a h => ⟨_, by unfold execOp; rw [ho]; simp [RA.val h, Op.unary], .mk rfl⟩
theorem Loc.notT {x : Operand} {T : TypeId} (ho : o.op = .unOp .not T x) (hx : ev σ x = .d (.v (.bool true))) : Loc P C o σ (.d (.v (.bool false))) := Loc.not ho hx
theorem Loc.notF {x : Operand} {T : TypeId} (ho : o.op = .unOp .not T x) (hx : ev σ x = .d (.v (.bool false))) : Loc P C o σ (.d (.v (.bool true))) := Loc.not ho hx
theorem Loc.extract {x : Operand} {i : Nat} {xs : List DV} {v : AV} (ho : o.op = .extract x i) (hx : ev σ x = .t xs) (hv : (match xs[i]? with | some (.d c) => AV.d c | some (.g cs) => .g cs | none => .un) = v) (hi : Nat.blt i xs.length = true) : Loc P C o σ v :=
  Loc.one (by rw [ho]; simp [Op.operands]) hx fun S w β O a h => by
    obtain ⟨us, h1, h2, h3⟩ := h
    have hlt : i < xs.length := by rwa [Nat.blt_eq] at hi
    refine ⟨us[i]'(by omega), by unfold execOp; rw [ho]; simp [h1, Instr.extract, List.getElem?_eq_getElem (show i < us.length by omega)], ?_⟩
    have := h3 i (by omega) hlt
    rw [List.getElem?_eq_getElem hlt] at hv
    subst hv
    cases e : xs[i] with
    | d c => rw [e] at this; exact this
    | g cs => rw [e] at this; exact this

/-! ### numbers -/
/-- The result of two numbers, where it is in range. -/
theorem Loc.bin {op : BinOp} {T T' : TypeId} {x y : Operand} {k : IntKind} {a b : Int} {v : Value} (ho : o.op = .binOp op T x y T') (hx : ev σ x = .d (.v (.int k a))) (hy : ev σ y = .d (.v (.int k b)))
    (hr : ∀ w, (binOp op T (.int k a) (.int k b)).run P w = .ok v w) (h1 : v.oneCell' = true) : Loc P C o σ (.d (.v v)) :=
  Loc.two (by rw [ho]; simp [Op.operands]) hx (by rw [ho]; simp [Op.operands]) hy fun S w β O c h1' h2' => by
    refine ⟨v, ?_, .mk h1⟩
    unfold execOp; rw [ho]
    have hg : (eqGuard op T x y (.int k a) (.int k b)).run P w = .ok () w := by
      unfold eqGuard
      cases op <;> simp
    simp [RA.val h1', RA.val h2', hg, hr]
theorem Loc.add {T T' : TypeId} {x y : Operand} {k : IntKind} {a b : Int} (ho : o.op = .binOp .add T x y T') (hx : ev σ x = .d (.v (.int k a))) (hy : ev σ y = .d (.v (.int k b))) (hr : k.wrap (a + b) = a + b) : Loc P C o σ (.d (.v (.int k (a + b)))) :=
  Loc.bin ho hx hy (fun w => by cases k <;> simp [binOp, Op.intArith, hr]) rfl
theorem Loc.sub {T T' : TypeId} {x y : Operand} {k : IntKind} {a b : Int} (ho : o.op = .binOp .sub T x y T') (hx : ev σ x = .d (.v (.int k a))) (hy : ev σ y = .d (.v (.int k b))) (hr : k.wrap (a - b) = a - b) : Loc P C o σ (.d (.v (.int k (a - b)))) :=
  Loc.bin ho hx hy (fun w => by cases k <;> simp [binOp, Op.intArith, hr]) rfl
theorem Loc.mul {T T' : TypeId} {x y : Operand} {k : IntKind} {a b : Int} (ho : o.op = .binOp .mul T x y T') (hx : ev σ x = .d (.v (.int k a))) (hy : ev σ y = .d (.v (.int k b))) (hr : k.wrap (a * b) = a * b) : Loc P C o σ (.d (.v (.int k (a * b)))) :=
  Loc.bin ho hx hy (fun w => by cases k <;> simp [binOp, Op.intArith, hr]) rfl
theorem Loc.quo {T T' : TypeId} {x y : Operand} {k : IntKind} {a b : Int} (ho : o.op = .binOp .quo T x y T') (hx : ev σ x = .d (.v (.int k a))) (hy : ev σ y = .d (.v (.int k b))) (h0 : 0 ≤ a) (hb : 0 < b) (hr : k.wrap (a / b) = a / b) : Loc P C o σ (.d (.v (.int k (a / b)))) :=
  Loc.bin ho hx hy (fun w => by
    have h1 : ¬ b = 0 := by omega
    have h2 : a.tdiv b = a / b := Int.tdiv_eq_ediv_of_nonneg h0
    cases k <;> simp [binOp, Op.intDiv, h1, h2, hr]) rfl
theorem Loc.rem {T T' : TypeId} {x y : Operand} {k : IntKind} {a b : Int} (ho : o.op = .binOp .rem T x y T') (hx : ev σ x = .d (.v (.int k a))) (hy : ev σ y = .d (.v (.int k b))) (h0 : 0 ≤ a) (hb : 0 < b) : Loc P C o σ (.d (.v (.int k (a % b)))) :=
  Loc.bin ho hx hy (fun w => by
    have h1 : ¬ b = 0 := by omega
    have h2 : a.tmod b = a % b := Int.tmod_eq_emod_of_nonneg h0
    cases k <;> simp [binOp, Op.intDiv, h1, h2]) rfl
theorem Loc.neg {T : TypeId} {x : Operand} {k : IntKind} {a : Int} (ho : o.op = .unOp .neg T x) (hx : ev σ x = .d (.v (.int k a))) (hr : k.wrap (0 - a) = -a) : Loc P C o σ (.d (.v (.int k (-a)))) :=
  Loc.one (by rw [ho]; simp [Op.operands]) hx fun S w β O c h => ⟨_, by unfold execOp; rw [ho]; simp [RA.val h, Op.unary, Op.intArith]; simpa using hr, .mk rfl⟩
theorem Loc.eqlT {T T' : TypeId} {x y : Operand} {k : IntKind} {a b : Int} (ho : o.op = .binOp .eql T x y T') (hx : ev σ x = .d (.v (.int k a))) (hy : ev σ y = .d (.v (.int k b))) (h : a = b) : Loc P C o σ (.d (.v (.bool true))) :=
  Loc.bin ho hx hy (fun w => by cases k <;> simp [binOp, Op.intCmp] <;> omega) rfl
theorem Loc.eqlF {T T' : TypeId} {x y : Operand} {k : IntKind} {a b : Int} (ho : o.op = .binOp .eql T x y T') (hx : ev σ x = .d (.v (.int k a))) (hy : ev σ y = .d (.v (.int k b))) (h : ¬ (a = b)) : Loc P C o σ (.d (.v (.bool false))) :=
  Loc.bin ho hx hy (fun w => by cases k <;> simp [binOp, Op.intCmp] <;> omega) rfl
theorem Chain.eql {E : List (Nat × AV)} {O : List (Nat × AO)} {d : Nat} {T T' : TypeId} {x y : Operand} {k : IntKind} {a b : Int} (hg : gst ops ⟨E, O⟩ o = some true) (hd : o.dst = some d) (ho : o.op = .binOp .eql T x y T') (hx : ev ⟨E, O⟩ x = .d (.v (.int k a))) (hy : ev ⟨E, O⟩ y = .d (.v (.int k b)))
    (ht : a = b → Chain P C ops fin Q none rest ⟨(d, .d (.v (.bool true))) :: E, O⟩) (hf : ¬ (a = b) → Chain P C ops fin Q none rest ⟨(d, .d (.v (.bool false))) :: E, O⟩) : Chain P C ops fin Q none (o :: rest) ⟨E, O⟩ := by
  by_cases h : a = b
  · exact .go hg hd (Loc.eqlT ho hx hy h) (ht h)
  · exact .go hg hd (Loc.eqlF ho hx hy h) (hf h)
theorem Chain.eqlD {E : List (Nat × AV)} {O : List (Nat × AO)} {d : Nat} {T T' : TypeId} {x y : Operand} {k : IntKind} {a b : Int} (hg : gst ops ⟨E, O⟩ o = some true) (hd : o.dst = some d) (ho : o.op = .binOp .eql T x y T') (hx : ev ⟨E, O⟩ x = .d (.v (.int k a))) (hy : ev ⟨E, O⟩ y = .d (.v (.int k b)))
    (ht : a = b → Chain P C ops fin Q (some (l ++ [infOf (.d (.v (.bool true))) {}])) rest ⟨(d, .d (.v (.bool true))) :: E, O⟩) (hf : ¬ (a = b) → Chain P C ops fin Q (some (l ++ [infOf (.d (.v (.bool false))) {}])) rest ⟨(d, .d (.v (.bool false))) :: E, O⟩) : Chain P C ops fin Q (some l) (o :: rest) ⟨E, O⟩ := by
  by_cases h : a = b
  · exact .goD hg hd (Loc.eqlT ho hx hy h) (ht h)
  · exact .goD hg hd (Loc.eqlF ho hx hy h) (hf h)
theorem Loc.neqT {T T' : TypeId} {x y : Operand} {k : IntKind} {a b : Int} (ho : o.op = .binOp .neq T x y T') (hx : ev σ x = .d (.v (.int k a))) (hy : ev σ y = .d (.v (.int k b))) (h : a ≠ b) : Loc P C o σ (.d (.v (.bool true))) :=
  Loc.bin ho hx hy (fun w => by cases k <;> simp [binOp, Op.intCmp] <;> omega) rfl
theorem Loc.neqF {T T' : TypeId} {x y : Operand} {k : IntKind} {a b : Int} (ho : o.op = .binOp .neq T x y T') (hx : ev σ x = .d (.v (.int k a))) (hy : ev σ y = .d (.v (.int k b))) (h : ¬ (a ≠ b)) : Loc P C o σ (.d (.v (.bool false))) :=
  Loc.bin ho hx hy (fun w => by cases k <;> simp [binOp, Op.intCmp] <;> omega) rfl
theorem Chain.neq {E : List (Nat × AV)} {O : List (Nat × AO)} {d : Nat} {T T' : TypeId} {x y : Operand} {k : IntKind} {a b : Int} (hg : gst ops ⟨E, O⟩ o = some true) (hd : o.dst = some d) (ho : o.op = .binOp .neq T x y T') (hx : ev ⟨E, O⟩ x = .d (.v (.int k a))) (hy : ev ⟨E, O⟩ y = .d (.v (.int k b)))
    (ht : a ≠ b → Chain P C ops fin Q none rest ⟨(d, .d (.v (.bool true))) :: E, O⟩) (hf : ¬ (a ≠ b) → Chain P C ops fin Q none rest ⟨(d, .d (.v (.bool false))) :: E, O⟩) : Chain P C ops fin Q none (o :: rest) ⟨E, O⟩ := by
  by_cases h : a ≠ b
  · exact .go hg hd (Loc.neqT ho hx hy h) (ht h)
  · exact .go hg hd (Loc.neqF ho hx hy h) (hf h)
theorem Chain.neqD {E : List (Nat × AV)} {O : List (Nat × AO)} {d : Nat} {T T' : TypeId} {x y : Operand} {k : IntKind} {a b : Int} (hg : gst ops ⟨E, O⟩ o = some true) (hd : o.dst = some d) (ho : o.op = .binOp .neq T x y T') (hx : ev ⟨E, O⟩ x = .d (.v (.int k a))) (hy : ev ⟨E, O⟩ y = .d (.v (.int k b)))
    (ht : a ≠ b → Chain P C ops fin Q (some (l ++ [infOf (.d (.v (.bool true))) {}])) rest ⟨(d, .d (.v (.bool true))) :: E, O⟩) (hf : ¬ (a ≠ b) → Chain P C ops fin Q (some (l ++ [infOf (.d (.v (.bool false))) {}])) rest ⟨(d, .d (.v (.bool false))) :: E, O⟩) : Chain P C ops fin Q (some l) (o :: rest) ⟨E, O⟩ := by
  by_cases h : a ≠ b
  · exact .goD hg hd (Loc.neqT ho hx hy h) (ht h)
  · exact .goD hg hd (Loc.neqF ho hx hy h) (hf h)
theorem Loc.lssT {T T' : TypeId} {x y : Operand} {k : IntKind} {a b : Int} (ho : o.op = .binOp .lss T x y T') (hx : ev σ x = .d (.v (.int k a))) (hy : ev σ y = .d (.v (.int k b))) (h : a < b) : Loc P C o σ (.d (.v (.bool true))) :=
  Loc.bin ho hx hy (fun w => by cases k <;> simp [binOp, Op.intCmp] <;> omega) rfl
theorem Loc.lssF {T T' : TypeId} {x y : Operand} {k : IntKind} {a b : Int} (ho : o.op = .binOp .lss T x y T') (hx : ev σ x = .d (.v (.int k a))) (hy : ev σ y = .d (.v (.int k b))) (h : ¬ (a < b)) : Loc P C o σ (.d (.v (.bool false))) :=
  Loc.bin ho hx hy (fun w => by cases k <;> simp [binOp, Op.intCmp] <;> omega) rfl
theorem Chain.lss {E : List (Nat × AV)} {O : List (Nat × AO)} {d : Nat} {T T' : TypeId} {x y : Operand} {k : IntKind} {a b : Int} (hg : gst ops ⟨E, O⟩ o = some true) (hd : o.dst = some d) (ho : o.op = .binOp .lss T x y T') (hx : ev ⟨E, O⟩ x = .d (.v (.int k a))) (hy : ev ⟨E, O⟩ y = .d (.v (.int k b)))
    (ht : a < b → Chain P C ops fin Q none rest ⟨(d, .d (.v (.bool true))) :: E, O⟩) (hf : ¬ (a < b) → Chain P C ops fin Q none rest ⟨(d, .d (.v (.bool false))) :: E, O⟩) : Chain P C ops fin Q none (o :: rest) ⟨E, O⟩ := by
  by_cases h : a < b
  · exact .go hg hd (Loc.lssT ho hx hy h) (ht h)
  · exact .go hg hd (Loc.lssF ho hx hy h) (hf h)
theorem Chain.lssD {E : List (Nat × AV)} {O : List (Nat × AO)} {d : Nat} {T T' : TypeId} {x y : Operand} {k : IntKind} {a b : Int} (hg : gst ops ⟨E, O⟩ o = some true) (hd : o.dst = some d) (ho : o.op = .binOp .lss T x y T') (hx : ev ⟨E, O⟩ x = .d (.v (.int k a))) (hy : ev ⟨E, O⟩ y = .d (.v (.int k b)))
    (ht : a < b → Chain P C ops fin Q (some (l ++ [infOf (.d (.v (.bool true))) {}])) rest ⟨(d, .d (.v (.bool true))) :: E, O⟩) (hf : ¬ (a < b) → Chain P C ops fin Q (some (l ++ [infOf (.d (.v (.bool false))) {}])) rest ⟨(d, .d (.v (.bool false))) :: E, O⟩) : Chain P C ops fin Q (some l) (o :: rest) ⟨E, O⟩ := by
  by_cases h : a < b
  · exact .goD hg hd (Loc.lssT ho hx hy h) (ht h)
  · exact .goD hg hd (Loc.lssF ho hx hy h) (hf h)
theorem Loc.leqT {T T' : TypeId} {x y : Operand} {k : IntKind} {a b : Int} (ho : o.op = .binOp .leq T x y T') (hx : ev σ x = .d (.v (.int k a))) (hy : ev σ y = .d (.v (.int k b))) (h : a ≤ b) : Loc P C o σ (.d (.v (.bool true))) :=
  Loc.bin ho hx hy (fun w => by cases k <;> simp [binOp, Op.intCmp] <;> omega) rfl
theorem Loc.leqF {T T' : TypeId} {x y : Operand} {k : IntKind} {a b : Int} (ho : o.op = .binOp .leq T x y T') (hx : ev σ x = .d (.v (.int k a))) (hy : ev σ y = .d (.v (.int k b))) (h : ¬ (a ≤ b)) : Loc P C o σ (.d (.v (.bool false))) :=
  Loc.bin ho hx hy (fun w => by cases k <;> simp [binOp, Op.intCmp] <;> omega) rfl
theorem Chain.leq {E : List (Nat × AV)} {O : List (Nat × AO)} {d : Nat} {T T' : TypeId} {x y : Operand} {k : IntKind} {a b : Int} (hg : gst ops ⟨E, O⟩ o = some true) (hd : o.dst = some d) (ho : o.op = .binOp .leq T x y T') (hx : ev ⟨E, O⟩ x = .d (.v (.int k a))) (hy : ev ⟨E, O⟩ y = .d (.v (.int k b)))
    (ht : a ≤ b → Chain P C ops fin Q none rest ⟨(d, .d (.v (.bool true))) :: E, O⟩) (hf : ¬ (a ≤ b) → Chain P C ops fin Q none rest ⟨(d, .d (.v (.bool false))) :: E, O⟩) : Chain P C ops fin Q none (o :: rest) ⟨E, O⟩ := by
  by_cases h : a ≤ b
  · exact .go hg hd (Loc.leqT ho hx hy h) (ht h)
  · exact .go hg hd (Loc.leqF ho hx hy h) (hf h)
theorem Chain.leqD {E : List (Nat × AV)} {O : List (Nat × AO)} {d : Nat} {T T' : TypeId} {x y : Operand} {k : IntKind} {a b : Int} (hg : gst ops ⟨E, O⟩ o = some true) (hd : o.dst = some d) (ho : o.op = .binOp .leq T x y T') (hx : ev ⟨E, O⟩ x = .d (.v (.int k a))) (hy : ev ⟨E, O⟩ y = .d (.v (.int k b)))
    (ht : a ≤ b → Chain P C ops fin Q (some (l ++ [infOf (.d (.v (.bool true))) {}])) rest ⟨(d, .d (.v (.bool true))) :: E, O⟩) (hf : ¬ (a ≤ b) → Chain P C ops fin Q (some (l ++ [infOf (.d (.v (.bool false))) {}])) rest ⟨(d, .d (.v (.bool false))) :: E, O⟩) : Chain P C ops fin Q (some l) (o :: rest) ⟨E, O⟩ := by
  by_cases h : a ≤ b
  · exact .goD hg hd (Loc.leqT ho hx hy h) (ht h)
  · exact .goD hg hd (Loc.leqF ho hx hy h) (hf h)
theorem Loc.gtrT {T T' : TypeId} {x y : Operand} {k : IntKind} {a b : Int} (ho : o.op = .binOp .gtr T x y T') (hx : ev σ x = .d (.v (.int k a))) (hy : ev σ y = .d (.v (.int k b))) (h : b < a) : Loc P C o σ (.d (.v (.bool true))) :=
  Loc.bin ho hx hy (fun w => by cases k <;> simp [binOp, Op.intCmp] <;> omega) rfl
theorem Loc.gtrF {T T' : TypeId} {x y : Operand} {k : IntKind} {a b : Int} (ho : o.op = .binOp .gtr T x y T') (hx : ev σ x = .d (.v (.int k a))) (hy : ev σ y = .d (.v (.int k b))) (h : ¬ (b < a)) : Loc P C o σ (.d (.v (.bool false))) :=
  Loc.bin ho hx hy (fun w => by cases k <;> simp [binOp, Op.intCmp] <;> omega) rfl
theorem Chain.gtr {E : List (Nat × AV)} {O : List (Nat × AO)} {d : Nat} {T T' : TypeId} {x y : Operand} {k : IntKind} {a b : Int} (hg : gst ops ⟨E, O⟩ o = some true) (hd : o.dst = some d) (ho : o.op = .binOp .gtr T x y T') (hx : ev ⟨E, O⟩ x = .d (.v (.int k a))) (hy : ev ⟨E, O⟩ y = .d (.v (.int k b)))
    (ht : b < a → Chain P C ops fin Q none rest ⟨(d, .d (.v (.bool true))) :: E, O⟩) (hf : ¬ (b < a) → Chain P C ops fin Q none rest ⟨(d, .d (.v (.bool false))) :: E, O⟩) : Chain P C ops fin Q none (o :: rest) ⟨E, O⟩ := by
  by_cases h : b < a
  · exact .go hg hd (Loc.gtrT ho hx hy h) (ht h)
  · exact .go hg hd (Loc.gtrF ho hx hy h) (hf h)
theorem Chain.gtrD {E : List (Nat × AV)} {O : List (Nat × AO)} {d : Nat} {T T' : TypeId} {x y : Operand} {k : IntKind} {a b : Int} (hg : gst ops ⟨E, O⟩ o = some true) (hd : o.dst = some d) (ho : o.op = .binOp .gtr T x y T') (hx : ev ⟨E, O⟩ x = .d (.v (.int k a))) (hy : ev ⟨E, O⟩ y = .d (.v (.int k b)))
    (ht : b < a → Chain P C ops fin Q (some (l ++ [infOf (.d (.v (.bool true))) {}])) rest ⟨(d, .d (.v (.bool true))) :: E, O⟩) (hf : ¬ (b < a) → Chain P C ops fin Q (some (l ++ [infOf (.d (.v (.bool false))) {}])) rest ⟨(d, .d (.v (.bool false))) :: E, O⟩) : Chain P C ops fin Q (some l) (o :: rest) ⟨E, O⟩ := by
  by_cases h : b < a
  · exact .goD hg hd (Loc.gtrT ho hx hy h) (ht h)
  · exact .goD hg hd (Loc.gtrF ho hx hy h) (hf h)
theorem Loc.geqT {T T' : TypeId} {x y : Operand} {k : IntKind} {a b : Int} (ho : o.op = .binOp .geq T x y T') (hx : ev σ x = .d (.v (.int k a))) (hy : ev σ y = .d (.v (.int k b))) (h : b ≤ a) : Loc P C o σ (.d (.v (.bool true))) :=
  Loc.bin ho hx hy (fun w => by cases k <;> simp [binOp, Op.intCmp] <;> omega) rfl
theorem Loc.geqF {T T' : TypeId} {x y : Operand} {k : IntKind} {a b : Int} (ho : o.op = .binOp .geq T x y T') (hx : ev σ x = .d (.v (.int k a))) (hy : ev σ y = .d (.v (.int k b))) (h : ¬ (b ≤ a)) : Loc P C o σ (.d (.v (.bool false))) :=
  Loc.bin ho hx hy (fun w => by cases k <;> simp [binOp, Op.intCmp] <;> omega) rfl
theorem Chain.geq {E : List (Nat × AV)} {O : List (Nat × AO)} {d : Nat} {T T' : TypeId} {x y : Operand} {k : IntKind} {a b : Int} (hg : gst ops ⟨E, O⟩ o = some true) (hd : o.dst = some d) (ho : o.op = .binOp .geq T x y T') (hx : ev ⟨E, O⟩ x = .d (.v (.int k a))) (hy : ev ⟨E, O⟩ y = .d (.v (.int k b)))
    (ht : b ≤ a → Chain P C ops fin Q none rest ⟨(d, .d (.v (.bool true))) :: E, O⟩) (hf : ¬ (b ≤ a) → Chain P C ops fin Q none rest ⟨(d, .d (.v (.bool false))) :: E, O⟩) : Chain P C ops fin Q none (o :: rest) ⟨E, O⟩ := by
  by_cases h : b ≤ a
  · exact .go hg hd (Loc.geqT ho hx hy h) (ht h)
  · exact .go hg hd (Loc.geqF ho hx hy h) (hf h)
theorem Chain.geqD {E : List (Nat × AV)} {O : List (Nat × AO)} {d : Nat} {T T' : TypeId} {x y : Operand} {k : IntKind} {a b : Int} (hg : gst ops ⟨E, O⟩ o = some true) (hd : o.dst = some d) (ho : o.op = .binOp .geq T x y T') (hx : ev ⟨E, O⟩ x = .d (.v (.int k a))) (hy : ev ⟨E, O⟩ y = .d (.v (.int k b)))
    (ht : b ≤ a → Chain P C ops fin Q (some (l ++ [infOf (.d (.v (.bool true))) {}])) rest ⟨(d, .d (.v (.bool true))) :: E, O⟩) (hf : ¬ (b ≤ a) → Chain P C ops fin Q (some (l ++ [infOf (.d (.v (.bool false))) {}])) rest ⟨(d, .d (.v (.bool false))) :: E, O⟩) : Chain P C ops fin Q (some l) (o :: rest) ⟨E, O⟩ := by
  by_cases h : b ≤ a
  · exact .goD hg hd (Loc.geqT ho hx hy h) (ht h)
  · exact .goD hg hd (Loc.geqF ho hx hy h) (hf h)
end
end Go.Proofs.YtfijmpmojhlnmaaGreatDoor
