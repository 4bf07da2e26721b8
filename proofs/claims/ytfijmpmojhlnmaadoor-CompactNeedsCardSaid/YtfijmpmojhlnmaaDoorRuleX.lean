/-
  Equality of truths. No program in sight.
-/
import Derived.Test.YtfijmpmojhlnmaaDoorFnS
namespace Go.Proofs.YtfijmpmojhlnmaaDoor
open Go.RowKit
section
variable {P : Program} {C : Cx} {o : Oper} {σ : AS}
/-- The result of two truths. -/
theorem Loc.binB {op : BinOp} {T T' : TypeId} {x y : Operand} {a b r : Bool} (ho : o.op = .binOp op T x y T') (hx : ev σ x = .d (.v (.bool a))) (hy : ev σ y = .d (.v (.bool b)))
    (hr : ∀ w, (binOp op T (.bool a) (.bool b)).run P w = .ok (.bool r) w) : Loc P C o σ (.d (.v (.bool r))) :=
  Loc.two (by rw [ho]; simp [Op.operands]) hx (by rw [ho]; simp [Op.operands]) hy fun S w β O c h1' h2' => by
    refine ⟨.bool r, ?_, .mk rfl⟩
    unfold execOp; rw [ho]
    have hg : (eqGuard op T x y (.bool a) (.bool b)).run P w = .ok () w := by
      unfold eqGuard
      cases op <;> simp
    simp [RA.val h1', RA.val h2', hg, hr]
theorem Loc.eqB {T T' : TypeId} {x y : Operand} {a b r : Bool} (ho : o.op = .binOp .eql T x y T') (hx : ev σ x = .d (.v (.bool a))) (hy : ev σ y = .d (.v (.bool b))) (hT : P.underlying T = some .bool) (hr : (a == b) = r) : Loc P C o σ (.d (.v (.bool r))) :=
  Loc.binB ho hx hy fun w => by subst hr; simp [binOp, run_equal_bool _ _ _ _ hT]
theorem Loc.neB {T T' : TypeId} {x y : Operand} {a b r : Bool} (ho : o.op = .binOp .neq T x y T') (hx : ev σ x = .d (.v (.bool a))) (hy : ev σ y = .d (.v (.bool b))) (hT : P.underlying T = some .bool) (hr : (a != b) = r) : Loc P C o σ (.d (.v (.bool r))) :=
  Loc.binB ho hx hy fun w => by subst hr; simp [binOp, run_equal_bool _ _ _ _ hT]; cases a <;> cases b <;> rfl
/-! ### parts of lists -/
theorem RD.takeL {S : Nat → Prop} {w : World} {a : Option Addr} {n c : Nat} {xs : List (List D)} (h : RD S w (.slice a n c) (.l xs)) (i : Nat) (hi : i ≤ xs.length) : RD S w (.slice a i c) (.l (xs.take i)) := by
  obtain ⟨h1, h2, h3, k, css, h4, h5, h6, h7⟩ := h.cells
  refine RD.ofCells (k := k) (css := css.take i) (by simp; omega) (by omega) h3 (by simp; omega) (fun j hj => ?_) (fun j hj hj' => ?_) (fun h0 => ?_)
  · rw [List.getElem_take]; exact h5 _ (by simp at hj; omega)
  · rw [List.getElem_take, List.getElem_take]; exact h6 j (by simp at hj; omega) (by simp at hj'; omega)
  · obtain ⟨b, o, e, hb, hr⟩ := h7 (by omega)
    refine ⟨b, o, e, hb, fun j hj => ?_⟩
    rw [List.getElem_take]
    exact hr j (by simp at hj; omega)
/-- x[:i]. -/
theorem Loc.partH {T : TypeId} {x y : Operand} {e k by_ : Nat} {xs : List (List D)} {n : Int} {kd : IntKind} (i : Nat) (ho : o.op = .slice T x none (some y) none) (hx : ev σ x = .d (.l xs)) (hy : ev σ y = .d (.v (.int kd n))) (hn : n = (i : Int)) (hi : i ≤ xs.length) [h : Sl P T e k by_] : Loc P C o σ (.d (.l (xs.take i))) :=
  Loc.two (by rw [ho]; simp [Op.operands]) hx (by rw [ho]; simp [Op.operands]) hy fun S w β O c h1 h2 => by
    have e1 := RA.val h2
    have h1 : RD S w (c.eval x) (.l xs) := h1
    generalize hu : c.eval x = u at h1
    have hsl : ∃ a m q, u = .slice a m q := by cases h1; exact ⟨_, _, _, rfl⟩
    obtain ⟨a, m, q, rfl⟩ := hsl
    have hm := h1.cells
    have ht : P.underlying T = some (.slice (P.elem T)) := by
      have := h.e.under
      unfold Program.elem
      rw [this]
    obtain ⟨inf, z, hi1, hi2, hi3, hi4⟩ := h.e.info
    have he : P.elem T = e := by
      have h3 := h.e.under
      rw [ht] at h3
      simpa using h3
    refine ⟨.slice a i q, ?_, h1.takeL i hi⟩
    unfold execOp; rw [ho]
    have hr := run_slice_h (P := P) (w := w) T a m q ht kd n (by omega) (by omega)
    have hsz : (sizeOf (P.elem T)).run P w = .ok k w := by rw [he]; simp [sizeOf, typeInfo, hi1, hi3]
    rw [hsz] at hr
    have hfin : sliced a 0 n.toNat q k = .slice a i q := by
      unfold sliced
      have : a.map (·.add (0 * k)) = a := by
        cases a with
        | none => rfl
        | some a => simp [Addr.add]
      rw [this, hn]
      simp
    simp only [Result.andThen] at hr
    rw [hfin] at hr
    simp [hu, e1, run_sliceAt_slice _ _ _ _ _ _ ht, hr]
theorem Loc.partM {α : Type} {f : α → List D} {ts : List α} {T : TypeId} {x y : Operand} {e k by_ : Nat} {n : Int} {kd : IntKind} (i : Nat) (ho : o.op = .slice T x none (some y) none) (hx : ev σ x = .d (.l (ts.map f))) (hy : ev σ y = .d (.v (.int kd n))) (hn : n = (i : Int)) (hi : i ≤ ts.length) [h : Sl P T e k by_] : Loc P C o σ (.d (.l ((ts.take i).map f))) := by
  rw [List.map_take]
  exact Loc.partH i ho hx hy hn (by simpa using hi)
/-- A list written on behind a row of the call's own, which is a list from there on. -/
theorem Do.appendF {s x : Operand} {T T' : TypeId} {id g d : Nat} {e : TypeId} {k bytes : Nat} {xs ys : List (List D)} (ho : o.op = .call { callee := .builtin .append, args := #[s, x], argTypes := #[T, T'] }) (hd : o.dst = some d) (hs : ev σ s = .r id g) (hO : get? σ.objs id = some (.row g e k xs)) (hx : ev σ x = .d (.l ys)) [h : Sl P T e k bytes] {e' k' by' : Nat} [h' : Sl P T' e' k' by'] (hk : ∀ c ∈ ys, c.length = k) (hb : (xs.length + ys.length) * bytes ≤ 140737488355328) :
    Do P C o σ (.d (.l (xs ++ ys))) ⟨[id], [], [(id, .dead)], none⟩ := by
  intro σ' hl hdst a w K Q' hst hK
  refine Do.append (P := P) (C := C) (T' := T') ho hd hs hO hx hk hb σ' ⟨hl.1, hl.2, hl.3, hl.4⟩ hdst a w K Q' hst fun a' w' hs' => hK a' w' ?_
  have h1 := hs'.frzVar d (id := id) (g := g + 1) (e := e) (k := k) (xs := xs ++ ys) (by simp [AS.upd, AS.put, hd, get?_cons]) (by simp [AS.upd, AS.put, hd, get?_cons])
  refine h1.like (fun i => ?_) (fun t v ht => ?_)
  · simp only [AS.upd, hd, get?_cons, List.cons_append, List.nil_append]
    by_cases e : id = i
    · rw [if_pos e, if_pos e]
    · rw [if_neg e, if_neg e, if_neg e]
  · simp only [AS.upd, AS.put, hd, get?_cons] at ht ⊢
    by_cases e : d = t
    · rw [if_pos e] at ht ⊢; exact ht
    · rw [if_neg e] at ht; rw [if_neg e, if_neg e]; exact ht
/-- One element of one cell is written. -/
theorem Do.setM {α : Type} {f : α → List D} {ts : List α} {t : α} (t' : α) {T : TypeId} {x y : Operand} {id g idx k n : Nat} {e : TypeId} {c : D} (ho : o.op = .store T x y) (hx : ev σ x = .e id g idx 0) (hO : get? σ.objs id = some (.row g e k (ts.map f))) (hi : ts[idx]? = some t) (h1 : (f t).length = 1) (hy : ev σ y = .d c) (hf : f t' = [c.fg]) [h : Sz P T false n] (hn : 1 = n) (hle : Nat.ble (0 + n) k = true) (hd : o.dst = none) :
    Do P C o σ .un ⟨[id], [], [(id, .row g e k ((ts.set idx t').map f))], none⟩ := by
  have := Do.storeE (P := P) (C := C) (n := n) (h := h) ho hx hO (cs := f t) (ds := [c]) (by rw [List.getElem?_map, hi]; rfl) hy rfl hn hle hd
  have e1 : splice (f t) 0 ([c].map D.fg) = f t' := by
    rw [hf]
    exact splice_whole (by rw [h1]; rfl)
  rw [e1, ← List.map_set] at this
  exact this
theorem Do.makeM {α : Type} {f : α → List D} (z : α) {T : TypeId} {lo co : Operand} {d : Nat} (l c : Nat) {e : TypeId} {k bytes : Nat} {zs : List Value} {zd : List D} {kl kc : IntKind} (ho : o.op = .makeSlice T lo co) (hd : o.dst = some d) (hl : ev σ lo = .d (.v (.int kl (l : Int)))) (hc : ev σ co = .d (.v (.int kc (c : Int)))) [h : Sl P T e k bytes] [hZ : Zr P e zs] (hz : constDs zs = some zd) (hf : zd.map D.fg = f z) (hlc : l ≤ c) (hby : c * bytes ≤ 140737488355328) :
    Do P C o σ (.r d 0) ⟨[], [], [(d, .row 0 e k ((List.replicate l z).map f))], some d⟩ := by
  rw [List.map_replicate, ← hf]
  exact Do.make ho hd hl hc hz hlc hby
end
end Go.Proofs.YtfijmpmojhlnmaaDoor
