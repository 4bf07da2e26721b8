/-
  Equality of truths. No program in sight.
  Shifts and bits of numbers; bytes as texts. No program in sight.
  Texts. No program in sight.
-/
import Derived.Test.YtfijmpmojhlnmaaGreatDoorFnS
namespace Go.Proofs.YtfijmpmojhlnmaaGreatDoor
open Go.RowKit
section
variable {P : Program} {C : Cx} {o : Oper} {σ : AS}
/-- The result of two truths. -/
theorem Loc.binB {op : BinOp} {T T' : TypeId} {x y : Operand} {a b r : Bool} (ho : o.op = .binOp op T x y T') (hx : ev σ x = .d (.v (.bool a))) (hy : ev σ y = .d (.v (.bool b)))
    (hr : ∀ w, (binOp op T (.bool a) (.bool b)).run P w = .ok (.bool r) w) : Loc P C o σ (.d (.v (.bool r))) :=
  Loc.two (by rw [ho]; simp [Op.operands]) hx (by rw [ho]; simp [Op.operands]) hy fun S w β O c h1' h2' => by
    refine ⟨.bool r, ?_, .mk rfl⟩
    unfold execOp; rw [ho]
    have hg : (eqGuard op T x y (.bool a) (.bool b)).run P w = .ok () w := by
      unfold eqGuard
      cases op <;> simp
    simp [RA.val h1', RA.val h2', hg, hr]
theorem Loc.eqB {T T' : TypeId} {x y : Operand} {a b r : Bool} (ho : o.op = .binOp .eql T x y T') (hx : ev σ x = .d (.v (.bool a))) (hy : ev σ y = .d (.v (.bool b))) (hT : P.underlying T = some .bool) (hr : (a == b) = r) : Loc P C o σ (.d (.v (.bool r))) :=
  Loc.binB ho hx hy fun w => by subst hr; simp [binOp, run_equal_bool _ _ _ _ hT]
theorem Loc.neB {T T' : TypeId} {x y : Operand} {a b r : Bool} (ho : o.op = .binOp .neq T x y T') (hx : ev σ x = .d (.v (.bool a))) (hy : ev σ y = .d (.v (.bool b))) (hT : P.underlying T = some .bool) (hr : (a != b) = r) : Loc P C o σ (.d (.v (.bool r))) :=
  Loc.binB ho hx hy fun w => by subst hr; simp [binOp, run_equal_bool _ _ _ _ hT]; cases a <;> cases b <;> rfl
/-! ### parts of lists -/
theorem RD.takeL {S : Nat → Prop} {w : World} {a : Option Addr} {n c : Nat} {xs : List (List D)} (h : RD S w (.slice a n c) (.l xs)) (i : Nat) (hi : i ≤ xs.length) : RD S w (.slice a i c) (.l (xs.take i)) := by
  obtain ⟨h1, h2, h3, k, css, h4, h5, h6, h7⟩ := h.cells
  refine RD.ofCells (k := k) (css := css.take i) (by simp; omega) (by omega) h3 (by simp; omega) (fun j hj => ?_) (fun j hj hj' => ?_) (fun h0 => ?_)
  · rw [List.getElem_take]; exact h5 _ (by simp at hj; omega)
  · rw [List.getElem_take, List.getElem_take]; exact h6 j (by simp at hj; omega) (by simp at hj'; omega)
  · obtain ⟨b, o, e, hb, hr⟩ := h7 (by omega)
    refine ⟨b, o, e, hb, fun j hj => ?_⟩
    rw [List.getElem_take]
    exact hr j (by simp at hj; omega)
/-- x[:i]. -/
theorem Loc.partH {T : TypeId} {x y : Operand} {e k by_ : Nat} {xs : List (List D)} {n : Int} {kd : IntKind} (i : Nat) (ho : o.op = .slice T x none (some y) none) (hx : ev σ x = .d (.l xs)) (hy : ev σ y = .d (.v (.int kd n))) (hn : n = (i : Int)) (hi : i ≤ xs.length) [h : Sl P T e k by_] : Loc P C o σ (.d (.l (xs.take i))) :=
  Loc.two (by rw [ho]; simp [Op.operands]) hx (by rw [ho]; simp [Op.operands]) hy fun S w β O c h1 h2 => by
    have e1 := RA.val h2
    have h1 : RD S w (c.eval x) (.l xs) := h1
    generalize hu : c.eval x = u at h1
    have hsl : ∃ a m q, u = .slice a m q := by cases h1; exact ⟨_, _, _, rfl⟩
    obtain ⟨a, m, q, rfl⟩ := hsl
    have hm := h1.cells
    have ht : P.underlying T = some (.slice (P.elem T)) := by
      have := h.e.under
      unfold Program.elem
      rw [this]
    obtain ⟨inf, z, hi1, hi2, hi3, hi4⟩ := h.e.info
    have he : P.elem T = e := by
      have h3 := h.e.under
      rw [ht] at h3
      simpa using h3
    refine ⟨.slice a i q, ?_, h1.takeL i hi⟩
    unfold execOp; rw [ho]
    have hr := run_slice_h (P := P) (w := w) T a m q ht kd n (by omega) (by omega)
    have hsz : (sizeOf (P.elem T)).run P w = .ok k w := by rw [he]; simp [sizeOf, typeInfo, hi1, hi3]
    rw [hsz] at hr
    have hfin : sliced a 0 n.toNat q k = .slice a i q := by
      unfold sliced
      have : a.map (·.add (0 * k)) = a := by
        cases a with
        | none => rfl
        | some a => simp [Addr.add]
      rw [this, hn]
      simp
    simp only [Result.andThen] at hr
    rw [hfin] at hr
    simp [hu, e1, run_sliceAt_slice _ _ _ _ _ _ ht, hr]
theorem Loc.partM {α : Type} {f : α → List D} {ts : List α} {T : TypeId} {x y : Operand} {e k by_ : Nat} {n : Int} {kd : IntKind} (i : Nat) (ho : o.op = .slice T x none (some y) none) (hx : ev σ x = .d (.l (ts.map f))) (hy : ev σ y = .d (.v (.int kd n))) (hn : n = (i : Int)) (hi : i ≤ ts.length) [h : Sl P T e k by_] : Loc P C o σ (.d (.l ((ts.take i).map f))) := by
  rw [List.map_take]
  exact Loc.partH i ho hx hy hn (by simpa using hi)
/-- A list written on behind a row of the call's own, which is a list from there on. -/
theorem Do.appendF {s x : Operand} {T T' : TypeId} {id g d : Nat} {e : TypeId} {k bytes : Nat} {xs ys : List (List D)} (ho : o.op = .call { callee := .builtin .append, args := #[s, x], argTypes := #[T, T'] }) (hd : o.dst = some d) (hs : ev σ s = .r id g) (hO : get? σ.objs id = some (.row g e k xs)) (hx : ev σ x = .d (.l ys)) [h : Sl P T e k bytes] {e' k' by' : Nat} [h' : Sl P T' e' k' by'] (hk : ∀ c ∈ ys, c.length = k) (hb : (xs.length + ys.length) * bytes ≤ 140737488355328) :
    Do P C o σ (.d (.l (xs ++ ys))) ⟨[id], [], [(id, .dead)], none⟩ := by
  intro σ' hl hdst a w K Q' hst hK
  refine Do.append (P := P) (C := C) (T' := T') ho hd hs hO hx hk hb σ' ⟨hl.1, hl.2, hl.3, hl.4⟩ hdst a w K Q' hst fun a' w' hs' => hK a' w' ?_
  have h1 := hs'.frzVar d (id := id) (g := g + 1) (e := e) (k := k) (xs := xs ++ ys) (by simp [AS.upd, AS.put, hd, get?_cons]) (by simp [AS.upd, AS.put, hd, get?_cons])
  refine h1.like (fun i => ?_) (fun t v ht => ?_)
  · simp only [AS.upd, hd, get?_cons, List.cons_append, List.nil_append]
    by_cases e : id = i
    · rw [if_pos e, if_pos e]
    · rw [if_neg e, if_neg e, if_neg e]
  · simp only [AS.upd, AS.put, hd, get?_cons] at ht ⊢
    by_cases e : d = t
    · rw [if_pos e] at ht ⊢; exact ht
    · rw [if_neg e] at ht; rw [if_neg e, if_neg e]; exact ht
/-- One element of one cell is written. -/
theorem Do.setM {α : Type} {f : α → List D} {ts : List α} {t : α} (t' : α) {T : TypeId} {x y : Operand} {id g idx k n : Nat} {e : TypeId} {c : D} (ho : o.op = .store T x y) (hx : ev σ x = .e id g idx 0) (hO : get? σ.objs id = some (.row g e k (ts.map f))) (hi : ts[idx]? = some t) (h1 : (f t).length = 1) (hy : ev σ y = .d c) (hf : f t' = [c.fg]) [h : Sz P T false n] (hn : 1 = n) (hle : Nat.ble (0 + n) k = true) (hd : o.dst = none) :
    Do P C o σ .un ⟨[id], [], [(id, .row g e k ((ts.set idx t').map f))], none⟩ := by
  have := Do.storeE (P := P) (C := C) (n := n) (h := h) ho hx hO (cs := f t) (ds := [c]) (by rw [List.getElem?_map, hi]; rfl) hy rfl hn hle hd
  have e1 : splice (f t) 0 ([c].map D.fg) = f t' := by
    rw [hf]
    exact splice_whole (by rw [h1]; rfl)
  rw [e1, ← List.map_set] at this
  exact this
theorem Do.makeM {α : Type} {f : α → List D} (z : α) {T : TypeId} {lo co : Operand} {d : Nat} (l c : Nat) {e : TypeId} {k bytes : Nat} {zs : List Value} {zd : List D} {kl kc : IntKind} (ho : o.op = .makeSlice T lo co) (hd : o.dst = some d) (hl : ev σ lo = .d (.v (.int kl (l : Int)))) (hc : ev σ co = .d (.v (.int kc (c : Int)))) [h : Sl P T e k bytes] [hZ : Zr P e zs] (hz : constDs zs = some zd) (hf : zd.map D.fg = f z) (hlc : l ≤ c) (hby : c * bytes ≤ 140737488355328) :
    Do P C o σ (.r d 0) ⟨[], [], [(d, .row 0 e k ((List.replicate l z).map f))], some d⟩ := by
  rw [List.map_replicate, ← hf]
  exact Do.make ho hd hl hc hz hlc hby
end
end Go.Proofs.YtfijmpmojhlnmaaGreatDoor
namespace Go.Proofs.YtfijmpmojhlnmaaGreatDoor
open Go.RowKit
section
variable {P : Program} {C : Cx} {o : Oper} {σ : AS}
/-- The result of two numbers, of two kinds. -/
theorem Loc.bin2 {op : BinOp} {T T' : TypeId} {x y : Operand} {k k' : IntKind} {a b : Int} {v : Value} (ho : o.op = .binOp op T x y T') (hx : ev σ x = .d (.v (.int k a))) (hy : ev σ y = .d (.v (.int k' b)))
    (hr : ∀ w, (binOp op T (.int k a) (.int k' b)).run P w = .ok v w) (h1 : v.oneCell' = true) : Loc P C o σ (.d (.v v)) :=
  Loc.two (by rw [ho]; simp [Op.operands]) hx (by rw [ho]; simp [Op.operands]) hy fun S w β O c h1' h2' => by
    refine ⟨v, ?_, .mk h1⟩
    unfold execOp; rw [ho]
    have hg : (eqGuard op T x y (.int k a) (.int k' b)).run P w = .ok () w := by
      unfold eqGuard
      cases op <;> simp
    simp [RA.val h1', RA.val h2', hg, hr]
theorem Loc.shl {T T' : TypeId} {x y : Operand} {k k' : IntKind} {a m : Int} (c : Nat) (ho : o.op = .binOp .shl T x y T') (hx : ev σ x = .d (.v (.int k a))) (hy : ev σ y = .d (.v (.int k' c))) (hc : Nat.ble c k.bits = true) (hm : k.wrap (a * 2 ^ c) = m) : Loc P C o σ (.d (.v (.int k m))) :=
  Loc.bin2 ho hx hy (fun w => by
    rw [Nat.ble_eq] at hc
    have e : min (Int.toNat (c : Int)) k.bits = c := by omega
    have h1 : (binOp .shl T (.int k a) (.int k' c)) = Op.shift .shl k a k' c := rfl
    rw [h1]
    unfold Op.shift
    rw [if_neg (by omega)]
    simp only [e, hm]
    rfl) rfl
theorem Loc.shr {T T' : TypeId} {x y : Operand} {k k' : IntKind} {a m : Int} (c : Nat) (ho : o.op = .binOp .shr T x y T') (hx : ev σ x = .d (.v (.int k a))) (hy : ev σ y = .d (.v (.int k' c))) (hc : Nat.ble c k.bits = true) (hm : a.fdiv (2 ^ c) = m) : Loc P C o σ (.d (.v (.int k m))) :=
  Loc.bin2 ho hx hy (fun w => by
    rw [Nat.ble_eq] at hc
    have e : min (Int.toNat (c : Int)) k.bits = c := by omega
    have h1 : (binOp .shr T (.int k a) (.int k' c)) = Op.shift .shr k a k' c := rfl
    rw [h1]
    unfold Op.shift
    rw [if_neg (by omega)]
    simp only [e, hm]
    rfl) rfl
theorem Loc.xor {T T' : TypeId} {x y : Operand} {k : IntKind} {a b m : Int} (ho : o.op = .binOp .xor T x y T') (hx : ev σ x = .d (.v (.int k a))) (hy : ev σ y = .d (.v (.int k b))) (hm : k.wrap ((BitVec.ofInt k.bits a ^^^ BitVec.ofInt k.bits b).toNat : Int) = m) : Loc P C o σ (.d (.v (.int k m))) :=
  Loc.bin2 ho hx hy (fun w => by
    have h1 : (binOp .xor T (.int k a) (.int k b)).run P w = .ok (.int k (k.wrap ((BitVec.ofInt k.bits a ^^^ BitVec.ofInt k.bits b).toNat : Int))) w := by
      cases k <;> simp [binOp, Op.intBits]
    rw [h1, hm]) rfl
theorem Loc.or {T T' : TypeId} {x y : Operand} {k : IntKind} {a b m : Int} (ho : o.op = .binOp .or T x y T') (hx : ev σ x = .d (.v (.int k a))) (hy : ev σ y = .d (.v (.int k b))) (hm : k.wrap ((BitVec.ofInt k.bits a ||| BitVec.ofInt k.bits b).toNat : Int) = m) : Loc P C o σ (.d (.v (.int k m))) :=
  Loc.bin2 ho hx hy (fun w => by
    have h1 : (binOp .or T (.int k a) (.int k b)).run P w = .ok (.int k (k.wrap ((BitVec.ofInt k.bits a ||| BitVec.ofInt k.bits b).toNat : Int))) w := by
      cases k <;> simp [binOp, Op.intBits]
    rw [h1, hm]) rfl
/-- Bytes, cell by cell. -/
def enBy (c : UInt8) : List D := [.v (.int .u8 (c.toNat : Int))]
/-- 'string(b)'. -/
theorem Loc.toStr {T T' : TypeId} {x : Operand} {e : TypeId} {bs : List UInt8} (ho : o.op = .convert T T' x) (hx : ev σ x = .d (.l (bs.map enBy))) (hs : P.underlying T = some (.slice e)) (he : P.underlying e = some (.int .u8)) (hd : P.underlying T' = some .string) : Loc P C o σ (.d (.v (.string ⟨bs.toArray⟩))) :=
  Loc.one (by rw [ho]; simp [Op.operands]) hx fun S w β O a h1 => by
    have h1 : RD S w (a.eval x) (.l (bs.map enBy)) := h1
    generalize hu : a.eval x = u at h1
    refine ⟨.string ⟨bs.toArray⟩, ?_, .mk rfl⟩
    unfold execOp; rw [ho]
    have hr : (convert T T' u).run P w = .ok (.string ⟨bs.toArray⟩) w := by
      cases h1 with
      | @l a n c _ k us hn hc hm hk ha hel =>
        rw [List.length_map] at hn
        by_cases h0 : n = 0
        · have : bs = [] := List.eq_nil_of_length_eq_zero (by omega)
          subst this
          subst h0
          cases a with
          | none => exact run_convert_bytes_nil w T e hs he 0 c T' hd
          | some ad => exact run_convert_bytes_back w T T' e _ c [] hs he hd fun j hj => absurd hj (by simp)
        · obtain ⟨b, o2, rfl, hb, hcell⟩ := ha (by omega)
          have hk1 : k = 1 := by
            have := hk 0 (by simp; omega)
            rw [List.getElem_map] at this
            exact this.symm
          subst hk1
          rw [hn]
          refine run_convert_bytes_back w T T' e _ c bs hs he hd fun j hj => ?_
          have h2 := hcell j (by simpa using hj) 0 (by rw [List.getElem_map]; exact Nat.zero_lt_one)
          have h3 := hel j (by simpa using hj) 0 (by rw [List.getElem_map]; exact Nat.zero_lt_one)
          simp only [List.getElem_map, enBy, List.getElem_cons_zero] at h3
          generalize us j 0 = u at h2 h3
          cases h3
          rw [show (⟨b, o2, none⟩ : Addr).add j = ⟨b, o2 + (j * 1 + 0), none⟩ by simp [Addr.add]]
          exact h2
    simp [hu, hr]
end
end Go.Proofs.YtfijmpmojhlnmaaGreatDoor
namespace Go.Proofs.YtfijmpmojhlnmaaGreatDoor
open Go.RowKit
section
variable {P : Program} {C : Cx} {o : Oper} {σ : AS}
theorem Loc.strLen {T : TypeId} {x : Operand} {s : ByteArray} (ho : o.op = .call { callee := .builtin .len, args := #[x], argTypes := #[T] }) (hx : ev σ x = .d (.v (.string s))) (hT : P.underlying T = some .string) : Loc P C o σ (.d (.v (.int .i64 (s.size : Int)))) :=
  Loc.one (by rw [ho]; simp [Op.operands, Call.operands]) hx fun S w β O a h => by
    refine ⟨_, ?_, .mk rfl⟩
    have e := RA.val h
    unfold execOp; rw [ho]
    simp [resolve, invoke, builtin, e, run_len_string _ _ _ _ hT, goInt]
theorem Loc.strEq {T T' : TypeId} {x y : Operand} {s t : ByteArray} {r : Bool} (ho : o.op = .binOp .eql T x y T') (hx : ev σ x = .d (.v (.string s))) (hy : ev σ y = .d (.v (.string t))) (hr : (s.toList == t.toList) = r) : Loc P C o σ (.d (.v (.bool r))) :=
  Loc.two (by rw [ho]; simp [Op.operands]) hx (by rw [ho]; simp [Op.operands]) hy fun S w β O c h1' h2' => by
    refine ⟨.bool r, ?_, .mk rfl⟩
    unfold execOp; rw [ho]
    have hg : (eqGuard .eql T x y (.string s) (.string t)).run P w = .ok () w := by
      unfold eqGuard
      simp
    simp [RA.val h1', RA.val h2', hg, binOp, Op.stringOp, hr]
theorem Loc.strAdd {T T' : TypeId} {x y : Operand} {s t : ByteArray} (ho : o.op = .binOp .add T x y T') (hx : ev σ x = .d (.v (.string s))) (hy : ev σ y = .d (.v (.string t))) (hl : s.size + t.size ≤ 9223372036854775807) : Loc P C o σ (.d (.v (.string (s ++ t)))) :=
  Loc.two (by rw [ho]; simp [Op.operands]) hx (by rw [ho]; simp [Op.operands]) hy fun S w β O c h1' h2' => by
    refine ⟨.string (s ++ t), ?_, .mk rfl⟩
    unfold execOp; rw [ho]
    have hg : (eqGuard .add T x y (.string s) (.string t)).run P w = .ok () w := by
      unfold eqGuard
      simp
    have hs : (Op.stringOp .add s t).run P w = .ok (.string (s ++ t)) w := by
      unfold Op.stringOp
      rw [if_neg (by simp [IntKind.max, IntKind.signed, IntKind.bits]; omega)]
      rfl
    simp [RA.val h1', RA.val h2', hg, binOp, hs]
/-- A text of these bytes. -/
def tx (l : List UInt8) : ByteArray := ⟨l.toArray⟩
theorem tx_size (l : List UInt8) : (tx l).size = l.length := rfl
theorem tx_list (l : List UInt8) : (tx l).toList = l := by rw [ByteArray.toList_eq]; rfl
theorem tx_app (l m : List UInt8) : tx l ++ tx m = tx (l ++ m) := by
  apply ByteArray.ext
  simp [tx, ByteArray.data_append]
theorem tx_inj {l m : List UInt8} (h : tx l = tx m) : l = m := by
  have := congrArg ByteArray.toList h
  rwa [tx_list, tx_list] at this
theorem Loc.strAt {T : TypeId} {x y : Operand} {l : List UInt8} {c : UInt8} {n : Int} {kd : IntKind} (i : Nat) (ho : o.op = .index T x y) (hx : ev σ x = .d (.v (.string (tx l)))) (hy : ev σ y = .d (.v (.int kd n))) (hn : n = (i : Int)) (hi : l[i]? = some c) (hT : P.underlying T = some .string) : Loc P C o σ (.d (.v (.int .u8 (c.toNat : Int)))) :=
  Loc.two (by rw [ho]; simp [Op.operands]) hx (by rw [ho]; simp [Op.operands]) hy fun S w β O a h1' h2' => by
    subst hn
    refine ⟨_, ?_, .mk rfl⟩
    unfold execOp; rw [ho]
    obtain ⟨h1, h2⟩ := List.getElem?_eq_some_iff.1 hi
    have hr := run_index_string (P := P) w T (tx l) kd (i : Int) hT
    have hlt : (0 : Int) ≤ (i : Int) ∧ (i : Int) < (tx l).size := ⟨by omega, by rw [tx_size]; omega⟩
    rw [dif_pos hlt] at hr
    have hc : (tx l)[((i : Int)).toNat]'(by rw [tx_size]; omega) = c := by
      have e : (tx l)[((i : Int)).toNat]'(by rw [tx_size]; omega) = l[i] := by simp [tx, ByteArray.getElem_eq_getElem_data]
      rw [e, h2]
    rw [hc] at hr
    simp [RA.val h1', RA.val h2', hr]
theorem Loc.strFrom {T : TypeId} {x y : Operand} {l : List UInt8} {n : Int} {kd : IntKind} (i : Nat) (ho : o.op = .slice T x (some y) none none) (hx : ev σ x = .d (.v (.string (tx l)))) (hy : ev σ y = .d (.v (.int kd n))) (hn : n = (i : Int)) (hi : i ≤ l.length) (hT : P.underlying T = some .string) : Loc P C o σ (.d (.v (.string (tx (l.drop i))))) :=
  Loc.two (by rw [ho]; simp [Op.operands]) hx (by rw [ho]; simp [Op.operands]) hy fun S w β O a h1' h2' => by
    subst hn
    refine ⟨_, ?_, .mk rfl⟩
    unfold execOp; rw [ho]
    have hr := run_slice_string_l (P := P) w T (tx l) hT kd (i : Int) (by omega) (by rw [tx_size]; omega)
    have he : (tx l).extract ((i : Int)).toNat (tx l).size = tx (l.drop i) := by
      apply ByteArray.ext
      simp [tx, ByteArray.size]
      exact List.take_of_length_le (by simp)
    rw [he] at hr
    simp [RA.val h1', RA.val h2', run_sliceAt_string _ _ _ _ _ _ hT, hr]
end
end Go.Proofs.YtfijmpmojhlnmaaGreatDoor
