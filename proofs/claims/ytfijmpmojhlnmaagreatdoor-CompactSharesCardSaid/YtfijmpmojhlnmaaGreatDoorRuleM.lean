/-
  Operations that read and write memory, and calls, on states told by plain data. No program in sight.
-/
import Derived.Test.YtfijmpmojhlnmaaGreatDoorRule
import Derived.Deep.AppendSrc
import Derived.Test.YtfijmpmojhlnmaaGreatDoorOne
namespace Go.Proofs.YtfijmpmojhlnmaaGreatDoor
open Go.RowKit
section
variable {P : Program} {C : Cx} {o : Oper} {σ : AS}

/-! ### addresses -/
theorem run_fieldAt {T f off : Nat} (h : Fl P T f off) (b o : Nat) (w : World) : (Instr.fieldAt T (.pointer (some ⟨b, o, none⟩)) f).run P w = .ok (.pointer (some ⟨b, o + off, none⟩)) w := by
  obtain ⟨fs, fd, h1, h2, rfl, m, h3⟩ := h.u
  obtain ⟨i, h4, h5⟩ := Option.map_eq_some_iff.1 h3
  simp [Instr.fieldAt, run_underlying h1, h2, Instr.sureAddr, fieldPlace, sizeOf, typeInfo, h4, h5, Addr.add_mid]
theorem Loc.fieldP {T f : Nat} {x : Operand} {id off fo : Nat} {T' : TypeId} {cs : List AV} (ho : o.op = .fieldAddr T x f) (hx : ev σ x = .p id off) (hO : get? σ.objs id = some (.box T' cs)) [h : Fl P T f fo] : LocX P C o σ (.p id (off + fo)) id :=
  Loc.quiet fun σ' hl β a w hi => by
    have h1 := hl.ra hi (x := x) (by rw [ho]; simp [Op.operands])
    rw [hx] at h1
    obtain ⟨T2, cs2, hO2⟩ := hl.box id (by simp) T' cs hO
    obtain ⟨b, hb, hu⟩ := h1 T2 cs2 hO2
    refine ⟨_, by unfold execOp; rw [ho]; simp [hu, run_fieldAt h], fun T'' cs'' h => ⟨b, hb, rfl⟩⟩
theorem Loc.fieldQ {T f : Nat} {x : Operand} {fo : Nat} {cs : List D} (ho : o.op = .fieldAddr T x f) (hx : ev σ x = .q cs) [h : Fl P T f fo] : Loc P C o σ (.q (cs.drop fo)) :=
  Loc.one (by rw [ho]; simp [Op.operands]) hx fun S w β O a h1 => by
    obtain ⟨b, off, us, hu, hb, hr, hc⟩ := h1
    refine ⟨_, by unfold execOp; rw [ho]; simp [hu, run_fieldAt h], b, off + fo, us.drop fo, rfl, hb, hr.drop fo, fun j v hv => ?_⟩
    rw [List.getElem?_drop] at hv
    rw [Nat.add_assoc]
    exact hc _ _ hv
theorem Loc.fieldE {T f : Nat} {x : Operand} {id g idx off fo k : Nat} {e : TypeId} {xs : List (List D)} (ho : o.op = .fieldAddr T x f) (hx : ev σ x = .e id g idx off) (hO : get? σ.objs id = some (.row g e k xs)) [h : Fl P T f fo] : LocR P C o σ (.e id g idx (off + fo)) id :=
  Loc.quiet fun σ' hl β a w hi => by
    have h1 := hl.ra hi (x := x) (by rw [ho]; simp [Op.operands])
    rw [hx] at h1
    obtain ⟨b, n, c, hb, hu⟩ := (h1 g e k xs (by rw [hl.rd id (by simp)]; exact hO)).2 rfl
    refine ⟨.pointer (some ⟨b, idx * k + off + fo, none⟩), by unfold execOp; rw [ho]; simp [hu, run_fieldAt h], fun g' e' k' xs' h' => ?_⟩
    rw [hl.rd id (by simp), hO] at h'
    cases h'
    exact ⟨Nat.le_refl _, fun _ => ⟨b, n, c, hb, by rw [Nat.add_assoc]⟩⟩
theorem run_indexAt {T e k by_ : Nat} (h : Elem P T e k by_) (b o len cap : Nat) (kd : IntKind) (i : Nat) (hi : i < len) (w : World) :
    (Instr.indexAt T (.slice (some ⟨b, o, none⟩) len cap) (.int kd (i : Int))).run P w = .ok (.pointer (some ⟨b, o + i * k, none⟩)) w := by
  obtain ⟨ti, z, h4, _, h5, _⟩ := h.info
  have h0 : ¬ len ≤ 1 ∨ len ≤ 1 := by omega
  simp [Instr.indexAt, asIntOf, run_underlying h.under, sizeOf, typeInfo, h4, h5, Addr.add_mid, hi]
theorem Loc.idx {T : TypeId} {x y : Operand} {kd : IntKind} {m : Int} {i : Nat} {e k by_ : Nat} {xs : List (List D)} {cs : List D} (ho : o.op = .indexAddr T x y) (hx : ev σ x = .d (.l xs)) (hy : ev σ y = .d (.v (.int kd m))) (hm : m = (i : Int)) (hi : xs[i]? = some cs) (hk : cs.length = k) [h : Sl P T e k by_] : Loc P C o σ (.q cs) := by
  subst hm
  exact Loc.two (by rw [ho]; simp [Op.operands]) hx (by rw [ho]; simp [Op.operands]) hy fun S w β O a h1 h2 => by
    obtain ⟨hlt, hxi⟩ := List.getElem?_eq_some_iff.1 hi
    generalize hu : a.eval x = u at h1
    cases u with
    | slice ad len cap =>
      obtain ⟨hn, hc, hm, k', css, hl, hk', hr, ha⟩ := RD.cells h1
      obtain ⟨b, off, rfl, hb, hcells⟩ := ha (by omega)
      have hkk : k' = k := by rw [← hk' i hlt, hxi, hk]
      subst hkk
      refine ⟨_, by unfold execOp; rw [ho]; simp [hu, RA.val h2, run_indexAt h.e b off len cap kd i (by omega)], b, off + i * k', css[i]'(by omega), rfl, hb, ?_, hcells i (by omega)⟩
      rw [← hxi]
      exact hr i (by omega) hlt
    | _ => cases h1
theorem Loc.idxM {α : Type} {f : α → List D} {ts : List α} {t : α} {T : TypeId} {x y : Operand} {kd : IntKind} {m : Int} {i : Nat} {e k by_ : Nat} (ho : o.op = .indexAddr T x y) (hx : ev σ x = .d (.l (ts.map f))) (hy : ev σ y = .d (.v (.int kd m))) (hm : m = (i : Int)) (hi : ts[i]? = some t) (hk : (f t).length = k) [h : Sl P T e k by_] : Loc P C o σ (.q (f t)) :=
  Loc.idx ho hx hy hm (by rw [List.getElem?_map, hi]; rfl) hk
theorem Loc.idxR {T : TypeId} {x y : Operand} {kd : IntKind} {m : Int} {i id g : Nat} {e e' k k' by_ : Nat} {xs : List (List D)} (ho : o.op = .indexAddr T x y) (hx : ev σ x = .r id g) (hO : get? σ.objs id = some (.row g e' k' xs)) (hy : ev σ y = .d (.v (.int kd m))) (hm : m = (i : Int)) (hi : i < xs.length) [h : Sl P T e k by_] (hk : k' = k) : LocR P C o σ (.e id g i 0) id :=
  Loc.quiet fun σ' hl β a w hi' => by
    subst hk
    subst hm
    have h1 := hl.ra hi' (x := x) (by rw [ho]; simp [Op.operands])
    have h2 := hl.ra hi' (x := y) (by rw [ho]; simp [Op.operands])
    rw [hx] at h1
    rw [hy] at h2
    have hO' : get? σ'.objs id = some (.row g e' k' xs) := by rw [hl.rd id (by simp)]; exact hO
    have hu := (h1 g e' k' xs hO').2 rfl
    obtain ⟨css, hl1, hr1, hk1, hown⟩ := hi'.obj id _ hO'
    rcases hown.2 with ⟨h0, h3⟩ | ⟨gb, cap, cur, hv, _, hg, hnc, hcm, hcs, htake⟩
    · omega
    · refine ⟨.pointer (some ⟨gb, i * k', none⟩), by unfold execOp; rw [ho]; simp [hu, hv, RA.val h2, run_indexAt h.e gb 0 xs.length cap kd i hi], fun g' e'' k'' xs'' h' => ?_⟩
      rw [hO'] at h'
      cases h'
      exact ⟨Nat.le_refl _, fun _ => ⟨gb, _, cap, hv, by simp⟩⟩

/-! ### loads -/
theorem run_loadAt_one {T : TypeId} {d : TypeDesc} (hu : P.underlying T = some d) (hd : d.isRow = false) (b o : Nat) (v : Value) (w : World) (hc : w.cell? ⟨b, o, none⟩ = some v) : (Instr.loadAt T (.pointer (some ⟨b, o, none⟩))).run P w = .ok v w := by
  have hagg : (isAgg T).run P w = .ok false w := by
    unfold isAgg
    rw [Sem.run_bind, run_underlying hu w]
    cases d <;> simp_all
  simp [Instr.loadAt, Instr.sureAddr, loadVar, Sem.run_bind, hagg, hc]
def dOfs : List AV → Option (List D)
  | [] => some []
  | .d c :: r => match dOfs r with
    | some ds => some (c :: ds)
    | none => none
  | _ :: _ => none
theorem dOfs_sound {S : Nat → Prop} {w : World} {β : Nat → Value} {O : List (Nat × AO)} : ∀ {cs : List AV} {ds : List D} {us : List Value}, dOfs cs = some ds → us.length = cs.length → (∀ i (h : i < us.length) (h' : i < cs.length), RA S w β O us[i] cs[i]) → RDs S w us ds
  | [], ds, us, h, hl, _ => by
    simp only [dOfs, Option.some.injEq] at h
    subst h
    have : us = [] := List.eq_nil_of_length_eq_zero (by simpa using hl)
    subst this; exact .nil
  | .d c :: r, ds, u :: us, h, hl, hr => by
    simp only [dOfs] at h
    split at h
    · rename_i ds' hd
      injection h with h
      subst h
      exact .cons (hr 0 (by simp) (by simp)) (dOfs_sound hd (by simpa using hl) fun i h h' => hr (i + 1) (by simpa using h) (by simpa using h'))
    · cases h
  | .d c :: r, ds, [], h, hl, hr => by simp at hl
  | .g _ :: _, _, _, h, _, _ | .t _ :: _, _, _, h, _, _ | .p _ _ :: _, _, _, h, _, _ | .r _ _ :: _, _, _, h, _, _ | .e _ _ _ _ :: _, _, _, h, _, _ | .q _ :: _, _, _, h, _, _ | .un :: _, _, _, h, _, _ => by simp [dOfs] at h
theorem box_range {w : World} {b : Nat} {us : List Value} {T : TypeId} (h : w.heap[b]? = some (.cells us.toArray T (0, 0))) (o n : Nat) : w.rangeAt b o ((us.drop o).take n) := fun j v hv => by
  simp only [World.cell?, h]
  rw [List.getElem?_take] at hv
  split at hv
  · rw [List.getElem?_drop] at hv
    simpa using hv
  · cases hv
theorem Loc.loadP1 {T : TypeId} {x : Operand} {id off : Nat} {T' : TypeId} {cs : List AV} {v : AV} {n : Nat} (ho : o.op = .load T x) (hx : ev σ x = .p id off) (hO : get? σ.objs id = some (.box T' cs)) [h : Sz P T false n] (hv : cs[off]? = some v) : LocR P C o σ v id :=
  Loc.quiet fun σ' hl β a w hi => by
    have h1 := hl.ra hi (x := x) (by rw [ho]; simp [Op.operands])
    rw [hx] at h1
    have hO' : get? σ'.objs id = some (.box T' cs) := by rw [hl.rd id (by simp)]; exact hO
    obtain ⟨b, hb, hu⟩ := h1 T' cs hO'
    obtain ⟨b', us, hb', hh, hlen, hone, hr⟩ := hi.obj id _ hO'
    rw [hb] at hb'
    cases hb'
    obtain ⟨hlt, hv'⟩ := List.getElem?_eq_some_iff.1 hv
    obtain ⟨d, hd1, hd2⟩ := h.u
    have hlt' : off < us.length := by omega
    refine ⟨us[off], by unfold execOp; rw [ho]; simp [hu, run_loadAt_one hd1 hd2 b off us[off] w (by simp [World.cell?, hh, hlt'])], ?_⟩
    rw [← hv']
    exact hr off hlt' hlt
theorem Loc.loadPn {T : TypeId} {x : Operand} {id off : Nat} {T' : TypeId} {cs : List AV} {ds : List D} {n : Nat} (ho : o.op = .load T x) (hx : ev σ x = .p id off) (hO : get? σ.objs id = some (.box T' cs)) [h : Sz P T true n] (hv : dOfs ((cs.drop off).take n) = some ds) (hn : Nat.ble (off + n) cs.length = true) : LocR P C o σ (.g ds) id :=
  Loc.quiet fun σ' hl β a w hi => by
    have h1 := hl.ra hi (x := x) (by rw [ho]; simp [Op.operands])
    rw [hx] at h1
    have hO' : get? σ'.objs id = some (.box T' cs) := by rw [hl.rd id (by simp)]; exact hO
    obtain ⟨b, hb, hu⟩ := h1 T' cs hO'
    obtain ⟨b', us, hb', hh, hlen, hone, hr⟩ := hi.obj id _ hO'
    rw [hb] at hb'
    cases hb'
    rw [Nat.ble_eq] at hn
    obtain ⟨d, hd1, hd2⟩ := h.u
    refine ⟨.agg ((us.drop off).take n).toArray, by unfold execOp; rw [ho]; simp only [hu]; rw [Sem.run_bind, run_loadAt_mid w b off T _ d (box_range hh off n) hd1 hd2 (by rw [h.s]; simp; omega)]; rfl, _, rfl, dOfs_sound (β := β) (O := σ'.objs) hv (by simp; omega) fun i h h' => ?_⟩
    simp only [List.getElem_take, List.getElem_drop]
    exact hr _ _ _
theorem Loc.loadQ1 {T : TypeId} {x : Operand} {cs : List D} {c : D} {n : Nat} (ho : o.op = .load T x) (hx : ev σ x = .q cs) [h : Sz P T false n] (hv : cs[0]? = some c) : Loc P C o σ (.d c) :=
  Loc.one (by rw [ho]; simp [Op.operands]) hx fun S w β O a h1 => by
    obtain ⟨b, off, us, hu, hb, hr, hc⟩ := h1
    obtain ⟨u, h3, h4⟩ := hr.at hv
    obtain ⟨d, hd1, hd2⟩ := h.u
    exact ⟨u, by unfold execOp; rw [ho]; simp [hu, run_loadAt_one hd1 hd2 b off u w (by simpa using hc 0 u h3)], h4⟩
theorem Loc.loadQn {T : TypeId} {x : Operand} {cs ds : List D} {n : Nat} (ho : o.op = .load T x) (hx : ev σ x = .q cs) [h : Sz P T true n] (hv : cs.take n = ds) (hn : ds.length = n) : Loc P C o σ (.g ds) :=
  Loc.one (by rw [ho]; simp [Op.operands]) hx fun S w β O a h1 => by
    obtain ⟨b, off, us, hu, hb, hr, hc⟩ := h1
    obtain ⟨d, hd1, hd2⟩ := h.u
    have h5 : RDs S w (us.take n) ds := by rw [← hv]; exact hr.take n
    have h6 : w.rangeAt b off (us.take n) := fun j v hj => hc j v (by rw [List.getElem?_take] at hj; split at hj; exact hj; cases hj)
    refine ⟨.agg (us.take n).toArray, by unfold execOp; rw [ho]; simp only [hu]; rw [Sem.run_bind, run_loadAt_mid w b off T _ d h6 hd1 hd2 (by rw [h.s, h5.1, hn])]; rfl, _, rfl, h5⟩
theorem Loc.loadQw {T : TypeId} {x : Operand} {cs : List D} {n : Nat} (ho : o.op = .load T x) (hx : ev σ x = .q cs) [h : Sz P T true n] (hn : cs.length = n) : Loc P C o σ (.g cs) :=
  Loc.loadQn ho hx (by rw [List.take_of_length_le (by omega)]) hn
/-- What is read of an own row's element. -/
theorem row_range {w : World} {e : TypeId} {k : Nat} {v : Value} {xs : List (List D)} {css : List (List Value)} {S : Nat → Prop} (hl : css.length = xs.length) (hr : ∀ i (h : i < css.length) (h' : i < xs.length), RDs S w css[i] xs[i]) (hk : ∀ x ∈ xs, x.length = k) (hown : w.ownsRow 0 e k v xs.length css.flatten) {b n c : Nat} (hv : v = .slice (some ⟨b, 0, none⟩) n c)
    (i : Nat) (hi : i < css.length) : w.rangeAt b (i * k) css[i] := fun j u hu => by
  have hkl : ∀ cs ∈ css, cs.length = k := fun cs hcs => by
    obtain ⟨i, hi, rfl⟩ := List.getElem_of_mem hcs
    rw [(hr i hi (by omega)).1]; exact hk _ (List.getElem_mem _)
  have hj : j < css[i].length := (List.getElem?_eq_some_iff.1 hu).1
  have := hown.cells (g := b) (by rw [hv]; rfl) (i * k + j) u (by rw [flatten_get hkl i j hi (by rw [← hkl _ (List.getElem_mem hi)]; exact hj)]; exact hu)
  rw [Addr.add_mid] at this
  simpa using this
theorem Loc.loadE1 {T : TypeId} {x : Operand} {id g idx off k : Nat} {e : TypeId} {xs : List (List D)} {cs : List D} {c : D} {n : Nat} (ho : o.op = .load T x) (hx : ev σ x = .e id g idx off) (hO : get? σ.objs id = some (.row g e k xs)) [h : Sz P T false n] (hi : xs[idx]? = some cs) (hv : cs[off]? = some c) : LocR P C o σ (.d c) id :=
  Loc.quiet fun σ' hl β a w hi' => by
    have h1 := hl.ra hi' (x := x) (by rw [ho]; simp [Op.operands])
    rw [hx] at h1
    have hO' : get? σ'.objs id = some (.row g e k xs) := by rw [hl.rd id (by simp)]; exact hO
    obtain ⟨b, n, c', hb, hu⟩ := (h1 g e k xs hO').2 rfl
    obtain ⟨css, hl1, hr1, hk1, hown⟩ := hi'.obj id _ hO'
    obtain ⟨hlt, hxi⟩ := List.getElem?_eq_some_iff.1 hi
    have hlt' : idx < css.length := by omega
    have hrr := hr1 idx hlt' hlt
    rw [hxi] at hrr
    obtain ⟨u, h3, h4⟩ := hrr.at hv
    obtain ⟨d, hd1, hd2⟩ := h.u
    exact ⟨u, by unfold execOp; rw [ho]; simp [hu, run_loadAt_one hd1 hd2 b (idx * k + off) u w (row_range hl1 hr1 hk1 hown hb idx hlt' off u h3)], h4⟩
theorem Loc.loadEn {T : TypeId} {x : Operand} {id g idx off k : Nat} {e : TypeId} {xs : List (List D)} {cs ds : List D} {n : Nat} (ho : o.op = .load T x) (hx : ev σ x = .e id g idx off) (hO : get? σ.objs id = some (.row g e k xs)) [h : Sz P T true n] (hi : xs[idx]? = some cs) (hv : (cs.drop off).take n = ds) (hn : ds.length = n) : LocR P C o σ (.g ds) id :=
  Loc.quiet fun σ' hl β a w hi' => by
    have h1 := hl.ra hi' (x := x) (by rw [ho]; simp [Op.operands])
    rw [hx] at h1
    have hO' : get? σ'.objs id = some (.row g e k xs) := by rw [hl.rd id (by simp)]; exact hO
    obtain ⟨b, n', c', hb, hu⟩ := (h1 g e k xs hO').2 rfl
    obtain ⟨css, hl1, hr1, hk1, hown⟩ := hi'.obj id _ hO'
    obtain ⟨hlt, hxi⟩ := List.getElem?_eq_some_iff.1 hi
    have hlt' : idx < css.length := by omega
    have hrr := hr1 idx hlt' hlt
    rw [hxi] at hrr
    obtain ⟨d, hd1, hd2⟩ := h.u
    have h5 : RDs (Dat C β σ'.objs w) w ((css[idx].drop off).take n) ds := by rw [← hv]; exact (hrr.drop off).take n
    have h6 : w.rangeAt b (idx * k + off) ((css[idx].drop off).take n) := fun j v hj => by
      rw [List.getElem?_take] at hj
      split at hj
      · rw [List.getElem?_drop] at hj
        rw [Nat.add_assoc]
        exact row_range hl1 hr1 hk1 hown hb idx hlt' _ v hj
      · cases hj
    refine ⟨.agg ((css[idx].drop off).take n).toArray, by unfold execOp; rw [ho]; simp only [hu]; rw [Sem.run_bind, run_loadAt_mid w b (idx * k + off) T _ d h6 hd1 hd2 (by rw [h.s, h5.1, hn])]; rfl, _, rfl, h5⟩

/-! ### lengths -/
theorem run_len (T : TypeId) {e k by_ : Nat} (h : Elem P T e k by_) (a : Option Addr) (l c : Nat) (ty : TypeId) (w : World) : (Builtin.len_ #[T] ty #[.slice a l c]).run P w = .ok (.int .i64 (l : Int)) w := by
  simp [Builtin.len_, run_underlying h.under, goInt]
theorem exec_len {a : Act} {w : World} {x : Operand} {T : TypeId} {u v : Value} (ho : o.op = .call { callee := .builtin .len, args := #[x], argTypes := #[T] }) (hu : a.eval x = u) (h : (Builtin.len_ #[T] o.type #[u]).run P w = .ok v w) : (execOp a.eval o).run P w = .ok (.value v) w := by
  unfold execOp
  rw [ho]
  simp only [resolve, invoke, builtin, Sem.run_bind, Sem.run_pure, Result.andThen_ok, List.map_toArray, List.map_cons, List.map_nil, hu, h]
theorem Loc.len {T : TypeId} {x : Operand} {e k by_ : Nat} {xs : List (List D)} (ho : o.op = .call { callee := .builtin .len, args := #[x], argTypes := #[T] }) (hx : ev σ x = .d (.l xs)) [h : Sl P T e k by_] : Loc P C o σ (.d (.v (.int .i64 (xs.length : Int)))) :=
  Loc.one (by rw [ho]; simp [Op.operands, Call.operands]) hx fun S w β O a h1 => by
    generalize hu : a.eval x = u at h1
    cases u with
    | slice ad len cap =>
      obtain ⟨hn, _⟩ := RD.cells h1
      exact ⟨_, exec_len ho hu (run_len T h.e ad len cap _ w), by rw [hn]; exact .mk rfl⟩
    | _ => cases h1
theorem Loc.lenM {α : Type} {f : α → List D} {ts : List α} {T : TypeId} {x : Operand} {e k by_ : Nat} (ho : o.op = .call { callee := .builtin .len, args := #[x], argTypes := #[T] }) (hx : ev σ x = .d (.l (ts.map f))) [h : Sl P T e k by_] : Loc P C o σ (.d (.v (.int .i64 (ts.length : Int)))) := by
  have := Loc.len (C := C) ho hx (h := h)
  rwa [List.length_map] at this
theorem Loc.lenN {T : TypeId} {x : Operand} {e k by_ : Nat} (ho : o.op = .call { callee := .builtin .len, args := #[x], argTypes := #[T] }) (hx : ev σ x = .d .n) [h : Sl P T e k by_] : Loc P C o σ (.d (.v (.int .i64 0))) :=
  Loc.one (by rw [ho]; simp [Op.operands, Call.operands]) hx fun S w β O a h1 => by
    generalize hu : a.eval x = u at h1
    cases h1
    exact ⟨_, exec_len ho hu (run_len T h.e none 0 0 _ w), .mk rfl⟩
theorem Loc.lenR {T : TypeId} {x : Operand} {id g e e' k k' by_ : Nat} {xs : List (List D)} (ho : o.op = .call { callee := .builtin .len, args := #[x], argTypes := #[T] }) (hx : ev σ x = .r id g) (hO : get? σ.objs id = some (.row g e' k' xs)) [h : Sl P T e k by_] : LocR P C o σ (.d (.v (.int .i64 (xs.length : Int)))) id :=
  Loc.quiet fun σ' hl β a w hi' => by
    have h1 := hl.ra hi' (x := x) (by rw [ho]; simp [Op.operands, Call.operands])
    rw [hx] at h1
    have hO' : get? σ'.objs id = some (.row g e' k' xs) := by rw [hl.rd id (by simp)]; exact hO
    have hu := (h1 g e' k' xs hO').2 rfl
    obtain ⟨css, hl1, hr1, hk1, hown⟩ := hi'.obj id _ hO'
    rcases hown.2 with ⟨h0, h3⟩ | ⟨gb, cap, cur, hv, _⟩
    · rw [h0] at hu
      exact ⟨_, exec_len ho hu (run_len T h.e none 0 0 _ w), by rw [h3]; exact .mk rfl⟩
    · rw [hv] at hu
      exact ⟨_, exec_len ho hu (run_len T h.e _ _ cap _ w), .mk rfl⟩
end
end Go.Proofs.YtfijmpmojhlnmaaGreatDoor
