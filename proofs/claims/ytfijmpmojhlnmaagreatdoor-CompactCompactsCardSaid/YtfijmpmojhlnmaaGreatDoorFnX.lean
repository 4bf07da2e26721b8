/-
  Functions that are handed one block of the caller's, look at it or write into it, and answer with data that do not lead there. No program in sight.
-/
import Derived.Test.YtfijmpmojhlnmaaGreatDoorFnS
namespace Go.Proofs.YtfijmpmojhlnmaaGreatDoor
open Go.RowKit
section
variable {P : Program} {C : Cx} {o : Oper} {σ : AS}
/-- The blocks that an answer may lead to: not those handed in. -/
abbrev XS (S : Nat → Prop) (w w' : World) (v : Value) : Nat → Prop := fun b => ((S b ∨ w.heap.size ≤ b) ∧ b < w'.heap.size) ∧ blk v ≠ some b
/-- The function f, called with these data and a block between them, answers those data and leaves the block so. -/
structure FnX (P : Program) (f : FuncId) (pre : List DV) (a b : AO) (post : List DV) (res : List DV) : Prop where
  body : ∃ fn, P.funcs[f]? = some fn ∧ fn.body.isNone = false ∧ (fn.name == "runtime.NumGoroutine") = false
  run : ∀ (S : Nat → Prop) (w : World) (us : List Value) (v : Value) (vs : List Value), (∀ b, S b → b < w.heap.size) → (∀ b, blk v = some b → b < w.heap.size ∧ ¬ S b) → RO S w (fun _ => v) [] 0 a → RVs S w us pre → RVs S w vs post →
    Calls P f (us ++ v :: vs).toArray w fun ev w' => ∃ u, ev = .returned u ∧ w'.os = w.os ∧ w'.tape = w.tape ∧ w'.output = w.output ∧ w.heap.size ≤ w'.heap.size ∧ (∀ b, b < w.heap.size → blk v ≠ some b → w'.heap[b]? = w.heap[b]?) ∧ RA (XS S w w' v) w' (fun _ => undef) [] u (resAV res) ∧ RO (XS S w w' v) w' (fun _ => v) [] 0 b
def hand : AO → Nat → AV
  | .row .., id => .r id 0
  | .box .., id => .p id 0
  | .own x _, _ => .d (.v x)
  | .dead, _ => .un
/-- What the caller's slot holds. -/
def handG (g : Nat) : AO → Nat → AV
  | .row .., id => .r id g
  | .box .., id => .p id 0
  | _, _ => .un
/-- The block as the caller knows it. -/
def gen : Nat → AO → AO
  | g, .row _ e k xs => .row g e k xs
  | _, o => o
/-- A block whose cells are data. -/
inductive PlainO : AO → Prop
  | row {g : Nat} {e : TypeId} {k : Nat} {xs : List (List D)} : PlainO (.row g e k xs)
  | box {T : TypeId} {cs : List D} : PlainO (.box T (cs.map .d))
theorem RA.plain {S S' : Nat → Prop} {w : World} {β β' : Nat → Value} {O O' : List (Nat × AO)} {u : Value} {c : D} (h : RA S w β O u (.d c)) (hs : ∀ b, S b → S' b) : RA S' w β' O' u (.d c) := RD.mono h hs
theorem RO.plain {S S' : Nat → Prop} {w : World} {β β' : Nat → Value} {O O' : List (Nat × AO)} {id id' g : Nat} {a : AO} (h : RO S w β O id a) (hp : PlainO a) (hb : β' id' = β id) (hs : ∀ b, S b → S' b) : RO S' w β' O' id' (gen g a) := by
  cases hp with
  | row => exact RO.row h hb hs
  | box =>
    obtain ⟨b, us, h1, h2, h3, h4, h5⟩ := h
    refine ⟨b, us, by rw [hb]; exact h1, h2, h3, h4, fun i h h' => ?_⟩
    have := h5 i h h'
    rw [List.getElem_map] at this ⊢
    exact this.plain hs
theorem RO.plain' {S S' : Nat → Prop} {w : World} {β β' : Nat → Value} {O O' : List (Nat × AO)} {id id' g : Nat} {a : AO} (h : RO S w β O id (gen g a)) (hp : PlainO a) (hb : β' id' = β id) (hs : ∀ b, S b → S' b) : RO S' w β' O' id' a := by
  cases hp with
  | row => exact RO.row h hb hs
  | @box T cs => exact RO.plain (g := 0) (a := .box T (cs.map .d)) h .box hb hs
/-- What becomes of a handed block: it is of the same kind and place. -/
inductive Fits : AO → AO → Prop
  | row {e : TypeId} {k : Nat} {xs ys : List (List D)} : Fits (.row 0 e k xs) (.row 0 e k ys)
  | box {T T' : TypeId} {cs ds : List D} : Fits (.box T (cs.map .d)) (.box T' (ds.map .d))
theorem Fits.pl {a b : AO} (h : Fits a b) : PlainO a := by cases h; exact .row; exact .box
theorem Fits.pr {a b : AO} (h : Fits a b) : PlainO b := by cases h; exact .row; exact .box
theorem hand_val {β : Nat → Value} {S : Nat → Prop} {w : World} {O : List (Nat × AO)} {u : Value} {id g : Nat} {a b : AO} (h : Fits a b) (hO : get? O id = some (gen g a)) (hr : RO S w β O id (gen g a)) (hu : RA S w β O u (handG g a id)) : u = β id := by
  cases h with
  | row => exact (hu g _ _ _ hO).2 rfl
  | box =>
    obtain ⟨b, h1, h2⟩ := hu _ _ hO
    obtain ⟨b', us, h3, _⟩ := hr
    rw [h1] at h3
    cases h3
    rw [h2, h1]
theorem Do.callX {f : FuncId} {pre post res : List DV} {a b : AO} {xs : Array Operand} {ys zs : List Operand} {x : Operand} {ts : Array TypeId} {id g : Nat} (hF : FnX P f pre a b post res) (ho : o.op = .call { callee := .value (.func f), args := xs, argTypes := ts }) (hxs : xs.toList = ys ++ x :: zs) (hab : Fits a b)
    (hO : get? σ.objs id = some (gen g a)) (hx : ev σ x = (handG g a id)) (hy : argsOK σ ys pre) (hz : argsOK σ zs post) : Do P C o σ (resAV res) ⟨[id], [], [(id, gen g b)], none⟩ := by
  intro σ' hl hdst ac w K Q' ⟨β, hi⟩ hK
  unfold Oper.wp
  rw [exec_call hF.body ho rfl]
  have hO' : get? σ'.objs id = some (gen g a) := by rw [hl.rd id (by simp)]; exact hO
  have hmem : ∀ y ∈ xs.toList, RA (Dat C β σ'.objs w) w β σ'.objs (ac.eval y) (ev σ y) := fun y hy => hl.ra hi (by rw [ho]; simp only [Op.operands, Call.operands]; simp at hy ⊢; exact .inr hy)
  rw [hxs] at hmem
  have hx1 := hmem x (by simp)
  rw [hx] at hx1
  have hO1 := hi.obj id _ hO'
  have hu : ac.eval x = β id := hand_val hab hO' hO1 hx1
  have h1 := argsOK_out (σ := σ) hi (fun y hy => hmem y (by simp [hy])) hy
  have h2 := argsOK_out (σ := σ) hi (fun y hy => hmem y (by simp [hy])) hz
  have e0 : (xs.toList.map ac.eval).toArray = (ys.map ac.eval ++ β id :: zs.map ac.eval).toArray := by rw [hxs, List.map_append, List.map_cons, hu]
  rw [e0]
  refine (hF.run (Dat C β σ'.objs w) w _ (β id) _ (fun b hb => hb.2.1) (fun b hb => ⟨(hi.own id _ b hO' hb).2, fun h => h.2.2 id _ hO' hb⟩) (hO1.plain' hab.pl rfl fun _ h => h) h1 h2).mono fun ev' w' ⟨u, he, q2, q3, q4, q5, q6, q7, q8⟩ => ?_
  subst he
  have hb1 : bset β id (β id) id = β id := by simp [bset]
  have hsub : ∀ c, XS (Dat C β σ'.objs w) w w' (β id) c → Dat C (bset β id (β id)) ((id, gen g b) :: σ'.objs) w' c := fun c hc => by
    refine ⟨?_, hc.1.2, fun i oi hid => ?_⟩
    · rcases hc.1.1 with h | h
      · exact h.1
      · exact .inr (.inl (Nat.le_trans hi.size h))
    · rw [get?_cons] at hid
      by_cases e : id = i
      · rw [← e, hb1]; exact hc.2
      · rw [if_neg e] at hid
        simp only [bset, if_neg (Ne.symm e)]
        intro e2
        rcases hc.1.1 with h | h
        · exact h.2.2 i oi hid e2
        · have := (hi.own i oi c hid e2).2
          omega
  refine hK _ _ ⟨bset β id (β id), ?_⟩
  have := (hi.upd id (gen g a) (gen g b) hO' (β id) q2 q3 q4 q5 q6 (fun b hb => ⟨.inl hb, Nat.lt_of_lt_of_le (hi.own id _ b hO' hb).2 q5⟩) (by cases hab; exact ⟨Nat.le_refl _, fun _ => ⟨rfl, rfl⟩⟩; rfl) fun _ _ => q8.plain hab.pr hb1 hsub).put o.dst (dstOK.out hdst) (resAV_sound (RA.same (w' := w') q7 fun c hc => ⟨hsub c hc, rfl⟩))
  cases e : o.dst with
  | none => rw [e] at this; exact this
  | some d => rw [e] at this; exact this
/-! ### a function's beginning and end -/
def cellX : AV → D → Prop
  | .d c, c' => c' = c ∨ c' = c.fg
  | _, _ => False
def cellsX : List AV → List D → Prop
  | [], [] => True
  | v :: vs, d :: ds => cellX v d ∧ cellsX vs ds
  | _, _ => False
/-- What a result's place holds: data. -/
inductive ResX (P : Program) (σ : AS) : ResultVar → DV → Prop
  | d {t : Nat} {v : AV} {c : D} (h : get? σ.env t = some v) (hc : cellX v c) : ResX P σ (.tmp t) (.d c)
  | g {t : Nat} {cs cs' : List D} (h : get? σ.env t = some (.g cs)) (hc : cs' = cs ∨ cs' = cs.map D.fg) : ResX P σ (.tmp t) (.g cs')
  | c1 {t T id : Nat} {T' : TypeId} {v : AV} {cs : List AV} {c : D} {n : Nat} (h : get? σ.env t = some (.p id 0)) (hO : get? σ.objs id = some (.box T' (v :: cs))) (hS : Sz P T false n) (hc : cellX v c) : ResX P σ (.cell t T) (.d c)
  | cn {t T id : Nat} {T' : TypeId} {cs : List AV} {ds : List D} {n : Nat} (h : get? σ.env t = some (.p id 0)) (hO : get? σ.objs id = some (.box T' cs)) (hS : Sz P T true n) (hn : cs.length = n) (hc : cellsX cs ds) : ResX P σ (.cell t T) (.g ds)
def ressX (P : Program) (σ : AS) : List ResultVar → List DV → Prop
  | [], [] => True
  | r :: rs, d :: ds => ResX P σ r d ∧ ressX P σ rs ds
  | _, _ => False
theorem cellX.out {S : Nat → Prop} {w : World} {β : Nat → Value} {O : List (Nat × AO)} {u : Value} {v : AV} {c : D} (h : cellX v c) (hu : RA S w β O u v) : RD S w u c := by
  cases v with
  | d c0 =>
    have hu : RD _ w u c0 := hu
    have h : c = c0 ∨ c = c0.fg := by cases c <;> exact h
    rcases h with h | h
    · subst h; exact hu
    · subst h; exact hu.fg
  | _ => cases c <;> exact h.elim
theorem cellsX.out {S : Nat → Prop} {w : World} {β : Nat → Value} {O : List (Nat × AO)} : ∀ {us : List Value} {vs : List AV} {ds : List D}, cellsX vs ds → us.length = vs.length → (∀ i (h : i < us.length) (h' : i < vs.length), RA S w β O us[i] vs[i]) → RDs S w us ds
  | [], [], [], _, _, _ => .nil
  | u :: us, v :: vs, d :: ds, ⟨h1, h2⟩, hl, hr => .cons (h1.out (hr 0 (by simp) (by simp))) (cellsX.out h2 (by simpa using hl) fun i h h' => hr (i + 1) (by simpa using h) (by simpa using h'))
  | [], _ :: _, _, _, h, _ => by simp at h
  | _ :: _, [], _, _, h, _ => by simp at h
  | _, [], _ :: _, h, _, _ => h.elim
  | _, _ :: _, [], h, _, _ => h.elim
theorem ResX.out {β : Nat → Value} {a : Act} {w : World} (hi : Inv C σ β a w) {r : ResultVar} {x : DV} (h : ResX P σ r x) :
    ∃ u, Sem.run P (resM a.tmps r) w = .ok u w ∧ RV (Dat C β σ.objs w) w u x := by
  cases h with
  | d h hc =>
    obtain ⟨u, h1, h2⟩ := hi.env _ _ h
    exact ⟨u, by simp [resM, Array.getD_eq_getD_getElem?, h1], hc.out h2⟩
  | g h hc =>
    obtain ⟨u, h1, us, h2, h3⟩ := hi.env _ _ h
    refine ⟨u, by simp [resM, Array.getD_eq_getD_getElem?, h1], us, h2, ?_⟩
    rcases hc with hc | hc
    · subst hc; exact h3
    · subst hc; exact h3.fg
  | @c1 t T id T' v cs c n h hO hSz hc =>
    obtain ⟨u, h1, h2⟩ := hi.env _ _ h
    obtain ⟨b, hb, hu⟩ := h2 _ _ hO
    obtain ⟨b', us, hb', hh, hlen, hone, hr⟩ := hi.obj id _ hO
    rw [hb] at hb'
    cases hb'
    have hlt : 0 < us.length := by rw [hlen]; simp
    obtain ⟨d, hd1, hd2⟩ := hSz.u
    have hl := run_loadAt_one (P := P) hd1 hd2 b 0 us[0] w (by simp [World.cell?, hh, hlt])
    refine ⟨us[0], ?_, hc.out (hr 0 hlt (by simp))⟩
    simp only [Instr.loadAt, Instr.sureAddr, Sem.run_bind, Sem.run_pure, Result.andThen_ok] at hl
    simp [resM, Array.getD_eq_getD_getElem?, h1, hu, asAddr, hl]
  | @cn t T id T' cs ds n h hO hSz hn hc =>
    obtain ⟨u, h1, h2⟩ := hi.env _ _ h
    obtain ⟨b, hb, hu⟩ := h2 _ _ hO
    obtain ⟨b', us, hb', hh, hlen, hone, hr⟩ := hi.obj id _ hO
    rw [hb] at hb'
    cases hb'
    obtain ⟨d, hd1, hd2⟩ := hSz.u
    have hrg : w.rangeAt b 0 us := by
      have := box_range hh 0 us.length
      simpa using this
    have hl := run_loadVar_mid (P := P) w b 0 T us d hrg hd1 hd2 (by rw [hSz.s, ← hn, hlen])
    refine ⟨.agg us.toArray, ?_, us, rfl, cellsX.out hc hlen hr⟩
    simp [resM, Array.getD_eq_getD_getElem?, h1, hu, asAddr, hl]
theorem ressX_run {β : Nat → Value} {a : Act} {w : World} (hi : Inv C σ β a w) : ∀ {rs : List ResultVar} {ds : List DV}, ressX P σ rs ds → ∃ us : List Value, Sem.run P (rs.mapM (resM a.tmps)) w = .ok us w ∧ us.length = ds.length ∧ ∀ i (h : i < us.length) (h' : i < ds.length), RV (Dat C β σ.objs w) w us[i] ds[i]
  | [], [], _ => ⟨[], by simp, rfl, fun i h => absurd h (by simp)⟩
  | r :: rs, d :: ds, ⟨h1, h2⟩ => by
    obtain ⟨u, q1, q2⟩ := h1.out hi
    obtain ⟨us, r1, r2, r3⟩ := ressX_run hi h2
    refine ⟨u :: us, ?_, by simp [r2], fun i h h' => ?_⟩
    · simp only [List.mapM_cons, Sem.run_bind, q1, r1, Result.andThen_ok]
      rfl
    · cases i with
      | zero => exact q2
      | succ i => exact r3 i (by simpa using h) (by simpa using h')
  | [], _ :: _, h => h.elim
  | _ :: _, [], h => h.elim
theorem ressX.end {fn : Func} {res : List DV} {β : Nat → Value} {a : Act} {w : World} (hi : Inv C σ β a w) (h : ressX P σ fn.results.toList res) : ∃ v, (results fn a.tmps).run P w = .ok v w ∧ RA (Dat C β σ.objs w) w (fun _ => undef) [] v (resAV res) := by
  obtain ⟨us, h1, h2, h3⟩ := ressX_run hi h
  have hm : Sem.run P (fn.results.mapM (resM a.tmps)) w = .ok us.toArray w := by
    rw [Array.mapM_eq_mapM_toList]
    simp only [Sem.run_map, h1, Result.andThen_ok]
  match us, res, h2, h3 with
  | [u], [x], _, h3 =>
    refine ⟨u, ?_, ?_⟩
    · rw [results_eq, Sem.run_bind, hm]
      rfl
    · have := h3 0 (by simp) (by simp)
      cases x <;> exact this
  | [], [], _, h3 => exact ⟨.tuple #[], by rw [results_eq, Sem.run_bind, hm]; rfl, [], rfl, rfl, h3⟩
  | u1 :: u2 :: us, x1 :: x2 :: xs, h2, h3 =>
    refine ⟨.tuple (u1 :: u2 :: us).toArray, ?_, _, rfl, h2, h3⟩
    rw [results_eq, Sem.run_bind, hm]
    simp
/-- The end of a body. -/
def RetX (P : Program) (nt : Nat) (rs : List ResultVar) (res : List DV) (b : AO) : Exit → AS → Prop
  | .ret, σ => ressX P σ rs res ∧ get? σ.objs nt = some b
  | .normal, σ => ressX P σ rs res ∧ get? σ.objs nt = some b
  | _, _ => False
theorem entry_app : ∀ (xs : List DV) (i : Nat) (l : List (Nat × AV)) (t : Nat), t < i + xs.length → i ≤ t → get? (entry i xs ++ l) t = get? (entry i xs) t
  | [], i, l, t, h1, h2 => by simp at h1; omega
  | x :: r, i, l, t, h1, h2 => by
    simp only [entry, List.cons_append]
    rw [get?_cons, get?_cons]
    by_cases e : i = t
    · rw [if_pos e, if_pos e]
    · rw [if_neg e, if_neg e]
      exact entry_app r (i + 1) l t (by simp at h1; omega) (by omega)
theorem entry_out : ∀ (xs : List DV) (i : Nat) (l : List (Nat × AV)) (t : Nat), (t < i ∨ i + xs.length ≤ t) → get? (entry i xs ++ l) t = get? l t
  | [], i, l, t, _ => rfl
  | x :: r, i, l, t, h => by
    simp only [entry, List.cons_append]
    simp only [List.length_cons] at h
    rw [get?_cons, if_neg (by omega)]
    exact entry_out r (i + 1) l t (by omega)
theorem FnX.of {f : FuncId} {fn : Func} {c : Code} {pre post res : List DV} {a b : AO} {nt : Nat} {rs : List ResultVar} (hf : P.funcs[f]? = some fn) (hb : fn.body = some c) (hname : (fn.name == "runtime.NumGoroutine") = false) (hntm : fn.ntmps = nt) (hrs : fn.results = rs.toArray) (hnt : Nat.ble (pre.length + 1 + post.length) nt = true) (hab : Fits a b)
    (h : ∀ w0 S0 v, AC P ⟨w0, S0, [v], nt⟩ c (RetX P nt rs res b) ⟨entry 0 pre ++ (pre.length, hand a nt) :: entry (pre.length + 1) post, [(nt, a)]⟩) : FnX P f pre a b post res := by
  subst hntm
  rw [Nat.ble_eq] at hnt
  have hrs' : fn.results.toList = rs := by rw [hrs]
  refine ⟨⟨fn, hf, by rw [hb]; rfl, hname⟩, fun S w us v vs hS hv hRO hus hvs => ?_⟩
  refine calls_of_wp hf hb ?_
  let C : Cx := ⟨w, S, [v], fn.ntmps⟩
  have hM : ∀ b, Cx.M C b ↔ blk v = some b := fun b => ⟨fun ⟨x, h1, h2⟩ => by rw [List.mem_singleton.1 h1] at h2; exact h2, fun h => ⟨v, List.mem_singleton.2 rfl, h⟩⟩
  have hdat : ∀ b, S b → Dat C (fun _ => v) [(fn.ntmps, a)] w b := fun b hb => ⟨.inl hb, hS b hb, fun id o h e2 => (hv b e2).2 hb⟩
  have hst : St C ⟨entry 0 pre ++ (pre.length, hand a fn.ntmps) :: entry (pre.length + 1) post, [(fn.ntmps, a)]⟩ { tmps := (us ++ v :: vs).toArray ++ Array.replicate (fn.ntmps - (us ++ v :: vs).toArray.size) undef, defers := [] } w := by
    refine ⟨fun _ => v, rfl, ?_, rfl, rfl, rfl, Nat.le_refl _, fun _ _ _ => rfl, fun t u ht => ?_, fun id o h => ?_, fun i j oi oj b h h2 => ?_, fun i oi b h h2 => ⟨.inl ((hM b).2 h2), (hv b h2).1⟩, fun i x o h => ?_⟩
    · simp only [Array.size_append, List.size_toArray, Array.size_replicate, List.length_cons, List.length_append]
      rw [hvs.1, hus.1]
      show pre.length + (post.length + 1) + (fn.ntmps - (pre.length + (post.length + 1))) = fn.ntmps
      omega
    · have hdv : ∀ {u : Value} {x : DV}, RV S w u x → RA (Dat C (fun _ => v) [(fn.ntmps, a)] w) w (fun _ => v) [(fn.ntmps, a)] u x.av := fun {u x} hu => by
        have := hu.keep (w' := w) fun b hb => ⟨hdat b hb, rfl⟩
        cases x with
        | d c => exact this
        | g cs => exact this
      by_cases h1 : t < pre.length
      · rw [entry_app pre 0 _ t (by omega) (by omega)] at ht
        obtain ⟨j, e1, h2, h3⟩ := entry_get pre 0 t u ht
        obtain rfl : t = j := by omega
        have hj : t < us.length := by rw [hus.1]; exact h2
        refine ⟨us[t], by rw [Array.getElem?_append_left (by simp; omega)]; simp [List.getElem?_append_left hj, hj], ?_⟩
        rw [← h3]
        exact hdv (hus.2 t hj h2)
      · rw [entry_out pre 0 _ t (by omega), get?_cons] at ht
        by_cases e0 : pre.length = t
        · rw [if_pos e0] at ht
          cases ht
          refine ⟨v, by rw [Array.getElem?_append_left (by simp [hus.1]; omega)]; simp [← e0, ← hus.1], ?_⟩
          cases hab with
          | row =>
            intro g' e2 k2 xs2 hO
            rw [get?_cons, if_pos rfl] at hO
            cases hO
            exact ⟨Nat.le_refl _, fun _ => rfl⟩
          | box =>
            intro T2 cs2 hO
            rw [get?_cons, if_pos rfl] at hO
            cases hO
            obtain ⟨b, us', q1, _⟩ := hRO
            exact ⟨b, q1, q1⟩
        · rw [if_neg e0] at ht
          obtain ⟨j, e1, h2, h3⟩ := entry_get post _ t u ht
          have hj : j < vs.length := by rw [hvs.1]; exact h2
          obtain rfl : t = pre.length + 1 + j := e1
          refine ⟨vs[j], ?_, ?_⟩
          · rw [Array.getElem?_append_left (by simp [hus.1]; omega)]
            simp only [List.getElem?_toArray]
            rw [List.getElem?_append_right (by rw [hus.1]; omega), hus.1, show pre.length + 1 + j - pre.length = j + 1 by omega, List.getElem?_cons_succ]
            exact List.getElem?_eq_getElem hj
          · rw [← h3]
            exact hdv (hvs.2 j hj h2)
    · rw [get?_cons] at h
      by_cases e0 : fn.ntmps = id
      · rw [if_pos e0] at h
        cases h
        have := RO.plain (g := 0) (β' := fun _ => v) (O' := [(fn.ntmps, a)]) (id' := id) hRO hab.pl rfl hdat
        have hg : gen 0 a = a := by cases hab <;> rfl
        rwa [hg] at this
      · rw [if_neg e0] at h; simp [get?] at h
    · rw [get?_cons] at h h2
      by_cases e1 : fn.ntmps = i
      · by_cases e2 : fn.ntmps = j
        · intros; omega
        · rw [if_neg e2] at h2; simp [get?] at h2
      · rw [if_neg e1] at h; simp [get?] at h
    · intro _ _
      cases i with
      | zero => simp [C] at h; exact h
      | succ i => simp [C] at h
  refine Code.wp_mono ?_ (h w S v _ w hst)
  rintro ee a' w' ⟨σ, h1, β, hi⟩
  have hfin : ressX P σ rs res ∧ get? σ.objs fn.ntmps = some b → a'.defers = [] ∧ ∃ v1, (results fn a'.tmps).run P w' = .ok v1 w' ∧ ∃ u, Ending.returned v1 = .returned u ∧ w'.os = w.os ∧ w'.tape = w.tape ∧ w'.output = w.output ∧ w.heap.size ≤ w'.heap.size ∧ (∀ b, b < w.heap.size → blk v ≠ some b → w'.heap[b]? = w.heap[b]?) ∧ RA (XS S w w' v) w' (fun _ => undef) [] u (resAV res) ∧ RO (XS S w w' v) w' (fun _ => v) [] 0 b := fun ⟨hr, hO⟩ => by
    have hp : v = β fn.ntmps := (hi.pin 0 v _ rfl hO (by cases hab <;> rfl)).symm
    have hsub : ∀ c, Dat C β σ.objs w' c → XS S w w' v c := fun c hc => ⟨⟨by
      rcases hc.1 with h | h | h
      · exact .inl h
      · exact .inr h
      · exact (hc.2.2 _ _ hO (by rw [← hp]; exact (hM c).1 h)).elim, hc.2.1⟩, by rw [hp]; exact hc.2.2 _ _ hO⟩
    obtain ⟨v1, q1, q2⟩ := ressX.end hi (hrs' ▸ hr : ressX P σ fn.results.toList res)
    have hgb : gen 0 b = b := by cases hab <;> rfl
    have hRb := RO.plain (g := 0) (β' := fun _ => v) (O' := []) (id' := 0) (hi.obj _ _ hO) hab.pr hp hsub
    rw [hgb] at hRb
    exact ⟨hi.defs, v1, q1, v1, rfl, hi.os, hi.tape, hi.output, hi.size, fun b hb hne => hi.fr b hb (fun h => hne ((hM b).1 h)), RA.same (w' := w') q2 fun c hc => ⟨hsub c hc, rfl⟩, hRb⟩
  cases ee with
  | ret => exact hfin h1
  | normal => exact hfin h1
  | _ => exact h1.elim
/-- .. the argument found by its place. -/
theorem Do.callK {f : FuncId} {pre post res : List DV} {a b : AO} {xs : Array Operand} {x : Operand} {ts : Array TypeId} {id g : Nat} (hF : FnX P f pre a b post res) (ho : o.op = .call { callee := .value (.func f), args := xs, argTypes := ts }) (hxs : xs.toList[pre.length]? = some x) (hx : ev σ x = handG g a id) (hab : Fits a b)
    (hO : get? σ.objs id = some (gen g a)) (hy : argsOK σ (xs.toList.take pre.length) pre) (hz : argsOK σ (xs.toList.drop (pre.length + 1)) post) : Do P C o σ (resAV res) ⟨[id], [], [(id, gen g b)], none⟩ := by
  obtain ⟨h1, h2⟩ := List.getElem?_eq_some_iff.1 hxs
  refine Do.callX hF ho ?_ hab hO hx hy hz
  rw [← h2, ← List.drop_eq_getElem_cons h1, List.take_append_drop]
theorem Do.callKr {f : FuncId} {pre post res : List DV} {e : TypeId} {k : Nat} {as bs : List (List D)} {xs : Array Operand} {x : Operand} {ts : Array TypeId} {id g : Nat} (hF : FnX P f pre (.row 0 e k as) (.row 0 e k bs) post res) (ho : o.op = .call { callee := .value (.func f), args := xs, argTypes := ts }) (hxs : xs.toList[pre.length]? = some x) (hx : ev σ x = .r id g)
    (hO : get? σ.objs id = some (.row g e k as)) (hy : argsOK σ (xs.toList.take pre.length) pre) (hz : argsOK σ (xs.toList.drop (pre.length + 1)) post) : Do P C o σ (resAV res) ⟨[id], [], [(id, .row g e k bs)], none⟩ :=
  Do.callK hF ho hxs hx .row hO hy hz
/-! ### functions that write on at the end of a row that they are handed, and hand it back -/
structure FnA (P : Program) (f : FuncId) (e : TypeId) (k : Nat) (xs : List (List D)) (args : List DV) (ys : List (List D)) : Prop where
  body : ∃ fn, P.funcs[f]? = some fn ∧ fn.body.isNone = false ∧ (fn.name == "runtime.NumGoroutine") = false
  run : ∀ (S : Nat → Prop) (w : World) (v : Value) (vs : List Value), (∀ b, S b → b < w.heap.size) → (∀ b, blk v = some b → b < w.heap.size ∧ ¬ S b) → RO S w (fun _ => v) [] 0 (.row 0 e k xs) → RVs S w vs args →
    Calls P f (v :: vs).toArray w fun ev w' => ∃ u, ev = .returned u ∧ w'.os = w.os ∧ w'.tape = w.tape ∧ w'.output = w.output ∧ w.heap.size ≤ w'.heap.size ∧ (∀ b, b < w.heap.size → blk v ≠ some b → w'.heap[b]? = w.heap[b]?) ∧ (∀ b, blk u = some b → (blk v = some b ∨ w.heap.size ≤ b) ∧ b < w'.heap.size) ∧ RO (fun b => ((S b ∨ w.heap.size ≤ b ∨ blk v = some b) ∧ b < w'.heap.size) ∧ blk u ≠ some b) w' (fun _ => u) [] 0 (.row 0 e k ys)
theorem Do.callA {f : FuncId} {args : List DV} {e : TypeId} {k g id : Nat} {zs ys : List (List D)} {x : Operand} {xs : List Operand} {ts : Array TypeId} (hF : FnA P f e k zs args ys) (ho : o.op = .call { callee := .value (.func f), args := ⟨x :: xs⟩, argTypes := ts }) (hx : ev σ x = .r id g) (hO : get? σ.objs id = some (.row g e k zs)) (ha : argsOK σ xs args) :
    Do P C o σ (.r id (g + 1)) ⟨[id], [], [(id, .row (g + 1) e k ys)], none⟩ := by
  intro σ' hl hdst ac w K Q' ⟨β, hi⟩ hK
  unfold Oper.wp
  rw [exec_call hF.body ho rfl]
  have hO' : get? σ'.objs id = some (.row g e k zs) := by rw [hl.rd id (by simp)]; exact hO
  have hmem : ∀ y ∈ x :: xs, RA (Dat C β σ'.objs w) w β σ'.objs (ac.eval y) (ev σ y) := fun y hy => hl.ra hi (by rw [ho]; simp only [Op.operands, Call.operands]; simp at hy ⊢; exact .inr hy)
  have hx1 := hmem x (by simp)
  rw [hx] at hx1
  have hu := (hx1 g e k zs hO').2 rfl
  have h1 := argsOK_out (σ := σ) hi (fun y hy => hmem y (by simp [hy])) ha
  have hO1 := hi.obj id _ hO'
  have e0 : ((x :: xs).map ac.eval).toArray = (β id :: xs.map ac.eval).toArray := by rw [List.map_cons, hu]
  show Calls _ _ ((x :: xs).map ac.eval).toArray _ _
  rw [e0]
  refine (hF.run (Dat C β σ'.objs w) w (β id) _ (fun b hb => hb.2.1) (fun b hb => ⟨(hi.own id _ b hO' hb).2, fun h => h.2.2 id _ hO' hb⟩) (hO1.row rfl fun _ h => h) h1).mono fun ev' w' ⟨u, he, q2, q3, q4, q5, q6, q7, q8⟩ => ?_
  subst he
  have hb1 : bset β id u id = u := by simp [bset]
  refine hK _ _ ⟨bset β id u, ?_⟩
  have := (hi.upd id (.row g e k zs) (.row (g + 1) e k ys) hO' u q2 q3 q4 q5 q6 q7 ⟨by omega, fun h => by omega⟩ fun _ _ => q8.row hb1 fun c hc => by
    refine ⟨?_, hc.1.2, fun i oi hid => ?_⟩
    · rcases hc.1.1 with h | h | h
      · exact h.1
      · exact .inr (.inl (Nat.le_trans hi.size h))
      · rcases (hi.own id _ c hO' h).1 with h2 | h2
        · exact .inr (.inr h2)
        · exact .inr (.inl h2)
    · rw [get?_cons] at hid
      by_cases e : id = i
      · rw [← e, hb1]; exact hc.2
      · rw [if_neg e] at hid
        simp only [bset, if_neg (Ne.symm e)]
        intro e2
        rcases hc.1.1 with h | h | h
        · exact h.2.2 i oi hid e2
        · have := (hi.own i oi c hid e2).2
          omega
        · exact e (hi.dis id i _ oi c hO' hid h e2)).put o.dst (dstOK.out hdst) (u := u) (v := .r id (g + 1)) fun g' e2 k2 xs2 h => by
      rw [get?_cons, if_pos rfl] at h
      cases h
      exact ⟨Nat.le_refl _, fun _ => hb1.symm⟩
  cases e : o.dst with
  | none => rw [e] at this; exact this
  | some d => rw [e] at this; exact this
def RetA (nt : Nat) (rs : List ResultVar) (e : TypeId) (k : Nat) (ys : List (List D)) : Exit → AS → Prop
  | .ret, σ => ∃ t g, rs = [.tmp t] ∧ get? σ.env t = some (.r nt g) ∧ get? σ.objs nt = some (.row g e k ys)
  | .normal, σ => ∃ t g, rs = [.tmp t] ∧ get? σ.env t = some (.r nt g) ∧ get? σ.objs nt = some (.row g e k ys)
  | _, _ => False
theorem FnA.of {f : FuncId} {fn : Func} {c : Code} {args : List DV} {e : TypeId} {k : Nat} {xs ys : List (List D)} {nt : Nat} {rs : List ResultVar} (hf : P.funcs[f]? = some fn) (hb : fn.body = some c) (hname : (fn.name == "runtime.NumGoroutine") = false) (hntm : fn.ntmps = nt) (hrs : fn.results = rs.toArray) (hnt : Nat.ble (args.length + 1) nt = true)
    (h : ∀ w0 S0 v, AC P ⟨w0, S0, [v], nt⟩ c (RetA nt rs e k ys) ⟨(0, .r nt 0) :: entry 1 args, [(nt, .row 0 e k xs)]⟩) : FnA P f e k xs args ys := by
  subst hntm
  rw [Nat.ble_eq] at hnt
  refine ⟨⟨fn, hf, by rw [hb]; rfl, hname⟩, fun S w v vs hS hv hRO hvs => ?_⟩
  refine calls_of_wp hf hb ?_
  let C : Cx := ⟨w, S, [v], fn.ntmps⟩
  have hM : ∀ b, Cx.M C b ↔ blk v = some b := fun b => ⟨fun ⟨x, h1, h2⟩ => by rw [List.mem_singleton.1 h1] at h2; exact h2, fun h => ⟨v, List.mem_singleton.2 rfl, h⟩⟩
  have hdat : ∀ b, S b → Dat C (fun _ => v) [(fn.ntmps, .row 0 e k xs)] w b := fun b hb => ⟨.inl hb, hS b hb, fun id o h e2 => (hv b e2).2 hb⟩
  have hst : St C ⟨(0, .r fn.ntmps 0) :: entry 1 args, [(fn.ntmps, .row 0 e k xs)]⟩ { tmps := (v :: vs).toArray ++ Array.replicate (fn.ntmps - (v :: vs).toArray.size) undef, defers := [] } w := by
    refine ⟨fun _ => v, rfl, ?_, rfl, rfl, rfl, Nat.le_refl _, fun _ _ _ => rfl, fun t u ht => ?_, fun id o h => ?_, fun i j oi oj b h h2 => ?_, fun i oi b h h2 => ⟨.inl ((hM b).2 h2), (hv b h2).1⟩, fun i x o h => ?_⟩
    · simp only [Array.size_append, List.size_toArray, Array.size_replicate, List.length_cons]
      rw [hvs.1]
      show args.length + 1 + (fn.ntmps - (args.length + 1)) = fn.ntmps
      omega
    · rw [get?_cons] at ht
      by_cases e0 : 0 = t
      · subst e0
        rw [if_pos rfl] at ht
        cases ht
        refine ⟨v, by rw [Array.getElem?_append_left (by simp)]; simp, fun g' e2 k2 xs2 hO => ?_⟩
        rw [get?_cons, if_pos rfl] at hO
        cases hO
        exact ⟨Nat.le_refl _, fun _ => rfl⟩
      · rw [if_neg e0] at ht
        obtain ⟨j, h1, h2, h3⟩ := entry_get args 1 t u ht
        have hj : j < vs.length := by rw [hvs.1]; exact h2
        have ht' : t = j + 1 := by omega
        subst ht'
        refine ⟨vs[j], ?_, ?_⟩
        · rw [Array.getElem?_append_left (by simpa using hj)]
          simp [hj]
        · have := (hvs.2 j hj h2).keep (w' := w) fun b hb => ⟨hdat b hb, rfl⟩
          rw [← h3]
          cases e : args[j] with
          | d c => rw [e] at this; exact this
          | g cs => rw [e] at this; exact this
    · rw [get?_cons] at h
      by_cases e0 : fn.ntmps = id
      · rw [if_pos e0] at h
        cases h
        exact hRO.row rfl hdat
      · rw [if_neg e0] at h; simp [get?] at h
    · rw [get?_cons] at h h2
      by_cases e1 : fn.ntmps = i
      · by_cases e2 : fn.ntmps = j
        · intros; omega
        · rw [if_neg e2] at h2; simp [get?] at h2
      · rw [if_neg e1] at h; simp [get?] at h
    · intro _ _
      cases i with
      | zero => simp [C] at h; exact h
      | succ i => simp [C] at h
  refine Code.wp_mono ?_ (h w S v _ w hst)
  rintro ee a' w' ⟨σ, h1, β, hi⟩
  have hfin : (∃ t g, rs = [.tmp t] ∧ get? σ.env t = some (.r fn.ntmps g) ∧ get? σ.objs fn.ntmps = some (.row g e k ys)) → a'.defers = [] ∧ ∃ v1, (results fn a'.tmps).run P w' = .ok v1 w' ∧ ∃ u, Ending.returned v1 = .returned u ∧ w'.os = w.os ∧ w'.tape = w.tape ∧ w'.output = w.output ∧ w.heap.size ≤ w'.heap.size ∧ (∀ b, b < w.heap.size → blk v ≠ some b → w'.heap[b]? = w.heap[b]?) ∧ (∀ b, blk u = some b → (blk v = some b ∨ w.heap.size ≤ b) ∧ b < w'.heap.size) ∧ RO (fun b => ((S b ∨ w.heap.size ≤ b ∨ blk v = some b) ∧ b < w'.heap.size) ∧ blk u ≠ some b) w' (fun _ => u) [] 0 (.row 0 e k ys) := by
    rintro ⟨t, g, q1, q2, q3⟩
    obtain ⟨u, p1, p2⟩ := hi.env _ _ q2
    have p3 := (p2 _ _ _ _ q3).2 rfl
    refine ⟨hi.defs, u, ?_, u, rfl, hi.os, hi.tape, hi.output, hi.size, fun b hb hne => hi.fr b hb (fun h => hne ((hM b).1 h)), fun b hb => ?_, ?_⟩
    · rw [results_eq, hrs, q1]
      simp [resM, Array.getD_eq_getD_getElem?, p1]
    · have := hi.own _ _ b q3 (by rw [← p3]; exact hb)
      refine ⟨?_, this.2⟩
      rcases this.1 with h | h
      · exact .inl ((hM b).1 h)
      · exact .inr h
    · refine (hi.obj _ _ q3).row p3 fun b hb => ⟨⟨?_, hb.2.1⟩, by rw [p3]; exact hb.2.2 _ _ q3⟩
      rcases hb.1 with h | h | h
      · exact .inl h
      · exact .inr (.inl h)
      · exact .inr (.inr ((hM b).1 h))
  cases ee with
  | ret => exact hfin h1
  | normal => exact hfin h1
  | _ => exact h1.elim
end
end Go.Proofs.YtfijmpmojhlnmaaGreatDoor
