/-
  Functions, told by plain data: from arguments to results. No program in sight.
-/
import Derived.Test.YtfijmpmojhlnmaaGreatDoorRuleE
namespace Go.Proofs.YtfijmpmojhlnmaaGreatDoor
open Go.RowKit
def DV.av : DV → AV
  | .d c => .d c
  | .g cs => .g cs
/-- A value is what a datum says, or says it knowing of nil slices that they are nil. -/
def argOK : AV → DV → Prop
  | .d c, .d c' => c' = c ∨ c' = c.fg
  | .g cs, .g cs' => cs' = cs ∨ cs' = cs.map D.fg
  | _, _ => False
theorem argOK.out {S : Nat → Prop} {w : World} {β : Nat → Value} {O : List (Nat × AO)} {u : Value} {v : AV} {x : DV} (h : argOK v x) (hu : RA S w β O u v) : RV S w u x := by
  cases v with
  | d c =>
    cases x with
    | d c' => rcases h with h | h
              · subst h; exact hu
              · subst h; exact RD.fg hu
    | g => exact h.elim
  | g cs =>
    cases x with
    | g cs' =>
      obtain ⟨us, h1, h2⟩ := hu
      rcases h with h | h
      · subst h; exact ⟨us, h1, h2⟩
      · subst h; exact ⟨us, h1, h2.fg⟩
    | d => exact h.elim
  | _ => exact h.elim
def argsOK (σ : AS) : List Operand → List DV → Prop
  | [], [] => True
  | x :: xs, d :: ds => argOK (ev σ x) d ∧ argsOK σ xs ds
  | _, _ => False
def RVs (S : Nat → Prop) (w : World) (us : List Value) (ds : List DV) : Prop := us.length = ds.length ∧ ∀ i (h : i < us.length) (h' : i < ds.length), RV S w us[i] ds[i]
/-- What comes of a call: the datum of each result. -/
def resAV : List DV → AV
  | [x] => x.av
  | xs => .t xs
theorem resAV_sound {S : Nat → Prop} {w : World} {β : Nat → Value} {O : List (Nat × AO)} {u : Value} {xs : List DV} (h : RA S w (fun _ => undef) [] u (resAV xs)) : RA S w β O u (resAV xs) := by
  match xs, h with
  | [.d c], h => exact h
  | [.g cs], h => exact h
  | [], h => exact h
  | _ :: _ :: _, h => exact h
/-- The function f, called with these data, answers those; it changes nothing that was there. -/
structure Fn (P : Program) (f : FuncId) (args : List DV) (res : List DV) : Prop where
  body : ∃ fn, P.funcs[f]? = some fn ∧ fn.body.isNone = false ∧ (fn.name == "runtime.NumGoroutine") = false
  run : ∀ (S : Nat → Prop) (w : World) (vs : List Value), (∀ b, S b → b < w.heap.size) → RVs S w vs args →
    Calls P f vs.toArray w fun e w' => ∃ v, e = .returned v ∧ Ext w w' ∧ RA (fun b => (S b ∨ w.heap.size ≤ b) ∧ b < w'.heap.size) w' (fun _ => undef) [] v (resAV res)
section
variable {P : Program} {C : Cx} {o : Oper} {σ : AS}
theorem argsOK_out {σ' : AS} {β : Nat → Value} {a : Act} {w : World} (hi : Inv C σ' β a w) : ∀ {xs : List Operand} {ds : List DV}, (∀ x ∈ xs, RA (Dat C β σ'.objs w) w β σ'.objs (a.eval x) (ev σ x)) → argsOK σ xs ds → RVs (Dat C β σ'.objs w) w (xs.map a.eval) ds
  | [], [], _, _ => ⟨rfl, fun i h => absurd h (by simp)⟩
  | x :: xs, d :: ds, he, ⟨h1, h2⟩ => by
    obtain ⟨h3, h4⟩ := argsOK_out hi (fun y hy => he y (by simp [hy])) h2
    refine ⟨by simpa using h3, fun i h h' => ?_⟩
    cases i with
    | zero =>
      exact h1.out (he x (by simp))
    | succ i => exact h4 i (by simpa using h) (by simpa using h')
  | [], _ :: _, _, h => h.elim
  | _ :: _, [], _, h => h.elim
theorem Fn.exec {f : FuncId} {args res : List DV} {a : Act} {w : World} {xs : Array Operand} {ts : Array TypeId} (hF : Fn P f args res) (ho : o.op = .call { callee := .value (.func f), args := xs, argTypes := ts }) : (execOp a.eval o).run P w = .ok (.enter f (xs.toList.map a.eval).toArray) w := by
  obtain ⟨fn, h1, h2, h3⟩ := hF.body
  unfold execOp
  rw [ho]
  have he : a.eval (.func f) = .func (.func f) #[] #[] := rfl
  have h2' : fn.body ≠ none := by
    intro h
    rw [h] at h2
    cases h2
  have h3' : fn.name ≠ "runtime.NumGoroutine" := by simpa using h3
  obtain ⟨l⟩ := xs
  simp [resolve, he, Deferred.ofValue, invoke, callFunc, h1, h2', h3']
theorem Loc.call {f : FuncId} {args res : List DV} {xs : Array Operand} {ts : Array TypeId} (hF : Fn P f args res) (ho : o.op = .call { callee := .value (.func f), args := xs, argTypes := ts }) (ha : argsOK σ xs.toList args) : Loc P C o σ (resAV res) := by
  intro σ' hl hd a w K Q' ⟨β, hi⟩ hk
  unfold Oper.wp
  rw [hF.exec ho]
  have hmem : ∀ x ∈ xs.toList, RA (Dat C β σ'.objs w) w β σ'.objs (a.eval x) (ev σ x) := fun x hx => hl.ra hi (by rw [ho]; simp only [Op.operands, Call.operands]; simp at hx ⊢; exact .inr hx)
  have h1 := argsOK_out (σ := σ) hi hmem ha
  refine (hF.run _ w _ (fun b hb => hb.2.1) h1).mono fun e w' ⟨v, he, hx, hv⟩ => ?_
  subst he
  have hfin := (hi.ext hx).put _ (dstOK.out hd) (resAV_sound (xs := res) (RA.same (w' := w') hv fun b hb => ⟨⟨by
    rcases hb.1 with h | h
    · exact h.1
    · exact .inr (.inl (Nat.le_trans hi.size h)), hb.2, fun id o' hid hbl => by
    rcases hb.1 with h | h
    · exact h.2.2 id o' hid hbl
    · have := (hi.own id o' b hid hbl).2; omega⟩, rfl⟩))
  refine hk _ _ ⟨β, ?_⟩
  cases e : o.dst with
  | none => rw [e] at hfin; exact hfin
  | some d => rw [e] at hfin; exact hfin

theorem Loc.callD {f : FuncId} {args : List DV} {c : D} {xs : Array Operand} {ts : Array TypeId} (hF : Fn P f args [.d c]) (ho : o.op = .call { callee := .value (.func f), args := xs, argTypes := ts }) (ha : argsOK σ xs.toList args) : Loc P C o σ (.d c) := Loc.call hF ho ha
theorem Loc.callG {f : FuncId} {args : List DV} {cs : List D} {xs : Array Operand} {ts : Array TypeId} (hF : Fn P f args [.g cs]) (ho : o.op = .call { callee := .value (.func f), args := xs, argTypes := ts }) (ha : argsOK σ xs.toList args) : Loc P C o σ (.g cs) := Loc.call hF ho ha
theorem Loc.callT {f : FuncId} {args : List DV} {x y : DV} {l : List DV} {xs : Array Operand} {ts : Array TypeId} (hF : Fn P f args (x :: y :: l)) (ho : o.op = .call { callee := .value (.func f), args := xs, argTypes := ts }) (ha : argsOK σ xs.toList args) : Loc P C o σ (.t (x :: y :: l)) := Loc.call hF ho ha
/-! ### a function's beginning and end -/
def entry : Nat → List DV → List (Nat × AV)
  | _, [] => []
  | i, x :: r => (i, x.av) :: entry (i + 1) r
theorem entry_get : ∀ (xs : List DV) (i t : Nat) (v : AV), get? (entry i xs) t = some v → ∃ j, t = i + j ∧ ∃ h : j < xs.length, xs[j].av = v
  | [], i, t, v, h => by simp [entry, get?] at h
  | x :: r, i, t, v, h => by
    rw [entry, get?_cons] at h
    by_cases e : i = t
    · rw [if_pos e] at h
      injection h with h
      exact ⟨0, by omega, by simp, h⟩
    · rw [if_neg e] at h
      obtain ⟨j, h1, h2, h3⟩ := entry_get r (i + 1) t v h
      exact ⟨j + 1, by omega, by simpa using h2, by simpa using h3⟩
/-- What is known of a cell, as a datum that stays when the call is over. -/
def cellD (O : List (Nat × AO)) : AV → D → Prop
  | .d c, c' => c' = c ∨ c' = c.fg
  | .r id g, .l xs => ∃ e k, get? O id = some (.row g e k xs)
  | _, _ => False
def cellsD (O : List (Nat × AO)) : List AV → List D → Prop
  | [], [] => True
  | v :: vs, d :: ds => cellD O v d ∧ cellsD O vs ds
  | _, _ => False
/-- What a result's place holds. -/
inductive ResIs (P : Program) (σ : AS) : ResultVar → DV → Prop
  | d {t : Nat} {v : AV} {c : D} (h : get? σ.env t = some v) (hc : cellD σ.objs v c) : ResIs P σ (.tmp t) (.d c)
  | g {t : Nat} {cs cs' : List D} (h : get? σ.env t = some (.g cs)) (hc : cs' = cs ∨ cs' = cs.map D.fg) : ResIs P σ (.tmp t) (.g cs')
  | c1 {t T id : Nat} {T' : TypeId} {v : AV} {cs : List AV} {c : D} {n : Nat} (h : get? σ.env t = some (.p id 0)) (hO : get? σ.objs id = some (.box T' (v :: cs))) (hS : Sz P T false n) (hc : cellD σ.objs v c) : ResIs P σ (.cell t T) (.d c)
  | cn {t T id : Nat} {T' : TypeId} {cs : List AV} {ds : List D} {n : Nat} (h : get? σ.env t = some (.p id 0)) (hO : get? σ.objs id = some (.box T' cs)) (hS : Sz P T true n) (hn : cs.length = n) (hc : cellsD σ.objs cs ds) : ResIs P σ (.cell t T) (.g ds)
def ressOK (P : Program) (σ : AS) : List ResultVar → List DV → Prop
  | [], [] => True
  | r :: rs, d :: ds => ResIs P σ r d ∧ ressOK P σ rs ds
  | _, _ => False
/-- All that a call may hand out. -/
def Ours (C : Cx) (w : World) : Nat → Prop := fun b => (C.S0 b ∨ C.w0.heap.size ≤ b ∨ C.M b) ∧ b < w.heap.size
theorem row_RD {S S' : Nat → Prop} {w : World} {β : Nat → Value} {O : List (Nat × AO)} {id g : Nat} {e : TypeId} {k : Nat} {xs : List (List D)} (h : RO S w β O id (.row g e k xs)) (hs : ∀ b, S b → S' b) (hb : ∀ b, blk (β id) = some b → S' b) : RD S' w (β id) (.l xs) := by
  obtain ⟨css, h1, h2, h3, hown⟩ := h
  obtain ⟨_, ad, c, hv, hc, hm⟩ := row_shape hown
  rw [hv]
  refine RD.ofCells rfl hc hm h1 (fun i h => h3 _ (List.getElem_mem h)) (fun i h h' => (h2 i h h').mono hs) fun hp => ?_
  rcases hown.2 with ⟨h0, h5⟩ | ⟨gb, cap, cur, hv', _, _, _⟩
  · omega
  · rw [hv] at hv'
    injection hv' with e1 e2 e3
    subst e1
    refine ⟨gb, 0, rfl, hb gb (by rw [hv]; rfl), fun i hi => ?_⟩
    have := row_range h1 h2 h3 hown hv i hi
    rwa [Nat.zero_add]
theorem cellD.out {β : Nat → Value} {a : Act} {w : World} (hi : Inv C σ β a w) {u : Value} {v : AV} {c : D} (h : cellD σ.objs v c) (hu : RA (Dat C β σ.objs w) w β σ.objs u v) : RD (Ours C w) w u c := by
  have hS : ∀ b, Dat C β σ.objs w b → Ours C w b := fun b hb => ⟨hb.1, hb.2.1⟩
  cases v with
  | d c0 =>
    have hu : RD _ w u c0 := hu
    have h : c = c0 ∨ c = c0.fg := by cases c <;> exact h
    rcases h with h | h
    · subst h; exact hu.mono hS
    · subst h; exact hu.fg.mono hS
  | r id g =>
    cases c with
    | l xs =>
      obtain ⟨e, k, hO⟩ := h
      rw [(hu g e k xs hO).2 rfl]
      exact row_RD (hi.obj id _ hO) hS fun b hb => by
        have := hi.own id _ b hO hb
        exact ⟨by rcases this.1 with h | h; exact .inr (.inr h); exact .inr (.inl h), this.2⟩
    | _ => exact h.elim
  | _ => cases c <;> exact h.elim
theorem cellsD.out {β : Nat → Value} {a : Act} {w : World} (hi : Inv C σ β a w) : ∀ {us : List Value} {vs : List AV} {ds : List D}, cellsD σ.objs vs ds → us.length = vs.length → (∀ i (h : i < us.length) (h' : i < vs.length), RA (Dat C β σ.objs w) w β σ.objs us[i] vs[i]) → RDs (Ours C w) w us ds
  | [], [], [], _, _, _ => .nil
  | u :: us, v :: vs, d :: ds, ⟨h1, h2⟩, hl, hr => .cons (h1.out hi (hr 0 (by simp) (by simp))) (cellsD.out hi h2 (by simpa using hl) fun i h h' => hr (i + 1) (by simpa using h) (by simpa using h'))
  | [], _ :: _, _, _, h, _ => by simp at h
  | _ :: _, [], _, _, h, _ => by simp at h
  | _, [], _ :: _, h, _, _ => h.elim
  | _, _ :: _, [], h, _, _ => h.elim
def resM (tmps : Array Value) (r : ResultVar) : Sem Value := match r with
  | .tmp t => pure (tmps.getD t undef)
  | .cell ad t => do loadVar t (← asAddr (tmps.getD ad undef))
theorem results_eq (fn : Func) (tmps : Array Value) : results fn tmps = (do
    let vs ← fn.results.mapM (resM tmps)
    pure (if h : vs.size = 1 then vs[0] else .tuple vs)) := rfl
theorem ResIs.out {β : Nat → Value} {a : Act} {w : World} (hi : Inv C σ β a w) {r : ResultVar} {x : DV} (h : ResIs P σ r x) :
    ∃ u, Sem.run P (resM a.tmps r) w = .ok u w ∧ RV (Ours C w) w u x := by
  have hS : ∀ b, Dat C β σ.objs w b → Ours C w b := fun b hb => ⟨hb.1, hb.2.1⟩
  cases h with
  | d h hc =>
    obtain ⟨u, h1, h2⟩ := hi.env _ _ h
    exact ⟨u, by simp [resM, Array.getD_eq_getD_getElem?, h1], hc.out hi h2⟩
  | g h hc =>
    obtain ⟨u, h1, us, h2, h3⟩ := hi.env _ _ h
    refine ⟨u, by simp [resM, Array.getD_eq_getD_getElem?, h1], us, h2, ?_⟩
    rcases hc with hc | hc
    · subst hc; exact h3.mono hS
    · subst hc; exact h3.fg.mono hS
  | @c1 t T id T' v cs c n h hO hSz hc =>
    obtain ⟨u, h1, h2⟩ := hi.env _ _ h
    obtain ⟨b, hb, hu⟩ := h2 _ _ hO
    obtain ⟨b', us, hb', hh, hlen, hone, hr⟩ := hi.obj id _ hO
    rw [hb] at hb'
    cases hb'
    have hlt : 0 < us.length := by rw [hlen]; simp
    obtain ⟨d, hd1, hd2⟩ := hSz.u
    have hl := run_loadAt_one (P := P) hd1 hd2 b 0 us[0] w (by simp [World.cell?, hh, hlt])
    refine ⟨us[0], ?_, hc.out hi (hr 0 hlt (by simp))⟩
    simp only [Instr.loadAt, Instr.sureAddr, Sem.run_bind, Sem.run_pure, Result.andThen_ok] at hl
    simp [resM, Array.getD_eq_getD_getElem?, h1, hu, asAddr, hl]
  | @cn t T id T' cs ds n h hO hSz hn hc =>
    obtain ⟨u, h1, h2⟩ := hi.env _ _ h
    obtain ⟨b, hb, hu⟩ := h2 _ _ hO
    obtain ⟨b', us, hb', hh, hlen, hone, hr⟩ := hi.obj id _ hO
    rw [hb] at hb'
    cases hb'
    obtain ⟨d, hd1, hd2⟩ := hSz.u
    have hrg : w.rangeAt b 0 us := by
      have := box_range hh 0 us.length
      simpa using this
    have hl := run_loadVar_mid (P := P) w b 0 T us d hrg hd1 hd2 (by rw [hSz.s, ← hn, hlen])
    refine ⟨.agg us.toArray, ?_, us, rfl, cellsD.out hi hc hlen hr⟩
    simp [resM, Array.getD_eq_getD_getElem?, h1, hu, asAddr, hl]
theorem ress_run {β : Nat → Value} {a : Act} {w : World} (hi : Inv C σ β a w) : ∀ {rs : List ResultVar} {ds : List DV}, ressOK P σ rs ds → ∃ us : List Value, Sem.run P (rs.mapM (resM a.tmps)) w = .ok us w ∧ us.length = ds.length ∧ ∀ i (h : i < us.length) (h' : i < ds.length), RV (Ours C w) w us[i] ds[i]
  | [], [], _ => ⟨[], by simp, rfl, fun i h => absurd h (by simp)⟩
  | r :: rs, d :: ds, ⟨h1, h2⟩ => by
    obtain ⟨u, q1, q2⟩ := h1.out hi
    obtain ⟨us, r1, r2, r3⟩ := ress_run hi h2
    refine ⟨u :: us, ?_, by simp [r2], fun i h h' => ?_⟩
    · simp only [List.mapM_cons, Sem.run_bind, q1, r1, Result.andThen_ok]
      rfl
    · cases i with
      | zero => exact q2
      | succ i => exact r3 i (by simpa using h) (by simpa using h')
  | [], _ :: _, h => h.elim
  | _ :: _, [], h => h.elim
/-- The end of a body. -/
def Ret (P : Program) (rs : List ResultVar) (res : List DV) : Exit → AS → Prop
  | .ret, σ => ressOK P σ rs res
  | .normal, σ => ressOK P σ rs res
  | _, _ => False
theorem Ret.run {fn : Func} {res : List DV} {β : Nat → Value} {a : Act} {w : World} (hi : Inv C σ β a w) (h : ressOK P σ fn.results.toList res) : ∃ v, (results fn a.tmps).run P w = .ok v w ∧ RA (Ours C w) w (fun _ => undef) [] v (resAV res) := by
  obtain ⟨us, h1, h2, h3⟩ := ress_run hi h
  have hm : Sem.run P (fn.results.mapM (resM a.tmps)) w = .ok us.toArray w := by
    rw [Array.mapM_eq_mapM_toList]
    simp only [Sem.run_map, h1, Result.andThen_ok]
  match us, res, h2, h3 with
  | [u], [x], _, h3 =>
    refine ⟨u, ?_, ?_⟩
    · rw [results_eq, Sem.run_bind, hm]
      rfl
    · have := h3 0 (by simp) (by simp)
      cases x <;> exact this
  | [], [], _, h3 => exact ⟨.tuple #[], by rw [results_eq, Sem.run_bind, hm]; rfl, [], rfl, rfl, h3⟩
  | u1 :: u2 :: us, x1 :: x2 :: xs, h2, h3 =>
    refine ⟨.tuple (u1 :: u2 :: us).toArray, ?_, _, rfl, h2, h3⟩
    rw [results_eq, Sem.run_bind, hm]
    simp
theorem Fn.of {f : FuncId} {fn : Func} {c : Code} {args res : List DV} {nt : Nat} {rs : List ResultVar} (hf : P.funcs[f]? = some fn) (hb : fn.body = some c) (hname : (fn.name == "runtime.NumGoroutine") = false) (hntm : fn.ntmps = nt) (hrs : fn.results = rs.toArray) (hnt : Nat.ble args.length nt = true)
    (h : ∀ w0 S0, AC P ⟨w0, S0, [], nt⟩ c (Ret P rs res) ⟨entry 0 args, []⟩) : Fn P f args res := by
  subst hntm
  rw [Nat.ble_eq] at hnt
  have hrs' : fn.results.toList = rs := by rw [hrs]
  refine ⟨⟨fn, hf, by rw [hb]; rfl, hname⟩, fun S w vs hS hvs => ?_⟩
  refine calls_of_wp hf hb ?_
  let C : Cx := ⟨w, S, [], fn.ntmps⟩
  have hst : St C ⟨entry 0 args, []⟩ { tmps := vs.toArray ++ Array.replicate (fn.ntmps - vs.toArray.size) undef, defers := [] } w := by
    refine ⟨fun _ => undef, rfl, ?_, rfl, rfl, rfl, Nat.le_refl _, fun _ _ _ => rfl, fun t v ht => ?_, fun id o h => by simp [get?] at h, fun i j oi oj b h => by simp [get?] at h, fun i oi b h => by simp [get?] at h, fun i x o h => by simp [C] at h⟩
    · simp only [Array.size_append, List.size_toArray, Array.size_replicate]
      rw [hvs.1]
      show args.length + (fn.ntmps - args.length) = fn.ntmps
      omega
    · obtain ⟨j, h1, h2, h3⟩ := entry_get args 0 t v ht
      have hj : j < vs.length := by rw [hvs.1]; exact h2
      have ht' : t = j := by omega
      subst ht'
      refine ⟨vs[t], ?_, ?_⟩
      · rw [Array.getElem?_append_left (by simpa using hj)]
        simp [hj]
      · have := (hvs.2 t hj h2).keep (S' := Dat C (fun _ => undef) [] w) (w' := w) fun b hb => ⟨⟨.inl hb, hS b hb, fun id o h => by simp [get?] at h⟩, rfl⟩
        rw [← h3]
        cases e : args[t] with
        | d c => rw [e] at this; exact this
        | g cs => rw [e] at this; exact this
  refine Code.wp_mono ?_ (h w S _ w hst)
  rintro e a' w' ⟨σ, h1, β, hi⟩
  have hfin : ressOK P σ rs res → a'.defers = [] ∧ ∃ v, (results fn a'.tmps).run P w' = .ok v w' ∧ ∃ v', Ending.returned v = .returned v' ∧ Ext w w' ∧ RA (fun b => (S b ∨ w.heap.size ≤ b) ∧ b < w'.heap.size) w' (fun _ => undef) [] v' (resAV res) := fun hr => by
    obtain ⟨v, q1, q2⟩ := Ret.run hi (hrs' ▸ hr : ressOK P σ fn.results.toList res)
    refine ⟨hi.defs, v, q1, v, rfl, ⟨hi.os, hi.tape, hi.output, hi.size, fun k hk => hi.fr k hk (by rintro ⟨_, h, _⟩; cases h)⟩, RA.same (w := w') q2 fun b hb => ⟨⟨?_, hb.2⟩, rfl⟩⟩
    rcases hb.1 with h | h | h
    · exact .inl h
    · exact .inr h
    · obtain ⟨_, h, _⟩ := h; cases h
  cases e with
  | ret => exact hfin h1
  | normal => exact hfin h1
  | _ => exact h1.elim
/-! ### a nil slice as a row of its own -/
theorem Inv.nilRow {β : Nat → Value} {a : Act} {w : World} (h : Inv C σ β a w) (id : Nat) (hid : id < C.nt) (hn : NoRef σ id) (e k : Nat) : Inv C ⟨σ.env, (id, .row 0 e k []) :: σ.objs⟩ (bset β id (.slice none 0 0)) a w :=
  h.fresh id hid hn (.row 0 e k []) (Below.refl _ _) _ (fun b hb => by cases hb) fun _ => ⟨[], rfl, fun i h => absurd h (by simp), by simp, by simpa [bset] using World.ownsRow_nil w 0 e k⟩
def idOK (C : Cx) (σ : AS) (id : Nat) : Bool := Nat.blt id C.nt && noRef σ id
theorem idOK.out {id : Nat} (h : idOK C σ id = true) : id < C.nt ∧ NoRef σ id := by
  unfold idOK at h
  rw [Bool.and_eq_true] at h
  exact ⟨by have := h.1; rw [Nat.blt_eq] at this; exact this, noRef.out h.2⟩
theorem AC.rowVar {c : Code} {Q : Exit → AS → Prop} (t id e k : Nat) (ht : get? σ.env t = some (.d .n)) (hn : idOK C σ id = true) (h : AC P C c Q ⟨(t, .r id 0) :: σ.env, (id, .row 0 e k []) :: σ.objs⟩) : AC P C c Q σ := fun a w hs => by
  obtain ⟨β, hi⟩ := hs
  refine h a w ⟨bset β id (.slice none 0 0), ?_⟩
  have h1 := hi.nilRow id (idOK.out hn).1 (idOK.out hn).2 e k
  refine ⟨h1.defs, h1.nt, h1.os, h1.tape, h1.output, h1.size, h1.fr, fun t' v hv => ?_, h1.obj, h1.dis, h1.own, h1.pin⟩
  rw [get?_cons] at hv
  by_cases e' : t = t'
  · subst e'
    rw [if_pos rfl] at hv
    injection hv with hv
    subst hv
    obtain ⟨u, q1, q2⟩ := hi.env t _ ht
    refine ⟨u, q1, fun g' e2 k2 xs hO => ?_⟩
    rw [get?_cons, if_pos rfl] at hO
    cases hO
    refine ⟨Nat.le_refl _, fun _ => ?_⟩
    cases q2
    simp [bset]
  · rw [if_neg e'] at hv
    exact h1.env t' v hv
theorem AC.rowBox {c : Code} {Q : Exit → AS → Prop} (id0 off id e k : Nat) {T : TypeId} {cs : List AV} (hO : get? σ.objs id0 = some (.box T cs)) (hc : cs[off]? = some (.d .n)) (hn : idOK C σ id = true) (h : AC P C c Q ⟨σ.env, (id0, .box T (cs.set off (.r id 0))) :: (id, .row 0 e k []) :: σ.objs⟩) : AC P C c Q σ := fun a w hs => by
  obtain ⟨β, hi⟩ := hs
  have hn' := (idOK.out hn).2
  have h1 := hi.nilRow id (idOK.out hn).1 hn' e k
  have hne : id0 ≠ id := (hn'.obj id0 _ hO).1
  have hO1 : get? ((id, AO.row 0 e k []) :: σ.objs) id0 = some (.box T cs) := by rw [get?_cons, if_neg (Ne.symm hne)]; exact hO
  refine h a w ⟨_, h1.upd (w' := w) id0 (.box T cs) (.box T (cs.set off (.r id 0))) hO1 (bset β id (.slice none 0 0) id0) rfl rfl rfl (Nat.le_refl _) (fun _ _ _ => rfl) (fun b hb => ⟨.inl hb, (h1.own id0 _ b hO1 hb).2⟩) rfl fun hD hA => ?_⟩
  obtain ⟨b, us, q1, q2, q3, q4, q5⟩ := h1.obj id0 _ hO1
  refine ⟨b, us, by simpa [bset] using q1, q2, by simpa using q3, q4, fun i hi1 hi2 => ?_⟩
  have hi3 : i < cs.length := by simpa using hi2
  by_cases e' : off = i
  · subst e'
    have hcs : cs[off] = .d .n := by
      rw [List.getElem?_eq_getElem hi3] at hc
      injection hc
    have := q5 off hi1 hi3
    rw [hcs] at this
    simp only [List.getElem_set_self]
    intro g' e2 k2 xs hO2
    rw [get?_cons, if_neg hne, get?_cons, if_pos rfl] at hO2
    cases hO2
    refine ⟨Nat.le_refl _, fun _ => ?_⟩
    generalize us[off] = u at this
    cases this
    simp [bset, Ne.symm hne]
  · rw [List.getElem_set_ne e']
    exact hA (q5 i hi1 hi3)
/-! ### a row of its own that is written no more -/
/-- The block is given up: it is data from here on. -/
theorem Inv.kill {β : Nat → Value} {a : Act} {w : World} (h : Inv C σ β a w) (id : Nat) : Inv C ⟨σ.env, (id, .dead) :: σ.objs⟩ (bset β id undef) a w ∧ (∀ b, Dat C β σ.objs w b → Dat C (bset β id undef) ((id, .dead) :: σ.objs) w b) ∧ (∀ o b, get? σ.objs id = some o → blk (β id) = some b → Dat C (bset β id undef) ((id, .dead) :: σ.objs) w b) := by
  have hsub : ∀ i o, get? ((id, AO.dead) :: σ.objs) i = some o → (i = id ∧ o = .dead) ∨ (i ≠ id ∧ get? σ.objs i = some o) := fun i o hi => by
    rw [get?_cons] at hi
    by_cases e : id = i
    · rw [if_pos e] at hi; injection hi with hi; exact .inl ⟨e.symm, hi.symm⟩
    · rw [if_neg e] at hi; exact .inr ⟨Ne.symm e, hi⟩
  have hbe : ∀ i, i ≠ id → bset β id undef i = β i := fun i hi => by simp [bset, hi]
  have hbi : bset β id undef id = undef := by simp [bset]
  have hD : ∀ b, Dat C β σ.objs w b → Dat C (bset β id undef) ((id, .dead) :: σ.objs) w b ∧ w.heap[b]? = w.heap[b]? := fun b hb => ⟨⟨hb.1, hb.2.1, fun i o hi => by
    rcases hsub i o hi with ⟨e, _⟩ | ⟨e, h2⟩
    · subst e; rw [hbi]; simp [blk, undef]
    · rw [hbe i e]; exact hb.2.2 i o h2⟩, rfl⟩
  have hA : ∀ {u : Value} {x : AV}, RA (Dat C β σ.objs w) w β σ.objs u x → RA (Dat C (bset β id undef) ((id, .dead) :: σ.objs) w) w (bset β id undef) ((id, .dead) :: σ.objs) u x := fun h =>
    h.keep hD (fun i T cs hi => by
      rcases hsub i _ hi with ⟨_, h2⟩ | ⟨e, h2⟩
      · cases h2
      · exact ⟨⟨T, cs, h2⟩, hbe i e⟩) (fun i g e k xs hi => by
      rcases hsub i _ hi with ⟨_, h2⟩ | ⟨e', h2⟩
      · cases h2
      · exact ⟨g, e, k, xs, h2, Nat.le_refl _, fun _ => ⟨rfl, hbe i e'⟩⟩)
  refine ⟨⟨h.defs, h.nt, h.os, h.tape, h.output, h.size, h.fr, fun t v ht => ?_, fun i o hi => ?_, fun i j oi oj b h1 h2 h3 h4 => ?_, fun i oi b h1 h3 => ?_, fun i x o h1 h2 h3 => ?_⟩, fun b hb => (hD b hb).1, fun o b ho hb => ?_⟩
  · obtain ⟨u, h1, h2⟩ := h.env t v ht
    exact ⟨u, h1, hA h2⟩
  · rcases hsub i o hi with ⟨_, h2⟩ | ⟨e, h2⟩
    · subst h2; trivial
    · have := h.obj i o h2
      cases o with
      | box T cs =>
        obtain ⟨b, us, h1, h2, h3, h4, h5⟩ := this
        exact ⟨b, us, by rw [hbe i e]; exact h1, h2, h3, h4, fun i h h' => hA (h5 i h h')⟩
      | row g e2 k xs =>
        obtain ⟨css, h1, h2, h3, h4⟩ := this
        exact ⟨css, h1, fun i h h' => (h2 i h h').mono fun b hb => (hD b hb).1, h3, by rw [hbe i e]; exact h4⟩
      | dead => trivial
      | own x R => exact ⟨by rw [hbe i e]; exact this.1, this.2.2 _ _ _ _ this.2.1 hD fun b _ => rfl, this.2.2⟩
  · rcases hsub i oi h1 with ⟨e, _⟩ | ⟨e, h1⟩
    · subst e; rw [hbi] at h3; simp [blk, undef] at h3
    · rcases hsub j oj h2 with ⟨e2, _⟩ | ⟨e2, h2⟩
      · subst e2; rw [hbi] at h4; simp [blk, undef] at h4
      · rw [hbe i e] at h3; rw [hbe j e2] at h4
        exact h.dis i j oi oj b h1 h2 h3 h4
  · rcases hsub i oi h1 with ⟨e, _⟩ | ⟨e, h1⟩
    · subst e; rw [hbi] at h3; simp [blk, undef] at h3
    · rw [hbe i e] at h3; exact h.own i oi b h1 h3
  · rcases hsub _ o h2 with ⟨_, e⟩ | ⟨e, h2⟩
    · subst e; cases h3
    · rw [hbe _ e]; exact h.pin i x o h1 h2 h3
  · have h1 := h.own id o b ho hb
    refine ⟨by rcases h1.1 with h | h; exact .inr (.inr h); exact .inr (.inl h), h1.2, fun i oi hi hbi2 => ?_⟩
    rcases hsub i oi hi with ⟨e, _⟩ | ⟨e, h2⟩
    · subst e; rw [hbi] at hbi2; simp [blk, undef] at hbi2
    · rw [hbe i e] at hbi2
      exact e (h.dis i id oi o b h2 ho hbi2 hb)
/-- The row that a slot holds is a list from here on. -/
theorem St.frzVar {a : Act} {w : World} (t : Nat) {id g : Nat} {e : TypeId} {k : Nat} {xs : List (List D)} (ht : get? σ.env t = some (.r id g)) (hO : get? σ.objs id = some (.row g e k xs)) (hs : St C σ a w) : St C ⟨(t, .d (.l xs)) :: σ.env, (id, AO.dead) :: σ.objs⟩ a w := by
  obtain ⟨β, hi⟩ := hs
  obtain ⟨h1, h2, h3⟩ := hi.kill id
  refine ⟨bset β id undef, h1.defs, h1.nt, h1.os, h1.tape, h1.output, h1.size, h1.fr, fun t' v hv => ?_, h1.obj, h1.dis, h1.own, h1.pin⟩
  rw [get?_cons] at hv
  by_cases e' : t = t'
  · subst e'
    rw [if_pos rfl] at hv
    injection hv with hv
    subst hv
    obtain ⟨u, q1, q2⟩ := hi.env t _ ht
    refine ⟨u, q1, ?_⟩
    rw [(q2 g e k xs hO).2 rfl]
    exact row_RD (hi.obj id _ hO) h2 (fun b hb => h3 _ b hO hb)
  · rw [if_neg e'] at hv
    exact h1.env t' v hv
/-- The row that a variable's cell holds is a list from here on. -/
theorem St.frzBox {a : Act} {w : World} (id0 off : Nat) {id g : Nat} {e : TypeId} {k : Nat} {xs : List (List D)} {T : TypeId} {cs : List AV} (hB : get? σ.objs id0 = some (.box T cs)) (hc : cs[off]? = some (.r id g)) (hO : get? σ.objs id = some (.row g e k xs)) (hs : St C σ a w) : St C ⟨σ.env, (id0, .box T (cs.set off (.d (.l xs)))) :: (id, AO.dead) :: σ.objs⟩ a w := by
  obtain ⟨β, hi⟩ := hs
  obtain ⟨h1, h2, h3⟩ := hi.kill id
  have hne : id0 ≠ id := fun e => by subst e; rw [hB] at hO; cases hO
  have hB1 : get? ((id, AO.dead) :: σ.objs) id0 = some (.box T cs) := by rw [get?_cons, if_neg (Ne.symm hne)]; exact hB
  refine ⟨_, h1.upd (w' := w) id0 (.box T cs) (.box T (cs.set off (.d (.l xs)))) hB1 (bset β id undef id0) rfl rfl rfl (Nat.le_refl _) (fun _ _ _ => rfl) (fun b hb => ⟨.inl hb, (h1.own id0 _ b hB1 hb).2⟩) rfl fun hD hA => ?_⟩
  obtain ⟨b, us, q1, q2, q3, q4, q5⟩ := hi.obj id0 _ hB
  obtain ⟨b1, us1, r1, r2, r3, r4, r5⟩ := h1.obj id0 _ hB1
  refine ⟨b1, us1, by simpa [bset] using r1, r2, by simpa using r3, r4, fun i hi1 hi2 => ?_⟩
  have hi3 : i < cs.length := by simpa using hi2
  have hus : us1 = us := by
    have hb0 : bset β id undef id0 = β id0 := by simp [bset, hne]
    rw [hb0, q1] at r1
    cases r1
    rw [q2] at r2
    injection r2 with r2
    injection r2 with r2
    have := congrArg Array.toList r2
    simpa using this.symm
  subst hus
  by_cases e' : off = i
  · subst e'
    have hcs : cs[off] = .r id g := by
      rw [List.getElem?_eq_getElem hi3] at hc
      injection hc
    have := q5 off hi1 hi3
    rw [hcs] at this
    simp only [List.getElem_set_self]
    rw [(this g e k xs hO).2 rfl]
    exact RD.mono (row_RD (hi.obj id _ hO) h2 (fun b hb => h3 _ b hO hb)) fun b hb => (hD b hb).1
  · rw [List.getElem_set_ne e']
    exact hA (r5 i hi1 hi3)
theorem Chain.frzVar {ops : Array Oper} {fin : List Inf → Prop} {K : AS → Prop} {rest : List Oper} (t : Nat) {id g : Nat} {e : TypeId} {k : Nat} {xs : List (List D)} (ht : get? σ.env t = some (.r id g)) (hO : get? σ.objs id = some (.row g e k xs)) (h : Chain P C ops fin K none rest ⟨(t, .d (.l xs)) :: σ.env, (id, AO.dead) :: σ.objs⟩) : Chain P C ops fin K none rest σ := .weak _ (fun _ _ hs => hs.frzVar t ht hO) h
theorem Chain.frzBox {ops : Array Oper} {fin : List Inf → Prop} {K : AS → Prop} {rest : List Oper} (id0 off : Nat) {id g : Nat} {e : TypeId} {k : Nat} {xs : List (List D)} {T : TypeId} {cs : List AV} (hB : get? σ.objs id0 = some (.box T cs)) (hc : cs[off]? = some (.r id g)) (hO : get? σ.objs id = some (.row g e k xs)) (h : Chain P C ops fin K none rest ⟨σ.env, (id0, .box T (cs.set off (.d (.l xs)))) :: (id, AO.dead) :: σ.objs⟩) : Chain P C ops fin K none rest σ := .weak _ (fun _ _ hs => hs.frzBox id0 off hB hc hO) h
theorem AC.frzVar {c : Code} {Q : Exit → AS → Prop} (t : Nat) {id g : Nat} {e : TypeId} {k : Nat} {xs : List (List D)} (ht : get? σ.env t = some (.r id g)) (hO : get? σ.objs id = some (.row g e k xs)) (h : AC P C c Q ⟨(t, .d (.l xs)) :: σ.env, (id, AO.dead) :: σ.objs⟩) : AC P C c Q σ := .weak _ (fun _ _ hs => hs.frzVar t ht hO) h
theorem AC.frzBox {c : Code} {Q : Exit → AS → Prop} (id0 off : Nat) {id g : Nat} {e : TypeId} {k : Nat} {xs : List (List D)} {T : TypeId} {cs : List AV} (hB : get? σ.objs id0 = some (.box T cs)) (hc : cs[off]? = some (.r id g)) (hO : get? σ.objs id = some (.row g e k xs)) (h : AC P C c Q ⟨σ.env, (id0, .box T (cs.set off (.d (.l xs)))) :: (id, AO.dead) :: σ.objs⟩) : AC P C c Q σ := .weak _ (fun _ _ hs => hs.frzBox id0 off hB hc hO) h
/-- .. in a region whose order is open: by the operation that takes it for a list. -/
theorem Do.frz {v : AV} {R X : List Nat} (t : Nat) {id g : Nat} {e : TypeId} {k : Nat} {xs : List (List D)} (ht : get? σ.env t = some (.r id g)) (hO : get? σ.objs id = some (.row g e k xs)) (hrd : t ∈ Oper.rd o) (hX : id ∉ X)
    (h : Do P C o ⟨(t, .d (.l xs)) :: σ.env, (id, .dead) :: σ.objs⟩ v ⟨R, X, [], none⟩) : Do P C o σ v ⟨id :: R, X, [(id, .dead)], none⟩ := by
  intro σ' hl hd a w K Q' hs hk
  have ht' : get? σ'.env t = some (.r id g) := by
    rcases hl.env t hrd _ ht with h | h
    · cases h
    · exact h
  have hO' : get? σ'.objs id = some (.row g e k xs) := by rw [hl.rd id (by simp)]; exact hO
  refine h _ ⟨fun t2 h2 v2 hv2 => ?_, fun i hi => ?_, fun i hi T cs hb => ?_, fun d hd => by cases hd⟩ hd a w K Q' (hs.frzVar t ht' hO') fun a' w' hs' => hk a' w' ?_
  · rw [get?_cons] at hv2 ⊢
    by_cases e' : t = t2
    · rw [if_pos e'] at hv2 ⊢; exact .inr hv2
    · rw [if_neg e'] at hv2 ⊢; exact hl.env t2 h2 v2 hv2
  · rw [get?_cons, get?_cons]
    by_cases e' : id = i
    · rw [if_pos e', if_pos e']
    · rw [if_neg e', if_neg e']; exact hl.rd i (by simp [hi])
  · rw [get?_cons] at hb ⊢
    have hne : id ≠ i := fun e => hX (e ▸ hi)
    rw [if_neg hne] at hb ⊢
    exact hl.box i hi T cs hb
  · -- what was known of the slot is void now
    obtain ⟨β, hi⟩ := hs'
    refine ⟨β, hi.defs, hi.nt, hi.os, hi.tape, hi.output, hi.size, hi.fr, fun t2 v2 hv2 => ?_, hi.obj, hi.dis, hi.own, hi.pin⟩
    by_cases e' : t = t2
    · subst e'
      have hlk : get? (AS.upd σ' o.dst v [(id, .dead)]).env t = some v2 := hv2
      rw [upd_env] at hlk
      by_cases ed : o.dst = some t
      · rw [if_pos ed] at hlk
        exact hi.env t v2 (by rw [upd_env, if_pos ed]; exact hlk)
      · rw [if_neg ed, ht'] at hlk
        injection hlk with hlk
        subst hlk
        obtain ⟨u, q1, q2⟩ := hi.env t (.d (.l xs)) (by rw [upd_env, if_neg ed, get?_cons, if_pos rfl])
        refine ⟨u, q1, fun g2 e2 k2 xs2 hO2 => ?_⟩
        have : get? ((id, AO.dead) :: σ'.objs) id = some (.row g2 e2 k2 xs2) := hO2
        rw [get?_cons, if_pos rfl] at this
        cases this
    · refine hi.env t2 v2 ?_
      rw [upd_env] at hv2 ⊢
      by_cases ed : o.dst = some t2
      · rw [if_pos ed] at hv2 ⊢; exact hv2
      · rw [if_neg ed] at hv2 ⊢
        rw [get?_cons, if_neg e']; exact hv2
end
end Go.Proofs.YtfijmpmojhlnmaaGreatDoor
