/-
  Functions that are handed a function value, and function values that look at a variable of their maker's. No program in sight.
-/
import Derived.Test.YtfijmpmojhlnmaaGreatDoorFnX
namespace Go.Proofs.YtfijmpmojhlnmaaGreatDoor
open Go.RowKit
section
variable {P : Program} {C : Cx} {o : Oper} {σ : AS}
/-- Where K holds of the world: f, called with these data, answers those; it changes nothing that was there. -/
structure FnK (P : Program) (f : FuncId) (K : World → Prop) (args : List DV) (res : List DV) : Prop where
  body : ∃ fn, P.funcs[f]? = some fn ∧ fn.body.isNone = false ∧ (fn.name == "runtime.NumGoroutine") = false
  run : ∀ (S : Nat → Prop) (w : World) (vs : List Value), K w → (∀ b, S b → b < w.heap.size) → RVs S w vs args →
    Calls P f vs.toArray w fun e w' => ∃ v, e = .returned v ∧ Ext w w' ∧ RA (fun b => (S b ∨ w.heap.size ≤ b) ∧ b < w'.heap.size) w' (fun _ => undef) [] v (resAV res)
/-- In this world and in what grows out of it, the function value answers x with the plain value r. -/
def FV (P : Program) (w : World) (u : Value) (x : List DV) (r : Value) : Prop := ∃ g cap, u = .func (.func g) #[] cap ∧ (∃ fn, P.funcs[g]? = some fn ∧ fn.body.isNone = false ∧ (fn.name == "runtime.NumGoroutine") = false) ∧
  ∀ (S : Nat → Prop) (w' : World) (vs : List Value), Ext w w' → (∀ b, S b → b < w'.heap.size) → RVs S w' vs x → Calls P g (vs.toArray ++ cap) w' fun e w2 => e = .returned r ∧ Ext w' w2
/-- A function value's body: called with these data and the address of a variable with these cells it answers the plain value r. -/
structure FnB (P : Program) (g : FuncId) (x : List DV) (cs : List D) (r : Value) : Prop where
  body : ∃ fn, P.funcs[g]? = some fn ∧ fn.body.isNone = false ∧ (fn.name == "runtime.NumGoroutine") = false
  run : ∀ (S : Nat → Prop) (w : World) (vs : List Value) (b : Nat) (us : List Value), (∀ b, S b → b < w.heap.size) → S b → RVs S w vs x → RDs S w us cs → w.rangeAt b 0 us →
    Calls P g (vs ++ [Value.pointer (some ⟨b, 0, none⟩)]).toArray w fun e w' => e = .returned r ∧ Ext w w'
/-- What a variable holds. -/
def boxR (b : Nat) (T : TypeId) (cs : List D) : (Nat → Prop) → World → Prop := fun S w => ∃ us : List Value, w.heap[b]? = some (.cells us.toArray T (0, 0)) ∧ RDs S w us cs
theorem boxR_stable (b : Nat) (T : TypeId) (cs : List D) : RStable (.pointer (some ⟨b, 0, none⟩)) (boxR b T cs) := fun _ _ _ _ ⟨us, h1, h2⟩ hs hb =>
  ⟨us, (hb b rfl).trans h1, h2.keep hs⟩
def boxO (b : Nat) (T : TypeId) (cs : List D) : AO := .own (.pointer (some ⟨b, 0, none⟩)) (boxR b T cs)
/-- The variable's place is told. -/
theorem Chain.pin {E : List (Nat × AV)} {O : List (Nat × AO)} {ops : Array Oper} {fin : List Inf → Prop} {Q : AS → Prop} {rest : List Oper} {T : TypeId} (t id : Nat) (cs : List D) (ht : get? E t = some (.p id 0)) (hO : get? O id = some (.box T (cs.map .d)))
    (h : ∀ b, Chain P C ops fin Q none rest ⟨(t, .d (.v (.pointer (some ⟨b, 0, none⟩)))) :: E, (id, boxO b T cs) :: O⟩) : Chain P C ops fin Q none rest ⟨E, O⟩ := by
  refine .any (fun σ' => ∃ b, σ' = ⟨(t, .d (.v (.pointer (some ⟨b, 0, none⟩)))) :: E, (id, boxO b T cs) :: O⟩) (fun a w ⟨β, hi⟩ => ?_) (by rintro _ ⟨b, rfl⟩; exact h b)
  obtain ⟨b, us, h1, h2, h3, h4, h5⟩ := hi.obj id _ hO
  obtain ⟨u, hu1, hu2⟩ := hi.env t _ ht
  obtain ⟨b', hb1, hu3⟩ := hu2 _ _ hO
  rw [h1] at hb1
  cases hb1
  refine ⟨_, ⟨b, rfl⟩, β, ?_⟩
  have hg : ∀ i o', get? ((id, boxO b T cs) :: O) i = some o' → (i = id ∧ o' = boxO b T cs) ∨ (i ≠ id ∧ get? O i = some o') := fun i o' hi => by
    rw [get?_cons] at hi
    by_cases e : id = i
    · rw [if_pos e] at hi; injection hi with hi; exact .inl ⟨e.symm, hi.symm⟩
    · rw [if_neg e] at hi; exact .inr ⟨Ne.symm e, hi⟩
  have hobj : ∀ i o', get? ((id, boxO b T cs) :: O) i = some o' → ∃ o2, get? O i = some o2 := fun i o' hi => by
    rcases hg i o' hi with ⟨e, _⟩ | ⟨_, h⟩
    · subst e; exact ⟨_, hO⟩
    · exact ⟨_, h⟩
  have hD : ∀ c, Dat C β O w c → Dat C β ((id, boxO b T cs) :: O) w c ∧ w.heap[c]? = w.heap[c]? := fun c hc => ⟨⟨hc.1, hc.2.1, fun i o' hi => by
    obtain ⟨o2, h⟩ := hobj i o' hi
    exact hc.2.2 i o2 h⟩, rfl⟩
  have hA : ∀ {u : Value} {x : AV}, RA (Dat C β O w) w β O u x → RA (Dat C β ((id, boxO b T cs) :: O) w) w β ((id, boxO b T cs) :: O) u x := fun h =>
    h.keep hD (fun i T' cs' hi => by
      rcases hg i _ hi with ⟨_, h2⟩ | ⟨_, h2⟩
      · cases h2
      · exact ⟨⟨T', cs', h2⟩, rfl⟩) (fun i g e k xs hi => by
      rcases hg i _ hi with ⟨_, h2⟩ | ⟨_, h2⟩
      · cases h2
      · exact ⟨g, e, k, xs, h2, Nat.le_refl _, fun _ => ⟨rfl, rfl⟩⟩)
  refine ⟨hi.defs, hi.nt, hi.os, hi.tape, hi.output, hi.size, hi.fr, fun t' v' ht' => ?_, fun i o' hid => ?_, fun i j oi oj c q1 q2 q3 q4 => ?_, fun i oi c q1 q2 => ?_, fun i x o' q1 q2 q3 => ?_⟩
  · simp only [get?_cons] at ht'
    by_cases e : t = t'
    · rw [if_pos e] at ht'
      cases ht'
      exact ⟨u, e ▸ hu1, by rw [hu3]; exact .v rfl⟩
    · rw [if_neg e] at ht'
      obtain ⟨u', p1, p2⟩ := hi.env t' v' ht'
      exact ⟨u', p1, hA p2⟩
  · rcases hg i o' hid with ⟨e, e2⟩ | ⟨_, hid⟩
    · subst e e2
      refine ⟨h1, ⟨us, h2, h3.trans (by simp), fun j hj hj' => ?_⟩, boxR_stable b T cs⟩
      have := h5 j hj (by simpa using hj')
      rw [List.getElem_map] at this
      exact RD.mono this fun c hc => (hD c hc).1
    · have h1 := hi.obj i o' hid
      cases o' with
      | box T2 cs2 =>
        obtain ⟨b2, us2, q1, q2, q3, q4, q5⟩ := h1
        exact ⟨b2, us2, q1, q2, q3, q4, fun j hj hj' => hA (q5 j hj hj')⟩
      | row g e2 k xs =>
        obtain ⟨css, q1, q2, q3, q4⟩ := h1
        exact ⟨css, q1, fun j hj hj' => (q2 j hj hj').mono fun c hc => (hD c hc).1, q3, q4⟩
      | dead => trivial
      | own x R => exact ⟨h1.1, h1.2.2 _ _ _ _ h1.2.1 hD fun _ _ => rfl, h1.2.2⟩
  · obtain ⟨o2, p1⟩ := hobj i oi q1
    obtain ⟨o3, p2⟩ := hobj j oj q2
    exact hi.dis i j o2 o3 c p1 p2 q3 q4
  · obtain ⟨o2, p1⟩ := hobj i oi q1
    exact hi.own i o2 c p1 q2
  · rcases hg _ o' q2 with ⟨e, e2⟩ | ⟨_, q2⟩
    · exact hi.pin i x _ q1 (e ▸ hO) rfl
    · exact hi.pin i x o' q1 q2 q3
/-- A function value made. -/
theorem Loc.mkFn {g : FuncId} {x : Operand} {u : Value} (ho : o.op = .makeFunc (.func g) #[] #[x]) (hx : ev σ x = .d (.v u)) : Loc P C o σ (.d (.v (.func (.func g) #[] #[u]))) :=
  Loc.one (X := x) (by rw [ho]; simp [Op.operands]) hx fun S w β O a h => ⟨.func (.func g) #[] #[u], by unfold execOp; rw [ho]; simp [Instr.makeFunc, RA.val h], .mk rfl⟩
theorem FnB.fv {g : FuncId} {x : List DV} {cs : List D} {r : Value} (h : FnB P g x cs r) {S : Nat → Prop} {w : World} {b : Nat} {T : TypeId} (hb : boxR b T cs S w) (hS : ∀ b, S b → b < w.heap.size) (hlt : b < w.heap.size) : FV P w (.func (.func g) #[] #[Value.pointer (some ⟨b, 0, none⟩)]) x r := by
  obtain ⟨us, h1, h2⟩ := hb
  refine ⟨g, _, rfl, h.body, fun S' w' vs hx hS' hvs => ?_⟩
  have e0 : vs.toArray ++ #[Value.pointer (some ⟨b, 0, none⟩)] = (vs ++ [Value.pointer (some ⟨b, 0, none⟩)]).toArray := by simp
  rw [e0]
  have h1' : w'.heap[b]? = some (.cells us.toArray T (0, 0)) := (hx.block b hlt).trans h1
  refine h.run (fun c => S' c ∨ S c ∨ c = b) w' vs b us (fun c hc => ?_) (.inr (.inr rfl)) ⟨hvs.1, fun i h h' => (hvs.2 i h h').keep fun c hc => ⟨.inl hc, rfl⟩⟩ (h2.keep fun c hc => ⟨.inr (.inl hc), hx.block c (hS c hc)⟩) ?_
  · rcases hc with h | h | h
    · exact hS' c h
    · exact Nat.lt_of_lt_of_le (hS c h) hx.size
    · subst h; exact Nat.lt_of_lt_of_le hlt hx.size
  · have := box_range h1' 0 us.length
    simpa using this
/-- What is called: a function value of which we know what it answers. -/
theorem Loc.callF {u r : Value} {x : List DV} {c : Operand} {xs : Array Operand} {ts : Array TypeId} (hF : FV P C.w0 u x r) (hm : C.m = []) (ho : o.op = .call { callee := .value c, args := xs, argTypes := ts }) (hc : ev σ c = .d (.v u)) (ha : argsOK σ xs.toList x) (hr1 : r.oneCell' = true) : Loc P C o σ (.d (.v r)) := by
  intro σ' hl hd a w K Q' ⟨β, hi⟩ hk
  unfold Oper.wp
  have h0 := hl.ra hi (x := c) (by rw [ho]; simp only [Op.operands, Call.operands]; simp)
  rw [hc] at h0
  obtain ⟨g, cap, hu, ⟨fn, b1, b2, b3⟩, hrun⟩ := hF
  have hx : Ext C.w0 w := ⟨hi.os, hi.tape, hi.output, hi.size, fun k hk => hi.fr k hk (by rintro ⟨_, h, _⟩; rw [hm] at h; cases h)⟩
  have hmem : ∀ x ∈ xs.toList, RA (Dat C β σ'.objs w) w β σ'.objs (a.eval x) (ev σ x) := fun x hx => hl.ra hi (by rw [ho]; simp only [Op.operands, Call.operands]; simp at hx ⊢; exact .inr hx)
  have h1 := argsOK_out (σ := σ) hi hmem ha
  have he : (execOp a.eval o).run P w = .ok (.enter g ((xs.toList.map a.eval).toArray ++ cap)) w := by
    unfold execOp
    rw [ho]
    have h2' : fn.body ≠ none := by
      intro h
      rw [h] at b2
      cases b2
    have h3' : fn.name ≠ "runtime.NumGoroutine" := by simpa using b3
    have hcu : a.eval c = .func (.func g) #[] cap := (RA.val h0).trans hu
    obtain ⟨l⟩ := xs
    simp [resolve, hcu, Deferred.ofValue, invoke, callFunc, b1, h2', h3']
  rw [he]
  refine (hrun (Dat C β σ'.objs w) w _ hx (fun b hb => hb.2.1) h1).mono fun e w' ⟨he, hx'⟩ => ?_
  subst he
  refine hk _ _ ⟨β, ?_⟩
  have hfin := (hi.ext hx').put _ (dstOK.out hd) (u := r) (v := .d (.v r)) (.v hr1)
  cases e : o.dst with
  | none => rw [e] at hfin; exact hfin
  | some d => rw [e] at hfin; exact hfin
/-- A call of a function that wants something of the world. -/
theorem Loc.callW {f : FuncId} {Kw : World → Prop} {args res : List DV} {xs : Array Operand} {ts : Array TypeId} {R : List Nat} (hF : FnK P f Kw args res) (ho : o.op = .call { callee := .value (.func f), args := xs, argTypes := ts }) (ha : argsOK σ xs.toList args) (hK : ∀ σ' β a w, (∀ id, id ∈ R → get? σ'.objs id = get? σ.objs id) → Inv C σ' β a w → Kw w) : Do P C o σ (resAV res) ⟨R, [], [], none⟩ := by
  intro σ' hl hd a w K Q' ⟨β, hi⟩ hk
  unfold Oper.wp
  rw [exec_call hF.body ho rfl]
  have hmem : ∀ x ∈ xs.toList, RA (Dat C β σ'.objs w) w β σ'.objs (a.eval x) (ev σ x) := fun x hx => hl.ra hi (by rw [ho]; simp only [Op.operands, Call.operands]; simp at hx ⊢; exact .inr hx)
  have h1 := argsOK_out (σ := σ) hi hmem ha
  refine (hF.run _ w _ (hK σ' β a w (fun id h => hl.rd id h) hi) (fun b hb => hb.2.1) h1).mono fun e w' ⟨v, he, hx, hv⟩ => ?_
  subst he
  have hfin := (hi.ext hx).put _ (dstOK.out hd) (resAV_sound (xs := res) (RA.same (w' := w') hv fun b hb => ⟨⟨by
    rcases hb.1 with h | h
    · exact h.1
    · exact .inr (.inl (Nat.le_trans hi.size h)), hb.2, fun id o' hid hbl => by
    rcases hb.1 with h | h
    · exact h.2.2 id o' hid hbl
    · have := (hi.own id o' b hid hbl).2; omega⟩, rfl⟩))
  refine hk _ _ ⟨β, ?_⟩
  cases e : o.dst with
  | none => rw [e] at hfin; exact hfin
  | some d => rw [e] at hfin; exact hfin
/-- A function value that looks at a variable whose place is told answers so. -/
theorem FnB.here {g : FuncId} {x : List DV} {cs : List D} {r : Value} (h : FnB P g x cs r) {σ' : AS} {β : Nat → Value} {a : Act} {w : World} (hi : Inv C σ' β a w) {id b : Nat} {T : TypeId} (hO : get? σ'.objs id = some (boxO b T cs)) : FV P w (.func (.func g) #[] #[Value.pointer (some ⟨b, 0, none⟩)]) x r := by
  obtain ⟨h1, h2, _⟩ := hi.obj id _ hO
  exact h.fv (S := Dat C β σ'.objs w) h2 (fun b hb => hb.2.1) (hi.own id _ b hO (by rw [h1]; rfl)).2
theorem Fn.ofAt {f : FuncId} {fn : Func} {c : Code} {args res : List DV} {nt : Nat} {rs : List ResultVar} (hf : P.funcs[f]? = some fn) (hb : fn.body = some c) (hntm : fn.ntmps = nt) (hrs : fn.results = rs.toArray) (hnt : Nat.ble args.length nt = true) (w : World) (S : Nat → Prop)
    (h : AC P ⟨w, S, [], nt⟩ c (Ret P rs res) ⟨entry 0 args, []⟩) : ∀ (vs : List Value), (∀ b, S b → b < w.heap.size) → RVs S w vs args →
    Calls P f vs.toArray w fun e w' => ∃ v, e = .returned v ∧ Ext w w' ∧ RA (fun b => (S b ∨ w.heap.size ≤ b) ∧ b < w'.heap.size) w' (fun _ => undef) [] v (resAV res) := by
  subst hntm
  rw [Nat.ble_eq] at hnt
  have hrs' : fn.results.toList = rs := by rw [hrs]
  intro vs hS hvs
  refine calls_of_wp hf hb ?_
  let C : Cx := ⟨w, S, [], fn.ntmps⟩
  have hst : St C ⟨entry 0 args, []⟩ { tmps := vs.toArray ++ Array.replicate (fn.ntmps - vs.toArray.size) undef, defers := [] } w := by
    refine ⟨fun _ => undef, rfl, ?_, rfl, rfl, rfl, Nat.le_refl _, fun _ _ _ => rfl, fun t v ht => ?_, fun id o h => by simp [get?] at h, fun i j oi oj b h => by simp [get?] at h, fun i oi b h => by simp [get?] at h, fun i x o h => by simp [C] at h⟩
    · simp only [Array.size_append, List.size_toArray, Array.size_replicate]
      rw [hvs.1]
      show args.length + (fn.ntmps - args.length) = fn.ntmps
      omega
    · obtain ⟨j, h1, h2, h3⟩ := entry_get args 0 t v ht
      have hj : j < vs.length := by rw [hvs.1]; exact h2
      have ht' : t = j := by omega
      subst ht'
      refine ⟨vs[t], ?_, ?_⟩
      · rw [Array.getElem?_append_left (by simpa using hj)]
        simp [hj]
      · have := (hvs.2 t hj h2).keep (S' := Dat C (fun _ => undef) [] w) (w' := w) fun b hb => ⟨⟨.inl hb, hS b hb, fun id o h => by simp [get?] at h⟩, rfl⟩
        rw [← h3]
        cases e : args[t] with
        | d c => rw [e] at this; exact this
        | g cs => rw [e] at this; exact this
  refine Code.wp_mono ?_ (h _ w hst)
  rintro e a' w' ⟨σ, h1, β, hi⟩
  have hfin : ressOK P σ rs res → a'.defers = [] ∧ ∃ v, (results fn a'.tmps).run P w' = .ok v w' ∧ ∃ v', Ending.returned v = .returned v' ∧ Ext w w' ∧ RA (fun b => (S b ∨ w.heap.size ≤ b) ∧ b < w'.heap.size) w' (fun _ => undef) [] v' (resAV res) := fun hr => by
    obtain ⟨v, q1, q2⟩ := Ret.run hi (hrs' ▸ hr : ressOK P σ fn.results.toList res)
    refine ⟨hi.defs, v, q1, v, rfl, ⟨hi.os, hi.tape, hi.output, hi.size, fun k hk => hi.fr k hk (by rintro ⟨_, h, _⟩; cases h)⟩, RA.same (w := w') q2 fun b hb => ⟨⟨?_, hb.2⟩, rfl⟩⟩
    rcases hb.1 with h | h | h
    · exact .inl h
    · exact .inr h
    · obtain ⟨_, h, _⟩ := h; cases h
  cases e with
  | ret => exact hfin h1
  | normal => exact hfin h1
  | _ => exact h1.elim
theorem FnK.of {f : FuncId} {fn : Func} {c : Code} {Kw : World → Prop} {args res : List DV} {nt : Nat} {rs : List ResultVar} (hf : P.funcs[f]? = some fn) (hb : fn.body = some c) (hname : (fn.name == "runtime.NumGoroutine") = false) (hntm : fn.ntmps = nt) (hrs : fn.results = rs.toArray) (hnt : Nat.ble args.length nt = true)
    (h : ∀ w0 S0, Kw w0 → AC P ⟨w0, S0, [], nt⟩ c (Ret P rs res) ⟨entry 0 args, []⟩) : FnK P f Kw args res := by
  refine ⟨⟨fn, hf, by rw [hb]; rfl, hname⟩, fun S w vs hK hS hvs => ?_⟩
  exact (Fn.ofAt hf hb hntm hrs hnt w S (h w S hK)) vs hS hvs
theorem FnB.of {g : FuncId} {fn : Func} {c : Code} {x : List DV} {cs : List D} {r : Value} {nt : Nat} {rs : List ResultVar} (hf : P.funcs[g]? = some fn) (hb : fn.body = some c) (hname : (fn.name == "runtime.NumGoroutine") = false) (hntm : fn.ntmps = nt) (hrs : fn.results = rs.toArray) (hnt : Nat.ble (x.length + 1) nt = true)
    (h : ∀ w0 S0, AC P ⟨w0, S0, [], nt⟩ c (Ret P rs [.d (.v r)]) ⟨entry 0 x ++ [(x.length, .q cs)], []⟩) : FnB P g x cs r := by
  subst hntm
  rw [Nat.ble_eq] at hnt
  have hrs' : fn.results.toList = rs := by rw [hrs]
  refine ⟨⟨fn, hf, by rw [hb]; rfl, hname⟩, fun S w vs b us hS hb1 hvs hus hrg => ?_⟩
  refine calls_of_wp hf hb ?_
  let C : Cx := ⟨w, S, [], fn.ntmps⟩
  have hD : ∀ c, S c → Dat C (fun _ => undef) [] w c ∧ w.heap[c]? = w.heap[c]? := fun c hc => ⟨⟨.inl hc, hS c hc, fun id o h => by simp [get?] at h⟩, rfl⟩
  have hst : St C ⟨entry 0 x ++ [(x.length, .q cs)], []⟩ { tmps := (vs ++ [Value.pointer (some ⟨b, 0, none⟩)]).toArray ++ Array.replicate (fn.ntmps - (vs ++ [Value.pointer (some ⟨b, 0, none⟩)]).toArray.size) undef, defers := [] } w := by
    refine ⟨fun _ => undef, rfl, ?_, rfl, rfl, rfl, Nat.le_refl _, fun _ _ _ => rfl, fun t v ht => ?_, fun id o h => by simp [get?] at h, fun i j oi oj b h => by simp [get?] at h, fun i oi b h => by simp [get?] at h, fun i x o h => by simp [C] at h⟩
    · simp only [Array.size_append, List.size_toArray, Array.size_replicate, List.length_append, List.length_cons, List.length_nil]
      rw [hvs.1]
      show x.length + 1 + (fn.ntmps - (x.length + 1)) = fn.ntmps
      omega
    · by_cases h1 : t < x.length
      · rw [entry_app x 0 _ t (by omega) (by omega)] at ht
        obtain ⟨j, e1, h2, h3⟩ := entry_get x 0 t v ht
        obtain rfl : t = j := by omega
        have hj : t < vs.length := by rw [hvs.1]; exact h2
        refine ⟨vs[t], by rw [Array.getElem?_append_left (by simp; omega)]; simp [List.getElem?_append_left hj, hj], ?_⟩
        have := (hvs.2 t hj h2).keep (w' := w) hD
        rw [← h3]
        cases e : x[t] with
        | d c => rw [e] at this; exact this
        | g cs => rw [e] at this; exact this
      · rw [entry_out x 0 _ t (by omega), get?_cons] at ht
        by_cases e0 : x.length = t
        · rw [if_pos e0] at ht
          cases ht
          refine ⟨.pointer (some ⟨b, 0, none⟩), by rw [Array.getElem?_append_left (by simp [hvs.1]; omega)]; simp [← e0, ← hvs.1], b, 0, us, rfl, (hD b hb1).1, hus.keep hD, hrg⟩
        · rw [if_neg e0] at ht; simp [get?] at ht
  refine Code.wp_mono ?_ (h w S _ w hst)
  rintro e a' w' ⟨σ, h1, β, hi⟩
  have hfin : ressOK P σ rs [.d (.v r)] → a'.defers = [] ∧ ∃ v, (results fn a'.tmps).run P w' = .ok v w' ∧ Ending.returned v = .returned r ∧ Ext w w' := fun hr => by
    obtain ⟨v, q1, q2⟩ := Ret.run hi (hrs' ▸ hr : ressOK P σ fn.results.toList [.d (.v r)])
    exact ⟨hi.defs, v, q1, by rw [RA.val q2], ⟨hi.os, hi.tape, hi.output, hi.size, fun k hk => hi.fr k hk (by rintro ⟨_, h, _⟩; cases h)⟩⟩
  cases e with
  | ret => exact hfin h1
  | normal => exact hfin h1
  | _ => exact h1.elim
end
end Go.Proofs.YtfijmpmojhlnmaaGreatDoor
