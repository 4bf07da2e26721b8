/-
  Functions that answer with a row of the caller's own, and functions that write into a row that they are handed. No program in sight.
-/
import Derived.Test.YtfijmpmojhlnmaaGreatDoorWalk
namespace Go.Proofs.YtfijmpmojhlnmaaGreatDoor
open Go.RowKit
section
variable {P : Program} {C : Cx} {o : Oper} {σ : AS}
/-- The function f, called with these data, answers a new row. -/
structure FnRow (P : Program) (f : FuncId) (args : List DV) (e : TypeId) (k : Nat) (xs : List (List D)) : Prop where
  body : ∃ fn, P.funcs[f]? = some fn ∧ fn.body.isNone = false ∧ (fn.name == "runtime.NumGoroutine") = false
  run : ∀ (S : Nat → Prop) (w : World) (vs : List Value), (∀ b, S b → b < w.heap.size) → RVs S w vs args →
    Calls P f vs.toArray w fun ev w' => ∃ v, ev = .returned v ∧ Ext w w' ∧ (∀ b, blk v = some b → w.heap.size ≤ b ∧ b < w'.heap.size) ∧ RO (fun b => ((S b ∨ w.heap.size ≤ b) ∧ b < w'.heap.size) ∧ blk v ≠ some b) w' (fun _ => v) [] 0 (.row 0 e k xs)
/-- The function f, called with a row and these data, leaves that in the row. -/
structure FnS (P : Program) (f : FuncId) (e : TypeId) (k : Nat) (xs : List (List D)) (args : List DV) (Post : List (List D) → Prop) : Prop where
  body : ∃ fn, P.funcs[f]? = some fn ∧ fn.body.isNone = false ∧ (fn.name == "runtime.NumGoroutine") = false
  run : ∀ (S : Nat → Prop) (w : World) (v : Value) (vs : List Value), (∀ b, S b → b < w.heap.size) → (∀ b, blk v = some b → b < w.heap.size ∧ ¬ S b) → RO S w (fun _ => v) [] 0 (.row 0 e k xs) → RVs S w vs args →
    Calls P f (v :: vs).toArray w fun ev w' => ∃ u, ev = .returned u ∧ w'.os = w.os ∧ w'.tape = w.tape ∧ w'.output = w.output ∧ w.heap.size ≤ w'.heap.size ∧ (∀ b, b < w.heap.size → blk v ≠ some b → w'.heap[b]? = w.heap[b]?) ∧ ∃ xs', Post xs' ∧ RO (fun b => ((S b ∨ w.heap.size ≤ b) ∧ b < w'.heap.size) ∧ blk v ≠ some b) w' (fun _ => v) [] 0 (.row 0 e k xs')
theorem RO.row {S S' : Nat → Prop} {w : World} {β β' : Nat → Value} {O O' : List (Nat × AO)} {id id' g g' : Nat} {e : TypeId} {k : Nat} {xs : List (List D)} (h : RO S w β O id (.row g e k xs)) (hb : β' id' = β id) (hs : ∀ b, S b → S' b) : RO S' w β' O' id' (.row g' e k xs) := by
  obtain ⟨css, h1, h2, h3, h4⟩ := h
  exact ⟨css, h1, fun i h h' => (h2 i h h').mono hs, h3, by rw [hb]; exact h4⟩
theorem exec_call {f : FuncId} {a : Act} {w : World} {c : Operand} {xs : Array Operand} {ts : Array TypeId} (hb : ∃ fn, P.funcs[f]? = some fn ∧ fn.body.isNone = false ∧ (fn.name == "runtime.NumGoroutine") = false) (ho : o.op = .call { callee := .value c, args := xs, argTypes := ts }) (hc : a.eval c = .func (.func f) #[] #[]) : (execOp a.eval o).run P w = .ok (.enter f (xs.toList.map a.eval).toArray) w := Loc.callVexec hb ho hc
theorem Do.callRow {f : FuncId} {args : List DV} {e : TypeId} {k d : Nat} {ys : List (List D)} {xs : Array Operand} {ts : Array TypeId} (hF : FnRow P f args e k ys) (ho : o.op = .call { callee := .value (.func f), args := xs, argTypes := ts }) (ha : argsOK σ xs.toList args) (hd : o.dst = some d) :
    Do P C o σ (.r d 0) ⟨[], [], [(d, .row 0 e k ys)], some d⟩ := by
  intro σ' hl hdst a w K Q' ⟨β, hi⟩ hK
  have hn := hl.new d rfl
  unfold Oper.wp
  rw [exec_call hF.body ho rfl]
  have hmem : ∀ x ∈ xs.toList, RA (Dat C β σ'.objs w) w β σ'.objs (a.eval x) (ev σ x) := fun x hx => hl.ra hi (by rw [ho]; simp only [Op.operands, Call.operands]; simp at hx ⊢; exact .inr hx)
  have h1 := argsOK_out (σ := σ) hi hmem ha
  refine (hF.run _ w _ (fun b hb => hb.2.1) h1).mono fun ev' w' ⟨v, he, hx, hblk, hv⟩ => ?_
  subst he
  refine hK _ _ ⟨bset β d v, ?_⟩
  have hbd : bset β d v d = v := by simp [bset]
  have := Inv.put (hi.fresh d (dstOK.out hdst d hd) hn (.row 0 e k ys) hx v hblk (fun hD => hv.row hbd fun b hb => ?_)) (some d) (fun t ht => by cases ht; exact dstOK.out hdst d hd) (v := .r d 0) (u := v) ?_
  · rw [hd]; exact this
  · rcases hb.1.1 with h | h
    · exact (hD b h).1
    · refine ⟨.inr (.inl (Nat.le_trans hi.size h)), hb.1.2, fun id o' hid => ?_⟩
      rw [get?_cons] at hid
      by_cases e : d = id
      · rw [← e, hbd]; exact hb.2
      · rw [if_neg e] at hid
        simp only [bset, if_neg (Ne.symm e)]
        intro e2
        have := (hi.own id o' b hid e2).2
        omega
  · intro g' e2 k2 xs2 h4
    rw [get?_cons, if_pos rfl] at h4
    cases h4
    exact ⟨Nat.le_refl _, fun _ => hbd.symm⟩
theorem Chain.callS {E : List (Nat × AV)} {O : List (Nat × AO)} {ops : Array Oper} {fin : List Inf → Prop} {K : AS → Prop} {rest : List Oper} {d : Nat} {f : FuncId} {args : List DV} {e : TypeId} {k g id : Nat} {zs : List (List D)} {Post : List (List D) → Prop} {x : Operand} {xs : List Operand} {ts : Array TypeId} (hg : o.guard = none) (hd : o.dst = some d) (hF : FnS P f e k zs args Post) (ho : o.op = .call { callee := .value (.func f), args := ⟨x :: xs⟩, argTypes := ts }) (hx : ev ⟨E, O⟩ x = .r id g) (hO : get? O id = some (.row g e k zs)) (ha : argsOK ⟨E, O⟩ xs args)
    (h : ∀ zs', Post zs' → Chain P C ops fin K none rest ⟨(d, .un) :: E, (id, .row g e k zs') :: O⟩) : Chain P C ops fin K none (o :: rest) ⟨E, O⟩ := by
  refine .eff (fun σ' => ∃ zs', Post zs' ∧ σ' = ⟨(d, .un) :: E, (id, .row g e k zs') :: O⟩) hg (fun hdst a w K Q' ⟨β, hi⟩ hK => ?_) (by rintro _ ⟨zs', h1, rfl⟩; exact h zs' h1)
  unfold Oper.wp
  rw [exec_call hF.body ho rfl]
  have hmem : ∀ y ∈ x :: xs, RA (Dat C β O w) w β O (a.eval y) (ev ⟨E, O⟩ y) := fun y _ => hi.ev y
  have hx1 := hmem x (by simp)
  rw [hx] at hx1
  have hu := (hx1 g e k zs hO).2 rfl
  have h1 := argsOK_out (σ := ⟨E, O⟩) hi (fun y hy => hmem y (by simp [hy])) ha
  have hO1 := hi.obj id _ hO
  have e0 : ((x :: xs).map a.eval).toArray = (β id :: xs.map a.eval).toArray := by rw [List.map_cons, hu]
  show Calls _ _ ((x :: xs).map a.eval).toArray _ _
  rw [e0]
  refine (hF.run (Dat C β O w) w (β id) _ (fun b hb => hb.2.1) (fun b hb => ⟨(hi.own id _ b hO hb).2, fun h => h.2.2 id _ hO hb⟩) (hO1.row rfl fun _ h => h) h1).mono fun ev' w' ⟨u, he, h2, h3, h4, h5, h6, zs', hp, h7⟩ => ?_
  subst he
  refine hK _ _ _ ⟨zs', hp, rfl⟩ ⟨bset β id (β id), ?_⟩
  have hb1 : bset β id (β id) id = β id := by simp [bset]
  have := (hi.upd id (.row g e k zs) (.row g e k zs') hO (β id) h2 h3 h4 h5 h6 (fun b hb => ⟨.inl hb, Nat.lt_of_lt_of_le (hi.own id _ b hO hb).2 h5⟩) ⟨Nat.le_refl _, fun _ => ⟨rfl, rfl⟩⟩ fun hD _ => h7.row hb1 fun b hb => ?_).putUn o.dst (dstOK.out hdst) u
  · rw [hd] at this ⊢
    exact this
  · rcases hb.1.1 with h | h
    · exact (hD b h).1
    · refine ⟨.inr (.inl (Nat.le_trans hi.size h)), hb.1.2, fun i oi hid => ?_⟩
      rw [get?_cons] at hid
      by_cases e : id = i
      · rw [← e, hb1]; exact hb.2
      · rw [if_neg e] at hid
        simp only [bset, if_neg (Ne.symm e)]
        intro e2
        have := (hi.own i oi b hid e2).2
        omega
theorem Loc.callV {f : FuncId} {args res : List DV} {c : Operand} {xs : Array Operand} {ts : Array TypeId} (hF : Fn P f args res) (ho : o.op = .call { callee := .value c, args := xs, argTypes := ts }) (hc : ev σ c = .d (.v (.func (.func f) #[] #[]))) (ha : argsOK σ xs.toList args) : Loc P C o σ (resAV res) := by
  intro σ' hl hd a w K Q' ⟨β, hi⟩ hk
  unfold Oper.wp
  have h0 := hl.ra hi (x := c) (by rw [ho]; simp only [Op.operands, Call.operands]; simp)
  rw [hc] at h0
  rw [exec_call hF.body ho (RA.val h0)]
  have hmem : ∀ x ∈ xs.toList, RA (Dat C β σ'.objs w) w β σ'.objs (a.eval x) (ev σ x) := fun x hx => hl.ra hi (by rw [ho]; simp only [Op.operands, Call.operands]; simp at hx ⊢; exact .inr hx)
  have h1 := argsOK_out (σ := σ) hi hmem ha
  refine (hF.run _ w _ (fun b hb => hb.2.1) h1).mono fun e w' ⟨v, he, hx, hv⟩ => ?_
  subst he
  have hfin := (hi.ext hx).put _ (dstOK.out hd) (resAV_sound (xs := res) (RA.same (w' := w') hv fun b hb => ⟨⟨by
    rcases hb.1 with h | h
    · exact h.1
    · exact .inr (.inl (Nat.le_trans hi.size h)), hb.2, fun id o' hid hbl => by
    rcases hb.1 with h | h
    · exact h.2.2 id o' hid hbl
    · have := (hi.own id o' b hid hbl).2; omega⟩, rfl⟩))
  refine hk _ _ ⟨β, ?_⟩
  cases e : o.dst with
  | none => rw [e] at hfin; exact hfin
  | some d => rw [e] at hfin; exact hfin
theorem Loc.callVD {f : FuncId} {args : List DV} {d : D} {c : Operand} {xs : Array Operand} {ts : Array TypeId} (hF : Fn P f args [.d d]) (ho : o.op = .call { callee := .value c, args := xs, argTypes := ts }) (hc : ev σ c = .d (.v (.func (.func f) #[] #[]))) (ha : argsOK σ xs.toList args) : Loc P C o σ (.d d) := Loc.callV hF ho hc ha
/-! ### a function's beginning and end -/
def RetRow (rs : List ResultVar) (e : TypeId) (k : Nat) (xs : List (List D)) : Exit → AS → Prop
  | .ret, σ => ∃ t id g, rs = [.tmp t] ∧ get? σ.env t = some (.r id g) ∧ get? σ.objs id = some (.row g e k xs)
  | .normal, σ => ∃ t id g, rs = [.tmp t] ∧ get? σ.env t = some (.r id g) ∧ get? σ.objs id = some (.row g e k xs)
  | _, _ => False
def RetS (nt : Nat) (e : TypeId) (k : Nat) (Post : List (List D) → Prop) : Exit → AS → Prop
  | .ret, σ => ∃ xs, Post xs ∧ get? σ.objs nt = some (.row 0 e k xs)
  | .normal, σ => ∃ xs, Post xs ∧ get? σ.objs nt = some (.row 0 e k xs)
  | _, _ => False
theorem FnRow.of {f : FuncId} {fn : Func} {c : Code} {args : List DV} {e : TypeId} {k : Nat} {xs : List (List D)} {nt : Nat} {rs : List ResultVar} (hf : P.funcs[f]? = some fn) (hb : fn.body = some c) (hname : (fn.name == "runtime.NumGoroutine") = false) (hntm : fn.ntmps = nt) (hrs : fn.results = rs.toArray) (hnt : Nat.ble args.length nt = true)
    (h : ∀ w0 S0, AC P ⟨w0, S0, [], nt⟩ c (RetRow rs e k xs) ⟨entry 0 args, []⟩) : FnRow P f args e k xs := by
  subst hntm
  rw [Nat.ble_eq] at hnt
  refine ⟨⟨fn, hf, by rw [hb]; rfl, hname⟩, fun S w vs hS hvs => ?_⟩
  refine calls_of_wp hf hb ?_
  let C : Cx := ⟨w, S, [], fn.ntmps⟩
  have hst : St C ⟨entry 0 args, []⟩ { tmps := vs.toArray ++ Array.replicate (fn.ntmps - vs.toArray.size) undef, defers := [] } w := by
    refine ⟨fun _ => undef, rfl, ?_, rfl, rfl, rfl, Nat.le_refl _, fun _ _ _ => rfl, fun t v ht => ?_, fun id o h => by simp [get?] at h, fun i j oi oj b h => by simp [get?] at h, fun i oi b h => by simp [get?] at h, fun i x o h => by simp [C] at h⟩
    · simp only [Array.size_append, List.size_toArray, Array.size_replicate]
      rw [hvs.1]
      show args.length + (fn.ntmps - args.length) = fn.ntmps
      omega
    · obtain ⟨j, h1, h2, h3⟩ := entry_get args 0 t v ht
      have hj : j < vs.length := by rw [hvs.1]; exact h2
      have ht' : t = j := by omega
      subst ht'
      refine ⟨vs[t], ?_, ?_⟩
      · rw [Array.getElem?_append_left (by simpa using hj)]
        simp [hj]
      · have := (hvs.2 t hj h2).keep (S' := Dat C (fun _ => undef) [] w) (w' := w) fun b hb => ⟨⟨.inl hb, hS b hb, fun id o h => by simp [get?] at h⟩, rfl⟩
        rw [← h3]
        cases e : args[t] with
        | d c => rw [e] at this; exact this
        | g cs => rw [e] at this; exact this
  refine Code.wp_mono ?_ (h w S _ w hst)
  rintro ee a' w' ⟨σ, h1, β, hi⟩
  have hfin : (∃ t id g, rs = [.tmp t] ∧ get? σ.env t = some (.r id g) ∧ get? σ.objs id = some (.row g e k xs)) → a'.defers = [] ∧ ∃ v, (results fn a'.tmps).run P w' = .ok v w' ∧ ∃ v', Ending.returned v = .returned v' ∧ Ext w w' ∧ (∀ b, blk v' = some b → w.heap.size ≤ b ∧ b < w'.heap.size) ∧ RO (fun b => ((S b ∨ w.heap.size ≤ b) ∧ b < w'.heap.size) ∧ blk v' ≠ some b) w' (fun _ => v') [] 0 (.row 0 e k xs) := by
    rintro ⟨t, id, g, q1, q2, q3⟩
    obtain ⟨u, p1, p2⟩ := hi.env _ _ q2
    have p3 := (p2 _ _ _ _ q3).2 rfl
    have hM : ∀ b, ¬ Cx.M C b := fun b hm => by obtain ⟨_, h, _⟩ := hm; cases h
    refine ⟨hi.defs, u, ?_, u, rfl, ⟨hi.os, hi.tape, hi.output, hi.size, fun k hk => hi.fr k hk (hM k)⟩, fun b hb => ?_, (hi.obj id _ q3).row p3 fun b hb => ⟨⟨?_, hb.2.1⟩, ?_⟩⟩
    · rw [results_eq, hrs, q1]
      simp [resM, Array.getD_eq_getD_getElem?, p1]
    · have := hi.own id _ b q3 (by rw [← p3]; exact hb)
      rcases this.1 with h | h
      · exact (hM b h).elim
      · exact ⟨h, this.2⟩
    · rcases hb.1 with h | h | h
      · exact .inl h
      · exact .inr h
      · exact (hM b h).elim
    · rw [p3]; exact hb.2.2 id _ q3
  cases ee with
  | ret => exact hfin h1
  | normal => exact hfin h1
  | _ => exact h1.elim
theorem FnS.of {f : FuncId} {fn : Func} {c : Code} {args : List DV} {e : TypeId} {k : Nat} {xs : List (List D)} {Post : List (List D) → Prop} {nt : Nat} (hf : P.funcs[f]? = some fn) (hb : fn.body = some c) (hname : (fn.name == "runtime.NumGoroutine") = false) (hntm : fn.ntmps = nt) (hrs : fn.results = #[]) (hnt : Nat.ble (args.length + 1) nt = true)
    (h : ∀ w0 S0 v, AC P ⟨w0, S0, [v], nt⟩ c (RetS nt e k Post) ⟨(0, .r nt 0) :: entry 1 args, [(nt, .row 0 e k xs)]⟩) : FnS P f e k xs args Post := by
  subst hntm
  rw [Nat.ble_eq] at hnt
  refine ⟨⟨fn, hf, by rw [hb]; rfl, hname⟩, fun S w v vs hS hv hRO hvs => ?_⟩
  refine calls_of_wp hf hb ?_
  let C : Cx := ⟨w, S, [v], fn.ntmps⟩
  have hM : ∀ b, Cx.M C b ↔ blk v = some b := fun b => ⟨fun ⟨x, h1, h2⟩ => by rw [List.mem_singleton.1 h1] at h2; exact h2, fun h => ⟨v, List.mem_singleton.2 rfl, h⟩⟩
  have hdat : ∀ b, S b → Dat C (fun _ => v) [(fn.ntmps, .row 0 e k xs)] w b := fun b hb => ⟨.inl hb, hS b hb, fun id o h e2 => (hv b e2).2 hb⟩
  have hst : St C ⟨(0, .r fn.ntmps 0) :: entry 1 args, [(fn.ntmps, .row 0 e k xs)]⟩ { tmps := (v :: vs).toArray ++ Array.replicate (fn.ntmps - (v :: vs).toArray.size) undef, defers := [] } w := by
    refine ⟨fun _ => v, rfl, ?_, rfl, rfl, rfl, Nat.le_refl _, fun _ _ _ => rfl, fun t u ht => ?_, fun id o h => ?_, fun i j oi oj b h h2 => ?_, fun i oi b h h2 => ⟨.inl ((hM b).2 h2), (hv b h2).1⟩, fun i x o h => ?_⟩
    · simp only [Array.size_append, List.size_toArray, Array.size_replicate, List.length_cons]
      rw [hvs.1]
      show args.length + 1 + (fn.ntmps - (args.length + 1)) = fn.ntmps
      omega
    · rw [get?_cons] at ht
      by_cases e0 : 0 = t
      · subst e0
        rw [if_pos rfl] at ht
        cases ht
        refine ⟨v, by rw [Array.getElem?_append_left (by simp)]; simp, fun g' e2 k2 xs2 hO => ?_⟩
        rw [get?_cons, if_pos rfl] at hO
        cases hO
        exact ⟨Nat.le_refl _, fun _ => rfl⟩
      · rw [if_neg e0] at ht
        obtain ⟨j, h1, h2, h3⟩ := entry_get args 1 t u ht
        have hj : j < vs.length := by rw [hvs.1]; exact h2
        have ht' : t = j + 1 := by omega
        subst ht'
        refine ⟨vs[j], ?_, ?_⟩
        · rw [Array.getElem?_append_left (by simpa using hj)]
          simp [hj]
        · have := (hvs.2 j hj h2).keep (w' := w) fun b hb => ⟨hdat b hb, rfl⟩
          rw [← h3]
          cases e : args[j] with
          | d c => rw [e] at this; exact this
          | g cs => rw [e] at this; exact this
    · rw [get?_cons] at h
      by_cases e0 : fn.ntmps = id
      · rw [if_pos e0] at h
        cases h
        exact hRO.row rfl hdat
      · rw [if_neg e0] at h; simp [get?] at h
    · rw [get?_cons] at h h2
      by_cases e1 : fn.ntmps = i
      · by_cases e2 : fn.ntmps = j
        · intros; omega
        · rw [if_neg e2] at h2; simp [get?] at h2
      · rw [if_neg e1] at h; simp [get?] at h
    · intro _ _
      cases i with
      | zero => simp [C] at h; exact h
      | succ i => simp [C] at h
  refine Code.wp_mono ?_ (h w S v _ w hst)
  rintro ee a' w' ⟨σ, h1, β, hi⟩
  have hfin : (∃ xs', Post xs' ∧ get? σ.objs fn.ntmps = some (.row 0 e k xs')) → a'.defers = [] ∧ ∃ v1, (results fn a'.tmps).run P w' = .ok v1 w' ∧ ∃ u, Ending.returned v1 = .returned u ∧ w'.os = w.os ∧ w'.tape = w.tape ∧ w'.output = w.output ∧ w.heap.size ≤ w'.heap.size ∧ (∀ b, b < w.heap.size → blk v ≠ some b → w'.heap[b]? = w.heap[b]?) ∧ ∃ xs', Post xs' ∧ RO (fun b => ((S b ∨ w.heap.size ≤ b) ∧ b < w'.heap.size) ∧ blk v ≠ some b) w' (fun _ => v) [] 0 (.row 0 e k xs') := fun ⟨xs', hP, hO⟩ => by
    have hp : v = β fn.ntmps := (hi.pin 0 v _ rfl hO rfl).symm
    refine ⟨hi.defs, .tuple #[], ?_, _, rfl, hi.os, hi.tape, hi.output, hi.size, fun b hb hne => hi.fr b hb (fun h => hne ((hM b).1 h)), xs', hP, (hi.obj _ _ hO).row hp fun b hb => ⟨⟨?_, hb.2.1⟩, ?_⟩⟩
    · rw [results_eq, hrs]
      simp
    · rcases hb.1 with h | h | h
      · exact .inl h
      · exact .inr h
      · exact (hb.2.2 _ _ hO (by rw [← hp]; exact (hM b).1 h)).elim
    · rw [hp]; exact hb.2.2 _ _ hO
  cases ee with
  | ret => exact hfin h1
  | normal => exact hfin h1
  | _ => exact h1.elim
/-! ### a slice that may be nil, asked whether it is -/
theorem Chain.eqN {E : List (Nat × AV)} {O : List (Nat × AO)} {ops : Array Oper} {fin : List Inf → Prop} {K : AS → Prop} {rest : List Oper} {d t : Nat} {T T' : TypeId} {xs : List (List D)} {e : TypeId} {k by_ : Nat} (hg : o.guard = none) (hd : o.dst = some d) (ho : o.op = .binOp .eql T (.tmp t) (.const (.slice none 0 0)) T') (ht : get? E t = some (.d (.l xs))) [hS : Sl P T e k by_]
    (h1 : xs = [] → ∀ u, Chain P C ops fin K none rest ⟨(d, .d (.v (.bool true))) :: (t, .d (.v u)) :: E, O⟩) (h2 : ∀ u, Chain P C ops fin K none rest ⟨(d, .d (.v (.bool false))) :: (t, .d (.v u)) :: E, O⟩) : Chain P C ops fin K none (o :: rest) ⟨E, O⟩ := by
  refine .any (fun σ' => ∃ a n c, σ' = ⟨(t, .d (.v (.slice a n c))) :: E, O⟩ ∧ (a = none → xs = [])) (fun a w ⟨β, hi⟩ => ?_) ?_
  · obtain ⟨u, q1, q2⟩ := hi.env t _ ht
    have q3 : RD (Dat C β O w) w u (.l xs) := q2
    obtain ⟨ad, n, c, rfl, q4⟩ : ∃ ad n c, u = .slice ad n c ∧ (ad = none → xs = []) := by
      cases q3 with
      | @l ad n c _ k us hn hc hm hk ha he =>
        refine ⟨ad, n, c, rfl, fun h => ?_⟩
        subst h
        by_cases h0 : 0 < n
        · obtain ⟨b, o, h, _⟩ := ha h0
          cases h
        · exact List.length_eq_zero_iff.1 (by omega)
    refine ⟨_, ⟨ad, n, c, rfl, q4⟩, β, hi.defs, hi.nt, hi.os, hi.tape, hi.output, hi.size, hi.fr, fun t2 v2 hv2 => ?_, hi.obj, hi.dis, hi.own, hi.pin⟩
    rw [get?_cons] at hv2
    by_cases e' : t = t2
    · subst e'
      rw [if_pos rfl] at hv2
      cases hv2
      exact ⟨_, q1, .v rfl⟩
    · rw [if_neg e'] at hv2
      exact hi.env t2 v2 hv2
  · rintro _ ⟨ad, n, c, rfl, q4⟩
    have hgo : gst ops ⟨(t, .d (.v (.slice ad n c))) :: E, O⟩ o = some true := by unfold gst; rw [hg]
    have hL : Loc P C o ⟨(t, .d (.v (.slice ad n c))) :: E, O⟩ (.d (.v (.bool ad.isNone))) := by
      refine Loc.one (X := .tmp t) (x := .d (.v (.slice ad n c))) (by rw [ho]; simp [Op.operands]) (by simp [ev, get?_cons]) fun S w β O' a h => ?_
      refine ⟨.bool ad.isNone, ?_, .mk rfl⟩
      unfold execOp; rw [ho]
      have h0 := RA.val h
      have hgu : (eqGuard .eql T (.tmp t) (.const (.slice none 0 0)) (.slice ad n c) (.slice none 0 0)).run P w = .ok () w := by unfold eqGuard; simp
      have hbi : (binOp .eql T (.slice ad n c) (.slice none 0 0)).run P w = .ok (.bool ad.isNone) w := by
        have hq : (Op.equalIn (9999 + 1) T (.slice ad n c) (.slice none 0 0)).run P w = .ok ad.isNone w := by
          unfold Op.equalIn
          rw [Sem.run_bind, run_underlying hS.e.under]
          cases ad <;> simp [Result.andThen_ok]
        simp only [binOp, Op.equal, Op.maxDepth, Sem.run_bind, hq, Result.andThen_ok]
        rfl
      have h1 : a.eval (.const (.slice none 0 0)) = .slice none 0 0 := rfl
      simp [h0, h1, hgu, hbi]
    cases ad with
    | none => exact .go hgo hd hL (h1 (q4 rfl) _)
    | some ad => exact .go hgo hd hL (h2 _)
/-! ### numbers of other kinds -/
theorem Loc.conv {T T' : TypeId} {x : Operand} {k k' : IntKind} {n m : Int} (ho : o.op = .convert T T' x) (hx : ev σ x = .d (.v (.int k n))) [h : It P T k] [h' : It P T' k'] (hw : k'.wrap n = m) : Loc P C o σ (.d (.v (.int k' m))) :=
  Loc.one (by rw [ho]; simp [Op.operands]) hx fun S w β O a h1 => by
    refine ⟨.int k' m, ?_, .mk rfl⟩
    unfold execOp; rw [ho]
    have e1 : (convert T T' (.int k n)).run P w = .ok (.int k' m) w := by
      unfold convert
      rw [Sem.run_bind, run_underlying h.u, Result.andThen_ok, Sem.run_bind, run_underlying h'.u, Result.andThen_ok]
      simp [Conv.intToInt, hw]
    simp [RA.val h1, e1]
theorem Loc.shr1 {T T' : TypeId} {x y : Operand} {k : IntKind} {n : Int} (ho : o.op = .binOp .shr T x y T') (hx : ev σ x = .d (.v (.int k n))) (hy : ev σ y = .d (.v (.int k 1))) : Loc P C o σ (.d (.v (.int k (n / 2)))) :=
  Loc.bin ho hx hy (fun w => by
    have : n.fdiv 2 = n / 2 := Int.fdiv_eq_ediv_of_nonneg _ (by omega)
    cases k <;> simp [binOp, Op.shift, IntKind.bits, this]) rfl
theorem wrap_u64 {n : Int} (h : 0 ≤ n) (h2 : n < 18446744073709551616) : IntKind.wrap .u64 n = n := by
  simp [IntKind.wrap, IntKind.bits, IntKind.signed]
  omega
/-! ### whole elements of a row -/
theorem Loc.loadEw {T : TypeId} {x : Operand} {id g idx k : Nat} {e : TypeId} {xs : List (List D)} {cs : List D} {n : Nat} (ho : o.op = .load T x) (hx : ev σ x = .e id g idx 0) (hO : get? σ.objs id = some (.row g e k xs)) [h : Sz P T true n] (hi : xs[idx]? = some cs ∧ cs.length = 4) (hn : 4 = n) : LocR P C o σ (.g cs) id :=
  Loc.loadEn ho hx hO hi.1 (by simp [hi.2, hn, List.take_of_length_le]) (by rw [hi.2, hn])
theorem splice_whole {α : Type} {cs ds : List α} (h : cs.length = ds.length) : splice cs 0 ds = ds := by
  unfold splice
  rw [List.drop_eq_nil_of_le (by omega)]
  simp
theorem Do.storeEw {T : TypeId} {x y : Operand} {id g idx k n : Nat} {e : TypeId} {xs : List (List D)} {ds : List D} (ho : o.op = .store T x y) (hx : ev σ x = .e id g idx 0) (hO : get? σ.objs id = some (.row g e k xs)) (hi : ∃ cs, xs[idx]? = some cs ∧ cs.length = 4) (hy : ev σ y = .g ds) (hfg : ds.map D.fg = ds ∧ ds.length = 4) [h : Sz P T true n] (hn : 4 = n) (hk : n = k) (hd : o.dst = none) :
    Do P C o σ .un ⟨[id], [], [(id, .row g e k (xs.set idx ds))], none⟩ := by
  obtain ⟨cs, h1, h2⟩ := hi
  have := Do.storeE (P := P) (C := C) (T := T) (n := n) (h := h) (off := 0) ho hx hO h1 hy rfl (by rw [← hn]; exact hfg.2) (by rw [Nat.ble_eq]; omega) hd
  rw [hfg.1, splice_whole (by rw [h2, hfg.2])] at this
  exact this
/-- Where two roads meet. -/
theorem AC.join {X : Type} {c c2 : Code} {Q : Exit → AS → Prop} (F : X → AS) (I : X → Prop) (h : AC P C c (AThen (fun σ' => ∃ x, I x ∧ subEnv σ'.env (F x).env ∧ subObj σ'.objs (F x).objs) Q) σ) (h2 : ∀ x, I x → AC P C c2 Q (F x)) : AC P C c (AThen (AC P C c2 Q) Q) σ :=
  h.mono fun e σ' hq => by
    cases e with
    | normal =>
      obtain ⟨x, h3, h4, h5⟩ := hq
      exact .weak _ (fun _ _ hs => hs.sub h4 h5) (h2 x h3)
    | _ => exact hq
end
end Go.Proofs.YtfijmpmojhlnmaaGreatDoor
